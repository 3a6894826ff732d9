/- Blocks of one proof, laid one behind the other by a program (merge2.py). -/
import Derived.Test.YtcoflhkcpnoaaaaGreatDoorM14
import Derived.MapKept
import Derived.Carry
import Derived.Laws.Cover3
set_option linter.unusedSimpArgs false
set_option linter.unusedVariables false
namespace Go.AI
def fAsk {α : Type} [DecidableEq α] (a : α) : List α → List MapEntry → Nat → Option (Nat × Value)
  | k :: ks, e :: es, i => if a = k then some (i, e.val) else fAsk a ks es (i + 1)
  | _, _, _ => none
structure KeyOk (P : Program) (kt : TypeId) {α : Type} [DecidableEq α] (K : α → Value) : Prop where
  check : ∀ b a w, (Instr.checkKey b 10000 kt (K a)).run P w = .ok () w
  find : ∀ (a : α) (ks : List α) (es : List MapEntry) w, es.map (·.key) = ks.map K → (Instr.findKey kt (K a) es).run P w = .ok (fAsk a ks es 0) w
section
variable {P : Program}
theorem run_findAsking {α : Type} [DecidableEq α] {K : α → Value} {kt : TypeId} (heq : ∀ a b w, (Op.equal kt (K a) (K b)).run P w = .ok (decide (a = b)) w) (a : α) : ∀ (ks : List α) (es : List MapEntry) (i : Nat) (w : World), es.map (·.key) = ks.map K → (Instr.findAsking kt (K a) es i).run P w = .ok (fAsk a ks es i) w
  | [], [], i, w, _ => by simp [Instr.findAsking, fAsk]
  | k :: ks, e :: es, i, w, h => by
    simp only [List.map_cons, List.cons.injEq] at h
    simp only [Instr.findAsking, fAsk, Sem.run_bind, h.1, heq, Result.andThen_ok]
    by_cases hk : a = k
    · simp [hk]
    · simp only [hk, decide_false, Bool.false_eq_true, if_false]
      exact run_findAsking heq a ks es (i + 1) w h.2
  | [], e :: es, i, w, h => by simp at h
  | k :: ks, [], i, w, h => by simp at h
def keyZ (ns : List Int) : Value := .agg (ns.map (Value.int .i64)).toArray
theorem run_checkFields {n : Nat} {ns : List Int} (w : World) (b : Bool) : ∀ (fs : List Field) (k : Nat), (fs.zipIdx k).all (fun p => p.1.name != "_" && p.1.offset == p.2 && (tInt P p.1.type).isSome) = true → k + fs.length ≤ ns.length →
    (forIn fs PUnit.unit (fun f (_ : PUnit) => (do
      if f.name ≠ "_" then
        let __do_lift ← part f.type (ns.map (Value.int .i64)).toArray f.offset
        Instr.checkKey b (n + 1) f.type __do_lift
      pure (ForInStep.yield PUnit.unit) : Sem (ForInStep PUnit)))).run P w = .ok PUnit.unit w
  | [], k, _, _ => by simp
  | f :: fs, k, hf, hk => by
    simp only [List.zipIdx_cons, List.all_cons, Bool.and_eq_true, bne_iff_ne, ne_eq, beq_iff_eq] at hf
    obtain ⟨⟨⟨hn, ho⟩, hi⟩, hr⟩ := hf
    simp only [List.length_cons] at hk
    have hka : k < ns.length := by omega
    obtain ⟨kk, hkk⟩ := Option.isSome_iff_exists.1 hi
    have hu := tInt_spec hkk
    have hag : (isAgg f.type).run P w = .ok false w := by simp [isAgg, run_underlying hu]
    have e1 : (ns.map (Value.int .i64)).toArray[k]? = some (Value.int .i64 (ns[k])) := by simp [hka]
    have p1 : (part f.type (ns.map (Value.int .i64)).toArray f.offset).run P w = .ok (.int .i64 (ns[k])) w := by
      unfold part
      simp only [Sem.run_bind, hag, Result.andThen_ok, Bool.false_eq_true, if_false, ho, e1, Sem.run_pure]
    have p2 : (Instr.checkKey b (n + 1) f.type (.int .i64 (ns[k]))).run P w = .ok () w := by
      simp [Instr.checkKey, run_underlying hu]
    have ih := run_checkFields (n := n) (ns := ns) w b fs (k + 1) (by simpa using hr) (by omega)
    rw [List.forIn_cons]
    simp only [hn, not_false_eq_true, if_true, Sem.run_bind, p1, p2, Result.andThen_ok, Sem.run_pure, ne_eq]
    exact ih
theorem keyZ_ok {kt n : Nat} (ht : tEqS P kt = some n) : KeyOk P kt (fun ns : { l : List Int // l.length = n } => keyZ ns.1) := by
  have hstr : P.underlying kt = some (.struct (P.fieldsOf kt)) ∧ (P.fieldsOf kt).toList.zipIdx.all (fun p => p.1.name != "_" && p.1.offset == p.2 && (tInt P p.1.type).isSome) = true ∧ (P.fieldsOf kt).size = n := by
    unfold tEqS at ht
    split at ht
    · rename_i hc
      simp only [Bool.and_eq_true, Bool.not_eq_true'] at hc
      obtain ⟨⟨⟨h1, h2⟩, h3⟩, h4⟩ := hc
      injection ht with ht
      exact ⟨isStr_spec h4, h3, ht⟩
    · cases ht
  obtain ⟨hu, hf, hs⟩ := hstr
  have heq : ∀ (a b : { l : List Int // l.length = n }) (w : World), (Op.equal kt (keyZ a.1) (keyZ b.1)).run P w = .ok (decide (a = b)) w := fun a b w => by
    have := (tEqS_run ht a.2 b.2 w).1
    unfold Op.equal Op.maxDepth keyZ
    rw [this, eqZ_eq]
    congr 1
    rw [Bool.eq_iff_iff]; simp [Subtype.ext_iff]
  refine ⟨fun b a w => ?_, fun a ks es w h => ?_⟩
  · unfold keyZ
    rw [show (10000 : Nat) = 9999 + 1 from rfl, Instr.checkKey]
    simp only [Sem.run_bind, run_underlying hu, Result.andThen_ok]
    rw [← Array.forIn_toList]
    have := run_checkFields (P := P) (n := 9998) (ns := a.1) w b (P.fieldsOf kt).toList 0 hf (by simp [hs, a.2])
    rw [this]
    rfl
  · unfold Instr.findKey
    simp only [Sem.run_bind, run_underlying hu, Result.andThen_ok]
    cases es with
    | nil =>
      cases ks with
      | nil => simp [Instr.findNow, fAsk]
      | cons k ks => simp at h
    | cons e es =>
      have hn : Instr.findNow (.struct (P.fieldsOf kt)) (keyZ a.1) (e :: es) 0 = none := by
        simp [Instr.findNow, Instr.sameNow]
      rw [hn]
      exact run_findAsking heq a ks (e :: es) 0 w h
def MapI {α : Type} (K : α → Value) (kv : List (α × Value)) (o : Obj) : Prop := ∃ es c, o = .map es c ∧ es.toList.map (fun e => (e.key, e.val)) = kv.map (fun p => (K p.1, p.2))
def kvGet {α : Type} [DecidableEq α] (a : α) : List (α × Value) → Option Value
  | [] => none
  | p :: kv => if a = p.1 then some p.2 else kvGet a kv
theorem fAsk_get {α : Type} [DecidableEq α] {K : α → Value} (a : α) : ∀ (kv : List (α × Value)) (es : List MapEntry) (i : Nat), es.map (fun e => (e.key, e.val)) = kv.map (fun p => (K p.1, p.2)) → (fAsk a (kv.map (·.1)) es i).map (·.2) = kvGet a kv
  | [], [], i, _ => rfl
  | p :: kv, e :: es, i, h => by
    simp only [List.map_cons, List.cons.injEq, Prod.mk.injEq] at h
    simp only [List.map_cons, fAsk, kvGet]
    split
    · simp [h.1.2]
    · exact fAsk_get a kv es (i + 1) h.2
  | [], e :: es, i, h => by simp at h
  | p :: kv, [], i, h => by simp at h
def tMap (P : Program) (t : TypeId) : Option (TypeId × TypeId) := match P.underlying t with
  | some (.map k e) => some (k, e)
  | _ => none
theorem tMap_spec {t k e : TypeId} (h : tMap P t = some (k, e)) : P.underlying t = some (.map k e) := by
  unfold tMap at h
  split at h
  · rename_i hu; simp only [Option.some.injEq, Prod.mk.injEq] at h; rw [hu, h.1, h.2]
  · cases h
def tZ1 (P : Program) (t : TypeId) : Option Value := match (P.info? t).bind (·.zero) with
  | some (.int k n) => some (.int k n)
  | some (.bool b) => some (.bool b)
  | _ => none
theorem tZ1_run {t : TypeId} {z : Value} (h : tZ1 P t = some z) (w : World) : (zeroValue t).run P w = .ok z w := by
  unfold tZ1 at h
  cases hi : P.info? t with
  | none => simp [hi] at h
  | some i =>
    cases hz : i.zero with
    | none => simp [hi, hz] at h
    | some v =>
      simp only [hi, hz, Option.bind_some] at h
      split at h
      · rename_i he; injection he with he; injection h with h; subst h; simp [zeroValue, typeInfo, hi, hz, he]
      · rename_i he; injection he with he; injection h with h; subst h; simp [zeroValue, typeInfo, hi, hz, he]
      · cases h
theorem runGet {w : World} {r : Nat} {es : Array MapEntry} {c : Nat} (hb : w.heap[r]? = some (.map es c)) : (getObj r).run P w = .ok (.map es c) w := by simp [getObj, Sem.run, hb]
theorem runSet {w : World} {r : Nat} {es : Array MapEntry} {c : Nat} (o' : Obj) (hb : w.heap[r]? = some (.map es c)) : (setObj r o').run P w = .ok () { w with heap := w.heap.setIfInBounds r o' } := by simp [setObj, Sem.run, hb]
variable {E : Env} {K : List It} {σ σ' : Sl} {h : Heap} {all rest : List Oper} {o : Oper}
theorem aw_makeMap {α : Type} {Kf : α → Value} {t : TypeId} (hop : o.op = .makeMap t none) (hw : wantA all σ o = some true) (hd : dstOk E.N o.dst = true)
    (k : ∀ g, g ∉ h.keys → aw E (.ops all rest :: K) (σ.setO o.dst (.c (.raw (.map (some g))))) ((g, .gen (MapI Kf [])) :: h)) : aw E (.ops all (o :: rest) :: K) σ h := by
  refine aw_new (r := fun g => .c (.raw (.map (some g)))) (ob := .gen (MapI Kf [])) hw hd (fun a w s => ?_) k
  refine ⟨.map (some w.heap.size), w.alloc (.map #[] 0), ?_, Fr.alloc _ _ _, by simp, ⟨_, heap_alloc_new w _, _, _, rfl, rfl⟩, rfl⟩
  simp only [execOp, hop]
  rfl
theorem aw_lookup {α : Type} [DecidableEq α] {Kf : α → Value} {t kt et g : TypeId} {kv : List (α × Value)} {x ky : Operand} {ck : AV} {a : α} {z : Value} (hop : o.op = .lookup t x ky false) (hw : wantA all σ o = some true) (hd : dstOk E.N o.dst = true)
    (ht : tMap E.P t = some (kt, et)) (hK : KeyOk E.P kt Kf) (hz : tZ1 E.P et = some z) (hx : ev σ x = .c (.raw (.map (some g)))) (hg : h.get g = some (.gen (MapI Kf kv))) (hk : ev σ ky = ck) (hka : ∀ S w v, Rep S w ck v → v = Kf a)
    (k : aw E (.ops all rest :: K) (σ.setO o.dst (.c (cstC ((kvGet a kv).getD z)))) h) : aw E (.ops all (o :: rest) :: K) σ h := by
  refine aw_step hw (fun ac w s => ?_) k
  have h1 := ev_rep s x
  rw [hx] at h1
  have h1' : ac.eval x = .map (some g) := h1
  have h2 := ev_rep s ky
  rw [hk] at h2
  have h2' := hka _ _ _ h2
  obtain ⟨ob, hb, es, c, rfl, hes⟩ := s.heap g _ (Heap.get_mem hg)
  have hkeys : es.toList.map (·.key) = (kv.map (·.1)).map Kf := by
    have := congrArg (List.map Prod.fst) hes
    rw [List.map_map, List.map_map] at this
    rw [List.map_map]
    exact this
  have hfind := hK.find a (kv.map (·.1)) es.toList w hkeys
  have hget := fAsk_get (K := Kf) a kv es.toList 0 hes
  refine ⟨(kvGet a kv).getD z, w, .inl ?_, s.put hd (cstC_rep _ _ _)⟩
  have hlk : (Instr.lookup t (ac.eval x) (ac.eval ky) false).run E.P w = .ok ((kvGet a kv).getD z) w := by
    rw [h1', h2']
    unfold Instr.lookup
    simp only [Sem.run_bind, run_underlying (tMap_spec ht), Result.andThen_ok, runGet hb, Sem.run_pure, hK.check, hfind]
    rw [← hget]
    cases hf : fAsk a (kv.map (·.1)) es.toList 0 with
    | none => simp [tZ1_run hz]
    | some p => obtain ⟨i, v⟩ := p; simp
  simp only [execOp, hop, Sem.run_bind, hlk, Result.andThen_ok]
  rfl
theorem aw_mapNew {α : Type} [DecidableEq α] {Kf : α → Value} {t kt et g : TypeId} {kv : List (α × Value)} {x ky vl : Operand} {ck cv : AV} {a : α} {v : Value} (hop : o.op = .mapUpdate t x ky vl) (hdn : o.dst = none) (hw : wantA all σ o = some true)
    (ht : tMap E.P t = some (kt, et)) (hK : KeyOk E.P kt Kf) (hx : ev σ x = .c (.raw (.map (some g)))) (hg : h.get g = some (.gen (MapI Kf kv))) (hk : ev σ ky = ck) (hka : ∀ S w u, Rep S w ck u → u = Kf a) (hv : ev σ vl = cv) (hva : ∀ S w u, Rep S w cv u → u = v)
    (hnew : kvGet a kv = none) {h' : Heap} (hh : h.set g (.gen (MapI Kf (kv ++ [(a, v)]))) = h') (k : aw E (.ops all rest :: K) σ h') : aw E (.ops all (o :: rest) :: K) σ h := by
  subst hh
  refine aw_step hw (fun ac w s => ?_) k
  have h1 := ev_rep s x
  rw [hx] at h1
  have h1' : ac.eval x = .map (some g) := h1
  have h2 := ev_rep s ky
  rw [hk] at h2
  have h2' := hka _ _ _ h2
  have h3 := ev_rep s vl
  rw [hv] at h3
  have h3' := hva _ _ _ h3
  obtain ⟨ob, hb, es, c, rfl, hes⟩ := s.heap g _ (Heap.get_mem hg)
  have hkeys : es.toList.map (·.key) = (kv.map (·.1)).map Kf := by
    have := congrArg (List.map Prod.fst) hes
    rw [List.map_map, List.map_map] at this
    rw [List.map_map]
    exact this
  have hfind := hK.find a (kv.map (·.1)) es.toList w hkeys
  have hget := fAsk_get (K := Kf) a kv es.toList 0 hes
  have hnone : fAsk a (kv.map (·.1)) es.toList 0 = none := by
    cases hf : fAsk a (kv.map (·.1)) es.toList 0 with
    | none => rfl
    | some p => rw [hf, hnew] at hget; cases hget
  have hgl : g < w.heap.size := (Array.getElem?_eq_some_iff.1 hb).1
  let w' : World := { w with heap := w.heap.setIfInBounds g (.map (es.push { key := Kf a, val := v, born := c }) (c + 1)) }
  have hrun : (Instr.mapUpdate t (ac.eval x) (ac.eval ky) (ac.eval vl)).run E.P w = .ok () w' := by
    rw [h1', h2', h3']
    unfold Instr.mapUpdate
    simp only [Sem.run_bind, run_underlying (tMap_spec ht), Result.andThen_ok, runGet hb, hK.check, hfind, hnone, runSet _ hb]
    rfl
  refine ⟨undef, w', .inr ⟨?_, rfl⟩, ?_⟩
  · simp only [execOp, hop, Sem.run_bind, hrun, Result.andThen_ok]
    rfl
  · rw [hdn]
    have hfr : Fr (fun b => b = g) w w' := by
      refine ⟨rfl, rfl, rfl, by simp [w'], fun b _ hne => ?_, fun g' m hh => ?_⟩
      · simp only [w']; rw [Array.getElem?_setIfInBounds_ne (fun e => hne e.symm)]
      · obtain ⟨cs, ty, ⟨fr, hc⟩, hs⟩ := hh
        refine ⟨cs, ty, ⟨fr, ?_⟩, hs⟩
        have hne : g' ≠ g := fun e => by rw [e, hb] at hc; cases hc
        simp only [w']
        rw [Array.getElem?_setIfInBounds_ne (fun e => hne e.symm)]; exact hc
    refine s.setObj hg hfr ⟨_, by simp only [w']; rw [Array.getElem?_setIfInBounds_self_of_lt hgl], _, _, rfl, ?_⟩
    simp only [Array.toList_push, List.map_append, List.map_cons, List.map_nil, hes]
end
end Go.AI
namespace Go.AI
section
variable {E : Env} {K : List It} {σ σ' : Sl} {h : Heap} {all rest : List Oper} {o : Oper}
def ptrs (gs : List Nat) : List Value := gs.map fun g => .pointer (some ⟨g, 0, none⟩)
def fnC (f : FuncId) (gs : List Nat) : CV := .raw (.func (.func f) #[] (ptrs gs).toArray)
theorem aw_makeFunc {f : FuncId} {cs : List Operand} {gs : List Nat} (hop : o.op = .makeFunc (.func f) #[] cs.toArray) (hw : wantA all σ o = some true) (hd : dstOk E.N o.dst = true) (hc : cs.map (ev σ) = gs.map fun g => .c (.optr g 0))
    (k : aw E (.ops all rest :: K) (σ.setO o.dst (.c (fnC f gs))) h) : aw E (.ops all (o :: rest) :: K) σ h := by
  refine aw_step hw (fun a w s => ?_) k
  have hev : ∀ (cs : List Operand) (gs : List Nat), cs.map (ev σ) = gs.map (fun g => AV.c (.optr g 0)) → cs.map a.eval = ptrs gs := by
    intro cs
    induction cs with
    | nil => intro gs hg; cases gs with
      | nil => rfl
      | cons g gs => cases hg
    | cons x cs ih => intro gs hg; cases gs with
      | nil => cases hg
      | cons g gs =>
        simp only [List.map_cons, List.cons.injEq] at hg
        have h1 := ev_rep s x
        rw [hg.1] at h1
        have h1' : a.eval x = .pointer (some ⟨g, 0, none⟩) := h1
        simp only [List.map_cons, ptrs]
        rw [h1', ih gs hg.2]
        rfl
  refine ⟨.func (.func f) #[] (ptrs gs).toArray, w, .inl ?_, s.put hd rfl⟩
  simp only [execOp, hop, Instr.makeFunc, List.map_toArray, hev cs gs hc]
  rfl
theorem RepT.ptrs {S : Bool → Nat → Prop} {w : World} : ∀ {A : List AV} {vs : List Value} (gs : List Nat), RepT S w A vs → RepT S w (A ++ gs.map fun g => .c (.optr g 0)) (vs ++ AI.ptrs gs)
  | [], [], gs, _ => by
    induction gs with
    | nil => trivial
    | cons g gs ih => exact ⟨rfl, ih⟩
  | _ :: _, _ :: _, gs, h => ⟨h.1, RepT.ptrs gs h.2⟩
  | [], _ :: _, _, h => h.elim
  | _ :: _, [], _, h => h.elim
theorem aw_callhv {f : FuncId} {x : Operand} {gs : List Nat} {xs : List Operand} {ts : Array TypeId} {hc hr : Heap} {args : List AV} {Q : AV → Heap → Prop} (hf : Fh E.P f hc (args ++ gs.map fun g => .c (.optr g 0)) Q) (hop : o.op = .call { callee := .value x, args := xs.toArray, argTypes := ts }) (hw : wantA all σ o = some true) (hd : dstOk E.N o.dst = true) (hx : ev σ x = .c (fnC f gs))
    (hp : h.Perm (hc ++ hr)) (le : LeA [] (xs.map (ev σ)) args) (k : ∀ r h', Q r h' → (∀ g ∈ h'.keys, g ∉ hr.keys) → aw E (.ops all rest :: K) (σ.setO o.dst r) (h' ++ hr)) : aw E (.ops all (o :: rest) :: K) σ h := fun a w s => by
  show wpList _ _ _ _ _ _
  unfold wpList
  rw [if_pos (s.wanted hw)]
  refine .inl ?_
  unfold Oper.wp
  have hv : a.eval x = .func (.func f) #[] (ptrs gs).toArray := by
    have := ev_rep s x
    rw [hx] at this
    exact this
  have hrun : (execOp a.eval o).run E.P w = .ok (.enter f (xs.map a.eval ++ ptrs gs).toArray) w := by
    simp only [execOp, hop, resolve, hv, Deferred.ofValue, invoke, Sem.run_bind]
    have := hf.1.run (#[] ++ (Array.map a.eval xs.toArray) ++ (ptrs gs).toArray) w
    simp only [Sem.run_pure, Result.andThen_ok]
    rw [show ((xs.map a.eval ++ ptrs gs).toArray) = (#[] ++ (Array.map a.eval xs.toArray) ++ (ptrs gs).toArray) from by simp]
    exact this
  rw [hrun]
  show Calls _ _ _ _ _
  refine (hf.use s hp (RepT.ptrs gs (LeA.rep0 s le))).mono ?_
  rintro e w' ⟨v, r, h', rfl, hq, hfr, s', hrep⟩
  exact k r h' hq hfr _ _ (s'.put hd hrep)
theorem aw_callqv {f : FuncId} {x : Operand} {xs : List Operand} {ts : Array TypeId} {args : List AV} {r : AV} (hf : Fa E.P f args r) (hop : o.op = .call { callee := .value x, args := xs.toArray, argTypes := ts }) (hw : wantA all σ o = some true) (hd : dstOk E.N o.dst = true) (hx : ev σ x = .c (.raw (.func (.func f) #[] #[])))
    (le : LeA h (xs.map (ev σ)) args) (k : aw E (.ops all rest :: K) (σ.setO o.dst r) h) : aw E (.ops all (o :: rest) :: K) σ h := fun a w s => by
  show wpList _ _ _ _ _ _
  unfold wpList
  rw [if_pos (s.wanted hw)]
  refine .inl ?_
  unfold Oper.wp
  have hv : a.eval x = .func (.func f) #[] #[] := by
    have := ev_rep s x
    rw [hx] at this
    exact this
  have hrun : (execOp a.eval o).run E.P w = .ok (.enter f (xs.map a.eval).toArray) w := by
    simp only [execOp, hop, resolve, hv, Deferred.ofValue, invoke, Sem.run_bind]
    have := hf.1.run (#[] ++ (Array.map a.eval xs.toArray) ++ #[]) w
    simp only [Sem.run_pure, Result.andThen_ok]
    rw [show ((xs.map a.eval).toArray) = (#[] ++ (Array.map a.eval xs.toArray) ++ #[]) from by simp]
    exact this
  rw [hrun]
  show Calls _ _ _ _ _
  refine (hf.use s le).mono ?_
  rintro e w' ⟨v, rfl, hr, hfr⟩
  exact k _ _ ((s.later hfr).put hd hr)
end
end Go.AI
namespace Go.PN
open Go.AI
theorem first_bad : ∀ p : List RD, p.all RD.prob = true ∨ ∃ i : Nat, i < p.length ∧ (p.getD i rd0).prob = false ∧ ∀ j, j < i → (p.getD j rd0).prob = true
  | [] => .inl rfl
  | x :: p => by
    cases hx : x.prob with
    | false => exact .inr ⟨0, by simp, by simpa using hx, by omega⟩
    | true =>
      rcases first_bad p with h | ⟨i, h1, h2, h3⟩
      · exact .inl (by simp [hx] at h ⊢; exact h)
      · refine .inr ⟨i + 1, by simp; omega, by simpa using h2, fun j hj => ?_⟩
        cases j with
        | zero => simpa using hx
        | succ j => simpa using h3 j (by omega)
end Go.PN
namespace Go.Proofs.YtcoflhkcpnoaaaaGreatDoor
open Go.AI Go.PN
attribute [local irreducible] aw Fa Fh DrK
theorem check1_fa (r : RD) (hw : r.wf 500000000) : Fa Tryz.prog 84 [.agg (rdc r)] (.c (.bool (!r.prob))) := by
  refine fa_of_body Tryz.func84 rfl rfl (by simp [Tryz.ntmps84]) fun C hC => ?_
  simp only [initS, Nat.reduceAdd]
  refine xG ?_
  refine xB fun g1 hn_g1=>?_
  refine yG hn_g1 ?_
  refine yC hn_g1 (rprob_fa r (wf_mono hw ?_)) ?_
  · omega
  refine yG hn_g1 ?_
  refine yT hC hn_g1 ?_
  exact .one (.c (.bool _))
set_option maxHeartbeats 800000 in
theorem indexFunc_fa (p : List RD) (hw : ∀ r ∈ p, r.wf 500000000) (hl : p.length ≤ 1099511627776) : ∃ z : Int, (decide (z ≥ 0) = !(p.all RD.prob)) ∧ Fa Tryz.prog 123 [.c (rats false p), .c (.raw (.func (.func 84) #[] #[]))] (.c (.int .i64 z)) := by
  have hz : ∃ z : Int, (z = -1 ∧ p.all RD.prob = true) ∨ ∃ i : Nat, z = i ∧ i < p.length ∧ (p.getD i rd0).prob = false ∧ ∀ j, j < i → (p.getD j rd0).prob = true := by
    rcases first_bad p with h | ⟨i, h⟩
    · exact ⟨-1, .inl ⟨rfl, h⟩⟩
    · exact ⟨i, .inr ⟨i, rfl, h⟩⟩
  obtain ⟨z, hz⟩ := hz
  refine ⟨z, ?_, ?_⟩
  · rcases hz with ⟨rfl, ha⟩ | ⟨k, rfl, hk, hk1, hk2⟩
    · rw [ha]; rfl
    · rw [decide_eq_true (by omega)]
      cases ha : p.all RD.prob with
      | false => rfl
      | true =>
        have := List.all_eq_true.1 ha (p.getD k rd0) (by rw [List.getD_eq_getElem?_getD, List.getElem?_eq_getElem hk]; exact List.getElem_mem hk)
        rw [this] at hk1; cases hk1
  refine fa_of_body Tryz.func123 rfl rfl (by simp [Tryz.ntmps123]) fun C hC => ?_
  simp only [initS, Nat.reduceAdd]
  refine xG ?_
  refine aw_lp (fun x : Nat => [(0, .c (rats false p)), (1, .c (.raw (.func (.func 84) #[] #[]))), (7, .c (.int .i64 p.length)), (8, .c (.int .i64 x))]) (fun x => []) (fun x => x ≤ p.length ∧ ∀ j, j < x → (p.getD j rd0).prob = true) (fun x => p.length - x) 0 eB zZ ⟨Nat.zero_le _, by omega⟩ ?_
  rintro i ⟨hi, hs⟩
  refine xG ?_
  refine xF (fun h1=>?_) fun h1=>?_
  · have h1' : i < p.length := by have := of_decide_eq_true h1; omega
    refine xG ?_
    refine aw_callqv (check1_fa (p.getD i rd0) (getD_wf hw i)) rfl rfl rfl eE eL ?_
    refine xS ?_
    refine xG ?_
    refine xF (fun h2=>?_) fun h2=>?_
    · have h2' : (p.getD i rd0).prob = false := by simpa using h2
      refine xG ?_
      refine xT hC ?_
      refine .one (.c (ler_int ?_))
      rcases hz with ⟨_, ha⟩ | ⟨k, rfl, hk, hk1, hk2⟩
      · have := List.all_eq_true.1 ha (p.getD i rd0) (by rw [List.getD_eq_getElem?_getD, List.getElem?_eq_getElem h1']; exact List.getElem_mem h1')
        rw [this] at h2'; cases h2'
      · rcases Nat.lt_trichotomy k i with h | h | h
        · rw [hs k h] at hk1; cases hk1
        · rw [h]
        · rw [hk2 i h] at h2'; cases h2'
    · have h2' : (p.getD i rd0).prob = true := by simpa using h2
      refine xG ?_
      refine aw_stop ⟨i + 1, by omega, eB, zZ, by omega, fun j hj => ?_⟩
      rcases Nat.lt_succ_iff_lt_or_eq.1 hj with h | h
      · exact hs j h
      · rw [h, h2']
  · have h1' : i = p.length := by have := of_decide_eq_false h1; omega
    subst h1'
    refine xG ?_
    refine xT hC ?_
    refine .one (.c (ler_int ?_))
    rcases hz with ⟨rfl, ha⟩ | ⟨k, rfl, hk, hk1, hk2⟩
    · rfl
    · rw [hs k hk] at hk1; cases hk1
set_option maxHeartbeats 800000 in
theorem containsFunc_fa (p : List RD) (hw : ∀ r ∈ p, r.wf 500000000) (hl : p.length ≤ 1099511627776) : Fa Tryz.prog 83 [.c (rats false p), .c (.raw (.func (.func 84) #[] #[]))] (.c (.bool (!(p.all RD.prob)))) := by
  obtain ⟨z, hz, hf⟩ := indexFunc_fa p hw hl
  refine fa_of_body Tryz.func83 rfl rfl (by simp [Tryz.ntmps83]) fun C hC => ?_
  simp only [initS, Nat.reduceAdd]
  refine xG ?_
  refine xC (hf) ?_
  refine xG ?_
  refine xT hC ?_
  exact .one (.c (ler_bool hz))
set_option maxHeartbeats 800000 in
theorem scheck_fa (p : List RD) (vars : Int) (hw : ∀ r ∈ p, r.wf 500000000) (hl : p.length ≤ 1099511627776) : Fa Tryz.prog 49 [.c (rats false p), .c (.int .i64 vars)] (.c (errA (pcode p vars))) := by
  unfold pcode
  refine fa_of_body Tryz.func49 rfl rfl (by simp [Tryz.ntmps49]) fun C hC => ?_
  simp only [initS, Nat.reduceAdd]
  refine xG ?_
  refine xF (fun hb=>?_) fun hb=>?_
  · have hb' : (p.length : Int) ≠ vars := by simpa using hb
    refine xG ?_
    refine xT hC ?_
    rw [if_pos hb']
    exact .one (.c (ler_errN rfl (by omega)))
  · have hb' : (p.length : Int) = vars := by simpa using hb
    rw [if_neg (by omega)]
    refine xG ?_
    refine xC (containsFunc_fa p hw hl) ?_
    refine xG ?_
    refine xF (fun h1=>?_) fun h1=>?_
    · have h1' : ¬ p.all RD.prob = true := by simpa using h1
      refine xG ?_
      refine xT hC ?_
      rw [if_neg h1']
      exact .one (.c (ler_errN rfl (by omega)))
    · have h1' : p.all RD.prob = true := by simpa using h1
      refine xG ?_
      refine xT hC ?_
      rw [if_pos h1']
      exact .one (.c (ler_err0 rfl))
end Go.Proofs.YtcoflhkcpnoaaaaGreatDoor
namespace Go.PN
open Go.AI
theorem getDset {l : List Bool} {i j : Nat} {v : Bool} (h : i ≠ j) : (l.set i v).getD j false = l.getD j false := by
  rw [List.getD_eq_getElem?_getD, List.getElem?_set_ne h, ← List.getD_eq_getElem?_getD]
theorem getDset' {l : List Bool} {i : Nat} {v : Bool} (h : i < l.length) : (l.set i v).getD i false = v := by
  rw [List.getD_eq_getElem?_getD, List.getElem?_set_self h]; rfl
end Go.PN
namespace Go.Proofs.YtcoflhkcpnoaaaaGreatDoor
open Go.AI Go.PN
attribute [local irreducible] aw Fa Fh DrK
@[go_sem] theorem ty_s_fn : tSz Tryz.prog 152 = some (false, 1) := by kernel_rfl
@[go_sem] theorem ty_z_fn : tZero Tryz.prog 152 = some [.raw .nilFunc] := by kernel_rfl
end Go.Proofs.YtcoflhkcpnoaaaaGreatDoor
namespace Go.PN
open Go.AI
abbrev DK := { l : List Int // l.length = 3 }
def dk (x : DN) : DK := ⟨[x.v, x.lo, x.hi], rfl⟩
def dkV (k : DK) : Value := keyZ k.1
theorem dk_inj {x y : DN} : dk x = dk y ↔ x = y := by
  cases x; cases y
  simp [dk]
theorem dk_rep {x : DN} : ∀ (S : Bool → Nat → Prop) (w : World) (u : Value), Rep S w (.agg [.int .i64 x.v, .int .i64 x.lo, .int .i64 x.hi]) u → u = dkV (dk x) := by
  rintro S w u ⟨us, rfl, h⟩
  match us, h with
  | [a, b, c], ⟨h1, h2, h3, _⟩ =>
    have h1 : a = _ := h1
    have h2 : b = _ := h2
    have h3 : c = _ := h3
    rw [h1, h2, h3]; rfl
end Go.PN
namespace Go.Proofs.YtcoflhkcpnoaaaaGreatDoor
open Go.AI Go.PN
attribute [local irreducible] aw Fa Fh DrK
theorem ty_key : tEqS Tryz.prog 125 = some 3 := by kernel_rfl
theorem dk_ok : KeyOk Tryz.prog 125 dkV := keyZ_ok ty_key
end Go.Proofs.YtcoflhkcpnoaaaaGreatDoor
namespace Go.PN
open Go.AI
def exQ (p : Nat → Rat) : Nat → (Nat → Rat) → Rat
  | 0, g => g 0
  | m + 1, g => (1 - p m) * exQ p m g + p m * exQ p m (fun s => g (s + 2 ^ m))
theorem ex_congr {p : Nat → Rat} : ∀ (m : Nat) (f g : Nat → Rat), (∀ s, s < 2 ^ m → f s = g s) → exQ p m f = exQ p m g
  | 0, f, g, h => h 0 (by simp)
  | m + 1, f, g, h => by
    have e : 2 ^ (m + 1) = 2 ^ m + 2 ^ m := by rw [Nat.pow_succ]; omega
    rw [exQ, exQ, ex_congr m f g fun s hs => h s (by omega), ex_congr m _ (fun s => g (s + 2 ^ m)) fun s hs => h (s + 2 ^ m) (by omega)]
theorem ex_const {p : Nat → Rat} (c : Rat) : ∀ m : Nat, exQ p m (fun _ => c) = c
  | 0 => rfl
  | m + 1 => by
    rw [exQ, ex_const c m]
    grind
def Indep (m v : Nat) (f : Nat → Rat) : Prop := ∀ s t, s < 2 ^ m → t < 2 ^ m → (∀ j, j < m → j ≠ v → s.testBit j = t.testBit j) → f s = f t
theorem tb_hi {s m : Nat} (h : s < 2 ^ m) : (s + 2 ^ m).testBit m = true := by
  rw [Nat.add_comm, Nat.testBit_two_pow_add_eq, Nat.testBit_lt_two_pow h]; rfl
theorem tb_lo {s m j : Nat} (h : j < m) : (s + 2 ^ m).testBit j = s.testBit j := by
  rw [Nat.add_comm, Nat.testBit_two_pow_add_gt h]
theorem ex_shan {p : Nat → Rat} {v : Nat} : ∀ (m : Nat) (l h : Nat → Rat), v < m → Indep m v l → Indep m v h → exQ p m (fun s => if s.testBit v then h s else l s) = (1 - p v) * exQ p m l + p v * exQ p m h
  | 0, _, _, hv, _, _ => by omega
  | m + 1, l, h, hv, hl, hh => by
    have e : 2 ^ (m + 1) = 2 ^ m + 2 ^ m := by rw [Nat.pow_succ]; omega
    have shift : ∀ f, Indep (m + 1) v f → Indep m v (fun s => f (s + 2 ^ m)) := fun f hf s t hs ht hb => hf _ _ (by omega) (by omega) fun j hj hjv => by
      by_cases hjm : j < m
      · rw [tb_lo hjm, tb_lo hjm]; exact hb j hjm hjv
      · have : j = m := by omega
        subst this
        rw [tb_hi hs, tb_hi ht]
    by_cases hvm : v = m
    · subst hvm
      have up : ∀ f, Indep (v + 1) v f → exQ p v (fun s => f (s + 2 ^ v)) = exQ p v f := fun f hf => ex_congr v _ _ fun s hs => hf _ _ (by omega) (by omega) fun j hj hjv => tb_lo (by omega)
      rw [exQ, exQ, exQ, up l hl, up h hh]
      have e1 : exQ p v (fun s => if s.testBit v then h s else l s) = exQ p v l := ex_congr v _ _ fun s hs => by rw [Nat.testBit_lt_two_pow hs]; rfl
      have e2 : exQ p v (fun s => if (s + 2 ^ v).testBit v then h (s + 2 ^ v) else l (s + 2 ^ v)) = exQ p v h := by
        rw [← up h hh]
        exact ex_congr v _ _ fun s hs => by rw [tb_hi hs]; rfl
      rw [e1, e2]
      grind
    · have hvm' : v < m := by omega
      have low : ∀ f, Indep (m + 1) v f → Indep m v f := fun f hf s t hs ht hb => hf s t (by omega) (by omega) fun j hj hjv => by
        by_cases hjm : j < m
        · exact hb j hjm hjv
        · have : j = m := by omega
          subst this
          rw [Nat.testBit_lt_two_pow hs, Nat.testBit_lt_two_pow ht]
      rw [exQ, exQ, exQ, ex_shan m l h hvm' (low l hl) (low h hh)]
      have e2 : exQ p m (fun s => if (s + 2 ^ m).testBit v then h (s + 2 ^ m) else l (s + 2 ^ m)) = exQ p m (fun s => if s.testBit v then h (s + 2 ^ m) else l (s + 2 ^ m)) := ex_congr m _ _ fun s hs => by rw [tb_lo hvm']
      rw [e2, ex_shan m _ _ hvm' (shift l hl) (shift h hh)]
      grind
def sumG (f : Nat → Rat) : Nat → Rat
  | 0 => 0
  | k + 1 => sumG f k + f k
theorem sumG_congr {f g : Nat → Rat} : ∀ n, (∀ s, s < n → f s = g s) → sumG f n = sumG g n
  | 0, _ => rfl
  | n + 1, h => by rw [sumG, sumG, sumG_congr n fun s hs => h s (by omega), h n (by omega)]
theorem sumG_add (f : Nat → Rat) (a : Nat) : ∀ b, sumG f (a + b) = sumG f a + sumG (fun s => f (s + a)) b
  | 0 => by rw [sumG, Nat.add_zero]; grind
  | b + 1 => by
    rw [← Nat.add_assoc, sumG, sumG_add f a b, sumG, Nat.add_comm b a]
    grind
theorem sumG_mul (f : Nat → Rat) (c : Rat) : ∀ n, sumG (fun s => f s * c) n = c * sumG f n
  | 0 => by rw [sumG, sumG]; grind
  | n + 1 => by rw [sumG, sumG, sumG_mul f c n]; grind
def wtP (p : Nat → Rat) (s : Nat) : Nat → Rat
  | 0 => 1
  | k + 1 => wtP p s k * (if s.testBit k then p k else 1 - p k)
theorem wtP_lo {p : Nat → Rat} {s m : Nat} : ∀ k, k ≤ m → wtP p (s + 2 ^ m) k = wtP p s k
  | 0, _ => rfl
  | k + 1, h => by rw [wtP, wtP, wtP_lo k (by omega), tb_lo (by omega)]
theorem sum_ex {p : Nat → Rat} : ∀ (m : Nat) (g : Nat → Rat), sumG (fun s => g s * wtP p s m) (2 ^ m) = exQ p m g
  | 0, g => by
    show sumG (fun s => g s * wtP p s 0) (2 ^ 0) = g 0
    rw [show (2 : Nat) ^ 0 = 0 + 1 from rfl, sumG, sumG, wtP]
    grind
  | m + 1, g => by
    have e : 2 ^ (m + 1) = 2 ^ m + 2 ^ m := by rw [Nat.pow_succ]; omega
    rw [e, sumG_add, exQ, ← sum_ex m g, ← sum_ex m (fun s => g (s + 2 ^ m))]
    rw [← sumG_mul, ← sumG_mul]
    congr 1
    · exact sumG_congr _ fun s hs => by rw [wtP, Nat.testBit_lt_two_pow hs]; simp only [Bool.false_eq_true, if_false]; grind
    · exact sumG_congr _ fun s hs => by rw [wtP, tb_hi hs, wtP_lo m (Nat.le_refl _)]; simp only [if_true]; grind
def prP (ps : List RD) (i : Nat) : Rat := (ps.getD i rd0).q
theorem wtTo_P {ps : List RD} {s m : Nat} (hs : s < 2 ^ m) : ∀ k, k ≤ m → wtTo s (2 ^ m - 1 - s) ps k = wtP (prP ps) s k
  | 0, _ => rfl
  | k + 1, h => by
    rw [wtTo, wtP, wtTo_P hs k (by omega)]
    congr 1
    unfold wfac
    have : (2 ^ m - 1 - s).testBit k = !s.testBit k := by
      rw [show 2 ^ m - 1 - s = 2 ^ m - (s + 1) from by omega, Nat.testBit_two_pow_sub_succ hs]
      simp; omega
    rw [this]
    cases s.testBit k with
    | true => simp [prP]
    | false => simp [prP]
theorem sumQ_G {ps : List RD} {tb : List Bool} : ∀ k, k ≤ 2 ^ ps.length → sumQ ps tb k = sumG (fun s => (if tb.getD s false then 1 else 0) * wtP (prP ps) s ps.length) k
  | 0, _ => rfl
  | k + 1, h => by
    rw [sumQ, sumG, sumQ_G k (by omega)]
    have : stQ ps k = wtP (prP ps) k ps.length := wtTo_P (by omega) _ (Nat.le_refl _)
    rw [this]
    split <;> grind
theorem sumQ_ex (ps : List RD) (tb : List Bool) : sumQ ps tb (2 ^ ps.length) = exQ (prP ps) ps.length (fun s => if tb.getD s false then 1 else 0) := by
  rw [sumQ_G _ (Nat.le_refl _), sum_ex]
end Go.PN
namespace Go.Proofs.YtcoflhkcpnoaaaaGreatDoor
open Go.AI Go.PN
structure DgOk (d : DG) : Prop where
  perm : Perm0 d.order
  o24 : d.order.length ≤ 24
  n4096 : d.nodes.length ≤ 4096
  ns : NsOk d.order.length d.nodes
  beh : ∀ i, i < d.nodes.length → behindB d (d.nodes.getD i dn0).lo (d.nodes.getD i dn0).v = true ∧ behindB d (d.nodes.getD i dn0).hi (d.nodes.getD i dn0).v = true
  r0 : 0 ≤ d.root
  r1 : d.root < d.nodes.length + 2
theorem nfirst_zero {d : DG} : ∀ (k i : Nat), nfirst d i k = 0 → ∀ j, i ≤ j → j < i + k → ncode d j = 0
  | 0, i, _, j, h1, h2 => by omega
  | k + 1, i, h, j, h1, h2 => by
    rw [nfirst] at h
    split at h
    · rename_i hn; exact absurd h hn
    · rename_i hn
      rcases Nat.eq_or_lt_of_le h1 with e | e
      · rw [← e]; simpa using hn
      · exact nfirst_zero k (i + 1) h j (by omega) (by omega)
theorem dg_ok {d : DG} (h : dcode d = 0) : DgOk d := by
  unfold dcode at h
  split at h
  · rename_i h1; exact absurd h h1
  · rename_i h1
    split at h
    · cases h
    · rename_i h2
      split at h
      · rename_i h3; exact absurd h h3
      · rename_i h3
        split at h
        · cases h
        · rename_i h4
          obtain ⟨hp, h24⟩ := ocode_ok (by simpa using h1)
          have hz : ∀ j, j < d.nodes.length → ncode d j = 0 := fun j hj => nfirst_zero d.nodes.length 0 (by simpa using h3) j (by omega) (by omega)
          refine ⟨hp, h24, by omega, nok_all hz, fun i hi => ?_, by omega, by omega⟩
          have hc := hz i hi
          unfold ncode at hc
          split at hc
          · cases hc
          · split at hc
            · cases hc
            · split at hc
              · cases hc
              · rename_i hb
                simpa using hb
theorem behind_lt {d : DG} {r e : Int} (h : behindB d r e = true) (h2 : 2 ≤ r) : placeZ d.order e < placeZ d.order (d.nodes.getD (r - 2).toNat dn0).v := by
  unfold behindB at h
  rw [decide_eq_false (by omega), Bool.false_or] at h
  have := of_decide_eq_true h
  omega
theorem evalD_indep {d : DG} (ok : DgOk d) {s t : Nat} {P : Int} (hb : ∀ j : Nat, j < d.order.length → P < placeZ d.order j → s.testBit j = t.testBit j) : ∀ (n : Nat) (r : Int), r.toNat ≤ n → 0 ≤ r → r < d.nodes.length + 2 → (2 ≤ r → P < placeZ d.order (d.nodes.getD (r - 2).toNat dn0).v) → evalD d.nodes s r = evalD d.nodes t r := by
  intro n
  induction n with
  | zero => intro r hn h0 hr hP; rw [evalD_leaf (by omega), evalD_leaf (by omega)]
  | succ n ih =>
    intro r hn h0 hr hP
    by_cases h2 : 2 ≤ r
    · have hP' := hP h2
      obtain ⟨v0, v1, l0, l1, q0, q1⟩ := ok.ns (r - 2).toNat (by omega)
      obtain ⟨b1, b2⟩ := ok.beh (r - 2).toNat (by omega)
      have hkid : kid d.nodes s r = kid d.nodes t r := by
        unfold kid
        rw [hb (d.nodes.getD (r - 2).toNat dn0).v.toNat (by omega) (by rw [show (((d.nodes.getD (r - 2).toNat dn0).v.toNat : Nat) : Int) = (d.nodes.getD (r - 2).toNat dn0).v from by omega]; exact hP')]
      have hk := kid_lt ok.ns (s := t) h2 hr
      rw [evalD_step ok.ns h2 hr, evalD_step ok.ns h2 hr, hkid]
      refine ih _ (by omega) hk.1 (by omega) fun hk2 => ?_
      unfold kid at hk2 ⊢
      split at hk2
      · rename_i hbit
        rw [if_pos hbit]
        have := behind_lt b2 hk2
        omega
      · rename_i hbit
        rw [if_neg hbit]
        have := behind_lt b1 hk2
        omega
    · rw [evalD_leaf (by omega), evalD_leaf (by omega)]
def evQ (d : DG) (r : Int) (s : Nat) : Rat := if evalD d.nodes s r then 1 else 0
theorem ev_indep {d : DG} (ok : DgOk d) {r : Int} {v : Nat} (h0 : 0 ≤ r) (hr : r < d.nodes.length + 2) (hv : 2 ≤ r → placeZ d.order v < placeZ d.order (d.nodes.getD (r - 2).toNat dn0).v) : Indep d.order.length v (evQ d r) := fun s t hs ht hb => by
  unfold evQ
  rw [evalD_indep ok (s := s) (t := t) (P := placeZ d.order v) (fun j hj hp => hb j hj (fun e => by subst e; omega)) r.toNat r (Nat.le_refl _) h0 hr hv]
theorem vals_q {d : DG} (ok : DgOk d) {ps : List RD} (hp : ps.length = d.order.length) : ∀ (k : Nat), k ≤ d.nodes.length → ∀ r : Int, 0 ≤ r → r < k + 2 → refRD (valsL ps (d.nodes.take k) []) r = rd (exQ (prP ps) d.order.length (evQ d r)) := by
  intro k
  induction k with
  | zero =>
    intro _ r h0 hr
    have : r = 0 ∨ r = 1 := by omega
    unfold refRD
    rw [if_pos (by omega)]
    rcases this with rfl | rfl
    · have e : evQ d 0 = fun _ => ((0 : Int) : Rat) := by funext s; unfold evQ; rw [evalD_leaf (by omega)]; rfl
      rw [e, ex_const]
    · have e : evQ d 1 = fun _ => ((1 : Int) : Rat) := by funext s; unfold evQ; rw [evalD_leaf (by omega)]; rfl
      rw [e, ex_const]
  | succ k ih =>
    intro hk r h0 hr
    have ihk := ih (by omega)
    have hlen : (valsL ps (d.nodes.take k) []).length = k := by rw [vals_len]; simp; omega
    by_cases hrk : r < k + 2
    · rw [← ihk r h0 hrk, vals_take (by omega)]
      unfold refRD
      by_cases h2 : r < 2
      · rw [if_pos h2, if_pos h2]
      · rw [if_neg h2, if_neg h2, List.getD_eq_getElem?_getD, List.getElem?_append_left (by omega), ← List.getD_eq_getElem?_getD]
    · have hr' : r = k + 2 := by omega
      have hr2 : (r - 2).toNat = k := by omega
      have h2 : 2 ≤ r := by omega
      obtain ⟨v0, v1, l0, l1, q0, q1⟩ := ok.ns k (by omega)
      obtain ⟨b1, b2⟩ := ok.beh k (by omega)
      rw [vals_take (by omega)]
      unfold refRD
      rw [if_neg (by omega), hr2, List.getD_eq_getElem?_getD, List.getElem?_append_right (by omega), hlen, Nat.sub_self]
      show rd (nodeQ ps (valsL ps (d.nodes.take k) []) (d.nodes.getD k dn0)) = _
      congr 1
      unfold nodeQ
      rw [ihk _ l0 (by omega), ihk _ q0 (by omega), rd_q, rd_q]
      generalize hx : d.nodes.getD k dn0 = x at *
      have hvn : ((x.v.toNat : Nat) : Int) = x.v := by omega
      have e : exQ (prP ps) d.order.length (evQ d r) = exQ (prP ps) d.order.length (fun s => if s.testBit x.v.toNat then evQ d x.hi s else evQ d x.lo s) := ex_congr _ _ _ fun s _ => by
        unfold evQ
        rw [evalD_step ok.ns h2 (by omega)]
        unfold kid
        rw [hr2, hx]
        cases s.testBit x.v.toNat <;> rfl
      rw [e, ex_shan d.order.length (evQ d x.lo) (evQ d x.hi) (by omega) (ev_indep ok l0 (by omega) fun h => by rw [hvn]; exact behind_lt b1 h) (ev_indep ok q0 (by omega) fun h => by rw [hvn]; exact behind_lt b2 h)]
      rfl
theorem plain_law {d : DG} (ok : DgOk d) {ps : List RD} (hp : ps.length = d.order.length) : refRD (valsL ps d.nodes []) d.root = rd (sumQ ps (tabL d) (2 ^ ps.length)) := by
  have h := vals_q ok hp d.nodes.length (Nat.le_refl _) d.root ok.r0 (by have := ok.r1; omega)
  rw [List.take_length] at h
  rw [h, sumQ_ex, hp]
  congr 1
  refine ex_congr _ _ _ fun s hs => ?_
  unfold evQ tabL
  rw [List.getD_eq_getElem?_getD]
  simp [hs]
def Bl (L : Nat) : Nat → Nat
  | 0 => 1
  | h + 1 => 2 * Bl L h + 2 * L + 3
theorem Bl_mono {L : Nat} : ∀ {a b : Nat}, a ≤ b → Bl L a ≤ Bl L b
  | a, 0, h => by rw [show a = 0 from by omega]; exact Nat.le_refl _
  | a, b + 1, h => by
    by_cases e : a = b + 1
    · rw [e]; exact Nat.le_refl _
    · have := Bl_mono (L := L) (a := a) (b := b) (by omega)
      rw [Bl]; omega
def hgt (d : DG) (r : Int) : Nat := if r < 2 then 0 else (d.order.length - placeZ d.order (d.nodes.getD (r - 2).toNat dn0).v).toNat
theorem hgt_lt {d : DG} {r : Int} {v : Int} (h : behindB d r v = true) (hv : placeZ d.order v < d.order.length) : hgt d r < (d.order.length - placeZ d.order v).toNat := by
  unfold hgt
  split
  · omega
  · rename_i h2
    have := behind_lt h (by omega)
    omega
theorem place_lt {o : List Int} {v : Int} : placeZ o v < o.length := by
  unfold placeZ
  split
  · rename_i h
    have := List.idxOf_lt_length_of_mem h
    omega
  · omega
theorem hgt_le {d : DG} {r : Int} (hm : ∀ i, i < d.nodes.length → (d.nodes.getD i dn0).v ∈ d.order) (hr : r < d.nodes.length + 2) : hgt d r ≤ d.order.length := by
  unfold hgt
  split
  · omega
  · have := hm (r - 2).toNat (by omega)
    unfold placeZ
    rw [if_pos this]
    omega
theorem vals_fits {d : DG} (ok : DgOk d) {ps : List RD} {L : Nat} (hL : 1 ≤ L) (hw : ∀ x ∈ ps, x.wf L) : ∀ (k : Nat), k ≤ d.nodes.length → ∀ r : Int, 0 ≤ r → r < k + 2 → fits (refRD (valsL ps (d.nodes.take k) []) r).q (Bl L (hgt d r)) := by
  intro k
  induction k with
  | zero =>
    intro _ r h0 hr
    have : r = 0 ∨ r = 1 := by omega
    unfold refRD hgt
    rw [if_pos (by omega), if_pos (by omega), rd_q]
    rcases this with rfl | rfl
    · exact fits_zero
    · exact fits_one
  | succ k ih =>
    intro hk r h0 hr
    have ihk := ih (by omega)
    have hlen : (valsL ps (d.nodes.take k) []).length = k := by rw [vals_len]; simp; omega
    by_cases hrk : r < k + 2
    · have := ihk r h0 hrk
      rw [vals_take (by omega)]
      unfold refRD at this ⊢
      by_cases h2 : r < 2
      · rw [if_pos h2] at this ⊢; exact this
      · rw [if_neg h2] at this ⊢
        rw [List.getD_eq_getElem?_getD, List.getElem?_append_left (by omega), ← List.getD_eq_getElem?_getD]
        exact this
    · have hr2 : (r - 2).toNat = k := by omega
      obtain ⟨v0, v1, l0, l1, q0, q1⟩ := ok.ns k (by omega)
      obtain ⟨b1, b2⟩ := ok.beh k (by omega)
      have f2 := ihk _ l0 (by omega)
      have f3 := ihk _ q0 (by omega)
      have f1 := RD.fits (getD_wf hw (d.nodes.getD k dn0).v.toNat) hL
      have g1 := hgt_lt b1 place_lt
      have g2 := hgt_lt b2 place_lt
      rw [vals_take (by omega)]
      unfold refRD
      rw [if_neg (by omega), hr2, List.getD_eq_getElem?_getD, List.getElem?_append_right (by omega), hlen, Nat.sub_self]
      show fits (rd (nodeQ ps (valsL ps (d.nodes.take k) []) (d.nodes.getD k dn0))).q _
      have hh : hgt d r = (d.order.length - placeZ d.order (d.nodes.getD k dn0).v).toNat := by unfold hgt; rw [if_neg (by omega), hr2]
      rw [rd_q, hh]
      obtain ⟨h, hh2⟩ : ∃ h, (d.order.length - placeZ d.order (d.nodes.getD k dn0).v).toNat = h + 1 := ⟨(d.order.length - placeZ d.order (d.nodes.getD k dn0).v).toNat - 1, by omega⟩
      rw [hh2, Bl]
      have m1 := Bl_mono (L := L) (show hgt d (d.nodes.getD k dn0).lo ≤ h from by omega)
      have m2 := Bl_mono (L := L) (show hgt d (d.nodes.getD k dn0).hi ≤ h from by omega)
      unfold nodeQ
      exact fits_mono (fits_add (fits_mul (fits_sub fits_one f1) f2) (fits_mul f1 f3)) (by omega)
theorem perm0_mem {o : List Int} (h : Perm0 o) {v : Int} (h0 : 0 ≤ v) (h1 : v < o.length) : v ∈ o := by
  have hle : ((List.range o.length).map fun (i : Nat) => (i : Int)).length ≤ o.length := by simp
  refine Classical.byContradiction fun hn => ?_
  have h2 : (v :: o).Nodup := List.nodup_cons.2 ⟨hn, h.nodup⟩
  have := nodup_le (m := (List.range o.length).map fun (i : Nat) => (i : Int)) h2 (fun x hx => by
    rcases List.mem_cons.1 hx with rfl | hx
    · exact List.mem_map.2 ⟨x.toNat, List.mem_range.2 (by omega), by omega⟩
    · have := h.range x hx
      exact List.mem_map.2 ⟨x.toNat, List.mem_range.2 (by omega), by omega⟩)
  simp at this
  omega
theorem vals_wf {d : DG} (ok : DgOk d) {ps : List RD} (hp : ps.length = d.order.length) {L M : Nat} (hL : 1 ≤ L) (hw : ∀ x ∈ ps, x.wf L) (hM : Bl L d.order.length ≤ M) : ∀ k, k ≤ d.nodes.length → ∀ x ∈ valsL ps (d.nodes.take k) [], x.wf M := by
  intro k hk x hx
  obtain ⟨j, hj, e⟩ := List.mem_iff_getElem.1 hx
  have hlen : (valsL ps (d.nodes.take k) []).length = k := by rw [vals_len]; simp; omega
  have hf := vals_fits ok hL hw k hk ((j : Int) + 2) (by omega) (by omega)
  have hq := vals_q ok hp k hk ((j : Int) + 2) (by omega) (by omega)
  have hgl := hgt_le (d := d) (r := (j : Int) + 2) (fun i hi => by
    obtain ⟨v0, v1, _, _, _, _⟩ := ok.ns i hi
    exact perm0_mem ok.perm v0 v1) (by omega)
  have hB := Bl_mono (L := L) hgl
  have hx2 : refRD (valsL ps (d.nodes.take k) []) ((j : Int) + 2) = x := by
    unfold refRD
    rw [if_neg (by omega), show ((j : Int) + 2 - 2).toNat = j from by omega, List.getD_eq_getElem?_getD, List.getElem?_eq_getElem hj, ← e]; rfl
  rw [hx2] at hf hq
  rw [hq, rd_q] at hf
  rw [hq]
  exact rd_wf (fits_mono hf (by omega))
end Go.Proofs.YtcoflhkcpnoaaaaGreatDoor
namespace Go.Proofs.YtcoflhkcpnoaaaaGreatDoor
open Go.AI Go.PN
attribute [local irreducible] aw Fa Fh DrK
structure Small (d : DG) (p : List RD) : Prop where
  w : ∀ r ∈ p, r.wf 4
  l : p.length ≤ 100
  o : d.order.length ≤ 100
  n : d.nodes.length ≤ 1099511627776
  o6 : dpcode d p = 0 → d.order.length ≤ 6
theorem Small.w5 {d : DG} {p : List RD} (h : Small d p) : ∀ r ∈ p, r.wf 500000000 := fun r hr => wf_mono (h.w r hr) (by omega)
theorem ns_len {m : Nat} {d : DG} (ok : DgOk d) (hm : m = d.order.length) : ∀ i, i < d.nodes.length → NodeOk m i (d.nodes.getD i dn0) := by subst hm; exact ok.ns
theorem vlen {ps : List RD} {ns : List DN} : (valsL ps ns []).length = ns.length := by rw [vals_len]; simp
end Go.Proofs.YtcoflhkcpnoaaaaGreatDoor
namespace Go.Proofs.YtcoflhkcpnoaaaaGreatDoor
open Go.AI Go.PN Go.ChangeShapes Go.WideShapes Go.RowKit
theorem glue_laid : laidOutB Tryz.prog = true := by kernel_rfl
theorem own : ownKnob Tryz.prog.godebug = none := by kernel_rfl
section
variable {H : Type} {enc : TypeId × Value → H} {P : Program}
theorem trodAll_stays (hl : laidOutB P = true) {W W' : World} {sp : Nat → Bool} : ∀ {ts : List TypeId} {vs : List Value} {ds : List (DataW H)} {p : List MemPlace}, (∀ t ∈ ts, P.readableRec t = true ∧ t < P.types.size) → DataW.TrodAll enc P W 0 (fun _ => true) true ts vs ds p → (∀ x ∈ p, W.sameAt W' x) → (∀ x ∈ p, sp x.block = true) → DataW.TrodAll enc P W' 0 sp true ts vs ds p
  | [], _, _, _, _, h, _, _ => by
    obtain ⟨rfl, rfl, rfl⟩ := trodAll_nil h
    exact rfl
  | t :: ts, _, _, _, hts, h, hs, hp => by
    obtain ⟨v, vs, d, ds, a, b, rfl, rfl, rfl, h1, h2⟩ := trodAll_cons h
    exact ⟨a, b, WideElems.Trod_stays hl (hts t (List.mem_cons_self ..)).1 (hts t (List.mem_cons_self ..)).2 h1 (fun x hx => hs x (List.mem_append_left _ hx)) (fun x hx => hp x (List.mem_append_left _ hx)),
      trodAll_stays hl (fun t' ht => hts t' (List.mem_cons_of_mem _ ht)) h2 (fun x hx => hs x (List.mem_append_right _ hx)) (fun x hx => hp x (List.mem_append_right _ hx)), rfl⟩
theorem post_of_below {fn : Func} {s : ChangeSpec} {W W' : World} {args : Array Value} {ds gs : List (DataW H)} {before : List MemPlace} {tb : TypeId} (hl : laidOutB P = true) (hts : ∀ t ∈ fn.params.toList, P.readableRec t = true ∧ t < P.types.size) (hrt : fn.resultTypes = #[tb]) (hbt : P.underlying tb = some .bool) (hvars : s.vars = [])
    (hW : DataW.Whole enc P fn.params.toList s.vars false W args.toList ds gs before) (hfn : ∀ gs' : List (DataW H), gs' = [] → s.fn H (ds ++ gs') = { results := [.lit (.bool true)], args := ds }) (hb : Below W.heap.size W W') : s.post enc P fn false true false false W args (.bool true) W' := by
  have hWk := hW
  obtain ⟨p, q, hA, hV, rfl, hfz, _⟩ := hW
  rw [hvars] at hV
  obtain ⟨rfl, rfl⟩ := trodVars_none hV
  have hlt : ∀ x ∈ p ++ [], x.block < W.heap.size := fun x hx => by simpa using hWk.lt x hx
  have hlt' : ∀ x ∈ p, x.block < W.heap.size := fun x hx => hlt x (List.mem_append_left _ hx)
  have hres : ∀ (b : Nat) (sp : Nat → Bool) (hd : Bool), DataW.TrodAll enc P W' b sp hd fn.resultTypes.toList ((Value.bool true).resultList fn.resultTypes.size) (s.fn H (ds ++ [])).results [] := fun b sp hd => by
    rw [hrt, hfn [] rfl]
    exact trodAll_cons_mk (shut_bool hbt _) trodAll_mk0
  have hargs : ∀ sp : Nat → Bool, (∀ x ∈ p, sp x.block = true) → DataW.TrodAll enc P W' 0 sp true fn.params.toList args.toList (s.fn H (ds ++ [])).args p := fun sp hsp => by
    rw [hfn [] rfl]
    exact trodAll_stays hl hts hA (fun x hx => hb.same (hlt' x hx)) hsp
  have hvr : ∀ sp : Nat → Bool, DataW.TrodVars enc P W' sp s.vars (s.fn H (ds ++ [])).vars [] := fun sp => by
    rw [hvars, hfn [] rfl]; exact rfl
  refine ⟨ds, [], p ++ [], [], p, [], hWk, hres _ _ _, hargs _ (fun x hx => by simpa using hlt' x hx), hvr _, hb.frame _, fun _ => ?_⟩
  refine ⟨ok_one hrt rfl (okWide_bool_mk hbt _), _, _, ([] ++ p) ++ [], ⟨[] ++ p, [], trodAll_append (hargs _ (fun _ _ => rfl)) (hres _ _ _), hvr _, rfl, ?_, fun h => by cases h⟩, ?_⟩
  · intro b off hp
    have hp' : MemPlace.cell b off ∈ p ++ [] := by simpa using hp
    rw [Below.frozen hb (hlt _ hp')]
    exact hfz b off hp'
  · intro x hx _
    simpa using hx
theorem arg_agg {α : Type} {c : α → List CV} {B : α → Nat → Prop} {t : TypeId} {fs : Array Field} (hr : Rdr P t c B) (ht : P.underlying t = some (.struct fs)) {W : World} {base : Nat} {v : Value} {d : DataW H} {p : List MemPlace} (ho : Value.okWide P W .any base t v) (h : DataW.Trod enc P W 0 (fun _ => true) true t v d p) :
    ∃ y, Rep0 (AllB W) W (.agg (c y)) v ∧ B y (Rows.uptoBulk d) := by
  obtain ⟨cs, rfl, _⟩ := okWide_struct ht ho
  obtain ⟨fuel, hf⟩ := h
  obtain ⟨y, h1, h2⟩ := hr H enc W fuel _ _ hf
  exact ⟨y, ⟨cs.toList, by simp, h1⟩, h2⟩
theorem arg_cell {α : Type} {c : α → CV} {B : α → Nat → Prop} {t : TypeId} (hr : Rdr P t (fun y => [c y]) B) {W : World} {v : Value} {d : DataW H} {p : List MemPlace} (hv : v.cells = #[v]) (h : DataW.Trod enc P W 0 (fun _ => true) true t v d p) :
    ∃ y, Rep0 (AllB W) W (.c (c y)) v ∧ B y (Rows.uptoBulk d) := by
  obtain ⟨fuel, hf⟩ := h
  rw [hv] at hf
  obtain ⟨y, h1, h2⟩ := hr H enc W fuel _ _ hf
  exact ⟨y, h1.1, h2⟩
end
theorem wok_mono {xs : List Nat} : ∀ (m n : Nat), xs.length ≤ m ∧ (∀ x ∈ xs, x < 4294967296) → m ≤ n → xs.length ≤ n ∧ ∀ x ∈ xs, x < 4294967296 := fun _ _ h hm => ⟨Nat.le_trans h.1 hm, h.2⟩
theorem rdr_words : Rdr Tryz.prog 28 (fun xs : List Nat => [ws true xs]) (fun xs n => xs.length ≤ n ∧ ∀ x ∈ xs, x < 4294967296) :=
  (rdr_slice (0 : Nat) true Tryz.underlying28 (s := 1) (by kernel_rfl) (by omega) (fun _ _ _ h _ => h) (rdr_word Tryz.underlying106)).to id (fun ys => by
    show [CV.row true 1 ys.length _] = [CV.row true 1 ys.length _]
    congr 2
    funext j
    show _ = ofL [CV.int .u32 ((ys.getD (j / 1) 0 : Nat) : Int)] (j % 1)
    rw [Nat.div_one, Nat.mod_one]
    rfl) (fun _ _ h => h)
end Go.Proofs.YtcoflhkcpnoaaaaGreatDoor
namespace Go.PN
open Go.AI
def ofB (f : FM) (vs : List Bool) (s : Nat) (a : Int) : Bool := if a < f.vars then s.testBit a.toNat else vs.getD (a - f.vars).toNat false
def cntB (f : FM) (vs : List Bool) (s : Nat) (az : List Int) : Nat := (az.filter fun a => ofB f vs s a).length
noncomputable def nodeB (f : FM) (vs : List Bool) (s : Nat) (x : FN) : Bool :=
  if x.kind == 0 then x.k == 1 else if x.kind == 1 then ((cntB f vs s x.args : Nat) : Int) == 0 else if x.kind == 2 then ((cntB f vs s x.args : Nat) : Int) == (x.args.length : Int)
  else if x.kind == 3 then decide (((cntB f vs s x.args : Nat) : Int) > 0) else if x.kind == 4 then decide (((cntB f vs s x.args : Nat) : Int) ≥ x.k) else remZ ((cntB f vs s x.args : Nat) : Int) 2 == 1
noncomputable def fvTo (f : FM) (s : Nat) : Nat → List Bool
  | 0 => List.replicate f.nodes.length false
  | k + 1 => (fvTo f s k).set k (nodeB f (fvTo f s k) s (f.nodes.getD k fn0))
theorem fvTo_len (f : FM) (s : Nat) : ∀ k, (fvTo f s k).length = f.nodes.length
  | 0 => by simp [fvTo]
  | k + 1 => by simp [fvTo, fvTo_len f s k]
structure FmOk (f : FM) : Prop where
  v0 : 0 ≤ f.vars
  v1 : f.vars ≤ 62
  n : f.nodes.length ≤ 1000000
  a : ∀ x ∈ f.nodes, x.args.length ≤ 1000000 ∧ ∀ y ∈ x.args, 0 ≤ y ∧ y < f.vars + f.nodes.length
  t0 : 0 ≤ f.top
  t1 : f.top < f.vars + f.nodes.length
theorem ler_oslbs {h : Heap} {t : Bool} {g n : Nat} {ty : TypeId} {ys : List Bool} (hg : h.get g = some (.cells ty n (bsF ys))) (hn : n = ys.length) : LeR h (.osl g 1 0 n) (bs t ys) := by
  subst hn
  exact .osl hg (by omega) (fun j _ => by rw [Nat.zero_add]; exact .bool _)
theorem getFN {xs : List FN} {i : Nat} (h : i < xs.length) : xs.getD i fn0 = xs[i] := by
  rw [List.getD_eq_getElem?_getD, List.getElem?_eq_getElem h]; rfl
end Go.PN

