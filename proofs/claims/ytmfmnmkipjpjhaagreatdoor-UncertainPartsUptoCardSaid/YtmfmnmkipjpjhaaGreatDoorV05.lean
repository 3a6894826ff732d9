/- Texts of one proof, laid one behind the other by a program (merge.py): AiEval2, AiPush. -/
import Derived.Test.YtmfmnmkipjpjhaaGreatDoorV04
import Derived.Laws.StructEq
set_option linter.unusedSimpArgs false
set_option linter.unusedVariables false
/- More operations that leave memory alone: struct literals, type assertions, equality of structs, slices against nil. -/
namespace Go.AI

def okPart : AV → Bool
  | .tup _ => false
  | .c x => x.solid
  | .agg xs => xs.all CV.solid
theorem okPart_spec {x : AV} (h : okPart x = true) : (∀ xs, x ≠ .tup xs) ∧ x.cells.all CV.solid = true := by
  cases x with
  | tup xs => cases h
  | c x => exact ⟨(fun _ e => by cases e), by simpa [okPart, AV.cells] using h⟩
  | agg xs => exact ⟨(fun _ e => by cases e), by simpa [okPart, AV.cells] using h⟩

def okParts (ρ : Operand → AV) : List (Nat × Operand) → Bool
  | [] => true
  | p :: ps => okPart (ρ p.2) && okParts ρ ps
theorem okParts_spec {ρ : Operand → AV} : ∀ {ps : List (Nat × Operand)}, okParts ρ ps = true → ∀ p ∈ ps, (∀ xs, ρ p.2 ≠ .tup xs) ∧ (ρ p.2).cells.all CV.solid = true
  | [], _, p, hp => by simp at hp
  | q :: ps, h, p, hp => by
    simp only [okParts, Bool.and_eq_true] at h
    rcases List.mem_cons.1 hp with e | hp
    · subst e; exact okPart_spec h.1
    · exact okParts_spec h.2 p hp

section
variable {P : Program} {h : Heap} {ρ : Operand → AV}

def mapCells (ρ : Operand → AV) : List (Nat × Operand) → List (Nat × List CV)
  | [] => []
  | p :: ps => (p.1, (ρ p.2).cells) :: mapCells ρ ps
theorem mapCells_eq (ρ : Operand → AV) : ∀ ps : List (Nat × Operand), mapCells ρ ps = ps.map fun p => (p.1, (ρ p.2).cells)
  | [] => rfl
  | p :: ps => by simp [mapCells, mapCells_eq ρ ps]
def build2 (P : Program) (ρ : Operand → AV) (t : TypeId) (ps : List (Nat × Operand)) : Option (Prop × AV) :=
  match tFlds P t, tZero P t with
  | some fl, some z => match fillC fl z (mapCells ρ ps) with
    | some out => some (okParts ρ ps = true, .agg out)
    | none => none
  | _, _ => none
theorem build2_ok {t : TypeId} {ps : List (Nat × Operand)} {req : Prop} {r : AV} (hb : build2 P ρ t ps = some (req, r)) (hreq : req) : POk P h ρ (.build t ps.toArray) r := by
  unfold build2 at hb
  split at hb
  · rename_i fl z hfl hz
    split at hb
    · rename_i out hout
      simp only [Option.some.injEq, Prod.mk.injEq] at hb
      obtain ⟨rfl, rfl⟩ := hb
      refine buildAV_ok (req := ∀ p ∈ ps, (∀ xs, ρ p.2 ≠ .tup xs) ∧ (ρ p.2).cells.all CV.solid = true) ?_ (okParts_spec hreq)
      unfold buildAV
      rw [hfl, hz]
      simp only
      rw [← mapCells_eq, hout]
    · cases hb
  · cases hb

def isStr (P : Program) (t : TypeId) : Bool := match P.underlying t with
  | some (.struct _) => true
  | _ => false
theorem isStr_spec {t : TypeId} (h : isStr P t = true) : P.underlying t = some (.struct (P.fieldsOf t)) := by
  unfold isStr at h
  unfold Program.fieldsOf
  split at h
  · rename_i fs hfs; rw [hfs]
  · cases h
/-- A struct of ints alone that can be compared. -/
def tEqS (P : Program) (t : TypeId) : Option Nat :=
  if !P.stoodInHeld t && !P.eqGuardType P.depth t && (P.fieldsOf t).toList.zipIdx.all (fun p => p.1.name != "_" && p.1.offset == p.2 && (tInt P p.1.type).isSome) && isStr P t then some (P.fieldsOf t).size else none

def intsC : List CV → Option (List Int)
  | [] => some []
  | .int .i64 n :: l => match intsC l with
    | some ns => some (n :: ns)
    | none => none
  | _ => none
theorem intsC_rep {S : Bool → Nat → Prop} {w : World} : ∀ {cs : List CV} {ns : List Int} {us : List Value}, intsC cs = some ns → RepL S w cs us → us = ns.map (Value.int .i64)
  | [], ns, us, h1, h2 => by
    simp [intsC] at h1; subst h1
    cases us with
    | nil => rfl
    | cons u us => exact h2.elim
  | c :: cs, ns, us, h1, h2 => by
    cases us with
    | nil => exact h2.elim
    | cons u us =>
      unfold intsC at h1
      split at h1
      · rename_i heq; cases heq
      · rename_i n l heq
        cases heq
        split at h1
        · rename_i ns' hns
          injection h1 with h1
          subst h1
          have hu : u = .int .i64 n := h2.1
          rw [hu, List.map_cons, intsC_rep hns h2.2]
        · cases h1
      · cases h1
def eqZ : List Int → List Int → Bool
  | [], [] => true
  | a :: iu, b :: bs => a == b && eqZ iu bs
  | _, _ => false
theorem eqZ_eq : ∀ {iu bs : List Int}, eqZ iu bs = decide (iu = bs)
  | [], [] => by simp [eqZ]
  | a :: iu, b :: bs => by
    simp only [eqZ, eqZ_eq (iu := iu) (bs := bs), List.cons.injEq, Bool.decide_and]
    rfl
  | [], b :: bs => by simp [eqZ]
  | a :: iu, [] => by simp [eqZ]

theorem run_eqFields_ints {P : Program} (w : World) (xs ys : Array Value) (iu bs : List Int) (hx : xs = (iu.map (Value.int .i64)).toArray) (hy : ys = (bs.map (Value.int .i64)).toArray) (hl : iu.length = bs.length) :
    ∀ (fs : List Field) (k : Nat), (fs.zipIdx k).all (fun p => p.1.name != "_" && p.1.offset == p.2 && (tInt P p.1.type).isSome) = true → k + fs.length = iu.length → (Op.eqFields 9999 xs ys fs).run P w = .ok (eqZ (iu.drop k) (bs.drop k)) w
  | [], k, _, hk => by
    rw [List.drop_of_length_le (by simp at hk; omega), List.drop_of_length_le (by simp at hk; omega)]
    simp [Op.eqFields, eqZ]
  | f :: fs, k, hf, hk => by
    simp only [List.zipIdx_cons, List.all_cons, Bool.and_eq_true, bne_iff_ne, ne_eq, beq_iff_eq] at hf
    obtain ⟨⟨⟨hn, ho⟩, hi⟩, hr⟩ := hf
    simp only [List.length_cons] at hk
    have hka : k < iu.length := by omega
    have hkb : k < bs.length := by omega
    obtain ⟨kk, hkk⟩ := Option.isSome_iff_exists.1 hi
    have hu := tInt_spec hkk
    have hag : (isAgg f.type).run P w = .ok false w := by simp [isAgg, run_underlying hu]
    have e1 : xs[k]? = some (Value.int .i64 (iu[k])) := by rw [hx]; simp [hka]
    have e2 : ys[k]? = some (Value.int .i64 (bs[k])) := by rw [hy]; simp [hkb]
    have p1 : (part f.type xs f.offset).run P w = .ok (.int .i64 (iu[k])) w := by
      unfold part
      simp only [Sem.run_bind, hag, Result.andThen_ok, Bool.false_eq_true, if_false, ho, e1, Sem.run_pure]
    have p2 : (part f.type ys f.offset).run P w = .ok (.int .i64 (bs[k])) w := by
      unfold part
      simp only [Sem.run_bind, hag, Result.andThen_ok, Bool.false_eq_true, if_false, ho, e2, Sem.run_pure]
    have p3 : (Op.equalIn 9999 f.type (.int .i64 (iu[k])) (.int .i64 (bs[k]))).run P w = .ok (iu[k] == bs[k]) w := run_equalIn_int w 9998 f.type .i64 kk _ _ hu
    have ih := run_eqFields_ints w xs ys iu bs hx hy hl fs (k + 1) (by simpa using hr) (by omega)
    rw [List.drop_eq_getElem_cons hka, List.drop_eq_getElem_cons hkb]
    simp only [Op.eqFields, hn, not_false_eq_true, if_true, Sem.run_bind, p1, p2, p3, Result.andThen_ok, eqZ, ne_eq]
    cases hab : (iu[k] == bs[k]) with
    | true => simpa using ih
    | false => simp
theorem intsC_len : ∀ {cs : List CV} {ns : List Int}, intsC cs = some ns → ns.length = cs.length
  | [], ns, h => by simp [intsC] at h; subst h; rfl
  | c :: cs, ns, h => by
    unfold intsC at h
    split at h
    · rename_i heq; cases heq
    · rename_i n l heq
      cases heq
      split at h
      · rename_i ns' hns
        injection h with h
        subst h
        simp [intsC_len hns]
      · cases h
    · cases h
theorem tEqS_run {t n : Nat} (ht : tEqS P t = some n) {iu bs : List Int} (ha : iu.length = n) (hb : bs.length = n) (w : World) : (Op.equalIn 10000 t (.agg (iu.map (Value.int .i64)).toArray) (.agg (bs.map (Value.int .i64)).toArray)).run P w = .ok (eqZ iu bs) w ∧ P.eqGuardType P.depth t = false := by
  unfold tEqS at ht
  split at ht
  · rename_i hc
    simp only [Bool.and_eq_true, Bool.not_eq_true'] at hc
    obtain ⟨⟨⟨h1, h2⟩, h3⟩, h4⟩ := hc
    injection ht with ht
    refine ⟨?_, h2⟩
    have hu := isStr_spec h4
    rw [show (10000 : Nat) = 9999 + 1 from rfl, run_equalIn_agg w 9999 t _ _ hu h1]
    have := run_eqFields_ints (P := P) w _ _ iu bs rfl rfl (by omega) (P.fieldsOf t).toList 0 h3 (by simp; omega)
    simpa using this
  · cases ht

/-- Comparison of structs of ints. -/
def eqAgg (P : Program) (op : BinOp) (t : TypeId) (xs ys : List CV) : Option (Prop × AV) :=
  match tEqS P t, intsC xs, intsC ys, op with
  | some n, some iu, some bs, .eql => some (xs.length = n ∧ ys.length = n, .c (.bool (eqZ iu bs)))
  | some n, some iu, some bs, .neq => some (xs.length = n ∧ ys.length = n, .c (.bool (!eqZ iu bs)))
  | _, _, _, _ => none
theorem POk.eqAgg {op : BinOp} {t t' : TypeId} {x y : Operand} {xs ys : List CV} {req : Prop} {r : AV} (hx : ρ x = .agg xs) (hy : ρ y = .agg ys) (hr : AI.eqAgg P op t xs ys = some (req, r)) (hreq : req) : POk P h ρ (.binOp op t x y t') r := fun S w e _ ho _ => by
  have h1 := ho x (by simp [Op.operands])
  have h2 := ho y (by simp [Op.operands])
  rw [hx] at h1
  rw [hy] at h2
  obtain ⟨us, hu, hru⟩ := h1
  obtain ⟨vs, hv, hrv⟩ := h2
  unfold AI.eqAgg at hr
  split at hr
  · rename_i n iu bs ht ha hb
    simp only [Option.some.injEq, Prod.mk.injEq] at hr
    obtain ⟨rfl, rfl⟩ := hr
    obtain ⟨r1, r2⟩ := tEqS_run ht (iu := iu) (bs := bs) (by rw [intsC_len ha]; exact hreq.1) (by rw [intsC_len hb]; exact hreq.2) w
    have e1 := intsC_rep ha hru
    have e2 := intsC_rep hb hrv
    refine ⟨.bool (eqZ iu bs), fun o hop => exec_bin hop ?_ ?_, rfl⟩
    · rw [hu, hv]; exact run_eqGuard_agg w _ _ _ _ _ _ r2
    · rw [hu, hv, run_eql_struct, e1, e2, r1]; rfl
  · rename_i n iu bs ht ha hb
    simp only [Option.some.injEq, Prod.mk.injEq] at hr
    obtain ⟨rfl, rfl⟩ := hr
    obtain ⟨r1, r2⟩ := tEqS_run ht (iu := iu) (bs := bs) (by rw [intsC_len ha]; exact hreq.1) (by rw [intsC_len hb]; exact hreq.2) w
    have e1 := intsC_rep ha hru
    have e2 := intsC_rep hb hrv
    refine ⟨.bool (!eqZ iu bs), fun o hop => exec_bin hop ?_ ?_, rfl⟩
    · rw [hu, hv]; exact run_eqGuard_agg w _ _ _ _ _ _ r2
    · rw [hu, hv, run_neq_struct, e1, e2, r1]; rfl
  · cases hr

/-- The zero of an int type. -/
def tZI (P : Program) (t : TypeId) : Option (IntKind × Int) := match (P.info? t).bind (·.zero) with
  | some (.int k n) => some (k, n)
  | _ => none
theorem tZI_run {t : TypeId} {k : IntKind} {n : Int} (h : tZI P t = some (k, n)) (w : World) : (zeroValue t).run P w = .ok (.int k n) w := by
  unfold tZI at h
  split at h
  · rename_i k' n' he
    simp only [Option.some.injEq, Prod.mk.injEq] at h
    obtain ⟨rfl, rfl⟩ := h
    cases hi : P.info? t with
    | none => rw [hi] at he; cases he
    | some i =>
      rw [hi] at he
      have hz : i.zero = some (.int k' n') := he
      simp [zeroValue, typeInfo, hi, hz]
  · cases h
/-- What an error is asserted to be. -/
def assertAV (P : Program) (t : TypeId) : AV → Option (Prop × AV)
  | .c (.ifc u c) => match tInt P t with
    | some _ => if u = t then some (True, .tup [.c c, .c (.bool true)]) else none
    | none => none
  | .c .nilI => match tInt P t, tZI P t with
    | some _, some (k, z) => some (True, .tup [.c (.int k z), .c (.bool false)])
    | _, _ => none
  | _ => none
theorem POk.assertA {x : Operand} {xt t : TypeId} {req : Prop} {r : AV} (hr : assertAV P t (ρ x) = some (req, r)) (hreq : req) : POk P h ρ (.typeAssert x xt t true) r := fun S w e _ ho _ => by
  have h1 := ho x (by simp [Op.operands])
  unfold assertAV at hr
  split at hr
  · rename_i u c hx
    rw [hx] at h1
    obtain ⟨v, hv, hc⟩ := h1
    split at hr
    · rename_i k hk
      split at hr
      · rename_i e1
        subst e1
        simp only [Option.some.injEq, Prod.mk.injEq] at hr
        obtain ⟨rfl, rfl⟩ := hr
        refine ⟨.tuple #[v, .bool true], fun o hop => ?_, [v, .bool true], rfl, hc, rfl, trivial⟩
        simp [execOp, hop, hv, Instr.typeAssert, run_underlying (tInt_spec hk)]
      · cases hr
    · cases hr
  · rename_i hx
    rw [hx] at h1
    have hv : e x = .nilIface := h1
    split at hr
    · rename_i k0 k z hk hz
      simp only [Option.some.injEq, Prod.mk.injEq] at hr
      obtain ⟨rfl, rfl⟩ := hr
      refine ⟨.tuple #[.int k z, .bool false], fun o hop => ?_, [.int k z, .bool false], rfl, rfl, rfl, trivial⟩
      simp [execOp, hop, hv, Instr.typeAssert, run_underlying (tInt_spec hk), tZI_run hz]
    · cases hr
  · cases hr

theorem POk.nilCheckR {x : Operand} {n : Nat} {f : Nat → CV} (hx : ρ x = .c (.rptr n f)) : POk P h ρ (.nilCheck x) (.c (.rptr n f)) := fun S w e _ ho _ => by
  have h1 := ho x (by simp [Op.operands])
  rw [hx] at h1
  have h1' := h1
  obtain ⟨ad, hv, _⟩ := h1
  exact ⟨e x, fun o hop => by simp only [execOp, hop, hv]; rfl, h1'⟩

/-- All operations that leave memory alone. -/
noncomputable def pureOp2 (P : Program) (nw : Bool) (h : Heap) (ρ : Operand → AV) : Op → Option (Prop × AV)
  | .build t ⟨ps⟩ => build2 P ρ t ps
  | .typeAssert x _ t true => assertAV P t (ρ x)
  | .binOp op t x y t' => match ρ x, ρ y with
    | .agg xs, .agg ys => eqAgg P op t xs ys
    | a, b => binAV P nw op t y a b
  | .nilCheck x => match ρ x with
    | .c (.rptr n f) => some (True, .c (.rptr n f))
    | .c (.optr g off) => some (True, .c (.optr g off))
    | _ => none
  | op => pureOp P nw h ρ op
theorem pureOp2_ok {nw : Bool} {op : Op} {req : Prop} {r : AV} (hk : ∀ v, ρ (.const v) = cst v) (hb : pureOp2 P nw h ρ op = some (req, r)) (hreq : req) : POk P h ρ op r := by
  unfold pureOp2 at hb
  split at hb
  · exact build2_ok hb hreq
  · exact POk.assertA hb hreq
  · split at hb
    · rename_i hx hy; exact POk.eqAgg hx hy hb hreq
    · exact binAV_ok hk hb hreq
  · split at hb
    · rename_i hx
      simp only [Option.some.injEq, Prod.mk.injEq] at hb; obtain ⟨rfl, rfl⟩ := hb; exact POk.nilCheckR hx
    · rename_i hx
      simp only [Option.some.injEq, Prod.mk.injEq] at hb; obtain ⟨rfl, rfl⟩ := hb; exact POk.nilCheckO hx
    · cases hb
  · exact pureOp_ok hk hb hreq

/-- One operation. -/
noncomputable def runOp2 (P : Program) (nw : Bool) (h : Heap) (all : List Oper) (o : Oper) (σ : Sl) : Option (Prop × Sl) :=
  match wantA all σ o with
  | some true => match pureOp2 P nw h (ev σ) o.op with
    | some (q, r) => some (q, σ.setO o.dst r)
    | none => none
  | some false => some (True, σ.setO o.dst (.tup []))
  | none => none
end
section
variable {E : Env} {K : List It} {σ σ' : Sl} {h : Heap} {all rest : List Oper} {o : Oper}
theorem aw_2q (nw : Bool) (hd : dstOk E.N o.dst = true) (k : ∀ R : Option (Prop × Sl) → Prop, (∀ q σ', q → aw E (.ops all rest :: K) σ' h → R (some (q, σ'))) → R (runOp2 E.P nw h all o σ)) : aw E (.ops all (o :: rest) :: K) σ h := by
  have := k (fun x => x = runOp2 E.P nw h all o σ → aw E (.ops all (o :: rest) :: K) σ h) (fun q σ' hq ha e => by
    unfold runOp2 at e
    split at e
    · rename_i hw
      split at e
      · rename_i q1 r hp
        simp only [Option.some.injEq, Prod.mk.injEq] at e
        obtain ⟨rfl, rfl⟩ := e
        exact aw_pure hw (pureOp2_ok (fun _ => rfl) hp hq) hd rfl ha
      · cases e
    · rename_i hw
      simp only [Option.some.injEq, Prod.mk.injEq] at e
      obtain ⟨rfl, rfl⟩ := e
      exact aw_skipped hw hd rfl ha
    · cases e)
  exact this rfl
theorem Calm.pure2 {l : List Oper} {nw : Bool} {q : Prop} {r : AV} (hw : wantA l σ o = some true) (hb : pureOp2 E.P nw h (ev σ) o.op = some (q, r)) (hq : q) (hd : dstOk E.N o.dst = true) : Calm E h l σ o r := by
  refine ⟨hd, fun σ' a w Q hs s => ?_⟩
  rw [if_pos (s.wanted ((want_same hs).trans hw))]
  obtain ⟨v, hrun, hr⟩ := pureOp2_ok (fun _ => rfl) hb hq (Stab E.C h w) w a.eval Stab.mono' (fun x hx => by rw [← ev_same hx hs]; exact ev_rep s x) s.heap
  unfold Oper.wp
  rw [hrun o rfl]
  exact s.put hd hr
theorem drk_2q {l rest : List Oper} {n : Nat} (nw : Bool) (hd : dstOk E.N o.dst = true) (k : ∀ R : Option (Prop × Sl) → Prop, (∀ q σ', q → DrK E h l K n rest σ' → R (some (q, σ'))) → R (runOp2 E.P nw h l o σ)) : DrK E h l K (n + 1) (o :: rest) σ := by
  have := k (fun x => x = runOp2 E.P nw h l o σ → DrK E h l K (n + 1) (o :: rest) σ) (fun q σ' hq ha e => by
    unfold runOp2 at e
    split at e
    · rename_i hw
      split at e
      · rename_i q1 r hp
        simp only [Option.some.injEq, Prod.mk.injEq] at e
        obtain ⟨rfl, rfl⟩ := e
        exact drk_cons (Calm.pure2 hw hp hq hd) ha
      · cases e
    · rename_i hw
      simp only [Option.some.injEq, Prod.mk.injEq] at e
      obtain ⟨rfl, rfl⟩ := e
      exact drk_cons (Calm.skip hw hd) ha
    · cases e)
  exact this rfl
end
attribute [go_sem] pureOp2 runOp2 build2 okPart okParts mapCells fillC putC CV.solid eqAgg intsC eqZ assertAV List.set_cons_zero List.set_cons_succ Bool.and_true Bool.true_and Bool.and_self and_true true_and and_self List.all_cons List.all_nil
section
variable {E : Env} {K : List It} {σ : Sl} {h : Heap} {all l rest : List Oper} {o : Oper}
theorem wb1 (hd : dstOk E.N o.dst = true) (k : ∀ R : Option (Prop × Sl) → Prop, (∀ q σ', aw E (.ops all rest :: K) σ' h → (hq : q := by (try simp only [inRange]) <;> and_intros <;> first | exact True.intro | omega | trivial) → R (some (q, σ'))) → R (runOp2 E.P true h all o σ)) : aw E (.ops all (o :: rest) :: K) σ h :=
  aw_2q true hd fun R r => k R fun q σ' ha hq => r q σ' hq ha
theorem wd1 {n : Nat} (hd : dstOk E.N o.dst = true) (k : ∀ R : Option (Prop × Sl) → Prop, (∀ q σ', DrK E h l K n rest σ' → (hq : q := by (try simp only [inRange]) <;> and_intros <;> first | exact True.intro | omega | trivial) → R (some (q, σ'))) → R (runOp2 E.P true h l o σ)) : DrK E h l K (n + 1) (o :: rest) σ :=
  drk_2q true hd fun R r => k R fun q σ' ha hq => r q σ' hq ha
end
end Go.AI

/- Slices that grow: nil or of the call's own. -/
namespace Go.AI

/-- A slice that grows: nil, or block g. -/
def gs (og : Option Nat) (s n : Nat) : CV := match og with
  | none => .nils
  | some g => .osl g s 0 n
def gh (og : Option Nat) (ty : TypeId) (m : Nat) (f : Nat → CV) : Heap := match og with
  | none => []
  | some g => [(g, .cells ty m f)]
@[go_sem] theorem lenCV_gs_some (g s n : Nat) : lenCV (gs (some g) s n) = some n := rfl
theorem lenCV_gs {og : Option Nat} {s n : Nat} (h : og = none → n = 0) : lenCV (gs og s n) = some n := by
  cases og with
  | none => rw [h rfl]; rfl
  | some g => rfl

section
variable {E : Env} {K : List It} {σ σ' : Sl} {h : Heap} {all rest : List Oper} {o o1 o2 : Oper}

theorem ORep.cong {S : Bool → Nat → Prop} {w : World} {g n : Nat} {ty : TypeId} {f f' : Nat → CV} (hf : ∀ j, j < n → f j = f' j) (hr : ORep S w g (.cells ty n f)) : ORep S w g (.cells ty n f') := by
  obtain ⟨cs, hb, hn, hj⟩ := hr
  exact ⟨cs, hb, hn, fun j hjl => by rw [← hf j hjl]; exact hj j hjl⟩
/-- The first block, told otherwise. -/
theorem aw_conv1 {g n : Nat} {ty : TypeId} {f f' : Nat → CV} {h : Heap} (hf : ∀ j, j < n → f j = f' j) (k : aw E K σ ((g, .cells ty n f') :: h)) : aw E K σ ((g, .cells ty n f) :: h) := fun a w s => by
  refine k a w ⟨s.size, s.defers, s.slots, fun g' o' hm => ?_, s.nodup, s.keys, s.frame⟩
  rcases List.mem_cons.1 hm with e | hm
  · injection e with e1 e2
    subst e1 e2
    exact ORep.cong hf (s.heap _ _ (List.mem_cons_self ..))
  · exact s.heap g' o' (List.mem_cons_of_mem _ hm)

theorem Heap.del_ne : ∀ {h : Heap} {g : Nat} {o : AObj} {g0 : Nat}, g0 ≠ g → Heap.del ((g0, o) :: h) g = (g0, o) :: h.del g := by
  intro h g o g0 hne
  simp [Heap.del, hne]
theorem Heap.del_app : ∀ {pre : Heap} {g : Nat} {o : AObj}, g ∉ pre.keys → Heap.del (pre ++ [(g, o)]) g = pre
  | [], g, o, _ => by simp [Heap.del]
  | (g0, o0) :: pre, g, o, hn => by
    simp only [Heap.keys, List.map_cons, List.mem_cons, not_or] at hn
    rw [List.cons_append, Heap.del_ne (fun e => hn.1 e.symm), Heap.del_app hn.2]
theorem Heap.get_app : ∀ {pre : Heap} {g : Nat} {o : AObj}, g ∉ pre.keys → Heap.get (pre ++ [(g, o)]) g = some o
  | [], g, o, _ => by simp [Heap.get]
  | (g0, o0) :: pre, g, o, hn => by
    simp only [Heap.keys, List.map_cons, List.mem_cons, not_or] at hn
    rw [List.cons_append]
    simp only [Heap.get, fun e : g0 = g => hn.1 e.symm, if_false]
    rw [if_neg (fun e : g0 = g => hn.1 e.symm)]
    exact Heap.get_app hn.2

theorem aw_nd (k : h.keys.Nodup → aw E K σ h) : aw E K σ h := fun a w s => k s.nodup a w s

/-- out = append(out, x): one element more. -/
theorem aw_push {t e size bytes n d1 s : Nat} {z : List CV} {og : Option Nat} {f f' : Nat → CV} {pre : Heap} {x : Operand} {v : AV} (hop1 : o1.op = .buildSlice t 1 #[(0, x)]) (hop2 : o2.op = .call { callee := .builtin .append, args := #[.tmp s, .tmp d1], argTypes := #[t, t] })
    (hw1 : wantA all σ o1 = some true) (hg2 : o2.guard = none) (hd1 : o1.dst = some d1) (hdk : dstOk E.N o1.dst = true) (hd2 : dstOk E.N o2.dst = true)
    (ht : tElem E.P t = some (e, size, bytes)) (hz : tZero E.P e = some z) (hzl : z.length = size) (hs0 : 0 < size) (hsz : size ≤ 16777216)
    (hs : σ.get s = .c (gs og size n)) (hsd : s ≠ d1) (hog : og = none → n = 0) (hx : ev σ x = v) (hok : okPart v = true) (hvl : v.cells.length = size) (hh : h = pre ++ gh og e (n * size) f)
    (h63 : n + 1 ≤ maxLen) (hby : (n + 1) * bytes ≤ 140737488355328) (hf : ∀ j, j < (n + 1) * size → appF f (n * size) (ofL v.cells) j = f' j)
    (kk : ∀ g', g' ∉ pre.keys → aw E (.ops all rest :: K) ((σ.set d1 (.c .any)).setO o2.dst (.c (gs (some g') size (n + 1)))) (pre ++ gh (some g') e ((n + 1) * size) f')) : aw E (.ops all (o1 :: o2 :: rest) :: K) σ h := by
  subst hh
  obtain ⟨ok1, ok2⟩ := okPart_spec hok
  have hfl : v.flat = true := by
    cases v with
    | tup xs => exact absurd rfl (ok1 xs)
    | c x => rfl
    | agg xs => rfl
  refine aw_buildSlice (xs := [x]) (cells := v.cells) hop1 hw1 hdk ht (by rw [hz]; rfl) rfl (by omega) (by omega) (by intro y hy; simp only [List.mem_singleton] at hy; subst hy; rw [hx]; exact ⟨hfl, ok2, hvl⟩) (by simp [hx]) fun gt hgt => ?_
  rw [hd1]
  have hw2 : ∀ σ2, wantA all σ2 o2 = some true := fun σ2 => by unfold wantA; rw [hg2]
  have hev1 : ev (Sl.setO σ (some d1) (.c (.osl gt size 0 1))) (.tmp d1) = .c (.osl gt size 0 1) := by simp [ev, Sl.setO, Sl.get_set]
  have hevs : ev (Sl.setO σ (some d1) (.c (.osl gt size 0 1))) (.tmp s) = .c (gs og size n) := by simp only [ev, Sl.setO, Sl.get_set, if_neg (Ne.symm hsd)]; exact hs
  have hsrc : ∀ h0 : Heap, Src ((gt, .cells e (1 * size) (ofL v.cells)) :: h0) size (.osl gt size 0 1) 1 (ofL v.cells) := fun h0 => by
    refine .osl (f' := ofL v.cells) (m := 1 * size) (ty := e) (by simp [Heap.get]) (by omega) (fun j _ => by rw [Nat.zero_add])
  have hle : ∀ (A B : AV) (g' : Nat), Sl.le ((σ.set d1 (.c .any)).setO o2.dst B) ((Sl.setO σ (some d1) A).setO o2.dst B) := fun A B g' t' => by
    rw [setO_get, setO_get]
    by_cases e1 : o2.dst = some t'
    · rw [if_pos e1, if_pos e1]; exact .inr rfl
    · rw [if_neg e1, if_neg e1]
      simp only [Sl.setO, Sl.get_set]
      by_cases e2 : d1 = t'
      · rw [if_pos e2]; exact .inl rfl
      · rw [if_neg e2, if_neg e2]; exact .inr rfl
  have hkp : ∀ g' : Nat, g' ∉ Heap.keys ((gt, .cells e (1 * size) (ofL v.cells)) :: pre) → g' ∉ pre.keys := fun g' hg' hm => hg' (by simp only [Heap.keys, List.map_cons, List.mem_cons]; exact .inr hm)
  have hperm : ∀ g' : Nat, (pre ++ gh (some g') e ((n + 1) * size) f').Sublist ((pre ++ [(g', .cells e ((n + 1) * size) f')])) := fun g' => List.Sublist.refl _
  cases og with
  | none =>
    have hn0 : n = 0 := hog rfl
    subst hn0
    refine aw_appendN (cx := .osl gt size 0 1) (k := 1) (f2 := ofL v.cells) hop2 (hw2 _) hd2 ht hz hzl hs0 hevs hev1 (hsrc _) (by omega) (by omega) (by omega) fun g' hg' => ?_
    refine aw_conv1 (f' := f') (fun j hj => ?_) ?_
    · have := hf j (by omega)
      rw [← this]; simp [appF]
    · have hnew : g' ∉ pre.keys := fun hm => hg' (by simp only [Heap.keys, List.map_cons, List.mem_cons, gh, List.append_nil]; exact .inr hm)
      refine aw_perm (h' := (gt, .cells e (1 * size) (ofL v.cells)) :: (pre ++ [(g', .cells e (1 * size) f')])) ?_ ?_
      · have : (pre ++ gh none e (0 * size) f) = pre := by simp [gh]
        rw [this]
        refine (List.Perm.swap _ _ _).trans (List.Perm.cons _ ?_)
        exact (List.perm_append_singleton _ _).symm
      · refine aw_weak (hle _ _ g') (List.Sublist.cons _ (List.Sublist.refl _)) ?_
        have := kk g' hnew
        simpa [gh, gs] using this
  | some g =>
    refine aw_nd fun hnd => ?_
    have hnp : g ∉ pre.keys := fun hm => by
      simp only [Heap.keys, gh, List.map_cons, List.map_append, List.map_nil, List.nodup_cons] at hnd
      have := (List.nodup_append.1 hnd.2).2.2 g hm g (by simp)
      exact this rfl
    have hgtg : gt ≠ g := fun e => hgt (by subst e; simp [Heap.keys, gh])
    refine aw_append (cx := .osl gt size 0 1) (k := 1) (f2 := ofL v.cells) (g := g) (m := n * size) (f := f) (h2 := (gt, .cells e (1 * size) (ofL v.cells)) :: pre) hop2 (hw2 _) hd2 ht hz hzl hs0 hevs ?_ (Nat.le_refl _) hev1 (hsrc _) ?_ (by omega) h63 hby ?_ fun g' hg' => ?_
    · show Heap.get ((gt, _) :: (pre ++ [(g, _)])) g = _
      simp only [Heap.get, if_neg hgtg]
      exact Heap.get_app hnp
    · intro j hj
      have hjl : j < v.cells.length := by omega
      rw [ofL_get v.cells j v.cells[j] (List.getElem?_eq_getElem hjl)]
      exact List.all_eq_true.1 ok2 _ (List.getElem_mem hjl)
    · show Heap.del ((gt, _) :: (pre ++ [(g, _)])) g = _
      rw [Heap.del_ne hgtg, Heap.del_app hnp]
    · refine aw_conv1 (f' := f') hf ?_
      refine aw_perm (h' := (gt, .cells e (1 * size) (ofL v.cells)) :: (pre ++ [(g', .cells e ((n + 1) * size) f')])) ?_ ?_
      · refine (List.Perm.swap _ _ _).trans (List.Perm.cons _ ?_)
        exact (List.perm_append_singleton _ _).symm
      · refine aw_weak (hle _ _ g') (List.Sublist.cons _ (List.Sublist.refl _)) ?_
        exact kk g' (hkp g' hg')

/-- A slice that grows is looked at. -/
theorem le_gs {pre : Heap} {og : Option Nat} {e s n : Nat} {f f' : Nat → CV} (hog : og = none → n = 0) (hn : ∀ g, og = some g → g ∉ pre.keys) (hf : ∀ j, j < n * s → LeC (pre ++ gh og e (n * s) f) (f j) (f' j)) : LeC (pre ++ gh og e (n * s) f) (gs og s n) (.row false s n f') := by
  cases og with
  | none => rw [hog rfl]; exact .nils
  | some g => exact .osl (Heap.get_app (hn g rfl)) (by omega) (fun j hj => by rw [Nat.zero_add]; exact hf j hj)
/-- A slice that has grown is handed back. -/
theorem ler_gs {pre : Heap} {og : Option Nat} {e s n : Nat} {t : Bool} {f f' : Nat → CV} (hog : og = none → n = 0) (hn : ∀ g, og = some g → g ∉ pre.keys) (hf : ∀ j, j < n * s → LeR (pre ++ gh og e (n * s) f) (f j) (f' j)) : LeR (pre ++ gh og e (n * s) f) (gs og s n) (.row t s n f') := by
  cases og with
  | none => rw [hog rfl]; exact .nils
  | some g => exact .osl (Heap.get_app (hn g rfl)) (by omega) (fun j hj => by rw [Nat.zero_add]; exact hf j hj)
theorem wf_push {zs : List Nat} {n : Nat} (hn : zs.length = n) (x : Nat) : ∀ j, j < (n + 1) * 1 → appF (wf zs) (n * 1) (ofL [.int .u32 (x : Int)]) j = wf (zs ++ [x]) j := fun j hj => by
  subst hn
  unfold appF
  by_cases h : j < zs.length * 1
  · rw [if_pos h]
    show CV.int .u32 (zs.getD j 0 : Nat) = CV.int .u32 ((zs ++ [x]).getD j 0 : Nat)
    rw [List.getD_eq_getElem?_getD, List.getD_eq_getElem?_getD, List.getElem?_append_left (by omega)]
  · have : j = zs.length := by omega
    subst this
    rw [if_neg h]
    show ofL [CV.int .u32 (x : Int)] (zs.length - zs.length * 1) = CV.int .u32 ((zs ++ [x]).getD zs.length 0 : Nat)
    rw [Nat.mul_one, Nat.sub_self, List.getD_eq_getElem?_getD, List.getElem?_append_right (Nat.le_refl _), Nat.sub_self]
    rfl
theorem le_gsw {og : Option Nat} {e n : Nat} {zs : List Nat} (hog : og = none → n = 0) (hl : zs.length = n) : LeC (gh og e n (wf zs)) (gs og 1 n) (ws false zs) := by
  subst hl
  have := le_gs (pre := []) (og := og) (e := e) (s := 1) (n := zs.length) (f := wf zs) (f' := fun j => .int .u32 (zs.getD j 0 : Nat)) hog (fun _ _ => by simp [Heap.keys]) (fun j _ => .refl _)
  simpa only [Nat.mul_one, List.nil_append] using this
/-- A list of things of s cells each, laid out one behind the other. -/
def lf {α : Type} (s : Nat) (c : α → List CV) (d : α) (xs : List α) (j : Nat) : CV := ofL (c (xs.getD (j / s) d)) (j % s)
theorem lf_at {α : Type} {s : Nat} {c : α → List CV} {d : α} {xs : List α} {i k : Nat} (hk : k < s) : lf s c d xs (i * s + k) = ofL (c (xs.getD i d)) k := by
  unfold lf
  rw [Nat.mul_comm i s, Nat.mul_add_div (by omega), Nat.mul_add_mod, Nat.div_eq_of_lt hk, Nat.mod_eq_of_lt hk, Nat.add_zero]
theorem lf_push {α : Type} {s n : Nat} {c : α → List CV} {d : α} {xs : List α} (hn : xs.length = n) (v : α) (hs : 0 < s) : ∀ j, j < (n + 1) * s → appF (lf s c d xs) (n * s) (ofL (c v)) j = lf s c d (xs ++ [v]) j := fun j hj => by
  subst hn
  unfold appF
  by_cases h : j < xs.length * s
  · rw [if_pos h]
    unfold lf
    have : j / s < xs.length := (Nat.div_lt_iff_lt_mul hs).2 h
    rw [List.getD_eq_getElem?_getD, List.getD_eq_getElem?_getD, List.getElem?_append_left this]
  · rw [if_neg h]
    obtain ⟨k, rfl⟩ : ∃ k, j = xs.length * s + k := ⟨j - xs.length * s, by omega⟩
    have hk : k < s := by rw [Nat.succ_mul] at hj; omega
    rw [lf_at hk, Nat.add_sub_cancel_left, List.getD_eq_getElem?_getD, List.getElem?_append_right (Nat.le_refl _), Nat.sub_self]
    rfl
theorem updF_out : ∀ (cs : List CV) (f : Nat → CV) (k j : Nat), (j < k ∨ k + cs.length ≤ j) → updF f k cs j = f j
  | [], f, k, j, _ => rfl
  | c :: cs, f, k, j, h => by
    simp only [updF, List.length_cons] at h ⊢
    rw [updF_out cs _ (k + 1) j (by omega), if_neg (by omega)]
theorem updF_in : ∀ (cs : List CV) (f : Nat → CV) (k j : Nat), j < cs.length → updF f k cs (k + j) = ofL cs j
  | [], f, k, j, h => by simp at h
  | c :: cs, f, k, 0, h => by
    simp only [updF, ofL, Nat.add_zero]
    rw [updF_out cs _ (k + 1) k (by omega), if_pos rfl]
  | c :: cs, f, k, j + 1, h => by
    simp only [updF, ofL]
    rw [show k + (j + 1) = (k + 1) + j from by omega]
    exact updF_in cs _ (k + 1) j (by simpa using h)
end
end Go.AI
