/- Texts of one proof, laid one behind the other by a program (merge.py): AiHeap, AiCall, AiEval, AiMem. -/
import Derived.Test.YtmkomfdiggcloaaM01
set_option linter.unusedSimpArgs false
set_option linter.unusedVariables false
/- The rules for a region's operations: what yields without touching memory; new blocks; stores into the call's own blocks. -/
namespace Go.AI
variable {E : Env} {K : List It} {σ σ' : Sl} {h : Heap} {all rest : List Oper} {o : Oper}

def sameB : Bool → Bool → Bool
  | true, true => true
  | false, false => true
  | true, false => false
  | false, true => false
/-- Does the guard let the operation run? -/
def wantA (all : List Oper) (σ : Sl) (o : Oper) : Option Bool :=
  match o.guard with
  | none => some true
  | some (j, want) => match (all[j]?).bind (·.dst) with
    | some t => match σ.get t with
      | .c (.bool b) => some (sameB b want)
      | _ => none
    | none => none

theorem St.wanted {N : Nat} {C : Ctx} {a : Act} {w : World} (s : St N C σ h a w) {b : Bool} (hw : wantA all σ o = some b) : Region.wanted o (yielded all.toArray a.tmps) = b := by
  unfold wantA at hw
  unfold Region.wanted
  cases hg : o.guard with
  | none => rw [hg] at hw; injection hw
  | some p =>
    obtain ⟨j, want⟩ := p
    rw [hg] at hw
    simp only at hw ⊢
    split at hw
    · rename_i t ht
      split at hw
      · rename_i b' hb
        injection hw with hw
        have hs := s.slots t
        rw [hb] at hs
        have hs' : a.tmps.getD t undef = .bool b' := hs
        have hlt : t < a.tmps.size := by
          rcases Nat.lt_or_ge t a.tmps.size with hl | hl
          · exact hl
          · simp [Array.getD, Nat.not_lt.2 hl, undef] at hs'
        have hq : a.tmps[t]? = some (.bool b') := by
          simp [Array.getD, hlt] at hs'
          simp [hlt, hs']
        have : yielded all.toArray a.tmps j = some b' := by
          unfold yielded
          rw [show ((all.toArray[j]?).bind (·.dst)) = some t from by simpa using ht]
          simp [hq]
        rw [this, ← hw]
        cases b' <;> cases want <;> rfl
      · cases hw
    · cases hw

theorem ev_rep {N : Nat} {C : Ctx} {a : Act} {w : World} (s : St N C σ h a w) (x : Operand) : Rep (Stab C h w) w (ev σ x) (a.eval x) := by
  cases x with
  | tmp t => exact s.slots t
  | const v => exact cst_rep _ _ v
  | global g => exact rfl
  | func f => exact rfl

theorem Stab.mono' {C : Ctx} {h : Heap} {w : World} (b : Nat) (hb : Stab C h w true b) : Stab C h w false b := ⟨hb.1.imp (C.mono b) id, hb.2⟩

def dstOk (N : Nat) : Option Nat → Bool
  | some d => decide (d < N)
  | none => true

theorem St.put {N : Nat} {C : Ctx} {a : Act} {w : World} (s : St N C σ h a w) {d : Option Nat} (hd : dstOk N d = true) {r : AV} {v : Value} (hr : Rep (Stab C h w) w r v) : St N C (σ.setO d r) h (a.put d v) w := by
  cases d with
  | none => exact s
  | some d =>
    have hd' : d < N := by simpa [dstOk] using hd
    refine ⟨by simp [Act.put, s.size], s.defers, fun t => ?_, s.heap, s.nodup, s.keys, s.frame⟩
    simp only [Sl.setO, Sl.get_set, Act.put]
    by_cases e : d = t
    · subst e
      have : d < a.tmps.size := by rw [s.size]; exact hd'
      simp [Array.getD, this, hr]
    · rw [if_neg e]
      have h1 := s.slots t
      have : (a.tmps.setIfInBounds d v).getD t undef = a.tmps.getD t undef := by
        rw [Array.getD_eq_getD_getElem?, Array.getD_eq_getD_getElem?, Array.getElem?_setIfInBounds_ne e]
      rw [this]
      exact h1

/-- The rule behind all others: the operation runs, and leaves a state that (σ', h') describes. -/
theorem aw_step {h' : Heap} (hw : wantA all σ o = some true)
    (hs : ∀ a w, St E.N E.C σ h a w → ∃ v w', ((execOp a.eval o).run E.P w = .ok (.value v) w' ∨ ((execOp a.eval o).run E.P w = .ok .skip w' ∧ v = undef)) ∧ St E.N E.C σ' h' (a.put o.dst v) w')
    (k : aw E (.ops all rest :: K) σ' h') : aw E (.ops all (o :: rest) :: K) σ h := fun a w s => by
  show wpList _ _ _ _ _ _
  unfold wpList
  rw [if_pos (s.wanted hw)]
  refine .inl ?_
  obtain ⟨v, w', hrun, s'⟩ := hs a w s
  have hk := k _ _ s'
  unfold Oper.wp
  rcases hrun with hrun | ⟨hrun, rfl⟩
  · rw [hrun]; exact hk
  · rw [hrun]; exact hk

theorem aw_skipped (hw : wantA all σ o = some false) (hd : dstOk E.N o.dst = true) (hσ : σ.setO o.dst (.c .any) = σ') (k : aw E (.ops all rest :: K) σ' h) : aw E (.ops all (o :: rest) :: K) σ h := fun a w s => by
  subst hσ
  show wpList _ _ _ _ _ _
  unfold wpList
  rw [if_neg (by rw [s.wanted hw]; simp)]
  exact k _ _ (s.put hd (r := .c .any) trivial)

theorem aw_pure {r : AV} (hw : wantA all σ o = some true) (ho : POk E.P h (ev σ) o.op r) (hd : dstOk E.N o.dst = true) (hσ : σ.setO o.dst r = σ') (k : aw E (.ops all rest :: K) σ' h) :
    aw E (.ops all (o :: rest) :: K) σ h := by
  subst hσ
  refine aw_step hw (fun a w s => ?_) k
  obtain ⟨v, hrun, hr⟩ := ho (Stab E.C h w) w a.eval Stab.mono' (fun x _ => ev_rep s x) s.heap
  exact ⟨v, w, .inl (hrun o rfl), s.put hd hr⟩

/-- A world in which one block is new, and is the call's own. -/
theorem St.new {N : Nat} {C : Ctx} {a : Act} {w w' : World} {g : Nat} {ob : AObj} (s : St N C σ h a w) (hg : g = w.heap.size) (hfr : Fr (fun _ => False) w w') (hlt : g < w'.heap.size)
    (ho : ORep (Stab C ((g, ob) :: h) w') w' g ob) : St N C σ ((g, ob) :: h) a w' := by
  have hnk : g ∉ h.keys := fun hm => by have := s.klt hm; omega
  have kp : Keeps (Stab C h w) (Stab C ((g, ob) :: h) w') w w' := by
    refine ⟨fun t b hb => ⟨hb.1, Nat.lt_of_lt_of_le hb.2.1 hfr.size, ?_⟩, fun t b hb => hfr.block b hb.2.1 (fun x => x), hfr.has⟩
    have := hb.2.1
    simp only [Heap.keys, List.map_cons, List.mem_cons, not_or]
    exact ⟨by omega, hb.2.2⟩
  refine ⟨s.size, s.defers, fun t => Rep.keep kp (s.slots t), fun g' o' hm => ?_, ?_, fun g' hg' => ?_, ?_⟩
  · simp only [List.mem_cons, Prod.mk.injEq] at hm
    rcases hm with ⟨rfl, rfl⟩ | hm
    · exact ho
    · have h1 := s.heap g' o' hm
      exact ORep.keep kp (hfr.block g' h1.lt (fun x => x)) h1
  · simp only [Heap.keys, List.map_cons, List.nodup_cons]
    exact ⟨hnk, s.nodup⟩
  · simp only [Heap.keys, List.map_cons, List.mem_cons] at hg'
    rcases hg' with rfl | hg'
    · right; have := s.frame.size; omega
    · exact s.keys g' hg'
  · exact s.frame.trans hfr (fun x hx _ => hx.elim)

/-- The rule for an operation that makes one block of cells. -/
theorem aw_new {r : Nat → AV} {ob : AObj} (hw : wantA all σ o = some true) (hd : dstOk E.N o.dst = true)
    (hrun : ∀ a w, St E.N E.C σ h a w → ∃ v w', (execOp a.eval o).run E.P w = .ok (.value v) w' ∧ Fr (fun _ => False) w w' ∧ w.heap.size < w'.heap.size ∧
      ORep (Stab E.C ((w.heap.size, ob) :: h) w') w' w.heap.size ob ∧ Rep (Stab E.C ((w.heap.size, ob) :: h) w') w' (r w.heap.size) v)
    (k : ∀ g, g ∉ h.keys → aw E (.ops all rest :: K) (σ.setO o.dst (r g)) ((g, ob) :: h)) : aw E (.ops all (o :: rest) :: K) σ h := fun a w s => by
  obtain ⟨v, w', hr, hfr, hlt, ho, hrep⟩ := hrun a w s
  have hnk : w.heap.size ∉ h.keys := fun hm => Nat.lt_irrefl _ (s.klt hm)
  have s' := (s.new rfl hfr hlt ho).put hd hrep
  have hk := k _ hnk _ _ s'
  show wpList _ _ _ _ _ _
  unfold wpList
  rw [if_pos (s.wanted hw)]
  refine .inl ?_
  unfold Oper.wp
  rw [hr]
  exact hk

/-- A list of cells as a function of the place. -/
def ofL : List CV → Nat → CV
  | [], _ => .any
  | c :: cs, n => match n with
    | 0 => c
    | n + 1 => ofL cs n
theorem ofL_get : ∀ (cs : List CV) (j : Nat) (c : CV), cs[j]? = some c → ofL cs j = c
  | [], j, c, e => by simp at e
  | a :: cs, 0, c, e => by simpa [ofL] using e
  | a :: cs, j + 1, c, e => by simp at e; exact ofL_get cs j c e

theorem orep_new {C : Ctx} {w : World} {cs : List CV} {us : List Value} {ty : TypeId} {h' : Heap} (hr : RepL (Stab C h' (w.alloc (.cells us.toArray ty))) (w.alloc (.cells us.toArray ty)) cs us) :
    ORep (Stab C h' (w.alloc (.cells us.toArray ty))) (w.alloc (.cells us.toArray ty)) w.heap.size (.cells ty cs.length (ofL cs)) := by
  refine ⟨us.toArray, heap_alloc_new w _, by simp [hr.length], fun j hj => ?_⟩
  obtain ⟨u, hu, hc⟩ := hr.get j cs[j] (List.getElem?_eq_getElem hj)
  exact ⟨u, by simpa using hu, by rw [ofL_get cs j _ (List.getElem?_eq_getElem hj)]; exact hc⟩

theorem keeps_alloc {C : Ctx} {w : World} {ob : AObj} {o : Obj} (hnk : w.heap.size ∉ h.keys) : Keeps (Stab C h w) (Stab C ((w.heap.size, ob) :: h) (w.alloc o)) w (w.alloc o) :=
  ⟨fun t b hb => ⟨hb.1, by have := hb.2.1; simp; omega, by
    have := hb.2.1
    simp only [Heap.keys, List.map_cons, List.mem_cons, not_or]
    exact ⟨by omega, hb.2.2⟩⟩, fun t b hb => RowKit.Below.heap_alloc w o b hb.2.1, (Fr.alloc (fun _ => False) w o).has⟩

/-- A value is laid into a block of its own. -/
theorem aw_box {t : TypeId} {x : Operand} (hop : o.op = .box t x) (hw : wantA all σ o = some true) (hd : dstOk E.N o.dst = true) {v : AV} (hx : ev σ x = v) (hnt : ∀ xs, v ≠ .tup xs) (hs : v.cells.all CV.solid = true)
    (k : ∀ g, g ∉ h.keys → aw E (.ops all rest :: K) (σ.setO o.dst (.c (.optr g 0))) ((g, .cells t v.cells.length (ofL v.cells)) :: h)) : aw E (.ops all (o :: rest) :: K) σ h := by
  refine aw_new (r := fun g => .c (.optr g 0)) (ob := .cells t v.cells.length (ofL v.cells)) hw hd (fun a w s => ?_) k
  have h1 := ev_rep s x
  rw [hx] at h1
  have hnk : w.heap.size ∉ h.keys := fun hm => Nat.lt_irrefl _ (s.klt hm)
  obtain ⟨hL, _⟩ := rep_cells hnt hs h1
  have e : (a.eval x).cells = (a.eval x).cells.toList.toArray := by simp
  refine ⟨.pointer (some ⟨w.heap.size, 0, none⟩), w.alloc (.cells (a.eval x).cells.toList.toArray t), ?_, Fr.alloc _ _ _, by simp, orep_new (hL.keep (keeps_alloc hnk)), rfl⟩
  simp only [execOp, hop, Instr.box, newVar, newRow, Sem.run_bind]
  rw [← e]
  rfl

/-- A variable of its own, zero. -/
theorem aw_alloc {t : TypeId} {z : List CV} (hop : o.op = .alloc t) (hw : wantA all σ o = some true) (hd : dstOk E.N o.dst = true) (hz : tZero E.P t = some z)
    (k : ∀ g, g ∉ h.keys → aw E (.ops all rest :: K) (σ.setO o.dst (.c (.optr g 0))) ((g, .cells t z.length (ofL z)) :: h)) : aw E (.ops all (o :: rest) :: K) σ h := by
  refine aw_new (r := fun g => .c (.optr g 0)) (ob := .cells t z.length (ofL z)) hw hd (fun a w s => ?_) k
  obtain ⟨i, v, hi, hv, rfl⟩ := tZero_spec hz
  refine ⟨.pointer (some ⟨w.heap.size, 0, none⟩), w.alloc (.cells v.cells.toList.toArray t), ?_, Fr.alloc _ _ _, by simp, orep_new (cstL_rep _ _ _), rfl⟩
  simp only [execOp, hop, Instr.alloc, zeroValue, typeInfo, newVar, newRow, Sem.run_bind]
  simp [hi, hv]
end Go.AI

/- Contracts of functions that leave all old memory alone; calls of them; how a body gives one. -/
namespace Go.AI

/-- x can be handed over as y: own rows are looked at, rows that are kept may be looked at. -/
inductive LeC (h : Heap) : CV → CV → Prop
  | refl (x : CV) : LeC h x x
  | any (x : CV) : LeC h x .any
  | nils {t : Bool} {s : Nat} {f : Nat → CV} : LeC h .nils (.row t s 0 f)
  | row {t t' : Bool} {s n : Nat} {f f' : Nat → CV} : (t' = true → t = true) → (∀ j, j < n * s → LeC h (f j) (f' j)) → LeC h (.row t s n f) (.row t' s n f')
  | osl {g s off n m : Nat} {ty : TypeId} {f f' : Nat → CV} : h.get g = some (.cells ty m f) → off + n * s ≤ m → (∀ j, j < n * s → LeC h (f (off + j)) (f' j)) → LeC h (.osl g s off n) (.row false s n f')
  | ifc {t : TypeId} {x y : CV} : LeC h x y → LeC h (.ifc t x) (.ifc t y)
def LeL (h : Heap) : List CV → List CV → Prop
  | [], [] => True
  | x :: xs, y :: ys => LeC h x y ∧ LeL h xs ys
  | _, _ => False
inductive Le0 (h : Heap) : AV → AV → Prop
  | c {x y : CV} : LeC h x y → Le0 h (.c x) (.c y)
  | agg {xs ys : List CV} : LeL h xs ys → Le0 h (.agg xs) (.agg ys)
def LeA (h : Heap) : List AV → List AV → Prop
  | [], [] => True
  | x :: xs, y :: ys => Le0 h x y ∧ LeA h xs ys
  | _, _ => False

/-- What may be looked at besides: the own rows. -/
def Vis (S : Bool → Nat → Prop) (h : Heap) (t : Bool) (b : Nat) : Prop := S t b ∨ (t = false ∧ b ∈ h.keys)

theorem LeC.rep {S : Bool → Nat → Prop} {w : World} {h : Heap} (hm : ∀ b, S true b → S false b) (hh : ∀ g o, (g, o) ∈ h → ORep S w g o) {x y : CV} (le : LeC h x y) : ∀ {v : Value}, RepC S w x v → RepC (Vis S h) w y v := by
  have kp : Keeps S (Vis S h) w w := ⟨fun _ _ hb => .inl hb, fun _ _ _ => rfl, fun _ _ e => e⟩
  induction le with
  | refl x => intro v hr; exact hr.keep kp
  | any x => intro v _; trivial
  | nils => intro v hr; obtain ⟨A, hv⟩ := hr; exact ⟨A, 0, hv, Nat.le_refl _, fun h0 => by simp at h0⟩
  | @row t t' s n f f' ht _ ih =>
    intro v hr
    obtain ⟨A, c, hv, hc, hn⟩ := hr
    refine ⟨A, c, hv, hc, fun h0 => ?_⟩
    obtain ⟨ad, hA, hS, hj⟩ := hn h0
    refine ⟨ad, hA, .inl ?_, fun j hjl => ?_⟩
    · cases t' with
      | true => rw [ht rfl] at hS; exact hS
      | false => cases t with
        | true => exact hm _ hS
        | false => exact hS
    · obtain ⟨u, hu, hf⟩ := hj j hjl
      exact ⟨u, hu, ih j hjl hf⟩
  | @osl g s off n m ty f f' hg hle _ ih =>
    intro v hr
    obtain ⟨c, hv, hc, _, _⟩ := hr
    obtain ⟨cs, hb, hn, hj⟩ := hh g _ (Heap.get_mem hg)
    refine ⟨some ⟨g, off, none⟩, c, hv, hc, fun _ => ⟨⟨g, off, none⟩, rfl, .inr ⟨rfl, ?_⟩, fun j hjl => ?_⟩⟩
    · exact List.mem_map.2 ⟨_, Heap.get_mem hg, rfl⟩
    · obtain ⟨u, hu, hf⟩ := hj (off + j) (by omega)
      exact ⟨u, by rw [add_mk, cell_own hb]; exact hu, ih j hjl hf⟩
  | ifc _ ih => intro v hr; obtain ⟨u, hu, hx⟩ := hr; exact ⟨u, hu, ih hx⟩

theorem LeL.rep {S : Bool → Nat → Prop} {w : World} {h : Heap} (hm : ∀ b, S true b → S false b) (hh : ∀ g o, (g, o) ∈ h → ORep S w g o) : ∀ {xs ys : List CV} {us : List Value}, LeL h xs ys → RepL S w xs us → RepL (Vis S h) w ys us
  | [], [], [], _, _ => trivial
  | _ :: _, _ :: _, _ :: _, le, hr => ⟨le.1.rep hm hh hr.1, LeL.rep hm hh le.2 hr.2⟩
  | [], [], _ :: _, _, hr => hr.elim
  | _ :: _, _ :: _, [], _, hr => hr.elim
  | [], _ :: _, _, le, _ => le.elim
  | _ :: _, [], _, le, _ => le.elim

theorem Le0.rep {S : Bool → Nat → Prop} {w : World} {h : Heap} (hm : ∀ b, S true b → S false b) (hh : ∀ g o, (g, o) ∈ h → ORep S w g o) {x y : AV} {v : Value} (le : Le0 h x y) (hr : Rep S w x v) : Rep0 (Vis S h) w y v := by
  cases le with
  | c l => exact l.rep hm hh hr
  | agg l => obtain ⟨us, hv, hu⟩ := hr; exact ⟨us, hv, l.rep hm hh hu⟩

/-- The values of the operands, all at once. -/
theorem LeA.rep {N : Nat} {C : Ctx} {σ : Sl} {h : Heap} {a : Act} {w : World} (s : St N C σ h a w) : ∀ {xs : List Operand} {ys : List AV}, LeA h (xs.map (ev σ)) ys → RepT (Vis (Stab C h w) h) w ys (xs.map a.eval)
  | [], [], _ => trivial
  | x :: xs, y :: ys, le => ⟨le.1.rep Stab.mono' s.heap (ev_rep s x), LeA.rep s le.2⟩
  | [], _ :: _, le => le.elim
  | _ :: _, [], le => le.elim

def Callable (P : Program) (f : FuncId) : Prop := ∃ fn, P.funcs[f]? = some fn ∧ fn.body.isNone = false ∧ (fn.name == "runtime.NumGoroutine") = false
theorem Callable.run {P : Program} {f : FuncId} (hc : Callable P f) (args : Array Value) (w : World) : (callFunc f args).run P w = .ok (.enter f args) w := by
  obtain ⟨fn, hf, hb, hn⟩ := hc
  have hn' : ¬ fn.name = "runtime.NumGoroutine" := by simpa using hn
  have hb' : ¬ fn.body = none := fun e => by rw [e] at hb; cases hb
  unfold callFunc
  simp [hf, hb', hn']

/-- CONTRACT: called with what args describe, f returns what r describes, and no old block has changed. What it hands back lies in blocks that are new or were handed over to be kept. -/
def Fa (P : Program) (f : FuncId) (args : List AV) (r : AV) : Prop :=
  Callable P f ∧ ∀ (S : Bool → Nat → Prop) (w : World) (vs : List Value), (∀ b, S true b → S false b) → (∀ t b, S t b → b < w.heap.size) → RepT S w args vs →
    Calls P f vs.toArray w fun e w' => ∃ v, e = .returned v ∧ Rep (fun _ b => (S true b ∨ w.heap.size ≤ b) ∧ b < w'.heap.size) w' r v ∧ Fr (fun _ => False) w w'

section
variable {E : Env} {K : List It} {σ σ' : Sl} {h : Heap} {all rest : List Oper} {o : Oper}

theorem St.later {N : Nat} {C : Ctx} {a : Act} {w w' : World} (s : St N C σ h a w) (hfr : Fr (fun _ => False) w w') : St N C σ h a w' := by
  have kp : Keeps (Stab C h w) (Stab C h w') w w' := ⟨fun t b hb => ⟨hb.1, Nat.lt_of_lt_of_le hb.2.1 hfr.size, hb.2.2⟩, fun t b hb => hfr.block b hb.2.1 (fun x => x), hfr.has⟩
  exact ⟨s.size, s.defers, fun t => Rep.keep kp (s.slots t), fun g o hm => by
    have h1 := s.heap g o hm
    exact ORep.keep kp (hfr.block g h1.lt (fun x => x)) h1, s.nodup, s.keys, s.frame.trans hfr (fun x hx _ => hx.elim)⟩

theorem Fa.use {P : Program} {N : Nat} {C : Ctx} {a : Act} {w : World} {f : FuncId} {xs : List Operand} {args : List AV} {r : AV} (hf : Fa P f args r) (s : St N C σ h a w) (le : LeA h (xs.map (ev σ)) args) :
    Calls P f (xs.map a.eval).toArray w fun e w' => ∃ v, e = .returned v ∧ Rep (Stab C h w') w' r v ∧ Fr (fun _ => False) w w' := by
  have hlt : ∀ t b, Vis (Stab C h w) h t b → b < w.heap.size := fun t b hb => hb.elim (fun x => x.2.1) (fun x => s.klt x.2)
  refine (hf.2 (Vis (Stab C h w) h) w _ (fun b hb => ?_) hlt (le.rep s)).mono ?_
  · rcases hb with hb | hb
    · exact .inl (Stab.mono' b hb)
    · exact absurd hb.1 (by simp)
  · rintro e w' ⟨v, he, hr, hfr⟩
    refine ⟨v, he, hr.keep ⟨fun t b hb => ?_, fun _ _ _ => rfl, fun _ _ x => x⟩, hfr⟩
    obtain ⟨hb1, hb2⟩ := hb
    rcases hb1 with (hb1 | hb1) | hb1
    · have h1 : Stab C h w' true b := ⟨hb1.1, hb2, hb1.2.2⟩
      cases t
      · exact Stab.mono' b h1
      · exact h1
    · exact absurd hb1.1 (by simp)
    · refine ⟨.inr ?_, hb2, fun hm => ?_⟩
      · have := s.frame.size; omega
      · have := s.klt hm; omega

theorem aw_call {f : FuncId} {xs : List Operand} {ts : Array TypeId} {args : List AV} {r : AV} (hf : Fa E.P f args r) (hop : o.op = .call { callee := .value (.func f), args := xs.toArray, argTypes := ts }) (hw : wantA all σ o = some true) (hd : dstOk E.N o.dst = true)
    (le : LeA h (xs.map (ev σ)) args) (hσ : σ.setO o.dst r = σ') (k : aw E (.ops all rest :: K) σ' h) : aw E (.ops all (o :: rest) :: K) σ h := fun a w s => by
  subst hσ
  show wpList _ _ _ _ _ _
  unfold wpList
  rw [if_pos (s.wanted hw)]
  refine .inl ?_
  unfold Oper.wp
  have hrun : (execOp a.eval o).run E.P w = .ok (.enter f (xs.map a.eval).toArray) w := by
    simp only [execOp, hop, resolve, Act.eval, Deferred.ofValue, invoke, Sem.run_bind]
    have := hf.1.run (#[] ++ (Array.map a.eval xs.toArray) ++ #[]) w
    simp only [Sem.run_pure, Result.andThen_ok]
    rw [show ((xs.map a.eval).toArray) = (#[] ++ (Array.map a.eval xs.toArray) ++ #[]) from by simp]
    exact this
  rw [hrun]
  show Calls _ _ _ _ _
  refine (hf.use s le).mono ?_
  rintro e w' ⟨v, rfl, hr, hfr⟩
  exact k _ _ ((s.later hfr).put hd hr)

theorem aw_callq {f : FuncId} {xs : List Operand} {ts : Array TypeId} {args : List AV} {r : AV} (hf : Fa E.P f args r) (hop : o.op = .call { callee := .value (.func f), args := xs.toArray, argTypes := ts }) (hw : wantA all σ o = some true) (hd : dstOk E.N o.dst = true)
    (le : LeA h (xs.map (ev σ)) args) (k : aw E (.ops all rest :: K) (σ.setO o.dst r) h) : aw E (.ops all (o :: rest) :: K) σ h := aw_call hf hop hw hd le rfl k

/-- x can be handed back as y when the call ends and gives up what it owns. -/
inductive LeR (h : Heap) : CV → CV → Prop
  | int (k : IntKind) (n : Int) : LeR h (.int k n) (.int k n)
  | bool (b : Bool) : LeR h (.bool b) (.bool b)
  | str (s : ByteArray) : LeR h (.str s) (.str s)
  | nilI : LeR h .nilI .nilI
  | nils' : LeR h .nils .nils
  | any (x : CV) : LeR h x .any
  | nils {t : Bool} {s : Nat} {f : Nat → CV} : LeR h .nils (.row t s 0 f)
  | row {t : Bool} {s n : Nat} {f f' : Nat → CV} : (∀ j, j < n * s → LeR h (f j) (f' j)) → LeR h (.row true s n f) (.row t s n f')
  | osl {t : Bool} {g s off n m : Nat} {ty : TypeId} {f f' : Nat → CV} : h.get g = some (.cells ty m f) → off + n * s ≤ m → (∀ j, j < n * s → LeR h (f (off + j)) (f' j)) → LeR h (.osl g s off n) (.row t s n f')
  | ifc {t : TypeId} {x y : CV} : LeR h x y → LeR h (.ifc t x) (.ifc t y)
def LeRL (h : Heap) : List CV → List CV → Prop
  | [], [] => True
  | x :: xs, y :: ys => LeR h x y ∧ LeRL h xs ys
  | _, _ => False
inductive LeR0 (h : Heap) : AV → AV → Prop
  | c {x y : CV} : LeR h x y → LeR0 h (.c x) (.c y)
  | agg {xs ys : List CV} : LeRL h xs ys → LeR0 h (.agg xs) (.agg ys)
def LeRT (h : Heap) : List AV → List AV → Prop
  | [], [] => True
  | x :: xs, y :: ys => LeR0 h x y ∧ LeRT h xs ys
  | _, _ => False
inductive LeRA (h : Heap) : AV → AV → Prop
  | one {x y : AV} : LeR0 h x y → LeRA h x y
  | tup {xs ys : List AV} : LeRT h xs ys → LeRA h (.tup xs) (.tup ys)

/-- The blocks that may be handed back. -/
def Back (C : Ctx) (w : World) (_ : Bool) (b : Nat) : Prop := (C.S0 true b ∨ C.w0.heap.size ≤ b) ∧ b < w.heap.size

theorem LeR.rep {C : Ctx} {w : World} {h : Heap} (hk : ∀ g ∈ h.keys, C.w0.heap.size ≤ g) (hh : ∀ g o, (g, o) ∈ h → ORep (Stab C h w) w g o) {x y : CV} (le : LeR h x y) : ∀ {v : Value}, RepC (Stab C h w) w x v → RepC (Back C w) w y v := by
  induction le with
  | int k n => intro v hr; exact hr
  | bool b => intro v hr; exact hr
  | str s => intro v hr; exact hr
  | nilI => intro v hr; exact hr
  | nils' => intro v hr; exact hr
  | any x => intro v _; trivial
  | nils => intro v hr; obtain ⟨A, hv⟩ := hr; exact ⟨A, 0, hv, Nat.le_refl _, fun h0 => by simp at h0⟩
  | @row t s n f f' _ ih =>
    intro v hr
    obtain ⟨A, c, hv, hc, hn⟩ := hr
    refine ⟨A, c, hv, hc, fun h0 => ?_⟩
    obtain ⟨ad, hA, hS, hj⟩ := hn h0
    refine ⟨ad, hA, ⟨hS.1, hS.2.1⟩, fun j hjl => ?_⟩
    obtain ⟨u, hu, hf⟩ := hj j hjl
    exact ⟨u, hu, ih j hjl hf⟩
  | @osl t g s off n m ty f f' hg hle _ ih =>
    intro v hr
    obtain ⟨c, hv, hc, _, _⟩ := hr
    have ho := hh g _ (Heap.get_mem hg)
    have hlt := ho.lt
    obtain ⟨cs, hb, hn, hj⟩ := ho
    refine ⟨some ⟨g, off, none⟩, c, hv, hc, fun _ => ⟨⟨g, off, none⟩, rfl, ⟨.inr (hk g (List.mem_map.2 ⟨_, Heap.get_mem hg, rfl⟩)), hlt⟩, fun j hjl => ?_⟩⟩
    obtain ⟨u, hu, hf⟩ := hj (off + j) (by omega)
    exact ⟨u, by rw [add_mk, cell_own hb]; exact hu, ih j hjl hf⟩
  | ifc _ ih => intro v hr; obtain ⟨u, hu, hx⟩ := hr; exact ⟨u, hu, ih hx⟩
theorem LeRL.rep {C : Ctx} {w : World} {h : Heap} (hk : ∀ g ∈ h.keys, C.w0.heap.size ≤ g) (hh : ∀ g o, (g, o) ∈ h → ORep (Stab C h w) w g o) : ∀ {xs ys : List CV} {us : List Value}, LeRL h xs ys → RepL (Stab C h w) w xs us → RepL (Back C w) w ys us
  | [], [], [], _, _ => trivial
  | _ :: _, _ :: _, _ :: _, le, hr => ⟨le.1.rep hk hh hr.1, LeRL.rep hk hh le.2 hr.2⟩
  | [], [], _ :: _, _, hr => hr.elim
  | _ :: _, _ :: _, [], _, hr => hr.elim
  | [], _ :: _, _, le, _ => le.elim
  | _ :: _, [], _, le, _ => le.elim
theorem LeR0.rep {C : Ctx} {w : World} {h : Heap} (hk : ∀ g ∈ h.keys, C.w0.heap.size ≤ g) (hh : ∀ g o, (g, o) ∈ h → ORep (Stab C h w) w g o) {x y : AV} {v : Value} (le : LeR0 h x y) (hr : Rep0 (Stab C h w) w x v) : Rep0 (Back C w) w y v := by
  cases le with
  | c l => exact l.rep hk hh hr
  | agg l => obtain ⟨us, hv, hu⟩ := hr; exact ⟨us, hv, l.rep hk hh hu⟩
theorem LeRT.rep {C : Ctx} {w : World} {h : Heap} (hk : ∀ g ∈ h.keys, C.w0.heap.size ≤ g) (hh : ∀ g o, (g, o) ∈ h → ORep (Stab C h w) w g o) : ∀ {xs ys : List AV} {us : List Value}, LeRT h xs ys → RepT (Stab C h w) w xs us → RepT (Back C w) w ys us
  | [], [], [], _, _ => trivial
  | _ :: _, _ :: _, _ :: _, le, hr => ⟨le.1.rep hk hh hr.1, LeRT.rep hk hh le.2 hr.2⟩
  | [], [], _ :: _, _, hr => hr.elim
  | _ :: _, _ :: _, [], _, hr => hr.elim
  | [], _ :: _, _, le, _ => le.elim
  | _ :: _, [], _, le, _ => le.elim
theorem rep_of_rep0 {S : Bool → Nat → Prop} {w : World} {x : AV} {v : Value} (hr : Rep0 S w x v) : Rep S w x v := by
  cases x with
  | tup xs => exact hr.elim
  | c x => exact hr
  | agg cs => exact hr
theorem LeRA.rep {C : Ctx} {w : World} {h : Heap} (hk : ∀ g ∈ h.keys, C.w0.heap.size ≤ g) (hh : ∀ g o, (g, o) ∈ h → ORep (Stab C h w) w g o) {x y : AV} {v : Value} (le : LeRA h x y) (hr : Rep (Stab C h w) w x v) : Rep (Back C w) w y v := by
  cases le with
  | one l =>
    cases l with
    | c l => exact l.rep hk hh hr
    | agg l => obtain ⟨us, hv, hu⟩ := hr; exact ⟨us, hv, l.rep hk hh hu⟩
  | tup l => obtain ⟨us, hv, hu⟩ := hr; exact ⟨us, hv, l.rep hk hh hu⟩

/-- What a result variable holds. -/
def rvAV (P : Program) (σ : Sl) (h : Heap) : ResultVar → Option AV
  | .tmp t => some (σ.get t)
  | .cell a t => match σ.get a, tSz P t with
    | .c (.optr g off), some (ag, n) => match h.get g with
      | some (.cells _ m f) => if off + n ≤ m ∧ (ag = true ∨ n = 1) then some (if ag then .agg (cellsAt f off 0 n) else .c (f off)) else none
      | _ => none
    | _, _ => none
theorem rvAV_run {P : Program} {N : Nat} {C : Ctx} {a : Act} {w : World} (s : St N C σ h a w) {rv : ResultVar} {x : AV} (hx : rvAV P σ h rv = some x) :
    ∃ v, (match rv with
      | .tmp t => (pure (a.tmps.getD t undef) : Sem Value)
      | .cell c t => do loadVar t (← asAddr (a.tmps.getD c undef))).run P w = .ok v w ∧ Rep (Stab C h w) w x v := by
  cases rv with
  | tmp t => simp only [rvAV, Option.some.injEq] at hx; subst hx; exact ⟨_, rfl, s.slots t⟩
  | cell c t =>
    simp only [rvAV] at hx
    split at hx
    · rename_i g off ag n hc ht
      split at hx
      · rename_i ty m f hg
        split at hx
        · rename_i hle
          injection hx with hx
          subst hx
          have h1 := s.slots c
          rw [hc] at h1
          have hv : a.tmps.getD c undef = .pointer (some ⟨g, off, none⟩) := h1
          obtain ⟨cs, hb, hn, hj⟩ := s.heap g _ (Heap.get_mem hg)
          obtain ⟨v, hrun, hr⟩ := run_loadVar (P := P) (ad := ⟨g, off, none⟩) (off := off) ht (fun e => hle.2.elim (fun x => by rw [e] at x; cases x) id) (fun j hjn => by
            obtain ⟨u, hu, hr⟩ := hj (off + j) (by omega)
            exact ⟨u, by rw [add_mk, cell_own hb]; exact hu, hr⟩)
          exact ⟨v, by simp only [hv, asAddr, Sem.run_bind, Sem.run_pure, Result.andThen_ok, hrun], hr⟩
        · cases hx
      · cases hx
    · cases hx

/-- The results of a function, as one value. -/
def resAV (P : Program) (σ : Sl) (h : Heap) : List ResultVar → Option AV
  | [rv] => rvAV P σ h rv
  | rvs => (rvs.mapM (rvAV P σ h)).map .tup

theorem CV_ne_tup (x : CV) : ∀ xs, AV.c x ≠ .tup xs := fun _ e => by cases e

def AV.flat : AV → Bool
  | .tup _ => false
  | _ => true
theorem rep0_of_rep {S : Bool → Nat → Prop} {w : World} {x : AV} {v : Value} (hf : x.flat = true) (hr : Rep S w x v) : Rep0 S w x v := by
  cases x with
  | tup xs => cases hf
  | c x => exact hr
  | agg cs => exact hr

def rvSem (tmps : Array Value) : ResultVar → Sem Value
  | .tmp t => pure (tmps.getD t undef)
  | .cell a t => do loadVar t (← asAddr (tmps.getD a undef))

theorem rvs_run {P : Program} {N : Nat} {C : Ctx} {a : Act} {w : World} (s : St N C σ h a w) : ∀ (rvs : List ResultVar) (xs : List AV), rvs.mapM (rvAV P σ h) = some xs → xs.all AV.flat = true →
    ∃ vs : List Value, (rvs.mapM (rvSem a.tmps)).run P w = .ok vs w ∧ RepT (Stab C h w) w xs vs
  | [], xs, hx, _ => by
    simp at hx
    subst hx
    exact ⟨[], by simp, trivial⟩
  | rv :: rvs, xs, hx, hfl => by
    rw [List.mapM_cons] at hx
    cases h1 : rvAV P σ h rv with
    | none => rw [h1] at hx; cases hx
    | some x =>
      rw [h1] at hx
      cases h2 : rvs.mapM (rvAV P σ h) with
      | none => rw [h2] at hx; cases hx
      | some ys =>
        rw [h2] at hx
        have hx' : xs = x :: ys := by injection hx with hx; exact hx.symm
        subst hx'
        simp only [List.all_cons, Bool.and_eq_true] at hfl
        obtain ⟨v, hv, hr⟩ := rvAV_run s h1
        obtain ⟨vs, hvs, hrs⟩ := rvs_run s rvs ys h2 hfl.2
        refine ⟨v :: vs, ?_, rep0_of_rep hfl.1 hr, hrs⟩
        rw [List.mapM_cons]
        have hv' : (rvSem a.tmps rv).run P w = .ok v w := by cases rv <;> exact hv
        simp [hv', hvs]

theorem results_run {P : Program} {N : Nat} {C : Ctx} {a : Act} {w : World} {fn : Func} (s : St N C σ h a w) {rvs : List ResultVar} (hrs : fn.results = rvs.toArray) {x : AV} (hx : resAV P σ h rvs = some x)
    (hfl : ∀ xs, x = .tup xs → xs.all AV.flat = true) : ∃ v, (results fn a.tmps).run P w = .ok v w ∧ Rep (Stab C h w) w x v := by
  have he : results fn a.tmps = (do let vs ← fn.results.mapM (rvSem a.tmps); pure (if h : vs.size = 1 then vs[0] else .tuple vs)) := by
    unfold results
    congr 1
  rw [he, hrs]
  match rvs, hx with
  | [rv], hx =>
    obtain ⟨v, hv, hr⟩ := rvAV_run s hx
    have hv' : (rvSem a.tmps rv).run P w = .ok v w := by cases rv <;> exact hv
    exact ⟨v, by simp [hv'], hr⟩
  | [], hx =>
    simp [resAV] at hx
    subst hx
    exact ⟨.tuple #[], by simp, [], rfl, trivial⟩
  | r1 :: r2 :: rvs, hx =>
    simp only [resAV] at hx
    cases h2 : (r1 :: r2 :: rvs).mapM (rvAV P σ h) with
    | none => rw [h2] at hx; cases hx
    | some ys =>
      rw [h2] at hx
      injection hx with hx
      obtain ⟨vs, hvs, hrs'⟩ := rvs_run s _ ys h2 (hfl ys hx.symm)
      subst hx
      have hl : vs.length = (r1 :: r2 :: rvs).length := by
        have k1 : ∀ (xs : List AV) (us : List Value), RepT (Stab C h w) w xs us → us.length = xs.length := by
          intro xs
          induction xs with
          | nil => intro us hr; cases us with
            | nil => rfl
            | cons => exact hr.elim
          | cons x xs ih => intro us hr; cases us with
            | nil => exact hr.elim
            | cons u us => simp [ih us hr.2]
        have k2 : ∀ (l : List ResultVar) (ys : List AV), l.mapM (rvAV P σ h) = some ys → ys.length = l.length := by
          intro l
          induction l with
          | nil => intro ys hy; simp at hy; subst hy; rfl
          | cons a l ih =>
            intro ys hy
            rw [List.mapM_cons] at hy
            cases e1 : rvAV P σ h a with
            | none => rw [e1] at hy; cases hy
            | some x =>
              rw [e1] at hy
              cases e2 : l.mapM (rvAV P σ h) with
              | none => rw [e2] at hy; cases hy
              | some zs =>
                rw [e2] at hy
                have : ys = x :: zs := by injection hy with hy; exact hy.symm
                subst this
                simp [ih zs e2]
        rw [k1 _ _ hrs', k2 _ _ h2]
      refine ⟨.tuple vs.toArray, ?_, vs, rfl, hrs'⟩
      have hm : (Array.mapM (rvSem a.tmps) (r1 :: r2 :: rvs).toArray).run P w = .ok vs.toArray w := by
        rw [List.mapM_toArray]
        simp only [Sem.run_map, hvs, Result.andThen_ok]
      simp only [Sem.run_bind, hm, Result.andThen_ok, Sem.run_pure]
      rw [dif_neg (by simp [hl])]

/-- What a function of this contract must have come to when it ends. -/
def Done (C : Ctx) (r : AV) : Ending → World → Prop := fun e w' => ∃ v, e = .returned v ∧ Rep (Back C w') w' r v ∧ Fr (fun _ => False) C.w0 w'
def envOf (P : Program) (fn : Func) (C : Ctx) (r : AV) : Env := { P, N := fn.ntmps, C, Q := bodyPost P fn (Done C r) }

theorem done_of {P : Program} {fn : Func} {C : Ctx} {r x : AV} {a : Act} {w : World} (hC : ∀ b, ¬ C.own0 b) (s : St fn.ntmps C σ h a w) {rvs : List ResultVar} (hrs : fn.results = rvs.toArray) (hx : resAV P σ h rvs = some x)
    (hfl : ∀ xs, x = .tup xs → xs.all AV.flat = true) (le : LeRA h x r) : a.defers = [] ∧ ∃ v, (results fn a.tmps).run P w = .ok v w ∧ Done C r (.returned v) w := by
  obtain ⟨v, hv, hr⟩ := results_run s hrs hx hfl
  refine ⟨s.defers, v, hv, v, rfl, le.rep (fun g hg => (s.keys g hg).resolve_left (hC g)) s.heap hr, ?_⟩
  exact ⟨s.frame.os, s.frame.tape, s.frame.output, s.frame.size, fun b hb _ => s.frame.block b hb (hC b), s.frame.has⟩

theorem aw_ret {P : Program} {fn : Func} {C : Ctx} {r x : AV} {K : List It} (hC : ∀ b, ¬ C.own0 b) {rvs : List ResultVar} (hrs : fn.results = rvs.toArray) (hx : resAV P σ h rvs = some x) (hfl : ∀ xs, x = .tup xs → xs.all AV.flat = true)
    (le : LeRA h x r) : aw (envOf P fn C r) (.code .ret :: K) σ h := fun a w s => wp_ret (exW_ret a w (done_of hC s hrs hx hfl le))
theorem aw_end {P : Program} {fn : Func} {C : Ctx} {r x : AV} (hC : ∀ b, ¬ C.own0 b) {rvs : List ResultVar} (hrs : fn.results = rvs.toArray) (hx : resAV P σ h rvs = some x) (hfl : ∀ xs, x = .tup xs → xs.all AV.flat = true)
    (le : LeRA h x r) : aw (envOf P fn C r) [] σ h := fun a w s => done_of hC s hrs hx hfl le

def flatR : AV → Bool
  | .tup xs => xs.all AV.flat
  | _ => true
theorem flatR_spec {x : AV} (hx : flatR x = true) : ∀ xs, x = .tup xs → xs.all AV.flat = true := fun xs e => by subst e; exact hx
theorem aw_retq {P : Program} {fn : Func} {C : Ctx} {r : AV} {K : List It} (hC : ∀ b, ¬ C.own0 b) {rvs : List ResultVar} (hrs : fn.results = rvs.toArray) (k : ∀ R : Option AV → Prop, (∀ x, flatR x = true → LeRA h x r → R (some x)) → R (resAV P σ h rvs)) :
    aw (envOf P fn C r) (.code .ret :: K) σ h := by
  have := k (fun y => y = resAV P σ h rvs → aw (envOf P fn C r) (.code .ret :: K) σ h) (fun x hf le e => aw_ret hC hrs e.symm (flatR_spec hf) le)
  exact this rfl
theorem aw_endq {P : Program} {fn : Func} {C : Ctx} {r : AV} (hC : ∀ b, ¬ C.own0 b) {rvs : List ResultVar} (hrs : fn.results = rvs.toArray) (k : ∀ R : Option AV → Prop, (∀ x, flatR x = true → LeRA h x r → R (some x)) → R (resAV P σ h rvs)) :
    aw (envOf P fn C r) [] σ h := by
  have := k (fun y => y = resAV P σ h rvs → aw (envOf P fn C r) [] σ h) (fun x hf le e => aw_end hC hrs e.symm (flatR_spec hf) le)
  exact this rfl

/-- The slots at a function's beginning. -/
def initS : Nat → List AV → Sl
  | _, [] => []
  | i, x :: xs => (i, x) :: initS (i + 1) xs
theorem initS_get : ∀ (xs : List AV) (i t : Nat), (initS i xs).get t = if i ≤ t then xs.getD (t - i) (.c .any) else .c .any
  | [], i, t => by simp [initS, Sl.get]
  | x :: xs, i, t => by
    simp only [initS, Sl.get, initS_get xs (i + 1) t]
    by_cases h1 : i = t
    · subst h1; simp
    · rw [if_neg h1]
      by_cases h2 : i ≤ t
      · have h3 : i + 1 ≤ t := by omega
        rw [if_pos h3, if_pos h2]
        have : t - i = (t - (i + 1)) + 1 := by omega
        rw [this]; simp
      · rw [if_neg h2, if_neg (by omega)]

theorem RepT.getD {S : Bool → Nat → Prop} {w : World} : ∀ (xs : List AV) (vs : List Value), RepT S w xs vs → ∀ t, Rep S w (xs.getD t (.c .any)) (vs.getD t undef)
  | [], [], _, t => by simp; trivial
  | x :: xs, v :: vs, hr, 0 => rep_of_rep0 hr.1
  | x :: xs, v :: vs, hr, t + 1 => by simpa using RepT.getD xs vs hr.2 t
  | [], _ :: _, hr, _ => hr.elim
  | _ :: _, [], hr, _ => hr.elim
theorem RepT.len {S : Bool → Nat → Prop} {w : World} : ∀ {xs : List AV} {vs : List Value}, RepT S w xs vs → vs.length = xs.length
  | [], [], _ => rfl
  | _ :: _, _ :: _, hr => by simp [RepT.len hr.2]
  | [], _ :: _, hr => hr.elim
  | _ :: _, [], hr => hr.elim

/-- A BODY GIVES A CONTRACT. -/
theorem fa_of_body {P : Program} {f : FuncId} {fn : Func} {c : Code} {args : List AV} {r : AV} (hf : P.funcs[f]? = some fn) (hb : fn.body = some c) (hn : (fn.name == "runtime.NumGoroutine") = false) (hl : args.length ≤ fn.ntmps)
    (k : ∀ C : Ctx, (∀ b, ¬ C.own0 b) → aw (envOf P fn C r) [.code c] (initS 0 args) []) : Fa P f args r := by
  refine ⟨⟨fn, hf, by rw [hb]; rfl, hn⟩, fun S w vs hm hlt hr => ?_⟩
  let C : Ctx := { w0 := w, S0 := S, own0 := fun _ => False, mono := hm, apart := fun _ _ _ x => x, lt := hlt }
  refine (calls_of_wp hf hb (R := Done C r) ?_).mono ?_
  · have hk := k C (fun _ x => x)
    have kp : Keeps S (Stab C [] w) w w := ⟨fun t b hb => ⟨.inl hb, hlt t b hb, by simp [Heap.keys]⟩, fun _ _ _ => rfl, fun _ _ x => x⟩
    have hlen := hr.len
    refine hk _ _ ⟨?_, rfl, fun t => ?_, fun g o hm => by simp at hm, by simp [Heap.keys], fun g hg => by simp [Heap.keys] at hg, Fr.refl _ _⟩
    · show (vs.toArray ++ Array.replicate (fn.ntmps - vs.toArray.size) undef).size = fn.ntmps
      simp; omega
    · rw [initS_get]
      simp only [Nat.zero_le, if_true, Nat.sub_zero]
      refine Rep.keep kp ?_
      have h1 := RepT.getD args vs hr t
      have h2 : (vs.toArray ++ Array.replicate (fn.ntmps - vs.toArray.size) undef).getD t undef = vs.getD t undef := by
        rw [Array.getD_eq_getD_getElem?, List.getD_eq_getElem?_getD]
        by_cases ht : t < vs.length
        · rw [Array.getElem?_append_left (by simpa using ht)]; simp
        · rw [Array.getElem?_append_right (by simpa using ht)]
          rw [List.getElem?_eq_none (by omega)]
          simp [Array.getElem?_replicate]
          split <;> rfl
      rw [h2]
      exact h1
  · rintro e w' ⟨v, he, hr', hfr⟩
    exact ⟨v, he, hr', hfr⟩
end
end Go.AI

/- One function that says what an operation that leaves memory alone yields, and one rule for all of them. -/
namespace Go.AI
variable {P : Program} {h : Heap} {ρ : Operand → AV}

def inRange : IntKind → Int → Prop
  | .i64, x => -9223372036854775808 ≤ x ∧ x ≤ 9223372036854775807
  | .u64, x => 0 ≤ x ∧ x ≤ 18446744073709551615
  | .u32, x => 0 ≤ x ∧ x ≤ 4294967295
  | .u8, x => 0 ≤ x ∧ x ≤ 255
  | _, _ => False
theorem wrap_inRange {k : IntKind} {x : Int} (hx : inRange k x) : k.wrap x = x := by
  cases k <;> simp only [inRange] at hx
  · rw [IntKind.wrap_i64]; omega
  · simp only [IntKind.wrap, IntKind.bits, IntKind.signed]; simp; omega
  · rw [IntKind.wrap_u32]; omega
  · rw [IntKind.wrap_u64]; omega

/-- Arithmetic that stays in range, if nw; else as it is. -/
noncomputable def binI (nw : Bool) (op : BinOp) (k : IntKind) (a b : Int) : Option (Prop × CV) :=
  match nw, op with
  | true, .add => some (inRange k (a + b), .int k (a + b))
  | true, .sub => some (inRange k (a - b), .int k (a - b))
  | true, .mul => some (inRange k (a * b), .int k (a * b))
  | true, .shl => none
  | _, _ => binInt op k a b
theorem POk.binI {nw : Bool} {op : BinOp} {t t' : TypeId} {x y : Operand} {k : IntKind} {a b : Int} {req : Prop} {r : CV} (hx : ρ x = .c (.int k a)) (hy : ρ y = .c (.int k b))
    (hr : AI.binI nw op k a b = some (req, r)) (hreq : req) : POk P h ρ (.binOp op t x y t') (.c r) := by
  cases nw with
  | false => exact POk.binInt hx hy (by simpa [AI.binI] using hr) hreq
  | true =>
    cases op
    case add =>
      simp only [AI.binI, Option.some.injEq, Prod.mk.injEq] at hr
      obtain ⟨rfl, rfl⟩ := hr
      exact POk.binInt (req := True) hx hy (by simp [AI.binInt, wrapZ_eq, wrap_inRange hreq]) trivial
    case sub =>
      simp only [AI.binI, Option.some.injEq, Prod.mk.injEq] at hr
      obtain ⟨rfl, rfl⟩ := hr
      exact POk.binInt (req := True) hx hy (by simp [AI.binInt, wrapZ_eq, wrap_inRange hreq]) trivial
    case mul =>
      simp only [AI.binI, Option.some.injEq, Prod.mk.injEq] at hr
      obtain ⟨rfl, rfl⟩ := hr
      exact POk.binInt (req := True) hx hy (by simp [AI.binInt, wrapZ_eq, wrap_inRange hreq]) trivial
    case shl => cases hr
    all_goals exact POk.binInt hx hy hr hreq

def isNil : Operand → Bool
  | .const .nilIface => true
  | _ => false
theorem isNil_eq {x : Operand} (hx : isNil x = true) : x = .const .nilIface := by
  unfold isNil at hx
  split at hx
  · rfl
  · cases hx

noncomputable def binAV (P : Program) (nw : Bool) (op : BinOp) (t : TypeId) (y : Operand) : AV → AV → Option (Prop × AV)
  | .c (.int k a), .c (.int k' b) =>
    match op with
    | .shl => (binSh .shl k a b).map fun p => (p.1, .c p.2)
    | .shr => (binSh .shr k a b).map fun p => (p.1, .c p.2)
    | op => if k = k' then (binI nw op k a b).map fun p => (p.1, .c p.2) else none
  | .c (.bool a), .c (.bool b) =>
    match op with
    | .eql => some (tBool P t = true, .c (.bool (a == b)))
    | .neq => some (tBool P t = true, .c (.bool (a != b)))
    | _ => none
  | .c x, .c .nilI =>
    match op, isNil y, nilAV x with
    | .eql, true, some b => some (tIfc P t = true, .c (.bool b))
    | .neq, true, some b => some (tIfc P t = true, .c (.bool !b))
    | _, _, _ => none
  | _, _ => none

def loadAV (P : Program) (t : TypeId) (h : Heap) : AV → Option (Prop × AV)
  | .c (.rptr m f) => match tSz P t with
    | some (true, n) => some (n ≤ m, .agg (cellsAt f 0 0 n))
    | some (false, 1) => some (1 ≤ m, .c (f 0))
    | _ => none
  | .c (.optr g off) => match h.get g, tSz P t with
    | some (.cells _ m f), some (true, n) => some (off + n ≤ m, .agg (cellsAt f off 0 n))
    | some (.cells _ m f), some (false, 1) => some (off + 1 ≤ m, .c (f off))
    | _, _ => none
  | _ => none

def indexAV (P : Program) (t : TypeId) : AV → AV → Option (Prop × AV)
  | .c (.row _ s n f), .c (.int _ i) => match tElem P t with
    | some (_, size, _) => some (s = size ∧ 0 < size ∧ 0 ≤ i ∧ i < n, .c (.rptr s fun j => f (i.toNat * s + j)))
    | none => none
  | .c (.osl g s off n), .c (.int _ i) => match tElem P t with
    | some (_, size, _) => some (s = size ∧ 0 ≤ i ∧ i < n, .c (.optr g (off + i.toNat * s)))
    | none => none
  | _, _ => none

def fieldAV (P : Program) (t i : Nat) : AV → Option (Prop × AV)
  | .c (.optr g o) => (tFld P t i).map fun off => (True, .c (.optr g (o + off)))
  | .c (.rptr n f) => (tFld P t i).map fun off => (off ≤ n, .c (.rptr (n - off) fun j => f (off + j)))
  | _ => none

theorem POk.nilCheckO {x : Operand} {g off : Nat} (hx : ρ x = .c (.optr g off)) : POk P h ρ (.nilCheck x) (.c (.optr g off)) := fun S w e _ ho _ => by
  have h1 := ho x (by simp [Op.operands])
  rw [hx] at h1
  have h2 : e x = .pointer (some ⟨g, off, none⟩) := h1
  exact ⟨_, fun o hop => by simp only [execOp, hop, h2]; rfl, rfl⟩

/-- A conversion that keeps every value. -/
def wide : IntKind → IntKind → Bool
  | .u32, .u64 => true
  | .u32, .i64 => true
  | .u8, .i64 => true
  | .u8, .u64 => true
  | _, _ => false

noncomputable def pureOp (P : Program) (nw : Bool) (h : Heap) (ρ : Operand → AV) : Op → Option (Prop × AV)
  | .move x => some (True, ρ x)
  | .assign x => some (True, ρ x)
  | .pick c a b => match ρ c with
    | .c (.bool t) => some (True, pickAV t (ρ a) (ρ b))
    | _ => none
  | .binOp op t x y _ => binAV P nw op t y (ρ x) (ρ y)
  | .unOp .not _ x => match ρ x with
    | .c (.bool b) => some (True, .c (.bool !b))
    | _ => none
  | .unOp .neg _ x => match ρ x with
    | .c (.int k n) => some (True, .c (.int k (wrapZ k (0 - n))))
    | _ => none
  | .convert s d x => match tInt P s, tInt P d, ρ x with
    | some _, some k', .c (.int ks n) => if wide ks k' then some (inRange k' n, .c (.int k' n)) else some (True, .c (.int k' (wrapZ k' n)))
    | _, _, _ => none
  | .extract x i => match ρ x with
    | .tup xs => (xs[i]?).map fun y => (True, y)
    | _ => none
  | .makeInterface t x => match tInt P t, ρ x with
    | some _, .c c => some (True, .c (.ifc t c))
    | _, _ => none
  | .load t a => loadAV P t h (ρ a)
  | .slice t x lo hi none => sliceAV P ρ t x lo hi
  | .build t ⟨ps⟩ => buildAV P ρ t ps
  | .nilCheck x => match ρ x with
    | .c (.optr g off) => some (True, .c (.optr g off))
    | _ => none
  | .fieldAddr t x i => fieldAV P t i (ρ x)
  | .indexAddr t x ix => indexAV P t (ρ x) (ρ ix)
  | .call { callee := .builtin .len, args := ⟨[x]⟩, argTypes := ⟨[t]⟩ } => match tElem P t, ρ x with
    | some _, .c c => (lenCV c).map fun (n : Nat) => (True, .c (.int .i64 (n : Int)))
    | _, _ => none
  | .call { callee := .builtin .max, args := ⟨[x, y]⟩, argTypes := ⟨[_, _]⟩ } => match ρ x, ρ y with
    | .c (.int k a), .c (.int k' b) => some (k = k', .c (.int k (if b > a then b else a)))
    | _, _ => none
  | .call { callee := .builtin .min, args := ⟨[x, y]⟩, argTypes := ⟨[_, _]⟩ } => match ρ x, ρ y with
    | .c (.int k a), .c (.int k' b) => some (k = k', .c (.int k (if b < a then b else a)))
    | _, _ => none
  | _ => none

theorem binAV_ok {nw : Bool} {op : BinOp} {t t' : TypeId} {x y : Operand} {req : Prop} {r : AV} (hk : ∀ v, ρ (.const v) = cst v) (hb : binAV P nw op t y (ρ x) (ρ y) = some (req, r)) (hreq : req) : POk P h ρ (.binOp op t x y t') r := by
  unfold binAV at hb
  split at hb
  · rename_i k a k' b hx hy
    split at hb
    · simp only [binSh, Option.map_some, Option.some.injEq, Prod.mk.injEq] at hb
      obtain ⟨rfl, rfl⟩ := hb
      exact POk.binSh hx hy rfl hreq
    · simp only [binSh, Option.map_some, Option.some.injEq, Prod.mk.injEq] at hb
      obtain ⟨rfl, rfl⟩ := hb
      exact POk.binSh hx hy rfl hreq
    · split at hb
      · rename_i e
        subst e
        cases hi : binI nw op k a b with
        | none => rw [hi] at hb; cases hb
        | some p =>
          rw [hi] at hb
          simp only [Option.map_some, Option.some.injEq, Prod.mk.injEq] at hb
          obtain ⟨rfl, rfl⟩ := hb
          exact POk.binI hx hy hi hreq
      · cases hb
  · rename_i a b hx hy
    split at hb
    · simp only [Option.some.injEq, Prod.mk.injEq] at hb
      obtain ⟨rfl, rfl⟩ := hb
      exact POk.eqBool hreq hx hy
    · simp only [Option.some.injEq, Prod.mk.injEq] at hb
      obtain ⟨rfl, rfl⟩ := hb
      exact POk.neqBool hreq hx hy
    · cases hb
  · rename_i c hx hy
    split at hb
    · rename_i b hn hc
      simp only [Option.some.injEq, Prod.mk.injEq] at hb
      obtain ⟨rfl, rfl⟩ := hb
      obtain rfl := isNil_eq hn
      exact POk.eqNil hreq hx hc hy
    · rename_i b hn hc
      simp only [Option.some.injEq, Prod.mk.injEq] at hb
      obtain ⟨rfl, rfl⟩ := hb
      obtain rfl := isNil_eq hn
      exact POk.neqNil hreq hx hc hy
    · cases hb
  · cases hb

theorem loadAV_ok {t : TypeId} {a : Operand} {req : Prop} {r : AV} (hb : loadAV P t h (ρ a) = some (req, r)) (hreq : req) : POk P h ρ (.load t a) r := by
  unfold loadAV at hb
  split at hb
  · rename_i m f ha
    split at hb
    · rename_i n ht
      simp only [Option.some.injEq, Prod.mk.injEq] at hb
      obtain ⟨rfl, rfl⟩ := hb
      exact POk.loadR ht (fun e => by cases e) ha hreq
    · rename_i ht
      simp only [Option.some.injEq, Prod.mk.injEq] at hb
      obtain ⟨rfl, rfl⟩ := hb
      exact POk.loadR ht (fun _ => rfl) ha hreq
    · cases hb
  · rename_i g off ha
    split at hb
    · rename_i ty m f n hg ht
      simp only [Option.some.injEq, Prod.mk.injEq] at hb
      obtain ⟨rfl, rfl⟩ := hb
      exact POk.loadO ht (fun e => by cases e) ha hg hreq
    · rename_i ty m f hg ht
      simp only [Option.some.injEq, Prod.mk.injEq] at hb
      obtain ⟨rfl, rfl⟩ := hb
      exact POk.loadO ht (fun _ => rfl) ha hg hreq
    · cases hb
  · cases hb

theorem pureOp_ok {nw : Bool} {op : Op} {req : Prop} {r : AV} (hk : ∀ v, ρ (.const v) = cst v) (hb : pureOp P nw h ρ op = some (req, r)) (hreq : req) : POk P h ρ op r := by
  unfold pureOp at hb
  split at hb
  · simp only [Option.some.injEq, Prod.mk.injEq] at hb; obtain ⟨rfl, rfl⟩ := hb; exact POk.move _
  · simp only [Option.some.injEq, Prod.mk.injEq] at hb; obtain ⟨rfl, rfl⟩ := hb; exact POk.assign _
  · split at hb
    · rename_i hc
      simp only [Option.some.injEq, Prod.mk.injEq] at hb; obtain ⟨rfl, rfl⟩ := hb; exact POk.pick hc
    · cases hb
  · exact binAV_ok hk hb hreq
  · split at hb
    · rename_i hx
      simp only [Option.some.injEq, Prod.mk.injEq] at hb; obtain ⟨rfl, rfl⟩ := hb; exact POk.not hx
    · cases hb
  · split at hb
    · rename_i hx
      simp only [Option.some.injEq, Prod.mk.injEq] at hb; obtain ⟨rfl, rfl⟩ := hb; exact POk.neg hx
    · cases hb
  · split at hb
    · rename_i hs hd hx
      split at hb
      · simp only [Option.some.injEq, Prod.mk.injEq] at hb; obtain ⟨rfl, rfl⟩ := hb
        have := POk.convert (h := h) hs hd hx
        rwa [wrapZ_eq, wrap_inRange hreq] at this
      · simp only [Option.some.injEq, Prod.mk.injEq] at hb; obtain ⟨rfl, rfl⟩ := hb; exact POk.convert hs hd hx
    · cases hb
  · split at hb
    · rename_i i _ xs hx
      cases hi : xs[i]? with
      | none => rw [hi] at hb; cases hb
      | some y =>
        rw [hi] at hb
        simp only [Option.map_some, Option.some.injEq, Prod.mk.injEq] at hb; obtain ⟨rfl, rfl⟩ := hb; exact POk.extract hx hi
    · cases hb
  · split at hb
    · rename_i ht hx
      simp only [Option.some.injEq, Prod.mk.injEq] at hb; obtain ⟨rfl, rfl⟩ := hb; exact POk.makeInterface ht hx
    · cases hb
  · exact loadAV_ok hb hreq
  · exact sliceAV_ok hb hreq
  · exact buildAV_ok hb hreq
  · split at hb
    · rename_i hx
      simp only [Option.some.injEq, Prod.mk.injEq] at hb; obtain ⟨rfl, rfl⟩ := hb; exact POk.nilCheckO hx
    · cases hb
  · rename_i t x i
    unfold fieldAV at hb
    split at hb
    · rename_i g o hx
      cases hf : tFld P t i with
      | none => rw [hf] at hb; cases hb
      | some off =>
        rw [hf] at hb
        simp only [Option.map_some, Option.some.injEq, Prod.mk.injEq] at hb; obtain ⟨rfl, rfl⟩ := hb; exact POk.fieldO hf hx
    · rename_i n f hx
      cases hf : tFld P t i with
      | none => rw [hf] at hb; cases hb
      | some off =>
        rw [hf] at hb
        simp only [Option.map_some, Option.some.injEq, Prod.mk.injEq] at hb; obtain ⟨rfl, rfl⟩ := hb; exact POk.fieldR hf hx hreq
    · cases hb
  · unfold indexAV at hb
    split at hb
    · rename_i hx hix
      split at hb
      · rename_i ht
        simp only [Option.some.injEq, Prod.mk.injEq] at hb; obtain ⟨rfl, rfl⟩ := hb
        obtain ⟨rfl, hz, h0, hl⟩ := hreq
        exact POk.indexR ht hx hix h0 hl hz
      · cases hb
    · rename_i hx hix
      split at hb
      · rename_i ht
        simp only [Option.some.injEq, Prod.mk.injEq] at hb; obtain ⟨rfl, rfl⟩ := hb
        obtain ⟨rfl, h0, hl⟩ := hreq
        exact POk.indexO ht hx hix h0 hl
      · cases hb
    · cases hb
  · split at hb
    · rename_i x t _ _ _ c ht hx
      cases hn : lenCV c with
      | none => rw [hn] at hb; cases hb
      | some n =>
        rw [hn] at hb
        simp only [Option.map_some, Option.some.injEq, Prod.mk.injEq] at hb; obtain ⟨rfl, rfl⟩ := hb
        exact POk.lenS ht hx hn
    · cases hb
  · split at hb
    · rename_i hx hy
      simp only [Option.some.injEq, Prod.mk.injEq] at hb; obtain ⟨rfl, rfl⟩ := hb
      subst hreq
      exact POk.max2 hx hy
    · cases hb
  · split at hb
    · rename_i hx hy
      simp only [Option.some.injEq, Prod.mk.injEq] at hb; obtain ⟨rfl, rfl⟩ := hb
      subst hreq
      exact POk.min2 hx hy
    · cases hb
  · cases hb

theorem aw_p {E : Env} {K : List It} {σ σ' : Sl} {h : Heap} {all rest : List Oper} {o : Oper} (nw : Bool) {req : Prop} {r : AV} (hb : pureOp E.P nw h (ev σ) o.op = some (req, r)) (hreq : req) (hσ : σ.setO o.dst r = σ')
    (hw : wantA all σ o = some true) (hd : dstOk E.N o.dst = true) (k : aw E (.ops all rest :: K) σ' h) : aw E (.ops all (o :: rest) :: K) σ h :=
  aw_pure hw (pureOp_ok (fun _ => rfl) hb hreq) hd hσ k
theorem aw_mv {E : Env} {K : List It} {σ σ' : Sl} {h : Heap} {all rest : List Oper} {o : Oper} {x : Operand} {v : AV} (hop : o.op = .move x) (hv : ev σ x = v) (hσ : σ.setO o.dst v = σ')
    (hw : wantA all σ o = some true) (hd : dstOk E.N o.dst = true) (k : aw E (.ops all rest :: K) σ' h) : aw E (.ops all (o :: rest) :: K) σ h :=
  aw_pure hw (by rw [hop, ← hv]; exact POk.move x) hd hσ k
theorem aw_as {E : Env} {K : List It} {σ σ' : Sl} {h : Heap} {all rest : List Oper} {o : Oper} {x : Operand} {v : AV} (hop : o.op = .assign x) (hv : ev σ x = v) (hσ : σ.setO o.dst v = σ')
    (hw : wantA all σ o = some true) (hd : dstOk E.N o.dst = true) (k : aw E (.ops all rest :: K) σ' h) : aw E (.ops all (o :: rest) :: K) σ h :=
  aw_pure hw (by rw [hop, ← hv]; exact POk.assign x) hd hσ k
end Go.AI

/- Whole regions of operations that leave memory alone; stores, make, append, slices built and cut. -/
namespace Go.AI

noncomputable def runOps (P : Program) (nw : Bool) (h : Heap) (all : List Oper) : List Oper → Prop → Sl → Option (Prop × Sl)
  | [], q, σ => some (q, σ)
  | o :: rest, q, σ => match wantA all σ o with
    | some true => match pureOp P nw h (ev σ) o.op with
      | some (q1, r) => runOps P nw h all rest (q ∧ q1) (σ.setO o.dst r)
      | none => none
    | some false => runOps P nw h all rest q (σ.setO o.dst (.c .any))
    | none => none

def dstsOk (N : Nat) (l : List Oper) : Bool := l.all fun o => dstOk N o.dst

section
variable {E : Env} {K : List It} {σ σ' : Sl} {h : Heap} {all rest : List Oper} {o : Oper}

theorem runOps_q {P : Program} {nw : Bool} : ∀ (l : List Oper) (q : Prop) (σ σ' : Sl) (q' : Prop), runOps P nw h all l q σ = some (q', σ') → q' → q
  | [], q, σ, σ', q', hr, hq => by
    simp only [runOps, Option.some.injEq, Prod.mk.injEq] at hr
    rw [hr.1]; exact hq
  | o :: l, q, σ, σ', q', hr, hq => by
    unfold runOps at hr
    split at hr
    · split at hr
      · exact (runOps_q l _ _ _ _ hr hq).1
      · cases hr
    · exact runOps_q l _ _ _ _ hr hq
    · cases hr
theorem aw_runOps (nw : Bool) : ∀ (l : List Oper) (q : Prop) (σ σ' : Sl) (q' : Prop), runOps E.P nw h all l q σ = some (q', σ') → q' → dstsOk E.N l = true → aw E (.ops all rest :: K) σ' h → aw E (.ops all (l ++ rest) :: K) σ h
  | [], q, σ, σ', q', hr, _, _, k => by
    simp only [runOps, Option.some.injEq, Prod.mk.injEq] at hr
    rw [hr.2]
    exact k
  | o :: l, q, σ, σ', q', hr, hq, hd, k => by
    simp only [dstsOk, List.all_cons, Bool.and_eq_true] at hd
    unfold runOps at hr
    split at hr
    · rename_i hw
      split at hr
      · rename_i q1 r hp
        exact aw_p nw hp (runOps_q l _ _ _ _ hr hq).2 rfl hw hd.1 (aw_runOps nw l _ _ _ q' hr hq hd.2 k)
      · cases hr
    · rename_i hw
      exact aw_skipped hw hd.1 rfl (aw_runOps nw l _ _ _ q' hr hq hd.2 k)
    · cases hr

/-- A region all of whose operations leave memory alone. -/
theorem aw_rp {id : Nat} {l : List Oper} (nw : Bool) {q : Prop} (hr : runOps E.P nw h l l True σ = some (q, σ')) (hq : q) (hd : dstsOk E.N l = true) (k : aw E K σ' h) : aw E (.code (.region id l.toArray false) :: K) σ h :=
  aw_region (by have := aw_runOps (E := E) (K := K) (h := h) (all := l) (rest := []) nw l True σ σ' q hr hq hd (aw_ops_nil k); simpa using this)
theorem aw_rq {id : Nat} {l : List Oper} (nw : Bool) (hd : dstsOk E.N l = true) (k : ∀ R : Option (Prop × Sl) → Prop, (∀ q σ', q → aw E K σ' h → R (some (q, σ'))) → R (runOps E.P nw h l l True σ)) : aw E (.code (.region id l.toArray false) :: K) σ h := by
  have := k (fun x => x = runOps E.P nw h l l True σ → aw E (.code (.region id l.toArray false) :: K) σ h) (fun q σ' hq ha e => aw_rp nw e.symm hq hd ha)
  exact this rfl
theorem aw_1q (nw : Bool) (hd : dstOk E.N o.dst = true) (k : ∀ R : Option (Prop × Sl) → Prop, (∀ q σ', q → aw E (.ops all rest :: K) σ' h → R (some (q, σ'))) → R (runOps E.P nw h all [o] True σ)) : aw E (.ops all (o :: rest) :: K) σ h := by
  have := k (fun x => x = runOps E.P nw h all [o] True σ → aw E (.ops all (o :: rest) :: K) σ h) (fun q σ' hq ha e => aw_runOps (E := E) (K := K) (h := h) (all := all) (rest := rest) nw [o] True σ σ' q e.symm hq (by simpa [dstsOk] using hd) ha)
  exact this rfl
theorem aw_oq {l : List Oper} (n : Nat) (nw : Bool) (hd : dstsOk E.N (l.take n) = true) (k : ∀ R : Option (Prop × Sl) → Prop, (∀ q σ', q → aw E (.ops all (l.drop n) :: K) σ' h → R (some (q, σ'))) → R (runOps E.P nw h all (l.take n) True σ)) : aw E (.ops all l :: K) σ h := by
  have := k (fun x => x = runOps E.P nw h all (l.take n) True σ → aw E (.ops all l :: K) σ h) (fun q σ' hq ha e => by
    have := aw_runOps (E := E) (K := K) (h := h) (all := all) (rest := l.drop n) nw (l.take n) True σ σ' q e.symm hq hd ha
    rwa [List.take_append_drop] at this)
  exact this rfl
/-- The first operations of a region. -/
theorem aw_ops {l : List Oper} (n : Nat) (nw : Bool) {q : Prop} (hr : runOps E.P nw h all (l.take n) True σ = some (q, σ')) (hq : q) (hd : dstsOk E.N (l.take n) = true) (k : aw E (.ops all (l.drop n) :: K) σ' h) : aw E (.ops all l :: K) σ h := by
  have := aw_runOps (E := E) (K := K) (h := h) (all := all) (rest := l.drop n) nw (l.take n) True σ σ' q hr hq hd k
  rwa [List.take_append_drop] at this

def updF (f : Nat → CV) (off : Nat) : List CV → Nat → CV
  | [] => f
  | c :: cs => updF (fun j => if j = off then c else f j) (off + 1) cs
def putL (cs : Array Value) (k : Nat) : List Value → Array Value
  | [] => cs
  | u :: us => putL (cs.setIfInBounds k u) (k + 1) us
theorem putL_size (us : List Value) : ∀ (cs : Array Value) (k : Nat), (putL cs k us).size = cs.size := by
  induction us with
  | nil => intro cs k; rfl
  | cons u us ih => intro cs k; simp [putL, ih]

theorem putL_rep {S : Bool → Nat → Prop} {w : World} {n : Nat} : ∀ (vs : List CV) (us : List Value) (cs : Array Value) (f : Nat → CV) (k : Nat), RepL S w vs us → n ≤ cs.size → (∀ j, j < n → ∃ u, cs[j]? = some u ∧ RepC S w (f j) u) →
    ∀ j, j < n → ∃ u, (putL cs k us)[j]? = some u ∧ RepC S w (updF f k vs j) u
  | [], [], cs, f, k, _, _, hc => hc
  | c :: vs, u :: us, cs, f, k, hr, hn, hc => by
    refine putL_rep vs us _ _ (k + 1) hr.2 (by simpa using hn) (fun j hj => ?_)
    by_cases e : j = k
    · subst e
      exact ⟨u, by simp [show j < cs.size from by omega], by simpa using hr.1⟩
    · obtain ⟨x, hx, hxr⟩ := hc j hj
      exact ⟨x, by rw [Array.getElem?_setIfInBounds_ne (fun e' => e e'.symm)]; exact hx, by simpa [e] using hxr⟩
  | [], _ :: _, _, _, _, hr, _, _ => hr.elim
  | _ :: _, [], _, _, _, hr, _, _ => hr.elim

theorem run_storeCells {P : Program} {g : Nat} {ty : TypeId} : ∀ (us : List Value) (w : World) (cs : Array Value) (off i : Nat), w.heap[g]? = some (.cells cs ty (0, 0)) → off + i + us.length ≤ cs.size → (∀ u ∈ us, u.oneCell' = true) →
    ∃ w', (storeCells ⟨g, off, none⟩ us i).run P w = .ok () w' ∧ w'.heap[g]? = some (.cells (putL cs (off + i) us) ty (0, 0)) ∧ Fr (fun b => b = g) w w'
  | [], w, cs, off, i, hb, _, _ => ⟨w, by simp [storeCells], hb, Fr.refl _ _⟩
  | u :: us, w, cs, off, i, hb, hl, h1 => by
    simp only [List.length_cons] at hl
    have hc : w.cell? ⟨g, off + i, none⟩ = some (cs[off + i]'(by omega)) := by rw [cell_own hb]; exact Array.getElem?_eq_getElem _
    have hz : w.frozen? ⟨g, off + i, none⟩ = false := by simp [World.frozen?, hb]
    have hb' : (w.setCell ⟨g, off + i, none⟩ u).heap[g]? = some (.cells (cs.setIfInBounds (off + i) u) ty (0, 0)) := by
      simp [World.setCell, Array.getElem?_modify, hb]
    obtain ⟨w', hrun, hbl, hfr⟩ := run_storeCells us (w.setCell ⟨g, off + i, none⟩ u) _ off (i + 1) hb' (by simp; omega) (fun x hx => h1 x (List.mem_cons_of_mem _ hx))
    refine ⟨w', ?_, by simpa [putL, Nat.add_assoc] using hbl, (Fr.setCell w _ u (own := fun b => b = g) rfl).trans hfr (fun x hx _ => hx)⟩
    simp only [storeCells, Sem.run_bind, add_mk, run_store P w _ u _ (h1 u (by simp)), hc, hz]
    simpa using hrun

/-- Own objects change in place. -/
theorem St.setObj {N : Nat} {C : Ctx} {a : Act} {w w' : World} {g : Nat} {ob ob' : AObj} (s : St N C σ h a w) (hg : h.get g = some ob) (hfr : Fr (fun b => b = g) w w') (ho : ORep (Stab C (h.set g ob') w') w' g ob') :
    St N C σ (h.set g ob') a w' := by
  have hgm : g ∈ h.keys := List.mem_map.2 ⟨_, Heap.get_mem hg, rfl⟩
  have hk : (h.set g ob').keys = h.keys := Heap.keys_set _ _ _
  have kp : Keeps (Stab C h w) (Stab C (h.set g ob') w') w w' :=
    ⟨fun t b hb => ⟨hb.1, Nat.lt_of_lt_of_le hb.2.1 hfr.size, by rw [hk]; exact hb.2.2⟩, fun t b hb => hfr.block b hb.2.1 (fun e => hb.2.2 (e ▸ hgm)), hfr.has⟩
  refine ⟨s.size, s.defers, fun t => Rep.keep kp (s.slots t), fun g' o' hm => ?_, by rw [hk]; exact s.nodup, by rw [hk]; exact s.keys, ?_⟩
  · rcases Heap.mem_set s.nodup hm with e | ⟨hm', hne⟩
    · cases e; exact ho
    · have h1 := s.heap g' o' hm'
      exact ORep.keep kp (hfr.block g' h1.lt hne) h1
  · refine s.frame.trans hfr (fun x hx hlt => ?_)
    subst hx
    exact (s.keys _ hgm).resolve_right (by omega)

/-- A store into an own object. -/
theorem aw_store {t g off m n : Nat} {ty : TypeId} {ag : Bool} {f : Nat → CV} {a x : Operand} {v : AV} {h' : Heap} (hop : o.op = .store t a x) (hw : wantA all σ o = some true) (hd : dstOk E.N o.dst = true) (hdn : o.dst = none) (ha : ev σ a = .c (.optr g off)) (hx : ev σ x = v)
    (hg : h.get g = some (.cells ty m f)) (ht : tSz E.P t = some (ag, n)) (hnt : ∀ xs, v ≠ .tup xs) (hs : v.cells.all CV.solid = true) (hlen : v.cells.length = n) (hle : off + n ≤ m)
    (hh : h.set g (.cells ty m (updF f off v.cells)) = h') (k : aw E (.ops all rest :: K) σ h') : aw E (.ops all (o :: rest) :: K) σ h := by
  subst hh
  refine aw_step hw (fun ac w s => ?_) k
  have h1 := ev_rep s a
  have h2 := ev_rep s x
  rw [ha] at h1
  rw [hx] at h2
  have h1' : ac.eval a = .pointer (some ⟨g, off, none⟩) := h1
  obtain ⟨hL, hone⟩ := rep_cells hnt hs h2
  obtain ⟨cs, hb, hn, hj⟩ := s.heap g _ (Heap.get_mem hg)
  have hus : (ac.eval x).cells.toList.length = n := by rw [hL.length, hlen]
  obtain ⟨w', hrun, hbl, hfr⟩ := run_storeCells (P := E.P) (ac.eval x).cells.toList w cs off 0 hb (by omega) (fun u hu => hone u (by simpa using hu))
  refine ⟨undef, w', .inr ⟨?_, rfl⟩, ?_⟩
  · have hsz : (ac.eval x).cells.size = n := by rw [← hus]; simp
    simp only [execOp, hop, Instr.storeAt, Instr.sureAddr, h1', storeVar, Sem.run_bind, Sem.run_pure, Result.andThen_ok, (tSz_run ht w).2, hsz, ne_eq, not_true_eq_false, if_false, hrun]
  · have e : ac.put o.dst undef = ac := by rw [hdn]; rfl
    rw [e]
    have hgm : g ∈ h.keys := List.mem_map.2 ⟨_, Heap.get_mem hg, rfl⟩
    have hkk : (h.set g (.cells ty m (updF f off v.cells))).keys = h.keys := Heap.keys_set _ _ _
    have kp : Keeps (Stab E.C h w) (Stab E.C (h.set g (.cells ty m (updF f off v.cells))) w') w w' :=
      ⟨fun t b hb => ⟨hb.1, Nat.lt_of_lt_of_le hb.2.1 hfr.size, by rw [hkk]; exact hb.2.2⟩, fun t b hb => hfr.block b hb.2.1 (fun e => hb.2.2 (e ▸ hgm)), hfr.has⟩
    refine s.setObj hg hfr ⟨_, hbl, by rw [putL_size]; exact hn, ?_⟩
    have := putL_rep v.cells (ac.eval x).cells.toList cs f (off + 0) (hL.keep kp) hn (fun j hjn => by obtain ⟨u, hu, hr⟩ := hj j hjn; exact ⟨u, hu, hr.keep kp⟩)
    simpa using this
end
end Go.AI
