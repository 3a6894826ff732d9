/- Texts of one proof, laid one behind the other by a program (merge.py): PSum, AiMap, Shan2, Dia1, Dia2. -/
import Derived.Test.YtmkomfdiggcloaaM14
import Derived.MapKept
import Derived.Carry
set_option linter.unusedSimpArgs false
set_option linter.unusedVariables false
/- The values of a diagram's function, and the sum over its true states. No program in sight. -/
namespace Go.PN
open Go.AI
def evalF (ns : List DN) (s : Nat) : Nat → Int → Bool
  | 0, r => decide (r = 1)
  | k + 1, r => if r ≤ 1 then decide (r = 1) else evalF ns s k (if s.testBit (ns.getD (r - 2).toNat dn0).v.toNat then (ns.getD (r - 2).toNat dn0).hi else (ns.getD (r - 2).toNat dn0).lo)
/-- The value of a reference in a state. -/
def evalD (ns : List DN) (s : Nat) (r : Int) : Bool := evalF ns s r.toNat r
/-- Each node looks back. -/
def NsOk (m : Nat) (ns : List DN) : Prop := ∀ i, i < ns.length → NodeOk m i (ns.getD i dn0)
def kid (ns : List DN) (s : Nat) (r : Int) : Int := if s.testBit (ns.getD (r - 2).toNat dn0).v.toNat then (ns.getD (r - 2).toNat dn0).hi else (ns.getD (r - 2).toNat dn0).lo
theorem kid_lt {m : Nat} {ns : List DN} (h : NsOk m ns) {s : Nat} {r : Int} (h2 : 2 ≤ r) (hr : r < ns.length + 2) : 0 ≤ kid ns s r ∧ kid ns s r < r := by
  have := h (r - 2).toNat (by omega)
  obtain ⟨_, _, l0, l1, h0, h1⟩ := this
  unfold kid
  split <;> omega
theorem evalF_fuel {m : Nat} {ns : List DN} (h : NsOk m ns) {s : Nat} : ∀ (k : Nat) (r : Int), 0 ≤ r → r < ns.length + 2 → r.toNat ≤ k → evalF ns s k r = evalF ns s r.toNat r
  | 0, r, h0, _, hk => by rw [show r.toNat = 0 from by omega]
  | k + 1, r, h0, hr, hk => by
    by_cases h1 : r ≤ 1
    · rw [evalF, if_pos h1]
      cases hrn : r.toNat with
      | zero => rfl
      | succ j => rw [evalF, if_pos h1]
    · obtain ⟨j, hj⟩ : ∃ j, r.toNat = j + 1 := ⟨r.toNat - 1, by omega⟩
      rw [hj, evalF, if_neg h1, evalF, if_neg h1]
      have hkid := kid_lt h (s := s) (by omega) hr
      show evalF ns s k (kid ns s r) = evalF ns s j (kid ns s r)
      rw [evalF_fuel h k _ hkid.1 (by omega) (by omega), evalF_fuel h j _ hkid.1 (by omega) (by omega)]
termination_by k => k
decreasing_by all_goals omega
theorem evalD_leaf {ns : List DN} {s : Nat} {r : Int} (h1 : r ≤ 1) : evalD ns s r = decide (r = 1) := by
  unfold evalD
  cases hrn : r.toNat with
  | zero => rfl
  | succ j => rw [evalF, if_pos h1]
theorem evalD_step {m : Nat} {ns : List DN} (h : NsOk m ns) {s : Nat} {r : Int} (h2 : 2 ≤ r) (hr : r < ns.length + 2) : evalD ns s r = evalD ns s (kid ns s r) := by
  unfold evalD
  obtain ⟨j, hj⟩ : ∃ j, r.toNat = j + 1 := ⟨r.toNat - 1, by omega⟩
  rw [hj, evalF, if_neg (by omega)]
  have hkid := kid_lt h (s := s) h2 hr
  show evalF ns s j (kid ns s r) = _
  exact evalF_fuel h j _ hkid.1 (by omega) (by omega)
/-- The table of a diagram. -/
def tabL (d : DG) : List Bool := (List.range (2 ^ d.order.length)).map fun s => evalD d.nodes s d.root
/-- The probability of a state. -/
def stQ (ps : List RD) (s : Nat) : Rat := wtTo s (2 ^ ps.length - 1 - s) ps ps.length
def sumQ (ps : List RD) (tb : List Bool) : Nat → Rat
  | 0 => 0
  | k + 1 => if tb.getD k false then sumQ ps tb k + stQ ps k else sumQ ps tb k
theorem fits_zero : fits (0 : Rat) 1 := ⟨by simp, by simp⟩
theorem fits_sum {ps : List RD} {tb : List Bool} {L : Nat} (hL : 1 ≤ L) (h : ∀ r ∈ ps, r.wf L) : ∀ k, fits (sumQ ps tb k) (((2 * L + 2) * ps.length + 2) * k + 1)
  | 0 => by rw [Nat.mul_zero, Nat.zero_add]; exact fits_zero
  | k + 1 => by
    have h1 := fits_sum (tb := tb) hL h k
    unfold sumQ
    split
    · refine fits_mono (fits_add h1 (fits_wt hL h _)) ?_
      rw [Nat.mul_add]; omega
    · refine fits_mono h1 ?_
      rw [Nat.mul_add]; omega
theorem shrZ_int (x : Nat) (v : Int) (h0 : 0 ≤ v) (h1 : v ≤ 64) : shrZ .i64 (x : Int) v = ((x / 2 ^ v.toNat : Nat) : Int) := by
  have := shrZ_nat x v.toNat (by omega)
  rwa [show ((v.toNat : Nat) : Int) = v from by omega] at this
theorem pow_lt_63 {n : Nat} (h : n < 63) : 2 ^ n < 9223372036854775808 := by
  have h3 : 2 ^ n < 2 ^ 63 := Nat.pow_lt_pow_right (by omega) h
  have h4 : (2 : Nat) ^ 63 = 9223372036854775808 := by decide
  rw [h4] at h3; exact h3
end Go.PN
namespace Go.AI
section
variable {E : Env} {K : List It} {σ : Sl}
/-- The first block, told otherwise. -/
theorem aw_convR {g n : Nat} {ty : TypeId} {f f' : Nat → CV} {h : Heap} (hf : ∀ j, j < n → ∀ S w u, RepC S w (f j) u → RepC S w (f' j) u) (k : aw E K σ ((g, .cells ty n f') :: h)) : aw E K σ ((g, .cells ty n f) :: h) := fun a w s => by
  refine k a w ⟨s.size, s.defers, s.slots, fun g' o' hm => ?_, s.nodup, s.keys, s.frame⟩
  rcases List.mem_cons.1 hm with e | hm
  · injection e with e1 e2
    subst e1 e2
    obtain ⟨cs, hb, hc, hj⟩ := s.heap _ _ (List.mem_cons_self ..)
    exact ⟨cs, hb, hc, fun j hjl => by obtain ⟨u, hu, hr⟩ := hj j hjl; exact ⟨u, hu, hf j hjl _ _ _ hr⟩⟩
  · exact s.heap g' o' (List.mem_cons_of_mem _ hm)
end
theorem repC_nil {S : Bool → Nat → Prop} {w : World} {u : Value} {t : Bool} {s : Nat} {f : Nat → CV} (h : RepC S w .nils u) : RepC S w (.row t s 0 f) u := by
  obtain ⟨A, hv⟩ := h
  exact ⟨A, 0, hv, Nat.le_refl _, fun h0 => by simp at h0⟩
theorem zero_rd : ∀ j, j < 3 → ∀ S w u, RepC S w (ofL [CV.bool false, .nils, .nils] j) u → RepC S w (ofL [CV.bool (Go.PN.rd 0).neg, ws true (Go.PN.rd 0).num, ws true (Go.PN.rd 0).den] j) u := by
  rw [Go.PN.rd_zero]
  intro j hj S w u h
  match j, hj with
  | 0, _ => exact h
  | 1, _ => exact repC_nil h
  | 2, _ => exact repC_nil h
theorem bs_push {zs : List Bool} {n : Nat} (hn : zs.length = n) (x : Bool) : ∀ j, j < (n + 1) * 1 → appF (bsF zs) (n * 1) (ofL [.bool x]) j = bsF (zs ++ [x]) j := fun j hj => by
  subst hn
  unfold appF
  by_cases h : j < zs.length * 1
  · rw [if_pos h]
    show CV.bool (zs.getD j false) = CV.bool ((zs ++ [x]).getD j false)
    rw [List.getD_eq_getElem?_getD, List.getD_eq_getElem?_getD, List.getElem?_append_left (by omega)]
  · have : j = zs.length := by omega
    subst this
    rw [if_neg h]
    show ofL [CV.bool x] (zs.length - zs.length * 1) = CV.bool ((zs ++ [x]).getD zs.length false)
    rw [Nat.mul_one, Nat.sub_self, List.getD_eq_getElem?_getD, List.getElem?_append_right (Nat.le_refl _), Nat.sub_self]
    rfl
theorem is_push {zs : List Int} {n : Nat} (hn : zs.length = n) (x : Int) : ∀ j, j < (n + 1) * 1 → appF (isF zs) (n * 1) (ofL [.int .i64 x]) j = isF (zs ++ [x]) j := fun j hj => by
  subst hn
  unfold appF
  by_cases h : j < zs.length * 1
  · rw [if_pos h]
    show CV.int .i64 (zs.getD j 0) = CV.int .i64 ((zs ++ [x]).getD j 0)
    rw [List.getD_eq_getElem?_getD, List.getD_eq_getElem?_getD, List.getElem?_append_left (by omega)]
  · have : j = zs.length := by omega
    subst this
    rw [if_neg h]
    show ofL [CV.int .i64 x] (zs.length - zs.length * 1) = CV.int .i64 ((zs ++ [x]).getD zs.length 0)
    rw [Nat.mul_one, Nat.sub_self, List.getD_eq_getElem?_getD, List.getElem?_append_right (Nat.le_refl _), Nat.sub_self]
    rfl
theorem ler_gsb {pre : Heap} {og : Option Nat} {e n : Nat} {t : Bool} {zs : List Bool} (hog : og = none → n = 0) (hn : ∀ g, og = some g → g ∉ pre.keys) (hl : zs.length = n) : LeR (pre ++ gh og e n (bsF zs)) (gs og 1 n) (bs t zs) := by
  subst hl
  have := ler_gs (pre := pre) (og := og) (e := e) (s := 1) (n := zs.length) (t := t) (f := bsF zs) (f' := bsF zs) hog hn (fun j _ => .bool _)
  simpa only [Nat.mul_one] using this
theorem ler_gsi {pre : Heap} {og : Option Nat} {e n : Nat} {t : Bool} {zs : List Int} (hog : og = none → n = 0) (hn : ∀ g, og = some g → g ∉ pre.keys) (hl : zs.length = n) : LeR (pre ++ gh og e n (isF zs)) (gs og 1 n) (is t zs) := by
  subst hl
  have := ler_gs (pre := pre) (og := og) (e := e) (s := 1) (n := zs.length) (t := t) (f := isF zs) (f' := isF zs) hog hn (fun j _ => .int _ _)
  simpa only [Nat.mul_one] using this
end Go.AI

/- Maps of the call's own: made, asked, added to. -/
namespace Go.AI

/-- What is found for a key. -/
def fAsk {α : Type} [DecidableEq α] (a : α) : List α → List MapEntry → Nat → Option (Nat × Value)
  | k :: ks, e :: es, i => if a = k then some (i, e.val) else fAsk a ks es (i + 1)
  | _, _, _ => none
/-- Keys of type kt, told by K. -/
structure KeyOk (P : Program) (kt : TypeId) {α : Type} [DecidableEq α] (K : α → Value) : Prop where
  check : ∀ b a w, (Instr.checkKey b 10000 kt (K a)).run P w = .ok () w
  find : ∀ (a : α) (ks : List α) (es : List MapEntry) w, es.map (·.key) = ks.map K → (Instr.findKey kt (K a) es).run P w = .ok (fAsk a ks es 0) w

section
variable {P : Program}
theorem run_findAsking {α : Type} [DecidableEq α] {K : α → Value} {kt : TypeId} (heq : ∀ a b w, (Op.equal kt (K a) (K b)).run P w = .ok (decide (a = b)) w) (a : α) : ∀ (ks : List α) (es : List MapEntry) (i : Nat) (w : World), es.map (·.key) = ks.map K → (Instr.findAsking kt (K a) es i).run P w = .ok (fAsk a ks es i) w
  | [], [], i, w, _ => by simp [Instr.findAsking, fAsk]
  | k :: ks, e :: es, i, w, h => by
    simp only [List.map_cons, List.cons.injEq] at h
    simp only [Instr.findAsking, fAsk, Sem.run_bind, h.1, heq, Result.andThen_ok]
    by_cases hk : a = k
    · simp [hk]
    · simp only [hk, decide_false, Bool.false_eq_true, if_false]
      exact run_findAsking heq a ks es (i + 1) w h.2
  | [], e :: es, i, w, h => by simp at h
  | k :: ks, [], i, w, h => by simp at h

/-- Keys that are structs of ints. -/
def keyZ (ns : List Int) : Value := .agg (ns.map (Value.int .i64)).toArray
theorem run_checkFields {n : Nat} {ns : List Int} (w : World) (b : Bool) : ∀ (fs : List Field) (k : Nat), (fs.zipIdx k).all (fun p => p.1.name != "_" && p.1.offset == p.2 && (tInt P p.1.type).isSome) = true → k + fs.length ≤ ns.length →
    (forIn fs PUnit.unit (fun f (_ : PUnit) => (do
      if f.name ≠ "_" then
        let __do_lift ← part f.type (ns.map (Value.int .i64)).toArray f.offset
        Instr.checkKey b (n + 1) f.type __do_lift
      pure (ForInStep.yield PUnit.unit) : Sem (ForInStep PUnit)))).run P w = .ok PUnit.unit w
  | [], k, _, _ => by simp
  | f :: fs, k, hf, hk => by
    simp only [List.zipIdx_cons, List.all_cons, Bool.and_eq_true, bne_iff_ne, ne_eq, beq_iff_eq] at hf
    obtain ⟨⟨⟨hn, ho⟩, hi⟩, hr⟩ := hf
    simp only [List.length_cons] at hk
    have hka : k < ns.length := by omega
    obtain ⟨kk, hkk⟩ := Option.isSome_iff_exists.1 hi
    have hu := tInt_spec hkk
    have hag : (isAgg f.type).run P w = .ok false w := by simp [isAgg, run_underlying hu]
    have e1 : (ns.map (Value.int .i64)).toArray[k]? = some (Value.int .i64 (ns[k])) := by simp [hka]
    have p1 : (part f.type (ns.map (Value.int .i64)).toArray f.offset).run P w = .ok (.int .i64 (ns[k])) w := by
      unfold part
      simp only [Sem.run_bind, hag, Result.andThen_ok, Bool.false_eq_true, if_false, ho, e1, Sem.run_pure]
    have p2 : (Instr.checkKey b (n + 1) f.type (.int .i64 (ns[k]))).run P w = .ok () w := by
      simp [Instr.checkKey, run_underlying hu]
    have ih := run_checkFields (n := n) (ns := ns) w b fs (k + 1) (by simpa using hr) (by omega)
    rw [List.forIn_cons]
    simp only [hn, not_false_eq_true, if_true, Sem.run_bind, p1, p2, Result.andThen_ok, Sem.run_pure, ne_eq]
    exact ih
theorem keyZ_ok {kt n : Nat} (ht : tEqS P kt = some n) : KeyOk P kt (fun ns : { l : List Int // l.length = n } => keyZ ns.1) := by
  have hstr : P.underlying kt = some (.struct (P.fieldsOf kt)) ∧ (P.fieldsOf kt).toList.zipIdx.all (fun p => p.1.name != "_" && p.1.offset == p.2 && (tInt P p.1.type).isSome) = true ∧ (P.fieldsOf kt).size = n := by
    unfold tEqS at ht
    split at ht
    · rename_i hc
      simp only [Bool.and_eq_true, Bool.not_eq_true'] at hc
      obtain ⟨⟨⟨h1, h2⟩, h3⟩, h4⟩ := hc
      injection ht with ht
      exact ⟨isStr_spec h4, h3, ht⟩
    · cases ht
  obtain ⟨hu, hf, hs⟩ := hstr
  have heq : ∀ (a b : { l : List Int // l.length = n }) (w : World), (Op.equal kt (keyZ a.1) (keyZ b.1)).run P w = .ok (decide (a = b)) w := fun a b w => by
    have := (tEqS_run ht a.2 b.2 w).1
    unfold Op.equal Op.maxDepth keyZ
    rw [this, eqZ_eq]
    congr 1
    rw [Bool.eq_iff_iff]; simp [Subtype.ext_iff]
  refine ⟨fun b a w => ?_, fun a ks es w h => ?_⟩
  · unfold keyZ
    rw [show (10000 : Nat) = 9999 + 1 from rfl, Instr.checkKey]
    simp only [Sem.run_bind, run_underlying hu, Result.andThen_ok]
    rw [← Array.forIn_toList]
    have := run_checkFields (P := P) (n := 9998) (ns := a.1) w b (P.fieldsOf kt).toList 0 hf (by simp [hs, a.2])
    rw [this]
    rfl
  · unfold Instr.findKey
    simp only [Sem.run_bind, run_underlying hu, Result.andThen_ok]
    cases es with
    | nil =>
      cases ks with
      | nil => simp [Instr.findNow, fAsk]
      | cons k ks => simp at h
    | cons e es =>
      have hn : Instr.findNow (.struct (P.fieldsOf kt)) (keyZ a.1) (e :: es) 0 = none := by
        simp [Instr.findNow, Instr.sameNow]
      rw [hn]
      exact run_findAsking heq a ks (e :: es) 0 w h

/-- A map's entries. -/
def MapI {α : Type} (K : α → Value) (kv : List (α × Value)) (o : Obj) : Prop := ∃ es c, o = .map es c ∧ es.toList.map (fun e => (e.key, e.val)) = kv.map (fun p => (K p.1, p.2))
def kvGet {α : Type} [DecidableEq α] (a : α) : List (α × Value) → Option Value
  | [] => none
  | p :: kv => if a = p.1 then some p.2 else kvGet a kv
theorem fAsk_get {α : Type} [DecidableEq α] {K : α → Value} (a : α) : ∀ (kv : List (α × Value)) (es : List MapEntry) (i : Nat), es.map (fun e => (e.key, e.val)) = kv.map (fun p => (K p.1, p.2)) → (fAsk a (kv.map (·.1)) es i).map (·.2) = kvGet a kv
  | [], [], i, _ => rfl
  | p :: kv, e :: es, i, h => by
    simp only [List.map_cons, List.cons.injEq, Prod.mk.injEq] at h
    simp only [List.map_cons, fAsk, kvGet]
    split
    · simp [h.1.2]
    · exact fAsk_get a kv es (i + 1) h.2
  | [], e :: es, i, h => by simp at h
  | p :: kv, [], i, h => by simp at h
def tMap (P : Program) (t : TypeId) : Option (TypeId × TypeId) := match P.underlying t with
  | some (.map k e) => some (k, e)
  | _ => none
theorem tMap_spec {t k e : TypeId} (h : tMap P t = some (k, e)) : P.underlying t = some (.map k e) := by
  unfold tMap at h
  split at h
  · rename_i hu; simp only [Option.some.injEq, Prod.mk.injEq] at h; rw [hu, h.1, h.2]
  · cases h
/-- The zero of a type of one cell. -/
def tZ1 (P : Program) (t : TypeId) : Option Value := match (P.info? t).bind (·.zero) with
  | some (.int k n) => some (.int k n)
  | some (.bool b) => some (.bool b)
  | _ => none
theorem tZ1_run {t : TypeId} {z : Value} (h : tZ1 P t = some z) (w : World) : (zeroValue t).run P w = .ok z w := by
  unfold tZ1 at h
  cases hi : P.info? t with
  | none => simp [hi] at h
  | some i =>
    cases hz : i.zero with
    | none => simp [hi, hz] at h
    | some v =>
      simp only [hi, hz, Option.bind_some] at h
      split at h
      · rename_i he; injection he with he; injection h with h; subst h; simp [zeroValue, typeInfo, hi, hz, he]
      · rename_i he; injection he with he; injection h with h; subst h; simp [zeroValue, typeInfo, hi, hz, he]
      · cases h

theorem runGet {w : World} {r : Nat} {es : Array MapEntry} {c : Nat} (hb : w.heap[r]? = some (.map es c)) : (getObj r).run P w = .ok (.map es c) w := by simp [getObj, Sem.run, hb]
theorem runSet {w : World} {r : Nat} {es : Array MapEntry} {c : Nat} (o' : Obj) (hb : w.heap[r]? = some (.map es c)) : (setObj r o').run P w = .ok () { w with heap := w.heap.setIfInBounds r o' } := by simp [setObj, Sem.run, hb]
variable {E : Env} {K : List It} {σ σ' : Sl} {h : Heap} {all rest : List Oper} {o : Oper}
theorem aw_makeMap {α : Type} {Kf : α → Value} {t : TypeId} (hop : o.op = .makeMap t none) (hw : wantA all σ o = some true) (hd : dstOk E.N o.dst = true)
    (k : ∀ g, g ∉ h.keys → aw E (.ops all rest :: K) (σ.setO o.dst (.c (.raw (.map (some g))))) ((g, .gen (MapI Kf [])) :: h)) : aw E (.ops all (o :: rest) :: K) σ h := by
  refine aw_new (r := fun g => .c (.raw (.map (some g)))) (ob := .gen (MapI Kf [])) hw hd (fun a w s => ?_) k
  refine ⟨.map (some w.heap.size), w.alloc (.map #[] 0), ?_, Fr.alloc _ _ _, by simp, ⟨_, heap_alloc_new w _, _, _, rfl, rfl⟩, rfl⟩
  simp only [execOp, hop]
  rfl
/-- m[k] -/
theorem aw_lookup {α : Type} [DecidableEq α] {Kf : α → Value} {t kt et g : TypeId} {kv : List (α × Value)} {x ky : Operand} {ck : AV} {a : α} {z : Value} (hop : o.op = .lookup t x ky false) (hw : wantA all σ o = some true) (hd : dstOk E.N o.dst = true)
    (ht : tMap E.P t = some (kt, et)) (hK : KeyOk E.P kt Kf) (hz : tZ1 E.P et = some z) (hx : ev σ x = .c (.raw (.map (some g)))) (hg : h.get g = some (.gen (MapI Kf kv))) (hk : ev σ ky = ck) (hka : ∀ S w v, Rep S w ck v → v = Kf a)
    (k : aw E (.ops all rest :: K) (σ.setO o.dst (.c (cstC ((kvGet a kv).getD z)))) h) : aw E (.ops all (o :: rest) :: K) σ h := by
  refine aw_step hw (fun ac w s => ?_) k
  have h1 := ev_rep s x
  rw [hx] at h1
  have h1' : ac.eval x = .map (some g) := h1
  have h2 := ev_rep s ky
  rw [hk] at h2
  have h2' := hka _ _ _ h2
  obtain ⟨ob, hb, es, c, rfl, hes⟩ := s.heap g _ (Heap.get_mem hg)
  have hkeys : es.toList.map (·.key) = (kv.map (·.1)).map Kf := by
    have := congrArg (List.map Prod.fst) hes
    rw [List.map_map, List.map_map] at this
    rw [List.map_map]
    exact this
  have hfind := hK.find a (kv.map (·.1)) es.toList w hkeys
  have hget := fAsk_get (K := Kf) a kv es.toList 0 hes
  refine ⟨(kvGet a kv).getD z, w, .inl ?_, s.put hd (cstC_rep _ _ _)⟩
  have hlk : (Instr.lookup t (ac.eval x) (ac.eval ky) false).run E.P w = .ok ((kvGet a kv).getD z) w := by
    rw [h1', h2']
    unfold Instr.lookup
    simp only [Sem.run_bind, run_underlying (tMap_spec ht), Result.andThen_ok, runGet hb, Sem.run_pure, hK.check, hfind]
    rw [← hget]
    cases hf : fAsk a (kv.map (·.1)) es.toList 0 with
    | none => simp [tZ1_run hz]
    | some p => obtain ⟨i, v⟩ := p; simp
  simp only [execOp, hop, Sem.run_bind, hlk, Result.andThen_ok]
  rfl
/-- m[k] = v, a new key. -/
theorem aw_mapNew {α : Type} [DecidableEq α] {Kf : α → Value} {t kt et g : TypeId} {kv : List (α × Value)} {x ky vl : Operand} {ck cv : AV} {a : α} {v : Value} (hop : o.op = .mapUpdate t x ky vl) (hdn : o.dst = none) (hw : wantA all σ o = some true)
    (ht : tMap E.P t = some (kt, et)) (hK : KeyOk E.P kt Kf) (hx : ev σ x = .c (.raw (.map (some g)))) (hg : h.get g = some (.gen (MapI Kf kv))) (hk : ev σ ky = ck) (hka : ∀ S w u, Rep S w ck u → u = Kf a) (hv : ev σ vl = cv) (hva : ∀ S w u, Rep S w cv u → u = v)
    (hnew : kvGet a kv = none) {h' : Heap} (hh : h.set g (.gen (MapI Kf (kv ++ [(a, v)]))) = h') (k : aw E (.ops all rest :: K) σ h') : aw E (.ops all (o :: rest) :: K) σ h := by
  subst hh
  refine aw_step hw (fun ac w s => ?_) k
  have h1 := ev_rep s x
  rw [hx] at h1
  have h1' : ac.eval x = .map (some g) := h1
  have h2 := ev_rep s ky
  rw [hk] at h2
  have h2' := hka _ _ _ h2
  have h3 := ev_rep s vl
  rw [hv] at h3
  have h3' := hva _ _ _ h3
  obtain ⟨ob, hb, es, c, rfl, hes⟩ := s.heap g _ (Heap.get_mem hg)
  have hkeys : es.toList.map (·.key) = (kv.map (·.1)).map Kf := by
    have := congrArg (List.map Prod.fst) hes
    rw [List.map_map, List.map_map] at this
    rw [List.map_map]
    exact this
  have hfind := hK.find a (kv.map (·.1)) es.toList w hkeys
  have hget := fAsk_get (K := Kf) a kv es.toList 0 hes
  have hnone : fAsk a (kv.map (·.1)) es.toList 0 = none := by
    cases hf : fAsk a (kv.map (·.1)) es.toList 0 with
    | none => rfl
    | some p => rw [hf, hnew] at hget; cases hget
  have hgl : g < w.heap.size := (Array.getElem?_eq_some_iff.1 hb).1
  let w' : World := { w with heap := w.heap.setIfInBounds g (.map (es.push { key := Kf a, val := v, born := c }) (c + 1)) }
  have hrun : (Instr.mapUpdate t (ac.eval x) (ac.eval ky) (ac.eval vl)).run E.P w = .ok () w' := by
    rw [h1', h2', h3']
    unfold Instr.mapUpdate
    simp only [Sem.run_bind, run_underlying (tMap_spec ht), Result.andThen_ok, runGet hb, hK.check, hfind, hnone, runSet _ hb]
    rfl
  refine ⟨undef, w', .inr ⟨?_, rfl⟩, ?_⟩
  · simp only [execOp, hop, Sem.run_bind, hrun, Result.andThen_ok]
    rfl
  · rw [hdn]
    have hfr : Fr (fun b => b = g) w w' := by
      refine ⟨rfl, rfl, rfl, by simp [w'], fun b _ hne => ?_, fun g' m hh => ?_⟩
      · simp only [w']; rw [Array.getElem?_setIfInBounds_ne (fun e => hne e.symm)]
      · obtain ⟨cs, ty, hc, hs⟩ := hh
        refine ⟨cs, ty, ?_, hs⟩
        have hne : g' ≠ g := fun e => by rw [e, hb] at hc; cases hc
        simp only [w']
        rw [Array.getElem?_setIfInBounds_ne (fun e => hne e.symm)]; exact hc
    refine s.setObj hg hfr ⟨_, by simp only [w']; rw [Array.getElem?_setIfInBounds_self_of_lt hgl], _, _, rfl, ?_⟩
    simp only [Array.toList_push, List.map_append, List.map_cons, List.map_nil, hes]
end
end Go.AI

/- faultlineref15: value, Value, Table; faultlineref37: State, Table, Probability. -/
namespace Go.Proofs.Ytmkomfdiggcloaa
open Go.AI Go.PN
attribute [local irreducible] aw Fa Fh DrK
theorem tabL_len (d : DG) : (tabL d).length = 2 ^ d.order.length := by simp [tabL]
end Go.Proofs.Ytmkomfdiggcloaa

/- faultlineref15: behind, node. -/
namespace Go.PN
open Go.AI
def behindB (d : DG) (r e : Int) : Bool := decide (r < 2) || decide (placeZ d.order (d.nodes.getD (r - 2).toNat dn0).v > placeZ d.order e)
/-- Out of range? -/
def nrange (d : DG) (i : Nat) (x : DN) : Prop := x.v < 0 ∨ (d.order.length : Int) ≤ x.v ∨ x.lo < 0 ∨ (i : Int) + 1 < x.lo ∨ x.hi < 0 ∨ (i : Int) + 1 < x.hi
instance (d : DG) (i : Nat) (x : DN) : Decidable (nrange d i x) := by unfold nrange; infer_instance
/-- The number of the error of node i. -/
def ncode (d : DG) (i : Nat) : Int :=
  if nrange d i (d.nodes.getD i dn0) then 10 else if (d.nodes.getD i dn0).lo = (d.nodes.getD i dn0).hi then 2
  else if !(behindB d (d.nodes.getD i dn0).lo (d.nodes.getD i dn0).v) || !(behindB d (d.nodes.getD i dn0).hi (d.nodes.getD i dn0).v) then 13
  else if d.nodes.getD i dn0 ∈ d.nodes.take i then 6 else 0
theorem getDN {xs : List DN} {i : Nat} (h : i < xs.length) : xs.getD i dn0 = xs[i] := by
  rw [List.getD_eq_getElem?_getD, List.getElem?_eq_getElem h]; rfl
theorem take_memN {o : List DN} {i : Nat} {x : DN} : x ∈ o.take i ↔ ∃ k, k < i ∧ k < o.length ∧ o.getD k dn0 = x := by
  constructor
  · intro h
    obtain ⟨k, hk, e⟩ := List.mem_iff_getElem.1 h
    simp only [List.length_take] at hk
    refine ⟨k, by omega, by omega, ?_⟩
    rw [getDN (by omega), ← e, List.getElem_take]
  · rintro ⟨k, h1, h2, rfl⟩
    rw [getDN h2]
    exact List.mem_iff_getElem.2 ⟨k, by simp; omega, by rw [List.getElem_take]⟩
theorem nok_of {d : DG} {i : Nat} (h : ¬ nrange d i (d.nodes.getD i dn0)) : NodeOk d.order.length i (d.nodes.getD i dn0) := by
  unfold nrange at h
  constructor <;> omega
theorem eqDN (a b : DN) : ((a.v == b.v) && ((a.lo == b.lo) && (a.hi == b.hi))) = decide (a = b) := by
  cases a; cases b
  rw [Bool.eq_iff_iff]
  simp [DN.mk.injEq]
end Go.PN
namespace Go.Proofs.Ytmkomfdiggcloaa
open Go.AI Go.PN
attribute [local irreducible] aw Fa Fh DrK
set_option maxHeartbeats 800000 in
theorem behind_fa (d : DG) (r e : Int) (h0 : 0 ≤ r) (h1 : r < d.nodes.length + 2) (hl : d.order.length ≤ 1099511627776) (hl2 : d.nodes.length ≤ 1099511627776) : Fa Try.prog 87 [.agg (dgc false d), .c (.int .i64 r), .c (.int .i64 e)] (.c (.bool (behindB d r e))) := by
  unfold behindB
  refine fa_of_body Try.func87 rfl rfl (by simp [Try.ntmps87]) fun C hC => ?_
  simp only [initS, Nat.reduceAdd]
  repeat first|apply wa1|apply wa2|apply wa3|apply wa4|apply wa5 rfl|apply wa6|apply wa7|(refine wb1 rfl fun R r=>?_;simp only[go_sem];with_reducible refine r _ _ ?_;clear r R)
  refine aw_box rfl rfl rfl (by simp only[go_sem]<;>rfl) (fun _ e => by cases e) rfl fun g3 hn_g3 => ?_
  replace hn_g3 := Heap.ne_of hn_g3
  first | dsimp only [Heap.ne, gh] at hn_g3 | dsimp only [Heap.ne] at hn_g3 | skip
  (try simp only[go_sem, hn_g3])
  repeat first|apply wa1|apply wa2|apply wa3|apply wa4|apply wa5 rfl|apply wa6|apply wa7|(refine wb1 rfl fun R r=>?_;simp only[go_sem, hn_g3];with_reducible refine r _ _ ?_;clear r R)
  refine aw_dr 20 ty_mixed (by kernel_rfl) ?_
  repeat first|apply wa1|apply wa2|apply wa3|apply wa4|apply wa5 rfl|apply wa6|apply wa7|(refine wb1 rfl fun R r=>?_;simp only[go_sem, hn_g3];with_reducible refine r _ _ ?_;clear r R)|apply wa8|(refine wd1 rfl fun R r=>?_;simp only[go_sem, hn_g3];with_reducible refine r _ _ ?_;clear r R)
  refine drk_split 9 (by simp only[go_sem, hn_g3]<;>rfl) (fun hb => ?_) (fun hb => ?_) <;> (try simp only[go_sem, hn_g3])
  · repeat first|apply wa1|apply wa2|apply wa3|apply wa4|apply wa5 rfl|apply wa6|apply wa7|(refine wb1 rfl fun R r=>?_;simp only[go_sem, hn_g3];with_reducible refine r _ _ ?_;clear r R)|apply wa8|(refine wd1 rfl fun R r=>?_;simp only[go_sem, hn_g3];with_reducible refine r _ _ ?_;clear r R)
    (refine aw_retq hC rfl fun R r=>?_;simp only[go_sem, hn_g3];refine r _ rfl ?_;clear r R)
    exact .one (.c (ler_bool (by rw [hb]; rfl)))
  · have hb' := of_decide_eq_false hb
    repeat first|apply wa1|apply wa2|apply wa3|apply wa4|apply wa5 rfl|apply wa6|apply wa7|(refine wb1 rfl fun R r=>?_;simp only[go_sem, hn_g3];with_reducible refine r _ _ ?_;clear r R)|apply wa8|(refine wd1 rfl fun R r=>?_;simp only[go_sem, hn_g3];with_reducible refine r _ _ ?_;clear r R)
    refine drk_call (place_fa d.order _ hl) rfl rfl rfl (by first|exact True.intro|simp only[go_sem, hn_g3]<;>and_intros<;>first|exact True.intro|exact .c (.refl _)|exact .c wl2|exact .agg (lel_refl _)|exact .agg (by simp only[LeL];and_intros<;>first|exact True.intro|exact .refl _|exact wl2)|exact .c .nils) ?_
    (try simp only[go_sem, hn_g3])
    repeat first|apply wa1|apply wa2|apply wa3|apply wa4|apply wa5 rfl|apply wa6|apply wa7|(refine wb1 rfl fun R r=>?_;simp only[go_sem, hn_g3];with_reducible refine r _ _ ?_;clear r R)|apply wa8|(refine wd1 rfl fun R r=>?_;simp only[go_sem, hn_g3];with_reducible refine r _ _ ?_;clear r R)
    refine drk_call (place_fa d.order e hl) rfl rfl rfl (by first|exact True.intro|simp only[go_sem, hn_g3]<;>and_intros<;>first|exact True.intro|exact .c (.refl _)|exact .c wl2|exact .agg (lel_refl _)|exact .agg (by simp only[LeL];and_intros<;>first|exact True.intro|exact .refl _|exact wl2)|exact .c .nils) ?_
    (try simp only[go_sem, hn_g3])
    repeat first|apply wa1|apply wa2|apply wa3|apply wa4|apply wa5 rfl|apply wa6|apply wa7|(refine wb1 rfl fun R r=>?_;simp only[go_sem, hn_g3];with_reducible refine r _ _ ?_;clear r R)|apply wa8|(refine wd1 rfl fun R r=>?_;simp only[go_sem, hn_g3];with_reducible refine r _ _ ?_;clear r R)
    (refine aw_retq hC rfl fun R r=>?_;simp only[go_sem, hn_g3];refine r _ rfl ?_;clear r R)
    exact .one (.c (ler_bool (by rw [hb]; rfl)))
set_option maxRecDepth 100000 in
set_option maxHeartbeats 3200000 in
theorem nodeR_fa (d : DG) (i : Nat) (hi : i < d.nodes.length) (hl : d.order.length ≤ 1099511627776) (hl2 : d.nodes.length ≤ 1099511627776) : Fa Try.prog 65 [.agg (dgc false d), .c (.int .i64 i)] (.c (.int .i64 (ncode d i))) := by
  have n10 : nrange d i (d.nodes.getD i dn0) → ncode d i = 10 := fun h => by unfold ncode; rw [if_pos h]
  refine fa_of_body Try.func65 rfl rfl (by simp [Try.ntmps65]) fun C hC => ?_
  simp only [initS, Nat.reduceAdd]
  repeat first|apply wa1|apply wa2|apply wa3|apply wa4|apply wa5 rfl|apply wa6|apply wa7|(refine wb1 rfl fun R r=>?_;simp only[go_sem];with_reducible refine r _ _ ?_;clear r R)
  refine aw_box rfl rfl rfl (by simp only[go_sem]<;>rfl) (fun _ e => by cases e) rfl fun g2 hn_g2 => ?_
  replace hn_g2 := Heap.ne_of hn_g2
  first | dsimp only [Heap.ne, gh] at hn_g2 | dsimp only [Heap.ne] at hn_g2 | skip
  (try simp only[go_sem, hn_g2])
  repeat first|apply wa1|apply wa2|apply wa3|apply wa4|apply wa5 rfl|apply wa6|apply wa7|(refine wb1 rfl fun R r=>?_;simp only[go_sem, hn_g2];with_reducible refine r _ _ ?_;clear r R)
  refine aw_alloc rfl rfl rfl (by simp only[go_sem, hn_g2]<;>rfl) fun g5 hn_g5 => ?_
  replace hn_g5 := Heap.ne_of hn_g5
  first | dsimp only [Heap.ne, gh] at hn_g5 | dsimp only [Heap.ne] at hn_g5 | skip
  (try simp only[go_sem, hn_g2, hn_g5])
  repeat first|apply wa1|apply wa2|apply wa3|apply wa4|apply wa5 rfl|apply wa6|apply wa7|(refine wb1 rfl fun R r=>?_;simp only[go_sem, hn_g2, hn_g5];with_reducible refine r _ _ ?_;clear r R)
  refine aw_store rfl rfl rfl rfl (by simp only[go_sem, hn_g2, hn_g5]<;>rfl) (by simp only[go_sem, hn_g2, hn_g5]<;>rfl) (by simp only[go_sem, hn_g2, hn_g5]<;>rfl) (by simp only[go_sem, hn_g2, hn_g5]<;>rfl) (fun _ e => by cases e) (by rfl) (by rfl) (by first|omega|simp) rfl ?_
  (try simp only[go_sem, hn_g2, hn_g5])
  generalize hx : d.nodes.getD i dn0 = x at n10
  repeat first|apply wa1|apply wa2|apply wa3|apply wa4|apply wa5 rfl|apply wa6|apply wa7|(refine wb1 rfl fun R r=>?_;simp only[go_sem, hn_g2, hn_g5];with_reducible refine r _ _ ?_;clear r R)
  refine aw_split 15 (by simp only[go_sem, hn_g2, hn_g5]<;>rfl) (fun a1 => ?_) (fun a1 => ?_) <;> (try simp only[go_sem, hn_g2, hn_g5])
  · repeat first|apply wa1|apply wa2|apply wa3|apply wa4|apply wa5 rfl|apply wa6|apply wa7|(refine wb1 rfl fun R r=>?_;simp only[go_sem, hn_g2, hn_g5];with_reducible refine r _ _ ?_;clear r R)
    refine aw_condT (by simp only[go_sem, hn_g2, hn_g5]<;>rfl) ?_
    repeat first|apply wa1|apply wa2|apply wa3|apply wa4|apply wa5 rfl|apply wa6|apply wa7|(refine wb1 rfl fun R r=>?_;simp only[go_sem, hn_g2, hn_g5];with_reducible refine r _ _ ?_;clear r R)
    (refine aw_retq hC rfl fun R r=>?_;simp only[go_sem, hn_g2, hn_g5];refine r _ rfl ?_;clear r R)
    exact .one (.c (ler_int (n10 (.inl (of_decide_eq_true a1))).symm))
  repeat first|apply wa1|apply wa2|apply wa3|apply wa4|apply wa5 rfl|apply wa6|apply wa7|(refine wb1 rfl fun R r=>?_;simp only[go_sem, hn_g2, hn_g5];with_reducible refine r _ _ ?_;clear r R)
  refine aw_split 23 (by simp only[go_sem, hn_g2, hn_g5]<;>rfl) (fun a2 => ?_) (fun a2 => ?_) <;> (try simp only[go_sem, hn_g2, hn_g5])
  · repeat first|apply wa1|apply wa2|apply wa3|apply wa4|apply wa5 rfl|apply wa6|apply wa7|(refine wb1 rfl fun R r=>?_;simp only[go_sem, hn_g2, hn_g5];with_reducible refine r _ _ ?_;clear r R)
    refine aw_condT (by simp only[go_sem, hn_g2, hn_g5]<;>rfl) ?_
    repeat first|apply wa1|apply wa2|apply wa3|apply wa4|apply wa5 rfl|apply wa6|apply wa7|(refine wb1 rfl fun R r=>?_;simp only[go_sem, hn_g2, hn_g5];with_reducible refine r _ _ ?_;clear r R)
    (refine aw_retq hC rfl fun R r=>?_;simp only[go_sem, hn_g2, hn_g5];refine r _ rfl ?_;clear r R)
    exact .one (.c (ler_int (n10 (.inr (.inl (of_decide_eq_true a2)))).symm))
  repeat first|apply wa1|apply wa2|apply wa3|apply wa4|apply wa5 rfl|apply wa6|apply wa7|(refine wb1 rfl fun R r=>?_;simp only[go_sem, hn_g2, hn_g5];with_reducible refine r _ _ ?_;clear r R)
  refine aw_split 28 (by simp only[go_sem, hn_g2, hn_g5]<;>rfl) (fun a3 => ?_) (fun a3 => ?_) <;> (try simp only[go_sem, hn_g2, hn_g5])
  · repeat first|apply wa1|apply wa2|apply wa3|apply wa4|apply wa5 rfl|apply wa6|apply wa7|(refine wb1 rfl fun R r=>?_;simp only[go_sem, hn_g2, hn_g5];with_reducible refine r _ _ ?_;clear r R)
    refine aw_condT (by simp only[go_sem, hn_g2, hn_g5]<;>rfl) ?_
    repeat first|apply wa1|apply wa2|apply wa3|apply wa4|apply wa5 rfl|apply wa6|apply wa7|(refine wb1 rfl fun R r=>?_;simp only[go_sem, hn_g2, hn_g5];with_reducible refine r _ _ ?_;clear r R)
    (refine aw_retq hC rfl fun R r=>?_;simp only[go_sem, hn_g2, hn_g5];refine r _ rfl ?_;clear r R)
    exact .one (.c (ler_int (n10 (.inr (.inr (.inl (of_decide_eq_true a3))))).symm))
  repeat first|apply wa1|apply wa2|apply wa3|apply wa4|apply wa5 rfl|apply wa6|apply wa7|(refine wb1 rfl fun R r=>?_;simp only[go_sem, hn_g2, hn_g5];with_reducible refine r _ _ ?_;clear r R)
  refine aw_split 35 (by simp only[go_sem, hn_g2, hn_g5]<;>rfl) (fun a4 => ?_) (fun a4 => ?_) <;> (try simp only[go_sem, hn_g2, hn_g5])
  · repeat first|apply wa1|apply wa2|apply wa3|apply wa4|apply wa5 rfl|apply wa6|apply wa7|(refine wb1 rfl fun R r=>?_;simp only[go_sem, hn_g2, hn_g5];with_reducible refine r _ _ ?_;clear r R)
    refine aw_condT (by simp only[go_sem, hn_g2, hn_g5]<;>rfl) ?_
    repeat first|apply wa1|apply wa2|apply wa3|apply wa4|apply wa5 rfl|apply wa6|apply wa7|(refine wb1 rfl fun R r=>?_;simp only[go_sem, hn_g2, hn_g5];with_reducible refine r _ _ ?_;clear r R)
    (refine aw_retq hC rfl fun R r=>?_;simp only[go_sem, hn_g2, hn_g5];refine r _ rfl ?_;clear r R)
    exact .one (.c (ler_int (n10 (.inr (.inr (.inr (.inl (of_decide_eq_true a4)))))).symm))
  repeat first|apply wa1|apply wa2|apply wa3|apply wa4|apply wa5 rfl|apply wa6|apply wa7|(refine wb1 rfl fun R r=>?_;simp only[go_sem, hn_g2, hn_g5];with_reducible refine r _ _ ?_;clear r R)
  refine aw_split 40 (by simp only[go_sem, hn_g2, hn_g5]<;>rfl) (fun a5 => ?_) (fun a5 => ?_) <;> (try simp only[go_sem, hn_g2, hn_g5])
  · repeat first|apply wa1|apply wa2|apply wa3|apply wa4|apply wa5 rfl|apply wa6|apply wa7|(refine wb1 rfl fun R r=>?_;simp only[go_sem, hn_g2, hn_g5];with_reducible refine r _ _ ?_;clear r R)
    refine aw_condT (by simp only[go_sem, hn_g2, hn_g5]<;>rfl) ?_
    repeat first|apply wa1|apply wa2|apply wa3|apply wa4|apply wa5 rfl|apply wa6|apply wa7|(refine wb1 rfl fun R r=>?_;simp only[go_sem, hn_g2, hn_g5];with_reducible refine r _ _ ?_;clear r R)
    (refine aw_retq hC rfl fun R r=>?_;simp only[go_sem, hn_g2, hn_g5];refine r _ rfl ?_;clear r R)
    exact .one (.c (ler_int (n10 (.inr (.inr (.inr (.inr (.inl (of_decide_eq_true a5))))))).symm))
  repeat first|apply wa1|apply wa2|apply wa3|apply wa4|apply wa5 rfl|apply wa6|apply wa7|(refine wb1 rfl fun R r=>?_;simp only[go_sem, hn_g2, hn_g5];with_reducible refine r _ _ ?_;clear r R)
  refine aw_cond (by simp only[go_sem, hn_g2, hn_g5]<;>rfl) (fun a6 => ?_) (fun a6 => ?_)
  · repeat first|apply wa1|apply wa2|apply wa3|apply wa4|apply wa5 rfl|apply wa6|apply wa7|(refine wb1 rfl fun R r=>?_;simp only[go_sem, hn_g2, hn_g5];with_reducible refine r _ _ ?_;clear r R)
    (refine aw_retq hC rfl fun R r=>?_;simp only[go_sem, hn_g2, hn_g5];refine r _ rfl ?_;clear r R)
    exact .one (.c (ler_int (n10 (.inr (.inr (.inr (.inr (.inr (of_decide_eq_true a6))))))).symm))
  have hnr : ¬ nrange d i x := by
    unfold nrange
    have b1 := of_decide_eq_false a1
    have b2 := of_decide_eq_false a2
    have b3 := of_decide_eq_false a3
    have b4 := of_decide_eq_false a4
    have b5 := of_decide_eq_false a5
    have b6 := of_decide_eq_false a6
    omega
  clear a1 a2 a3 a4 a5 a6 n10
  have hno := nok_of (d := d) (i := i) (by rw [hx]; exact hnr)
  rw [hx] at hno
  obtain ⟨v0, v1, l0, l1, h0, h1⟩ := hno
  have hcode : ncode d i = if x.lo = x.hi then 2 else if !(behindB d x.lo x.v) || !(behindB d x.hi x.v) then 13 else if x ∈ d.nodes.take i then 6 else 0 := by
    unfold ncode; rw [hx, if_neg hnr]
  rw [hcode]
  clear hcode
  repeat first|apply wa1|apply wa2|apply wa3|apply wa4|apply wa5 rfl|apply wa6|apply wa7|(refine wb1 rfl fun R r=>?_;simp only[go_sem, hn_g2, hn_g5];with_reducible refine r _ _ ?_;clear r R)
  refine aw_cond (by simp only[go_sem, hn_g2, hn_g5]<;>rfl) (fun c1 => ?_) (fun c1 => ?_)
  · have c1' := eq_of_beq c1
    repeat first|apply wa1|apply wa2|apply wa3|apply wa4|apply wa5 rfl|apply wa6|apply wa7|(refine wb1 rfl fun R r=>?_;simp only[go_sem, hn_g2, hn_g5];with_reducible refine r _ _ ?_;clear r R)
    (refine aw_retq hC rfl fun R r=>?_;simp only[go_sem, hn_g2, hn_g5];refine r _ rfl ?_;clear r R)
    exact .one (.c (ler_int (by rw [if_pos c1'])))
  have c1' : ¬ x.lo = x.hi := fun e => by rw [e] at c1; simp at c1
  rw [if_neg c1']
  repeat first|apply wa1|apply wa2|apply wa3|apply wa4|apply wa5 rfl|apply wa6|apply wa7|(refine wb1 rfl fun R r=>?_;simp only[go_sem, hn_g2, hn_g5];with_reducible refine r _ _ ?_;clear r R)
  refine aw_callq (behind_fa d x.lo x.v l0 ?_ hl hl2) rfl rfl rfl (by first|exact True.intro|simp only[go_sem, hn_g2, hn_g5]<;>and_intros<;>first|exact True.intro|exact .c (.refl _)|exact .c wl2|exact .agg (lel_refl _)|exact .agg (by simp only[LeL];and_intros<;>first|exact True.intro|exact .refl _|exact wl2)|exact .c .nils) ?_
  · omega
  (try simp only[go_sem, hn_g2, hn_g5])
  repeat first|apply wa1|apply wa2|apply wa3|apply wa4|apply wa5 rfl|apply wa6|apply wa7|(refine wb1 rfl fun R r=>?_;simp only[go_sem, hn_g2, hn_g5];with_reducible refine r _ _ ?_;clear r R)
  refine aw_split 59 (by simp only[go_sem, hn_g2, hn_g5]<;>rfl) (fun c2 => ?_) (fun c2 => ?_) <;> (try simp only[go_sem, hn_g2, hn_g5])
  · repeat first|apply wa1|apply wa2|apply wa3|apply wa4|apply wa5 rfl|apply wa6|apply wa7|(refine wb1 rfl fun R r=>?_;simp only[go_sem, hn_g2, hn_g5];with_reducible refine r _ _ ?_;clear r R)
    refine aw_condT (by simp only[go_sem, hn_g2, hn_g5]<;>rfl) ?_
    repeat first|apply wa1|apply wa2|apply wa3|apply wa4|apply wa5 rfl|apply wa6|apply wa7|(refine wb1 rfl fun R r=>?_;simp only[go_sem, hn_g2, hn_g5];with_reducible refine r _ _ ?_;clear r R)
    (refine aw_retq hC rfl fun R r=>?_;simp only[go_sem, hn_g2, hn_g5];refine r _ rfl ?_;clear r R)
    exact .one (.c (ler_int (by rw [c2]; rfl)))
  repeat first|apply wa1|apply wa2|apply wa3|apply wa4|apply wa5 rfl|apply wa6|apply wa7|(refine wb1 rfl fun R r=>?_;simp only[go_sem, hn_g2, hn_g5];with_reducible refine r _ _ ?_;clear r R)
  refine aw_callq (behind_fa d x.hi x.v h0 ?_ hl hl2) rfl rfl rfl (by first|exact True.intro|simp only[go_sem, hn_g2, hn_g5]<;>and_intros<;>first|exact True.intro|exact .c (.refl _)|exact .c wl2|exact .agg (lel_refl _)|exact .agg (by simp only[LeL];and_intros<;>first|exact True.intro|exact .refl _|exact wl2)|exact .c .nils) ?_
  · omega
  (try simp only[go_sem, hn_g2, hn_g5])
  repeat first|apply wa1|apply wa2|apply wa3|apply wa4|apply wa5 rfl|apply wa6|apply wa7|(refine wb1 rfl fun R r=>?_;simp only[go_sem, hn_g2, hn_g5];with_reducible refine r _ _ ?_;clear r R)
  refine aw_cond (by simp only[go_sem, hn_g2, hn_g5]<;>rfl) (fun c3 => ?_) (fun c3 => ?_)
  · repeat first|apply wa1|apply wa2|apply wa3|apply wa4|apply wa5 rfl|apply wa6|apply wa7|(refine wb1 rfl fun R r=>?_;simp only[go_sem, hn_g2, hn_g5];with_reducible refine r _ _ ?_;clear r R)
    (refine aw_retq hC rfl fun R r=>?_;simp only[go_sem, hn_g2, hn_g5];refine r _ rfl ?_;clear r R)
    exact .one (.c (ler_int (by rw [c2, c3]; rfl)))
  rw [c2, c3, if_neg (by simp)]
  repeat first|apply wa1|apply wa2|apply wa3|apply wa4|apply wa5 rfl|apply wa6|apply wa7|(refine wb1 rfl fun R r=>?_;simp only[go_sem, hn_g2, hn_g5];with_reducible refine r _ _ ?_;clear r R)
  as_aux_lemma =>
  refine aw_lp (fun k : Nat => [(1, .c (.int .i64 i)), (2, .c (.optr g2 0)), (5, .c (.optr g5 0)), (6, .c (.int .i64 k))]) (fun _ => [(g5, .cells 72 3 (ofL (dnc x))), (g2, .cells 25 3 (ofL (dgc false d)))]) (fun k => k ≤ i ∧ ∀ j, j < k → d.nodes.getD j dn0 ≠ x) (fun k => i - k) 0 (by simp only[go_sem, hn_g2, hn_g5]<;>and_intros<;>first|exact True.intro|(with_reducible rfl)|exact c_int (by omega)|rfl) (List.Sublist.refl _) ⟨Nat.zero_le _, fun j hj => by omega⟩ ?_
  rintro k ⟨hk, hs⟩
  repeat first|apply wa1|apply wa2|apply wa3|apply wa4|apply wa5 rfl|apply wa6|apply wa7|(refine wb1 rfl fun R r=>?_;simp only[go_sem, hn_g2, hn_g5];with_reducible refine r _ _ ?_;clear r R)
  refine aw_cond (by simp only[go_sem, hn_g2, hn_g5]<;>rfl) (fun hb => ?_) (fun hb => ?_)
  · have hki : k < i := by have := of_decide_eq_true hb; omega
    repeat first|apply wa1|apply wa2|apply wa3|apply wa4|apply wa5 rfl|apply wa6|apply wa7|(refine wb1 rfl fun R r=>?_;simp only[go_sem, hn_g2, hn_g5];with_reducible refine r _ _ ?_;clear r R)
    refine aw_dr 7 ty_mixed (by kernel_rfl) ?_
    repeat first|apply wa1|apply wa2|apply wa3|apply wa4|apply wa5 rfl|apply wa6|apply wa7|(refine wb1 rfl fun R r=>?_;simp only[go_sem, hn_g2, hn_g5];with_reducible refine r _ _ ?_;clear r R)|apply wa8|(refine wd1 rfl fun R r=>?_;simp only[go_sem, hn_g2, hn_g5];with_reducible refine r _ _ ?_;clear r R)
    refine aw_cond (by simp only[go_sem, hn_g2, hn_g5]<;>rfl) (fun he => ?_) (fun he => ?_)
    · rw [eqDN] at he
      have he' := of_decide_eq_true he
      repeat first|apply wa1|apply wa2|apply wa3|apply wa4|apply wa5 rfl|apply wa6|apply wa7|(refine wb1 rfl fun R r=>?_;simp only[go_sem, hn_g2, hn_g5];with_reducible refine r _ _ ?_;clear r R)|apply wa8|(refine wd1 rfl fun R r=>?_;simp only[go_sem, hn_g2, hn_g5];with_reducible refine r _ _ ?_;clear r R)
      (refine aw_retq hC rfl fun R r=>?_;simp only[go_sem, hn_g2, hn_g5];refine r _ rfl ?_;clear r R)
      exact .one (.c (ler_int (by rw [if_pos (take_memN.2 ⟨k, hki, by omega, he'⟩)])))
    · rw [eqDN] at he
      have he' := of_decide_eq_false he
      repeat first|apply wa1|apply wa2|apply wa3|apply wa4|apply wa5 rfl|apply wa6|apply wa7|(refine wb1 rfl fun R r=>?_;simp only[go_sem, hn_g2, hn_g5];with_reducible refine r _ _ ?_;clear r R)|apply wa8|(refine wd1 rfl fun R r=>?_;simp only[go_sem, hn_g2, hn_g5];with_reducible refine r _ _ ?_;clear r R)
      refine aw_stop ⟨k + 1, by omega, (by simp only[go_sem, hn_g2, hn_g5]<;>and_intros<;>first|exact True.intro|(with_reducible rfl)|exact c_int (by omega)|rfl), (List.Sublist.refl _), by omega, fun j hj => ?_⟩
      by_cases hjk : j = k
      · rw [hjk]; exact he'
      · exact hs j (by omega)
  · have hki : k = i := by have := of_decide_eq_false hb; omega
    subst hki
    repeat first|apply wa1|apply wa2|apply wa3|apply wa4|apply wa5 rfl|apply wa6|apply wa7|(refine wb1 rfl fun R r=>?_;simp only[go_sem, hn_g2, hn_g5];with_reducible refine r _ _ ?_;clear r R)
    (refine aw_retq hC rfl fun R r=>?_;simp only[go_sem, hn_g2, hn_g5];refine r _ rfl ?_;clear r R)
    exact .one (.c (ler_int (by rw [if_neg (fun hm => by obtain ⟨j, h1, _, h3⟩ := take_memN.1 hm; exact hs j h1 h3)])))
end Go.Proofs.Ytmkomfdiggcloaa

/- faultlineref15: number, Check. -/
namespace Go.PN
open Go.AI
/-- The nodes below a reference, kids first, those of b left out. -/
def numF (ns : List DN) : Nat → Int → List Int → List Int
  | 0, _, b => b
  | k + 1, r, b => if r < 2 ∨ r ∈ b then b else numF ns k (ns.getD (r - 2).toNat dn0).hi (numF ns k (ns.getD (r - 2).toNat dn0).lo b) ++ [r]
theorem nodup_range {n : Nat} {b : List Int} (h : b.Nodup) (hb : ∀ x ∈ b, 2 ≤ x ∧ x < n + 2) : b.length ≤ n := by
  have := nodup_le (m := (List.range n).map fun (i : Nat) => (i : Int) + 2) h (fun x hx => by
    have h1 := hb x hx
    refine List.mem_map.2 ⟨(x - 2).toNat, List.mem_range.2 (by omega), by omega⟩)
  simpa using this
theorem numF_mono {ns : List DN} : ∀ (k : Nat) (r : Int) (b : List Int) (x : Int), x ∈ b → x ∈ numF ns k r b
  | 0, _, b, x, h => h
  | k + 1, r, b, x, h => by
    rw [numF]
    split
    · exact h
    · exact List.mem_append_left _ (numF_mono k _ _ x (numF_mono k _ _ x h))
theorem numF_bd {m : Nat} {ns : List DN} (hn : NsOk m ns) : ∀ (k : Nat) (r : Int) (b : List Int), r < ns.length + 2 → b.Nodup → (∀ x ∈ b, 2 ≤ x ∧ x < ns.length + 2) →
    (numF ns k r b).Nodup ∧ (∀ x ∈ numF ns k r b, 2 ≤ x ∧ x < ns.length + 2) ∧ (∀ x ∈ numF ns k r b, x ∈ b ∨ x ≤ r)
  | 0, r, b, _, h1, h2 => ⟨h1, h2, fun x hx => .inl hx⟩
  | k + 1, r, b, hr, h1, h2 => by
    rw [numF]
    split
    · exact ⟨h1, h2, fun x hx => .inl hx⟩
    · rename_i hc
      obtain ⟨v0, v1, l0, l1, g0, g1⟩ := hn (r - 2).toNat (by omega)
      obtain ⟨a1, a2, a3⟩ := numF_bd hn k (ns.getD (r - 2).toNat dn0).lo b (by omega) h1 h2
      obtain ⟨b1, b2, b3⟩ := numF_bd hn k (ns.getD (r - 2).toNat dn0).hi _ (by omega) a1 a2
      refine ⟨?_, fun x hx => ?_, fun x hx => ?_⟩
      · rw [List.nodup_append]
        refine ⟨b1, by simp, fun x hx y hy e => ?_⟩
        simp only [List.mem_singleton] at hy
        subst hy
        rcases b3 x hx with h | h
        · rcases a3 x h with h | h
          · exact hc (.inr (e ▸ h))
          · omega
        · omega
      · rcases List.mem_append.1 hx with hx | hx
        · exact b2 x hx
        · simp only [List.mem_singleton] at hx; omega
      · rcases List.mem_append.1 hx with hx | hx
        · rcases b3 x hx with h | h
          · rcases a3 x h with h | h
            · exact .inl h
            · exact .inr (by omega)
          · exact .inr (by omega)
        · simp only [List.mem_singleton] at hx; exact .inr (by omega)
theorem place_ge {l : List Int} {n : Int} : decide (placeZ l n ≥ 0) = decide (n ∈ l) := by
  unfold placeZ
  by_cases h : n ∈ l <;> simp [h]
theorem le_gsi {pre : Heap} {og : Option Nat} {e n : Nat} {zs : List Int} (hog : og = none → n = 0) (hn : ∀ g, og = some g → g ∉ pre.keys) (hl : zs.length = n) : LeC (pre ++ gh og e n (isF zs)) (gs og 1 n) (is false zs) := by
  subst hl
  have := le_gs (pre := pre) (og := og) (e := e) (s := 1) (n := zs.length) (f := isF zs) (f' := isF zs) hog hn (fun j _ => .refl _)
  simpa only [Nat.mul_one] using this
theorem gh_nd {o : AObj} {g3 : Nat} {og : Option Nat} {e n : Nat} {f : Nat → CV} (h : Heap.keys ((g3, o) :: gh og e n f) |>.Nodup) : ∀ g, og = some g → ¬ g = g3 := by
  rintro g rfl rfl
  simp [Heap.keys, gh] at h
end Go.PN
namespace Go.Proofs.Ytmkomfdiggcloaa
open Go.AI Go.PN
attribute [local irreducible] aw Fa Fh DrK
set_option maxRecDepth 100000 in
set_option maxHeartbeats 1600000 in
theorem number_fh (d : DG) (hns : NsOk d.order.length d.nodes) (hnl : d.nodes.length ≤ 1000000) : ∀ (k : Nat) (r : Int) (b : List Int) (og : Option Nat) (n : Nat), r.toNat ≤ k → 0 ≤ r → r < d.nodes.length + 2 → b.Nodup → (∀ x ∈ b, 2 ≤ x ∧ x < d.nodes.length + 2) → b.length = n → (og = none → n = 0) →
    Fh Try.prog 66 (gh og 3 n (isF b)) [.agg (dgc false d), .c (.int .i64 r), .c (gs og 1 n)]
      (fun res h => ∃ og' n', (numF d.nodes k r b).length = n' ∧ (og' = none → n' = 0) ∧ res = .c (gs og' 1 n') ∧ h = gh og' 3 n' (isF (numF d.nodes k r b))) := by
  intro k
  induction k with
  | zero =>
    intro r b og n hk h0 hr hbn hbr hbl hog
    have hr0 : r = 0 := by omega
    subst hr0
    refine fh_of_body Try.func66 rfl rfl (by simp [Try.ntmps66]) fun C hC => ?_
    simp only [initS, Nat.reduceAdd]
    repeat first|apply wa1|apply wa2|apply wa3|apply wa4|apply wa5 rfl|apply wa6|apply wa7|(refine wb1 rfl fun R r=>?_;simp only[go_sem];with_reducible refine r _ _ ?_;clear r R)
    refine aw_box rfl rfl rfl (by simp only[go_sem]<;>rfl) (fun _ e => by cases e) rfl fun g3 hn_g3 => ?_
    replace hn_g3 := Heap.ne_of hn_g3
    first | dsimp only [Heap.ne, gh] at hn_g3 | dsimp only [Heap.ne] at hn_g3 | skip
    (try simp only[go_sem, hn_g3])
    repeat first|apply wa1|apply wa2|apply wa3|apply wa4|apply wa5 rfl|apply wa6|apply wa7|(refine wb1 rfl fun R r=>?_;simp only[go_sem, hn_g3];with_reducible refine r _ _ ?_;clear r R)
    refine aw_split 10 (by simp only[go_sem, hn_g3]<;>rfl) (fun hb => ?_) (fun hb => ?_) <;> (try simp only[go_sem, hn_g3])
    · repeat first|apply wa1|apply wa2|apply wa3|apply wa4|apply wa5 rfl|apply wa6|apply wa7|(refine wb1 rfl fun R r=>?_;simp only[go_sem, hn_g3];with_reducible refine r _ _ ?_;clear r R)
      refine aw_condT (by simp only[go_sem, hn_g3]<;>rfl) ?_
      repeat first|apply wa1|apply wa2|apply wa3|apply wa4|apply wa5 rfl|apply wa6|apply wa7|(refine wb1 rfl fun R r=>?_;simp only[go_sem, hn_g3];with_reducible refine r _ _ ?_;clear r R)
      refine aw_keep [(6, .c (gs og 1 n))] (gh og 3 n (isF b)) (by simp only[go_sem, hn_g3]<;>and_intros<;>first|exact True.intro|(with_reducible rfl)|exact c_int (by omega)|rfl) (List.Sublist.cons _ (List.Sublist.refl _)) ?_
      (refine aw_rethq rfl fun R r=>?_;simp only[go_sem, hn_g3];refine r _ rfl ?_;clear r R)
      exact ⟨og, n, hbl, hog, rfl, rfl⟩
    · exact absurd hb (by decide)
  | succ k ih =>
    intro r b og n hk h0 hr hbn hbr hbl hog
    have hnb := nodup_range hbn hbr
    refine fh_of_body Try.func66 rfl rfl (by simp [Try.ntmps66]) fun C hC => ?_
    simp only [initS, Nat.reduceAdd]
    repeat first|apply wa1|apply wa2|apply wa3|apply wa4|apply wa5 rfl|apply wa6|apply wa7|(refine wb1 rfl fun R r=>?_;simp only[go_sem];with_reducible refine r _ _ ?_;clear r R)
    refine aw_box rfl rfl rfl (by simp only[go_sem]<;>rfl) (fun _ e => by cases e) rfl fun g3 hn_g3 => ?_
    replace hn_g3 := Heap.ne_of hn_g3
    first | dsimp only [Heap.ne, gh] at hn_g3 | dsimp only [Heap.ne] at hn_g3 | skip
    (try simp only[go_sem, hn_g3])
    repeat first|apply wa1|apply wa2|apply wa3|apply wa4|apply wa5 rfl|apply wa6|apply wa7|(refine wb1 rfl fun R r=>?_;simp only[go_sem, hn_g3];with_reducible refine r _ _ ?_;clear r R)
    refine aw_split 10 (by simp only[go_sem, hn_g3]<;>rfl) (fun hb => ?_) (fun hb => ?_) <;> (try simp only[go_sem, hn_g3])
    · have hb' := of_decide_eq_true hb
      repeat first|apply wa1|apply wa2|apply wa3|apply wa4|apply wa5 rfl|apply wa6|apply wa7|(refine wb1 rfl fun R r=>?_;simp only[go_sem, hn_g3];with_reducible refine r _ _ ?_;clear r R)
      refine aw_condT (by simp only[go_sem, hn_g3]<;>rfl) ?_
      repeat first|apply wa1|apply wa2|apply wa3|apply wa4|apply wa5 rfl|apply wa6|apply wa7|(refine wb1 rfl fun R r=>?_;simp only[go_sem, hn_g3];with_reducible refine r _ _ ?_;clear r R)
      refine aw_keep [(6, .c (gs og 1 n))] (gh og 3 n (isF b)) (by simp only[go_sem, hn_g3]<;>and_intros<;>first|exact True.intro|(with_reducible rfl)|exact c_int (by omega)|rfl) (List.Sublist.cons _ (List.Sublist.refl _)) ?_
      (refine aw_rethq rfl fun R r=>?_;simp only[go_sem, hn_g3];refine r _ rfl ?_;clear r R)
      rw [numF, if_pos (.inl hb')]
      exact ⟨og, n, hbl, hog, rfl, rfl⟩
    · have hb' := of_decide_eq_false hb
      refine aw_nd fun hnd => ?_
      replace hnd := gh_nd hnd
      have hp3 : ∀ g, og = some g → g ∉ Heap.keys [(g3, AObj.cells 25 3 (ofL (dgc false d)))] := fun g e => by simp only [Heap.keys, List.map_cons, List.map_nil, List.mem_singleton]; exact hnd g e
      repeat first|apply wa1|apply wa2|apply wa3|apply wa4|apply wa5 rfl|apply wa6|apply wa7|(refine wb1 rfl fun R r=>?_;simp only[go_sem, hn_g3];with_reducible refine r _ _ ?_;clear r R)
      refine aw_callq (place_fa b r (by omega)) rfl rfl rfl (by (try simp only[go_sem, hn_g3]); exact ⟨.c (le_gsi (pre := [(g3, _)]) hog hp3 hbl), .c (.refl _)⟩) ?_
      (try simp only[go_sem, hn_g3])
      repeat first|apply wa1|apply wa2|apply wa3|apply wa4|apply wa5 rfl|apply wa6|apply wa7|(refine wb1 rfl fun R r=>?_;simp only[go_sem, hn_g3];with_reducible refine r _ _ ?_;clear r R)
      refine aw_cond (by simp only[go_sem, hn_g3]<;>rfl) (fun hm => ?_) (fun hm => ?_)
      · rw [place_ge] at hm
        have hm' := of_decide_eq_true hm
        repeat first|apply wa1|apply wa2|apply wa3|apply wa4|apply wa5 rfl|apply wa6|apply wa7|(refine wb1 rfl fun R r=>?_;simp only[go_sem, hn_g3];with_reducible refine r _ _ ?_;clear r R)
        refine aw_keep [(6, .c (gs og 1 n))] (gh og 3 n (isF b)) (by simp only[go_sem, hn_g3]<;>and_intros<;>first|exact True.intro|(with_reducible rfl)|exact c_int (by omega)|rfl) (List.Sublist.cons _ (List.Sublist.refl _)) ?_
        (refine aw_rethq rfl fun R r=>?_;simp only[go_sem, hn_g3];refine r _ rfl ?_;clear r R)
        rw [numF, if_pos (.inr hm')]
        exact ⟨og, n, hbl, hog, rfl, rfl⟩
      · rw [place_ge] at hm
        have hm' := of_decide_eq_false hm
        have hc : ¬ (r < 2 ∨ r ∈ b) := by rintro (h | h); exact hb' h; exact hm' h
        rw [numF, if_neg hc]
        obtain ⟨v0, v1, l0, l1, q0, q1⟩ := hns (r - 2).toNat (by omega)
        obtain ⟨a1, a2, a3⟩ := numF_bd hns k (d.nodes.getD (r - 2).toNat dn0).lo b (by omega) hbn hbr
        obtain ⟨b1, b2, b3⟩ := numF_bd hns k (d.nodes.getD (r - 2).toNat dn0).hi _ (by omega) a1 a2
        have hnc := nodup_range b1 b2
        repeat first|apply wa1|apply wa2|apply wa3|apply wa4|apply wa5 rfl|apply wa6|apply wa7|(refine wb1 rfl fun R r=>?_;simp only[go_sem, hn_g3];with_reducible refine r _ _ ?_;clear r R)
        refine aw_alloc rfl rfl rfl (by simp only[go_sem, hn_g3]<;>rfl) fun g7 hn_g7 => ?_
        replace hn_g7 := Heap.ne_of hn_g7
        first | dsimp only [Heap.ne, gh] at hn_g7 | dsimp only [Heap.ne] at hn_g7 | skip
        (try simp only[go_sem, hn_g3, hn_g7])
        repeat first|apply wa1|apply wa2|apply wa3|apply wa4|apply wa5 rfl|apply wa6|apply wa7|(refine wb1 rfl fun R r=>?_;simp only[go_sem, hn_g3, hn_g7];with_reducible refine r _ _ ?_;clear r R)
        refine aw_store rfl rfl rfl rfl (by simp only[go_sem, hn_g3, hn_g7]<;>rfl) (by simp only[go_sem, hn_g3, hn_g7]<;>rfl) (by simp only[go_sem, hn_g3, hn_g7]<;>rfl) (by simp only[go_sem, hn_g3, hn_g7]<;>rfl) (fun _ e => by cases e) (by rfl) (by rfl) (by first|omega|simp) rfl ?_
        (try simp only[go_sem, hn_g3, hn_g7])
        generalize d.nodes.getD (r - 2).toNat dn0 = x at *
        repeat first|apply wa1|apply wa2|apply wa3|apply wa4|apply wa5 rfl|apply wa6|apply wa7|(refine wb1 rfl fun R r=>?_;simp only[go_sem, hn_g3, hn_g7];with_reducible refine r _ _ ?_;clear r R)
        refine aw_callh (hr := [(g7, AObj.cells 72 3 (ofL (dnc x))), (g3, AObj.cells 25 3 (ofL (dgc false d)))]) (ih x.lo b og n (by omega) l0 (by omega) hbn hbr hbl hog) rfl rfl rfl (List.perm_append_comm (l₁ := [(g7, AObj.cells 72 3 (ofL (dnc x))), (g3, AObj.cells 25 3 (ofL (dgc false d)))])) (by first|exact True.intro|simp only[go_sem, hn_g3, hn_g7]<;>and_intros<;>first|exact True.intro|exact .c (.refl _)|exact .c wl2|exact .agg (lel_refl _)|exact .agg (by simp only[LeL];and_intros<;>first|exact True.intro|exact .refl _|exact wl2)|exact .c .nils) ?_
        rintro _ _ ⟨og2, n2, hn2, hog2, rfl, rfl⟩ hk2
        (try simp only[go_sem, hn_g3, hn_g7])
        refine aw_perm (List.perm_append_comm (l₂ := [(g7, AObj.cells 72 3 (ofL (dnc x))), (g3, AObj.cells 25 3 (ofL (dgc false d)))])) ?_
        repeat first|apply wa1|apply wa2|apply wa3|apply wa4|apply wa5 rfl|apply wa6|apply wa7|(refine wb1 rfl fun R r=>?_;simp only[go_sem, hn_g3, hn_g7];with_reducible refine r _ _ ?_;clear r R)
        refine aw_callh (hr := [(g7, AObj.cells 72 3 (ofL (dnc x))), (g3, AObj.cells 25 3 (ofL (dgc false d)))]) (ih x.hi _ og2 n2 (by omega) q0 (by omega) a1 a2 hn2 hog2) rfl rfl rfl (List.perm_append_comm (l₁ := [(g7, AObj.cells 72 3 (ofL (dnc x))), (g3, AObj.cells 25 3 (ofL (dgc false d)))])) (by first|exact True.intro|simp only[go_sem, hn_g3, hn_g7]<;>and_intros<;>first|exact True.intro|exact .c (.refl _)|exact .c wl2|exact .agg (lel_refl _)|exact .agg (by simp only[LeL];and_intros<;>first|exact True.intro|exact .refl _|exact wl2)|exact .c .nils) ?_
        rintro _ _ ⟨og3, n3, hn3, hog3, rfl, rfl⟩ hk3
        (try simp only[go_sem, hn_g3, hn_g7])
        refine aw_perm (List.perm_append_comm (l₂ := [(g7, AObj.cells 72 3 (ofL (dnc x))), (g3, AObj.cells 25 3 (ofL (dgc false d)))])) ?_
        repeat first|apply wa1|apply wa2|apply wa3|apply wa4|apply wa5 rfl|apply wa6|apply wa7|(refine wb1 rfl fun R r=>?_;simp only[go_sem, hn_g3, hn_g7];with_reducible refine r _ _ ?_;clear r R)
        refine aw_push (pre := [(g7, AObj.cells 72 3 (ofL (dnc x))), (g3, AObj.cells 25 3 (ofL (dgc false d)))]) rfl rfl rfl rfl rfl rfl rfl (by simp only[go_sem, hn_g3, hn_g7]<;>rfl) (by simp only[go_sem, hn_g3, hn_g7]<;>rfl) (by rfl) (by omega) (by omega) (by simp only[go_sem, hn_g3, hn_g7]<;>rfl) (by omega) (by exact hog3) (by simp only[go_sem, hn_g3, hn_g7]<;>rfl) (by rfl) (by rfl) (by first | rfl | simp only [Nat.mul_one, List.nil_append, List.cons_append] <;> rfl) (by unfold maxLen; omega) (by omega) (by exact is_push hn3 _) fun g1 hn_g1 => ?_
        replace hn_g1 := Heap.ne_of hn_g1
        first | dsimp only [Heap.ne, gh] at hn_g1 | dsimp only [Heap.ne] at hn_g1 | skip
        (try simp only[go_sem, hn_g3, hn_g7, hn_g1])
        repeat first|apply wa1|apply wa2|apply wa3|apply wa4|apply wa5 rfl|apply wa6|apply wa7|(refine wb1 rfl fun R r=>?_;simp only[go_sem, hn_g3, hn_g7, hn_g1];with_reducible refine r _ _ ?_;clear r R)
        refine aw_keep [(6, .c (gs (some g1) 1 (n3 + 1)))] (gh (some g1) 3 (n3 + 1) (isF (numF d.nodes k x.hi (numF d.nodes k x.lo b) ++ [r]))) (by simp only[go_sem, hn_g3, hn_g7, hn_g1]<;>and_intros<;>first|exact True.intro|(with_reducible rfl)|exact c_int (by omega)|rfl) (List.Sublist.cons _ (List.Sublist.cons _ (List.Sublist.refl _))) ?_
        (refine aw_rethq rfl fun R r=>?_;simp only[go_sem, hn_g3, hn_g7, hn_g1];refine r _ rfl ?_;clear r R)
        exact ⟨some g1, n3 + 1, by simp [hn3], fun e => (by cases e), rfl, rfl⟩
end Go.Proofs.Ytmkomfdiggcloaa
