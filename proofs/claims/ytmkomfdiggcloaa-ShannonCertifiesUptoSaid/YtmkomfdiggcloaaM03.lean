/- Texts of one proof, laid one behind the other by a program (merge.py): AiMake, AiGrow, AiApp, AiDraw, AiTac. -/
import Derived.Test.YtmkomfdiggcloaaM02
import Derived.Laws.MakeOwn
import Derived.Orders
set_option linter.unusedSimpArgs false
set_option linter.unusedVariables false
/- Slices that the call makes: make, literals, append. -/
namespace Go.AI
section
variable {E : Env} {K : List It} {σ σ' : Sl} {h : Heap} {all rest : List Oper} {o : Oper}

theorem putL_get (us : List Value) : ∀ (cs : Array Value) (k j : Nat), k + us.length ≤ cs.size → (putL cs k us)[j]? = if k ≤ j ∧ j < k + us.length then us[j - k]? else cs[j]? := by
  induction us with
  | nil => intro cs k j _; simp [putL]; omega
  | cons u us ih =>
    intro cs k j hl
    simp only [List.length_cons] at hl
    rw [putL, ih _ _ _ (by simp; omega)]
    by_cases h1 : k + 1 ≤ j ∧ j < k + 1 + us.length
    · rw [if_pos h1, if_pos (by simp; omega)]
      have : j - k = (j - (k + 1)) + 1 := by omega
      rw [this]; simp
    · rw [if_neg h1]
      by_cases h2 : j = k
      · subst h2
        rw [if_pos (by simp)]
        simp [show j < cs.size from by omega]
      · rw [if_neg (by simp; omega), Array.getElem?_setIfInBounds_ne (fun e => h2 e.symm)]
theorem putL_full (us : List Value) (cs : Array Value) (hs : cs.size = us.length) : putL cs 0 us = us.toArray := by
  apply Array.ext_getElem?
  intro j
  rw [putL_get us cs 0 j (by omega)]
  by_cases hj : j < us.length
  · rw [if_pos (by omega)]; simp
  · rw [if_neg (by omega), Array.getElem?_eq_none (by omega)]; simp; omega

theorem fold_putL (us : List Value) (off : Nat) : ∀ (cs : Array Value) (k : Nat), (us.zipIdx k).foldl (fun cs (p : Value × Nat) => cs.setIfInBounds (off + p.2) p.1) cs = putL cs (off + k) us := by
  induction us with
  | nil => intro cs k; rfl
  | cons u us ih => intro cs k; simp only [List.zipIdx_cons, List.foldl_cons, ih, putL, Nat.add_assoc]
theorem fold_putL' (v : Value) (off : Nat) (cs : Array Value) : v.cells.zipIdx.foldl (fun cs (c, j) => cs.setIfInBounds (off + j) c) cs = putL cs off v.cells.toList := by
  have := fold_putL v.cells.toList off cs 0
  rw [Nat.add_zero] at this
  rw [← this, ← Array.foldl_toList]
  simp

def enumL : Nat → List Value → List (Nat × Value)
  | _, [] => []
  | k, v :: vs => (k, v) :: enumL (k + 1) vs
theorem putL_append (us vs : List Value) : ∀ (cs : Array Value) (k : Nat), putL cs k (us ++ vs) = putL (putL cs k us) (k + us.length) vs := by
  induction us with
  | nil => intro cs k; simp [putL]
  | cons u us ih => intro cs k; simp only [List.cons_append, putL, ih, List.length_cons]; congr 1; omega
theorem fill_seq (size : Nat) : ∀ (vs : List Value) (k : Nat) (cs : Array Value), (∀ v ∈ vs, v.cells.size = size) → (k + vs.length) * size ≤ cs.size →
    Instr.fill (fun i => some (i * size, size)) cs (enumL k vs) = some (putL cs (k * size) (vs.flatMap fun v => v.cells.toList))
  | [], k, cs, _, _ => rfl
  | v :: vs, k, cs, hv, hl => by
    have h1 : v.cells.size = size := hv v (by simp)
    have h2 : (k + (vs.length + 1)) * size = k * size + size + vs.length * size := by rw [Nat.add_mul, Nat.add_mul]; omega
    simp only [List.length_cons] at hl
    simp only [enumL, Instr.fill]
    rw [if_neg (by simp only [h1, ne_eq, not_true_eq_false, decide_false, Bool.false_or, decide_eq_true_eq]; omega), fold_putL']
    rw [fill_seq size vs (k + 1) _ (fun x hx => hv x (List.mem_cons_of_mem _ hx)) (by rw [putL_size]; rw [show k + 1 + vs.length = k + (vs.length + 1) from by omega]; exact hl)]
    simp only [List.flatMap_cons, putL_append]
    congr 2
    rw [Nat.add_mul]
    simp [h1]

theorem RepL.append {S : Bool → Nat → Prop} {w : World} : ∀ {xs ys : List CV} {us vs : List Value}, RepL S w xs us → RepL S w ys vs → RepL S w (xs ++ ys) (us ++ vs)
  | [], _, [], _, _, h2 => h2
  | _ :: _, _, _ :: _, _, h1, h2 => ⟨h1.1, RepL.append h1.2 h2⟩
  | [], _, _ :: _, _, h1, _ => h1.elim
  | _ :: _, _, [], _, h1, _ => h1.elim

theorem parts_rep {N : Nat} {C : Ctx} {a : Act} {w : World} (s : St N C σ h a w) (size : Nat) : ∀ (xs : List Operand), (∀ x ∈ xs, (ev σ x).flat = true ∧ (ev σ x).cells.all CV.solid = true ∧ (ev σ x).cells.length = size) →
    RepL (Stab C h w) w ((xs.map (ev σ)).flatMap AV.cells) ((xs.map a.eval).flatMap fun v => v.cells.toList) ∧ ∀ v ∈ xs.map a.eval, v.cells.size = size
  | [], _ => ⟨trivial, by simp⟩
  | x :: xs, hx => by
    obtain ⟨h1, h2, h3⟩ := hx x (by simp)
    obtain ⟨hL, _⟩ := rep_cells (fun ys e => by rw [e] at h1; cases h1) h2 (ev_rep s x)
    obtain ⟨r1, r2⟩ := parts_rep s size xs (fun y hy => hx y (List.mem_cons_of_mem _ hy))
    refine ⟨by simpa using hL.append r1, ?_⟩
    intro v hv
    simp only [List.map_cons, List.mem_cons] at hv
    rcases hv with rfl | hv
    · have := hL.length; rw [h3] at this; simpa using this
    · exact r2 v hv

def enumO : Nat → List Operand → List (Nat × Operand)
  | _, [] => []
  | k, v :: vs => (k, v) :: enumO (k + 1) vs
theorem enum_map (e : Operand → Value) : ∀ (xs : List Operand) (k : Nat), (enumO k xs).map (fun p => (p.1, e p.2)) = enumL k (xs.map e)
  | [], _ => rfl
  | _ :: xs, k => by simp [enumO, enumL, enum_map e xs (k + 1)]

/-- A slice literal: all its elements, in order. -/
theorem aw_buildSlice {t e size bytes len : Nat} {xs : List Operand} {cells : List CV} (hop : o.op = .buildSlice t len (enumO 0 xs).toArray) (hw : wantA all σ o = some true) (hd : dstOk E.N o.dst = true) (ht : tElem E.P t = some (e, size, bytes))
    (hz : (tZero E.P e).isSome = true) (hl : xs.length = len) (hsm : len * size ≤ 16777216) (hlm : len ≤ 16777216) (hx : ∀ x ∈ xs, (ev σ x).flat = true ∧ (ev σ x).cells.all CV.solid = true ∧ (ev σ x).cells.length = size) (hc : (xs.map (ev σ)).flatMap AV.cells = cells)
    (k : ∀ g, g ∉ h.keys → aw E (.ops all rest :: K) (σ.setO o.dst (.c (.osl g size 0 len))) ((g, .cells e (len * size) (ofL cells)) :: h)) : aw E (.ops all (o :: rest) :: K) σ h := by
  subst hc
  refine aw_new (r := fun g => .c (.osl g size 0 len)) (ob := .cells e (len * size) (ofL ((xs.map (ev σ)).flatMap AV.cells))) hw hd (fun a w s => ?_) k
  obtain ⟨hu, inf, hi, hsz, _⟩ := tElem_spec ht
  obtain ⟨z, hz'⟩ := Option.isSome_iff_exists.1 hz
  obtain ⟨i', zv, hi', hzv, _⟩ := tZero_spec hz'
  rw [hi] at hi'
  injection hi' with hi'
  subst hi'
  obtain ⟨hL, hcs⟩ := parts_rep s size xs hx
  have hnk : w.heap.size ∉ h.keys := fun hm => Nat.lt_irrefl _ (s.klt hm)
  generalize hvs : xs.map a.eval = vs at hL hcs
  have hlv : vs.length = len := by rw [← hvs]; simpa using hl
  have hfl : (vs.flatMap fun v => v.cells.toList).length = len * size := by
    rw [← hlv]
    clear hL hvs hlv
    induction vs with
    | nil => simp
    | cons v vs ih => simp only [List.flatMap_cons, List.length_append, List.length_cons, ih (fun x hx => hcs x (List.mem_cons_of_mem _ hx)), Nat.add_mul]; have := hcs v (by simp); simp [this]; omega
  refine ⟨.slice (some ⟨w.heap.size, 0, none⟩) len len, w.alloc (.cells (vs.flatMap fun v => v.cells.toList).toArray e), ?_, Fr.alloc _ _ _, by simp, ?_, ?_⟩
  · have hm : (Array.map (fun x : Nat × Operand => (x.1, a.eval x.2)) (enumO 0 xs).toArray).toList = enumL 0 vs := by
      rw [← hvs, ← enum_map]; simp
    have hfill : ∀ zc : Array Value, Instr.fill (fun i => some (i * size, size)) ((Array.range (len * size)).map (fun x => zc[x % zc.size]!)) (enumL 0 vs) = some (vs.flatMap fun v => v.cells.toList).toArray := fun zc => by
      rw [fill_seq size vs 0 _ hcs (by simp [hlv])]
      rw [Nat.zero_mul, putL_full _ _ (by simp [hfl])]
    simp only [execOp, hop, Instr.buildSlice, Sem.run_bind, run_underlying hu, Result.andThen_ok, sizeOf, typeInfo, Sem.run_pure]
    simp only [run_program, hi, Result.andThen_ok, Sem.run_pure, hsz]
    rw [if_neg (by omega)]
    rw [hm]
    by_cases h0 : len * size = 0
    · rw [if_pos h0]
      simp only [Sem.run_bind, Sem.run_pure, Result.andThen_ok, hfill]
      rfl
    · rw [if_neg h0]
      simp only [Sem.run_bind, Sem.run_pure, Result.andThen_ok, zeroValue, typeInfo, run_program, hi, hzv, hfill]
      rfl
  · have hr := orep_new (C := E.C) (w := w) (ty := e) (h' := ((w.heap.size, AObj.cells e (len * size) (ofL ((xs.map (ev σ)).flatMap AV.cells))) :: h)) (hL.keep (keeps_alloc hnk))
    have hcl : ((xs.map (ev σ)).flatMap AV.cells).length = len * size := by rw [← hL.length, hfl]
    rw [hcl] at hr
    exact hr
  · exact ⟨len, rfl, Nat.le_refl _, by unfold maxLen; omega, (vs.flatMap fun v => v.cells.toList).toArray, e, heap_alloc_new w _, by simp [hfl]⟩
end
end Go.AI

/- make, append, slice expressions, struct literals. -/
namespace Go.AI
section
variable {E : Env} {K : List It} {σ σ' : Sl} {h : Heap} {all rest : List Oper} {o : Oper}

theorem ofL_map_cst (l : List Value) (j : Nat) (hj : j < l.length) (S : Bool → Nat → Prop) (w : World) : RepC S w (ofL (l.map cstC) j) (l[j]) := by
  rw [ofL_get (l.map cstC) j (cstC l[j]) (by simp [hj])]
  exact cstC_rep S w _

theorem aw_make {t e size bytes n c : Nat} {z : List CV} {xl xc : Operand} {kl kc : IntKind} {nl nc : Int} (hop : o.op = .makeSlice t xl xc) (hw : wantA all σ o = some true) (hd : dstOk E.N o.dst = true) (ht : tElem E.P t = some (e, size, bytes))
    (hz : tZero E.P e = some z) (hzl : z.length = size) (hs0 : 0 < size) (hl : ev σ xl = .c (.int kl nl)) (hc : ev σ xc = .c (.int kc nc)) (hn : nl = n) (hcn : nc = c) (hnc : n ≤ c) (hby : bytes * c ≤ 281474976710656) (hc63 : c ≤ 9223372036854775807)
    (k : ∀ g, g ∉ h.keys → aw E (.ops all rest :: K) (σ.setO o.dst (.c (.osl g size 0 n))) ((g, .cells e (c * size) (fun j => ofL z (j % size))) :: h)) : aw E (.ops all (o :: rest) :: K) σ h := by
  refine aw_new (r := fun g => .c (.osl g size 0 n)) (ob := .cells e (c * size) (fun j => ofL z (j % size))) hw hd (fun a w s => ?_) k
  obtain ⟨hu, inf, hi, hsz, hbb⟩ := tElem_spec ht
  obtain ⟨i', zv, hi', hzv, rfl⟩ := tZero_spec hz
  rw [hi] at hi'
  injection hi' with hi'
  subst hi'
  have h1 : a.eval xl = .int kl n := by have := ev_rep s xl; rw [hl, hn] at this; exact this
  have h2 : a.eval xc = .int kc c := by have := ev_rep s xc; rw [hc, hcn] at this; exact this
  have hb' : (inf.bytes : Int) * (c : Int) ≤ 281474976710656 := by
    have h : ((inf.bytes * c : Nat) : Int) ≤ 281474976710656 := by rw [hbb]; omega
    rwa [Int.natCast_mul] at h
  have hr := run_make (P := E.P) w t e inf zv hu hi hzv kl kc n c (by omega) (by omega) hb' (by omega)
  simp only [Int.toNat_natCast] at hr
  refine ⟨.slice (some ⟨w.heap.size, 0, none⟩) n c, w.alloc (.cells (madeCells zv.cells (c * inf.size)) e), ?_, Fr.alloc _ _ _, by simp, ?_, ?_⟩
  · simp only [execOp, hop, h1, h2, Sem.run_bind, hr, Result.andThen_ok]
    rfl
  · refine ⟨_, heap_alloc_new w _, by rw [size_madeCells, hsz]; exact Nat.le_refl _, fun j hj => ?_⟩
    have hzs : zv.cells.size = size := by simpa using hzl
    have hlt : j % size < zv.cells.size := by rw [hzs]; exact Nat.mod_lt _ hs0
    refine ⟨zv.cells[j % size], ?_, ?_⟩
    · have hlt' : j % size < zv.cells.size := hlt
      simp only [madeCells, hsz, hzs]
      simp [hj, hlt', getElem!_pos]
    · exact ofL_map_cst zv.cells.toList (j % size) (by simpa using hlt) _ _
  · exact ⟨c, rfl, hnc, by unfold maxLen; omega, _, e, heap_alloc_new w _, by rw [size_madeCells, hsz]; simp⟩

/-- A source of 'append', 'copy': what it holds. -/
inductive Src (h : Heap) (size : Nat) : CV → Nat → (Nat → CV) → Prop
  | nils {f : Nat → CV} : Src h size .nils 0 f
  | row {t : Bool} {n : Nat} {f : Nat → CV} : Src h size (.row t size n f) n f
  | osl {g off n m : Nat} {ty : TypeId} {f f' : Nat → CV} : h.get g = some (.cells ty m f') → off + n * size ≤ m → (∀ j, j < n * size → f j = f' (off + j)) → Src h size (.osl g size off n) n f

theorem Src.cells {S : Bool → Nat → Prop} {w : World} {size n : Nat} {x : CV} {f : Nat → CV} {v : Value} (hh : ∀ g o, (g, o) ∈ h → ORep S w g o) (hs : Src h size x n f) (hr : RepC S w x v) :
    ∃ A c, v = .slice A n c ∧ (0 < n * size → ∃ ad, A = some ad ∧ ∀ j, j < n * size → ∃ u, w.cell? (ad.add j) = some u ∧ RepC S w (f j) u) := by
  cases hs with
  | nils => obtain ⟨A, hv⟩ := hr; exact ⟨A, 0, hv, fun h0 => by simp at h0⟩
  | row => obtain ⟨A, c, hv, _, hn⟩ := hr; exact ⟨A, c, hv, fun h0 => by obtain ⟨ad, hA, _, hj⟩ := hn h0; exact ⟨ad, hA, hj⟩⟩
  | @osl g off n m ty f f' hg hle hf =>
    obtain ⟨c, hv, _, _, _⟩ := hr
    obtain ⟨cs, hb, hn, hj⟩ := hh _ _ (Heap.get_mem hg)
    refine ⟨_, c, hv, fun _ => ⟨_, rfl, fun j hjl => ?_⟩⟩
    obtain ⟨u, hu, hr⟩ := hj (off + j) (by omega)
    exact ⟨u, by rw [add_mk, cell_own hb]; exact hu, by rw [hf j hjl]; exact hr⟩

/-- The list of values that lie at a place. -/
theorem list_of_cells {S : Bool → Nat → Prop} {w : World} {ad : Addr} {f : Nat → CV} : ∀ (n : Nat), (∀ j, j < n → ∃ u, w.cell? (ad.add j) = some u ∧ RepC S w (f j) u) →
    ∃ us : List Value, us.length = n ∧ (∀ j u, us[j]? = some u → w.cell? (ad.add j) = some u ∧ RepC S w (f j) u)
  | 0, _ => ⟨[], rfl, fun j u e => by simp at e⟩
  | n + 1, hc => by
    obtain ⟨us, hl, hu⟩ := list_of_cells n (fun j hj => hc j (by omega))
    obtain ⟨u, h1, h2⟩ := hc n (by omega)
    refine ⟨us ++ [u], by simp [hl], fun j x e => ?_⟩
    rw [List.getElem?_append] at e
    split at e
    · exact hu j x e
    · rename_i hj
      have : j - us.length = 0 := by
        rcases Nat.eq_zero_or_pos (j - us.length) with h0 | h0
        · exact h0
        · rw [List.getElem?_eq_none (by simp; omega)] at e; cases e
      rw [this] at e
      simp at e
      subst e
      have hjn : j = n := by omega
      subst hjn
      exact ⟨h1, h2⟩

def appF (f : Nat → CV) (m : Nat) (f2 : Nat → CV) (j : Nat) : CV := if j < m then f j else f2 (j - m)

def Heap.del : Heap → Nat → Heap
  | [], _ => []
  | (g', x) :: h, g => if g' = g then h else (g', x) :: Heap.del h g
theorem Heap.del_sub (h : Heap) (g : Nat) : (h.del g).Sublist h := by
  induction h with
  | nil => exact .slnil
  | cons p h ih =>
    obtain ⟨g', x⟩ := p
    unfold Heap.del
    split
    · exact List.sublist_cons_self _ _
    · exact ih.cons_cons _
theorem Heap.del_not (h : Heap) (g : Nat) (hn : h.keys.Nodup) : g ∉ (h.del g).keys := by
  induction h with
  | nil => simp [Heap.del, Heap.keys]
  | cons p h ih =>
    obtain ⟨g', x⟩ := p
    simp only [Heap.keys, List.map_cons, List.nodup_cons] at hn
    unfold Heap.del
    split
    · rename_i e; subst e; exact hn.1
    · rename_i e
      simp only [Heap.keys, List.map_cons, List.mem_cons, not_or]
      exact ⟨fun e' => e e'.symm, ih hn.2⟩

theorem Fr.setRow {w : World} {g : Nat} {cs cs' : Array Value} {e : TypeId} (hg : w.heap[g]? = some (.cells cs e (0, 0))) (hs : cs'.size = cs.size) : Fr (fun b => b = g) w (w.setRow g cs') := by
  refine ⟨rfl, rfl, rfl, by simp [World.setRow], fun b _ hn => setRow_other w g b cs' hn, fun g1 m hh => ?_⟩
  obtain ⟨c1, t1, h1, h2⟩ := hh
  by_cases hne : g1 = g
  · subst hne
    rw [hg] at h1
    injection h1 with h1
    injection h1 with h1 h3
    subst h1
    exact ⟨cs', e, setRow_heap w g1 cs cs' e _ hg, by rw [hs]; exact h2⟩
  · exact ⟨c1, t1, (setRow_other w g g1 cs' hne).trans h1, h2⟩

theorem append_own {P : Program} {w : World} {t ty e size bytes n c k d g : Nat} {z : List CV} {cs : Array Value} {ad : Addr} {news : List Value} (ht : tElem P t = some (e, size, bytes)) (hz : tZero P e = some z) (hzl : z.length = size)
    (hb : w.heap[g]? = some (.cells cs e (0, 0))) (hcs : cs.size = c * size) (hnc : n ≤ c) (hcm : c ≤ maxLen) (hnl : news.length = k * size) (hnews : ∀ j u, news[j]? = some u → w.cell? (ad.add j) = some u) (h1 : ∀ u ∈ news, u.oneCell' = true)
    (h63 : n + k ≤ maxLen) (hby : (n + k) * bytes ≤ 140737488355328) :
    ∃ g' c' w' cs', (Builtin.append_ #[t, t] ty #[.slice (some ⟨g, 0, none⟩) n c, .slice (some ad) k d]).run P w = .ok (.slice (some ⟨g', 0, none⟩) (n + k) c') w' ∧ w'.heap[g']? = some (.cells cs' e (0, 0)) ∧ cs'.size = c' * size ∧ n + k ≤ c' ∧ c' ≤ maxLen ∧
      (∀ j, j < n * size → cs'[j]? = cs[j]?) ∧ (∀ j, j < k * size → cs'[n * size + j]? = news[j]?) ∧ (g' = g ∨ g' = w.heap.size) ∧ Fr (fun b => b = g) w w' := by
  obtain ⟨hu, inf, hi, hsz, hbb⟩ := tElem_spec ht
  obtain ⟨i', zv, hi', hzv, rfl⟩ := tZero_spec hz
  rw [hi] at hi'
  injection hi' with hi'
  subst hi'
  subst hsz
  subst hbb
  have hzs : zv.cells.size = inf.size := by simpa using hzl
  have hmul : (n + k) * inf.size = n * inf.size + k * inf.size := Nat.add_mul _ _ _
  have hns : n * inf.size ≤ cs.size := by rw [hcs]; exact Nat.mul_le_mul_right _ hnc
  have h63' : n + k ≤ 9223372036854775807 := by simp only [maxLen] at h63; omega
  by_cases hroom : n + k ≤ c
  · have hfit : n * inf.size + news.length ≤ cs.size := by rw [hnl, hcs, ← Nat.add_mul]; exact Nat.mul_le_mul_right _ hroom
    have hr := run_append_room (P := P) w t ty e inf hu hi g n c cs hb ad k d news hnl hnews h1 hroom hfit
    refine ⟨g, c, _, _, hr, setRow_heap w g cs _ e _ hb, ?_, hroom, hcm, fun j hj => ?_, fun j hj => ?_, .inl rfl, Fr.setRow hb ?_⟩
    · rw [← hcs]; simp only [List.size_toArray, List.length_append, List.length_take, List.length_drop, Array.length_toList]; omega
    · simp only [List.getElem?_toArray, List.append_assoc]
      rw [List.getElem?_append_left (by simp; omega), List.getElem?_take]
      simp [hj]
    · simp only [List.getElem?_toArray, List.append_assoc]
      rw [List.getElem?_append_right (by simp; omega), List.getElem?_append_left (by simp; omega)]
      simp [Nat.min_eq_left hns]
    · simp only [List.size_toArray, List.length_append, List.length_take, List.length_drop, Array.length_toList]; omega
  · have hold : ∀ j v, (cs.toList.take (n * inf.size))[j]? = some v → w.cell? ((⟨g, 0, none⟩ : Addr).add j) = some v := by
      intro j v hv
      rw [add_mk, cell_own hb, Nat.zero_add]
      rw [List.getElem?_take] at hv
      split at hv
      · simpa using hv
      · cases hv
    have hol : (cs.toList.take (n * inf.size)).length = n * inf.size := by simp; omega
    have hr := run_append_grow (P := P) w t ty e inf zv hu hi hzv ⟨g, 0, none⟩ n c _ hol hold ad k d news hnl hnews (by omega) (by omega) (growslice_fits (by omega) hby)
    have hge := grownCap_ge w (n + k) c e
    refine ⟨w.heap.size, _, _, _, hr, heap_alloc_new w.drew _, ?_, hge, grownCap_le_maxLen w (n + k) c e h63, fun j hj => ?_, fun j hj => ?_, .inr rfl, ?_⟩
    · simp only [Array.size_append, List.size_toArray, size_zeroCells, hzs, hol, hnl, ← Nat.add_mul]
      congr 1
      omega
    · rw [Array.append_assoc, Array.getElem?_append_left (by simp; omega)]
      simp [hj]
    · rw [Array.append_assoc, Array.getElem?_append_right (by simp; omega), Array.getElem?_append_left (by simp; omega)]
      simp [Nat.min_eq_left hns]
    · exact (Fr.drew (fun b => b = g) w (w.drawn + 1)).trans (Fr.alloc (fun _ => False) w.drew _) (fun x hx _ => hx.elim)

theorem append_new {P : Program} {w : World} {t ty e size bytes k d : Nat} {z : List CV} {A : Option Addr} {ad : Addr} {news : List Value} (ht : tElem P t = some (e, size, bytes)) (hz : tZero P e = some z) (hzl : z.length = size)
    (hnl : news.length = k * size) (hnews : ∀ j u, news[j]? = some u → w.cell? (ad.add j) = some u) (hk : 0 < k) (h63 : k ≤ maxLen) (hby : k * bytes ≤ 140737488355328) :
    ∃ c' w' cs', (Builtin.append_ #[t, t] ty #[.slice A 0 0, .slice (some ad) k d]).run P w = .ok (.slice (some ⟨w.heap.size, 0, none⟩) k c') w' ∧ w'.heap[w.heap.size]? = some (.cells cs' e (0, 0)) ∧ cs'.size = c' * size ∧ k ≤ c' ∧ c' ≤ maxLen ∧
      (∀ j, j < k * size → cs'[j]? = news[j]?) ∧ Fr (fun _ => False) w w' := by
  obtain ⟨hu, inf, hi, hsz, hbb⟩ := tElem_spec ht
  obtain ⟨i', zv, hi', hzv, rfl⟩ := tZero_spec hz
  rw [hi] at hi'
  injection hi' with hi'
  subst hi'
  subst hsz
  subst hbb
  have hzs : zv.cells.size = inf.size := by simpa using hzl
  have h63' : k ≤ 9223372036854775807 := by simp only [maxLen] at h63; omega
  cases A with
  | none =>
    have hr := run_append_nil (P := P) w t ty e inf zv hu hi hzv ad k d news hnl hnews hk (by omega) (by omega)
    have hge := grownCap_ge w k 0 e
    refine ⟨_, _, _, hr, heap_alloc_new w.drew _, ?_, hge, grownCap_le_maxLen w k 0 e h63, fun j hj => ?_, ?_⟩
    · simp only [Array.size_append, List.size_toArray, size_zeroCells, hzs, hnl, ← Nat.add_mul]
      congr 1
      omega
    · rw [Array.getElem?_append_left (by simp; omega)]
      simp
    · exact (Fr.drew (fun _ => False) w (w.drawn + 1)).trans (Fr.alloc (fun _ => False) w.drew _) (fun x hx _ => hx.elim)
  | some ad0 =>
    have hr := run_append_grow (P := P) w t ty e inf zv hu hi hzv ad0 0 0 [] (by simp) (by simp) ad k d news hnl hnews (by omega) (by omega) (growslice_fits (by omega) (by simpa using hby))
    rw [Nat.zero_add] at hr
    have hge := grownCap_ge w k 0 e
    refine ⟨_, _, _, hr, heap_alloc_new w.drew _, ?_, hge, grownCap_le_maxLen w k 0 e h63, fun j hj => ?_, ?_⟩
    · simp only [Array.size_append, List.size_toArray, size_zeroCells, hzs, hnl, List.length_nil, Nat.zero_add, ← Nat.add_mul]
      congr 1
      omega
    · rw [Array.append_assoc, Array.getElem?_append_right (by simp), Array.getElem?_append_left (by simp; omega)]
      simp
    · exact (Fr.drew (fun _ => False) w (w.drawn + 1)).trans (Fr.alloc (fun _ => False) w.drew _) (fun x hx _ => hx.elim)

/-- One own object gives way to another one, in its block or in a new one. -/
theorem St.replace {N : Nat} {C : Ctx} {a : Act} {w w' : World} {g g' : Nat} {ob ob' : AObj} (s : St N C σ h a w) (hg : h.get g = some ob) (hfr : Fr (fun b => b = g) w w') (hat : g' = g ∨ g' = w.heap.size)
    (ho : Keeps (Stab C h w) (Stab C ((g', ob') :: h.del g) w') w w' → ORep (Stab C ((g', ob') :: h.del g) w') w' g' ob') : St N C σ ((g', ob') :: h.del g) a w' ∧ g' ∉ (h.del g).keys := by
  have hgm : g ∈ h.keys := List.mem_map.2 ⟨_, Heap.get_mem hg, rfl⟩
  have hsub : ∀ b, b ∈ (h.del g).keys → b ∈ h.keys := fun b hb => by
    obtain ⟨p, hp, e⟩ := List.mem_map.1 hb
    exact List.mem_map.2 ⟨p, (Heap.del_sub h g).subset hp, e⟩
  have hglt := s.klt hgm
  have hnot : g' ∉ (h.del g).keys := by
    rcases hat with rfl | rfl
    · exact Heap.del_not h _ s.nodup
    · exact fun hm => Nat.lt_irrefl _ (s.klt (hsub _ hm))
  have kp : Keeps (Stab C h w) (Stab C ((g', ob') :: h.del g) w') w w' := by
    refine ⟨fun t b hb => ⟨hb.1, Nat.lt_of_lt_of_le hb.2.1 hfr.size, ?_⟩, fun t b hb => hfr.block b hb.2.1 (fun e => hb.2.2 (e ▸ hgm)), hfr.has⟩
    simp only [Heap.keys, List.map_cons, List.mem_cons, not_or]
    refine ⟨?_, fun hm => hb.2.2 (hsub b hm)⟩
    rcases hat with rfl | rfl
    · exact fun e => hb.2.2 (e ▸ hgm)
    · have := hb.2.1; omega
  refine ⟨⟨s.size, s.defers, fun t => Rep.keep kp (s.slots t), fun g1 o1 hm => ?_, ?_, fun g1 hg1 => ?_, ?_⟩, hnot⟩
  · simp only [List.mem_cons, Prod.mk.injEq] at hm
    rcases hm with ⟨rfl, rfl⟩ | hm
    · exact ho kp
    · have h1 := s.heap g1 o1 ((Heap.del_sub h g).subset hm)
      have hmk : g1 ∈ (h.del g).keys := List.mem_map.2 ⟨(g1, o1), hm, rfl⟩
      have hne : g1 ≠ g := fun e => Heap.del_not h g s.nodup (e ▸ hmk)
      exact ORep.keep kp (hfr.block g1 h1.lt hne) h1
  · simp only [Heap.keys, List.map_cons, List.nodup_cons]
    exact ⟨hnot, ((Heap.del_sub h g).map _).nodup s.nodup⟩
  · simp only [Heap.keys, List.map_cons, List.mem_cons] at hg1
    rcases hg1 with rfl | hg1
    · rcases hat with rfl | rfl
      · exact s.keys _ hgm
      · right; exact s.frame.size
    · exact s.keys g1 (hsub _ hg1)
  · refine s.frame.trans hfr (fun x hx hlt => ?_)
    subst hx
    exact (s.keys _ hgm).resolve_right (by omega)
end
end Go.AI

/- The rules for append, for slice expressions and for struct literals. -/
namespace Go.AI
section
variable {E : Env} {K : List It} {σ σ' : Sl} {h : Heap} {all rest : List Oper} {o : Oper}

theorem exec_append {P : Program} {o : Oper} {s x : Operand} {t : TypeId} {e : Operand → Value} {w w' : World} {v : Value} (hop : o.op = .call { callee := .builtin .append, args := #[s, x], argTypes := #[t, t] })
    (hr : (Builtin.append_ #[t, t] o.type #[e s, e x]).run P w = .ok v w') : (execOp e o).run P w = .ok (.value v) w' := by
  simp only [execOp, hop, resolve, invoke, Go.builtin, Sem.run_bind, Sem.run_pure, Result.andThen_ok, List.map_toArray, List.map_cons, List.map_nil, hr]

/-- append onto an own slice that begins its block. -/
theorem aw_append {t e size bytes n k m g : Nat} {z : List CV} {f f2 : Nat → CV} {s x : Operand} {cx : CV} {h2 : Heap} (hop : o.op = .call { callee := .builtin .append, args := #[s, x], argTypes := #[t, t] }) (hw : wantA all σ o = some true) (hd : dstOk E.N o.dst = true)
    (ht : tElem E.P t = some (e, size, bytes)) (hz : tZero E.P e = some z) (hzl : z.length = size) (hs0 : 0 < size) (hs : ev σ s = .c (.osl g size 0 n)) (hg : h.get g = some (.cells e m f)) (hm : n * size ≤ m) (hx : ev σ x = .c cx) (hsrc : Src h size cx k f2) (hsol : ∀ j, j < k * size → (f2 j).solid = true) (hk : 0 < k)
    (h63 : n + k ≤ maxLen) (hby : (n + k) * bytes ≤ 140737488355328) (hh2 : h.del g = h2)
    (kk : ∀ g', g' ∉ h2.keys → aw E (.ops all rest :: K) (σ.setO o.dst (.c (.osl g' size 0 (n + k)))) ((g', .cells e ((n + k) * size) (appF f (n * size) f2)) :: h2)) : aw E (.ops all (o :: rest) :: K) σ h := fun a w st => by
  subst hh2
  have r1 := ev_rep st s
  have r2 := ev_rep st x
  rw [hs] at r1
  rw [hx] at r2
  obtain ⟨c, hv1, hnc, hcm, cs0, ty0, hb0, hcs0⟩ := r1
  obtain ⟨cs, hb, hn, hj⟩ := st.heap g _ (Heap.get_mem hg)
  rw [hb] at hb0
  injection hb0 with hb0
  injection hb0 with hb0 _
  subst hb0
  obtain ⟨A, d, hv2, hA⟩ := hsrc.cells st.heap r2
  obtain ⟨ad, rfl, hc⟩ := hA (Nat.mul_pos hk hs0)
  obtain ⟨news, hnl, hnews⟩ := list_of_cells (k * size) hc
  obtain ⟨g', c', w', cs', hrun, hb', hcs', hle', hcm', hold, hnew, hat, hfr⟩ := append_own (P := E.P) (ty := o.type) (d := d) ht hz hzl hb (by simpa using hcs0) hnc hcm hnl (fun j u e => (hnews j u e).1)
    (fun u hu' => by
      obtain ⟨j, hj', rfl⟩ := List.getElem_of_mem hu'
      exact solid_one (hsol j (by omega)) (hnews j _ (List.getElem?_eq_getElem hj')).2) h63 hby
  have hmul : (n + k) * size = n * size + k * size := Nat.add_mul _ _ _
  have hsz' : (n + k) * size ≤ cs'.size := by rw [hcs']; exact Nat.mul_le_mul_right _ hle'
  obtain ⟨st', hnot⟩ := st.replace (ob' := .cells e ((n + k) * size) (appF f (n * size) f2)) hg hfr hat (fun kp => ⟨cs', hb', hsz', fun j hjl => by
    unfold appF
    by_cases hjn : j < n * size
    · rw [if_pos hjn, hold j hjn]
      obtain ⟨u, hu, hr⟩ := hj j (by omega)
      exact ⟨u, hu, hr.keep kp⟩
    · rw [if_neg hjn]
      have hjk : j - n * size < k * size := by omega
      have := hnew (j - n * size) hjk
      rw [show n * size + (j - n * size) = j from by omega] at this
      rw [this]
      have hlt : j - n * size < news.length := by omega
      exact ⟨news[j - n * size], List.getElem?_eq_getElem hlt, (hnews _ _ (List.getElem?_eq_getElem hlt)).2.keep kp⟩⟩)
  have st2 := st'.put hd (r := .c (.osl g' size 0 (n + k))) (v := .slice (some ⟨g', 0, none⟩) (n + k) c') ⟨c', rfl, hle', hcm', cs', e, hb', by simp [hcs']⟩
  have hk' := kk g' hnot _ _ st2
  show wpList _ _ _ _ _ _
  unfold wpList
  rw [if_pos (st.wanted hw)]
  refine .inl ?_
  unfold Oper.wp
  rw [exec_append hop (by rw [hv1, hv2]; exact hrun)]
  exact hk'

/-- append onto nil, something. -/
theorem aw_appendN {t e size bytes k : Nat} {z : List CV} {f2 : Nat → CV} {s x : Operand} {cx : CV} (hop : o.op = .call { callee := .builtin .append, args := #[s, x], argTypes := #[t, t] }) (hw : wantA all σ o = some true) (hd : dstOk E.N o.dst = true)
    (ht : tElem E.P t = some (e, size, bytes)) (hz : tZero E.P e = some z) (hzl : z.length = size) (hs0 : 0 < size) (hs : ev σ s = .c .nils) (hx : ev σ x = .c cx) (hsrc : Src h size cx k f2) (hk : 0 < k)
    (h63 : k ≤ maxLen) (hby : k * bytes ≤ 140737488355328)
    (kk : ∀ g', g' ∉ h.keys → aw E (.ops all rest :: K) (σ.setO o.dst (.c (.osl g' size 0 k))) ((g', .cells e (k * size) f2) :: h)) : aw E (.ops all (o :: rest) :: K) σ h := by
  refine aw_new (r := fun g => .c (.osl g size 0 k)) (ob := .cells e (k * size) f2) hw hd (fun a w st => ?_) kk
  have r1 := ev_rep st s
  have r2 := ev_rep st x
  rw [hs] at r1
  rw [hx] at r2
  obtain ⟨A0, hv1⟩ := r1
  obtain ⟨A, d, hv2, hA⟩ := hsrc.cells st.heap r2
  obtain ⟨ad, rfl, hc⟩ := hA (Nat.mul_pos hk hs0)
  obtain ⟨news, hnl, hnews⟩ := list_of_cells (k * size) hc
  obtain ⟨c', w', cs', hrun, hb', hcs', hle', hcm', hnew, hfr⟩ := append_new (P := E.P) (ty := o.type) (d := d) ht hz hzl hnl (fun j u e => (hnews j u e).1) hk h63 hby
  have hlt : w.heap.size < w'.heap.size := (Array.getElem?_eq_some_iff.1 hb').1
  have hnk : w.heap.size ∉ h.keys := fun hm => Nat.lt_irrefl _ (st.klt hm)
  have kp : Keeps (Stab E.C h w) (Stab E.C ((w.heap.size, .cells e (k * size) f2) :: h) w') w w' :=
    ⟨fun t b hb => ⟨hb.1, Nat.lt_of_lt_of_le hb.2.1 hfr.size, by
      have := hb.2.1
      simp only [Heap.keys, List.map_cons, List.mem_cons, not_or]
      exact ⟨by omega, hb.2.2⟩⟩, fun t b hb => hfr.block b hb.2.1 (fun x => x), hfr.has⟩
  refine ⟨_, w', exec_append hop (by rw [hv1, hv2]; exact hrun), hfr, hlt, ⟨cs', hb', by rw [hcs']; exact Nat.mul_le_mul_right _ hle', fun j hjl => ?_⟩, c', rfl, hle', hcm', cs', e, hb', by simp [hcs']⟩
  rw [hnew j hjl]
  have hl : j < news.length := by omega
  exact ⟨news[j], List.getElem?_eq_getElem hl, (hnews _ _ (List.getElem?_eq_getElem hl)).2.keep kp⟩

/-- append of nothing. -/
theorem run_append_zero {P : Program} {t ty e size bytes n c d : Nat} {A B : Option Addr} {w : World} (ht : tElem P t = some (e, size, bytes)) (hnc : n ≤ c) : (Builtin.append_ #[t, t] ty #[.slice A n c, .slice B 0 d]).run P w = .ok (.slice A n c) w := by
  obtain ⟨hu, inf, hi, hsz, hbb⟩ := tElem_spec ht
  cases A <;> cases B <;> simp [Builtin.append_, run_underlying hu, sizeOf, typeInfo, hi, Builtin.lenOf, Builtin.firstCells, loadCells, loadCellsFrom, hnc, storeCells]
def isSlice : CV → Bool
  | .nils => true
  | .osl _ _ _ _ => true
  | _ => false
theorem aw_append0 {t e size bytes : Nat} {f2 : Nat → CV} {s x : Operand} {cs cx : CV} (hop : o.op = .call { callee := .builtin .append, args := #[s, x], argTypes := #[t, t] }) (hw : wantA all σ o = some true) (hd : dstOk E.N o.dst = true)
    (ht : tElem E.P t = some (e, size, bytes)) (hs : ev σ s = .c cs) (hsl : isSlice cs = true) (hx : ev σ x = .c cx) (hsrc : Src h size cx 0 f2) (hσ : σ.setO o.dst (.c cs) = σ')
    (kk : aw E (.ops all rest :: K) σ' h) : aw E (.ops all (o :: rest) :: K) σ h := by
  subst hσ
  refine aw_step hw (fun a w st => ?_) kk
  have r1 := ev_rep st s
  have r2 := ev_rep st x
  rw [hs] at r1
  rw [hx] at r2
  obtain ⟨B, d, hv2, _⟩ := hsrc.cells st.heap r2
  have hv1 : ∃ A n c, a.eval s = .slice A n c ∧ n ≤ c := by
    cases cs <;> simp only [isSlice, reduceCtorEq] at hsl
    · obtain ⟨A, hv⟩ := r1; exact ⟨A, 0, 0, hv, Nat.le_refl _⟩
    · obtain ⟨c, hv, hle, _⟩ := r1; exact ⟨_, _, c, hv, hle⟩
  obtain ⟨A, n, c, hv1, hnc⟩ := hv1
  refine ⟨a.eval s, w, .inl (exec_append hop ?_), st.put hd r1⟩
  rw [hv1, hv2]
  exact run_append_zero ht hnc
end

end Go.AI

/- Regions that draw their order: where each operation but the last ones leaves old memory alone, every order comes to the same. -/
namespace Go.AI

/-- The slots that an operation looks at. -/
def looks (all : List Oper) (o : Oper) : List Nat :=
  (o.op.operands.toList.filterMap fun | .tmp t => some t | _ => none) ++
  (match o.guard with
   | some (g, _) => ((all[g]?).bind (·.dst)).toList
   | none => [])
def edge (o : Oper) (j : Nat) : Bool := o.after.any fun e => e.on == j && Region.binds .any e

/-- Operation i of the region: its edges go back; who writes what it looks at is ordered with it; nobody else writes its slot. -/
def lexAt (l : List Oper) (i : Nat) (o : Oper) : Bool :=
  (o.after.all fun e => !Region.binds .any e || decide (e.on < i)) &&
  (l.zipIdx.all fun (p, j) => match p.dst with
    | none => true
    | some d => (!(looks l o).contains d || (if j < i then edge o j else if i < j then edge p i else true)) && (j == i || o.dst != some d))
def lexOk (l : List Oper) : Bool := l.zipIdx.all fun (o, i) => lexAt l i o
/-- From place n on every operation comes after all before it. -/
def tailOk (l : List Oper) (n : Nat) : Bool := l.zipIdx.all fun (o, i) => decide (i < n) || (List.range i).all fun j => edge o j

section
variable {E : Env} {K : List It} {σ σ' : Sl} {h : Heap} {l : List Oper} {o : Oper}

/-- o yields r from the slots σ, and leaves old memory and all that is owned alone. -/
def Calm (E : Env) (h : Heap) (l : List Oper) (σ : Sl) (o : Oper) (r : AV) : Prop :=
  dstOk E.N o.dst = true ∧ ∀ (σ' : Sl) (a : Act) (w : World) (Q : Exit → Act → World → Prop), (∀ t ∈ looks l o, σ'.get t = σ.get t) → St E.N E.C σ' h a w →
    if Region.wanted o (yielded l.toArray a.tmps) then o.wp E.P a w (fun a' w' => St E.N E.C (σ'.setO o.dst r) h a' w') Q else r = .c .any

theorem ev_same {σ' : Sl} {x : Operand} (hx : x ∈ o.op.operands) (hs : ∀ t ∈ looks l o, σ'.get t = σ.get t) : ev σ' x = ev σ x := by
  cases x with
  | tmp t => exact hs t (by
      unfold looks
      refine List.mem_append_left _ (List.mem_filterMap.2 ⟨.tmp t, by simpa using hx, rfl⟩))
  | const v => rfl
  | global g => rfl
  | func f => rfl

theorem want_same {σ' : Sl} (hs : ∀ t ∈ looks l o, σ'.get t = σ.get t) : wantA l σ' o = wantA l σ o := by
  unfold wantA
  cases hg : o.guard with
  | none => rfl
  | some p =>
    obtain ⟨j, want⟩ := p
    simp only
    cases hj : (l[j]?).bind (·.dst) with
    | none => rfl
    | some t =>
      have : σ'.get t = σ.get t := hs t (by unfold looks; rw [hg]; simp [hj])
      simp only [this]

theorem Calm.pure {nw : Bool} {q : Prop} {r : AV} (hw : wantA l σ o = some true) (hb : pureOp E.P nw h (ev σ) o.op = some (q, r)) (hq : q) (hd : dstOk E.N o.dst = true) : Calm E h l σ o r := by
  refine ⟨hd, fun σ' a w Q hs s => ?_⟩
  rw [if_pos (s.wanted ((want_same hs).trans hw))]
  obtain ⟨v, hrun, hr⟩ := pureOp_ok (fun _ => rfl) hb hq (Stab E.C h w) w a.eval Stab.mono' (fun x hx => by rw [← ev_same hx hs]; exact ev_rep s x) s.heap
  unfold Oper.wp
  rw [hrun o rfl]
  exact s.put hd hr
theorem Calm.skip (hw : wantA l σ o = some false) (hd : dstOk E.N o.dst = true) : Calm E h l σ o (.c .any) := by
  refine ⟨hd, fun σ' a w Q hs s => ?_⟩
  rw [if_neg (by rw [s.wanted ((want_same hs).trans hw)]; simp)]
theorem Calm.call {f : FuncId} {xs : List Operand} {ts : Array TypeId} {args : List AV} {r : AV} (hf : Fa E.P f args r) (hop : o.op = .call { callee := .value (.func f), args := xs.toArray, argTypes := ts }) (hw : wantA l σ o = some true) (hd : dstOk E.N o.dst = true)
    (le : LeA h (xs.map (ev σ)) args) : Calm E h l σ o r := by
  refine ⟨hd, fun σ' a w Q hs s => ?_⟩
  rw [if_pos (s.wanted ((want_same hs).trans hw))]
  have he : xs.map (ev σ') = xs.map (ev σ) := List.map_congr_left fun x hx => ev_same (by rw [hop]; simp [Op.operands, Call.operands, hx]) hs
  unfold Oper.wp
  have hrun : (execOp a.eval o).run E.P w = .ok (.enter f (xs.map a.eval).toArray) w := by
    simp only [execOp, hop, resolve, Act.eval, Deferred.ofValue, invoke, Sem.run_bind]
    have := hf.1.run (#[] ++ (Array.map a.eval xs.toArray) ++ #[]) w
    simp only [Sem.run_pure, Result.andThen_ok]
    rw [show ((xs.map a.eval).toArray) = (#[] ++ (Array.map a.eval xs.toArray) ++ #[]) from by simp]
    exact this
  rw [hrun]
  show Calls _ _ _ _ _
  refine (hf.use s (by rw [he]; exact le)).mono ?_
  rintro e w' ⟨v, rfl, hr, hfr⟩
  exact (s.later hfr).put hd hr

/-- The slots when the operations with a mark have run. -/
def sigL : List (Oper × AV) → List Bool → Sl → Sl
  | (o, r) :: ps, b :: bs, σ => sigL ps bs (if b then σ.setO o.dst r else σ)
  | _, _, σ => σ

theorem setO_get (σ : Sl) (d : Option Nat) (r : AV) (t : Nat) : (σ.setO d r).get t = if d = some t then r else σ.get t := by
  cases d with
  | none => simp [Sl.setO]
  | some d => simp [Sl.setO, Sl.get_set]

theorem sigL_get_none : ∀ (ps : List (Oper × AV)) (bs : List Bool) (σ : Sl) (t : Nat), (∀ (j : Nat) (p : Oper × AV), ps[j]? = some p → bs[j]? = some true → p.1.dst ≠ some t) → (sigL ps bs σ).get t = σ.get t
  | [], _, _, _, _ => by simp [sigL]
  | _ :: _, [], _, _, _ => by simp [sigL]
  | (o, r) :: ps, b :: bs, σ, t, hn => by
    simp only [sigL]
    rw [sigL_get_none ps bs _ t (fun j p hp hb => hn (j + 1) p (by simpa using hp) (by simpa using hb))]
    cases b with
    | false => rfl
    | true =>
      rw [if_pos rfl, setO_get, if_neg]
      exact hn 0 (o, r) rfl rfl
theorem sigL_get_some : ∀ (ps : List (Oper × AV)) (bs : List Bool) (σ : Sl) (t i : Nat) (o : Oper) (r : AV), ps[i]? = some (o, r) → bs[i]? = some true → o.dst = some t → (∀ (j : Nat) (p : Oper × AV), j ≠ i → ps[j]? = some p → p.1.dst ≠ some t) → (sigL ps bs σ).get t = r
  | [], _, _, _, _, _, _, hp, _, _, _ => by simp at hp
  | _ :: _, [], _, _, _, _, _, _, hb, _, _ => by simp at hb
  | (o', r') :: ps, b :: bs, σ, t, 0, o, r, hp, hb, ho, hn => by
    simp only [List.getElem?_cons_zero, Option.some.injEq, Prod.mk.injEq] at hp hb
    obtain ⟨rfl, rfl⟩ := hp
    subst hb
    simp only [sigL]
    rw [sigL_get_none ps bs _ t (fun j p hp _ => hn (j + 1) p (by omega) (by simpa using hp)), if_pos trivial, setO_get, if_pos ho]
  | (o', r') :: ps, b :: bs, σ, t, i + 1, o, r, hp, hb, ho, hn => by
    simp only [sigL]
    exact sigL_get_some ps bs _ t i o r (by simpa using hp) (by simpa using hb) ho (fun j p hj hp => hn (j + 1) p (by omega) (by simpa using hp))

/-- The operations in the order of the text, each with what it yields. -/
inductive Dr (E : Env) (h : Heap) (l : List Oper) : List (Oper × AV) → Sl → Sl → Prop
  | nil {σ : Sl} : Dr E h l [] σ σ
  | cons {o : Oper} {r : AV} {ps : List (Oper × AV)} {σ σ' : Sl} : Calm E h l σ o r → Dr E h l ps (σ.setO o.dst r) σ' → Dr E h l ((o, r) :: ps) σ σ'

theorem Dr.at_ {ps : List (Oper × AV)} (d : Dr E h l ps σ σ') : ∀ (i : Nat) (o : Oper) (r : AV), ps[i]? = some (o, r) → Calm E h l (sigL ps ((List.range ps.length).map fun j => decide (j < i)) σ) o r := by
  induction d with
  | nil => intro i o r hp; simp at hp
  | @cons o' r' ps σ σ' hc _ ih =>
    intro i o r hp
    simp only [List.length_cons, List.range_succ_eq_map, List.map_cons, List.map_map, sigL]
    cases i with
    | zero =>
      simp only [List.getElem?_cons_zero, Option.some.injEq, Prod.mk.injEq] at hp
      obtain ⟨rfl, rfl⟩ := hp
      have : ∀ (ps : List (Oper × AV)) (n : Nat) (σ : Sl), sigL ps ((List.range n).map ((fun j => decide (j < 0)) ∘ Nat.succ)) σ = σ := by
        intro ps
        induction ps with
        | nil => intro n σ; simp [sigL]
        | cons p ps ih2 =>
          intro n σ
          cases n with
          | zero => simp [sigL]
          | succ n =>
            obtain ⟨q, r⟩ := p
            simp only [List.range_succ_eq_map, List.map_cons, List.map_map, sigL]
            simp only [Function.comp, Nat.not_lt_zero, decide_false] at ih2 ⊢
            exact ih2 n σ
      simp only [Nat.lt_irrefl, decide_false]
      rw [this]
      exact hc
    | succ i =>
      have := ih i o r (by simpa using hp)
      have e : ((fun j => decide (j < i + 1)) ∘ Nat.succ) = fun j => decide (j < i) := by funext j; simp [Function.comp]
      rw [e]
      simpa using this
theorem Dr.end_ {ps : List (Oper × AV)} (d : Dr E h l ps σ σ') : σ' = sigL ps ((List.range ps.length).map fun _ => true) σ := by
  induction d with
  | nil => rfl
  | @cons o' r' ps σ σ' _ _ ih =>
    simp only [List.length_cons, List.range_succ_eq_map, List.map_cons, List.map_map, sigL, if_true]
    exact ih

theorem mem_ready {listed : Array Bool} {i : Nat} (hs : listed.size = l.length) : i ∈ Region.ready .any l.toArray listed ↔ i < l.length ∧ listed.getD i false = false ∧ ∀ o, l[i]? = some o → ∀ e ∈ o.after, Region.binds .any e = true → listed.getD e.on false = true := by
  unfold Region.ready
  simp only [List.mem_filter, List.mem_range, List.size_toArray, Bool.and_eq_true, Bool.not_eq_true']
  constructor
  · rintro ⟨hi, h1, h2⟩
    refine ⟨hi, ?_, fun o ho e he hb => ?_⟩
    · simp only [Array.getD, hs, hi, dif_pos] at h1 ⊢; exact h1
    · rw [show l.toArray[i]? = some o from by simpa using ho] at h2
      simp only [Option.map_some, Option.getD_some, Array.all_eq_true] at h2
      obtain ⟨j, hj, rfl⟩ := Array.getElem_of_mem he
      have := h2 j hj
      rw [hb] at this
      simpa using this
  · rintro ⟨hi, h1, h2⟩
    refine ⟨hi, ?_, ?_⟩
    · simp only [Array.getD, hs, hi, dif_pos] at h1 ⊢; exact h1
    · have ho : l[i]? = some l[i] := List.getElem?_eq_getElem hi
      rw [show l.toArray[i]? = some l[i] from by simp [hi]]
      simp only [Option.map_some, Option.getD_some, Array.all_eq_true]
      intro j hj
      have := h2 _ ho l[i].after[j] (Array.getElem_mem hj)
      cases hb : Region.binds .any l[i].after[j] with
      | false => simp
      | true => simp [this hb]

theorem lexOk_at (hok : lexOk l = true) {i : Nat} {o : Oper} (ho : l[i]? = some o) : lexAt l i o = true := by
  unfold lexOk at hok
  rw [List.all_eq_true] at hok
  have := hok (o, i) (by rw [List.mem_zipIdx_iff_getElem?]; exact ho)
  exact this
theorem lex_back (hok : lexOk l = true) {i : Nat} {o : Oper} (ho : l[i]? = some o) {e : Edge} (he : e ∈ o.after) (hb : Region.binds .any e = true) : e.on < i := by
  have := lexOk_at hok ho
  unfold lexAt at this
  simp only [Bool.and_eq_true, Array.all_eq_true] at this
  obtain ⟨j, hj, rfl⟩ := Array.getElem_of_mem he
  have := this.1 j hj
  rw [hb] at this
  simpa using this
theorem lex_pair (hok : lexOk l = true) {i j d : Nat} {o p : Oper} (ho : l[i]? = some o) (hp : l[j]? = some p) (hd : p.dst = some d) :
    (d ∈ looks l o → (j < i → edge o j = true) ∧ (i < j → edge p i = true)) ∧ (j ≠ i → o.dst ≠ some d) := by
  have := lexOk_at hok ho
  unfold lexAt at this
  simp only [Bool.and_eq_true, List.all_eq_true] at this
  have h2 := this.2 (p, j) (by rw [List.mem_zipIdx_iff_getElem?]; exact hp)
  simp only [hd, Bool.and_eq_true, Bool.or_eq_true, Bool.not_eq_true', List.contains_eq_mem, decide_eq_false_iff_not, beq_iff_eq, bne_iff_ne] at h2
  refine ⟨fun hm => ?_, fun hne => h2.2.resolve_left hne⟩
  have h3 := h2.1.resolve_left (fun hn => hn hm)
  exact ⟨fun hlt => by rw [if_pos hlt] at h3; exact h3, fun hlt => by rw [if_neg (by omega), if_pos hlt] at h3; exact h3⟩
theorem edge_mem {o : Oper} {j : Nat} (he : edge o j = true) : ∃ e ∈ o.after, e.on = j ∧ Region.binds .any e = true := by
  unfold edge at he
  rw [Array.any_eq_true] at he
  obtain ⟨i, hi, h1⟩ := he
  simp only [Bool.and_eq_true, beq_iff_eq] at h1
  exact ⟨_, Array.getElem_mem hi, h1.1, h1.2⟩
theorem tail_edge {n : Nat} (ht : tailOk l n = true) {i : Nat} {o : Oper} (ho : l[i]? = some o) (hn : n ≤ i) {j : Nat} (hj : j < i) : edge o j = true := by
  unfold tailOk at ht
  rw [List.all_eq_true] at ht
  have := ht (o, i) (by rw [List.mem_zipIdx_iff_getElem?]; exact ho)
  simp only [Bool.or_eq_true, decide_eq_true_eq, List.all_eq_true, List.mem_range] at this
  exact this.resolve_left (by omega) j hj

theorem getD_set {listed : Array Bool} {i j : Nat} (hi : i < listed.size) : (listed.setIfInBounds i true).getD j false = if j = i then true else listed.getD j false := by
  by_cases h : j = i
  · subst h; simp [Array.getD, hi]
  · rw [if_neg h, Array.getD_eq_getD_getElem?, Array.getD_eq_getD_getElem?, Array.getElem?_setIfInBounds_ne (fun e => h e.symm)]

/-- The tail, one after the other. -/
theorem tail_any {n : Nat} (hok : lexOk l = true) (ht : tailOk l n = true) {Q : Exit → Act → World → Prop} : ∀ (fuel i : Nat) (listed : Array Bool) (a : Act) (w : World), n ≤ i → i + fuel = l.length → listed.size = l.length → (∀ j, j < l.length → listed.getD j false = decide (j < i)) →
    wpList E.P l.toArray Q (l.drop i) a w → wpAny E.P .any l.toArray Q fuel listed a w
  | 0, i, listed, a, w, _, hf, hs, hl, k => by
    have : l.drop i = [] := List.drop_eq_nil_of_le (by omega)
    rw [this] at k
    refine ⟨?_, k⟩
    rw [List.eq_nil_iff_forall_not_mem]
    intro j hj
    obtain ⟨h1, h2, _⟩ := (mem_ready hs).1 hj
    rw [hl j h1] at h2
    simp at h2
    omega
  | fuel + 1, i, listed, a, w, hn, hf, hs, hl, k => by
    have hi : i < l.length := by omega
    have ho : l[i]? = some l[i] := List.getElem?_eq_getElem hi
    have hready : i ∈ Region.ready .any l.toArray listed := (mem_ready hs).2 ⟨hi, by rw [hl i hi]; simp, fun o ho' e he hb => by
      have := lex_back hok ho' he hb
      rw [hl e.on (by omega)]; simpa using this⟩
    refine ⟨fun e => by rw [e] at hready; simp at hready, fun j hj => ?_⟩
    obtain ⟨h1, h2, h3⟩ := (mem_ready hs).1 hj
    have hji : j = i := by
      rw [hl j h1] at h2
      simp only [decide_eq_false_iff_not, Nat.not_lt] at h2
      rcases Nat.lt_or_ge i j with hlt | hge
      · obtain ⟨e, he, hon, hb⟩ := edge_mem (tail_edge ht (List.getElem?_eq_getElem h1) (by omega) hlt)
        have := h3 _ (List.getElem?_eq_getElem h1) e he hb
        rw [hon, hl i hi] at this
        simp at this
      · omega
    subst hji
    rw [List.drop_eq_getElem_cons hi] at k
    unfold wpOp
    rw [show l.toArray[j]? = some l[j] from by simp [hi]]
    have hstep : ∀ a w, wpList E.P l.toArray Q (l.drop (j + 1)) a w → wpAny E.P .any l.toArray Q fuel (listed.setIfInBounds j true) a w := fun a w k' =>
      tail_any hok ht fuel (j + 1) _ a w (by omega) (by omega) (by simpa using hs) (fun q hq => by
        rw [getD_set (by omega), hl q hq]
        by_cases h : q = j
        · subst h; simp
        · rw [if_neg h]; congr 1; simp; omega) k'
    simp only [wpList] at k
    simp only
    split
    · rename_i hw
      rw [if_pos hw] at k
      exact k.imp (Oper.wp_mono hstep) id
    · rename_i hw
      rw [if_neg hw] at k
      exact hstep _ _ k

def marks (n : Nat) (listed : Array Bool) : List Bool := (List.range n).map fun j => listed.getD j false
theorem marks_get {n : Nat} {listed : Array Bool} {j : Nat} (hj : j < n) : (marks n listed)[j]? = some (listed.getD j false) := by simp [marks, hj]
def unl (L : Nat → Bool) : Nat → Nat
  | 0 => 0
  | n + 1 => unl L n + cond (L n) 0 1
theorem unl_congr {L L' : Nat → Bool} : ∀ n, (∀ j, j < n → L j = L' j) → unl L n = unl L' n
  | 0, _ => rfl
  | n + 1, hc => by simp only [unl, unl_congr n (fun j hj => hc j (by omega)), hc n (by omega)]
theorem unl_pos {L : Nat → Bool} : ∀ n, 0 < unl L n → ∃ j, j < n ∧ L j = false ∧ ∀ q, q < j → L q = true
  | 0, hp => by simp [unl] at hp
  | n + 1, hp => by
    rcases Nat.eq_zero_or_pos (unl L n) with h0 | h0
    · refine ⟨n, by omega, ?_, ?_⟩
      · simp only [unl, h0] at hp
        cases hL : L n with
        | false => rfl
        | true => rw [hL] at hp; simp at hp
      · intro q hq
        cases hL : L q with
        | true => rfl
        | false =>
          have : ∀ m, q < m → 0 < unl L m := by
            intro m
            induction m with
            | zero => intro h; omega
            | succ m ih =>
              intro h
              simp only [unl]
              rcases Nat.lt_or_ge q m with h1 | h1
              · have := ih h1; omega
              · have : q = m := by omega
                subst this; rw [hL]; simp
          have := this n hq
          omega
    · obtain ⟨j, h1, h2, h3⟩ := unl_pos n h0
      exact ⟨j, by omega, h2, h3⟩
theorem unl_zero {L : Nat → Bool} : ∀ n, unl L n = 0 → ∀ j, j < n → L j = true
  | 0, _, j, hj => by omega
  | n + 1, hz, j, hj => by
    simp only [unl] at hz
    rcases Nat.lt_or_ge j n with h1 | h1
    · exact unl_zero n (by omega) j h1
    · have : j = n := by omega
      subst this
      cases hL : L j with
      | true => rfl
      | false => rw [hL] at hz; simp at hz
theorem unl_set {L : Nat → Bool} {i : Nat} : ∀ n, i < n → L i = false → unl (fun j => if j = i then true else L j) n + 1 = unl L n
  | 0, hi, _ => by omega
  | n + 1, hi, hL => by
    simp only [unl]
    rcases Nat.lt_or_ge i n with h1 | h1
    · have := unl_set n h1 hL
      have hx : (if n = i then true else L n) = L n := if_neg (by omega)
      simp only [hx]
      omega
    · have : i = n := by omega
      subst this
      rw [unl_congr (L' := L) i (fun j hj => by rw [if_neg (by omega)])]
      simp [hL]

theorem draw_any {n : Nat} {ps : List (Oper × AV)} (hok : lexOk l = true) (ht : tailOk l n = true) (hn : n ≤ l.length) (hps : ps.map (·.1) = l.take n) (d : Dr E h l ps σ σ') {Q : Exit → Act → World → Prop}
    (k : ∀ a w, St E.N E.C σ' h a w → wpList E.P l.toArray Q (l.drop n) a w) : ∀ (u : Nat) (listed : Array Bool) (a : Act) (w : World), unl (fun j => listed.getD j false) n = u → listed.size = l.length →
    (∀ i o, l[i]? = some o → listed.getD i false = true → ∀ e ∈ o.after, Region.binds .any e = true → listed.getD e.on false = true) → (∀ j, n ≤ j → j < l.length → listed.getD j false = false) →
    St E.N E.C (sigL ps (marks n listed) σ) h a w → wpAny E.P .any l.toArray Q (u + (l.length - n)) listed a w := by
  have hpl : ps.length = n := by have := congrArg List.length hps; simp at this; omega
  have hpi : ∀ (j : Nat) (p : Oper × AV), ps[j]? = some p → l[j]? = some p.1 ∧ j < n := by
    intro j p hp
    have hj : j < ps.length := (List.getElem?_eq_some_iff.1 hp).1
    have h1 : (ps.map (·.1))[j]? = some p.1 := by simp [hp]
    rw [hps, List.getElem?_take] at h1
    split at h1
    · exact ⟨h1, by omega⟩
    · cases h1
  intro u
  induction u with
  | zero =>
    intro listed a w hu hs _ htl st
    have hall := unl_zero n hu
    rw [Nat.zero_add]
    refine tail_any hok ht (l.length - n) n listed a w (Nat.le_refl _) (by omega) hs (fun j hj => ?_) (k a w ?_)
    · rcases Nat.lt_or_ge j n with h1 | h1
      · rw [hall j h1]; simp [h1]
      · rw [htl j h1 hj]; simp; omega
    · have e : marks n listed = (List.range ps.length).map fun _ => true := by
        unfold marks
        rw [hpl]
        exact List.map_congr_left fun j hj => hall j (by simpa using hj)
      rw [d.end_, ← e]
      exact st
  | succ u ih =>
    intro listed a w hu hs hcl htl st
    rw [show u + 1 + (l.length - n) = (u + (l.length - n)) + 1 from by omega]
    obtain ⟨j0, hj0, hj1, hj2⟩ := unl_pos (L := fun j => listed.getD j false) n (by omega)
    have hready : j0 ∈ Region.ready .any l.toArray listed := (mem_ready hs).2 ⟨by omega, hj1, fun o ho e he hb => hj2 _ (lex_back hok ho he hb)⟩
    refine ⟨fun e => by rw [e] at hready; simp at hready, fun i hi => ?_⟩
    obtain ⟨h1, h2, h3⟩ := (mem_ready hs).1 hi
    have ho : l[i]? = some l[i] := List.getElem?_eq_getElem h1
    have hin : i < n := by
      rcases Nat.lt_or_ge i n with hlt | hge
      · exact hlt
      · obtain ⟨e, he, hon, hb⟩ := edge_mem (tail_edge ht ho hge (show j0 < i from by omega))
        have := h3 _ ho e he hb
        rw [hon] at this
        rw [hj1] at this
        cases this
    have hpi' : ps[i]? = some ps[i] := List.getElem?_eq_getElem (by omega)
    obtain ⟨hp1, _⟩ := hpi i _ hpi'
    rw [ho] at hp1
    injection hp1 with hp1
    obtain ⟨hd, hc⟩ := d.at_ i ps[i].1 ps[i].2 hpi'
    -- the slots that it looks at hold what they hold in the text's order
    have hsame : ∀ t ∈ looks l ps[i].1, (sigL ps (marks n listed) σ).get t = (sigL ps ((List.range ps.length).map fun j => decide (j < i)) σ).get t := by
      intro t htl'
      by_cases hex : ∃ (j : Nat) (p : Oper × AV), ps[j]? = some p ∧ j < i ∧ p.1.dst = some t
      · obtain ⟨j, p, hp, hji, hdt⟩ := hex
        obtain ⟨hlp, hjn⟩ := hpi j p hp
        have huniq : ∀ (j' : Nat) (p' : Oper × AV), j' ≠ j → ps[j']? = some p' → p'.1.dst ≠ some t := fun j' p' hne hp' =>
          (lex_pair hok (hpi j' p' hp').1 hlp hdt).2 (fun e => hne e.symm)
        obtain ⟨e, he, hon, hb⟩ := edge_mem (((lex_pair hok (by rw [← hp1]; exact ho) hlp hdt).1 htl').1 hji)
        have hlj : listed.getD j false = true := by rw [← hon]; exact h3 _ ho e (by rw [hp1]; exact he) hb
        rw [sigL_get_some ps _ σ t j p.1 p.2 hp (by rw [marks_get hjn, hlj]) hdt huniq,
          sigL_get_some ps _ σ t j p.1 p.2 hp (by simp [show j < ps.length from by omega, hji]) hdt huniq]
      · rw [sigL_get_none ps _ σ t (fun j p hp hb hdt => ?_), sigL_get_none ps _ σ t (fun j p hp hb hdt => ?_)]
        · have hjl : j < ps.length := (List.getElem?_eq_some_iff.1 hp).1
          simp [hjl] at hb
          exact hex ⟨j, p, hp, hb, hdt⟩
        · obtain ⟨hlp, hjn⟩ := hpi j p hp
          rw [marks_get hjn] at hb
          injection hb with hb
          rcases Nat.lt_trichotomy j i with hlt | heq | hgt
          · exact hex ⟨j, p, hp, hlt, hdt⟩
          · subst heq; rw [h2] at hb; cases hb
          · obtain ⟨e, he, hon, hb'⟩ := edge_mem (((lex_pair hok (by rw [← hp1]; exact ho) hlp hdt).1 htl').2 hgt)
            have := hcl j _ hlp hb e he hb'
            rw [hon, h2] at this
            cases this
    have hnext : ∀ a' w', St E.N E.C ((sigL ps (marks n listed) σ).setO ps[i].1.dst ps[i].2) h a' w' → wpAny E.P .any l.toArray Q (u + (l.length - n)) (listed.setIfInBounds i true) a' w' := by
      intro a' w' st'
      have his : i < listed.size := by omega
      refine ih _ a' w' ?_ (by simpa using hs) (fun q o hq hlq e he hb => ?_) (fun j hj hjl => ?_) ?_
      · have hfun : (fun j => (listed.setIfInBounds i true).getD j false) = fun j => if j = i then true else listed.getD j false := funext fun j => getD_set his
        rw [hfun]
        have := unl_set (L := fun j => listed.getD j false) n hin h2
        omega
      · rw [getD_set his] at hlq ⊢
        by_cases hqi : q = i
        · subst hqi
          by_cases hei : e.on = q
          · rw [if_pos hei]
          · rw [if_neg hei]; exact h3 o hq e he hb
        · rw [if_neg hqi] at hlq
          have := hcl q o hq hlq e he hb
          by_cases hei : e.on = i
          · rw [if_pos hei]
          · rw [if_neg hei]; exact this
      · rw [getD_set his, if_neg (by omega)]; exact htl j hj hjl
      · refine St.weak st' (fun t => .inr ?_) (List.Sublist.refl _)
        rw [setO_get]
        by_cases hdt : ps[i].1.dst = some t
        · rw [if_pos hdt]
          have huniq : ∀ (j' : Nat) (p' : Oper × AV), j' ≠ i → ps[j']? = some p' → p'.1.dst ≠ some t := fun j' p' hne hp' =>
            (lex_pair hok (hpi j' p' hp').1 (hpi i _ hpi').1 hdt).2 (fun e => hne e.symm)
          exact sigL_get_some ps _ σ t i ps[i].1 ps[i].2 hpi' (by rw [marks_get hin, getD_set his, if_pos rfl]) hdt huniq
        · rw [if_neg hdt]
          by_cases hex : ∃ (j : Nat) (p : Oper × AV), ps[j]? = some p ∧ listed.getD j false = true ∧ p.1.dst = some t
          · obtain ⟨j, p, hp, hlj, hdt'⟩ := hex
            obtain ⟨hlp, hjn⟩ := hpi j p hp
            have huniq : ∀ (j' : Nat) (p' : Oper × AV), j' ≠ j → ps[j']? = some p' → p'.1.dst ≠ some t := fun j' p' hne hp' =>
              (lex_pair hok (hpi j' p' hp').1 hlp hdt').2 (fun e => hne e.symm)
            rw [sigL_get_some ps _ σ t j p.1 p.2 hp (by rw [marks_get hjn, getD_set his]; split <;> first | rfl | rw [hlj]) hdt' huniq,
              sigL_get_some ps _ σ t j p.1 p.2 hp (by rw [marks_get hjn, hlj]) hdt' huniq]
          · rw [sigL_get_none ps _ σ t (fun j p hp hb hdt' => ?_), sigL_get_none ps _ σ t (fun j p hp hb hdt' => ?_)]
            · obtain ⟨_, hjn⟩ := hpi j p hp
              rw [marks_get hjn] at hb
              injection hb with hb
              exact hex ⟨j, p, hp, hb, hdt'⟩
            · obtain ⟨_, hjn⟩ := hpi j p hp
              rw [marks_get hjn, getD_set his] at hb
              injection hb with hb
              split at hb
              · rename_i hji; subst hji; rw [hpi'] at hp; injection hp with hp; subst hp; exact hdt hdt'
              · exact hex ⟨j, p, hp, hb, hdt'⟩
    have hcalm := hc _ a w Q hsame st
    unfold wpOp
    rw [show l.toArray[i]? = some l[i] from by simp [h1]]
    simp only
    rw [hp1]
    split
    · rename_i hw
      rw [if_pos hw] at hcalm
      exact .inl (Oper.wp_mono hnext hcalm)
    · rename_i hw
      rw [if_neg hw] at hcalm
      have st2 := st.put hd (r := .c .any) (v := undef) trivial
      rw [← hcalm] at st2
      exact hnext _ _ st2

/-- A REGION THAT DRAWS ITS ORDER: walked once, in the order of the text; its last operations, from place n on, come after all others. -/
theorem aw_draw {id : Nat} (n : Nat) {ps : List (Oper × AV)} (hm : E.P.follows .mixedOrders = true) (hok : (lexOk l && tailOk l n && decide (n ≤ l.length)) = true) (hps : ps.map (·.1) = l.take n) (d : Dr E h l ps σ σ') (k : aw E (.ops l (l.drop n) :: K) σ' h) :
    aw E (.code (.region id l.toArray true) :: K) σ h := fun a w s => by
  simp only [Bool.and_eq_true, decide_eq_true_eq] at hok
  refine wp_region_any hm ?_
  have s' := s.later (Fr.drew (fun _ => False) w (w.drawn + 1))
  have e0 : ∀ j, (Array.replicate l.length false).getD j false = false := fun j => by
    rw [Array.getD_eq_getD_getElem?]
    simp only [Array.getElem?_replicate]
    split <;> rfl
  have hun : ∀ m, unl (fun j => (Array.replicate l.length false).getD j false) m = m := by
    intro m
    induction m with
    | zero => rfl
    | succ m ih => rw [unl, ih, e0]; rfl
  have := draw_any (Q := exW E K) hok.1.1 hok.1.2 hok.2 hps d (fun a w st => k a w st) n (Array.replicate l.length false) a { w with drawn := w.drawn + 1 } (hun n) (by simp) (fun i o _ hl => by rw [e0] at hl; cases hl) (fun j _ _ => e0 j) (by
    refine s'.weak (fun t => .inr ?_) (List.Sublist.refl _)
    rw [sigL_get_none ps _ σ t (fun j p hp hb => ?_)]
    exfalso
    have hjl : j < ps.length := (List.getElem?_eq_some_iff.1 hp).1
    have hpl : ps.length = n := by have := congrArg List.length hps; simp at this; omega
    rw [marks_get (by omega), e0] at hb
    cases hb)
  rw [show n + (l.length - n) = l.length from by omega] at this
  simpa using this

/-- A drawn region on its way: k operations more in the text's order, then the rest one after the other. -/
def DrK (E : Env) (h : Heap) (l : List Oper) (K : List It) (k : Nat) (rest : List Oper) (σ : Sl) : Prop :=
  ∃ ps σ', ps.map (·.1) = rest.take k ∧ Dr E h l ps σ σ' ∧ aw E (.ops l (rest.drop k) :: K) σ' h
theorem aw_dr {id : Nat} (n : Nat) (hm : E.P.follows .mixedOrders = true) (hok : (lexOk l && tailOk l n && decide (n ≤ l.length)) = true) (k : DrK E h l K n l σ) : aw E (.code (.region id l.toArray true) :: K) σ h := by
  obtain ⟨ps, σ', h1, h2, h3⟩ := k
  exact aw_draw n hm hok h1 h2 h3
theorem drk_nil {rest : List Oper} (k : aw E (.ops l rest :: K) σ h) : DrK E h l K 0 rest σ := ⟨[], σ, by simp, .nil, by simpa using k⟩
theorem drk_cons {rest : List Oper} {n : Nat} {r : AV} (hc : Calm E h l σ o r) (k : DrK E h l K n rest (σ.setO o.dst r)) : DrK E h l K (n + 1) (o :: rest) σ := by
  obtain ⟨ps, σ', h1, h2, h3⟩ := k
  exact ⟨(o, r) :: ps, σ', by simp [h1], .cons hc h2, by simpa using h3⟩
theorem drk_1q {rest : List Oper} {n : Nat} (nw : Bool) (hd : dstOk E.N o.dst = true) (k : ∀ R : Option (Prop × Sl) → Prop, (∀ q σ', q → DrK E h l K n rest σ' → R (some (q, σ'))) → R (runOps E.P nw h l [o] True σ)) : DrK E h l K (n + 1) (o :: rest) σ := by
  have key : ∀ q σ', runOps E.P nw h l [o] True σ = some (q, σ') → q → DrK E h l K n rest σ' → DrK E h l K (n + 1) (o :: rest) σ := by
    intro q σ' hr hq hk
    unfold runOps at hr
    split at hr
    · rename_i hw
      split at hr
      · rename_i q1 r hp
        simp only [runOps, Option.some.injEq, Prod.mk.injEq] at hr
        obtain ⟨rfl, rfl⟩ := hr
        exact drk_cons (Calm.pure hw hp hq.2 hd) hk
      · cases hr
    · rename_i hw
      simp only [runOps, Option.some.injEq, Prod.mk.injEq] at hr
      obtain ⟨rfl, rfl⟩ := hr
      exact drk_cons (Calm.skip hw hd) hk
    · cases hr
  have := k (fun x => x = runOps E.P nw h l [o] True σ → DrK E h l K (n + 1) (o :: rest) σ) (fun q σ' hq ha e => key q σ' e.symm hq ha)
  exact this rfl
theorem drk_call {rest : List Oper} {n : Nat} {f : FuncId} {xs : List Operand} {ts : Array TypeId} {args : List AV} {r : AV} (hf : Fa E.P f args r) (hop : o.op = .call { callee := .value (.func f), args := xs.toArray, argTypes := ts }) (hw : wantA l σ o = some true) (hd : dstOk E.N o.dst = true)
    (le : LeA h (xs.map (ev σ)) args) (k : DrK E h l K n rest (σ.setO o.dst r)) : DrK E h l K (n + 1) (o :: rest) σ := drk_cons (Calm.call hf hop hw hd le) k
end
end Go.AI

/- The simp set of the evaluator, and how data are told. -/
namespace Go.AI
attribute [go_sem] wide Bool.false_eq_true sameB runOps wantA pureOp ev Sl.get Sl.set Sl.setO cst cstC binAV binI binInt binSh loadAV indexAV fieldAV sliceAV boundAV buildAV lenCV cellsAt nilAV isNil Heap.get Heap.set Heap.del
attribute [go_sem] Option.map_some Option.map_none Option.bind_some List.getElem?_cons_zero List.getElem?_cons_succ Nat.mul_one Nat.add_zero Nat.zero_add Nat.sub_zero Nat.zero_mul Int.toNat_natCast

@[go_sem] theorem pick_bool (t p q : Bool) : pickAV t (.c (.bool p)) (.c (.bool q)) = .c (.bool (bif t then p else q)) := rfl
@[go_sem] theorem pick_true (x y : AV) : pickAV true x y = x := by rw [pickAV_eq]; rfl
@[go_sem] theorem pick_false (x y : AV) : pickAV false x y = y := by rw [pickAV_eq]; rfl

/-- Words. -/
abbrev ws (t : Bool) (xs : List Nat) : CV := .row t 1 xs.length fun j => .int .u32 (xs.getD j 0 : Nat)
def wf (zs : List Nat) (j : Nat) : CV := .int .u32 (zs.getD j 0 : Nat)
@[go_sem] theorem wf_at (zs : List Nat) (j : Nat) : wf zs j = .int .u32 (zs.getD j 0 : Nat) := rfl
theorem updF_wf {zs : List Nat} {i v : Nat} (hi : i < zs.length) : updF (wf zs) i [.int .u32 (v : Int)] = wf (zs.set i v) := by
  funext j
  simp only [updF]
  by_cases e : j = i
  · subst e; simp [hi, wf]
  · rw [if_neg e]
    show CV.int .u32 (zs.getD j 0 : Nat) = CV.int .u32 ((zs.set i v).getD j 0 : Nat)
    rw [List.getD_eq_getElem?_getD, List.getD_eq_getElem?_getD, List.getElem?_set_ne (fun h => e h.symm)]
theorem make_wf (n : Nat) : (fun j => ofL [.int .u32 0] (j % 1)) = wf (List.replicate n 0) := by
  funext j
  show ofL [CV.int .u32 0] (j % 1) = CV.int .u32 ((List.replicate n 0).getD j 0 : Nat)
  rw [Nat.mod_one, List.getD_eq_getElem?_getD, List.getElem?_replicate]
  split <;> rfl
theorem shr_u64_32 (a : Int) : shrZ .u64 a 32 = a / 4294967296 := by
  rw [shrZ_eq]
  show a.fdiv 4294967296 = _
  rw [Int.fdiv_eq_ediv_of_nonneg _ (by omega)]
theorem shr_i64_32 (a : Int) : shrZ .i64 a 32 = a / 4294967296 := by
  rw [shrZ_eq]
  show a.fdiv 4294967296 = _
  rw [Int.fdiv_eq_ediv_of_nonneg _ (by omega)]
theorem shr_u64_63 (a : Int) : shrZ .u64 a 63 = a / 9223372036854775808 := by
  rw [shrZ_eq]
  show a.fdiv 9223372036854775808 = _
  rw [Int.fdiv_eq_ediv_of_nonneg _ (by omega)]
theorem shr63_nat (D : Nat) : shrZ .u64 (D : Int) 63 = ((D / 9223372036854775808 : Nat) : Int) := by rw [shr_u64_63]; omega
attribute [go_sem] shr_i64_32 shr_u64_32 LeA List.map_cons List.map_nil AV.cells Option.getD_some Option.getD_none
@[go_sem] theorem ofL_at : ∀ (cs : List CV) (k : Nat), ofL cs k = (cs[k]?).getD .any
  | [], _ => rfl
  | _ :: _, 0 => rfl
  | _ :: cs, k + 1 => by rw [List.getElem?_cons_succ]; exact ofL_at cs k
@[go_sem] theorem toNat_add_nat (a b : Nat) : ((a : Int) + (b : Int)).toNat = a + b := by omega
@[go_sem] theorem toNat_add_one (a : Nat) : ((a : Int) + 1).toNat = a + 1 := by omega
@[go_sem] theorem toNat_sub_one (a : Nat) : ((a : Int) - 1).toNat = a - 1 := by omega
theorem c_int {k : IntKind} {a b : Int} (e : a = b) : AV.c (.int k a) = .c (.int k b) := by rw [e]
theorem c_bool {a b : Bool} (e : a = b) : AV.c (.bool a) = .c (.bool b) := by rw [e]
attribute [go_sem] Sl.sub cond_true cond_false
theorem le_ws {h : Heap} {t t' : Bool} {xs : List Nat} (ht : t' = true → t = true) : LeC h (ws t xs) (ws t' xs) := .row ht fun _ _ => .refl _
theorem ler_ws {h : Heap} {t : Bool} {xs : List Nat} : LeR h (ws true xs) (ws t xs) := .row fun _ _ => .int _ _
theorem ler_oslws {h : Heap} {t : Bool} {g off n m : Nat} {ty : TypeId} {f : Nat → CV} {ys : List Nat} (hg : h.get g = some (.cells ty m f)) (hm : off + n ≤ m) (hn : n = ys.length) (hf : ∀ j, j < n → f (off + j) = .int .u32 (ys.getD j 0 : Nat)) : LeR h (.osl g 1 off n) (ws t ys) := by
  subst hn
  exact .osl hg (by omega) (fun j hj => by rw [hf j (by omega)]; exact .int _ _)
theorem lec_oslws {h : Heap} {g off n m : Nat} {ty : TypeId} {f : Nat → CV} {ys : List Nat} (hg : h.get g = some (.cells ty m f)) (hm : off + n ≤ m) (hn : n = ys.length) (hf : ∀ j, j < n → f (off + j) = .int .u32 (ys.getD j 0 : Nat)) : LeC h (.osl g 1 off n) (ws false ys) := by
  subst hn
  exact .osl hg (by omega) (fun j hj => by rw [hf j (by omega)]; exact .refl _)
theorem ler_int {h : Heap} {k : IntKind} {a b : Int} (e : a = b) : LeR h (.int k a) (.int k b) := by subst e; exact .int _ _
theorem ler_bool {h : Heap} {a b : Bool} (e : a = b) : LeR h (.bool a) (.bool b) := by subst e; exact .bool _
theorem lec_eq {h : Heap} {a b : CV} (e : a = b) : LeC h a b := by subst e; exact .refl _
@[go_sem] theorem envP (P : Program) (fn : Func) (C : Ctx) (r : AV) : (envOf P fn C r).P = P := rfl
@[go_sem] theorem resAV1 (P : Program) (σ : Sl) (h : Heap) (t : Nat) : resAV P σ h [.tmp t] = some (σ.get t) := rfl
attribute [go_sem] resAV rvAV List.mapM_cons List.mapM_nil
theorem noTup {x : CV} : ∀ xs : List AV, AV.c x = .tup xs → xs.all AV.flat = true := fun _ e => by cases e
theorem noTupA {cs : List CV} : ∀ xs : List AV, AV.agg cs = .tup xs → xs.all AV.flat = true := fun _ e => by cases e
theorem isTup {ys : List AV} (hy : ys.all AV.flat = true) : ∀ xs : List AV, AV.tup ys = .tup xs → xs.all AV.flat = true := fun _ e => by cases e; exact hy
theorem wrap_u32_nat (n : Nat) : wrapZ .u32 (n : Int) = ((n % 4294967296 : Nat) : Int) := by rw [wrapZ_eq, IntKind.wrap_u32]; omega
theorem wrap_u64 {x : Int} (h0 : 0 ≤ x) (h1 : x ≤ 18446744073709551615) : IntKind.u64.wrap x = x := wrap_inRange ⟨h0, h1⟩
theorem wrap_u32 {x : Int} (h0 : 0 ≤ x) (h1 : x ≤ 4294967295) : IntKind.u32.wrap x = x := wrap_inRange ⟨h0, h1⟩
theorem wrap_i64 {x : Int} (h0 : -9223372036854775808 ≤ x) (h1 : x ≤ 9223372036854775807) : IntKind.i64.wrap x = x := wrap_inRange ⟨h0, h1⟩
attribute [go_sem] Nat.reduceEqDiff reduceIte Nat.reduceAdd Nat.reduceSub Nat.reduceMul Nat.reduceLeDiff Nat.reduceLT Int.reduceToNat List.length_cons List.length_nil Bool.not_true Bool.not_false
/-! Short names of the rules. -/
section
variable {E : Env} {K : List It} {σ : Sl} {h : Heap} {all l rest : List Oper} {o : Oper}
theorem wa1 {x y : Code} (k : aw E (.code x :: .code y :: K) σ h) : aw E (.code (.seq x y) :: K) σ h := aw_seq k
theorem wa2 {id : Nat} {c : Code} (k : aw E (.code c :: .blk id :: K) σ h) : aw E (.code (.block id c) :: K) σ h := aw_block k
theorem wa3 (k : aw E K σ h) : aw E (.code .skip :: K) σ h := aw_skip k
theorem wa4 {id : Nat} (k : aw E K σ h) : aw E (.blk id :: K) σ h := aw_blk k
theorem wa5 {id : Nat} {K' : List It} (hk : exitK id K = some K') (k : aw E K' σ h) : aw E (.code (.exit id) :: K) σ h := aw_exit hk k
theorem wa6 {id : Nat} (k : aw E (.ops l l :: K) σ h) : aw E (.code (.region id l.toArray false) :: K) σ h := aw_region k
theorem wa7 (k : aw E K σ h) : aw E (.ops l [] :: K) σ h := aw_ops_nil k
theorem wa8 (k : aw E (.ops l rest :: K) σ h) : DrK E h l K 0 rest σ := drk_nil k
theorem wb0 (hd : dstOk E.N o.dst = true) (k : ∀ R : Option (Prop × Sl) → Prop, (∀ q σ', aw E (.ops all rest :: K) σ' h → (hq : q := by (try simp only [inRange]) <;> and_intros <;> first | exact True.intro | omega | trivial) → R (some (q, σ'))) → R (runOps E.P true h all [o] True σ)) : aw E (.ops all (o :: rest) :: K) σ h :=
  aw_1q true hd fun R r => k R fun q σ' ha hq => r q σ' hq ha
theorem wd0 {n : Nat} (hd : dstOk E.N o.dst = true) (k : ∀ R : Option (Prop × Sl) → Prop, (∀ q σ', DrK E h l K n rest σ' → (hq : q := by (try simp only [inRange]) <;> and_intros <;> first | exact True.intro | omega | trivial) → R (some (q, σ'))) → R (runOps E.P true h l [o] True σ)) : DrK E h l K (n + 1) (o :: rest) σ :=
  drk_1q true hd fun R r => k R fun q σ' ha hq => r q σ' hq ha
theorem wl2 {t : Bool} {s n : Nat} {f : Nat → CV} : LeC h (.row true s n f) (.row t s n f) := .row (fun _ => rfl) fun _ _ => .refl _
theorem lel_refl {h : Heap} : ∀ xs : List CV, LeL h xs xs
  | [] => trivial
  | x :: xs => ⟨.refl x, lel_refl xs⟩
end
end Go.AI
