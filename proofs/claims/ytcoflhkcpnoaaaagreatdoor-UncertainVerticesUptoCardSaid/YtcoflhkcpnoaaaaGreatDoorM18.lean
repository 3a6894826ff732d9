/- Blocks of one proof, laid one behind the other by a program (merge2.py). -/
import Derived.Test.YtcoflhkcpnoaaaaGreatDoorM17
set_option linter.unusedSimpArgs false
set_option linter.unusedVariables false
namespace Go.AI
def zeroL (P : Program) (t : TypeId) : Option (List Value) := ((P.info? t).bind (·.zero)).map fun z => z.cells.toList
theorem zeroL_spec {P : Program} {t : TypeId} {vs : List Value} (hz : zeroL P t = some vs) : ∃ i v, P.info? t = some i ∧ i.zero = some v ∧ vs = v.cells.toList := by
  unfold zeroL at hz
  cases hi : P.info? t with
  | none => simp [hi] at hz
  | some i =>
    cases hv : i.zero with
    | none => simp [hi, hv] at hz
    | some v => simp [hi, hv] at hz; exact ⟨i, v, rfl, hv, hz.symm⟩
theorem rawL_rep (S : Bool → Nat → Prop) (w : World) : ∀ l : List Value, RepL S w (l.map CV.raw) l
  | [] => trivial
  | v :: l => ⟨rfl, rawL_rep S w l⟩
section
variable {E : Env} {K : List It} {σ σ' : Sl} {h : Heap} {all rest l : List Oper} {o : Oper}
theorem Calm.pok {r : AV} (hw : wantA l σ o = some true) (hp : POk E.P h (ev σ) o.op r) (hd : dstOk E.N o.dst = true) : Calm E h l σ o r := by
  refine ⟨hd, fun σ' a w Q hs s => ?_⟩
  rw [if_pos (s.wanted ((want_same hs).trans hw))]
  obtain ⟨v, hrun, hr⟩ := hp (Stab E.C h w) w a.eval Stab.mono' (fun x hx => by rw [← ev_same hx hs]; exact ev_rep s x) s.heap
  unfold Oper.wp
  rw [hrun o rfl]
  exact s.put hd hr
theorem drk_pok {n : Nat} {r : AV} (hp : POk E.P h (ev σ) o.op r) (hw : wantA l σ o = some true) (hd : dstOk E.N o.dst = true) (k : DrK E h l K n rest (σ.setO o.dst r)) : DrK E h l K (n + 1) (o :: rest) σ := drk_cons (Calm.pok hw hp hd) k
theorem aw_pok {r : AV} (hp : POk E.P h (ev σ) o.op r) (hw : wantA all σ o = some true) (hd : dstOk E.N o.dst = true) (k : aw E (.ops all rest :: K) (σ.setO o.dst r) h) : aw E (.ops all (o :: rest) :: K) σ h := aw_pure hw hp hd rfl k
theorem aw_allocR {t : TypeId} {vs : List Value} (hop : o.op = .alloc t) (hw : wantA all σ o = some true) (hd : dstOk E.N o.dst = true) (hz : zeroL E.P t = some vs)
    (k : ∀ g, g ∉ h.keys → aw E (.ops all rest :: K) (σ.setO o.dst (.c (.optr g 0))) ((g, .cells t (vs.map CV.raw).length (ofL (vs.map CV.raw))) :: h)) : aw E (.ops all (o :: rest) :: K) σ h := by
  refine aw_new (r := fun g => .c (.optr g 0)) (ob := .cells t (vs.map CV.raw).length (ofL (vs.map CV.raw))) hw hd (fun a w s => ?_) k
  obtain ⟨i, v, hi, hv, rfl⟩ := zeroL_spec hz
  refine ⟨.pointer (some ⟨w.heap.size, 0, none⟩), w.alloc (.cells v.cells.toList.toArray t), ?_, Fr.alloc _ _ _, by simp, orep_new (rawL_rep _ _ _), rfl⟩
  simp only [execOp, hop, Instr.alloc, zeroValue, typeInfo, newVar, newRow, Sem.run_bind]
  simp [hi, hv]
theorem POk.unsafeStr0 {P : Program} {ρ : Operand → AV} {pt it : TypeId} {p x : Operand} (hp : ρ p = .c (.raw (.pointer none))) (hx : ρ x = .c (.int .i64 0)) : POk P h ρ (.call { callee := .builtin .unsafeString, args := #[p, x], argTypes := #[pt, it] }) (.c (.str ⟨#[]⟩)) := fun S w e _ ho _ => by
  have h1 : e p = .pointer none := by have := ho p (by simp [Op.operands, Call.operands]); rw [hp] at this; exact this
  have h2 : e x = .int .i64 0 := by have := ho x (by simp [Op.operands, Call.operands]); rw [hx] at this; exact this
  refine ⟨.string .empty, fun o hop => ?_, rfl⟩
  have := Lib.run_unsafeString_none (P := P) (w := w) pt it o.type none
  simp [execOp, hop, resolve, invoke, Go.builtin, h1, h2, this]
theorem Fr.freeze (w : World) (g n : Nat) : Fr (fun b => b = g) w (w.freeze ⟨g, 0, none⟩ n) := by
  unfold World.freeze
  split
  · exact Fr.refl _ _
  · refine ⟨rfl, rfl, rfl, by simp, fun b _ hn => ?_, fun g1 m hh => ?_⟩
    · simp only [Array.getElem?_modify]
      rw [if_neg (fun e => hn e.symm)]
    · obtain ⟨cs, ty, ⟨fr, hc⟩, hs⟩ := hh
      by_cases e : g = g1
      · subst e
        refine ⟨cs, ty, ?_, hs⟩
        simp only [Array.getElem?_modify, hc]
        simp
      · refine ⟨cs, ty, ⟨fr, ?_⟩, hs⟩
        simp only [Array.getElem?_modify]
        rw [if_neg e]; exact hc
theorem St.drop {N : Nat} {C : Ctx} {a : Act} {w w' : World} {g : Nat} (s : St N C σ h a w) (hg : g ∈ h.keys) (hfr : Fr (fun b => b = g) w w') : St N C σ (h.del g) a w' := by
  have hsub : ∀ b, b ∈ (h.del g).keys → b ∈ h.keys := fun b hb => by
    obtain ⟨p, hp, e⟩ := List.mem_map.1 hb
    exact List.mem_map.2 ⟨p, (Heap.del_sub h g).subset hp, e⟩
  have kp : Keeps (Stab C h w) (Stab C (h.del g) w') w w' :=
    ⟨fun t b hb => ⟨hb.1, Nat.lt_of_lt_of_le hb.2.1 hfr.size, fun hm => hb.2.2 (hsub b hm)⟩, fun t b hb => hfr.block b hb.2.1 (fun e => hb.2.2 (e ▸ hg)), hfr.has⟩
  refine ⟨s.size, s.defers, fun t => Rep.keep kp (s.slots t), fun g1 o1 hm => ?_, ((Heap.del_sub h g).map _).nodup s.nodup, fun g1 hg1 => s.keys g1 (hsub _ hg1), ?_⟩
  · have h1 := s.heap g1 o1 ((Heap.del_sub h g).subset hm)
    have hmk : g1 ∈ (h.del g).keys := List.mem_map.2 ⟨(g1, o1), hm, rfl⟩
    have hne : g1 ≠ g := fun e => Heap.del_not h g s.nodup (e ▸ hmk)
    exact ORep.keep kp (hfr.block g1 h1.lt hne) h1
  · refine s.frame.trans hfr (fun x hx hlt => ?_)
    subst hx
    exact (s.keys _ hg).resolve_right (by omega)
theorem aw_unsafeStr {pt it e : TypeId} {p x : Operand} {g m : Nat} {f : Nat → CV} {bs : List UInt8} {h' : Heap} (hop : o.op = .call { callee := .builtin .unsafeString, args := #[p, x], argTypes := #[pt, it] }) (hw : wantA all σ o = some true) (hd : dstOk E.N o.dst = true)
    (hpt : E.P.underlying pt = some (.pointer e)) (hc : E.P.cellsOf e = 1) (hp : ev σ p = .c (.optr g 0)) (hx : ev σ x = .c (.int .i64 bs.length)) (hg : h.get g = some (.cells e m f)) (hm : bs.length ≤ m) (h0 : bs ≠ []) (h63 : bs.length ≤ 9223372036854775807) (hf : ∀ j, j < bs.length → f j = byF bs j)
    (hh : h.del g = h') (k : aw E (.ops all rest :: K) (σ.setO o.dst (.c (.str ⟨bs.toArray⟩))) h') : aw E (.ops all (o :: rest) :: K) σ h := by
  subst hh
  refine aw_step hw (fun a w s => ?_) k
  have r1 := ev_rep s p
  have r2 := ev_rep s x
  rw [hp] at r1
  rw [hx] at r2
  have v1 : a.eval p = .pointer (some ⟨g, 0, none⟩) := r1
  have v2 : a.eval x = .int .i64 bs.length := r2
  obtain ⟨cs, hb, hn, hj⟩ := s.heap g _ (Heap.get_mem hg)
  have hsh : w.shape? g = some (e, cs.size) := by simp [World.shape?, hb]
  have hr := Lib.run_unsafeString_row (P := E.P) (w := w) pt it o.type e hpt hc g cs.size hsh bs h0 (by omega) h63 (fun j u hu => by
    obtain ⟨hjl, rfl⟩ := List.getElem?_eq_some_iff.1 hu
    obtain ⟨u, hu, hr⟩ := hj j (by omega)
    rw [hf j hjl] at hr
    rw [add_mk, cell_own hb, Nat.zero_add, hu, byF_rep hjl hr])
  refine ⟨.string ⟨bs.toArray⟩, w.freeze ⟨g, 0, none⟩ bs.length, .inl ?_, ?_⟩
  · simp [execOp, hop, resolve, invoke, Go.builtin, v1, v2, hr]
  · exact (s.drop (List.mem_map.2 ⟨_, Heap.get_mem hg, rfl⟩) (Fr.freeze w g _)).put hd (r := .c (.str ⟨bs.toArray⟩)) rfl
theorem cw_pok {FP : Heap} {i : Nat} {cs : List (Nat × Nat)} {r : AV} (ho : l[i]? = some o) (hp : ∀ h, Has0 FP h → POk E.P h (ev σ) o.op r) (hw : wantA l σ o = some true) (hd : dstOk E.N o.dst = true) (k : CW E l K FP cs (σ.setO o.dst r) h) : CW E l K FP ((i, 0) :: cs) σ h :=
  .flt ho ⟨hd, fun h hfp => Calm.pok hw (hp h hfp) hd⟩ k
theorem cw_unsafeStr {FP FP' : Heap} {i mk : Nat} {cs : List (Nat × Nat)} {pt it e : TypeId} {p x : Operand} {g m : Nat} {f : Nat → CV} {bs : List UInt8} {h' : Heap} (ho : l[i]? = some o) (hop : o.op = .call { callee := .builtin .unsafeString, args := #[p, x], argTypes := #[pt, it] }) (hw : wantA l σ o = some true) (hd : dstOk E.N o.dst = true)
    (hpt : E.P.underlying pt = some (.pointer e)) (hc : E.P.cellsOf e = 1) (hp : ev σ p = .c (.optr g 0)) (hx : ev σ x = .c (.int .i64 bs.length)) (hg : h.get g = some (.cells e m f)) (hm : bs.length ≤ m) (h0 : bs ≠ []) (h63 : bs.length ≤ 9223372036854775807) (hf : ∀ j, j < bs.length → f j = byF bs j)
    (hh : h.del g = h') (hFP : Has0 FP' h') (k : CW E l K FP' cs (σ.setO o.dst (.c (.str ⟨bs.toArray⟩))) h') (hmk : mk = 2 ∨ mk = 1 ∧ FP' = FP := by first | exact .inl rfl | exact .inr ⟨rfl, rfl⟩) : CW E l K FP ((i, mk) :: cs) σ h := by
  refine .pin ho hmk (R := fun r h2 => r = .c (.str ⟨bs.toArray⟩) ∧ h2 = h') (fun σ' K hs => ?_) ?_ ?_
  · exact aw_unsafeStr hop ((want_same hs).trans hw) hd hpt hc ((ev_same (by rw [hop]; simp [Op.operands, Call.operands]) hs).trans hp) ((ev_same (by rw [hop]; simp [Op.operands, Call.operands]) hs).trans hx) hg hm h0 h63 hf hh (aw_ops_nil (aw_stop ⟨_, ⟨rfl, rfl⟩, rfl⟩))
  · rintro _ _ ⟨_, rfl⟩; exact hFP
  · rintro _ _ ⟨rfl, rfl⟩; exact k
end
end Go.AI
namespace Go.AI
abbrev sB (l : List UInt8) : ByteArray := ⟨l.toArray⟩
theorem sb_loop (l : List UInt8) : ∀ (k i : Nat) (r : List UInt8), l.length - i = k → ByteArray.toList.loop ⟨l.toArray⟩ i r = r.reverse ++ l.drop i
  | 0, i, r, hk => by
    rw [ByteArray.toList.loop, if_neg (show ¬ i < (⟨l.toArray⟩ : ByteArray).size from by show ¬ i < l.length; omega), List.drop_of_length_le (by omega), List.append_nil]
  | k + 1, i, r, hk => by
    have hi : i < l.length := by omega
    rw [ByteArray.toList.loop, if_pos (show i < (⟨l.toArray⟩ : ByteArray).size from hi), sb_loop l k (i + 1) _ (by omega)]
    have : (⟨l.toArray⟩ : ByteArray).get! i = l[i] := by
      show l.toArray[i]! = _
      simp [hi]
    rw [this, List.drop_eq_getElem_cons hi]
    simp
theorem sb_toList (l : List UInt8) : (sB l).toList = l := by
  unfold ByteArray.toList
  rw [sb_loop l _ 0 [] rfl]; rfl
theorem sb_app (a b : List UInt8) : sB a ++ sB b = sB (a ++ b) := by apply ByteArray.ext; simp
theorem sb_get (a : List UInt8) (i : Nat) : (sB a)[i]? = a[i]? := by
  by_cases h : i < a.length
  · rw [getElem?_pos (⟨a.toArray⟩ : ByteArray) i h, List.getElem?_eq_getElem h]; rfl
  · rw [getElem?_neg (⟨a.toArray⟩ : ByteArray) i h, List.getElem?_eq_none (by omega)]
theorem sb_drop (a : List UInt8) (i : Nat) : (sB a).extract i a.length = sB (a.drop i) := by
  apply ByteArray.ext; simp
  exact List.take_of_length_le (by simp)
theorem sb_eq (a b : List UInt8) : strEq (sB a) (sB b) = (a == b) := by unfold strEq; rw [sb_toList, sb_toList]
theorem quo_u32 (a b : Nat) (ha : a < 4294967296) : quoZ .u32 (a : Int) (b : Int) = ((a / b : Nat) : Int) := by
  rw [quoZ_eq]
  show IntKind.u32.wrap ((a : Int).tdiv b) = _
  have h := Nat.div_le_self a b
  have e : (a : Int).tdiv (b : Int) = ((a / b : Nat) : Int) := rfl
  rw [e, IntKind.wrap_u32]
  generalize a / b = q at *
  omega
section
variable {P : Program} {h : Heap} {ρ : Operand → AV}
theorem POk.indexSB {t : TypeId} {x ix : Operand} {k : IntKind} {l : List UInt8} {i : Nat} (ht : P.underlying t = some .string) (hx : ρ x = .c (.str (sB l))) (hix : ρ ix = .c (.int k (i : Int))) (hi : i < l.length) : POk P h ρ (.index t x ix) (.c (.int .u8 ((l.getD i 0).toNat : Int))) := fun S w e _ ho _ => by
  have h1 : e x = .string (sB l) := by have := ho x (by simp [Op.operands]); rw [hx] at this; exact this
  have h2 : e ix = .int k (i : Int) := by have := ho ix (by simp [Op.operands]); rw [hix] at this; exact this
  refine ⟨_, fun o hop => ?_, rfl⟩
  have hg := sb_get l i
  rw [List.getElem?_eq_getElem hi] at hg
  rw [List.getD_eq_getElem?_getD, List.getElem?_eq_getElem hi]
  simp [execOp, hop, h1, h2, Instr.index, asIntOf, run_underlying ht, hg]
theorem POk.sliceStr {t : TypeId} {x y : Operand} {k : IntKind} {l : List UInt8} {i : Nat} (ht : P.underlying t = some .string) (hx : ρ x = .c (.str (sB l))) (hy : ρ y = .c (.int k (i : Int))) (hi : i ≤ l.length) : POk P h ρ (.slice t x (some y) none none) (.c (.str (sB (l.drop i)))) := fun S w e _ ho _ => by
  have h1 : e x = .string (sB l) := by have := ho x (by simp [Op.operands]); rw [hx] at this; exact this
  have h2 : e y = .int k (i : Int) := by have := ho y (by simp [Op.operands]); rw [hy] at this; exact this
  refine ⟨_, fun o hop => ?_, rfl⟩
  have hs : (sB l).size = l.length := rfl
  have hd := sb_drop l i
  simp [execOp, hop, h1, h2, Instr.sliceAt, Instr.slice, Instr.sliceBounds, Instr.sliceBound, asIntOf, run_underlying ht]
  rw [hs, if_pos hi, hd]
theorem POk.indexArr {t el : TypeId} {x ix : Operand} {g n : Nat} {k : IntKind} {i : Int} (ht : P.underlying t = some (.array n el)) (hz : (P.info? el).map (·.size) = some 1) (hx : ρ x = .c (.optr g 0)) (hix : ρ ix = .c (.int k i)) (h0 : 0 ≤ i) (hl : i < n) : POk P h ρ (.indexAddr t x ix) (.c (.optr g i.toNat)) := fun S w e _ ho _ => by
  have h1 : e x = .pointer (some ⟨g, 0, none⟩) := by have := ho x (by simp [Op.operands]); rw [hx] at this; exact this
  have h2 : e ix = .int k i := by have := ho ix (by simp [Op.operands]); rw [hix] at this; exact this
  obtain ⟨j, hj, hjs⟩ := Option.map_eq_some_iff.1 hz
  refine ⟨_, fun o hop => ?_, rfl⟩
  simp [execOp, hop, h1, h2, Instr.indexAt, Instr.sureAddr, asIntOf, run_underlying ht, h0, hl, sizeOf, typeInfo, hj, hjs, add_mk]
end
end Go.AI
namespace Go.PN
open Go.AI
theorem sB_size (l : List UInt8) : (sB l).size = l.length := rfl
theorem sB_data (l : List UInt8) : (sB l).data.toList = l := rfl
theorem byF_app (a b : List UInt8) : ∀ j, appF (byF a) a.length (byF b) j = byF (a ++ b) j := fun j => by
  unfold appF byF
  split
  · rename_i h
    rw [List.getD_eq_getElem?_getD, List.getD_eq_getElem?_getD, List.getElem?_append_left h]
  · rename_i h
    rw [List.getD_eq_getElem?_getD, List.getD_eq_getElem?_getD, List.getElem?_append_right (by omega)]
end Go.PN
namespace Go.Proofs.YtcoflhkcpnoaaaaGreatDoor
open Go.AI Go.PN
attribute [local irreducible] aw Fa Fh DrK
theorem und_bp : Tryz.prog.underlying 136 = some (.pointer 138) := Tryz.underlying136
theorem und_up : Tryz.prog.underlying 184 = some .unsafePointer := Tryz.underlying184
theorem und_str : Tryz.prog.underlying 9 = some .string := Tryz.underlying9
theorem und_u8p : Tryz.prog.underlying 178 = some (.pointer 5) := Tryz.underlying178
abbrev bldO (gB : Nat) (a b : CV) : Nat × AObj := (gB, .cells 138 2 (ofL [a, b]))
theorem POk.lenNil {h : Heap} {ρ : Operand → AV} {t el size bytes : Nat} {x : Operand} (ht : tElem Tryz.prog t = some (el, size, bytes)) (hx : ρ x = .c (.raw (.slice none 0 0))) : POk Tryz.prog h ρ (.call { callee := .builtin .len, args := #[x], argTypes := #[t] }) (.c (.int .i64 0)) := fun S w e _ ho _ => by
  have h2 : e x = .slice none 0 0 := by have := ho x (by simp [Op.operands, Call.operands]); rw [hx] at this; exact this
  obtain ⟨hu, _⟩ := tElem_spec ht
  exact ⟨.int .i64 0, fun o hop => by simp [execOp, hop, resolve, invoke, Go.builtin, Builtin.len_, h2, run_underlying hu, goInt], rfl⟩
section
variable {E : Env} {K : List It} {σ : Sl}
theorem aw_convG {x : Nat × AObj} {og : Option Nat} {ty : TypeId} {n n' : Nat} {f f' : Nat → CV} (hn : n = n') (hf : ∀ j, j < n → f j = f' j) (k : aw E K σ (x :: gh og ty n' f')) : aw E K σ (x :: gh og ty n f) := by
  subst hn
  cases og with
  | none => exact k
  | some g => exact aw_perm (List.Perm.swap _ _ _) (aw_conv1 hf (aw_perm (List.Perm.swap _ _ _) k))
end
set_option maxRecDepth 100000 in
set_option maxHeartbeats 1600000 in
theorem copyCheck_new (gB : Nat) (b : CV) : Fh Tryz.prog 144 [bldO gB (.raw (.pointer none)) b] [.c (.optr gB 0)] (fun x h => x = .tup [] ∧ h = [bldO gB (.optr gB 0) b]) := by
  obtain ⟨j, hj, hjs⟩ := Option.map_eq_some_iff.1 (show (Tryz.prog.info? 138).map (·.size) = some 2 from by kernel_rfl)
  refine fh_of_body Tryz.func144 rfl rfl (by simp [Tryz.ntmps144]) fun C hC => ?_
  simp only [initS, Nat.reduceAdd]
  refine xG ?_
  refine aw_pok (POk.eqPtr (b := true) und_bp eE eE (.inl ⟨rfl, rfl⟩)) rfl rfl ?_
  refine xS ?_
  refine xG ?_
  refine xP ?_
  refine xG ?_
  refine aw_pok (POk.toUnsafe und_bp und_up hj (by rw [hjs]; decide) eE eE (by omega)) rfl rfl ?_
  refine xS ?_
  refine xG ?_
  refine aw_pok (POk.noEscape Tryz.func157 rfl rfl rfl rfl rfl eE) rfl rfl ?_
  refine xS ?_
  refine xG ?_
  refine aw_pok (POk.fromUnsafe und_up und_bp hj (n := 2) (by kernel_rfl) (by omega) eE eE (by omega)) rfl rfl ?_
  refine xS ?_
  refine xG ?_
  refine xW ?_
  refine xS ?_
  refine aw_conv1 (f' := ofL [.optr gB 0, b]) (fun j hj => by match j, hj with | 0, _ => rfl | 1, _ => rfl) ?_
  refine xG ?_
  refine xV ?_
  exact ⟨rfl, rfl⟩
set_option maxRecDepth 100000 in
set_option maxHeartbeats 1600000 in
theorem copyCheck_old (gB : Nat) (b : CV) : Fh Tryz.prog 144 [bldO gB (.optr gB 0) b] [.c (.optr gB 0)] (fun x h => x = .tup [] ∧ h = [bldO gB (.optr gB 0) b]) := by
  obtain ⟨j, hj, hjs⟩ := Option.map_eq_some_iff.1 (show (Tryz.prog.info? 138).map (·.size) = some 2 from by kernel_rfl)
  refine fh_of_body Tryz.func144 rfl rfl (by simp [Tryz.ntmps144]) fun C hC => ?_
  simp only [initS, Nat.reduceAdd]
  refine xG ?_
  refine aw_pok (POk.eqPtr (b := false) und_bp eE eE (.inr ⟨gB, rfl, rfl⟩)) rfl rfl ?_
  refine xS ?_
  refine xG ?_
  refine xN ?_
  refine xG ?_
  refine aw_pok (POk.neqPtr und_bp hj eE eE) rfl rfl ?_
  refine xS ?_
  refine xG ?_
  refine xN ?_
  refine xG ?_
  refine xV ?_
  exact ⟨rfl, rfl⟩
set_option maxRecDepth 100000 in
set_option maxHeartbeats 1600000 in
theorem wstr_fh (gB : Nat) (a : CV) (ha : a = .raw (.pointer none) ∨ a = .optr gB 0) (og : Option Nat) (B l : List UInt8) (hog : og = none → B.length = 0) (hlen : B.length + l.length ≤ 100000000000) :
    Fh Tryz.prog 107 (bldO gB a (gsR og B.length) :: gh og 5 B.length (byF B)) [.c (.optr gB 0), .c (.str (sB l))]
      (fun x h => ∃ og', (og' = none → (B ++ l).length = 0) ∧ x = .tup [.c (.int .i64 l.length), .c .nilI] ∧ h = bldO gB (.optr gB 0) (gsR og' (B ++ l).length) :: gh og' 5 (B ++ l).length (byF (B ++ l))) := by
  have hcc : Fh Tryz.prog 144 [bldO gB a (gsR og B.length)] [.c (.optr gB 0)] (fun x h => x = .tup [] ∧ h = [bldO gB (.optr gB 0) (gsR og B.length)]) := by
    rcases ha with rfl | rfl
    · exact copyCheck_new ..
    · exact copyCheck_old ..
  refine fh_of_body Tryz.func107 rfl rfl (by simp [Tryz.ntmps107]) fun C hC => ?_
  simp only [initS, Nat.reduceAdd]
  refine xG ?_
  refine aw_callh (hc := [bldO gB a (gsR og B.length)]) (hr := gh og 5 B.length (byF B)) hcc rfl rfl rfl (.refl _) eL ?_
  rintro _ _ ⟨rfl, rfl⟩ _
  refine xS ?_
  refine xG ?_
  refine aw_appendStr (pre := [bldO gB (.optr gB 0) (gsR og B.length)]) (f := byF B) (bs := sB l) rfl rfl rfl eE und_str eE (by rfl) eE eE hog rfl (by rw [sB_size]; unfold maxLen; omega) (by rw [sB_size]; omega) fun og' h1 h2 => ?_
  rw [sB_size, sB_data, List.singleton_append]
  refine aw_convG (n' := (B ++ l).length) (f' := byF (B ++ l)) (by simp) (fun j _ => byF_app B l j) ?_
  rw [show B.length + l.length = (B ++ l).length from by simp]
  rw [sB_size, show B.length + l.length = (B ++ l).length from by simp] at h1
  refine xS ?_
  refine xG ?_
  have hsol : (gsR og' (B ++ l).length).solid = true := by cases og' <;> rfl
  refine aw_store rfl rfl rfl rfl eE eE eE eE (fun _ e => by cases e) (by simp only [AV.cells, List.all_cons, List.all_nil, hsol]; rfl) (by rfl) (by omega) rfl ?_
  refine xS ?_
  refine aw_conv1 (f' := ofL [.optr gB 0, gsR og' (B ++ l).length]) (fun j hj => by match j, hj with | 0, _ => rfl | 1, _ => rfl) ?_
  refine xG ?_
  refine aw_pok (POk.lenStr und_str eE) rfl rfl ?_
  refine xS ?_
  refine xG ?_
  refine xU ?_
  exact ⟨og', h1, rfl, rfl⟩
set_option maxRecDepth 100000 in
set_option maxHeartbeats 1600000 in
theorem bstr_fh (gB : Nat) (a : CV) (og : Option Nat) (B : List UInt8) (h0 : og = none → B = []) (h1 : B = [] → og = none) (hlen : B.length ≤ 100000000000) :
    Fh Tryz.prog 109 (bldO gB a (gsR og B.length) :: gh og 5 B.length (byF B)) [.c (.optr gB 0)] (fun x h => x = .c (.str (sB B)) ∧ h = []) := by
  cases og with
  | none =>
    have hB := h0 rfl
    subst hB
    refine fh_of_body Tryz.func109 rfl rfl (by simp [Tryz.ntmps109]) fun C hC => ?_
    simp only [initS, Nat.reduceAdd]
    refine xG ?_
    refine aw_dr 11 ty_mixed (by kernel_rfl) ?_
    refine xG ?_
    refine drk_pok (POk.sliceDataN eE) rfl rfl ?_
    refine xS ?_
    refine xG ?_
    refine drk_pok (POk.lenNil (by exact tya_e_43) eE) rfl rfl ?_
    refine xS ?_
    refine xG ?_
    refine drk_pok (POk.unsafeStr0 eE eE) rfl rfl ?_
    refine xS ?_
    refine xG ?_
    refine aw_weak (Sl.le_refl _) (List.nil_sublist _) ?_
    refine xU ?_
    exact ⟨rfl, rfl⟩
  | some g =>
    have hB : B ≠ [] := fun e => by have := h1 e; cases this
    have hB' : 0 < B.length := List.length_pos_iff.2 hB
    refine (?_ : Fh _ _ (bldO gB a (.osl g 1 0 B.length) :: [(g, .cells 5 B.length (byF B))]) _ _)
    refine fh_of_body Tryz.func109 rfl rfl (by simp [Tryz.ntmps109]) fun C hC => ?_
    simp only [initS, Nat.reduceAdd]
    refine aw_nd fun hnd => ?_
    have hne : gB ≠ g := fun e => by subst e; simp [Heap.keys] at hnd
    have hne' : (gB = g) = False := eq_false hne
    refine yG hne' ?_
    refine aw_cw [bldO gB a (.osl g 1 0 B.length)] [(0,0),(1,0),(2,0),(3,0),(4,0),(5,0),(6,0),(7,0),(8,0),(9,0),(10,2),(11,0)] ty_mixed (by kernel_rfl) (has0_cons (List.mem_cons_self ..) has0_nil) ?_
    refine yG hne' ?_
    refine cw_pok rfl (fun _ _ => POk.sliceData (zE hne') hB') rfl rfl ?_
    refine yS hne' ?_
    refine yG hne' ?_
    refine cw_unsafeStr (FP' := []) (bs := B) (h' := [bldO gB a (.osl g 1 0 B.length)]) rfl rfl rfl rfl und_u8p (by kernel_rfl) (zE hne') (zE hne') (zE hne') (Nat.le_refl _) hB (by omega) (fun _ _ => rfl) (zE hne') has0_nil ?_
    refine yS hne' ?_
    refine yG hne' ?_
    refine aw_weak (Sl.le_refl _) (List.nil_sublist _) ?_
    refine yU hne' ?_
    exact ⟨rfl, rfl⟩
end Go.Proofs.YtcoflhkcpnoaaaaGreatDoor
namespace Go.PN
open Go.AI
def nineL (n : Nat) : List UInt8 := (List.range 9).map fun q => UInt8.ofNat (48 + n / 10 ^ (8 - q) % 10)
theorem nineL_len (n : Nat) : (nineL n).length = 9 := by simp [nineL]
def nineF (n j : Nat) (q : Nat) : CV := if 9 ≤ q + j then .int .u8 ((48 + n / 10 ^ (8 - q) % 10 : Nat) : Int) else .int .u8 0
theorem nineF_end (n : Nat) : ∀ q, q < 9 → nineF n 9 q = byF (nineL n) q := fun q hq => by
  unfold nineF byF nineL
  rw [if_pos (by omega), List.getD_eq_getElem?_getD, List.getElem?_map, List.getElem?_range hq]
  show _ = CV.int .u8 ((UInt8.ofNat (48 + n / 10 ^ (8 - q) % 10)).toNat : Int)
  have h : 48 + n / 10 ^ (8 - q) % 10 < 2 ^ 8 := by have := Nat.mod_lt (n / 10 ^ (8 - q)) (show 0 < 10 by omega); omega
  rw [UInt8.toNat_ofNat', Nat.mod_eq_of_lt h]
theorem nineF_step (n j : Nat) (hj : j < 9) : ∀ q, q < 9 → updF (nineF n j) (8 - j) [.int .u8 ((48 + n / 10 ^ j % 10 : Nat) : Int)] q = nineF n (j + 1) q := fun q hq => by
  show (if q = 8 - j then CV.int .u8 ((48 + n / 10 ^ j % 10 : Nat) : Int) else nineF n j q) = _
  unfold nineF
  by_cases e : q = 8 - j
  · subst e
    rw [if_pos rfl, if_pos (by omega), show 8 - (8 - j) = j from by omega]
  · rw [if_neg e]
    by_cases h : 9 ≤ q + j
    · rw [if_pos h, if_pos (by omega)]
    · rw [if_neg h, if_neg (by omega)]
end Go.PN
namespace Go.Proofs.YtcoflhkcpnoaaaaGreatDoor
open Go.AI Go.PN
attribute [local irreducible] aw Fa Fh DrK
set_option maxRecDepth 100000 in
set_option maxHeartbeats 1600000 in
theorem trimByte_fa (l : List UInt8) (c : UInt8) (hl : l.length ≤ 100000000000) : Fa Tryz.prog 145 [.c (.str (sB l)), .c (.int .u8 (c.toNat : Int))] (.c (.str (sB (l.dropWhile (· == c))))) := by
  refine fa_of_body Tryz.func145 rfl rfl (by simp [Tryz.ntmps145]) fun C hC => ?_
  simp only [initS, Nat.reduceAdd]
  refine xG ?_
  refine aw_lp (fun m : List UInt8 => [(0, .c (.str (sB m))), (1, .c (.int .u8 (c.toNat : Int)))]) (fun _ => []) (fun m => m.length ≤ l.length ∧ l.dropWhile (· == c) = m.dropWhile (· == c)) (fun m => m.length) l eB zZ ⟨Nat.le_refl _, rfl⟩ ?_
  rintro m ⟨hm, he⟩
  refine xG ?_
  refine aw_pok (POk.lenStr und_str eE) rfl rfl ?_
  rw [sB_size]
  refine xS ?_
  refine xG ?_
  cases hml : m with
  | nil =>
    subst hml
    refine xG ?_
    refine aw_split 8 eE (fun h0 => ?_) (fun h0 => ?_) <;> refine xS ?_
    · simp at h0
    · refine xG ?_
      refine xN ?_
      refine xG ?_
      rw [he]
      refine xT hC ?_
      exact .one (.c (.str _))
  | cons a r =>
    subst hml
    refine aw_split 8 eE (fun h0 => ?_) (fun h0 => ?_) <;> refine xS ?_
    · refine xG ?_
      refine aw_pok (POk.indexSB (i := 0) und_str eE eE (by simp)) rfl rfl ?_
      rw [show (List.getD (a :: r) 0 0) = a from rfl]
      refine xS ?_
      refine xG ?_
      refine xF (fun hc=>?_) fun hc=>?_
      · refine xG ?_
        refine aw_pok (POk.sliceStr (i := 1) und_str eE eE (by simp)) rfl rfl ?_
        rw [show (List.drop 1 (a :: r)) = r from rfl]
        refine xS ?_
        refine xG ?_
        have hac : (a == c) = true := by
          have := eq_of_beq hc
          have : a.toNat = c.toNat := by omega
          exact beq_iff_eq.2 (UInt8.toNat_inj.1 this)
        exact aw_stop ⟨r, by simp, eB, zZ, by simp at hm; omega, by rw [he, List.dropWhile_cons, if_pos hac]⟩
      · refine xG ?_
        have hac : (a == c) = false := by
          refine Bool.eq_false_iff.2 fun e => ?_
          rw [eq_of_beq e] at hc
          simp at hc
        rw [he, List.dropWhile_cons, if_neg (by rw [hac]; simp)]
        refine xT hC ?_
        exact .one (.c (.str _))
    · simp at h0
set_option maxRecDepth 100000 in
set_option maxHeartbeats 1600000 in
theorem trimLeft_fa (l : List UInt8) (hl : l.length ≤ 100000000000) : Fa Tryz.prog 108 [.c (.str (sB l)), .c (.str (sB [48]))] (.c (.str (sB (l.dropWhile (· == 48))))) := by
  have h48 : strEq (sB [48]) ⟨#[]⟩ = false := by rw [show (⟨#[]⟩ : ByteArray) = sB [] from rfl, sb_eq]; rfl
  have hb : Fa Tryz.prog 145 [.c (.str (sB l)), .c (.int .u8 48)] (.c (.str (sB (l.dropWhile (· == 48))))) := trimByte_fa l 48 hl
  have h11 : ((1 : Int) == 1) = true := rfl
  have h128 : decide ((48 : Int) < 128) = true := rfl
  refine fa_of_body Tryz.func108 rfl rfl (by simp [Tryz.ntmps108]) fun C hC => ?_
  simp only [initS, Nat.reduceAdd]
  refine yG (oj h48 (oj h11 h128)) ?_
  refine aw_split 9 (zE (oj h48 (oj h11 h128))) (fun h0 => ?_) (fun h0 => ?_) <;> refine yS (oj h48 (oj h11 h128)) ?_
  · have hl0 : l = [] := by
      rw [show (⟨#[]⟩ : ByteArray) = sB [] from rfl, sb_eq] at h0
      exact eq_of_beq h0
    subst hl0
    refine yG (oj h48 (oj h11 h128)) ?_
    refine yP (oj h48 (oj h11 h128)) ?_
    refine yG (oj h48 (oj h11 h128)) ?_
    refine yT hC (oj h48 (oj h11 h128)) ?_
    exact .one (.c (.str _))
  refine yG (oj h48 (oj h11 h128)) ?_
  refine yN (oj h48 (oj h11 h128)) ?_
  refine yG (oj h48 (oj h11 h128)) ?_
  refine aw_pok (POk.lenStr und_str (zE (oj h48 (oj h11 h128)))) rfl rfl ?_
  rw [show (((sB [48]).size : Nat) : Int) = 1 from rfl]
  refine yS (oj h48 (oj h11 h128)) ?_
  refine yG (oj h48 (oj h11 h128)) ?_
  refine aw_pok (POk.indexSB (l := [48]) (i := 0) und_str (zE (oj h48 (oj h11 h128))) (zE (oj h48 (oj h11 h128))) (by simp)) rfl rfl ?_
  rw [show (((List.getD [48] 0 0 : UInt8).toNat : Nat) : Int) = 48 from rfl]
  refine yS (oj h48 (oj h11 h128)) ?_
  refine yG (oj h48 (oj h11 h128)) ?_
  refine yP (oj h48 (oj h11 h128)) ?_
  refine yG (oj h48 (oj h11 h128)) ?_
  refine aw_pok (POk.indexSB (l := [48]) (i := 0) und_str (zE (oj h48 (oj h11 h128))) (zE (oj h48 (oj h11 h128))) (by simp)) rfl rfl ?_
  rw [show (((List.getD [48] 0 0 : UInt8).toNat : Nat) : Int) = 48 from rfl]
  refine yS (oj h48 (oj h11 h128)) ?_
  refine yG (oj h48 (oj h11 h128)) ?_
  refine yC (oj h48 (oj h11 h128)) (hb) ?_
  refine yG (oj h48 (oj h11 h128)) ?_
  refine yT hC (oj h48 (oj h11 h128)) ?_
  exact .one (.c (.str _))
theorem und_a9 : Tryz.prog.underlying 170 = some (.array 9 5) := Tryz.underlying170
theorem und_u8s : Tryz.prog.underlying 43 = some (.slice 5) := Tryz.underlying43
theorem und_u8 : Tryz.prog.underlying 5 = some (.int .u8) := Tryz.underlying5
theorem bytesStr' {P : Program} {h : Heap} {ρ : Operand → AV} {s d el ty : TypeId} {x : Operand} {g m n : Nat} {f : Nat → CV} {l : List UInt8} (hs : P.underlying s = some (.slice el)) (he : P.underlying el = some (.int .u8)) (hd : P.underlying d = some .string) (hn : n = l.length) (hx : ρ x = .c (.osl g 1 0 n))
    (hg : h.get g = some (.cells ty m f)) (hm : n ≤ m) (hf : ∀ j, j < n → f j = byF l j) : POk P h ρ (.convert s d x) (.c (.str ⟨l.toArray⟩)) := by
  subst hn
  exact POk.bytesStr hs he hd hx hg hm hf
theorem wrap8 {a : Nat} (h : a < 256) : wrapZ .u8 (a : Int) = (a : Int) := by rw [wrapZ_eq]; exact wrap_inRange (by simp only [inRange]; omega)
theorem rem10 (a : Nat) : remZ (a : Int) 10 = ((a % 10 : Nat) : Int) := rem_nat a 10
theorem quo10 (a : Nat) (ha : a < 4294967296) : quoZ .u32 (a : Int) 10 = ((a / 10 : Nat) : Int) := quo_u32 a 10 ha
set_option maxRecDepth 100000 in
set_option maxHeartbeats 1600000 in
theorem nine_fa (n : Nat) (hn : n < 4294967296) : Fa Tryz.prog 106 [.c (.int .u32 (n : Int))] (.c (.str (sB (nineL n)))) := by
  refine fa_of_body Tryz.func106 rfl rfl (by simp [Tryz.ntmps106]) fun C hC => ?_
  simp only [initS, Nat.reduceAdd]
  refine xG ?_
  refine xA fun g3 hn_g3=>?_
  refine aw_conv1 (f' := nineF n 0) (fun q hq => by match q, hq with | 0, _ => rfl | 1, _ => rfl | 2, _ => rfl | 3, _ => rfl | 4, _ => rfl | 5, _ => rfl | 6, _ => rfl | 7, _ => rfl | 8, _ => rfl) ?_
  refine yG hn_g3 ?_
  refine aw_lp (fun j : Nat => [(0, .c (.int .u32 ((n / 10 ^ j : Nat) : Int))), (3, .c (.optr g3 0)), (4, .c (.int .i64 (8 - (j : Int))))]) (fun j => [(g3, .cells 170 9 (nineF n j))]) (fun j => j ≤ 9) (fun j => 9 - j) 0 (by refine yS hn_g3 ?_; simp) zZ (Nat.zero_le _) ?_
  rintro j hj
  refine yG hn_g3 ?_
  refine yF hn_g3 (fun h1=>?_) fun h1=>?_
  · have h1' : j < 9 := by have := of_decide_eq_true h1; omega
    have hlt : n / 10 ^ j < 4294967296 := Nat.lt_of_le_of_lt (Nat.div_le_self _ _) hn
    have hst := nineF_step n j h1'
    have hq10 : n / 10 ^ j / 10 = n / 10 ^ (j + 1) := by rw [Nat.div_div_eq_div_mul, ← Nat.pow_succ]
    generalize n / 10 ^ j = a at *
    refine yG hn_g3 ?_
    rw [rem10]
    refine yG hn_g3 ?_
    rw [show (48 : Int) + ((a % 10 : Nat) : Int) = ((48 + a % 10 : Nat) : Int) from by omega]
    refine yG hn_g3 ?_
    rw [wrap8 (show 48 + a % 10 < 256 by omega)]
    refine aw_pok (POk.indexArr und_a9 (by kernel_rfl) (zE hn_g3) (zE hn_g3) (by omega) (by omega)) rfl rfl ?_
    rw [show (8 - (j : Int)).toNat = 8 - j from by omega]
    refine yS hn_g3 ?_
    refine yG hn_g3 ?_
    refine yW hn_g3 ?_
    refine yS hn_g3 ?_
    refine aw_conv1 (f' := nineF n (j + 1)) hst ?_
    refine yG hn_g3 ?_
    rw [quo10 a hlt, hq10]
    refine yG hn_g3 ?_
    rw [show (8 : Int) - (j : Int) - 1 = 8 - ((j + 1 : Nat) : Int) from by omega]
    exact aw_stop ⟨j + 1, by omega, (zB hn_g3), zZ, by omega⟩
  · have h1' : j = 9 := by have := of_decide_eq_false h1; omega
    subst h1'
    refine yG hn_g3 ?_
    refine aw_pok (POk.sliceArr und_a9 (by kernel_rfl) (by kernel_rfl) (zE hn_g3) (zE hn_g3) (Nat.le_refl _) (by unfold maxLen; omega)) rfl rfl ?_
    refine yS hn_g3 ?_
    refine yG hn_g3 ?_
    refine aw_pok (bytesStr' (l := nineL n) und_u8s und_u8 und_str (nineL_len n).symm (zE hn_g3) (zE hn_g3) (by omega) (fun q hq => nineF_end n q hq)) rfl rfl ?_
    refine yS hn_g3 ?_
    refine yG hn_g3 ?_
    refine yT hC hn_g3 ?_
    exact .one (.c (.str _))
end Go.Proofs.YtcoflhkcpnoaaaaGreatDoor
namespace Go.AI
section
variable {E : Env} {K : List It} {σ σ' : Sl} {h : Heap} {all rest : List Oper} {o : Oper}
def fnB (f : FuncId) (g : Nat) : CV := .raw (.func (.func f) #[.pointer (some ⟨g, 0, none⟩)] #[])
theorem aw_makeFuncB {f : FuncId} {x : Operand} {g : Nat} (hop : o.op = .makeFunc (.func f) #[x] #[]) (hw : wantA all σ o = some true) (hd : dstOk E.N o.dst = true) (hx : ev σ x = .c (.optr g 0))
    (k : aw E (.ops all rest :: K) (σ.setO o.dst (.c (fnB f g))) h) : aw E (.ops all (o :: rest) :: K) σ h := by
  refine aw_step hw (fun a w s => ?_) k
  have h1 := ev_rep s x
  rw [hx] at h1
  have h1' : a.eval x = .pointer (some ⟨g, 0, none⟩) := h1
  refine ⟨.func (.func f) #[.pointer (some ⟨g, 0, none⟩)] #[], w, .inl ?_, s.put hd rfl⟩
  have h2 : Array.map a.eval #[x] = #[.pointer (some ⟨g, 0, none⟩)] := by simp [h1']
  have h3 : Array.map a.eval #[] = #[] := by simp
  simp only [execOp, hop, Instr.makeFunc, h2, h3]
  rfl
theorem aw_callhB {f : FuncId} {x : Operand} {g : Nat} {xs : List Operand} {ts : Array TypeId} {hc hr : Heap} {args : List AV} {Q : AV → Heap → Prop} (hf : Fh E.P f hc (.c (.optr g 0) :: args) Q) (hop : o.op = .call { callee := .value x, args := xs.toArray, argTypes := ts }) (hw : wantA all σ o = some true) (hd : dstOk E.N o.dst = true) (hx : ev σ x = .c (fnB f g))
    (hp : h.Perm (hc ++ hr)) (le : LeA [] (xs.map (ev σ)) args) (k : ∀ r h', Q r h' → (∀ g ∈ h'.keys, g ∉ hr.keys) → aw E (.ops all rest :: K) (σ.setO o.dst r) (h' ++ hr)) : aw E (.ops all (o :: rest) :: K) σ h := fun a w s => by
  show wpList _ _ _ _ _ _
  unfold wpList
  rw [if_pos (s.wanted hw)]
  refine .inl ?_
  unfold Oper.wp
  have hv : a.eval x = .func (.func f) #[.pointer (some ⟨g, 0, none⟩)] #[] := by
    have := ev_rep s x
    rw [hx] at this
    exact this
  have hrun : (execOp a.eval o).run E.P w = .ok (.enter f (.pointer (some ⟨g, 0, none⟩) :: xs.map a.eval).toArray) w := by
    simp only [execOp, hop, resolve, hv, Deferred.ofValue, invoke, Sem.run_bind]
    have := hf.1.run (#[.pointer (some ⟨g, 0, none⟩)] ++ (Array.map a.eval xs.toArray) ++ #[]) w
    simp only [Sem.run_pure, Result.andThen_ok]
    rw [show ((Value.pointer (some ⟨g, 0, none⟩) :: xs.map a.eval).toArray) = (#[.pointer (some ⟨g, 0, none⟩)] ++ (Array.map a.eval xs.toArray) ++ #[]) from by simp]
    exact this
  rw [hrun]
  show Calls _ _ _ _ _
  refine (hf.use s hp (show RepT (Stab E.C h w) w (.c (.optr g 0) :: args) (Value.pointer (some ⟨g, 0, none⟩) :: xs.map a.eval) from ⟨rfl, LeA.rep0 s le⟩)).mono ?_
  rintro e w' ⟨v, r, h', rfl, hq, hfr, s', hrep⟩
  exact k r h' hq hfr _ _ (s'.put hd hrep)
end
end Go.AI
namespace Go.PN
open Go.AI
def setB (s e : Nat) (b : Bool) : Nat := if s.testBit e = b then s else s ^^^ 2 ^ e
def CmR (ns0 : List DN) (e : Nat) (y : Int) (ns : List DN) (r x : Int) : Prop := RefOk ns x ∧ ∀ s, evalD ns s x = evalD ns0 (setB s e (evalD ns0 s y)) r
theorem Later.loose {o : List Int} {a b : List DN} {n : Nat} (h : Later o a b n) : Later o a b b.length := ⟨h.tab, h.pre, by omega⟩
structure CmOk (o : List Int) (ns0 : List DN) (e : Nat) (y : Int) (ns : List DN) (mm : Mem3) (dl : List (Int × Int)) : Prop where
  lat : Later o ns0 ns ns.length
  mem : MemOk o ns mm
  keys : (dl.map (·.1)).Nodup
  bd : ∀ x ∈ dl, 2 ≤ x.1 ∧ x.1 < ns0.length + 2
  sem : ∀ x ∈ dl, CmR ns0 e y ns x.1 x.2
theorem CmR.later {o : List Int} {ns0 ns ns' : List DN} {e : Nat} {y r x : Int} {n : Nat} (h : CmR ns0 e y ns r x) (ht : TabOk o ns) (hl : Later o ns ns' n) : CmR ns0 e y ns' r x :=
  ⟨hl.ref h.1, fun s => by rw [hl.eval ht h.1, h.2 s]⟩
theorem CmOk.later {o : List Int} {ns0 : List DN} {e : Nat} {y : Int} {ns ns' : List DN} {mm mm' : Mem3} {dl : List (Int × Int)} (h : CmOk o ns0 e y ns mm dl) {n : Nat} (hl : Later o ns ns' n) (hm : MemOk o ns' mm') : CmOk o ns0 e y ns' mm' dl :=
  ⟨(h.lat.trans hl (Nat.le_refl _)).loose, hm, h.keys, h.bd, fun x hx => (h.sem x hx).later h.lat.tab hl⟩
theorem CmOk.push {o : List Int} {ns0 : List DN} {e : Nat} {y : Int} {ns : List DN} {mm : Mem3} {dl : List (Int × Int)} (h : CmOk o ns0 e y ns mm dl) {r x : Int} (h2 : 2 ≤ r) (hr : r < ns0.length + 2) (hnew : ∀ x ∈ dl, x.1 ≠ r) (hx : CmR ns0 e y ns r x) :
    CmOk o ns0 e y ns mm (dl ++ [(r, x)]) := by
  refine ⟨h.lat, h.mem, ?_, fun z hz => ?_, fun z hz => ?_⟩
  · rw [List.map_append, List.map_singleton]
    refine List.nodup_append.2 ⟨h.keys, by simp, fun a ha b hb => ?_⟩
    rw [List.mem_singleton] at hb
    subst hb
    obtain ⟨z, hz, rfl⟩ := List.mem_map.1 ha
    exact hnew z hz
  · rcases List.mem_append.1 hz with hz | hz
    · exact h.bd z hz
    · rw [List.mem_singleton] at hz; subst hz; exact ⟨h2, hr⟩
  · rcases List.mem_append.1 hz with hz | hz
    · exact h.sem z hz
    · rw [List.mem_singleton] at hz; subst hz; exact hx
theorem CmOk.len {o : List Int} {ns0 : List DN} {e : Nat} {y : Int} {ns : List DN} {mm : Mem3} {dl : List (Int × Int)} (h : CmOk o ns0 e y ns mm dl) : dl.length ≤ ns0.length := by
  have := nodup_range h.keys (fun x hx => by obtain ⟨z, hz, rfl⟩ := List.mem_map.1 hx; exact h.bd z hz)
  simpa using this
theorem CmOk.zero {o : List Int} {ns0 : List DN} {e : Nat} {y : Int} {mm : Mem3} (ht : TabOk o ns0) (hm : MemOk o ns0 mm) : CmOk o ns0 e y ns0 mm [] :=
  ⟨Later.refl ht _, hm, List.nodup_nil, fun x hx => absurd hx List.not_mem_nil, fun x hx => absurd hx List.not_mem_nil⟩
def dnGet (r : Int) : List (Int × Int) → Option Int
  | [] => none
  | e :: dl => if r = e.1 then some e.2 else dnGet r dl
def dnL (dl : List (Int × Int)) : List (Int × Value) := dl.map fun e => (e.1, .int .i64 e.2)
theorem dn_get (r : Int) : ∀ dl, kvGet r (dnL dl) = (dnGet r dl).map (Value.int .i64)
  | [] => rfl
  | e :: dl => by
    show (if r = e.1 then some (Value.int .i64 e.2) else kvGet r (dnL dl)) = _
    rw [dnGet, dn_get r dl]
    split <;> rfl
theorem dnL_push (dl : List (Int × Int)) (r x : Int) : dnL dl ++ [(r, .int .i64 x)] = dnL (dl ++ [(r, x)]) := by simp [dnL]
def cntTo (f : Nat → Bool) : Nat → Nat
  | 0 => 0
  | k + 1 => cntTo f k + if f k then 1 else 0
def cntR (o : List Int) (ns : List DN) (r : Int) : Nat := cntTo (fun s => evalD ns s r) (2 ^ o.length)
end Go.PN
namespace Go.PN
open Go.AI Go.Proofs.YtcoflhkcpnoaaaaGreatDoor
def exR (rs : List Int) (r : Int) : Option Int := if r < 2 then some r else if r ∈ rs then some ((rs.idxOf r : Int) + 2) else none
theorem exR_app {rs zs : List Int} {r x : Int} (h : exR rs r = some x) : exR (rs ++ zs) r = some x := by
  unfold exR at h ⊢
  split at h
  · rename_i h2; rw [if_pos h2]; exact h
  · rename_i h2
    rw [if_neg h2]
    split at h
    · rename_i hm
      rw [if_pos (List.mem_append_left _ hm), List.idxOf_append, if_pos hm]
      exact h
    · cases h
theorem exR_take {rs : List Int} {r x : Int} {j : Nat} (h : exR (rs.take j) r = some x) : exR rs r = some x := by
  have := exR_app (zs := rs.drop j) h
  rwa [List.take_append_drop] at this
theorem exR_lt {rs : List Int} {r x : Int} (h0 : 0 ≤ r) (h : exR rs r = some x) : 0 ≤ x ∧ x < rs.length + 2 := by
  unfold exR at h
  split at h
  · injection h with h; omega
  · split at h
    · rename_i hm
      injection h with h
      have := List.idxOf_lt_length_of_mem hm
      omega
    · cases h
theorem exR_inj {rs : List Int} {a b x : Int} (ha : exR rs a = some x) (hb : exR rs b = some x) : a = b := by
  unfold exR at ha hb
  split at ha
  · injection ha with ha
    split at hb
    · injection hb with hb; omega
    · split at hb
      · injection hb with hb; omega
      · cases hb
  · split at ha
    · rename_i h1 hm
      injection ha with ha
      split at hb
      · injection hb with hb; omega
      · split at hb
        · rename_i h2 hm2
          injection hb with hb
          have e : rs.idxOf a = rs.idxOf b := by omega
          have l1 := List.idxOf_lt_length_of_mem hm
          have l2 := List.idxOf_lt_length_of_mem hm2
          have e1 := List.getElem_idxOf l1
          have e2 := List.getElem_idxOf l2
          rw [← e1, ← e2]
          simp only [e]
        · cases hb
    · cases ha
structure ExOk (ns : List DN) (rs : List Int) (os : List DN) : Prop where
  len : os.length = rs.length
  nd : rs.Nodup
  bd : ∀ r ∈ rs, 2 ≤ r ∧ r < ns.length + 2
  node : ∀ j, j < rs.length → ∃ lo hi, exR (rs.take j) (ns.getD (rs.getD j 0 - 2).toNat dn0).lo = some lo ∧ exR (rs.take j) (ns.getD (rs.getD j 0 - 2).toNat dn0).hi = some hi ∧ os.getD j dn0 = ⟨(ns.getD (rs.getD j 0 - 2).toNat dn0).v, lo, hi⟩
theorem ExOk.nil (ns : List DN) : ExOk ns [] [] := ⟨rfl, List.nodup_nil, fun x hx => absurd hx List.not_mem_nil, fun j hj => absurd hj (Nat.not_lt_zero _)⟩
theorem ExOk.ref {ns : List DN} {rs : List Int} {os : List DN} (h : ExOk ns rs os) {j : Nat} (hj : j < rs.length) : 2 ≤ rs.getD j 0 ∧ rs.getD j 0 < ns.length + 2 := by
  rw [getDZ hj]; exact h.bd _ (List.getElem_mem hj)
theorem ExOk.nsok {o : List Int} {ns : List DN} {rs : List Int} {os : List DN} (ht : TabOk o ns) (h : ExOk ns rs os) : NsOk o.length os := fun j hj => by
  have hj' : j < rs.length := by rw [← h.len]; exact hj
  obtain ⟨lo, hi, e1, e2, e3⟩ := h.node j hj'
  have hb := h.ref hj'
  have hi' : (rs.getD j 0 - 2).toNat < ns.length := by omega
  obtain ⟨v0, v1, _, _, _, _⟩ := (ht _ hi').nk
  obtain ⟨r1, r2⟩ := kids_ref ht hi'
  have b1 := exR_lt r1.1 e1
  have b2 := exR_lt r2.1 e2
  rw [List.length_take] at b1 b2
  rw [e3]
  exact ⟨v0, v1, b1.1, by show lo < j + 2; omega, b2.1, by show hi < j + 2; omega⟩
theorem ExOk.find {ns : List DN} {rs : List Int} {os : List DN} (h : ExOk ns rs os) {r x : Int} (h2 : 2 ≤ r) (e : exR rs r = some x) : ∃ j, j < rs.length ∧ rs.getD j 0 = r ∧ x = 2 + (j : Int) := by
  unfold exR at e
  rw [if_neg (by omega)] at e
  split at e
  · rename_i hm
    injection e with e
    have l := List.idxOf_lt_length_of_mem hm
    refine ⟨_, l, ?_, by omega⟩
    rw [getDZ l]
    exact List.getElem_idxOf l
  · cases e
theorem ExOk.eval {o : List Int} {ns : List DN} {rs : List Int} {os : List DN} (ht : TabOk o ns) (h : ExOk ns rs os) (s : Nat) : ∀ (n : Nat) (r x : Int), x.toNat ≤ n → 0 ≤ r → r < ns.length + 2 → exR rs r = some x → evalD os s x = evalD ns s r := by
  intro n
  induction n with
  | zero =>
    intro r x hn h0 hr e
    have := exR_lt h0 e
    by_cases h2 : r < 2
    · unfold exR at e; rw [if_pos h2] at e; injection e with e; subst e
      rw [evalD_leaf (by omega), evalD_leaf (by omega)]
    · obtain ⟨j, _, _, rfl⟩ := h.find (by omega) e
      omega
  | succ n ih =>
    intro r x hn h0 hr e
    by_cases h2 : r < 2
    · unfold exR at e; rw [if_pos h2] at e; injection e with e; subst e
      rw [evalD_leaf (by omega), evalD_leaf (by omega)]
    · obtain ⟨j, hj, er, rfl⟩ := h.find (by omega) e
      obtain ⟨lo, hi, e1, e2, e3⟩ := h.node j hj
      rw [er] at e1 e2 e3
      have hi' : (r - 2).toNat < ns.length := by omega
      obtain ⟨r1, r2⟩ := kids_ref ht hi'
      have b1 := exR_lt r1.1 e1
      have b2 := exR_lt r2.1 e2
      rw [List.length_take] at b1 b2
      rw [evalD_step (h.nsok ht) (by omega) (by rw [h.len]; omega)]
      unfold kid
      rw [show ((2 : Int) + (j : Int) - 2).toNat = j from by omega, e3]
      rw [evalD_step ht.ns (by omega) hr]
      unfold kid
      dsimp only
      split
      · exact ih _ _ (by omega) r2.1 r2.2 (exR_take e2)
      · exact ih _ _ (by omega) r1.1 r1.2 (exR_take e1)
theorem ExOk.lv {o : List Int} {ns : List DN} {rs : List Int} {os : List DN} (h : ExOk ns rs os) {r x : Int} (e : exR rs r = some x) : lvZ o os x = lvZ o ns r := by
  by_cases h2 : r < 2
  · unfold exR at e; rw [if_pos h2] at e; injection e with e; subst e
    unfold lvZ; rw [if_pos h2, if_pos h2]
  · obtain ⟨j, hj, er, rfl⟩ := h.find (by omega) e
    obtain ⟨lo, hi, e1, e2, e3⟩ := h.node j hj
    unfold lvZ
    rw [if_neg (by omega), if_neg h2, show ((2 : Int) + (j : Int) - 2).toNat = j from by omega, e3, er]
theorem behind_lv {o : List Int} {os : List DN} {root x v : Int} (h : placeZ o v < lvZ o os x) : behindB ⟨o, os, root⟩ x v = true := by
  unfold behindB
  by_cases h2 : x < 2
  · rw [decide_eq_true h2]; rfl
  · unfold lvZ at h
    rw [if_neg h2] at h
    rw [decide_eq_false h2, Bool.false_or]
    exact decide_eq_true h
theorem ExOk.ncode {o : List Int} {ns : List DN} {rs : List Int} {os : List DN} (ht : TabOk o ns) (h : ExOk ns rs os) (root : Int) {j : Nat} (hj : j < os.length) : Go.PN.ncode ⟨o, os, root⟩ j = 0 := by
  have hj' : j < rs.length := by rw [← h.len]; exact hj
  obtain ⟨lo, hi, e1, e2, e3⟩ := h.node j hj'
  have hb := h.ref hj'
  have hi' : (rs.getD j 0 - 2).toNat < ns.length := by omega
  have nd := ht _ hi'
  have nk := h.nsok ht j hj
  rw [e3] at nk
  obtain ⟨v0, v1, l0, l1, g0, g1⟩ := nk
  dsimp only at v0 v1 l0 l1 g0 g1
  unfold Go.PN.ncode
  rw [show (⟨o, os, root⟩ : DG).nodes = os from rfl, e3]
  rw [if_neg (by unfold nrange; dsimp only; omega), if_neg ?_, if_neg ?_, if_neg ?_]
  · intro hm
    obtain ⟨k, hk, hkl, ek⟩ := take_memN.1 hm
    have hk' : k < rs.length := by omega
    obtain ⟨lo', hi'', f1, f2, f3⟩ := h.node k hk'
    rw [f3] at ek
    injection ek with ev el eh
    subst el eh
    have q1 := exR_inj (exR_take f1) (exR_take e1)
    have q2 := exR_inj (exR_take f2) (exR_take e2)
    have hkb := h.ref hk'
    have same : ns.getD (rs.getD k 0 - 2).toNat dn0 = ns.getD (rs.getD j 0 - 2).toNat dn0 := by
      cases hA : ns.getD (rs.getD k 0 - 2).toNat dn0
      cases hB : ns.getD (rs.getD j 0 - 2).toNat dn0
      rw [hA, hB] at q1 q2 ev
      dsimp only at q1 q2 ev
      rw [q1, q2, ev]
    have hne : rs.getD k 0 ≠ rs.getD j 0 := fun e => by
      have p1 := place_get h.nd hk'
      have p2 := place_get h.nd hj'
      rw [e] at p1
      omega
    have hik : (rs.getD k 0 - 2).toNat < ns.length := by omega
    rcases Nat.lt_or_gt_of_ne (show (rs.getD k 0 - 2).toNat ≠ (rs.getD j 0 - 2).toNat from fun e => hne (by omega)) with hl | hl
    · refine nd.new ?_
      rw [← same]
      exact take_memN.2 ⟨_, hl, hik, rfl⟩
    · refine (ht _ hik).new ?_
      rw [same]
      exact take_memN.2 ⟨_, hl, hi', rfl⟩
  · have b1 := nd.bl
    have b2 := nd.bh
    dsimp only
    rw [behind_lv (by rw [h.lv (exR_take e1)]; exact b1), behind_lv (by rw [h.lv (exR_take e2)]; exact b2)]
    simp
  · dsimp only
    intro e
    subst e
    exact nd.ne (exR_inj (exR_take e1) (exR_take e2))
structure Ex (o : List Int) (ns : List DN) (rs : List Int) (os : List DN) (rs' : List Int) (os' : List DN) (r x : Int) : Prop where
  ok : ExOk ns rs' os'
  pre : ∃ zs, rs' = rs ++ zs
  preo : ∃ ys, os' = os ++ ys
  ref : exR rs' r = some x
  num : ∀ ys, ∀ k, x.toNat ≤ k → numF (os' ++ ys) k x (numsL rs.length) = numsL rs'.length
  below : ∀ z ∈ rs', z ∈ rs ∨ z ≤ r
  len : rs'.length ≤ rs.length + (2 ^ (o.length - lvZ o ns r).toNat - 1)
theorem mem_numsL {n : Nat} {x : Int} : x ∈ numsL n ↔ 2 ≤ x ∧ x < n + 2 := by
  unfold numsL
  rw [List.mem_map]
  constructor
  · rintro ⟨i, hi, rfl⟩
    rw [List.mem_range] at hi
    omega
  · intro h
    exact ⟨(x - 2).toNat, List.mem_range.2 (by omega), by omega⟩
theorem numsL_succ' (n : Nat) : numsL (n + 1) = numsL n ++ [(n : Int) + 2] := by simp [numsL, List.range_succ]
theorem ex_same {o : List Int} {ns : List DN} {rs : List Int} {os : List DN} {r x : Int} (h : ExOk ns rs os) (h0 : 0 ≤ r) (e : exR rs r = some x) : Ex o ns rs os rs os r x :=
  ⟨h, ⟨[], by simp⟩, ⟨[], by simp⟩, e, fun ys k _ => by
    have hx := exR_lt h0 e
    cases k with
    | zero => rfl
    | succ k => rw [numF, if_pos]; rw [mem_numsL]; omega, fun z hz => .inl hz, by omega⟩
theorem ex_node {o : List Int} {ns : List DN} {rs rs1 rs2 : List Int} {os os1 os2 : List DN} {r xl xh : Int} (ht : TabOk o ns) (h2 : 2 ≤ r) (hr : r < ns.length + 2) (hnew : r ∉ rs)
    (a : Ex o ns rs os rs1 os1 (ns.getD (r - 2).toNat dn0).lo xl) (b : Ex o ns rs1 os1 rs2 os2 (ns.getD (r - 2).toNat dn0).hi xh) :
    r ∉ rs2 ∧ Ex o ns rs os (rs2 ++ [r]) (os2 ++ [⟨(ns.getD (r - 2).toNat dn0).v, xl, xh⟩]) r ((rs2.length : Int) + 2) := by
  have hi' : (r - 2).toNat < ns.length := by omega
  have nk := (ht _ hi').nk
  obtain ⟨v0, v1, l0, l1, g0, g1⟩ := nk
  obtain ⟨z1, e1⟩ := a.pre
  obtain ⟨z2, e2⟩ := b.pre
  obtain ⟨y1, f1⟩ := a.preo
  obtain ⟨y2, f2⟩ := b.preo
  have hout : r ∉ rs2 := fun hm => by
    rcases b.below r hm with hm | hm
    · rcases a.below r hm with hm | hm
      · exact hnew hm
      · omega
    · omega
  have hax : exR rs2 (ns.getD (r - 2).toNat dn0).lo = some xl := by rw [e2]; exact exR_app a.ref
  have hxl := exR_lt l0 hax
  have hxh := exR_lt g0 b.ref
  have hlen2 := b.ok.len
  refine ⟨hout, ⟨⟨by simp [hlen2], ?_, fun z hz => ?_, fun j hj => ?_⟩, ⟨z1 ++ z2 ++ [r], by rw [e2, e1]; simp⟩, ⟨y1 ++ y2 ++ [⟨(ns.getD (r - 2).toNat dn0).v, xl, xh⟩], by rw [f2, f1]; simp only [List.append_assoc]⟩, ?_, fun ys k hk => ?_, fun z hz => ?_, ?_⟩⟩
  · exact List.nodup_append.2 ⟨b.ok.nd, by simp, fun a ha c hc => by
      rw [List.mem_singleton] at hc; subst hc; exact fun e => hout (e ▸ ha)⟩
  · rcases List.mem_append.1 hz with hz | hz
    · exact b.ok.bd z hz
    · rw [List.mem_singleton] at hz; subst hz; exact ⟨h2, hr⟩
  · rw [List.length_append, List.length_singleton] at hj
    by_cases hjl : j < rs2.length
    · obtain ⟨lo, hi, q1, q2, q3⟩ := b.ok.node j hjl
      have e : (rs2 ++ [r]).getD j 0 = rs2.getD j 0 := by
        rw [List.getD_eq_getElem?_getD, List.getD_eq_getElem?_getD, List.getElem?_append_left hjl]
      rw [e, List.take_append_of_le_length (by omega)]
      exact ⟨lo, hi, q1, q2, by rw [getD_app (by omega)]; exact q3⟩
    · have hj' : j = rs2.length := by omega
      subst hj'
      have e : (rs2 ++ [r]).getD rs2.length 0 = r := by
        rw [List.getD_eq_getElem?_getD, List.getElem?_append_right (Nat.le_refl _), Nat.sub_self]; rfl
      rw [e, List.take_append_of_le_length (Nat.le_refl _), List.take_length]
      refine ⟨xl, xh, hax, b.ref, ?_⟩
      rw [← hlen2, List.getD_eq_getElem?_getD, List.getElem?_append_right (Nat.le_refl _), Nat.sub_self]; rfl
  · unfold exR
    rw [if_neg (by omega), if_pos (by simp), List.idxOf_append, if_neg hout]
    simp
  · obtain ⟨k', rfl⟩ : ∃ k', k = k' + 1 := ⟨k - 1, by omega⟩
    have hlen : (rs2 ++ [r]).length = rs2.length + 1 := by simp
    have hg : ((os2 ++ [(⟨(ns.getD (r - 2).toNat dn0).v, xl, xh⟩ : DN)]) ++ ys).getD ((rs2.length : Int) + 2 - 2).toNat dn0 = ⟨(ns.getD (r - 2).toNat dn0).v, xl, xh⟩ := by
      rw [show ((rs2.length : Int) + 2 - 2).toNat = os2.length from by omega, List.append_assoc, List.getD_eq_getElem?_getD, List.getElem?_append_right (Nat.le_refl _), Nat.sub_self]; rfl
    have hle : rs.length ≤ rs2.length := by rw [e2, e1]; simp only [List.length_append]; omega
    rw [numF, if_neg (by rw [mem_numsL]; omega), hg]
    dsimp only
    have a1 := a.num (y2 ++ [(⟨(ns.getD (r - 2).toNat dn0).v, xl, xh⟩ : DN)] ++ ys) k' (by omega)
    have b1 := b.num ([(⟨(ns.getD (r - 2).toNat dn0).v, xl, xh⟩ : DN)] ++ ys) k' (by omega)
    have ea : os1 ++ (y2 ++ [(⟨(ns.getD (r - 2).toNat dn0).v, xl, xh⟩ : DN)] ++ ys) = os2 ++ [(⟨(ns.getD (r - 2).toNat dn0).v, xl, xh⟩ : DN)] ++ ys := by rw [f2]; simp
    rw [ea] at a1
    rw [← List.append_assoc] at b1
    rw [a1, b1, hlen, numsL_succ']
  · rcases List.mem_append.1 hz with hz | hz
    · rcases b.below z hz with h | h
      · rcases a.below z h with h | h
        · exact .inl h
        · exact .inr (by omega)
      · exact .inr (by omega)
    · rw [List.mem_singleton] at hz; exact .inr (by omega)
  · have nd := ht _ hi'
    have b1 := nd.bl
    have b2 := nd.bh
    have hlr : lvZ o ns r = placeZ o (ns.getD (r - 2).toNat dn0).v := by unfold lvZ; rw [if_neg (by omega)]
    have ll := lv_le (o := o) (ns := ns) (r := (ns.getD (r - 2).toNat dn0).lo)
    have lh := lv_le (o := o) (ns := ns) (r := (ns.getD (r - 2).toNat dn0).hi)
    have la := a.len
    have lb := b.len
    obtain ⟨q, hq⟩ : ∃ q, (o.length - lvZ o ns r).toNat = q + 1 := ⟨(o.length - lvZ o ns r).toNat - 1, by omega⟩
    have pa : 2 ^ ((o.length : Int) - lvZ o ns (ns.getD (r - 2).toNat dn0).lo).toNat ≤ 2 ^ q := Nat.pow_le_pow_right (by omega) (by omega)
    have pb : 2 ^ ((o.length : Int) - lvZ o ns (ns.getD (r - 2).toNat dn0).hi).toNat ≤ 2 ^ q := Nat.pow_le_pow_right (by omega) (by omega)
    have pq : 0 < 2 ^ q := Nat.pow_pos (by omega)
    rw [hq, Nat.pow_succ, List.length_append, List.length_singleton]
    omega
theorem ex_code {o : List Int} {ns : List DN} {rs : List Int} {os : List DN} {r x : Int} (ho : ocode o o.length = 0) (ht : TabOk o ns) (hr : RefOk ns r) (h : Ex o ns [] [] rs os r x) (hl : os.length ≤ 4096) : dcode ⟨o, os, x⟩ = 0 := by
  have hx := exR_lt hr.1 h.ref
  have hlen := h.ok.len
  unfold dcode
  have hz : ∀ (k i : Nat), i + k ≤ os.length → nfirst ⟨o, os, x⟩ i k = 0 := by
    intro k
    induction k with
    | zero => intro i _; rfl
    | succ k ih =>
      intro i hi
      rw [nfirst, if_neg (by rw [h.ok.ncode ht x (by omega)]; simp)]
      exact ih (i + 1) (by omega)
  rw [if_neg (by simpa using ho), if_neg (by simpa using hl), if_neg (by rw [hz _ _ (by simp)]; simp), if_neg (by dsimp only; omega)]
  have hn := h.num [] x.toNat (Nat.le_refl _)
  rw [List.append_nil] at hn
  rw [if_pos]
  show numF os x.toNat x [] = numsL os.length
  rw [hlen, ← hn]
  rfl
end Go.PN
