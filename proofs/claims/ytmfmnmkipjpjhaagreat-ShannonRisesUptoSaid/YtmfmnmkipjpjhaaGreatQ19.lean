/- Texts of one proof, laid one behind the other by a program (merge.py): Frm1, AiMap2, AiMin, AiPush2, AiFh, Frm2, Add0. -/
import Derived.Test.YtmfmnmkipjpjhaaGreatQ16
import Derived.Test.YtmfmnmkipjpjhaaGreatQ15
import Derived.Test.YtmfmnmkipjpjhaaGreatQ17
import Derived.Test.YtmfmnmkipjpjhaaGreatQ07
import Derived.Test.YtmfmnmkipjpjhaaGreatQ14
set_option linter.unusedSimpArgs false
set_option linter.unusedVariables false
/- faultlineref08: Of, Values, Value. -/
namespace Go.PN
open Go.AI
def ofB (f : FM) (vs : List Bool) (s : Nat) (a : Int) : Bool := if a < f.vars then s.testBit a.toNat else vs.getD (a - f.vars).toNat false
def cntB (f : FM) (vs : List Bool) (s : Nat) (az : List Int) : Nat := (az.filter fun a => ofB f vs s a).length
noncomputable def nodeB (f : FM) (vs : List Bool) (s : Nat) (x : FN) : Bool :=
  if x.kind == 0 then x.k == 1 else if x.kind == 1 then ((cntB f vs s x.args : Nat) : Int) == 0 else if x.kind == 2 then ((cntB f vs s x.args : Nat) : Int) == (x.args.length : Int)
  else if x.kind == 3 then decide (((cntB f vs s x.args : Nat) : Int) > 0) else if x.kind == 4 then decide (((cntB f vs s x.args : Nat) : Int) ≥ x.k) else remZ ((cntB f vs s x.args : Nat) : Int) 2 == 1
noncomputable def fvTo (f : FM) (s : Nat) : Nat → List Bool
  | 0 => List.replicate f.nodes.length false
  | k + 1 => (fvTo f s k).set k (nodeB f (fvTo f s k) s (f.nodes.getD k fn0))
theorem fvTo_len (f : FM) (s : Nat) : ∀ k, (fvTo f s k).length = f.nodes.length
  | 0 => by simp [fvTo]
  | k + 1 => by simp [fvTo, fvTo_len f s k]
/-- What a formula must be that its values can be asked for. -/
structure FmOk (f : FM) : Prop where
  v0 : 0 ≤ f.vars
  v1 : f.vars ≤ 62
  n : f.nodes.length ≤ 1000000
  a : ∀ x ∈ f.nodes, x.args.length ≤ 1000000 ∧ ∀ y ∈ x.args, 0 ≤ y ∧ y < f.vars + f.nodes.length
  t0 : 0 ≤ f.top
  t1 : f.top < f.vars + f.nodes.length
theorem le_oslbs {h : Heap} {g n : Nat} {ty : TypeId} {ys : List Bool} (hg : h.get g = some (.cells ty n (bsF ys))) (hn : n = ys.length) : LeC h (.osl g 1 0 n) (bs false ys) := by
  subst hn
  exact .osl hg (by omega) (fun j _ => by rw [Nat.zero_add]; exact .refl _)
theorem ler_oslbs {h : Heap} {t : Bool} {g n : Nat} {ty : TypeId} {ys : List Bool} (hg : h.get g = some (.cells ty n (bsF ys))) (hn : n = ys.length) : LeR h (.osl g 1 0 n) (bs t ys) := by
  subst hn
  exact .osl hg (by omega) (fun j _ => by rw [Nat.zero_add]; exact .bool _)
theorem cnt_take {f : FM} {vs : List Bool} {s : Nat} {az : List Int} {j : Nat} (h : j < az.length) : cntB f vs s (az.take (j + 1)) = cntB f vs s (az.take j) + if ofB f vs s (az.getD j 0) then 1 else 0 := by
  unfold cntB
  rw [List.take_succ_eq_append_getElem h, List.filter_append, List.length_append, getDZ h]
  congr 1
  by_cases hb : ofB f vs s az[j] = true
  · simp [hb]
  · simp [hb]
theorem cnt_le {f : FM} {vs : List Bool} {s : Nat} {az : List Int} : cntB f vs s az ≤ az.length := List.length_filter_le _ _
theorem getFN {xs : List FN} {i : Nat} (h : i < xs.length) : xs.getD i fn0 = xs[i] := by
  rw [List.getD_eq_getElem?_getD, List.getElem?_eq_getElem h]; rfl
end Go.PN
namespace Go.Proofs.YtmfmnmkipjpjhaaGreat
open Go.AI Go.PN
attribute [local irreducible] aw Fa Fh DrK
set_option maxHeartbeats 800000 in
theorem fof_fa (f : FM) (hf : FmOk f) (vs : List Bool) (s : Nat) (a : Int) (hs : s < 9223372036854775808) (hv : vs.length = f.nodes.length) (h0 : 0 ≤ a) (h1 : a < f.vars + f.nodes.length) : Fa Tryz.prog 76 [.agg (fmc false f), .c (bs false vs), .c (.int .i64 s), .c (.int .i64 a)] (.c (.bool (ofB f vs s a))) := by
  have f1 := hf.v0
  have f2 := hf.v1
  have f3 := hf.n
  unfold ofB
  refine fa_of_body Tryz.func76 rfl rfl (by simp [Tryz.ntmps76]) fun C hC => ?_
  simp only [initS, Nat.reduceAdd]
  refine xG ?_
  refine xB fun g4 hn_g4=>?_
  refine yG hn_g4 ?_
  refine yF hn_g4 (fun hb=>?_) fun hb=>?_
  · have hb' := of_decide_eq_true hb
    obtain ⟨k, rfl⟩ : ∃ k : Nat, a = k := ⟨a.toNat, by omega⟩
    have b1 := shrZ_nat s k (by omega)
    have b2 := and_one_nat (s / 2 ^ k) (Nat.lt_of_le_of_lt (Nat.div_le_self _ _) hs)
    have b3 := bit_eq s k
    refine yG (oj hn_g4 (oj b1 (oj b2 b3))) ?_
    refine yT hC (oj hn_g4 (oj b1 (oj b2 b3))) ?_
    exact .one (.c (ler_bool (by rw [if_pos hb']; rfl)))
  · have hb' := of_decide_eq_false hb
    refine yG hn_g4 ?_
    refine yT hC hn_g4 ?_
    exact .one (.c (ler_bool (by rw [if_neg hb'])))
set_option maxRecDepth 100000 in
set_option maxHeartbeats 3200000 in
theorem fvalues_fa (f : FM) (hf : FmOk f) (s : Nat) (hs : s < 9223372036854775808) : Fa Tryz.prog 77 [.agg (fmc false f), .c (.int .i64 s)] (.c (bs true (fvTo f s f.nodes.length))) := by
  have f1 := hf.v0
  have f2 := hf.v1
  have f3 := hf.n
  refine fa_of_body Tryz.func77 rfl rfl (by simp [Tryz.ntmps77]) fun C hC => ?_
  simp only [initS, Nat.reduceAdd]
  refine xG ?_
  refine xB fun g2 hn_g2=>?_
  refine yG hn_g2 ?_
  refine aw_make (n := f.nodes.length) (c := f.nodes.length) (size := 1) (z := [.bool false]) rfl rfl rfl (zE hn_g2) (zE hn_g2) rfl (by omega) (zE hn_g2) (zE hn_g2) rfl rfl (by omega) (by omega) (by omega) fun g hn_g => ?_
  replace hn_g := Heap.ne_of hn_g
  dsimp only [Heap.ne] at hn_g
  rw [make_bs f.nodes.length]
  refine yS (oj hn_g2 hn_g) ?_
  refine yG (oj hn_g2 hn_g) ?_
  refine aw_lp (fun i : Nat => [(1, .c (.int .i64 s)), (2, .c (.optr g2 0)), (5, .c (.osl g 1 0 f.nodes.length)), (16, .c (fns false f.nodes)), (17, .c (.int .i64 f.nodes.length)), (18, .c (.int .i64 i))]) (fun i => [(g, .cells 4 f.nodes.length (bsF (fvTo f s i))), (g2, .cells 24 3 (ofL (fmc false f)))]) (fun i => i ≤ f.nodes.length) (fun i => f.nodes.length - i) 0 (zB (oj hn_g2 hn_g)) zZ (Nat.zero_le _) ?_
  rintro i hi
  have hvl := fvTo_len f s i
  refine yG (oj hn_g2 hn_g) ?_
  refine yF (oj hn_g2 hn_g) (fun h1=>?_) fun h1=>?_
  · have h1' : i < f.nodes.length := by have := of_decide_eq_true h1; omega
    obtain ⟨ha1, ha2⟩ := hf.a (f.nodes.getD i fn0) (by rw [getFN h1']; exact List.getElem_mem h1')
    refine yG (oj hn_g2 hn_g) ?_
    refine yA (oj hn_g2 hn_g) fun g7 hn_g7=>?_
    refine yG (oj hn_g2 (oj hn_g hn_g7)) ?_
    refine yW (oj hn_g2 (oj hn_g hn_g7)) ?_
    refine yS (oj hn_g2 (oj hn_g hn_g7)) ?_
    have hst : fvTo f s (i + 1) = (fvTo f s i).set i (nodeB f (fvTo f s i) s (f.nodes.getD i fn0)) := rfl
    generalize f.nodes.getD i fn0 = x at *
    generalize fvTo f s i = vs at *
    refine yG (oj hn_g2 (oj hn_g hn_g7)) ?_
    refine aw_lp (fun j : Nat => [(1, .c (.int .i64 s)), (2, .c (.optr g2 0)), (5, .c (.osl g 1 0 f.nodes.length)), (6, .c (.int .i64 i)), (7, .c (.optr g7 0)), (8, .c (.int .i64 (cntB f vs s (x.args.take j)))), (16, .c (fns false f.nodes)), (17, .c (.int .i64 f.nodes.length)), (18, .c (.int .i64 i)), (24, .c (is true x.args)), (25, .c (.int .i64 x.args.length)), (26, .c (.int .i64 j))]) (fun j => [(g7, .cells 74 3 (ofL [.int .i64 x.kind, .int .i64 x.k, is true x.args])), (g, .cells 4 f.nodes.length (bsF vs)), (g2, .cells 24 3 (ofL (fmc false f)))]) (fun j => j ≤ x.args.length) (fun j => x.args.length - j) 0 (zB (oj hn_g2 (oj hn_g hn_g7))) zZ (Nat.zero_le _) ?_
    rintro j hj
    have hc1 := cnt_le (f := f) (vs := vs) (s := s) (az := x.args.take j)
    rw [List.length_take] at hc1
    refine yG (oj hn_g2 (oj hn_g hn_g7)) ?_
    refine yF (oj hn_g2 (oj hn_g hn_g7)) (fun h2=>?_) fun h2=>?_
    · have h2' : j < x.args.length := by have := of_decide_eq_true h2; omega
      obtain ⟨y0, y1⟩ := ha2 (x.args.getD j 0) (by rw [getDZ h2']; exact List.getElem_mem h2')
      have hct := cnt_take (f := f) (vs := vs) (s := s) h2'
      refine yG (oj hn_g2 (oj hn_g hn_g7)) ?_
      refine aw_callq (fof_fa f hf vs s (x.args.getD j 0) hs hvl y0 y1) rfl rfl rfl (by refine yS (oj hn_g2 (oj hn_g hn_g7)) ?_; exact ⟨.agg (lel_refl _), .c (le_oslbs (zE (oj hn_g2 (oj hn_g hn_g7))) hvl.symm), .c (.refl _), .c (.refl _)⟩) ?_
      refine yS (oj hn_g2 (oj hn_g hn_g7)) ?_
      refine yG (oj hn_g2 (oj hn_g hn_g7)) ?_
      refine yF (oj hn_g2 (oj hn_g hn_g7)) (fun h3=>?_) fun h3=>?_
      · rw [h3, if_pos rfl] at hct
        refine yG (oj hn_g2 (oj hn_g hn_g7)) ?_
        exact aw_stop ⟨j + 1, by omega, (by rw [hct]; exact (zB (oj hn_g2 (oj hn_g hn_g7)))), zZ, by omega⟩
      · rw [h3, if_neg (by simp), Nat.add_zero] at hct
        refine yG (oj hn_g2 (oj hn_g hn_g7)) ?_
        exact aw_stop ⟨j + 1, by omega, (by rw [hct]; exact (zB (oj hn_g2 (oj hn_g hn_g7)))), zZ, by omega⟩
    · have h2' : j = x.args.length := by have := of_decide_eq_false h2; omega
      subst h2'
      rw [List.take_length]
      have hc2 := cnt_le (f := f) (vs := vs) (s := s) (az := x.args)
      refine yG (oj hn_g2 (oj hn_g hn_g7)) ?_
      refine yF (oj hn_g2 (oj hn_g hn_g7)) (fun k0=>?_) fun k0=>?_
      · refine yG (oj hn_g2 (oj hn_g hn_g7)) ?_
        refine yW (oj hn_g2 (oj hn_g hn_g7)) ?_
        refine yS (oj hn_g2 (oj hn_g hn_g7)) ?_
        rw [updF_bs (by omega)]
        refine yG (oj hn_g2 (oj hn_g hn_g7)) ?_
        exact aw_stop ⟨i + 1, by omega, (zB (oj hn_g2 (oj hn_g hn_g7))), List.Sublist.cons _ (by rw [hst, nodeB, if_pos k0]; exact zZ), by omega⟩
      · refine yG (oj hn_g2 (oj hn_g hn_g7)) ?_
        refine yF (oj hn_g2 (oj hn_g hn_g7)) (fun k1=>?_) fun k1=>?_
        · refine yG (oj hn_g2 (oj hn_g hn_g7)) ?_
          refine yW (oj hn_g2 (oj hn_g hn_g7)) ?_
          refine yS (oj hn_g2 (oj hn_g hn_g7)) ?_
          rw [updF_bs (by omega)]
          refine yG (oj hn_g2 (oj hn_g hn_g7)) ?_
          exact aw_stop ⟨i + 1, by omega, (zB (oj hn_g2 (oj hn_g hn_g7))), List.Sublist.cons _ (by rw [hst, nodeB, if_neg (by rw [k0]; simp), if_pos k1]; exact zZ), by omega⟩
        · refine yG (oj hn_g2 (oj hn_g hn_g7)) ?_
          refine yF (oj hn_g2 (oj hn_g hn_g7)) (fun k2=>?_) fun k2=>?_
          · refine yG (oj hn_g2 (oj hn_g hn_g7)) ?_
            refine yW (oj hn_g2 (oj hn_g hn_g7)) ?_
            refine yS (oj hn_g2 (oj hn_g hn_g7)) ?_
            rw [updF_bs (by omega)]
            refine yG (oj hn_g2 (oj hn_g hn_g7)) ?_
            exact aw_stop ⟨i + 1, by omega, (zB (oj hn_g2 (oj hn_g hn_g7))), List.Sublist.cons _ (by rw [hst, nodeB, if_neg (by rw [k0]; simp), if_neg (by rw [k1]; simp), if_pos k2]; exact zZ), by omega⟩
          · refine yG (oj hn_g2 (oj hn_g hn_g7)) ?_
            refine yF (oj hn_g2 (oj hn_g hn_g7)) (fun k3=>?_) fun k3=>?_
            · refine yG (oj hn_g2 (oj hn_g hn_g7)) ?_
              refine yW (oj hn_g2 (oj hn_g hn_g7)) ?_
              refine yS (oj hn_g2 (oj hn_g hn_g7)) ?_
              rw [updF_bs (by omega)]
              refine yG (oj hn_g2 (oj hn_g hn_g7)) ?_
              exact aw_stop ⟨i + 1, by omega, (zB (oj hn_g2 (oj hn_g hn_g7))), List.Sublist.cons _ (by rw [hst, nodeB, if_neg (by rw [k0]; simp), if_neg (by rw [k1]; simp), if_neg (by rw [k2]; simp), if_pos k3]; exact zZ), by omega⟩
            · refine yG (oj hn_g2 (oj hn_g hn_g7)) ?_
              refine yF (oj hn_g2 (oj hn_g hn_g7)) (fun k4=>?_) fun k4=>?_
              · refine yG (oj hn_g2 (oj hn_g hn_g7)) ?_
                refine yW (oj hn_g2 (oj hn_g hn_g7)) ?_
                refine yS (oj hn_g2 (oj hn_g hn_g7)) ?_
                rw [updF_bs (by omega)]
                refine yG (oj hn_g2 (oj hn_g hn_g7)) ?_
                exact aw_stop ⟨i + 1, by omega, (zB (oj hn_g2 (oj hn_g hn_g7))), List.Sublist.cons _ (by rw [hst, nodeB, if_neg (by rw [k0]; simp), if_neg (by rw [k1]; simp), if_neg (by rw [k2]; simp), if_neg (by rw [k3]; simp), if_pos k4]; exact zZ), by omega⟩
              · refine yG (oj hn_g2 (oj hn_g hn_g7)) ?_
                refine yW (oj hn_g2 (oj hn_g hn_g7)) ?_
                refine yS (oj hn_g2 (oj hn_g hn_g7)) ?_
                rw [updF_bs (by omega)]
                refine yG (oj hn_g2 (oj hn_g hn_g7)) ?_
                exact aw_stop ⟨i + 1, by omega, (zB (oj hn_g2 (oj hn_g hn_g7))), List.Sublist.cons _ (by rw [hst, nodeB, if_neg (by rw [k0]; simp), if_neg (by rw [k1]; simp), if_neg (by rw [k2]; simp), if_neg (by rw [k3]; simp), if_neg (by rw [k4]; simp)]; exact zZ), by omega⟩
  · have h1' : i = f.nodes.length := by have := of_decide_eq_false h1; omega
    subst h1'
    refine yG (oj hn_g2 hn_g) ?_
    refine yT hC (oj hn_g2 hn_g) ?_
    exact .one (.c (ler_oslbs (zE (oj hn_g2 hn_g)) hvl.symm))
noncomputable def fvalB (f : FM) (s : Nat) : Bool := ofB f (fvTo f s f.nodes.length) s f.top
set_option maxHeartbeats 800000 in
theorem fvalue_fa (f : FM) (hf : FmOk f) (s : Nat) (hs : s < 9223372036854775808) : Fa Tryz.prog 36 [.agg (fmc false f), .c (.int .i64 s)] (.c (.bool (fvalB f s))) := by
  refine fa_of_body Tryz.func36 rfl rfl (by simp [Tryz.ntmps36]) fun C hC => ?_
  simp only [initS, Nat.reduceAdd]
  refine xG ?_
  refine xB fun g2 hn_g2=>?_
  refine yG hn_g2 ?_
  refine aw_dr 9 ty_mixed (by kernel_rfl) ?_
  refine yG hn_g2 ?_
  refine yD hn_g2 (fvalues_fa f hf s hs) ?_
  refine yG hn_g2 ?_
  refine yD hn_g2 (fof_fa f hf (fvTo f s f.nodes.length) s f.top hs (fvTo_len f s _) hf.t0 hf.t1) ?_
  refine yG hn_g2 ?_
  refine yT hC hn_g2 ?_
  exact .one (.c (.bool _))
end Go.Proofs.YtmfmnmkipjpjhaaGreat

/- Maps, more: keys that are ints or arrays of three ints; lookups that tell whether the key is there. -/
namespace Go.AI
section
variable {P : Program}
def keyI (n : Int) : Value := .int .i64 n
theorem keyI_ok {kt : TypeId} (ht : P.underlying kt = some (.int .i64)) : KeyOk P kt keyI := by
  refine ⟨fun b a w => ?_, fun a ks es w h => ?_⟩
  · unfold Instr.checkKey keyI
    simp only [Sem.run_bind, run_underlying ht, Result.andThen_ok]
    rfl
  · unfold Instr.findKey
    simp only [Sem.run_bind, run_underlying ht, Result.andThen_ok]
    have hn : ∀ (ks : List Int) (es : List MapEntry) (i : Nat), es.map (·.key) = ks.map keyI → Instr.findNow (.int .i64) (keyI a) es i = some (fAsk a ks es i) := by
      intro ks
      induction ks with
      | nil =>
        intro es i h
        cases es with
        | nil => rfl
        | cons e es => simp at h
      | cons k ks ih =>
        intro es i h
        cases es with
        | nil => simp at h
        | cons e es =>
          simp only [List.map_cons, List.cons.injEq] at h
          simp only [Instr.findNow, fAsk, h.1, keyI, Instr.sameNow, if_true]
          by_cases hk : a = k
          · subst hk; simp
          · have : (a == k) = false := by simpa using hk
            rw [this, if_neg hk]
            exact ih es (i + 1) h.2
    rw [hn ks es 0 h]
    rfl
def key3 (k : Int × Int × Int) : Value := .agg #[.int .i64 k.1, .int .i64 k.2.1, .int .i64 k.2.2]
theorem key3_ok {kt e : TypeId} (ht : P.underlying kt = some (.array 3 e)) (he : P.underlying e = some (.int .i64)) {inf : TypeInfo} (hi : P.info? e = some inf) (hs : inf.size = 1) : KeyOk P kt key3 := by
  have hag : ∀ w, (isAgg e).run P w = .ok false w := fun w => by simp [isAgg, run_underlying he]
  have hsz : ∀ w, (sizeOf e).run P w = .ok 1 w := fun w => by simp [sizeOf, typeInfo, hi, hs]
  have hp : ∀ (a b c : Int) w, (part e #[.int .i64 a, .int .i64 b, .int .i64 c] 0).run P w = .ok (.int .i64 a) w ∧ (part e #[.int .i64 a, .int .i64 b, .int .i64 c] 1).run P w = .ok (.int .i64 b) w ∧ (part e #[.int .i64 a, .int .i64 b, .int .i64 c] 2).run P w = .ok (.int .i64 c) w := fun a b c w => by
    unfold part
    simp only [Sem.run_bind, hag, Result.andThen_ok, Bool.false_eq_true, if_false]
    exact ⟨rfl, rfl, rfl⟩
  have hck : ∀ b n x w, (Instr.checkKey b (n + 1) e (.int .i64 x)).run P w = .ok () w := fun b n x w => by simp [Instr.checkKey, run_underlying he]
  have heq1 : ∀ d x y w, (Op.equalIn (d + 1) e (.int .i64 x) (.int .i64 y)).run P w = .ok (x == y) w := fun d x y w => by simp [Op.equalIn, run_underlying he]
  refine ⟨fun b a w => ?_, fun a ks es w h => ?_⟩
  · obtain ⟨x, y, z⟩ := a
    obtain ⟨p0, p1, p2⟩ := hp x y z w
    show (Instr.checkKey b (9998 + 1 + 1) kt (key3 (x, y, z))).run P w = _
    unfold Instr.checkKey key3
    have hck9 : ∀ x w, (Instr.checkKey b 9999 e (.int .i64 x)).run P w = .ok () w := fun x w => hck b 9998 x w
    simp [run_underlying ht]
    rw [show List.range' 0 3 = [0, 1, 2] from rfl]
    simp [hsz, p0, p1, p2, hck9]
  · have hfeq : ∀ a b w, (Op.equal kt (key3 a) (key3 b)).run P w = .ok (decide (a = b)) w := fun a b w => by
      obtain ⟨x, y, z⟩ := a
      obtain ⟨x', y', z'⟩ := b
      have hp0 := fun a b c w => (hp a b c w).1
      have hp1 := fun a b c w => (hp a b c w).2.1
      have hp2 := fun a b c w => (hp a b c w).2.2
      show (Op.equalIn (9998 + 1 + 1) kt (key3 (x, y, z)) (key3 (x', y', z'))).run P w = _
      unfold Op.equalIn key3
      have heq9 : ∀ x y w, (Op.equalIn 9999 e (.int .i64 x) (.int .i64 y)).run P w = .ok (x == y) w := fun x y w => heq1 9998 x y w
      simp [run_underlying ht, hsz]
      rw [show List.range' 0 3 = [0, 1, 2] from rfl]
      by_cases e0 : x = x' <;> by_cases e1 : y = y' <;> by_cases e2 : z = z' <;> simp [hp0, hp1, hp2, heq9, e0, e1, e2]
    have hn : ∀ e' es', es = e' :: es' → Instr.findNow (.array 3 e) (key3 a) es 0 = none := fun e' es' he' => by
      subst he'; simp [Instr.findNow, Instr.sameNow]
    unfold Instr.findKey
    simp only [Sem.run_bind, run_underlying ht, Result.andThen_ok]
    cases es with
    | nil =>
      cases ks with
      | nil => simp [Instr.findNow, fAsk]
      | cons k ks => simp at h
    | cons e' es' =>
      rw [hn e' es' rfl]
      exact run_findAsking hfeq a ks (e' :: es') 0 w h
end
section
variable {P : Program}
variable {E : Env} {K : List It} {σ σ' : Sl} {h : Heap} {all rest : List Oper} {o : Oper}
/-- v, ok = m[k] -/
theorem aw_lookup2 {α : Type} [DecidableEq α] {Kf : α → Value} {t kt et g : TypeId} {kv : List (α × Value)} {x ky : Operand} {ck : AV} {a : α} {z : Value} (hop : o.op = .lookup t x ky true) (hw : wantA all σ o = some true) (hd : dstOk E.N o.dst = true)
    (ht : tMap E.P t = some (kt, et)) (hK : KeyOk E.P kt Kf) (hz : tZ1 E.P et = some z) (hx : ev σ x = .c (.raw (.map (some g)))) (hg : h.get g = some (.gen (MapI Kf kv))) (hk : ev σ ky = ck) (hka : ∀ S w v, Rep S w ck v → v = Kf a)
    (k : aw E (.ops all rest :: K) (σ.setO o.dst (.tup [.c (cstC ((kvGet a kv).getD z)), .c (.bool (kvGet a kv).isSome)])) h) : aw E (.ops all (o :: rest) :: K) σ h := by
  refine aw_step hw (fun ac w s => ?_) k
  have h1 := ev_rep s x
  rw [hx] at h1
  have h1' : ac.eval x = .map (some g) := h1
  have h2 := ev_rep s ky
  rw [hk] at h2
  have h2' := hka _ _ _ h2
  obtain ⟨ob, hb, es, c, rfl, hes⟩ := s.heap g _ (Heap.get_mem hg)
  have hkeys : es.toList.map (·.key) = (kv.map (·.1)).map Kf := by
    have := congrArg (List.map Prod.fst) hes
    rw [List.map_map, List.map_map] at this
    rw [List.map_map]
    exact this
  have hfind := hK.find a (kv.map (·.1)) es.toList w hkeys
  have hget := fAsk_get (K := Kf) a kv es.toList 0 hes
  refine ⟨.tuple #[(kvGet a kv).getD z, .bool (kvGet a kv).isSome], w, .inl ?_, s.put hd ⟨[_, _], rfl, cstC_rep _ _ _, rfl, trivial⟩⟩
  have hlk : (Instr.lookup t (ac.eval x) (ac.eval ky) true).run E.P w = .ok (.tuple #[(kvGet a kv).getD z, .bool (kvGet a kv).isSome]) w := by
    rw [h1', h2']
    unfold Instr.lookup
    simp only [Sem.run_bind, run_underlying (tMap_spec ht), Result.andThen_ok, runGet hb, Sem.run_pure, hK.check, hfind]
    rw [← hget]
    cases hf : fAsk a (kv.map (·.1)) es.toList 0 with
    | none => simp [tZ1_run hz]
    | some p => obtain ⟨i, v⟩ := p; simp
  simp only [execOp, hop, Sem.run_bind, hlk, Result.andThen_ok]
  rfl
theorem Calm.lookup2 {l : List Oper} {α : Type} [DecidableEq α] {Kf : α → Value} {t kt et g : TypeId} {kv : List (α × Value)} {x ky : Operand} {ck : AV} {a : α} {z : Value} (hop : o.op = .lookup t x ky true) (hw : wantA l σ o = some true) (hd : dstOk E.N o.dst = true)
    (ht : tMap E.P t = some (kt, et)) (hK : KeyOk E.P kt Kf) (hz : tZ1 E.P et = some z) (hx : ev σ x = .c (.raw (.map (some g)))) (hg : h.get g = some (.gen (MapI Kf kv))) (hk : ev σ ky = ck) (hka : ∀ S w v, Rep S w ck v → v = Kf a) :
    Calm E h l σ o (.tup [.c (cstC ((kvGet a kv).getD z)), .c (.bool (kvGet a kv).isSome)]) := by
  refine ⟨hd, fun σ' ac w Q hs s => ?_⟩
  rw [if_pos (s.wanted ((want_same hs).trans hw))]
  have h1 := ev_rep s x
  rw [ev_same (by rw [hop]; simp [Op.operands]) hs, hx] at h1
  have h1' : ac.eval x = .map (some g) := h1
  have h2 := ev_rep s ky
  rw [ev_same (by rw [hop]; simp [Op.operands]) hs, hk] at h2
  have h2' := hka _ _ _ h2
  obtain ⟨ob, hb, es, c, rfl, hes⟩ := s.heap g _ (Heap.get_mem hg)
  have hkeys : es.toList.map (·.key) = (kv.map (·.1)).map Kf := by
    have := congrArg (List.map Prod.fst) hes
    rw [List.map_map, List.map_map] at this
    rw [List.map_map]
    exact this
  have hfind := hK.find a (kv.map (·.1)) es.toList w hkeys
  have hget := fAsk_get (K := Kf) a kv es.toList 0 hes
  have hlk : (Instr.lookup t (ac.eval x) (ac.eval ky) true).run E.P w = .ok (.tuple #[(kvGet a kv).getD z, .bool (kvGet a kv).isSome]) w := by
    rw [h1', h2']
    unfold Instr.lookup
    simp only [Sem.run_bind, run_underlying (tMap_spec ht), Result.andThen_ok, runGet hb, Sem.run_pure, hK.check, hfind]
    rw [← hget]
    cases hf : fAsk a (kv.map (·.1)) es.toList 0 with
    | none => simp [tZ1_run hz]
    | some p => obtain ⟨i, v⟩ := p; simp
  have hrun : (execOp ac.eval o).run E.P w = .ok (.value (.tuple #[(kvGet a kv).getD z, .bool (kvGet a kv).isSome])) w := by
    simp only [execOp, hop, Sem.run_bind, hlk, Result.andThen_ok]
    rfl
  unfold Oper.wp
  rw [hrun]
  exact s.put hd ⟨[_, _], rfl, cstC_rep _ _ _, rfl, trivial⟩
theorem drk_lookup2 {l : List Oper} {n : Nat} {α : Type} [DecidableEq α] {Kf : α → Value} {t kt et g : TypeId} {kv : List (α × Value)} {x ky : Operand} {ck : AV} {a : α} {z : Value} (hop : o.op = .lookup t x ky true) (hw : wantA l σ o = some true) (hd : dstOk E.N o.dst = true)
    (ht : tMap E.P t = some (kt, et)) (hK : KeyOk E.P kt Kf) (hz : tZ1 E.P et = some z) (hx : ev σ x = .c (.raw (.map (some g)))) (hg : h.get g = some (.gen (MapI Kf kv))) (hk : ev σ ky = ck) (hka : ∀ S w v, Rep S w ck v → v = Kf a)
    (k : DrK E h l K n rest (σ.setO o.dst (.tup [.c (cstC ((kvGet a kv).getD z)), .c (.bool (kvGet a kv).isSome)]))) : DrK E h l K (n + 1) (o :: rest) σ := drk_cons (Calm.lookup2 hop hw hd ht hK hz hx hg hk hka) k
end
end Go.AI

/- The builtin min of three ints. -/
namespace Go.AI
section
variable {E : Env} {K : List It} {σ σ' : Sl} {h : Heap} {all rest : List Oper} {o : Oper}
theorem aw_min3 {x y z : Operand} {ts : Array TypeId} {a b c : Int} (hop : o.op = .call { callee := .builtin .min, args := #[x, y, z], argTypes := ts }) (hw : wantA all σ o = some true) (hd : dstOk E.N o.dst = true)
    (hx : ev σ x = .c (.int .i64 a)) (hy : ev σ y = .c (.int .i64 b)) (hz : ev σ z = .c (.int .i64 c)) (k : aw E (.ops all rest :: K) (σ.setO o.dst (.c (.int .i64 (min a (min b c))))) h) : aw E (.ops all (o :: rest) :: K) σ h := by
  refine aw_step hw (fun ac w s => ?_) k
  have h1 : ac.eval x = .int .i64 a := by have := ev_rep s x; rw [hx] at this; exact this
  have h2 : ac.eval y = .int .i64 b := by have := ev_rep s y; rw [hy] at this; exact this
  have h3 : ac.eval z = .int .i64 c := by have := ev_rep s z; rw [hz] at this; exact this
  have hrun : (execOp ac.eval o).run E.P w = .ok (.value (.int .i64 (min a (min b c)))) w := by
    simp only [execOp, hop, resolve, invoke, Go.builtin, Sem.run_bind, Sem.run_pure, Result.andThen_ok, List.map_toArray, List.map_cons, List.map_nil, h1, h2, h3]
    have hm : (if c < (if b < a then b else a) then c else (if b < a then b else a)) = min a (min b c) := by
      simp only [Int.min_def]; split <;> split <;> (try split) <;> (try split) <;> omega
    simp [Builtin.min_, Builtin.min2, hm]
  exact ⟨_, w, .inl hrun, s.put hd rfl⟩
end
end Go.AI

/- out = append(out, x) where the new element's slice has been made before; new slices in drawn regions. -/
namespace Go.AI
section
variable {E : Env} {K : List It} {σ σ' : Sl} {h : Heap} {all l rest : List Oper} {o o1 o2 : Oper}
theorem aw_push2 {t e size bytes n d1 s gt : Nat} {z : List CV} {og : Option Nat} {f f' : Nat → CV} {pre : Heap} {v : AV} (hop2 : o2.op = .call { callee := .builtin .append, args := #[.tmp s, .tmp d1], argTypes := #[t, t] })
    (hg2 : o2.guard = none) (hd2 : dstOk E.N o2.dst = true)
    (ht : tElem E.P t = some (e, size, bytes)) (hz : tZero E.P e = some z) (hzl : z.length = size) (hs0 : 0 < size) (hsz : size ≤ 16777216)
    (hevs : ev σ (.tmp s) = .c (gs og size n)) (hev1 : ev σ (.tmp d1) = .c (.osl gt size 0 1)) (hog : og = none → n = 0) (hok : okPart v = true) (hvl : v.cells.length = size) (hh : h = (gt, .cells e (1 * size) (ofL v.cells)) :: (pre ++ gh og e (n * size) f))
    (h63 : n + 1 ≤ maxLen) (hby : (n + 1) * bytes ≤ 140737488355328) (hf : ∀ j, j < (n + 1) * size → appF f (n * size) (ofL v.cells) j = f' j)
    (kk : ∀ g', g' ∉ pre.keys → aw E (.ops all rest :: K) ((σ.set d1 (.c .any)).setO o2.dst (.c (gs (some g') size (n + 1)))) (pre ++ gh (some g') e ((n + 1) * size) f')) : aw E (.ops all (o2 :: rest) :: K) σ h := by
  subst hh
  obtain ⟨ok1, ok2⟩ := okPart_spec hok
  have hw2 : ∀ σ2, wantA all σ2 o2 = some true := fun σ2 => by unfold wantA; rw [hg2]
  have hsrc : ∀ h0 : Heap, Src ((gt, .cells e (1 * size) (ofL v.cells)) :: h0) size (.osl gt size 0 1) 1 (ofL v.cells) := fun h0 => by
    refine .osl (f' := ofL v.cells) (m := 1 * size) (ty := e) (by simp [Heap.get]) (by omega) (fun j _ => by rw [Nat.zero_add])
  have hle : ∀ (B : AV) (g' : Nat), Sl.le ((σ.set d1 (.c .any)).setO o2.dst B) (σ.setO o2.dst B) := fun B g' t' => by
    rw [setO_get, setO_get]
    by_cases e1 : o2.dst = some t'
    · rw [if_pos e1, if_pos e1]; exact .inr rfl
    · rw [if_neg e1, if_neg e1]
      simp only [Sl.get_set]
      by_cases e2 : d1 = t'
      · rw [if_pos e2]; exact .inl rfl
      · rw [if_neg e2]; exact .inr rfl
  have hkp : ∀ g' : Nat, g' ∉ Heap.keys ((gt, .cells e (1 * size) (ofL v.cells)) :: pre) → g' ∉ pre.keys := fun g' hg' hm => hg' (by simp only [Heap.keys, List.map_cons, List.mem_cons]; exact .inr hm)
  have hperm : ∀ g' : Nat, (pre ++ gh (some g') e ((n + 1) * size) f').Sublist ((pre ++ [(g', .cells e ((n + 1) * size) f')])) := fun g' => List.Sublist.refl _
  cases og with
  | none =>
    have hn0 : n = 0 := hog rfl
    subst hn0
    refine aw_appendN (cx := .osl gt size 0 1) (k := 1) (f2 := ofL v.cells) hop2 (hw2 _) hd2 ht hz hzl hs0 hevs hev1 (hsrc _) (by omega) (by omega) (by omega) fun g' hg' => ?_
    refine aw_conv1 (f' := f') (fun j hj => ?_) ?_
    · have := hf j (by omega)
      rw [← this]; simp [appF]
    · have hnew : g' ∉ pre.keys := fun hm => hg' (by simp only [Heap.keys, List.map_cons, List.mem_cons, gh, List.append_nil]; exact .inr hm)
      refine aw_perm (h' := (gt, .cells e (1 * size) (ofL v.cells)) :: (pre ++ [(g', .cells e (1 * size) f')])) ?_ ?_
      · have : (pre ++ gh none e (0 * size) f) = pre := by simp [gh]
        rw [this]
        refine (List.Perm.swap _ _ _).trans (List.Perm.cons _ ?_)
        exact (List.perm_append_singleton _ _).symm
      · refine aw_weak (hle _ g') (List.Sublist.cons _ (List.Sublist.refl _)) ?_
        have := kk g' hnew
        simpa [gh, gs] using this
  | some g =>
    refine aw_nd fun hnd => ?_
    have hnp : g ∉ pre.keys := fun hm => by
      simp only [Heap.keys, gh, List.map_cons, List.map_append, List.map_nil, List.nodup_cons] at hnd
      have := (List.nodup_append.1 hnd.2).2.2 g hm g (by simp)
      exact this rfl
    have hgtg : gt ≠ g := fun e => by
      subst e
      simp [Heap.keys, gh] at hnd
    refine aw_append (cx := .osl gt size 0 1) (k := 1) (f2 := ofL v.cells) (g := g) (m := n * size) (f := f) (h2 := (gt, .cells e (1 * size) (ofL v.cells)) :: pre) hop2 (hw2 _) hd2 ht hz hzl hs0 hevs ?_ (Nat.le_refl _) hev1 (hsrc _) ?_ (by omega) h63 hby ?_ fun g' hg' => ?_
    · show Heap.get ((gt, _) :: (pre ++ [(g, _)])) g = _
      simp only [Heap.get, if_neg hgtg]
      exact Heap.get_app hnp
    · intro j hj
      have hjl : j < v.cells.length := by omega
      rw [ofL_get v.cells j v.cells[j] (List.getElem?_eq_getElem hjl)]
      exact List.all_eq_true.1 ok2 _ (List.getElem_mem hjl)
    · show Heap.del ((gt, _) :: (pre ++ [(g, _)])) g = _
      rw [Heap.del_ne hgtg, Heap.del_app hnp]
    · refine aw_conv1 (f' := f') hf ?_
      refine aw_perm (h' := (gt, .cells e (1 * size) (ofL v.cells)) :: (pre ++ [(g', .cells e ((n + 1) * size) f')])) ?_ ?_
      · refine (List.Perm.swap _ _ _).trans (List.Perm.cons _ ?_)
        exact (List.perm_append_singleton _ _).symm
      · refine aw_weak (hle _ g') (List.Sublist.cons _ (List.Sublist.refl _)) ?_
        exact kk g' (hkp g' hg')

theorem NewX.buildSlice {t e size bytes len : Nat} {xs : List Operand} {cells : List CV} (hop : o.op = .buildSlice t len (enumO 0 xs).toArray) (hw : wantA l σ o = some true) (hd : dstOk E.N o.dst = true) (ht : tElem E.P t = some (e, size, bytes))
    (hz : (tZero E.P e).isSome = true) (hl : xs.length = len) (hsm : len * size ≤ 16777216) (hlm : len ≤ 16777216) (hx : ∀ x ∈ xs, (ev σ x).flat = true ∧ (ev σ x).cells.all CV.solid = true ∧ (ev σ x).cells.length = size) (hc : (xs.map (ev σ)).flatMap AV.cells = cells) (hops : ∀ x ∈ xs, x ∈ o.op.operands) :
    NewX E h l σ o (fun g => .c (.osl g size 0 len)) (.cells e (len * size) (ofL cells)) := by
  subst hc
  refine NewX.of_run hw hd fun σ' ext a w he s => ?_
  have hmap : xs.map (ev σ') = xs.map (ev σ) := List.map_congr_left fun x hx' => he x (hops x hx')
  have hx2 : ∀ x ∈ xs, (ev σ' x).flat = true ∧ (ev σ' x).cells.all CV.solid = true ∧ (ev σ' x).cells.length = size := fun x hx' => by rw [he x (hops x hx')]; exact hx x hx'
  rw [← hmap]
  obtain ⟨hu, inf, hi, hsz, _⟩ := tElem_spec ht
  obtain ⟨z, hz'⟩ := Option.isSome_iff_exists.1 hz
  obtain ⟨i', zv, hi', hzv, _⟩ := tZero_spec hz'
  rw [hi] at hi'
  injection hi' with hi'
  subst hi'
  obtain ⟨hL, hcs⟩ := parts_rep s size xs hx2
  have hnk : w.heap.size ∉ (ext ++ h).keys := fun hm => Nat.lt_irrefl _ (s.klt hm)
  generalize hvs : xs.map a.eval = vs at hL hcs
  have hlv : vs.length = len := by rw [← hvs]; simpa using hl
  have hfl : (vs.flatMap fun v => v.cells.toList).length = len * size := by
    rw [← hlv]
    clear hL hvs hlv
    induction vs with
    | nil => simp
    | cons v vs ih => simp only [List.flatMap_cons, List.length_append, List.length_cons, ih (fun x hx => hcs x (List.mem_cons_of_mem _ hx)), Nat.add_mul]; have := hcs v (by simp); simp [this]; omega
  refine ⟨.slice (some ⟨w.heap.size, 0, none⟩) len len, w.alloc (.cells (vs.flatMap fun v => v.cells.toList).toArray e), ?_, Fr.alloc _ _ _, by simp, ?_, ?_⟩
  · have hm : (Array.map (fun x : Nat × Operand => (x.1, a.eval x.2)) (enumO 0 xs).toArray).toList = enumL 0 vs := by
      rw [← hvs, ← enum_map]; simp
    have hfill : ∀ zc : Array Value, Instr.fill (fun i => some (i * size, size)) ((Array.range (len * size)).map (fun x => zc[x % zc.size]!)) (enumL 0 vs) = some (vs.flatMap fun v => v.cells.toList).toArray := fun zc => by
      rw [fill_seq size vs 0 _ hcs (by simp [hlv])]
      rw [Nat.zero_mul, putL_full _ _ (by simp [hfl])]
    simp only [execOp, hop, Instr.buildSlice, Sem.run_bind, run_underlying hu, Result.andThen_ok, sizeOf, typeInfo, Sem.run_pure]
    simp only [run_program, hi, Result.andThen_ok, Sem.run_pure, hsz]
    rw [if_neg (by omega)]
    rw [hm]
    by_cases h0 : len * size = 0
    · rw [if_pos h0]
      simp only [Sem.run_bind, Sem.run_pure, Result.andThen_ok, hfill]
      rfl
    · rw [if_neg h0]
      simp only [Sem.run_bind, Sem.run_pure, Result.andThen_ok, zeroValue, typeInfo, run_program, hi, hzv, hfill]
      rfl
  · have hr := orep_new (C := E.C) (w := w) (ty := e) (h' := ((w.heap.size, AObj.cells e (len * size) (ofL ((xs.map (ev σ')).flatMap AV.cells))) :: (ext ++ h))) (hL.keep (keeps_alloc hnk))
    have hcl : ((xs.map (ev σ')).flatMap AV.cells).length = len * size := by rw [← hL.length, hfl]
    rw [hcl] at hr
    exact hr
  · exact ⟨len, rfl, Nat.le_refl _, by unfold maxLen; omega, (vs.flatMap fun v => v.cells.toList).toArray, e, heap_alloc_new w _, by simp [hfl]⟩
end
end Go.AI

/- Contracts, more: weaker ends; calls of function values in drawn regions; blocks that are apart. -/
namespace Go.AI
theorem permL {α : Type} (l : List α) (is js : List Nat) (h : is.Perm js) : (is.filterMap fun i => l[i]?).Perm (js.filterMap fun i => l[i]?) := h.filterMap _
theorem eI {P : Prop} (k : P := by (repeat' first|exact has0_nil|refine has0_cons ?_ ?_)<;>simp) : P := k
theorem Fh.mono {P : Program} {f : FuncId} {hc : Heap} {args : List AV} {Q Q' : AV → Heap → Prop} (hf : Fh P f hc args Q) (h : ∀ r h', Q r h' → Q' r h') : Fh P f hc args Q' :=
  ⟨hf.1, fun C vs h1 h2 h3 h4 => (hf.2 C vs h1 h2 h3 h4).mono (by
    rintro e w ⟨v, r, h', he, hq, rest⟩
    exact ⟨v, r, h', he, h _ _ hq, rest⟩)⟩
def neA (a : Nat) : List Nat → Prop
  | [] => True
  | b :: l => ((a = b) = False ∧ (b = a) = False) ∧ neA a l
def ndP : List Nat → Prop
  | [] => True
  | a :: l => neA a l ∧ ndP l
theorem neA_of {a : Nat} : ∀ {l : List Nat}, a ∉ l → neA a l
  | [], _ => trivial
  | b :: l, h => by
    rw [List.mem_cons, not_or] at h
    exact ⟨⟨eq_false h.1, eq_false fun e => h.1 e.symm⟩, neA_of h.2⟩
theorem ndP_of : ∀ {l : List Nat}, l.Nodup → ndP l
  | [], _ => trivial
  | a :: l, h => by
    rw [List.nodup_cons] at h
    exact ⟨neA_of h.1, ndP_of h.2⟩
section
variable {E : Env} {K : List It} {l : List Oper} {FP : Heap} {σ σ' : Sl} {h : Heap} {o : Oper} {i : Nat} {cs : List (Nat × Nat)}
/-- A call of a function value that is handed blocks. -/
theorem cw_callhv {FP' : Heap} {m : Nat} {f : FuncId} {x : Operand} {gs : List Nat} {xs : List Operand} {ts : Array TypeId} {hc hr : Heap} {args : List AV} {Q : AV → Heap → Prop} (ho : l[i]? = some o) (hf : Fh E.P f hc (args ++ gs.map fun g => .c (.optr g 0)) Q) (hop : o.op = .call { callee := .value x, args := xs.toArray, argTypes := ts }) (hw : wantA l σ o = some true) (hd : dstOk E.N o.dst = true) (hx : ev σ x = .c (fnC f gs))
    (hp : h.Perm (hc ++ hr)) (le : LeA [] (xs.map (ev σ)) args) (hFP : ∀ r h', Q r h' → Has0 FP' (h' ++ hr)) (k : ∀ r h', Q r h' → (∀ g ∈ h'.keys, g ∉ hr.keys) → CW E l K FP' cs (σ.setO o.dst r) (h' ++ hr)) (hm : m = 2 ∨ m = 1 ∧ FP' = FP := by first | exact .inl rfl | exact .inr ⟨rfl, rfl⟩) : CW E l K FP ((i, m) :: cs) σ h := by
  refine .pin ho hm (R := fun r h2 => ∃ h', Q r h' ∧ (∀ g ∈ h'.keys, g ∉ hr.keys) ∧ h2 = h' ++ hr) (fun σ' K hs => ?_) ?_ ?_
  · have he : xs.map (ev σ') = xs.map (ev σ) := evs_same (fun x hx => by rw [hop]; simp [Op.operands, Call.operands, hx]) hs
    exact aw_callhv hf hop ((want_same hs).trans hw) hd ((ev_same (by rw [hop]; simp [Op.operands, Call.operands]) hs).trans hx) hp (by rw [he]; exact le) fun r h' hq hfr => aw_ops_nil (aw_stop ⟨r, ⟨h', hq, hfr, rfl⟩, rfl⟩)
  · rintro r h2 ⟨h', hq, _, rfl⟩; exact hFP r h' hq
  · rintro r h2 ⟨h', hq, hfr, rfl⟩; exact k r h' hq hfr
/-- An entry of a map literal. -/
theorem aw_insNew {rest : List Oper} {α : Type} [DecidableEq α] {Kf : α → Value} {t kt et g : TypeId} {kv : List (α × Value)} {x ky vl : Operand} {ck cv : AV} {a : α} {v : Value} (hop : o.op = .insert t x ky vl) (hdn : o.dst = none) (hw : wantA l σ o = some true)
    (ht : tMap E.P t = some (kt, et)) (hK : KeyOk E.P kt Kf) (hx : ev σ x = .c (.raw (.map (some g)))) (hg : h.get g = some (.gen (MapI Kf kv))) (hk : ev σ ky = ck) (hka : ∀ S w u, Rep S w ck u → u = Kf a) (hv : ev σ vl = cv) (hva : ∀ S w u, Rep S w cv u → u = v)
    (hnew : kvGet a kv = none) {h' : Heap} (hh : h.set g (.gen (MapI Kf (kv ++ [(a, v)]))) = h') (k : aw E (.ops l rest :: K) σ h') : aw E (.ops l (o :: rest) :: K) σ h := by
  subst hh
  refine aw_step hw (fun ac w s => ?_) k
  have h1 := ev_rep s x
  rw [hx] at h1
  have h1' : ac.eval x = .map (some g) := h1
  have h2 := ev_rep s ky
  rw [hk] at h2
  have h2' := hka _ _ _ h2
  have h3 := ev_rep s vl
  rw [hv] at h3
  have h3' := hva _ _ _ h3
  obtain ⟨ob, hb, es, c, rfl, hes⟩ := s.heap g _ (Heap.get_mem hg)
  have hkeys : es.toList.map (·.key) = (kv.map (·.1)).map Kf := by
    have := congrArg (List.map Prod.fst) hes
    rw [List.map_map, List.map_map] at this
    rw [List.map_map]
    exact this
  have hfind := hK.find a (kv.map (·.1)) es.toList w hkeys
  have hget := fAsk_get (K := Kf) a kv es.toList 0 hes
  have hnone : fAsk a (kv.map (·.1)) es.toList 0 = none := by
    cases hf : fAsk a (kv.map (·.1)) es.toList 0 with
    | none => rfl
    | some p => rw [hf, hnew] at hget; cases hget
  have hgl : g < w.heap.size := (Array.getElem?_eq_some_iff.1 hb).1
  let w' : World := { w with heap := w.heap.setIfInBounds g (.map (es.push { key := Kf a, val := v, born := c }) (c + 1)) }
  have hrun : (Instr.mapUpdate t (ac.eval x) (ac.eval ky) (ac.eval vl)).run E.P w = .ok () w' := by
    rw [h1', h2', h3']
    unfold Instr.mapUpdate
    simp only [Sem.run_bind, run_underlying (tMap_spec ht), Result.andThen_ok, runGet hb, hK.check, hfind, hnone, runSet _ hb]
    rfl
  refine ⟨undef, w', .inr ⟨?_, rfl⟩, ?_⟩
  · simp only [execOp, hop, Sem.run_bind, hrun, Result.andThen_ok]
    rfl
  · rw [hdn]
    have hfr : Fr (fun b => b = g) w w' := by
      refine ⟨rfl, rfl, rfl, by simp [w'], fun b _ hne => ?_, fun g' m hh => ?_⟩
      · simp only [w']; rw [Array.getElem?_setIfInBounds_ne (fun e => hne e.symm)]
      · obtain ⟨cs, ty, hc, hs⟩ := hh
        refine ⟨cs, ty, ?_, hs⟩
        have hne : g' ≠ g := fun e => by rw [e, hb] at hc; cases hc
        simp only [w']
        rw [Array.getElem?_setIfInBounds_ne (fun e => hne e.symm)]; exact hc
    refine s.setObj hg hfr ⟨_, by simp only [w']; rw [Array.getElem?_setIfInBounds_self_of_lt hgl], _, _, rfl, ?_⟩
    simp only [Array.toList_push, List.map_append, List.map_cons, List.map_nil, hes]
/-- The order of the blocks does not matter. -/
theorem cw_perm {h' : Heap} (hp : h.Perm h') (k : CW E l K FP cs σ h') : CW E l K FP cs σ h := by
  induction cs generalizing σ h h' with
  | nil =>
    cases k with
    | nil k => exact .nil (aw_perm hp k)
  | cons c cs ih =>
    cases k with
    | flt ho hf k => exact .flt ho hf (ih hp k)
    | pin ho hmk hpn hfp k => exact .pin ho hmk (fun σ' K hs => aw_perm hp (hpn σ' K hs)) hfp k
theorem NewX.makeMap {α : Type} {Kf : α → Value} {t : TypeId} (hop : o.op = .makeMap t none) (hw : wantA l σ o = some true) (hd : dstOk E.N o.dst = true) : NewX E h l σ o (fun g => .c (.raw (.map (some g)))) (.gen (MapI Kf [])) := by
  refine NewX.of_run hw hd fun σ' ext a w he s => ?_
  refine ⟨.map (some w.heap.size), w.alloc (.map #[] 0), ?_, Fr.alloc _ _ _, by simp, ⟨_, heap_alloc_new w _, _, _, rfl, rfl⟩, rfl⟩
  simp only [execOp, hop]
  rfl
theorem fill_congr {f g : Nat → Option (Nat × Nat)} : ∀ (vs : List (Nat × Value)) (us : Array Value), (∀ p ∈ vs, g p.1 = f p.1) → Instr.fill g us vs = Instr.fill f us vs
  | [], _, _ => rfl
  | (i, v) :: vs, us, h => by
    simp only [Instr.fill]
    rw [h (i, v) (List.mem_cons_self ..)]
    cases f i with
    | none => rfl
    | some p =>
      simp only
      rw [fill_congr vs _ fun p hp => h p (List.mem_cons_of_mem _ hp)]
def arrFl (n s : Nat) : List (Nat × Nat) := (List.range n).map fun i => (i * s, s)
/-- An array literal. -/
theorem buildArr_ok {P : Program} {ρ : Operand → AV} {t el : TypeId} {n s : Nat} {ag : Bool} {ps : List (Nat × Operand)} {out z : List CV} (hu : P.underlying t = some (.array n el)) (hsz : tSz P el = some (ag, s)) (hz : tZero P t = some z) (hf : fillC (arrFl n s) z (mapCells ρ ps) = some out) (hps : ∀ p ∈ ps, p.1 < n) (hreq : okParts ρ ps = true) :
    POk P h ρ (.build t ps.toArray) (.agg out) := by
  intro S w e hS ho _
  obtain ⟨i, zv, hi, hzv, rfl⟩ := tZero_spec hz
  have hreq' := okParts_spec hreq
  rw [mapCells_eq] at hf
  obtain ⟨us', h1, h2⟩ := fillC_ok (S := S) (w := w) (arrFl n s) (ps.map fun p => (p.1, (ρ p.2).cells)) (ps.map fun p => (p.1, e p.2)) (zv.cells.toList.map cstC) zv.cells out (by simp)
    (fun j p q hp hq => by
      rw [List.getElem?_map] at hp hq
      cases hj : ps[j]? with
      | none => rw [hj] at hp; cases hp
      | some y =>
        rw [hj] at hp hq
        simp only [Option.map_some, Option.some.injEq] at hp hq
        subst hp
        subst hq
        have hm : y ∈ ps := List.mem_of_getElem? hj
        obtain ⟨hnt, hsol⟩ := hreq' y hm
        exact (rep_cells hnt hsol (ho y.2 (by simp only [Op.operands, List.mem_toArray, List.mem_map]; exact ⟨y, hm, rfl⟩))).1)
    (cstL_rep S w _) hf
  refine ⟨.agg us', fun o hop => ?_, us'.toList, by simp, h2⟩
  have hmap : (Array.map (fun x : Nat × Operand => (x.1, e x.2)) ps.toArray).toList = ps.map fun p => (p.1, e p.2) := by simp
  have hfc : Instr.fill (fun i => some (i * s, s)) zv.cells (ps.map fun p => (p.1, e p.2)) = some us' := by
    rw [← h1]
    refine fill_congr _ _ fun p hp => ?_
    obtain ⟨q, hq, rfl⟩ := List.mem_map.1 hp
    have := hps q hq
    simp [arrFl, this]
  simp only [execOp, hop, Instr.build, Sem.run_bind, zeroValue, typeInfo, run_program, hi, hzv, Result.andThen_ok, Sem.run_pure, run_underlying hu, (tSz_run hsz w).2]
  rw [hmap, hfc]
  rfl
end
end Go.AI

/- faultlineref15.Formula. -/
namespace Go.PN
open Go.AI
noncomputable def formTo (f : FM) : Nat → List Bool
  | 0 => []
  | k + 1 => formTo f k ++ [fvalB' f k]
where fvalB' (f : FM) (k : Nat) : Bool := ofB f (fvTo f k f.nodes.length) k f.top
theorem formTo_len (f : FM) : ∀ k, (formTo f k).length = k
  | 0 => rfl
  | k + 1 => by simp [formTo, formTo_len f k]
end Go.PN
namespace Go.Proofs.YtmfmnmkipjpjhaaGreat
open Go.AI Go.PN
attribute [local irreducible] aw Fa Fh DrK
set_option maxHeartbeats 1600000 in
theorem formula_fa (f : FM) (hf : FmOk f) (hv : f.vars ≤ 24) : Fa Tryz.prog 14 [.agg (fmc false f)] (.c (bs true (formTo f (2 ^ f.vars.toNat)))) := by
  have f1 := hf.v0
  have e1 := shl_one f.vars.toNat (by omega)
  rw [show ((f.vars.toNat : Nat) : Int) = f.vars from by omega] at e1
  have hp : 2 ^ f.vars.toNat ≤ 16777216 := by
    have h3 : 2 ^ f.vars.toNat ≤ 2 ^ 24 := Nat.pow_le_pow_right (by omega) (by omega)
    have h4 : (2 : Nat) ^ 24 = 16777216 := by decide
    omega
  generalize 2 ^ f.vars.toNat = M at *
  refine fa_of_body Tryz.func14 rfl rfl (by simp [Tryz.ntmps14]) fun C hC => ?_
  simp only [initS, Nat.reduceAdd]
  refine yG e1 ?_
  refine yB e1 fun g1 hn_g1=>?_
  refine yG (oj e1 hn_g1) ?_
  refine aw_lp (fun x : Option Nat × Nat => [(1, .c (.optr g1 0)), (3, .c (gs x.1 1 x.2)), (4, .c (.int .i64 x.2))]) (fun x => [(g1, .cells 24 3 (ofL (fmc false f)))] ++ gh x.1 4 x.2 (bsF (formTo f x.2))) (fun x => (x.1 = none → x.2 = 0) ∧ (∀ g, x.1 = some g → ¬ g = g1) ∧ x.2 ≤ M) (fun x => M - x.2) (none, 0) (zB (oj e1 hn_g1)) zZ ⟨fun _ => rfl, (fun g e => by cases e), Nat.zero_le _⟩ ?_
  rintro ⟨og, k⟩ ⟨hog, hgn, hk⟩
  dsimp only at hog hgn hk ⊢
  refine yS (oj e1 hn_g1) ?_
  have hvl := formTo_len f k
  refine yG (oj e1 hn_g1) ?_
  refine yF (oj e1 hn_g1) (fun hb=>?_) fun hb=>?_
  · have hin : k < M := by have := of_decide_eq_true hb; omega
    refine yG (oj e1 hn_g1) ?_
    refine yC (oj e1 hn_g1) (fvalue_fa f hf k ?_) ?_
    · omega
    refine yG (oj e1 hn_g1) ?_
    refine aw_push (pre := [(g1, .cells 24 3 (ofL (fmc false f)))]) rfl rfl rfl rfl rfl rfl rfl (zE (oj e1 hn_g1)) (zE (oj e1 hn_g1)) (by rfl) (by omega) (by omega) (zE (oj e1 hn_g1)) (by omega) (by exact hog) (zE (oj e1 hn_g1)) (by rfl) (by rfl) (by first | rfl | simp only [Nat.mul_one, List.nil_append, List.cons_append] <;> rfl) (by unfold maxLen; omega) (by omega) (by exact bs_push hvl _) fun g hn_g => ?_
    replace hn_g := Heap.ne_of hn_g
    first | dsimp only [Heap.ne, gh] at hn_g | dsimp only [Heap.ne] at hn_g | skip
    refine yS (oj e1 (oj hn_g1 hn_g)) ?_
    refine yG (oj e1 (oj hn_g1 hn_g)) ?_
    refine aw_stop ⟨(some g, k + 1), by dsimp only; omega, (zB (oj e1 (oj hn_g1 hn_g))), zZ, some_ne, (fun g e => by cases e; exact (of_eq_false hn_g.1.1)), by dsimp only; omega⟩
  · have hin : k = M := by have := of_decide_eq_false hb; omega
    subst hin
    refine yG (oj e1 hn_g1) ?_
    refine yT hC (oj e1 hn_g1) ?_
    exact .one (.c (ler_gsb (pre := [(g1, _)]) hog (fun g e => by simp only [Heap.keys, List.map_cons, List.map_nil, List.mem_singleton]; exact hgn g e) hvl))
end Go.Proofs.YtmfmnmkipjpjhaaGreat

/- faultlineref15.add. -/
namespace Go.PN
open Go.AI
/-- Where a node stands, or none. -/
def findN (x : DN) : List DN → Nat → Option Nat
  | [], _ => none
  | y :: ns, i => if y = x then some i else findN x ns (i + 1)
def addF (o : List Int) (tb : List Bool) : Nat → Nat → Nat → List DN → List DN × Int
  | 0, _, st, ns => (ns, if tb.getD st false then 1 else 0)
  | k + 1, lv, st, ns =>
    let a := addF o tb k (lv + 1) st ns
    let b := addF o tb k (lv + 1) (st ||| 2 ^ (o.getD lv 0).toNat) a.1
    if a.2 = b.2 then (b.1, a.2) else
      let x : DN := ⟨o.getD lv 0, a.2, b.2⟩
      match findN x b.1 0 with
      | some i => (b.1, 2 + i)
      | none => (b.1 ++ [x], 1 + ((b.1.length + 1 : Nat) : Int))
theorem findN_step {x : DN} {ns : List DN} {i : Nat} (h : i < ns.length) : findN x (ns.drop i) i = if ns.getD i dn0 = x then some i else findN x (ns.drop (i + 1)) (i + 1) := by
  rw [List.drop_eq_getElem_cons h, findN]
  rw [List.getD_eq_getElem?_getD, List.getElem?_eq_getElem h]
  rfl
theorem dn_beq (a : DN) (v l u : Int) : (a.v == v && (a.lo == l && a.hi == u)) = decide (a = ⟨v, l, u⟩) := by
  rw [Bool.eq_iff_iff]
  simp only [Bool.and_eq_true, beq_iff_eq, decide_eq_true_eq]
  cases a
  simp
end Go.PN
namespace Go.AI
section
variable {E : Env} {K : List It} {σ : Sl} {h : Heap}
theorem aw_rethw {P : Program} {fn : Func} {C : Ctx} {Q : AV → Heap → Prop} {rvs : List ResultVar} (hrs : fn.results = rvs.toArray) {h' : Heap} (hsub : h'.Sublist h) (k : ∀ R : Option AV → Prop, (∀ x, flatR x = true → Q x h' → R (some x)) → R (resAV P σ h rvs)) :
    aw (envOfH P fn C Q) (.code .ret :: K) σ h := by
  have hr : ∀ x, flatR x = true → Q x h' → some x = resAV P σ h rvs → aw (envOfH P fn C Q) (.code .ret :: K) σ h := fun x hf hq e a w s => by
    refine wp_ret (exW_ret a w ?_)
    obtain ⟨v, hv, hrep⟩ := results_run s hrs e.symm (flatR_spec hf)
    have hks : ∀ b, b ∈ h'.keys → b ∈ h.keys := fun b hb => by
      obtain ⟨p, hp, e⟩ := List.mem_map.1 hb
      exact List.mem_map.2 ⟨p, hsub.subset hp, e⟩
    have kp : Keeps (Stab C h w) (Stab C h' w) w w := ⟨fun t b hb => ⟨hb.1, hb.2.1, fun hm => hb.2.2 (hks b hm)⟩, fun _ _ _ => rfl, fun _ _ e => e⟩
    exact ⟨s.defers, v, hv, v, x, h', rfl, hq, (hsub.map _).nodup s.nodup, fun g hg => s.keys g (hks g hg), hrep.keep kp, fun g o hm => ORep.keep kp rfl (s.heap g o (hsub.subset hm)), s.frame⟩
  have := k (fun y => y = resAV P σ h rvs → aw (envOfH P fn C Q) (.code .ret :: K) σ h) hr
  exact this rfl
end
theorem updF_at (xs : List CV) (i : Nat) (b : CV) (h : i < xs.length) : updF (ofL xs) i [b] = ofL (xs.set i b) := by
  funext j
  simp only [updF]
  by_cases hj : j = i
  · subst hj
    rw [if_pos rfl, ofL_get (xs.set j b) j b (by rw [List.getElem?_set_self h])]
  · rw [if_neg hj]
    by_cases hl : j < xs.length
    · rw [ofL_get xs j xs[j] (List.getElem?_eq_getElem hl), ofL_get (xs.set i b) j xs[j] (by rw [List.getElem?_set_ne (Ne.symm hj)]; exact List.getElem?_eq_getElem hl)]
    · have e : ∀ (ys : List CV) (n : Nat), ys.length ≤ n → ofL ys n = .any := by
        intro ys
        induction ys with
        | nil => intro n _; rfl
        | cons y ys ih =>
          intro n hn
          match n, hn with
          | n + 1, hn => exact ih n (by simpa using hn)
      rw [e xs j (by omega), e (xs.set i b) j (by rw [List.length_set]; omega)]
@[go_sem ↓] theorem updF_3_0 (a b c x : CV) : updF (ofL [a, b, c]) 0 [x] = ofL [x, b, c] := updF_at [a, b, c] 0 x (by simp)
@[go_sem ↓] theorem updF_3_1 (a b c x : CV) : updF (ofL [a, b, c]) 1 [x] = ofL [a, x, c] := updF_at [a, b, c] 1 x (by simp)
@[go_sem ↓] theorem updF_3_2 (a b c x : CV) : updF (ofL [a, b, c]) 2 [x] = ofL [a, b, x] := updF_at [a, b, c] 2 x (by simp)
theorem solid_gs3 {og : Option Nat} {s n m : Nat} {t : Bool} {f : Nat → CV} {k : IntKind} {z : Int} : (AV.agg [.row t 1 m f, gs og s n, .int k z]).cells.all CV.solid = true := by
  cases og <;> rfl
end Go.AI
namespace Go.Proofs.YtmfmnmkipjpjhaaGreat
open Go.AI Go.PN
attribute [local irreducible] aw Fa Fh DrK
/-- What a call of add with k levels left has come to. -/
def AddOk (o : List Int) (tb : List Bool) (rt : Int) (k : Nat) : Prop := ∀ (lv st : Nat) (ns : List DN) (og : Option Nat) (n : Nat), lv + k = o.length → st < 2 ^ o.length → ns.length = n → n + 2 ^ k ≤ 1000000 → (og = none → n = 0) →
    Fh Tryz.prog 112 (gh og 104 (n * 3) (dnsF ns)) [.agg [is true o, gs og 3 n, .int .i64 rt], .c (bs false tb), .c (.int .i64 lv), .c (.int .i64 st)]
      (fun res h => ∃ og' n', (addF o tb k lv st ns).1.length = n' ∧ n' < n + 2 ^ k ∧ (og' = none → n' = 0) ∧ res = .tup [.agg [is true o, gs og' 3 n', .int .i64 rt], .c (.int .i64 (addF o tb k lv st ns).2)] ∧ h = gh og' 104 (n' * 3) (dnsF (addF o tb k lv st ns).1))
set_option maxRecDepth 100000 in
set_option maxHeartbeats 3200000 in
theorem add_zero (o : List Int) (tb : List Bool) (rt : Int) (ho : o.length ≤ 12) (hr : ∀ x ∈ o, 0 ≤ x ∧ x < o.length) (ht : tb.length = 2 ^ o.length) : AddOk o tb rt 0 := by
  intro lv st ns og n hk hst hn hnl hog
  refine fh_of_body Tryz.func112 rfl rfl (by simp [Tryz.ntmps112]) fun C hC => ?_
  simp only [initS, Nat.reduceAdd]
  refine xG ?_
  refine xB fun g4 hn_g4=>?_
  refine yG hn_g4 ?_
  refine yA hn_g4 fun g8 hn_g8=>?_
  refine yG (oj hn_g4 hn_g8) ?_
  have e1 : ((lv : Int) == (o.length : Int)) = true := by simp; omega
  refine yG (oj hn_g4 (oj hn_g8 e1)) ?_
  refine yP (oj hn_g4 (oj hn_g8 e1)) ?_
  refine yG (oj hn_g4 (oj hn_g8 e1)) ?_
  refine yF (oj hn_g4 (oj hn_g8 e1)) (fun hb=>?_) fun hb=>?_
  · skip
    refine yG (oj hn_g4 (oj hn_g8 e1)) ?_
    refine yW (oj hn_g4 (oj hn_g8 e1)) ?_
    refine yS (oj hn_g4 (oj hn_g8 e1)) ?_
    refine yG (oj hn_g4 (oj hn_g8 e1)) ?_
    refine aw_keep [(8, .c (.optr g8 0)), (9, .c (.int .i64 1))] ((g8, .cells 31 3 (ofL [is true o, gs og 3 n, .int .i64 rt])) :: gh og 104 (n * 3) (dnsF ns)) (zB (oj hn_g4 (oj hn_g8 e1))) (List.Sublist.cons_cons _ (List.Sublist.cons _ (List.Sublist.refl _))) ?_
    refine aw_rethw (h' := gh og 104 (n * 3) (dnsF ns)) rfl (List.Sublist.cons _ (List.Sublist.refl _)) (fun R hR => ?_)
    simp only [go_sem, hn_g4, hn_g8, e1]
    refine hR _ rfl ?_
    clear hR R
    exact ⟨og, n, hn, by simp, hog, by rw [addF, hb]; rfl, rfl⟩
  · skip
    refine yG (oj hn_g4 (oj hn_g8 e1)) ?_
    refine yW (oj hn_g4 (oj hn_g8 e1)) ?_
    refine yS (oj hn_g4 (oj hn_g8 e1)) ?_
    refine yG (oj hn_g4 (oj hn_g8 e1)) ?_
    refine aw_keep [(8, .c (.optr g8 0)), (9, .c (.int .i64 0))] ((g8, .cells 31 3 (ofL [is true o, gs og 3 n, .int .i64 rt])) :: gh og 104 (n * 3) (dnsF ns)) (zB (oj hn_g4 (oj hn_g8 e1))) (List.Sublist.cons_cons _ (List.Sublist.cons _ (List.Sublist.refl _))) ?_
    refine aw_rethw (h' := gh og 104 (n * 3) (dnsF ns)) rfl (List.Sublist.cons _ (List.Sublist.refl _)) (fun R hR => ?_)
    simp only [go_sem, hn_g4, hn_g8, e1]
    refine hR _ rfl ?_
    clear hR R
    exact ⟨og, n, hn, by simp, hog, by rw [addF, hb]; rfl, rfl⟩
end Go.Proofs.YtmfmnmkipjpjhaaGreat
