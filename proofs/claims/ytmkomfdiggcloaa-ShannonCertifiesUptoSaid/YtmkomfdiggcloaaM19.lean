/- Texts of one proof, laid one behind the other by a program (merge.py): Glue2, Frm1, Frm2, AiDrawC, AiDrawD. -/
import Derived.Test.YtmkomfdiggcloaaM13
import Derived.Test.YtmkomfdiggcloaaM18
set_option linter.unusedSimpArgs false
set_option linter.unusedVariables false
/- The readers of this program's data, and what the statement asks behind the call. -/
namespace Go.Proofs.Ytmkomfdiggcloaa
open Go.AI Go.PN Go.ChangeShapes Go.WideShapes Go.RowKit
theorem glue_laid : laidOutB Try.prog = true := by kernel_rfl
theorem own : ownKnob Try.prog.godebug = none := by kernel_rfl
section
variable {H : Type} {enc : TypeId × Value → H} {P : Program}
theorem trodAll_stays (hl : laidOutB P = true) {W W' : World} {sp : Nat → Bool} : ∀ {ts : List TypeId} {vs : List Value} {ds : List (DataW H)} {p : List MemPlace}, (∀ t ∈ ts, P.readableRec t = true ∧ t < P.types.size) → DataW.TrodAll enc P W 0 (fun _ => true) true ts vs ds p → (∀ x ∈ p, W.sameAt W' x) → (∀ x ∈ p, sp x.block = true) → DataW.TrodAll enc P W' 0 sp true ts vs ds p
  | [], _, _, _, _, h, _, _ => by
    obtain ⟨rfl, rfl, rfl⟩ := trodAll_nil h
    exact rfl
  | t :: ts, _, _, _, hts, h, hs, hp => by
    obtain ⟨v, vs, d, ds, a, b, rfl, rfl, rfl, h1, h2⟩ := trodAll_cons h
    exact ⟨a, b, WideElems.Trod_stays hl (hts t (List.mem_cons_self ..)).1 (hts t (List.mem_cons_self ..)).2 h1 (fun x hx => hs x (List.mem_append_left _ hx)) (fun x hx => hp x (List.mem_append_left _ hx)),
      trodAll_stays hl (fun t' ht => hts t' (List.mem_cons_of_mem _ ht)) h2 (fun x hx => hs x (List.mem_append_right _ hx)) (fun x hx => hp x (List.mem_append_right _ hx)), rfl⟩
/-- Behind a call that leaves all old memory alone and answers true. -/
theorem post_of_below {fn : Func} {s : ChangeSpec} {W W' : World} {args : Array Value} {ds gs : List (DataW H)} {before : List MemPlace} {tb : TypeId} (hl : laidOutB P = true) (hts : ∀ t ∈ fn.params.toList, P.readableRec t = true ∧ t < P.types.size) (hrt : fn.resultTypes = #[tb]) (hbt : P.underlying tb = some .bool) (hvars : s.vars = [])
    (hW : DataW.Whole enc P fn.params.toList s.vars false W args.toList ds gs before) (hfn : ∀ gs' : List (DataW H), gs' = [] → s.fn H (ds ++ gs') = { results := [.lit (.bool true)], args := ds }) (hb : Below W.heap.size W W') : s.post enc P fn false true false false W args (.bool true) W' := by
  have hWk := hW
  obtain ⟨p, q, hA, hV, rfl, hfz, _⟩ := hW
  rw [hvars] at hV
  obtain ⟨rfl, rfl⟩ := trodVars_none hV
  have hlt : ∀ x ∈ p ++ [], x.block < W.heap.size := fun x hx => by simpa using hWk.lt x hx
  have hlt' : ∀ x ∈ p, x.block < W.heap.size := fun x hx => hlt x (List.mem_append_left _ hx)
  have hres : ∀ (b : Nat) (sp : Nat → Bool) (hd : Bool), DataW.TrodAll enc P W' b sp hd fn.resultTypes.toList ((Value.bool true).resultList fn.resultTypes.size) (s.fn H (ds ++ [])).results [] := fun b sp hd => by
    rw [hrt, hfn [] rfl]
    exact trodAll_cons_mk (shut_bool hbt _) trodAll_mk0
  have hargs : ∀ sp : Nat → Bool, (∀ x ∈ p, sp x.block = true) → DataW.TrodAll enc P W' 0 sp true fn.params.toList args.toList (s.fn H (ds ++ [])).args p := fun sp hsp => by
    rw [hfn [] rfl]
    exact trodAll_stays hl hts hA (fun x hx => hb.same (hlt' x hx)) hsp
  have hvr : ∀ sp : Nat → Bool, DataW.TrodVars enc P W' sp s.vars (s.fn H (ds ++ [])).vars [] := fun sp => by
    rw [hvars, hfn [] rfl]; exact rfl
  refine ⟨ds, [], p ++ [], [], p, [], hWk, hres _ _ _, hargs _ (fun x hx => by simpa using hlt' x hx), hvr _, hb.frame _, fun _ => ?_⟩
  refine ⟨ok_one hrt rfl (okWide_bool_mk hbt _), _, _, ([] ++ p) ++ [], ⟨[] ++ p, [], trodAll_append (hargs _ (fun _ _ => rfl)) (hres _ _ _), hvr _, rfl, ?_, fun h => by cases h⟩, ?_⟩
  · intro b off hp
    have hp' : MemPlace.cell b off ∈ p ++ [] := by simpa using hp
    rw [Below.frozen hb (hlt _ hp')]
    exact hfz b off hp'
  · intro x hx _
    simpa using hx
/-- An argument that is a struct. -/
theorem arg_agg {α : Type} {c : α → List CV} {B : α → Nat → Prop} {t : TypeId} {fs : Array Field} (hr : Rdr P t c B) (ht : P.underlying t = some (.struct fs)) {W : World} {base : Nat} {v : Value} {d : DataW H} {p : List MemPlace} (ho : Value.okWide P W .any base t v) (h : DataW.Trod enc P W 0 (fun _ => true) true t v d p) :
    ∃ y, Rep0 (AllB W) W (.agg (c y)) v ∧ B y (Rows.uptoBulk d) := by
  obtain ⟨cs, rfl, _⟩ := okWide_struct ht ho
  obtain ⟨fuel, hf⟩ := h
  obtain ⟨y, h1, h2⟩ := hr H enc W fuel _ _ hf
  exact ⟨y, ⟨cs.toList, by simp, h1⟩, h2⟩
/-- An argument that is one cell. -/
theorem arg_cell {α : Type} {c : α → CV} {B : α → Nat → Prop} {t : TypeId} (hr : Rdr P t (fun y => [c y]) B) {W : World} {v : Value} {d : DataW H} {p : List MemPlace} (hv : v.cells = #[v]) (h : DataW.Trod enc P W 0 (fun _ => true) true t v d p) :
    ∃ y, Rep0 (AllB W) W (.c (c y)) v ∧ B y (Rows.uptoBulk d) := by
  obtain ⟨fuel, hf⟩ := h
  rw [hv] at hf
  obtain ⟨y, h1, h2⟩ := hr H enc W fuel _ _ hf
  exact ⟨y, h1.1, h2⟩
end
theorem wok_mono {xs : List Nat} : ∀ (m n : Nat), xs.length ≤ m ∧ (∀ x ∈ xs, x < 4294967296) → m ≤ n → xs.length ≤ n ∧ ∀ x ∈ xs, x < 4294967296 := fun _ _ h hm => ⟨Nat.le_trans h.1 hm, h.2⟩
theorem rdr_words : Rdr Try.prog 29 (fun xs : List Nat => [ws true xs]) (fun xs n => xs.length ≤ n ∧ ∀ x ∈ xs, x < 4294967296) :=
  (rdr_slice (0 : Nat) true Try.underlying29 (s := 1) (by kernel_rfl) (by omega) (fun _ _ _ h _ => h) (rdr_word Try.underlying85)).to id (fun ys => by
    show [CV.row true 1 ys.length _] = [CV.row true 1 ys.length _]
    congr 2
    funext j
    show _ = ofL [CV.int .u32 ((ys.getD (j / 1) 0 : Nat) : Int)] (j % 1)
    rw [Nat.div_one, Nat.mod_one]
    rfl) (fun _ _ h => h)
theorem rdr_rat : Rdr Try.prog 31 (fun r : RD => [CV.bool r.neg, ws true r.num, ws true r.den]) (fun r _ => (∀ x ∈ r.num, x < 4294967296) ∧ ∀ x ∈ r.den, x < 4294967296) := by
  have r := rdr_struct3 Try.underlying31 (s0 := 1) (s1 := 1) (s2 := 1) (by kernel_rfl) (by kernel_rfl) (by kernel_rfl) (by kernel_rfl) rfl rfl rfl (rdr_bool Try.underlying4) rdr_words rdr_words (fun _ _ _ h _ => h) (fun _ m n => wok_mono m n) (fun _ m n => wok_mono m n)
  exact r.to (fun y => ⟨y.1, y.2.1, y.2.2⟩) (fun _ => rfl) (fun _ _ h => ⟨h.2.1.2, h.2.2.2⟩)
theorem rdr_rats : Rdr Try.prog 26 (fun p : List RD => [rats false p]) (fun p n => p.length ≤ n ∧ WordsOk p) :=
  (rdr_slice rd0 false Try.underlying26 (s := 3) (by kernel_rfl) (by omega) (fun _ _ _ h _ => h) rdr_rat).to id (fun _ => rfl) (fun _ _ h => h)
theorem rdr_ints : Rdr Try.prog 22 (fun xs : List Int => [is false xs]) (fun xs n => xs.length ≤ n ∧ ∀ x ∈ xs, (Lit.int .i64 x).wf = true) :=
  (rdr_slice (0 : Int) false Try.underlying22 (s := 1) (by kernel_rfl) (by omega) (fun _ _ _ h _ => h) (rdr_int Try.underlying3)).to id (fun ys => by
    show [CV.row false 1 ys.length _] = [CV.row false 1 ys.length _]
    congr 2
    funext j
    show _ = ofL [CV.int .i64 (ys.getD (j / 1) 0)] (j % 1)
    rw [Nat.div_one, Nat.mod_one]
    rfl) (fun _ _ h => h)
theorem rdr_dnode : Rdr Try.prog 72 (fun r : DN => [CV.int .i64 r.v, .int .i64 r.lo, .int .i64 r.hi]) (fun _ _ => True) := by
  have r := rdr_struct3 Try.underlying72 (s0 := 1) (s1 := 1) (s2 := 1) (by kernel_rfl) (by kernel_rfl) (by kernel_rfl) (by kernel_rfl) rfl rfl rfl (rdr_int Try.underlying3) (rdr_int Try.underlying3) (rdr_int Try.underlying3) (fun _ _ _ h _ => h) (fun _ _ _ h _ => h) (fun _ _ _ h _ => h)
  exact r.to (fun y => ⟨y.1, y.2.1, y.2.2⟩) (fun _ => rfl) (fun _ _ _ => trivial)
theorem rdr_dnodes : Rdr Try.prog 23 (fun p : List DN => [dns false p]) (fun p n => p.length ≤ n) :=
  (rdr_slice dn0 false Try.underlying23 (s := 3) (by kernel_rfl) (by omega) (fun _ _ _ h _ => h) rdr_dnode).to id (fun _ => rfl) (fun _ _ h => h.1)
theorem rdr_diagram : Rdr Try.prog 25 (fun d : DG => dgc false d) (fun d n => d.order.length ≤ n ∧ d.nodes.length ≤ n) := by
  have r := rdr_struct3 Try.underlying25 (s0 := 1) (s1 := 1) (s2 := 1) (by kernel_rfl) (by kernel_rfl) (by kernel_rfl) (by kernel_rfl) rfl rfl rfl rdr_ints rdr_dnodes (rdr_int Try.underlying3) (fun _ _ _ h hm => ⟨Nat.le_trans h.1 hm, h.2⟩) (fun _ _ _ h hm => Nat.le_trans h hm) (fun _ _ _ h _ => h)
  exact r.to (fun y => ⟨y.1, y.2.1, y.2.2⟩) (fun _ => rfl) (fun _ _ h => ⟨h.1.1, h.2.1⟩)
theorem rdr_cube : Rdr Try.prog 41 (fun y : Int × Int => [CV.int .i64 y.1, .int .i64 y.2]) (fun _ _ => True) := by
  have r := rdr_struct2 Try.underlying41 (s0 := 1) (s1 := 1) (by kernel_rfl) (by kernel_rfl) (by kernel_rfl) rfl rfl (rdr_int Try.underlying3) (rdr_int Try.underlying3) (fun _ _ _ h _ => h) (fun _ _ _ h _ => h)
  exact r.to id (fun _ => rfl) (fun _ _ _ => trivial)
end Go.Proofs.Ytmkomfdiggcloaa

/- faultlineref08: Of, Values, Value. -/
namespace Go.PN
open Go.AI
def ofB (f : FM) (vs : List Bool) (s : Nat) (a : Int) : Bool := if a < f.vars then s.testBit a.toNat else vs.getD (a - f.vars).toNat false
def cntB (f : FM) (vs : List Bool) (s : Nat) (az : List Int) : Nat := (az.filter fun a => ofB f vs s a).length
noncomputable def nodeB (f : FM) (vs : List Bool) (s : Nat) (x : FN) : Bool :=
  if x.kind == 0 then x.k == 1 else if x.kind == 1 then ((cntB f vs s x.args : Nat) : Int) == 0 else if x.kind == 2 then ((cntB f vs s x.args : Nat) : Int) == (x.args.length : Int)
  else if x.kind == 3 then decide (((cntB f vs s x.args : Nat) : Int) > 0) else if x.kind == 4 then decide (((cntB f vs s x.args : Nat) : Int) ≥ x.k) else remZ ((cntB f vs s x.args : Nat) : Int) 2 == 1
noncomputable def fvTo (f : FM) (s : Nat) : Nat → List Bool
  | 0 => List.replicate f.nodes.length false
  | k + 1 => (fvTo f s k).set k (nodeB f (fvTo f s k) s (f.nodes.getD k fn0))
theorem fvTo_len (f : FM) (s : Nat) : ∀ k, (fvTo f s k).length = f.nodes.length
  | 0 => by simp [fvTo]
  | k + 1 => by simp [fvTo, fvTo_len f s k]
/-- What a formula must be that its values can be asked for. -/
structure FmOk (f : FM) : Prop where
  v0 : 0 ≤ f.vars
  v1 : f.vars ≤ 62
  n : f.nodes.length ≤ 1000000
  a : ∀ x ∈ f.nodes, x.args.length ≤ 1000000 ∧ ∀ y ∈ x.args, 0 ≤ y ∧ y < f.vars + f.nodes.length
  t0 : 0 ≤ f.top
  t1 : f.top < f.vars + f.nodes.length
theorem le_oslbs {h : Heap} {g n : Nat} {ty : TypeId} {ys : List Bool} (hg : h.get g = some (.cells ty n (bsF ys))) (hn : n = ys.length) : LeC h (.osl g 1 0 n) (bs false ys) := by
  subst hn
  exact .osl hg (by omega) (fun j _ => by rw [Nat.zero_add]; exact .refl _)
theorem ler_oslbs {h : Heap} {t : Bool} {g n : Nat} {ty : TypeId} {ys : List Bool} (hg : h.get g = some (.cells ty n (bsF ys))) (hn : n = ys.length) : LeR h (.osl g 1 0 n) (bs t ys) := by
  subst hn
  exact .osl hg (by omega) (fun j _ => by rw [Nat.zero_add]; exact .bool _)
theorem cnt_take {f : FM} {vs : List Bool} {s : Nat} {az : List Int} {j : Nat} (h : j < az.length) : cntB f vs s (az.take (j + 1)) = cntB f vs s (az.take j) + if ofB f vs s (az.getD j 0) then 1 else 0 := by
  unfold cntB
  rw [List.take_succ_eq_append_getElem h, List.filter_append, List.length_append, getDZ h]
  congr 1
  by_cases hb : ofB f vs s az[j] = true
  · simp [hb]
  · simp [hb]
theorem cnt_le {f : FM} {vs : List Bool} {s : Nat} {az : List Int} : cntB f vs s az ≤ az.length := List.length_filter_le _ _
theorem getFN {xs : List FN} {i : Nat} (h : i < xs.length) : xs.getD i fn0 = xs[i] := by
  rw [List.getD_eq_getElem?_getD, List.getElem?_eq_getElem h]; rfl
end Go.PN
namespace Go.Proofs.Ytmkomfdiggcloaa
open Go.AI Go.PN
attribute [local irreducible] aw Fa Fh DrK
set_option maxHeartbeats 800000 in
theorem fof_fa (f : FM) (hf : FmOk f) (vs : List Bool) (s : Nat) (a : Int) (hs : s < 9223372036854775808) (hv : vs.length = f.nodes.length) (h0 : 0 ≤ a) (h1 : a < f.vars + f.nodes.length) : Fa Try.prog 103 [.agg (fmc false f), .c (bs false vs), .c (.int .i64 s), .c (.int .i64 a)] (.c (.bool (ofB f vs s a))) := by
  have f1 := hf.v0
  have f2 := hf.v1
  have f3 := hf.n
  unfold ofB
  refine fa_of_body Try.func103 rfl rfl (by simp [Try.ntmps103]) fun C hC => ?_
  simp only [initS, Nat.reduceAdd]
  repeat first|apply wa1|apply wa2|apply wa3|apply wa4|apply wa5 rfl|apply wa6|apply wa7|(refine wb1 rfl fun R r=>?_;simp only[go_sem];with_reducible refine r _ _ ?_;clear r R)
  refine aw_box rfl rfl rfl (by simp only[go_sem]<;>rfl) (fun _ e => by cases e) rfl fun g4 hn_g4 => ?_
  replace hn_g4 := Heap.ne_of hn_g4
  first | dsimp only [Heap.ne, gh] at hn_g4 | dsimp only [Heap.ne] at hn_g4 | skip
  (try simp only[go_sem, hn_g4])
  repeat first|apply wa1|apply wa2|apply wa3|apply wa4|apply wa5 rfl|apply wa6|apply wa7|(refine wb1 rfl fun R r=>?_;simp only[go_sem, hn_g4];with_reducible refine r _ _ ?_;clear r R)
  refine aw_cond (by simp only[go_sem, hn_g4]<;>rfl) (fun hb => ?_) (fun hb => ?_)
  · have hb' := of_decide_eq_true hb
    obtain ⟨k, rfl⟩ : ∃ k : Nat, a = k := ⟨a.toNat, by omega⟩
    have b1 := shrZ_nat s k (by omega)
    have b2 := and_one_nat (s / 2 ^ k) (Nat.lt_of_le_of_lt (Nat.div_le_self _ _) hs)
    have b3 := bit_eq s k
    repeat first|apply wa1|apply wa2|apply wa3|apply wa4|apply wa5 rfl|apply wa6|apply wa7|(refine wb1 rfl fun R r=>?_;simp only[go_sem, hn_g4, b1, b2, b3];with_reducible refine r _ _ ?_;clear r R)
    (refine aw_retq hC rfl fun R r=>?_;simp only[go_sem, hn_g4, b1, b2, b3];refine r _ rfl ?_;clear r R)
    exact .one (.c (ler_bool (by rw [if_pos hb']; rfl)))
  · have hb' := of_decide_eq_false hb
    repeat first|apply wa1|apply wa2|apply wa3|apply wa4|apply wa5 rfl|apply wa6|apply wa7|(refine wb1 rfl fun R r=>?_;simp only[go_sem, hn_g4];with_reducible refine r _ _ ?_;clear r R)
    (refine aw_retq hC rfl fun R r=>?_;simp only[go_sem, hn_g4];refine r _ rfl ?_;clear r R)
    exact .one (.c (ler_bool (by rw [if_neg hb'])))
set_option maxRecDepth 100000 in
set_option maxHeartbeats 3200000 in
theorem fvalues_fa (f : FM) (hf : FmOk f) (s : Nat) (hs : s < 9223372036854775808) : Fa Try.prog 104 [.agg (fmc false f), .c (.int .i64 s)] (.c (bs true (fvTo f s f.nodes.length))) := by
  have f1 := hf.v0
  have f2 := hf.v1
  have f3 := hf.n
  refine fa_of_body Try.func104 rfl rfl (by simp [Try.ntmps104]) fun C hC => ?_
  simp only [initS, Nat.reduceAdd]
  repeat first|apply wa1|apply wa2|apply wa3|apply wa4|apply wa5 rfl|apply wa6|apply wa7|(refine wb1 rfl fun R r=>?_;simp only[go_sem];with_reducible refine r _ _ ?_;clear r R)
  refine aw_box rfl rfl rfl (by simp only[go_sem]<;>rfl) (fun _ e => by cases e) rfl fun g2 hn_g2 => ?_
  replace hn_g2 := Heap.ne_of hn_g2
  first | dsimp only [Heap.ne, gh] at hn_g2 | dsimp only [Heap.ne] at hn_g2 | skip
  (try simp only[go_sem, hn_g2])
  repeat first|apply wa1|apply wa2|apply wa3|apply wa4|apply wa5 rfl|apply wa6|apply wa7|(refine wb1 rfl fun R r=>?_;simp only[go_sem, hn_g2];with_reducible refine r _ _ ?_;clear r R)
  refine aw_make (n := f.nodes.length) (c := f.nodes.length) (size := 1) (z := [.bool false]) rfl rfl rfl (by simp only[go_sem, hn_g2]<;>rfl) (by simp only[go_sem, hn_g2]<;>rfl) rfl (by omega) (by simp only[go_sem, hn_g2]<;>rfl) (by simp only[go_sem, hn_g2]<;>rfl) rfl rfl (by omega) (by omega) (by omega) fun g hn_g => ?_
  replace hn_g := Heap.ne_of hn_g
  dsimp only [Heap.ne] at hn_g
  rw [make_bs f.nodes.length]
  (try simp only[go_sem, hn_g2, hn_g])
  repeat first|apply wa1|apply wa2|apply wa3|apply wa4|apply wa5 rfl|apply wa6|apply wa7|(refine wb1 rfl fun R r=>?_;simp only[go_sem, hn_g2, hn_g];with_reducible refine r _ _ ?_;clear r R)
  refine aw_lp (fun i : Nat => [(1, .c (.int .i64 s)), (2, .c (.optr g2 0)), (5, .c (.osl g 1 0 f.nodes.length)), (16, .c (fns false f.nodes)), (17, .c (.int .i64 f.nodes.length)), (18, .c (.int .i64 i))]) (fun i => [(g, .cells 4 f.nodes.length (bsF (fvTo f s i))), (g2, .cells 78 3 (ofL (fmc false f)))]) (fun i => i ≤ f.nodes.length) (fun i => f.nodes.length - i) 0 (by simp only[go_sem, hn_g2, hn_g]<;>and_intros<;>first|exact True.intro|(with_reducible rfl)|exact c_int (by omega)|rfl) (List.Sublist.refl _) (Nat.zero_le _) ?_
  rintro i hi
  have hvl := fvTo_len f s i
  repeat first|apply wa1|apply wa2|apply wa3|apply wa4|apply wa5 rfl|apply wa6|apply wa7|(refine wb1 rfl fun R r=>?_;simp only[go_sem, hn_g2, hn_g];with_reducible refine r _ _ ?_;clear r R)
  refine aw_cond (by simp only[go_sem, hn_g2, hn_g]<;>rfl) (fun h1 => ?_) (fun h1 => ?_)
  · have h1' : i < f.nodes.length := by have := of_decide_eq_true h1; omega
    obtain ⟨ha1, ha2⟩ := hf.a (f.nodes.getD i fn0) (by rw [getFN h1']; exact List.getElem_mem h1')
    repeat first|apply wa1|apply wa2|apply wa3|apply wa4|apply wa5 rfl|apply wa6|apply wa7|(refine wb1 rfl fun R r=>?_;simp only[go_sem, hn_g2, hn_g];with_reducible refine r _ _ ?_;clear r R)
    refine aw_alloc rfl rfl rfl (by simp only[go_sem, hn_g2, hn_g]<;>rfl) fun g7 hn_g7 => ?_
    replace hn_g7 := Heap.ne_of hn_g7
    first | dsimp only [Heap.ne, gh] at hn_g7 | dsimp only [Heap.ne] at hn_g7 | skip
    (try simp only[go_sem, hn_g2, hn_g, hn_g7])
    repeat first|apply wa1|apply wa2|apply wa3|apply wa4|apply wa5 rfl|apply wa6|apply wa7|(refine wb1 rfl fun R r=>?_;simp only[go_sem, hn_g2, hn_g, hn_g7];with_reducible refine r _ _ ?_;clear r R)
    refine aw_store rfl rfl rfl rfl (by simp only[go_sem, hn_g2, hn_g, hn_g7]<;>rfl) (by simp only[go_sem, hn_g2, hn_g, hn_g7]<;>rfl) (by simp only[go_sem, hn_g2, hn_g, hn_g7]<;>rfl) (by simp only[go_sem, hn_g2, hn_g, hn_g7]<;>rfl) (fun _ e => by cases e) (by rfl) (by rfl) (by first|omega|simp) rfl ?_
    (try simp only[go_sem, hn_g2, hn_g, hn_g7])
    have hst : fvTo f s (i + 1) = (fvTo f s i).set i (nodeB f (fvTo f s i) s (f.nodes.getD i fn0)) := rfl
    generalize f.nodes.getD i fn0 = x at *
    generalize fvTo f s i = vs at *
    repeat first|apply wa1|apply wa2|apply wa3|apply wa4|apply wa5 rfl|apply wa6|apply wa7|(refine wb1 rfl fun R r=>?_;simp only[go_sem, hn_g2, hn_g, hn_g7];with_reducible refine r _ _ ?_;clear r R)
    refine aw_lp (fun j : Nat => [(1, .c (.int .i64 s)), (2, .c (.optr g2 0)), (5, .c (.osl g 1 0 f.nodes.length)), (6, .c (.int .i64 i)), (7, .c (.optr g7 0)), (8, .c (.int .i64 (cntB f vs s (x.args.take j)))), (16, .c (fns false f.nodes)), (17, .c (.int .i64 f.nodes.length)), (18, .c (.int .i64 i)), (24, .c (is true x.args)), (25, .c (.int .i64 x.args.length)), (26, .c (.int .i64 j))]) (fun j => [(g7, .cells 75 3 (ofL [.int .i64 x.kind, .int .i64 x.k, is true x.args])), (g, .cells 4 f.nodes.length (bsF vs)), (g2, .cells 78 3 (ofL (fmc false f)))]) (fun j => j ≤ x.args.length) (fun j => x.args.length - j) 0 (by simp only[go_sem, hn_g2, hn_g, hn_g7]<;>and_intros<;>first|exact True.intro|(with_reducible rfl)|exact c_int (by omega)|rfl) (List.Sublist.refl _) (Nat.zero_le _) ?_
    rintro j hj
    have hc1 := cnt_le (f := f) (vs := vs) (s := s) (az := x.args.take j)
    rw [List.length_take] at hc1
    repeat first|apply wa1|apply wa2|apply wa3|apply wa4|apply wa5 rfl|apply wa6|apply wa7|(refine wb1 rfl fun R r=>?_;simp only[go_sem, hn_g2, hn_g, hn_g7];with_reducible refine r _ _ ?_;clear r R)
    refine aw_cond (by simp only[go_sem, hn_g2, hn_g, hn_g7]<;>rfl) (fun h2 => ?_) (fun h2 => ?_)
    · have h2' : j < x.args.length := by have := of_decide_eq_true h2; omega
      obtain ⟨y0, y1⟩ := ha2 (x.args.getD j 0) (by rw [getDZ h2']; exact List.getElem_mem h2')
      have hct := cnt_take (f := f) (vs := vs) (s := s) h2'
      repeat first|apply wa1|apply wa2|apply wa3|apply wa4|apply wa5 rfl|apply wa6|apply wa7|(refine wb1 rfl fun R r=>?_;simp only[go_sem, hn_g2, hn_g, hn_g7];with_reducible refine r _ _ ?_;clear r R)
      refine aw_callq (fof_fa f hf vs s (x.args.getD j 0) hs hvl y0 y1) rfl rfl rfl (by (try simp only[go_sem, hn_g2, hn_g, hn_g7]); exact ⟨.agg (lel_refl _), .c (le_oslbs (by simp only[go_sem, hn_g2, hn_g, hn_g7]<;>rfl) hvl.symm), .c (.refl _), .c (.refl _)⟩) ?_
      (try simp only[go_sem, hn_g2, hn_g, hn_g7])
      repeat first|apply wa1|apply wa2|apply wa3|apply wa4|apply wa5 rfl|apply wa6|apply wa7|(refine wb1 rfl fun R r=>?_;simp only[go_sem, hn_g2, hn_g, hn_g7];with_reducible refine r _ _ ?_;clear r R)
      refine aw_cond (by simp only[go_sem, hn_g2, hn_g, hn_g7]<;>rfl) (fun h3 => ?_) (fun h3 => ?_)
      · rw [h3, if_pos rfl] at hct
        repeat first|apply wa1|apply wa2|apply wa3|apply wa4|apply wa5 rfl|apply wa6|apply wa7|(refine wb1 rfl fun R r=>?_;simp only[go_sem, hn_g2, hn_g, hn_g7];with_reducible refine r _ _ ?_;clear r R)
        exact aw_stop ⟨j + 1, by omega, (by rw [hct]; exact (by simp only[go_sem, hn_g2, hn_g, hn_g7]<;>and_intros<;>first|exact True.intro|(with_reducible rfl)|exact c_int (by omega)|rfl)), (List.Sublist.refl _), by omega⟩
      · rw [h3, if_neg (by simp), Nat.add_zero] at hct
        repeat first|apply wa1|apply wa2|apply wa3|apply wa4|apply wa5 rfl|apply wa6|apply wa7|(refine wb1 rfl fun R r=>?_;simp only[go_sem, hn_g2, hn_g, hn_g7];with_reducible refine r _ _ ?_;clear r R)
        exact aw_stop ⟨j + 1, by omega, (by rw [hct]; exact (by simp only[go_sem, hn_g2, hn_g, hn_g7]<;>and_intros<;>first|exact True.intro|(with_reducible rfl)|exact c_int (by omega)|rfl)), (List.Sublist.refl _), by omega⟩
    · have h2' : j = x.args.length := by have := of_decide_eq_false h2; omega
      subst h2'
      rw [List.take_length]
      have hc2 := cnt_le (f := f) (vs := vs) (s := s) (az := x.args)
      repeat first|apply wa1|apply wa2|apply wa3|apply wa4|apply wa5 rfl|apply wa6|apply wa7|(refine wb1 rfl fun R r=>?_;simp only[go_sem, hn_g2, hn_g, hn_g7];with_reducible refine r _ _ ?_;clear r R)
      refine aw_cond (by simp only[go_sem, hn_g2, hn_g, hn_g7]<;>rfl) (fun k0 => ?_) (fun k0 => ?_)
      · repeat first|apply wa1|apply wa2|apply wa3|apply wa4|apply wa5 rfl|apply wa6|apply wa7|(refine wb1 rfl fun R r=>?_;simp only[go_sem, hn_g2, hn_g, hn_g7];with_reducible refine r _ _ ?_;clear r R)
        refine aw_store rfl rfl rfl rfl (by simp only[go_sem, hn_g2, hn_g, hn_g7]<;>rfl) (by simp only[go_sem, hn_g2, hn_g, hn_g7]<;>rfl) (by simp only[go_sem, hn_g2, hn_g, hn_g7]<;>rfl) (by simp only[go_sem, hn_g2, hn_g, hn_g7]<;>rfl) (fun _ e => by cases e) (by rfl) (by rfl) (by first|omega|simp) rfl ?_
        (try simp only[go_sem, hn_g2, hn_g, hn_g7])
        rw [updF_bs (by omega)]
        repeat first|apply wa1|apply wa2|apply wa3|apply wa4|apply wa5 rfl|apply wa6|apply wa7|(refine wb1 rfl fun R r=>?_;simp only[go_sem, hn_g2, hn_g, hn_g7];with_reducible refine r _ _ ?_;clear r R)
        exact aw_stop ⟨i + 1, by omega, (by simp only[go_sem, hn_g2, hn_g, hn_g7]<;>and_intros<;>first|exact True.intro|(with_reducible rfl)|exact c_int (by omega)|rfl), List.Sublist.cons _ (by rw [hst, nodeB, if_pos k0]; exact (List.Sublist.refl _)), by omega⟩
      · repeat first|apply wa1|apply wa2|apply wa3|apply wa4|apply wa5 rfl|apply wa6|apply wa7|(refine wb1 rfl fun R r=>?_;simp only[go_sem, hn_g2, hn_g, hn_g7];with_reducible refine r _ _ ?_;clear r R)
        refine aw_cond (by simp only[go_sem, hn_g2, hn_g, hn_g7]<;>rfl) (fun k1 => ?_) (fun k1 => ?_)
        · repeat first|apply wa1|apply wa2|apply wa3|apply wa4|apply wa5 rfl|apply wa6|apply wa7|(refine wb1 rfl fun R r=>?_;simp only[go_sem, hn_g2, hn_g, hn_g7];with_reducible refine r _ _ ?_;clear r R)
          refine aw_store rfl rfl rfl rfl (by simp only[go_sem, hn_g2, hn_g, hn_g7]<;>rfl) (by simp only[go_sem, hn_g2, hn_g, hn_g7]<;>rfl) (by simp only[go_sem, hn_g2, hn_g, hn_g7]<;>rfl) (by simp only[go_sem, hn_g2, hn_g, hn_g7]<;>rfl) (fun _ e => by cases e) (by rfl) (by rfl) (by first|omega|simp) rfl ?_
          (try simp only[go_sem, hn_g2, hn_g, hn_g7])
          rw [updF_bs (by omega)]
          repeat first|apply wa1|apply wa2|apply wa3|apply wa4|apply wa5 rfl|apply wa6|apply wa7|(refine wb1 rfl fun R r=>?_;simp only[go_sem, hn_g2, hn_g, hn_g7];with_reducible refine r _ _ ?_;clear r R)
          exact aw_stop ⟨i + 1, by omega, (by simp only[go_sem, hn_g2, hn_g, hn_g7]<;>and_intros<;>first|exact True.intro|(with_reducible rfl)|exact c_int (by omega)|rfl), List.Sublist.cons _ (by rw [hst, nodeB, if_neg (by rw [k0]; simp), if_pos k1]; exact (List.Sublist.refl _)), by omega⟩
        · repeat first|apply wa1|apply wa2|apply wa3|apply wa4|apply wa5 rfl|apply wa6|apply wa7|(refine wb1 rfl fun R r=>?_;simp only[go_sem, hn_g2, hn_g, hn_g7];with_reducible refine r _ _ ?_;clear r R)
          refine aw_cond (by simp only[go_sem, hn_g2, hn_g, hn_g7]<;>rfl) (fun k2 => ?_) (fun k2 => ?_)
          · repeat first|apply wa1|apply wa2|apply wa3|apply wa4|apply wa5 rfl|apply wa6|apply wa7|(refine wb1 rfl fun R r=>?_;simp only[go_sem, hn_g2, hn_g, hn_g7];with_reducible refine r _ _ ?_;clear r R)
            refine aw_store rfl rfl rfl rfl (by simp only[go_sem, hn_g2, hn_g, hn_g7]<;>rfl) (by simp only[go_sem, hn_g2, hn_g, hn_g7]<;>rfl) (by simp only[go_sem, hn_g2, hn_g, hn_g7]<;>rfl) (by simp only[go_sem, hn_g2, hn_g, hn_g7]<;>rfl) (fun _ e => by cases e) (by rfl) (by rfl) (by first|omega|simp) rfl ?_
            (try simp only[go_sem, hn_g2, hn_g, hn_g7])
            rw [updF_bs (by omega)]
            repeat first|apply wa1|apply wa2|apply wa3|apply wa4|apply wa5 rfl|apply wa6|apply wa7|(refine wb1 rfl fun R r=>?_;simp only[go_sem, hn_g2, hn_g, hn_g7];with_reducible refine r _ _ ?_;clear r R)
            exact aw_stop ⟨i + 1, by omega, (by simp only[go_sem, hn_g2, hn_g, hn_g7]<;>and_intros<;>first|exact True.intro|(with_reducible rfl)|exact c_int (by omega)|rfl), List.Sublist.cons _ (by rw [hst, nodeB, if_neg (by rw [k0]; simp), if_neg (by rw [k1]; simp), if_pos k2]; exact (List.Sublist.refl _)), by omega⟩
          · repeat first|apply wa1|apply wa2|apply wa3|apply wa4|apply wa5 rfl|apply wa6|apply wa7|(refine wb1 rfl fun R r=>?_;simp only[go_sem, hn_g2, hn_g, hn_g7];with_reducible refine r _ _ ?_;clear r R)
            refine aw_cond (by simp only[go_sem, hn_g2, hn_g, hn_g7]<;>rfl) (fun k3 => ?_) (fun k3 => ?_)
            · repeat first|apply wa1|apply wa2|apply wa3|apply wa4|apply wa5 rfl|apply wa6|apply wa7|(refine wb1 rfl fun R r=>?_;simp only[go_sem, hn_g2, hn_g, hn_g7];with_reducible refine r _ _ ?_;clear r R)
              refine aw_store rfl rfl rfl rfl (by simp only[go_sem, hn_g2, hn_g, hn_g7]<;>rfl) (by simp only[go_sem, hn_g2, hn_g, hn_g7]<;>rfl) (by simp only[go_sem, hn_g2, hn_g, hn_g7]<;>rfl) (by simp only[go_sem, hn_g2, hn_g, hn_g7]<;>rfl) (fun _ e => by cases e) (by rfl) (by rfl) (by first|omega|simp) rfl ?_
              (try simp only[go_sem, hn_g2, hn_g, hn_g7])
              rw [updF_bs (by omega)]
              repeat first|apply wa1|apply wa2|apply wa3|apply wa4|apply wa5 rfl|apply wa6|apply wa7|(refine wb1 rfl fun R r=>?_;simp only[go_sem, hn_g2, hn_g, hn_g7];with_reducible refine r _ _ ?_;clear r R)
              exact aw_stop ⟨i + 1, by omega, (by simp only[go_sem, hn_g2, hn_g, hn_g7]<;>and_intros<;>first|exact True.intro|(with_reducible rfl)|exact c_int (by omega)|rfl), List.Sublist.cons _ (by rw [hst, nodeB, if_neg (by rw [k0]; simp), if_neg (by rw [k1]; simp), if_neg (by rw [k2]; simp), if_pos k3]; exact (List.Sublist.refl _)), by omega⟩
            · repeat first|apply wa1|apply wa2|apply wa3|apply wa4|apply wa5 rfl|apply wa6|apply wa7|(refine wb1 rfl fun R r=>?_;simp only[go_sem, hn_g2, hn_g, hn_g7];with_reducible refine r _ _ ?_;clear r R)
              refine aw_cond (by simp only[go_sem, hn_g2, hn_g, hn_g7]<;>rfl) (fun k4 => ?_) (fun k4 => ?_)
              · repeat first|apply wa1|apply wa2|apply wa3|apply wa4|apply wa5 rfl|apply wa6|apply wa7|(refine wb1 rfl fun R r=>?_;simp only[go_sem, hn_g2, hn_g, hn_g7];with_reducible refine r _ _ ?_;clear r R)
                refine aw_store rfl rfl rfl rfl (by simp only[go_sem, hn_g2, hn_g, hn_g7]<;>rfl) (by simp only[go_sem, hn_g2, hn_g, hn_g7]<;>rfl) (by simp only[go_sem, hn_g2, hn_g, hn_g7]<;>rfl) (by simp only[go_sem, hn_g2, hn_g, hn_g7]<;>rfl) (fun _ e => by cases e) (by rfl) (by rfl) (by first|omega|simp) rfl ?_
                (try simp only[go_sem, hn_g2, hn_g, hn_g7])
                rw [updF_bs (by omega)]
                repeat first|apply wa1|apply wa2|apply wa3|apply wa4|apply wa5 rfl|apply wa6|apply wa7|(refine wb1 rfl fun R r=>?_;simp only[go_sem, hn_g2, hn_g, hn_g7];with_reducible refine r _ _ ?_;clear r R)
                exact aw_stop ⟨i + 1, by omega, (by simp only[go_sem, hn_g2, hn_g, hn_g7]<;>and_intros<;>first|exact True.intro|(with_reducible rfl)|exact c_int (by omega)|rfl), List.Sublist.cons _ (by rw [hst, nodeB, if_neg (by rw [k0]; simp), if_neg (by rw [k1]; simp), if_neg (by rw [k2]; simp), if_neg (by rw [k3]; simp), if_pos k4]; exact (List.Sublist.refl _)), by omega⟩
              · repeat first|apply wa1|apply wa2|apply wa3|apply wa4|apply wa5 rfl|apply wa6|apply wa7|(refine wb1 rfl fun R r=>?_;simp only[go_sem, hn_g2, hn_g, hn_g7];with_reducible refine r _ _ ?_;clear r R)
                refine aw_store rfl rfl rfl rfl (by simp only[go_sem, hn_g2, hn_g, hn_g7]<;>rfl) (by simp only[go_sem, hn_g2, hn_g, hn_g7]<;>rfl) (by simp only[go_sem, hn_g2, hn_g, hn_g7]<;>rfl) (by simp only[go_sem, hn_g2, hn_g, hn_g7]<;>rfl) (fun _ e => by cases e) (by rfl) (by rfl) (by first|omega|simp) rfl ?_
                (try simp only[go_sem, hn_g2, hn_g, hn_g7])
                rw [updF_bs (by omega)]
                repeat first|apply wa1|apply wa2|apply wa3|apply wa4|apply wa5 rfl|apply wa6|apply wa7|(refine wb1 rfl fun R r=>?_;simp only[go_sem, hn_g2, hn_g, hn_g7];with_reducible refine r _ _ ?_;clear r R)
                exact aw_stop ⟨i + 1, by omega, (by simp only[go_sem, hn_g2, hn_g, hn_g7]<;>and_intros<;>first|exact True.intro|(with_reducible rfl)|exact c_int (by omega)|rfl), List.Sublist.cons _ (by rw [hst, nodeB, if_neg (by rw [k0]; simp), if_neg (by rw [k1]; simp), if_neg (by rw [k2]; simp), if_neg (by rw [k3]; simp), if_neg (by rw [k4]; simp)]; exact (List.Sublist.refl _)), by omega⟩
  · have h1' : i = f.nodes.length := by have := of_decide_eq_false h1; omega
    subst h1'
    repeat first|apply wa1|apply wa2|apply wa3|apply wa4|apply wa5 rfl|apply wa6|apply wa7|(refine wb1 rfl fun R r=>?_;simp only[go_sem, hn_g2, hn_g];with_reducible refine r _ _ ?_;clear r R)
    (refine aw_retq hC rfl fun R r=>?_;simp only[go_sem, hn_g2, hn_g];refine r _ rfl ?_;clear r R)
    exact .one (.c (ler_oslbs (by simp only[go_sem, hn_g2, hn_g]<;>rfl) hvl.symm))
noncomputable def fvalB (f : FM) (s : Nat) : Bool := ofB f (fvTo f s f.nodes.length) s f.top
set_option maxHeartbeats 800000 in
theorem fvalue_fa (f : FM) (hf : FmOk f) (s : Nat) (hs : s < 9223372036854775808) : Fa Try.prog 86 [.agg (fmc false f), .c (.int .i64 s)] (.c (.bool (fvalB f s))) := by
  refine fa_of_body Try.func86 rfl rfl (by simp [Try.ntmps86]) fun C hC => ?_
  simp only [initS, Nat.reduceAdd]
  repeat first|apply wa1|apply wa2|apply wa3|apply wa4|apply wa5 rfl|apply wa6|apply wa7|(refine wb1 rfl fun R r=>?_;simp only[go_sem];with_reducible refine r _ _ ?_;clear r R)
  refine aw_box rfl rfl rfl (by simp only[go_sem]<;>rfl) (fun _ e => by cases e) rfl fun g2 hn_g2 => ?_
  replace hn_g2 := Heap.ne_of hn_g2
  first | dsimp only [Heap.ne, gh] at hn_g2 | dsimp only [Heap.ne] at hn_g2 | skip
  (try simp only[go_sem, hn_g2])
  repeat first|apply wa1|apply wa2|apply wa3|apply wa4|apply wa5 rfl|apply wa6|apply wa7|(refine wb1 rfl fun R r=>?_;simp only[go_sem, hn_g2];with_reducible refine r _ _ ?_;clear r R)
  refine aw_dr 9 ty_mixed (by kernel_rfl) ?_
  repeat first|apply wa1|apply wa2|apply wa3|apply wa4|apply wa5 rfl|apply wa6|apply wa7|(refine wb1 rfl fun R r=>?_;simp only[go_sem, hn_g2];with_reducible refine r _ _ ?_;clear r R)|apply wa8|(refine wd1 rfl fun R r=>?_;simp only[go_sem, hn_g2];with_reducible refine r _ _ ?_;clear r R)
  refine drk_call (fvalues_fa f hf s hs) rfl rfl rfl (by first|exact True.intro|simp only[go_sem, hn_g2]<;>and_intros<;>first|exact True.intro|exact .c (.refl _)|exact .c wl2|exact .agg (lel_refl _)|exact .agg (by simp only[LeL];and_intros<;>first|exact True.intro|exact .refl _|exact wl2)|exact .c .nils) ?_
  (try simp only[go_sem, hn_g2])
  repeat first|apply wa1|apply wa2|apply wa3|apply wa4|apply wa5 rfl|apply wa6|apply wa7|(refine wb1 rfl fun R r=>?_;simp only[go_sem, hn_g2];with_reducible refine r _ _ ?_;clear r R)|apply wa8|(refine wd1 rfl fun R r=>?_;simp only[go_sem, hn_g2];with_reducible refine r _ _ ?_;clear r R)
  refine drk_call (fof_fa f hf (fvTo f s f.nodes.length) s f.top hs (fvTo_len f s _) hf.t0 hf.t1) rfl rfl rfl (by first|exact True.intro|simp only[go_sem, hn_g2]<;>and_intros<;>first|exact True.intro|exact .c (.refl _)|exact .c wl2|exact .agg (lel_refl _)|exact .agg (by simp only[LeL];and_intros<;>first|exact True.intro|exact .refl _|exact wl2)|exact .c .nils) ?_
  (try simp only[go_sem, hn_g2])
  repeat first|apply wa1|apply wa2|apply wa3|apply wa4|apply wa5 rfl|apply wa6|apply wa7|(refine wb1 rfl fun R r=>?_;simp only[go_sem, hn_g2];with_reducible refine r _ _ ?_;clear r R)|apply wa8|(refine wd1 rfl fun R r=>?_;simp only[go_sem, hn_g2];with_reducible refine r _ _ ?_;clear r R)
  (refine aw_retq hC rfl fun R r=>?_;simp only[go_sem, hn_g2];refine r _ rfl ?_;clear r R)
  exact .one (.c (.bool _))
end Go.Proofs.Ytmkomfdiggcloaa

/- faultlineref15.Formula. -/
namespace Go.PN
open Go.AI
noncomputable def formTo (f : FM) : Nat → List Bool
  | 0 => []
  | k + 1 => formTo f k ++ [fvalB' f k]
where fvalB' (f : FM) (k : Nat) : Bool := ofB f (fvTo f k f.nodes.length) k f.top
theorem formTo_len (f : FM) : ∀ k, (formTo f k).length = k
  | 0 => rfl
  | k + 1 => by simp [formTo, formTo_len f k]
end Go.PN
namespace Go.Proofs.Ytmkomfdiggcloaa
open Go.AI Go.PN
attribute [local irreducible] aw Fa Fh DrK
set_option maxHeartbeats 1600000 in
theorem formula_fa (f : FM) (hf : FmOk f) (hv : f.vars ≤ 24) : Fa Try.prog 63 [.agg (fmc false f)] (.c (bs true (formTo f (2 ^ f.vars.toNat)))) := by
  have f1 := hf.v0
  have e1 := shl_one f.vars.toNat (by omega)
  rw [show ((f.vars.toNat : Nat) : Int) = f.vars from by omega] at e1
  have hp : 2 ^ f.vars.toNat ≤ 16777216 := by
    have h3 : 2 ^ f.vars.toNat ≤ 2 ^ 24 := Nat.pow_le_pow_right (by omega) (by omega)
    have h4 : (2 : Nat) ^ 24 = 16777216 := by decide
    omega
  generalize 2 ^ f.vars.toNat = M at *
  refine fa_of_body Try.func63 rfl rfl (by simp [Try.ntmps63]) fun C hC => ?_
  simp only [initS, Nat.reduceAdd]
  repeat first|apply wa1|apply wa2|apply wa3|apply wa4|apply wa5 rfl|apply wa6|apply wa7|(refine wb1 rfl fun R r=>?_;simp only[go_sem, e1];with_reducible refine r _ _ ?_;clear r R)
  refine aw_box rfl rfl rfl (by simp only[go_sem, e1]<;>rfl) (fun _ e => by cases e) rfl fun g1 hn_g1 => ?_
  replace hn_g1 := Heap.ne_of hn_g1
  first | dsimp only [Heap.ne, gh] at hn_g1 | dsimp only [Heap.ne] at hn_g1 | skip
  (try simp only[go_sem, e1, hn_g1])
  repeat first|apply wa1|apply wa2|apply wa3|apply wa4|apply wa5 rfl|apply wa6|apply wa7|(refine wb1 rfl fun R r=>?_;simp only[go_sem, e1, hn_g1];with_reducible refine r _ _ ?_;clear r R)
  refine aw_lp (fun x : Option Nat × Nat => [(1, .c (.optr g1 0)), (3, .c (gs x.1 1 x.2)), (4, .c (.int .i64 x.2))]) (fun x => [(g1, .cells 78 3 (ofL (fmc false f)))] ++ gh x.1 4 x.2 (bsF (formTo f x.2))) (fun x => (x.1 = none → x.2 = 0) ∧ (∀ g, x.1 = some g → ¬ g = g1) ∧ x.2 ≤ M) (fun x => M - x.2) (none, 0) (by simp only[go_sem, e1, hn_g1]<;>and_intros<;>first|exact True.intro|(with_reducible rfl)|exact c_int (by omega)|rfl) (List.Sublist.refl _) ⟨fun _ => rfl, (fun g e => by cases e), Nat.zero_le _⟩ ?_
  rintro ⟨og, k⟩ ⟨hog, hgn, hk⟩
  dsimp only at hog hgn hk ⊢
  (try simp only[go_sem, e1, hn_g1])
  have hvl := formTo_len f k
  repeat first|apply wa1|apply wa2|apply wa3|apply wa4|apply wa5 rfl|apply wa6|apply wa7|(refine wb1 rfl fun R r=>?_;simp only[go_sem, e1, hn_g1];with_reducible refine r _ _ ?_;clear r R)
  refine aw_cond (by simp only[go_sem, e1, hn_g1]<;>rfl) (fun hb => ?_) (fun hb => ?_)
  · have hin : k < M := by have := of_decide_eq_true hb; omega
    repeat first|apply wa1|apply wa2|apply wa3|apply wa4|apply wa5 rfl|apply wa6|apply wa7|(refine wb1 rfl fun R r=>?_;simp only[go_sem, e1, hn_g1];with_reducible refine r _ _ ?_;clear r R)
    refine aw_callq (fvalue_fa f hf k ?_) rfl rfl rfl (by first|exact True.intro|simp only[go_sem, e1, hn_g1]<;>and_intros<;>first|exact True.intro|exact .c (.refl _)|exact .c wl2|exact .agg (lel_refl _)|exact .agg (by simp only[LeL];and_intros<;>first|exact True.intro|exact .refl _|exact wl2)|exact .c .nils) ?_
    · omega
    (try simp only[go_sem, e1, hn_g1])
    repeat first|apply wa1|apply wa2|apply wa3|apply wa4|apply wa5 rfl|apply wa6|apply wa7|(refine wb1 rfl fun R r=>?_;simp only[go_sem, e1, hn_g1];with_reducible refine r _ _ ?_;clear r R)
    refine aw_push (pre := [(g1, .cells 78 3 (ofL (fmc false f)))]) rfl rfl rfl rfl rfl rfl rfl (by simp only[go_sem, e1, hn_g1]<;>rfl) (by simp only[go_sem, e1, hn_g1]<;>rfl) (by rfl) (by omega) (by omega) (by simp only[go_sem, e1, hn_g1]<;>rfl) (by omega) (by exact hog) (by simp only[go_sem, e1, hn_g1]<;>rfl) (by rfl) (by rfl) (by first | rfl | simp only [Nat.mul_one, List.nil_append, List.cons_append] <;> rfl) (by unfold maxLen; omega) (by omega) (by exact bs_push hvl _) fun g hn_g => ?_
    replace hn_g := Heap.ne_of hn_g
    first | dsimp only [Heap.ne, gh] at hn_g | dsimp only [Heap.ne] at hn_g | skip
    (try simp only[go_sem, e1, hn_g1, hn_g])
    repeat first|apply wa1|apply wa2|apply wa3|apply wa4|apply wa5 rfl|apply wa6|apply wa7|(refine wb1 rfl fun R r=>?_;simp only[go_sem, e1, hn_g1, hn_g];with_reducible refine r _ _ ?_;clear r R)
    refine aw_stop ⟨(some g, k + 1), by dsimp only; omega, (by simp only[go_sem, e1, hn_g1, hn_g]<;>and_intros<;>first|exact True.intro|(with_reducible rfl)|exact c_int (by omega)|rfl), (List.Sublist.refl _), some_ne, (fun g e => by cases e; exact hn_g.1.1), by dsimp only; omega⟩
  · have hin : k = M := by have := of_decide_eq_false hb; omega
    subst hin
    repeat first|apply wa1|apply wa2|apply wa3|apply wa4|apply wa5 rfl|apply wa6|apply wa7|(refine wb1 rfl fun R r=>?_;simp only[go_sem, e1, hn_g1];with_reducible refine r _ _ ?_;clear r R)
    (refine aw_retq hC rfl fun R r=>?_;simp only[go_sem, e1, hn_g1];refine r _ rfl ?_;clear r R)
    exact .one (.c (ler_gsb (pre := [(g1, _)]) hog (fun g e => by simp only [Heap.keys, List.map_cons, List.map_nil, List.mem_singleton]; exact hgn g e) hvl))
end Go.Proofs.Ytmkomfdiggcloaa

/- Drawn regions with a call that changes memory in their middle, and two operations in either order behind it. -/
namespace Go.AI
section
variable {E : Env} {K : List It} {σ σ' : Sl} {h : Heap} {l : List Oper} {o : Oper}
theorem Oper_wp_imp {P : Program} {o : Oper} {a : Act} {w : World} {K K' : Act → World → Prop} {Q Q' : Exit → Act → World → Prop} (h : ∀ a w, K a w → K' a w) (hq : ∀ e a w, e ≠ .normal → Q e a w → Q' e a w) (hh : o.wp P a w K Q) : o.wp P a w K' Q' := by
  have hl : LetsOut Q → LetsOut Q' := fun ⟨a, w, x⟩ => ⟨a, w, hq _ _ _ (by simp) x⟩
  unfold Oper.wp at *
  generalize (execOp a.eval o).run P w = r at *
  cases r with
  | ok n w' =>
    cases n <;> simp only [Oper.upon] at hh ⊢ <;>
      first
        | exact h _ _ hh
        | exact Calls.mono hh (fun e w'' he => by cases e <;> first | exact h _ _ he | exact hl he | exact hq _ _ _ (by simp) he)
        | exact Rows.mono hh (fun _ _ he => h _ _ he)
        | exact hh
  | halt x w' => cases x <;> simp only [Oper.upon] at hh ⊢ <;> first | exact hq _ _ _ (by simp) hh | exact hh | exact hl hh
theorem drawZ_any {n : Nat} {ps : List (Oper × AV)} (hok : lexOk l = true) (hA : ∀ i o, n ≤ i → l[i]? = some o → ∀ j, j < n → edgeT l 12 o j = true) (hn : n ≤ l.length) (hps : ps.map (·.1) = l.take n) (d : Dr E h l ps σ σ') {Q : Exit → Act → World → Prop}
    (k : ∀ (listed : Array Bool) a w, listed.size = l.length → (∀ j, j < l.length → listed.getD j false = decide (j < n)) → St E.N E.C σ' h a w → wpAny E.P .any l.toArray Q (l.length - n) listed a w) : ∀ (u : Nat) (listed : Array Bool) (a : Act) (w : World), unl (fun j => listed.getD j false) n = u → listed.size = l.length →
    (∀ i o, l[i]? = some o → listed.getD i false = true → ∀ e ∈ o.after, Region.binds .any e = true → listed.getD e.on false = true) → (∀ j, n ≤ j → j < l.length → listed.getD j false = false) →
    St E.N E.C (sigL ps (marks n listed) σ) h a w → wpAny E.P .any l.toArray Q (u + (l.length - n)) listed a w := by
  have hpl : ps.length = n := by have := congrArg List.length hps; simp at this; omega
  have hpi : ∀ (j : Nat) (p : Oper × AV), ps[j]? = some p → l[j]? = some p.1 ∧ j < n := by
    intro j p hp
    have hj : j < ps.length := (List.getElem?_eq_some_iff.1 hp).1
    have h1 : (ps.map (·.1))[j]? = some p.1 := by simp [hp]
    rw [hps, List.getElem?_take] at h1
    split at h1
    · exact ⟨h1, by omega⟩
    · cases h1
  intro u
  induction u with
  | zero =>
    intro listed a w hu hs _ htl st
    have hall := unl_zero n hu
    rw [Nat.zero_add]
    refine k listed a w hs (fun j hj => ?_) ?_
    · rcases Nat.lt_or_ge j n with h1 | h1
      · rw [hall j h1]; simp [h1]
      · rw [htl j h1 hj]; simp; omega
    · have e : marks n listed = (List.range ps.length).map fun _ => true := by
        unfold marks
        rw [hpl]
        exact List.map_congr_left fun j hj => hall j (by simpa using hj)
      rw [d.end_, ← e]
      exact st
  | succ u ih =>
    intro listed a w hu hs hcl htl st
    rw [show u + 1 + (l.length - n) = (u + (l.length - n)) + 1 from by omega]
    obtain ⟨j0, hj0, hj1, hj2⟩ := unl_pos (L := fun j => listed.getD j false) n (by omega)
    have hready : j0 ∈ Region.ready .any l.toArray listed := (mem_ready hs).2 ⟨by omega, hj1, fun o ho e he hb => hj2 _ (lex_back hok ho he hb)⟩
    refine ⟨fun e => by rw [e] at hready; simp at hready, fun i hi => ?_⟩
    obtain ⟨h1, h2, h3⟩ := (mem_ready hs).1 hi
    have ho : l[i]? = some l[i] := List.getElem?_eq_getElem h1
    have hin : i < n := by
      rcases Nat.lt_or_ge i n with hlt | hge
      · exact hlt
      · have := edgeT_listed (L := fun q => listed.getD q false) hcl 12 _ j0 (h3 _ ho) (hA i _ hge ho j0 hj0)
        simp only [hj1] at this
        cases this
    have hpi' : ps[i]? = some ps[i] := List.getElem?_eq_getElem (by omega)
    obtain ⟨hp1, _⟩ := hpi i _ hpi'
    rw [ho] at hp1
    injection hp1 with hp1
    obtain ⟨hd, hc⟩ := d.at_ i ps[i].1 ps[i].2 hpi'
    -- the slots that it looks at hold what they hold in the text's order
    have hsame : ∀ t ∈ looks l ps[i].1, (sigL ps (marks n listed) σ).get t = (sigL ps ((List.range ps.length).map fun j => decide (j < i)) σ).get t := by
      intro t htl'
      by_cases hex : ∃ (j : Nat) (p : Oper × AV), ps[j]? = some p ∧ j < i ∧ p.1.dst = some t
      · obtain ⟨j, p, hp, hji, hdt⟩ := hex
        obtain ⟨hlp, hjn⟩ := hpi j p hp
        have huniq : ∀ (j' : Nat) (p' : Oper × AV), j' ≠ j → ps[j']? = some p' → p'.1.dst ≠ some t := fun j' p' hne hp' =>
          (lex_pair hok (hpi j' p' hp').1 hlp hdt).2 (fun e => hne e.symm)
        obtain ⟨e, he, hon, hb⟩ := edge_mem (((lex_pair hok (by rw [← hp1]; exact ho) hlp hdt).1 htl').1 hji)
        have hlj : listed.getD j false = true := by rw [← hon]; exact h3 _ ho e (by rw [hp1]; exact he) hb
        rw [sigL_get_some ps _ σ t j p.1 p.2 hp (by rw [marks_get hjn, hlj]) hdt huniq,
          sigL_get_some ps _ σ t j p.1 p.2 hp (by simp [show j < ps.length from by omega, hji]) hdt huniq]
      · rw [sigL_get_none ps _ σ t (fun j p hp hb hdt => ?_), sigL_get_none ps _ σ t (fun j p hp hb hdt => ?_)]
        · have hjl : j < ps.length := (List.getElem?_eq_some_iff.1 hp).1
          simp [hjl] at hb
          exact hex ⟨j, p, hp, hb, hdt⟩
        · obtain ⟨hlp, hjn⟩ := hpi j p hp
          rw [marks_get hjn] at hb
          injection hb with hb
          rcases Nat.lt_trichotomy j i with hlt | heq | hgt
          · exact hex ⟨j, p, hp, hlt, hdt⟩
          · subst heq; rw [h2] at hb; cases hb
          · obtain ⟨e, he, hon, hb'⟩ := edge_mem (((lex_pair hok (by rw [← hp1]; exact ho) hlp hdt).1 htl').2 hgt)
            have := hcl j _ hlp hb e he hb'
            rw [hon, h2] at this
            cases this
    have hnext : ∀ a' w', St E.N E.C ((sigL ps (marks n listed) σ).setO ps[i].1.dst ps[i].2) h a' w' → wpAny E.P .any l.toArray Q (u + (l.length - n)) (listed.setIfInBounds i true) a' w' := by
      intro a' w' st'
      have his : i < listed.size := by omega
      refine ih _ a' w' ?_ (by simpa using hs) (fun q o hq hlq e he hb => ?_) (fun j hj hjl => ?_) ?_
      · have hfun : (fun j => (listed.setIfInBounds i true).getD j false) = fun j => if j = i then true else listed.getD j false := funext fun j => getD_set his
        rw [hfun]
        have := unl_set (L := fun j => listed.getD j false) n hin h2
        omega
      · rw [getD_set his] at hlq ⊢
        by_cases hqi : q = i
        · subst hqi
          by_cases hei : e.on = q
          · rw [if_pos hei]
          · rw [if_neg hei]; exact h3 o hq e he hb
        · rw [if_neg hqi] at hlq
          have := hcl q o hq hlq e he hb
          by_cases hei : e.on = i
          · rw [if_pos hei]
          · rw [if_neg hei]; exact this
      · rw [getD_set his, if_neg (by omega)]; exact htl j hj hjl
      · refine St.weak st' (fun t => .inr ?_) (List.Sublist.refl _)
        rw [setO_get]
        by_cases hdt : ps[i].1.dst = some t
        · rw [if_pos hdt]
          have huniq : ∀ (j' : Nat) (p' : Oper × AV), j' ≠ i → ps[j']? = some p' → p'.1.dst ≠ some t := fun j' p' hne hp' =>
            (lex_pair hok (hpi j' p' hp').1 (hpi i _ hpi').1 hdt).2 (fun e => hne e.symm)
          exact sigL_get_some ps _ σ t i ps[i].1 ps[i].2 hpi' (by rw [marks_get hin, getD_set his, if_pos rfl]) hdt huniq
        · rw [if_neg hdt]
          by_cases hex : ∃ (j : Nat) (p : Oper × AV), ps[j]? = some p ∧ listed.getD j false = true ∧ p.1.dst = some t
          · obtain ⟨j, p, hp, hlj, hdt'⟩ := hex
            obtain ⟨hlp, hjn⟩ := hpi j p hp
            have huniq : ∀ (j' : Nat) (p' : Oper × AV), j' ≠ j → ps[j']? = some p' → p'.1.dst ≠ some t := fun j' p' hne hp' =>
              (lex_pair hok (hpi j' p' hp').1 hlp hdt').2 (fun e => hne e.symm)
            rw [sigL_get_some ps _ σ t j p.1 p.2 hp (by rw [marks_get hjn, getD_set his]; split <;> first | rfl | rw [hlj]) hdt' huniq,
              sigL_get_some ps _ σ t j p.1 p.2 hp (by rw [marks_get hjn, hlj]) hdt' huniq]
          · rw [sigL_get_none ps _ σ t (fun j p hp hb hdt' => ?_), sigL_get_none ps _ σ t (fun j p hp hb hdt' => ?_)]
            · obtain ⟨_, hjn⟩ := hpi j p hp
              rw [marks_get hjn] at hb
              injection hb with hb
              exact hex ⟨j, p, hp, hb, hdt'⟩
            · obtain ⟨_, hjn⟩ := hpi j p hp
              rw [marks_get hjn, getD_set his] at hb
              injection hb with hb
              split at hb
              · rename_i hji; subst hji; rw [hpi'] at hp; injection hp with hp; subst hp; exact hdt hdt'
              · exact hex ⟨j, p, hp, hb, hdt'⟩
    have hcalm := hc _ a w Q hsame st
    unfold wpOp
    rw [show l.toArray[i]? = some l[i] from by simp [h1]]
    simp only
    rw [hp1]
    split
    · rename_i hw
      rw [if_pos hw] at hcalm
      exact .inl (Oper.wp_mono hnext hcalm)
    · rename_i hw
      rw [if_neg hw] at hcalm
      have st2 := st.put hd (r := .c .any) (v := undef) trivial
      rw [← hcalm] at st2
      exact hnext _ _ st2

theorem tailM_any {n p : Nat} (hok : lexOk l = true) (hp : p ≤ l.length) (hE : ∀ i o, l[i]? = some o → ∀ j, n ≤ j → j < i → j < p → edgeT l 12 o j = true) {Q Q1 : Exit → Act → World → Prop} (hq : ∀ e a w, e ≠ .normal → Q1 e a w → Q e a w)
    (hend : ∀ (listed : Array Bool) a w, listed.size = l.length → (∀ j, j < l.length → listed.getD j false = decide (j < p)) → Q1 .normal a w → wpAny E.P .any l.toArray Q (l.length - p) listed a w) : ∀ (fuel i : Nat) (listed : Array Bool) (a : Act) (w : World), n ≤ i → i + fuel = p → listed.size = l.length → (∀ j, j < l.length → listed.getD j false = decide (j < i)) →
    wpList E.P l.toArray Q1 ((l.take p).drop i) a w → wpAny E.P .any l.toArray Q (fuel + (l.length - p)) listed a w
  | 0, i, listed, a, w, _, hf, hs, hl, k => by
    have : (l.take p).drop i = [] := List.drop_eq_nil_of_le (by simp; omega)
    rw [this] at k
    rw [Nat.zero_add]
    have hip : i = p := by omega
    subst hip
    exact hend listed a w hs hl k
  | fuel + 1, i, listed, a, w, hn, hf, hs, hl, k => by
    have hi : i < l.length := by omega
    rw [show fuel + 1 + (l.length - p) = (fuel + (l.length - p)) + 1 from by omega]
    have ho : l[i]? = some l[i] := List.getElem?_eq_getElem hi
    have hcl : ∀ q o, l[q]? = some o → listed.getD q false = true → ∀ e ∈ o.after, Region.binds .any e = true → listed.getD e.on false = true := fun q o hq hlq e he hb => by
      have hql : q < l.length := (List.getElem?_eq_some_iff.1 hq).1
      rw [hl q hql] at hlq
      have := lex_back hok hq he hb
      simp only [decide_eq_true_eq] at hlq
      rw [hl e.on (by omega)]; simp; omega
    have hready : i ∈ Region.ready .any l.toArray listed := (mem_ready hs).2 ⟨hi, by rw [hl i hi]; simp, fun o ho' e he hb => by
      have := lex_back hok ho' he hb
      rw [hl e.on (by omega)]; simpa using this⟩
    refine ⟨fun e => by rw [e] at hready; simp at hready, fun j hj => ?_⟩
    obtain ⟨h1, h2, h3⟩ := (mem_ready hs).1 hj
    have hji : j = i := by
      rw [hl j h1] at h2
      simp only [decide_eq_false_iff_not, Nat.not_lt] at h2
      rcases Nat.lt_or_ge i j with hlt | hge
      · have := edgeT_listed (L := fun q => listed.getD q false) hcl 12 _ i (h3 _ (List.getElem?_eq_getElem h1)) (hE j _ (List.getElem?_eq_getElem h1) i (by omega) hlt (by omega))
        simp only [hl i hi] at this
        simp at this
      · omega
    subst hji
    rw [show (l.take p).drop j = l[j] :: (l.take p).drop (j + 1) from by rw [List.drop_eq_getElem_cons (by simp; omega), List.getElem_take]] at k
    unfold wpOp
    rw [show l.toArray[j]? = some l[j] from by simp [hi]]
    have hstep : ∀ a w, wpList E.P l.toArray Q1 ((l.take p).drop (j + 1)) a w → wpAny E.P .any l.toArray Q (fuel + (l.length - p)) (listed.setIfInBounds j true) a w := fun a w k' =>
      tailM_any hok hp hE hq hend fuel (j + 1) _ a w (by omega) (by omega) (by simpa using hs) (fun q hq => by
        rw [getD_set (by omega), hl q hq]
        by_cases h : q = j
        · subst h; simp
        · rw [if_neg h]; congr 1; simp; omega) k'
    simp only [wpList] at k
    simp only
    split
    · rename_i hw
      rw [if_pos hw] at k
      exact k.imp (Oper_wp_imp hstep hq) (fun x => ⟨x.1, x.2.elim fun a h => h.elim fun w h => ⟨a, w, hq _ _ _ (by simp) h⟩⟩)
    · rename_i hw
      rw [if_neg hw] at k
      exact hstep _ _ k
end
end Go.AI

/- Drawn regions whose last operations come in a few orders: each of them is walked. -/
namespace Go.AI
section
variable {E : Env} {K : List It} {σ σ' : Sl} {h : Heap} {l : List Oper} {o : Oper}
/-- Which of the operations rem, that are left, can come next. -/
def readyR (l : List Oper) (rem : List Nat) : List Nat := rem.filter fun j => match l[j]? with
  | some o => o.after.all fun e => !Region.binds .any e || !(rem.contains e.on)
  | none => false
/-- What is left of a drawn region when the operations rem are left. -/
def awN (E : Env) (l : List Oper) (K : List It) (rem : List Nat) (σ : Sl) (h : Heap) : Prop :=
  rem.Nodup → ∀ (L : Array Bool) (a : Act) (w : World), L.size = l.length → (∀ j, j < l.length → L.getD j false = !(rem.contains j)) → St E.N E.C σ h a w → wpAny E.P .any l.toArray (exW E K) rem.length L a w
def stepsN (E : Env) (l : List Oper) (K : List It) (rem : List Nat) (σ : Sl) (h : Heap) : List Nat → Prop
  | [] => True
  | j :: js => (∃ o, l[j]? = some o ∧ aw E (.ops l [o] :: .stop (fun σ' h' => awN E l K (rem.erase j) σ' h') :: K) σ h) ∧ stepsN E l K rem σ h js
theorem stepsN_mem {rem : List Nat} : ∀ {js : List Nat}, stepsN E l K rem σ h js → ∀ j ∈ js, ∃ o, l[j]? = some o ∧ aw E (.ops l [o] :: .stop (fun σ' h' => awN E l K (rem.erase j) σ' h') :: K) σ h
  | j :: js, hk, i, hi => by
    rcases List.mem_cons.1 hi with rfl | hi
    · exact hk.1
    · exact stepsN_mem hk.2 i hi
theorem ready_iff {rem : List Nat} {L : Array Bool} (hlx : lexOk l = true) (hs : L.size = l.length) (hl : ∀ j, j < l.length → L.getD j false = !(rem.contains j)) (i : Nat) (hi : i < l.length) : i ∈ Region.ready .any l.toArray L ↔ i ∈ readyR l rem := by
  rw [mem_ready hs]
  unfold readyR
  rw [List.mem_filter]
  have ho : l[i]? = some l[i] := List.getElem?_eq_getElem hi
  rw [ho]
  constructor
  · rintro ⟨_, h2, h3⟩
    rw [hl i hi] at h2
    refine ⟨by simpa using h2, ?_⟩
    rw [Array.all_eq_true']
    intro e he
    cases hb : Region.binds .any e with
    | false => rfl
    | true =>
      have hlt := lex_back hlx ho he hb
      have := h3 _ rfl e he hb
      rw [hl e.on (by omega)] at this
      simpa using this
  · rintro ⟨h1, h2⟩
    refine ⟨hi, by rw [hl i hi]; simpa using h1, fun o ho' e he hb => ?_⟩
    injection ho' with ho'
    subst ho'
    rw [Array.all_eq_true'] at h2
    have h3 := h2 e he
    rw [hb] at h3
    have hlt := lex_back hlx ho he hb
    rw [hl e.on (by omega)]
    simpa using h3
theorem awN_step (rem js : List Nat) (hlx : lexOk l = true) (hr : readyR l rem = js) (hne : js ≠ []) (hlt : (rem.all fun j => decide (j < l.length)) = true) (k : stepsN E l K rem σ h js) : awN E l K rem σ h := by
  intro hnd L a w hs hl st
  have hlt' : ∀ j ∈ rem, j < l.length := fun j hj => of_decide_eq_true (List.all_eq_true.1 hlt j hj)
  have hsub : ∀ j ∈ js, j ∈ rem := fun j hj => by
    rw [← hr] at hj
    exact (List.mem_filter.1 hj).1
  obtain ⟨j0, hj0⟩ := List.exists_mem_of_ne_nil js hne
  have hpos : 0 < rem.length := List.length_pos_of_mem (hsub j0 hj0)
  obtain ⟨m, hm⟩ : ∃ m, rem.length = m + 1 := ⟨rem.length - 1, by omega⟩
  rw [hm]
  refine ⟨fun e => ?_, fun i hi => ?_⟩
  · have : j0 ∈ Region.ready .any l.toArray L := (ready_iff hlx hs hl j0 (hlt' j0 (hsub j0 hj0))).2 (by rw [hr]; exact hj0)
    rw [e] at this
    cases this
  · have hil : i < l.length := ((mem_ready hs).1 hi).1
    have hi' : i ∈ js := by rw [← hr]; exact (ready_iff hlx hs hl i hil).1 hi
    obtain ⟨o, ho, ka⟩ := stepsN_mem k i hi'
    have kk := ka a w st
    have hstep : ∀ a w, exW E (.stop (fun σ' h' => awN E l K (rem.erase i) σ' h') :: K) .normal a w → wpAny E.P .any l.toArray (exW E K) m (L.setIfInBounds i true) a w := by
      rintro a w ⟨σ', h', hR, st'⟩
      have := hR (hnd.erase i) (L.setIfInBounds i true) a w (by simpa using hs) (fun q hq => by
        rw [getD_set (by omega), hl q hq]
        by_cases hqi : q = i
        · subst hqi
          rw [if_pos rfl]
          have : q ∉ rem.erase q := fun hm => (List.Nodup.mem_erase_iff hnd).1 hm |>.1 rfl
          simpa using this
        · rw [if_neg hqi]
          have : q ∈ rem.erase i ↔ q ∈ rem := by rw [List.Nodup.mem_erase_iff hnd]; exact ⟨fun h => h.2, fun h => ⟨hqi, h⟩⟩
          congr 1
          rw [Bool.eq_iff_iff]
          simp only [List.contains_iff_mem]
          exact this.symm) st'
      rwa [List.length_erase_of_mem (hsub i hi'), hm, Nat.add_sub_cancel] at this
    have hq : ∀ e a w, e ≠ .normal → exW E (.stop (fun σ' h' => awN E l K (rem.erase i) σ' h') :: K) e a w → exW E K e a w := fun e a w hne hq => by
      cases e with
      | normal => exact absurd rfl hne
      | exit id => exact hq
      | goto l => exact hq
      | ret => exact hq
      | panic c => exact hq
      | outgrown => exact hq
    unfold wpOp
    rw [show l.toArray[i]? = some o from by simpa using ho]
    change wpList E.P l.toArray _ [o] a w at kk
    simp only [wpList] at kk
    simp only
    split
    · rename_i hw
      rw [if_pos hw] at kk
      exact kk.imp (Oper_wp_imp hstep hq) (fun x => ⟨x.1, x.2.elim fun a h => h.elim fun w h => ⟨a, w, hq _ _ _ (by simp) h⟩⟩)
    · rename_i hw
      rw [if_neg hw] at kk
      exact hstep _ _ kk
theorem awN_nil (k : aw E K σ h) : awN E l K [] σ h := by
  intro _ L a w hs hl st
  refine ⟨?_, k a w st⟩
  rw [List.eq_nil_iff_forall_not_mem]
  intro j hj
  obtain ⟨h1, h2, _⟩ := (mem_ready hs).1 hj
  rw [hl j h1] at h2
  simp at h2
def midP (l : List Oper) (n p : Nat) : Bool := l.zipIdx.all fun (o, i) => decide (i < n) || (List.range i).all fun j => decide (p ≤ j) || edgeT l 12 o j
theorem midP_edge {n p : Nat} (ht : midP l n p = true) {i : Nat} {o : Oper} (ho : l[i]? = some o) (hn : n ≤ i) {j : Nat} (hj : j < i) (hx : j < p) : edgeT l 12 o j = true := by
  unfold midP at ht
  rw [List.all_eq_true] at ht
  have := ht (o, i) (by rw [List.mem_zipIdx_iff_getElem?]; exact ho)
  simp only [Bool.or_eq_true, decide_eq_true_eq, List.all_eq_true, List.mem_range] at this
  exact (this.resolve_left (by omega) j hj).resolve_left (by omega)
set_option maxHeartbeats 1000000 in
/-- A drawn region: n operations in any order, then up to p one after the other, then the rest in any of their orders. -/
theorem aw_drT {id : Nat} (n p : Nat) (rem : List Nat) (hm : E.P.follows .mixedOrders = true) (hok : (lexOk l && midP l n p && decide (n ≤ p) && decide (p ≤ l.length) && ((List.range (l.length - p)).map (· + p) == rem)) = true)
    (k : DrK E h l (.stop (fun σ' h' => awN E l K rem σ' h') :: K) n (l.take p) σ) : aw E (.code (.region id l.toArray true) :: K) σ h := fun a w s => by
  obtain ⟨ps, σ1, hps, hd, k⟩ := k
  simp only [Bool.and_eq_true, decide_eq_true_eq, beq_iff_eq] at hok
  obtain ⟨⟨⟨⟨hlx, hmt⟩, hnp⟩, hpl⟩, hrem⟩ := hok
  rw [List.take_take, Nat.min_eq_left hnp] at hps
  refine wp_region_any hm ?_
  have s' := s.later (Fr.drew (fun _ => False) w (w.drawn + 1))
  have e0 : ∀ j, (Array.replicate l.length false).getD j false = false := fun j => by
    rw [Array.getD_eq_getD_getElem?]
    simp only [Array.getElem?_replicate]
    split <;> rfl
  have hun : ∀ m, unl (fun j => (Array.replicate l.length false).getD j false) m = m := by
    intro m
    induction m with
    | zero => rfl
    | succ m ih => rw [unl, ih, e0]; rfl
  have hrl : rem.length = l.length - p := by rw [← hrem]; simp
  have hrn : rem.Nodup := by
    rw [← hrem]
    exact List.Pairwise.map _ (fun a b (hab : a ≠ b) => by omega) List.nodup_range
  have hrc : ∀ j, j < l.length → (!(rem.contains j)) = decide (j < p) := fun j hj => by
    rw [← hrem]
    by_cases hjp : j < p
    · rw [decide_eq_true hjp]
      simp only [Bool.not_eq_true', List.contains_eq_mem, decide_eq_false_iff_not, List.mem_map, List.mem_range, not_exists, not_and]
      intro x _; omega
    · rw [decide_eq_false hjp]
      simp only [Bool.not_eq_false', List.contains_eq_mem, decide_eq_true_eq, List.mem_map, List.mem_range]
      exact ⟨j - p, by omega, by omega⟩
  have htail : ∀ (listed : Array Bool) a w, listed.size = l.length → (∀ j, j < l.length → listed.getD j false = decide (j < n)) → St E.N E.C σ1 h a w → wpAny E.P .any l.toArray (exW E K) (l.length - n) listed a w := by
    intro listed a w hs hl st
    have := tailM_any (E := E) (n := n) (p := p) hlx (by omega) (fun i o hi j h1 h2 h3 => midP_edge hmt hi (by omega) h2 h3) (Q := exW E K) (Q1 := exW E (.stop (fun σ' h' => awN E l K rem σ' h') :: K)) (fun e a w hne hq => by
        cases e with
        | normal => exact absurd rfl hne
        | exit id => exact hq
        | goto l => exact hq
        | ret => exact hq
        | panic c => exact hq
        | outgrown => exact hq) (fun L a w hs hl hq => by
        obtain ⟨σ2, h2, hk2, st2⟩ := hq
        have := hk2 hrn L a w hs (fun j hj => by rw [hl j hj, hrc j hj]) st2
        rwa [hrl] at this) (p - n) n listed a w (Nat.le_refl _) (by omega) hs hl (k a w st)
    rwa [show p - n + (l.length - p) = l.length - n from by omega] at this
  have := drawZ_any (Q := exW E K) hlx (fun i o h1 h2 j h3 => midP_edge hmt h2 h1 (by omega) (by omega)) (by omega) hps hd htail n (Array.replicate l.length false) a { w with drawn := w.drawn + 1 } (hun n) (by simp) (fun i o _ hl => by rw [e0] at hl; cases hl) (fun j _ _ => e0 j) (by
    refine s'.weak (fun t => .inr ?_) (List.Sublist.refl _)
    rw [sigL_get_none ps _ σ t (fun j p hp hb => ?_)]
    exfalso
    have hjl : j < ps.length := (List.getElem?_eq_some_iff.1 hp).1
    have hpl : ps.length = n := by have := congrArg List.length hps; simp at this; omega
    rw [marks_get (by omega), e0] at hb
    cases hb)
  rw [show n + (l.length - n) = l.length from by omega] at this
  simpa using this
end
end Go.AI
