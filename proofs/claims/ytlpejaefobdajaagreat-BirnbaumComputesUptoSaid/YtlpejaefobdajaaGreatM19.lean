/- Texts of one proof, laid one behind the other by a program (merge.py): Law1, Glue2, Cub2, Shan6, PTot. -/
import Derived.Test.YtlpejaefobdajaaGreatM18
import Derived.Test.YtlpejaefobdajaaGreatM15
set_option linter.unusedSimpArgs false
set_option linter.unusedVariables false
/- faultlinelaw37.large. -/
namespace Go.AI
section
variable {E : Env} {K : List It} {σ σ' : Sl} {h : Heap} {all rest : List Oper} {o : Oper}
/-- An operation that is left out leaves nothing. -/
theorem aw_skipU (hw : wantA all σ o = some false) (hd : dstOk E.N o.dst = true) (k : aw E (.ops all rest :: K) (σ.setO o.dst (.c (.raw undef))) h) : aw E (.ops all (o :: rest) :: K) σ h := fun a w s => by
  show wpList _ _ _ _ _ _
  unfold wpList
  rw [if_neg (by rw [s.wanted hw]; simp)]
  exact k _ _ (s.put hd (r := .c (.raw undef)) rfl)
/-- An operation that hangs on one that was left out is left out too. -/
theorem aw_skipN {j t : Nat} {want : Bool} (hg : o.guard = some (j, want)) (hj : (all[j]?).bind (·.dst) = some t) (ht : σ.get t = .c (.raw undef)) (hd : dstOk E.N o.dst = true) (k : aw E (.ops all rest :: K) (σ.setO o.dst (.c .any)) h) : aw E (.ops all (o :: rest) :: K) σ h := fun a w s => by
  have hnw : Region.wanted o (yielded all.toArray a.tmps) = false := by
    unfold Region.wanted
    rw [hg]
    show (yielded all.toArray a.tmps j == some want) = false
    have hy : yielded all.toArray a.tmps j = none := by
      unfold yielded
      have h1 : ((all.toArray[j]?).bind (·.dst)) = some t := by simpa using hj
      rw [h1]
      have h2 := s.slots t
      rw [ht] at h2
      have h3 : a.tmps.getD t undef = undef := h2
      simp only [Option.bind_some]
      rw [Array.getD_eq_getD_getElem?] at h3
      cases h4 : a.tmps[t]? with
      | none => rfl
      | some v =>
        rw [h4] at h3
        have h5 : v = undef := h3
        subst h5
        rfl
    rw [hy]; rfl
  show wpList _ _ _ _ _ _
  unfold wpList
  rw [if_neg (by rw [hnw]; simp)]
  exact k _ _ (s.put hd (r := .c .any) trivial)
end
end Go.AI
namespace Go.PN
open Go.AI
def bigR (r : RD) : Bool := decide ((r.num.length : Int) > 4) || decide ((r.den.length : Int) > 4)
def largeA (d : DG) (p : List RD) : Bool := decide ((p.length : Int) > 100) || decide ((d.order.length : Int) > 100) || (decide ((d.nodes.length : Int) > 300) && decide ((d.nodes.length : Int) ≤ 4096)) || (decide ((d.order.length : Int) > 6) && (dcode d == 0))
def largeB (d : DG) (p : List RD) : Bool := largeA d p || p.any bigR
/-- Words that are words. -/
def WordsOk (p : List RD) : Prop := ∀ r ∈ p, (∀ x ∈ r.num, x < 4294967296) ∧ (∀ x ∈ r.den, x < 4294967296)
end Go.PN
namespace Go.Proofs.YtlpejaefobdajaaGreat
open Go.AI Go.PN
attribute [local irreducible] aw Fa Fh DrK
theorem small_of {d : DG} {p : List RD} (hw : WordsOk p) (hn : d.nodes.length ≤ 1099511627776) (h : largeB d p = false) : Small d p := by
  unfold largeB largeA at h
  simp only [Bool.or_eq_false_iff, Bool.and_eq_false_iff, decide_eq_false_iff_not, beq_eq_false_iff_ne] at h
  obtain ⟨⟨⟨⟨h1, h2⟩, h3⟩, h4⟩, h5⟩ := h
  have h5' : ∀ r ∈ p, bigR r = false := by
    intro r hr
    cases hb : bigR r with
    | false => rfl
    | true => rw [List.any_eq_true.2 ⟨r, hr, hb⟩] at h5; cases h5
  refine ⟨fun r hr => ?_, by omega, by omega, hn, fun h0 => ?_⟩
  · have := h5' r hr
    unfold bigR at this
    simp only [Bool.or_eq_false_iff, decide_eq_false_iff_not] at this
    exact ⟨(hw r hr).1, (hw r hr).2, by omega, by omega⟩
  · rcases h4 with h4 | h4
    · omega
    · refine absurd ?_ h4
      unfold dpcode at h0
      split at h0
      · rename_i hc; exact absurd h0 hc
      · rename_i hc; simpa using hc
set_option maxRecDepth 100000 in
set_option maxHeartbeats 1600000 in
theorem large_fa (d : DG) (p : List RD) (hl : p.length ≤ 1099511627776) (hl1 : d.order.length ≤ 1099511627776) (hl2 : d.nodes.length ≤ 1099511627776) : Fa Tryz.prog 53 [.agg (dgc false d), .c (rats false p)] (.c (.bool (largeB d p))) := by
  have hA : largeA d p = true → largeB d p = true := fun h => by unfold largeB; rw [h]; rfl
  refine fa_of_body Tryz.func53 rfl rfl (by simp [Tryz.ntmps53]) fun C hC => ?_
  simp only [initS, Nat.reduceAdd]
  apply aw_seq
  apply aw_region
  refine xB fun g2 hn_g2=>?_
  refine yH hn_g2 ?_
  apply aw_seq
  refine aw_cut (fun _ : Unit => [(1, .c (rats false p))]) (fun _ => []) (fun _ => largeA d p = false) ?_ ?_
  · refine yG hn_g2 ?_
    refine aw_split 9 (zE hn_g2) (fun a1 => ?_) (fun a1 => ?_) <;> refine yS hn_g2 ?_
    · rw [hA (by unfold largeA; rw [a1]; rfl)]
      iterate 10 refine yO hn_g2 ?_
      refine aw_skipU (zE hn_g2) rfl ?_
      refine yS hn_g2 ?_
      iterate 4 (refine aw_skipN rfl rfl (zE hn_g2) rfl ?_; refine yS hn_g2 ?_)
      refine yO hn_g2 ?_
      refine yO hn_g2 ?_
      refine yO hn_g2 ?_
      iterate 4 refine yO hn_g2 ?_
      refine aw_skipU (zE hn_g2) rfl ?_
      refine yS hn_g2 ?_
      iterate 3 (refine aw_skipN rfl rfl (zE hn_g2) rfl ?_; refine yS hn_g2 ?_)
      refine yG hn_g2 ?_
      refine yP hn_g2 ?_
      refine yG hn_g2 ?_
      refine yT hC hn_g2 ?_
      exact .one (.c (.bool _))
    refine yG hn_g2 ?_
    refine aw_split 15 (zE hn_g2) (fun a2 => ?_) (fun a2 => ?_) <;> refine yS hn_g2 ?_
    · rw [hA (by unfold largeA; rw [a1, a2]; rfl)]
      iterate 4 refine yO hn_g2 ?_
      refine aw_skipU (zE hn_g2) rfl ?_
      refine yS hn_g2 ?_
      iterate 4 (refine aw_skipN rfl rfl (zE hn_g2) rfl ?_; refine yS hn_g2 ?_)
      refine yO hn_g2 ?_
      refine yO hn_g2 ?_
      refine yO hn_g2 ?_
      iterate 4 refine yO hn_g2 ?_
      refine aw_skipU (zE hn_g2) rfl ?_
      refine yS hn_g2 ?_
      iterate 3 (refine aw_skipN rfl rfl (zE hn_g2) rfl ?_; refine yS hn_g2 ?_)
      refine yG hn_g2 ?_
      refine yP hn_g2 ?_
      refine yG hn_g2 ?_
      refine yT hC hn_g2 ?_
      exact .one (.c (.bool _))
    refine yG hn_g2 ?_
    refine aw_split 20 (zE hn_g2) (fun a3 => ?_) (fun a3 => ?_) <;> refine yS hn_g2 ?_
    · refine yG hn_g2 ?_
      refine aw_split 27 (zE hn_g2) (fun a4 => ?_) (fun a4 => ?_) <;> refine yS hn_g2 ?_
      · rw [hA (by unfold largeA; rw [a1, a2, a3, a4]; rfl)]
        iterate 4 refine yO hn_g2 ?_
        refine aw_skipU (zE hn_g2) rfl ?_
        refine yS hn_g2 ?_
        iterate 3 (refine aw_skipN rfl rfl (zE hn_g2) rfl ?_; refine yS hn_g2 ?_)
        refine yG hn_g2 ?_
        refine yP hn_g2 ?_
        refine yG hn_g2 ?_
        refine yT hC hn_g2 ?_
        exact .one (.c (.bool _))
      refine yG hn_g2 ?_
      refine aw_split 32 (zE hn_g2) (fun a5 => ?_) (fun a5 => ?_) <;> refine yS hn_g2 ?_
      · refine yG hn_g2 ?_
        refine yC hn_g2 (dcheckR_fa d hl1 hl2) ?_
        refine yG hn_g2 ?_
        refine yF hn_g2 (fun a6=>?_) fun a6=>?_
        · rw [hA (by unfold largeA; rw [a1, a2, a3, a4, a5, a6]; rfl)]
          refine yG hn_g2 ?_
          refine yT hC hn_g2 ?_
          exact .one (.c (.bool _))
        · refine yG hn_g2 ?_
          exact aw_stop ⟨(), (zB hn_g2), List.nil_sublist _, by unfold largeA; rw [a1, a2, a3, a4, a5, a6]; rfl⟩
      · refine yG hn_g2 ?_
        refine yN hn_g2 ?_
        refine yG hn_g2 ?_
        exact aw_stop ⟨(), (zB hn_g2), List.nil_sublist _, by unfold largeA; rw [a1, a2, a3, a4, a5]; rfl⟩
    refine yG hn_g2 ?_
    refine aw_split 32 (zE hn_g2) (fun a5 => ?_) (fun a5 => ?_) <;> refine yS hn_g2 ?_
    · refine yG hn_g2 ?_
      refine yC hn_g2 (dcheckR_fa d hl1 hl2) ?_
      refine yG hn_g2 ?_
      refine yF hn_g2 (fun a6=>?_) fun a6=>?_
      · rw [hA (by unfold largeA; rw [a1, a2, a3, a5, a6]; rfl)]
        refine yG hn_g2 ?_
        refine yT hC hn_g2 ?_
        exact .one (.c (.bool _))
      · refine yG hn_g2 ?_
        exact aw_stop ⟨(), (zB hn_g2), List.nil_sublist _, by unfold largeA; rw [a1, a2, a3, a5, a6]; rfl⟩
    · refine yG hn_g2 ?_
      refine yN hn_g2 ?_
      refine yG hn_g2 ?_
      exact aw_stop ⟨(), (zB hn_g2), List.nil_sublist _, by unfold largeA; rw [a1, a2, a3, a5]; rfl⟩
  rintro _ hLA
  have hB : largeB d p = p.any bigR := by unfold largeB; rw [hLA]; rfl
  rw [hB]
  refine yG hn_g2 ?_
  refine aw_lp (fun x : Nat => [(1, .c (rats false p)), (5, .c (.int .i64 x))]) (fun x => []) (fun x => x ≤ p.length ∧ ∀ j, j < x → bigR (p.getD j rd0) = false) (fun x => p.length - x) 0 (zB hn_g2) zZ ⟨Nat.zero_le _, by omega⟩ ?_
  rintro i ⟨hi, hs⟩
  refine yG hn_g2 ?_
  refine yF hn_g2 (fun h1=>?_) fun h1=>?_
  · have h1' : i < p.length := by have := of_decide_eq_true h1; omega
    have hmem : p.getD i rd0 ∈ p := by rw [List.getD_eq_getElem?_getD, List.getElem?_eq_getElem h1']; exact List.getElem_mem h1'
    refine yG hn_g2 ?_
    refine aw_split 51 (zE hn_g2) (fun h2 => ?_) (fun h2 => ?_) <;> refine yS hn_g2 ?_
    · rw [List.any_eq_true.2 ⟨_, hmem, by unfold bigR; rw [h2]; rfl⟩]
      refine yG hn_g2 ?_
      refine yP hn_g2 ?_
      refine yG hn_g2 ?_
      refine yT hC hn_g2 ?_
      exact .one (.c (.bool _))
    · refine yG hn_g2 ?_
      refine yF hn_g2 (fun h3=>?_) fun h3=>?_
      · rw [List.any_eq_true.2 ⟨_, hmem, by unfold bigR; rw [h2, h3]; rfl⟩]
        refine yG hn_g2 ?_
        refine yT hC hn_g2 ?_
        exact .one (.c (.bool _))
      · refine yG hn_g2 ?_
        refine aw_stop ⟨i + 1, by omega, (zB hn_g2), zZ, by omega, fun j hj => ?_⟩
        rcases Nat.lt_succ_iff_lt_or_eq.1 hj with h | h
        · exact hs j h
        · rw [h]; unfold bigR; rw [h2, h3]; rfl
  · have h1' : i = p.length := by have := of_decide_eq_false h1; omega
    subst h1'
    refine yG hn_g2 ?_
    refine yT hC hn_g2 ?_
    refine .one (.c (ler_bool ?_))
    cases ha : p.any bigR with
    | false => rfl
    | true =>
      obtain ⟨x, hx, hxb⟩ := List.any_eq_true.1 ha
      obtain ⟨j, hj, e⟩ := List.mem_iff_getElem.1 hx
      have := hs j hj
      rw [List.getD_eq_getElem?_getD, List.getElem?_eq_getElem hj, Option.getD_some, e, hxb] at this
      cases this
end Go.Proofs.YtlpejaefobdajaaGreat

/- The readers of this program's data, and what the statement asks behind the call. -/
namespace Go.Proofs.YtlpejaefobdajaaGreat
open Go.AI Go.PN Go.ChangeShapes Go.WideShapes Go.RowKit
theorem glue_laid : laidOutB Tryz.prog = true := by kernel_rfl
theorem own : ownKnob Tryz.prog.godebug = none := by kernel_rfl
section
variable {H : Type} {enc : TypeId × Value → H} {P : Program}
theorem trodAll_stays (hl : laidOutB P = true) {W W' : World} {sp : Nat → Bool} : ∀ {ts : List TypeId} {vs : List Value} {ds : List (DataW H)} {p : List MemPlace}, (∀ t ∈ ts, P.readableRec t = true ∧ t < P.types.size) → DataW.TrodAll enc P W 0 (fun _ => true) true ts vs ds p → (∀ x ∈ p, W.sameAt W' x) → (∀ x ∈ p, sp x.block = true) → DataW.TrodAll enc P W' 0 sp true ts vs ds p
  | [], _, _, _, _, h, _, _ => by
    obtain ⟨rfl, rfl, rfl⟩ := trodAll_nil h
    exact rfl
  | t :: ts, _, _, _, hts, h, hs, hp => by
    obtain ⟨v, vs, d, ds, a, b, rfl, rfl, rfl, h1, h2⟩ := trodAll_cons h
    exact ⟨a, b, WideElems.Trod_stays hl (hts t (List.mem_cons_self ..)).1 (hts t (List.mem_cons_self ..)).2 h1 (fun x hx => hs x (List.mem_append_left _ hx)) (fun x hx => hp x (List.mem_append_left _ hx)),
      trodAll_stays hl (fun t' ht => hts t' (List.mem_cons_of_mem _ ht)) h2 (fun x hx => hs x (List.mem_append_right _ hx)) (fun x hx => hp x (List.mem_append_right _ hx)), rfl⟩
/-- Behind a call that leaves all old memory alone and answers true. -/
theorem post_of_below {fn : Func} {s : ChangeSpec} {W W' : World} {args : Array Value} {ds gs : List (DataW H)} {before : List MemPlace} {tb : TypeId} (hl : laidOutB P = true) (hts : ∀ t ∈ fn.params.toList, P.readableRec t = true ∧ t < P.types.size) (hrt : fn.resultTypes = #[tb]) (hbt : P.underlying tb = some .bool) (hvars : s.vars = [])
    (hW : DataW.Whole enc P fn.params.toList s.vars false W args.toList ds gs before) (hfn : ∀ gs' : List (DataW H), gs' = [] → s.fn H (ds ++ gs') = { results := [.lit (.bool true)], args := ds }) (hb : Below W.heap.size W W') : s.post enc P fn false true false false W args (.bool true) W' := by
  have hWk := hW
  obtain ⟨p, q, hA, hV, rfl, hfz, _⟩ := hW
  rw [hvars] at hV
  obtain ⟨rfl, rfl⟩ := trodVars_none hV
  have hlt : ∀ x ∈ p ++ [], x.block < W.heap.size := fun x hx => by simpa using hWk.lt x hx
  have hlt' : ∀ x ∈ p, x.block < W.heap.size := fun x hx => hlt x (List.mem_append_left _ hx)
  have hres : ∀ (b : Nat) (sp : Nat → Bool) (hd : Bool), DataW.TrodAll enc P W' b sp hd fn.resultTypes.toList ((Value.bool true).resultList fn.resultTypes.size) (s.fn H (ds ++ [])).results [] := fun b sp hd => by
    rw [hrt, hfn [] rfl]
    exact trodAll_cons_mk (shut_bool hbt _) trodAll_mk0
  have hargs : ∀ sp : Nat → Bool, (∀ x ∈ p, sp x.block = true) → DataW.TrodAll enc P W' 0 sp true fn.params.toList args.toList (s.fn H (ds ++ [])).args p := fun sp hsp => by
    rw [hfn [] rfl]
    exact trodAll_stays hl hts hA (fun x hx => hb.same (hlt' x hx)) hsp
  have hvr : ∀ sp : Nat → Bool, DataW.TrodVars enc P W' sp s.vars (s.fn H (ds ++ [])).vars [] := fun sp => by
    rw [hvars, hfn [] rfl]; exact rfl
  refine ⟨ds, [], p ++ [], [], p, [], hWk, hres _ _ _, hargs _ (fun x hx => by simpa using hlt' x hx), hvr _, hb.frame _, fun _ => ?_⟩
  refine ⟨ok_one hrt rfl (okWide_bool_mk hbt _), _, _, ([] ++ p) ++ [], ⟨[] ++ p, [], trodAll_append (hargs _ (fun _ _ => rfl)) (hres _ _ _), hvr _, rfl, ?_, fun h => by cases h⟩, ?_⟩
  · intro b off hp
    have hp' : MemPlace.cell b off ∈ p ++ [] := by simpa using hp
    rw [Below.frozen hb (hlt _ hp')]
    exact hfz b off hp'
  · intro x hx _
    simpa using hx
/-- An argument that is a struct. -/
theorem arg_agg {α : Type} {c : α → List CV} {B : α → Nat → Prop} {t : TypeId} {fs : Array Field} (hr : Rdr P t c B) (ht : P.underlying t = some (.struct fs)) {W : World} {base : Nat} {v : Value} {d : DataW H} {p : List MemPlace} (ho : Value.okWide P W .any base t v) (h : DataW.Trod enc P W 0 (fun _ => true) true t v d p) :
    ∃ y, Rep0 (AllB W) W (.agg (c y)) v ∧ B y (Rows.uptoBulk d) := by
  obtain ⟨cs, rfl, _⟩ := okWide_struct ht ho
  obtain ⟨fuel, hf⟩ := h
  obtain ⟨y, h1, h2⟩ := hr H enc W fuel _ _ hf
  exact ⟨y, ⟨cs.toList, by simp, h1⟩, h2⟩
/-- An argument that is one cell. -/
theorem arg_cell {α : Type} {c : α → CV} {B : α → Nat → Prop} {t : TypeId} (hr : Rdr P t (fun y => [c y]) B) {W : World} {v : Value} {d : DataW H} {p : List MemPlace} (hv : v.cells = #[v]) (h : DataW.Trod enc P W 0 (fun _ => true) true t v d p) :
    ∃ y, Rep0 (AllB W) W (.c (c y)) v ∧ B y (Rows.uptoBulk d) := by
  obtain ⟨fuel, hf⟩ := h
  rw [hv] at hf
  obtain ⟨y, h1, h2⟩ := hr H enc W fuel _ _ hf
  exact ⟨y, h1.1, h2⟩
end
theorem wok_mono {xs : List Nat} : ∀ (m n : Nat), xs.length ≤ m ∧ (∀ x ∈ xs, x < 4294967296) → m ≤ n → xs.length ≤ n ∧ ∀ x ∈ xs, x < 4294967296 := fun _ _ h hm => ⟨Nat.le_trans h.1 hm, h.2⟩
theorem rdr_words : Rdr Tryz.prog 31 (fun xs : List Nat => [ws true xs]) (fun xs n => xs.length ≤ n ∧ ∀ x ∈ xs, x < 4294967296) :=
  (rdr_slice (0 : Nat) true Tryz.underlying31 (s := 1) (by kernel_rfl) (by omega) (fun _ _ _ h _ => h) (rdr_word Tryz.underlying163)).to id (fun ys => by
    show [CV.row true 1 ys.length _] = [CV.row true 1 ys.length _]
    congr 2
    funext j
    show _ = ofL [CV.int .u32 ((ys.getD (j / 1) 0 : Nat) : Int)] (j % 1)
    rw [Nat.div_one, Nat.mod_one]
    rfl) (fun _ _ h => h)
theorem rdr_rat : Rdr Tryz.prog 33 (fun r : RD => [CV.bool r.neg, ws true r.num, ws true r.den]) (fun r _ => (∀ x ∈ r.num, x < 4294967296) ∧ ∀ x ∈ r.den, x < 4294967296) := by
  have r := rdr_struct3 Tryz.underlying33 (s0 := 1) (s1 := 1) (s2 := 1) (by kernel_rfl) (by kernel_rfl) (by kernel_rfl) (by kernel_rfl) rfl rfl rfl (rdr_bool Tryz.underlying4) rdr_words rdr_words (fun _ _ _ h _ => h) (fun _ m n => wok_mono m n) (fun _ m n => wok_mono m n)
  exact r.to (fun y => ⟨y.1, y.2.1, y.2.2⟩) (fun _ => rfl) (fun _ _ h => ⟨h.2.1.2, h.2.2.2⟩)
theorem rdr_rats : Rdr Tryz.prog 26 (fun p : List RD => [rats false p]) (fun p n => p.length ≤ n ∧ WordsOk p) :=
  (rdr_slice rd0 false Tryz.underlying26 (s := 3) (by kernel_rfl) (by omega) (fun _ _ _ h _ => h) rdr_rat).to id (fun _ => rfl) (fun _ _ h => h)
theorem rdr_ints : Rdr Tryz.prog 22 (fun xs : List Int => [is false xs]) (fun xs n => xs.length ≤ n ∧ ∀ x ∈ xs, (Lit.int .i64 x).wf = true) :=
  (rdr_slice (0 : Int) false Tryz.underlying22 (s := 1) (by kernel_rfl) (by omega) (fun _ _ _ h _ => h) (rdr_int Tryz.underlying3)).to id (fun ys => by
    show [CV.row false 1 ys.length _] = [CV.row false 1 ys.length _]
    congr 2
    funext j
    show _ = ofL [CV.int .i64 (ys.getD (j / 1) 0)] (j % 1)
    rw [Nat.div_one, Nat.mod_one]
    rfl) (fun _ _ h => h)
theorem rdr_dnode : Rdr Tryz.prog 139 (fun r : DN => [CV.int .i64 r.v, .int .i64 r.lo, .int .i64 r.hi]) (fun _ _ => True) := by
  have r := rdr_struct3 Tryz.underlying139 (s0 := 1) (s1 := 1) (s2 := 1) (by kernel_rfl) (by kernel_rfl) (by kernel_rfl) (by kernel_rfl) rfl rfl rfl (rdr_int Tryz.underlying3) (rdr_int Tryz.underlying3) (rdr_int Tryz.underlying3) (fun _ _ _ h _ => h) (fun _ _ _ h _ => h) (fun _ _ _ h _ => h)
  exact r.to (fun y => ⟨y.1, y.2.1, y.2.2⟩) (fun _ => rfl) (fun _ _ _ => trivial)
theorem rdr_dnodes : Rdr Tryz.prog 23 (fun p : List DN => [dns false p]) (fun p n => p.length ≤ n) :=
  (rdr_slice dn0 false Tryz.underlying23 (s := 3) (by kernel_rfl) (by omega) (fun _ _ _ h _ => h) rdr_dnode).to id (fun _ => rfl) (fun _ _ h => h.1)
theorem rdr_diagram : Rdr Tryz.prog 25 (fun d : DG => dgc false d) (fun d n => d.order.length ≤ n ∧ d.nodes.length ≤ n) := by
  have r := rdr_struct3 Tryz.underlying25 (s0 := 1) (s1 := 1) (s2 := 1) (by kernel_rfl) (by kernel_rfl) (by kernel_rfl) (by kernel_rfl) rfl rfl rfl rdr_ints rdr_dnodes (rdr_int Tryz.underlying3) (fun _ _ _ h hm => ⟨Nat.le_trans h.1 hm, h.2⟩) (fun _ _ _ h hm => Nat.le_trans h hm) (fun _ _ _ h _ => h)
  exact r.to (fun y => ⟨y.1, y.2.1, y.2.2⟩) (fun _ => rfl) (fun _ _ h => ⟨h.1.1, h.2.1⟩)
theorem rdr_cube : Rdr Tryz.prog 124 (fun y : Int × Int => [CV.int .i64 y.1, .int .i64 y.2]) (fun _ _ => True) := by
  have r := rdr_struct2 Tryz.underlying124 (s0 := 1) (s1 := 1) (by kernel_rfl) (by kernel_rfl) (by kernel_rfl) rfl rfl (rdr_int Tryz.underlying3) (rdr_int Tryz.underlying3) (fun _ _ _ h _ => h) (fun _ _ _ h _ => h)
  exact r.to id (fun _ => rfl) (fun _ _ _ => trivial)
end Go.Proofs.YtlpejaefobdajaaGreat

/- cube: Weight. -/
namespace Go.Proofs.YtlpejaefobdajaaGreat
open Go.AI Go.PN
attribute [local irreducible] aw Fa Fh DrK
theorem ccode_and {y n : Nat} (hy : y < 16777216) (hn : n < 16777216) (h : ccode y n = 0) : y &&& n = 0 := by
  unfold ccode at h
  split at h
  · cases h
  · split at h
    · cases h
    · rename_i h1
      rw [andZ_nat y n (by omega) (by omega)] at h1
      omega
theorem no_both {y n : Nat} (h : y &&& n = 0) {i : Nat} (hy : y.testBit i = true) : n.testBit i = false := by
  have := congrArg (fun z => z.testBit i) h
  simp only [Nat.testBit_and, Nat.zero_testBit, hy, Bool.true_and] at this
  exact this
set_option maxRecDepth 100000 in
set_option maxHeartbeats 3200000 in
theorem weight_fa (y n : Nat) (ps : List RD) (hy : y < 16777216) (hn : n < 16777216) (hcc : ccode y n = 0) (L : Nat) (hL : 1 ≤ L) (hL2 : L ≤ 1000000) (hp : ∀ r ∈ ps, r.wf L) (hl : ps.length ≤ 24) (hpr : ∀ r ∈ ps, r.prob = true) :
    Fa Tryz.prog 146 [.agg [.int .i64 y, .int .i64 n], .c (rats false ps)] (.tup [.agg (rdc (if (y ||| n) / 2 ^ ps.length = 0 then rd (wtTo y n ps ps.length) else rd0)), .c (errA (if (y ||| n) / 2 ^ ps.length = 0 then 0 else 10))]) := by
  have hdis := ccode_and hy hn hcc
  refine fa_of_body Tryz.func146 rfl rfl (by simp [Tryz.ntmps146]) fun C hC => ?_
  simp only [initS, Nat.reduceAdd]
  refine xG ?_
  refine xB fun g2 hn_g2=>?_
  refine yA hn_g2 fun g4 hn_g4=>?_
  refine yG (oj hn_g2 hn_g4) ?_
  refine yC (oj hn_g2 hn_g4) (ccheck_fa y n) ?_
  rw [hcc]
  have e0 : (decide ((0 : Int) = 0)) = true := rfl
  refine yG (oj hn_g2 (oj hn_g4 e0)) ?_
  refine yN (oj hn_g2 (oj hn_g4 e0)) ?_
  refine yG (oj hn_g2 (oj hn_g4 e0)) ?_
  have e24 : decide ((ps.length : Int) > 24) = false := decide_eq_false (by omega)
  refine yG (oj hn_g2 (oj hn_g4 (oj e0 e24))) ?_
  refine yN (oj hn_g2 (oj hn_g4 (oj e0 e24))) ?_
  refine yH (oj hn_g2 (oj hn_g4 (oj e0 e24))) ?_
  apply aw_skip
  apply aw_seq
  refine aw_cut (fun _ : Unit => [(1, .c (rats false ps)), (2, .c (.optr g2 0)), (4, .c (.optr g4 0))]) (fun _ => [(g4, .cells 33 3 (ofL [.bool false, .nils, .nils])), (g2, .cells 124 2 (ofL [.int .i64 (y : Int), .int .i64 (n : Int)]))]) (fun _ => ps.length ≤ 24) ?_ ?_
  · as_aux_lemma =>
    refine yG (oj hn_g2 (oj hn_g4 (oj e0 e24))) ?_
    refine aw_lp (fun i : Nat => [(1, .c (rats false ps)), (2, .c (.optr g2 0)), (4, .c (.optr g4 0)), (25, .c (rats false ps)), (26, .c (.int .i64 ps.length)), (27, .c (.int .i64 i))]) (fun _ => [(g4, .cells 33 3 (ofL [.bool false, .nils, .nils])), (g2, .cells 124 2 (ofL [.int .i64 (y : Int), .int .i64 (n : Int)]))]) (fun i => i ≤ ps.length) (fun i => ps.length - i) 0 (zB (oj hn_g2 (oj hn_g4 (oj e0 e24)))) zZ (Nat.zero_le _) ?_
    rintro i hi
    refine yG (oj hn_g2 (oj hn_g4 (oj e0 e24))) ?_
    refine yF (oj hn_g2 (oj hn_g4 (oj e0 e24))) (fun hb=>?_) fun hb=>?_
    · have hin : i < ps.length := by have := of_decide_eq_true hb; omega
      have hpi := hpr (ps.getD i rd0) (by rw [List.getD_eq_getElem?_getD, List.getElem?_eq_getElem hin]; exact List.getElem_mem hin)
      refine yG (oj hn_g2 (oj hn_g4 (oj e0 e24))) ?_
      refine yA (oj hn_g2 (oj hn_g4 (oj e0 e24))) fun g8 hn_g8=>?_
      refine yG (oj hn_g2 (oj hn_g4 (oj e0 (oj e24 hn_g8)))) ?_
      refine yW (oj hn_g2 (oj hn_g4 (oj e0 (oj e24 hn_g8)))) ?_
      refine yS (oj hn_g2 (oj hn_g4 (oj e0 (oj e24 hn_g8)))) ?_
      refine yG (oj hn_g2 (oj hn_g4 (oj e0 (oj e24 hn_g8)))) ?_
      refine yC (oj hn_g2 (oj hn_g4 (oj e0 (oj e24 hn_g8)))) (rprob_fa (ps.getD i rd0) ?_) ?_
      · exact wf_mono (getD_wf hp i) (by omega)
      rw [hpi]
      refine yG (oj hn_g2 (oj hn_g4 (oj e0 (oj e24 hn_g8)))) ?_
      refine yN (oj hn_g2 (oj hn_g4 (oj e0 (oj e24 hn_g8)))) ?_
      refine yG (oj hn_g2 (oj hn_g4 (oj e0 (oj e24 hn_g8)))) ?_
      exact aw_stop ⟨i + 1, by omega, (zB (oj hn_g2 (oj hn_g4 (oj e0 (oj e24 hn_g8))))), List.Sublist.cons _ (List.Sublist.refl _), by omega⟩
    · refine yG (oj hn_g2 (oj hn_g4 (oj e0 e24))) ?_
      exact aw_stop ⟨(), (zB (oj hn_g2 (oj hn_g4 (oj e0 e24)))), zZ, hl⟩
  as_aux_lemma =>
  rintro _ _
  have b1 := orZ_nat y n (by omega) (by omega)
  have b2 := shrZ_nat (y ||| n) ps.length (by omega)
  refine yG (oj hn_g2 (oj hn_g4 (oj e0 (oj e24 (oj b1 b2))))) ?_
  refine yF (oj hn_g2 (oj hn_g4 (oj e0 (oj e24 (oj b1 b2))))) (fun hx=>?_) fun hx=>?_
  · have hx' : (y ||| n) / 2 ^ ps.length ≠ 0 := fun e => by rw [e] at hx; simp at hx
    rw [if_neg hx', if_neg hx']
    refine yG (oj hn_g2 (oj hn_g4 (oj e0 (oj e24 (oj b1 b2))))) ?_
    refine yW (oj hn_g2 (oj hn_g4 (oj e0 (oj e24 (oj b1 b2))))) ?_
    refine yS (oj hn_g2 (oj hn_g4 (oj e0 (oj e24 (oj b1 b2))))) ?_
    refine yG (oj hn_g2 (oj hn_g4 (oj e0 (oj e24 (oj b1 b2))))) ?_
    refine yT hC (oj hn_g2 (oj hn_g4 (oj e0 (oj e24 (oj b1 b2))))) ?_
    exact .tup ⟨.agg ⟨.bool _, .nils, .nils, trivial⟩, .c (ler_errN rfl (by omega)), trivial⟩
  have hx' : (y ||| n) / 2 ^ ps.length = 0 := by
    have : ((((y ||| n) / 2 ^ ps.length : Nat) : Int) == 0) = true := by simpa [bne] using hx
    have := eq_of_beq this; omega
  rw [if_pos hx', if_pos hx']
  refine yG (oj hn_g2 (oj hn_g4 (oj e0 (oj e24 (oj b1 b2))))) ?_
  refine yC (oj hn_g2 (oj hn_g4 (oj e0 (oj e24 (oj b1 b2))))) (rof_fa 1 ?_ ?_) ?_
  · omega
  · omega
  refine yA (oj hn_g2 (oj hn_g4 (oj e0 (oj e24 (oj b1 b2))))) fun g9 hn_g9=>?_
  refine yG (oj hn_g2 (oj hn_g4 (oj e0 (oj e24 (oj b1 (oj b2 hn_g9)))))) ?_
  refine yW (oj hn_g2 (oj hn_g4 (oj e0 (oj e24 (oj b1 (oj b2 hn_g9)))))) ?_
  refine yS (oj hn_g2 (oj hn_g4 (oj e0 (oj e24 (oj b1 (oj b2 hn_g9)))))) ?_
  refine yG (oj hn_g2 (oj hn_g4 (oj e0 (oj e24 (oj b1 (oj b2 hn_g9)))))) ?_
  refine yA (oj hn_g2 (oj hn_g4 (oj e0 (oj e24 (oj b1 (oj b2 hn_g9)))))) fun g10 hn_g10=>?_
  refine yG (oj hn_g2 (oj hn_g4 (oj e0 (oj e24 (oj b1 (oj b2 (oj hn_g9 hn_g10))))))) ?_
  refine yW (oj hn_g2 (oj hn_g4 (oj e0 (oj e24 (oj b1 (oj b2 (oj hn_g9 hn_g10))))))) ?_
  refine yS (oj hn_g2 (oj hn_g4 (oj e0 (oj e24 (oj b1 (oj b2 (oj hn_g9 hn_g10))))))) ?_
  refine yG (oj hn_g2 (oj hn_g4 (oj e0 (oj e24 (oj b1 (oj b2 (oj hn_g9 hn_g10))))))) ?_
  refine aw_lp (fun k : Nat => [(2, .c (.optr g2 0)), (4, .c (.optr g4 0)), (9, .c (.optr g9 0)), (10, .c (.optr g10 0)), (50, .c (rats false ps)), (51, .c (.int .i64 ps.length)), (52, .c (.int .i64 k))]) (fun k => [(g10, .cells 33 3 (ofL (rdc (rd (wtTo y n ps k))))), (g9, .cells 33 3 (ofL (rdc (rd ((1 : Int) : Rat))))), (g4, .cells 33 3 (ofL [.bool false, .nils, .nils])), (g2, .cells 124 2 (ofL [.int .i64 (y : Int), .int .i64 (n : Int)]))])
    (fun k => k ≤ ps.length) (fun k => ps.length - k) 0 (zB (oj hn_g2 (oj hn_g4 (oj e0 (oj e24 (oj b1 (oj b2 (oj hn_g9 hn_g10)))))))) zZ (Nat.zero_le _) ?_
  as_aux_lemma =>
  rintro k hk
  have hfk := fits_wt (y := y) (n := n) hL hp k
  have hbk : (2 * L + 2) * k + 1 ≤ 200000000 := by
    have := Nat.mul_le_mul (show 2 * L + 2 ≤ 2000002 from by omega) (show k ≤ 64 from by omega)
    omega
  have hwk : (rd (wtTo y n ps k)).wf 1073741824 := rd_wf (fits_mono hfk (by omega))
  refine yG (oj hn_g2 (oj hn_g4 (oj e0 (oj e24 (oj b1 (oj b2 (oj hn_g9 hn_g10))))))) ?_
  refine yF (oj hn_g2 (oj hn_g4 (oj e0 (oj e24 (oj b1 (oj b2 (oj hn_g9 hn_g10))))))) (fun hb=>?_) fun hb=>?_
  · have hin : k < ps.length := by have := of_decide_eq_true hb; omega
    have hpk := getD_wf hp k
    have p2 : 2 ^ k < 9223372036854775808 := by
      have h3 : 2 ^ k < 2 ^ 63 := Nat.pow_lt_pow_right (by omega) (by omega)
      have h4 : (2 : Nat) ^ 63 = 9223372036854775808 := by decide
      rw [h4] at h3; exact h3
    have c1 := shl_one k (by omega)
    have c2 := andZ_nat y (2 ^ k) (by omega) p2
    have c3 := bit_and y k
    have c4 := andZ_nat n (2 ^ k) (by omega) p2
    have c5 := bit_and n k
    refine yG (oj hn_g2 (oj hn_g4 (oj e0 (oj e24 (oj b1 (oj b2 (oj hn_g9 hn_g10))))))) ?_
    refine yA (oj hn_g2 (oj hn_g4 (oj e0 (oj e24 (oj b1 (oj b2 (oj hn_g9 hn_g10))))))) fun g12 hn_g12=>?_
    refine yG (oj hn_g2 (oj hn_g4 (oj e0 (oj e24 (oj b1 (oj b2 (oj hn_g9 (oj hn_g10 hn_g12)))))))) ?_
    refine yW (oj hn_g2 (oj hn_g4 (oj e0 (oj e24 (oj b1 (oj b2 (oj hn_g9 (oj hn_g10 hn_g12)))))))) ?_
    refine yS (oj hn_g2 (oj hn_g4 (oj e0 (oj e24 (oj b1 (oj b2 (oj hn_g9 (oj hn_g10 hn_g12)))))))) ?_
    refine yG (oj hn_g2 (oj hn_g4 (oj e0 (oj e24 (oj b1 (oj b2 (oj hn_g9 (oj hn_g10 (oj hn_g12 (oj c1 (oj c2 (oj c3 (oj c4 c5))))))))))))) ?_
    refine yF (oj hn_g2 (oj hn_g4 (oj e0 (oj e24 (oj b1 (oj b2 (oj hn_g9 (oj hn_g10 (oj hn_g12 (oj c1 (oj c2 (oj c3 (oj c4 c5))))))))))))) (fun hc=>?_) fun hc=>?_
    · have hnb := no_both hdis hc
      refine yG (oj hn_g2 (oj hn_g4 (oj e0 (oj e24 (oj b1 (oj b2 (oj hn_g9 (oj hn_g10 (oj hn_g12 (oj c1 (oj c2 (oj c3 (oj c4 c5))))))))))))) ?_
      refine yC (oj hn_g2 (oj hn_g4 (oj e0 (oj e24 (oj b1 (oj b2 (oj hn_g9 (oj hn_g10 (oj hn_g12 (oj c1 (oj c2 (oj c3 (oj c4 c5))))))))))))) (rmul_fa _ _ hwk ?_) ?_
      · exact wf_mono hpk (by omega)
      rw [rd_q]
      refine yG (oj hn_g2 (oj hn_g4 (oj e0 (oj e24 (oj b1 (oj b2 (oj hn_g9 (oj hn_g10 (oj hn_g12 (oj c1 (oj c2 (oj c3 (oj c4 c5))))))))))))) ?_
      refine yW (oj hn_g2 (oj hn_g4 (oj e0 (oj e24 (oj b1 (oj b2 (oj hn_g9 (oj hn_g10 (oj hn_g12 (oj c1 (oj c2 (oj c3 (oj c4 c5))))))))))))) ?_
      refine yS (oj hn_g2 (oj hn_g4 (oj e0 (oj e24 (oj b1 (oj b2 (oj hn_g9 (oj hn_g10 (oj hn_g12 (oj c1 (oj c2 (oj c3 (oj c4 c5))))))))))))) ?_
      refine yG (oj hn_g2 (oj hn_g4 (oj e0 (oj e24 (oj b1 (oj b2 (oj hn_g9 (oj hn_g10 (oj hn_g12 (oj c1 (oj c2 (oj c3 (oj c4 c5))))))))))))) ?_
      have e : wtTo y n ps (k + 1) = wtTo y n ps k * (ps.getD k rd0).q := by
        rw [wtTo, wfac, hc, hnb, if_pos rfl, if_neg (c := false = true) (by simp), Rat.mul_one]
      rw [← e]
      exact aw_stop ⟨k + 1, by omega, (zB (oj hn_g2 (oj hn_g4 (oj e0 (oj e24 (oj b1 (oj b2 (oj hn_g9 (oj hn_g10 (oj hn_g12 (oj c1 (oj c2 (oj c3 (oj c4 c5)))))))))))))), List.Sublist.cons _ (List.Sublist.refl _), by omega⟩
    · refine yG (oj hn_g2 (oj hn_g4 (oj e0 (oj e24 (oj b1 (oj b2 (oj hn_g9 (oj hn_g10 (oj hn_g12 (oj c1 (oj c2 (oj c3 (oj c4 c5))))))))))))) ?_
      refine yF (oj hn_g2 (oj hn_g4 (oj e0 (oj e24 (oj b1 (oj b2 (oj hn_g9 (oj hn_g10 (oj hn_g12 (oj c1 (oj c2 (oj c3 (oj c4 c5))))))))))))) (fun hd=>?_) fun hd=>?_
      · refine yG (oj hn_g2 (oj hn_g4 (oj e0 (oj e24 (oj b1 (oj b2 (oj hn_g9 (oj hn_g10 (oj hn_g12 (oj c1 (oj c2 (oj c3 (oj c4 c5))))))))))))) ?_
        refine aw_dr 5 ty_mixed (by kernel_rfl) ?_
        refine yG (oj hn_g2 (oj hn_g4 (oj e0 (oj e24 (oj b1 (oj b2 (oj hn_g9 (oj hn_g10 (oj hn_g12 (oj c1 (oj c2 (oj c3 (oj c4 c5))))))))))))) ?_
        refine yD (oj hn_g2 (oj hn_g4 (oj e0 (oj e24 (oj b1 (oj b2 (oj hn_g9 (oj hn_g10 (oj hn_g12 (oj c1 (oj c2 (oj c3 (oj c4 c5))))))))))))) (rsub_fa _ _ (one_wf' ?_) ?_) ?_
        · omega
        · exact wf_mono hpk (by omega)
        rw [rd_q, cast1]
        refine yG (oj hn_g2 (oj hn_g4 (oj e0 (oj e24 (oj b1 (oj b2 (oj hn_g9 (oj hn_g10 (oj hn_g12 (oj c1 (oj c2 (oj c3 (oj c4 c5))))))))))))) ?_
        refine yD (oj hn_g2 (oj hn_g4 (oj e0 (oj e24 (oj b1 (oj b2 (oj hn_g9 (oj hn_g10 (oj hn_g12 (oj c1 (oj c2 (oj c3 (oj c4 c5))))))))))))) (rmul_fa _ _ hwk ?_) ?_
        · exact rd_wf (fits_mono (fits_sub fits_one (RD.fits hpk hL)) (by omega))
        rw [rd_q, rd_q]
        refine yG (oj hn_g2 (oj hn_g4 (oj e0 (oj e24 (oj b1 (oj b2 (oj hn_g9 (oj hn_g10 (oj hn_g12 (oj c1 (oj c2 (oj c3 (oj c4 c5))))))))))))) ?_
        refine yW (oj hn_g2 (oj hn_g4 (oj e0 (oj e24 (oj b1 (oj b2 (oj hn_g9 (oj hn_g10 (oj hn_g12 (oj c1 (oj c2 (oj c3 (oj c4 c5))))))))))))) ?_
        refine yS (oj hn_g2 (oj hn_g4 (oj e0 (oj e24 (oj b1 (oj b2 (oj hn_g9 (oj hn_g10 (oj hn_g12 (oj c1 (oj c2 (oj c3 (oj c4 c5))))))))))))) ?_
        refine yG (oj hn_g2 (oj hn_g4 (oj e0 (oj e24 (oj b1 (oj b2 (oj hn_g9 (oj hn_g10 (oj hn_g12 (oj c1 (oj c2 (oj c3 (oj c4 c5))))))))))))) ?_
        have e : wtTo y n ps (k + 1) = wtTo y n ps k * (1 - (ps.getD k rd0).q) := by
          rw [wtTo, wfac, hc, hd, if_pos rfl, if_neg (c := false = true) (by simp), Rat.one_mul]
        rw [← e]
        exact aw_stop ⟨k + 1, by omega, (zB (oj hn_g2 (oj hn_g4 (oj e0 (oj e24 (oj b1 (oj b2 (oj hn_g9 (oj hn_g10 (oj hn_g12 (oj c1 (oj c2 (oj c3 (oj c4 c5)))))))))))))), List.Sublist.cons _ (List.Sublist.refl _), by omega⟩
      · refine yG (oj hn_g2 (oj hn_g4 (oj e0 (oj e24 (oj b1 (oj b2 (oj hn_g9 (oj hn_g10 (oj hn_g12 (oj c1 (oj c2 (oj c3 (oj c4 c5))))))))))))) ?_
        have e : wtTo y n ps (k + 1) = wtTo y n ps k := by
          rw [wtTo, wfac, hc, hd, if_neg (c := false = true) (by simp), if_neg (c := false = true) (by simp), Rat.mul_one, Rat.mul_one]
        rw [← e]
        exact aw_stop ⟨k + 1, by omega, (zB (oj hn_g2 (oj hn_g4 (oj e0 (oj e24 (oj b1 (oj b2 (oj hn_g9 (oj hn_g10 (oj hn_g12 (oj c1 (oj c2 (oj c3 (oj c4 c5)))))))))))))), List.Sublist.cons _ (List.Sublist.refl _), by omega⟩
  · have hin : k = ps.length := by have := of_decide_eq_false hb; omega
    subst hin
    refine yG (oj hn_g2 (oj hn_g4 (oj e0 (oj e24 (oj b1 (oj b2 (oj hn_g9 hn_g10))))))) ?_
    refine yW (oj hn_g2 (oj hn_g4 (oj e0 (oj e24 (oj b1 (oj b2 (oj hn_g9 hn_g10))))))) ?_
    refine yS (oj hn_g2 (oj hn_g4 (oj e0 (oj e24 (oj b1 (oj b2 (oj hn_g9 hn_g10))))))) ?_
    refine yG (oj hn_g2 (oj hn_g4 (oj e0 (oj e24 (oj b1 (oj b2 (oj hn_g9 hn_g10))))))) ?_
    refine yT hC (oj hn_g2 (oj hn_g4 (oj e0 (oj e24 (oj b1 (oj b2 (oj hn_g9 hn_g10))))))) ?_
    exact .tup ⟨.agg lerl_rd, .c (ler_err0 rfl), trivial⟩
end Go.Proofs.YtlpejaefobdajaaGreat

/- shannon.Given. -/
namespace Go.PN
open Go.AI
/-- The probabilities when the first k events have been looked at. -/
def mixL (y n : Nat) (ps : List RD) (k : Nat) : List RD := condL y n ps k ++ ps.drop k
theorem mix_len {y n : Nat} {ps : List RD} {k : Nat} (h : k ≤ ps.length) : (mixL y n ps k).length = ps.length := by
  unfold mixL; rw [List.length_append, condL_len, List.length_drop]; omega
theorem mix_step {y n : Nat} {ps : List RD} {k : Nat} (h : k < ps.length) : mixL y n ps (k + 1) = (mixL y n ps k).set k (condR y n k (ps.getD k rd0)) := by
  unfold mixL
  rw [condL, List.drop_eq_getElem_cons h, List.set_append_right _ _ (by rw [condL_len]; exact Nat.le_refl _), condL_len, Nat.sub_self, List.set_cons_zero, List.append_assoc]
  rfl
theorem mix_same {y n : Nat} {ps : List RD} {k : Nat} (h : k < ps.length) (hy : y.testBit k = false) (hn : n.testBit k = false) : mixL y n ps (k + 1) = mixL y n ps k := by
  unfold mixL
  rw [condL, List.drop_eq_getElem_cons h]
  unfold condR
  rw [if_neg (by simp [hy]), if_neg (by simp [hn]), List.getD_eq_getElem?_getD, List.getElem?_eq_getElem h]
  simp
theorem mix_end {y n : Nat} {ps : List RD} : mixL y n ps ps.length = condL y n ps ps.length := by
  unfold mixL; rw [List.drop_length, List.append_nil]
noncomputable def gvcode (d : DG) (p : List RD) (y n : Int) : Int := if dpcode d p ≠ 0 then dpcode d p else gcode p y n
noncomputable def gvR (d : DG) (p : List RD) (y n : Int) : RD := if gvcode d p y n = 0 then rd (sumQ (condL y.toNat n.toNat p p.length) (tabL d) (2 ^ p.length)) else rd0
theorem ratsF_upd {xs : List RD} {i : Nat} {v : RD} (hi : i < xs.length) : updF (ratsF xs) (i * 3) [CV.bool v.neg, ws true v.num, ws true v.den] = ratsF (xs.set i v) := lf_upd (c := fun r : RD => [CV.bool r.neg, ws true r.num, ws true r.den]) hi rfl (by omega)
end Go.PN
namespace Go.Proofs.YtlpejaefobdajaaGreat
open Go.AI Go.PN
attribute [local irreducible] aw Fa Fh DrK
set_option maxRecDepth 100000 in
set_option maxHeartbeats 3200000 in
theorem sgiven_fa (d : DG) (p : List RD) (y n : Int) (hs : Small d p) : Fa Tryz.prog 96 [.agg (dgc false d), .c (rats false p), .agg [.int .i64 y, .int .i64 n]] (.tup [.agg (rdc (gvR d p y n)), .c (errA (gvcode d p y n))]) := by
  have s1 := hs.l
  have s2 := hs.o
  have s3 := hs.n
  have hbad : gvcode d p y n ≠ 0 → gvR d p y n = rd0 := fun h => by unfold gvR; rw [if_neg h]
  refine fa_of_body Tryz.func96 rfl rfl (by simp [Tryz.ntmps96]) fun C hC => ?_
  simp only [initS, Nat.reduceAdd]
  refine xG ?_
  refine xB fun g3 hn_g3=>?_
  refine yG hn_g3 ?_
  refine yB hn_g3 fun g5 hn_g5=>?_
  refine yG (oj hn_g3 hn_g5) ?_
  refine yA (oj hn_g3 hn_g5) fun g6 hn_g6=>?_
  refine yG (oj hn_g3 (oj hn_g5 hn_g6)) ?_
  refine yC (oj hn_g3 (oj hn_g5 hn_g6)) (scheckD_fa d p hs.w5 ?_ ?_ ?_) ?_
  · omega
  · omega
  · omega
  refine yG (oj hn_g3 (oj hn_g5 hn_g6)) ?_
  refine yF (oj hn_g3 (oj hn_g5 hn_g6)) (fun hb=>?_) fun hb=>?_
  · have hb' : dpcode d p ≠ 0 := by simpa using hb
    have hcode : gvcode d p y n = dpcode d p := by unfold gvcode; rw [if_pos hb']
    rw [hbad (by rw [hcode]; exact hb'), hcode]
    refine yG (oj hn_g3 (oj hn_g5 hn_g6)) ?_
    refine yW (oj hn_g3 (oj hn_g5 hn_g6)) ?_
    refine yS (oj hn_g3 (oj hn_g5 hn_g6)) ?_
    refine yG (oj hn_g3 (oj hn_g5 hn_g6)) ?_
    refine yT hC (oj hn_g3 (oj hn_g5 hn_g6)) ?_
    exact .tup ⟨.agg ⟨.bool _, .nils, .nils, trivial⟩, .c ler_err, trivial⟩
  · have hb' : dpcode d p = 0 := by simpa using hb
    obtain ⟨ok, hpl, hpr⟩ := dp_ok hb'
    have h6 := hs.o6 hb'
    have hcode : gvcode d p y n = gcode p y n := by unfold gvcode; rw [if_neg (by simp [hb'])]
    refine yG (oj hn_g3 (oj hn_g5 hn_g6)) ?_
    refine yC (oj hn_g3 (oj hn_g5 hn_g6)) (ccheck_fa y n) ?_
    refine yG (oj hn_g3 (oj hn_g5 hn_g6)) ?_
    refine yF (oj hn_g3 (oj hn_g5 hn_g6)) (fun hc=>?_) fun hc=>?_
    · have hc' : ccode y n ≠ 0 := by simpa using hc
      have hcode2 : gcode p y n = ccode y n := by unfold gcode; rw [if_pos hc']
      rw [hbad (by rw [hcode, hcode2]; exact hc'), hcode, hcode2]
      refine yG (oj hn_g3 (oj hn_g5 hn_g6)) ?_
      refine yW (oj hn_g3 (oj hn_g5 hn_g6)) ?_
      refine yS (oj hn_g3 (oj hn_g5 hn_g6)) ?_
      refine yG (oj hn_g3 (oj hn_g5 hn_g6)) ?_
      refine yT hC (oj hn_g3 (oj hn_g5 hn_g6)) ?_
      exact .tup ⟨.agg ⟨.bool _, .nils, .nils, trivial⟩, .c ler_err, trivial⟩
    · have hc' : ccode y n = 0 := by simpa using hc
      obtain ⟨a, b, rfl, rfl, ha, hbb⟩ := ccode_nat hc'
      have hcode2 : gcode p a b = if (a ||| b) / 2 ^ p.length ≠ 0 then 10 else if wtTo a b p p.length = 0 then 8 else 0 := by
        unfold gcode; rw [if_neg (by simp [hc']), Int.toNat_natCast, Int.toNat_natCast]
      refine yG (oj hn_g3 (oj hn_g5 hn_g6)) ?_
      refine yC (oj hn_g3 (oj hn_g5 hn_g6)) (weight_fa a b p ha hbb hc' 4 ?_ ?_ hs.w ?_ hpr) ?_
      · omega
      · omega
      · omega
      refine yG (oj hn_g3 (oj hn_g5 hn_g6)) ?_
      refine yA (oj hn_g3 (oj hn_g5 hn_g6)) fun g10 hn_g10=>?_
      refine yG (oj hn_g3 (oj hn_g5 (oj hn_g6 hn_g10))) ?_
      refine yW (oj hn_g3 (oj hn_g5 (oj hn_g6 hn_g10))) ?_
      refine yS (oj hn_g3 (oj hn_g5 (oj hn_g6 hn_g10))) ?_
      refine yG (oj hn_g3 (oj hn_g5 (oj hn_g6 hn_g10))) ?_
      refine yF (oj hn_g3 (oj hn_g5 (oj hn_g6 hn_g10))) (fun hx=>?_) fun hx=>?_
      · have hx' : ¬ (a ||| b) / 2 ^ p.length = 0 := fun e => by rw [if_pos e] at hx; simp at hx
        rw [if_pos hx'] at hcode2
        rw [hbad (by rw [hcode, hcode2]; decide), hcode, hcode2]
        rw [if_neg hx', if_neg hx']
        refine yG (oj hn_g3 (oj hn_g5 (oj hn_g6 hn_g10))) ?_
        refine yW (oj hn_g3 (oj hn_g5 (oj hn_g6 hn_g10))) ?_
        refine yS (oj hn_g3 (oj hn_g5 (oj hn_g6 hn_g10))) ?_
        refine yG (oj hn_g3 (oj hn_g5 (oj hn_g6 hn_g10))) ?_
        refine yT hC (oj hn_g3 (oj hn_g5 (oj hn_g6 hn_g10))) ?_
        exact .tup ⟨.agg ⟨.bool _, .nils, .nils, trivial⟩, .c ler_err, trivial⟩
      · have hx' : (a ||| b) / 2 ^ p.length = 0 := Classical.byContradiction fun e => by rw [if_neg e] at hx; simp at hx
        rw [if_neg (by simp [hx'])] at hcode2
        rw [if_pos hx', if_pos hx']
        have hfw : fits (wtTo a b p p.length) 10000 := by
          refine fits_mono (fits_wt (L := 4) (by omega) hs.w _) ?_
          omega
        refine yG (oj hn_g3 (oj hn_g5 (oj hn_g6 hn_g10))) ?_
        refine yC (oj hn_g3 (oj hn_g5 (oj hn_g6 hn_g10))) (rsign_fa _ ?_) ?_
        · exact rd_wf (fits_mono hfw (by omega))
        rw [rd_q]
        refine yG (oj hn_g3 (oj hn_g5 (oj hn_g6 hn_g10))) ?_
        refine yF (oj hn_g3 (oj hn_g5 (oj hn_g6 hn_g10))) (fun hz=>?_) fun hz=>?_
        · rw [sgn0] at hz
          have hz' := of_decide_eq_true hz
          rw [if_pos hz'] at hcode2
          rw [hbad (by rw [hcode, hcode2]; decide), hcode, hcode2]
          refine yG (oj hn_g3 (oj hn_g5 (oj hn_g6 hn_g10))) ?_
          refine yW (oj hn_g3 (oj hn_g5 (oj hn_g6 hn_g10))) ?_
          refine yS (oj hn_g3 (oj hn_g5 (oj hn_g6 hn_g10))) ?_
          refine yG (oj hn_g3 (oj hn_g5 (oj hn_g6 hn_g10))) ?_
          refine yT hC (oj hn_g3 (oj hn_g5 (oj hn_g6 hn_g10))) ?_
          exact .tup ⟨.agg ⟨.bool _, .nils, .nils, trivial⟩, .c (ler_errN rfl (by omega)), trivial⟩
        · rw [sgn0] at hz
          have hz' := of_decide_eq_false hz
          rw [if_neg hz'] at hcode2
          have hgood : gvR d p a b = rd (sumQ (condL a b p p.length) (tabL d) (2 ^ p.length)) := by
            unfold gvR; rw [if_pos (by rw [hcode, hcode2]), Int.toNat_natCast, Int.toNat_natCast]
          rw [hgood, hcode, hcode2]
          refine yG (oj hn_g3 (oj hn_g5 (oj hn_g6 hn_g10))) ?_
          refine aw_callh (hr := [(g10, AObj.cells 33 3 (ofL (rdc (rd (wtTo a b p p.length))))), (g6, AObj.cells 33 3 (ofL [.bool false, .nils, .nils])), (g5, AObj.cells 124 2 (ofL [.int .i64 (a : Int), .int .i64 (b : Int)])), (g3, AObj.cells 25 3 (ofL (dgc false d)))]) (clone_fh p (by omega)) rfl rfl rfl (List.Perm.refl _) (zL (oj hn_g3 (oj hn_g5 (oj hn_g6 hn_g10)))) ?_
          rintro _ _ ⟨og, hog, rfl, rfl⟩ hk2
          have hgn : ∀ g, og = some g → g ∉ Heap.keys [(g10, AObj.cells 33 3 (ofL (rdc (rd (wtTo a b p p.length))))), (g6, AObj.cells 33 3 (ofL [.bool false, .nils, .nils])), (g5, AObj.cells 124 2 (ofL [.int .i64 (a : Int), .int .i64 (b : Int)])), (g3, AObj.cells 25 3 (ofL (dgc false d)))] := fun g e => by subst e; exact hk2 g (by simp [Heap.keys, gh])
          refine yS (oj hn_g3 (oj hn_g5 (oj hn_g6 hn_g10))) ?_
          refine aw_perm (List.perm_append_comm (l₂ := [(g10, AObj.cells 33 3 (ofL (rdc (rd (wtTo a b p p.length))))), (g6, AObj.cells 33 3 (ofL [.bool false, .nils, .nils])), (g5, AObj.cells 124 2 (ofL [.int .i64 (a : Int), .int .i64 (b : Int)])), (g3, AObj.cells 25 3 (ofL (dgc false d)))])) ?_
          have hlen := lenCV_gs (s := 3) hog
          (try simp only[go_sem, hn_g3, hn_g5, hn_g6, hn_g10, ↓hlen])
          repeat first|apply wa1|apply wa2|apply wa3|apply wa4|apply wa5 rfl|apply wa6|apply wa7|(refine wb1 rfl fun R r=>?_;simp only[go_sem, hn_g3, hn_g5, hn_g6, hn_g10, ↓hlen];with_reducible refine r _ _ ?_;clear r R)
          refine aw_lp (fun k : Nat => [(3, .c (.optr g3 0)), (5, .c (.optr g5 0)), (6, .c (.optr g6 0)), (12, .c (gs og 3 p.length)), (45, .c (.int .i64 p.length)), (46, .c (.int .i64 k))]) (fun k => [(g10, AObj.cells 33 3 (ofL (rdc (rd (wtTo a b p p.length))))), (g6, AObj.cells 33 3 (ofL [.bool false, .nils, .nils])), (g5, AObj.cells 124 2 (ofL [.int .i64 (a : Int), .int .i64 (b : Int)])), (g3, AObj.cells 25 3 (ofL (dgc false d)))] ++ gh og 33 (p.length * 3) (ratsF (mixL a b p k))) (fun k => k ≤ p.length) (fun k => p.length - k) 0 (by simp only[go_sem, hn_g3, hn_g5, hn_g6, hn_g10, ↓hlen]<;>and_intros<;>first|exact True.intro|(with_reducible rfl)|exact c_int (by omega)|rfl) (List.Sublist.refl _) (Nat.zero_le _) ?_
          rintro k hk
          have hml := mix_len (y := a) (n := b) hk
          repeat first|apply wa1|apply wa2|apply wa3|apply wa4|apply wa5 rfl|apply wa6|apply wa7|(refine wb1 rfl fun R r=>?_;simp only[go_sem, hn_g3, hn_g5, hn_g6, hn_g10, ↓hlen];with_reducible refine r _ _ ?_;clear r R)
          refine aw_cond (by simp only[go_sem, hn_g3, hn_g5, hn_g6, hn_g10, ↓hlen]<;>rfl) (fun h1 => ?_) (fun h1 => ?_)
          · have h1' : k < p.length := by have := of_decide_eq_true h1; omega
            obtain ⟨g, rfl⟩ : ∃ g, og = some g := by
              cases og with
              | none => have := hog rfl; omega
              | some g => exact ⟨g, rfl⟩
            have hg := hgn g rfl
            replace hg := Heap.ne_of hg
            dsimp only [Heap.ne] at hg
            have b1 := shrZ_nat a k (by omega)
            have b2 := and_one_nat (a / 2 ^ k) (Nat.lt_of_le_of_lt (Nat.div_le_self _ _) (by omega))
            have b3 := bit_eq a k
            have c1 := shrZ_nat b k (by omega)
            have c2 := and_one_nat (b / 2 ^ k) (Nat.lt_of_le_of_lt (Nat.div_le_self _ _) (by omega))
            have c3 := bit_eq b k
            dsimp only [gs, gh, List.cons_append, List.nil_append]
            repeat first|apply wa1|apply wa2|apply wa3|apply wa4|apply wa5 rfl|apply wa6|apply wa7|(refine wb1 rfl fun R r=>?_;simp only[go_sem, hn_g3, hn_g5, hn_g6, hn_g10, ↓hlen, hg, b1, b2, b3, c1, c2, c3];with_reducible refine r _ _ ?_;clear r R)
            refine aw_cond (by simp only[go_sem, hn_g3, hn_g5, hn_g6, hn_g10, ↓hlen, hg, b1, b2, b3, c1, c2, c3]<;>rfl) (fun h2 => ?_) (fun h2 => ?_)
            · repeat first|apply wa1|apply wa2|apply wa3|apply wa4|apply wa5 rfl|apply wa6|apply wa7|(refine wb1 rfl fun R r=>?_;simp only[go_sem, hn_g3, hn_g5, hn_g6, hn_g10, ↓hlen, hg, b1, b2, b3, c1, c2, c3];with_reducible refine r _ _ ?_;clear r R)
              refine aw_callq (rof_fa 1 ?_ ?_) rfl rfl rfl (by first|exact True.intro|simp only[go_sem, hn_g3, hn_g5, hn_g6, hn_g10, ↓hlen, hg, b1, b2, b3, c1, c2, c3]<;>and_intros<;>first|exact True.intro|exact .c (.refl _)|exact .c wl2|exact .agg (lel_refl _)|exact .agg (by simp only[LeL];and_intros<;>first|exact True.intro|exact .refl _|exact wl2)|exact .c .nils) ?_
              · omega
              · omega
              (try simp only[go_sem, hn_g3, hn_g5, hn_g6, hn_g10, ↓hlen, hg, b1, b2, b3, c1, c2, c3])
              repeat first|apply wa1|apply wa2|apply wa3|apply wa4|apply wa5 rfl|apply wa6|apply wa7|(refine wb1 rfl fun R r=>?_;simp only[go_sem, hn_g3, hn_g5, hn_g6, hn_g10, ↓hlen, hg, b1, b2, b3, c1, c2, c3];with_reducible refine r _ _ ?_;clear r R)
              refine aw_store rfl rfl rfl rfl (by simp only[go_sem, hn_g3, hn_g5, hn_g6, hn_g10, ↓hlen, hg, b1, b2, b3, c1, c2, c3]<;>rfl) (by simp only[go_sem, hn_g3, hn_g5, hn_g6, hn_g10, ↓hlen, hg, b1, b2, b3, c1, c2, c3]<;>rfl) (by simp only[go_sem, hn_g3, hn_g5, hn_g6, hn_g10, ↓hlen, hg, b1, b2, b3, c1, c2, c3]<;>rfl) (by simp only[go_sem, hn_g3, hn_g5, hn_g6, hn_g10, ↓hlen, hg, b1, b2, b3, c1, c2, c3]<;>rfl) (fun _ e => by cases e) (by rfl) (by rfl) (by first|omega|simp) rfl ?_
              (try simp only[go_sem, hn_g3, hn_g5, hn_g6, hn_g10, ↓hlen, hg, b1, b2, b3, c1, c2, c3])
              rw [ratsF_upd (by omega)]
              have e := mix_step (y := a) (n := b) h1'
              rw [condR_cast, if_pos h2] at e
              rw [← e]
              repeat first|apply wa1|apply wa2|apply wa3|apply wa4|apply wa5 rfl|apply wa6|apply wa7|(refine wb1 rfl fun R r=>?_;simp only[go_sem, hn_g3, hn_g5, hn_g6, hn_g10, ↓hlen, hg, b1, b2, b3, c1, c2, c3];with_reducible refine r _ _ ?_;clear r R)
              exact aw_stop ⟨k + 1, by omega, (by simp only[go_sem, hn_g3, hn_g5, hn_g6, hn_g10, ↓hlen, hg, b1, b2, b3, c1, c2, c3]<;>and_intros<;>first|exact True.intro|(with_reducible rfl)|exact c_int (by omega)|rfl), (List.Sublist.refl _), by omega⟩
            · repeat first|apply wa1|apply wa2|apply wa3|apply wa4|apply wa5 rfl|apply wa6|apply wa7|(refine wb1 rfl fun R r=>?_;simp only[go_sem, hn_g3, hn_g5, hn_g6, hn_g10, ↓hlen, hg, b1, b2, b3, c1, c2, c3];with_reducible refine r _ _ ?_;clear r R)
              refine aw_cond (by simp only[go_sem, hn_g3, hn_g5, hn_g6, hn_g10, ↓hlen, hg, b1, b2, b3, c1, c2, c3]<;>rfl) (fun h3 => ?_) (fun h3 => ?_)
              · repeat first|apply wa1|apply wa2|apply wa3|apply wa4|apply wa5 rfl|apply wa6|apply wa7|(refine wb1 rfl fun R r=>?_;simp only[go_sem, hn_g3, hn_g5, hn_g6, hn_g10, ↓hlen, hg, b1, b2, b3, c1, c2, c3];with_reducible refine r _ _ ?_;clear r R)
                refine aw_conv (t := 69) (v := .agg (rdc rd0)) (by (try simp only[go_sem, hn_g3, hn_g5, hn_g6, hn_g10, ↓hlen, hg, b1, b2, b3, c1, c2, c3]); exact zero_agg) rfl ?_
                (try simp only[go_sem, hn_g3, hn_g5, hn_g6, hn_g10, ↓hlen, hg, b1, b2, b3, c1, c2, c3])
                refine aw_store rfl rfl rfl rfl (by simp only[go_sem, hn_g3, hn_g5, hn_g6, hn_g10, ↓hlen, hg, b1, b2, b3, c1, c2, c3]<;>rfl) (by simp only[go_sem, hn_g3, hn_g5, hn_g6, hn_g10, ↓hlen, hg, b1, b2, b3, c1, c2, c3]<;>rfl) (by simp only[go_sem, hn_g3, hn_g5, hn_g6, hn_g10, ↓hlen, hg, b1, b2, b3, c1, c2, c3]<;>rfl) (by simp only[go_sem, hn_g3, hn_g5, hn_g6, hn_g10, ↓hlen, hg, b1, b2, b3, c1, c2, c3]<;>rfl) (fun _ e => by cases e) (by rfl) (by rfl) (by first|omega|simp) rfl ?_
                (try simp only[go_sem, hn_g3, hn_g5, hn_g6, hn_g10, ↓hlen, hg, b1, b2, b3, c1, c2, c3])
                rw [ratsF_upd (by omega)]
                have e := mix_step (y := a) (n := b) h1'
                rw [condR_cast, if_neg (by simp [h2]), if_pos h3] at e
                rw [← e]
                repeat first|apply wa1|apply wa2|apply wa3|apply wa4|apply wa5 rfl|apply wa6|apply wa7|(refine wb1 rfl fun R r=>?_;simp only[go_sem, hn_g3, hn_g5, hn_g6, hn_g10, ↓hlen, hg, b1, b2, b3, c1, c2, c3];with_reducible refine r _ _ ?_;clear r R)
                exact aw_stop ⟨k + 1, by omega, (by simp only[go_sem, hn_g3, hn_g5, hn_g6, hn_g10, ↓hlen, hg, b1, b2, b3, c1, c2, c3]<;>and_intros<;>first|exact True.intro|(with_reducible rfl)|exact c_int (by omega)|rfl), (List.Sublist.refl _), by omega⟩
              · repeat first|apply wa1|apply wa2|apply wa3|apply wa4|apply wa5 rfl|apply wa6|apply wa7|(refine wb1 rfl fun R r=>?_;simp only[go_sem, hn_g3, hn_g5, hn_g6, hn_g10, ↓hlen, hg, b1, b2, b3, c1, c2, c3];with_reducible refine r _ _ ?_;clear r R)
                rw [← mix_same h1' h2 h3]
                exact aw_stop ⟨k + 1, by omega, (by simp only[go_sem, hn_g3, hn_g5, hn_g6, hn_g10, ↓hlen, hg, b1, b2, b3, c1, c2, c3]<;>and_intros<;>first|exact True.intro|(with_reducible rfl)|exact c_int (by omega)|rfl), (List.Sublist.refl _), by omega⟩
          · have h1' : k = p.length := by have := of_decide_eq_false h1; omega
            subst h1'
            rw [mix_end]
            have k0 := condL_len a b p p.length
            have k1 := ok.n4096
            have k2 := ok.r1
            have k3 := vlen (ps := condL a b p p.length) (ns := d.nodes)
            have hcl := plain_law ok (ps := condL a b p p.length) (by omega)
            rw [k0] at hcl
            rw [← hcl]
            repeat first|apply wa1|apply wa2|apply wa3|apply wa4|apply wa5 rfl|apply wa6|apply wa7|(refine wb1 rfl fun R r=>?_;simp only[go_sem, hn_g3, hn_g5, hn_g6, hn_g10, ↓hlen];with_reducible refine r _ _ ?_;clear r R)
            refine aw_dr 6 ty_mixed (by kernel_rfl) ?_
            repeat first|apply wa1|apply wa2|apply wa3|apply wa4|apply wa5 rfl|apply wa6|apply wa7|(refine wb1 rfl fun R r=>?_;simp only[go_sem, hn_g3, hn_g5, hn_g6, hn_g10, ↓hlen];with_reducible refine r _ _ ?_;clear r R)|apply wa8|(refine wd1 rfl fun R r=>?_;simp only[go_sem, hn_g3, hn_g5, hn_g6, hn_g10, ↓hlen];with_reducible refine r _ _ ?_;clear r R)
            refine drk_call (values_fa d (condL a b p p.length) 1000 (by omega) (by omega) (fun r hr => wf_mono (condL_wf (L := 4) (by omega) hs.w _ r hr) (by omega)) (vals_wf ok (by omega) (L := 4) (by omega) (condL_wf (by omega) hs.w _) (Bl46 h6)) (ns_len ok (by omega)) (by omega)) rfl rfl rfl (by (try simp only[go_sem, hn_g3, hn_g5, hn_g6, hn_g10, ↓hlen]); exact ⟨.agg (lel_refl _), .c (le_gsr (pre := [(g10, _), (g6, _), (g5, _), (g3, _)]) hog hgn k0)⟩) ?_
            (try simp only[go_sem, hn_g3, hn_g5, hn_g6, hn_g10, ↓hlen])
            repeat first|apply wa1|apply wa2|apply wa3|apply wa4|apply wa5 rfl|apply wa6|apply wa7|(refine wb1 rfl fun R r=>?_;simp only[go_sem, hn_g3, hn_g5, hn_g6, hn_g10, ↓hlen];with_reducible refine r _ _ ?_;clear r R)|apply wa8|(refine wd1 rfl fun R r=>?_;simp only[go_sem, hn_g3, hn_g5, hn_g6, hn_g10, ↓hlen];with_reducible refine r _ _ ?_;clear r R)
            refine drk_call (of_fa' (valsL (condL a b p p.length) d.nodes []) d.root ok.r0 ?_ ?_) rfl rfl rfl (by first|exact True.intro|simp only[go_sem, hn_g3, hn_g5, hn_g6, hn_g10, ↓hlen]<;>and_intros<;>first|exact True.intro|exact .c (.refl _)|exact .c wl2|exact .agg (lel_refl _)|exact .agg (by simp only[LeL];and_intros<;>first|exact True.intro|exact .refl _|exact wl2)|exact .c .nils) ?_
            · omega
            · omega
            (try simp only[go_sem, hn_g3, hn_g5, hn_g6, hn_g10, ↓hlen])
            repeat first|apply wa1|apply wa2|apply wa3|apply wa4|apply wa5 rfl|apply wa6|apply wa7|(refine wb1 rfl fun R r=>?_;simp only[go_sem, hn_g3, hn_g5, hn_g6, hn_g10, ↓hlen];with_reducible refine r _ _ ?_;clear r R)|apply wa8|(refine wd1 rfl fun R r=>?_;simp only[go_sem, hn_g3, hn_g5, hn_g6, hn_g10, ↓hlen];with_reducible refine r _ _ ?_;clear r R)
            refine aw_store rfl rfl rfl rfl (by simp only[go_sem, hn_g3, hn_g5, hn_g6, hn_g10, ↓hlen]<;>rfl) (by simp only[go_sem, hn_g3, hn_g5, hn_g6, hn_g10, ↓hlen]<;>rfl) (by simp only[go_sem, hn_g3, hn_g5, hn_g6, hn_g10, ↓hlen]<;>rfl) (by simp only[go_sem, hn_g3, hn_g5, hn_g6, hn_g10, ↓hlen]<;>rfl) (fun _ e => by cases e) (by rfl) (by rfl) (by first|omega|simp) rfl ?_
            (try simp only[go_sem, hn_g3, hn_g5, hn_g6, hn_g10, ↓hlen])
            repeat first|apply wa1|apply wa2|apply wa3|apply wa4|apply wa5 rfl|apply wa6|apply wa7|(refine wb1 rfl fun R r=>?_;simp only[go_sem, hn_g3, hn_g5, hn_g6, hn_g10, ↓hlen];with_reducible refine r _ _ ?_;clear r R)|apply wa8|(refine wd1 rfl fun R r=>?_;simp only[go_sem, hn_g3, hn_g5, hn_g6, hn_g10, ↓hlen];with_reducible refine r _ _ ?_;clear r R)
            (refine aw_retq hC rfl fun R r=>?_;simp only[go_sem, hn_g3, hn_g5, hn_g6, hn_g10, ↓hlen];refine r _ rfl ?_;clear r R)
            exact .tup ⟨.agg lerl_rd, .c (ler_err0 rfl), trivial⟩
end Go.Proofs.YtlpejaefobdajaaGreat

/- The expectation is linear in each probability; the law of total probability. No program in sight. -/
namespace Go.PN
open Go.AI
def updP (p : Nat → Rat) (v : Nat) (c : Rat) : Nat → Rat := fun j => if j = v then c else p j
theorem ex_pcongr {p p' : Nat → Rat} : ∀ (m : Nat) (f : Nat → Rat), (∀ j, j < m → p j = p' j) → exQ p m f = exQ p' m f
  | 0, f, _ => rfl
  | m + 1, f, h => by
    rw [exQ, exQ, ex_pcongr m _ (fun j hj => h j (by omega)), ex_pcongr m _ (fun j hj => h j (by omega)), h m (by omega)]
theorem ex_lin {p : Nat → Rat} {v : Nat} : ∀ (m : Nat) (f : Nat → Rat), v < m → exQ p m f = p v * exQ (updP p v 1) m f + (1 - p v) * exQ (updP p v 0) m f
  | 0, f, h => by omega
  | m + 1, f, h => by
    rw [exQ, exQ, exQ]
    by_cases e : v = m
    · subst e
      have e1 : ∀ c g, exQ (updP p v c) v g = exQ p v g := fun c g => ex_pcongr v g fun j hj => by unfold updP; rw [if_neg (by omega)]
      rw [e1, e1, e1, e1]
      have h1 : updP p v 1 v = 1 := by unfold updP; rw [if_pos rfl]
      have h0 : updP p v 0 v = 0 := by unfold updP; rw [if_pos rfl]
      rw [h1, h0]
      grind
    · have hv : v < m := by omega
      have h1 : updP p v 1 m = p m := by unfold updP; rw [if_neg (fun x => e x.symm)]
      have h0 : updP p v 0 m = p m := by unfold updP; rw [if_neg (fun x => e x.symm)]
      have i1 := ex_lin m f hv (p := p)
      have i2 := ex_lin m (fun s => f (s + 2 ^ m)) hv (p := p)
      rw [h1, h0]
      generalize exQ (updP p v 1) m f = A at *
      generalize exQ (updP p v 0) m f = B at *
      generalize exQ (updP p v 1) m (fun s => f (s + 2 ^ m)) = A' at *
      generalize exQ (updP p v 0) m (fun s => f (s + 2 ^ m)) = B' at *
      rw [i1, i2]
      grind
theorem condL_get (y n : Nat) (ps : List RD) : ∀ (k j : Nat), j < k → (condL y n ps k).getD j rd0 = condR y n j (ps.getD j rd0)
  | 0, j, h => by omega
  | k + 1, j, h => by
    rw [condL, List.getD_eq_getElem?_getD]
    by_cases e : j = k
    · subst e
      rw [List.getElem?_append_right (by rw [condL_len]; exact Nat.le_refl _), condL_len, Nat.sub_self]
      rfl
    · rw [List.getElem?_append_left (by rw [condL_len]; omega), ← List.getD_eq_getElem?_getD]
      exact condL_get y n ps k j (by omega)
theorem rd0_q : rd0.q = 0 := by
  have : rd0 = rd 0 := rd_zero.symm
  rw [this, rd_q]
theorem prP_yes {ps : List RD} {i k j : Nat} (hj : j < k) : prP (condL (2 ^ i) 0 ps k) j = updP (prP ps) i 1 j := by
  unfold prP updP
  rw [condL_get _ _ _ _ _ hj]
  unfold condR
  rw [Nat.testBit_two_pow]
  by_cases e : j = i
  · subst e; simp [rd_q]
  · rw [if_neg (by simp; omega), if_neg (by simp), if_neg e]
theorem prP_no {ps : List RD} {i k j : Nat} (hj : j < k) : prP (condL 0 (2 ^ i) ps k) j = updP (prP ps) i 0 j := by
  unfold prP updP
  rw [condL_get _ _ _ _ _ hj]
  unfold condR
  rw [if_neg (by simp), Nat.testBit_two_pow]
  by_cases e : j = i
  · subst e; simp [rd0_q]
  · rw [if_neg (by simp; omega), if_neg e]
theorem total_law (ps : List RD) (tb : List Bool) {i : Nat} (hi : i < ps.length) : sumQ ps tb (2 ^ ps.length) = (ps.getD i rd0).q * sumQ (condL (2 ^ i) 0 ps ps.length) tb (2 ^ ps.length) + (1 - (ps.getD i rd0).q) * sumQ (condL 0 (2 ^ i) ps ps.length) tb (2 ^ ps.length) := by
  have h1 := sumQ_ex (condL (2 ^ i) 0 ps ps.length) tb
  have h2 := sumQ_ex (condL 0 (2 ^ i) ps ps.length) tb
  rw [condL_len] at h1 h2
  rw [sumQ_ex, h1, h2, ex_pcongr _ _ (fun j hj => prP_yes (ps := ps) (i := i) hj), ex_pcongr _ _ (fun j hj => prP_no (ps := ps) (i := i) hj)]
  exact ex_lin _ _ hi
theorem wt_yes {ps : List RD} {i : Nat} : ∀ k, wtTo (2 ^ i) 0 ps k = if i < k then (ps.getD i rd0).q else 1
  | 0 => by simp [wtTo]
  | k + 1 => by
    rw [wtTo, wt_yes k]
    unfold wfac
    rw [Nat.testBit_two_pow, Nat.zero_testBit]
    by_cases e : i = k
    · subst e; simp
    · by_cases h : i < k
      · have h2 : i ≤ k := by omega
        simp [h, h2, e]
        intro; omega
      · have h2 : ¬ i ≤ k := by omega
        simp [h, h2, e]
        intro; omega
theorem wt_no {ps : List RD} {i : Nat} : ∀ k, wtTo 0 (2 ^ i) ps k = if i < k then 1 - (ps.getD i rd0).q else 1
  | 0 => by simp [wtTo]
  | k + 1 => by
    rw [wtTo, wt_no k]
    unfold wfac
    rw [Nat.testBit_two_pow, Nat.zero_testBit]
    by_cases e : i = k
    · subst e; simp
    · by_cases h : i < k
      · have h2 : i ≤ k := by omega
        simp [h, h2, e]
        intro; omega
      · have h2 : ¬ i ≤ k := by omega
        simp [h, h2, e]
        intro; omega
theorem pow_mask {i : Nat} (hi : i < 24) : maskB ((2 ^ i : Nat) : Int) = true := by
  have h : 2 ^ i < 16777216 := by
    have h3 : 2 ^ i < 2 ^ 24 := Nat.pow_lt_pow_right (by omega) hi
    have h4 : (2 : Nat) ^ 24 = 16777216 := by decide
    omega
  generalize 2 ^ i = m at h ⊢
  unfold maskB
  rw [Bool.and_eq_true]
  exact ⟨decide_eq_true (by omega), decide_eq_true (by omega)⟩
theorem or_div {i n : Nat} (hi : i < n) : (2 ^ i ||| 0) / 2 ^ n = 0 := by
  rw [Nat.or_zero]
  exact Nat.div_eq_of_lt (Nat.pow_lt_pow_right (by omega) hi)
theorem gcode_yes {ps : List RD} {i : Nat} (hi : i < ps.length) (h24 : i < 24) (hq : (ps.getD i rd0).q ≠ 0) : gcode ps ((2 ^ i : Nat) : Int) 0 = 0 := by
  have hb : 2 ^ i < 9223372036854775808 := by
    have h : 2 ^ i < 2 ^ 24 := Nat.pow_lt_pow_right (by omega) h24
    have h4 : (2 : Nat) ^ 24 = 16777216 := by decide
    omega
  have hc : ccode ((2 ^ i : Nat) : Int) 0 = 0 := by
    unfold ccode
    have e := andZ_nat (2 ^ i) 0 hb (by omega)
    rw [Nat.and_zero] at e
    rw [pow_mask h24, show maskB 0 = true from by decide, if_neg (by decide), if_neg (by rw [show (0 : Int) = ((0 : Nat) : Int) from rfl, e]; decide)]
  unfold gcode
  rw [if_neg (by rw [hc]; simp), Int.toNat_natCast, show (0 : Int).toNat = 0 from rfl, if_neg (by rw [or_div hi]; simp), wt_yes, if_pos hi, if_neg hq]
theorem gcode_no {ps : List RD} {i : Nat} (hi : i < ps.length) (h24 : i < 24) (hq : 1 - (ps.getD i rd0).q ≠ 0) : gcode ps 0 ((2 ^ i : Nat) : Int) = 0 := by
  have hb : 2 ^ i < 9223372036854775808 := by
    have h : 2 ^ i < 2 ^ 24 := Nat.pow_lt_pow_right (by omega) h24
    have h4 : (2 : Nat) ^ 24 = 16777216 := by decide
    omega
  have hc : ccode 0 ((2 ^ i : Nat) : Int) = 0 := by
    unfold ccode
    have e := andZ_nat 0 (2 ^ i) (by omega) hb
    rw [Nat.zero_and] at e
    rw [pow_mask h24, show maskB 0 = true from by decide, if_neg (by decide), if_neg (by rw [show (0 : Int) = ((0 : Nat) : Int) from rfl, e]; decide)]
  unfold gcode
  rw [if_neg (by rw [hc]; simp), Int.toNat_natCast, show (0 : Int).toNat = 0 from rfl, if_neg (by rw [Nat.or_comm, or_div hi]; simp), wt_no, if_pos hi, if_neg hq]
end Go.PN
