/- Blocks of one proof, laid one behind the other by a program (merge2.py). -/
import Derived.Test.YtcoflhkcpnoaaaaGreatDoorM18
set_option linter.unusedSimpArgs false
set_option linter.unusedVariables false
namespace Go.AI
@[go_sem ↓] theorem updF_5_2 (a b c d e x : CV) : updF (ofL [a, b, c, d, e]) 2 [x] = ofL [a, b, x, d, e] := updF_at [a, b, c, d, e] 2 x (by simp)
end Go.AI
namespace Go.PN
open Go.AI
def uqTo : List DN → Nat → List (DK × Value)
  | [], _ => []
  | x :: ns, i => (dk x, .int .i64 (2 + (i : Int))) :: uqTo ns (i + 1)
theorem uq_get (x : DN) : ∀ (ns : List DN) (i : Nat), kvGet (dk x) (uqTo ns i) = (findN x ns i).map fun (j : Nat) => Value.int .i64 (2 + (j : Int))
  | [], _ => rfl
  | y :: ns, i => by
    have ih := uq_get x ns (i + 1)
    show (if dk x = dk y then some (Value.int .i64 (2 + (i : Int))) else kvGet (dk x) (uqTo ns (i + 1))) = _
    rw [findN]
    by_cases h : y = x
    · subst h; simp
    · rw [if_neg (fun e => h (dk_inj.1 e).symm), if_neg h, ih]
theorem uq_push (x : DN) : ∀ (ns : List DN) (i : Nat), uqTo (ns ++ [x]) i = uqTo ns i ++ [(dk x, .int .i64 (2 + ((i + ns.length : Nat) : Int)))]
  | [], i => by simp [uqTo]
  | y :: ns, i => by
    show _ :: uqTo (ns ++ [x]) (i + 1) = _ :: (uqTo ns (i + 1) ++ _)
    rw [uq_push x ns (i + 1)]
    simp only [List.length_cons]
    congr 5
    omega
def mmL (mm : Mem3) : List ((Int × Int × Int) × Value) := mm.map fun e => (e.1, .int .i64 e.2)
def memGet (k : Int × Int × Int) : Mem3 → Option Int
  | [] => none
  | e :: mm => if k = e.1 then some e.2 else memGet k mm
theorem mm_get (k : Int × Int × Int) : ∀ mm : Mem3, kvGet k (mmL mm) = (memGet k mm).map (Value.int .i64)
  | [] => rfl
  | e :: mm => by
    show (if k = e.1 then some (Value.int .i64 e.2) else kvGet k (mmL mm)) = _
    rw [memGet, mm_get k mm]
    split <;> rfl
theorem mem_mem {k : Int × Int × Int} {r : Int} : ∀ {mm : Mem3}, memGet k mm = some r → (k, r) ∈ mm
  | [], h => by simp [memGet] at h
  | e :: mm, h => by
    rw [memGet] at h
    split at h
    · rename_i hk
      injection h with h
      subst hk h
      exact List.mem_cons_self ..
    · exact List.mem_cons_of_mem _ (mem_mem h)
theorem mem_none {k : Int × Int × Int} : ∀ {mm : Mem3}, memGet k mm = none → ∀ e ∈ mm, e.1 ≠ k
  | e :: mm, h, e', he => by
    rw [memGet] at h
    split at h
    · cases h
    · rename_i hk
      rcases List.mem_cons.1 he with rfl | he
      · exact fun x => hk x.symm
      · exact mem_none h e' he
theorem mem_none' {k : Int × Int × Int} : ∀ {mm : Mem3}, (∀ e ∈ mm, e.1 ≠ k) → memGet k mm = none
  | [], _ => rfl
  | e :: mm, h => by
    rw [memGet, if_neg (fun x => h e (List.mem_cons_self ..) x.symm)]
    exact mem_none' fun e' he => h e' (List.mem_cons_of_mem _ he)
def TH (T DT : TypeId) (gT gU gM : Nat) (og : Option Nat) (o pl : List Int) (ns : List DN) (mm : Mem3) : Heap :=
  [(gT, .cells T 5 (ofL [is true o, is true pl, gs og 3 ns.length, .raw (.map (some gU)), .raw (.map (some gM))])), (gU, .gen (MapI dkV (uqTo ns 0))), (gM, .gen (MapI key3 (mmL mm)))] ++ gh og DT (ns.length * 3) (dnsF ns)
end Go.PN
namespace Go.Proofs.YtcoflhkcpnoaaaaGreatDoor
open Go.AI Go.PN
attribute [local irreducible] aw Fa Fh DrK
theorem ty_iz : tZ1 Tryz.prog 3 = some (.int .i64 0) := by kernel_rfl
abbrev THp (gT gU gM : Nat) (og : Option Nat) (o pl : List Int) (ns : List DN) (mm : Mem3) : Heap := TH 156 125 gT gU gM og o pl ns mm
set_option maxRecDepth 100000 in
set_option maxHeartbeats 3200000 in
theorem make_fh (gT gU gM : Nat) (og : Option Nat) (o pl : List Int) (ns : List DN) (mm : Mem3) (v lo hi : Int) (hog : og = none → ns.length = 0) (hn : ns.length ≤ 1000000000) :
    Fh Tryz.prog 125 (THp gT gU gM og o pl ns mm) [.c (.optr gT 0), .c (.int .i64 v), .c (.int .i64 lo), .c (.int .i64 hi)]
      (fun r h => ∃ og', (og' = none → (mkF ns v lo hi).1.length = 0) ∧ r = .c (.int .i64 (mkF ns v lo hi).2) ∧ h = THp gT gU gM og' o pl (mkF ns v lo hi).1 mm) := by
  refine fh_of_body Tryz.func125 rfl rfl (by simp [Tryz.ntmps125]) fun C hC => ?_
  simp only [initS, Nat.reduceAdd]
  refine aw_nd fun hnd => ?_
  have hd : (¬ gT = gU ∧ ¬ gU = gT) ∧ (¬ gT = gM ∧ ¬ gM = gT) ∧ (¬ gU = gM ∧ ¬ gM = gU) ∧ ∀ g, og = some g → (¬ gT = g ∧ ¬ g = gT) ∧ (¬ gU = g ∧ ¬ g = gU) ∧ (¬ gM = g ∧ ¬ g = gM) := by
    cases og with
    | none =>
      simp only [THp, TH, gh, Heap.keys, List.append_nil, List.map_cons, List.map_nil, List.nodup_cons, List.mem_cons, List.not_mem_nil, or_false, not_or, not_false_eq_true, List.nodup_nil, and_true] at hnd
      obtain ⟨⟨h1, h2⟩, h3⟩ := hnd
      exact ⟨⟨h1, fun e => h1 e.symm⟩, ⟨h2, fun e => h2 e.symm⟩, ⟨h3, fun e => h3 e.symm⟩, fun g e => by cases e⟩
    | some g' =>
      simp only [THp, TH, gh, Heap.keys, List.cons_append, List.nil_append, List.map_cons, List.map_nil, List.nodup_cons, List.mem_cons, List.not_mem_nil, or_false, not_or, not_false_eq_true, List.nodup_nil, and_true] at hnd
      obtain ⟨⟨h1, h2, h4⟩, ⟨h3, h5⟩, h6⟩ := hnd
      refine ⟨⟨h1, fun e => h1 e.symm⟩, ⟨h2, fun e => h2 e.symm⟩, ⟨h3, fun e => h3 e.symm⟩, fun g e => ?_⟩
      injection e with e
      subst e
      exact ⟨⟨h4, fun e => h4 e.symm⟩, ⟨h5, fun e => h5 e.symm⟩, ⟨h6, fun e => h6 e.symm⟩⟩
  obtain ⟨d1, d2, d3, d4⟩ := hd
  have hlen := lenCV_gs (s := 3) hog
  unfold THp TH
  simp only [List.cons_append, List.nil_append]
  repeat first|apply wa1|apply wa2|apply wa3|apply wa4|apply wa5 rfl|apply wa6|apply wa7|(refine wb1 rfl fun R r=>?_;simp only[go_sem, d1, d2, d3, ↓hlen];with_reducible refine r _ _ ?_;clear r R)
  refine aw_cond (by simp only[go_sem, d1, d2, d3, ↓hlen]<;>rfl) (fun h1 => ?_) (fun h1 => ?_)
  · have h1' : lo = hi := eq_of_beq h1
    repeat first|apply wa1|apply wa2|apply wa3|apply wa4|apply wa5 rfl|apply wa6|apply wa7|(refine wb1 rfl fun R r=>?_;simp only[go_sem, d1, d2, d3, ↓hlen];with_reducible refine r _ _ ?_;clear r R)
    (refine aw_rethq rfl fun R r=>?_;simp only[go_sem, d1, d2, d3, ↓hlen];refine r _ rfl ?_;clear r R)
    unfold mkF
    rw [if_pos h1']
    exact ⟨og, hog, rfl, rfl⟩
  have h1' : ¬ lo = hi := by simpa using h1
  repeat first|apply wa1|apply wa2|apply wa3|apply wa4|apply wa5 rfl|apply wa6|apply wa7|(refine wb1 rfl fun R r=>?_;simp only[go_sem, d1, d2, d3, ↓hlen];with_reducible refine r _ _ ?_;clear r R)
  refine aw_alloc rfl rfl rfl (by simp only[go_sem, d1, d2, d3, ↓hlen]<;>rfl) fun g9 hn_g9 => ?_
  replace hn_g9 := Heap.ne_of hn_g9
  first | dsimp only [Heap.ne, gh] at hn_g9 | dsimp only [Heap.ne] at hn_g9 | skip
  (try simp only[go_sem, d1, d2, d3, ↓hlen, hn_g9])
  repeat first|apply wa1|apply wa2|apply wa3|apply wa4|apply wa5 rfl|apply wa6|apply wa7|(refine wb1 rfl fun R r=>?_;simp only[go_sem, d1, d2, d3, ↓hlen, hn_g9];with_reducible refine r _ _ ?_;clear r R)
  refine aw_store rfl rfl rfl rfl (by simp only[go_sem, d1, d2, d3, ↓hlen, hn_g9]<;>rfl) (by simp only[go_sem, d1, d2, d3, ↓hlen, hn_g9]<;>rfl) (by simp only[go_sem, d1, d2, d3, ↓hlen, hn_g9]<;>rfl) (by simp only[go_sem, d1, d2, d3, ↓hlen, hn_g9]<;>rfl) (fun _ e => by cases e) (by rfl) (by rfl) (by first|omega|simp) rfl ?_
  (try simp only[go_sem, d1, d2, d3, ↓hlen, hn_g9])
  repeat first|apply wa1|apply wa2|apply wa3|apply wa4|apply wa5 rfl|apply wa6|apply wa7|(refine wb1 rfl fun R r=>?_;simp only[go_sem, d1, d2, d3, ↓hlen, hn_g9];with_reducible refine r _ _ ?_;clear r R)
  refine aw_dr 11 ty_mixed (by kernel_rfl) ?_
  repeat first|apply wa1|apply wa2|apply wa3|apply wa4|apply wa5 rfl|apply wa6|apply wa7|(refine wb1 rfl fun R r=>?_;simp only[go_sem, d1, d2, d3, ↓hlen, hn_g9];with_reducible refine r _ _ ?_;clear r R)|apply wa8|(refine wd1 rfl fun R r=>?_;simp only[go_sem, d1, d2, d3, ↓hlen, hn_g9];with_reducible refine r _ _ ?_;clear r R)
  refine drk_lookup2 (a := dk ⟨v, lo, hi⟩) (kv := uqTo ns 0) (Kf := dkV) (kt := 125) (et := 3) rfl rfl rfl (by kernel_rfl) dk_ok ty_iz (by simp only[go_sem, d1, d2, d3, ↓hlen, hn_g9]<;>rfl) (by simp only[go_sem, d1, d2, d3, ↓hlen, hn_g9]<;>rfl) (by simp only[go_sem, d1, d2, d3, ↓hlen, hn_g9]<;>rfl) dk_rep ?_
  (try simp only[go_sem, d1, d2, d3, ↓hlen, hn_g9])
  rw [uq_get]
  cases hf : findN ⟨v, lo, hi⟩ ns 0 with
  | some i =>
    try simp only [Option.map_some, Option.getD_some, Option.isSome_some, cstC]
    repeat first|apply wa1|apply wa2|apply wa3|apply wa4|apply wa5 rfl|apply wa6|apply wa7|(refine wb1 rfl fun R r=>?_;simp only[go_sem, d1, d2, d3, ↓hlen, hn_g9];with_reducible refine r _ _ ?_;clear r R)|apply wa8|(refine wd1 rfl fun R r=>?_;simp only[go_sem, d1, d2, d3, ↓hlen, hn_g9];with_reducible refine r _ _ ?_;clear r R)
    refine aw_condF (by simp only[go_sem, d1, d2, d3, ↓hlen, hn_g9]<;>rfl) ?_
    repeat first|apply wa1|apply wa2|apply wa3|apply wa4|apply wa5 rfl|apply wa6|apply wa7|(refine wb1 rfl fun R r=>?_;simp only[go_sem, d1, d2, d3, ↓hlen, hn_g9];with_reducible refine r _ _ ?_;clear r R)|apply wa8|(refine wd1 rfl fun R r=>?_;simp only[go_sem, d1, d2, d3, ↓hlen, hn_g9];with_reducible refine r _ _ ?_;clear r R)
    refine aw_keep [(8, .c (.int .i64 (2 + i)))] (THp gT gU gM og o pl ns mm) (by simp only[go_sem, d1, d2, d3, ↓hlen, hn_g9]<;>and_intros<;>first|exact True.intro|(with_reducible rfl)|exact c_int (by omega)|rfl) (List.Sublist.cons _ (List.Sublist.refl _)) ?_
    (refine aw_rethq rfl fun R r=>?_;simp only[go_sem, d1, d2, d3, ↓hlen, hn_g9];refine r _ rfl ?_;clear r R)
    unfold mkF
    rw [if_neg h1', hf]
    exact ⟨og, hog, rfl, rfl⟩
  | none =>
    try simp only [Option.map_none, Option.getD_none, Option.isSome_none, cstC]
    repeat first|apply wa1|apply wa2|apply wa3|apply wa4|apply wa5 rfl|apply wa6|apply wa7|(refine wb1 rfl fun R r=>?_;simp only[go_sem, d1, d2, d3, ↓hlen, hn_g9];with_reducible refine r _ _ ?_;clear r R)|apply wa8|(refine wd1 rfl fun R r=>?_;simp only[go_sem, d1, d2, d3, ↓hlen, hn_g9];with_reducible refine r _ _ ?_;clear r R)
    refine aw_condT (by simp only[go_sem, d1, d2, d3, ↓hlen, hn_g9]<;>rfl) ?_
    repeat first|apply wa1|apply wa2|apply wa3|apply wa4|apply wa5 rfl|apply wa6|apply wa7|(refine wb1 rfl fun R r=>?_;simp only[go_sem, d1, d2, d3, ↓hlen, hn_g9];with_reducible refine r _ _ ?_;clear r R)
    refine aw_cut (fun g : Nat => [(0, .c (.optr gT 0)), (9, .c (.optr g9 0)), (10, .c (.int .i64 (2 + (ns.length : Int))))]) (fun g => (g9, .cells 125 3 (ofL [.int .i64 v, .int .i64 lo, .int .i64 hi])) :: (gT, .cells 156 5 (ofL [is true o, is true pl, .osl g 3 0 (ns.length + 1), .raw (.map (some gU)), .raw (.map (some gM))])) :: (gU, .gen (MapI dkV (uqTo ns 0))) :: (gM, .gen (MapI key3 (mmL mm))) :: [(g, .cells 125 ((ns.length + 1) * 3) (dnsF (ns ++ [⟨v, lo, hi⟩])))]) (fun g => g ∉ Heap.keys [(g9, .cells 0 0 (ofL [])), (gT, .cells 0 0 (ofL [])), (gU, .cells 0 0 (ofL [])), (gM, .cells 0 0 (ofL []))]) ?_ ?_
    · refine aw_drL 7 0 37 ty_mixed (by kernel_rfl) ?_
      repeat (refine drg_2q rfl fun R r=>?_;simp only[go_sem, d1, d2, d3, ↓hlen, hn_g9];with_reducible refine r _ _ ?_;clear r R)
      refine drg_new rfl (NewX.buildSlice (xs := [.tmp 42]) (cells := [.int .i64 v, .int .i64 lo, .int .i64 hi]) rfl rfl rfl (by simp only[go_sem, d1, d2, d3, ↓hlen, hn_g9]<;>rfl) (by (try simp only[go_sem, d1, d2, d3, ↓hlen, hn_g9]); rfl) rfl (by omega) (by omega) (by intro x hx; simp only [List.mem_singleton] at hx; subst hx; exact ⟨rfl, rfl, rfl⟩) rfl (by simp [Op.operands])) (by kernel_rfl) ?_
      (try simp only[go_sem, d1, d2, d3, ↓hlen, hn_g9])
      refine drg_nil ⟨by simp, fun γ => ?_, fun γ => ?_⟩
      · simp only [List.drop_succ_cons, List.drop_zero, List.take_succ_cons, List.take_zero, List.cons_append, List.nil_append]
        (try simp only[go_sem, d1, d2, d3, ↓hlen, hn_g9])
        try simp only [List.cons_append, List.nil_append]
        generalize γ 6 = gt
        refine aw_push2 (e := 125) (size := 3) (bytes := 24) (n := ns.length) (z := [.int .i64 0, .int .i64 0, .int .i64 0]) (f := dnsF ns) (pre := [(g9, .cells 125 3 (ofL [.int .i64 v, .int .i64 lo, .int .i64 hi])), (gT, .cells 156 5 (ofL [is true o, is true pl, gs og 3 ns.length, .raw (.map (some gU)), .raw (.map (some gM))])), (gU, .gen (MapI dkV (uqTo ns 0))), (gM, .gen (MapI key3 (mmL mm)))]) (f' := dnsF (ns ++ [⟨v, lo, hi⟩])) (v := .agg [.int .i64 v, .int .i64 lo, .int .i64 hi]) rfl rfl rfl (by simp only[go_sem, d1, d2, d3, ↓hlen, hn_g9]<;>rfl) (by simp only[go_sem, d1, d2, d3, ↓hlen, hn_g9]<;>rfl) rfl (by omega) (by omega) (by simp only[go_sem, d1, d2, d3, ↓hlen, hn_g9]<;>rfl) (by simp only[go_sem, d1, d2, d3, ↓hlen, hn_g9]<;>rfl) hog (by rfl) (by rfl) (by simp only [List.cons_append, List.nil_append]; rfl) (by unfold maxLen; omega) (by omega) (lf_push (xs := ns) rfl (⟨v, lo, hi⟩ : DN) (by omega)) fun g hn_g => ?_
        (try simp only[go_sem, d1, d2, d3, ↓hlen, hn_g9])
        simp only [gs, gh, List.cons_append, List.nil_append]
        repeat first|apply wa7|(refine wb1 rfl fun R r=>?_;simp only[go_sem, d1, d2, d3, ↓hlen, hn_g9];with_reducible refine r _ _ ?_;clear r R)|apply wa8|(refine wd1 rfl fun R r=>?_;simp only[go_sem, d1, d2, d3, ↓hlen, hn_g9];with_reducible refine r _ _ ?_;clear r R)
        refine aw_store rfl rfl rfl rfl (by simp only[go_sem, d1, d2, d3, ↓hlen, hn_g9]<;>rfl) (by simp only[go_sem, d1, d2, d3, ↓hlen, hn_g9]<;>rfl) (by simp only[go_sem, d1, d2, d3, ↓hlen, hn_g9]<;>rfl) (by simp only[go_sem, d1, d2, d3, ↓hlen, hn_g9]<;>rfl) (fun _ e => by cases e) (by rfl) (by rfl) (by first|omega|simp) rfl ?_
        (try simp only[go_sem, d1, d2, d3, ↓hlen, hn_g9])
        repeat first|apply wa7|(refine wb1 rfl fun R r=>?_;simp only[go_sem, d1, d2, d3, ↓hlen, hn_g9];with_reducible refine r _ _ ?_;clear r R)
        exact aw_stop ⟨g, (by simp only[go_sem, d1, d2, d3, ↓hlen, hn_g9]<;>and_intros<;>first|exact True.intro|(with_reducible rfl)|exact c_int (by omega)|rfl), (List.Sublist.refl _), hn_g⟩
      · simp only [List.drop_succ_cons, List.drop_zero, List.take_succ_cons, List.take_zero, List.cons_append, List.nil_append]
        (try simp only[go_sem, d1, d2, d3, ↓hlen, hn_g9])
        try simp only [List.cons_append, List.nil_append]
        generalize γ 6 = gt
        refine aw_push2 (e := 125) (size := 3) (bytes := 24) (n := ns.length) (z := [.int .i64 0, .int .i64 0, .int .i64 0]) (f := dnsF ns) (pre := [(g9, .cells 125 3 (ofL [.int .i64 v, .int .i64 lo, .int .i64 hi])), (gT, .cells 156 5 (ofL [is true o, is true pl, gs og 3 ns.length, .raw (.map (some gU)), .raw (.map (some gM))])), (gU, .gen (MapI dkV (uqTo ns 0))), (gM, .gen (MapI key3 (mmL mm)))]) (f' := dnsF (ns ++ [⟨v, lo, hi⟩])) (v := .agg [.int .i64 v, .int .i64 lo, .int .i64 hi]) rfl rfl rfl (by simp only[go_sem, d1, d2, d3, ↓hlen, hn_g9]<;>rfl) (by simp only[go_sem, d1, d2, d3, ↓hlen, hn_g9]<;>rfl) rfl (by omega) (by omega) (by simp only[go_sem, d1, d2, d3, ↓hlen, hn_g9]<;>rfl) (by simp only[go_sem, d1, d2, d3, ↓hlen, hn_g9]<;>rfl) hog (by rfl) (by rfl) (by simp only [List.cons_append, List.nil_append]; rfl) (by unfold maxLen; omega) (by omega) (lf_push (xs := ns) rfl (⟨v, lo, hi⟩ : DN) (by omega)) fun g hn_g => ?_
        (try simp only[go_sem, d1, d2, d3, ↓hlen, hn_g9])
        simp only [gs, gh, List.cons_append, List.nil_append]
        repeat first|apply wa7|(refine wb1 rfl fun R r=>?_;simp only[go_sem, d1, d2, d3, ↓hlen, hn_g9];with_reducible refine r _ _ ?_;clear r R)
        refine aw_store rfl rfl rfl rfl (by simp only[go_sem, d1, d2, d3, ↓hlen, hn_g9]<;>rfl) (by simp only[go_sem, d1, d2, d3, ↓hlen, hn_g9]<;>rfl) (by simp only[go_sem, d1, d2, d3, ↓hlen, hn_g9]<;>rfl) (by simp only[go_sem, d1, d2, d3, ↓hlen, hn_g9]<;>rfl) (fun _ e => by cases e) (by rfl) (by rfl) (by first|omega|simp) rfl ?_
        (try simp only[go_sem, d1, d2, d3, ↓hlen, hn_g9])
        repeat first|apply wa7|(refine wb1 rfl fun R r=>?_;simp only[go_sem, d1, d2, d3, ↓hlen, hn_g9];with_reducible refine r _ _ ?_;clear r R)
        exact aw_stop ⟨g, (by simp only[go_sem, d1, d2, d3, ↓hlen, hn_g9]<;>and_intros<;>first|exact True.intro|(with_reducible rfl)|exact c_int (by omega)|rfl), (List.Sublist.refl _), hn_g⟩
    rintro g hn_g
    replace hn_g := Heap.ne_of hn_g
    dsimp only [Heap.ne] at hn_g
    repeat first|apply wa1|apply wa2|apply wa3|apply wa4|apply wa5 rfl|apply wa6|apply wa7|(refine wb1 rfl fun R r=>?_;simp only[go_sem, d1, d2, d3, ↓hlen, hn_g9, hn_g];with_reducible refine r _ _ ?_;clear r R)
    refine aw_dr 6 ty_mixed (by kernel_rfl) ?_
    repeat first|apply wa1|apply wa2|apply wa3|apply wa4|apply wa5 rfl|apply wa6|apply wa7|(refine wb1 rfl fun R r=>?_;simp only[go_sem, d1, d2, d3, ↓hlen, hn_g9, hn_g];with_reducible refine r _ _ ?_;clear r R)|apply wa8|(refine wd1 rfl fun R r=>?_;simp only[go_sem, d1, d2, d3, ↓hlen, hn_g9, hn_g];with_reducible refine r _ _ ?_;clear r R)
    refine aw_mapNew (a := dk ⟨v, lo, hi⟩) (kv := uqTo ns 0) (Kf := dkV) (v := .int .i64 (2 + (ns.length : Int))) rfl rfl rfl (kt := 125) (et := 3) (by kernel_rfl) dk_ok (by simp only[go_sem, d1, d2, d3, ↓hlen, hn_g9, hn_g]<;>rfl) (by simp only[go_sem, d1, d2, d3, ↓hlen, hn_g9, hn_g]<;>rfl) (by simp only[go_sem, d1, d2, d3, ↓hlen, hn_g9, hn_g]<;>rfl) dk_rep (cv := .c (.int .i64 (2 + (ns.length : Int)))) (by simp only[go_sem, d1, d2, d3, ↓hlen, hn_g9, hn_g]<;>rfl) (fun S w u h => h) (by rw [uq_get, hf]; rfl) (by simp only[go_sem, d1, d2, d3, ↓hlen, hn_g9, hn_g]<;>rfl) ?_
    have hup := uq_push ⟨v, lo, hi⟩ ns 0
    rw [Nat.zero_add] at hup
    rw [← hup]
    (try simp only[go_sem, d1, d2, d3, ↓hlen, hn_g9, hn_g])
    repeat first|apply wa1|apply wa2|apply wa3|apply wa4|apply wa5 rfl|apply wa6|apply wa7|(refine wb1 rfl fun R r=>?_;simp only[go_sem, d1, d2, d3, ↓hlen, hn_g9, hn_g];with_reducible refine r _ _ ?_;clear r R)|apply wa8|(refine wd1 rfl fun R r=>?_;simp only[go_sem, d1, d2, d3, ↓hlen, hn_g9, hn_g];with_reducible refine r _ _ ?_;clear r R)
    refine aw_keep [(8, .c (.int .i64 (2 + (ns.length : Int))))] (THp gT gU gM (some g) o pl (ns ++ [⟨v, lo, hi⟩]) mm) (by simp only[go_sem, d1, d2, d3, ↓hlen, hn_g9, hn_g]<;>and_intros<;>first|exact True.intro|(with_reducible rfl)|exact c_int (by omega)|rfl) (by
      unfold THp TH
      rw [List.length_append]
      exact List.Sublist.cons _ (List.Sublist.refl _)) ?_
    (refine aw_rethq rfl fun R r=>?_;simp only[go_sem, d1, d2, d3, ↓hlen, hn_g9, hn_g];refine r _ rfl ?_;clear r R)
    unfold mkF
    rw [if_neg h1', hf]
    exact ⟨some g, some_ne, rfl, rfl⟩
end Go.Proofs.YtcoflhkcpnoaaaaGreatDoor
namespace Go.Proofs.YtcoflhkcpnoaaaaGreatDoor
open Go.AI Go.PN
attribute [local irreducible] aw Fa Fh DrK
theorem th_ne {gT gU gM : Nat} {og : Option Nat} {o pl : List Int} {ns : List DN} {mm : Mem3} (hnd : (THp gT gU gM og o pl ns mm).keys.Nodup) : (¬ gT = gU ∧ ¬ gU = gT) ∧ (¬ gT = gM ∧ ¬ gM = gT) ∧ (¬ gU = gM ∧ ¬ gM = gU) ∧ ∀ g, og = some g → (¬ gT = g ∧ ¬ g = gT) ∧ (¬ gU = g ∧ ¬ g = gU) ∧ (¬ gM = g ∧ ¬ g = gM) := by
  cases og with
  | none =>
    simp only [THp, TH, gh, Heap.keys, List.append_nil, List.map_cons, List.map_nil, List.nodup_cons, List.mem_cons, List.not_mem_nil, or_false, not_or, not_false_eq_true, List.nodup_nil, and_true] at hnd
    obtain ⟨⟨h1, h2⟩, h3⟩ := hnd
    exact ⟨⟨h1, fun e => h1 e.symm⟩, ⟨h2, fun e => h2 e.symm⟩, ⟨h3, fun e => h3 e.symm⟩, fun g e => by cases e⟩
  | some g' =>
    simp only [THp, TH, gh, Heap.keys, List.cons_append, List.nil_append, List.map_cons, List.map_nil, List.nodup_cons, List.mem_cons, List.not_mem_nil, or_false, not_or, not_false_eq_true, List.nodup_nil, and_true] at hnd
    obtain ⟨⟨h1, h2, h4⟩, ⟨h3, h5⟩, h6⟩ := hnd
    refine ⟨⟨h1, fun e => h1 e.symm⟩, ⟨h2, fun e => h2 e.symm⟩, ⟨h3, fun e => h3 e.symm⟩, fun g e => ?_⟩
    injection e with e
    subst e
    exact ⟨⟨h4, fun e => h4 e.symm⟩, ⟨h5, fun e => h5 e.symm⟩, ⟨h6, fun e => h6 e.symm⟩⟩
def PlOk (o pl : List Int) : Prop := pl.length = o.length ∧ ∀ v : Nat, v < o.length → pl.getD v 0 = placeZ o v
set_option maxRecDepth 100000 in
set_option maxHeartbeats 1600000 in
theorem level_fh (gT gU gM : Nat) (og : Option Nat) (o pl : List Int) (ns : List DN) (mm : Mem3) (r : Int) (hog : og = none → ns.length = 0) (hn : ns.length ≤ 1000000000) (ht : TabOk o ns) (hr : RefOk ns r) (hpl : PlOk o pl) (ho : o.length ≤ 1000) :
    Fh Tryz.prog 161 (THp gT gU gM og o pl ns mm) [.c (.optr gT 0), .c (.int .i64 r)] (fun x h => x = .c (.int .i64 (lvZ o ns r)) ∧ h = THp gT gU gM og o pl ns mm) := by
  unfold RefOk at hr
  refine fh_of_body Tryz.func161 rfl rfl (by simp [Tryz.ntmps161]) fun C hC => ?_
  simp only [initS, Nat.reduceAdd]
  refine aw_nd fun hnd => ?_
  obtain ⟨d1, d2, d3, d4⟩ := th_ne hnd
  unfold THp TH
  simp only [List.cons_append, List.nil_append]
  refine yG (oj d1 (oj d2 d3)) ?_
  refine yF (oj d1 (oj d2 d3)) (fun h1=>?_) fun h1=>?_
  · have h1' := of_decide_eq_true h1
    refine yG (oj d1 (oj d2 d3)) ?_
    refine yU (oj d1 (oj d2 d3)) ?_
    unfold lvZ
    rw [if_pos h1']
    exact ⟨rfl, rfl⟩
  have h1' := of_decide_eq_false h1
  obtain ⟨g, rfl⟩ : ∃ g, og = some g := by
    cases og with
    | none => have := hog rfl; omega
    | some g => exact ⟨g, rfl⟩
  obtain ⟨q1, q2, q3⟩ := d4 g rfl
  have hi : (r - 2).toNat < ns.length := by omega
  obtain ⟨v0, v1, _, _, _, _⟩ := (ht _ hi).nk
  obtain ⟨p1, p2⟩ := hpl
  have hv := p2 (ns.getD (r - 2).toNat dn0).v.toNat (by omega)
  rw [show (((ns.getD (r - 2).toNat dn0).v.toNat : Nat) : Int) = (ns.getD (r - 2).toNat dn0).v from by omega] at hv
  simp only [gs, gh]
  refine yG (oj d1 (oj d2 (oj d3 (oj q1 (oj q2 (oj q3 hv)))))) ?_
  refine aw_dr 16 ty_mixed (by kernel_rfl) ?_
  refine yG (oj d1 (oj d2 (oj d3 (oj q1 (oj q2 (oj q3 hv)))))) ?_
  refine yU (oj d1 (oj d2 (oj d3 (oj q1 (oj q2 (oj q3 hv)))))) ?_
  unfold lvZ
  rw [if_neg h1']
  exact ⟨rfl, rfl⟩
set_option maxRecDepth 100000 in
set_option maxHeartbeats 1600000 in
theorem kids_fh (gT gU gM : Nat) (og : Option Nat) (o pl : List Int) (ns : List DN) (mm : Mem3) (r L : Int) (hog : og = none → ns.length = 0) (hn : ns.length ≤ 1000000000) (ht : TabOk o ns) (hr : RefOk ns r) (hpl : PlOk o pl) (ho : o.length ≤ 1000) (hL : L < o.length) :
    Fh Tryz.prog 162 (THp gT gU gM og o pl ns mm) [.c (.optr gT 0), .c (.int .i64 r), .c (.int .i64 L)] (fun x h => x = .tup [.c (.int .i64 (kidsF o ns r L).1), .c (.int .i64 (kidsF o ns r L).2)] ∧ h = THp gT gU gM og o pl ns mm) := by
  refine fh_of_body Tryz.func162 rfl rfl (by simp [Tryz.ntmps162]) fun C hC => ?_
  simp only [initS, Nat.reduceAdd]
  refine xG ?_
  refine aw_callh (hr := []) (level_fh gT gU gM og o pl ns mm r hog hn ht hr hpl ho) rfl rfl rfl (by rw [List.append_nil]) eL ?_
  rintro _ _ ⟨rfl, rfl⟩ _
  rw [List.append_nil]
  refine xS ?_
  refine xG ?_
  refine xF (fun h1=>?_) fun h1=>?_
  · refine xG ?_
    refine xU ?_
    unfold kidsF
    rw [if_pos (by simpa using h1)]
    exact ⟨rfl, rfl⟩
  have h1' : lvZ o ns r = L := by simpa using h1
  have hr2 : 2 ≤ r := by
    refine Classical.byContradiction fun hc => ?_
    unfold lvZ at h1'
    rw [if_pos (by omega)] at h1'
    omega
  unfold RefOk at hr
  refine aw_nd fun hnd => ?_
  obtain ⟨d1, d2, d3, d4⟩ := th_ne hnd
  obtain ⟨g, rfl⟩ : ∃ g, og = some g := by
    cases og with
    | none => have := hog rfl; omega
    | some g => exact ⟨g, rfl⟩
  obtain ⟨q1, q2, q3⟩ := d4 g rfl
  unfold THp TH
  simp only [gs, gh, List.cons_append, List.nil_append]
  refine yG (oj d1 (oj d2 (oj d3 (oj q1 (oj q2 q3))))) ?_
  refine yA (oj d1 (oj d2 (oj d3 (oj q1 (oj q2 q3))))) fun g8 hn_g8=>?_
  refine yG (oj d1 (oj d2 (oj d3 (oj q1 (oj q2 (oj q3 hn_g8)))))) ?_
  refine yW (oj d1 (oj d2 (oj d3 (oj q1 (oj q2 (oj q3 hn_g8)))))) ?_
  refine yS (oj d1 (oj d2 (oj d3 (oj q1 (oj q2 (oj q3 hn_g8)))))) ?_
  refine yG (oj d1 (oj d2 (oj d3 (oj q1 (oj q2 (oj q3 hn_g8)))))) ?_
  refine aw_dr 6 ty_mixed (by kernel_rfl) ?_
  refine yG (oj d1 (oj d2 (oj d3 (oj q1 (oj q2 (oj q3 hn_g8)))))) ?_
  refine aw_keep [(6, .c (.int .i64 (ns.getD (r - 2).toNat dn0).lo)), (7, .c (.int .i64 (ns.getD (r - 2).toNat dn0).hi))] (THp gT gU gM (some g) o pl ns mm) (zB (oj d1 (oj d2 (oj d3 (oj q1 (oj q2 (oj q3 hn_g8))))))) (List.Sublist.cons _ (List.Sublist.refl _)) ?_
  refine yU (oj d1 (oj d2 (oj d3 (oj q1 (oj q2 (oj q3 hn_g8)))))) ?_
  unfold kidsF
  rw [if_neg (by simpa using h1')]
  exact ⟨rfl, rfl⟩
set_option maxHeartbeats 800000 in
theorem event_fh (gT gU gM : Nat) (og : Option Nat) (o pl : List Int) (ns : List DN) (mm : Mem3) (v : Int) (hog : og = none → ns.length = 0) (hn : ns.length ≤ 1000000000) :
    Fh Tryz.prog 90 (THp gT gU gM og o pl ns mm) [.c (.optr gT 0), .c (.int .i64 v)]
      (fun r h => ∃ og', (og' = none → (mkF ns v 0 1).1.length = 0) ∧ r = .c (.int .i64 (mkF ns v 0 1).2) ∧ h = THp gT gU gM og' o pl (mkF ns v 0 1).1 mm) := by
  refine fh_of_body Tryz.func90 rfl rfl (by simp [Tryz.ntmps90]) fun C hC => ?_
  simp only [initS, Nat.reduceAdd]
  refine xG ?_
  refine aw_callh (hr := []) (make_fh gT gU gM og o pl ns mm v 0 1 hog hn) rfl rfl rfl (by rw [List.append_nil]) eL ?_
  rintro _ _ ⟨og', h1, rfl, rfl⟩ _
  rw [List.append_nil]
  refine xS ?_
  refine xG ?_
  refine xU ?_
  exact ⟨og', h1, rfl, rfl⟩
end Go.Proofs.YtcoflhkcpnoaaaaGreatDoor
namespace Go.Proofs.YtcoflhkcpnoaaaaGreatDoor
open Go.AI Go.PN
attribute [local irreducible] aw Fa Fh DrK
theorem ty_k3 : KeyOk Tryz.prog 190 key3 := by
  obtain ⟨_, inf, hi, hsz, _⟩ := tElem_spec (show tElem Tryz.prog 61 = some (3, 1, 8) from by kernel_rfl)
  exact key3_ok Tryz.underlying190 Tryz.underlying3 hi hsz
theorem key3_rep {c a b : Int} : ∀ (S : Bool → Nat → Prop) (w : World) (u : Value), Rep S w (.agg [.int .i64 c, .int .i64 a, .int .i64 b]) u → u = key3 (c, a, b) := by
  rintro S w u ⟨us, rfl, h⟩
  match us, h with
  | [x, y, z], ⟨h1, h2, h3, _⟩ =>
    have h1 : x = _ := h1
    have h2 : y = _ := h2
    have h3 : z = _ := h3
    rw [h1, h2, h3]; rfl
structure OdOk (o pl : List Int) : Prop where
  perm : Perm0 o
  pl : PlOk o pl
  l24 : o.length ≤ 24
theorem OdOk.mem {o pl : List Int} (h : OdOk o pl) : ∀ v : Int, 0 ≤ v → v < o.length → v ∈ o := fun v h0 h1 => by
  have := h.perm.all (j := v.toNat) (by omega)
  rwa [show ((v.toNat : Nat) : Int) = v from by omega] at this
theorem OdOk.at {o pl : List Int} (h : OdOk o pl) : ∀ i : Nat, i < o.length → 0 ≤ o.getD i 0 ∧ o.getD i 0 < o.length ∧ placeZ o (o.getD i 0) = i := fun i hi => by
  have := h.perm.range (o.getD i 0) (by rw [getDZ hi]; exact List.getElem_mem hi)
  exact ⟨this.1, this.2, place_get h.perm.nodup hi⟩
def ChooseOk (gT gU gM : Nat) (o pl : List Int) (k : Nat) : Prop := ∀ (og : Option Nat) (ns : List DN) (mm : Mem3) (c a b : Int), (og = none → ns.length = 0) → ns.length + 2 ^ k ≤ 1000000000 → TabOk o ns → MemOk o ns mm → RefOk ns c → RefOk ns a → RefOk ns b → o.length + 1 ≤ lv3 o ns (c, a, b) + k →
    Fh Tryz.prog 155 (THp gT gU gM og o pl ns mm) [.c (.optr gT 0), .c (.int .i64 c), .c (.int .i64 a), .c (.int .i64 b)]
      (fun x h => ∃ og' ns' mm' r, (og' = none → ns'.length = 0) ∧ ChP o ns mm c a b (lv3 o ns (c, a, b)) k ns' mm' r ∧ x = .c (.int .i64 r) ∧ h = THp gT gU gM og' o pl ns' mm')
theorem mmL_push (mm : Mem3) (k : Int × Int × Int) (r : Int) : mmL mm ++ [(k, .int .i64 r)] = mmL (mm ++ [(k, r)]) := by simp [mmL]
set_option maxRecDepth 100000 in
set_option maxHeartbeats 6400000 in
theorem choose_ok (gT gU gM : Nat) (o pl : List Int) (ho : OdOk o pl) : ∀ k, ChooseOk gT gU gM o pl k := by
  intro k
  induction k with
  | zero =>
    intro og ns mm c a b _ _ _ _ _ _ _ hk
    have h1 := lv_le (o := o) (ns := ns) (r := c)
    unfold lv3 at hk
    simp only at hk
    omega
  | succ k ih =>
    intro og ns mm c a b hog hn ht hm hc ha hb hk
    have l24 := ho.l24
    have lc := lv_le (o := o) (ns := ns) (r := c)
    have hp2 : 2 ^ (k + 1) = 2 ^ k + 2 ^ k := by rw [Nat.pow_succ]; omega
    have hp1 : 0 < 2 ^ k := Nat.pow_pos (by omega)
    have hL : lv3 o ns (c, a, b) ≤ lvZ o ns c ∧ lv3 o ns (c, a, b) ≤ lvZ o ns a ∧ lv3 o ns (c, a, b) ≤ lvZ o ns b := by
      unfold lv3
      simp only
      omega
    have hlen := lenCV_gs (s := 3) hog
    refine fh_of_body Tryz.func155 rfl rfl (by simp [Tryz.ntmps155]) fun C hC => ?_
    simp only [initS, Nat.reduceAdd]
    refine xI ?_
    refine aw_cut (fun _ : Unit => [(0, .c (.optr gT 0)), (1, .c (.int .i64 c)), (2, .c (.int .i64 a)), (3, .c (.int .i64 b))]) (fun _ => THp gT gU gM og o pl ns mm) (fun _ => (¬ c = 1 ∧ ¬ a = b) ∧ ¬ c = 0 ∧ ¬ (a = 1 ∧ b = 0)) ?_ ?_
    · refine xG ?_
      refine aw_split 25 eE (fun hb => ?_) (fun hb => ?_) <;> refine xS ?_
      · refine xG ?_
        have hb' : c = 1 := by simpa using hb
        refine xP ?_
        refine xG ?_
        refine xU ?_
        exact ⟨og, ns, mm, a, hog, ChP.same ht hm ha hL.2.1 (fun s => by rw [hb', evalD_leaf (r := 1) (by omega)]; rfl), rfl, rfl⟩
      · have h1 : ¬ c = 1 := by simpa using hb
        refine xG ?_
        refine xF (fun h2=>?_) fun h2=>?_
        · have h2' : a = b := by simpa using h2
          refine xG ?_
          refine xU ?_
          exact ⟨og, ns, mm, a, hog, ChP.same ht hm ha hL.2.1 (fun s => by rw [h2']; split <;> rfl), rfl, rfl⟩
        · have h2' : ¬ a = b := by simpa using h2
          refine xG ?_
          refine xF (fun h3=>?_) fun h3=>?_
          · have h3' : c = 0 := by simpa using h3
            refine xG ?_
            refine xU ?_
            exact ⟨og, ns, mm, b, hog, ChP.same ht hm ‹RefOk ns b› hL.2.2 (fun s => by rw [h3', evalD_leaf (r := 0) (by omega)]; rfl), rfl, rfl⟩
          · have h3' : ¬ c = 0 := by simpa using h3
            refine xG ?_
            refine aw_split 38 eE (fun h4 => ?_) (fun h4 => ?_) <;> refine xS ?_
            · have h4' : a = 1 := by simpa using h4
              refine xG ?_
              refine xF (fun h5=>?_) fun h5=>?_
              · have h5' : b = 0 := by simpa using h5
                refine xG ?_
                refine xU ?_
                exact ⟨og, ns, mm, c, hog, ChP.same ht hm hc hL.1 (fun s => by rw [h4', h5', evalD_leaf (r := 1) (by omega), evalD_leaf (r := 0) (by omega)]; cases evalD ns s c <;> rfl), rfl, rfl⟩
              · have h5' : ¬ b = 0 := by simpa using h5
                refine xG ?_
                exact aw_stop ⟨(), eB, zZ, ⟨h1, h2'⟩, h3', fun x => h5' x.2⟩
            · have h4' : ¬ a = 1 := by simpa using h4
              refine xG ?_
              refine xN ?_
              refine xG ?_
              exact aw_stop ⟨(), eB, zZ, ⟨h1, h2'⟩, h3', fun x => h4' x.1⟩
    rintro _ ⟨⟨n1, n2⟩, n3, n4⟩
    have hc2 : 2 ≤ c := by unfold RefOk at hc; omega
    have hclt := lv_lt ht hc hc2
    have g0 := lv3_nonneg ho.mem ht hc
    have g1 := lv3_nonneg ho.mem ht ha
    have g2 := lv3_nonneg ho.mem ht hb
    obtain ⟨L, hLe⟩ : ∃ L, lv3 o ns (c, a, b) = L := ⟨_, rfl⟩
    rw [hLe] at hL hk ⊢
    have hL0 : 0 ≤ L := by rw [← hLe]; unfold lv3; simp only; omega
    refine aw_nd fun hnd => ?_
    obtain ⟨d1, d2, d3, d4⟩ := th_ne hnd
    unfold THp TH
    simp only [List.cons_append, List.nil_append]
    refine yG (oj d1 (oj d2 d3)) ?_
    refine aw_pure rfl (buildArr_ok Tryz.underlying190 (el := 3) (n := 3) (s := 1) (ag := false) (z := [.int .i64 0, .int .i64 0, .int .i64 0]) (out := [.int .i64 c, .int .i64 a, .int .i64 b]) (by kernel_rfl) (by kernel_rfl) (by rfl) (by decide) (by rfl)) rfl rfl ?_
    refine yS (oj d1 (oj d2 d3)) ?_
    refine yG (oj d1 (oj d2 d3)) ?_
    refine yA (oj d1 (oj d2 d3)) fun g9 hn_g9=>?_
    refine yG (oj d1 (oj d2 (oj d3 hn_g9))) ?_
    refine yW (oj d1 (oj d2 (oj d3 hn_g9))) ?_
    refine yS (oj d1 (oj d2 (oj d3 hn_g9))) ?_
    refine yG (oj d1 (oj d2 (oj d3 hn_g9))) ?_
    refine aw_dr 11 ty_mixed (by kernel_rfl) ?_
    refine yG (oj d1 (oj d2 (oj d3 hn_g9))) ?_
    refine drk_lookup2 (a := (c, a, b)) (kv := mmL mm) (Kf := key3) (kt := 190) (et := 3) rfl rfl rfl (by kernel_rfl) ty_k3 ty_iz (zE (oj d1 (oj d2 (oj d3 hn_g9)))) (zE (oj d1 (oj d2 (oj d3 hn_g9)))) (zE (oj d1 (oj d2 (oj d3 hn_g9)))) key3_rep ?_
    refine yS (oj d1 (oj d2 (oj d3 hn_g9))) ?_
    rw [mm_get]
    cases hf : memGet (c, a, b) mm with
    | some r =>
      try simp only [Option.map_some, Option.getD_some, Option.isSome_some, cstC]
      refine yG (oj d1 (oj d2 (oj d3 hn_g9))) ?_
      refine yP (oj d1 (oj d2 (oj d3 hn_g9))) ?_
      refine yG (oj d1 (oj d2 (oj d3 hn_g9))) ?_
      refine aw_keep [(8, .c (.int .i64 r))] (THp gT gU gM og o pl ns mm) (zB (oj d1 (oj d2 (oj d3 hn_g9)))) (List.Sublist.cons _ (List.Sublist.refl _)) ?_
      refine yU (oj d1 (oj d2 (oj d3 hn_g9))) ?_
      have me := hm _ (mem_mem hf)
      exact ⟨og, ns, mm, r, hog, ChP.same ht hm me.r (by rw [← hLe]; exact me.lv) me.sem, rfl, rfl⟩
    | none =>
      try simp only [Option.map_none, Option.getD_none, Option.isSome_none, cstC]
      refine yG (oj d1 (oj d2 (oj d3 hn_g9))) ?_
      refine yN (oj d1 (oj d2 (oj d3 hn_g9))) ?_
      refine yG (oj d1 (oj d2 (oj d3 hn_g9))) ?_
      refine aw_callh (hc := THp gT gU gM og o pl ns mm) (hr := [(g9, .cells 190 3 (ofL [.int .i64 c, .int .i64 a, .int .i64 b]))]) (level_fh gT gU gM og o pl ns mm c hog (by omega) ht hc ho.pl (by omega)) rfl rfl rfl (List.perm_append_singleton _ _).symm (zL (oj d1 (oj d2 (oj d3 hn_g9)))) ?_
      rintro _ _ ⟨rfl, rfl⟩ _
      refine yS (oj d1 (oj d2 (oj d3 hn_g9))) ?_
      refine yG (oj d1 (oj d2 (oj d3 hn_g9))) ?_
      refine aw_callh (level_fh gT gU gM og o pl ns mm a hog (by omega) ht ha ho.pl (by omega)) rfl rfl rfl (.refl _) (zL (oj d1 (oj d2 (oj d3 hn_g9)))) ?_
      rintro _ _ ⟨rfl, rfl⟩ _
      refine yS (oj d1 (oj d2 (oj d3 hn_g9))) ?_
      refine yG (oj d1 (oj d2 (oj d3 hn_g9))) ?_
      refine aw_callh (level_fh gT gU gM og o pl ns mm b hog (by omega) ht hb ho.pl (by omega)) rfl rfl rfl (.refl _) (zL (oj d1 (oj d2 (oj d3 hn_g9)))) ?_
      rintro _ _ ⟨rfl, rfl⟩ _
      refine yS (oj d1 (oj d2 (oj d3 hn_g9))) ?_
      refine aw_min3 (a := lvZ o ns c) (b := lvZ o ns a) (c := lvZ o ns b) rfl rfl rfl (zE (oj d1 (oj d2 (oj d3 hn_g9)))) (zE (oj d1 (oj d2 (oj d3 hn_g9)))) (zE (oj d1 (oj d2 (oj d3 hn_g9)))) ?_
      have hmin : min (lvZ o ns c) (min (lvZ o ns a) (lvZ o ns b)) = L := hLe
      rw [hmin]
      refine yS (oj d1 (oj d2 (oj d3 hn_g9))) ?_
      refine yG (oj d1 (oj d2 (oj d3 hn_g9))) ?_
      refine aw_callh (kids_fh gT gU gM og o pl ns mm c L hog (by omega) ht hc ho.pl (by omega) (by omega)) rfl rfl rfl (.refl _) (zL (oj d1 (oj d2 (oj d3 hn_g9)))) ?_
      rintro _ _ ⟨rfl, rfl⟩ _
      refine yS (oj d1 (oj d2 (oj d3 hn_g9))) ?_
      refine yG (oj d1 (oj d2 (oj d3 hn_g9))) ?_
      refine aw_callh (kids_fh gT gU gM og o pl ns mm a L hog (by omega) ht ha ho.pl (by omega) (by omega)) rfl rfl rfl (.refl _) (zL (oj d1 (oj d2 (oj d3 hn_g9)))) ?_
      rintro _ _ ⟨rfl, rfl⟩ _
      refine yS (oj d1 (oj d2 (oj d3 hn_g9))) ?_
      refine yG (oj d1 (oj d2 (oj d3 hn_g9))) ?_
      refine aw_callh (kids_fh gT gU gM og o pl ns mm b L hog (by omega) ht hb ho.pl (by omega) (by omega)) rfl rfl rfl (.refl _) (zL (oj d1 (oj d2 (oj d3 hn_g9)))) ?_
      rintro _ _ ⟨rfl, rfl⟩ _
      refine yS (oj d1 (oj d2 (oj d3 hn_g9))) ?_
      refine yG (oj d1 (oj d2 (oj d3 hn_g9))) ?_
      obtain ⟨c0, c1, c2, c3, _⟩ := kids_ok ht ho.mem hc hL0 (by omega) hL.1
      obtain ⟨a0, a1, a2, a3, _⟩ := kids_ok ht ho.mem ha hL0 (by omega) hL.2.1
      obtain ⟨b0, b1, b2, b3, _⟩ := kids_ok ht ho.mem hb hL0 (by omega) hL.2.2
      have q0 : L + 1 ≤ lv3 o ns ((kidsF o ns c L).1, (kidsF o ns a L).1, (kidsF o ns b L).1) := by unfold lv3; simp only; omega
      have q1 : L + 1 ≤ lv3 o ns ((kidsF o ns c L).2, (kidsF o ns a L).2, (kidsF o ns b L).2) := by unfold lv3; simp only; omega
      refine aw_callh (ih og ns mm _ _ _ hog (by omega) ht hm c0 a0 b0 (by omega)) rfl rfl rfl (.refl _) (zL (oj d1 (oj d2 (oj d3 hn_g9)))) ?_
      rintro _ _ ⟨og1, ns1, mm1, lo, hog1, p1, rfl, rfl⟩ _
      refine yS (oj d1 (oj d2 (oj d3 hn_g9))) ?_
      refine yG (oj d1 (oj d2 (oj d3 hn_g9))) ?_
      have w1 := p1.lat.len
      have hk2 : lv3 o ns1 ((kidsF o ns c L).2, (kidsF o ns a L).2, (kidsF o ns b L).2) = lv3 o ns ((kidsF o ns c L).2, (kidsF o ns a L).2, (kidsF o ns b L).2) := p1.lat.lv3 c1 a1 b1
      refine aw_callh (ih og1 ns1 mm1 _ _ _ hog1 (by omega) p1.lat.tab p1.mem (p1.lat.ref c1) (p1.lat.ref a1) (p1.lat.ref b1) (by omega)) rfl rfl rfl (.refl _) (zL (oj d1 (oj d2 (oj d3 hn_g9)))) ?_
      rintro _ _ ⟨og2, ns2, mm2, hi, hog2, p2, rfl, rfl⟩ _
      have w2 := p2.lat.len
      rw [hk2] at p2
      have st := ChP.step ho.mem ho.at ht hc ha hb hL0 (by omega) hLe (p1.mono q0) (p2.mono q1)
      have habs : ∀ e ∈ mm2, e.1 ≠ (c, a, b) := by
        intro e he ec
        have hl12 : ∀ {n}, Later o ns ns1 n → lv3 o ns1 (c, a, b) = L := fun h => by rw [h.lv3 (k := (c, a, b)) hc ha hb]; exact hLe
        rcases p2.mnew e he with h | h
        · rcases p1.mnew e h with h' | h'
          · exact mem_none hf e h' ec
          · rw [ec, hl12 p1.lat] at h'
            omega
        · rw [ec, p2.lat.lv3 (k := (c, a, b)) (p1.lat.ref hc) (p1.lat.ref ha) (p1.lat.ref hb), hl12 p1.lat] at h
          omega
      refine yS (oj d1 (oj d2 (oj d3 hn_g9))) ?_
      refine aw_perm (List.perm_append_singleton _ _) ?_
      refine aw_nd fun hnd2 => ?_
      have hnd3 := (List.nodup_cons.1 hnd2).2
      obtain ⟨e1, e2, e3, e4⟩ := th_ne hnd3
      have e9 := (List.nodup_cons.1 hnd2).1
      replace e9 := Heap.ne_of e9
      have hlen2 := lenCV_gs (s := 3) hog2
      unfold THp TH at e9 ⊢
      simp only [List.cons_append, List.nil_append] at e9 ⊢
      dsimp only [Heap.ne, gh] at e9
      refine yG (oj d1 (oj d2 (oj d3 (oj hn_g9 e9)))) ?_
      refine aw_callh (hc := THp gT gU gM og2 o pl ns2 mm2) (hr := [(g9, .cells 190 3 (ofL [.int .i64 c, .int .i64 a, .int .i64 b]))]) (make_fh gT gU gM og2 o pl ns2 mm2 (o.getD L.toNat 0) lo hi hog2 (by omega)) rfl rfl rfl (List.perm_append_singleton _ _).symm (zL (oj d1 (oj d2 (oj d3 (oj hn_g9 e9))))) ?_
      rintro _ _ ⟨og3, hog3, rfl, rfl⟩ _
      refine yS (oj d1 (oj d2 (oj d3 (oj hn_g9 e9)))) ?_
      refine aw_perm (List.perm_append_singleton _ _) ?_
      unfold THp TH
      simp only [List.cons_append, List.nil_append]
      refine yG (oj d1 (oj d2 (oj d3 (oj hn_g9 e9)))) ?_
      refine aw_dr 6 ty_mixed (by kernel_rfl) ?_
      refine yG (oj d1 (oj d2 (oj d3 (oj hn_g9 e9)))) ?_
      refine aw_mapNew (a := (c, a, b)) (kv := mmL mm2) (Kf := key3) (v := .int .i64 (mkF ns2 (o.getD L.toNat 0) lo hi).2) rfl rfl rfl (kt := 190) (et := 3) (by kernel_rfl) ty_k3 (zE (oj d1 (oj d2 (oj d3 (oj hn_g9 e9))))) (zE (oj d1 (oj d2 (oj d3 (oj hn_g9 e9))))) (zE (oj d1 (oj d2 (oj d3 (oj hn_g9 e9))))) key3_rep (cv := .c (.int .i64 (mkF ns2 (o.getD L.toNat 0) lo hi).2)) (zE (oj d1 (oj d2 (oj d3 (oj hn_g9 e9))))) (fun S w u h => h) (by rw [mm_get, mem_none' habs]; rfl) (zE (oj d1 (oj d2 (oj d3 (oj hn_g9 e9))))) ?_
      rw [mmL_push]
      refine yS (oj d1 (oj d2 (oj d3 (oj hn_g9 e9)))) ?_
      refine yG (oj d1 (oj d2 (oj d3 (oj hn_g9 e9)))) ?_
      refine aw_keep [(8, .c (.int .i64 (mkF ns2 (o.getD L.toNat 0) lo hi).2))] (THp gT gU gM og3 o pl (mkF ns2 (o.getD L.toNat 0) lo hi).1 (mm2 ++ [((c, a, b), (mkF ns2 (o.getD L.toNat 0) lo hi).2)])) (zB (oj d1 (oj d2 (oj d3 (oj hn_g9 e9))))) (List.Sublist.cons _ (List.Sublist.refl _)) ?_
      refine yU (oj d1 (oj d2 (oj d3 (oj hn_g9 e9)))) ?_
      exact ⟨og3, _, _, _, hog3, st, rfl, rfl⟩
structure TS (o : List Int) (og : Option Nat) (ns : List DN) (mm : Mem3) : Prop where
  og : og = none → ns.length = 0
  tab : TabOk o ns
  mem : MemOk o ns mm
def OpQ (gT gU gM : Nat) (o pl : List Int) (ns : List DN) (n : Nat) (f : Nat → Bool) (x : AV) (h : Heap) : Prop := ∃ og' ns' mm' r, TS o og' ns' mm' ∧ Later o ns ns' n ∧ RefOk ns' r ∧ (∀ s, evalD ns' s r = f s) ∧ x = .c (.int .i64 r) ∧ h = THp gT gU gM og' o pl ns' mm'
theorem choose_fh (gT gU gM : Nat) {o pl : List Int} (ho : OdOk o pl) {og : Option Nat} {ns : List DN} {mm : Mem3} (hs : TS o og ns mm) (hn : ns.length + 2 ^ (o.length + 1) ≤ 1000000000) {c a b : Int} (hc : RefOk ns c) (ha : RefOk ns a) (hb : RefOk ns b) :
    Fh Tryz.prog 155 (THp gT gU gM og o pl ns mm) [.c (.optr gT 0), .c (.int .i64 c), .c (.int .i64 a), .c (.int .i64 b)] (OpQ gT gU gM o pl ns (2 ^ (o.length + 1) - 1) fun s => if evalD ns s c then evalD ns s a else evalD ns s b) := by
  have h1 := lv3_nonneg ho.mem hs.tab hc
  have h2 := lv3_nonneg ho.mem hs.tab ha
  have h3 := lv3_nonneg ho.mem hs.tab hb
  have := choose_ok gT gU gM o pl ho (o.length + 1) og ns mm c a b hs.og hn hs.tab hs.mem hc ha hb (by unfold lv3; simp only; omega)
  refine this.mono ?_
  rintro x h ⟨og', ns', mm', r, e1, p, e2, e3⟩
  exact ⟨og', ns', mm', r, ⟨e1, p.lat.tab, p.mem⟩, p.lat, p.ref, p.sem, e2, e3⟩
end Go.Proofs.YtcoflhkcpnoaaaaGreatDoor
namespace Go.Proofs.YtcoflhkcpnoaaaaGreatDoor
open Go.AI Go.PN
attribute [local irreducible] aw Fa Fh DrK
theorem ref0 {ns : List DN} : RefOk ns 0 := ⟨by omega, by omega⟩
theorem ref1 {ns : List DN} : RefOk ns 1 := ⟨by omega, by omega⟩
theorem ev0 {ns : List DN} {s : Nat} : evalD ns s 0 = false := by rw [evalD_leaf (by omega)]; rfl
theorem ev1 {ns : List DN} {s : Nat} : evalD ns s 1 = true := by rw [evalD_leaf (by omega)]; rfl
theorem tnot_fh (gT gU gM : Nat) {o pl : List Int} (ho : OdOk o pl) {og : Option Nat} {ns : List DN} {mm : Mem3} (hs : TS o og ns mm) (hn : ns.length + 2 ^ (o.length + 1) ≤ 1000000000) {a : Int} (ha : RefOk ns a) :
    Fh Tryz.prog 126 (THp gT gU gM og o pl ns mm) [.c (.optr gT 0), .c (.int .i64 a)] (OpQ gT gU gM o pl ns (2 ^ (o.length + 1) - 1) fun s => !evalD ns s a) := by
  refine fh_of_body Tryz.func126 rfl rfl (by simp [Tryz.ntmps126]) fun C hC => ?_
  simp only [initS, Nat.reduceAdd]
  refine xG ?_
  refine aw_callh (hr := []) (choose_fh gT gU gM ho hs hn ha ref0 ref1) rfl rfl rfl (by rw [List.append_nil]) eL ?_
  rintro _ _ ⟨og', ns', mm', r, e1, e2, e3, e4, rfl, rfl⟩ _
  rw [List.append_nil]
  refine xS ?_
  refine xG ?_
  refine xU ?_
  exact ⟨og', ns', mm', r, e1, e2, e3, fun s => by rw [e4]; dsimp only; rw [ev0, ev1]; cases evalD ns s a <;> rfl, rfl, rfl⟩
theorem tand_fh (gT gU gM : Nat) {o pl : List Int} (ho : OdOk o pl) {og : Option Nat} {ns : List DN} {mm : Mem3} (hs : TS o og ns mm) (hn : ns.length + 2 ^ (o.length + 1) ≤ 1000000000) {a b : Int} (ha : RefOk ns a) (hb : RefOk ns b) :
    Fh Tryz.prog 128 (THp gT gU gM og o pl ns mm) [.c (.optr gT 0), .c (.int .i64 a), .c (.int .i64 b)] (OpQ gT gU gM o pl ns (2 ^ (o.length + 1) - 1) fun s => evalD ns s a && evalD ns s b) := by
  refine fh_of_body Tryz.func128 rfl rfl (by simp [Tryz.ntmps128]) fun C hC => ?_
  simp only [initS, Nat.reduceAdd]
  refine xG ?_
  refine aw_callh (hr := []) (choose_fh gT gU gM ho hs hn ha hb ref0) rfl rfl rfl (by rw [List.append_nil]) eL ?_
  rintro _ _ ⟨og', ns', mm', r, e1, e2, e3, e4, rfl, rfl⟩ _
  rw [List.append_nil]
  refine xS ?_
  refine xG ?_
  refine xU ?_
  exact ⟨og', ns', mm', r, e1, e2, e3, fun s => by rw [e4]; dsimp only; rw [ev0]; cases evalD ns s a <;> rfl, rfl, rfl⟩
theorem tor_fh (gT gU gM : Nat) {o pl : List Int} (ho : OdOk o pl) {og : Option Nat} {ns : List DN} {mm : Mem3} (hs : TS o og ns mm) (hn : ns.length + 2 ^ (o.length + 1) ≤ 1000000000) {a b : Int} (ha : RefOk ns a) (hb : RefOk ns b) :
    Fh Tryz.prog 129 (THp gT gU gM og o pl ns mm) [.c (.optr gT 0), .c (.int .i64 a), .c (.int .i64 b)] (OpQ gT gU gM o pl ns (2 ^ (o.length + 1) - 1) fun s => evalD ns s a || evalD ns s b) := by
  refine fh_of_body Tryz.func129 rfl rfl (by simp [Tryz.ntmps129]) fun C hC => ?_
  simp only [initS, Nat.reduceAdd]
  refine xG ?_
  refine aw_callh (hr := []) (choose_fh gT gU gM ho hs hn ha ref1 hb) rfl rfl rfl (by rw [List.append_nil]) eL ?_
  rintro _ _ ⟨og', ns', mm', r, e1, e2, e3, e4, rfl, rfl⟩ _
  rw [List.append_nil]
  refine xS ?_
  refine xG ?_
  refine xU ?_
  exact ⟨og', ns', mm', r, e1, e2, e3, fun s => by rw [e4]; dsimp only; rw [ev1]; cases evalD ns s a <;> rfl, rfl, rfl⟩
theorem txor_fh (gT gU gM : Nat) {o pl : List Int} (ho : OdOk o pl) {og : Option Nat} {ns : List DN} {mm : Mem3} (hs : TS o og ns mm) (hn : ns.length + 2 ^ (o.length + 1) + 2 ^ (o.length + 1) ≤ 1000000000) {a b : Int} (ha : RefOk ns a) (hb : RefOk ns b) :
    Fh Tryz.prog 130 (THp gT gU gM og o pl ns mm) [.c (.optr gT 0), .c (.int .i64 a), .c (.int .i64 b)] (OpQ gT gU gM o pl ns (2 ^ (o.length + 1) + 2 ^ (o.length + 1)) fun s => evalD ns s a != evalD ns s b) := by
  have hB : 0 < 2 ^ (o.length + 1) := Nat.pow_pos (by omega)
  refine fh_of_body Tryz.func130 rfl rfl (by simp [Tryz.ntmps130]) fun C hC => ?_
  simp only [initS, Nat.reduceAdd]
  refine xG ?_
  refine aw_callh (hr := []) (tnot_fh gT gU gM ho hs (by omega) hb) rfl rfl rfl (by rw [List.append_nil]) eL ?_
  rintro _ _ ⟨og1, ns1, mm1, r1, e1, e2, e3, e4, rfl, rfl⟩ _
  rw [List.append_nil]
  have hl := e2.len
  refine xS ?_
  refine xG ?_
  refine aw_callh (hr := []) (choose_fh gT gU gM ho e1 (by omega) (e2.ref ha) e3 (e2.ref hb)) rfl rfl rfl (by rw [List.append_nil]) eL ?_
  rintro _ _ ⟨og', ns', mm', r, f1, f2, f3, f4, rfl, rfl⟩ _
  rw [List.append_nil]
  refine xS ?_
  refine xG ?_
  refine xU ?_
  exact ⟨og', ns', mm', r, f1, e2.trans f2 (by omega), f3, fun s => by rw [f4]; dsimp only; rw [e4]; dsimp only; rw [e2.eval hs.tab ha, e2.eval hs.tab hb]; cases evalD ns s a <;> cases evalD ns s b <;> rfl, rfl, rfl⟩
theorem tevent_fh (gT gU gM : Nat) {o pl : List Int} {og : Option Nat} {ns : List DN} {mm : Mem3} (hs : TS o og ns mm) (hn : ns.length ≤ 1000000000) {v : Int} (v0 : 0 ≤ v) (v1 : v < o.length) :
    Fh Tryz.prog 90 (THp gT gU gM og o pl ns mm) [.c (.optr gT 0), .c (.int .i64 v)] (OpQ gT gU gM o pl ns 1 fun s => s.testBit v.toNat) := by
  refine (event_fh gT gU gM og o pl ns mm v hs.og hn).mono ?_
  rintro x h ⟨og', h1, h2, h3⟩
  have hlv : ∀ r : Int, r < 2 → placeZ o v < lvZ o ns r := fun r hr => by
    unfold lvZ; rw [if_pos hr]; exact place_lt
  obtain ⟨m1, m2, m3, m4⟩ := mk_ok hs.tab v0 v1 ref0 ref1 (hlv 0 (by omega)) (hlv 1 (by omega))
  refine ⟨og', _, _, _, ⟨h1, m1.tab, hs.mem.later m1 hs.tab⟩, m1, m2, fun s => ?_, h2, h3⟩
  rw [m4, ev0, ev1]
  dsimp only
  cases s.testBit v.toNat <;> rfl
end Go.Proofs.YtcoflhkcpnoaaaaGreatDoor
namespace Go.Proofs.YtcoflhkcpnoaaaaGreatDoor
open Go.AI Go.PN
attribute [local irreducible] aw Fa Fh DrK
def OpOk (f : FuncId) (g : Bool → Bool → Bool) : Prop := ∀ (gT gU gM : Nat) {o pl : List Int} (_ : OdOk o pl) {og : Option Nat} {ns : List DN} {mm : Mem3} (_ : TS o og ns mm) (_ : ns.length + 2 ^ (o.length + 2) ≤ 1000000000) {a b : Int} (_ : RefOk ns a) (_ : RefOk ns b),
  Fh Tryz.prog f (THp gT gU gM og o pl ns mm) [.c (.optr gT 0), .c (.int .i64 a), .c (.int .i64 b)] (OpQ gT gU gM o pl ns (2 ^ (o.length + 2)) fun s => g (evalD ns s a) (evalD ns s b))
theorem OpQ.more {gT gU gM : Nat} {o pl : List Int} {ns : List DN} {n m : Nat} {f : Nat → Bool} (h : n ≤ m) {x : AV} {hp : Heap} : OpQ gT gU gM o pl ns n f x hp → OpQ gT gU gM o pl ns m f x hp := by
  rintro ⟨og', ns', mm', r, h1, h2, h3⟩
  exact ⟨og', ns', mm', r, h1, ⟨h2.tab, h2.pre, by have := h2.len; omega⟩, h3⟩
theorem and_opok : OpOk 128 fun a b => a && b := fun gT gU gM o pl ho og ns mm hs hn a b ha hb => by
  have hB : 2 ^ (o.length + 2) = 2 ^ (o.length + 1) * 2 := Nat.pow_succ ..
  exact (tand_fh gT gU gM ho hs (by omega) ha hb).mono fun x h => OpQ.more (by omega)
theorem or_opok : OpOk 129 fun a b => a || b := fun gT gU gM o pl ho og ns mm hs hn a b ha hb => by
  have hB : 2 ^ (o.length + 2) = 2 ^ (o.length + 1) * 2 := Nat.pow_succ ..
  exact (tor_fh gT gU gM ho hs (by omega) ha hb).mono fun x h => OpQ.more (by omega)
theorem xor_opok : OpOk 130 fun a b => a != b := fun gT gU gM o pl ho og ns mm hs hn a b ha hb => by
  have hB : 2 ^ (o.length + 2) = 2 ^ (o.length + 1) * 2 := Nat.pow_succ ..
  exact (txor_fh gT gU gM ho hs (by omega) ha hb).mono fun x h => OpQ.more (by omega)
set_option maxRecDepth 100000 in
set_option maxHeartbeats 3200000 in
theorem join_fh {F : FuncId} {g : Bool → Bool → Bool} (hF : OpOk F g) (gT gU gM : Nat) {o pl : List Int} (ho : OdOk o pl) {og : Option Nat} {ns : List DN} {mm : Mem3} (hs : TS o og ns mm) (refs : List Int) (hl : refs.length ≤ 1000) (hn : ns.length + refs.length * 2 ^ (o.length + 2) ≤ 1000000000) {a : Int} (ha : RefOk ns a) (hr : ∀ r ∈ refs, RefOk ns r) :
    Fh Tryz.prog 127 (THp gT gU gM og o pl ns mm) [.c (is true refs), .c (.int .i64 a), .c (fnB F gT)] (OpQ gT gU gM o pl ns (refs.length * 2 ^ (o.length + 2)) fun s => refs.foldl (fun b r => g b (evalD ns s r)) (evalD ns s a)) := by
  refine fh_of_body Tryz.func127 rfl rfl (by simp [Tryz.ntmps127]) fun C hC => ?_
  simp only [initS, Nat.reduceAdd]
  refine xG ?_
  refine aw_lp (fun y : Nat × Option Nat × List DN × Mem3 × Int => [(1, .c (.int .i64 y.2.2.2.2)), (2, .c (fnB F gT)), (9, .c (is true refs)), (10, .c (.int .i64 refs.length)), (11, .c (.int .i64 y.1))]) (fun y => THp gT gU gM y.2.1 o pl y.2.2.1 y.2.2.2.1)
    (fun y => y.1 ≤ refs.length ∧ TS o y.2.1 y.2.2.1 y.2.2.2.1 ∧ Later o ns y.2.2.1 (y.1 * 2 ^ (o.length + 2)) ∧ RefOk y.2.2.1 y.2.2.2.2 ∧ ∀ s, evalD y.2.2.1 s y.2.2.2.2 = (refs.take y.1).foldl (fun b r => g b (evalD ns s r)) (evalD ns s a)) (fun y => refs.length - y.1) (0, og, ns, mm, a) eB zZ ⟨Nat.zero_le _, hs, Later.refl hs.tab _, ha, fun s => rfl⟩ ?_
  rintro ⟨j, og1, ns1, mm1, a1⟩ ⟨hj, h1, h2, h3, h4⟩
  dsimp only at hj h1 h2 h3 h4 ⊢
  refine xG ?_
  refine xF (fun hb=>?_) fun hb=>?_
  · have hb' : j < refs.length := by have := of_decide_eq_true hb; omega
    have hmul : (j + 1) * 2 ^ (o.length + 2) = j * 2 ^ (o.length + 2) + 2 ^ (o.length + 2) := Nat.succ_mul ..
    have hle : (j + 1) * 2 ^ (o.length + 2) ≤ refs.length * 2 ^ (o.length + 2) := Nat.mul_le_mul_right _ hb'
    have hl2 := h2.len
    have hrj : RefOk ns (refs.getD j 0) := by rw [getDZ hb']; exact hr _ (List.getElem_mem hb')
    refine xG ?_
    refine aw_callhB (hr := []) (hF gT gU gM ho h1 (by omega) h3 (h2.ref hrj)) rfl rfl rfl eE (by rw [List.append_nil]) eL ?_
    rintro _ _ ⟨og2, ns2, mm2, r, e1, e2, e3, e4, rfl, rfl⟩ _
    rw [List.append_nil]
    refine xS ?_
    refine xG ?_
    refine aw_stop ⟨(j + 1, og2, ns2, mm2, r), by dsimp only; omega, eB, zZ, by dsimp only; omega, e1, h2.trans e2 (by dsimp only; omega), e3, fun s => ?_⟩
    dsimp only
    rw [e4]
    dsimp only
    rw [h4, h2.eval hs.tab hrj, List.take_succ_eq_append_getElem hb', List.foldl_append, getDZ hb']
    rfl
  · have hb' : j = refs.length := by have := of_decide_eq_false hb; omega
    subst hb'
    rw [List.take_length] at h4
    refine xG ?_
    refine xU ?_
    exact ⟨og1, ns1, mm1, a1, h1, h2, h3, h4, rfl, rfl⟩
end Go.Proofs.YtcoflhkcpnoaaaaGreatDoor
namespace Go.Proofs.YtcoflhkcpnoaaaaGreatDoor
open Go.AI Go.PN
attribute [local irreducible] aw Fa Fh DrK
@[go_sem] theorem ty_fii_s : tSz Tryz.prog 120 = some (false, 1) := by kernel_rfl
@[go_sem] theorem ty_fii_z : tZero Tryz.prog 120 = some [.raw .nilFunc] := by kernel_rfl
theorem ty_ki : KeyOk Tryz.prog 3 keyI := keyI_ok Tryz.underlying3
theorem keyI_rep {r : Int} : ∀ (S : Bool → Nat → Prop) (w : World) (u : Value), Rep S w (.c (.int .i64 r)) u → u = keyI r := fun _ _ _ h => h
end Go.Proofs.YtcoflhkcpnoaaaaGreatDoor
namespace Go.Proofs.YtcoflhkcpnoaaaaGreatDoor
open Go.AI Go.PN
attribute [local irreducible] aw Fa Fh DrK
structure CnOk (o : List Int) (ns : List DN) (dl : List (Int × Int)) : Prop where
  sem : ∀ z ∈ dl, z.2 = cntR o ns z.1
  low : ∀ q : Int, 0 ≤ q → q < 2 → dnGet q dl ≠ none
end Go.Proofs.YtcoflhkcpnoaaaaGreatDoor
