/- Texts of one proof, laid one behind the other by a program (merge.py): Txt1, Txt2, AiBnd, PTab3, PTab4, Tab1. -/
import Derived.Test.YtmfmnmkipjpjhaaGreatDoorV19
import Derived.Test.YtmfmnmkipjpjhaaGreatDoorV08
import Derived.Test.YtmfmnmkipjpjhaaGreatDoorV12
import Derived.Test.YtmfmnmkipjpjhaaGreatDoorV16
import Derived.Test.YtmfmnmkipjpjhaaGreatDoorV17
import Derived.Test.YtmfmnmkipjpjhaaGreatDoorV18
set_option linter.unusedSimpArgs false
set_option linter.unusedVariables false
/- strings.Builder: copyCheck, WriteString, String. -/
namespace Go.PN
open Go.AI
theorem sB_size (l : List UInt8) : (sB l).size = l.length := rfl
theorem sB_data (l : List UInt8) : (sB l).data.toList = l := rfl
theorem byF_app (a b : List UInt8) : ∀ j, appF (byF a) a.length (byF b) j = byF (a ++ b) j := fun j => by
  unfold appF byF
  split
  · rename_i h
    rw [List.getD_eq_getElem?_getD, List.getD_eq_getElem?_getD, List.getElem?_append_left h]
  · rename_i h
    rw [List.getD_eq_getElem?_getD, List.getD_eq_getElem?_getD, List.getElem?_append_right (by omega)]
end Go.PN
namespace Go.Proofs.YtmfmnmkipjpjhaaGreatDoor
open Go.AI Go.PN
attribute [local irreducible] aw Fa Fh DrK
theorem und_bp : Tryz.prog.underlying 143 = some (.pointer 145) := Tryz.underlying143
theorem und_up : Tryz.prog.underlying 190 = some .unsafePointer := Tryz.underlying190
theorem und_str : Tryz.prog.underlying 9 = some .string := Tryz.underlying9
theorem und_u8p : Tryz.prog.underlying 184 = some (.pointer 5) := Tryz.underlying184
/-- A builder's block. -/
abbrev bldO (gB : Nat) (a b : CV) : Nat × AObj := (gB, .cells 145 2 (ofL [a, b]))
theorem POk.lenNil {h : Heap} {ρ : Operand → AV} {t el size bytes : Nat} {x : Operand} (ht : tElem Tryz.prog t = some (el, size, bytes)) (hx : ρ x = .c (.raw (.slice none 0 0))) : POk Tryz.prog h ρ (.call { callee := .builtin .len, args := #[x], argTypes := #[t] }) (.c (.int .i64 0)) := fun S w e _ ho _ => by
  have h2 : e x = .slice none 0 0 := by have := ho x (by simp [Op.operands, Call.operands]); rw [hx] at this; exact this
  obtain ⟨hu, _⟩ := tElem_spec ht
  exact ⟨.int .i64 0, fun o hop => by simp [execOp, hop, resolve, invoke, Go.builtin, Builtin.len_, h2, run_underlying hu, goInt], rfl⟩
section
variable {E : Env} {K : List It} {σ : Sl}
theorem aw_convG {x : Nat × AObj} {og : Option Nat} {ty : TypeId} {n n' : Nat} {f f' : Nat → CV} (hn : n = n') (hf : ∀ j, j < n → f j = f' j) (k : aw E K σ (x :: gh og ty n' f')) : aw E K σ (x :: gh og ty n f) := by
  subst hn
  cases og with
  | none => exact k
  | some g => exact aw_perm (List.Perm.swap _ _ _) (aw_conv1 hf (aw_perm (List.Perm.swap _ _ _) k))
end
set_option maxRecDepth 100000 in
set_option maxHeartbeats 1600000 in
theorem copyCheck_new (gB : Nat) (b : CV) : Fh Tryz.prog 154 [bldO gB (.raw (.pointer none)) b] [.c (.optr gB 0)] (fun x h => x = .tup [] ∧ h = [bldO gB (.optr gB 0) b]) := by
  obtain ⟨j, hj, hjs⟩ := Option.map_eq_some_iff.1 (show (Tryz.prog.info? 145).map (·.size) = some 2 from by kernel_rfl)
  refine fh_of_body Tryz.func154 rfl rfl (by simp [Tryz.ntmps154]) fun C hC => ?_
  simp only [initS, Nat.reduceAdd]
  refine xG ?_
  refine aw_pok (POk.eqPtr (b := true) und_bp eE eE (.inl ⟨rfl, rfl⟩)) rfl rfl ?_
  refine xS ?_
  refine xG ?_
  refine xP ?_
  refine xG ?_
  refine aw_pok (POk.toUnsafe und_bp und_up hj (by rw [hjs]; decide) eE eE (by omega)) rfl rfl ?_
  refine xS ?_
  refine xG ?_
  refine aw_pok (POk.noEscape Tryz.func167 rfl rfl rfl rfl rfl eE) rfl rfl ?_
  refine xS ?_
  refine xG ?_
  refine aw_pok (POk.fromUnsafe und_up und_bp hj (n := 2) (by kernel_rfl) (by omega) eE eE (by omega)) rfl rfl ?_
  refine xS ?_
  refine xG ?_
  refine xW ?_
  refine xS ?_
  refine aw_conv1 (f' := ofL [.optr gB 0, b]) (fun j hj => by match j, hj with | 0, _ => rfl | 1, _ => rfl) ?_
  refine xG ?_
  refine xV ?_
  exact ⟨rfl, rfl⟩
set_option maxRecDepth 100000 in
set_option maxHeartbeats 1600000 in
theorem copyCheck_old (gB : Nat) (b : CV) : Fh Tryz.prog 154 [bldO gB (.optr gB 0) b] [.c (.optr gB 0)] (fun x h => x = .tup [] ∧ h = [bldO gB (.optr gB 0) b]) := by
  obtain ⟨j, hj, hjs⟩ := Option.map_eq_some_iff.1 (show (Tryz.prog.info? 145).map (·.size) = some 2 from by kernel_rfl)
  refine fh_of_body Tryz.func154 rfl rfl (by simp [Tryz.ntmps154]) fun C hC => ?_
  simp only [initS, Nat.reduceAdd]
  refine xG ?_
  refine aw_pok (POk.eqPtr (b := false) und_bp eE eE (.inr ⟨gB, rfl, rfl⟩)) rfl rfl ?_
  refine xS ?_
  refine xG ?_
  refine xN ?_
  refine xG ?_
  refine aw_pok (POk.neqPtr und_bp hj eE eE) rfl rfl ?_
  refine xS ?_
  refine xG ?_
  refine xN ?_
  refine xG ?_
  refine xV ?_
  exact ⟨rfl, rfl⟩
set_option maxRecDepth 100000 in
set_option maxHeartbeats 1600000 in
theorem wstr_fh (gB : Nat) (a : CV) (ha : a = .raw (.pointer none) ∨ a = .optr gB 0) (og : Option Nat) (B l : List UInt8) (hog : og = none → B.length = 0) (hlen : B.length + l.length ≤ 100000000000) :
    Fh Tryz.prog 118 (bldO gB a (gsR og B.length) :: gh og 5 B.length (byF B)) [.c (.optr gB 0), .c (.str (sB l))]
      (fun x h => ∃ og', (og' = none → (B ++ l).length = 0) ∧ x = .tup [.c (.int .i64 l.length), .c .nilI] ∧ h = bldO gB (.optr gB 0) (gsR og' (B ++ l).length) :: gh og' 5 (B ++ l).length (byF (B ++ l))) := by
  have hcc : Fh Tryz.prog 154 [bldO gB a (gsR og B.length)] [.c (.optr gB 0)] (fun x h => x = .tup [] ∧ h = [bldO gB (.optr gB 0) (gsR og B.length)]) := by
    rcases ha with rfl | rfl
    · exact copyCheck_new ..
    · exact copyCheck_old ..
  refine fh_of_body Tryz.func118 rfl rfl (by simp [Tryz.ntmps118]) fun C hC => ?_
  simp only [initS, Nat.reduceAdd]
  refine xG ?_
  refine aw_callh (hc := [bldO gB a (gsR og B.length)]) (hr := gh og 5 B.length (byF B)) hcc rfl rfl rfl (.refl _) eL ?_
  rintro _ _ ⟨rfl, rfl⟩ _
  refine xS ?_
  refine xG ?_
  refine aw_appendStr (pre := [bldO gB (.optr gB 0) (gsR og B.length)]) (f := byF B) (bs := sB l) rfl rfl rfl eE und_str eE (by rfl) eE eE hog rfl (by rw [sB_size]; unfold maxLen; omega) (by rw [sB_size]; omega) fun og' h1 h2 => ?_
  rw [sB_size, sB_data, List.singleton_append]
  refine aw_convG (n' := (B ++ l).length) (f' := byF (B ++ l)) (by simp) (fun j _ => byF_app B l j) ?_
  rw [show B.length + l.length = (B ++ l).length from by simp]
  rw [sB_size, show B.length + l.length = (B ++ l).length from by simp] at h1
  refine xS ?_
  refine xG ?_
  have hsol : (gsR og' (B ++ l).length).solid = true := by cases og' <;> rfl
  refine aw_store rfl rfl rfl rfl eE eE eE eE (fun _ e => by cases e) (by simp only [AV.cells, List.all_cons, List.all_nil, hsol]; rfl) (by rfl) (by omega) rfl ?_
  refine xS ?_
  refine aw_conv1 (f' := ofL [.optr gB 0, gsR og' (B ++ l).length]) (fun j hj => by match j, hj with | 0, _ => rfl | 1, _ => rfl) ?_
  refine xG ?_
  refine aw_pok (POk.lenStr und_str eE) rfl rfl ?_
  refine xS ?_
  refine xG ?_
  refine xU ?_
  exact ⟨og', h1, rfl, rfl⟩
set_option maxRecDepth 100000 in
set_option maxHeartbeats 1600000 in
theorem bstr_fh (gB : Nat) (a : CV) (og : Option Nat) (B : List UInt8) (h0 : og = none → B = []) (h1 : B = [] → og = none) (hlen : B.length ≤ 100000000000) :
    Fh Tryz.prog 120 (bldO gB a (gsR og B.length) :: gh og 5 B.length (byF B)) [.c (.optr gB 0)] (fun x h => x = .c (.str (sB B)) ∧ h = []) := by
  cases og with
  | none =>
    have hB := h0 rfl
    subst hB
    refine fh_of_body Tryz.func120 rfl rfl (by simp [Tryz.ntmps120]) fun C hC => ?_
    simp only [initS, Nat.reduceAdd]
    refine xG ?_
    refine aw_dr 11 ty_mixed (by kernel_rfl) ?_
    refine xG ?_
    refine drk_pok (POk.sliceDataN eE) rfl rfl ?_
    refine xS ?_
    refine xG ?_
    refine drk_pok (POk.lenNil (by exact tya_e_59) eE) rfl rfl ?_
    refine xS ?_
    refine xG ?_
    refine drk_pok (POk.unsafeStr0 eE eE) rfl rfl ?_
    refine xS ?_
    refine xG ?_
    refine aw_weak (Sl.le_refl _) (List.nil_sublist _) ?_
    refine xU ?_
    exact ⟨rfl, rfl⟩
  | some g =>
    have hB : B ≠ [] := fun e => by have := h1 e; cases this
    have hB' : 0 < B.length := List.length_pos_iff.2 hB
    refine (?_ : Fh _ _ (bldO gB a (.osl g 1 0 B.length) :: [(g, .cells 5 B.length (byF B))]) _ _)
    refine fh_of_body Tryz.func120 rfl rfl (by simp [Tryz.ntmps120]) fun C hC => ?_
    simp only [initS, Nat.reduceAdd]
    refine aw_nd fun hnd => ?_
    have hne : gB ≠ g := fun e => by subst e; simp [Heap.keys] at hnd
    have hne' : (gB = g) = False := eq_false hne
    refine yG hne' ?_
    refine aw_cw [bldO gB a (.osl g 1 0 B.length)] [(0,0),(1,0),(2,0),(3,0),(4,0),(5,0),(6,0),(7,0),(8,0),(9,0),(10,2),(11,0)] ty_mixed (by kernel_rfl) (has0_cons (List.mem_cons_self ..) has0_nil) ?_
    refine yG hne' ?_
    refine cw_pok rfl (fun _ _ => POk.sliceData (zE hne') hB') rfl rfl ?_
    refine yS hne' ?_
    refine yG hne' ?_
    refine cw_unsafeStr (FP' := []) (bs := B) (h' := [bldO gB a (.osl g 1 0 B.length)]) rfl rfl rfl rfl und_u8p (by kernel_rfl) (zE hne') (zE hne') (zE hne') (Nat.le_refl _) hB (by omega) (fun _ _ => rfl) (zE hne') has0_nil ?_
    refine yS hne' ?_
    refine yG hne' ?_
    refine aw_weak (Sl.le_refl _) (List.nil_sublist _) ?_
    refine yU hne' ?_
    exact ⟨rfl, rfl⟩
end Go.Proofs.YtmfmnmkipjpjhaaGreatDoor

/- strings.TrimLeft at one byte; natural.nine. -/
namespace Go.PN
open Go.AI
/-- The nine digits of a number. -/
def nineL (n : Nat) : List UInt8 := (List.range 9).map fun q => UInt8.ofNat (48 + n / 10 ^ (8 - q) % 10)
theorem nineL_len (n : Nat) : (nineL n).length = 9 := by simp [nineL]
/-- The array after j digits. -/
def nineF (n j : Nat) (q : Nat) : CV := if 9 ≤ q + j then .int .u8 ((48 + n / 10 ^ (8 - q) % 10 : Nat) : Int) else .int .u8 0
theorem nineF_end (n : Nat) : ∀ q, q < 9 → nineF n 9 q = byF (nineL n) q := fun q hq => by
  unfold nineF byF nineL
  rw [if_pos (by omega), List.getD_eq_getElem?_getD, List.getElem?_map, List.getElem?_range hq]
  show _ = CV.int .u8 ((UInt8.ofNat (48 + n / 10 ^ (8 - q) % 10)).toNat : Int)
  have h : 48 + n / 10 ^ (8 - q) % 10 < 2 ^ 8 := by have := Nat.mod_lt (n / 10 ^ (8 - q)) (show 0 < 10 by omega); omega
  rw [UInt8.toNat_ofNat', Nat.mod_eq_of_lt h]
theorem nineF_step (n j : Nat) (hj : j < 9) : ∀ q, q < 9 → updF (nineF n j) (8 - j) [.int .u8 ((48 + n / 10 ^ j % 10 : Nat) : Int)] q = nineF n (j + 1) q := fun q hq => by
  show (if q = 8 - j then CV.int .u8 ((48 + n / 10 ^ j % 10 : Nat) : Int) else nineF n j q) = _
  unfold nineF
  by_cases e : q = 8 - j
  · subst e
    rw [if_pos rfl, if_pos (by omega), show 8 - (8 - j) = j from by omega]
  · rw [if_neg e]
    by_cases h : 9 ≤ q + j
    · rw [if_pos h, if_pos (by omega)]
    · rw [if_neg h, if_neg (by omega)]
end Go.PN
namespace Go.Proofs.YtmfmnmkipjpjhaaGreatDoor
open Go.AI Go.PN
attribute [local irreducible] aw Fa Fh DrK
set_option maxRecDepth 100000 in
set_option maxHeartbeats 1600000 in
theorem trimByte_fa (l : List UInt8) (c : UInt8) (hl : l.length ≤ 100000000000) : Fa Tryz.prog 155 [.c (.str (sB l)), .c (.int .u8 (c.toNat : Int))] (.c (.str (sB (l.dropWhile (· == c))))) := by
  refine fa_of_body Tryz.func155 rfl rfl (by simp [Tryz.ntmps155]) fun C hC => ?_
  simp only [initS, Nat.reduceAdd]
  refine xG ?_
  refine aw_lp (fun m : List UInt8 => [(0, .c (.str (sB m))), (1, .c (.int .u8 (c.toNat : Int)))]) (fun _ => []) (fun m => m.length ≤ l.length ∧ l.dropWhile (· == c) = m.dropWhile (· == c)) (fun m => m.length) l eB zZ ⟨Nat.le_refl _, rfl⟩ ?_
  rintro m ⟨hm, he⟩
  refine xG ?_
  refine aw_pok (POk.lenStr und_str eE) rfl rfl ?_
  rw [sB_size]
  refine xS ?_
  refine xG ?_
  cases hml : m with
  | nil =>
    subst hml
    refine xG ?_
    refine aw_split 8 eE (fun h0 => ?_) (fun h0 => ?_) <;> refine xS ?_
    · simp at h0
    · refine xG ?_
      refine xN ?_
      refine xG ?_
      rw [he]
      refine xT hC ?_
      exact .one (.c (.str _))
  | cons a r =>
    subst hml
    refine aw_split 8 eE (fun h0 => ?_) (fun h0 => ?_) <;> refine xS ?_
    · refine xG ?_
      refine aw_pok (POk.indexSB (i := 0) und_str eE eE (by simp)) rfl rfl ?_
      rw [show (List.getD (a :: r) 0 0) = a from rfl]
      refine xS ?_
      refine xG ?_
      refine xF (fun hc=>?_) fun hc=>?_
      · refine xG ?_
        refine aw_pok (POk.sliceStr (i := 1) und_str eE eE (by simp)) rfl rfl ?_
        rw [show (List.drop 1 (a :: r)) = r from rfl]
        refine xS ?_
        refine xG ?_
        have hac : (a == c) = true := by
          have := eq_of_beq hc
          have : a.toNat = c.toNat := by omega
          exact beq_iff_eq.2 (UInt8.toNat_inj.1 this)
        exact aw_stop ⟨r, by simp, eB, zZ, by simp at hm; omega, by rw [he, List.dropWhile_cons, if_pos hac]⟩
      · refine xG ?_
        have hac : (a == c) = false := by
          refine Bool.eq_false_iff.2 fun e => ?_
          rw [eq_of_beq e] at hc
          simp at hc
        rw [he, List.dropWhile_cons, if_neg (by rw [hac]; simp)]
        refine xT hC ?_
        exact .one (.c (.str _))
    · simp at h0
set_option maxRecDepth 100000 in
set_option maxHeartbeats 1600000 in
theorem trimLeft_fa (l : List UInt8) (hl : l.length ≤ 100000000000) : Fa Tryz.prog 119 [.c (.str (sB l)), .c (.str (sB [48]))] (.c (.str (sB (l.dropWhile (· == 48))))) := by
  have h48 : strEq (sB [48]) ⟨#[]⟩ = false := by rw [show (⟨#[]⟩ : ByteArray) = sB [] from rfl, sb_eq]; rfl
  have hb : Fa Tryz.prog 155 [.c (.str (sB l)), .c (.int .u8 48)] (.c (.str (sB (l.dropWhile (· == 48))))) := trimByte_fa l 48 hl
  have h11 : ((1 : Int) == 1) = true := rfl
  have h128 : decide ((48 : Int) < 128) = true := rfl
  refine fa_of_body Tryz.func119 rfl rfl (by simp [Tryz.ntmps119]) fun C hC => ?_
  simp only [initS, Nat.reduceAdd]
  refine yG (oj h48 (oj h11 h128)) ?_
  refine aw_split 9 (zE (oj h48 (oj h11 h128))) (fun h0 => ?_) (fun h0 => ?_) <;> refine yS (oj h48 (oj h11 h128)) ?_
  · have hl0 : l = [] := by
      rw [show (⟨#[]⟩ : ByteArray) = sB [] from rfl, sb_eq] at h0
      exact eq_of_beq h0
    subst hl0
    refine yG (oj h48 (oj h11 h128)) ?_
    refine yP (oj h48 (oj h11 h128)) ?_
    refine yG (oj h48 (oj h11 h128)) ?_
    refine yT hC (oj h48 (oj h11 h128)) ?_
    exact .one (.c (.str _))
  refine yG (oj h48 (oj h11 h128)) ?_
  refine yN (oj h48 (oj h11 h128)) ?_
  refine yG (oj h48 (oj h11 h128)) ?_
  refine aw_pok (POk.lenStr und_str (zE (oj h48 (oj h11 h128)))) rfl rfl ?_
  rw [show (((sB [48]).size : Nat) : Int) = 1 from rfl]
  refine yS (oj h48 (oj h11 h128)) ?_
  refine yG (oj h48 (oj h11 h128)) ?_
  refine aw_pok (POk.indexSB (l := [48]) (i := 0) und_str (zE (oj h48 (oj h11 h128))) (zE (oj h48 (oj h11 h128))) (by simp)) rfl rfl ?_
  rw [show (((List.getD [48] 0 0 : UInt8).toNat : Nat) : Int) = 48 from rfl]
  refine yS (oj h48 (oj h11 h128)) ?_
  refine yG (oj h48 (oj h11 h128)) ?_
  refine yP (oj h48 (oj h11 h128)) ?_
  refine yG (oj h48 (oj h11 h128)) ?_
  refine aw_pok (POk.indexSB (l := [48]) (i := 0) und_str (zE (oj h48 (oj h11 h128))) (zE (oj h48 (oj h11 h128))) (by simp)) rfl rfl ?_
  rw [show (((List.getD [48] 0 0 : UInt8).toNat : Nat) : Int) = 48 from rfl]
  refine yS (oj h48 (oj h11 h128)) ?_
  refine yG (oj h48 (oj h11 h128)) ?_
  refine yC (oj h48 (oj h11 h128)) (hb) ?_
  refine yG (oj h48 (oj h11 h128)) ?_
  refine yT hC (oj h48 (oj h11 h128)) ?_
  exact .one (.c (.str _))
theorem und_a9 : Tryz.prog.underlying 176 = some (.array 9 5) := Tryz.underlying176
theorem und_u8s : Tryz.prog.underlying 59 = some (.slice 5) := Tryz.underlying59
theorem und_u8 : Tryz.prog.underlying 5 = some (.int .u8) := Tryz.underlying5
theorem bytesStr' {P : Program} {h : Heap} {ρ : Operand → AV} {s d el ty : TypeId} {x : Operand} {g m n : Nat} {f : Nat → CV} {l : List UInt8} (hs : P.underlying s = some (.slice el)) (he : P.underlying el = some (.int .u8)) (hd : P.underlying d = some .string) (hn : n = l.length) (hx : ρ x = .c (.osl g 1 0 n))
    (hg : h.get g = some (.cells ty m f)) (hm : n ≤ m) (hf : ∀ j, j < n → f j = byF l j) : POk P h ρ (.convert s d x) (.c (.str ⟨l.toArray⟩)) := by
  subst hn
  exact POk.bytesStr hs he hd hx hg hm hf
theorem wrap8 {a : Nat} (h : a < 256) : wrapZ .u8 (a : Int) = (a : Int) := by rw [wrapZ_eq]; exact wrap_inRange (by simp only [inRange]; omega)
theorem rem10 (a : Nat) : remZ (a : Int) 10 = ((a % 10 : Nat) : Int) := rem_nat a 10
theorem quo10 (a : Nat) (ha : a < 4294967296) : quoZ .u32 (a : Int) 10 = ((a / 10 : Nat) : Int) := quo_u32 a 10 ha
set_option maxRecDepth 100000 in
set_option maxHeartbeats 1600000 in
theorem nine_fa (n : Nat) (hn : n < 4294967296) : Fa Tryz.prog 117 [.c (.int .u32 (n : Int))] (.c (.str (sB (nineL n)))) := by
  refine fa_of_body Tryz.func117 rfl rfl (by simp [Tryz.ntmps117]) fun C hC => ?_
  simp only [initS, Nat.reduceAdd]
  refine xG ?_
  refine xA fun g3 hn_g3=>?_
  refine aw_conv1 (f' := nineF n 0) (fun q hq => by match q, hq with | 0, _ => rfl | 1, _ => rfl | 2, _ => rfl | 3, _ => rfl | 4, _ => rfl | 5, _ => rfl | 6, _ => rfl | 7, _ => rfl | 8, _ => rfl) ?_
  refine yG hn_g3 ?_
  refine aw_lp (fun j : Nat => [(0, .c (.int .u32 ((n / 10 ^ j : Nat) : Int))), (3, .c (.optr g3 0)), (4, .c (.int .i64 (8 - (j : Int))))]) (fun j => [(g3, .cells 176 9 (nineF n j))]) (fun j => j ≤ 9) (fun j => 9 - j) 0 (by refine yS hn_g3 ?_; simp) zZ (Nat.zero_le _) ?_
  rintro j hj
  refine yG hn_g3 ?_
  refine yF hn_g3 (fun h1=>?_) fun h1=>?_
  · have h1' : j < 9 := by have := of_decide_eq_true h1; omega
    have hlt : n / 10 ^ j < 4294967296 := Nat.lt_of_le_of_lt (Nat.div_le_self _ _) hn
    have hst := nineF_step n j h1'
    have hq10 : n / 10 ^ j / 10 = n / 10 ^ (j + 1) := by rw [Nat.div_div_eq_div_mul, ← Nat.pow_succ]
    generalize n / 10 ^ j = a at *
    refine yG hn_g3 ?_
    rw [rem10]
    refine yG hn_g3 ?_
    rw [show (48 : Int) + ((a % 10 : Nat) : Int) = ((48 + a % 10 : Nat) : Int) from by omega]
    refine yG hn_g3 ?_
    rw [wrap8 (show 48 + a % 10 < 256 by omega)]
    refine aw_pok (POk.indexArr und_a9 (by kernel_rfl) (zE hn_g3) (zE hn_g3) (by omega) (by omega)) rfl rfl ?_
    rw [show (8 - (j : Int)).toNat = 8 - j from by omega]
    refine yS hn_g3 ?_
    refine yG hn_g3 ?_
    refine yW hn_g3 ?_
    refine yS hn_g3 ?_
    refine aw_conv1 (f' := nineF n (j + 1)) hst ?_
    refine yG hn_g3 ?_
    rw [quo10 a hlt, hq10]
    refine yG hn_g3 ?_
    rw [show (8 : Int) - (j : Int) - 1 = 8 - ((j + 1 : Nat) : Int) from by omega]
    exact aw_stop ⟨j + 1, by omega, (zB hn_g3), zZ, by omega⟩
  · have h1' : j = 9 := by have := of_decide_eq_false h1; omega
    subst h1'
    refine yG hn_g3 ?_
    refine aw_pok (POk.sliceArr und_a9 (by kernel_rfl) (by kernel_rfl) (zE hn_g3) (zE hn_g3) (Nat.le_refl _) (by unfold maxLen; omega)) rfl rfl ?_
    refine yS hn_g3 ?_
    refine yG hn_g3 ?_
    refine aw_pok (bytesStr' (l := nineL n) und_u8s und_u8 und_str (nineL_len n).symm (zE hn_g3) (zE hn_g3) (by omega) (fun q hq => nineF_end n q hq)) rfl rfl ?_
    refine yS hn_g3 ?_
    refine yG hn_g3 ?_
    refine yT hC hn_g3 ?_
    exact .one (.c (.str _))
end Go.Proofs.YtmfmnmkipjpjhaaGreatDoor

/- Function values that hold a receiver: bound methods. -/
namespace Go.AI
section
variable {E : Env} {K : List It} {σ σ' : Sl} {h : Heap} {all rest : List Oper} {o : Oper}
/-- A method, bound to a block. -/
def fnB (f : FuncId) (g : Nat) : CV := .raw (.func (.func f) #[.pointer (some ⟨g, 0, none⟩)] #[])
theorem aw_makeFuncB {f : FuncId} {x : Operand} {g : Nat} (hop : o.op = .makeFunc (.func f) #[x] #[]) (hw : wantA all σ o = some true) (hd : dstOk E.N o.dst = true) (hx : ev σ x = .c (.optr g 0))
    (k : aw E (.ops all rest :: K) (σ.setO o.dst (.c (fnB f g))) h) : aw E (.ops all (o :: rest) :: K) σ h := by
  refine aw_step hw (fun a w s => ?_) k
  have h1 := ev_rep s x
  rw [hx] at h1
  have h1' : a.eval x = .pointer (some ⟨g, 0, none⟩) := h1
  refine ⟨.func (.func f) #[.pointer (some ⟨g, 0, none⟩)] #[], w, .inl ?_, s.put hd rfl⟩
  have h2 : Array.map a.eval #[x] = #[.pointer (some ⟨g, 0, none⟩)] := by simp [h1']
  have h3 : Array.map a.eval #[] = #[] := by simp
  simp only [execOp, hop, Instr.makeFunc, h2, h3]
  rfl
/-- A call of a bound method. -/
theorem aw_callhB {f : FuncId} {x : Operand} {g : Nat} {xs : List Operand} {ts : Array TypeId} {hc hr : Heap} {args : List AV} {Q : AV → Heap → Prop} (hf : Fh E.P f hc (.c (.optr g 0) :: args) Q) (hop : o.op = .call { callee := .value x, args := xs.toArray, argTypes := ts }) (hw : wantA all σ o = some true) (hd : dstOk E.N o.dst = true) (hx : ev σ x = .c (fnB f g))
    (hp : h.Perm (hc ++ hr)) (le : LeA [] (xs.map (ev σ)) args) (k : ∀ r h', Q r h' → (∀ g ∈ h'.keys, g ∉ hr.keys) → aw E (.ops all rest :: K) (σ.setO o.dst r) (h' ++ hr)) : aw E (.ops all (o :: rest) :: K) σ h := fun a w s => by
  show wpList _ _ _ _ _ _
  unfold wpList
  rw [if_pos (s.wanted hw)]
  refine .inl ?_
  unfold Oper.wp
  have hv : a.eval x = .func (.func f) #[.pointer (some ⟨g, 0, none⟩)] #[] := by
    have := ev_rep s x
    rw [hx] at this
    exact this
  have hrun : (execOp a.eval o).run E.P w = .ok (.enter f (.pointer (some ⟨g, 0, none⟩) :: xs.map a.eval).toArray) w := by
    simp only [execOp, hop, resolve, hv, Deferred.ofValue, invoke, Sem.run_bind]
    have := hf.1.run (#[.pointer (some ⟨g, 0, none⟩)] ++ (Array.map a.eval xs.toArray) ++ #[]) w
    simp only [Sem.run_pure, Result.andThen_ok]
    rw [show ((Value.pointer (some ⟨g, 0, none⟩) :: xs.map a.eval).toArray) = (#[.pointer (some ⟨g, 0, none⟩)] ++ (Array.map a.eval xs.toArray) ++ #[]) from by simp]
    exact this
  rw [hrun]
  show Calls _ _ _ _ _
  refine (hf.use s hp (show RepT (Stab E.C h w) w (.c (.optr g 0) :: args) (Value.pointer (some ⟨g, 0, none⟩) :: xs.map a.eval) from ⟨rfl, LeA.rep0 s le⟩)).mono ?_
  rintro e w' ⟨v, r, h', rfl, hq, hfr, s', hrep⟩
  exact k r h' hq hfr _ _ (s'.put hd hrep)
end
end Go.AI

/- Tables of nodes: what a reference does not look at, Compose, Count. No program in sight. -/
namespace Go.PN
open Go.AI
/-- s with bit e told. -/
def setB (s e : Nat) (b : Bool) : Nat := if s.testBit e = b then s else s ^^^ 2 ^ e
/-- A reference's value, with an event replaced by another reference. -/
def CmR (ns0 : List DN) (e : Nat) (y : Int) (ns : List DN) (r x : Int) : Prop := RefOk ns x ∧ ∀ s, evalD ns s x = evalD ns0 (setB s e (evalD ns0 s y)) r
theorem Later.loose {o : List Int} {a b : List DN} {n : Nat} (h : Later o a b n) : Later o a b b.length := ⟨h.tab, h.pre, by omega⟩
/-- Compose on its way. -/
structure CmOk (o : List Int) (ns0 : List DN) (e : Nat) (y : Int) (ns : List DN) (mm : Mem3) (dl : List (Int × Int)) : Prop where
  lat : Later o ns0 ns ns.length
  mem : MemOk o ns mm
  keys : (dl.map (·.1)).Nodup
  bd : ∀ x ∈ dl, 2 ≤ x.1 ∧ x.1 < ns0.length + 2
  sem : ∀ x ∈ dl, CmR ns0 e y ns x.1 x.2
theorem CmR.later {o : List Int} {ns0 ns ns' : List DN} {e : Nat} {y r x : Int} {n : Nat} (h : CmR ns0 e y ns r x) (ht : TabOk o ns) (hl : Later o ns ns' n) : CmR ns0 e y ns' r x :=
  ⟨hl.ref h.1, fun s => by rw [hl.eval ht h.1, h.2 s]⟩
theorem CmOk.later {o : List Int} {ns0 : List DN} {e : Nat} {y : Int} {ns ns' : List DN} {mm mm' : Mem3} {dl : List (Int × Int)} (h : CmOk o ns0 e y ns mm dl) {n : Nat} (hl : Later o ns ns' n) (hm : MemOk o ns' mm') : CmOk o ns0 e y ns' mm' dl :=
  ⟨(h.lat.trans hl (Nat.le_refl _)).loose, hm, h.keys, h.bd, fun x hx => (h.sem x hx).later h.lat.tab hl⟩
theorem CmOk.push {o : List Int} {ns0 : List DN} {e : Nat} {y : Int} {ns : List DN} {mm : Mem3} {dl : List (Int × Int)} (h : CmOk o ns0 e y ns mm dl) {r x : Int} (h2 : 2 ≤ r) (hr : r < ns0.length + 2) (hnew : ∀ x ∈ dl, x.1 ≠ r) (hx : CmR ns0 e y ns r x) :
    CmOk o ns0 e y ns mm (dl ++ [(r, x)]) := by
  refine ⟨h.lat, h.mem, ?_, fun z hz => ?_, fun z hz => ?_⟩
  · rw [List.map_append, List.map_singleton]
    refine List.nodup_append.2 ⟨h.keys, by simp, fun a ha b hb => ?_⟩
    rw [List.mem_singleton] at hb
    subst hb
    obtain ⟨z, hz, rfl⟩ := List.mem_map.1 ha
    exact hnew z hz
  · rcases List.mem_append.1 hz with hz | hz
    · exact h.bd z hz
    · rw [List.mem_singleton] at hz; subst hz; exact ⟨h2, hr⟩
  · rcases List.mem_append.1 hz with hz | hz
    · exact h.sem z hz
    · rw [List.mem_singleton] at hz; subst hz; exact hx
theorem CmOk.len {o : List Int} {ns0 : List DN} {e : Nat} {y : Int} {ns : List DN} {mm : Mem3} {dl : List (Int × Int)} (h : CmOk o ns0 e y ns mm dl) : dl.length ≤ ns0.length := by
  have := nodup_range h.keys (fun x hx => by obtain ⟨z, hz, rfl⟩ := List.mem_map.1 hx; exact h.bd z hz)
  simpa using this
theorem CmOk.zero {o : List Int} {ns0 : List DN} {e : Nat} {y : Int} {mm : Mem3} (ht : TabOk o ns0) (hm : MemOk o ns0 mm) : CmOk o ns0 e y ns0 mm [] :=
  ⟨Later.refl ht _, hm, List.nodup_nil, fun x hx => absurd hx List.not_mem_nil, fun x hx => absurd hx List.not_mem_nil⟩
/-- What has been done for some references. -/
def dnGet (r : Int) : List (Int × Int) → Option Int
  | [] => none
  | e :: dl => if r = e.1 then some e.2 else dnGet r dl
def dnL (dl : List (Int × Int)) : List (Int × Value) := dl.map fun e => (e.1, .int .i64 e.2)
theorem dn_get (r : Int) : ∀ dl, kvGet r (dnL dl) = (dnGet r dl).map (Value.int .i64)
  | [] => rfl
  | e :: dl => by
    show (if r = e.1 then some (Value.int .i64 e.2) else kvGet r (dnL dl)) = _
    rw [dnGet, dn_get r dl]
    split <;> rfl
theorem dnL_push (dl : List (Int × Int)) (r x : Int) : dnL dl ++ [(r, .int .i64 x)] = dnL (dl ++ [(r, x)]) := by simp [dnL]
/-- How many of the first k states are true. -/
def cntTo (f : Nat → Bool) : Nat → Nat
  | 0 => 0
  | k + 1 => cntTo f k + if f k then 1 else 0
/-- The number of the true states of a reference. -/
def cntR (o : List Int) (ns : List DN) (r : Int) : Nat := cntTo (fun s => evalD ns s r) (2 ^ o.length)
end Go.PN

/- Tables of nodes: Export. No program in sight. -/
namespace Go.PN
open Go.AI Go.Proofs.YtmfmnmkipjpjhaaGreatDoor
/-- The new reference of a reference, when those of rs are out, in this order. -/
def exR (rs : List Int) (r : Int) : Option Int := if r < 2 then some r else if r ∈ rs then some ((rs.idxOf r : Int) + 2) else none
theorem exR_app {rs zs : List Int} {r x : Int} (h : exR rs r = some x) : exR (rs ++ zs) r = some x := by
  unfold exR at h ⊢
  split at h
  · rename_i h2; rw [if_pos h2]; exact h
  · rename_i h2
    rw [if_neg h2]
    split at h
    · rename_i hm
      rw [if_pos (List.mem_append_left _ hm), List.idxOf_append, if_pos hm]
      exact h
    · cases h
theorem exR_take {rs : List Int} {r x : Int} {j : Nat} (h : exR (rs.take j) r = some x) : exR rs r = some x := by
  have := exR_app (zs := rs.drop j) h
  rwa [List.take_append_drop] at this
theorem exR_lt {rs : List Int} {r x : Int} (h0 : 0 ≤ r) (h : exR rs r = some x) : 0 ≤ x ∧ x < rs.length + 2 := by
  unfold exR at h
  split at h
  · injection h with h; omega
  · split at h
    · rename_i hm
      injection h with h
      have := List.idxOf_lt_length_of_mem hm
      omega
    · cases h
theorem exR_inj {rs : List Int} {a b x : Int} (ha : exR rs a = some x) (hb : exR rs b = some x) : a = b := by
  unfold exR at ha hb
  split at ha
  · injection ha with ha
    split at hb
    · injection hb with hb; omega
    · split at hb
      · injection hb with hb; omega
      · cases hb
  · split at ha
    · rename_i h1 hm
      injection ha with ha
      split at hb
      · injection hb with hb; omega
      · split at hb
        · rename_i h2 hm2
          injection hb with hb
          have e : rs.idxOf a = rs.idxOf b := by omega
          have l1 := List.idxOf_lt_length_of_mem hm
          have l2 := List.idxOf_lt_length_of_mem hm2
          have e1 := List.getElem_idxOf l1
          have e2 := List.getElem_idxOf l2
          rw [← e1, ← e2]
          simp only [e]
        · cases hb
    · cases ha
/-- What has been exported. -/
structure ExOk (ns : List DN) (rs : List Int) (os : List DN) : Prop where
  len : os.length = rs.length
  nd : rs.Nodup
  bd : ∀ r ∈ rs, 2 ≤ r ∧ r < ns.length + 2
  node : ∀ j, j < rs.length → ∃ lo hi, exR (rs.take j) (ns.getD (rs.getD j 0 - 2).toNat dn0).lo = some lo ∧ exR (rs.take j) (ns.getD (rs.getD j 0 - 2).toNat dn0).hi = some hi ∧ os.getD j dn0 = ⟨(ns.getD (rs.getD j 0 - 2).toNat dn0).v, lo, hi⟩
theorem ExOk.nil (ns : List DN) : ExOk ns [] [] := ⟨rfl, List.nodup_nil, fun x hx => absurd hx List.not_mem_nil, fun j hj => absurd hj (Nat.not_lt_zero _)⟩
theorem ExOk.ref {ns : List DN} {rs : List Int} {os : List DN} (h : ExOk ns rs os) {j : Nat} (hj : j < rs.length) : 2 ≤ rs.getD j 0 ∧ rs.getD j 0 < ns.length + 2 := by
  rw [getDZ hj]; exact h.bd _ (List.getElem_mem hj)
theorem ExOk.nsok {o : List Int} {ns : List DN} {rs : List Int} {os : List DN} (ht : TabOk o ns) (h : ExOk ns rs os) : NsOk o.length os := fun j hj => by
  have hj' : j < rs.length := by rw [← h.len]; exact hj
  obtain ⟨lo, hi, e1, e2, e3⟩ := h.node j hj'
  have hb := h.ref hj'
  have hi' : (rs.getD j 0 - 2).toNat < ns.length := by omega
  obtain ⟨v0, v1, _, _, _, _⟩ := (ht _ hi').nk
  obtain ⟨r1, r2⟩ := kids_ref ht hi'
  have b1 := exR_lt r1.1 e1
  have b2 := exR_lt r2.1 e2
  rw [List.length_take] at b1 b2
  rw [e3]
  exact ⟨v0, v1, b1.1, by show lo < j + 2; omega, b2.1, by show hi < j + 2; omega⟩
theorem ExOk.find {ns : List DN} {rs : List Int} {os : List DN} (h : ExOk ns rs os) {r x : Int} (h2 : 2 ≤ r) (e : exR rs r = some x) : ∃ j, j < rs.length ∧ rs.getD j 0 = r ∧ x = 2 + (j : Int) := by
  unfold exR at e
  rw [if_neg (by omega)] at e
  split at e
  · rename_i hm
    injection e with e
    have l := List.idxOf_lt_length_of_mem hm
    refine ⟨_, l, ?_, by omega⟩
    rw [getDZ l]
    exact List.getElem_idxOf l
  · cases e
theorem ExOk.eval {o : List Int} {ns : List DN} {rs : List Int} {os : List DN} (ht : TabOk o ns) (h : ExOk ns rs os) (s : Nat) : ∀ (n : Nat) (r x : Int), x.toNat ≤ n → 0 ≤ r → r < ns.length + 2 → exR rs r = some x → evalD os s x = evalD ns s r := by
  intro n
  induction n with
  | zero =>
    intro r x hn h0 hr e
    have := exR_lt h0 e
    by_cases h2 : r < 2
    · unfold exR at e; rw [if_pos h2] at e; injection e with e; subst e
      rw [evalD_leaf (by omega), evalD_leaf (by omega)]
    · obtain ⟨j, _, _, rfl⟩ := h.find (by omega) e
      omega
  | succ n ih =>
    intro r x hn h0 hr e
    by_cases h2 : r < 2
    · unfold exR at e; rw [if_pos h2] at e; injection e with e; subst e
      rw [evalD_leaf (by omega), evalD_leaf (by omega)]
    · obtain ⟨j, hj, er, rfl⟩ := h.find (by omega) e
      obtain ⟨lo, hi, e1, e2, e3⟩ := h.node j hj
      rw [er] at e1 e2 e3
      have hi' : (r - 2).toNat < ns.length := by omega
      obtain ⟨r1, r2⟩ := kids_ref ht hi'
      have b1 := exR_lt r1.1 e1
      have b2 := exR_lt r2.1 e2
      rw [List.length_take] at b1 b2
      rw [evalD_step (h.nsok ht) (by omega) (by rw [h.len]; omega)]
      unfold kid
      rw [show ((2 : Int) + (j : Int) - 2).toNat = j from by omega, e3]
      rw [evalD_step ht.ns (by omega) hr]
      unfold kid
      dsimp only
      split
      · exact ih _ _ (by omega) r2.1 r2.2 (exR_take e2)
      · exact ih _ _ (by omega) r1.1 r1.2 (exR_take e1)
theorem ExOk.lv {o : List Int} {ns : List DN} {rs : List Int} {os : List DN} (h : ExOk ns rs os) {r x : Int} (e : exR rs r = some x) : lvZ o os x = lvZ o ns r := by
  by_cases h2 : r < 2
  · unfold exR at e; rw [if_pos h2] at e; injection e with e; subst e
    unfold lvZ; rw [if_pos h2, if_pos h2]
  · obtain ⟨j, hj, er, rfl⟩ := h.find (by omega) e
    obtain ⟨lo, hi, e1, e2, e3⟩ := h.node j hj
    unfold lvZ
    rw [if_neg (by omega), if_neg h2, show ((2 : Int) + (j : Int) - 2).toNat = j from by omega, e3, er]
theorem behind_lv {o : List Int} {os : List DN} {root x v : Int} (h : placeZ o v < lvZ o os x) : behindB ⟨o, os, root⟩ x v = true := by
  unfold behindB
  by_cases h2 : x < 2
  · rw [decide_eq_true h2]; rfl
  · unfold lvZ at h
    rw [if_neg h2] at h
    rw [decide_eq_false h2, Bool.false_or]
    exact decide_eq_true h
theorem ExOk.ncode {o : List Int} {ns : List DN} {rs : List Int} {os : List DN} (ht : TabOk o ns) (h : ExOk ns rs os) (root : Int) {j : Nat} (hj : j < os.length) : Go.PN.ncode ⟨o, os, root⟩ j = 0 := by
  have hj' : j < rs.length := by rw [← h.len]; exact hj
  obtain ⟨lo, hi, e1, e2, e3⟩ := h.node j hj'
  have hb := h.ref hj'
  have hi' : (rs.getD j 0 - 2).toNat < ns.length := by omega
  have nd := ht _ hi'
  have nk := h.nsok ht j hj
  rw [e3] at nk
  obtain ⟨v0, v1, l0, l1, g0, g1⟩ := nk
  dsimp only at v0 v1 l0 l1 g0 g1
  unfold Go.PN.ncode
  rw [show (⟨o, os, root⟩ : DG).nodes = os from rfl, e3]
  rw [if_neg (by unfold nrange; dsimp only; omega), if_neg ?_, if_neg ?_, if_neg ?_]
  · intro hm
    obtain ⟨k, hk, hkl, ek⟩ := take_memN.1 hm
    have hk' : k < rs.length := by omega
    obtain ⟨lo', hi'', f1, f2, f3⟩ := h.node k hk'
    rw [f3] at ek
    injection ek with ev el eh
    subst el eh
    have q1 := exR_inj (exR_take f1) (exR_take e1)
    have q2 := exR_inj (exR_take f2) (exR_take e2)
    have hkb := h.ref hk'
    have same : ns.getD (rs.getD k 0 - 2).toNat dn0 = ns.getD (rs.getD j 0 - 2).toNat dn0 := by
      cases hA : ns.getD (rs.getD k 0 - 2).toNat dn0
      cases hB : ns.getD (rs.getD j 0 - 2).toNat dn0
      rw [hA, hB] at q1 q2 ev
      dsimp only at q1 q2 ev
      rw [q1, q2, ev]
    have hne : rs.getD k 0 ≠ rs.getD j 0 := fun e => by
      have p1 := place_get h.nd hk'
      have p2 := place_get h.nd hj'
      rw [e] at p1
      omega
    have hik : (rs.getD k 0 - 2).toNat < ns.length := by omega
    rcases Nat.lt_or_gt_of_ne (show (rs.getD k 0 - 2).toNat ≠ (rs.getD j 0 - 2).toNat from fun e => hne (by omega)) with hl | hl
    · refine nd.new ?_
      rw [← same]
      exact take_memN.2 ⟨_, hl, hik, rfl⟩
    · refine (ht _ hik).new ?_
      rw [same]
      exact take_memN.2 ⟨_, hl, hi', rfl⟩
  · have b1 := nd.bl
    have b2 := nd.bh
    dsimp only
    rw [behind_lv (by rw [h.lv (exR_take e1)]; exact b1), behind_lv (by rw [h.lv (exR_take e2)]; exact b2)]
    simp
  · dsimp only
    intro e
    subst e
    exact nd.ne (exR_inj (exR_take e1) (exR_take e2))
/-- A call of the walk that exports. -/
structure Ex (o : List Int) (ns : List DN) (rs : List Int) (os : List DN) (rs' : List Int) (os' : List DN) (r x : Int) : Prop where
  ok : ExOk ns rs' os'
  pre : ∃ zs, rs' = rs ++ zs
  preo : ∃ ys, os' = os ++ ys
  ref : exR rs' r = some x
  num : ∀ ys, ∀ k, x.toNat ≤ k → numF (os' ++ ys) k x (numsL rs.length) = numsL rs'.length
  below : ∀ z ∈ rs', z ∈ rs ∨ z ≤ r
  len : rs'.length ≤ rs.length + (2 ^ (o.length - lvZ o ns r).toNat - 1)
theorem mem_numsL {n : Nat} {x : Int} : x ∈ numsL n ↔ 2 ≤ x ∧ x < n + 2 := by
  unfold numsL
  rw [List.mem_map]
  constructor
  · rintro ⟨i, hi, rfl⟩
    rw [List.mem_range] at hi
    omega
  · intro h
    exact ⟨(x - 2).toNat, List.mem_range.2 (by omega), by omega⟩
theorem numsL_succ' (n : Nat) : numsL (n + 1) = numsL n ++ [(n : Int) + 2] := by simp [numsL, List.range_succ]
theorem ex_same {o : List Int} {ns : List DN} {rs : List Int} {os : List DN} {r x : Int} (h : ExOk ns rs os) (h0 : 0 ≤ r) (e : exR rs r = some x) : Ex o ns rs os rs os r x :=
  ⟨h, ⟨[], by simp⟩, ⟨[], by simp⟩, e, fun ys k _ => by
    have hx := exR_lt h0 e
    cases k with
    | zero => rfl
    | succ k => rw [numF, if_pos]; rw [mem_numsL]; omega, fun z hz => .inl hz, by omega⟩
theorem ex_node {o : List Int} {ns : List DN} {rs rs1 rs2 : List Int} {os os1 os2 : List DN} {r xl xh : Int} (ht : TabOk o ns) (h2 : 2 ≤ r) (hr : r < ns.length + 2) (hnew : r ∉ rs)
    (a : Ex o ns rs os rs1 os1 (ns.getD (r - 2).toNat dn0).lo xl) (b : Ex o ns rs1 os1 rs2 os2 (ns.getD (r - 2).toNat dn0).hi xh) :
    r ∉ rs2 ∧ Ex o ns rs os (rs2 ++ [r]) (os2 ++ [⟨(ns.getD (r - 2).toNat dn0).v, xl, xh⟩]) r ((rs2.length : Int) + 2) := by
  have hi' : (r - 2).toNat < ns.length := by omega
  have nk := (ht _ hi').nk
  obtain ⟨v0, v1, l0, l1, g0, g1⟩ := nk
  obtain ⟨z1, e1⟩ := a.pre
  obtain ⟨z2, e2⟩ := b.pre
  obtain ⟨y1, f1⟩ := a.preo
  obtain ⟨y2, f2⟩ := b.preo
  have hout : r ∉ rs2 := fun hm => by
    rcases b.below r hm with hm | hm
    · rcases a.below r hm with hm | hm
      · exact hnew hm
      · omega
    · omega
  have hax : exR rs2 (ns.getD (r - 2).toNat dn0).lo = some xl := by rw [e2]; exact exR_app a.ref
  have hxl := exR_lt l0 hax
  have hxh := exR_lt g0 b.ref
  have hlen2 := b.ok.len
  refine ⟨hout, ⟨⟨by simp [hlen2], ?_, fun z hz => ?_, fun j hj => ?_⟩, ⟨z1 ++ z2 ++ [r], by rw [e2, e1]; simp⟩, ⟨y1 ++ y2 ++ [⟨(ns.getD (r - 2).toNat dn0).v, xl, xh⟩], by rw [f2, f1]; simp only [List.append_assoc]⟩, ?_, fun ys k hk => ?_, fun z hz => ?_, ?_⟩⟩
  · exact List.nodup_append.2 ⟨b.ok.nd, by simp, fun a ha c hc => by
      rw [List.mem_singleton] at hc; subst hc; exact fun e => hout (e ▸ ha)⟩
  · rcases List.mem_append.1 hz with hz | hz
    · exact b.ok.bd z hz
    · rw [List.mem_singleton] at hz; subst hz; exact ⟨h2, hr⟩
  · rw [List.length_append, List.length_singleton] at hj
    by_cases hjl : j < rs2.length
    · obtain ⟨lo, hi, q1, q2, q3⟩ := b.ok.node j hjl
      have e : (rs2 ++ [r]).getD j 0 = rs2.getD j 0 := by
        rw [List.getD_eq_getElem?_getD, List.getD_eq_getElem?_getD, List.getElem?_append_left hjl]
      rw [e, List.take_append_of_le_length (by omega)]
      exact ⟨lo, hi, q1, q2, by rw [getD_app (by omega)]; exact q3⟩
    · have hj' : j = rs2.length := by omega
      subst hj'
      have e : (rs2 ++ [r]).getD rs2.length 0 = r := by
        rw [List.getD_eq_getElem?_getD, List.getElem?_append_right (Nat.le_refl _), Nat.sub_self]; rfl
      rw [e, List.take_append_of_le_length (Nat.le_refl _), List.take_length]
      refine ⟨xl, xh, hax, b.ref, ?_⟩
      rw [← hlen2, List.getD_eq_getElem?_getD, List.getElem?_append_right (Nat.le_refl _), Nat.sub_self]; rfl
  · unfold exR
    rw [if_neg (by omega), if_pos (by simp), List.idxOf_append, if_neg hout]
    simp
  · obtain ⟨k', rfl⟩ : ∃ k', k = k' + 1 := ⟨k - 1, by omega⟩
    have hlen : (rs2 ++ [r]).length = rs2.length + 1 := by simp
    have hg : ((os2 ++ [(⟨(ns.getD (r - 2).toNat dn0).v, xl, xh⟩ : DN)]) ++ ys).getD ((rs2.length : Int) + 2 - 2).toNat dn0 = ⟨(ns.getD (r - 2).toNat dn0).v, xl, xh⟩ := by
      rw [show ((rs2.length : Int) + 2 - 2).toNat = os2.length from by omega, List.append_assoc, List.getD_eq_getElem?_getD, List.getElem?_append_right (Nat.le_refl _), Nat.sub_self]; rfl
    have hle : rs.length ≤ rs2.length := by rw [e2, e1]; simp only [List.length_append]; omega
    rw [numF, if_neg (by rw [mem_numsL]; omega), hg]
    dsimp only
    have a1 := a.num (y2 ++ [(⟨(ns.getD (r - 2).toNat dn0).v, xl, xh⟩ : DN)] ++ ys) k' (by omega)
    have b1 := b.num ([(⟨(ns.getD (r - 2).toNat dn0).v, xl, xh⟩ : DN)] ++ ys) k' (by omega)
    have ea : os1 ++ (y2 ++ [(⟨(ns.getD (r - 2).toNat dn0).v, xl, xh⟩ : DN)] ++ ys) = os2 ++ [(⟨(ns.getD (r - 2).toNat dn0).v, xl, xh⟩ : DN)] ++ ys := by rw [f2]; simp
    rw [ea] at a1
    rw [← List.append_assoc] at b1
    rw [a1, b1, hlen, numsL_succ']
  · rcases List.mem_append.1 hz with hz | hz
    · rcases b.below z hz with h | h
      · rcases a.below z h with h | h
        · exact .inl h
        · exact .inr (by omega)
      · exact .inr (by omega)
    · rw [List.mem_singleton] at hz; exact .inr (by omega)
  · have nd := ht _ hi'
    have b1 := nd.bl
    have b2 := nd.bh
    have hlr : lvZ o ns r = placeZ o (ns.getD (r - 2).toNat dn0).v := by unfold lvZ; rw [if_neg (by omega)]
    have ll := lv_le (o := o) (ns := ns) (r := (ns.getD (r - 2).toNat dn0).lo)
    have lh := lv_le (o := o) (ns := ns) (r := (ns.getD (r - 2).toNat dn0).hi)
    have la := a.len
    have lb := b.len
    obtain ⟨q, hq⟩ : ∃ q, (o.length - lvZ o ns r).toNat = q + 1 := ⟨(o.length - lvZ o ns r).toNat - 1, by omega⟩
    have pa : 2 ^ ((o.length : Int) - lvZ o ns (ns.getD (r - 2).toNat dn0).lo).toNat ≤ 2 ^ q := Nat.pow_le_pow_right (by omega) (by omega)
    have pb : 2 ^ ((o.length : Int) - lvZ o ns (ns.getD (r - 2).toNat dn0).hi).toNat ≤ 2 ^ q := Nat.pow_le_pow_right (by omega) (by omega)
    have pq : 0 < 2 ^ q := Nat.pow_pos (by omega)
    rw [hq, Nat.pow_succ, List.length_append, List.length_singleton]
    omega
/-- What is exported is a diagram without error, of the same function. -/
theorem ex_code {o : List Int} {ns : List DN} {rs : List Int} {os : List DN} {r x : Int} (ho : ocode o o.length = 0) (ht : TabOk o ns) (hr : RefOk ns r) (h : Ex o ns [] [] rs os r x) (hl : os.length ≤ 4096) : dcode ⟨o, os, x⟩ = 0 := by
  have hx := exR_lt hr.1 h.ref
  have hlen := h.ok.len
  unfold dcode
  have hz : ∀ (k i : Nat), i + k ≤ os.length → nfirst ⟨o, os, x⟩ i k = 0 := by
    intro k
    induction k with
    | zero => intro i _; rfl
    | succ k ih =>
      intro i hi
      rw [nfirst, if_neg (by rw [h.ok.ncode ht x (by omega)]; simp)]
      exact ih (i + 1) (by omega)
  rw [if_neg (by simpa using ho), if_neg (by simpa using hl), if_neg (by rw [hz _ _ (by simp)]; simp), if_neg (by dsimp only; omega)]
  have hn := h.num [] x.toNat (Nat.le_refl _)
  rw [List.append_nil] at hn
  rw [if_pos]
  show numF os x.toNat x [] = numsL os.length
  rw [hlen, ← hn]
  rfl
end Go.PN

/- decision.Table: its memory, and Make. -/
namespace Go.AI
@[go_sem ↓] theorem updF_5_2 (a b c d e x : CV) : updF (ofL [a, b, c, d, e]) 2 [x] = ofL [a, b, x, d, e] := updF_at [a, b, c, d, e] 2 x (by simp)
end Go.AI
namespace Go.PN
open Go.AI
/-- The map of the nodes. -/
def uqTo : List DN → Nat → List (DK × Value)
  | [], _ => []
  | x :: ns, i => (dk x, .int .i64 (2 + (i : Int))) :: uqTo ns (i + 1)
theorem uq_get (x : DN) : ∀ (ns : List DN) (i : Nat), kvGet (dk x) (uqTo ns i) = (findN x ns i).map fun (j : Nat) => Value.int .i64 (2 + (j : Int))
  | [], _ => rfl
  | y :: ns, i => by
    have ih := uq_get x ns (i + 1)
    show (if dk x = dk y then some (Value.int .i64 (2 + (i : Int))) else kvGet (dk x) (uqTo ns (i + 1))) = _
    rw [findN]
    by_cases h : y = x
    · subst h; simp
    · rw [if_neg (fun e => h (dk_inj.1 e).symm), if_neg h, ih]
theorem uq_push (x : DN) : ∀ (ns : List DN) (i : Nat), uqTo (ns ++ [x]) i = uqTo ns i ++ [(dk x, .int .i64 (2 + ((i + ns.length : Nat) : Int)))]
  | [], i => by simp [uqTo]
  | y :: ns, i => by
    show _ :: uqTo (ns ++ [x]) (i + 1) = _ :: (uqTo ns (i + 1) ++ _)
    rw [uq_push x ns (i + 1)]
    simp only [List.length_cons]
    congr 5
    omega
def mmL (mm : Mem3) : List ((Int × Int × Int) × Value) := mm.map fun e => (e.1, .int .i64 e.2)
def memGet (k : Int × Int × Int) : Mem3 → Option Int
  | [] => none
  | e :: mm => if k = e.1 then some e.2 else memGet k mm
theorem mm_get (k : Int × Int × Int) : ∀ mm : Mem3, kvGet k (mmL mm) = (memGet k mm).map (Value.int .i64)
  | [] => rfl
  | e :: mm => by
    show (if k = e.1 then some (Value.int .i64 e.2) else kvGet k (mmL mm)) = _
    rw [memGet, mm_get k mm]
    split <;> rfl
theorem mem_mem {k : Int × Int × Int} {r : Int} : ∀ {mm : Mem3}, memGet k mm = some r → (k, r) ∈ mm
  | [], h => by simp [memGet] at h
  | e :: mm, h => by
    rw [memGet] at h
    split at h
    · rename_i hk
      injection h with h
      subst hk h
      exact List.mem_cons_self ..
    · exact List.mem_cons_of_mem _ (mem_mem h)
theorem mem_none {k : Int × Int × Int} : ∀ {mm : Mem3}, memGet k mm = none → ∀ e ∈ mm, e.1 ≠ k
  | e :: mm, h, e', he => by
    rw [memGet] at h
    split at h
    · cases h
    · rename_i hk
      rcases List.mem_cons.1 he with rfl | he
      · exact fun x => hk x.symm
      · exact mem_none h e' he
theorem mem_none' {k : Int × Int × Int} : ∀ {mm : Mem3}, (∀ e ∈ mm, e.1 ≠ k) → memGet k mm = none
  | [], _ => rfl
  | e :: mm, h => by
    rw [memGet, if_neg (fun x => h e (List.mem_cons_self ..) x.symm)]
    exact mem_none' fun e' he => h e' (List.mem_cons_of_mem _ he)
/-- The memory of a table. -/
def TH (T DT : TypeId) (gT gU gM : Nat) (og : Option Nat) (o pl : List Int) (ns : List DN) (mm : Mem3) : Heap :=
  [(gT, .cells T 5 (ofL [is true o, is true pl, gs og 3 ns.length, .raw (.map (some gU)), .raw (.map (some gM))])), (gU, .gen (MapI dkV (uqTo ns 0))), (gM, .gen (MapI key3 (mmL mm)))] ++ gh og DT (ns.length * 3) (dnsF ns)
end Go.PN
namespace Go.Proofs.YtmfmnmkipjpjhaaGreatDoor
open Go.AI Go.PN
attribute [local irreducible] aw Fa Fh DrK
theorem ty_iz : tZ1 Tryz.prog 3 = some (.int .i64 0) := by kernel_rfl
abbrev THp (gT gU gM : Nat) (og : Option Nat) (o pl : List Int) (ns : List DN) (mm : Mem3) : Heap := TH 164 132 gT gU gM og o pl ns mm
set_option maxRecDepth 100000 in
set_option maxHeartbeats 3200000 in
theorem make_fh (gT gU gM : Nat) (og : Option Nat) (o pl : List Int) (ns : List DN) (mm : Mem3) (v lo hi : Int) (hog : og = none → ns.length = 0) (hn : ns.length ≤ 1000000000) :
    Fh Tryz.prog 138 (THp gT gU gM og o pl ns mm) [.c (.optr gT 0), .c (.int .i64 v), .c (.int .i64 lo), .c (.int .i64 hi)]
      (fun r h => ∃ og', (og' = none → (mkF ns v lo hi).1.length = 0) ∧ r = .c (.int .i64 (mkF ns v lo hi).2) ∧ h = THp gT gU gM og' o pl (mkF ns v lo hi).1 mm) := by
  refine fh_of_body Tryz.func138 rfl rfl (by simp [Tryz.ntmps138]) fun C hC => ?_
  simp only [initS, Nat.reduceAdd]
  refine aw_nd fun hnd => ?_
  have hd : (¬ gT = gU ∧ ¬ gU = gT) ∧ (¬ gT = gM ∧ ¬ gM = gT) ∧ (¬ gU = gM ∧ ¬ gM = gU) ∧ ∀ g, og = some g → (¬ gT = g ∧ ¬ g = gT) ∧ (¬ gU = g ∧ ¬ g = gU) ∧ (¬ gM = g ∧ ¬ g = gM) := by
    cases og with
    | none =>
      simp only [THp, TH, gh, Heap.keys, List.append_nil, List.map_cons, List.map_nil, List.nodup_cons, List.mem_cons, List.not_mem_nil, or_false, not_or, not_false_eq_true, List.nodup_nil, and_true] at hnd
      obtain ⟨⟨h1, h2⟩, h3⟩ := hnd
      exact ⟨⟨h1, fun e => h1 e.symm⟩, ⟨h2, fun e => h2 e.symm⟩, ⟨h3, fun e => h3 e.symm⟩, fun g e => by cases e⟩
    | some g' =>
      simp only [THp, TH, gh, Heap.keys, List.cons_append, List.nil_append, List.map_cons, List.map_nil, List.nodup_cons, List.mem_cons, List.not_mem_nil, or_false, not_or, not_false_eq_true, List.nodup_nil, and_true] at hnd
      obtain ⟨⟨h1, h2, h4⟩, ⟨h3, h5⟩, h6⟩ := hnd
      refine ⟨⟨h1, fun e => h1 e.symm⟩, ⟨h2, fun e => h2 e.symm⟩, ⟨h3, fun e => h3 e.symm⟩, fun g e => ?_⟩
      injection e with e
      subst e
      exact ⟨⟨h4, fun e => h4 e.symm⟩, ⟨h5, fun e => h5 e.symm⟩, ⟨h6, fun e => h6 e.symm⟩⟩
  obtain ⟨d1, d2, d3, d4⟩ := hd
  have hlen := lenCV_gs (s := 3) hog
  unfold THp TH
  simp only [List.cons_append, List.nil_append]
  repeat first|apply wa1|apply wa2|apply wa3|apply wa4|apply wa5 rfl|apply wa6|apply wa7|(refine wb1 rfl fun R r=>?_;simp only[go_sem, d1, d2, d3, ↓hlen];with_reducible refine r _ _ ?_;clear r R)
  refine aw_cond (by simp only[go_sem, d1, d2, d3, ↓hlen]<;>rfl) (fun h1 => ?_) (fun h1 => ?_)
  · have h1' : lo = hi := eq_of_beq h1
    repeat first|apply wa1|apply wa2|apply wa3|apply wa4|apply wa5 rfl|apply wa6|apply wa7|(refine wb1 rfl fun R r=>?_;simp only[go_sem, d1, d2, d3, ↓hlen];with_reducible refine r _ _ ?_;clear r R)
    (refine aw_rethq rfl fun R r=>?_;simp only[go_sem, d1, d2, d3, ↓hlen];refine r _ rfl ?_;clear r R)
    unfold mkF
    rw [if_pos h1']
    exact ⟨og, hog, rfl, rfl⟩
  have h1' : ¬ lo = hi := by simpa using h1
  repeat first|apply wa1|apply wa2|apply wa3|apply wa4|apply wa5 rfl|apply wa6|apply wa7|(refine wb1 rfl fun R r=>?_;simp only[go_sem, d1, d2, d3, ↓hlen];with_reducible refine r _ _ ?_;clear r R)
  refine aw_alloc rfl rfl rfl (by simp only[go_sem, d1, d2, d3, ↓hlen]<;>rfl) fun g9 hn_g9 => ?_
  replace hn_g9 := Heap.ne_of hn_g9
  first | dsimp only [Heap.ne, gh] at hn_g9 | dsimp only [Heap.ne] at hn_g9 | skip
  (try simp only[go_sem, d1, d2, d3, ↓hlen, hn_g9])
  repeat first|apply wa1|apply wa2|apply wa3|apply wa4|apply wa5 rfl|apply wa6|apply wa7|(refine wb1 rfl fun R r=>?_;simp only[go_sem, d1, d2, d3, ↓hlen, hn_g9];with_reducible refine r _ _ ?_;clear r R)
  refine aw_store rfl rfl rfl rfl (by simp only[go_sem, d1, d2, d3, ↓hlen, hn_g9]<;>rfl) (by simp only[go_sem, d1, d2, d3, ↓hlen, hn_g9]<;>rfl) (by simp only[go_sem, d1, d2, d3, ↓hlen, hn_g9]<;>rfl) (by simp only[go_sem, d1, d2, d3, ↓hlen, hn_g9]<;>rfl) (fun _ e => by cases e) (by rfl) (by rfl) (by first|omega|simp) rfl ?_
  (try simp only[go_sem, d1, d2, d3, ↓hlen, hn_g9])
  repeat first|apply wa1|apply wa2|apply wa3|apply wa4|apply wa5 rfl|apply wa6|apply wa7|(refine wb1 rfl fun R r=>?_;simp only[go_sem, d1, d2, d3, ↓hlen, hn_g9];with_reducible refine r _ _ ?_;clear r R)
  refine aw_dr 11 ty_mixed (by kernel_rfl) ?_
  repeat first|apply wa1|apply wa2|apply wa3|apply wa4|apply wa5 rfl|apply wa6|apply wa7|(refine wb1 rfl fun R r=>?_;simp only[go_sem, d1, d2, d3, ↓hlen, hn_g9];with_reducible refine r _ _ ?_;clear r R)|apply wa8|(refine wd1 rfl fun R r=>?_;simp only[go_sem, d1, d2, d3, ↓hlen, hn_g9];with_reducible refine r _ _ ?_;clear r R)
  refine drk_lookup2 (a := dk ⟨v, lo, hi⟩) (kv := uqTo ns 0) (Kf := dkV) (kt := 132) (et := 3) rfl rfl rfl (by kernel_rfl) dk_ok ty_iz (by simp only[go_sem, d1, d2, d3, ↓hlen, hn_g9]<;>rfl) (by simp only[go_sem, d1, d2, d3, ↓hlen, hn_g9]<;>rfl) (by simp only[go_sem, d1, d2, d3, ↓hlen, hn_g9]<;>rfl) dk_rep ?_
  (try simp only[go_sem, d1, d2, d3, ↓hlen, hn_g9])
  rw [uq_get]
  cases hf : findN ⟨v, lo, hi⟩ ns 0 with
  | some i =>
    try simp only [Option.map_some, Option.getD_some, Option.isSome_some, cstC]
    repeat first|apply wa1|apply wa2|apply wa3|apply wa4|apply wa5 rfl|apply wa6|apply wa7|(refine wb1 rfl fun R r=>?_;simp only[go_sem, d1, d2, d3, ↓hlen, hn_g9];with_reducible refine r _ _ ?_;clear r R)|apply wa8|(refine wd1 rfl fun R r=>?_;simp only[go_sem, d1, d2, d3, ↓hlen, hn_g9];with_reducible refine r _ _ ?_;clear r R)
    refine aw_condF (by simp only[go_sem, d1, d2, d3, ↓hlen, hn_g9]<;>rfl) ?_
    repeat first|apply wa1|apply wa2|apply wa3|apply wa4|apply wa5 rfl|apply wa6|apply wa7|(refine wb1 rfl fun R r=>?_;simp only[go_sem, d1, d2, d3, ↓hlen, hn_g9];with_reducible refine r _ _ ?_;clear r R)|apply wa8|(refine wd1 rfl fun R r=>?_;simp only[go_sem, d1, d2, d3, ↓hlen, hn_g9];with_reducible refine r _ _ ?_;clear r R)
    refine aw_keep [(8, .c (.int .i64 (2 + i)))] (THp gT gU gM og o pl ns mm) (by simp only[go_sem, d1, d2, d3, ↓hlen, hn_g9]<;>and_intros<;>first|exact True.intro|(with_reducible rfl)|exact c_int (by omega)|rfl) (List.Sublist.cons _ (List.Sublist.refl _)) ?_
    (refine aw_rethq rfl fun R r=>?_;simp only[go_sem, d1, d2, d3, ↓hlen, hn_g9];refine r _ rfl ?_;clear r R)
    unfold mkF
    rw [if_neg h1', hf]
    exact ⟨og, hog, rfl, rfl⟩
  | none =>
    try simp only [Option.map_none, Option.getD_none, Option.isSome_none, cstC]
    repeat first|apply wa1|apply wa2|apply wa3|apply wa4|apply wa5 rfl|apply wa6|apply wa7|(refine wb1 rfl fun R r=>?_;simp only[go_sem, d1, d2, d3, ↓hlen, hn_g9];with_reducible refine r _ _ ?_;clear r R)|apply wa8|(refine wd1 rfl fun R r=>?_;simp only[go_sem, d1, d2, d3, ↓hlen, hn_g9];with_reducible refine r _ _ ?_;clear r R)
    refine aw_condT (by simp only[go_sem, d1, d2, d3, ↓hlen, hn_g9]<;>rfl) ?_
    repeat first|apply wa1|apply wa2|apply wa3|apply wa4|apply wa5 rfl|apply wa6|apply wa7|(refine wb1 rfl fun R r=>?_;simp only[go_sem, d1, d2, d3, ↓hlen, hn_g9];with_reducible refine r _ _ ?_;clear r R)
    refine aw_cut (fun g : Nat => [(0, .c (.optr gT 0)), (9, .c (.optr g9 0)), (10, .c (.int .i64 (2 + (ns.length : Int))))]) (fun g => (g9, .cells 132 3 (ofL [.int .i64 v, .int .i64 lo, .int .i64 hi])) :: (gT, .cells 164 5 (ofL [is true o, is true pl, .osl g 3 0 (ns.length + 1), .raw (.map (some gU)), .raw (.map (some gM))])) :: (gU, .gen (MapI dkV (uqTo ns 0))) :: (gM, .gen (MapI key3 (mmL mm))) :: [(g, .cells 132 ((ns.length + 1) * 3) (dnsF (ns ++ [⟨v, lo, hi⟩])))]) (fun g => g ∉ Heap.keys [(g9, .cells 0 0 (ofL [])), (gT, .cells 0 0 (ofL [])), (gU, .cells 0 0 (ofL [])), (gM, .cells 0 0 (ofL []))]) ?_ ?_
    · refine aw_drL 7 0 37 ty_mixed (by kernel_rfl) ?_
      repeat (refine drg_2q rfl fun R r=>?_;simp only[go_sem, d1, d2, d3, ↓hlen, hn_g9];with_reducible refine r _ _ ?_;clear r R)
      refine drg_new rfl (NewX.buildSlice (xs := [.tmp 42]) (cells := [.int .i64 v, .int .i64 lo, .int .i64 hi]) rfl rfl rfl (by simp only[go_sem, d1, d2, d3, ↓hlen, hn_g9]<;>rfl) (by (try simp only[go_sem, d1, d2, d3, ↓hlen, hn_g9]); rfl) rfl (by omega) (by omega) (by intro x hx; simp only [List.mem_singleton] at hx; subst hx; exact ⟨rfl, rfl, rfl⟩) rfl (by simp [Op.operands])) (by kernel_rfl) ?_
      (try simp only[go_sem, d1, d2, d3, ↓hlen, hn_g9])
      refine drg_nil ⟨by simp, fun γ => ?_, fun γ => ?_⟩
      · simp only [List.drop_succ_cons, List.drop_zero, List.take_succ_cons, List.take_zero, List.cons_append, List.nil_append]
        (try simp only[go_sem, d1, d2, d3, ↓hlen, hn_g9])
        try simp only [List.cons_append, List.nil_append]
        generalize γ 6 = gt
        refine aw_push2 (e := 132) (size := 3) (bytes := 24) (n := ns.length) (z := [.int .i64 0, .int .i64 0, .int .i64 0]) (f := dnsF ns) (pre := [(g9, .cells 132 3 (ofL [.int .i64 v, .int .i64 lo, .int .i64 hi])), (gT, .cells 164 5 (ofL [is true o, is true pl, gs og 3 ns.length, .raw (.map (some gU)), .raw (.map (some gM))])), (gU, .gen (MapI dkV (uqTo ns 0))), (gM, .gen (MapI key3 (mmL mm)))]) (f' := dnsF (ns ++ [⟨v, lo, hi⟩])) (v := .agg [.int .i64 v, .int .i64 lo, .int .i64 hi]) rfl rfl rfl (by simp only[go_sem, d1, d2, d3, ↓hlen, hn_g9]<;>rfl) (by simp only[go_sem, d1, d2, d3, ↓hlen, hn_g9]<;>rfl) rfl (by omega) (by omega) (by simp only[go_sem, d1, d2, d3, ↓hlen, hn_g9]<;>rfl) (by simp only[go_sem, d1, d2, d3, ↓hlen, hn_g9]<;>rfl) hog (by rfl) (by rfl) (by simp only [List.cons_append, List.nil_append]; rfl) (by unfold maxLen; omega) (by omega) (lf_push (xs := ns) rfl (⟨v, lo, hi⟩ : DN) (by omega)) fun g hn_g => ?_
        (try simp only[go_sem, d1, d2, d3, ↓hlen, hn_g9])
        simp only [gs, gh, List.cons_append, List.nil_append]
        repeat first|apply wa7|(refine wb1 rfl fun R r=>?_;simp only[go_sem, d1, d2, d3, ↓hlen, hn_g9];with_reducible refine r _ _ ?_;clear r R)|apply wa8|(refine wd1 rfl fun R r=>?_;simp only[go_sem, d1, d2, d3, ↓hlen, hn_g9];with_reducible refine r _ _ ?_;clear r R)
        refine aw_store rfl rfl rfl rfl (by simp only[go_sem, d1, d2, d3, ↓hlen, hn_g9]<;>rfl) (by simp only[go_sem, d1, d2, d3, ↓hlen, hn_g9]<;>rfl) (by simp only[go_sem, d1, d2, d3, ↓hlen, hn_g9]<;>rfl) (by simp only[go_sem, d1, d2, d3, ↓hlen, hn_g9]<;>rfl) (fun _ e => by cases e) (by rfl) (by rfl) (by first|omega|simp) rfl ?_
        (try simp only[go_sem, d1, d2, d3, ↓hlen, hn_g9])
        repeat first|apply wa7|(refine wb1 rfl fun R r=>?_;simp only[go_sem, d1, d2, d3, ↓hlen, hn_g9];with_reducible refine r _ _ ?_;clear r R)
        exact aw_stop ⟨g, (by simp only[go_sem, d1, d2, d3, ↓hlen, hn_g9]<;>and_intros<;>first|exact True.intro|(with_reducible rfl)|exact c_int (by omega)|rfl), (List.Sublist.refl _), hn_g⟩
      · simp only [List.drop_succ_cons, List.drop_zero, List.take_succ_cons, List.take_zero, List.cons_append, List.nil_append]
        (try simp only[go_sem, d1, d2, d3, ↓hlen, hn_g9])
        try simp only [List.cons_append, List.nil_append]
        generalize γ 6 = gt
        refine aw_push2 (e := 132) (size := 3) (bytes := 24) (n := ns.length) (z := [.int .i64 0, .int .i64 0, .int .i64 0]) (f := dnsF ns) (pre := [(g9, .cells 132 3 (ofL [.int .i64 v, .int .i64 lo, .int .i64 hi])), (gT, .cells 164 5 (ofL [is true o, is true pl, gs og 3 ns.length, .raw (.map (some gU)), .raw (.map (some gM))])), (gU, .gen (MapI dkV (uqTo ns 0))), (gM, .gen (MapI key3 (mmL mm)))]) (f' := dnsF (ns ++ [⟨v, lo, hi⟩])) (v := .agg [.int .i64 v, .int .i64 lo, .int .i64 hi]) rfl rfl rfl (by simp only[go_sem, d1, d2, d3, ↓hlen, hn_g9]<;>rfl) (by simp only[go_sem, d1, d2, d3, ↓hlen, hn_g9]<;>rfl) rfl (by omega) (by omega) (by simp only[go_sem, d1, d2, d3, ↓hlen, hn_g9]<;>rfl) (by simp only[go_sem, d1, d2, d3, ↓hlen, hn_g9]<;>rfl) hog (by rfl) (by rfl) (by simp only [List.cons_append, List.nil_append]; rfl) (by unfold maxLen; omega) (by omega) (lf_push (xs := ns) rfl (⟨v, lo, hi⟩ : DN) (by omega)) fun g hn_g => ?_
        (try simp only[go_sem, d1, d2, d3, ↓hlen, hn_g9])
        simp only [gs, gh, List.cons_append, List.nil_append]
        repeat first|apply wa7|(refine wb1 rfl fun R r=>?_;simp only[go_sem, d1, d2, d3, ↓hlen, hn_g9];with_reducible refine r _ _ ?_;clear r R)
        refine aw_store rfl rfl rfl rfl (by simp only[go_sem, d1, d2, d3, ↓hlen, hn_g9]<;>rfl) (by simp only[go_sem, d1, d2, d3, ↓hlen, hn_g9]<;>rfl) (by simp only[go_sem, d1, d2, d3, ↓hlen, hn_g9]<;>rfl) (by simp only[go_sem, d1, d2, d3, ↓hlen, hn_g9]<;>rfl) (fun _ e => by cases e) (by rfl) (by rfl) (by first|omega|simp) rfl ?_
        (try simp only[go_sem, d1, d2, d3, ↓hlen, hn_g9])
        repeat first|apply wa7|(refine wb1 rfl fun R r=>?_;simp only[go_sem, d1, d2, d3, ↓hlen, hn_g9];with_reducible refine r _ _ ?_;clear r R)
        exact aw_stop ⟨g, (by simp only[go_sem, d1, d2, d3, ↓hlen, hn_g9]<;>and_intros<;>first|exact True.intro|(with_reducible rfl)|exact c_int (by omega)|rfl), (List.Sublist.refl _), hn_g⟩
    rintro g hn_g
    replace hn_g := Heap.ne_of hn_g
    dsimp only [Heap.ne] at hn_g
    repeat first|apply wa1|apply wa2|apply wa3|apply wa4|apply wa5 rfl|apply wa6|apply wa7|(refine wb1 rfl fun R r=>?_;simp only[go_sem, d1, d2, d3, ↓hlen, hn_g9, hn_g];with_reducible refine r _ _ ?_;clear r R)
    refine aw_dr 6 ty_mixed (by kernel_rfl) ?_
    repeat first|apply wa1|apply wa2|apply wa3|apply wa4|apply wa5 rfl|apply wa6|apply wa7|(refine wb1 rfl fun R r=>?_;simp only[go_sem, d1, d2, d3, ↓hlen, hn_g9, hn_g];with_reducible refine r _ _ ?_;clear r R)|apply wa8|(refine wd1 rfl fun R r=>?_;simp only[go_sem, d1, d2, d3, ↓hlen, hn_g9, hn_g];with_reducible refine r _ _ ?_;clear r R)
    refine aw_mapNew (a := dk ⟨v, lo, hi⟩) (kv := uqTo ns 0) (Kf := dkV) (v := .int .i64 (2 + (ns.length : Int))) rfl rfl rfl (kt := 132) (et := 3) (by kernel_rfl) dk_ok (by simp only[go_sem, d1, d2, d3, ↓hlen, hn_g9, hn_g]<;>rfl) (by simp only[go_sem, d1, d2, d3, ↓hlen, hn_g9, hn_g]<;>rfl) (by simp only[go_sem, d1, d2, d3, ↓hlen, hn_g9, hn_g]<;>rfl) dk_rep (cv := .c (.int .i64 (2 + (ns.length : Int)))) (by simp only[go_sem, d1, d2, d3, ↓hlen, hn_g9, hn_g]<;>rfl) (fun S w u h => h) (by rw [uq_get, hf]; rfl) (by simp only[go_sem, d1, d2, d3, ↓hlen, hn_g9, hn_g]<;>rfl) ?_
    have hup := uq_push ⟨v, lo, hi⟩ ns 0
    rw [Nat.zero_add] at hup
    rw [← hup]
    (try simp only[go_sem, d1, d2, d3, ↓hlen, hn_g9, hn_g])
    repeat first|apply wa1|apply wa2|apply wa3|apply wa4|apply wa5 rfl|apply wa6|apply wa7|(refine wb1 rfl fun R r=>?_;simp only[go_sem, d1, d2, d3, ↓hlen, hn_g9, hn_g];with_reducible refine r _ _ ?_;clear r R)|apply wa8|(refine wd1 rfl fun R r=>?_;simp only[go_sem, d1, d2, d3, ↓hlen, hn_g9, hn_g];with_reducible refine r _ _ ?_;clear r R)
    refine aw_keep [(8, .c (.int .i64 (2 + (ns.length : Int))))] (THp gT gU gM (some g) o pl (ns ++ [⟨v, lo, hi⟩]) mm) (by simp only[go_sem, d1, d2, d3, ↓hlen, hn_g9, hn_g]<;>and_intros<;>first|exact True.intro|(with_reducible rfl)|exact c_int (by omega)|rfl) (by
      unfold THp TH
      rw [List.length_append]
      exact List.Sublist.cons _ (List.Sublist.refl _)) ?_
    (refine aw_rethq rfl fun R r=>?_;simp only[go_sem, d1, d2, d3, ↓hlen, hn_g9, hn_g];refine r _ rfl ?_;clear r R)
    unfold mkF
    rw [if_neg h1', hf]
    exact ⟨some g, some_ne, rfl, rfl⟩
end Go.Proofs.YtmfmnmkipjpjhaaGreatDoor
