/- YtchboekipfpheaaDoorVLexC: a text of the proof of this claim, by its prover. -/
import Derived.Test.YtchboekipfpheaaDoorVDrw
import Derived.Test.YtchboekipfpheaaDoorVTy
import Derived.Test.YtchboekipfpheaaDoorVLexS
import Derived.Lib.RowBridge
import Derived.Shelf.Strings.SlTrimAscii
import Derived.Lib.AtoiErrMem
set_option linter.unusedVariables false
set_option linter.unusedSimpArgs false
set_option maxHeartbeats 4000000
set_option maxRecDepth 100000
namespace Go.Proofs.Vale
open Go.Proofs Go.Proofs.YtchboekipfpheaaDoorT
attribute [local irreducible] acode aopsL aopsT dopsL dopsT dmL dmT pop popG aop ALoop ADraw ACall AWP AFin acondT ALoopT ADrawT ACallT doP doG doGd
abbrev Str := List UInt8
def strs (l : List Str) : List AV := l.map .str
theorem strs_len (l : List Str) : (strs l).length = l.length := by simp [strs]
theorem strs_get (l : List Str) (k : Nat) (h : k < l.length) : (strs l).getD k .any = .str l[k] := by simp [strs, List.getD_eq_getElem?_getD, h]
theorem strs_out (l : List Str) (k : Nat) (h : l.length ≤ k) : (strs l).getD k .any = .any := by simp [strs, List.getD_eq_getElem?_getD, h]
theorem strs_cells (l : List Str) : ∀ x, x ∈ strs l → x.cells.length = 1 := by
  intro x hx; simp only [strs, List.mem_map] at hx; obtain ⟨n, _, rfl⟩ := hx; rfl
theorem flatS (l : List Str) : ∀ y ∈ strs l, flatX y = true := flatX_strs l
theorem low_strs (n : Nat) : ∀ l : List Str, lowL n (strs l) = true
  | [] => rfl
  | s :: l => by simp only [strs, List.map_cons, lowL, AV.low, Bool.true_and]; exact low_strs n l
theorem low_bytes (n : Nat) : ∀ l : List UInt8, lowL n (bytesA l) = true
  | [] => rfl
  | s :: l => by simp only [bytesA, List.map_cons, lowL, AV.low, Bool.true_and]; exact low_bytes n l
attribute [go_sem] strs_len
@[go_sem] theorem take_strs (l : List Str) : List.take l.length (strs l) = strs l := by rw [← strs_len l, List.take_length]
@[go_sem] theorem take_bytes (l : Str) : List.take l.length (bytesA l) = bytesA l := by rw [← bytesA_len l, List.take_length]
theorem mixedOrdersD : Tryd.prog.follows .mixedOrders = true := by kernel_rfl
@[go_sem] theorem ofVal_stringA (l : List UInt8) : ofVal (.string ⟨l.toArray⟩) = .str l := nrfl rfl
@[go_sem] theorem ofVal1_stringA (l : List UInt8) : ofVal1 (.string ⟨l.toArray⟩) = .str l := nrfl rfl


/-! ### Runes -/
theorem get_at (s : Str) (i : Nat) (h : i < s.length) : (ByteArray.get! ⟨⟨s⟩⟩ (i + 0)) = s[i] := by
  have h' : i < (⟨s⟩ : Array UInt8).size := h
  show (⟨s⟩ : Array UInt8)[i]! = s[i]
  rw [getElem!_pos _ i h']
  rfl
theorem dc_lo (s : Str) (i : Nat) (h : i < s.length) (hl : (s[i]).toNat < 128) : dcA s i = ((s[i]).toNat, 1) := by
  unfold dcA
  simp only [Utf8.decode, get_at s i h]
  rw [if_pos hl]
theorem dc_hi (s : Str) (i : Nat) (h : i < s.length) (hl : ¬ (s[i]).toNat < 128) : 128 ≤ (dcA s i).1 := by
  unfold dcA
  simp only [Utf8.decode, get_at s i h]
  rw [if_neg hl]
  repeat' split
  all_goals (simp only [Utf8.runeError] at *; first | omega | (simp at *; omega))

end Go.Proofs.Vale

set_option linter.unusedVariables false
set_option linter.unusedSimpArgs false
set_option maxHeartbeats 4000000
set_option maxRecDepth 100000
namespace Go.Proofs.Vale
open Go.Proofs Go.Proofs.YtchboekipfpheaaDoorT
attribute [local irreducible] acode aopsL aopsT dopsL dopsT dmL dmT pop popG aop ALoop ADraw ACall AWP AFin acondT ALoopT ADrawT ACallT doP doG doGd

/-! ### Values -/
theorem below_lay {β : Beta} {fr : Nat → Prop} {w w' : World} {h : List AObj} (L : Lay β fr w.heap h) (B : Go.RowKit.Below w.heap.size w w') : Lay β fr w'.heap h ∧ Step1 β fr h w β fr h w' := by
  have same := B.block
  have E : Ext β fr w.heap β fr w'.heap := ⟨fun _ _ _ e => e, fun _ e => e, fun b hb => same b (L.frlt b hb), fun t g b c e f hb hc => ⟨c, f, by rw [same b (L.lt _ _ _ hb)]; exact hc, rfl⟩⟩
  refine ⟨?_, ?_⟩
  · exact { frlt := fun b hb => Nat.lt_of_lt_of_le (L.frlt b hb) B.size, ownfr := L.ownfr, lt := fun t g b hb => Nat.lt_of_lt_of_le (L.lt t g b hb) B.size, inj := L.inj
            obj := fun t o ho => (L.obj t o ho).ext E fun g b _ hb => same b (L.lt _ _ _ hb), dom := L.dom, top := L.top, tab := fun b cs q => ⟨(L.tab b cs q).1, by rw [E.cells b (L.tab b cs q).1]; exact (L.tab b cs q).2⟩ }
  · exact { ext := E, os := B.os, tape := B.tape, output := B.output, size := B.size, keep := fun b hb _ => same b hb, prov := fun b e => .inl e, frz := fun b e => .inl e }
theorem two_args {β : Beta} {fr : Nat → Prop} {H : Array Obj} {s t : Str} {us : Array Value} (R : CellsRep β fr H [.str s, .str t] us) : ∃ a b : ByteArray, us = #[.string a, .string b] ∧ a.data.toList = s ∧ b.data.toList = t := by
  obtain ⟨hvs, hv⟩ := R
  obtain ⟨v, hv1, hv2⟩ := hv 0 (by simp)
  obtain ⟨u, hu1, hu2⟩ := hv 1 (by simp)
  simp only [List.getElem_cons_zero, List.getElem_cons_succ, Rep] at hv2 hu2
  obtain ⟨a, rfl, ha⟩ := hv2
  obtain ⟨b, rfl, hb⟩ := hu2
  refine ⟨a, b, ?_, ha, hb⟩
  apply Array.ext_getElem?
  intro i
  rcases i with _ | _ | i
  · rw [hv1]; rfl
  · rw [hu1]; rfl
  · rw [Array.getElem?_eq_none (by rw [hvs]; simp), Array.getElem?_eq_none (by simp)]
def ascii (s : Str) : Bool := s.all fun b => decide (b.toNat < 128)
theorem bsize (b : ByteArray) : b.size = b.data.toList.length := by show b.data.size = _; rw [Array.length_toList]
theorem containsAny_ok (s t : Str) (h : List AObj) (hs : s.length < 4294967281) (ht : t.length < 4294967281) (ha : ascii s = true) (hb : ascii t = true) : ACall Tryd.prog 55 [.str s, .str t] h (fun r h' => r = .bool (Lib.containsAny s t) ∧ h' = h) := by
  unfold ACall; intro w β fr us L Rr
  obtain ⟨a, b, rfl, rfl, rfl⟩ := two_args Rr
  refine (Tryd.strings_ContainsAny_laid a b w (by rw [bsize]; exact hs) (by rw [bsize]; exact ht) (fun j x hx => ?_) (fun j x hx => ?_)).mono ?_
  · have := List.all_eq_true.1 ha x (List.mem_of_getElem? hx); simpa using this
  · have := List.all_eq_true.1 hb x (List.mem_of_getElem? hx); simpa using this
  rintro e w' ⟨rfl, B⟩
  obtain ⟨L', S'⟩ := below_lay L B
  exact ⟨_, _, _, β, fr, rfl, ⟨rfl, rfl⟩, L', by simp [Rep], S'⟩
theorem cany0 (t : Str) : ∀ s : Str, 0 ≤ Lib.indexAny s t ↔ (s.any fun b => t.contains b) = true := by
  intro s
  induction s with
  | nil => simp [Lib.indexAny]
  | cons b s ih =>
    rw [Lib.indexAny, List.any_cons]
    have := Lib.indexAny_ge t s
    by_cases hb : t.contains b = true
    · rw [if_pos hb, hb]; simp
    · have hb2 : t.contains b = false := by simpa using hb
      rw [if_neg hb, hb2, Bool.false_or, ← ih]
      by_cases q : (Lib.indexAny s t == -1) = true
      · rw [if_pos q]
        have : Lib.indexAny s t = -1 := by simpa using q
        rw [this]
      · rw [if_neg q]
        have : Lib.indexAny s t ≠ -1 := by simpa using q
        omega
theorem cany (t : Str) (s : Str) : Lib.containsAny s t = s.any fun b => t.contains b := by
  rw [Lib.containsAny, Bool.eq_iff_iff, decide_eq_true_iff, cany0]
def badR (r : Int) : Bool := bif decide (r < 32) then true else decide (126 < r)
def badB (b : UInt8) : Bool := badR (b.toNat : Int)
theorem bad_ok (r : Int) (h : List AObj) : ACall Tryd.prog 57 [.int .i32 r] h (fun x h' => x = .bool (badR r) ∧ h' = h) := by
  (refine ACall.of_code Tryd.func57 rfl ?_; simp only [Tryd.f57]; simp only [go_sem, Nat.reduceMul, Nat.reduceLT, Nat.reduceLeDiff, Nat.reduceEqDiff, Nat.reduceBEq, Int.toNat_natCast, Int.reduceToNat, Int.reduceNeg, Int.reduceLT, Int.reduceLE, Int.reduceBEq, Int.reduceBNe, decide_true, decide_false, Bool.false_eq_true, false_imp_iff, Nat.lt_irrefl])
  refine Fin_plain ⟨?_, rfl⟩
  simp only [badR]
theorem bad_eq (s : Str) (k : Nat) (h : k < s.length) : badB s[k] = badR (dcA s k).1 ∧ (badR (dcA s k).1 = false → (dcA s k).2 = 1) := by
  by_cases hl : (s[k]).toNat < 128
  · rw [dc_lo s k h hl]; exact ⟨rfl, fun _ => rfl⟩
  · have hh := dc_hi s k h hl
    have e : badR (dcA s k).1 = true := by
      simp only [badR]
      rw [show decide ((126 : Int) < ((dcA s k).1 : Int)) = true by simp; omega]
      cases decide (((dcA s k).1 : Int) < 32) <;> rfl
    rw [e]
    refine ⟨?_, fun q => by cases q⟩
    simp only [badB, badR]
    rw [show decide ((126 : Int) < ((s[k]).toNat : Int)) = true by simp; omega]
    cases decide (((s[k]).toNat : Int) < 32) <;> rfl
theorem indexFunc_ok (s : Str) (h : List AObj) (hs : s.length ≤ 9223372036854775807) : ACall Tryd.prog 77 [.str s, .func (.func 57) [] [], .bool true] h (fun r _ => ∃ i : Int, r = .int .i64 i ∧ decide (0 ≤ i) = s.any badB) := by
  (refine ACall.of_code Tryd.func77 rfl ?_; simp only [Tryd.f77]; simp only [go_sem, Nat.reduceMul, Nat.reduceLT, Nat.reduceLeDiff, Nat.reduceEqDiff, Nat.reduceBEq, Int.toNat_natCast, Int.reduceToNat, Int.reduceNeg, Int.reduceLT, Int.reduceLE, Int.reduceBEq, Int.reduceBNe, decide_true, decide_false, Bool.false_eq_true, false_imp_iff, Nat.lt_irrefl])
  refine ALoop.over [6, 7, 8, 11, 12, 13, 14, 15, 16, 17, 18, 19, 20] (fun e h' => ∃ k : Nat, k ≤ s.length ∧ h' = h ++ [.it s k] ∧ (s.take k).any badB = false) (fun e h' => s.length - (match h'[h.length]? with | some (.it _ k) => k | _ => 0)) ⟨0, by omega, rfl, rfl⟩ ?_
  simp only [List.length_cons, List.length_nil, Nat.reduceAdd, allL_succ, allL_zero]
  intro y6 y7 y8 y11 y12 y13 y14 y15 y16 y17 y18 y19 y20 h' hI
  obtain ⟨k, hk, rfl, hA⟩ := hI
  simp only [go_sem, getElem?_app0, Nat.reduceMul, Nat.reduceLT, Nat.reduceLeDiff, Nat.reduceEqDiff, Nat.reduceBEq, Int.toNat_natCast, Int.reduceToNat, Int.reduceNeg, Int.reduceLT, Int.reduceLE, Int.reduceBEq, Int.reduceBNe, decide_true, decide_false, Bool.false_eq_true, false_imp_iff, Nat.lt_irrefl]
  refine nxG_intro (fun hp => ?_) (fun hp => ?_)
  · simp only [go_sem, Nat.reduceMul, Nat.reduceLT, Nat.reduceLeDiff, Nat.reduceEqDiff, Nat.reduceBEq, Int.toNat_natCast, Int.reduceToNat, Int.reduceNeg, Int.reduceLT, Int.reduceLE, Int.reduceBEq, Int.reduceBNe, decide_true, decide_false, Bool.false_eq_true, false_imp_iff, Nat.lt_irrefl]
    obtain ⟨hL, hW⟩ := bad_eq s k hp
    refine ACallT.by (bad_ok _ _) ?_
    rintro r h1 ⟨rfl, rfl⟩
    generalize hb : badR (dcA s k).1 = z at *
    cases z with
    | true =>
      simp only [go_sem, Nat.reduceMul, Nat.reduceLT, Nat.reduceLeDiff, Nat.reduceEqDiff, Nat.reduceBEq, Int.toNat_natCast, Int.reduceToNat, Int.reduceNeg, Int.reduceLT, Int.reduceLE, Int.reduceBEq, Int.reduceBNe, decide_true, decide_false, Bool.false_eq_true, false_imp_iff, Nat.lt_irrefl]
      refine Fin_plain ⟨k, rfl, ?_⟩
      have : s.any badB = true := by rw [List.any_eq_true]; exact ⟨s[k], List.getElem_mem _, hL⟩
      rw [this]; simp
    | false =>
      rw [hW rfl]
      simp only [go_sem, getElem?_app0, set_app0, Nat.reduceMul, Nat.reduceLT, Nat.reduceLeDiff, Nat.reduceEqDiff, Nat.reduceBEq, Int.toNat_natCast, Int.reduceToNat, Int.reduceNeg, Int.reduceLT, Int.reduceLE, Int.reduceBEq, Int.reduceBNe, decide_true, decide_false, Bool.false_eq_true, false_imp_iff, Nat.lt_irrefl]
      refine ⟨⟨k + 1, by omega, rfl, ?_⟩, Nat.sub_lt_sub_left hp (Nat.lt_succ_self k)⟩
      rw [List.take_succ_eq_append_getElem hp, List.any_append, hA]; simp [hL]
  · simp only [go_sem, Nat.reduceMul, Nat.reduceLT, Nat.reduceLeDiff, Nat.reduceEqDiff, Nat.reduceBEq, Int.toNat_natCast, Int.reduceToNat, Int.reduceNeg, Int.reduceLT, Int.reduceLE, Int.reduceBEq, Int.reduceBNe, decide_true, decide_false, Bool.false_eq_true, false_imp_iff, Nat.lt_irrefl]
    have : k = s.length := by omega
    subst this
    refine Fin_plain ⟨-1, rfl, ?_⟩
    rw [List.take_length] at hA
    rw [hA]; rfl
theorem indexF_ok (s : Str) (h : List AObj) (hs : s.length ≤ 9223372036854775807) : ACall Tryd.prog 69 [.str s, .func (.func 57) [] []] h (fun r _ => ∃ i : Int, r = .int .i64 i ∧ decide (0 ≤ i) = s.any badB) := by
  (refine ACall.of_code Tryd.func69 rfl ?_; simp only [Tryd.f69]; simp only [go_sem, Nat.reduceMul, Nat.reduceLT, Nat.reduceLeDiff, Nat.reduceEqDiff, Nat.reduceBEq, Int.toNat_natCast, Int.reduceToNat, Int.reduceNeg, Int.reduceLT, Int.reduceLE, Int.reduceBEq, Int.reduceBNe, decide_true, decide_false, Bool.false_eq_true, false_imp_iff, Nat.lt_irrefl])
  refine ACallT.by (indexFunc_ok s _ hs) ?_
  rintro r h1 ⟨i, rfl, hi⟩
  simp only [go_sem, Nat.reduceMul, Nat.reduceLT, Nat.reduceLeDiff, Nat.reduceEqDiff, Nat.reduceBEq, Int.toNat_natCast, Int.reduceToNat, Int.reduceNeg, Int.reduceLT, Int.reduceLE, Int.reduceBEq, Int.reduceBNe, decide_true, decide_false, Bool.false_eq_true, false_imp_iff, Nat.lt_irrefl]
  exact Fin_plain ⟨i, rfl, hi⟩
theorem containsF_ok (s : Str) (h : List AObj) (hs : s.length ≤ 9223372036854775807) : ACall Tryd.prog 56 [.str s, .func (.func 57) [] []] h (fun r _ => r = .bool (s.any badB)) := by
  (refine ACall.of_code Tryd.func56 rfl ?_; simp only [Tryd.f56]; simp only [go_sem, Nat.reduceMul, Nat.reduceLT, Nat.reduceLeDiff, Nat.reduceEqDiff, Nat.reduceBEq, Int.toNat_natCast, Int.reduceToNat, Int.reduceNeg, Int.reduceLT, Int.reduceLE, Int.reduceBEq, Int.reduceBNe, decide_true, decide_false, Bool.false_eq_true, false_imp_iff, Nat.lt_irrefl])
  refine ACallT.by (indexF_ok s _ hs) ?_
  rintro r h1 ⟨i, rfl, hi⟩
  simp only [go_sem, Nat.reduceMul, Nat.reduceLT, Nat.reduceLeDiff, Nat.reduceEqDiff, Nat.reduceBEq, Int.toNat_natCast, Int.reduceToNat, Int.reduceNeg, Int.reduceLT, Int.reduceLE, Int.reduceBEq, Int.reduceBNe, decide_true, decide_false, Bool.false_eq_true, false_imp_iff, Nat.lt_irrefl]
  exact Fin_plain (by rw [hi])
def valueS (s : Str) : Bool := decide (s.length ≤ 24) && !(s.any fun b => [(34 : UInt8), 92].contains b) && !(s.any badB)
theorem value_ok (s : Str) (h : List AObj) (hs : s.length ≤ 9223372036854775807) (ha : ascii s = true) : ACall Tryd.prog 45 [.str s] h (fun r _ => r = .bool (valueS s)) := by
  (refine ACall.of_code Tryd.func45 rfl ?_; simp only [Tryd.f45]; simp only [go_sem, Nat.reduceMul, Nat.reduceLT, Nat.reduceLeDiff, Nat.reduceEqDiff, Nat.reduceBEq, Int.toNat_natCast, Int.reduceToNat, Int.reduceNeg, Int.reduceLT, Int.reduceLE, Int.reduceBEq, Int.reduceBNe, decide_true, decide_false, Bool.false_eq_true, false_imp_iff, Nat.lt_irrefl])
  generalize hz : decide (((List.length s : Nat) : Int) ≤ 24) = z
  cases z with
  | false =>
    simp only [go_sem, Nat.reduceMul, Nat.reduceLT, Nat.reduceLeDiff, Nat.reduceEqDiff, Nat.reduceBEq, Int.toNat_natCast, Int.reduceToNat, Int.reduceNeg, Int.reduceLT, Int.reduceLE, Int.reduceBEq, Int.reduceBNe, decide_true, decide_false, Bool.false_eq_true, false_imp_iff, Nat.lt_irrefl]
    have := of_decide_eq_false hz
    refine Fin_plain ?_
    rw [valueS, decide_eq_false (by omega)]; rfl
  | true =>
    have := of_decide_eq_true hz
    simp only [go_sem, Nat.reduceMul, Nat.reduceLT, Nat.reduceLeDiff, Nat.reduceEqDiff, Nat.reduceBEq, Int.toNat_natCast, Int.reduceToNat, Int.reduceNeg, Int.reduceLT, Int.reduceLE, Int.reduceBEq, Int.reduceBNe, decide_true, decide_false, Bool.false_eq_true, false_imp_iff, Nat.lt_irrefl]
    refine ACallT.by (containsAny_ok s _ _ (by omega) (by decide) ha (by decide)) ?_
    rintro r h1 ⟨rfl, rfl⟩
    rw [cany]
    generalize hz2 : (s.any fun b => [(34 : UInt8), 92].contains b) = z2
    cases z2 with
    | true =>
      simp only [go_sem, Nat.reduceMul, Nat.reduceLT, Nat.reduceLeDiff, Nat.reduceEqDiff, Nat.reduceBEq, Int.toNat_natCast, Int.reduceToNat, Int.reduceNeg, Int.reduceLT, Int.reduceLE, Int.reduceBEq, Int.reduceBNe, decide_true, decide_false, Bool.false_eq_true, false_imp_iff, Nat.lt_irrefl]
      refine Fin_plain ?_
      rw [valueS, hz2]; simp
    | false =>
      simp only [go_sem, Nat.reduceMul, Nat.reduceLT, Nat.reduceLeDiff, Nat.reduceEqDiff, Nat.reduceBEq, Int.toNat_natCast, Int.reduceToNat, Int.reduceNeg, Int.reduceLT, Int.reduceLE, Int.reduceBEq, Int.reduceBNe, decide_true, decide_false, Bool.false_eq_true, false_imp_iff, Nat.lt_irrefl]
      refine ACallT.by (containsF_ok s _ hs) ?_
      rintro r h2 rfl
      simp only [go_sem, Nat.reduceMul, Nat.reduceLT, Nat.reduceLeDiff, Nat.reduceEqDiff, Nat.reduceBEq, Int.toNat_natCast, Int.reduceToNat, Int.reduceNeg, Int.reduceLT, Int.reduceLE, Int.reduceBEq, Int.reduceBNe, decide_true, decide_false, Bool.false_eq_true, false_imp_iff, Nat.lt_irrefl]
      refine Fin_plain ?_
      rw [valueS, hz2, decide_eq_true (by omega)]; rfl

/-! ### Values at every text -/
theorem arg_str {β : Beta} {fr : Nat → Prop} {H : Array Obj} {s : Str} {x : AV} {us : Array Value} (R : CellsRep β fr H [.str s, x] us) : ∃ (a : ByteArray) (u : Value), us = #[.string a, u] ∧ a.data.toList = s ∧ Rep β fr H x u := by
  obtain ⟨hvs, hv⟩ := R
  obtain ⟨v, hv1, hv2⟩ := hv 0 (by simp)
  obtain ⟨u, hu1, hu2⟩ := hv 1 (by simp)
  simp only [List.getElem_cons_zero, List.getElem_cons_succ] at hv2 hu2
  simp only [Rep] at hv2
  obtain ⟨a, rfl, ha⟩ := hv2
  refine ⟨a, u, ?_, ha, hu2⟩
  apply Array.ext_getElem?
  intro i
  rcases i with _ | _ | i
  · rw [hv1]; rfl
  · rw [hu1]; rfl
  · rw [Array.getElem?_eq_none (by rw [hvs]; simp), Array.getElem?_eq_none (by simp)]
theorem indexByte_ok (s : Str) (c : Int) (h : List AObj) : ACall Tryd.prog 32 [.str s, .int .u8 c] h (fun r h' => r = .int .i64 (Lib.indexByte s c.toNat.toUInt8) ∧ h' = h) := by
  unfold ACall; intro w β fr us L Rr
  obtain ⟨a, u, rfl, rfl, hu⟩ := arg_str Rr
  simp only [Rep] at hu
  subst hu
  refine (Tryd.strings_IndexByte a c w).mono ?_
  rintro e w' ⟨rfl, rfl⟩
  exact ⟨_, _, _, β, fr, rfl, ⟨rfl, rfl⟩, L, by simp [Rep], Step1.refl _ _ _ _⟩
theorem indexRune_lo (s : Str) (c : Int) (h : List AObj) (h0 : 0 ≤ c) (h1 : c < 128) : ACall Tryd.prog 52 [.str s, .int .i32 c] h (fun r h' => r = .int .i64 (Lib.indexByte s c.toNat.toUInt8) ∧ h' = h) := by
  unfold ACall; intro w β fr us L Rr
  obtain ⟨a, u, rfl, rfl, hu⟩ := arg_str Rr
  simp only [Rep] at hu
  subst hu
  refine (Tryd.strings_IndexRune_ascii a c w h0 h1).mono ?_
  rintro e w' ⟨rfl, rfl⟩
  exact ⟨_, _, _, β, fr, rfl, ⟨rfl, rfl⟩, L, by simp [Rep], Step1.refl _ _ _ _⟩
theorem enc_hi (r : Int) (h : 128 ≤ r) : (∃ a b, encA r = [a, b] ∧ 128 ≤ b.toNat) ∨ (∃ a b c, encA r = [a, b, c]) ∨ (∃ a b c d, encA r = [a, b, c, d]) := by
  unfold encA Utf8.encode
  generalize hc : (if Utf8.valid r then r.toNat else Utf8.runeError) = c
  have h8 : 128 ≤ c := by
    rw [← hc]; split
    · omega
    · decide
  simp only []
  rw [if_neg (by omega)]
  split
  · refine .inl ⟨_, _, rfl, ?_⟩
    rw [UInt8.toNat_ofNat']; omega
  · split
    · exact .inr (.inl ⟨_, _, _, rfl⟩)
    · exact .inr (.inr ⟨_, _, _, _, rfl⟩)
theorem validRune_ok (r : Int) (h : List AObj) : ACall Tryd.prog 64 [.int .i32 r] h (fun x h' => (∃ b, x = .bool b) ∧ h' = h) := by
  (refine ACall.of_code Tryd.func64 rfl ?_; simp only [Tryd.f64]; simp only [go_sem, Nat.reduceMul, Nat.reduceLT, Nat.reduceLeDiff, Nat.reduceEqDiff, Nat.reduceBEq, Int.toNat_natCast, Int.reduceToNat, Int.reduceNeg, Int.reduceLT, Int.reduceLE, Int.reduceBEq, Int.reduceBNe, decide_true, decide_false, Bool.false_eq_true, false_imp_iff, Nat.lt_irrefl])
  generalize (bif decide ((0 : Int) ≤ r) then decide (r < 55296) else false) = z
  cases z with
  | true => simp only [go_sem, Nat.reduceMul, Nat.reduceLT, Nat.reduceLeDiff, Nat.reduceEqDiff, Nat.reduceBEq, Int.toNat_natCast, Int.reduceToNat, Int.reduceNeg, Int.reduceLT, Int.reduceLE, Int.reduceBEq, Int.reduceBNe, decide_true, decide_false, Bool.false_eq_true, false_imp_iff, Nat.lt_irrefl]; exact Fin_plain ⟨⟨_, rfl⟩, rfl⟩
  | false =>
    simp only [go_sem, Nat.reduceMul, Nat.reduceLT, Nat.reduceLeDiff, Nat.reduceEqDiff, Nat.reduceBEq, Int.toNat_natCast, Int.reduceToNat, Int.reduceNeg, Int.reduceLT, Int.reduceLE, Int.reduceBEq, Int.reduceBNe, decide_true, decide_false, Bool.false_eq_true, false_imp_iff, Nat.lt_irrefl]
    generalize (bif decide ((57343 : Int) < r) then decide (r ≤ 1114111) else false) = z
    cases z with
    | true => simp only [go_sem, Nat.reduceMul, Nat.reduceLT, Nat.reduceLeDiff, Nat.reduceEqDiff, Nat.reduceBEq, Int.toNat_natCast, Int.reduceToNat, Int.reduceNeg, Int.reduceLT, Int.reduceLE, Int.reduceBEq, Int.reduceBNe, decide_true, decide_false, Bool.false_eq_true, false_imp_iff, Nat.lt_irrefl]; exact Fin_plain ⟨⟨_, rfl⟩, rfl⟩
    | false => simp only [go_sem, Nat.reduceMul, Nat.reduceLT, Nat.reduceLeDiff, Nat.reduceEqDiff, Nat.reduceBEq, Int.toNat_natCast, Int.reduceToNat, Int.reduceNeg, Int.reduceLT, Int.reduceLE, Int.reduceBEq, Int.reduceBNe, decide_true, decide_false, Bool.false_eq_true, false_imp_iff, Nat.lt_irrefl]; exact Fin_plain ⟨⟨_, rfl⟩, rfl⟩
theorem indexRune_hi (r : Int) (h : List AObj) (h0 : 128 ≤ r) : ACall Tryd.prog 52 [.str [34, 92], .int .i32 r] h (fun x _ => ∃ i : Int, x = .int .i64 i) := by
  (refine ACall.of_code Tryd.func52 rfl ?_; simp only [Tryd.f52]; simp only [go_sem, Nat.reduceMul, Nat.reduceLT, Nat.reduceLeDiff, Nat.reduceEqDiff, Nat.reduceBEq, Int.toNat_natCast, Int.reduceToNat, Int.reduceNeg, Int.reduceLT, Int.reduceLE, Int.reduceBEq, Int.reduceBNe, decide_true, decide_false, Bool.false_eq_true, false_imp_iff, Nat.lt_irrefl])
  have hz : (bif decide ((0 : Int) ≤ r) then decide (r < 128) else false) = false := by
    rw [show decide (r < 128) = false by simp; omega]; cases decide ((0 : Int) ≤ r) <;> rfl
  generalize (bif decide ((0 : Int) ≤ r) then decide (r < 128) else false) = z at hz ⊢
  subst hz
  simp only [go_sem, Nat.reduceMul, Nat.reduceLT, Nat.reduceLeDiff, Nat.reduceEqDiff, Nat.reduceBEq, Int.toNat_natCast, Int.reduceToNat, Int.reduceNeg, Int.reduceLT, Int.reduceLE, Int.reduceBEq, Int.reduceBNe, decide_true, decide_false, Bool.false_eq_true, false_imp_iff, Nat.lt_irrefl]
  generalize hz : (r == 65533) = z
  cases z with
  | true =>
    simp only [go_sem, Nat.reduceMul, Nat.reduceLT, Nat.reduceLeDiff, Nat.reduceEqDiff, Nat.reduceBEq, Int.toNat_natCast, Int.reduceToNat, Int.reduceNeg, Int.reduceLT, Int.reduceLE, Int.reduceBEq, Int.reduceBNe, decide_true, decide_false, Bool.false_eq_true, false_imp_iff, Nat.lt_irrefl]
    refine ALoop.over [4, 5, 6, 176, 177, 178, 179, 180, 181, 182] (fun e h' => ∃ k : Nat, k ≤ 2 ∧ h' = h ++ [.it [34, 92] k]) (fun e h' => 2 - (match h'[h.length]? with | some (.it _ k) => k | _ => 0)) ⟨0, by omega, rfl⟩ ?_
    simp only [List.length_cons, List.length_nil, Nat.reduceAdd, allL_succ, allL_zero]
    intro y4 y5 y6 y176 y177 y178 y179 y180 y181 y182 h' hI
    obtain ⟨k, hk, rfl⟩ := hI
    simp only [go_sem, getElem?_app0, Nat.reduceMul, Nat.reduceLT, Nat.reduceLeDiff, Nat.reduceEqDiff, Nat.reduceBEq, Int.toNat_natCast, Int.reduceToNat, Int.reduceNeg, Int.reduceLT, Int.reduceLE, Int.reduceBEq, Int.reduceBNe, decide_true, decide_false, Bool.false_eq_true, false_imp_iff, Nat.lt_irrefl]
    refine nxG_intro (fun hp => ?_) (fun hp => ?_)
    · simp only [go_sem, Nat.reduceMul, Nat.reduceLT, Nat.reduceLeDiff, Nat.reduceEqDiff, Nat.reduceBEq, Int.toNat_natCast, Int.reduceToNat, Int.reduceNeg, Int.reduceLT, Int.reduceLE, Int.reduceBEq, Int.reduceBNe, decide_true, decide_false, Bool.false_eq_true, false_imp_iff, Nat.lt_irrefl]
      have hk2 : k < 2 := hp
      have hd : dcA [34, 92] k = (if k = 0 then 34 else 92, 1) := by
        rcases k with _ | _ | k
        · decide
        · decide
        · omega
      have hne : (((dcA [34, 92] k).1 : Int) == 65533) = false := by rw [hd]; split <;> decide
      rw [hne, show (dcA [34, 92] k).2 = 1 by rw [hd]]
      simp only [go_sem, getElem?_app0, set_app0, Nat.reduceMul, Nat.reduceLT, Nat.reduceLeDiff, Nat.reduceEqDiff, Nat.reduceBEq, Int.toNat_natCast, Int.reduceToNat, Int.reduceNeg, Int.reduceLT, Int.reduceLE, Int.reduceBEq, Int.reduceBNe, decide_true, decide_false, Bool.false_eq_true, false_imp_iff, Nat.lt_irrefl]
      exact ⟨⟨k + 1, hk2, rfl⟩, Nat.sub_lt_sub_left hk2 (Nat.lt_succ_self k)⟩
    · simp only [go_sem, Nat.reduceMul, Nat.reduceLT, Nat.reduceLeDiff, Nat.reduceEqDiff, Nat.reduceBEq, Int.toNat_natCast, Int.reduceToNat, Int.reduceNeg, Int.reduceLT, Int.reduceLE, Int.reduceBEq, Int.reduceBNe, decide_true, decide_false, Bool.false_eq_true, false_imp_iff, Nat.lt_irrefl]
      exact Fin_plain ⟨_, rfl⟩
  | false =>
    simp only [go_sem, Nat.reduceMul, Nat.reduceLT, Nat.reduceLeDiff, Nat.reduceEqDiff, Nat.reduceBEq, Int.toNat_natCast, Int.reduceToNat, Int.reduceNeg, Int.reduceLT, Int.reduceLE, Int.reduceBEq, Int.reduceBNe, decide_true, decide_false, Bool.false_eq_true, false_imp_iff, Nat.lt_irrefl]
    refine ACallT.by (validRune_ok r _) ?_
    rintro x h1 ⟨⟨b, rfl⟩, rfl⟩
    cases b with
    | false => simp only [go_sem, Nat.reduceMul, Nat.reduceLT, Nat.reduceLeDiff, Nat.reduceEqDiff, Nat.reduceBEq, Int.toNat_natCast, Int.reduceToNat, Int.reduceNeg, Int.reduceLT, Int.reduceLE, Int.reduceBEq, Int.reduceBNe, decide_true, decide_false, Bool.false_eq_true, false_imp_iff, Nat.lt_irrefl]; exact Fin_plain ⟨_, rfl⟩
    | true =>
      have hE := enc_hi r h0
      simp only [go_sem, Nat.reduceMul, Nat.reduceLT, Nat.reduceLeDiff, Nat.reduceEqDiff, Nat.reduceBEq, Int.toNat_natCast, Int.reduceToNat, Int.reduceNeg, Int.reduceLT, Int.reduceLE, Int.reduceBEq, Int.reduceBNe, decide_true, decide_false, Bool.false_eq_true, false_imp_iff, Nat.lt_irrefl]
      generalize encA r = en at *
      rcases hE with ⟨a, b, rfl, hb⟩ | ⟨a, b, c, rfl⟩ | ⟨a, b, c, d, rfl⟩
      · simp only [go_sem, Nat.reduceMul, Nat.reduceLT, Nat.reduceLeDiff, Nat.reduceEqDiff, Nat.reduceBEq, Int.toNat_natCast, Int.reduceToNat, Int.reduceNeg, Int.reduceLT, Int.reduceLE, Int.reduceBEq, Int.reduceBNe, decide_true, decide_false, Bool.false_eq_true, false_imp_iff, Nat.lt_irrefl]
        refine ALoop.over [4, 9, 10, 11, 12, 23, 24, 25, 26, 27, 28, 29, 30, 31, 32, 33, 34, 35, 36, 37, 38, 39, 40, 41, 42, 43, 44, 45, 46, 47, 48, 49, 50, 51, 52, 53, 54, 55, 56, 57, 58, 59, 60, 61, 62, 63, 64, 65, 66, 67, 68, 69, 70, 71, 72, 73, 74, 75, 76, 77, 78, 79, 80, 81, 82, 83, 84, 85, 86, 87, 88, 89, 90, 91, 92, 93, 94, 95, 96, 97, 98] (fun e h' => h' = h1 ∧ e.getD 9 .any = .int .i64 1) (fun _ _ => 0) ⟨rfl, rfl⟩ ?_
        simp only [List.length_cons, List.length_nil, Nat.reduceAdd, allL_succ, allL_zero]
        intro y4 y9 y10 y11 y12 y23 y24 y25 y26 y27 y28 y29 y30 y31 y32 y33 y34 y35 y36 y37 y38 y39 y40 y41 y42 y43 y44 y45 y46 y47 y48 y49 y50 y51 y52 y53 y54 y55 y56 y57 y58 y59 y60 y61 y62 y63 y64 y65 y66 y67 y68 y69 y70 y71 y72 y73 y74 y75 y76 y77 y78 y79 y80 y81 y82 y83 y84 y85 y86 y87 y88 y89 y90 y91 y92 y93 y94 y95 y96 y97 y98 h' hI
        simp only [go_sem] at hI
        obtain ⟨rfl, rfl⟩ := hI
        simp only [go_sem, Nat.reduceMul, Nat.reduceLT, Nat.reduceLeDiff, Nat.reduceEqDiff, Nat.reduceBEq, Int.toNat_natCast, Int.reduceToNat, Int.reduceNeg, Int.reduceLT, Int.reduceLE, Int.reduceBEq, Int.reduceBNe, decide_true, decide_false, Bool.false_eq_true, false_imp_iff, Nat.lt_irrefl]
        refine acond_intro (fun hc => ?_) (fun hc => absurd hc (by decide))
        simp only [go_sem, Nat.reduceMul, Nat.reduceLT, Nat.reduceLeDiff, Nat.reduceEqDiff, Nat.reduceBEq, Int.toNat_natCast, Int.reduceToNat, Int.reduceNeg, Int.reduceLT, Int.reduceLE, Int.reduceBEq, Int.reduceBNe, decide_true, decide_false, Bool.false_eq_true, false_imp_iff, Nat.lt_irrefl]
        refine ADrawT.quiet mixedOrdersD (by kernel_rfl) ?_
        simp only [go_sem, Nat.reduceMul, Nat.reduceLT, Nat.reduceLeDiff, Nat.reduceEqDiff, Nat.reduceBEq, Int.toNat_natCast, Int.reduceToNat, Int.reduceNeg, Int.reduceLT, Int.reduceLE, Int.reduceBEq, Int.reduceBNe, decide_true, decide_false, Bool.false_eq_true, false_imp_iff, Nat.lt_irrefl]
        refine ⟨by decide, by decide, ?_⟩
        rw [show IntKind.i64.wrap (((2 : Nat) : Int) - 1) = 1 from rfl]
        refine acond_intro (fun hc => ?_) (fun hc => ?_)
        · simp only [go_sem, Nat.reduceMul, Nat.reduceLT, Nat.reduceLeDiff, Nat.reduceEqDiff, Nat.reduceBEq, Int.toNat_natCast, Int.reduceToNat, Int.reduceNeg, Int.reduceLT, Int.reduceLE, Int.reduceBEq, Int.reduceBNe, decide_true, decide_false, Bool.false_eq_true, false_imp_iff, Nat.lt_irrefl]
          refine ADrawT.quiet mixedOrdersD (by kernel_rfl) ?_
          simp only [go_sem, Nat.reduceMul, Nat.reduceLT, Nat.reduceLeDiff, Nat.reduceEqDiff, Nat.reduceBEq, Int.toNat_natCast, Int.reduceToNat, Int.reduceNeg, Int.reduceLT, Int.reduceLE, Int.reduceBEq, Int.reduceBNe, decide_true, decide_false, Bool.false_eq_true, false_imp_iff, Nat.lt_irrefl]
          refine ⟨by decide, by decide, ?_⟩
          refine doX_intro (.int .i64 (-1)) ?_ ?_
          · simp only [go_sem, Nat.reduceMul, Nat.reduceLT, Nat.reduceLeDiff, Nat.reduceEqDiff, Nat.reduceBEq, Int.toNat_natCast, Int.reduceToNat, Int.reduceNeg, Int.reduceLT, Int.reduceLE, Int.reduceBEq, Int.reduceBNe, decide_true, decide_false, Bool.false_eq_true, false_imp_iff, Nat.lt_irrefl]
            rw [show IntKind.i64.wrap (1 + 1) = 2 from rfl]
            refine ACallT.by (indexByte_ok _ _ _) ?_
            rintro x h2 ⟨rfl, rfl⟩
            simp only [go_sem, Nat.reduceMul, Nat.reduceLT, Nat.reduceLeDiff, Nat.reduceEqDiff, Nat.reduceBEq, Int.toNat_natCast, Int.reduceToNat, Int.reduceNeg, Int.reduceLT, Int.reduceLE, Int.reduceBEq, Int.reduceBNe, decide_true, decide_false, Bool.false_eq_true, false_imp_iff, Nat.lt_irrefl]
            rfl
          · simp only [go_sem, Nat.reduceMul, Nat.reduceLT, Nat.reduceLeDiff, Nat.reduceEqDiff, Nat.reduceBEq, Int.toNat_natCast, Int.reduceToNat, Int.reduceNeg, Int.reduceLT, Int.reduceLE, Int.reduceBEq, Int.reduceBNe, decide_true, decide_false, Bool.false_eq_true, false_imp_iff, Nat.lt_irrefl]
            exact Fin_plain ⟨_, rfl⟩
        · exfalso
          have hc2 : (((UInt8.toNat 92 : Nat) : Int) != ((([a, b].getD 1 0).toNat : Nat) : Int)) = false := hc
          simp only [List.getD_cons_succ, List.getD_cons_zero] at hc2
          have : ((UInt8.toNat 92 : Nat) : Int) = ((b.toNat : Nat) : Int) := by simpa using hc2
          have h92 : UInt8.toNat 92 = 92 := rfl
          omega
      · simp only [go_sem, Nat.reduceMul, Nat.reduceLT, Nat.reduceLeDiff, Nat.reduceEqDiff, Nat.reduceBEq, Int.toNat_natCast, Int.reduceToNat, Int.reduceNeg, Int.reduceLT, Int.reduceLE, Int.reduceBEq, Int.reduceBNe, decide_true, decide_false, Bool.false_eq_true, false_imp_iff, Nat.lt_irrefl]
        refine ALoop.over [4, 9, 10, 11, 12, 23, 24, 25, 26, 27, 28, 29, 30, 31, 32, 33, 34, 35, 36, 37, 38, 39, 40, 41, 42, 43, 44, 45, 46, 47, 48, 49, 50, 51, 52, 53, 54, 55, 56, 57, 58, 59, 60, 61, 62, 63, 64, 65, 66, 67, 68, 69, 70, 71, 72, 73, 74, 75, 76, 77, 78, 79, 80, 81, 82, 83, 84, 85, 86, 87, 88, 89, 90, 91, 92, 93, 94, 95, 96, 97, 98] (fun e h' => h' = h1 ∧ e.getD 9 .any = .int .i64 2) (fun _ _ => 0) ⟨rfl, rfl⟩ ?_
        simp only [List.length_cons, List.length_nil, Nat.reduceAdd, allL_succ, allL_zero]
        intro y4 y9 y10 y11 y12 y23 y24 y25 y26 y27 y28 y29 y30 y31 y32 y33 y34 y35 y36 y37 y38 y39 y40 y41 y42 y43 y44 y45 y46 y47 y48 y49 y50 y51 y52 y53 y54 y55 y56 y57 y58 y59 y60 y61 y62 y63 y64 y65 y66 y67 y68 y69 y70 y71 y72 y73 y74 y75 y76 y77 y78 y79 y80 y81 y82 y83 y84 y85 y86 y87 y88 y89 y90 y91 y92 y93 y94 y95 y96 y97 y98 h' hI
        simp only [go_sem] at hI
        obtain ⟨rfl, rfl⟩ := hI
        simp only [go_sem, Nat.reduceMul, Nat.reduceLT, Nat.reduceLeDiff, Nat.reduceEqDiff, Nat.reduceBEq, Int.toNat_natCast, Int.reduceToNat, Int.reduceNeg, Int.reduceLT, Int.reduceLE, Int.reduceBEq, Int.reduceBNe, decide_true, decide_false, Bool.false_eq_true, false_imp_iff, Nat.lt_irrefl]
        refine acond_intro (fun hc => absurd hc (by decide)) (fun hc => ?_)
        simp only [go_sem, Nat.reduceMul, Nat.reduceLT, Nat.reduceLeDiff, Nat.reduceEqDiff, Nat.reduceBEq, Int.toNat_natCast, Int.reduceToNat, Int.reduceNeg, Int.reduceLT, Int.reduceLE, Int.reduceBEq, Int.reduceBNe, decide_true, decide_false, Bool.false_eq_true, false_imp_iff, Nat.lt_irrefl]
        exact Fin_plain ⟨_, rfl⟩
      · simp only [go_sem, Nat.reduceMul, Nat.reduceLT, Nat.reduceLeDiff, Nat.reduceEqDiff, Nat.reduceBEq, Int.toNat_natCast, Int.reduceToNat, Int.reduceNeg, Int.reduceLT, Int.reduceLE, Int.reduceBEq, Int.reduceBNe, decide_true, decide_false, Bool.false_eq_true, false_imp_iff, Nat.lt_irrefl]
        refine ALoop.over [4, 9, 10, 11, 12, 23, 24, 25, 26, 27, 28, 29, 30, 31, 32, 33, 34, 35, 36, 37, 38, 39, 40, 41, 42, 43, 44, 45, 46, 47, 48, 49, 50, 51, 52, 53, 54, 55, 56, 57, 58, 59, 60, 61, 62, 63, 64, 65, 66, 67, 68, 69, 70, 71, 72, 73, 74, 75, 76, 77, 78, 79, 80, 81, 82, 83, 84, 85, 86, 87, 88, 89, 90, 91, 92, 93, 94, 95, 96, 97, 98] (fun e h' => h' = h1 ∧ e.getD 9 .any = .int .i64 3) (fun _ _ => 0) ⟨rfl, rfl⟩ ?_
        simp only [List.length_cons, List.length_nil, Nat.reduceAdd, allL_succ, allL_zero]
        intro y4 y9 y10 y11 y12 y23 y24 y25 y26 y27 y28 y29 y30 y31 y32 y33 y34 y35 y36 y37 y38 y39 y40 y41 y42 y43 y44 y45 y46 y47 y48 y49 y50 y51 y52 y53 y54 y55 y56 y57 y58 y59 y60 y61 y62 y63 y64 y65 y66 y67 y68 y69 y70 y71 y72 y73 y74 y75 y76 y77 y78 y79 y80 y81 y82 y83 y84 y85 y86 y87 y88 y89 y90 y91 y92 y93 y94 y95 y96 y97 y98 h' hI
        simp only [go_sem] at hI
        obtain ⟨rfl, rfl⟩ := hI
        simp only [go_sem, Nat.reduceMul, Nat.reduceLT, Nat.reduceLeDiff, Nat.reduceEqDiff, Nat.reduceBEq, Int.toNat_natCast, Int.reduceToNat, Int.reduceNeg, Int.reduceLT, Int.reduceLE, Int.reduceBEq, Int.reduceBNe, decide_true, decide_false, Bool.false_eq_true, false_imp_iff, Nat.lt_irrefl]
        refine acond_intro (fun hc => absurd hc (by decide)) (fun hc => ?_)
        simp only [go_sem, Nat.reduceMul, Nat.reduceLT, Nat.reduceLeDiff, Nat.reduceEqDiff, Nat.reduceBEq, Int.toNat_natCast, Int.reduceToNat, Int.reduceNeg, Int.reduceLT, Int.reduceLE, Int.reduceBEq, Int.reduceBNe, decide_true, decide_false, Bool.false_eq_true, false_imp_iff, Nat.lt_irrefl]
        exact Fin_plain ⟨_, rfl⟩
theorem dc_w (s : Str) (k : Nat) (h : k < s.length) : 1 ≤ (dcA s k).2 ∧ k + (dcA s k).2 ≤ s.length := by
  have hsz : (⟨⟨s⟩⟩ : ByteArray).size = s.length := rfl
  unfold dcA
  simp only [Utf8.decode, hsz]
  split
  · exact ⟨by show 1 ≤ 1; omega, by show k + 1 ≤ _; omega⟩
  · split
    · rename_i hc
      simp only [Bool.and_eq_true, decide_eq_true_eq] at hc
      split
      · exact ⟨by show 1 ≤ 2; omega, by show k + 2 ≤ _; omega⟩
      · exact ⟨by show 1 ≤ 1; omega, by show k + 1 ≤ _; omega⟩
    · split
      · rename_i hc
        simp only [Bool.and_eq_true, decide_eq_true_eq] at hc
        split
        · exact ⟨by show 1 ≤ 3; omega, by show k + 3 ≤ _; omega⟩
        · exact ⟨by show 1 ≤ 1; omega, by show k + 1 ≤ _; omega⟩
      · split
        · rename_i hc
          simp only [Bool.and_eq_true, decide_eq_true_eq] at hc
          split
          · exact ⟨by show 1 ≤ 4; omega, by show k + 4 ≤ _; omega⟩
          · exact ⟨by show 1 ≤ 1; omega, by show k + 1 ≤ _; omega⟩
        · exact ⟨by show 1 ≤ 1; omega, by show k + 1 ≤ _; omega⟩
theorem useSet_ok (n : Int) (h : List AObj) : ACall Tryd.prog 76 [.int .i64 n] h (fun r h' => r = .bool (decide (8 < n)) ∧ h' = h) := by
  (refine ACall.of_code Tryd.func76 rfl ?_; simp only [Tryd.f76]; simp only [go_sem, Nat.reduceMul, Nat.reduceLT, Nat.reduceLeDiff, Nat.reduceEqDiff, Nat.reduceBEq, Int.toNat_natCast, Int.reduceToNat, Int.reduceNeg, Int.reduceLT, Int.reduceLE, Int.reduceBEq, Int.reduceBNe, decide_true, decide_false, Bool.false_eq_true, false_imp_iff, Nat.lt_irrefl])
  exact Fin_plain ⟨rfl, rfl⟩
def barS : Str := [34, 92]
theorem indexAny_short (s : Str) (h : List AObj) (hs : s.length ≤ 8) : ACall Tryd.prog 68 [.str s, .str barS] h (fun x _ => ∃ i : Int, x = .int .i64 i) := by
  have hb2 : barS.length = 2 := rfl
  rw [barS]
  (refine ACall.of_code Tryd.func68 rfl ?_; simp only [Tryd.f68]; simp only [go_sem, Nat.reduceMul, Nat.reduceLT, Nat.reduceLeDiff, Nat.reduceEqDiff, Nat.reduceBEq, Int.toNat_natCast, Int.reduceToNat, Int.reduceNeg, Int.reduceLT, Int.reduceLE, Int.reduceBEq, Int.reduceBNe, decide_true, decide_false, Bool.false_eq_true, false_imp_iff, Nat.lt_irrefl])
  refine acond_intro (fun hc => absurd hc (by decide)) (fun hc => ?_)
  simp only [go_sem, Nat.reduceMul, Nat.reduceLT, Nat.reduceLeDiff, Nat.reduceEqDiff, Nat.reduceBEq, Int.toNat_natCast, Int.reduceToNat, Int.reduceNeg, Int.reduceLT, Int.reduceLE, Int.reduceBEq, Int.reduceBNe, decide_true, decide_false, Bool.false_eq_true, false_imp_iff, Nat.lt_irrefl]
  refine acond_intro (fun hc => absurd hc (by decide)) (fun hc => ?_)
  simp only [go_sem, Nat.reduceMul, Nat.reduceLT, Nat.reduceLeDiff, Nat.reduceEqDiff, Nat.reduceBEq, Int.toNat_natCast, Int.reduceToNat, Int.reduceNeg, Int.reduceLT, Int.reduceLE, Int.reduceBEq, Int.reduceBNe, decide_true, decide_false, Bool.false_eq_true, false_imp_iff, Nat.lt_irrefl]
  refine ACallT.by (useSet_ok _ _) ?_
  rintro x h1 ⟨rfl, rfl⟩
  rw [show decide ((8 : Int) < (s.length : Int)) = false by simp; omega]
  simp only [go_sem, Nat.reduceMul, Nat.reduceLT, Nat.reduceLeDiff, Nat.reduceEqDiff, Nat.reduceBEq, Int.toNat_natCast, Int.reduceToNat, Int.reduceNeg, Int.reduceLT, Int.reduceLE, Int.reduceBEq, Int.reduceBNe, decide_true, decide_false, Bool.false_eq_true, false_imp_iff, Nat.lt_irrefl]
  refine ALoop.over [4, 9, 10, 46, 47, 48, 49, 50, 51, 52, 53, 54] (fun e h' => ∃ k : Nat, k ≤ s.length ∧ h' = h1 ++ [.it s k]) (fun e h' => s.length - (match h'[h1.length]? with | some (.it _ k) => k | _ => 0)) ⟨0, by omega, rfl⟩ ?_
  simp only [List.length_cons, List.length_nil, Nat.reduceAdd, allL_succ, allL_zero]
  intro y4 y9 y10 y46 y47 y48 y49 y50 y51 y52 y53 y54 h' hI
  obtain ⟨k, hk, rfl⟩ := hI
  simp only [go_sem, getElem?_app0, Nat.reduceMul, Nat.reduceLT, Nat.reduceLeDiff, Nat.reduceEqDiff, Nat.reduceBEq, Int.toNat_natCast, Int.reduceToNat, Int.reduceNeg, Int.reduceLT, Int.reduceLE, Int.reduceBEq, Int.reduceBNe, decide_true, decide_false, Bool.false_eq_true, false_imp_iff, Nat.lt_irrefl]
  refine nxG_intro (fun hp => ?_) (fun hp => ?_)
  · simp only [go_sem, Nat.reduceMul, Nat.reduceLT, Nat.reduceLeDiff, Nat.reduceEqDiff, Nat.reduceBEq, Int.toNat_natCast, Int.reduceToNat, Int.reduceNeg, Int.reduceLT, Int.reduceLE, Int.reduceBEq, Int.reduceBNe, decide_true, decide_false, Bool.false_eq_true, false_imp_iff, Nat.lt_irrefl]
    obtain ⟨hw1, hw2⟩ := dc_w s k hp
    have hcall : ∀ h, ACall Tryd.prog 52 [.str [34, 92], .int .i32 ((dcA s k).1 : Int)] h (fun x _ => ∃ i : Int, x = .int .i64 i) := fun h => by
      by_cases q : (dcA s k).1 < 128
      · refine (indexRune_lo _ _ h (by omega) (by omega)).mono ?_
        rintro x h2 ⟨rfl, rfl⟩
        exact ⟨_, rfl⟩
      · exact indexRune_hi _ h (by omega)
    refine ACallT.frame (hcall _) ?_
    rintro x h2 ⟨i, rfl⟩
    refine ⟨by (first | rfl | (simp only [AV.low, lowL, low_strs, low_bytes, Bool.and_true, Bool.and_self])), ?_⟩
    simp only [go_sem, Nat.reduceMul, Nat.reduceLT, Nat.reduceLeDiff, Nat.reduceEqDiff, Nat.reduceBEq, Int.toNat_natCast, Int.reduceToNat, Int.reduceNeg, Int.reduceLT, Int.reduceLE, Int.reduceBEq, Int.reduceBNe, decide_true, decide_false, Bool.false_eq_true, false_imp_iff, Nat.lt_irrefl]
    refine acond_intro (fun hc => ?_) (fun hc => ?_)
    · simp only [go_sem, Nat.reduceMul, Nat.reduceLT, Nat.reduceLeDiff, Nat.reduceEqDiff, Nat.reduceBEq, Int.toNat_natCast, Int.reduceToNat, Int.reduceNeg, Int.reduceLT, Int.reduceLE, Int.reduceBEq, Int.reduceBNe, decide_true, decide_false, Bool.false_eq_true, false_imp_iff, Nat.lt_irrefl]
      exact Fin_plain ⟨_, rfl⟩
    · simp only [go_sem, getElem?_app0, set_app0, Nat.reduceMul, Nat.reduceLT, Nat.reduceLeDiff, Nat.reduceEqDiff, Nat.reduceBEq, Int.toNat_natCast, Int.reduceToNat, Int.reduceNeg, Int.reduceLT, Int.reduceLE, Int.reduceBEq, Int.reduceBNe, decide_true, decide_false, Bool.false_eq_true, false_imp_iff, Nat.lt_irrefl]
      exact ⟨⟨_, hw2, rfl⟩, Nat.sub_lt_sub_left hp (Nat.lt_add_of_pos_right hw1)⟩
  · simp only [go_sem, Nat.reduceMul, Nat.reduceLT, Nat.reduceLeDiff, Nat.reduceEqDiff, Nat.reduceBEq, Int.toNat_natCast, Int.reduceToNat, Int.reduceNeg, Int.reduceLT, Int.reduceLE, Int.reduceBEq, Int.reduceBNe, decide_true, decide_false, Bool.false_eq_true, false_imp_iff, Nat.lt_irrefl]
    exact Fin_plain ⟨_, rfl⟩
theorem indexAny_long (s : Str) (h : List AObj) (h8 : 8 < s.length) (hs : s.length < 4294967281) : ACall Tryd.prog 68 [.str s, .str barS] h (fun x _ => ∃ i : Int, x = .int .i64 i) := by
  unfold ACall; intro w β fr us L Rr
  obtain ⟨a, b, rfl, rfl, hb⟩ := two_args Rr
  have hb3 : b.data.toList.length = 2 := by rw [hb]; rfl
  refine (Tryd.strings_IndexAny_long (zero_of_info (n := 256) (by kernel_rfl)).1 a b w (by rw [bsize]; omega) (by rw [bsize]; exact h8) (by rw [bsize]; exact hs) (by rw [bsize]; omega) (fun j x hx => ?_)).mono ?_
  · rw [hb] at hx
    have := List.mem_of_getElem? hx
    simp only [barS, List.mem_cons, List.not_mem_nil, or_false] at this
    rcases this with rfl | rfl <;> decide
  rintro e w' ⟨rfl, B⟩
  have B2 : Go.RowKit.Below w.heap.size w w' := by
    rw [B]; exact ((Go.RowKit.Below.refl _ _).alloc (Nat.le_refl _) _).alloc (by simp) _
  obtain ⟨L', S'⟩ := below_lay L B2
  exact ⟨_, .int .i64 (Lib.indexAny a.data.toList b.data.toList), _, β, fr, rfl, ⟨_, rfl⟩, L', by simp [Rep], S'⟩
theorem containsAny_any (s : Str) (h : List AObj) (hs : s.length < 4294967281) : ACall Tryd.prog 55 [.str s, .str barS] h (fun x _ => ∃ b : Bool, x = .bool b) := by
  have hi : ∀ h, ACall Tryd.prog 68 [.str s, .str barS] h (fun x _ => ∃ i : Int, x = .int .i64 i) := fun h => by
    by_cases q : s.length ≤ 8
    · exact indexAny_short s h q
    · exact indexAny_long s h (by omega) hs
  (refine ACall.of_code Tryd.func55 rfl ?_; simp only [Tryd.f55]; simp only [go_sem, Nat.reduceMul, Nat.reduceLT, Nat.reduceLeDiff, Nat.reduceEqDiff, Nat.reduceBEq, Int.toNat_natCast, Int.reduceToNat, Int.reduceNeg, Int.reduceLT, Int.reduceLE, Int.reduceBEq, Int.reduceBNe, decide_true, decide_false, Bool.false_eq_true, false_imp_iff, Nat.lt_irrefl])
  refine ACallT.by (hi _) ?_
  rintro x h2 ⟨i, rfl⟩
  simp only [go_sem, Nat.reduceMul, Nat.reduceLT, Nat.reduceLeDiff, Nat.reduceEqDiff, Nat.reduceBEq, Int.toNat_natCast, Int.reduceToNat, Int.reduceNeg, Int.reduceLT, Int.reduceLE, Int.reduceBEq, Int.reduceBNe, decide_true, decide_false, Bool.false_eq_true, false_imp_iff, Nat.lt_irrefl]
  exact Fin_plain ⟨_, rfl⟩
theorem value_all (s : Str) (h : List AObj) (hs : s.length ≤ 9223372036854775807) : ACall Tryd.prog 45 [.str s] h (fun r _ => r = .bool (valueS s)) := by
  by_cases ha : ascii s = true
  · exact value_ok s h hs ha
  have hbad : s.any badB = true := by
    rw [ascii, List.all_eq_true] at ha
    simp only [Classical.not_forall] at ha
    obtain ⟨b, hb, hb2⟩ := ha
    rw [List.any_eq_true]
    refine ⟨b, hb, ?_⟩
    have : 128 ≤ b.toNat := by simpa using hb2
    simp only [badB, badR]
    rw [show decide ((126 : Int) < ((b.toNat : Nat) : Int)) = true by simp; omega]
    cases decide (((b.toNat : Nat) : Int) < 32) <;> rfl
  have hv : valueS s = false := by rw [valueS, hbad]; simp
  (refine ACall.of_code Tryd.func45 rfl ?_; simp only [Tryd.f45]; simp only [go_sem, Nat.reduceMul, Nat.reduceLT, Nat.reduceLeDiff, Nat.reduceEqDiff, Nat.reduceBEq, Int.toNat_natCast, Int.reduceToNat, Int.reduceNeg, Int.reduceLT, Int.reduceLE, Int.reduceBEq, Int.reduceBNe, decide_true, decide_false, Bool.false_eq_true, false_imp_iff, Nat.lt_irrefl])
  generalize hz : decide (((List.length s : Nat) : Int) ≤ 24) = z
  cases z with
  | false => simp only [go_sem, Nat.reduceMul, Nat.reduceLT, Nat.reduceLeDiff, Nat.reduceEqDiff, Nat.reduceBEq, Int.toNat_natCast, Int.reduceToNat, Int.reduceNeg, Int.reduceLT, Int.reduceLE, Int.reduceBEq, Int.reduceBNe, decide_true, decide_false, Bool.false_eq_true, false_imp_iff, Nat.lt_irrefl]; exact Fin_plain (by rw [hv])
  | true =>
    have := of_decide_eq_true hz
    simp only [go_sem, Nat.reduceMul, Nat.reduceLT, Nat.reduceLeDiff, Nat.reduceEqDiff, Nat.reduceBEq, Int.toNat_natCast, Int.reduceToNat, Int.reduceNeg, Int.reduceLT, Int.reduceLE, Int.reduceBEq, Int.reduceBNe, decide_true, decide_false, Bool.false_eq_true, false_imp_iff, Nat.lt_irrefl]
    refine ACallT.by (containsAny_any s _ (by omega)) ?_
    rintro r h1 ⟨b, rfl⟩
    cases b with
    | true => simp only [go_sem, Nat.reduceMul, Nat.reduceLT, Nat.reduceLeDiff, Nat.reduceEqDiff, Nat.reduceBEq, Int.toNat_natCast, Int.reduceToNat, Int.reduceNeg, Int.reduceLT, Int.reduceLE, Int.reduceBEq, Int.reduceBNe, decide_true, decide_false, Bool.false_eq_true, false_imp_iff, Nat.lt_irrefl]; exact Fin_plain (by rw [hv])
    | false =>
      simp only [go_sem, Nat.reduceMul, Nat.reduceLT, Nat.reduceLeDiff, Nat.reduceEqDiff, Nat.reduceBEq, Int.toNat_natCast, Int.reduceToNat, Int.reduceNeg, Int.reduceLT, Int.reduceLE, Int.reduceBEq, Int.reduceBNe, decide_true, decide_false, Bool.false_eq_true, false_imp_iff, Nat.lt_irrefl]
      refine ACallT.by (containsF_ok s _ hs) ?_
      rintro r h2 rfl
      simp only [go_sem, Nat.reduceMul, Nat.reduceLT, Nat.reduceLeDiff, Nat.reduceEqDiff, Nat.reduceBEq, Int.toNat_natCast, Int.reduceToNat, Int.reduceNeg, Int.reduceLT, Int.reduceLE, Int.reduceBEq, Int.reduceBNe, decide_true, decide_false, Bool.false_eq_true, false_imp_iff, Nat.lt_irrefl]
      exact Fin_plain (by rw [hv, hbad]; rfl)

def badV (b : UInt8) : Bool := [(34 : UInt8), 92].contains b || badB b
theorem value_any (s : Str) : valueS s = (decide (s.length ≤ 24) && !(s.any badV)) := by
  have : s.any badV = ((s.any fun b => [(34 : UInt8), 92].contains b) || s.any badB) := by
    induction s with
    | nil => rfl
    | cons b s ih => simp only [List.any_cons, ih, badV]; cases [(34 : UInt8), 92].contains b <;> cases badB b <;> simp
  rw [valueS, this]; cases decide (s.length ≤ 24) <;> cases (s.any fun b => [(34 : UInt8), 92].contains b) <;> simp
theorem badV_eq (b : UInt8) : (bif bif bif decide (((b.toNat : Nat) : Int) < 32) then true else decide ((126 : Int) < ((b.toNat : Nat) : Int)) then true else ((b.toNat : Nat) : Int) == 34 then true else ((b.toNat : Nat) : Int) == 92) = badV b := by
  have e1 : (((b.toNat : Nat) : Int) == 34) = (b == 34) := by
    rw [Bool.eq_iff_iff, beq_iff_eq, beq_iff_eq, ← UInt8.toNat_inj]; simp; omega
  have e2 : (((b.toNat : Nat) : Int) == 92) = (b == 92) := by
    rw [Bool.eq_iff_iff, beq_iff_eq, beq_iff_eq, ← UInt8.toNat_inj]; simp; omega
  rw [e1, e2]
  simp only [badV, badB, badR, List.contains_cons, List.contains_nil, Bool.or_false]
  cases decide (((b.toNat : Nat) : Int) < 32) <;> cases decide ((126 : Int) < ((b.toNat : Nat) : Int)) <;> cases (b == 34) <;> cases (b == 92) <;> rfl
theorem rvalue_ok (s : Str) (h : List AObj) (hs : s.length ≤ 9223372036854775807) : ACall Tryd.prog 35 [.str s] h (fun r h' => r = .bool (valueS s) ∧ h' = h) := by
  (refine ACall.of_code Tryd.func35 rfl ?_; simp only [Tryd.f35]; simp only [go_sem, Nat.reduceMul, Nat.reduceLT, Nat.reduceLeDiff, Nat.reduceEqDiff, Nat.reduceBEq, Int.toNat_natCast, Int.reduceToNat, Int.reduceNeg, Int.reduceLT, Int.reduceLE, Int.reduceBEq, Int.reduceBNe, decide_true, decide_false, Bool.false_eq_true, false_imp_iff, Nat.lt_irrefl])
  refine ALoop.over [2, 3, 4, 5, 6, 7, 8, 9, 10, 11, 12, 13, 14, 15, 16, 17, 18, 19, 20, 21, 22, 23, 24, 25, 26, 27, 28, 29, 30, 31] (fun e h' => h' = h ∧ ∃ k : Nat, k ≤ s.length ∧ e.getD 3 .any = .int .i64 k ∧ (s.take k).any badV = false) (fun e _ => s.length - natA (e.getD 3 .any)) ⟨rfl, 0, by simp, rfl, by simp⟩ ?_
  simp only [List.length_cons, List.length_nil, Nat.reduceAdd, allL_succ, allL_zero]
  intro y2 y3 y4 y5 y6 y7 y8 y9 y10 y11 y12 y13 y14 y15 y16 y17 y18 y19 y20 y21 y22 y23 y24 y25 y26 y27 y28 y29 y30 y31 h' hI
  simp only [go_sem] at hI
  obtain ⟨rfl, k, hk, rfl, hall⟩ := hI
  simp only [go_sem, Nat.reduceMul, Nat.reduceLT, Nat.reduceLeDiff, Nat.reduceEqDiff, Nat.reduceBEq, Int.toNat_natCast, Int.reduceToNat, Int.reduceNeg, Int.reduceLT, Int.reduceLE, Int.reduceBEq, Int.reduceBNe, decide_true, decide_false, Bool.false_eq_true, false_imp_iff, Nat.lt_irrefl]
  refine acond_intro (fun hc => ?_) (fun hc => ?_)
  · have hlt : k < s.length := by have := of_decide_eq_true hc; omega
    simp only [go_sem, Nat.reduceMul, Nat.reduceLT, Nat.reduceLeDiff, Nat.reduceEqDiff, Nat.reduceBEq, Int.toNat_natCast, Int.reduceToNat, Int.reduceNeg, Int.reduceLT, Int.reduceLE, Int.reduceBEq, Int.reduceBNe, decide_true, decide_false, Bool.false_eq_true, false_imp_iff, Nat.lt_irrefl]
    have hget : List.getD s k 0 = s[k] := by rw [List.getD_eq_getElem?_getD, List.getElem?_eq_getElem hlt]; rfl
    rw [hget]
    refine ⟨⟨by omega, by omega⟩, fun q => ⟨q, by omega, by omega⟩, fun q => ⟨q, by omega, by omega⟩, fun q => ⟨q, by omega, by omega⟩, ?_⟩
    rw [badV_eq]
    generalize hv : badV s[k] = v
    cases v with
    | true =>
      simp only [go_sem, Nat.reduceMul, Nat.reduceLT, Nat.reduceLeDiff, Nat.reduceEqDiff, Nat.reduceBEq, Int.toNat_natCast, Int.reduceToNat, Int.reduceNeg, Int.reduceLT, Int.reduceLE, Int.reduceBEq, Int.reduceBNe, decide_true, decide_false, Bool.false_eq_true, false_imp_iff, Nat.lt_irrefl]
      refine Fin_plain ⟨?_, rfl⟩
      have : s.any badV = true := by rw [List.any_eq_true]; exact ⟨s[k], List.getElem_mem _, hv⟩
      rw [value_any, this]; simp
    | false =>
      simp only [go_sem, Nat.reduceMul, Nat.reduceLT, Nat.reduceLeDiff, Nat.reduceEqDiff, Nat.reduceBEq, Int.toNat_natCast, Int.reduceToNat, Int.reduceNeg, Int.reduceLT, Int.reduceLE, Int.reduceBEq, Int.reduceBNe, decide_true, decide_false, Bool.false_eq_true, false_imp_iff, Nat.lt_irrefl]
      rw [wrap_id (by omega) (by omega)]
      refine ⟨⟨k + 1, by omega, rfl, ?_⟩, by omega⟩
      rw [List.take_succ_eq_append_getElem hlt, List.any_append, hall]; simp [hv]
  · have hge : k = s.length := by have := of_decide_eq_false hc; omega
    subst hge
    rw [List.take_length] at hall
    simp only [go_sem, Nat.reduceMul, Nat.reduceLT, Nat.reduceLeDiff, Nat.reduceEqDiff, Nat.reduceBEq, Int.toNat_natCast, Int.reduceToNat, Int.reduceNeg, Int.reduceLT, Int.reduceLE, Int.reduceBEq, Int.reduceBNe, decide_true, decide_false, Bool.false_eq_true, false_imp_iff, Nat.lt_irrefl]
    refine Fin_plain ⟨?_, rfl⟩
    rw [value_any, hall]; simp; omega
end Go.Proofs.Vale

set_option linter.unusedVariables false
set_option linter.unusedSimpArgs false
set_option maxHeartbeats 4000000
set_option maxRecDepth 100000
namespace Go.Proofs.Vale
open Go.Proofs Go.Proofs.YtchboekipfpheaaDoorT
attribute [local irreducible] acode aopsL aopsT dopsL dopsT dmL dmT pop popG aop ALoop ADraw ACall AWP AFin acondT ALoopT ADrawT ACallT doP doG doGd

/-! ### What the library does -/
theorem one_arg {β : Beta} {fr : Nat → Prop} {H : Array Obj} {s : Str} {us : Array Value} (R : CellsRep β fr H [.str s] us) : ∃ a : ByteArray, us = #[.string a] ∧ a.data.toList = s := by
  obtain ⟨hvs, hv⟩ := R
  obtain ⟨v, hv1, hv2⟩ := hv 0 (by simp)
  simp only [List.getElem_cons_zero, Rep] at hv2
  obtain ⟨a, rfl, ha⟩ := hv2
  refine ⟨a, ?_, ha⟩
  apply Array.ext_getElem?
  intro i
  rcases i with _ | i
  · rw [hv1]; rfl
  · rw [Array.getElem?_eq_none (by rw [hvs]; simp), Array.getElem?_eq_none (by simp)]
def gapS : Str := [32, 9, 10]
theorem trimLeft_ok (s : Str) (h : List AObj) : ACall Tryd.prog 15 [.str s, .str gapS] h (fun r h' => r = .str (Lib.trimLeftS s gapS) ∧ h' = h) := by
  unfold ACall; intro w β fr us L Rr
  obtain ⟨a, b, rfl, rfl, hb⟩ := two_args Rr
  have hb3 : b.data.toList.length = 3 := by rw [hb]; rfl
  refine (Any.strings_TrimLeft_laid Tryd.lays161 (by kernel_rfl) a b w (by rw [bsize]; omega) (fun j x hx => ?_)).mono ?_
  · rw [hb] at hx
    have := List.mem_of_getElem? hx
    simp only [gapS, List.mem_cons, List.not_mem_nil, or_false] at this
    rcases this with rfl | rfl | rfl <;> decide
  rintro e w' ⟨rfl, B⟩
  obtain ⟨L', S'⟩ := below_lay L B
  refine ⟨_, _, _, β, fr, rfl, ⟨rfl, rfl⟩, L', ?_, S'⟩
  simp only [Rep]
  exact ⟨_, rfl, by rw [hb]⟩
theorem hasPrefix_ok (s p : Str) (h : List AObj) : ACall Tryd.prog 48 [.str s, .str p] h (fun r h' => r = .bool (Lib.hasPrefix s p) ∧ h' = h) := by
  unfold ACall; intro w β fr us L Rr
  obtain ⟨a, b, rfl, rfl, rfl⟩ := two_args Rr
  refine (Tryd.strings_HasPrefix a b w).mono ?_
  rintro e w' ⟨rfl, rfl⟩
  exact ⟨_, _, _, β, fr, rfl, ⟨rfl, rfl⟩, L, by simp [Rep], Step1.refl _ _ _ _⟩
theorem trimPrefix_ok (s p : Str) (h : List AObj) : ACall Tryd.prog 47 [.str s, .str p] h (fun r h' => r = .str (Lib.trimPrefix s p) ∧ h' = h) := by
  unfold ACall; intro w β fr us L Rr
  obtain ⟨a, b, rfl, rfl, rfl⟩ := two_args Rr
  refine (Tryd.strings_TrimPrefix a b w).mono ?_
  rintro e w' ⟨rfl, rfl⟩
  refine ⟨_, _, _, β, fr, rfl, ⟨rfl, rfl⟩, L, ?_, Step1.refl _ _ _ _⟩
  simp only [Rep]
  exact ⟨_, rfl, rfl⟩
/-- What strconv.Atoi comes to. -/
def atoiK (s : Str) (r : AV) : Prop :=
  match Lib.atoiAll s with
  | .ok v => r = .tup [.int .i64 v, .nili]
  | _ => ∃ n, r = .tup [.int .i64 n, .iface 92 .any]
theorem tup2_rep {β : Beta} {fr : Nat → Prop} {H : Array Obj} {x y : AV} {u v : Value} (hx : Rep β fr H x u) (hy : Rep β fr H y v) : Rep β fr H (.tup [x, y]) (.tuple #[u, v]) := by
  simp only [Rep]
  refine ⟨_, rfl, rfl, fun j hj => ?_⟩
  rcases j with _ | _ | j
  · exact ⟨u, rfl, hx⟩
  · exact ⟨v, rfl, hy⟩
  · simp at hj; omega
theorem err_at {β : Beta} {fr : Nat → Prop} {w : World} {h : List AObj} (L : Lay β fr w.heap h) (g : Nat) (hg : (g, errP) ∈ tabs) : ∃ ev, w.cell? ⟨g, 0, none⟩ = some ev ∧ (ev = .nilIface ∨ ∃ te pe, ev = .iface te pe) := by
  obtain ⟨_, cs, e, f, hH, ev, h1, h2⟩ := L.tab g errP hg
  refine ⟨ev, ?_, h2⟩
  rw [cell?_eq _ _ rfl]
  simp [cellAt, hH, h1]
theorem atoi_ok (s : Str) (h : List AObj) (hs : s.length ≤ 281474976710656) : ACall Tryd.prog 46 [.str s] h (fun r h' => atoiK s r ∧ h' = h) := by
  unfold ACall; intro w β fr us L Rr
  obtain ⟨a, rfl, rfl⟩ := one_arg Rr
  rcases ha : Lib.atoiAll a.data.toList with v | _ | _
  · refine (Any.strconv_Atoi_ok Tryd.laysC172 a (by rw [bsize]; omega) v ha w).mono ?_
    rintro e w' ⟨rfl, hw⟩
    have B : Go.RowKit.Below w.heap.size w w' := by
      rcases hw with rfl | ⟨t, rfl⟩
      · exact Go.RowKit.Below.refl _ _
      · exact Lib.bytesWorld_below _ _ _
    obtain ⟨L', S'⟩ := below_lay L B
    exact ⟨_, .tup [.int .i64 v, .nili], h, β, fr, rfl, ⟨by simp only [atoiK, ha], rfl⟩, L', tup2_rep (by simp [Rep]) (by simp [Rep]), S'⟩
  · obtain ⟨ev, h1, h2⟩ := err_at L 3 (by simp [tabs])
    refine (Any.strconv_Atoi_syntax Tryd.laysC172 a (by rw [bsize]; omega) ha ev w h1 h2).mono ?_
    rintro e w' ⟨N, rfl, -, -, B⟩
    obtain ⟨L', S'⟩ := below_lay L B
    exact ⟨_, .tup [.int .i64 0, .iface 92 .any], h, β, fr, rfl, ⟨by simp only [atoiK, ha]; exact ⟨_, rfl⟩, rfl⟩, L', tup2_rep (by simp [Rep]) (by simp only [Rep]; exact ⟨_, rfl, trivial⟩), S'⟩
  · obtain ⟨ev, h1, h2⟩ := err_at L 4 (by simp [tabs])
    refine (Any.strconv_Atoi_range Tryd.laysC172 a (by rw [bsize]; omega) ha ev w h1 h2).mono ?_
    rintro e w' ⟨N, rfl, -, -, B⟩
    obtain ⟨L', S'⟩ := below_lay L B
    exact ⟨_, .tup [.int .i64 (Lib.atoiSat a.data.toList), .iface 92 .any], h, β, fr, rfl, ⟨by simp only [atoiK, ha]; exact ⟨_, rfl⟩, rfl⟩, L', tup2_rep (by simp [Rep]) (by simp only [Rep]; exact ⟨_, rfl, trivial⟩), S'⟩
theorem index1_ok (s : Str) (c : UInt8) (h : List AObj) : ACall Tryd.prog 67 [.str s, .str [c]] h (fun r h' => r = .int .i64 (Lib.indexByte s c) ∧ h' = h) := by
  unfold ACall; intro w β fr us L Rr
  obtain ⟨a, b, rfl, rfl, hb⟩ := two_args Rr
  have hb2 : b = ⟨#[c]⟩ := by
    have : b.data = #[c] := by rw [← Array.toArray_toList (xs := b.data), hb]
    cases b; simp_all
  subst hb2
  refine (Tryd.stringslite_Index_one a c w).mono ?_
  rintro e w' ⟨rfl, rfl⟩
  exact ⟨_, _, _, β, fr, rfl, ⟨rfl, rfl⟩, L, by simp [Rep], Step1.refl _ _ _ _⟩
end Go.Proofs.Vale
