/- YthgafblmefjkdaaDoorVSchE: a text of the proof of this claim, by its prover. -/
import Derived.Test.YthgafblmefjkdaaDoorVSchC
set_option linter.unusedVariables false
set_option linter.unusedSimpArgs false
set_option maxHeartbeats 4000000
set_option maxRecDepth 100000
namespace Go.Proofs.Vale
open Go.Proofs Go.Proofs.YthgafblmefjkdaaDoorT
attribute [local irreducible] acode aopsL aopsT dopsL dopsT pop popG aop ALoop ADraw ACall AWP AFin acondT ALoopT ADrawT ACallT doP doG doGd

/-! ### Runes -/
theorem get_at (s : Str) (i : Nat) (h : i < s.length) : (ByteArray.get! ⟨⟨s⟩⟩ (i + 0)) = s[i] := by
  have h' : i < (⟨s⟩ : Array UInt8).size := h
  show (⟨s⟩ : Array UInt8)[i]! = s[i]
  rw [getElem!_pos _ i h']
  rfl
theorem dc_lo (s : Str) (i : Nat) (h : i < s.length) (hl : (s[i]).toNat < 128) : dcA s i = ((s[i]).toNat, 1) := by
  unfold dcA
  simp only [Utf8.decode, get_at s i h]
  rw [if_pos hl]
theorem dc_hi (s : Str) (i : Nat) (h : i < s.length) (hl : ¬ (s[i]).toNat < 128) : 128 ≤ (dcA s i).1 := by
  unfold dcA
  simp only [Utf8.decode, get_at s i h]
  rw [if_neg hl]
  repeat' split
  all_goals (simp only [Utf8.runeError] at *; first | omega | (simp at *; omega))

/-- A name's letter: at the first place, or at a later one. -/
def letter (first : Bool) (b : UInt8) : Bool := (decide (97 ≤ b.toNat) && decide (b.toNat ≤ 122)) || (!first && ((decide (48 ≤ b.toNat) && decide (b.toNat ≤ 57)) || b.toNat == 95))
def lettersFrom (s : Str) (k : Nat) : Bool := (s.drop k).zipIdx k |>.all fun p => letter (p.2 == 0) p.1
def nameS (s : Str) : Bool := !(s == []) && decide (s.length ≤ 12) && !decide (s ∈ wordsL) && lettersFrom s 0
theorem letters_step (s : Str) (k : Nat) (h : k < s.length) : lettersFrom s k = (letter (k == 0) s[k] && lettersFrom s (k + 1)) := by
  unfold lettersFrom
  rw [List.drop_eq_getElem_cons h, List.zipIdx_cons, List.all_cons]
theorem letters_end (s : Str) : lettersFrom s s.length = true := by simp [lettersFrom]
def letR (f : Bool) (r : Int) : Bool := (bif decide (97 ≤ r) then decide (r ≤ 122) else false) || (!f && ((bif decide (48 ≤ r) then decide (r ≤ 57) else false) || r == 95))
theorem let_eq (s : Str) (k : Nat) (h : k < s.length) (f : Bool) : letter f s[k] = letR f (dcA s k).1 ∧ (letR f (dcA s k).1 = true → (dcA s k).2 = 1) := by
  by_cases hl : (s[k]).toNat < 128
  · rw [dc_lo s k h hl]
    refine ⟨?_, fun _ => rfl⟩
    simp only [letter, letR]
    have e1 : (((s[k]).toNat : Int) == 95) = ((s[k]).toNat == 95) := by rw [Bool.eq_iff_iff]; simp; omega
    have e2 : decide ((97 : Int) ≤ ((s[k]).toNat : Int)) = decide (97 ≤ (s[k]).toNat) := by congr 1; simp; omega
    have e3 : decide (((s[k]).toNat : Int) ≤ 122) = decide ((s[k]).toNat ≤ 122) := by congr 1; simp; omega
    have e4 : decide ((48 : Int) ≤ ((s[k]).toNat : Int)) = decide (48 ≤ (s[k]).toNat) := by congr 1; simp; omega
    have e5 : decide (((s[k]).toNat : Int) ≤ 57) = decide ((s[k]).toNat ≤ 57) := by congr 1; simp; omega
    rw [e1, e2, e3, e4, e5]
    cases decide (97 ≤ (s[k]).toNat) <;> cases decide (48 ≤ (s[k]).toNat) <;> rfl
  · have hh := dc_hi s k h hl
    have e : letR f (dcA s k).1 = false := by
      have a1 : decide (((dcA s k).1 : Int) ≤ 122) = false := by simp; omega
      have a2 : decide (((dcA s k).1 : Int) ≤ 57) = false := by simp; omega
      have a3 : (((dcA s k).1 : Int) == 95) = false := by simp; omega
      simp only [letR, a1, a2, a3]
      cases decide ((97 : Int) ≤ ((dcA s k).1 : Int)) <;> cases decide ((48 : Int) ≤ ((dcA s k).1 : Int)) <;> simp
    rw [e]
    refine ⟨?_, fun q => by cases q⟩
    have a1 : decide ((s[k]).toNat ≤ 122) = false := by simp; omega
    have a2 : decide ((s[k]).toNat ≤ 57) = false := by simp; omega
    have a3 : ((s[k]).toNat == 95) = false := by simp; omega
    simp [letter, a1, a2, a3]
theorem name_ok (s : Str) (h : List AObj) (hs : s.length ≤ 9223372036854775807) : ACall Tryd.prog 9 [.str s] h (fun r _ => r = .bool (nameS s)) := by
  (refine ACall.of_code Tryd.func9 rfl ?_; simp only [Tryd.f9]; simp only [go_sem, Nat.reduceMul, Nat.reduceLT, Nat.reduceLeDiff, Nat.reduceEqDiff, Nat.reduceBEq, Int.toNat_natCast, Int.reduceToNat, Int.reduceNeg, Int.reduceLT, Int.reduceLE, Int.reduceBEq, Int.reduceBNe, decide_true, decide_false, Bool.false_eq_true, false_imp_iff, Nat.lt_irrefl])
  generalize hz : (bif s == [] then true else decide (12 < ((List.length s : Nat) : Int))) = z
  cases z with
  | true =>
    simp only [go_sem, Nat.reduceMul, Nat.reduceLT, Nat.reduceLeDiff, Nat.reduceEqDiff, Nat.reduceBEq, Int.toNat_natCast, Int.reduceToNat, Int.reduceNeg, Int.reduceLT, Int.reduceLE, Int.reduceBEq, Int.reduceBNe, decide_true, decide_false, Bool.false_eq_true, false_imp_iff, Nat.lt_irrefl]
    refine Fin_plain ?_
    have : (!(s == []) && decide (s.length ≤ 12)) = false := by
      cases e : (s == [])
      · rw [e] at hz; simp only [cond_false] at hz; have := of_decide_eq_true hz; simp; omega
      · rfl
    simp only [nameS, this, Bool.false_and]
  | false =>
    have hne : (!(s == []) && decide (s.length ≤ 12)) = true := by
      cases e : (s == [])
      · rw [e] at hz; simp only [cond_false] at hz; have := of_decide_eq_false hz; simp; omega
      · rw [e] at hz; cases hz
    simp only [go_sem, Nat.reduceMul, Nat.reduceLT, Nat.reduceLeDiff, Nat.reduceEqDiff, Nat.reduceBEq, Int.toNat_natCast, Int.reduceToNat, Int.reduceNeg, Int.reduceLT, Int.reduceLE, Int.reduceBEq, Int.reduceBNe, decide_true, decide_false, Bool.false_eq_true, false_imp_iff, Nat.lt_irrefl]
    (refine ACallT.frame (words_ok _) ?_; refine fun _ _ e => ?_; subst e; refine ⟨by (first | rfl | (simp only [AV.low, lowL, low_strs, low_bytes, Bool.and_true, Bool.and_self])), ?_⟩; simp only [go_sem, Nat.reduceMul, Nat.reduceLT, Nat.reduceLeDiff, Nat.reduceEqDiff, Nat.reduceBEq, Int.toNat_natCast, Int.reduceToNat, Int.reduceNeg, Int.reduceLT, Int.reduceLE, Int.reduceBEq, Int.reduceBNe, decide_true, decide_false, Bool.false_eq_true, false_imp_iff, Nat.lt_irrefl])
    refine ACallT.by (contains_ok wordsL s false _ (by decide)) ?_
    rintro r h1 ⟨rfl, rfl⟩
    generalize hm : decide (s ∈ wordsL) = m
    cases m with
    | true => simp only [go_sem, Nat.reduceMul, Nat.reduceLT, Nat.reduceLeDiff, Nat.reduceEqDiff, Nat.reduceBEq, Int.toNat_natCast, Int.reduceToNat, Int.reduceNeg, Int.reduceLT, Int.reduceLE, Int.reduceBEq, Int.reduceBNe, decide_true, decide_false, Bool.false_eq_true, false_imp_iff, Nat.lt_irrefl]; refine Fin_plain ?_; simp [nameS, hm]
    | false =>
      have hN : nameS s = lettersFrom s 0 := by rw [nameS, hne, hm]; simp
      simp only [go_sem, Nat.reduceMul, Nat.reduceLT, Nat.reduceLeDiff, Nat.reduceEqDiff, Nat.reduceBEq, Int.toNat_natCast, Int.reduceToNat, Int.reduceNeg, Int.reduceLT, Int.reduceLE, Int.reduceBEq, Int.reduceBNe, decide_true, decide_false, Bool.false_eq_true, false_imp_iff, Nat.lt_irrefl]
      refine ALoop.over [2, 3, 4, 19, 20, 21, 22, 23, 24, 25, 26, 27, 28, 29, 30, 31, 32, 33, 34, 35, 36, 37, 38, 39, 40] (fun e h' => ∃ k : Nat, k ≤ s.length ∧ h' = h1 ++ [.it s k] ∧ lettersFrom s k = lettersFrom s 0) (fun e h' => s.length - (match h'[h1.length]? with | some (.it _ k) => k | _ => 0)) ⟨0, by omega, rfl, rfl⟩ ?_
      simp only [List.length_cons, List.length_nil, Nat.reduceAdd, allL_succ, allL_zero]
      intro y2 y3 y4 y19 y20 y21 y22 y23 y24 y25 y26 y27 y28 y29 y30 y31 y32 y33 y34 y35 y36 y37 y38 y39 y40 h' hI
      obtain ⟨k, hk, rfl, hA⟩ := hI
      simp only [go_sem, getElem?_app0, Nat.reduceMul, Nat.reduceLT, Nat.reduceLeDiff, Nat.reduceEqDiff, Nat.reduceBEq, Int.toNat_natCast, Int.reduceToNat, Int.reduceNeg, Int.reduceLT, Int.reduceLE, Int.reduceBEq, Int.reduceBNe, decide_true, decide_false, Bool.false_eq_true, false_imp_iff, Nat.lt_irrefl]
      refine nxG_intro (fun hp => ?_) (fun hp => ?_)
      · simp only [go_sem, Nat.reduceMul, Nat.reduceLT, Nat.reduceLeDiff, Nat.reduceEqDiff, Nat.reduceBEq, Int.toNat_natCast, Int.reduceToNat, Int.reduceNeg, Int.reduceLT, Int.reduceLE, Int.reduceBEq, Int.reduceBNe, decide_true, decide_false, Bool.false_eq_true, false_imp_iff, Nat.lt_irrefl]
        obtain ⟨hL, hW⟩ := let_eq s k hp (k == 0)
        have hk0 : (k == 0) = ((k : Int) == 0) := by rw [Bool.eq_iff_iff]; simp
        rw [hk0] at hL hW
        have hst := letters_step s k hp
        rw [hk0, hL] at hst
        have stop : ∀ z, letR z (dcA s k).1 = false → z = ((k : Int) == 0) → nameS s = false := fun z q e => by rw [hN, ← hA, hst, ← e, q]; rfl
        have go : ∀ z, letR z (dcA s k).1 = true → z = ((k : Int) == 0) → lettersFrom s (k + 1) = lettersFrom s 0 ∧ (dcA s k).2 = 1 := fun z q e => by
          rw [← e] at hst hW
          rw [q, Bool.true_and, hA] at hst
          exact ⟨hst.symm, hW q⟩
        clear hL hW hst
        generalize hr : ((dcA s k).1 : Int) = r at stop go ⊢
        clear hr
        generalize h95 : (r == 95) = z1
        cases z1 with
        | true =>
          obtain rfl : r = 95 := by simpa using h95
          simp only [go_sem, Nat.reduceMul, Nat.reduceLT, Nat.reduceLeDiff, Nat.reduceEqDiff, Nat.reduceBEq, Int.toNat_natCast, Int.reduceToNat, Int.reduceNeg, Int.reduceLT, Int.reduceLE, Int.reduceBEq, Int.reduceBNe, decide_true, decide_false, Bool.false_eq_true, false_imp_iff, Nat.lt_irrefl]
          generalize h0 : ((k : Int) == 0) = z0 at *
          cases z0 with
          | true => simp only [go_sem, Nat.reduceMul, Nat.reduceLT, Nat.reduceLeDiff, Nat.reduceEqDiff, Nat.reduceBEq, Int.toNat_natCast, Int.reduceToNat, Int.reduceNeg, Int.reduceLT, Int.reduceLE, Int.reduceBEq, Int.reduceBNe, decide_true, decide_false, Bool.false_eq_true, false_imp_iff, Nat.lt_irrefl]; refine Fin_plain ?_; rw [stop true (by decide) rfl]
          | false =>
            obtain ⟨g1, g2⟩ := go false (by decide) rfl
            rw [g2]
            simp only [go_sem, getElem?_app0, set_app0, Nat.reduceMul, Nat.reduceLT, Nat.reduceLeDiff, Nat.reduceEqDiff, Nat.reduceBEq, Int.toNat_natCast, Int.reduceToNat, Int.reduceNeg, Int.reduceLT, Int.reduceLE, Int.reduceBEq, Int.reduceBNe, decide_true, decide_false, Bool.false_eq_true, false_imp_iff, Nat.lt_irrefl]
            exact ⟨⟨k + 1, by omega, rfl, g1⟩, Nat.sub_lt_sub_left hp (Nat.lt_succ_self k)⟩
        | false =>
          simp only [go_sem, Nat.reduceMul, Nat.reduceLT, Nat.reduceLeDiff, Nat.reduceEqDiff, Nat.reduceBEq, Int.toNat_natCast, Int.reduceToNat, Int.reduceNeg, Int.reduceLT, Int.reduceLE, Int.reduceBEq, Int.reduceBNe, decide_true, decide_false, Bool.false_eq_true, false_imp_iff, Nat.lt_irrefl]
          generalize h2 : (bif decide (48 ≤ r) then decide (r ≤ 57) else false) = z2
          cases z2 with
          | true =>
            have hA0 : (bif decide (97 ≤ r) then decide (r ≤ 122) else false) = false := by
              cases q : decide (97 ≤ r)
              · rfl
              · cases q2 : decide (48 ≤ r)
                · rw [q2] at h2; cases h2
                · rw [q2] at h2; have := of_decide_eq_true q; have := of_decide_eq_true h2; omega
            simp only [go_sem, Nat.reduceMul, Nat.reduceLT, Nat.reduceLeDiff, Nat.reduceEqDiff, Nat.reduceBEq, Int.toNat_natCast, Int.reduceToNat, Int.reduceNeg, Int.reduceLT, Int.reduceLE, Int.reduceBEq, Int.reduceBNe, decide_true, decide_false, Bool.false_eq_true, false_imp_iff, Nat.lt_irrefl]
            generalize h0 : ((k : Int) == 0) = z0 at *
            cases z0 with
            | true => simp only [go_sem, Nat.reduceMul, Nat.reduceLT, Nat.reduceLeDiff, Nat.reduceEqDiff, Nat.reduceBEq, Int.toNat_natCast, Int.reduceToNat, Int.reduceNeg, Int.reduceLT, Int.reduceLE, Int.reduceBEq, Int.reduceBNe, decide_true, decide_false, Bool.false_eq_true, false_imp_iff, Nat.lt_irrefl]; refine Fin_plain ?_; rw [stop true (by simp [letR, hA0]) rfl]
            | false =>
              obtain ⟨g1, g2⟩ := go false (by simp only [letR, h2]; simp) rfl
              rw [g2]
              simp only [go_sem, getElem?_app0, set_app0, Nat.reduceMul, Nat.reduceLT, Nat.reduceLeDiff, Nat.reduceEqDiff, Nat.reduceBEq, Int.toNat_natCast, Int.reduceToNat, Int.reduceNeg, Int.reduceLT, Int.reduceLE, Int.reduceBEq, Int.reduceBNe, decide_true, decide_false, Bool.false_eq_true, false_imp_iff, Nat.lt_irrefl]
              exact ⟨⟨k + 1, by omega, rfl, g1⟩, Nat.sub_lt_sub_left hp (Nat.lt_succ_self k)⟩
          | false =>
            simp only [go_sem, Nat.reduceMul, Nat.reduceLT, Nat.reduceLeDiff, Nat.reduceEqDiff, Nat.reduceBEq, Int.toNat_natCast, Int.reduceToNat, Int.reduceNeg, Int.reduceLT, Int.reduceLE, Int.reduceBEq, Int.reduceBNe, decide_true, decide_false, Bool.false_eq_true, false_imp_iff, Nat.lt_irrefl]
            generalize h3 : (bif decide (97 ≤ r) then decide (r ≤ 122) else false) = z3
            cases z3 with
            | true =>
              obtain ⟨g1, g2⟩ := go _ (by simp only [letR, h3, Bool.true_or]) rfl
              rw [g2]
              simp only [go_sem, getElem?_app0, set_app0, Nat.reduceMul, Nat.reduceLT, Nat.reduceLeDiff, Nat.reduceEqDiff, Nat.reduceBEq, Int.toNat_natCast, Int.reduceToNat, Int.reduceNeg, Int.reduceLT, Int.reduceLE, Int.reduceBEq, Int.reduceBNe, decide_true, decide_false, Bool.false_eq_true, false_imp_iff, Nat.lt_irrefl]
              exact ⟨⟨k + 1, by omega, rfl, g1⟩, Nat.sub_lt_sub_left hp (Nat.lt_succ_self k)⟩
            | false =>
              simp only [go_sem, Nat.reduceMul, Nat.reduceLT, Nat.reduceLeDiff, Nat.reduceEqDiff, Nat.reduceBEq, Int.toNat_natCast, Int.reduceToNat, Int.reduceNeg, Int.reduceLT, Int.reduceLE, Int.reduceBEq, Int.reduceBNe, decide_true, decide_false, Bool.false_eq_true, false_imp_iff, Nat.lt_irrefl]
              refine Fin_plain ?_
              rw [stop _ (by simp only [letR, h2, h3, h95, Bool.or_false, Bool.and_false]) rfl]
      · simp only [go_sem, Nat.reduceMul, Nat.reduceLT, Nat.reduceLeDiff, Nat.reduceEqDiff, Nat.reduceBEq, Int.toNat_natCast, Int.reduceToNat, Int.reduceNeg, Int.reduceLT, Int.reduceLE, Int.reduceBEq, Int.reduceBNe, decide_true, decide_false, Bool.false_eq_true, false_imp_iff, Nat.lt_irrefl]
        have : k = s.length := by omega
        subst this
        refine Fin_plain ?_
        rw [hN, ← hA, letters_end]
end Go.Proofs.Vale

set_option linter.unusedVariables false
set_option linter.unusedSimpArgs false
set_option maxHeartbeats 4000000
set_option maxRecDepth 100000
namespace Go.Proofs.Vale
open Go.Proofs Go.Proofs.YthgafblmefjkdaaDoorT
attribute [local irreducible] acode aopsL aopsT dopsL dopsT pop popG aop ALoop ADraw ACall AWP AFin acondT ALoopT ADrawT ACallT doP doG doGd

/-! ### Values -/
theorem below_lay {β : Beta} {fr : Nat → Prop} {w w' : World} {h : List AObj} (L : Lay β fr w.heap h) (B : Go.RowKit.Below w.heap.size w w') : Lay β fr w'.heap h ∧ Step1 β fr h w β fr h w' := by
  have same := B.block
  have E : Ext β fr w.heap β fr w'.heap := ⟨fun _ _ _ e => e, fun _ e => e, fun b hb => same b (L.frlt b hb), fun t g b c e f hb hc => ⟨c, f, by rw [same b (L.lt _ _ _ hb)]; exact hc, rfl⟩⟩
  refine ⟨?_, ?_⟩
  · exact { frlt := fun b hb => Nat.lt_of_lt_of_le (L.frlt b hb) B.size, ownfr := L.ownfr, lt := fun t g b hb => Nat.lt_of_lt_of_le (L.lt t g b hb) B.size, inj := L.inj
            obj := fun t o ho => (L.obj t o ho).ext E fun g b _ hb => same b (L.lt _ _ _ hb), dom := L.dom, top := L.top, tab := fun b cs q => ⟨(L.tab b cs q).1, by rw [E.cells b (L.tab b cs q).1]; exact (L.tab b cs q).2⟩ }
  · exact { ext := E, os := B.os, tape := B.tape, output := B.output, size := B.size, keep := fun b hb _ => same b hb, prov := fun b e => .inl e, frz := fun b e => .inl e }
theorem two_args {β : Beta} {fr : Nat → Prop} {H : Array Obj} {s t : Str} {us : Array Value} (R : CellsRep β fr H [.str s, .str t] us) : ∃ a b : ByteArray, us = #[.string a, .string b] ∧ a.data.toList = s ∧ b.data.toList = t := by
  obtain ⟨hvs, hv⟩ := R
  obtain ⟨v, hv1, hv2⟩ := hv 0 (by simp)
  obtain ⟨u, hu1, hu2⟩ := hv 1 (by simp)
  simp only [List.getElem_cons_zero, List.getElem_cons_succ, Rep] at hv2 hu2
  obtain ⟨a, rfl, ha⟩ := hv2
  obtain ⟨b, rfl, hb⟩ := hu2
  refine ⟨a, b, ?_, ha, hb⟩
  apply Array.ext_getElem?
  intro i
  rcases i with _ | _ | i
  · rw [hv1]; rfl
  · rw [hu1]; rfl
  · rw [Array.getElem?_eq_none (by rw [hvs]; simp), Array.getElem?_eq_none (by simp)]
def ascii (s : Str) : Bool := s.all fun b => decide (b.toNat < 128)
theorem bsize (b : ByteArray) : b.size = b.data.toList.length := by show b.data.size = _; rw [Array.length_toList]
theorem containsAny_ok (s t : Str) (h : List AObj) (hs : s.length < 4294967281) (ht : t.length < 4294967281) (ha : ascii s = true) (hb : ascii t = true) : ACall Tryd.prog 21 [.str s, .str t] h (fun r h' => r = .bool (Lib.containsAny s t) ∧ h' = h) := by
  unfold ACall; intro w β fr us L Rr
  obtain ⟨a, b, rfl, rfl, rfl⟩ := two_args Rr
  refine (Tryd.strings_ContainsAny_laid a b w (by rw [bsize]; exact hs) (by rw [bsize]; exact ht) (fun j x hx => ?_) (fun j x hx => ?_)).mono ?_
  · have := List.all_eq_true.1 ha x (List.mem_of_getElem? hx); simpa using this
  · have := List.all_eq_true.1 hb x (List.mem_of_getElem? hx); simpa using this
  rintro e w' ⟨rfl, B⟩
  obtain ⟨L', S'⟩ := below_lay L B
  exact ⟨_, _, _, β, fr, rfl, ⟨rfl, rfl⟩, L', by simp [Rep], S'⟩
theorem cany0 (t : Str) : ∀ s : Str, 0 ≤ Lib.indexAny s t ↔ (s.any fun b => t.contains b) = true := by
  intro s
  induction s with
  | nil => simp [Lib.indexAny]
  | cons b s ih =>
    rw [Lib.indexAny, List.any_cons]
    have := Lib.indexAny_ge t s
    by_cases hb : t.contains b = true
    · rw [if_pos hb, hb]; simp
    · have hb2 : t.contains b = false := by simpa using hb
      rw [if_neg hb, hb2, Bool.false_or, ← ih]
      by_cases q : (Lib.indexAny s t == -1) = true
      · rw [if_pos q]
        have : Lib.indexAny s t = -1 := by simpa using q
        rw [this]
      · rw [if_neg q]
        have : Lib.indexAny s t ≠ -1 := by simpa using q
        omega
theorem cany (t : Str) (s : Str) : Lib.containsAny s t = s.any fun b => t.contains b := by
  rw [Lib.containsAny, Bool.eq_iff_iff, decide_eq_true_iff, cany0]
def badR (r : Int) : Bool := bif decide (r < 32) then true else decide (126 < r)
def badB (b : UInt8) : Bool := badR (b.toNat : Int)
theorem bad_ok (r : Int) (h : List AObj) : ACall Tryd.prog 23 [.int .i32 r] h (fun x h' => x = .bool (badR r) ∧ h' = h) := by
  (refine ACall.of_code Tryd.func23 rfl ?_; simp only [Tryd.f23]; simp only [go_sem, Nat.reduceMul, Nat.reduceLT, Nat.reduceLeDiff, Nat.reduceEqDiff, Nat.reduceBEq, Int.toNat_natCast, Int.reduceToNat, Int.reduceNeg, Int.reduceLT, Int.reduceLE, Int.reduceBEq, Int.reduceBNe, decide_true, decide_false, Bool.false_eq_true, false_imp_iff, Nat.lt_irrefl])
  refine Fin_plain ⟨?_, rfl⟩
  simp only [badR]
theorem bad_eq (s : Str) (k : Nat) (h : k < s.length) : badB s[k] = badR (dcA s k).1 ∧ (badR (dcA s k).1 = false → (dcA s k).2 = 1) := by
  by_cases hl : (s[k]).toNat < 128
  · rw [dc_lo s k h hl]; exact ⟨rfl, fun _ => rfl⟩
  · have hh := dc_hi s k h hl
    have e : badR (dcA s k).1 = true := by
      simp only [badR]
      rw [show decide ((126 : Int) < ((dcA s k).1 : Int)) = true by simp; omega]
      cases decide (((dcA s k).1 : Int) < 32) <;> rfl
    rw [e]
    refine ⟨?_, fun q => by cases q⟩
    simp only [badB, badR]
    rw [show decide ((126 : Int) < ((s[k]).toNat : Int)) = true by simp; omega]
    cases decide (((s[k]).toNat : Int) < 32) <;> rfl
theorem indexFunc_ok (s : Str) (h : List AObj) (hs : s.length ≤ 9223372036854775807) : ACall Tryd.prog 53 [.str s, .func (.func 23) [] [], .bool true] h (fun r _ => ∃ i : Int, r = .int .i64 i ∧ decide (0 ≤ i) = s.any badB) := by
  (refine ACall.of_code Tryd.func53 rfl ?_; simp only [Tryd.f53]; simp only [go_sem, Nat.reduceMul, Nat.reduceLT, Nat.reduceLeDiff, Nat.reduceEqDiff, Nat.reduceBEq, Int.toNat_natCast, Int.reduceToNat, Int.reduceNeg, Int.reduceLT, Int.reduceLE, Int.reduceBEq, Int.reduceBNe, decide_true, decide_false, Bool.false_eq_true, false_imp_iff, Nat.lt_irrefl])
  refine ALoop.over [6, 7, 8, 11, 12, 13, 14, 15, 16, 17, 18, 19, 20] (fun e h' => ∃ k : Nat, k ≤ s.length ∧ h' = h ++ [.it s k] ∧ (s.take k).any badB = false) (fun e h' => s.length - (match h'[h.length]? with | some (.it _ k) => k | _ => 0)) ⟨0, by omega, rfl, rfl⟩ ?_
  simp only [List.length_cons, List.length_nil, Nat.reduceAdd, allL_succ, allL_zero]
  intro y6 y7 y8 y11 y12 y13 y14 y15 y16 y17 y18 y19 y20 h' hI
  obtain ⟨k, hk, rfl, hA⟩ := hI
  simp only [go_sem, getElem?_app0, Nat.reduceMul, Nat.reduceLT, Nat.reduceLeDiff, Nat.reduceEqDiff, Nat.reduceBEq, Int.toNat_natCast, Int.reduceToNat, Int.reduceNeg, Int.reduceLT, Int.reduceLE, Int.reduceBEq, Int.reduceBNe, decide_true, decide_false, Bool.false_eq_true, false_imp_iff, Nat.lt_irrefl]
  refine nxG_intro (fun hp => ?_) (fun hp => ?_)
  · simp only [go_sem, Nat.reduceMul, Nat.reduceLT, Nat.reduceLeDiff, Nat.reduceEqDiff, Nat.reduceBEq, Int.toNat_natCast, Int.reduceToNat, Int.reduceNeg, Int.reduceLT, Int.reduceLE, Int.reduceBEq, Int.reduceBNe, decide_true, decide_false, Bool.false_eq_true, false_imp_iff, Nat.lt_irrefl]
    obtain ⟨hL, hW⟩ := bad_eq s k hp
    refine ACallT.by (bad_ok _ _) ?_
    rintro r h1 ⟨rfl, rfl⟩
    generalize hb : badR (dcA s k).1 = z at *
    cases z with
    | true =>
      simp only [go_sem, Nat.reduceMul, Nat.reduceLT, Nat.reduceLeDiff, Nat.reduceEqDiff, Nat.reduceBEq, Int.toNat_natCast, Int.reduceToNat, Int.reduceNeg, Int.reduceLT, Int.reduceLE, Int.reduceBEq, Int.reduceBNe, decide_true, decide_false, Bool.false_eq_true, false_imp_iff, Nat.lt_irrefl]
      refine Fin_plain ⟨k, rfl, ?_⟩
      have : s.any badB = true := by rw [List.any_eq_true]; exact ⟨s[k], List.getElem_mem _, hL⟩
      rw [this]; simp
    | false =>
      rw [hW rfl]
      simp only [go_sem, getElem?_app0, set_app0, Nat.reduceMul, Nat.reduceLT, Nat.reduceLeDiff, Nat.reduceEqDiff, Nat.reduceBEq, Int.toNat_natCast, Int.reduceToNat, Int.reduceNeg, Int.reduceLT, Int.reduceLE, Int.reduceBEq, Int.reduceBNe, decide_true, decide_false, Bool.false_eq_true, false_imp_iff, Nat.lt_irrefl]
      refine ⟨⟨k + 1, by omega, rfl, ?_⟩, Nat.sub_lt_sub_left hp (Nat.lt_succ_self k)⟩
      rw [List.take_succ_eq_append_getElem hp, List.any_append, hA]; simp [hL]
  · simp only [go_sem, Nat.reduceMul, Nat.reduceLT, Nat.reduceLeDiff, Nat.reduceEqDiff, Nat.reduceBEq, Int.toNat_natCast, Int.reduceToNat, Int.reduceNeg, Int.reduceLT, Int.reduceLE, Int.reduceBEq, Int.reduceBNe, decide_true, decide_false, Bool.false_eq_true, false_imp_iff, Nat.lt_irrefl]
    have : k = s.length := by omega
    subst this
    refine Fin_plain ⟨-1, rfl, ?_⟩
    rw [List.take_length] at hA
    rw [hA]; rfl
theorem indexF_ok (s : Str) (h : List AObj) (hs : s.length ≤ 9223372036854775807) : ACall Tryd.prog 40 [.str s, .func (.func 23) [] []] h (fun r _ => ∃ i : Int, r = .int .i64 i ∧ decide (0 ≤ i) = s.any badB) := by
  (refine ACall.of_code Tryd.func40 rfl ?_; simp only [Tryd.f40]; simp only [go_sem, Nat.reduceMul, Nat.reduceLT, Nat.reduceLeDiff, Nat.reduceEqDiff, Nat.reduceBEq, Int.toNat_natCast, Int.reduceToNat, Int.reduceNeg, Int.reduceLT, Int.reduceLE, Int.reduceBEq, Int.reduceBNe, decide_true, decide_false, Bool.false_eq_true, false_imp_iff, Nat.lt_irrefl])
  refine ACallT.by (indexFunc_ok s _ hs) ?_
  rintro r h1 ⟨i, rfl, hi⟩
  simp only [go_sem, Nat.reduceMul, Nat.reduceLT, Nat.reduceLeDiff, Nat.reduceEqDiff, Nat.reduceBEq, Int.toNat_natCast, Int.reduceToNat, Int.reduceNeg, Int.reduceLT, Int.reduceLE, Int.reduceBEq, Int.reduceBNe, decide_true, decide_false, Bool.false_eq_true, false_imp_iff, Nat.lt_irrefl]
  exact Fin_plain ⟨i, rfl, hi⟩
theorem containsF_ok (s : Str) (h : List AObj) (hs : s.length ≤ 9223372036854775807) : ACall Tryd.prog 22 [.str s, .func (.func 23) [] []] h (fun r _ => r = .bool (s.any badB)) := by
  (refine ACall.of_code Tryd.func22 rfl ?_; simp only [Tryd.f22]; simp only [go_sem, Nat.reduceMul, Nat.reduceLT, Nat.reduceLeDiff, Nat.reduceEqDiff, Nat.reduceBEq, Int.toNat_natCast, Int.reduceToNat, Int.reduceNeg, Int.reduceLT, Int.reduceLE, Int.reduceBEq, Int.reduceBNe, decide_true, decide_false, Bool.false_eq_true, false_imp_iff, Nat.lt_irrefl])
  refine ACallT.by (indexF_ok s _ hs) ?_
  rintro r h1 ⟨i, rfl, hi⟩
  simp only [go_sem, Nat.reduceMul, Nat.reduceLT, Nat.reduceLeDiff, Nat.reduceEqDiff, Nat.reduceBEq, Int.toNat_natCast, Int.reduceToNat, Int.reduceNeg, Int.reduceLT, Int.reduceLE, Int.reduceBEq, Int.reduceBNe, decide_true, decide_false, Bool.false_eq_true, false_imp_iff, Nat.lt_irrefl]
  exact Fin_plain (by rw [hi])
def valueS (s : Str) : Bool := decide (s.length ≤ 24) && !(s.any fun b => [(34 : UInt8), 92].contains b) && !(s.any badB)
theorem value_ok (s : Str) (h : List AObj) (hs : s.length ≤ 9223372036854775807) (ha : ascii s = true) : ACall Tryd.prog 10 [.str s] h (fun r _ => r = .bool (valueS s)) := by
  (refine ACall.of_code Tryd.func10 rfl ?_; simp only [Tryd.f10]; simp only [go_sem, Nat.reduceMul, Nat.reduceLT, Nat.reduceLeDiff, Nat.reduceEqDiff, Nat.reduceBEq, Int.toNat_natCast, Int.reduceToNat, Int.reduceNeg, Int.reduceLT, Int.reduceLE, Int.reduceBEq, Int.reduceBNe, decide_true, decide_false, Bool.false_eq_true, false_imp_iff, Nat.lt_irrefl])
  generalize hz : decide (((List.length s : Nat) : Int) ≤ 24) = z
  cases z with
  | false =>
    simp only [go_sem, Nat.reduceMul, Nat.reduceLT, Nat.reduceLeDiff, Nat.reduceEqDiff, Nat.reduceBEq, Int.toNat_natCast, Int.reduceToNat, Int.reduceNeg, Int.reduceLT, Int.reduceLE, Int.reduceBEq, Int.reduceBNe, decide_true, decide_false, Bool.false_eq_true, false_imp_iff, Nat.lt_irrefl]
    have := of_decide_eq_false hz
    refine Fin_plain ?_
    rw [valueS, decide_eq_false (by omega)]; rfl
  | true =>
    have := of_decide_eq_true hz
    simp only [go_sem, Nat.reduceMul, Nat.reduceLT, Nat.reduceLeDiff, Nat.reduceEqDiff, Nat.reduceBEq, Int.toNat_natCast, Int.reduceToNat, Int.reduceNeg, Int.reduceLT, Int.reduceLE, Int.reduceBEq, Int.reduceBNe, decide_true, decide_false, Bool.false_eq_true, false_imp_iff, Nat.lt_irrefl]
    refine ACallT.by (containsAny_ok s _ _ (by omega) (by decide) ha (by decide)) ?_
    rintro r h1 ⟨rfl, rfl⟩
    rw [cany]
    generalize hz2 : (s.any fun b => [(34 : UInt8), 92].contains b) = z2
    cases z2 with
    | true =>
      simp only [go_sem, Nat.reduceMul, Nat.reduceLT, Nat.reduceLeDiff, Nat.reduceEqDiff, Nat.reduceBEq, Int.toNat_natCast, Int.reduceToNat, Int.reduceNeg, Int.reduceLT, Int.reduceLE, Int.reduceBEq, Int.reduceBNe, decide_true, decide_false, Bool.false_eq_true, false_imp_iff, Nat.lt_irrefl]
      refine Fin_plain ?_
      rw [valueS, hz2]; simp
    | false =>
      simp only [go_sem, Nat.reduceMul, Nat.reduceLT, Nat.reduceLeDiff, Nat.reduceEqDiff, Nat.reduceBEq, Int.toNat_natCast, Int.reduceToNat, Int.reduceNeg, Int.reduceLT, Int.reduceLE, Int.reduceBEq, Int.reduceBNe, decide_true, decide_false, Bool.false_eq_true, false_imp_iff, Nat.lt_irrefl]
      refine ACallT.by (containsF_ok s _ hs) ?_
      rintro r h2 rfl
      simp only [go_sem, Nat.reduceMul, Nat.reduceLT, Nat.reduceLeDiff, Nat.reduceEqDiff, Nat.reduceBEq, Int.toNat_natCast, Int.reduceToNat, Int.reduceNeg, Int.reduceLT, Int.reduceLE, Int.reduceBEq, Int.reduceBNe, decide_true, decide_false, Bool.false_eq_true, false_imp_iff, Nat.lt_irrefl]
      refine Fin_plain ?_
      rw [valueS, hz2, decide_eq_true (by omega)]; rfl
end Go.Proofs.Vale
