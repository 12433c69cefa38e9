/- YtplehleekabbaaaGreatDoorVIngC: a text of the proof of this claim, by its prover. -/
import Derived.Test.YtplehleekabbaaaGreatDoorVIngB
import Derived.Test.YtplehleekabbaaaGreatDoorVDrx
set_option linter.unusedVariables false
set_option linter.unusedSimpArgs false
set_option maxHeartbeats 4000000
set_option maxRecDepth 100000
namespace Go.Proofs.Vale
open Go.Proofs Go.Proofs.YtplehleekabbaaaGreatDoorT
attribute [local irreducible] acode aopsL aopsT dopsL dopsT pop popG aop ALoop ADraw ACall AWP AFin acondT ALoopT ADrawT ACallT doP doG doGd frL frT frX

theorem intsA_get (l : List Int) (k : Nat) (h : k < l.length) : (intsA l).getD k .any = .int .i64 l[k] := by simp [intsA, List.getD_eq_getElem?_getD, h]
theorem intsA_flat (l : List Int) : ∀ y ∈ intsA l, flatX y = true := by
  intro y hy; simp only [intsA, List.mem_map] at hy; obtain ⟨b, _, rfl⟩ := hy; rfl
theorem sizeF_nn (n : Int) : 0 ≤ sizeF n := by
  unfold sizeF; split <;> (try split) <;> omega
theorem sizeF_le (n : Int) : sizeF n ≤ 4611686018427387904 := by
  unfold sizeF fitsI
  split
  · rename_i h
    simp only [Bool.and_eq_true, decide_eq_true_eq] at h
    split <;> omega
  · omega

theorem iclone_ok (l : List Int) (c : Bool) (h : List AObj) (hl : l.length ≤ 8796093022000) : ACall Tryz.prog 29 [.fz c (intsA l)] h (fun r h' => (l = [] ∧ r = .fz true [] ∧ h' = h) ∨ ∃ g, r = .sl h.length g 1 0 l.length ∧ h' = h ++ [.arr g 1 (intsA l)]) := by
  (refine ACall.of_code Tryz.func29 rfl ?_; simp only [Tryz.f29]; simp only [go_sem, Nat.reduceMul, Nat.reduceLT, Nat.reduceLeDiff, Nat.reduceEqDiff, Nat.reduceBEq, Int.toNat_natCast, Int.reduceToNat, Int.reduceNeg, Int.reduceLT, Int.reduceLE, Int.reduceBEq, Int.reduceBNe, decide_true, decide_false, Bool.false_eq_true, false_imp_iff, Nat.lt_irrefl])
  intro b hb
  cases b with
  | true =>
    simp only [go_sem, Nat.reduceMul, Nat.reduceLT, Nat.reduceLeDiff, Nat.reduceEqDiff, Nat.reduceBEq, Int.toNat_natCast, Int.reduceToNat, Int.reduceNeg, Int.reduceLT, Int.reduceLE, Int.reduceBEq, Int.reduceBNe, decide_true, decide_false, Bool.false_eq_true, false_imp_iff, Nat.lt_irrefl]
    have : l = [] := by have := hb rfl; cases l with
      | nil => rfl
      | cons a l => simp [intsA] at this
    refine Fin_plain (.inl ⟨this, rfl, rfl⟩)
  | false =>
    simp only [go_sem, Nat.reduceMul, Nat.reduceLT, Nat.reduceLeDiff, Nat.reduceEqDiff, Nat.reduceBEq, Int.toNat_natCast, Int.reduceToNat, Int.reduceNeg, Int.reduceLT, Int.reduceLE, Int.reduceBEq, Int.reduceBNe, decide_true, decide_false, Bool.false_eq_true, false_imp_iff, Nat.lt_irrefl]
    have hall : (intsA l).all (okEl 1) = true := by simp [intsA, okEl, AV.cells, AV.one]
    refine ⟨⟨by omega, by omega, hall⟩, ?_⟩
    refine Fin_plain (.inr ⟨1, rfl, rfl⟩)

theorem iclone_ne (l : List Int) (c : Bool) (h : List AObj) (hl : l.length ≤ 8796093022000) (h0 : l ≠ []) : ACall Tryz.prog 29 [.fz c (intsA l)] h (fun r h' => r = .sl h.length 1 1 0 l.length ∧ h' = h ++ [.arr 1 1 (intsA l)]) := by
  (refine ACall.of_code Tryz.func29 rfl ?_; simp only [Tryz.f29]; simp only [go_sem, Nat.reduceMul, Nat.reduceLT, Nat.reduceLeDiff, Nat.reduceEqDiff, Nat.reduceBEq, Int.toNat_natCast, Int.reduceToNat, Int.reduceNeg, Int.reduceLT, Int.reduceLE, Int.reduceBEq, Int.reduceBNe, decide_true, decide_false, Bool.false_eq_true, false_imp_iff, Nat.lt_irrefl])
  intro b hb
  cases b with
  | true =>
    have : l = [] := by have := hb rfl; cases l with
      | nil => rfl
      | cons a l => simp [intsA] at this
    exact absurd this h0
  | false =>
    simp only [go_sem, Nat.reduceMul, Nat.reduceLT, Nat.reduceLeDiff, Nat.reduceEqDiff, Nat.reduceBEq, Int.toNat_natCast, Int.reduceToNat, Int.reduceNeg, Int.reduceLT, Int.reduceLE, Int.reduceBEq, Int.reduceBNe, decide_true, decide_false, Bool.false_eq_true, false_imp_iff, Nat.lt_irrefl]
    have hall : (intsA l).all (okEl 1) = true := by simp [intsA, okEl, AV.cells, AV.one]
    refine ⟨⟨by omega, by omega, hall⟩, ?_⟩
    refine Fin_plain ⟨rfl, rfl⟩
theorem iclone_nil (c : Bool) (h : List AObj) : ACall Tryz.prog 29 [.fz c (intsA [])] h (fun r h' => r = .fz false [] ∧ h' = h) := by
  refine ACall.frame ?_
  refine ACall.any (by simp [lowL, AV.low, intsA]) ?_
  refine (ACall.freeze 3 (iclone_ok [] c [] (by simp)) (K2 := fun r _ => r = .fz true [] ∨ r = .fz false []) ?_).weak ?_
  · rintro r h' (⟨-, rfl, rfl⟩ | ⟨g, rfl, rfl⟩)
    · exact .inl rfl
    · right
      simp only [frz_sl]
      exact frzO_all (l := []) rfl (by simp)
  · rintro r h' (rfl | rfl)
    · exact ⟨.fz false [], fun β fr H v q => rep_cut q, rfl, rfl, rfl, rfl⟩
    · exact ⟨.fz false [], fun β fr H v q => q, rfl, rfl, rfl, rfl⟩

theorem rints_ok (a b : List Int) (c1 c2 : Bool) (h : List AObj) (ha : a.length ≤ 4611686018427387904) (hb : b.length ≤ 4611686018427387904) : ACall Tryz.prog 33 [.fz c1 (intsA a), .fz c2 (intsA b)] h (fun r _ => r = .bool (decide (a = b))) := by
  (refine ACall.of_code Tryz.func33 rfl ?_; simp only [Tryz.f33]; simp only [go_sem, Nat.reduceMul, Nat.reduceLT, Nat.reduceLeDiff, Nat.reduceEqDiff, Nat.reduceBEq, Int.toNat_natCast, Int.reduceToNat, Int.reduceNeg, Int.reduceLT, Int.reduceLE, Int.reduceBEq, Int.reduceBNe, decide_true, decide_false, Bool.false_eq_true, false_imp_iff, Nat.lt_irrefl])
  refine acond_intro (fun hc => ?_) (fun hc => ?_)
  · simp only [go_sem, Nat.reduceMul, Nat.reduceLT, Nat.reduceLeDiff, Nat.reduceEqDiff, Nat.reduceBEq, Int.toNat_natCast, Int.reduceToNat, Int.reduceNeg, Int.reduceLT, Int.reduceLE, Int.reduceBEq, Int.reduceBNe, decide_true, decide_false, Bool.false_eq_true, false_imp_iff, Nat.lt_irrefl]
    refine Fin_plain ?_
    have : a.length ≠ b.length := by intro e; rw [e] at hc; simp at hc
    rw [decide_eq_false]; rintro rfl; exact this rfl
  · have hab : a.length = b.length := by simp at hc; omega
    simp only [go_sem, Nat.reduceMul, Nat.reduceLT, Nat.reduceLeDiff, Nat.reduceEqDiff, Nat.reduceBEq, Int.toNat_natCast, Int.reduceToNat, Int.reduceNeg, Int.reduceLT, Int.reduceLE, Int.reduceBEq, Int.reduceBNe, decide_true, decide_false, Bool.false_eq_true, false_imp_iff, Nat.lt_irrefl]
    refine ALoop.over [4, 5, 11, 12, 13, 14, 15, 16, 17, 18, 19, 20, 21, 22, 23, 24, 25] (fun e h' => ∃ k : Nat, k ≤ a.length ∧ e.getD 5 .any = .int .i64 k ∧ a.take k = b.take k) (fun e _ => a.length - natA (e.getD 5 .any)) ⟨0, by omega, rfl, by simp⟩ ?_
    simp only [List.length_cons, List.length_nil, Nat.reduceAdd, allL_succ, allL_zero]
    intro y4 y5 y11 y12 y13 y14 y15 y16 y17 y18 y19 y20 y21 y22 y23 y24 y25 h1 hI
    simp only [go_sem] at hI
    obtain ⟨k, hk, rfl, hall⟩ := hI
    simp only [go_sem, Nat.reduceMul, Nat.reduceLT, Nat.reduceLeDiff, Nat.reduceEqDiff, Nat.reduceBEq, Int.toNat_natCast, Int.reduceToNat, Int.reduceNeg, Int.reduceLT, Int.reduceLE, Int.reduceBEq, Int.reduceBNe, decide_true, decide_false, Bool.false_eq_true, false_imp_iff, Nat.lt_irrefl]
    refine acond_intro (fun hc => ?_) (fun hc => ?_)
    · have hlt : k < a.length := by have := of_decide_eq_true hc; omega
      have hltb : k < b.length := by omega
      simp only [go_sem, Nat.reduceMul, Nat.reduceLT, Nat.reduceLeDiff, Nat.reduceEqDiff, Nat.reduceBEq, Int.toNat_natCast, Int.reduceToNat, Int.reduceNeg, Int.reduceLT, Int.reduceLE, Int.reduceBEq, Int.reduceBNe, decide_true, decide_false, Bool.false_eq_true, false_imp_iff, Nat.lt_irrefl]
      (refine ADrawT.mem [] mixedOrdersD (by kernel_rfl) (by kernel_rfl) ?_; simp only [go_sem, Nat.reduceMul, Nat.reduceLT, Nat.reduceLeDiff, Nat.reduceEqDiff, Nat.reduceBEq, Int.toNat_natCast, Int.reduceToNat, Int.reduceNeg, Int.reduceLT, Int.reduceLE, Int.reduceBEq, Int.reduceBNe, decide_true, decide_false, Bool.false_eq_true, false_imp_iff, Nat.lt_irrefl])
      simp only [go_sem, intsA_get a k hlt, intsA_get b k hltb, Nat.reduceMul, Nat.reduceLT, Nat.reduceLeDiff, Nat.reduceEqDiff, Nat.reduceBEq, Int.toNat_natCast, Int.reduceToNat, Int.reduceNeg, Int.reduceLT, Int.reduceLE, Int.reduceBEq, Int.reduceBNe, decide_true, decide_false, Bool.false_eq_true, false_imp_iff, Nat.lt_irrefl]
      refine ⟨⟨by omega, by omega⟩, ⟨by omega, by omega⟩, by simp [okAcc], ?_⟩
      refine acond_intro (fun hd => ?_) (fun hd => ?_)
      · simp only [go_sem, Nat.reduceMul, Nat.reduceLT, Nat.reduceLeDiff, Nat.reduceEqDiff, Nat.reduceBEq, Int.toNat_natCast, Int.reduceToNat, Int.reduceNeg, Int.reduceLT, Int.reduceLE, Int.reduceBEq, Int.reduceBNe, decide_true, decide_false, Bool.false_eq_true, false_imp_iff, Nat.lt_irrefl]
        refine Fin_plain ?_
        rw [decide_eq_false]; rintro rfl
        simp at hd
      · simp only [go_sem, Nat.reduceMul, Nat.reduceLT, Nat.reduceLeDiff, Nat.reduceEqDiff, Nat.reduceBEq, Int.toNat_natCast, Int.reduceToNat, Int.reduceNeg, Int.reduceLT, Int.reduceLE, Int.reduceBEq, Int.reduceBNe, decide_true, decide_false, Bool.false_eq_true, false_imp_iff, Nat.lt_irrefl]
        rw [wrap_id (by omega) (by omega)]
        have e : a[k] = b[k] := by simpa using hd
        refine ⟨⟨k + 1, by omega, rfl, ?_⟩, by omega⟩
        rw [List.take_succ_eq_append_getElem hlt, List.take_succ_eq_append_getElem hltb, hall, e]
    · have : k = a.length := by have := of_decide_eq_false hc; omega
      subst this
      simp only [go_sem, Nat.reduceMul, Nat.reduceLT, Nat.reduceLeDiff, Nat.reduceEqDiff, Nat.reduceBEq, Int.toNat_natCast, Int.reduceToNat, Int.reduceNeg, Int.reduceLT, Int.reduceLE, Int.reduceBEq, Int.reduceBNe, decide_true, decide_false, Bool.false_eq_true, false_imp_iff, Nat.lt_irrefl]
      refine Fin_plain ?_
      rw [List.take_length, hab, List.take_length] at hall
      rw [hall]; simp

abbrev budA (c : Bool) (n : Int) (l : List Int) : AV := .agg [.int .i64 n, .fz c (intsA l)]
theorem sameB_ok (a b : List Int) (m n : Int) (c1 c2 : Bool) (h : List AObj) (ha : a.length ≤ 4611686018427387904) (hb : b.length ≤ 4611686018427387904) : ACall Tryz.prog 13 [budA c1 m a, budA c2 n b] h (fun r _ => r = .bool (decide (a = b) && (m == n))) := by
  (refine ACall.of_code Tryz.func13 rfl ?_; simp only [Tryz.f13]; simp only [go_sem, Nat.reduceMul, Nat.reduceLT, Nat.reduceLeDiff, Nat.reduceEqDiff, Nat.reduceBEq, Int.toNat_natCast, Int.reduceToNat, Int.reduceNeg, Int.reduceLT, Int.reduceLE, Int.reduceBEq, Int.reduceBNe, decide_true, decide_false, Bool.false_eq_true, false_imp_iff, Nat.lt_irrefl])
  (refine ACallT.frame (rints_ok a b c1 c2 _ ha hb) ?_; refine fun _ _ e => ?_; subst e; refine ⟨by (first | rfl | (simp only [AV.low, lowL, low_strs, low_bytes, Bool.and_true, Bool.and_self])), ?_⟩; simp only [go_sem, Nat.reduceMul, Nat.reduceLT, Nat.reduceLeDiff, Nat.reduceEqDiff, Nat.reduceBEq, Int.toNat_natCast, Int.reduceToNat, Int.reduceNeg, Int.reduceLT, Int.reduceLE, Int.reduceBEq, Int.reduceBNe, decide_true, decide_false, Bool.false_eq_true, false_imp_iff, Nat.lt_irrefl])
  cases decide (a = b) with
  | false => simp only [go_sem, Nat.reduceMul, Nat.reduceLT, Nat.reduceLeDiff, Nat.reduceEqDiff, Nat.reduceBEq, Int.toNat_natCast, Int.reduceToNat, Int.reduceNeg, Int.reduceLT, Int.reduceLE, Int.reduceBEq, Int.reduceBNe, decide_true, decide_false, Bool.false_eq_true, false_imp_iff, Nat.lt_irrefl]; exact Fin_plain rfl
  | true => simp only [go_sem, Nat.reduceMul, Nat.reduceLT, Nat.reduceLeDiff, Nat.reduceEqDiff, Nat.reduceBEq, Int.toNat_natCast, Int.reduceToNat, Int.reduceNeg, Int.reduceLT, Int.reduceLE, Int.reduceBEq, Int.reduceBNe, decide_true, decide_false, Bool.false_eq_true, false_imp_iff, Nat.lt_irrefl]; exact Fin_plain rfl

/-! ### Charge -/
def badZ (p : Int × Int) : Bool := bif decide (p.1 < 0) then true else decide (4611686018427387904 - sizeF p.2 < p.1)
def addZ (ss ms : List Int) : List Int := List.zipWith (fun a n => a + sizeF n) ss ms
def chgC (d m : List Str) (t : Int) (dims : List Str) (ms : List Int) (n : Int) (ss : List Int) : Int :=
  bif checkS d m t dims ms != 0 then checkS d m t dims ms
  else bif (bif (bif ((ss.length : Int) != (m.length : Int)) then true else decide (n < 0)) then true else decide (1048576 ≤ n)) then 182
  else bif (ss.zip ms).any badZ then 182 else 0
def budR (c : Bool) (k n : Int) (ss ms : List Int) : AV := budA c (bif k == 0 then n + 1 else 0) (bif k == 0 then addZ ss ms else [])
theorem check_len {d m : List Str} {t : Int} {dims : List Str} {ms : List Int} (h : checkS d m t dims ms = 0) : ms.length = m.length := by
  unfold checkS at h
  cases e : (bif (((dims.length : Int)) != (d.length : Int)) then true else ((ms.length : Int) != (m.length : Int))) with
  | true => rw [e] at h; simp at h
  | false =>
    cases e2 : ((dims.length : Int)) != (d.length : Int) with
    | true => rw [e2] at e; simp at e
    | false => rw [e2] at e; simp at e; omega
theorem budR_err (c : Bool) {k : Int} (n : Int) (ss ms : List Int) (h : k ≠ 0) : budR c k n ss ms = budA c 0 [] := by
  have : (k == 0) = false := by simpa using h
  simp [budR, this]
theorem addZ_len (ss ms : List Int) (h : ss.length = ms.length) : (addZ ss ms).length = ss.length := by simp [addZ, h]
def partZ (ss ms : List Int) (k : Nat) : List Int := (List.range ss.length).map fun i => if i < k then ss.getD i 0 + sizeF (ms.getD i 0) else ss.getD i 0
@[go_sem] theorem partZ_len (ss ms : List Int) (k : Nat) : (partZ ss ms k).length = ss.length := by simp [partZ]
theorem partZ_zero (ss ms : List Int) : partZ ss ms 0 = ss := by
  refine List.ext_getElem (by simp [partZ]) fun i h1 h2 => ?_
  simp [partZ, List.getD_eq_getElem?_getD, h2]
theorem partZ_get (ss ms : List Int) (k : Nat) (hk : k < ss.length) : (intsA (partZ ss ms k)).getD k .any = .int .i64 ss[k] := by
  rw [intsA_get _ _ (by rw [partZ_len]; exact hk)]
  simp [partZ, List.getD_eq_getElem?_getD, hk]
theorem partZ_set (ss ms : List Int) (k : Nat) (hk : k < ss.length) (hm : k < ms.length) : (intsA (partZ ss ms k)).set k (.int .i64 (ss[k] + sizeF ms[k])) = intsA (partZ ss ms (k + 1)) := by
  refine List.ext_getElem (by simp [intsA, partZ]) fun i h1 h2 => ?_
  rw [List.getElem_set]
  have hi : i < ss.length := by simpa [intsA, partZ] using h1
  by_cases e : k = i
  · subst e
    simp [intsA, partZ, List.getD_eq_getElem?_getD, hk, hm]
  · have e2 : (i < k) ↔ (i < k + 1) := by omega
    simp [intsA, partZ, e, e2]
theorem partZ_full (ss ms : List Int) (h : ss.length = ms.length) : partZ ss ms ss.length = addZ ss ms := by
  refine List.ext_getElem (by simp [partZ, addZ, h]) fun i h1 h2 => ?_
  have hi : i < ss.length := by simpa [partZ] using h1
  have hj : i < ms.length := by omega
  simp [partZ, addZ, List.getD_eq_getElem?_getD, hi, hj]
theorem zip_bad {ss ms : List Int} {k : Nat} (hk : k < ss.length) (hm : k < ms.length) (h : ((ss.zip ms).take k).any badZ = false) : ((ss.zip ms).take (k + 1)).any badZ = badZ (ss[k], ms[k]) := by
  rw [List.take_succ_eq_append_getElem (by simp; omega), List.any_append, h]
  simp
theorem addZ_snoc {ss ms : List Int} {k : Nat} (hk : k < ss.length) (hm : k < ms.length) : addZ (ss.take (k + 1)) ms = addZ (ss.take k) ms ++ [ss[k] + sizeF ms[k]] := by
  refine List.ext_getElem (by simp [addZ]; omega) fun i h1 h2 => ?_
  have hi : i < k + 1 := by simp [addZ] at h1; omega
  by_cases e : i < k
  · rw [List.getElem_append_left (by simp [addZ]; omega)]
    simp [addZ]
  · obtain rfl : i = k := by omega
    rw [List.getElem_append_right (by simp [addZ]; omega)]
    simp [addZ]
theorem addZ_tlen {ss ms : List Int} {k : Nat} (hk : k ≤ ss.length) (hm : k ≤ ms.length) : (addZ (ss.take k) ms).length = k := by simp [addZ]; omega
theorem charge_ok (a1 a2 c1 c2 cb : Bool) (d m dims : List Str) (t : Int) (ms : List Int) (n : Int) (ss : List Int) (h : List AObj) (hd : dims.length ≤ 9223372036854775807) (hm : ms.length ≤ 8796093022000) (hs : ss.length ≤ 8796093022000) (hM : m.length ≤ 9223372036854775807) (hv : ∀ s ∈ dims, ValOk s) :
    ACall Tryz.prog 11 [schA a1 a2 d m, budA cb n ss, evA' t c1 c2 dims ms] h (fun r _ => ∃ c, r = .tup [budR c (chgC d m t dims ms n ss) n ss ms, .int .i64 (chgC d m t dims ms n ss)]) := by
  simp only [schA, evA']
  (refine ACall.of_code Tryz.func11 rfl ?_; simp only [Tryz.f11]; simp only [go_sem, Nat.reduceMul, Nat.reduceLT, Nat.reduceLeDiff, Nat.reduceEqDiff, Nat.reduceBEq, Int.toNat_natCast, Int.reduceToNat, Int.reduceNeg, Int.reduceLT, Int.reduceLE, Int.reduceBEq, Int.reduceBNe, decide_true, decide_false, Bool.false_eq_true, false_imp_iff, Nat.lt_irrefl])
  (refine ACallT.frame (check_ok a1 a2 c1 c2 d m dims t ms _ hd (by omega) hv) ?_; refine fun _ _ e => ?_; subst e; refine ⟨by (first | rfl | (simp only [AV.low, lowL, low_strs, low_bytes, Bool.and_true, Bool.and_self])), ?_⟩; simp only [go_sem, Nat.reduceMul, Nat.reduceLT, Nat.reduceLeDiff, Nat.reduceEqDiff, Nat.reduceBEq, Int.toNat_natCast, Int.reduceToNat, Int.reduceNeg, Int.reduceLT, Int.reduceLE, Int.reduceBEq, Int.reduceBNe, decide_true, decide_false, Bool.false_eq_true, false_imp_iff, Nat.lt_irrefl])
  generalize hk : checkS d m t dims ms = k
  refine acond_intro (fun hc => ?_) (fun hc => ?_)
  · have hk0 : k ≠ 0 := by simpa using hc
    simp only [go_sem, Nat.reduceMul, Nat.reduceLT, Nat.reduceLeDiff, Nat.reduceEqDiff, Nat.reduceBEq, Int.toNat_natCast, Int.reduceToNat, Int.reduceNeg, Int.reduceLT, Int.reduceLE, Int.reduceBEq, Int.reduceBNe, decide_true, decide_false, Bool.false_eq_true, false_imp_iff, Nat.lt_irrefl]
    refine Fin_plain ⟨true, ?_⟩
    have : chgC d m t dims ms n ss = k := by unfold chgC; rw [hk, show (k != 0) = true from hc]; rfl
    rw [this, budR_err _ _ _ _ hk0]; rfl
  have hk0 : k = 0 := by simpa using hc
  subst hk0
  have hlm := check_len hk
  simp only [go_sem, Nat.reduceMul, Nat.reduceLT, Nat.reduceLeDiff, Nat.reduceEqDiff, Nat.reduceBEq, Int.toNat_natCast, Int.reduceToNat, Int.reduceNeg, Int.reduceLT, Int.reduceLE, Int.reduceBEq, Int.reduceBNe, decide_true, decide_false, Bool.false_eq_true, false_imp_iff, Nat.lt_irrefl]
  refine acond_intro (fun hb => ?_) (fun hb => ?_)
  · simp only [go_sem, Nat.reduceMul, Nat.reduceLT, Nat.reduceLeDiff, Nat.reduceEqDiff, Nat.reduceBEq, Int.toNat_natCast, Int.reduceToNat, Int.reduceNeg, Int.reduceLT, Int.reduceLE, Int.reduceBEq, Int.reduceBNe, decide_true, decide_false, Bool.false_eq_true, false_imp_iff, Nat.lt_irrefl]
    refine Fin_plain ⟨true, ?_⟩
    have : chgC d m t dims ms n ss = 182 := by unfold chgC; rw [hk, hb]; rfl
    rw [this, budR_err _ _ _ _ (by decide)]; rfl
  obtain ⟨hl, hn0, hn1⟩ : ss.length = m.length ∧ 0 ≤ n ∧ n < 1048576 := by
    by_cases e1 : ((ss.length : Int) != (m.length : Int)) = true
    · rw [e1] at hb; simp at hb
    · have e1 : ((ss.length : Int) != (m.length : Int)) = false := by simpa using e1
      rw [e1] at hb; simp at hb e1
      exact ⟨by omega, by omega, by omega⟩
  have hC : chgC d m t dims ms n ss = bif (ss.zip ms).any badZ then 182 else 0 := by unfold chgC; rw [hk, hb]; rfl
  rw [hC]
  simp only [go_sem, Nat.reduceMul, Nat.reduceLT, Nat.reduceLeDiff, Nat.reduceEqDiff, Nat.reduceBEq, Int.toNat_natCast, Int.reduceToNat, Int.reduceNeg, Int.reduceLT, Int.reduceLE, Int.reduceBEq, Int.reduceBNe, decide_true, decide_false, Bool.false_eq_true, false_imp_iff, Nat.lt_irrefl]
  (refine ADrawT.walk [[0, 6, 8], [0, 6, 8], [0, 6, 8], [0], [0], [0, 6, 8], [6, 8], [0, 6, 8], [8, 9]] mixedOrdersD (by kernel_rfl) (by kernel_rfl) ?_; simp only [go_sem, Nat.reduceMul, Nat.reduceLT, Nat.reduceLeDiff, Nat.reduceEqDiff, Nat.reduceBEq, Int.toNat_natCast, Int.reduceToNat, Int.reduceNeg, Int.reduceLT, Int.reduceLE, Int.reduceBEq, Int.reduceBNe, decide_true, decide_false, Bool.false_eq_true, false_imp_iff, Nat.lt_irrefl])
  rw [wrap_id (by omega) (by omega)]
  by_cases h0 : ss = []
  · subst h0
    refine frX_same (.fz false []) ?_ ?_
    · simp only [go_sem, Nat.reduceMul, Nat.reduceLT, Nat.reduceLeDiff, Nat.reduceEqDiff, Nat.reduceBEq, Int.toNat_natCast, Int.reduceToNat, Int.reduceNeg, Int.reduceLT, Int.reduceLE, Int.reduceBEq, Int.reduceBNe, decide_true, decide_false, Bool.false_eq_true, false_imp_iff, Nat.lt_irrefl]
      exact ACallT.by (iclone_nil cb _) fun _ _ e => e
    simp only [go_sem, Nat.reduceMul, Nat.reduceLT, Nat.reduceLeDiff, Nat.reduceEqDiff, Nat.reduceBEq, Int.toNat_natCast, Int.reduceToNat, Int.reduceNeg, Int.reduceLT, Int.reduceLE, Int.reduceBEq, Int.reduceBNe, decide_true, decide_false, Bool.false_eq_true, false_imp_iff, Nat.lt_irrefl]
    refine ⟨by simp [fmem, Agree], ?_⟩
    refine ALoop.over [7, 10, 11, 47, 48, 49, 50, 51, 52, 53, 54, 55, 56, 57, 58, 59, 60, 61, 62, 63, 64, 65, 66, 67, 68, 69, 70, 71, 72, 73, 74, 75, 76, 77, 78, 79, 80, 81] (fun e h' => e.getD 47 .any = .int .i64 0 ∧ h' = h ++ [.arr 0 2 [.agg [.fz a1 (strs d), .fz a2 (strs m)]], .arr 0 2 [budA cb n []], .arr 0 3 [.agg [.int .i64 t, .fz c1 (strs dims), .fz c2 (intsA ms)]], .arr 0 2 [.agg [.int .i64 0, .fz true []]], .arr 0 2 [.agg [.int .i64 (n + 1), .fz false []]]]) (fun e _ => 0) ⟨rfl, rfl⟩ ?_
    simp only [List.length_cons, List.length_nil, Nat.reduceAdd, allL_succ, allL_zero]
    intro y7 y10 y11 y47 y48 y49 y50 y51 y52 y53 y54 y55 y56 y57 y58 y59 y60 y61 y62 y63 y64 y65 y66 y67 y68 y69 y70 y71 y72 y73 y74 y75 y76 y77 y78 y79 y80 y81 h1 hI
    simp only [go_sem] at hI
    obtain ⟨rfl, rfl⟩ := hI
    simp only [go_sem, Nat.reduceMul, Nat.reduceLT, Nat.reduceLeDiff, Nat.reduceEqDiff, Nat.reduceBEq, Int.toNat_natCast, Int.reduceToNat, Int.reduceNeg, Int.reduceLT, Int.reduceLE, Int.reduceBEq, Int.reduceBNe, decide_true, decide_false, Bool.false_eq_true, false_imp_iff, Nat.lt_irrefl]
    refine acond_intro (fun hc => absurd hc (by simp)) (fun hc => ?_)
    simp only [go_sem, Nat.reduceMul, Nat.reduceLT, Nat.reduceLeDiff, Nat.reduceEqDiff, Nat.reduceBEq, Int.toNat_natCast, Int.reduceToNat, Int.reduceNeg, Int.reduceLT, Int.reduceLE, Int.reduceBEq, Int.reduceBNe, decide_true, decide_false, Bool.false_eq_true, false_imp_iff, Nat.lt_irrefl]
    exact Fin_plain ⟨false, rfl⟩
  · refine frX_ext (.sl (h.length + 4) 1 1 0 ss.length) [.arr 1 1 (intsA ss)] ?_ ?_
    · simp only [go_sem, Nat.reduceMul, Nat.reduceLT, Nat.reduceLeDiff, Nat.reduceEqDiff, Nat.reduceBEq, Int.toNat_natCast, Int.reduceToNat, Int.reduceNeg, Int.reduceLT, Int.reduceLE, Int.reduceBEq, Int.reduceBNe, decide_true, decide_false, Bool.false_eq_true, false_imp_iff, Nat.lt_irrefl]
      exact ACallT.by (iclone_ne ss cb _ hs h0) fun _ _ e => ⟨by rw [e.1]; simp, e.2⟩
    simp only [go_sem, Nat.reduceMul, Nat.reduceLT, Nat.reduceLeDiff, Nat.reduceEqDiff, Nat.reduceBEq, Int.toNat_natCast, Int.reduceToNat, Int.reduceNeg, Int.reduceLT, Int.reduceLE, Int.reduceBEq, Int.reduceBNe, decide_true, decide_false, Bool.false_eq_true, false_imp_iff, Nat.lt_irrefl]
    refine ⟨by simp [fmem, Agree], ?_⟩
    refine ALoop.over [7, 10, 11, 47, 48, 49, 50, 51, 52, 53, 54, 55, 56, 57, 58, 59, 60, 61, 62, 63, 64, 65, 66, 67, 68, 69, 70, 71, 72, 73, 74, 75, 76, 77, 78, 79, 80, 81] (fun e h' => ∃ k : Nat, k ≤ ss.length ∧ e.getD 47 .any = .int .i64 k ∧ h' = h ++ [.arr 0 2 [.agg [.fz a1 (strs d), .fz a2 (strs m)]], .arr 0 2 [budA cb n ss], .arr 0 3 [.agg [.int .i64 t, .fz c1 (strs dims), .fz c2 (intsA ms)]], .arr 0 2 [.agg [.int .i64 0, .fz true []]], .arr 1 1 (intsA (partZ ss ms k)), .arr 0 2 [.agg [.int .i64 (n + 1), .sl (h.length + 4) 1 1 0 ss.length]]] ∧ ((ss.zip ms).take k).any badZ = false) (fun e _ => ss.length - natA (e.getD 47 .any)) ⟨0, by omega, rfl, by rw [partZ_zero], by simp⟩ ?_
    simp only [List.length_cons, List.length_nil, Nat.reduceAdd, allL_succ, allL_zero]
    intro y7 y10 y11 y47 y48 y49 y50 y51 y52 y53 y54 y55 y56 y57 y58 y59 y60 y61 y62 y63 y64 y65 y66 y67 y68 y69 y70 y71 y72 y73 y74 y75 y76 y77 y78 y79 y80 y81 h1 hI
    simp only [go_sem] at hI
    obtain ⟨k, hk, rfl, rfl, hall⟩ := hI
    simp only [go_sem, Nat.reduceMul, Nat.reduceLT, Nat.reduceLeDiff, Nat.reduceEqDiff, Nat.reduceBEq, Int.toNat_natCast, Int.reduceToNat, Int.reduceNeg, Int.reduceLT, Int.reduceLE, Int.reduceBEq, Int.reduceBNe, decide_true, decide_false, Bool.false_eq_true, false_imp_iff, Nat.lt_irrefl]
    refine acond_intro (fun hc => ?_) (fun hc => ?_)
    · have hlt : k < ss.length := by have := of_decide_eq_true hc; omega
      have hltm : k < ms.length := by omega
      simp only [go_sem, intsA_get ms k hltm, Nat.reduceMul, Nat.reduceLT, Nat.reduceLeDiff, Nat.reduceEqDiff, Nat.reduceBEq, Int.toNat_natCast, Int.reduceToNat, Int.reduceNeg, Int.reduceLT, Int.reduceLE, Int.reduceBEq, Int.reduceBNe, decide_true, decide_false, Bool.false_eq_true, false_imp_iff, Nat.lt_irrefl]
      refine ⟨⟨by omega, by omega⟩, ?_⟩
      (refine ACallT.frame (asize_ok ms[k] _) ?_; refine fun _ _ e => ?_; subst e; refine ⟨by (first | rfl | (simp only [AV.low, lowL, low_strs, low_bytes, Bool.and_true, Bool.and_self])), ?_⟩; simp only [go_sem, Nat.reduceMul, Nat.reduceLT, Nat.reduceLeDiff, Nat.reduceEqDiff, Nat.reduceBEq, Int.toNat_natCast, Int.reduceToNat, Int.reduceNeg, Int.reduceLT, Int.reduceLE, Int.reduceBEq, Int.reduceBNe, decide_true, decide_false, Bool.false_eq_true, false_imp_iff, Nat.lt_irrefl])
      have s1 := sizeF_nn ms[k]
      have s2 := sizeF_le ms[k]
      simp only [go_sem, partZ_get ss ms k hlt, Nat.reduceMul, Nat.reduceLT, Nat.reduceLeDiff, Nat.reduceEqDiff, Nat.reduceBEq, Int.toNat_natCast, Int.reduceToNat, Int.reduceNeg, Int.reduceLT, Int.reduceLE, Int.reduceBEq, Int.reduceBNe, decide_true, decide_false, Bool.false_eq_true, false_imp_iff, Nat.lt_irrefl]
      refine ⟨⟨by omega, by omega⟩, by omega, ?_⟩
      rw [wrap_id (by omega) (by omega)]
      refine ⟨fun q => ⟨q, by omega, by omega⟩, fun q => ⟨q, hlt⟩, ?_⟩
      have hbz : badZ (ss[k], ms[k]) = (bif decide (ss[k] < 0) then true else decide (4611686018427387904 - sizeF ms[k] < ss[k])) := rfl
      refine acond_intro (fun hd => ?_) (fun hd => ?_)
      · simp only [go_sem, Nat.reduceMul, Nat.reduceLT, Nat.reduceLeDiff, Nat.reduceEqDiff, Nat.reduceBEq, Int.toNat_natCast, Int.reduceToNat, Int.reduceNeg, Int.reduceLT, Int.reduceLE, Int.reduceBEq, Int.reduceBNe, decide_true, decide_false, Bool.false_eq_true, false_imp_iff, Nat.lt_irrefl]
        refine Fin_plain ⟨true, ?_⟩
        have hz : (ss.zip ms).any badZ = true := by
          rw [List.any_eq_true]
          refine ⟨(ss[k], ms[k]), ?_, hbz.trans hd⟩
          have : (ss.zip ms)[k]'(by simp; omega) = (ss[k], ms[k]) := List.getElem_zip
          rw [← this]; exact List.getElem_mem _
        rw [hz]
        exact congrArg (fun z => AV.tup [z, .int .i64 182]) (budR_err true n ss ms (by decide : (182 : Int) ≠ 0)).symm
      · rw [hd] at hbz
        have hb1 : 0 ≤ ss[k] ∧ ss[k] + sizeF ms[k] ≤ 4611686018427387904 := by
          cases e : decide (ss[k] < 0) with
          | true => rw [e] at hd; cases hd
          | false =>
            rw [e] at hd
            have e1 := of_decide_eq_false e
            have e2 : decide (4611686018427387904 - sizeF ms[k] < ss[k]) = false := hd
            have e2 := of_decide_eq_false e2
            omega
        simp only [go_sem, partZ_get ss ms k hlt, Nat.reduceMul, Nat.reduceLT, Nat.reduceLeDiff, Nat.reduceEqDiff, Nat.reduceBEq, Int.toNat_natCast, Int.reduceToNat, Int.reduceNeg, Int.reduceLT, Int.reduceLE, Int.reduceBEq, Int.reduceBNe, decide_true, decide_false, Bool.false_eq_true, false_imp_iff, Nat.lt_irrefl]
        rw [wrap_id (by omega) (by omega), wrap_id (by omega) (by omega), partZ_set ss ms k hlt hltm]
        exact ⟨⟨by omega, by omega⟩, hlt, ⟨by omega, by omega⟩, hlt, ⟨k + 1, by omega, rfl, rfl, (zip_bad hlt hltm hall).trans hbz⟩, by omega⟩
    · have : k = ss.length := by have := of_decide_eq_false hc; omega
      subst this
      simp only [go_sem, Nat.reduceMul, Nat.reduceLT, Nat.reduceLeDiff, Nat.reduceEqDiff, Nat.reduceBEq, Int.toNat_natCast, Int.reduceToNat, Int.reduceNeg, Int.reduceLT, Int.reduceLE, Int.reduceBEq, Int.reduceBNe, decide_true, decide_false, Bool.false_eq_true, false_imp_iff, Nat.lt_irrefl]
      have hz : (ss.zip ms).any badZ = false := by
        rw [List.take_of_length_le (by simp; omega)] at hall; exact hall
      refine Fin_freeze 4 ⟨false, ?_⟩
      rw [hz, partZ_full ss ms (by omega)]
      simp only [go_sem, Nat.reduceMul, Nat.reduceLT, Nat.reduceLeDiff, Nat.reduceEqDiff, Nat.reduceBEq, Int.toNat_natCast, Int.reduceToNat, Int.reduceNeg, Int.reduceLT, Int.reduceLE, Int.reduceBEq, Int.reduceBNe, decide_true, decide_false, Bool.false_eq_true, false_imp_iff, Nat.lt_irrefl]
      rw [frzO_all (by rw [ints_len, addZ_len _ _ (by omega)]) (intsA_flat _)]
      rfl
theorem rcharge_ok (a1 a2 c1 c2 cb : Bool) (d m dims : List Str) (t : Int) (ms : List Int) (n : Int) (ss : List Int) (h : List AObj) (hd : dims.length ≤ 9223372036854775807) (hm : ms.length ≤ 8796093022000) (hs : ss.length ≤ 8796093022000) (hM : m.length ≤ 9223372036854775807) (hv : ∀ s ∈ dims, s.length ≤ 9223372036854775807) :
    ACall Tryz.prog 12 [schA a1 a2 d m, budA cb n ss, evA' t c1 c2 dims ms] h (fun r _ => ∃ c, r = .tup [budR c (chgC d m t dims ms n ss) n ss ms, .int .i64 (chgC d m t dims ms n ss)]) := by
  simp only [schA, evA']
  (refine ACall.of_code Tryz.func12 rfl ?_; simp only [Tryz.f12]; simp only [go_sem, Nat.reduceMul, Nat.reduceLT, Nat.reduceLeDiff, Nat.reduceEqDiff, Nat.reduceBEq, Int.toNat_natCast, Int.reduceToNat, Int.reduceNeg, Int.reduceLT, Int.reduceLE, Int.reduceBEq, Int.reduceBNe, decide_true, decide_false, Bool.false_eq_true, false_imp_iff, Nat.lt_irrefl])
  (refine ACallT.frame (rcheck_ok a1 a2 c1 c2 d m dims t ms _ hd (by omega) hv) ?_; refine fun _ _ e => ?_; subst e; refine ⟨by (first | rfl | (simp only [AV.low, lowL, low_strs, low_bytes, Bool.and_true, Bool.and_self])), ?_⟩; simp only [go_sem, Nat.reduceMul, Nat.reduceLT, Nat.reduceLeDiff, Nat.reduceEqDiff, Nat.reduceBEq, Int.toNat_natCast, Int.reduceToNat, Int.reduceNeg, Int.reduceLT, Int.reduceLE, Int.reduceBEq, Int.reduceBNe, decide_true, decide_false, Bool.false_eq_true, false_imp_iff, Nat.lt_irrefl])
  generalize hk : checkS d m t dims ms = k
  refine acond_intro (fun hc => ?_) (fun hc => ?_)
  · have hk0 : k ≠ 0 := by simpa using hc
    simp only [go_sem, Nat.reduceMul, Nat.reduceLT, Nat.reduceLeDiff, Nat.reduceEqDiff, Nat.reduceBEq, Int.toNat_natCast, Int.reduceToNat, Int.reduceNeg, Int.reduceLT, Int.reduceLE, Int.reduceBEq, Int.reduceBNe, decide_true, decide_false, Bool.false_eq_true, false_imp_iff, Nat.lt_irrefl]
    refine Fin_plain ⟨true, ?_⟩
    have : chgC d m t dims ms n ss = k := by unfold chgC; rw [hk, show (k != 0) = true from hc]; rfl
    rw [this, budR_err _ _ _ _ hk0]; rfl
  have hk0 : k = 0 := by simpa using hc
  subst hk0
  have hlm := check_len hk
  simp only [go_sem, Nat.reduceMul, Nat.reduceLT, Nat.reduceLeDiff, Nat.reduceEqDiff, Nat.reduceBEq, Int.toNat_natCast, Int.reduceToNat, Int.reduceNeg, Int.reduceLT, Int.reduceLE, Int.reduceBEq, Int.reduceBNe, decide_true, decide_false, Bool.false_eq_true, false_imp_iff, Nat.lt_irrefl]
  refine acond_intro (fun hb => ?_) (fun hb => ?_)
  · simp only [go_sem, Nat.reduceMul, Nat.reduceLT, Nat.reduceLeDiff, Nat.reduceEqDiff, Nat.reduceBEq, Int.toNat_natCast, Int.reduceToNat, Int.reduceNeg, Int.reduceLT, Int.reduceLE, Int.reduceBEq, Int.reduceBNe, decide_true, decide_false, Bool.false_eq_true, false_imp_iff, Nat.lt_irrefl]
    refine Fin_plain ⟨true, ?_⟩
    have : chgC d m t dims ms n ss = 182 := by unfold chgC; rw [hk, hb]; rfl
    rw [this, budR_err _ _ _ _ (by decide)]; rfl
  obtain ⟨hl, hn0, hn1⟩ : ss.length = m.length ∧ 0 ≤ n ∧ n < 1048576 := by
    by_cases e1 : ((ss.length : Int) != (m.length : Int)) = true
    · rw [e1] at hb; simp at hb
    · have e1 : ((ss.length : Int) != (m.length : Int)) = false := by simpa using e1
      rw [e1] at hb; simp at hb e1
      exact ⟨by omega, by omega, by omega⟩
  have hC : chgC d m t dims ms n ss = bif (ss.zip ms).any badZ then 182 else 0 := by unfold chgC; rw [hk, hb]; rfl
  rw [hC]
  simp only [go_sem, Nat.reduceMul, Nat.reduceLT, Nat.reduceLeDiff, Nat.reduceEqDiff, Nat.reduceBEq, Int.toNat_natCast, Int.reduceToNat, Int.reduceNeg, Int.reduceLT, Int.reduceLE, Int.reduceBEq, Int.reduceBNe, decide_true, decide_false, Bool.false_eq_true, false_imp_iff, Nat.lt_irrefl]
  rw [wrap_id (by omega) (by omega)]
  refine ALoop.over [7, 10, 11, 41, 42, 43, 44, 45, 46, 47, 48, 49, 50, 51, 52, 53, 54, 55, 56, 57, 58, 59, 60, 61, 62, 63, 64, 65, 66, 67, 68, 69, 70, 71, 72, 73, 74, 75, 76, 77, 78, 79, 80, 81, 82] (fun e h' => ∃ k : Nat, k ≤ ss.length ∧ e.getD 10 .any = .int .i64 k ∧ ((k = 0 ∧ h' = h ++ (.arr 0 2 [.agg [.fz a1 (strs d), .fz a2 (strs m)]] :: .arr 0 2 [budA cb n ss] :: .arr 0 3 [.agg [.int .i64 t, .fz c1 (strs dims), .fz c2 (intsA ms)]] :: .arr 0 2 [.agg [.int .i64 0, .fz true []]] :: .arr 0 2 [.agg [.int .i64 (n + 1), .fz true []]] :: [])) ∨ (0 < k ∧ ∃ g j ext, h' = h ++ (.arr 0 2 [.agg [.fz a1 (strs d), .fz a2 (strs m)]] :: .arr 0 2 [budA cb n ss] :: .arr 0 3 [.agg [.int .i64 t, .fz c1 (strs dims), .fz c2 (intsA ms)]] :: .arr 0 2 [.agg [.int .i64 0, .fz true []]] :: .arr 0 2 [.agg [.int .i64 (n + 1), .sl (h.length + (5 + j)) g 1 0 k]] :: ext) ∧ ext[j]? = some (.arr g 1 (intsA (addZ (ss.take k) ms))))) ∧ ((ss.zip ms).take k).any badZ = false) (fun e _ => ss.length - natA (e.getD 10 .any)) ⟨0, by omega, rfl, .inl ⟨rfl, rfl⟩, by simp⟩ ?_
  simp only [List.length_cons, List.length_nil, Nat.reduceAdd, allL_succ, allL_zero]
  intro y7 y10 y11 y41 y42 y43 y44 y45 y46 y47 y48 y49 y50 y51 y52 y53 y54 y55 y56 y57 y58 y59 y60 y61 y62 y63 y64 y65 y66 y67 y68 y69 y70 y71 y72 y73 y74 y75 y76 y77 y78 y79 y80 y81 y82 h1 hI
  simp only [go_sem] at hI
  obtain ⟨k, hk, rfl, hH, hall⟩ := hI
  have hx5 : ∀ (a b c d e : AObj) (j : Nat) (ext : List AObj), (a :: b :: c :: d :: e :: ext)[5 + j]? = ext[j]? := by
    intro a b c d e j ext; rw [Nat.add_comm]; rfl
  have hs5 : ∀ (a b c d e : AObj) (j : Nat) (ext : List AObj) (v : AObj), (a :: b :: c :: d :: e :: ext).set (5 + j) v = a :: b :: c :: d :: e :: ext.set j v := by
    intro a b c d e j ext v; rw [Nat.add_comm]; rfl
  by_cases hlt : k < ss.length
  · have hltm : k < ms.length := by omega
    have hd1 : decide ((k : Int) < (ss.length : Int)) = true := by simpa using hlt
    have s1 := sizeF_nn ms[k]
    have s2 := sizeF_le ms[k]
    have hbz : badZ (ss[k], ms[k]) = (bif decide (ss[k] < 0) then true else decide (4611686018427387904 - sizeF ms[k] < ss[k])) := rfl
    have hl1 : (addZ (ss.take k) ms).length = k := addZ_tlen (by omega) (by omega)
    have hsn := addZ_snoc hlt hltm
    have hz1 : badZ (ss[k], ms[k]) = true → (ss.zip ms).any badZ = true := by
      intro q
      rw [List.any_eq_true]
      refine ⟨(ss[k], ms[k]), ?_, q⟩
      have : (ss.zip ms)[k]'(by simp; omega) = (ss[k], ms[k]) := List.getElem_zip
      rw [← this]; exact List.getElem_mem _
    have hb1 : (bif decide (ss[k] < 0) then true else decide (4611686018427387904 - sizeF ms[k] < ss[k])) = false → 0 ≤ ss[k] ∧ ss[k] + sizeF ms[k] ≤ 4611686018427387904 := by
      intro q
      cases e : decide (ss[k] < 0) with
      | true => rw [e] at q; cases q
      | false =>
        rw [e] at q
        have e1 := of_decide_eq_false e
        have e2 : decide (4611686018427387904 - sizeF ms[k] < ss[k]) = false := q
        have e2 := of_decide_eq_false e2
        omega
    rcases hH with ⟨hk0, rfl⟩ | ⟨hk0, g, j, ext, rfl, hex⟩
    · simp only [go_sem, hd1, intsA_get ms k hltm, Nat.reduceMul, Nat.reduceLT, Nat.reduceLeDiff, Nat.reduceEqDiff, Nat.reduceBEq, Int.toNat_natCast, Int.reduceToNat, Int.reduceNeg, Int.reduceLT, Int.reduceLE, Int.reduceBEq, Int.reduceBNe, decide_true, decide_false, Bool.false_eq_true, false_imp_iff, Nat.lt_irrefl]
      refine ⟨⟨by omega, by omega⟩, ?_⟩
      (refine ACallT.frame (rasize_ok ms[k] _) ?_; refine fun _ _ e => ?_; subst e; refine ⟨by (first | rfl | (simp only [AV.low, lowL, low_strs, low_bytes, Bool.and_true, Bool.and_self])), ?_⟩; simp only [go_sem, Nat.reduceMul, Nat.reduceLT, Nat.reduceLeDiff, Nat.reduceEqDiff, Nat.reduceBEq, Int.toNat_natCast, Int.reduceToNat, Int.reduceNeg, Int.reduceLT, Int.reduceLE, Int.reduceBEq, Int.reduceBNe, decide_true, decide_false, Bool.false_eq_true, false_imp_iff, Nat.lt_irrefl])
      simp only [go_sem, intsA_get ss k hlt, Nat.reduceMul, Nat.reduceLT, Nat.reduceLeDiff, Nat.reduceEqDiff, Nat.reduceBEq, Int.toNat_natCast, Int.reduceToNat, Int.reduceNeg, Int.reduceLT, Int.reduceLE, Int.reduceBEq, Int.reduceBNe, decide_true, decide_false, Bool.false_eq_true, false_imp_iff, Nat.lt_irrefl]
      rw [wrap_id (by omega) (by omega)]
      refine ⟨⟨by omega, by omega⟩, fun q => ⟨q, by omega, by omega⟩, ?_⟩
      refine acond_intro (fun hd => ?_) (fun hd => ?_)
      · simp only [go_sem, Nat.reduceMul, Nat.reduceLT, Nat.reduceLeDiff, Nat.reduceEqDiff, Nat.reduceBEq, Int.toNat_natCast, Int.reduceToNat, Int.reduceNeg, Int.reduceLT, Int.reduceLE, Int.reduceBEq, Int.reduceBNe, decide_true, decide_false, Bool.false_eq_true, false_imp_iff, Nat.lt_irrefl]
        refine Fin_plain ⟨true, ?_⟩
        rw [hz1 (hbz.trans hd)]
        exact congrArg (fun z => AV.tup [z, .int .i64 182]) (budR_err true n ss ms (by decide : (182 : Int) ≠ 0)).symm
      · have hb2 := hb1 hd
        rw [hd] at hbz
        simp only [go_sem, Nat.reduceMul, Nat.reduceLT, Nat.reduceLeDiff, Nat.reduceEqDiff, Nat.reduceBEq, Int.toNat_natCast, Int.reduceToNat, Int.reduceNeg, Int.reduceLT, Int.reduceLE, Int.reduceBEq, Int.reduceBNe, decide_true, decide_false, Bool.false_eq_true, false_imp_iff, Nat.lt_irrefl]
        (refine ADrawT.mem [(6, 3), (9, 3), (9, 6), (10, 1), (10, 3), (10, 6), (10, 9), (12, 1), (12, 3), (12, 6), (12, 9), (12, 10)] mixedOrdersD (by kernel_rfl) (by kernel_rfl) ?_; simp only [go_sem, Nat.reduceMul, Nat.reduceLT, Nat.reduceLeDiff, Nat.reduceEqDiff, Nat.reduceBEq, Int.toNat_natCast, Int.reduceToNat, Int.reduceNeg, Int.reduceLT, Int.reduceLE, Int.reduceBEq, Int.reduceBNe, decide_true, decide_false, Bool.false_eq_true, false_imp_iff, Nat.lt_irrefl])
        simp only [go_sem, intsA_get ss k hlt, Nat.reduceMul, Nat.reduceLT, Nat.reduceLeDiff, Nat.reduceEqDiff, Nat.reduceBEq, Int.toNat_natCast, Int.reduceToNat, Int.reduceNeg, Int.reduceLT, Int.reduceLE, Int.reduceBEq, Int.reduceBNe, decide_true, decide_false, Bool.false_eq_true, false_imp_iff, Nat.lt_irrefl]
        rw [wrap_id (by omega) (by omega)]
        refine ⟨⟨by omega, by omega⟩, fun q => absurd q (by simp), fun _ => ⟨by simp [okAcc], ⟨k + 1, by omega, ?_, .inr ⟨by omega, 0, 1, [.arr 0 1 [.int .i64 (ss[k] + sizeF ms[k])], .arr 0 1 [.int .i64 (ss[k] + sizeF ms[k])]], ?_, ?_⟩, (zip_bad hlt hltm hall).trans hbz⟩, ?_⟩⟩
        · rw [wrap_id (by omega) (by omega)]; rfl
        · subst hk0; rfl
        · rw [hsn]
          subst hk0
          rfl
        · rw [wrap_id (by omega) (by omega)]; omega
    · simp only [go_sem, hd1, intsA_get ms k hltm, Nat.reduceMul, Nat.reduceLT, Nat.reduceLeDiff, Nat.reduceEqDiff, Nat.reduceBEq, Int.toNat_natCast, Int.reduceToNat, Int.reduceNeg, Int.reduceLT, Int.reduceLE, Int.reduceBEq, Int.reduceBNe, decide_true, decide_false, Bool.false_eq_true, false_imp_iff, Nat.lt_irrefl]
      refine ⟨⟨by omega, by omega⟩, ?_⟩
      (refine ACallT.frame (rasize_ok ms[k] _) ?_; refine fun _ _ e => ?_; subst e; refine ⟨by (first | rfl | (simp only [AV.low, lowL, low_strs, low_bytes, Bool.and_true, Bool.and_self])), ?_⟩; simp only [go_sem, Nat.reduceMul, Nat.reduceLT, Nat.reduceLeDiff, Nat.reduceEqDiff, Nat.reduceBEq, Int.toNat_natCast, Int.reduceToNat, Int.reduceNeg, Int.reduceLT, Int.reduceLE, Int.reduceBEq, Int.reduceBNe, decide_true, decide_false, Bool.false_eq_true, false_imp_iff, Nat.lt_irrefl])
      simp only [go_sem, intsA_get ss k hlt, Nat.reduceMul, Nat.reduceLT, Nat.reduceLeDiff, Nat.reduceEqDiff, Nat.reduceBEq, Int.toNat_natCast, Int.reduceToNat, Int.reduceNeg, Int.reduceLT, Int.reduceLE, Int.reduceBEq, Int.reduceBNe, decide_true, decide_false, Bool.false_eq_true, false_imp_iff, Nat.lt_irrefl]
      rw [wrap_id (by omega) (by omega)]
      refine ⟨⟨by omega, by omega⟩, fun q => ⟨q, by omega, by omega⟩, ?_⟩
      refine acond_intro (fun hd => ?_) (fun hd => ?_)
      · simp only [go_sem, Nat.reduceMul, Nat.reduceLT, Nat.reduceLeDiff, Nat.reduceEqDiff, Nat.reduceBEq, Int.toNat_natCast, Int.reduceToNat, Int.reduceNeg, Int.reduceLT, Int.reduceLE, Int.reduceBEq, Int.reduceBNe, decide_true, decide_false, Bool.false_eq_true, false_imp_iff, Nat.lt_irrefl]
        refine Fin_plain ⟨true, ?_⟩
        rw [hz1 (hbz.trans hd)]
        exact congrArg (fun z => AV.tup [z, .int .i64 182]) (budR_err true n ss ms (by decide : (182 : Int) ≠ 0)).symm
      · have hb2 := hb1 hd
        rw [hd] at hbz
        have hjl : j < ext.length := (List.getElem?_eq_some_iff.1 hex).1
        have hex2 : ∀ x, (ext ++ [x])[j]? = some (.arr g 1 (intsA (addZ (ss.take k) ms))) := fun x => by rw [List.getElem?_append_left hjl]; exact hex
        simp only [go_sem, Nat.reduceMul, Nat.reduceLT, Nat.reduceLeDiff, Nat.reduceEqDiff, Nat.reduceBEq, Int.toNat_natCast, Int.reduceToNat, Int.reduceNeg, Int.reduceLT, Int.reduceLE, Int.reduceBEq, Int.reduceBNe, decide_true, decide_false, Bool.false_eq_true, false_imp_iff, Nat.lt_irrefl]
        (refine ADrawT.mem [(6, 3), (9, 3), (9, 6), (10, 1), (10, 3), (10, 6), (10, 9), (12, 1), (12, 3), (12, 6), (12, 9), (12, 10)] mixedOrdersD (by kernel_rfl) (by kernel_rfl) ?_; simp only [go_sem, Nat.reduceMul, Nat.reduceLT, Nat.reduceLeDiff, Nat.reduceEqDiff, Nat.reduceBEq, Int.toNat_natCast, Int.reduceToNat, Int.reduceNeg, Int.reduceLT, Int.reduceLE, Int.reduceBEq, Int.reduceBNe, decide_true, decide_false, Bool.false_eq_true, false_imp_iff, Nat.lt_irrefl])
        simp only [go_sem, intsA_get ss k hlt, hx5, hs5, hex2, Nat.reduceMul, Nat.reduceLT, Nat.reduceLeDiff, Nat.reduceEqDiff, Nat.reduceBEq, Int.toNat_natCast, Int.reduceToNat, Int.reduceNeg, Int.reduceLT, Int.reduceLE, Int.reduceBEq, Int.reduceBNe, decide_true, decide_false, Bool.false_eq_true, false_imp_iff, Nat.lt_irrefl]
        rw [show IntKind.i64.wrap (ss[k] + sizeF ms[k]) = ss[k] + sizeF ms[k] from wrap_id (by omega) (by omega), show IntKind.i64.wrap ((k : Int) + 1) = (k : Int) + 1 from wrap_id (by omega) (by omega)]
        refine ⟨⟨by omega, by omega⟩, ⟨by omega, by omega, by omega⟩, by simp [okAcc, recC, List.pairwise_cons], ⟨k + 1, by omega, ?_, .inr ⟨by omega, g + 1, j, (ext ++ [AObj.arr 0 1 [AV.int .i64 (ss[k] + sizeF ms[k])]]).set j (AObj.arr (g + 1) 1 (intsA (addZ (ss.take k) ms) ++ [AV.int .i64 (ss[k] + sizeF ms[k])])), ?_, ?_⟩, (zip_bad hlt hltm hall).trans hbz⟩, ?_⟩
        · rfl
        · rw [hl1]
        · rw [List.getElem?_set_self (by simp; omega), hsn]
          simp [intsA]
        · omega
  · obtain rfl : k = ss.length := by omega
    have hz : (ss.zip ms).any badZ = false := by
      rw [List.take_of_length_le (by simp; omega)] at hall; exact hall
    rcases hH with ⟨h0, rfl⟩ | ⟨hk0, g, j, ext, rfl, hex⟩
    · simp only [go_sem, Nat.reduceMul, Nat.reduceLT, Nat.reduceLeDiff, Nat.reduceEqDiff, Nat.reduceBEq, Int.toNat_natCast, Int.reduceToNat, Int.reduceNeg, Int.reduceLT, Int.reduceLE, Int.reduceBEq, Int.reduceBNe, decide_true, decide_false, Bool.false_eq_true, false_imp_iff, Nat.lt_irrefl]
      refine acond_intro (fun hc => absurd hc (by simp)) (fun hc => ?_)
      simp only [go_sem, Nat.reduceMul, Nat.reduceLT, Nat.reduceLeDiff, Nat.reduceEqDiff, Nat.reduceBEq, Int.toNat_natCast, Int.reduceToNat, Int.reduceNeg, Int.reduceLT, Int.reduceLE, Int.reduceBEq, Int.reduceBNe, decide_true, decide_false, Bool.false_eq_true, false_imp_iff, Nat.lt_irrefl]
      refine Fin_plain ⟨true, ?_⟩
      have : ss = [] := List.length_eq_zero_iff.1 h0
      subst this
      rfl
    · simp only [go_sem, Nat.reduceMul, Nat.reduceLT, Nat.reduceLeDiff, Nat.reduceEqDiff, Nat.reduceBEq, Int.toNat_natCast, Int.reduceToNat, Int.reduceNeg, Int.reduceLT, Int.reduceLE, Int.reduceBEq, Int.reduceBNe, decide_true, decide_false, Bool.false_eq_true, false_imp_iff, Nat.lt_irrefl]
      refine acond_intro (fun hc => absurd hc (by simp)) (fun hc => ?_)
      simp only [go_sem, Nat.reduceMul, Nat.reduceLT, Nat.reduceLeDiff, Nat.reduceEqDiff, Nat.reduceBEq, Int.toNat_natCast, Int.reduceToNat, Int.reduceNeg, Int.reduceLT, Int.reduceLE, Int.reduceBEq, Int.reduceBNe, decide_true, decide_false, Bool.false_eq_true, false_imp_iff, Nat.lt_irrefl]
      refine Fin_freeze 4 ⟨false, ?_⟩
      rw [hz]
      simp only [go_sem, hx5, hex, List.take_length, Nat.reduceMul, Nat.reduceLT, Nat.reduceLeDiff, Nat.reduceEqDiff, Nat.reduceBEq, Int.toNat_natCast, Int.reduceToNat, Int.reduceNeg, Int.reduceLT, Int.reduceLE, Int.reduceBEq, Int.reduceBNe, decide_true, decide_false, Bool.false_eq_true, false_imp_iff, Nat.lt_irrefl]
      rw [frzO_all (by rw [ints_len, addZ_len _ _ (by omega)]) (intsA_flat _)]
      rfl
/-! ### The law -/
theorem low_intsA : ∀ l : List Int, lowL 0 (intsA l) = true
  | [] => rfl
  | n :: l => by
    have := low_intsA l
    simp only [intsA, List.map_cons, lowL, AV.low, Bool.true_and] at this ⊢
    exact this
theorem low_bud (c : Bool) (n : Int) (l : List Int) (k : Int) : (AV.tup [budA c n l, .int .i64 k]).low 0 = true := by simp [AV.low, lowL, low_intsA]
theorem charges_law (a1 a2 cb : Bool) (d m : List Str) (n : Int) (ss : List Int) (e : Ev) (h : List AObj) (hd : d.length ≤ 8796093022000) (hm : m.length ≤ 8796093022000) (hL : ∀ s ∈ d ++ m, s.length ≤ 9223372036854775807) (he : e.2.1.length ≤ 9223372036854775807) (hem : e.2.2.length ≤ 9223372036854775807) (hs : ss.length ≤ 9223372036854775807) (hv : ∀ s ∈ e.2.1, s.length ≤ 9223372036854775807) : ACall Tryz.prog 3 [schA a1 a2 d m, budA cb n ss, eventA e] h (fun r _ => r = .bool true) := by
  simp only [eventA, schA]
  (refine ACall.of_code Tryz.func3 rfl ?_; simp only [Tryz.f3]; simp only [go_sem, Nat.reduceMul, Nat.reduceLT, Nat.reduceLeDiff, Nat.reduceEqDiff, Nat.reduceBEq, Int.toNat_natCast, Int.reduceToNat, Int.reduceNeg, Int.reduceLT, Int.reduceLE, Int.reduceBEq, Int.reduceBNe, decide_true, decide_false, Bool.false_eq_true, false_imp_iff, Nat.lt_irrefl])
  refine ACallT.pure (as' := [schA a1 a2 d m, .fz false (evs [e])]) (by simp only [go_sem, evs, schA, Nat.reduceMul, Nat.reduceLT, Nat.reduceLeDiff, Nat.reduceEqDiff, Nat.reduceBEq, Int.toNat_natCast, Int.reduceToNat, Int.reduceNeg, Int.reduceLT, Int.reduceLE, Int.reduceBEq, Int.reduceBNe, decide_true, decide_false, Bool.false_eq_true, false_imp_iff, Nat.lt_irrefl]; rfl) (by first | trivial | assumption | (simp only [go_sem, Nat.reduceMul, Nat.reduceLT, Nat.reduceLeDiff, Nat.reduceEqDiff, Nat.reduceBEq, Int.toNat_natCast, Int.reduceToNat, Int.reduceNeg, Int.reduceLT, Int.reduceLE, Int.reduceBEq, Int.reduceBNe, decide_true, decide_false, Bool.false_eq_true, false_imp_iff, Nat.lt_irrefl]; done) | (simp only [go_sem, Nat.reduceMul, Nat.reduceLT, Nat.reduceLeDiff, Nat.reduceEqDiff, Nat.reduceBEq, Int.toNat_natCast, Int.reduceToNat, Int.reduceNeg, Int.reduceLT, Int.reduceLE, Int.reduceBEq, Int.reduceBNe, decide_true, decide_false, Bool.false_eq_true, false_imp_iff, Nat.lt_irrefl]; first | trivial | assumption | omega | decide | (refine ⟨?_, ?_⟩ <;> first | trivial | assumption | omega | decide))) (lfits_ok a1 a2 false d m [e] _ (by omega) (by omega) (by simp) (by simpa using he)) ?_
  rintro r h' rfl
  refine ⟨rfl, ?_⟩
  simp only [go_sem, Nat.reduceMul, Nat.reduceLT, Nat.reduceLeDiff, Nat.reduceEqDiff, Nat.reduceBEq, Int.toNat_natCast, Int.reduceToNat, Int.reduceNeg, Int.reduceLT, Int.reduceLE, Int.reduceBEq, Int.reduceBNe, decide_true, decide_false, Bool.false_eq_true, false_imp_iff, Nat.lt_irrefl]
  have hev1 : evFit e = (fitS e.2.1 && decide (e.2.2.length ≤ 20)) := rfl
  generalize hf : (fitS d && fitS m && evFit e) = f
  cases f with
  | false =>
    simp only [go_sem, Nat.reduceMul, Nat.reduceLT, Nat.reduceLeDiff, Nat.reduceEqDiff, Nat.reduceBEq, Int.toNat_natCast, Int.reduceToNat, Int.reduceNeg, Int.reduceLT, Int.reduceLE, Int.reduceBEq, Int.reduceBNe, decide_true, decide_false, Bool.false_eq_true, false_imp_iff, Nat.lt_irrefl]
    (refine ACallT.frame (alive_ok _) ?_; refine fun _ _ e => ?_; subst e; refine ⟨by (first | rfl | (simp only [AV.low, lowL, low_strs, low_bytes, Bool.and_true, Bool.and_self])), ?_⟩; simp only [go_sem, Nat.reduceMul, Nat.reduceLT, Nat.reduceLeDiff, Nat.reduceEqDiff, Nat.reduceBEq, Int.toNat_natCast, Int.reduceToNat, Int.reduceNeg, Int.reduceLT, Int.reduceLE, Int.reduceBEq, Int.reduceBNe, decide_true, decide_false, Bool.false_eq_true, false_imp_iff, Nat.lt_irrefl])
    exact Fin_plain rfl
  | true =>
  simp only [go_sem, Nat.reduceMul, Nat.reduceLT, Nat.reduceLeDiff, Nat.reduceEqDiff, Nat.reduceBEq, Int.toNat_natCast, Int.reduceToNat, Int.reduceNeg, Int.reduceLT, Int.reduceLE, Int.reduceBEq, Int.reduceBNe, decide_true, decide_false, Bool.false_eq_true, false_imp_iff, Nat.lt_irrefl]
  have hdl : d.length + m.length ≤ 8796093022000 := by
    simp only [Bool.and_eq_true, fitS, decide_eq_true_eq] at hf; omega
  (refine ACallT.frame (rright_ok a1 a2 d m _ hdl hL) ?_; refine fun _ _ e => ?_; subst e; refine ⟨by (first | rfl | (simp only [AV.low, lowL, low_strs, low_bytes, Bool.and_true, Bool.and_self])), ?_⟩; simp only [go_sem, Nat.reduceMul, Nat.reduceLT, Nat.reduceLeDiff, Nat.reduceEqDiff, Nat.reduceBEq, Int.toNat_natCast, Int.reduceToNat, Int.reduceNeg, Int.reduceLT, Int.reduceLE, Int.reduceBEq, Int.reduceBNe, decide_true, decide_false, Bool.false_eq_true, false_imp_iff, Nat.lt_irrefl])
  generalize hR : rightS d m = rt
  cases rt with
  | false =>
    simp only [go_sem, Nat.reduceMul, Nat.reduceLT, Nat.reduceLeDiff, Nat.reduceEqDiff, Nat.reduceBEq, Int.toNat_natCast, Int.reduceToNat, Int.reduceNeg, Int.reduceLT, Int.reduceLE, Int.reduceBEq, Int.reduceBNe, decide_true, decide_false, Bool.false_eq_true, false_imp_iff, Nat.lt_irrefl]
    (refine ACallT.frame (alive_ok _) ?_; refine fun _ _ e => ?_; subst e; refine ⟨by (first | rfl | (simp only [AV.low, lowL, low_strs, low_bytes, Bool.and_true, Bool.and_self])), ?_⟩; simp only [go_sem, Nat.reduceMul, Nat.reduceLT, Nat.reduceLeDiff, Nat.reduceEqDiff, Nat.reduceBEq, Int.toNat_natCast, Int.reduceToNat, Int.reduceNeg, Int.reduceLT, Int.reduceLE, Int.reduceBEq, Int.reduceBNe, decide_true, decide_false, Bool.false_eq_true, false_imp_iff, Nat.lt_irrefl])
    exact Fin_plain rfl
  | true =>
  simp only [go_sem, Nat.reduceMul, Nat.reduceLT, Nat.reduceLeDiff, Nat.reduceEqDiff, Nat.reduceBEq, Int.toNat_natCast, Int.reduceToNat, Int.reduceNeg, Int.reduceLT, Int.reduceLE, Int.reduceBEq, Int.reduceBNe, decide_true, decide_false, Bool.false_eq_true, false_imp_iff, Nat.lt_irrefl]
  refine acond_intro (fun hc => ?_) (fun hc => ?_)
  · simp only [go_sem, Nat.reduceMul, Nat.reduceLT, Nat.reduceLeDiff, Nat.reduceEqDiff, Nat.reduceBEq, Int.toNat_natCast, Int.reduceToNat, Int.reduceNeg, Int.reduceLT, Int.reduceLE, Int.reduceBEq, Int.reduceBNe, decide_true, decide_false, Bool.false_eq_true, false_imp_iff, Nat.lt_irrefl]
    (refine ACallT.frame (alive_ok _) ?_; refine fun _ _ e => ?_; subst e; refine ⟨by (first | rfl | (simp only [AV.low, lowL, low_strs, low_bytes, Bool.and_true, Bool.and_self])), ?_⟩; simp only [go_sem, Nat.reduceMul, Nat.reduceLT, Nat.reduceLeDiff, Nat.reduceEqDiff, Nat.reduceBEq, Int.toNat_natCast, Int.reduceToNat, Int.reduceNeg, Int.reduceLT, Int.reduceLE, Int.reduceBEq, Int.reduceBNe, decide_true, decide_false, Bool.false_eq_true, false_imp_iff, Nat.lt_irrefl])
    exact Fin_plain rfl
  have hs20 : ss.length ≤ 20 := by have := of_decide_eq_false hc; omega
  simp only [go_sem, Nat.reduceMul, Nat.reduceLT, Nat.reduceLeDiff, Nat.reduceEqDiff, Nat.reduceBEq, Int.toNat_natCast, Int.reduceToNat, Int.reduceNeg, Int.reduceLT, Int.reduceLE, Int.reduceBEq, Int.reduceBNe, decide_true, decide_false, Bool.false_eq_true, false_imp_iff, Nat.lt_irrefl]
  (refine ADrawT.walk [[0, 3, 6, 8], [0, 3, 6, 8], [0, 3], [0, 3], [0, 3], [3, 6, 8], [6, 8], [0, 3, 6, 8], [8, 9]] mixedOrdersD (by kernel_rfl) (by kernel_rfl) ?_; simp only [go_sem, Nat.reduceMul, Nat.reduceLT, Nat.reduceLeDiff, Nat.reduceEqDiff, Nat.reduceBEq, Int.toNat_natCast, Int.reduceToNat, Int.reduceNeg, Int.reduceLT, Int.reduceLE, Int.reduceBEq, Int.reduceBNe, decide_true, decide_false, Bool.false_eq_true, false_imp_iff, Nat.lt_irrefl])
  have hall : (intsA ss).all (okEl 1) = true := by simp [intsA, okEl, AV.cells, AV.one]
  refine ⟨⟨by omega, by omega, hall⟩, by simp [fmem, Agree], ?_⟩
  have hem2 : e.2.2.length ≤ 20 := by
    simp only [Bool.and_eq_true, evFit, decide_eq_true_eq] at hf; omega
  have hlen : ∀ L, L = (bif chgC d m e.1 e.2.1 e.2.2 n ss == 0 then addZ ss e.2.2 else []) → L.length ≤ 20 := by
    rintro L rfl
    cases (chgC d m e.1 e.2.1 e.2.2 n ss == 0) with
    | true => simp [addZ]; omega
    | false => simp
  have hC := charge_ok a1 a2 false false cb d m e.2.1 e.1 e.2.2 n ss
  have hR := rcharge_ok a1 a2 false false cb d m e.2.1 e.1 e.2.2 n ss
  simp only [budR] at hC hR
  simp only [schA, evA'] at hC hR
  generalize chgC d m e.1 e.2.1 e.2.2 n ss = k at *
  generalize hL1 : (bif k == 0 then addZ ss e.2.2 else []) = L at *
  generalize (bif k == 0 then n + 1 else 0) = N at *
  have hl20 := hlen L rfl
  refine ACallT.frame (hC _ he (by omega) (by omega) (by omega) (fun s hs h => value_all s h (hv s hs))) ?_
  rintro _ _ ⟨c3, rfl⟩
  refine ⟨low_bud _ _ _ _, ?_⟩
  simp only [go_sem, Nat.reduceMul, Nat.reduceLT, Nat.reduceLeDiff, Nat.reduceEqDiff, Nat.reduceBEq, Int.toNat_natCast, Int.reduceToNat, Int.reduceNeg, Int.reduceLT, Int.reduceLE, Int.reduceBEq, Int.reduceBNe, decide_true, decide_false, Bool.false_eq_true, false_imp_iff, Nat.lt_irrefl]
  refine ACallT.frame (hR _ he (by omega) (by omega) (by omega) hv) ?_
  rintro _ _ ⟨c4, rfl⟩
  refine ⟨low_bud _ _ _ _, ?_⟩
  simp only [go_sem, Nat.reduceMul, Nat.reduceLT, Nat.reduceLeDiff, Nat.reduceEqDiff, Nat.reduceBEq, Int.toNat_natCast, Int.reduceToNat, Int.reduceNeg, Int.reduceLT, Int.reduceLE, Int.reduceBEq, Int.reduceBNe, decide_true, decide_false, Bool.false_eq_true, false_imp_iff, Nat.lt_irrefl]
  (refine ACallT.frame (sameB_ok L L N N c3 c4 _ (by omega) (by omega)) ?_; refine fun _ _ e => ?_; subst e; refine ⟨by (first | rfl | (simp only [AV.low, lowL, low_strs, low_bytes, Bool.and_true, Bool.and_self])), ?_⟩; simp only [go_sem, Nat.reduceMul, Nat.reduceLT, Nat.reduceLeDiff, Nat.reduceEqDiff, Nat.reduceBEq, Int.toNat_natCast, Int.reduceToNat, Int.reduceNeg, Int.reduceLT, Int.reduceLE, Int.reduceBEq, Int.reduceBNe, decide_true, decide_false, Bool.false_eq_true, false_imp_iff, Nat.lt_irrefl])
  try simp only [go_sem, decide_eq_true (rfl : L = L), beq_self_eq_true, Bool.and_true, Nat.reduceMul, Nat.reduceLT, Nat.reduceLeDiff, Nat.reduceEqDiff, Nat.reduceBEq, Int.toNat_natCast, Int.reduceToNat, Int.reduceNeg, Int.reduceLT, Int.reduceLE, Int.reduceBEq, Int.reduceBNe, decide_true, decide_false, Bool.false_eq_true, false_imp_iff, Nat.lt_irrefl]
  refine ACallT.frz 3 (as' := [budA cb n ss, budA false n ss]) ?_ (sameB_ok ss ss n n cb false _ (by omega) (by omega)) ?_
  · simp only [go_sem, Nat.reduceMul, Nat.reduceLT, Nat.reduceLeDiff, Nat.reduceEqDiff, Nat.reduceBEq, Int.toNat_natCast, Int.reduceToNat, Int.reduceNeg, Int.reduceLT, Int.reduceLE, Int.reduceBEq, Int.reduceBNe, decide_true, decide_false, Bool.false_eq_true, false_imp_iff, Nat.lt_irrefl]
    rw [frzO_all (by rw [ints_len]) (intsA_flat _)]
  rintro _ _ rfl
  try simp only [go_sem, decide_eq_true (rfl : ss = ss), beq_self_eq_true, Bool.and_true, Nat.reduceMul, Nat.reduceLT, Nat.reduceLeDiff, Nat.reduceEqDiff, Nat.reduceBEq, Int.toNat_natCast, Int.reduceToNat, Int.reduceNeg, Int.reduceLT, Int.reduceLE, Int.reduceBEq, Int.reduceBNe, decide_true, decide_false, Bool.false_eq_true, false_imp_iff, Nat.lt_irrefl]
  (refine ACallT.frame (alive_ok _) ?_; refine fun _ _ e => ?_; subst e; refine ⟨by (first | rfl | (simp only [AV.low, lowL, low_strs, low_bytes, Bool.and_true, Bool.and_self])), ?_⟩; simp only [go_sem, Nat.reduceMul, Nat.reduceLT, Nat.reduceLeDiff, Nat.reduceEqDiff, Nat.reduceBEq, Int.toNat_natCast, Int.reduceToNat, Int.reduceNeg, Int.reduceLT, Int.reduceLE, Int.reduceBEq, Int.reduceBNe, decide_true, decide_false, Bool.false_eq_true, false_imp_iff, Nat.lt_irrefl])
  trace_state
  exact Fin_plain rfl
end Go.Proofs.Vale
