/- YtinajnnflgpjbaaVAggC: a text of the proof of this claim, by its prover. -/
import Derived.Test.YtinajnnflgpjbaaVAggB
set_option linter.unusedVariables false
set_option linter.unusedSimpArgs false
set_option maxHeartbeats 4000000
set_option maxRecDepth 100000
namespace Go.Proofs.Vale
open Go.Proofs Go.Proofs.YtinajnnflgpjbaaT
attribute [local irreducible] acode aopsL aopsT pop popG aop ALoop ADraw ACall AWP AFin acondT ALoopT ADrawT ACallT doP doG doGd

/-! ### In any order: the plain law -/
def ssz (l : List Int) : Int := (l.map sizeF).sum
structure IsAgg (l : List Int) (a : A3) : Prop where
  s : a.s = l.sum
  mn : a.mn ∈ l
  lo : ∀ x ∈ l, a.mn ≤ x
  mx : a.mx ∈ l
  hi : ∀ x ∈ l, x ≤ a.mx
theorem IsAgg.uniq {l l' : List Int} {a b : A3} (ha : IsAgg l a) (hb : IsAgg l' b) (hs : l.sum = l'.sum) (hm : ∀ x, x ∈ l ↔ x ∈ l') : a = b := by
  cases a; cases b
  have h1 := ha.s; have h2 := hb.s
  have h3 := ha.lo _ ((hm _).2 hb.mn); have h4 := hb.lo _ ((hm _).1 ha.mn)
  have h5 := ha.hi _ ((hm _).2 hb.mx); have h6 := hb.hi _ ((hm _).1 ha.mx)
  simp only at *
  congr 1 <;> omega
theorem sizeF_fits {n : Int} (h : fitsI n = true) : 0 ≤ sizeF n ∧ -(sizeF n) ≤ n ∧ n ≤ sizeF n := by
  simp only [sizeF, h, if_true]; split <;> omega
theorem sum_bound : ∀ (l : List Int), (∀ x ∈ l, fitsI x = true) → 0 ≤ ssz l ∧ -(ssz l) ≤ l.sum ∧ l.sum ≤ ssz l
  | [], _ => by simp [ssz]
  | x :: l, h => by
    have h1 := sizeF_fits (h x (by simp))
    have h2 := sum_bound l fun y hy => h y (by simp [hy])
    simp only [ssz, List.map_cons, List.sum_cons] at h2 ⊢
    omega
theorem IsAgg.right {l : List Int} {a : A3} (h : IsAgg l a) (hf : ∀ x ∈ l, fitsI x = true) (hs : ssz l ≤ 4611686018427387904) : rightF a = true := by
  have h1 := sum_bound l hf
  have h2 := hf _ h.mn
  have h3 := hf _ h.mx
  have h4 := h.lo _ h.mx
  have h5 : fitsI a.s = true := by rw [fitsI_iff, h.s]; omega
  simp [rightF, h2, h3, h4, h5]
theorem ssz_app (p q : List Int) : ssz (p ++ q) = ssz p + ssz q := by simp [ssz]
theorem join_is {p q : List Int} {a b : A3} (ha : IsAgg p a) (hb : IsAgg q b) (hf : ∀ x ∈ p ++ q, fitsI x = true) (hs : ssz (p ++ q) ≤ 4611686018427387904) : (joinF a b).2 = 0 ∧ IsAgg (p ++ q) (joinF a b).1 := by
  have fp : ∀ x ∈ p, fitsI x = true := fun x hx => hf x (by simp [hx])
  have fq : ∀ x ∈ q, fitsI x = true := fun x hx => hf x (by simp [hx])
  have sp := sum_bound p fp
  have sq := sum_bound q fq
  have spq := sum_bound (p ++ q) hf
  rw [ssz_app] at hs spq
  have ra := ha.right fp (by omega)
  have rb := hb.right fq (by omega)
  have hfs : fitsI (a.s + b.s) = true := by
    rw [fitsI_iff, ha.s, hb.s]; rw [List.sum_append] at spq; omega
  simp only [joinF, ra, rb, hfs, Bool.and_self, if_true]
  refine ⟨trivial, ?_⟩
  have e1 := ha.mn; have e2 := hb.mn; have e3 := ha.mx; have e4 := hb.mx
  refine ⟨by simp [ha.s, hb.s], ?_, ?_, ?_, ?_⟩
  · show (if b.mn < a.mn then b.mn else a.mn) ∈ p ++ q
    split <;> simp [*]
  · intro x hx
    show (if b.mn < a.mn then b.mn else a.mn) ≤ x
    rcases List.mem_append.1 hx with q | q
    · have := ha.lo x q; split <;> omega
    · have := hb.lo x q; split <;> omega
  · show (if a.mx < b.mx then b.mx else a.mx) ∈ p ++ q
    split <;> simp [*]
  · intro x hx
    show x ≤ (if a.mx < b.mx then b.mx else a.mx)
    rcases List.mem_append.1 hx with q | q
    · have := ha.hi x q; split <;> omega
    · have := hb.hi x q; split <;> omega
theorem one_is {n : Int} (h : fitsI n = true) : oneF n = (⟨n, n, n⟩, 0) ∧ IsAgg [n] ⟨n, n, n⟩ := by
  refine ⟨by simp [oneF, h], ⟨by simp, by simp, by simp, by simp, by simp⟩⟩
theorem fold_is : ∀ (l p : List Int) (a : A3), IsAgg p a → (∀ x ∈ p ++ l, fitsI x = true) → ssz (p ++ l) ≤ 4611686018427387904 → (l.foldl stF (a, 0)).2 = 0 ∧ IsAgg (p ++ l) (l.foldl stF (a, 0)).1
  | [], p, a, h, hf, hs => by simpa using h
  | n :: l, p, a, h, hf, hs => by
    have e : p ++ n :: l = (p ++ [n]) ++ l := by simp
    have hn := one_is (hf n (by simp))
    rw [e] at hf hs ⊢
    have hb : 0 ≤ ssz l := (sum_bound l fun x hx => hf x (by simp [hx])).1
    have hj := join_is h hn.2 (fun x hx => hf x (by simp only [List.mem_append] at hx ⊢; exact .inl hx)) (by rw [ssz_app] at hs; omega)
    have hst : stF (a, 0) n = ((joinF a ⟨n, n, n⟩).1, 0) := by
      simp only [stF, hn.1, if_true]
      rw [← hj.1]
    rw [List.foldl_cons, hst]
    exact fold_is l (p ++ [n]) _ hj.2 hf hs
theorem all_is {l : List Int} (hne : l ≠ []) (hf : ∀ x ∈ l, fitsI x = true) (hs : ssz l ≤ 4611686018427387904) : (allF l).2 = 0 ∧ IsAgg l (allF l).1 := by
  cases l with
  | nil => exact absurd rfl hne
  | cons n l =>
    have hn := one_is (hf n (by simp))
    have := fold_is l [n] ⟨n, n, n⟩ hn.2 hf hs
    simp only [allF, hn.1, outF, this.1, if_true]
    exact ⟨trivial, this.2⟩
theorem ssz_drop {l : List Int} {j : Nat} (h : j < l.length) : ssz (l.drop j) = sizeF l[j] + ssz (l.drop (j + 1)) := by
  rw [ssz, List.drop_eq_getElem_cons h]; rfl
theorem sizeF_bound (n : Int) : 0 ≤ sizeF n ∧ sizeF n ≤ 4611686018427387904 := by
  simp only [sizeF]
  split
  · rename_i h; rw [fitsI_iff] at h; split <;> omega
  · omega
theorem f4_ok (l : List Int) (c : Bool) (at' : Int) (h : List AObj) (hl : l.length ≤ 9223372036854775807) (hat : -9223372036854775808 ≤ at' ∧ at' ≤ 9223372036854775807) : ACall Try.prog 4 [.fz c (ints l), .int .i64 at'] h (fun r _ => r = .bool true) := by
  (refine ACall.of_code Try.func4 rfl ?_; simp only [Try.f4]; simp only [go_sem, Nat.reduceMul, Nat.reduceLT, Nat.reduceLeDiff, Nat.reduceEqDiff, Nat.reduceBEq, Int.toNat_natCast, Int.reduceToNat, Int.reduceNeg, Int.reduceLT, Int.reduceLE, Int.reduceBEq, Int.reduceBNe, decide_true, decide_false, Bool.false_eq_true, false_imp_iff, Nat.lt_irrefl])
  have hlen := ints_len l
  refine acond_intro (fun hc => ?_) (fun hc => ?_)
  · simp only [go_sem, Nat.reduceMul, Nat.reduceLT, Nat.reduceLeDiff, Nat.reduceEqDiff, Nat.reduceBEq, Int.toNat_natCast, Int.reduceToNat, Int.reduceNeg, Int.reduceLT, Int.reduceLE, Int.reduceBEq, Int.reduceBNe, decide_true, decide_false, Bool.false_eq_true, false_imp_iff, Nat.lt_irrefl]
    (refine ACallT.pure (by simp only [go_sem, Nat.reduceMul, Nat.reduceLT, Nat.reduceLeDiff, Nat.reduceEqDiff, Nat.reduceBEq, Int.toNat_natCast, Int.reduceToNat, Int.reduceNeg, Int.reduceLT, Int.reduceLE, Int.reduceBEq, Int.reduceBNe, decide_true, decide_false, Bool.false_eq_true, false_imp_iff, Nat.lt_irrefl]; rfl) (by first | trivial | assumption | (simp only [go_sem, Nat.reduceMul, Nat.reduceLT, Nat.reduceLeDiff, Nat.reduceEqDiff, Nat.reduceBEq, Int.toNat_natCast, Int.reduceToNat, Int.reduceNeg, Int.reduceLT, Int.reduceLE, Int.reduceBEq, Int.reduceBNe, decide_true, decide_false, Bool.false_eq_true, false_imp_iff, Nat.lt_irrefl]; done) | (simp only [go_sem, Nat.reduceMul, Nat.reduceLT, Nat.reduceLeDiff, Nat.reduceEqDiff, Nat.reduceBEq, Int.toNat_natCast, Int.reduceToNat, Int.reduceNeg, Int.reduceLT, Int.reduceLE, Int.reduceBEq, Int.reduceBNe, decide_true, decide_false, Bool.false_eq_true, false_imp_iff, Nat.lt_irrefl]; first | trivial | assumption | omega | decide | (refine ⟨?_, ?_⟩ <;> first | trivial | assumption | omega | decide))) (f12_ok _) ?_; refine fun _ _ e => ?_; subst e; refine ⟨rfl, ?_⟩; simp only [go_sem, Nat.reduceMul, Nat.reduceLT, Nat.reduceLeDiff, Nat.reduceEqDiff, Nat.reduceBEq, Int.toNat_natCast, Int.reduceToNat, Int.reduceNeg, Int.reduceLT, Int.reduceLE, Int.reduceBEq, Int.reduceBNe, decide_true, decide_false, Bool.false_eq_true, false_imp_iff, Nat.lt_irrefl])
    exact Fin_plain rfl
  have hb : 0 < l.length ∧ l.length ≤ 200 := by
    rw [hlen] at hc
    by_cases q : 200 < (l.length : Int)
    · simp [q] at hc
    · simp [q] at hc
      have : l.length ≠ 0 := by simpa using hc
      omega
  clear hc
  simp only [go_sem, Nat.reduceMul, Nat.reduceLT, Nat.reduceLeDiff, Nat.reduceEqDiff, Nat.reduceBEq, Int.toNat_natCast, Int.reduceToNat, Int.reduceNeg, Int.reduceLT, Int.reduceLE, Int.reduceBEq, Int.reduceBNe, decide_true, decide_false, Bool.false_eq_true, false_imp_iff, Nat.lt_irrefl]
  rw [hlen, wrapI (by omega)]
  refine ALoop.over [4, 5, 6, 7, 8, 33, 34, 35, 36, 37, 38, 39, 40, 41, 42, 43, 44, 45, 46, 47, 48, 49, 50, 51, 52, 53, 54, 55, 56, 57, 58, 59, 60, 61, 62, 63, 64, 65, 66, 67, 68, 69, 70] (fun e h' => ∃ (j : Nat), j ≤ l.length ∧ e.getD 7 .any = .int .i64 ((j : Int) - 1) ∧ (∀ x ∈ l.drop j, fitsI x = true) ∧ ssz (l.drop j) ≤ 4611686018427387904 ∧ e.getD 5 .any = .int .i64 (ssz (l.drop j)) ∧
      ((j = l.length ∧ e.getD 6 .any = .fz true []) ∨ (j < l.length ∧ ∃ t g, e.getD 6 .any = .sl t g 1 0 (l.length - j) ∧ h'[t]? = some (.arr g 1 (ints (l.drop j).reverse))))) (fun e _ => (match e.getD 7 .any with | .int _ n => (n + 1).toNat | _ => 0)) ⟨l.length, by omega, rfl, by simp, by simp [ssz], by simp [ssz], .inl ⟨rfl, rfl⟩⟩ ?_
  simp only [List.length_cons, List.length_nil, Nat.reduceAdd, allL_succ, allL_zero]
  intro y4 y5 y6 y7 y8 y33 y34 y35 y36 y37 y38 y39 y40 y41 y42 y43 y44 y45 y46 y47 y48 y49 y50 y51 y52 y53 y54 y55 y56 y57 y58 y59 y60 y61 y62 y63 y64 y65 y66 y67 y68 y69 y70 h' hI
  simp only [go_sem] at hI
  obtain ⟨j, hj, rfl, hfit, hsz, rfl, hback⟩ := hI
  simp only [go_sem, Nat.reduceMul, Nat.reduceLT, Nat.reduceLeDiff, Nat.reduceEqDiff, Nat.reduceBEq, Int.toNat_natCast, Int.reduceToNat, Int.reduceNeg, Int.reduceLT, Int.reduceLE, Int.reduceBEq, Int.reduceBNe, decide_true, decide_false, Bool.false_eq_true, false_imp_iff, Nat.lt_irrefl]
  refine acond_intro (fun hc2 => ?_) (fun hc2 => ?_)
  · obtain ⟨k, rfl⟩ : ∃ k, j = k + 1 := ⟨j - 1, by simp at hc2; omega⟩
    have hkk : ((k + 1 : Nat) : Int) - 1 = (k : Int) := by omega
    have hlt : k < l.length := by omega
    have hg := ints_get l k hlt
    have hsb := sizeF_bound l[k]
    have hdr := ssz_drop hlt
    have hw : IntKind.i64.wrap (4611686018427387904 - sizeF l[k]) = 4611686018427387904 - sizeF l[k] := wrapI (by omega)
    have hs0 : 0 ≤ ssz (l.drop (k + 1)) := (sum_bound _ hfit).1
    simp only [go_sem, hkk, hg, Nat.reduceMul, Nat.reduceLT, Nat.reduceLeDiff, Nat.reduceEqDiff, Nat.reduceBEq, Int.toNat_natCast, Int.reduceToNat, Int.reduceNeg, Int.reduceLT, Int.reduceLE, Int.reduceBEq, Int.reduceBNe, decide_true, decide_false, Bool.false_eq_true, false_imp_iff, Nat.lt_irrefl]
    refine ⟨by omega, ?_⟩
    (refine ACallT.pure (by simp only [go_sem, Nat.reduceMul, Nat.reduceLT, Nat.reduceLeDiff, Nat.reduceEqDiff, Nat.reduceBEq, Int.toNat_natCast, Int.reduceToNat, Int.reduceNeg, Int.reduceLT, Int.reduceLE, Int.reduceBEq, Int.reduceBNe, decide_true, decide_false, Bool.false_eq_true, false_imp_iff, Nat.lt_irrefl]; rfl) (by first | trivial | assumption | (simp only [go_sem, Nat.reduceMul, Nat.reduceLT, Nat.reduceLeDiff, Nat.reduceEqDiff, Nat.reduceBEq, Int.toNat_natCast, Int.reduceToNat, Int.reduceNeg, Int.reduceLT, Int.reduceLE, Int.reduceBEq, Int.reduceBNe, decide_true, decide_false, Bool.false_eq_true, false_imp_iff, Nat.lt_irrefl]; done) | (simp only [go_sem, Nat.reduceMul, Nat.reduceLT, Nat.reduceLeDiff, Nat.reduceEqDiff, Nat.reduceBEq, Int.toNat_natCast, Int.reduceToNat, Int.reduceNeg, Int.reduceLT, Int.reduceLE, Int.reduceBEq, Int.reduceBNe, decide_true, decide_false, Bool.false_eq_true, false_imp_iff, Nat.lt_irrefl]; first | trivial | assumption | omega | decide | (refine ⟨?_, ?_⟩ <;> first | trivial | assumption | omega | decide))) (f21_ok l[k] _) ?_; refine fun _ _ e => ?_; subst e; refine ⟨rfl, ?_⟩)
    simp only [go_sem, hg, hw, Nat.reduceMul, Nat.reduceLT, Nat.reduceLeDiff, Nat.reduceEqDiff, Nat.reduceBEq, Int.toNat_natCast, Int.reduceToNat, Int.reduceNeg, Int.reduceLT, Int.reduceLE, Int.reduceBEq, Int.reduceBNe, decide_true, decide_false, Bool.false_eq_true, false_imp_iff, Nat.lt_irrefl]
    refine ⟨by omega, ⟨fun q => ⟨q, by omega, by omega⟩, ?_⟩⟩
    refine acond_intro (fun hc3 => ?_) (fun hc3 => ?_)
    · simp only [go_sem, Nat.reduceMul, Nat.reduceLT, Nat.reduceLeDiff, Nat.reduceEqDiff, Nat.reduceBEq, Int.toNat_natCast, Int.reduceToNat, Int.reduceNeg, Int.reduceLT, Int.reduceLE, Int.reduceBEq, Int.reduceBNe, decide_true, decide_false, Bool.false_eq_true, false_imp_iff, Nat.lt_irrefl]
      (refine ACallT.pure (by simp only [go_sem, Nat.reduceMul, Nat.reduceLT, Nat.reduceLeDiff, Nat.reduceEqDiff, Nat.reduceBEq, Int.toNat_natCast, Int.reduceToNat, Int.reduceNeg, Int.reduceLT, Int.reduceLE, Int.reduceBEq, Int.reduceBNe, decide_true, decide_false, Bool.false_eq_true, false_imp_iff, Nat.lt_irrefl]; rfl) (by first | trivial | assumption | (simp only [go_sem, Nat.reduceMul, Nat.reduceLT, Nat.reduceLeDiff, Nat.reduceEqDiff, Nat.reduceBEq, Int.toNat_natCast, Int.reduceToNat, Int.reduceNeg, Int.reduceLT, Int.reduceLE, Int.reduceBEq, Int.reduceBNe, decide_true, decide_false, Bool.false_eq_true, false_imp_iff, Nat.lt_irrefl]; done) | (simp only [go_sem, Nat.reduceMul, Nat.reduceLT, Nat.reduceLeDiff, Nat.reduceEqDiff, Nat.reduceBEq, Int.toNat_natCast, Int.reduceToNat, Int.reduceNeg, Int.reduceLT, Int.reduceLE, Int.reduceBEq, Int.reduceBNe, decide_true, decide_false, Bool.false_eq_true, false_imp_iff, Nat.lt_irrefl]; first | trivial | assumption | omega | decide | (refine ⟨?_, ?_⟩ <;> first | trivial | assumption | omega | decide))) (f12_ok _) ?_; refine fun _ _ e => ?_; subst e; refine ⟨rfl, ?_⟩; simp only [go_sem, Nat.reduceMul, Nat.reduceLT, Nat.reduceLeDiff, Nat.reduceEqDiff, Nat.reduceBEq, Int.toNat_natCast, Int.reduceToNat, Int.reduceNeg, Int.reduceLT, Int.reduceLE, Int.reduceBEq, Int.reduceBNe, decide_true, decide_false, Bool.false_eq_true, false_imp_iff, Nat.lt_irrefl])
      exact Fin_plain rfl
    · have hfk : fitsI l[k] = true ∧ ssz (l.drop (k + 1)) ≤ 4611686018427387904 - sizeF l[k] := by
        rw [fitsI_iff]
        by_cases q1 : l[k] < -4611686018427387904
        · simp [q1] at hc3
        · by_cases q2 : 4611686018427387904 < l[k]
          · simp [q2] at hc3
          · simp [q1, q2] at hc3; omega
      have hw2 : IntKind.i64.wrap (ssz (l.drop (k + 1)) + sizeF l[k]) = ssz (l.drop k) := by rw [wrapI (by omega), hdr]; omega
      have hw3 : IntKind.i64.wrap ((k : Int) - 1) = (k : Int) - 1 := wrapI (by omega)
      have hfit2 : ∀ x ∈ l.drop k, fitsI x = true := by
        intro x hx
        rw [List.drop_eq_getElem_cons hlt] at hx
        rcases List.mem_cons.1 hx with rfl | hx
        · exact hfk.1
        · exact hfit x hx
      rcases hback with ⟨hj2, rfl⟩ | ⟨hj2, t, g, rfl, hget⟩
      · simp only [go_sem, hg, hw2, Nat.reduceMul, Nat.reduceLT, Nat.reduceLeDiff, Nat.reduceEqDiff, Nat.reduceBEq, Int.toNat_natCast, Int.reduceToNat, Int.reduceNeg, Int.reduceLT, Int.reduceLE, Int.reduceBEq, Int.reduceBNe, decide_true, decide_false, Bool.false_eq_true, false_imp_iff, Nat.lt_irrefl]
        refine ⟨⟨by omega, by omega⟩, fun q => by simp at q, fun _ => ⟨⟨k, by omega, by rw [hw3], hfit2, by rw [hdr]; omega, rfl, .inr ⟨hlt, h'.length + 1, 0, ?_, ?_⟩⟩, ?_⟩⟩
        · rw [show l.length - k = 1 by omega]
        · rw [getElem?_app, List.drop_eq_getElem_cons hlt, List.drop_eq_nil_of_le (by omega)]; rfl
        · rw [hw3]; omega
      · have hget2 : ∀ x, (h' ++ x)[t]? = some (AObj.arr g 1 (ints (List.drop (k + 1) l).reverse)) := fun x => by
          rw [List.getElem?_append_left (List.getElem?_eq_some_iff.1 hget).1]; exact hget
        simp only [go_sem, hg, hw2, hget2, Nat.reduceMul, Nat.reduceLT, Nat.reduceLeDiff, Nat.reduceEqDiff, Nat.reduceBEq, Int.toNat_natCast, Int.reduceToNat, Int.reduceNeg, Int.reduceLT, Int.reduceLE, Int.reduceBEq, Int.reduceBNe, decide_true, decide_false, Bool.false_eq_true, false_imp_iff, Nat.lt_irrefl]
        have hrl : (ints (List.drop (k + 1) l).reverse).length = l.length - (k + 1) := by simp [ints]
        have hre : ints (List.drop k l).reverse = ints (List.drop (k + 1) l).reverse ++ [.int .i64 l[k]] := by
          rw [List.drop_eq_getElem_cons hlt]; simp only [List.reverse_cons, ints, List.map_append, List.map_cons, List.map_nil]
        refine ⟨⟨by omega, by omega⟩, ⟨by omega, by omega⟩, ⟨k, by omega, by rw [hw3], hfit2, by rw [hdr]; omega, rfl, .inr ⟨hlt, t, g + 1, ?_, ?_⟩⟩, ?_⟩
        · rw [hrl, show l.length - (k + 1) + 1 = l.length - k by omega]
        · rw [List.getElem?_set_self (by have := (List.getElem?_eq_some_iff.1 hget).1; simp; omega), hre]
        · rw [hw3]; omega
  · have hj0 : j = 0 := by simp at hc2; omega
    subst hj0
    rcases hback with ⟨hj2, -⟩ | ⟨hj2, t, g, rfl, hget⟩
    · omega
    have hget2 : ∀ x, (h' ++ x)[t]? = some (AObj.arr g 1 (ints l.reverse)) := fun x => by
      rw [List.getElem?_append_left (List.getElem?_eq_some_iff.1 hget).1]; exact hget
    rw [List.drop_zero] at hfit hsz
    have hne : l ≠ [] := by rintro rfl; simp at hb
    have hlr : (ints l.reverse).length = l.length := by simp [ints]
    have htk : List.take (l.length - 0) (ints l.reverse) = ints l.reverse := by rw [Nat.sub_zero, ← hlr, List.take_length]
    have A := all_is hne hfit hsz
    have B : (allF l.reverse).2 = 0 ∧ IsAgg l.reverse (allF l.reverse).1 := all_is (by simpa using hne) (fun x hx => hfit x (by simpa using hx)) (by simpa [ssz, List.sum_reverse] using hsz)
    have hAB : allF l.reverse = allF l := Prod.ext (A.2.uniq B.2 (by simp [List.sum_reverse]) (by simp)).symm (by rw [A.1, B.1])
    simp only [go_sem, Nat.reduceMul, Nat.reduceLT, Nat.reduceLeDiff, Nat.reduceEqDiff, Nat.reduceBEq, Int.toNat_natCast, Int.reduceToNat, Int.reduceNeg, Int.reduceLT, Int.reduceLE, Int.reduceBEq, Int.reduceBNe, decide_true, decide_false, Bool.false_eq_true, false_imp_iff, Nat.lt_irrefl]
    (refine ACallT.pure (by simp only [go_sem, Nat.reduceMul, Nat.reduceLT, Nat.reduceLeDiff, Nat.reduceEqDiff, Nat.reduceBEq, Int.toNat_natCast, Int.reduceToNat, Int.reduceNeg, Int.reduceLT, Int.reduceLE, Int.reduceBEq, Int.reduceBNe, decide_true, decide_false, Bool.false_eq_true, false_imp_iff, Nat.lt_irrefl]; rfl) (by first | trivial | assumption | (simp only [go_sem, Nat.reduceMul, Nat.reduceLT, Nat.reduceLeDiff, Nat.reduceEqDiff, Nat.reduceBEq, Int.toNat_natCast, Int.reduceToNat, Int.reduceNeg, Int.reduceLT, Int.reduceLE, Int.reduceBEq, Int.reduceBNe, decide_true, decide_false, Bool.false_eq_true, false_imp_iff, Nat.lt_irrefl]; done) | (simp only [go_sem, Nat.reduceMul, Nat.reduceLT, Nat.reduceLeDiff, Nat.reduceEqDiff, Nat.reduceBEq, Int.toNat_natCast, Int.reduceToNat, Int.reduceNeg, Int.reduceLT, Int.reduceLE, Int.reduceBEq, Int.reduceBNe, decide_true, decide_false, Bool.false_eq_true, false_imp_iff, Nat.lt_irrefl]; first | trivial | assumption | omega | decide | (refine ⟨?_, ?_⟩ <;> first | trivial | assumption | omega | decide))) (f15_ok l _ _ hl) ?_; refine fun _ _ e => ?_; subst e; refine ⟨rfl, ?_⟩; simp only [go_sem, Nat.reduceMul, Nat.reduceLT, Nat.reduceLeDiff, Nat.reduceEqDiff, Nat.reduceBEq, Int.toNat_natCast, Int.reduceToNat, Int.reduceNeg, Int.reduceLT, Int.reduceLE, Int.reduceBEq, Int.reduceBNe, decide_true, decide_false, Bool.false_eq_true, false_imp_iff, Nat.lt_irrefl])
    refine ACallT.pure (as' := [.fz false (ints l.reverse)]) (by simp only [go_sem, hget2, Nat.reduceMul, Nat.reduceLT, Nat.reduceLeDiff, Nat.reduceEqDiff, Nat.reduceBEq, Int.toNat_natCast, Int.reduceToNat, Int.reduceNeg, Int.reduceLT, Int.reduceLE, Int.reduceBEq, Int.reduceBNe, decide_true, decide_false, Bool.false_eq_true, false_imp_iff, Nat.lt_irrefl]; rw [htk]) (by omega) (f15_ok l.reverse false _ (by simpa using hl)) ?_
    refine fun _ _ e => ?_
    subst e
    refine ⟨rfl, ?_⟩
    rw [hAB]
    simp only [go_sem, A.1, Nat.reduceMul, Nat.reduceLT, Nat.reduceLeDiff, Nat.reduceEqDiff, Nat.reduceBEq, Int.toNat_natCast, Int.reduceToNat, Int.reduceNeg, Int.reduceLT, Int.reduceLE, Int.reduceBEq, Int.reduceBNe, decide_true, decide_false, Bool.false_eq_true, false_imp_iff, Nat.lt_irrefl]
    refine acond_intro (fun hc4 => ?_) (fun hc4 => ?_)
    · simp only [go_sem, Nat.reduceMul, Nat.reduceLT, Nat.reduceLeDiff, Nat.reduceEqDiff, Nat.reduceBEq, Int.toNat_natCast, Int.reduceToNat, Int.reduceNeg, Int.reduceLT, Int.reduceLE, Int.reduceBEq, Int.reduceBNe, decide_true, decide_false, Bool.false_eq_true, false_imp_iff, Nat.lt_irrefl]
      (refine ACallT.pure (by simp only [go_sem, Nat.reduceMul, Nat.reduceLT, Nat.reduceLeDiff, Nat.reduceEqDiff, Nat.reduceBEq, Int.toNat_natCast, Int.reduceToNat, Int.reduceNeg, Int.reduceLT, Int.reduceLE, Int.reduceBEq, Int.reduceBNe, decide_true, decide_false, Bool.false_eq_true, false_imp_iff, Nat.lt_irrefl]; rfl) (by first | trivial | assumption | (simp only [go_sem, Nat.reduceMul, Nat.reduceLT, Nat.reduceLeDiff, Nat.reduceEqDiff, Nat.reduceBEq, Int.toNat_natCast, Int.reduceToNat, Int.reduceNeg, Int.reduceLT, Int.reduceLE, Int.reduceBEq, Int.reduceBNe, decide_true, decide_false, Bool.false_eq_true, false_imp_iff, Nat.lt_irrefl]; done) | (simp only [go_sem, Nat.reduceMul, Nat.reduceLT, Nat.reduceLeDiff, Nat.reduceEqDiff, Nat.reduceBEq, Int.toNat_natCast, Int.reduceToNat, Int.reduceNeg, Int.reduceLT, Int.reduceLE, Int.reduceBEq, Int.reduceBNe, decide_true, decide_false, Bool.false_eq_true, false_imp_iff, Nat.lt_irrefl]; first | trivial | assumption | omega | decide | (refine ⟨?_, ?_⟩ <;> first | trivial | assumption | omega | decide))) (f12_ok _) ?_; refine fun _ _ e => ?_; subst e; refine ⟨rfl, ?_⟩; simp only [go_sem, Nat.reduceMul, Nat.reduceLT, Nat.reduceLeDiff, Nat.reduceEqDiff, Nat.reduceBEq, Int.toNat_natCast, Int.reduceToNat, Int.reduceNeg, Int.reduceLT, Int.reduceLE, Int.reduceBEq, Int.reduceBNe, decide_true, decide_false, Bool.false_eq_true, false_imp_iff, Nat.lt_irrefl])
      exact Fin_plain rfl
    obtain ⟨m, rfl, hm1, hm2⟩ : ∃ m : Nat, at' = (m : Int) ∧ 1 ≤ m ∧ m < l.length := by
      rw [hlen] at hc4
      by_cases q1 : at' < 1
      · simp [q1] at hc4
      · simp [q1] at hc4
        exact ⟨at'.toNat, by omega, by omega, by omega⟩
    have hsp : l.take m ++ l.drop m = l := List.take_append_drop m l
    have hb1 : 0 ≤ ssz (l.take m) := (sum_bound _ fun x hx => hfit x (List.mem_of_mem_take hx)).1
    have hb2 : 0 ≤ ssz (l.drop m) := (sum_bound _ fun x hx => hfit x (List.mem_of_mem_drop hx)).1
    have hss : ssz (l.take m) + ssz (l.drop m) = ssz l := by rw [← ssz_app, hsp]
    have P1 := all_is (l := l.take m) (by intro q; have := congrArg List.length q; rw [List.length_take, List.length_nil] at this; omega) (fun x hx => hfit x (List.mem_of_mem_take hx)) (by omega)
    have P2 := all_is (l := l.drop m) (by intro q; have := congrArg List.length q; rw [List.length_drop, List.length_nil] at this; omega) (fun x hx => hfit x (List.mem_of_mem_drop hx)) (by omega)
    have J := join_is P1.2 P2.2 (by rw [hsp]; exact hfit) (by rw [hsp]; exact hsz)
    rw [hsp] at J
    have hJ : joinF (allF (l.take m)).1 (allF (l.drop m)).1 = allF l := Prod.ext (J.2.uniq A.2 rfl (by simp)) (by rw [J.1, A.1])
    have hit : ∀ k, List.take k (ints l) = ints (l.take k) := fun k => by simp [ints]
    have hid : ∀ k, List.drop k (ints l) = ints (l.drop k) := fun k => by simp [ints]
    simp only [go_sem, hit, hid, Nat.reduceMul, Nat.reduceLT, Nat.reduceLeDiff, Nat.reduceEqDiff, Nat.reduceBEq, Int.toNat_natCast, Int.reduceToNat, Int.reduceNeg, Int.reduceLT, Int.reduceLE, Int.reduceBEq, Int.reduceBNe, decide_true, decide_false, Bool.false_eq_true, false_imp_iff, Nat.lt_irrefl]
    refine ⟨⟨by omega, by omega, ints_cells l⟩, ?_⟩
    (refine ACallT.pure (by simp only [go_sem, Nat.reduceMul, Nat.reduceLT, Nat.reduceLeDiff, Nat.reduceEqDiff, Nat.reduceBEq, Int.toNat_natCast, Int.reduceToNat, Int.reduceNeg, Int.reduceLT, Int.reduceLE, Int.reduceBEq, Int.reduceBNe, decide_true, decide_false, Bool.false_eq_true, false_imp_iff, Nat.lt_irrefl]; rfl) (by first | trivial | assumption | (simp only [go_sem, Nat.reduceMul, Nat.reduceLT, Nat.reduceLeDiff, Nat.reduceEqDiff, Nat.reduceBEq, Int.toNat_natCast, Int.reduceToNat, Int.reduceNeg, Int.reduceLT, Int.reduceLE, Int.reduceBEq, Int.reduceBNe, decide_true, decide_false, Bool.false_eq_true, false_imp_iff, Nat.lt_irrefl]; done) | (simp only [go_sem, Nat.reduceMul, Nat.reduceLT, Nat.reduceLeDiff, Nat.reduceEqDiff, Nat.reduceBEq, Int.toNat_natCast, Int.reduceToNat, Int.reduceNeg, Int.reduceLT, Int.reduceLE, Int.reduceBEq, Int.reduceBNe, decide_true, decide_false, Bool.false_eq_true, false_imp_iff, Nat.lt_irrefl]; first | trivial | assumption | omega | decide | (refine ⟨?_, ?_⟩ <;> first | trivial | assumption | omega | decide))) (f15_ok (l.take m) _ _ (by rw [List.length_take]; omega)) ?_; refine fun _ _ e => ?_; subst e; refine ⟨rfl, ?_⟩)
    simp only [go_sem, P1.1, hit, hid, Nat.reduceMul, Nat.reduceLT, Nat.reduceLeDiff, Nat.reduceEqDiff, Nat.reduceBEq, Int.toNat_natCast, Int.reduceToNat, Int.reduceNeg, Int.reduceLT, Int.reduceLE, Int.reduceBEq, Int.reduceBNe, decide_true, decide_false, Bool.false_eq_true, false_imp_iff, Nat.lt_irrefl]
    refine ⟨⟨by omega, by omega, by omega, ints_cells l⟩, ?_⟩
    simp only [hlen, List.take_length, hid]
    (refine ACallT.pure (by simp only [go_sem, Nat.reduceMul, Nat.reduceLT, Nat.reduceLeDiff, Nat.reduceEqDiff, Nat.reduceBEq, Int.toNat_natCast, Int.reduceToNat, Int.reduceNeg, Int.reduceLT, Int.reduceLE, Int.reduceBEq, Int.reduceBNe, decide_true, decide_false, Bool.false_eq_true, false_imp_iff, Nat.lt_irrefl]; rfl) (by first | trivial | assumption | (simp only [go_sem, Nat.reduceMul, Nat.reduceLT, Nat.reduceLeDiff, Nat.reduceEqDiff, Nat.reduceBEq, Int.toNat_natCast, Int.reduceToNat, Int.reduceNeg, Int.reduceLT, Int.reduceLE, Int.reduceBEq, Int.reduceBNe, decide_true, decide_false, Bool.false_eq_true, false_imp_iff, Nat.lt_irrefl]; done) | (simp only [go_sem, Nat.reduceMul, Nat.reduceLT, Nat.reduceLeDiff, Nat.reduceEqDiff, Nat.reduceBEq, Int.toNat_natCast, Int.reduceToNat, Int.reduceNeg, Int.reduceLT, Int.reduceLE, Int.reduceBEq, Int.reduceBNe, decide_true, decide_false, Bool.false_eq_true, false_imp_iff, Nat.lt_irrefl]; first | trivial | assumption | omega | decide | (refine ⟨?_, ?_⟩ <;> first | trivial | assumption | omega | decide))) (f15_ok (l.drop m) _ _ (by rw [List.length_drop]; omega)) ?_; refine fun _ _ e => ?_; subst e; refine ⟨rfl, ?_⟩)
    simp only [go_sem, P2.1, Nat.reduceMul, Nat.reduceLT, Nat.reduceLeDiff, Nat.reduceEqDiff, Nat.reduceBEq, Int.toNat_natCast, Int.reduceToNat, Int.reduceNeg, Int.reduceLT, Int.reduceLE, Int.reduceBEq, Int.reduceBNe, decide_true, decide_false, Bool.false_eq_true, false_imp_iff, Nat.lt_irrefl]
    (refine ACallT.pure (by simp only [go_sem, Nat.reduceMul, Nat.reduceLT, Nat.reduceLeDiff, Nat.reduceEqDiff, Nat.reduceBEq, Int.toNat_natCast, Int.reduceToNat, Int.reduceNeg, Int.reduceLT, Int.reduceLE, Int.reduceBEq, Int.reduceBNe, decide_true, decide_false, Bool.false_eq_true, false_imp_iff, Nat.lt_irrefl]; rfl) (by first | trivial | assumption | (simp only [go_sem, Nat.reduceMul, Nat.reduceLT, Nat.reduceLeDiff, Nat.reduceEqDiff, Nat.reduceBEq, Int.toNat_natCast, Int.reduceToNat, Int.reduceNeg, Int.reduceLT, Int.reduceLE, Int.reduceBEq, Int.reduceBNe, decide_true, decide_false, Bool.false_eq_true, false_imp_iff, Nat.lt_irrefl]; done) | (simp only [go_sem, Nat.reduceMul, Nat.reduceLT, Nat.reduceLeDiff, Nat.reduceEqDiff, Nat.reduceBEq, Int.toNat_natCast, Int.reduceToNat, Int.reduceNeg, Int.reduceLT, Int.reduceLE, Int.reduceBEq, Int.reduceBNe, decide_true, decide_false, Bool.false_eq_true, false_imp_iff, Nat.lt_irrefl]; first | trivial | assumption | omega | decide | (refine ⟨?_, ?_⟩ <;> first | trivial | assumption | omega | decide))) (f13_ok (allF (l.take m)).1 (allF (l.drop m)).1 _) ?_; refine fun _ _ e => ?_; subst e; refine ⟨rfl, ?_⟩)
    rw [hJ]
    simp only [go_sem, A.1, Nat.reduceMul, Nat.reduceLT, Nat.reduceLeDiff, Nat.reduceEqDiff, Nat.reduceBEq, Int.toNat_natCast, Int.reduceToNat, Int.reduceNeg, Int.reduceLT, Int.reduceLE, Int.reduceBEq, Int.reduceBNe, decide_true, decide_false, Bool.false_eq_true, false_imp_iff, Nat.lt_irrefl]
    (refine ACallT.pure (by simp only [go_sem, Nat.reduceMul, Nat.reduceLT, Nat.reduceLeDiff, Nat.reduceEqDiff, Nat.reduceBEq, Int.toNat_natCast, Int.reduceToNat, Int.reduceNeg, Int.reduceLT, Int.reduceLE, Int.reduceBEq, Int.reduceBNe, decide_true, decide_false, Bool.false_eq_true, false_imp_iff, Nat.lt_irrefl]; rfl) (by first | trivial | assumption | (simp only [go_sem, Nat.reduceMul, Nat.reduceLT, Nat.reduceLeDiff, Nat.reduceEqDiff, Nat.reduceBEq, Int.toNat_natCast, Int.reduceToNat, Int.reduceNeg, Int.reduceLT, Int.reduceLE, Int.reduceBEq, Int.reduceBNe, decide_true, decide_false, Bool.false_eq_true, false_imp_iff, Nat.lt_irrefl]; done) | (simp only [go_sem, Nat.reduceMul, Nat.reduceLT, Nat.reduceLeDiff, Nat.reduceEqDiff, Nat.reduceBEq, Int.toNat_natCast, Int.reduceToNat, Int.reduceNeg, Int.reduceLT, Int.reduceLE, Int.reduceBEq, Int.reduceBNe, decide_true, decide_false, Bool.false_eq_true, false_imp_iff, Nat.lt_irrefl]; first | trivial | assumption | omega | decide | (refine ⟨?_, ?_⟩ <;> first | trivial | assumption | omega | decide))) (f13_ok (allF (l.drop m)).1 (allF (l.take m)).1 _) ?_; refine fun _ _ e => ?_; subst e; refine ⟨rfl, ?_⟩)
    rw [joinF_comm, hJ]
    simp only [go_sem, A.1, Nat.reduceMul, Nat.reduceLT, Nat.reduceLeDiff, Nat.reduceEqDiff, Nat.reduceBEq, Int.toNat_natCast, Int.reduceToNat, Int.reduceNeg, Int.reduceLT, Int.reduceLE, Int.reduceBEq, Int.reduceBNe, decide_true, decide_false, Bool.false_eq_true, false_imp_iff, Nat.lt_irrefl]
    (refine ACallT.pure (by simp only [go_sem, Nat.reduceMul, Nat.reduceLT, Nat.reduceLeDiff, Nat.reduceEqDiff, Nat.reduceBEq, Int.toNat_natCast, Int.reduceToNat, Int.reduceNeg, Int.reduceLT, Int.reduceLE, Int.reduceBEq, Int.reduceBNe, decide_true, decide_false, Bool.false_eq_true, false_imp_iff, Nat.lt_irrefl]; rfl) (by first | trivial | assumption | (simp only [go_sem, Nat.reduceMul, Nat.reduceLT, Nat.reduceLeDiff, Nat.reduceEqDiff, Nat.reduceBEq, Int.toNat_natCast, Int.reduceToNat, Int.reduceNeg, Int.reduceLT, Int.reduceLE, Int.reduceBEq, Int.reduceBNe, decide_true, decide_false, Bool.false_eq_true, false_imp_iff, Nat.lt_irrefl]; done) | (simp only [go_sem, Nat.reduceMul, Nat.reduceLT, Nat.reduceLeDiff, Nat.reduceEqDiff, Nat.reduceBEq, Int.toNat_natCast, Int.reduceToNat, Int.reduceNeg, Int.reduceLT, Int.reduceLE, Int.reduceBEq, Int.reduceBNe, decide_true, decide_false, Bool.false_eq_true, false_imp_iff, Nat.lt_irrefl]; first | trivial | assumption | omega | decide | (refine ⟨?_, ?_⟩ <;> first | trivial | assumption | omega | decide))) (f12_ok _) ?_; refine fun _ _ e => ?_; subst e; refine ⟨rfl, ?_⟩)
    simp only [go_sem, A.1, Nat.reduceMul, Nat.reduceLT, Nat.reduceLeDiff, Nat.reduceEqDiff, Nat.reduceBEq, Int.toNat_natCast, Int.reduceToNat, Int.reduceNeg, Int.reduceLT, Int.reduceLE, Int.reduceBEq, Int.reduceBNe, decide_true, decide_false, Bool.false_eq_true, false_imp_iff, Nat.lt_irrefl]
    exact Fin_plain rfl
end Go.Proofs.Vale
