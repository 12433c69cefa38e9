/- YtchboekipfpheaaDoorVLexM: a text of the proof of this claim, by its prover. -/
import Derived.Test.YtchboekipfpheaaDoorVLexK
set_option linter.unusedVariables false
set_option linter.unusedSimpArgs false
set_option maxHeartbeats 4000000
set_option maxRecDepth 100000
namespace Go.Proofs.Vale
open Go.Proofs Go.Proofs.YtchboekipfpheaaDoorT
attribute [local irreducible] acode aopsL aopsT dopsL dopsT dmL dmT pop popG aop ALoop ADraw ACall AWP AFin acondT ALoopT ADrawT ACallT doP doG doGd

/-! ### One law: the program's tokens are the document's -/
theorem parse_ge : ∀ (l : Str) (acc u : Nat), Lib.parseUint10 acc l = .ok u → acc ≤ u
  | [], acc, u, h => by simp only [Lib.parseUint10] at h; injection h with h; omega
  | b :: l, acc, u, h => by
    simp only [Lib.parseUint10] at h
    split at h
    · split at h
      · cases h
      · split at h
        · cases h
        · have := parse_ge l _ _ h; omega
    · cases h
theorem num_parse : ∀ (l : Str) (acc n : Nat), (∀ b ∈ l, figB b = true) → acc ≤ 4611686018427387909 → n ≤ 4611686018427387904 → (numRF (acc : Int) l = some (n : Int) ↔ Lib.parseUint10 acc l = .ok n)
  | [], acc, n, _, _, _ => by
    simp only [numRF, Lib.parseUint10, Option.some.injEq]
    constructor
    · intro h; congr 1; omega
    · intro h; injection h with h; omega
  | b :: l, acc, n, hf, ha, hn => by
    have hb := hf b (by simp)
    have hbb := fig_bounds b hb
    rw [Lib.parseUint10, if_pos ⟨by omega, by omega⟩, numRF]
    by_cases q : acc ≤ 461168601842738790
    · rw [if_pos ⟨hb, by omega⟩, if_neg (by omega), if_neg (by omega)]
      have e : 10 * (acc : Int) + ((b.toNat : Int) - 48) = ((acc * 10 + (b.toNat - 48) : Nat) : Int) := by omega
      rw [e]
      exact num_parse l _ n (fun b hb => hf b (by simp [hb])) (by omega) hn
    · rw [if_neg (by intro z; omega)]
      constructor
      · intro h; cases h
      · intro h
        exfalso
        split at h
        · cases h
        · split at h
          · cases h
          · have := parse_ge _ _ _ h; omega
theorem numRF_nat : ∀ (l : Str) (acc : Nat) (x : Int), numRF (acc : Int) l = some x → ∃ n : Nat, x = (n : Int)
  | [], acc, x, h => by simp only [numRF, Option.some.injEq] at h; exact ⟨acc, h.symm⟩
  | b :: l, acc, x, h => by
    rw [numRF] at h
    split at h
    · rename_i q
      have hbb := fig_bounds b q.1
      have e : 10 * (acc : Int) + ((b.toNat : Int) - 48) = ((acc * 10 + (b.toNat - 48) : Nat) : Int) := by omega
      rw [e] at h
      exact numRF_nat l _ x h
    · cases h
/-- A number's figures start with a nought, and are more. -/
def lead0 (l : Str) : Prop := List.getD l 0 0 = 48 ∧ 1 < l.length
theorem lead_eq (l : Str) : (Lib.hasPrefix l [48] = true ∧ l ≠ [48]) ↔ lead0 l := by
  unfold lead0 Lib.hasPrefix
  cases l with
  | nil => simp
  | cons b r =>
    have e : ([48] : Str).isPrefixOf (b :: r) = (48 == b) := by simp [List.isPrefixOf]
    rw [e]
    simp only [beq_iff_eq, List.getD_cons_zero, List.length_cons, ne_eq, List.cons.injEq, not_and]
    constructor
    · rintro ⟨h1, h2⟩
      refine ⟨h1.symm, ?_⟩
      have := h2 h1.symm
      have : r.length ≠ 0 := fun q => this (List.length_eq_zero_iff.1 q)
      omega
    · rintro ⟨h1, h2⟩
      refine ⟨h1.symm, fun _ q => ?_⟩
      rw [q] at h2; simp at h2
/-- A number, out of its sign and its figures. -/
def numOf (neg : Bool) (l : Str) (v : Int) : Prop := ∃ n : Nat, l ≠ [] ∧ Lib.parseUint10 0 l = .ok n ∧ n ≤ 4611686018427387904 ∧ ¬ lead0 l ∧ v = if neg then -(n : Int) else n
theorem numR_of (w : Str) (neg : Bool) (l : Str) (hw : w.drop (atN w) = l) (ha : atN w = if neg then 1 else 0) (hf : ∀ b ∈ l, figB b = true) (hle : atN w ≤ w.length) (v : Int) : numR w = some v ↔ numOf neg l v := by
  have hl : l.length = w.length - atN w := by rw [← hw, List.length_drop]
  have hg : List.getD w (atN w) 0 = List.getD l 0 0 := by rw [← hw, List.getD_eq_getElem?_getD, List.getD_eq_getElem?_getD, List.getElem?_drop]; rfl
  have hne : l ≠ [] ↔ ¬ w.length = atN w := by rw [ne_eq, ← List.length_eq_zero_iff]; omega
  have hlead : lead0 l ↔ (List.getD w (atN w) 0 = 48 ∧ atN w + 1 < w.length) := by rw [hg, lead0]; constructor <;> rintro ⟨a, b⟩ <;> exact ⟨a, by omega⟩
  rw [numR, hw]
  unfold numOf
  rw [hne, hlead]
  have hneg : ∀ n : Int, (if atN w = 1 then -n else n) = if neg then -n else n := by intro n; rw [ha]; cases neg <;> simp
  constructor
  · intro h
    rcases hx : numRF 0 l with _ | x
    · rw [hx] at h; cases h
    · rw [hx] at h
      simp only at h
      split at h
      · cases h
      · rename_i q
        injection h with h
        obtain ⟨n, rfl⟩ := numRF_nat l 0 x hx
        have q1 : ¬ w.length = atN w := fun z => q (.inl z)
        have q2 : n ≤ 4611686018427387904 := by
          by_cases z : n ≤ 4611686018427387904
          · exact z
          · exact absurd (.inr (.inl (by omega))) q
        exact ⟨n, q1, (num_parse l 0 n hf (by omega) q2).1 hx, q2, fun z => q (.inr (.inr z)), by rw [← h, hneg]⟩
  · rintro ⟨n, q1, q2, q3, q4, rfl⟩
    have hx := (num_parse l 0 n hf (by omega) q3).2 q2
    rw [show ((0 : Nat) : Int) = 0 from rfl] at hx
    rw [hx]
    simp only
    rw [if_neg (by rintro (z | z | z); · exact q1 z
                   · omega
                   · exact q4 z), hneg]
theorem parseMag_iff (l : Str) (u : Nat) : Lib.parseMag l = .ok u ↔ l ≠ [] ∧ Lib.parseUint10 0 l = .ok u := by
  unfold Lib.parseMag
  split
  · rename_i q; exact ⟨fun h => (by cases h), fun h => absurd q h.1⟩
  · rename_i q; exact ⟨fun h => ⟨q, h⟩, fun h => h.2⟩
theorem atoi_iff (c : UInt8) (ds : Str) (hc : c = 45 ∨ figB c = true) (v : Int) : Lib.atoiAll (c :: ds) = .ok v ↔ ∃ u : Nat, Lib.parseMag (if c = 45 then ds else c :: ds) = .ok u ∧ (c = 45 → u ≤ 9223372036854775808) ∧ (¬ c = 45 → u < 9223372036854775808) ∧ v = if c = 45 then -(u : Int) else u := by
  have h43 : ¬ c.toNat = 43 := by
    rcases hc with rfl | hc
    · decide
    · have := fig_bounds c hc; omega
  have h45 : c.toNat = 45 ↔ c = 45 := by
    constructor
    · intro h; exact UInt8.toNat_inj.1 h
    · rintro rfl; rfl
  simp only [Lib.atoiAll, h43, h45, false_or]
  generalize Lib.parseMag (if c = 45 then ds else c :: ds) = m
  rcases m with u | _ | _
  · simp only [Lib.NumEnd.ok.injEq, exists_eq_left']
    by_cases q : c = 45
    · simp only [q, not_true, false_and, if_false, true_and, if_true, true_implies, false_implies]
      by_cases z : 9223372036854775808 < u
      · rw [if_pos z]; constructor
        · intro h; cases h
        · intro h; omega
      · rw [if_neg z]; simp only [Lib.NumEnd.ok.injEq]; constructor
        · intro h; exact ⟨by omega, h.symm⟩
        · intro h; exact h.2.symm
    · simp only [q, not_false_iff, true_and, if_false, false_and, true_implies, false_implies]
      by_cases z : 9223372036854775808 ≤ u
      · rw [if_pos z]; constructor
        · intro h; cases h
        · intro h; omega
      · rw [if_neg z]; simp only [Lib.NumEnd.ok.injEq]; constructor
        · intro h; exact ⟨by omega, h.symm⟩
        · intro h; exact h.2.symm
  · constructor
    · intro h; cases h
    · rintro ⟨u, h, _⟩; cases h
  · constructor
    · intro h; cases h
    · rintro ⟨u, h, _⟩; cases h
theorem trim45 (c : UInt8) (ds : Str) : Lib.trimPrefix (c :: ds) [45] = if c = 45 then ds else c :: ds := by
  unfold Lib.trimPrefix Lib.hasPrefix
  have e : ([45] : Str).isPrefixOf (c :: ds) = (45 == c) := by simp [List.isPrefixOf]
  rw [e]
  by_cases q : c = 45
  · subst q; simp
  · rw [if_neg q]
    have : ((45 : UInt8) == c) = false := by simpa using fun h => q h.symm
    rw [this]; simp
theorem numS_iff (w : Str) (v : Int) : numS w = some v ↔ Lib.atoiAll w = .ok v ∧ -4611686018427387904 ≤ v ∧ v ≤ 4611686018427387904 ∧ ¬ lead0 (Lib.trimPrefix w [45]) := by
  unfold numS
  rw [← lead_eq]
  rcases Lib.atoiAll w with x | _ | _
  · simp only [Lib.NumEnd.ok.injEq]
    split
    · rename_i q
      constructor
      · intro h; cases h
      · rintro ⟨rfl, h1, h2, h3⟩
        rcases q with q | q | q
        · omega
        · omega
        · exact absurd q h3
    · rename_i q
      constructor
      · intro h; injection h with h; subst h
        refine ⟨rfl, ?_, ?_, fun z => q (.inr (.inr z))⟩
        · by_cases z : x < -4611686018427387904
          · exact absurd (.inl z) q
          · omega
        · by_cases z : 4611686018427387904 < x
          · exact absurd (.inr (.inl z)) q
          · omega
      · rintro ⟨rfl, _⟩; rfl
  · constructor
    · intro h; cases h
    · rintro ⟨h, _⟩; cases h
  · constructor
    · intro h; cases h
    · rintro ⟨h, _⟩; cases h
theorem num_eq (c : UInt8) (ds : Str) (hc : c = 45 ∨ figB c = true) (hd : ∀ b ∈ ds, figB b = true) : numS (c :: ds) = numR (c :: ds) := by
  have hR : ∀ v, numR (c :: ds) = some v ↔ numOf (decide (c = 45)) (if c = 45 then ds else c :: ds) v := by
    intro v
    by_cases q : c = 45
    · subst q
      have ha : atN (45 :: ds) = 1 := by simp [atN]
      refine numR_of _ _ _ ?_ ?_ ?_ ?_ v
      · rw [ha]; simp
      · rw [ha]; simp
      · simpa using hd
      · rw [ha]; simp
    · have ha : atN (c :: ds) = 0 := by simp [atN, q]
      refine numR_of _ _ _ ?_ ?_ ?_ ?_ v
      · rw [ha]; simp [q]
      · rw [ha]; simp [q]
      · rw [if_neg q]
        intro b hb
        rcases List.mem_cons.1 hb with rfl | hb
        · rcases hc with h | h
          · exact absurd h q
          · exact h
        · exact hd b hb
      · rw [ha]; omega
  have hS : ∀ v, numS (c :: ds) = some v ↔ numOf (decide (c = 45)) (if c = 45 then ds else c :: ds) v := by
    intro v
    rw [numS_iff, trim45, atoi_iff c ds hc]
    unfold numOf
    constructor
    · rintro ⟨⟨u, h1, h2, h3, h4⟩, h5, h6, h7⟩
      have h8 := (parseMag_iff _ _).1 h1
      refine ⟨u, h8.1, h8.2, ?_, h7, ?_⟩
      · by_cases q : c = 45
        · rw [if_pos q] at h4; omega
        · rw [if_neg q] at h4; omega
      · by_cases q : c = 45
        · simp only [q, decide_true, if_true]; rw [if_pos q] at h4; exact h4
        · simp only [q, decide_false, if_false, Bool.false_eq_true]; rw [if_neg q] at h4; exact h4
    · rintro ⟨u, h1, h2, h3, h4, h5⟩
      refine ⟨⟨u, (parseMag_iff _ _).2 ⟨h1, h2⟩, fun _ => by omega, fun _ => by omega, ?_⟩, ?_, ?_, h4⟩
      · by_cases q : c = 45
        · simp only [q, decide_true, if_true] at h5 ⊢; exact h5
        · simp only [q, decide_false, if_false, Bool.false_eq_true] at h5 ⊢; exact h5
      · by_cases q : c = 45
        · simp only [q, decide_true, if_true] at h5; omega
        · simp only [q, decide_false, if_false, Bool.false_eq_true] at h5; omega
      · by_cases q : c = 45
        · simp only [q, decide_true, if_true] at h5; omega
        · simp only [q, decide_false, if_false, Bool.false_eq_true] at h5; omega
  rcases hx : numS (c :: ds) with _ | v
  · rcases hy : numR (c :: ds) with _ | v
    · rfl
    · have := (hS v).2 ((hR v).1 hy); rw [hx] at this; cases this
  · exact ((hR v).2 ((hS v).1 hx)).symm
end Go.Proofs.Vale

set_option linter.unusedVariables false
set_option linter.unusedSimpArgs false
set_option maxHeartbeats 4000000
set_option maxRecDepth 100000
namespace Go.Proofs.Vale
open Go.Proofs Go.Proofs.YtchboekipfpheaaDoorT
attribute [local irreducible] acode aopsL aopsT dopsL dopsT dmL dmT pop popG aop ALoop ADraw ACall AWP AFin acondT ALoopT ADrawT ACallT doP doG doGd

/-! ### One law: the program's tokens are the document's (two) -/
theorem gap_eq (b : UInt8) : gapS.contains b = gapB b := by
  simp only [gapS, gapB, List.contains_cons, List.contains_nil, Bool.or_false]
  cases (b == 32) <;> cases (b == 9) <;> cases (b == 10) <;> rfl
theorem trimG_gap (c : UInt8) (r : Str) (h : gapB c = true) : trimG (c :: r) = trimG r := by
  rw [trimG, Lib.trimLeftS, List.dropWhile_cons, gap_eq, if_pos h]; rfl
theorem trimG_not (c : UInt8) (r : Str) (h : gapB c = false) : trimG (c :: r) = c :: r := by
  rw [trimG, Lib.trimLeftS, List.dropWhile_cons, gap_eq, h]; simp
theorem sign_not (c : UInt8) (h : signB c = true) : letB c = false := by
  have h := List.contains_iff_mem.1 h
  simp only [signS, List.mem_cons, List.not_mem_nil, or_false] at h
  rcases h with rfl | rfl | rfl | rfl | rfl | rfl <;> decide
theorem gap_not (c : UInt8) (h : letB c = true) : gapB c = false ∧ signB c = false ∧ c ≠ 34 := by
  have hb : 97 ≤ c.toNat := by
    unfold letB at h
    by_cases q : (97 : Int) ≤ (c.toNat : Int)
    · omega
    · simp [q] at h
  have hne : ∀ n : UInt8, n.toNat < 97 → (c == n) = false := by
    intro n hn; rw [beq_eq_false_iff_ne]; rintro rfl; omega
  refine ⟨?_, ?_, ?_⟩
  · rw [gapB, hne 32 (by decide), hne 9 (by decide), hne 10 (by decide)]; rfl
  · rw [signB, signS]
    simp only [List.contains_cons, List.contains_nil, hne 44 (by decide), hne 40 (by decide), hne 41 (by decide), hne 61 (by decide), hne 60 (by decide), hne 62 (by decide), Bool.or_self]
  · rintro rfl; exact absurd hb (by decide)
theorem cut_at (s : Str) (h : cutN s < s.length) : s[cutN s] = 34 := by
  induction s with
  | nil => simp at h
  | cons b s ih =>
    by_cases q : b = 34
    · subst q
      have : cutN (34 :: s) = 0 := by simp [cutN, qB]
      simp [this]
    · have hq : qB b = true := by simpa [qB] using q
      have : cutN (b :: s) = cutN s + 1 := by rw [cutN, cutN, List.takeWhile_cons, if_pos hq]; rfl
      simp only [this, List.getElem_cons_succ]
      rw [this] at h
      exact ih (by simpa using h)
theorem mem_tw {p : UInt8 → Bool} {b : UInt8} : ∀ {l : Str}, b ∈ l.takeWhile p → p b = true
  | [], h => by simp at h
  | a :: l, h => by
    rw [List.takeWhile_cons] at h
    split at h
    · rename_i q
      rcases List.mem_cons.1 h with rfl | h
      · exact q
      · exact mem_tw h
    · simp at h
theorem cut_none (s : Str) (h : ¬ cutN s < s.length) : ∀ k (hk : k < s.length), s[k] ≠ 34 := by
  intro k hk q
  have hl := cutN_le s
  have ht : s.takeWhile qB = s := by rw [← cut_take]; exact List.take_of_length_le (by omega)
  have hm : s[k] ∈ s.takeWhile qB := by rw [ht]; exact List.getElem_mem hk
  have := (mem_tw hm)
  rw [q] at this
  exact absurd this (by decide)
theorem quoted_eq (r : Str) : (quotedS (34 :: r)).map (fun x => x.1) = oneR ((34 :: r).take (endN (34 :: r))) ∧ (∀ t k, quotedS (34 :: r) = some (t, k) → k = endN (34 :: r)) := by
  have hc := cutN_le r
  have he : endN (34 :: r) = min (cutN r + 2) (r.length + 1) := by simp [endN]
  rw [he]
  have hl : letB 34 = false := by decide
  unfold quotedS
  rw [List.drop_one, List.tail_cons]
  by_cases q : cutN r < r.length
  · have hm : min (cutN r + 2) (r.length + 1) = cutN r + 2 := by omega
    rw [hm]
    have hw : ((34 :: r).take (cutN r + 2)) = 34 :: r.take (cutN r + 1) := rfl
    have hwl : (34 :: r.take (cutN r + 1)).length = cutN r + 2 := by rw [List.length_cons, List.length_take]; omega
    have hla : List.getD (34 :: r.take (cutN r + 1)) (cutN r + 2 - 1) 0 = 34 := by
      rw [str_get _ _ (by rw [hwl]; omega)]
      have : cutN r + 2 - 1 = cutN r + 1 := rfl
      simp only [this, List.getElem_cons_succ, List.getElem_take]
      exact cut_at r q
    have hin : ((34 :: r.take (cutN r + 1)).take (cutN r + 2 - 1)).drop 1 = r.take (cutN r) := by
      have : cutN r + 2 - 1 = cutN r + 1 := rfl
      rw [this, List.take_succ_cons, List.drop_one, List.tail_cons, List.take_take]
      congr 1; omega
    rw [hw]
    unfold oneR
    rw [hwl, hla, hin]
    simp only [List.getD_cons_zero, hl, Bool.false_eq_true, if_false, if_true, ne_eq, not_true, or_false]
    rw [if_neg (show ¬ cutN r + 2 < 2 by omega)]
    by_cases z : valueS (r.take (cutN r)) = true
    · rw [if_pos ⟨q, z⟩, if_pos z]
      refine ⟨rfl, ?_⟩
      rintro t k h; injection h with h; injection h with h1 h2; exact h2.symm
    · rw [if_neg (fun x => z x.2), if_neg z]
      refine ⟨rfl, ?_⟩
      rintro t k h; cases h
  · have hm : min (cutN r + 2) (r.length + 1) = r.length + 1 := by omega
    rw [hm]
    have hw : ((34 :: r).take (r.length + 1)) = 34 :: r := by rw [List.take_succ_cons, List.take_length]
    rw [hw, if_neg (fun x => q x.1)]
    refine ⟨?_, fun t k h => by cases h⟩
    unfold oneR
    simp only [List.getD_cons_zero, hl, Bool.false_eq_true, if_false, if_true, Option.map_none, List.length_cons]
    rcases r with _ | ⟨b, r⟩
    · rfl
    · have hlast : List.getD (34 :: b :: r) ((b :: r).length + 1 - 1) 0 ≠ 34 := by
        rw [str_get _ _ (by simp)]
        simp only [List.length_cons, Nat.add_sub_cancel, List.getElem_cons_succ]
        exact cut_none (b :: r) q r.length (by simp)
      rw [if_pos (.inr hlast)]
theorem take_upto (p : UInt8 → Bool) (c : UInt8) (r : Str) : (c :: r).take (uptoN p (c :: r)) = c :: r.takeWhile p := by
  have h : uptoN p (c :: r) = (r.takeWhile p).length + 1 := by rw [uptoN, List.drop_one, List.tail_cons]; omega
  rw [h, List.take_succ_cons]
  congr 1
  exact (List.prefix_iff_eq_take.1 (List.takeWhile_prefix _)).symm
/-- One token, read by either. -/
theorem next_eq (c : UInt8) (r : Str) (hg : gapB c = false) (hs : signB c = false) :
    nextS (c :: r) = if letB c = false ∧ figB c = false ∧ c ≠ 45 ∧ c ≠ 34 then none else (oneR ((c :: r).take (endN (c :: r)))).map (fun t => (t, endN (c :: r))) := by
  unfold nextS
  simp only [hs, Bool.false_eq_true, if_false]
  by_cases hl : letB c = true
  · obtain ⟨-, -, h34⟩ := gap_not c hl
    have he : endN (c :: r) = uptoN wordB (c :: r) := by simp [endN, h34, hl]
    rw [if_pos hl, if_neg (fun x => by rw [x.1] at hl; cases hl), he]
    have hw := take_upto wordB c r
    have ho : oneR ((c :: r).take (uptoN wordB (c :: r))) = some (0, (c :: r).take (uptoN wordB (c :: r)), 0) := by
      unfold oneR; rw [hw, List.getD_cons_zero, if_pos hl]
    rw [ho, Option.map_some]
    have hlen := uptoN_le wordB (c :: r) (by simp)
    rw [List.length_take, Nat.min_eq_left hlen.2]
  · have hl' : letB c = false := by simpa using hl
    rw [if_neg hl]
    by_cases h34 : c = 34
    · subst h34
      rw [if_pos rfl, if_neg (fun x => x.2.2.2 rfl)]
      obtain ⟨h1, h2⟩ := quoted_eq r
      rw [← h1]
      rcases hq : quotedS (34 :: r) with _ | ⟨t, k⟩
      · rfl
      · rw [h2 t k hq]; rfl
    · rw [if_neg h34]
      by_cases hn : c = 45 ∨ figB c = true
      · have he : endN (c :: r) = uptoN figB (c :: r) := by simp [endN, h34, hl']
        rw [if_pos hn, if_neg (by rintro ⟨_, a, b, _⟩; rcases hn with hn | hn
                                  · exact b hn
                                  · rw [a] at hn; cases hn), he]
        have hw := take_upto figB c r
        have hlen := uptoN_le figB (c :: r) (by simp)
        have ho : oneR ((c :: r).take (uptoN figB (c :: r))) = match numR ((c :: r).take (uptoN figB (c :: r))) with | some v => some (1, (c :: r).take (uptoN figB (c :: r)), v) | none => none := by
          unfold oneR; rw [hw, List.getD_cons_zero, if_neg hl, if_neg h34]; cases numR (c :: List.takeWhile figB r) <;> rfl
        have hnum : numS ((c :: r).take (uptoN figB (c :: r))) = numR ((c :: r).take (uptoN figB (c :: r))) := by
          rw [hw]; exact num_eq c _ hn (fun b hb => mem_tw hb)
        rw [ho, hnum, List.length_take, Nat.min_eq_left hlen.2]
        cases numR ((c :: r).take (uptoN figB (c :: r))) <;> rfl
      · rw [if_neg hn, if_pos ⟨hl', by simpa using fun x => hn (.inr x), fun x => hn (.inl x), h34⟩]
theorem tokRF_eq : ∀ (n m : Nat) (u : Str), u.length ≤ n → u.length ≤ m → tokRF n u = tokF m (trimG u)
  | n, m, [], _, _ => by
    have h1 : tokRF n [] = some [] := by cases n <;> rfl
    have h2 : tokF m (trimG []) = some [] := by cases m <;> rfl
    rw [h1, h2]
  | 0, _, _ :: _, h, _ => by simp at h
  | _ + 1, 0, _ :: _, _, h => by simp at h
  | n + 1, m + 1, c :: r, hn, hm => by
    simp only [List.length_cons, Nat.add_le_add_iff_right] at hn hm
    rw [tokRF]
    by_cases hg : gapB c = true
    · rw [if_pos hg, trimG_gap c r hg]
      exact tokRF_eq n (m + 1) r hn (by omega)
    · have hg' : gapB c = false := by simpa using hg
      rw [if_neg hg, trimG_not c r hg', tokF]
      by_cases hs : signB c = true
      · have hl := sign_not c hs
        have h34 : nextS (c :: r) = some ((3, [c], 0), 1) := by unfold nextS; simp [hl, hs]
        rw [if_pos hs, h34]
        simp only [List.drop_one, List.tail_cons]
        rw [tokRF_eq n m r hn hm]
      · have hs' : signB c = false := by simpa using hs
        rw [if_neg hs, next_eq c r hg' hs']
        by_cases hx : letB c = false ∧ figB c = false ∧ c ≠ 45 ∧ c ≠ 34
        · rw [if_pos hx, if_pos hx]
        · rw [if_neg hx, if_neg hx]
          have he := endN_le (c :: r) (by simp)
          have hd : ((c :: r).drop (endN (c :: r))).length ≤ r.length := by rw [List.length_drop, List.length_cons]; omega
          have ih := tokRF_eq n m ((c :: r).drop (endN (c :: r))) (by omega) (by omega)
          rcases ho : oneR ((c :: r).take (endN (c :: r))) with _ | t
          · simp
          · simp only [Option.map_some]
            rw [ih]
  termination_by n => n
theorem tokens_eq (s : Str) : tokensR s = tokensS s := by
  unfold tokensR tokensS
  split
  · rfl
  · exact tokRF_eq s.length s.length s (Nat.le_refl _) (Nat.le_refl _)
end Go.Proofs.Vale
