/- YtchboekipfpheaaDoorVLexU: a text of the proof of this claim, by its prover. -/
import Derived.Test.YtchboekipfpheaaDoorVLexQ
set_option linter.unusedVariables false
set_option linter.unusedSimpArgs false
set_option maxHeartbeats 4000000
set_option maxRecDepth 100000
namespace Go.Proofs.Vale
open Go.Proofs Go.Proofs.YtchboekipfpheaaDoorT
attribute [local irreducible] acode aopsL aopsT dopsL dopsT dmL dmT pop popG aop ALoop ADraw ACall AWP AFin acondT ALoopT ADrawT ACallT doP doG doGd

/-! ### The plain law: what is put together reads as it was -/
def tokG (s : Str) : Option (List Tok) := tokF s.length (trimG s)
def gapHead (r : Str) : Prop := r = [] ∨ ∃ g r', r = g :: r' ∧ gapB g = true
theorem tokens_G (s : Str) : tokensS s = if 400 < s.length then none else tokG s := rfl
theorem tokG_fuel (n : Nat) (s : Str) (h : (trimG s).length ≤ n) : tokF n (trimG s) = tokG s := by
  have h1 := trimG_le s
  unfold tokG
  rcases Nat.le_total n s.length with q | q
  · exact tokF_mono n s.length _ h q
  · exact (tokF_mono s.length n _ h1 q).symm
theorem tokG_nil : tokG [] = some [] := rfl
theorem tokG_gap (g : UInt8) (r : Str) (h : gapB g = true) : tokG (g :: r) = tokG r := by
  have h1 := trimG_le r
  have e := tokG_fuel (r.length + 1) r (by omega)
  unfold tokG at e ⊢
  rw [trimG_gap g r h, List.length_cons]; exact e
theorem trimG_app (x r : Str) : trimG (x ++ r) = if (trimG x).isEmpty then trimG r else trimG x ++ r := by
  simp only [trimG, Lib.trimLeftS]
  exact List.dropWhile_append
theorem gap_stop (g : UInt8) (h : gapB g = true) : wordB g = false ∧ figB g = false := by
  have : g = 32 ∨ g = 9 ∨ g = 10 := by
    unfold gapB at h
    by_cases a : g = 32
    · exact .inl a
    · by_cases b : g = 9
      · exact .inr (.inl b)
      · by_cases c : g = 10
        · exact .inr (.inr c)
        · simp [a, b, c] at h
  rcases this with rfl | rfl | rfl <;> exact ⟨by decide, by decide⟩
theorem tw_app (p : UInt8 → Bool) (u r : Str) (hp : ∀ g, gapB g = true → p g = false) (hr : gapHead r) : (u ++ r).takeWhile p = u.takeWhile p := by
  induction u with
  | nil =>
    rcases hr with rfl | ⟨g, r', rfl, hg⟩
    · rfl
    · rw [List.nil_append, List.takeWhile_cons, hp g hg]; rfl
  | cons b u ih => rw [List.cons_append, List.takeWhile_cons, List.takeWhile_cons, ih]
theorem upto_app (p : UInt8 → Bool) (c : UInt8) (u r : Str) (hp : ∀ g, gapB g = true → p g = false) (hr : gapHead r) : uptoN p (c :: (u ++ r)) = uptoN p (c :: u) ∧ (c :: (u ++ r)).take (uptoN p (c :: u)) = (c :: u).take (uptoN p (c :: u)) := by
  have h1 : uptoN p (c :: (u ++ r)) = uptoN p (c :: u) := by
    simp only [uptoN, List.drop_one, List.tail_cons]
    rw [tw_app p u r hp hr]
  refine ⟨h1, ?_⟩
  rw [← h1, take_upto, h1, take_upto, tw_app p u r hp hr]
theorem cut_app (u r : Str) (h : cutN u < u.length) : cutN (u ++ r) = cutN u := by
  induction u with
  | nil => simp at h
  | cons b u ih =>
    by_cases q : qB b = true
    · have e : ∀ x : Str, cutN (b :: x) = cutN x + 1 := fun x => by rw [cutN, cutN, List.takeWhile_cons, if_pos q]; rfl
      rw [List.cons_append, e, e]
      rw [e, List.length_cons] at h
      rw [ih (by omega)]
    · have e : ∀ x : Str, cutN (b :: x) = 0 := fun x => by rw [cutN, List.takeWhile_cons, if_neg q]; rfl
      rw [List.cons_append, e, e]
theorem next_cons (c : UInt8) (r : Str) : nextS (c :: r) = (if letB c then some ((0, (c :: r).take (uptoN wordB (c :: r)), 0), ((c :: r).take (uptoN wordB (c :: r))).length)
    else if signB c then some ((3, (c :: r).take 1, 0), 1)
    else if c = 34 then quotedS (c :: r)
    else if c = 45 ∨ figB c = true then (match numS ((c :: r).take (uptoN figB (c :: r))) with | some v => some ((1, (c :: r).take (uptoN figB (c :: r)), v), ((c :: r).take (uptoN figB (c :: r))).length) | none => none)
    else none) := rfl
/-- A token reads the same before a gap. -/
theorem next_app (u r : Str) (t : Tok) (k : Nat) (h : nextS u = some (t, k)) (hr : gapHead r) : nextS (u ++ r) = some (t, k) := by
  cases u with
  | nil => cases h
  | cons c u =>
    rw [List.cons_append]
    rw [next_cons] at h ⊢
    by_cases hl : letB c = true
    · rw [if_pos hl] at h ⊢
      obtain ⟨h1, h2⟩ := upto_app wordB c u r (fun g hg => (gap_stop g hg).1) hr
      rw [h1, h2]; exact h
    · rw [if_neg hl] at h ⊢
      by_cases hs : signB c = true
      · rw [if_pos hs] at h ⊢; exact h
      · rw [if_neg hs] at h ⊢
        by_cases h34 : c = 34
        · rw [if_pos h34] at h ⊢
          unfold quotedS at h ⊢
          simp only [List.drop_one, List.tail_cons] at h ⊢
          split at h
          · rename_i q
            have e1 := cut_app u r q.1
            have e2 : (u ++ r).take (cutN u) = u.take (cutN u) := by rw [List.take_append_of_le_length (Nat.le_of_lt q.1)]
            rw [e1, e2, if_pos ⟨by rw [List.length_append]; omega, q.2⟩]; exact h
          · cases h
        · rw [if_neg h34] at h ⊢
          by_cases hn : c = 45 ∨ figB c = true
          · rw [if_pos hn] at h ⊢
            obtain ⟨h1, h2⟩ := upto_app figB c u r (fun g hg => (gap_stop g hg).2) hr
            rw [h1, h2]; exact h
          · rw [if_neg hn] at h; cases h
/-- What is read before a gap stays, and what is behind it is read from there. -/
theorem tokF_app : ∀ (n : Nat) (u r : Str) (L : List Tok), u.length ≤ n → tokF n (trimG u) = some L → gapHead r → tokG (u ++ r) = (tokG r).map (L ++ ·) := by
  intro n
  induction n with
  | zero =>
    intro u r L hn h hr
    obtain rfl := List.length_eq_zero_iff.1 (Nat.le_zero.1 hn)
    have : L = [] := by
      have h2 : tokF 0 (trimG []) = some [] := rfl
      rw [h2] at h; injection h with h; exact h.symm
    subst this
    simp
  | succ n ih =>
    intro u r L hn h hr
    have hle := trimG_le u
    rcases ht : trimG u with _ | ⟨c, v⟩
    · rw [ht] at h
      have h2 : tokF (n + 1) [] = some [] := rfl
      rw [h2] at h; injection h with h; subst h
      have e : trimG (u ++ r) = trimG r := by rw [trimG_app, ht]; rfl
      have e2 : tokG (u ++ r) = tokF (u ++ r).length (trimG r) := by rw [tokG, e]
      have hl := trimG_le r
      rw [e2, tokG_fuel _ r (by rw [List.length_append]; omega)]
      simp
    · have e : trimG (u ++ r) = (c :: v) ++ r := by rw [trimG_app, ht]; rfl
      rw [ht] at h hle
      rw [tokF] at h
      rcases hx : nextS (c :: v) with _ | ⟨t, k⟩
      · rw [hx] at h; cases h
      · rw [hx] at h
        simp only at h
        have hk := next_len _ _ _ hx
        have hxa := next_app _ r _ _ hx hr
        rcases hy : tokF n (trimG ((c :: v).drop k)) with _ | L'
        · rw [hy] at h; cases h
        · rw [hy] at h
          injection h with h
          have hd : ((c :: v).drop k).length ≤ n := by rw [List.length_drop]; omega
          have hi := ih _ r L' hd hy hr
          have hb : tokG (u ++ r) = tokF ((u ++ r).length) ((c :: v) ++ r) := by rw [tokG, e]
          have hlen : 1 ≤ (u ++ r).length := by rw [List.length_append]; simp at hle; omega
          obtain ⟨m, hm⟩ : ∃ m, (u ++ r).length = m + 1 := ⟨(u ++ r).length - 1, by omega⟩
          rw [hb, hm]
          have hstep := tokF_step m ((c :: v) ++ r) (by simp) (by rw [← hm, List.length_append, List.length_append]; omega)
          rw [hstep, hxa]
          simp only
          have hdr : ((c :: v) ++ r).drop k = (c :: v).drop k ++ r := List.drop_append_of_le_length hk.2
          have hlm := trimG_le ((c :: v).drop k ++ r)
          have hdl : ((c :: v).drop k ++ r).length ≤ m := by
            rw [List.length_append, List.length_drop]
            rw [List.length_append] at hm
            omega
          rw [hdr, tokG_fuel m _ (by omega), hi, ← h]
          cases tokG r <;> simp
theorem tokG_app (u r : Str) (L : List Tok) (h : tokG u = some L) (hr : gapHead r) : tokG (u ++ r) = (tokG r).map (L ++ ·) :=
  tokF_app u.length u r L (Nat.le_refl _) h hr
/-- Right, without the bound on the text. -/
def rightG (t : Tok) : Prop := tokG (standS t) = some [t]
theorem rightS_G (t : Tok) (h : rightS t = true) : rightG t := by
  unfold rightS at h
  rcases hx : tokensS (standS t) with _ | L
  · rw [hx] at h; cases h
  · rw [hx] at h
    simp only [decide_eq_true_eq] at h
    subst h
    rw [tokens_G] at hx
    split at hx
    · cases hx
    · exact hx
theorem textG : ∀ (R : List Tok), (∀ t ∈ R, rightG t) → tokG (textS R) = some R
  | [], _ => rfl
  | [t], h => by
    have : textS [t] = standS t := by simp [textS, Lib.join_one]
    rw [this]; exact h t (by simp)
  | t :: u :: R, h => by
    have ih := textG (u :: R) (fun x hx => h x (by simp [List.mem_cons.1 hx]))
    have : textS (t :: u :: R) = standS t ++ 32 :: textS (u :: R) := by
      simp only [textS, List.map_cons]
      rw [Lib.join_cons, Lib.join_cons]
      simp [Lib.joinTail]
    rw [this, tokG_app _ _ [t] (h t (by simp)) (.inr ⟨32, _, rfl, by decide⟩), tokG_gap 32 _ (by decide), ih]
    rfl
/-- The tokens, each between gaps. -/
def spaceS : List Tok → Str
  | [] => []
  | t :: R => [32, 10] ++ standS t ++ [9] ++ spaceS R
theorem spaceG : ∀ (R : List Tok), (∀ t ∈ R, rightG t) → tokG (spaceS R) = some R
  | [], _ => rfl
  | t :: R, h => by
    have ih := spaceG R (fun x hx => h x (by simp [hx]))
    have : spaceS (t :: R) = 32 :: 10 :: (standS t ++ 9 :: spaceS R) := by simp [spaceS]
    rw [this, tokG_gap 32 _ (by decide), tokG_gap 10 _ (by decide), tokG_app _ _ [t] (h t (by simp)) (.inr ⟨9, _, rfl, by decide⟩), tokG_gap 9 _ (by decide), ih]
    rfl
theorem spaceS_app (a b : List Tok) : spaceS (a ++ b) = spaceS a ++ spaceS b := by
  induction a with
  | nil => rfl
  | cons t a ih => simp only [List.cons_append, spaceS, ih, List.append_assoc]
end Go.Proofs.Vale

set_option linter.unusedVariables false
set_option linter.unusedSimpArgs false
set_option maxHeartbeats 4000000
set_option maxRecDepth 100000
namespace Go.Proofs.Vale
open Go.Proofs Go.Proofs.YtchboekipfpheaaDoorT
attribute [local irreducible] acode aopsL aopsT dopsL dopsT dmL dmT pop popG aop ALoop ADraw ACall AWP AFin acondT ALoopT ADrawT ACallT doP doG doGd

/-! ### The plain law: what is read is right -/
theorem tw_self (p : UInt8 → Bool) : ∀ l : Str, (l.takeWhile p).takeWhile p = l.takeWhile p
  | [] => rfl
  | b :: l => by
    by_cases q : p b = true
    · rw [List.takeWhile_cons, if_pos q, List.takeWhile_cons, if_pos q, tw_self p l]
    · rw [List.takeWhile_cons, if_neg q]; rfl
theorem tok_whole (w : Str) (t : Tok) (h : nextS w = some (t, w.length)) (hg : trimG w = w) : tokG w = some [t] := by
  cases w with
  | nil => cases h
  | cons c r =>
    unfold tokG
    rw [hg, List.length_cons, tokF_step r.length (c :: r) (by simp) (by simp), h]
    simp only [List.length_cons]
    have : (c :: r).drop (r.length + 1) = [] := List.drop_eq_nil_of_le (by simp)
    rw [this]
    have e : tokF r.length (trimG []) = some [] := by
      have : trimG [] = [] := rfl
      rw [this]; cases r.length <;> rfl
    rw [e]; rfl
theorem cut_no (l : Str) (r : Str) (h : ∀ b ∈ l, qB b = true) : cutN (l ++ 34 :: r) = l.length := by
  induction l with
  | nil => simp [cutN, qB]
  | cons b l ih =>
    have e : cutN (b :: (l ++ 34 :: r)) = cutN (l ++ 34 :: r) + 1 := by rw [cutN, cutN, List.takeWhile_cons, if_pos (h b (by simp))]; rfl
    rw [List.cons_append, e, ih (fun b hb => h b (by simp [hb]))]; rfl
theorem next_right (u : Str) (t : Tok) (k : Nat) (h : nextS u = some (t, k)) : rightG t ∧ (standS t).length = k := by
  cases u with
  | nil => cases h
  | cons c r =>
    rw [next_cons] at h
    by_cases hl : letB c = true
    · rw [if_pos hl, take_upto] at h
      injection h with h; injection h with h1 h2
      subst h1 h2
      have hst : standS (0, c :: r.takeWhile wordB, 0) = c :: r.takeWhile wordB := rfl
      refine ⟨?_, by rw [hst]⟩
      unfold rightG
      rw [hst]
      refine tok_whole _ _ ?_ (trimG_not c _ (gap_not c hl).1)
      rw [next_cons, if_pos hl, take_upto, tw_self]
    · rw [if_neg hl] at h
      by_cases hs : signB c = true
      · rw [if_pos hs] at h
        injection h with h; injection h with h1 h2
        subst h1 h2
        have hst : standS (3, (c :: r).take 1, 0) = [c] := rfl
        refine ⟨?_, by rw [hst]; rfl⟩
        unfold rightG
        rw [hst]
        have hg : gapB c = false := by
          have hm := List.contains_iff_mem.1 hs
          simp only [signS, List.mem_cons, List.not_mem_nil, or_false] at hm
          rcases hm with rfl | rfl | rfl | rfl | rfl | rfl <;> decide
        refine tok_whole _ _ ?_ (trimG_not c _ hg)
        rw [next_cons, if_neg hl, if_pos hs]; rfl
      · rw [if_neg hs] at h
        by_cases h34 : c = 34
        · subst h34
          rw [if_pos rfl] at h
          unfold quotedS at h
          simp only [List.drop_one, List.tail_cons] at h
          split at h
          · rename_i q
            injection h with h; injection h with h1 h2
            have hlen : (r.take (cutN r)).length = cutN r := by rw [List.length_take]; omega
            have hno : ∀ b ∈ r.take (cutN r), qB b = true := by
              intro b hb
              rw [cut_take] at hb
              exact mem_tw hb
            generalize r.take (cutN r) = x at *
            subst h1 h2
            have hst : standS (2, x, 0) = 34 :: (x ++ [34]) := rfl
            refine ⟨?_, by rw [hst]; simp [hlen]⟩
            unfold rightG
            rw [hst]
            refine tok_whole _ _ ?_ (trimG_not 34 _ (by decide))
            rw [next_cons, if_neg hl, if_neg hs, if_pos rfl]
            unfold quotedS
            simp only [List.drop_one, List.tail_cons]
            have e := cut_no x [] hno
            rw [e]
            have e2 : (x ++ [34]).take x.length = x := by simp
            rw [e2, if_pos ⟨by simp, q.2⟩]
            simp
          · cases h
        · rw [if_neg h34] at h
          by_cases hn : c = 45 ∨ figB c = true
          · rw [if_pos hn, take_upto] at h
            have hg : gapB c = false := by
              rcases hn with rfl | hn
              · decide
              · have := fig_bounds c hn
                have hne : ∀ n : UInt8, n.toNat < 48 → (c == n) = false := by
                  intro n hn; rw [beq_eq_false_iff_ne]; rintro rfl; omega
                rw [gapB, hne 32 (by decide), hne 9 (by decide), hne 10 (by decide)]; rfl
            rcases hv : numS (c :: r.takeWhile figB) with _ | v
            · rw [hv] at h; cases h
            · rw [hv] at h
              injection h with h; injection h with h1 h2
              subst h1 h2
              have hst : standS (1, c :: r.takeWhile figB, v) = c :: r.takeWhile figB := rfl
              refine ⟨?_, by rw [hst]⟩
              unfold rightG
              rw [hst]
              refine tok_whole _ _ ?_ (trimG_not c _ hg)
              rw [next_cons, if_neg hl, if_neg hs, if_neg h34, if_pos hn, take_upto, tw_self, hv]
          · rw [if_neg hn] at h; cases h
theorem tokF_right : ∀ (n : Nat) (s : Str) (L : List Tok), tokF n s = some L → ∀ t ∈ L, rightG t ∧ (standS t).length ≤ s.length
  | n, [], L, h => by
    have h1 : tokF n [] = some [] := by cases n <;> rfl
    rw [h1] at h; injection h with h; subst h; simp
  | 0, _ :: _, L, h => by cases h
  | n + 1, c :: r, L, h => by
    rw [tokF] at h
    rcases hn : nextS (c :: r) with _ | ⟨t, k⟩
    · rw [hn] at h; cases h
    · rw [hn] at h
      simp only at h
      have hk := next_len _ _ _ hn
      rcases hr : tokF n (trimG ((c :: r).drop k)) with _ | L'
      · rw [hr] at h; cases h
      · rw [hr] at h
        injection h with h
        subst h
        have ih := tokF_right n _ L' hr
        have h3 := trimG_le ((c :: r).drop k)
        have h4 : ((c :: r).drop k).length ≤ (c :: r).length := by rw [List.length_drop]; omega
        intro u hu
        rcases List.mem_cons.1 hu with rfl | hu
        · have := next_right _ _ _ hn
          exact ⟨this.1, by omega⟩
        · have := ih u hu
          exact ⟨this.1, by omega⟩
theorem tokens_right (s : Str) (L : List Tok) (h : tokensS s = some L) : ∀ t ∈ L, rightG t ∧ (standS t).length ≤ s.length := by
  rw [tokens_G] at h
  split at h
  · cases h
  · intro t ht
    have := tokF_right _ _ L h t ht
    have h2 := trimG_le s
    exact ⟨this.1, by omega⟩
/-- Law: what is read, written and read again is what was read. -/
theorem back_law (s : Str) (L : List Tok) (h : tokensS s = some L) (hl : (textS L).length ≤ 400) : tokensS (textS L) = some L := by
  rw [tokens_G, if_neg (by omega)]
  exact textG L (fun t ht => (tokens_right s L h t ht).1)
theorem right_back (L : List Tok) (h : ∀ t ∈ L, rightS t = true) (hl : (textS L).length ≤ 400) : tokensS (textS L) = some L := by
  rw [tokens_G, if_neg (by omega)]
  exact textG L (fun t ht => rightS_G t (h t ht))
theorem space_back (L : List Tok) (h : ∀ t ∈ L, rightS t = true) (hl : (spaceS L).length ≤ 400) : tokensS (spaceS L) = some L := by
  rw [tokens_G, if_neg (by omega)]
  exact spaceG L (fun t ht => rightS_G t (h t ht))
theorem tokens_rightS (s : Str) (L : List Tok) (h : tokensS s = some L) : ∀ t ∈ L, rightS t = true := by
  intro t ht
  have h1 := tokens_right s L h t ht
  have h2 : s.length ≤ 400 := by
    rw [tokens_G] at h
    split at h
    · cases h
    · omega
  unfold rightS
  rw [tokens_G, if_neg (by omega), h1.1]
  simp
/-- Law: two texts, one behind the other. -/
theorem pieces_law (a b : Str) (A B : List Tok) (ha : tokensS a = some A) (hb : tokensS b = some B) (hl : a.length + b.length < 400) : tokensS (a ++ [32] ++ b) = some (A ++ B) := by
  rw [tokens_G] at ha hb ⊢
  rw [if_neg (by omega)] at ha hb
  rw [if_neg (by simp; omega)]
  have e : a ++ [32] ++ b = a ++ 32 :: b := by simp
  rw [e, tokG_app a (32 :: b) A ha (.inr ⟨32, b, rfl, by decide⟩), tokG_gap 32 b (by decide), hb]
  rfl
end Go.Proofs.Vale
