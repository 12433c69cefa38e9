/- YtinajnnflgpjbaaVDictL: a text of the proof of this claim, by its prover. -/
import Derived.Test.YtinajnnflgpjbaaVDictF
set_option linter.unusedVariables false
set_option linter.unusedSimpArgs false
namespace Go.Proofs.Vale
open Go.Proofs

/-! ### The plain law of rising texts -/
theorem lt_iff (x y : Str) : x < y ↔ sLt x y = true := by
  induction x generalizing y with
  | nil => cases y <;> simp [sLt, Op.bytesLess]
  | cons a x ih =>
    cases y with
    | nil => simp [sLt, Op.bytesLess]
    | cons b y =>
      rw [List.cons_lt_cons_iff, ih]
      simp [sLt, Op.bytesLess]
theorem le_iff (x y : Str) : x ≤ y ↔ sLt y x = false := by
  rw [← List.not_lt, lt_iff]; simp
theorem sLt_irrefl (x : Str) : sLt x x = false := bytesLess_irrefl x
theorem sLt_total {x y : Str} (h : x ≠ y) (k : sLt x y = false) : sLt y x = true := by
  have := bytesLess_total x y h
  show Op.bytesLess y x = true
  rw [show Op.bytesLess x y = false from k] at this
  simpa using this.symm
theorem le_lt_trans {x y z : Str} (h : sLt y x = false) (k : sLt y z = true) : sLt x z = true := by
  by_cases e : x = y
  · subst e; exact k
  · exact sLt_trans (sLt_total (fun q => e q.symm) h) k
/-- Rising: each below the next ones. -/
abbrev Rise (l : List Str) : Prop := l.Pairwise fun a b => sLt a b = true
theorem rise_uniq : ∀ (a b : List Str), Rise a → Rise b → (∀ x, x ∈ a ↔ x ∈ b) → a = b
  | [], [], _, _, _ => rfl
  | [], y :: b, _, _, h => absurd ((h y).2 (by simp)) (by simp)
  | x :: a, [], _, _, h => absurd ((h x).1 (by simp)) (by simp)
  | x :: a, y :: b, ha, hb, h => by
    rw [Rise, List.pairwise_cons] at ha hb
    have hxy : x = y := by
      by_cases e : x = y
      · exact e
      · exfalso
        have h1 : x ∈ b := by
          have := (h x).1 (by simp)
          rcases List.mem_cons.1 this with q | q
          · exact absurd q e
          · exact q
        have h2 : y ∈ a := by
          have := (h y).2 (by simp)
          rcases List.mem_cons.1 this with q | q
          · exact absurd q.symm e
          · exact q
        have h3 := hb.1 x h1
        have h4 := ha.1 y h2
        have := sLt_trans h3 h4
        rw [sLt_irrefl] at this; cases this
    subst hxy
    have : a = b := rise_uniq a b ha.2 hb.2 fun z => by
      have hz := h z
      simp only [List.mem_cons] at hz
      constructor
      · intro q
        rcases hz.1 (.inr q) with e | e
        · subst e; have := ha.1 z q; rw [sLt_irrefl] at this; cases this
        · exact e
      · intro q
        rcases hz.2 (.inr q) with e | e
        · subst e; have := hb.1 z q; rw [sLt_irrefl] at this; cases this
        · exact e
    rw [this]
theorem compactUpTo_spec (d : Array Str) (hd : d.toList.Pairwise fun a b => sLt b a = false) : ∀ m, m ≤ d.size → Rise (Lib.compactUpTo d m) ∧ ∀ x, x ∈ Lib.compactUpTo d m ↔ ∃ j, j < m ∧ d[j]! = x := by
  intro m
  induction m with
  | zero => intro _; simp [Lib.compactUpTo, Rise]
  | succ m ih =>
    intro hm
    obtain ⟨h1, h2⟩ := ih (by omega)
    have hmd : m < d.size := by omega
    have hle : ∀ i j, i < j → j < d.size → sLt (d[j]!) (d[i]!) = false := by
      intro i j hij hj
      have := List.pairwise_iff_getElem.1 hd i j (by simpa using Nat.lt_trans hij hj) (by simpa using hj) hij
      rw [getElem!_pos d j hj, getElem!_pos d i (by omega)]
      simpa using this
    rw [Lib.compactUpTo_succ]
    by_cases hk : Lib.keeps d m = true
    · rw [if_pos hk]
      refine ⟨?_, ?_⟩
      · rw [Rise, List.pairwise_append]
        refine ⟨h1, by simp, ?_⟩
        intro a ha b hb
        simp only [List.mem_singleton] at hb; subst hb
        obtain ⟨j, hj, rfl⟩ := (h2 a).1 ha
        have hne : m = 0 ∨ d[m]! ≠ d[m - 1]! := by
          exact of_decide_eq_true hk
        rcases hne with q | q
        · omega
        · have h3 := sLt_total (fun e => q e) (hle (m - 1) m (by omega) hmd)
          by_cases e : j = m - 1
          · subst e; exact h3
          · exact le_lt_trans (hle j (m - 1) (by omega) (by omega)) h3
      · intro x
        rw [List.mem_append, h2, List.mem_singleton]
        constructor
        · rintro (⟨j, hj, e⟩ | e)
          · exact ⟨j, by omega, e⟩
          · exact ⟨m, by omega, e.symm⟩
        · rintro ⟨j, hj, e⟩
          by_cases q : j = m
          · subst q; exact .inr e.symm
          · exact .inl ⟨j, by omega, e⟩
    · rw [if_neg hk, List.append_nil]
      refine ⟨h1, fun x => ?_⟩
      rw [h2]
      have heq : 0 < m ∧ d[m]! = d[m - 1]! := by
        have := of_decide_eq_false (Bool.eq_false_iff.2 hk)
        refine ⟨Nat.pos_of_ne_zero fun e => this (.inl e), ?_⟩
        by_cases q : d[m]! = d[m - 1]!
        · exact q
        · exact absurd (.inr q) this
      constructor
      · rintro ⟨j, hj, e⟩; exact ⟨j, by omega, e⟩
      · rintro ⟨j, hj, e⟩
        by_cases q : j = m
        · subst q; exact ⟨j - 1, by omega, by rw [← heq.2]; exact e⟩
        · exact ⟨j, by omega, e⟩
theorem newL_rise (l : List Str) : Rise (newL l) ∧ ∀ x, x ∈ newL l ↔ x ∈ l := by
  have hs : (l.mergeSort fun x y => decide (x ≤ y)).Pairwise fun a b => sLt b a = false := by
    have := List.pairwise_mergeSort (le := fun x y : Str => decide (x ≤ y)) (fun a b c h1 h2 => by
      simp only [decide_eq_true_eq, le_iff] at h1 h2 ⊢
      cases e : sLt c a with
      | false => rfl
      | true =>
        have := le_lt_trans h2 e
        rw [h1] at this; cases this) (fun a b => by
      simp only [Bool.or_eq_true, decide_eq_true_eq, le_iff]
      cases e : sLt b a with
      | false => exact .inl rfl
      | true =>
        right
        cases e2 : sLt a b with
        | false => rfl
        | true => have := sLt_trans e e2; rw [sLt_irrefl] at this; cases this) l
    exact this.imp fun h => by simpa [le_iff] using h
  have := compactUpTo_spec (l.mergeSort fun x y => decide (x ≤ y)).toArray (by simpa using hs) (l.mergeSort fun x y => decide (x ≤ y)).length (by simp)
  refine ⟨this.1, fun x => ?_⟩
  show x ∈ Lib.compactUpTo _ _ ↔ _
  rw [this.2, ← List.mem_mergeSort (le := fun x y : Str => decide (x ≤ y))]
  constructor
  · rintro ⟨j, hj, rfl⟩
    rw [getElem!_pos _ j (by simpa using hj)]
    simp
  · intro h
    obtain ⟨j, hj, rfl⟩ := List.getElem_of_mem h
    exact ⟨j, hj, by rw [getElem!_pos _ j (by simpa using hj)]; simp⟩
theorem bsF_cons (x s : Str) (d : List Str) : bsF (x :: d) s = if sLt x s = true then bsF d s + 1 else 0 := by
  simp only [bsF, List.takeWhile_cons]
  cases sLt x s <;> simp
theorem bsF_spec (s : Str) : ∀ (d : List Str), Rise d → (∀ x ∈ d.take (bsF d s), sLt x s = true) ∧ (∀ x ∈ d.drop (bsF d s), sLt x s = false)
  | [], _ => by simp
  | x :: d, hd => by
    rw [Rise, List.pairwise_cons] at hd
    have ih := bsF_spec s d hd.2
    rw [bsF_cons]
    cases e : sLt x s with
    | true =>
      simp only [if_true, List.take_succ_cons, List.drop_succ_cons, List.mem_cons]
      exact ⟨fun y hy => by rcases hy with rfl | hy; exact e; exact ih.1 y hy, ih.2⟩
    | false =>
      simp only [Bool.false_eq_true, if_false, List.take_zero, List.drop_zero, List.mem_cons]
      refine ⟨by simp, fun y hy => ?_⟩
      rcases hy with rfl | hy
      · exact e
      · cases e2 : sLt y s with
        | false => rfl
        | true => have := sLt_trans (hd.1 y hy) e2; rw [e] at this; cases this
theorem mem_take_drop {d : List Str} {n : Nat} {x : Str} : x ∈ d ↔ x ∈ d.take n ∨ x ∈ d.drop n := by
  conv => lhs; rw [← List.take_append_drop n d]
  exact List.mem_append
/-- A text is there just if it stands where it would. -/
theorem find_iff (d : List Str) (s : Str) (hd : Rise d) : (d.getD (bsF d s) [] == s && decide (bsF d s < d.length)) = decide (s ∈ d) := by
  obtain ⟨h1, h2⟩ := bsF_spec s d hd
  by_cases hn : bsF d s < d.length
  · have e : d.getD (bsF d s) [] = d[bsF d s] := by rw [List.getD_eq_getElem?_getD, List.getElem?_eq_getElem hn]; rfl
    rw [e]
    have hdr : d.drop (bsF d s) = d[bsF d s] :: d.drop (bsF d s + 1) := List.drop_eq_getElem_cons hn
    simp only [hn, decide_true, Bool.and_true]
    by_cases q : d[bsF d s] = s
    · have : s ∈ d := by have := List.getElem_mem hn; rw [q] at this; exact this
      simp [q, this]
    · have : s ∉ d := by
        intro hm
        rcases mem_take_drop.1 hm with z | z
        · have := h1 s z; rw [sLt_irrefl] at this; cases this
        · rw [hdr] at z
          rcases List.mem_cons.1 z with z | z
          · exact q z.symm
          · have h3 : Rise (d.drop (bsF d s)) := hd.sublist (List.drop_sublist _ _)
            rw [hdr, Rise, List.pairwise_cons] at h3
            have h4 := h3.1 s z
            have h5 : d[bsF d s] ∈ d.drop (bsF d s) := by
              have h6 : d[bsF d s] ∈ d[bsF d s] :: d.drop (bsF d s + 1) := List.mem_cons_self
              exact hdr.symm ▸ h6
            rw [h2 _ h5] at h4; cases h4
      simp [q, this]
  · have : s ∉ d := by
      intro hm
      rw [← List.take_append_drop (bsF d s) d, List.drop_eq_nil_of_le (by omega), List.append_nil] at hm
      have := h1 s hm; rw [sLt_irrefl] at this; cases this
    simp [hn, this]
theorem insF_spec (d : List Str) (s : Str) (hd : Rise d) : Rise (insF d s) ∧ ∀ x, x ∈ insF d s ↔ x = s ∨ x ∈ d := by
  have hf := find_iff d s hd
  obtain ⟨h1, h2⟩ := bsF_spec s d hd
  simp only [insF]
  by_cases hm : s ∈ d
  · rw [if_pos (by rw [hf]; simp [hm])]
    refine ⟨hd, fun x => ⟨.inr, fun h => ?_⟩⟩
    rcases h with rfl | h
    · exact hm
    · exact h
  · rw [if_neg (by rw [hf]; simp [hm])]
    have h3 : ∀ x ∈ d.drop (bsF d s), sLt s x = true := fun x hx => sLt_total (fun e => hm (e ▸ List.mem_of_mem_drop hx)) (h2 x hx)
    refine ⟨?_, fun x => ?_⟩
    · rw [Rise, List.pairwise_append, List.pairwise_append]
      refine ⟨hd.sublist (List.take_sublist _ _), ⟨by simp, hd.sublist (List.drop_sublist _ _), ?_⟩, ?_⟩
      · intro a ha b hb; simp only [List.mem_singleton] at ha; subst ha; exact h3 b hb
      · intro a ha b hb
        simp only [List.mem_append, List.mem_singleton] at hb
        rcases hb with rfl | hb
        · exact h1 a ha
        · exact sLt_trans (h1 a ha) (h3 b hb)
    · simp only [List.mem_append, List.mem_singleton]
      rw [mem_take_drop (d := d) (n := bsF d s)]
      constructor
      · rintro (q | q | q)
        · exact .inr (.inl q)
        · exact .inl q
        · exact .inr (.inr q)
      · rintro (q | q | q)
        · exact .inr (.inl q)
        · exact .inl q
        · exact .inr (.inr q)
theorem insL_rise (l : List Str) : Rise (insL l) ∧ ∀ x, x ∈ insL l ↔ x ∈ l := by
  have : ∀ (l d : List Str), Rise d → Rise (l.foldl insF d) ∧ ∀ x, x ∈ l.foldl insF d ↔ x ∈ d ∨ x ∈ l := by
    intro l
    induction l with
    | nil => intro d hd; simp [hd]
    | cons a l ih =>
      intro d hd
      have h := insF_spec d a hd
      have := ih _ h.1
      refine ⟨this.1, fun x => ?_⟩
      rw [List.foldl_cons, this.2, h.2, List.mem_cons]
      constructor
      · rintro ((q | q) | q)
        · exact .inr (.inl q)
        · exact .inl q
        · exact .inr (.inr q)
      · rintro (q | q | q)
        · exact .inl (.inr q)
        · exact .inl (.inl q)
        · exact .inr q
  have := this l [] List.Pairwise.nil
  exact ⟨this.1, fun x => by rw [insL, this.2]; simp⟩
theorem ins_new (l : List Str) : insL l = newL l :=
  rise_uniq _ _ (insL_rise l).1 (newL_rise l).1 fun x => by rw [(insL_rise l).2, (newL_rise l).2]
theorem new_uniq {l m : List Str} (hm : Rise m) (h : ∀ x, x ∈ m ↔ x ∈ l) : newL l = m :=
  rise_uniq _ _ (newL_rise l).1 hm fun x => by rw [(newL_rise l).2, h]
theorem newOk_eq (l : List Str) : newOk l = (l.all dfits && decide ((newL l).length ≤ 65536)) := by
  have : (newL l).all dfits = l.all dfits := by
    rw [Bool.eq_iff_iff, List.all_eq_true, List.all_eq_true]
    exact ⟨fun h x hx => h x (((newL_rise l).2 x).2 hx), fun h x hx => h x (((newL_rise l).2 x).1 hx)⟩
  simp only [newOk, this]; exact Bool.and_comm _ _
theorem newL_len (l : List Str) : (newL l).length ≤ l.length := by rw [← ins_new]; exact insL_len l
theorem newL_mem_len {l : List Str} {n : Nat} (h : ∀ s ∈ l, s.length ≤ n) : ∀ s ∈ newL l, s.length ≤ n := fun s hs => h s (((newL_rise l).2 s).1 hs)
end Go.Proofs.Vale
