/- YthgafblmefjkdaaDoorVSchL: a text of the proof of this claim, by its prover. -/
import Derived.Test.YthgafblmefjkdaaDoorVSchH
set_option linter.unusedVariables false
set_option linter.unusedSimpArgs false
set_option maxHeartbeats 4000000
set_option maxRecDepth 100000
namespace Go.Proofs.Vale
open Go.Proofs Go.Proofs.YthgafblmefjkdaaDoorT
attribute [local irreducible] acode aopsL aopsT dopsL dopsT pop popG aop ALoop ADraw ACall AWP AFin acondT ALoopT ADrawT ACallT doP doG doGd

/-- s is below t. -/
abbrev sLt (s t : Str) : Bool := Op.bytesLess s t
theorem sLt_trans {a b c : Str} (h : sLt a b = true) (k : sLt b c = true) : sLt a c = true := by
  induction a generalizing b c with
  | nil =>
    cases c with
    | nil => cases b <;> simp [sLt, Op.bytesLess] at k
    | cons z c => rfl
  | cons x a ih =>
    cases b with
    | nil => simp [sLt, Op.bytesLess] at h
    | cons y b =>
      cases c with
      | nil => simp [sLt, Op.bytesLess] at k
      | cons z c =>
        simp only [sLt, Op.bytesLess, Bool.or_eq_true, Bool.and_eq_true, decide_eq_true_eq, beq_iff_eq] at h k ⊢
        rcases h with h | ⟨rfl, h⟩ <;> rcases k with k | ⟨rfl, k⟩
        · exact .inl (UInt8.lt_trans h k)
        · exact .inl h
        · exact .inl k
        · exact .inr ⟨rfl, ih h k⟩
def newL (l : List Str) : List Str := Lib.compact (l.mergeSort fun x y => decide (x ≤ y))
/-! ### The plain law of rising texts -/
theorem lt_iff (x y : Str) : x < y ↔ sLt x y = true := by
  induction x generalizing y with
  | nil => cases y <;> simp [sLt, Op.bytesLess]
  | cons a x ih =>
    cases y with
    | nil => simp [sLt, Op.bytesLess]
    | cons b y =>
      rw [List.cons_lt_cons_iff, ih]
      simp [sLt, Op.bytesLess]
theorem le_iff (x y : Str) : x ≤ y ↔ sLt y x = false := by
  rw [← List.not_lt, lt_iff]; simp
theorem sLt_irrefl (x : Str) : sLt x x = false := bytesLess_irrefl x
theorem sLt_total {x y : Str} (h : x ≠ y) (k : sLt x y = false) : sLt y x = true := by
  have := bytesLess_total x y h
  show Op.bytesLess y x = true
  rw [show Op.bytesLess x y = false from k] at this
  simpa using this.symm
theorem le_lt_trans {x y z : Str} (h : sLt y x = false) (k : sLt y z = true) : sLt x z = true := by
  by_cases e : x = y
  · subst e; exact k
  · exact sLt_trans (sLt_total (fun q => e q.symm) h) k
/-- Rising: each below the next ones. -/
abbrev Rise (l : List Str) : Prop := l.Pairwise fun a b => sLt a b = true
theorem rise_uniq : ∀ (a b : List Str), Rise a → Rise b → (∀ x, x ∈ a ↔ x ∈ b) → a = b
  | [], [], _, _, _ => rfl
  | [], y :: b, _, _, h => absurd ((h y).2 (by simp)) (by simp)
  | x :: a, [], _, _, h => absurd ((h x).1 (by simp)) (by simp)
  | x :: a, y :: b, ha, hb, h => by
    rw [Rise, List.pairwise_cons] at ha hb
    have hxy : x = y := by
      by_cases e : x = y
      · exact e
      · exfalso
        have h1 : x ∈ b := by
          have := (h x).1 (by simp)
          rcases List.mem_cons.1 this with q | q
          · exact absurd q e
          · exact q
        have h2 : y ∈ a := by
          have := (h y).2 (by simp)
          rcases List.mem_cons.1 this with q | q
          · exact absurd q.symm e
          · exact q
        have h3 := hb.1 x h1
        have h4 := ha.1 y h2
        have := sLt_trans h3 h4
        rw [sLt_irrefl] at this; cases this
    subst hxy
    have : a = b := rise_uniq a b ha.2 hb.2 fun z => by
      have hz := h z
      simp only [List.mem_cons] at hz
      constructor
      · intro q
        rcases hz.1 (.inr q) with e | e
        · subst e; have := ha.1 z q; rw [sLt_irrefl] at this; cases this
        · exact e
      · intro q
        rcases hz.2 (.inr q) with e | e
        · subst e; have := hb.1 z q; rw [sLt_irrefl] at this; cases this
        · exact e
    rw [this]
theorem compactUpTo_spec (d : Array Str) (hd : d.toList.Pairwise fun a b => sLt b a = false) : ∀ m, m ≤ d.size → Rise (Lib.compactUpTo d m) ∧ ∀ x, x ∈ Lib.compactUpTo d m ↔ ∃ j, j < m ∧ d[j]! = x := by
  intro m
  induction m with
  | zero => intro _; simp [Lib.compactUpTo, Rise]
  | succ m ih =>
    intro hm
    obtain ⟨h1, h2⟩ := ih (by omega)
    have hmd : m < d.size := by omega
    have hle : ∀ i j, i < j → j < d.size → sLt (d[j]!) (d[i]!) = false := by
      intro i j hij hj
      have := List.pairwise_iff_getElem.1 hd i j (by simpa using Nat.lt_trans hij hj) (by simpa using hj) hij
      rw [getElem!_pos d j hj, getElem!_pos d i (by omega)]
      simpa using this
    rw [Lib.compactUpTo_succ]
    by_cases hk : Lib.keeps d m = true
    · rw [if_pos hk]
      refine ⟨?_, ?_⟩
      · rw [Rise, List.pairwise_append]
        refine ⟨h1, by simp, ?_⟩
        intro a ha b hb
        simp only [List.mem_singleton] at hb; subst hb
        obtain ⟨j, hj, rfl⟩ := (h2 a).1 ha
        have hne : m = 0 ∨ d[m]! ≠ d[m - 1]! := by
          exact of_decide_eq_true hk
        rcases hne with q | q
        · omega
        · have h3 := sLt_total (fun e => q e) (hle (m - 1) m (by omega) hmd)
          by_cases e : j = m - 1
          · subst e; exact h3
          · exact le_lt_trans (hle j (m - 1) (by omega) (by omega)) h3
      · intro x
        rw [List.mem_append, h2, List.mem_singleton]
        constructor
        · rintro (⟨j, hj, e⟩ | e)
          · exact ⟨j, by omega, e⟩
          · exact ⟨m, by omega, e.symm⟩
        · rintro ⟨j, hj, e⟩
          by_cases q : j = m
          · subst q; exact .inr e.symm
          · exact .inl ⟨j, by omega, e⟩
    · rw [if_neg hk, List.append_nil]
      refine ⟨h1, fun x => ?_⟩
      rw [h2]
      have heq : 0 < m ∧ d[m]! = d[m - 1]! := by
        have := of_decide_eq_false (Bool.eq_false_iff.2 hk)
        refine ⟨Nat.pos_of_ne_zero fun e => this (.inl e), ?_⟩
        by_cases q : d[m]! = d[m - 1]!
        · exact q
        · exact absurd (.inr q) this
      constructor
      · rintro ⟨j, hj, e⟩; exact ⟨j, by omega, e⟩
      · rintro ⟨j, hj, e⟩
        by_cases q : j = m
        · subst q; exact ⟨j - 1, by omega, by rw [← heq.2]; exact e⟩
        · exact ⟨j, by omega, e⟩
theorem newL_rise (l : List Str) : Rise (newL l) ∧ ∀ x, x ∈ newL l ↔ x ∈ l := by
  have hs : (l.mergeSort fun x y => decide (x ≤ y)).Pairwise fun a b => sLt b a = false := by
    have := List.pairwise_mergeSort (le := fun x y : Str => decide (x ≤ y)) (fun a b c h1 h2 => by
      simp only [decide_eq_true_eq, le_iff] at h1 h2 ⊢
      cases e : sLt c a with
      | false => rfl
      | true =>
        have := le_lt_trans h2 e
        rw [h1] at this; cases this) (fun a b => by
      simp only [Bool.or_eq_true, decide_eq_true_eq, le_iff]
      cases e : sLt b a with
      | false => exact .inl rfl
      | true =>
        right
        cases e2 : sLt a b with
        | false => rfl
        | true => have := sLt_trans e e2; rw [sLt_irrefl] at this; cases this) l
    exact this.imp fun h => by simpa [le_iff] using h
  have := compactUpTo_spec (l.mergeSort fun x y => decide (x ≤ y)).toArray (by simpa using hs) (l.mergeSort fun x y => decide (x ≤ y)).length (by simp)
  refine ⟨this.1, fun x => ?_⟩
  show x ∈ Lib.compactUpTo _ _ ↔ _
  rw [this.2, ← List.mem_mergeSort (le := fun x y : Str => decide (x ≤ y))]
  constructor
  · rintro ⟨j, hj, rfl⟩
    rw [getElem!_pos _ j (by simpa using hj)]
    simp
  · intro h
    obtain ⟨j, hj, rfl⟩ := List.getElem_of_mem h
    exact ⟨j, hj, by rw [getElem!_pos _ j (by simpa using hj)]; simp⟩

theorem sub_len {a b : List Str} (ha : a.Nodup) (h : ∀ x ∈ a, x ∈ b) : a.length ≤ b.length := by
  induction a generalizing b with
  | nil => simp
  | cons x a ih =>
    rw [List.nodup_cons] at ha
    have hx := h x (by simp)
    have := ih (b := b.erase x) ha.2 (fun y hy => (List.mem_erase_of_ne (fun e : y = x => ha.1 (by rw [← e]; exact hy))).2 (h y (by simp [hy])))
    rw [List.length_erase_of_mem hx] at this
    have hp := List.length_pos_of_mem hx
    simp only [List.length_cons]; omega
theorem dup_ex : ∀ (b : List Str), ¬ b.Nodup → ∃ x, x ∈ b ∧ x ∈ b.erase x
  | [], h => absurd List.nodup_nil h
  | y :: b, h => by
    by_cases hy : y ∈ b
    · exact ⟨y, by simp, by rw [List.erase_cons_head]; exact hy⟩
    · have hb : ¬ b.Nodup := fun q => h (List.nodup_cons.2 ⟨hy, q⟩)
      obtain ⟨x, h1, h2⟩ := dup_ex b hb
      refine ⟨x, by simp [h1], ?_⟩
      have hne : y ≠ x := fun e => hy (e ▸ h1)
      rw [List.erase_cons_tail (by simpa using hne)]
      simp [h2]
theorem apart_iff (l : List Str) : apartS l = true ↔ l.Nodup := by
  have hs : (srt l).length = l.length := by simp [srt]
  obtain ⟨h1, h2⟩ := newL_rise l
  have hle : (newL l).length ≤ l.length := by have := Lib.compact_length_le (srt l); rw [hs] at this; exact this
  have hn : (newL l).Nodup := h1.imp fun h e => by subst e; rw [sLt_irrefl] at h; cases h
  have e : apartS l = true ↔ (newL l).length = l.length := by
    show ((((newL l).length : Int) == ((srt l).length : Int)) = true) ↔ _
    rw [hs, beq_iff_eq]; omega
  rw [e]
  constructor
  · intro q
    by_cases hd : l.Nodup
    · exact hd
    · exfalso
      obtain ⟨x, hx, hx2⟩ := dup_ex l hd
      have := sub_len hn (b := l.erase x) (fun y hy => by
        have hy2 := (h2 y).1 hy
        by_cases e : y = x
        · subst e; exact hx2
        · exact (List.mem_erase_of_ne e).2 hy2)
      rw [List.length_erase_of_mem hx] at this
      have hp := List.length_pos_of_mem hx
      omega
  · intro q
    have := sub_len q (b := newL l) (fun y hy => (h2 y).2 hy)
    omega
theorem srt_any (l : List Str) (p : Str → Bool) : (srt l).any p = l.any p := by
  rw [Bool.eq_iff_iff, List.any_eq_true, List.any_eq_true]
  simp only [srt, List.mem_mergeSort]
theorem right_eq (d m : List Str) : rightS d m = (decide (d ++ m).Nodup && sizesS d m && (d ++ m).all nameS) := by
  rw [rightS, srt_any]
  have e : apartS (d ++ m) = decide (d ++ m).Nodup := by rw [Bool.eq_iff_iff, apart_iff, decide_eq_true_iff]
  rw [e, List.any_eq_not_all_not]; simp
def cityL : List Str := [[99, 105, 116, 121], [107, 105, 110, 100]]
def costL : List Str := [[99, 111, 115, 116]]
theorem right_alive : rightS cityL costL = true := by rw [right_eq]; decide
theorem n1 : nameS [97, 95, 49] = true := by decide
theorem n2 : nameS [115, 117, 109] = false := by decide
theorem v1 : valueS [97, 34] = false := by decide
theorem c1 : checkS cityL costL 3 [[], [120, 32, 121]] [-4] = 0 := by decide
theorem v3 : findV cityL [107, 105, 110, 100] = .tup [.int .i64 1, .bool true] := by rw [findV, if_pos (by decide)]; rfl
end Go.Proofs.Vale
