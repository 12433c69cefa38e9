/- YthgafblmefjkdaaDoorVU: a text of the proof of this claim, by its prover. -/
import Derived.Test.YthgafblmefjkdaaDoorVT
set_option linter.unusedVariables false
set_option linter.unusedSimpArgs false
namespace Go.Proofs.Vale

/-! ### Regions whose order is drawn: operations that turn no memory of the call's own -/

/-- One operation of such a region, in the text's order: it comes to x. -/
def QStep (P : Program) (ds : List (Option Nat)) (o : Oper) (env : List AV) (h : List AObj) (x : AV) : Prop :=
  match o.guard with
  | none =>
    (match pop P o.op (evA env) h with
    | some (p, y) => p ∧ x = y
    | none => aop P o.op (evA env) h fun y h' => y = x ∧ h' = h)
  | some (j, want) =>
    (match gdA (gv env ds j) want with
    | none => False
    | some gd =>
      match popG P o.op (evA env) h with
      | some (p, y) => (gd = true → p) ∧ x = .opt gd y
      | none => (gd = true → aop P o.op (fun y => (evA env y).stripT) h fun y h' => y = x ∧ h' = h) ∧ (gd = false → x = .tup []))

def dopsL (P : Program) : List (Option Nat) → List Oper → List AV → List AObj → (List AV → Prop) → Prop
  | _, [], env, h, K => K env
  | ds, o :: os, env, h, K => ∃ x, QStep P ds o env h x ∧ dopsL P (o.dst :: ds) os (putA env o.dst x) h K

def dstAt (ops : List Oper) (i : Nat) : Option Nat := (ops[i]?).bind (·.dst)

/-- The environment when those of the first k that S names have been run. -/
def mix (ops : List Oper) (xs : Nat → AV) (S : Nat → Bool) (env : List AV) : Nat → List AV
  | 0 => env
  | k + 1 => if S k then putA (mix ops xs S env k) (dstAt ops k) (xs k) else mix ops xs S env k

theorem putA_length (env : List AV) (d : Option Nat) (x : AV) : (putA env d x).length = env.length := by cases d <;> simp [putA]
theorem mix_length (ops : List Oper) (xs : Nat → AV) (S : Nat → Bool) (env : List AV) : ∀ k, (mix ops xs S env k).length = env.length
  | 0 => rfl
  | k + 1 => by simp only [mix]; split <;> simp [putA_length, mix_length ops xs S env k]

theorem putA_getD_ne {env : List AV} {d : Option Nat} {x : AV} {s : Nat} (h : d ≠ some s) : (putA env d x).getD s .any = env.getD s .any := by
  cases d with
  | none => rfl
  | some d => simp only [putA, List.getD_eq_getElem?_getD]; rw [List.getElem?_set_ne (fun e => h (by rw [e]))]
theorem putA_getD_eq {env : List AV} {x : AV} {s : Nat} (h : s < env.length) : (putA env (some s) x).getD s .any = x := by
  simp only [putA, List.getD_eq_getElem?_getD]; rw [List.getElem?_set_self h]; rfl

theorem mix_base {ops : List Oper} {xs : Nat → AV} {S : Nat → Bool} {env : List AV} {s : Nat} : ∀ k, (∀ i, i < k → S i = true → dstAt ops i ≠ some s) → (mix ops xs S env k).getD s .any = env.getD s .any
  | 0, _ => rfl
  | k + 1, h => by
    simp only [mix]
    have ih := mix_base (ops := ops) (xs := xs) (S := S) (env := env) (s := s) k fun i hi => h i (by omega)
    split
    · rename_i hk; rw [putA_getD_ne (h k (by omega) hk), ih]
    · exact ih
theorem mix_hit {ops : List Oper} {xs : Nat → AV} {S : Nat → Bool} {env : List AV} {s i : Nat} (hd : dstAt ops i = some s) (hS : S i = true) (hs : s < env.length) : ∀ k, i < k → (∀ j, j < k → j ≠ i → dstAt ops j ≠ some s) → (mix ops xs S env k).getD s .any = xs i
  | 0, h, _ => by omega
  | k + 1, h, hu => by
    simp only [mix]
    by_cases e : k = i
    · subst e
      rw [if_pos hS, hd, putA_getD_eq (by rw [mix_length]; exact hs)]
    · have ih := mix_hit (xs := xs) hd hS hs k (by omega) fun j hj => hu j (by omega)
      split
      · rw [putA_getD_ne (hu k (by omega) e), ih]
      · exact ih
theorem mix_congr {ops : List Oper} {xs ys : Nat → AV} {S T : Nat → Bool} {env : List AV} : ∀ k, (∀ i, i < k → S i = T i ∧ xs i = ys i) → mix ops xs S env k = mix ops ys T env k
  | 0, _ => rfl
  | k + 1, h => by
    simp only [mix]
    rw [mix_congr (T := T) (ys := ys) k fun i hi => h i (by omega), (h k (by omega)).1, (h k (by omega)).2]

/-- What the text's order tells, as a table. -/
theorem dopsL_spec {P : Program} {ops : List Oper} {env : List AV} {h : List AObj} {K : List AV → Prop} : ∀ (rest done : List Oper) (xs : Nat → AV), ops = done ++ rest →
    (∀ i o, i < done.length → ops[i]? = some o → QStep P ((ops.take i).map (·.dst)).reverse o (mix ops xs (fun _ => true) env i) h (xs i)) →
    dopsL P ((done.map (·.dst)).reverse) rest (mix ops xs (fun _ => true) env done.length) h K →
    ∃ xs : Nat → AV, (∀ i o, ops[i]? = some o → QStep P ((ops.take i).map (·.dst)).reverse o (mix ops xs (fun _ => true) env i) h (xs i)) ∧ K (mix ops xs (fun _ => true) env ops.length)
  | [], done, xs, he, hq, hd => by
    simp only [List.append_nil] at he
    subst he
    simp only [dopsL] at hd
    exact ⟨xs, fun i o ho => hq i o (List.getElem?_eq_some_iff.1 ho).1 ho, hd⟩
  | o :: rest, done, xs, he, hq, hd => by
    simp only [dopsL] at hd
    obtain ⟨x, hx, hd⟩ := hd
    have ho : ops[done.length]? = some o := by rw [he, List.getElem?_append_right (by omega)]; simp
    have htk : ops.take done.length = done := by rw [he]; simp
    let ys : Nat → AV := fun i => if i = done.length then x else xs i
    have hys : ∀ i, i < done.length → ys i = xs i := fun i hi => by simp only [ys]; rw [if_neg (by omega)]
    have hmix : ∀ k, k ≤ done.length → mix ops ys (fun _ => true) env k = mix ops xs (fun _ => true) env k := fun k hk => mix_congr k fun i hi => ⟨rfl, hys i (by omega)⟩
    refine dopsL_spec rest (done ++ [o]) ys (by simp [he]) ?_ ?_
    · intro i o' hi ho'
      simp only [List.length_append, List.length_cons, List.length_nil] at hi
      by_cases e : i = done.length
      · subst e
        rw [ho] at ho'; injection ho' with ho'; subst ho'
        rw [hmix _ (Nat.le_refl _), htk]
        have : ys done.length = x := by simp only [ys, if_true]
        rw [this]; exact hx
      · rw [hmix i (by omega), hys i (by omega)]
        exact hq i o' (by omega) ho'
    · have h1 : mix ops ys (fun _ => true) env (done ++ [o]).length = putA (mix ops xs (fun _ => true) env done.length) o.dst x := by
        simp only [List.length_append, List.length_cons, List.length_nil, Nat.zero_add, mix, if_true]
        rw [hmix _ (Nat.le_refl _)]
        simp only [dstAt, ho, ys, if_true]; rfl
      rw [h1]
      simpa using hd
/-- What o looks at reads as in env. -/
def Sees (β : Beta) (fr : Nat → Prop) (H : Array Obj) (ops : Array Oper) (o : Oper) (env : List AV) (tmps : Array Value) : Prop :=
  ∀ s, s ∈ o.looksAt ops → s < env.length → ∃ u, tmps[s]? = some u ∧ Rep β fr H (env.getD s .any) u

theorem Sees.eval {β : Beta} {fr : Nat → Prop} {H : Array Obj} {ops : Array Oper} {o : Oper} {env : List AV} {tmps : Array Value} (hs : Sees β fr H ops o env tmps) (y : Operand) (hy : y ∈ o.op.operands) : Rep β fr H (evA env y) ((⟨tmps, []⟩ : Act).eval y) := by
  have R0 : EnvRep β fr H [] #[] := ⟨rfl, fun j hj => by simp at hj⟩
  cases y with
  | tmp t =>
    simp only [evA, Act.eval]
    by_cases ht : t < env.length
    · obtain ⟨u, hu, hr⟩ := hs t (List.mem_append_left _ (List.mem_filterMap.2 ⟨.tmp t, by simpa using hy, rfl⟩)) ht
      rw [Array.getD_eq_getD_getElem?, hu]; exact hr
    · rw [List.getD_eq_getElem?_getD, List.getElem?_eq_none (Nat.le_of_not_lt ht)]
      simp only [Option.getD_none, Rep]
  | const v => exact R0.eval (ds := []) (.const v)
  | global g => exact R0.eval (ds := []) (.global g)
  | func f => exact R0.eval (ds := []) (.func f)

theorem guard_sees {β : Beta} {fr : Nat → Prop} {H : Array Obj} {ops : Array Oper} {o : Oper} {env : List AV} {tmps : Array Value} {i j : Nat} {want gd : Bool} (hs : Sees β fr H ops o env tmps)
    (hg : gdA (gv env ((ops.toList.take i).map (·.dst)).reverse j) want = some gd) (ho : o.guard = some (j, want)) : Region.wanted o (yielded ops tmps) = gd := by
  simp only [Region.wanted, ho]
  unfold gv at hg
  rw [List.reverse_reverse] at hg
  have hget : ∀ d, ((ops.toList.take i).map (·.dst))[j]? = some (some d) → (ops[j]?).bind (·.dst) = some d := by
    intro d hd
    rw [List.getElem?_map] at hd
    cases hq : (ops.toList.take i)[j]? with
    | none => rw [hq] at hd; cases hd
    | some q =>
      rw [hq] at hd; injection hd with hd
      have hq2 := hq
      rw [List.getElem?_take] at hq2
      split at hq2
      · have : ops[j]? = some q := by rw [← Array.getElem?_toList]; exact hq2
        rw [this]; exact hd
      · cases hq2
  split at hg
  · rename_i d hd
    have hy : yielded ops tmps j = match tmps[d]? with | some (.bool b) => some b | _ => none := by
      unfold yielded; rw [hget d hd]; rfl
    rw [hy]
    by_cases hl : d < env.length
    · obtain ⟨u, hu, hr⟩ := hs d (List.mem_append_right _ (by rw [ho]; simp only; rw [hget d hd]; simp)) hl
      unfold gdA at hg
      split at hg
      · rename_i g e
        injection hg with hg; subst hg
        rw [e] at hr; simp only [Rep] at hr; subst hr
        rw [hu]; simp
      · rename_i b g e
        injection hg with hg; subst hg
        rw [e] at hr; simp only [Rep] at hr
        cases b with
        | true => have := hr.1 rfl; subst this; rw [hu]; simp
        | false => have := hr.2 rfl; subst this; rw [hu]; simp [undef]
      · rename_i x _ e
        injection hg with hg; subst hg
        rw [e] at hr; simp only [Rep] at hr
        have := hr.2 (by trivial); subst this; rw [hu]; simp [undef]
      · rename_i vs e
        injection hg with hg; subst hg
        rw [e] at hr; simp only [Rep] at hr
        obtain ⟨us, rfl, _⟩ := hr
        rw [hu]; simp
      · cases hg
    · rw [List.getD_eq_getElem?_getD, List.getElem?_eq_none (Nat.le_of_not_lt hl)] at hg
      simp [gdA] at hg
  · simp [gdA] at hg

theorem qstep_run {P : Program} {ops : Array Oper} {i : Nat} {o : Oper} {env : List AV} {h : List AObj} {x : AV} {tmps : Array Value} {w : World} {β : Beta} {fr : Nat → Prop} {Q : Exit → Act → World → Prop} {Kc : Act → World → Prop}
    (ho : ops[i]? = some o) (hq : QStep P ((ops.toList.take i).map (·.dst)).reverse o env h x) (L : Lay β fr w.heap h) (hs : Sees β fr w.heap ops o env tmps)
    (hk : ∀ v w' β' fr', Lay β' fr' w'.heap h → Rep β' fr' w'.heap x v → Step1 β fr h w β' fr' h w' → Kc ((⟨tmps, []⟩ : Act).put o.dst v) w') : wpOp P ops Q i Kc ⟨tmps, []⟩ w := by
  unfold wpOp
  rw [ho]
  simp only
  have hev := fun y hy => hs.eval y hy
  unfold QStep at hq
  cases hg : o.guard with
  | none =>
    rw [hg] at hq
    have hw : Region.wanted o (yielded ops tmps) = true := by simp [Region.wanted, hg]
    rw [if_pos hw]
    left
    simp only at hq
    cases hpp : pop P o.op (evA env) h with
    | none =>
      rw [hpp] at hq
      exact aop_ok hq ⟨tmps, []⟩ w β fr L hev _ _ fun v y w' h' β' fr' k L' R' S' => by
        obtain ⟨rfl, rfl⟩ := k
        exact hk v w' β' fr' L' R' S'
    | some q =>
      obtain ⟨p, y⟩ := q
      rw [hpp] at hq
      obtain ⟨hp, rfl⟩ := hq
      exact (OpK.of_pop (K := fun y h' => y = x ∧ h' = h) (pop_ok hpp) hp ⟨rfl, rfl⟩) ⟨tmps, []⟩ w β fr L hev _ _ fun v y w' h' β' fr' k L' R' S' => by
        obtain ⟨rfl, rfl⟩ := k
        exact hk v w' β' fr' L' R' S'
  | some jw =>
    obtain ⟨j, want⟩ := jw
    rw [hg] at hq
    simp only at hq
    cases hgd : gdA (gv env ((ops.toList.take i).map (·.dst)).reverse j) want with
    | none => rw [hgd] at hq; exact hq.elim
    | some gd =>
      rw [hgd] at hq
      simp only at hq
      have hw : Region.wanted o (yielded ops tmps) = gd := guard_sees hs hgd hg
      rw [hw]
      cases hpp : popG P o.op (evA env) h with
      | none =>
        rw [hpp] at hq
        simp only at hq
        cases gd with
        | true =>
          rw [if_pos rfl]
          left
          exact aop_ok (hq.1 rfl) ⟨tmps, []⟩ w β fr L (fun y hy => (hev y hy).stripT) _ _ fun v y w' h' β' fr' k L' R' S' => by
            obtain ⟨rfl, rfl⟩ := k
            exact hk v w' β' fr' L' R' S'
        | false =>
          rw [if_neg (by simp)]
          rw [hq.2 rfl] at hk
          exact hk undef w β fr L (Rep_undef _ _ _) (Step1.refl _ _ _ _)
      | some q =>
        obtain ⟨p, y⟩ := q
        rw [hpp] at hq
        simp only at hq
        obtain ⟨hp, rfl⟩ := hq
        cases gd with
        | true =>
          rw [if_pos rfl]
          left
          exact (OpK.of_pop (K := fun z h' => z = y ∧ h' = h) (popG_ok hpp) (hp rfl) ⟨rfl, rfl⟩) ⟨tmps, []⟩ w β fr L hev _ _ fun v z w' h' β' fr' k L' R' S' => by
            obtain ⟨rfl, rfl⟩ := k
            exact hk v w' β' fr' L' (by simp only [Rep]; exact ⟨fun _ => R', fun e => by cases e⟩) S'
        | false =>
          rw [if_neg (by simp)]
          exact hk undef w β fr L (by simp [Rep]) (Step1.refl _ _ _ _)
/-! ### Any order -/

def need (o : Oper) : List Nat := (o.after.toList.filter (Region.binds .any)).map (·.on)
def ancL : List Oper → List (List Nat) → List (List Nat)
  | [], acc => acc
  | o :: os, acc => ancL os (acc ++ [need o ++ (need o).flatMap fun j => acc.getD j []])

def Down (ops : List Oper) (S : Nat → Bool) : Prop := ∀ i o, ops[i]? = some o → S i = true → ∀ k ∈ need o, S k = true
def GoodAnc (ops : List Oper) (i : Nat) (l : List Nat) : Prop := ∀ o, ops[i]? = some o → ∀ j ∈ l, ∀ S, Down ops S → (∀ k ∈ need o, S k = true) → S j = true

theorem ancL_spec {ops : List Oper} : ∀ (os done : List Oper) (acc : List (List Nat)), ops = done ++ os → acc.length = done.length → (∀ i, GoodAnc ops i (acc.getD i [])) → ∀ i, GoodAnc ops i ((ancL os acc).getD i [])
  | [], done, acc, he, hl, ha => ha
  | o :: os, done, acc, he, hl, ha => by
    refine ancL_spec os (done ++ [o]) _ (by simp [he]) (by simp [hl]) fun i => ?_
    by_cases hi : i < acc.length
    · rw [List.getD_eq_getElem?_getD, List.getElem?_append_left hi, ← List.getD_eq_getElem?_getD]; exact ha i
    · by_cases e : i = acc.length
      · subst e
        intro o' ho' j hj S hD hS
        have : ops[acc.length]? = some o := by rw [he, hl, List.getElem?_append_right (by omega)]; simp
        rw [this] at ho'; injection ho' with ho'; subst ho'
        rw [List.getD_eq_getElem?_getD, List.getElem?_append_right (by omega)] at hj
        simp only [Nat.sub_self, List.getElem?_cons_zero, Option.getD_some, List.mem_append, List.mem_flatMap] at hj
        rcases hj with hj | ⟨k, hk, hj⟩
        · exact hS j hj
        · have hk2 : k < acc.length := by
            by_cases q : k < acc.length
            · exact q
            · rw [List.getD_eq_getElem?_getD, List.getElem?_eq_none (by omega)] at hj; simp at hj
          have hko : ∃ ok, ops[k]? = some ok := by
            have : k < ops.length := by rw [he]; simp; omega
            exact ⟨_, List.getElem?_eq_getElem this⟩
          obtain ⟨ok, hok⟩ := hko
          exact ha k ok hok j hj S hD (hD k ok hok (hS k hk))
      · rw [List.getD_eq_getElem?_getD, List.getElem?_eq_none (by simp; omega)]
        intro o' _ j hj
        simp at hj

def okPair (ops : Array Oper) (A : List (List Nat)) (i j : Nat) (o q : Oper) : Bool :=
  match q.dst with
  | none => true
  | some d => (o.dst != some d) && (!(o.looksAt ops).contains d || (decide (j < i) && (A.getD i []).contains j) || (decide (i < j) && (A.getD j []).contains i))
def okDraw (ops : Array Oper) : Bool :=
  (List.range ops.size).all fun i => match ops[i]? with
    | none => false
    | some o => ((need o).all fun k => decide (k < i)) && (List.range ops.size).all fun j => j == i || match ops[j]? with
        | none => false
        | some q => okPair ops (ancL ops.toList []) i j o q

theorem okDraw_back {ops : Array Oper} (h : okDraw ops = true) {i : Nat} {o : Oper} (ho : ops[i]? = some o) : ∀ k ∈ need o, k < i := by
  have hi := (Array.getElem?_eq_some_iff.1 ho).1
  have h1 := List.all_eq_true.1 h i (by simpa using hi)
  rw [ho] at h1
  simp only [Bool.and_eq_true, List.all_eq_true, decide_eq_true_eq] at h1
  exact h1.1
theorem okDraw_pair {ops : Array Oper} (h : okDraw ops = true) {i j : Nat} {o q : Oper} (ho : ops[i]? = some o) (hq : ops[j]? = some q) (hne : j ≠ i) : okPair ops (ancL ops.toList []) i j o q = true := by
  have hi := (Array.getElem?_eq_some_iff.1 ho).1
  have hj := (Array.getElem?_eq_some_iff.1 hq).1
  have h1 := List.all_eq_true.1 h i (by simpa using hi)
  rw [ho] at h1
  simp only [Bool.and_eq_true, List.all_eq_true] at h1
  have h2 := h1.2 j (by simpa using hj)
  rw [hq] at h2
  simpa [hne] using h2
theorem dst_uniq {ops : Array Oper} (h : okDraw ops = true) {j k s : Nat} (hj : dstAt ops.toList j = some s) (hk : k ≠ j) : dstAt ops.toList k ≠ some s := by
  intro hks
  simp only [dstAt, Array.getElem?_toList] at hj hks
  cases hq : ops[j]? with
  | none => rw [hq] at hj; cases hj
  | some q =>
    cases ho : ops[k]? with
    | none => rw [ho] at hks; cases hks
    | some o =>
      rw [hq] at hj; rw [ho] at hks
      have hj' : q.dst = some s := hj
      have hk' : o.dst = some s := hks
      have := okDraw_pair h ho hq (fun e => hk e.symm)
      unfold okPair at this
      rw [hj'] at this
      simp [hk'] at this

theorem anc_good (ops : List Oper) (i : Nat) : GoodAnc ops i ((ancL ops []).getD i []) :=
  ancL_spec ops [] [] rfl rfl (fun i o _ j hj => by simp at hj) i

theorem sees_mix {β : Beta} {fr : Nat → Prop} {H : Array Obj} {ops : Array Oper} {xs : Nat → AV} {S : Nat → Bool} {env : List AV} {tmps : Array Value} {i : Nat} {o : Oper} (h : okDraw ops = true) (ho : ops[i]? = some o)
    (hD : Down ops.toList S) (hS : ∀ k ∈ need o, S k = true) (hi : S i = false) (R : EnvRep β fr H (mix ops.toList xs S env ops.size) tmps) : Sees β fr H ops o (mix ops.toList xs (fun _ => true) env i) tmps := by
  intro s hs hl
  rw [mix_length] at hl
  have hin := (Array.getElem?_eq_some_iff.1 ho).1
  have hoL : ops.toList[i]? = some o := by rw [Array.getElem?_toList]; exact ho
  obtain ⟨u, hu, hr⟩ := R.2 s (by rw [mix_length]; exact hl)
  refine ⟨u, hu, ?_⟩
  have key : (mix ops.toList xs (fun _ => true) env i).getD s .any = (mix ops.toList xs S env ops.size).getD s .any := by
    by_cases hx : ∃ j, j < ops.size ∧ dstAt ops.toList j = some s
    · obtain ⟨j, hj, hjs⟩ := hx
      have uniq : ∀ k, k ≠ j → dstAt ops.toList k ≠ some s := fun k hk => dst_uniq h hjs hk
      by_cases e : j = i
      · subst e
        rw [mix_base (S := fun _ => true) _ fun k hk _ => uniq k (by omega), mix_base (S := S) _ fun k hk hSk => uniq k (fun q => by rw [q, hi] at hSk; cases hSk)]
      · obtain ⟨q, hq⟩ : ∃ q, ops[j]? = some q := ⟨_, Array.getElem?_eq_getElem hj⟩
        have hqs : q.dst = some s := by simpa [dstAt, hq] using hjs
        have hp := okDraw_pair h ho hq e
        unfold okPair at hp
        rw [hqs] at hp
        have hc : (o.looksAt ops).contains s = true := by simpa using hs
        simp only [hc, Bool.not_true, Bool.false_or, Bool.and_eq_true, Bool.or_eq_true, decide_eq_true_eq] at hp
        rcases hp.2 with ⟨h1, h2⟩ | ⟨h1, h2⟩
        · have hSj : S j = true := anc_good ops.toList i o hoL j (by simpa using h2) S hD hS
          rw [mix_hit (S := fun _ => true) hjs rfl hl i h1 fun k _ hk => uniq k hk, mix_hit (S := S) hjs hSj hl ops.size hj fun k _ hk => uniq k hk]
        · have hSj : ¬ S j = true := fun q1 => by
            have hqL : ops.toList[j]? = some q := by rw [Array.getElem?_toList]; exact hq
            have := anc_good ops.toList j q hqL i (by simpa using h2) S hD (hD j q hqL q1)
            rw [hi] at this; cases this
          rw [mix_base (S := fun _ => true) _ fun k hk _ => uniq k (by omega), mix_base (S := S) _ fun k hk hSk => uniq k (fun q1 => hSj (by rw [← q1]; exact hSk))]
    · have none' : ∀ k, k < ops.size → dstAt ops.toList k ≠ some s := fun k hk e => hx ⟨k, hk, e⟩
      rw [mix_base (S := fun _ => true) _ fun k hk _ => none' k (by omega), mix_base (S := S) _ fun k hk _ => none' k hk]
  rw [key, getD_get (by rw [mix_length]; exact hl)]
  exact hr

theorem mix_step {ops : Array Oper} {xs : Nat → AV} {S T : Nat → Bool} {env : List AV} {i : Nat} (h : okDraw ops = true) (hin : i < ops.size) (hi : S i = false) (hT : ∀ j, j < ops.size → T j = (S j || j == i)) :
    mix ops.toList xs T env ops.size = putA (mix ops.toList xs S env ops.size) (dstAt ops.toList i) (xs i) := by
  apply List.ext_getElem
  · rw [putA_length, mix_length, mix_length]
  · intro s h1 h2
    rw [mix_length] at h1
    have e1 : (mix ops.toList xs T env ops.size)[s] = (mix ops.toList xs T env ops.size).getD s .any := (getD_get (by rw [mix_length]; exact h1)).symm
    have e2 : (putA (mix ops.toList xs S env ops.size) (dstAt ops.toList i) (xs i))[s] = (putA (mix ops.toList xs S env ops.size) (dstAt ops.toList i) (xs i)).getD s .any := (getD_get h2).symm
    rw [e1, e2]
    by_cases hd : dstAt ops.toList i = some s
    · rw [hd, putA_getD_eq (by rw [mix_length]; exact h1), mix_hit (S := T) hd (by rw [hT i hin]; simp) h1 ops.size hin fun k _ hk => dst_uniq h hd hk]
    · rw [putA_getD_ne hd]
      by_cases hx : ∃ j, j < ops.size ∧ dstAt ops.toList j = some s
      · obtain ⟨j, hj, hjs⟩ := hx
        have hji : j ≠ i := fun e => hd (by rw [← e]; exact hjs)
        have uniq : ∀ k, k ≠ j → dstAt ops.toList k ≠ some s := fun k hk => dst_uniq h hjs hk
        have hTj : T j = S j := by rw [hT j hj]; simp [hji]
        by_cases hSj : S j = true
        · rw [mix_hit (S := T) hjs (hTj.trans hSj) h1 ops.size hj fun k _ hk => uniq k hk, mix_hit (S := S) hjs hSj h1 ops.size hj fun k _ hk => uniq k hk]
        · rw [mix_base (S := T) _ fun k hk hTk => uniq k (fun e => hSj (by rw [← hTj, ← e]; exact hTk)), mix_base (S := S) _ fun k hk hSk => uniq k (fun e => hSj (by rw [← e]; exact hSk))]
      · have none' : ∀ k, k < ops.size → dstAt ops.toList k ≠ some s := fun k hk e => hx ⟨k, hk, e⟩
        rw [mix_base (S := T) _ fun k hk _ => none' k hk, mix_base (S := S) _ fun k hk _ => none' k hk]
theorem mem_ready {ops : Array Oper} {listed : Array Bool} {i : Nat} (hsz : listed.size = ops.size) :
    i ∈ Region.ready .any ops listed ↔ ∃ o, ops[i]? = some o ∧ listed.getD i false = false ∧ ∀ k ∈ need o, listed.getD k false = true := by
  unfold Region.ready
  simp only [List.mem_filter, List.mem_range, Bool.and_eq_true, Bool.not_eq_true']
  constructor
  · rintro ⟨h1, h2, h3⟩
    have ho : ops[i]? = some ops[i] := Array.getElem?_eq_getElem h1
    refine ⟨ops[i], ho, ?_, ?_⟩
    · rw [Array.getD_eq_getD_getElem?, Array.getElem?_eq_getElem (by omega)] at h2 ⊢; exact h2
    · rw [ho] at h3
      simp only [Option.map_some, Option.getD_some, Array.all_eq_true_iff_forall_mem, Bool.or_eq_true, Bool.not_eq_true'] at h3
      intro k hk
      simp only [need, List.mem_map, List.mem_filter] at hk
      obtain ⟨e, ⟨he, hb⟩, rfl⟩ := hk
      rcases h3 e (by simpa using he) with q | q
      · rw [hb] at q; cases q
      · exact q
  · rintro ⟨o, ho, h2, h3⟩
    have h1 := (Array.getElem?_eq_some_iff.1 ho).1
    refine ⟨h1, ?_, ?_⟩
    · rw [Array.getD_eq_getD_getElem?, Array.getElem?_eq_getElem (by omega)] at h2 ⊢; exact h2
    · rw [ho]
      simp only [Option.map_some, Option.getD_some, Array.all_eq_true_iff_forall_mem, Bool.or_eq_true, Bool.not_eq_true']
      intro e he
      by_cases hb : Region.binds .any e = true
      · exact .inr (h3 e.on (by simp only [need, List.mem_map, List.mem_filter]; exact ⟨e, ⟨by simpa using he, hb⟩, rfl⟩))
      · exact .inl (by simpa using hb)

theorem all_listed {ops : Array Oper} {listed : Array Bool} (h : okDraw ops = true) (hsz : listed.size = ops.size) (hr : Region.ready .any ops listed = []) : ∀ i, i < ops.size → listed.getD i false = true := by
  intro i
  induction i using Nat.strongRecOn with
  | ind i ih =>
    intro hi
    by_cases q : listed.getD i false = true
    · exact q
    · exfalso
      have ho : ops[i]? = some ops[i] := Array.getElem?_eq_getElem hi
      have : i ∈ Region.ready .any ops listed := (mem_ready hsz).2 ⟨ops[i], ho, by simpa using q, fun k hk => ih k (okDraw_back h ho k hk) (by have := okDraw_back h ho k hk; omega)⟩
      rw [hr] at this; simp at this

theorem wpAny_mix {P : Program} {ops : Array Oper} {xs : Nat → AV} {env : List AV} {h : List AObj} {Q : Exit → Act → World → Prop} (hok : okDraw ops = true)
    (hx : ∀ i o, ops.toList[i]? = some o → QStep P ((ops.toList.take i).map (·.dst)).reverse o (mix ops.toList xs (fun _ => true) env i) h (xs i)) :
    ∀ (fuel : Nat) (listed : Array Bool) (tmps : Array Value) (w : World) (β : Beta) (fr : Nat → Prop), listed.size = ops.size → Down ops.toList (fun j => listed.getD j false) → listed.toList.countP (· == false) ≤ fuel →
      Lay β fr w.heap h → EnvRep β fr w.heap (mix ops.toList xs (fun j => listed.getD j false) env ops.size) tmps →
      (∀ tmps' w' β' fr', Lay β' fr' w'.heap h → EnvRep β' fr' w'.heap (mix ops.toList xs (fun _ => true) env ops.size) tmps' → Step1 β fr h w β' fr' h w' → Q .normal ⟨tmps', []⟩ w') →
      wpAny P .any ops Q fuel listed ⟨tmps, []⟩ w := by
  have fin : ∀ (listed : Array Bool), listed.size = ops.size → (∀ i, i < ops.size → listed.getD i false = true) → mix ops.toList xs (fun j => listed.getD j false) env ops.size = mix ops.toList xs (fun _ => true) env ops.size :=
    fun listed hsz ha => mix_congr ops.size fun i hi => ⟨ha i hi, rfl⟩
  intro fuel
  induction fuel with
  | zero =>
    intro listed tmps w β fr hsz hD hc L R hQ
    have ha : ∀ i, i < ops.size → listed.getD i false = true := by
      intro i hi
      have h0 := List.countP_eq_zero.1 (Nat.le_zero.1 hc)
      have hi' : i < listed.size := by omega
      have := h0 listed[i] (by simp)
      rw [Array.getD_eq_getD_getElem?, Array.getElem?_eq_getElem hi']
      simpa using this
    refine ⟨?_, ?_⟩
    · rw [List.eq_nil_iff_forall_not_mem]
      intro i hi
      obtain ⟨o, ho, h1, _⟩ := (mem_ready hsz).1 hi
      rw [ha i (Array.getElem?_eq_some_iff.1 ho).1] at h1; cases h1
    · rw [fin listed hsz ha] at R
      exact hQ tmps w β fr L R (Step1.refl _ _ _ _)
  | succ fuel ih =>
    intro listed tmps w β fr hsz hD hc L R hQ
    refine ⟨fun hr => ?_, fun i hi => ?_⟩
    · rw [fin listed hsz (all_listed hok hsz hr)] at R
      exact hQ tmps w β fr L R (Step1.refl _ _ _ _)
    · obtain ⟨o, ho, h1, h2⟩ := (mem_ready hsz).1 hi
      have hin := (Array.getElem?_eq_some_iff.1 ho).1
      have hoL : ops.toList[i]? = some o := by rw [Array.getElem?_toList]; exact ho
      refine qstep_run ho (hx i o hoL) L (sees_mix hok ho hD h2 h1 R) fun v w' β' fr' L' R' S' => ?_
      have hT : ∀ j, j < ops.size → (listed.setIfInBounds i true).getD j false = (listed.getD j false || j == i) := by
        intro j hj
        rw [Array.getD_eq_getD_getElem?, Array.getD_eq_getD_getElem?]
        by_cases e : i = j
        · subst e
          rw [Array.getElem?_setIfInBounds_self_of_lt (by omega)]; simp
        · rw [Array.getElem?_setIfInBounds_ne e]
          have : (j == i) = false := by simp; omega
          rw [this, Bool.or_false]
      have hT2 : ∀ j, (listed.setIfInBounds i true).getD j false = true → listed.getD j false = true ∨ j = i := by
        intro j hj
        by_cases q : j < ops.size
        · rw [hT j q] at hj; simpa using hj
        · rw [Array.getD_eq_getD_getElem?, Array.getElem?_eq_none (by simp; omega)] at hj; simp at hj
      have hT3 : ∀ j, listed.getD j false = true → (listed.setIfInBounds i true).getD j false = true := by
        intro j hj
        by_cases q : j < ops.size
        · rw [hT j q, hj]; rfl
        · rw [Array.getD_eq_getD_getElem?, Array.getElem?_eq_none (by omega)] at hj; simp at hj
      rw [put_act]
      refine ih (listed.setIfInBounds i true) _ w' β' fr' (by simp [hsz]) ?_ ?_ L' ?_ fun t2 w2 β2 fr2 L2 R2 S2 => hQ t2 w2 β2 fr2 L2 R2 (S'.trans S2)
      · intro j oj hj hSj k hk
        rcases hT2 j hSj with q | q
        · exact hT3 k (hD j oj hj q k hk)
        · subst q
          rw [hoL] at hj; injection hj with hj; subst hj
          exact hT3 k (h2 k hk)
      · rw [Array.toList_setIfInBounds, List.countP_set (by simpa using (by omega : i < listed.size))]
        have hli : listed.toList[i]'(by simpa using (by omega : i < listed.size)) = false := by
          rw [Array.getD_eq_getD_getElem?, Array.getElem?_eq_getElem (by omega)] at h1
          simpa using h1
        rw [hli]
        have : 0 < listed.toList.countP (· == false) := List.countP_pos_iff.2 ⟨false, by rw [← hli]; exact List.getElem_mem _, rfl⟩
        rw [show (false == false) = true from rfl, show (true == false) = false from rfl, if_pos rfl, if_neg (by simp)]
        omega
      · rw [mix_step (S := fun j => listed.getD j false) (T := fun j => (listed.setIfInBounds i true).getD j false) hok hin h1 hT]
        have hd : dstAt ops.toList i = o.dst := by simp [dstAt, ho]
        rw [hd]
        exact (R.ext S'.ext).put R' o.dst

/-- A region whose order is drawn: worked out in the text's order, by operations that leave the call's own memory; the check of the edges is worked out by the kernel. -/
theorem ADraw.of_quiet {P : Program} {ops : Array Oper} {K : List AV → List AObj → Prop} {env : List AV} {h : List AObj} (hm : P.follows .mixedOrders = true) (hok : okDraw ops = true) (hd : dopsL P [] ops.toList env h (fun e => K e h)) : ADraw P ops K env h := by
  intro id tmps w β fr L R
  obtain ⟨xs, hx, hK⟩ := dopsL_spec (P := P) (ops := ops.toList) (env := env) (h := h) (K := fun e => K e h) ops.toList [] (fun _ => .any) rfl (fun i o hi => by simp at hi) hd
  refine wp_region_any hm ?_
  refine wpAny_mix (xs := xs) (env := env) (h := h) hok hx ops.size (Array.replicate ops.size false) tmps { w with drawn := w.drawn + 1 } β fr (by simp) ?_ (by have := List.countP_le_length (p := (· == false)) (l := (Array.replicate ops.size false).toList); simpa using this) L ?_ ?_
  · intro i o ho hS
    simp only at hS
    rw [Array.getD_eq_getD_getElem?] at hS
    by_cases q : i < ops.size
    · rw [Array.getElem?_eq_getElem (by simpa using q)] at hS; simp at hS
    · rw [Array.getElem?_eq_none (by simp; omega)] at hS; simp at hS
  · have : mix ops.toList xs (fun j => (Array.replicate ops.size false).getD j false) env ops.size = env := by
      have h0 : ∀ k, mix ops.toList xs (fun j => (Array.replicate ops.size false).getD j false) env k = env := by
        intro k
        induction k with
        | zero => rfl
        | succ k ih =>
          simp only [mix]
          rw [if_neg (by
            intro hS
            try simp only at hS
            rw [Array.getD_eq_getD_getElem?] at hS
            by_cases q : k < ops.size
            · rw [Array.getElem?_eq_getElem (by simpa using q)] at hS; simp at hS
            · rw [Array.getElem?_eq_none (by simp; omega)] at hS; simp at hS)]
          exact ih
      exact h0 _
    rw [this]; exact R
  · intro tmps' w' β' fr' L' R' S'
    have hl : ops.toList.length = ops.size := by simp
    rw [hl] at hK
    refine ⟨rfl, _, h, β', fr', hK, L', R', ?_⟩
    exact (Step1.drawn (w := w) (w' := { w with drawn := w.drawn + 1 }) rfl rfl rfl rfl).trans S'
/-! ### How it is worked out -/

def doX (A K : AV → Prop) (_ : Tag A) (_ : Tag K) : Prop := ∃ x, A x ∧ K x
theorem doX_intro {A K : AV → Prop} {s : Tag A} {t : Tag K} (x : AV) (a : A x) (k : K x) : doX A K s t := ⟨x, a, k⟩
def dopsT (P : Program) (ds : List (Option Nat)) (os : List Oper) (env : List AV) (h : List AObj) (K : List AV → Prop) (_ : Tag ds) (_ : Tag os) (_ : Tag K) : Prop := dopsL P ds os env h K
@[go_sem ↓] theorem dopsL_nil (P : Program) (ds : List (Option Nat)) (env : List AV) (h : List AObj) (K : List AV → Prop) : dopsL P ds [] env h K = K env := nrfl rfl
@[go_sem ↓] theorem dopsL_cons (P : Program) (ds : List (Option Nat)) (o : Oper) (os : List Oper) (env : List AV) (h : List AObj) (K : List AV → Prop) : dopsL P ds (o :: os) env h K = dopsT P ds (o :: os) env h K ⟨⟩ ⟨⟩ ⟨⟩ := nrfl rfl
def doQ (r : PV) (A : AV → Prop) (K : AV → Prop) (_ : Tag A) (_ : Tag K) : Prop :=
  match r with
  | some (p, x) => p ∧ K x
  | none => doX A K ⟨⟩ ⟨⟩
@[go_sem] theorem doQ_some (p : Prop) (x : AV) (A K : AV → Prop) (s : Tag A) (t : Tag K) : doQ (some (p, x)) A K s t = (p ∧ K x) := nrfl rfl
@[go_sem] theorem doQ_none (A K : AV → Prop) (s : Tag A) (t : Tag K) : doQ none A K s t = doX A K s t := nrfl rfl
def doH (gd : Bool) (r : PV) (A : AV → Prop) (K : AV → Prop) (_ : Tag A) (_ : Tag K) : Prop :=
  match r with
  | some (p, x) => (gd = true → p) ∧ K (.opt gd x)
  | none => (gd = true → doX A K ⟨⟩ ⟨⟩) ∧ (gd = false → K (.tup []))
def doHn (gd : Bool) (A K : AV → Prop) (_ : Tag A) (_ : Tag K) : Prop := (gd = true → doX A K ⟨⟩ ⟨⟩) ∧ (gd = false → K (.tup []))
@[go_sem] theorem doH_some (gd : Bool) (p : Prop) (x : AV) (A K : AV → Prop) (s : Tag A) (t : Tag K) : doH gd (some (p, x)) A K s t = ((gd = true → p) ∧ K (.opt gd x)) := nrfl rfl
@[go_sem] theorem doH_none (gd : Bool) (A K : AV → Prop) (s : Tag A) (t : Tag K) : doH gd none A K s t = doHn gd A K s t := nrfl rfl
@[go_sem] theorem doHn_true (A K : AV → Prop) (s : Tag A) (t : Tag K) : doHn true A K s t = doX A K s t := by simp [doHn, doX]
@[go_sem] theorem doHn_false (A K : AV → Prop) (s : Tag A) (t : Tag K) : doHn false A K s t = K (.tup []) := by simp [doHn]
@[go_sem] theorem dopsT_plain (P : Program) (ds : List (Option Nat)) (dst : Option Nat) (op : Op) (ty : TypeId) (pos : String) (after : Array Edge) (os : List Oper) (env : List AV) (h : List AObj) (K : List AV → Prop) : ∀ t1 t2 t3,
    dopsT P ds (⟨dst, op, ty, pos, after, none⟩ :: os) env h K t1 t2 t3 = doQ (pop P op (evA env) h) (fun x => aop P op (evA env) h fun y h' => y = x ∧ h' = h) (fun x => dopsL P (dst :: ds) os (putA env dst x) h K) ⟨⟩ ⟨⟩ := by
  intro _ _ _
  unfold dopsT
  rw [dopsL]
  simp only [QStep]
  cases pop P op (evA env) h with
  | none => rfl
  | some q =>
    apply propext
    constructor
    · rintro ⟨x, ⟨hp, rfl⟩, hk⟩; exact ⟨hp, hk⟩
    · rintro ⟨hp, hk⟩; exact ⟨_, ⟨hp, rfl⟩, hk⟩
@[go_sem] theorem dopsT_guard (P : Program) (ds : List (Option Nat)) (dst : Option Nat) (op : Op) (ty : TypeId) (pos : String) (after : Array Edge) (j : Nat) (want : Bool) (os : List Oper) (env : List AV) (h : List AObj) (K : List AV → Prop) : ∀ t1 t2 t3,
    dopsT P ds (⟨dst, op, ty, pos, after, some (j, want)⟩ :: os) env h K t1 t2 t3 = doGd (gdA (gv env ds j) want) (fun gd =>
      doH gd (popG P op (evA env) h) (fun x => aop P op (fun y => (evA env y).stripT) h fun y h' => y = x ∧ h' = h) (fun x => dopsL P (dst :: ds) os (putA env dst x) h K) ⟨⟩ ⟨⟩) ⟨⟩ := by
  intro _ _ _
  unfold dopsT
  rw [dopsL]
  simp only [QStep]
  cases gdA (gv env ds j) want with
  | none => simp [doGd]
  | some gd =>
    simp only [doGd]
    cases popG P op (evA env) h with
    | none =>
      simp only [doH, doX]
      apply propext
      constructor
      · rintro ⟨x, ⟨h1, h2⟩, hk⟩
        exact ⟨fun q => ⟨x, h1 q, hk⟩, fun q => by rw [← h2 q]; exact hk⟩
      · rintro ⟨h1, h2⟩
        cases gd with
        | true => obtain ⟨x, a, k⟩ := h1 rfl; exact ⟨x, ⟨fun _ => a, fun q => (nomatch q)⟩, k⟩
        | false => exact ⟨.tup [], ⟨fun q => (nomatch q), fun _ => rfl⟩, h2 rfl⟩
    | some q =>
      apply propext
      constructor
      · rintro ⟨x, ⟨hp, rfl⟩, hk⟩; exact ⟨hp, hk⟩
      · rintro ⟨hp, hk⟩; exact ⟨_, ⟨hp, rfl⟩, hk⟩

theorem ADrawT.quiet {P : Program} {ops : Array Oper} {K : List AV → List AObj → Prop} {s : Tag ops} {t : Tag K} {env : List AV} {h : List AObj} (hm : P.follows .mixedOrders = true) (hok : okDraw ops = true) (hd : dopsL P [] ops.toList env h (fun e => K e h)) : ADrawT P ops K s t env h := ADraw.of_quiet hm hok hd
end Go.Proofs.Vale
