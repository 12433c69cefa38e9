/- YtplehleekabbaaaGreatDoorVRk: a text of the proof of this claim, by its prover. -/
import Derived.Test.YtplehleekabbaaaGreatDoorVRe
import Derived.Test.YtplehleekabbaaaGreatDoorVTurn
set_option linter.unusedVariables false
set_option linter.unusedSimpArgs false
namespace Go.Proofs.Vale

/-! ### Code, and calls -/
inductive XE where
  | normal
  | ret
  | exit (n : Nat)
def XE.ex : XE → Exit
  | .normal => .normal
  | .ret => .ret
  | .exit n => .exit n
inductive OC where
  | none
  | out (e : XE) (env : List AV) (m : Mem)
/-- The end of a region. -/
def endE : OE → OC
  | .ok env m => .out .normal env m
  | .none => .none
def resEB (P : Program) (m : Mem) (env : List AV) : ResultVar → PB
  | .tmp t => some (true, nthA env t)
  | .cell a t => pld (tI P t) m.at (nthA env a)
def resLB (P : Program) (m : Mem) (env : List AV) : List ResultVar → Option (List AV)
  | [] => some []
  | r :: rs => match resEB P m env r with
    | some (true, x) => (match resLB P m env rs with
      | some xs => some (x :: xs)
      | none => none)
    | _ => none
def resB (P : Program) (rs : List ResultVar) (env : List AV) (m : Mem) : OV :=
  match resLB P m env rs with
  | some [x] => .val x m
  | some xs => .val (.tup xs) m
  | none => .none
theorem resEB_ok {P : Program} {m : Mem} {env : List AV} (r : ResultVar) : Sim (resEB P m env r) (resE P m.L env r) := by
  cases r with
  | tmp t => exact Sim.some (fun _ => trivial) (nthA_eq _ _)
  | cell a t => simp only [resEB, resE, nthA_eq]; exact pld_ok _
theorem resLB_ok {P : Program} {m : Mem} {env : List AV} : ∀ (rs : List ResultVar) (xs : List AV), resLB P m env rs = some xs → ∃ p, resL P m.L env rs = some (p, xs) ∧ p
  | [], xs, h => by
    simp only [resLB, Option.some.injEq] at h; subst h; exact ⟨True, rfl, trivial⟩
  | r :: rs, xs, h => by
    simp only [resLB] at h
    split at h
    · rename_i x e
      split at h
      · rename_i ys e2
        injection h with h; subst h
        obtain ⟨p, hp, hpp⟩ := resEB_ok r _ e
        obtain ⟨q, hq, hqq⟩ := resLB_ok rs ys e2
        exact ⟨p ∧ q, by simp only [resL, hp, hq], hpp, hqq⟩
      · cases h
    · cases h
theorem resB_ok {P : Program} {rs : List ResultVar} {env : List AV} {m m' : Mem} {x : AV} (h : resB P rs env m = .val x m') : m' = m ∧ ∃ p, resA P rs env m.L = some (p, x) ∧ p := by
  unfold resB at h
  split at h
  · rename_i y e
    simp only [OV.val.injEq] at h
    obtain ⟨rfl, rfl⟩ := h
    obtain ⟨p, hp, hpp⟩ := resLB_ok _ _ e
    exact ⟨rfl, p, by simp only [resA, hp], hpp⟩
  · rename_i xs e1 e
    simp only [OV.val.injEq] at h
    obtain ⟨rfl, rfl⟩ := h
    obtain ⟨p, hp, hpp⟩ := resLB_ok _ _ e
    refine ⟨rfl, p, ?_, hpp⟩
    cases xs with
    | nil => simp only [resA, hp]
    | cons a l => cases l with
      | nil => exact absurd rfl (e1 a)
      | cons b l => simp only [resA, hp]
  · cases h

def Res (e : XE) (env' : List AV) (h' : List AObj) : Post := fun e1 env1 h1 => e1 = e.ex ∧ env1 = env' ∧ h1 = h'
theorem AWP.seq {P : Program} {a b : Code} {Q : Post} {env : List AV} {h : List AObj} (k : AWP P a (fun e env h => match e with | .normal => AWP P b Q env h | e => Q e env h) env h) : AWP P (.seq a b) Q env h := by
  intro n0 ro ds tmps w β fr Su L R
  refine wpIn_seq (wpIn_mono (k n0 ro ds tmps w β fr Su L R) ?_)
  rintro e ⟨t', d'⟩ w' ⟨env', h', β', fr', q, Su', L', R', S'⟩
  cases e with
  | normal =>
    refine wpIn_mono (q n0 ro d' t' w' β' fr' Su' L' R') ?_
    rintro e2 a2 w2 ⟨env2, h2, β2, fr2, q2, Su2, L2, R2, S2⟩
    exact ⟨env2, h2, β2, fr2, q2, Su2, L2, R2, S'.trans S2⟩
  | exit i => exact ⟨env', h', β', fr', q, Su', L', R', S'⟩
  | goto l => exact ⟨env', h', β', fr', q, Su', L', R', S'⟩
  | ret => exact ⟨env', h', β', fr', q, Su', L', R', S'⟩
  | panic ch => exact ⟨env', h', β', fr', q, Su', L', R', S'⟩
  | outgrown => exact ⟨env', h', β', fr', q, Su', L', R', S'⟩
theorem AWP.block {P : Program} {id : Nat} {c : Code} {Q : Post} {env : List AV} {h : List AObj} (k : AWP P c (fun e env h => match e with | .exit i => if i = id then Q .normal env h else Q (.exit i) env h | e => Q e env h) env h) : AWP P (.block id c) Q env h := by
  intro n0 ro ds tmps w β fr Su L R
  refine wpIn_block (wpIn_mono (k n0 ro ds tmps w β fr Su L R) ?_)
  rintro e a' w' ⟨env', h', β', fr', q, r⟩
  cases e with
  | exit i =>
    simp only at q
    show Exit.inBlock id _ (.exit i) a' w'
    unfold Exit.inBlock
    simp only
    split
    · rename_i hi; rw [if_pos hi] at q; exact ⟨env', h', β', fr', q, r⟩
    · rename_i hi; rw [if_neg hi] at q; exact ⟨env', h', β', fr', q, r⟩
  | normal => exact ⟨env', h', β', fr', q, r⟩
  | goto l => exact ⟨env', h', β', fr', q, r⟩
  | ret => exact ⟨env', h', β', fr', q, r⟩
  | panic ch => exact ⟨env', h', β', fr', q, r⟩
  | outgrown => exact ⟨env', h', β', fr', q, r⟩
theorem AWP.scope {P : Program} {c : Code} {Q : Post} {env : List AV} {h : List AObj} (k : AWP P c (fun e env h => match e with | .goto _ => False | e => Q e env h) env h) : AWP P (.scope c) Q env h := by
  intro n0 ro ds tmps w β fr Su L R
  refine wpIn_scope_straight (wpIn_mono (k n0 ro ds tmps w β fr Su L R) ?_)
  rintro e a' w' ⟨env', h', β', fr', q, r⟩
  cases e <;> first | exact ⟨env', h', β', fr', q, r⟩ | exact q.elim
theorem AWP.region {P : Program} {id : Nat} {ops : Array Oper} {env : List AV} {h : List AObj} {env' : List AV} {h' : List AObj} (k : QSL P [] ops.toList env h env' h') : AWP P (.region id ops false) (Res .normal env' h') env h := by
  intro n0 ro ds tmps w β fr Su L R
  refine wpIn_region_list (QSL_ok ops.toList [] env h env' h' tmps w β fr rfl k L R ?_)
  intro β' fr' tmps' w' L' R' S'
  exact ⟨env', h', β', fr', ⟨rfl, rfl, rfl⟩, Su.step S', L', R', S'⟩
theorem AWP.cond {P : Program} {x : Operand} {a b : Code} {Q : Post} {env : List AV} {h : List AObj} {t : Bool} (e : evA env x = .bool t) (k : AWP P (if t then a else b) Q env h) : AWP P (.cond x a b) Q env h := by
  intro n0 ro ds tmps w β fr Su L R
  have hc := R.eval (ds := ds) x
  rw [e] at hc; simp only [Rep] at hc
  exact wpIn_cond hc (k n0 ro ds tmps w β fr Su L R)
theorem AWP.stay {P : Program} {c : Code} {Q : Post} {e : Exit} {env : List AV} {h : List AObj} (hc : (c = .skip ∨ ∃ l, c = .label l) ∧ e = .normal ∨ c = .ret ∧ e = .ret ∨ ∃ i, c = .exit i ∧ e = .exit i) (k : Q e env h) : AWP P c Q env h := by
  intro n0 ro ds tmps w β fr Su L R
  rcases hc with ⟨rfl | ⟨l, rfl⟩, rfl⟩ | ⟨rfl, rfl⟩ | ⟨i, rfl, rfl⟩
  · exact wpIn_skip ⟨env, h, β, fr, k, Su, L, R, Step1.refl _ _ _ _⟩
  · exact wpIn_label ⟨env, h, β, fr, k, Su, L, R, Step1.refl _ _ _ _⟩
  · exact wpIn_ret ⟨env, h, β, fr, k, Su, L, R, Step1.refl _ _ _ _⟩
  · exact wpIn_exit ⟨env, h, β, fr, k, Su, L, R, Step1.refl _ _ _ _⟩

def Mem.nil : Mem := ⟨0, .leaf⟩
def OV.is (x : AV) : OV → Bool
  | .val y _ => y.same x
  | .none => false
theorem OV.is_ok {x : AV} {r : OV} (h : r.is x = true) : ∃ m, r = .val x m := by
  cases r with
  | none => cases h
  | val y m => exact ⟨m, by rw [AV.same_eq _ _ h]⟩
end Go.Proofs.Vale

set_option linter.unusedVariables false
set_option linter.unusedSimpArgs false
namespace Go.Proofs.Vale

/-! ### The same, laid out for the kernel: places in trees, code as closures -/
inductive ET where
  | leaf (x : AV)
  | node (a b c d e f g h : ET)
def ET.kid (t : ET) (i : Nat) : ET :=
  match t with
  | .leaf x => .leaf x
  | .node a b c d e f g h => (match i with | 0 => a | 1 => b | 2 => c | 3 => d | 4 => e | 5 => f | 6 => g | _ => h)
def ET.up (t : ET) (i : Nat) (s : ET) : ET :=
  match t with
  | .leaf x => (match i with
    | 0 => .node s (.leaf x) (.leaf x) (.leaf x) (.leaf x) (.leaf x) (.leaf x) (.leaf x)
    | 1 => .node (.leaf x) s (.leaf x) (.leaf x) (.leaf x) (.leaf x) (.leaf x) (.leaf x)
    | 2 => .node (.leaf x) (.leaf x) s (.leaf x) (.leaf x) (.leaf x) (.leaf x) (.leaf x)
    | 3 => .node (.leaf x) (.leaf x) (.leaf x) s (.leaf x) (.leaf x) (.leaf x) (.leaf x)
    | 4 => .node (.leaf x) (.leaf x) (.leaf x) (.leaf x) s (.leaf x) (.leaf x) (.leaf x)
    | 5 => .node (.leaf x) (.leaf x) (.leaf x) (.leaf x) (.leaf x) s (.leaf x) (.leaf x)
    | 6 => .node (.leaf x) (.leaf x) (.leaf x) (.leaf x) (.leaf x) (.leaf x) s (.leaf x)
    | _ => .node (.leaf x) (.leaf x) (.leaf x) (.leaf x) (.leaf x) (.leaf x) (.leaf x) s)
  | .node a b c d e f g h => (match i with
    | 0 => .node s b c d e f g h
    | 1 => .node a s c d e f g h
    | 2 => .node a b s d e f g h
    | 3 => .node a b c s e f g h
    | 4 => .node a b c d s f g h
    | 5 => .node a b c d e s g h
    | 6 => .node a b c d e f s h
    | _ => .node a b c d e f g s)
theorem ET.kid_up (t : ET) (i j : Nat) (s : ET) (hi : i < 8) (hj : j < 8) : (t.up i s).kid j = if j = i then s else t.kid j := by
  rcases (by omega : i = 0 ∨ i = 1 ∨ i = 2 ∨ i = 3 ∨ i = 4 ∨ i = 5 ∨ i = 6 ∨ i = 7) with rfl | rfl | rfl | rfl | rfl | rfl | rfl | rfl <;>
  rcases (by omega : j = 0 ∨ j = 1 ∨ j = 2 ∨ j = 3 ∨ j = 4 ∨ j = 5 ∨ j = 6 ∨ j = 7) with rfl | rfl | rfl | rfl | rfl | rfl | rfl | rfl <;>
  cases t <;> rfl
def getP : List Nat → ET → AV
  | [], t => (match t with
    | .leaf x => x
    | .node .. => .any)
  | b :: p, t => getP p (t.kid b)
def setP : List Nat → ET → AV → ET
  | [], _, x => .leaf x
  | b :: p, t, x => t.up b (setP p (t.kid b) x)
theorem getP_leaf : ∀ (p : List Nat) (x : AV), getP p (.leaf x) = x
  | [], _ => rfl
  | b :: p, x => getP_leaf p x
theorem getP_setP : ∀ (p q : List Nat) (t : ET) (x : AV), p.length = q.length → (∀ b ∈ p, b < 8) → (∀ b ∈ q, b < 8) → getP p (setP q t x) = if p = q then x else getP p t
  | [], [], t, x, h, _, _ => by simp [setP, getP]
  | a :: p, b :: q, t, x, h, h1, h2 => by
    have hl : p.length = q.length := by simpa using h
    simp only [setP, getP]
    rw [ET.kid_up t b a _ (h2 b (by simp)) (h1 a (by simp))]
    by_cases e : a = b
    · subst e
      rw [if_pos rfl, getP_setP p q _ x hl (fun c hc => h1 c (by simp [hc])) (fun c hc => h2 c (by simp [hc]))]
      simp
    · rw [if_neg e]; simp [e]
  | [], _ :: _, t, x, h, _, _ => by simp at h
  | _ :: _, [], t, x, h, _, _ => by simp at h
/-- The way to a place: so many steps. -/
def path : Nat → Nat → List Nat
  | 0, _ => []
  | f + 1, k => k % 8 :: path f (k / 8)
theorem path_len : ∀ f k, (path f k).length = f
  | 0, _ => rfl
  | f + 1, k => by simp [path, path_len f]
theorem path_lt : ∀ f k, ∀ b ∈ path f k, b < 8
  | 0, k, b, h => by cases h
  | f + 1, k, b, h => by
    rcases List.mem_cons.1 h with rfl | h
    · exact Nat.mod_lt _ (by omega)
    · exact path_lt f _ b h
theorem path_inj : ∀ (f j k : Nat), j < 8 ^ f → k < 8 ^ f → path f j = path f k → j = k
  | 0, j, k, h1, h2, h => by simp at h1 h2; omega
  | f + 1, j, k, h1, h2, h => by
    simp only [path, List.cons.injEq] at h
    rw [Nat.pow_succ] at h1 h2
    have := path_inj f (j / 8) (k / 8) (by omega) (by omega) h.2
    omega
/-! the ways as closures -/
structure CE where
  run : ET → AV
structure CP where
  run : ET → AV → ET
def cget : List Nat → CE
  | [] => ⟨fun t => ET.casesOn t (fun x => x) (fun _ _ _ _ _ _ _ _ => .any)⟩
  | i :: p => (match i with
    | 0 => ⟨fun t => ET.casesOn t (fun x => x) (fun a _ _ _ _ _ _ _ => (cget p).run a)⟩
    | 1 => ⟨fun t => ET.casesOn t (fun x => x) (fun _ b _ _ _ _ _ _ => (cget p).run b)⟩
    | 2 => ⟨fun t => ET.casesOn t (fun x => x) (fun _ _ c _ _ _ _ _ => (cget p).run c)⟩
    | 3 => ⟨fun t => ET.casesOn t (fun x => x) (fun _ _ _ d _ _ _ _ => (cget p).run d)⟩
    | 4 => ⟨fun t => ET.casesOn t (fun x => x) (fun _ _ _ _ e _ _ _ => (cget p).run e)⟩
    | 5 => ⟨fun t => ET.casesOn t (fun x => x) (fun _ _ _ _ _ f _ _ => (cget p).run f)⟩
    | 6 => ⟨fun t => ET.casesOn t (fun x => x) (fun _ _ _ _ _ _ g _ => (cget p).run g)⟩
    | _ => ⟨fun t => ET.casesOn t (fun x => x) (fun _ _ _ _ _ _ _ h => (cget p).run h)⟩)
theorem cget_eq : ∀ (p : List Nat) (t : ET), (cget p).run t = getP p t
  | [], t => by cases t <;> rfl
  | i :: p, t => by
    have ih := cget_eq p
    unfold cget getP
    split <;> cases t <;> simp only [ET.kid, ih, getP_leaf] <;> rfl
def cset : List Nat → CP
  | [] => ⟨fun _ x => .leaf x⟩
  | i :: p => (match i with
    | 0 => ⟨fun t x => ET.casesOn t (fun y => .node ((cset p).run (.leaf y) x) (.leaf y) (.leaf y) (.leaf y) (.leaf y) (.leaf y) (.leaf y) (.leaf y)) (fun a b c d e f g h => .node ((cset p).run a x) b c d e f g h)⟩
    | 1 => ⟨fun t x => ET.casesOn t (fun y => .node (.leaf y) ((cset p).run (.leaf y) x) (.leaf y) (.leaf y) (.leaf y) (.leaf y) (.leaf y) (.leaf y)) (fun a b c d e f g h => .node a ((cset p).run b x) c d e f g h)⟩
    | 2 => ⟨fun t x => ET.casesOn t (fun y => .node (.leaf y) (.leaf y) ((cset p).run (.leaf y) x) (.leaf y) (.leaf y) (.leaf y) (.leaf y) (.leaf y)) (fun a b c d e f g h => .node a b ((cset p).run c x) d e f g h)⟩
    | 3 => ⟨fun t x => ET.casesOn t (fun y => .node (.leaf y) (.leaf y) (.leaf y) ((cset p).run (.leaf y) x) (.leaf y) (.leaf y) (.leaf y) (.leaf y)) (fun a b c d e f g h => .node a b c ((cset p).run d x) e f g h)⟩
    | 4 => ⟨fun t x => ET.casesOn t (fun y => .node (.leaf y) (.leaf y) (.leaf y) (.leaf y) ((cset p).run (.leaf y) x) (.leaf y) (.leaf y) (.leaf y)) (fun a b c d e f g h => .node a b c d ((cset p).run e x) f g h)⟩
    | 5 => ⟨fun t x => ET.casesOn t (fun y => .node (.leaf y) (.leaf y) (.leaf y) (.leaf y) (.leaf y) ((cset p).run (.leaf y) x) (.leaf y) (.leaf y)) (fun a b c d e f g h => .node a b c d e ((cset p).run f x) g h)⟩
    | 6 => ⟨fun t x => ET.casesOn t (fun y => .node (.leaf y) (.leaf y) (.leaf y) (.leaf y) (.leaf y) (.leaf y) ((cset p).run (.leaf y) x) (.leaf y)) (fun a b c d e f g h => .node a b c d e f ((cset p).run g x) h)⟩
    | _ => ⟨fun t x => ET.casesOn t (fun y => .node (.leaf y) (.leaf y) (.leaf y) (.leaf y) (.leaf y) (.leaf y) (.leaf y) ((cset p).run (.leaf y) x)) (fun a b c d e f g h => .node a b c d e f g ((cset p).run h x))⟩)
theorem cset_eq : ∀ (p : List Nat) (t : ET) (x : AV), (cset p).run t x = setP p t x
  | [], t, x => rfl
  | i :: p, t, x => by
    have ih := cset_eq p
    unfold cset setP
    split <;> cases t <;> simp only [ET.kid, ET.up, ih]
/-- The places as a list. -/
def eL (f n : Nat) (t : ET) : List AV := (List.range n).map fun k => getP (path f k) t
theorem eL_len (f n : Nat) (t : ET) : (eL f n t).length = n := by simp [eL]
theorem eL_get {f n k : Nat} {t : ET} (h : k < n) : (eL f n t).getD k .any = getP (path f k) t := by simp [eL, List.getD_eq_getElem?_getD, h]
theorem eL_out {f n k : Nat} {t : ET} (h : ¬ k < n) : (eL f n t).getD k .any = .any := by simp [eL, List.getD_eq_getElem?_getD, h]
theorem eL_set {f n d : Nat} {t : ET} {x : AV} (hn : n ≤ 8 ^ f) (h : d < n) : eL f n (setP (path f d) t x) = (eL f n t).set d x := by
  apply List.ext_getElem
  · simp [eL]
  · intro j h1 h2
    have hj : j < n := by simpa [eL] using h1
    simp only [eL, List.getElem_map, List.getElem_range, List.getElem_set]
    rw [getP_setP _ _ _ _ (by rw [path_len, path_len]) (path_lt _ _) (path_lt _ _)]
    by_cases e : d = j
    · subst e; simp
    · rw [if_neg e, if_neg (fun q => e (path_inj f j d (by omega) (by omega) q).symm)]
def fillE (f : Nat) : List AV → Nat → ET → ET
  | [], _, t => t
  | x :: l, k, t => fillE f l (k + 1) (setP (path f k) t x)
theorem fillE_get {f n : Nat} (hn : n ≤ 8 ^ f) : ∀ (l : List AV) (k : Nat) (t : ET) (j : Nat), k + l.length ≤ n → j < n → getP (path f j) (fillE f l k t) = if k ≤ j ∧ j < k + l.length then l.getD (j - k) .any else getP (path f j) t
  | [], k, t, j, h, hj => by
    rw [if_neg (by simp)]; rfl
  | x :: l, k, t, j, h, hj => by
    simp only [List.length_cons] at h ⊢
    rw [fillE, fillE_get hn l (k + 1) _ j (by omega) hj]
    by_cases q : k + 1 ≤ j ∧ j < k + 1 + l.length
    · rw [if_pos q, if_pos (by omega), show j - k = (j - (k + 1)) + 1 by omega, List.getD_cons_succ]
    · rw [if_neg q, getP_setP _ _ _ _ (by rw [path_len, path_len]) (path_lt _ _) (path_lt _ _)]
      by_cases e : j = k
      · subst e
        rw [if_pos rfl, if_pos (by omega), Nat.sub_self]; rfl
      · rw [if_neg (fun q2 => e (path_inj f j k (by omega) (by omega) q2)), if_neg (by omega)]
def initE (f : Nat) (l : List AV) : ET := fillE f l 0 (.leaf (.tup []))
theorem initE_L {f n : Nat} (hn : n ≤ 8 ^ f) (l : List AV) (h : l.length ≤ n) : eL f n (initE f l) = l ++ List.replicate (n - l.length) (.tup []) := by
  apply List.ext_getElem
  · simp [eL, h]
  · intro j h1 h2
    have hj : j < n := by simpa [eL] using h1
    simp only [eL, initE, List.getElem_map, List.getElem_range]
    rw [fillE_get hn l 0 _ j (by omega) hj]
    by_cases q : j < l.length
    · rw [if_pos (by omega), Nat.sub_zero, List.getElem_append_left q, getD_get q]
    · rw [if_neg (by omega), getP_leaf, List.getElem_append_right (by omega)]
      simp

/-! Closures: what hangs on the text alone is worked out once. -/
def cev (f n : Nat) (x : Operand) : CE :=
  match x with
  | .tmp k => bif Nat.blt k n then cget (path f k) else ⟨fun _ => .any⟩
  | .const v => ⟨fun _ => ofVal v⟩
  | .func g => ⟨fun _ => .func (.func g) [] []⟩
  | .global _ => ⟨fun _ => .any⟩
theorem cev_eq (f n : Nat) (x : Operand) (t : ET) : (cev f n x).run t = evB (eL f n t) x := by
  cases x with
  | tmp k =>
    simp only [cev, evB, nthA_eq]
    cases h : Nat.blt k n with
    | true => rw [cond_true, eL_get (blt_iff.1 h), cget_eq]
    | false => rw [cond_false, eL_out (fun q => by rw [blt_iff.2 q] at h; cases h)]
  | const v => rfl
  | func g => rfl
  | global g => rfl
structure CB where
  run : AV → AV → PB
def cbin (op : BinOp) : CB :=
  match op with
  | .add => ⟨fun x y => match x, y with | .int k a, .int k' b => some (kB k k', .int k (wrapB k (a + b))) | .str a, .str b => some (Nat.ble (a.length + b.length) 9223372036854775807, .str (a ++ b)) | _, _ => none⟩
  | .sub => ⟨fun x y => match x, y with | .int k a, .int k' b => some (kB k k', .int k (wrapB k (a - b))) | _, _ => none⟩
  | .mul => ⟨fun x y => match x, y with | .int k a, .int k' b => some (kB k k', .int k (wrapB k (a * b))) | _, _ => none⟩
  | .eql => ⟨fun x y => match x, y with | .int k a, .int k' b => some (kB k k', .bool (ieqB a b)) | .str a, .str b => some (true, .bool (a == b)) | _, _ => none⟩
  | .neq => ⟨fun x y => match x, y with | .int k a, .int k' b => some (kB k k', .bool (!ieqB a b)) | .str a, .str b => some (true, .bool (!(a == b))) | _, _ => none⟩
  | .lss => ⟨fun x y => match x, y with | .int k a, .int k' b => some (kB k k', .bool (iltB a b)) | .str a, .str b => some (true, .bool (Op.bytesLess a b)) | _, _ => none⟩
  | .leq => ⟨fun x y => match x, y with | .int k a, .int k' b => some (kB k k', .bool (ileB a b)) | .str a, .str b => some (true, .bool (!Op.bytesLess b a)) | _, _ => none⟩
  | .gtr => ⟨fun x y => match x, y with | .int k a, .int k' b => some (kB k k', .bool (iltB b a)) | .str a, .str b => some (true, .bool (Op.bytesLess b a)) | _, _ => none⟩
  | .geq => ⟨fun x y => match x, y with | .int k a, .int k' b => some (kB k k', .bool (ileB b a)) | .str a, .str b => some (true, .bool (!Op.bytesLess a b)) | _, _ => none⟩
  | op => ⟨fun x y => pbin op x y⟩
theorem cbin_eq (op : BinOp) (x y : AV) : (cbin op).run x y = pbin op x y := by
  cases op <;> first | rfl | (cases x <;> cases y <;> rfl)
/-- What is told where memory stays. -/
def okQ (a : PB) : Option AV := Option.casesOn a none (fun q => Prod.casesOn q (fun b x => Bool.casesOn b none (some x)))
structure CQ where
  run : ET → (Nat → AObj) → Option AV
def cmap (f n : Nat) : List Operand → List CE
  | [] => []
  | x :: l => cev f n x :: cmap f n l
def runEs (t : ET) : List CE → List AV
  | [] => []
  | c :: l => c.run t :: runEs t l
theorem runEs_eq (f n : Nat) (t : ET) : ∀ l, runEs t (cmap f n l) = l.map (evB (eL f n t))
  | [] => rfl
  | x :: l => by simp [runEs, cmap, cev_eq, runEs_eq f n t l]
def cmapP (f n : Nat) : List (Nat × Operand) → List (Nat × CE)
  | [] => []
  | x :: l => (x.1, cev f n x.2) :: cmapP f n l
def runPs (t : ET) : List (Nat × CE) → List (Nat × AV)
  | [] => []
  | c :: l => (c.1, c.2.run t) :: runPs t l
theorem runPs_eq (f n : Nat) (t : ET) : ∀ l, runPs t (cmapP f n l) = l.map fun x => (x.1, evB (eL f n t) x.2)
  | [] => rfl
  | x :: l => by simp [runPs, cmapP, cev_eq, runPs_eq f n t l]
def oMap (t : ET) : Option CE → Option AV
  | some c => some (c.run t)
  | none => none
theorem oMap_eq (f n : Nat) (t : ET) (o : Option Operand) : oMap t (o.map (cev f n)) = o.map (evB (eL f n t)) := by
  cases o <;> simp [oMap, cev_eq]
def pkQ (c : AV) (a b : AV) : Option AV :=
  match c with
  | .bool true => some a
  | .bool false => some b
  | _ => none
def orQ (a b : Option AV) : Option AV :=
  match a with
  | some x => some x
  | none => b
/-- nil to the right. -/
def nilR : Operand → Option Bool
  | .const (.slice none 0 0) => some true
  | .const .nilIface => some false
  | _ => none
def cnil (P : Program) (op : BinOp) (t : TypeId) (y : Operand) : AV → Option AV :=
  match op, y with
  | .eql, .const (.slice none 0 0) => fun x => pnq P .eql t x
  | .neq, .const (.slice none 0 0) => fun x => pnq P .neq t x
  | .eql, .const .nilIface => fun x => pni P .eql t x
  | .neq, .const .nilIface => fun x => pni P .neq t x
  | _, _ => fun _ => none
def orB (a : PB) (b : PB) (c : Option AV) : Option AV :=
  Option.casesOn a (Option.casesOn b c (fun q => Prod.casesOn q (fun p x => Bool.casesOn p none (some x)))) (fun q => Prod.casesOn q (fun p x => Bool.casesOn p none (some x)))
def cqo (P : Program) (f n : Nat) (op : Op) : CQ :=
  match op with
  | .move x => ⟨fun t _ => some ((cev f n x).run t)⟩
  | .assign x => ⟨fun t _ => some ((cev f n x).run t)⟩
  | .pick c a b => ⟨fun t _ => pkQ ((cev f n c).run t) ((cev f n a).run t) ((cev f n b).run t)⟩
  | .load ty x => ⟨fun t g => okQ (pld (tI P ty) g ((cev f n x).run t))⟩
  | .nilCheck x => ⟨fun t _ => okQ (pncA ((cev f n x).run t))⟩
  | .binOp op ty x y _ => ⟨fun t _ => orB ((cbin op).run ((cev f n x).run t) ((cev f n y).run t)) (peqR op (peqo P ty ((cev f n x).run t) ((cev f n y).run t))) (cnil P op ty y ((cev f n x).run t))⟩
  | .unOp op _ x => ⟨fun t _ => okQ (punA op ((cev f n x).run t))⟩
  | .convert s d x => ⟨fun t g => okQ (pcv P s d g ((cev f n x).run t))⟩
  | .makeInterface ty x => ⟨fun t _ => okQ (some (P.concrete ty, .iface ty ((cev f n x).run t)))⟩
  | .makeFunc fn a c => ⟨fun t _ => some (.func fn (runEs t (cmap f n a.toList)) (runEs t (cmap f n c.toList)))⟩
  | .slice ty x lo hi mx => ⟨fun t _ => okQ (psl P ty ((cev f n x).run t) (oMap t (lo.map (cev f n))) (oMap t (hi.map (cev f n))) (oMap t (mx.map (cev f n))))⟩
  | .fieldAddr s x i => ⟨fun t _ => okQ (pfa (fI P s i) ((cev f n x).run t))⟩
  | .field s x i => ⟨fun t _ => okQ (pfd (fI P s i) ((cev f n x).run t))⟩
  | .indexAddr ty x i => ⟨fun t _ => okQ (pix (eI P ty) (aI P ty) ((cev f n x).run t) ((cev f n i).run t))⟩
  | .index ty x i => ⟨fun t _ => okQ (pin P ty ((cev f n x).run t) ((cev f n i).run t))⟩
  | .lookup ty x k ok => ⟨fun t g => plu P ty ((cev f n x).run t) ((cev f n k).run t) ok g⟩
  | .typeAssert x _ ty ok => ⟨fun t _ => okQ (ptaA P ((cev f n x).run t) ty ok)⟩
  | .extract x i => ⟨fun t _ => okQ (pexA ((cev f n x).run t) i)⟩
  | .build ty parts => ⟨fun t _ => okQ (pbuA (bI P ty) (runPs t (cmapP f n parts.toList)))⟩
  | .call c => (match c.callee with
    | .builtin b => if c.argTypes.size = 0 then ⟨fun _ _ => none⟩ else ⟨fun t _ => okQ (pbltA P b c.argTypes (runEs t (cmap f n c.args.toList)))⟩
    | _ => ⟨fun _ _ => none⟩)
  | _ => ⟨fun _ _ => none⟩
theorem okQ_eq (a : PB) (c : Option AV) (h : c = none) : (match a with | some (true, x) => some x | some (false, _) => none | none => c) = okQ a := by
  subst h
  unfold okQ
  cases a with
  | none => rfl
  | some q => obtain ⟨b, x⟩ := q; cases b <;> rfl
theorem cqo_eq (P : Program) (f n : Nat) (op : Op) (t : ET) (g : Nat → AObj) : (cqo P f n op).run t g = qo P op (evB (eL f n t)) g := by
  cases op <;> simp only [cqo, qo, qpp, ppop, cev_eq, runEs_eq, runPs_eq, oMap_eq] <;> try rfl
  all_goals first
    | (rw [okQ_eq _ _ rfl]; done)
    | (symm; exact okQ_eq _ _ rfl)
    | skip
  case binOp op ty x y yt =>
    rw [cbin_eq]
    have hn : qn P (.binOp op ty x y yt) (evB (eL f n t)) = cnil P op ty y (evB (eL f n t) x) := by
      unfold qn cnil
      simp only
      split <;> first | rfl | (split <;> simp_all)
    rw [hn]
    unfold orB porP
    cases pbin op (evB (eL f n t) x) (evB (eL f n t) y) with
    | some q => obtain ⟨b, z⟩ := q; cases b <;> rfl
    | none =>
      simp only
      cases peqR op (peqo P ty (evB (eL f n t) x) (evB (eL f n t) y)) with
      | some q => obtain ⟨b, z⟩ := q; cases b <;> rfl
      | none => rfl
  case call c =>
    cases hc : c.callee with
    | builtin b =>
      simp only
      split
      · rfl
      · simp only [runEs_eq]; exact (okQ_eq _ _ rfl).symm
    | value x => rfl
    | invoke x s => rfl
end Go.Proofs.Vale

set_option linter.unusedVariables false
set_option linter.unusedSimpArgs false
namespace Go.Proofs.Vale

abbrev CallT := FuncId → List AV → Mem → OV
structure CM where
  run : CallT → ET → Mem → OV
def okM (a : OV) : OV := a
def bifM (b : Bool) (a : OV) : OV := bif b then a else .none
def callV (P : Program) (call : CallT) (x : AV) (args : List AV) (m : Mem) : OV :=
  match x with
  | .func (.func f) first cap => bif enB P f then call f (first ++ args ++ cap) m else .none
  | .yl t => call yid (.yl t :: args) m
  | _ => .none
def callS (P : Program) (g : FuncId) (call : CallT) (args : List AV) (m : Mem) : OV := bif enB P g then call g args m else .none
def apS (P : Program) (ts : Array TypeId) (m : Mem) : List AV → OV
  | [A, X] => pap P ts A X m
  | _ => .none
def crS (P : Program) (ts : Array TypeId) (m : Mem) : List AV → OV
  | [X] => pcr P ts X m
  | _ => .none
def cpS (P : Program) (ts : Array TypeId) (m : Mem) : List AV → OV
  | [D, X] => pcp P ts D X m
  | _ => .none
def callI (P : Program) (name : String) (call : CallT) (x : AV) (args : List AV) (m : Mem) : OV :=
  match x with
  | .iface t y => (match mI P t name with
    | some f => bif enB P f then call f (y :: args) m else .none
    | none => .none)
  | _ => .none
def cmo (P : Program) (f n : Nat) (op : Op) : CM :=
  match op with
  | .alloc ty => (match zI P ty with | some x => ⟨fun _ _ m => pbx x m⟩ | none => ⟨fun _ _ _ => .none⟩)
  | .box _ v => ⟨fun _ t m => pbx ((cev f n v).run t) m⟩
  | .buildSlice ty k parts => ⟨fun _ t m => bsE' (eI P ty) k (runPs t (cmapP f n parts.toList)) m⟩
  | .store ty a x => ⟨fun _ t m => pst (tI P ty) ((cev f n a).run t) ((cev f n x).run t) m⟩
  | .convert s d x => ⟨fun _ t m => bif undI P s then psb P d ((cev f n x).run t) m else .none⟩
  | .range ty x => ⟨fun _ t m => prg P ty ((cev f n x).run t) m⟩
  | .next x b => ⟨fun _ t m => pnx ((cev f n x).run t) b m⟩
  | .entry x => ⟨fun _ t m => penV (pen ((cev f n x).run t) m.at) m⟩
  | .makeMap _ none => ⟨fun _ _ m => pmm m⟩
  | .makeSlice ty l c => ⟨fun _ t m => pms P ty ((cev f n l).run t) ((cev f n c).run t) m⟩
  | .mapUpdate ty x k v => ⟨fun _ t m => pmu P ty ((cev f n x).run t) ((cev f n k).run t) ((cev f n v).run t) m⟩
  | .insert ty x k v => ⟨fun _ t m => pmu P ty ((cev f n x).run t) ((cev f n k).run t) ((cev f n v).run t) m⟩
  | .mapEntry ty x k => ⟨fun _ t m => pme P ty ((cev f n x).run t) ((cev f n k).run t) m⟩
  | .entryStore _ x s v => ⟨fun _ t m => pes ((cev f n x).run t) ((cev f n s).run t) ((cev f n v).run t) m⟩
  | .call c => (match c.callee with
    | .builtin .append => ⟨fun _ t m => apS P c.argTypes m (runEs t (cmap f n c.args.toList))⟩
    | .value (.func g) => ⟨fun call t m => callS P g call (runEs t (cmap f n c.args.toList)) m⟩
    | .builtin .clear => ⟨fun _ t m => crS P c.argTypes m (runEs t (cmap f n c.args.toList))⟩
    | .builtin .copy => ⟨fun _ t m => cpS P c.argTypes m (runEs t (cmap f n c.args.toList))⟩
    | .invoke r name => ⟨fun call t m => callI P name call ((cev f n r).run t) (runEs t (cmap f n c.args.toList)) m⟩
    | .value x => ⟨fun call t m => callV P call ((cev f n x).run t) (runEs t (cmap f n c.args.toList)) m⟩
    | _ => ⟨fun _ _ _ => .none⟩)
  | _ => ⟨fun _ _ _ => .none⟩
theorem cmo_eq (P : Program) (f n : Nat) (op : Op) (call : CallT) (t : ET) (m : Mem) : (cmo P f n op).run call t m = mo P call op (evB (eL f n t)) m := by
  cases op <;> simp only [cmo, mo, cev_eq, runEs_eq, runPs_eq]
  case alloc ty => cases zI P ty <;> rfl
  case makeMap ty r => cases r <;> rfl
  case call c =>
    cases hc : c.callee with
    | builtin b =>
      cases b <;> try rfl
      all_goals
        simp only [runEs_eq]
        rcases h : c.args.toList with _ | ⟨a, _ | ⟨b, _ | ⟨d, l⟩⟩⟩ <;> rfl
    | value x =>
      cases x with
      | func g =>
        simp only [runEs_eq, callS, evB, List.nil_append, List.append_nil]
      | tmp k => simp only [runEs_eq, callV, cev_eq]; rfl
      | const v => simp only [runEs_eq, callV, cev_eq]; rfl
      | global g => simp only [runEs_eq, callV, cev_eq]; rfl
    | invoke x s => simp only [runEs_eq, callI, cev_eq]; rfl

/-! Regions -/
inductive KE where
  | none
  | ok (t : ET) (m : Mem)
def mapK (f n : Nat) : KE → OE
  | .none => .none
  | .ok t m => .ok (eL f n t) m
structure CR where
  run : CallT → ET → Mem → KE
structure CG where
  run : ET → Option Bool
def cguard (f n : Nat) (all : List Oper) (i : Nat) (g : Option (Nat × Bool)) : CG :=
  match g with
  | none => ⟨fun _ => some true⟩
  | some (j, want) => bif Nat.blt j i then (match nthO all j with
    | some o => (match o.dst with
      | some d => ⟨fun t => gdB ((cev f n (.tmp d)).run t) want⟩
      | none => ⟨fun _ => none⟩)
    | none => ⟨fun _ => none⟩) else ⟨fun _ => none⟩
theorem cguard_eq (f n : Nat) (all : List Oper) (i : Nat) (g : Option (Nat × Bool)) (t : ET) : (cguard f n all i g).run t = guardB (eL f n t) all i g := by
  unfold cguard guardB
  cases g with
  | none => rfl
  | some jw =>
    obtain ⟨j, want⟩ := jw
    simp only
    cases Nat.blt j i with
    | false => rfl
    | true =>
      simp only [cond_true]
      cases nthO all j with
      | none => rfl
      | some o =>
        simp only
        cases o.dst with
        | none => rfl
        | some d => simp only [cev_eq, evB]
/-- Where a value goes: out of range it goes nowhere. -/
def cput (f n : Nat) (dst : Option Nat) : CP :=
  match dst with
  | some d => bif Nat.blt d n then cset (path f d) else ⟨fun t _ => t⟩
  | none => ⟨fun t _ => t⟩
theorem cput_eq {f n : Nat} (hn : n ≤ 8 ^ f) (dst : Option Nat) (t : ET) (x : AV) : eL f n ((cput f n dst).run t x) = putB (eL f n t) dst x := by
  cases dst with
  | none => rfl
  | some d =>
    simp only [cput, putB, setA_eq]
    cases h : Nat.blt d n with
    | true => rw [cond_true, cset_eq, eL_set hn (blt_iff.1 h)]
    | false =>
      rw [cond_false, List.set_eq_of_length_le]
      rw [eL_len]
      have : ¬ d < n := fun q => by rw [blt_iff.2 q] at h; cases h
      omega
def stepM (r : CR) (p : CP) (call : CallT) (t : ET) (v : OV) : KE := OV.casesOn v .none (fun x m => r.run call (p.run t x) m)
def stepQ (r : CR) (p : CP) (call : CallT) (t : ET) (m : Mem) (o : CM) (q : Option AV) : KE := Option.casesOn q (OV.casesOn (o.run call t m) .none (fun x m => r.run call (p.run t x) m)) (fun x => r.run call (p.run t x) m)
/-- Whether an operation can only turn memory. -/
def onlyM (op : Op) : Bool :=
  match op with
  | .alloc _ | .box .. | .buildSlice .. | .store .. | .range .. | .next .. | .makeMap .. | .makeSlice .. | .mapUpdate .. | .insert .. | .mapEntry .. | .entryStore .. => true
  | .call c => (match c.callee with | .builtin .append => true | .value _ => true | .invoke .. => true | _ => false)
  | _ => false
theorem onlyM_q {P : Program} {op : Op} {ev : Operand → AV} {g : Nat → AObj} (h : onlyM op = true) : qo P op ev g = none := by
  cases op <;> first | rfl | (cases h; done) | skip
  rename_i c
  simp only [onlyM] at h
  simp only [qo, qpp, ppop, qn]
  split at h
  · rename_i hc
    simp only [hc]
    have : (if c.argTypes.size = 0 then none else pbltA P .append c.argTypes (c.args.toList.map ev)) = none := by split <;> rfl
    rw [this]
  · rename_i hc; simp only [hc]
  · rename_i hc; simp only [hc]
  · cases h
/-- Only a value is taken over. -/
def isMove (op : Op) : Option Operand :=
  match op with
  | .move x => some x
  | .assign x => some x
  | _ => none
theorem isMove_q {P : Program} {op : Op} {x : Operand} (h : isMove op = some x) (ev : Operand → AV) (g : Nat → AObj) : qo P op ev g = some (ev x) := by
  cases op <;> first | (injection h with h; subst h; rfl) | cases h
def cone (P : Program) (f n : Nat) (o : Oper) (r : CR) : CR :=
  match isMove o.op with
  | some x => ⟨fun call t m => r.run call ((cput f n o.dst).run t ((cev f n x).run t)) m⟩
  | none =>
  bif onlyM o.op then ⟨fun call t m => stepM r (cput f n o.dst) call t ((cmo P f n o.op).run call t m)⟩
  else ⟨fun call t m => stepQ r (cput f n o.dst) call t m (cmo P f n o.op) ((cqo P f n o.op).run t m.at)⟩
def condK (b : Option Bool) (x y : KE) : KE :=
  match b with
  | some true => x
  | some false => y
  | none => .none
def cseq (P : Program) (f n : Nat) (all : List Oper) : List Oper → Nat → CR
  | [], _ => ⟨fun _ t m => .ok t m⟩
  | o :: os, i => (match o.guard with
    | none => cone P f n o (cseq P f n all os (i + 1))
    | some q => ⟨fun call t m => condK ((cguard f n all i (some q)).run t) ((cone P f n o (cseq P f n all os (i + 1))).run call t m) ((cseq P f n all os (i + 1)).run call ((cput f n o.dst).run t (.tup [])) m)⟩)
theorem cone_eq {P : Program} {f n : Nat} (hn : n ≤ 8 ^ f) {o : Oper} {r : CR} {call : CallT} {K : List AV → Mem → OE} (hr : ∀ t m, mapK f n (r.run call t m) = K (eL f n t) m) (t : ET) (m : Mem) :
    mapK f n ((cone P f n o r).run call t m) = (match ro P call o.op (evB (eL f n t)) m with | .val x m' => K (putB (eL f n t) o.dst x) m' | .none => .none) := by
  have hM : ∀ v : OV, mapK f n (stepM r (cput f n o.dst) call t v) = (match v with | .val x m' => K (putB (eL f n t) o.dst x) m' | .none => .none) := by
    intro v
    cases v with
    | none => rfl
    | val x m' => simp only [stepM, hr, cput_eq hn]
  unfold cone
  cases hv : isMove o.op with
  | some x => simp only [hr, cput_eq hn, cev_eq, ro, isMove_q hv]
  | none =>
  simp only
  cases ho : onlyM o.op with
  | true =>
    simp only [cond_true, hM, cmo_eq, ro, onlyM_q ho]
  | false =>
    simp only [cond_false, cqo_eq, ro]
    cases qo P o.op (evB (eL f n t)) m.at with
    | none =>
      show mapK f n (stepM r (cput f n o.dst) call t ((cmo P f n o.op).run call t m)) = _
      simp only [hM, cmo_eq]
    | some x => simp only [stepQ, hr, cput_eq hn]
theorem cseq_eq {P : Program} {f n : Nat} (hn : n ≤ 8 ^ f) {call : CallT} {all : List Oper} : ∀ (os : List Oper) (i : Nat) (t : ET) (m : Mem), mapK f n ((cseq P f n all os i).run call t m) = seqB P call all os i (eL f n t) m
  | [], i, t, m => rfl
  | o :: os, i, t, m => by
    have ih := cseq_eq (P := P) hn (call := call) (all := all) os (i + 1)
    have h1 := cone_eq (P := P) (o := o) hn ih t m
    simp only [cseq, seqB]
    cases hg : o.guard with
    | none =>
      simp only [guardB]
      exact h1
    | some q =>
      simp only
      rw [← cguard_eq f n all i (some q) t]
      cases (cguard f n all i (some q)).run t with
      | none => rfl
      | some b =>
        cases b with
        | true => exact h1
        | false => simp only [condK, ih, cput_eq hn]

/-! Drawn regions -/
structure KEnt where
  t : ET
  x : AV
  m : Mem
inductive KP where
  | none
  | ok (es : List KEnt) (t : ET) (m : Mem)
def mapEnt (f n : Nat) (e : KEnt) : Ent := ⟨eL f n e.t, e.x, e.m⟩
def mapKP (f n : Nat) : KP → OP
  | .none => .none
  | .ok es t m => .ok (es.map (mapEnt f n)) (eL f n t) m
def consK (e : KEnt) : KP → KP
  | .ok es t m => .ok (e :: es) t m
  | .none => .none
theorem consK_eq (f n : Nat) (e : KEnt) (r : KP) : mapKP f n (consK e r) = consE (mapEnt f n e) (mapKP f n r) := by cases r <;> rfl
structure CD where
  run : CallT → ET → Mem → KP
def passM (r : CD) (p : CP) (call : CallT) (t : ET) (m : Mem) : OV → KP
  | .val x m' => bif Nat.ble m.n m'.n then consK ⟨t, x, m⟩ (r.run call (p.run t x) m') else .none
  | .none => .none
def passQ (r : CD) (p : CP) (call : CallT) (t : ET) (m : Mem) : Option AV → KP
  | some x => consK ⟨t, x, m⟩ (r.run call (p.run t x) m)
  | none => .none
def passR (o : CM) (call : CallT) (t : ET) (m : Mem) : Option AV → OV
  | some x => .val x m
  | none => o.run call t m
def condP (b : Option Bool) (x y : KP) : KP :=
  match b with
  | some true => x
  | some false => y
  | none => .none
def cdone (P : Program) (f n : Nat) (o : Oper) (r : CD) : CD :=
  match isT o.op with
  | true => ⟨fun call t m => passM r (cput f n o.dst) call t m (passR (cmo P f n o.op) call t m ((cqo P f n o.op).run t m.at))⟩
  | false => ⟨fun call t m => passQ r (cput f n o.dst) call t m ((cqo P f n o.op).run t m.at)⟩
def cpass (P : Program) (f n : Nat) (all : List Oper) : List Oper → Nat → CD
  | [], _ => ⟨fun _ t m => .ok [] t m⟩
  | o :: os, i => ⟨fun call t m => condP ((cguard f n all i o.guard).run t) ((cdone P f n o (cpass P f n all os (i + 1))).run call t m) (consK ⟨t, .tup [], m⟩ ((cpass P f n all os (i + 1)).run call ((cput f n o.dst).run t (.tup [])) m))⟩
theorem cpass_eq {P : Program} {f n : Nat} (hn : n ≤ 8 ^ f) {call : CallT} {all : List Oper} : ∀ (os : List Oper) (i : Nat) (t : ET) (m : Mem), mapKP f n ((cpass P f n all os i).run call t m) = passB P call all os i (eL f n t) m
  | [], i, t, m => rfl
  | o :: os, i, t, m => by
    have ih := cpass_eq (P := P) hn (call := call) (all := all) os (i + 1)
    simp only [cpass, passB]
    rw [← cguard_eq f n all i o.guard t]
    cases (cguard f n all i o.guard).run t with
    | none => rfl
    | some b =>
      cases b with
      | false => simp only [condP, consK_eq, ih, cput_eq hn]; rfl
      | true =>
        simp only [condP, cdone]
        cases isT o.op with
        | true =>
          simp only [cqo_eq, ro]
          have hM : ∀ v : OV, mapKP f n (passM (cpass P f n all os (i + 1)) (cput f n o.dst) call t m v) = (match v with | .val x m' => lenP m m' (consE ⟨eL f n t, x, m⟩ (passB P call all os (i + 1) (putB (eL f n t) o.dst x) m')) | .none => .none) := by
            intro v
            cases v with
            | none => rfl
            | val x m' =>
              simp only [passM, lenP]
              cases Nat.ble m.n m'.n with
              | false => rfl
              | true => simp only [cond_true, consK_eq, ih, cput_eq hn]; rfl
          cases qo P o.op (evB (eL f n t)) m.at with
          | none => simp only [passR, hM, cmo_eq]; cases mo P call o.op (evB (eL f n t)) m <;> rfl
          | some x => simp only [passR, hM]
        | false =>
          simp only [cqo_eq]
          cases qo P o.op (evB (eL f n t)) m.at with
          | none => rfl
          | some x => simp only [passQ, consK_eq, ih, cput_eq hn]; rfl
def kmemAt (m' : Mem) : List KEnt → Nat → Mem
  | [], _ => m'
  | e :: es, k => match k with
    | 0 => e.m
    | k + 1 => kmemAt m' es k
theorem kmemAt_eq (f n : Nat) (m' : Mem) : ∀ (es : List KEnt) (k : Nat), kmemAt m' es k = memAt m' (es.map (mapEnt f n)) k
  | [], k => rfl
  | e :: es, 0 => rfl
  | e :: es, k + 1 => kmemAt_eq f n m' es k
/-- Operations that never look at memory. -/
def staticFree (op : Op) : Bool :=
  match op with
  | .load .. | .convert .. | .lookup .. => false
  | _ => true
def kchkL (q : CQ) (t : ET) (x : AV) (m' : Mem) (es : List KEnt) : List Nat → Bool
  | [] => true
  | k :: ks => (match q.run t (kmemAt m' es k).at with | some y => y.same x | none => false) && kchkL q t x m' es ks
theorem kchkL_eq (P : Program) (f n : Nat) (op : Op) (t : ET) (x : AV) (m' : Mem) (es : List KEnt) : ∀ l, kchkL (cqo P f n op) t x m' es l = chkL P op (evB (eL f n t)) x m' (es.map (mapEnt f n)) l
  | [] => rfl
  | k :: l => by simp only [kchkL, chkL, cqo_eq, kmemAt_eq f n, kchkL_eq P f n op t x m' es l]; cases qo P op (evB (eL f n t)) (memAt m' (List.map (mapEnt f n) es) k).at <;> rfl
structure CK where
  run : Mem → List KEnt → List KEnt → Bool
def kmemFree (f n : Nat) (op : Op) : CG :=
  match op with
  | .load _ x => ⟨fun t => match (cev f n x).run t with | .ref .. => some false | _ => some true⟩
  | .convert _ _ x => ⟨fun t => match (cev f n x).run t with | .sl .. => some false | _ => some true⟩
  | .lookup _ x _ _ => ⟨fun t => match (cev f n x).run t with | .mp _ => some false | _ => some true⟩
  | _ => ⟨fun _ => some true⟩
def isTrue : Option Bool → Bool
  | some true => true
  | _ => false
theorem kmemFree_eq (f n : Nat) (op : Op) (t : ET) : isTrue ((kmemFree f n op).run t) = memFree op (evB (eL f n t)) := by
  cases op <;> simp only [kmemFree, memFree, cev_eq] <;> try rfl
  all_goals (generalize evB (eL f n t) _ = y; cases y <;> rfl)
def isFalse : Option Bool → Bool
  | some false => true
  | _ => false
def cchk (P : Program) (f n : Nat) (all : List Oper) : List Oper → List (List Nat) → Nat → CK
  | o :: os, w :: ws, i =>
    match isT o.op || staticFree o.op with
    | true => ⟨fun m' es fs => match fs with
      | e :: fs => (cchk P f n all os ws (i + 1)).run m' es fs
      | [] => true⟩
    | false => ⟨fun m' es fs => match fs with
      | e :: fs => (isFalse ((cguard f n all i o.guard).run e.t) || isTrue ((kmemFree f n o.op).run e.t) || kchkL (cqo P f n o.op) e.t e.x m' es w) && (cchk P f n all os ws (i + 1)).run m' es fs
      | [] => true⟩
  | _, _, _ => ⟨fun _ _ _ => true⟩
theorem staticFree_ok {op : Op} (h : staticFree op = true) (ev : Operand → AV) : memFree op ev = true := by
  cases op <;> first | rfl | cases h
theorem cchk_eq {P : Program} {f n : Nat} {all : List Oper} {N : Nat} {env' : List AV} {m' : Mem} {es : List KEnt} : ∀ (os : List Oper) (ws : List (List Nat)) (i : Nat) (fs : List KEnt), (cchk P f n all os ws i).run m' es fs = true → chkB P all N env' m' (es.map (mapEnt f n)) (fs.map (mapEnt f n)) os ws i = true
  | [], ws, i, fs, h => by cases fs <;> rfl
  | o :: os, [], i, fs, h => by cases fs <;> rfl
  | o :: os, w :: ws, i, [], h => rfl
  | o :: os, w :: ws, i, e :: fs, h => by
    rw [List.map_cons, chkB, Bool.and_eq_true]
    rw [cchk] at h
    cases hs : isT o.op || staticFree o.op with
    | true =>
      rw [hs] at h
      refine ⟨?_, cchk_eq os ws (i + 1) fs h⟩
      rw [Bool.or_eq_true] at hs ⊢
      rcases hs with q | q
      · exact .inl q
      · right
        split
        · rfl
        · rw [staticFree_ok q]; rfl
    | false =>
      rw [hs] at h
      simp only [Bool.and_eq_true] at h
      refine ⟨?_, cchk_eq os ws (i + 1) fs h.2⟩
      have h1 := h.1
      rw [Bool.or_eq_true]
      right
      rw [cguard_eq, kmemFree_eq, kchkL_eq] at h1
      show (match guardB (eL f n e.t) all i o.guard with | some false => true | _ => memFree o.op (evB (eL f n e.t)) || chkL P o.op (evB (eL f n e.t)) e.x m' (es.map (mapEnt f n)) w) = true
      cases hg : guardB (eL f n e.t) all i o.guard with
      | none => rw [hg] at h1; simpa [isFalse] using h1
      | some b => cases b with
        | false => rfl
        | true => rw [hg] at h1; simpa [isFalse] using h1
structure CDR where
  run : KP → KE
def endD (k : CK) : KP → KE
  | .ok es t m => bif k.run m es es then .ok t m else .none
  | .none => .none
def cdraw (P : Program) (f n : Nat) (ops : Array Oper) : CR :=
  match okD ops with
  | true => ⟨fun call t m => endD (cchk P f n ops.toList ops.toList (winL ops.toList ops.size) 0) ((cpass P f n ops.toList ops.toList 0).run call t m)⟩
  | false => ⟨fun _ _ _ => .none⟩
theorem cdraw_ok {P : Program} (hm : P.follows .mixedOrders = true) {f n : Nat} (hn : n ≤ 8 ^ f) {call : CallT} (hc : CallOk P call) {ops : Array Oper} {t : ET} {m : Mem} {t' : ET} {m' : Mem} (h : (cdraw P f n ops).run call t m = .ok t' m') :
    ADraw P ops (fun e g => e = eL f n t' ∧ g = m'.L) (eL f n t) m.L := by
  refine drawB_ok hm hc (?_ : drawB P call ops (eL f n t) m = .ok (eL f n t') m')
  unfold cdraw at h
  unfold drawB
  cases hok : okD ops with
  | false => rw [hok] at h; cases h
  | true =>
    rw [hok] at h
    simp only [cond_true]
    simp only at h
    rw [← cpass_eq hn]
    cases hp : (cpass P f n ops.toList ops.toList 0).run call t m with
    | none => rw [hp] at h; cases h
    | ok es t1 m1 =>
      rw [hp] at h
      simp only [endD] at h
      cases hk : (cchk P f n ops.toList ops.toList (winL ops.toList ops.size) 0).run m1 es es with
      | false => rw [hk] at h; cases h
      | true =>
        rw [hk] at h
        simp only [cond_true, KE.ok.injEq] at h
        obtain ⟨rfl, rfl⟩ := h
        simp only [mapKP]
        rw [cchk_eq _ _ _ _ hk]
        rfl
end Go.Proofs.Vale

set_option linter.unusedVariables false
set_option linter.unusedSimpArgs false
namespace Go.Proofs.Vale

/-! ### Code -/
inductive KC where
  | none
  | out (e : XE) (t : ET) (m : Mem)
structure CC where
  run : CallT → Nat → ET → Mem → KC
def endK (v : KE) : KC := KE.casesOn v .none (fun t m => .out .normal t m)
def seqK (b : CC) (call : CallT) (L : Nat) (v : KC) : KC := KC.casesOn v .none (fun e t m => XE.casesOn e (b.run call L t m) (.out .ret t m) (fun i => .out (.exit i) t m))
def condC (x : AV) (a b : KC) : KC :=
  match x with
  | .bool true => a
  | .bool false => b
  | _ => .none
def blockK (id : Nat) : KC → KC
  | .out e t m => (match e with
    | .normal => .out .normal t m
    | .ret => .out .ret t m
    | .exit i => bif Nat.beq i id then .out .normal t m else .out (.exit i) t m)
  | .none => .none
def loopK (b : CC) (call : CallT) (L : Nat) : Nat → ET → Mem → KC
  | 0, _, _ => .none
  | k + 1, t, m => KC.casesOn (b.run call L t m) .none (fun e t m => XE.casesOn e (loopK b call L k t m) (.out .ret t m) (fun i => .out (.exit i) t m))
/-- Behind the function that is ranged over. -/
def rangeE (k : Nat) (t : ET) (m : Mem) : AObj → KC
  | .ctl (.loop _ _ _ _ pe) => (match pe with
    | none => bif m.ok then .out .normal t (m.set k .dead) else .none
    | some c => (match c with
      | .ret => bif m.ok then .out .ret t (m.set k .dead) else .none
      | .exit i => bif m.ok then .out (.exit i) t (m.set k .dead) else .none
      | _ => .none))
  | _ => .none
def rangeK (P : Program) (f n : Nat) (ps : Array Tmp) (a b : Code) (call : CallT) (t : ET) (m : Mem) (x : AV) : KC :=
  match x with
  | .func (.func g) first cap => bif m.ok && enB P g then (match call g (first ++ .yl m.n :: cap) (m.push (.loop ps a b (eL f n t) none)) with
    | .val _ m' => rangeE m.n t m' (m'.at m.n)
    | .none => .none) else .none
  | _ => .none
def ccode (P : Program) (f n : Nat) (c : Code) : CC :=
  match c with
  | .skip => ⟨fun _ _ t m => .out .normal t m⟩
  | .region _ ops draw => (match draw with
    | false => ⟨fun call _ t m => endK ((cseq P f n ops.toList ops.toList 0).run call t m)⟩
    | true => ⟨fun call _ t m => endK ((cdraw P f n ops).run call t m)⟩)
  | .seq a b => ⟨fun call L t m => seqK (ccode P f n b) call L ((ccode P f n a).run call L t m)⟩
  | .cond x a b => ⟨fun call L t m => condC ((cev f n x).run t) ((ccode P f n a).run call L t m) ((ccode P f n b).run call L t m)⟩
  | .block id c => ⟨fun call L t m => blockK id ((ccode P f n c).run call L t m)⟩
  | .loop c => ⟨fun call L t m => loopK (ccode P f n c) call L L t m⟩
  | .exit id => ⟨fun _ _ t m => .out (.exit id) t m⟩
  | .ret => ⟨fun _ _ t m => .out .ret t m⟩
  | .scope c => ⟨fun call L t m => (ccode P f n c).run call L t m⟩
  | .label _ => ⟨fun _ _ t m => .out .normal t m⟩
  | .rangeFunc g ps a b => ⟨fun call _ t m => rangeK P f n ps a b call t m ((cev f n g).run t)⟩
  | _ => ⟨fun _ _ _ _ => .none⟩

theorem loopK_ok {P : Program} {f n : Nat} {c : Code} {b : CC} {call : CallT} {L : Nat} (hb : ∀ t m e t' m', b.run call L t m = .out e t' m' → AWP P c (Res e (eL f n t') m'.L) (eL f n t) m.L) : ∀ (k : Nat) (t : ET) (m : Mem) (e : XE) (t' : ET) (m' : Mem), loopK b call L k t m = .out e t' m' →
    ∀ (n0 : Nat) (ro : Option Nat) (ds : List Deferred) (tmps : Array Value) (w0 w : World) (β0 β : Beta) (fr0 fr : Nat → Prop) (h0 : List AObj), Sur n0 ro ds β fr m.L w → Lay β fr w.heap m.L → EnvRep β fr w.heap (eL f n t) tmps → Step1 β0 fr0 h0 w0 β fr m.L w →
      Code.roundsIn (roF ro) 0 P c (fun e1 a' w' => ∃ env1 h1 β' fr', Res e (eL f n t') m'.L e1 env1 h1 ∧ Sur n0 ro a'.defers β' fr' h1 w' ∧ Lay β' fr' w'.heap h1 ∧ EnvRep β' fr' w'.heap env1 a'.tmps ∧ Step1 β0 fr0 h0 w0 β' fr' h1 w') k ⟨tmps, ds⟩ w
  | 0, t, m, e, t', m', h => by cases h
  | k + 1, t, m, e, t', m', h => by
    intro n0 ro ds tmps w0 w β0 β fr0 fr h0 Su L0 R S
    rw [roundsIn_succ]
    simp only [loopK] at h
    cases hr : b.run call L t m with
    | none => rw [hr] at h; cases h
    | out e1 t1 m1 =>
      rw [hr] at h
      refine wpIn_mono (hb _ _ _ _ _ hr n0 ro ds tmps w β fr Su L0 R) ?_
      rintro e2 ⟨t2, d2⟩ w2 ⟨env2, h2, β2, fr2, ⟨rfl, rfl, rfl⟩, Su2, L2, R2, S2⟩
      cases e1 with
      | normal => exact loopK_ok hb k t1 m1 e t' m' h n0 ro d2 t2 w0 w2 β0 β2 fr0 fr2 h0 Su2 L2 R2 (S.trans S2)
      | ret =>
        simp only [KC.out.injEq] at h
        obtain ⟨rfl, rfl, rfl⟩ := h
        exact ⟨_, m1.L, β2, fr2, ⟨rfl, rfl, rfl⟩, Su2, L2, R2, S.trans S2⟩
      | exit i =>
        simp only [KC.out.injEq] at h
        obtain ⟨rfl, rfl, rfl⟩ := h
        exact ⟨_, m1.L, β2, fr2, ⟨rfl, rfl, rfl⟩, Su2, L2, R2, S.trans S2⟩

theorem bifk {b : Bool} {a : KC} {e : XE} {t : ET} {m : Mem} (h : (bif b then a else .none) = .out e t m) : b = true ∧ a = .out e t m := by
  cases b with
  | true => exact ⟨rfl, h⟩
  | false => cases h
theorem ccode_ok {P : Program} (hm : P.follows .mixedOrders = true) {f n : Nat} (hn : n ≤ 8 ^ f) {call : CallT} (hc : CallOk P call) {L : Nat} : ∀ (c : Code) (t : ET) (m : Mem) (e : XE) (t' : ET) (m' : Mem), (ccode P f n c).run call L t m = .out e t' m' → AWP P c (Res e (eL f n t') m'.L) (eL f n t) m.L := by
  intro c
  induction c with
  | skip =>
    intro t m e t' m' h
    simp only [ccode, KC.out.injEq] at h
    obtain ⟨rfl, rfl, rfl⟩ := h
    exact AWP.stay (.inl ⟨.inl rfl, rfl⟩) ⟨rfl, rfl, rfl⟩
  | region id ops draw =>
    intro t m e t' m' h
    cases draw with
    | false =>
      simp only [ccode] at h
      cases hs : (cseq P f n ops.toList ops.toList 0).run call t m with
      | none => rw [hs] at h; cases h
      | ok t1 m1 =>
        rw [hs] at h
        simp only [endK, KC.out.injEq] at h
        obtain ⟨rfl, rfl, rfl⟩ := h
        have := cseq_eq (P := P) hn (call := call) (all := ops.toList) ops.toList 0 t m
        rw [hs] at this
        exact AWP.region (seqB_ok hc ops.toList [] _ m _ m1 rfl this.symm)
    | true =>
      simp only [ccode] at h
      cases hs : (cdraw P f n ops).run call t m with
      | none => rw [hs] at h; cases h
      | ok t1 m1 =>
        rw [hs] at h
        simp only [endK, KC.out.injEq] at h
        obtain ⟨rfl, rfl, rfl⟩ := h
        refine (cdraw_ok hm hn hc hs id).mono fun e1 env2 h2 q => ?_
        cases e1 <;> first | exact q.elim | exact ⟨rfl, q.1, q.2⟩
  | seq a b iha ihb =>
    intro t m e t' m' h
    simp only [ccode] at h
    cases hr : (ccode P f n a).run call L t m with
    | none => rw [hr] at h; cases h
    | out e1 t1 m1 =>
      rw [hr] at h
      refine AWP.seq ((iha _ _ _ _ _ hr).mono ?_)
      rintro e2 env2 h2 ⟨rfl, rfl, rfl⟩
      simp only [seqK] at h
      cases e1 with
      | normal => exact ihb _ _ _ _ _ h
      | ret =>
        simp only [KC.out.injEq] at h
        obtain ⟨rfl, rfl, rfl⟩ := h
        exact ⟨rfl, rfl, rfl⟩
      | exit i =>
        simp only [KC.out.injEq] at h
        obtain ⟨rfl, rfl, rfl⟩ := h
        exact ⟨rfl, rfl, rfl⟩
  | cond x a b iha ihb =>
    intro t m e t' m' h
    simp only [ccode, cev_eq, evB_eq] at h
    unfold condC at h
    split at h
    · rename_i ex; exact AWP.cond ex (iha _ _ _ _ _ h)
    · rename_i ex; exact AWP.cond ex (ihb _ _ _ _ _ h)
    · cases h
  | block id c ih =>
    intro t m e t' m' h
    simp only [ccode] at h
    cases hr : (ccode P f n c).run call L t m with
    | none => rw [hr] at h; cases h
    | out e1 t1 m1 =>
      rw [hr] at h
      refine AWP.block ((ih _ _ _ _ _ hr).mono ?_)
      rintro e2 env2 h2 ⟨rfl, rfl, rfl⟩
      simp only [blockK] at h
      cases e1 with
      | normal =>
        simp only [KC.out.injEq] at h
        obtain ⟨rfl, rfl, rfl⟩ := h
        exact ⟨rfl, rfl, rfl⟩
      | ret =>
        simp only [KC.out.injEq] at h
        obtain ⟨rfl, rfl, rfl⟩ := h
        exact ⟨rfl, rfl, rfl⟩
      | exit i =>
        simp only [XE.ex]
        dsimp only at h
        cases hb : Nat.beq i id with
        | true =>
          rw [hb] at h
          simp only [cond_true, KC.out.injEq] at h
          obtain ⟨rfl, rfl, rfl⟩ := h
          rw [if_pos (beq_iff.1 hb)]
          exact ⟨rfl, rfl, rfl⟩
        | false =>
          rw [hb] at h
          simp only [cond_false, KC.out.injEq] at h
          obtain ⟨rfl, rfl, rfl⟩ := h
          rw [if_neg (fun q => by rw [beq_iff.2 q] at hb; cases hb)]
          exact ⟨rfl, rfl, rfl⟩
  | loop c ih =>
    intro t m e t' m' h
    simp only [ccode] at h
    intro n0 ro ds tmps w β fr Su L0 R
    exact wpIn_loop_rounds L (loopK_ok ih L t m e t' m' h n0 ro ds tmps w w β β fr fr m.L Su L0 R (Step1.refl _ _ _ _))
  | exit id =>
    intro t m e t' m' h
    simp only [ccode, KC.out.injEq] at h
    obtain ⟨rfl, rfl, rfl⟩ := h
    exact AWP.stay (.inr (.inr ⟨_, rfl, rfl⟩)) ⟨rfl, rfl, rfl⟩
  | ret =>
    intro t m e t' m' h
    simp only [ccode, KC.out.injEq] at h
    obtain ⟨rfl, rfl, rfl⟩ := h
    exact AWP.stay (.inr (.inl ⟨rfl, rfl⟩)) ⟨rfl, rfl, rfl⟩
  | scope c ih =>
    intro t m e t' m' h
    simp only [ccode] at h
    refine AWP.scope ((ih _ _ _ _ _ h).mono ?_)
    rintro e2 env2 h2 ⟨rfl, rfl, rfl⟩
    cases e <;> exact ⟨rfl, rfl, rfl⟩
  | label l =>
    intro t m e t' m' h
    simp only [ccode, KC.out.injEq] at h
    obtain ⟨rfl, rfl, rfl⟩ := h
    exact AWP.stay (.inl ⟨.inr ⟨_, rfl⟩, rfl⟩) ⟨rfl, rfl, rfl⟩
  | rangeFunc g ps a b iha ihb =>
    intro t m e t' m' h
    simp only [ccode, cev_eq, evB_eq] at h
    refine rf_ok ?_
    unfold rangeK at h
    split at h
    case h_2 => cases h
    rename_i gf first cap ex
    rw [ex]
    cases hok : (m.ok && enB P gf) with
    | false => rw [hok] at h; cases h
    | true =>
      rw [hok] at h
      simp only [cond_true] at h
      rw [Bool.and_eq_true] at hok
      obtain ⟨h1, h2⟩ := hok
      obtain ⟨h2, h3⟩ := enB_ok h2
      refine ⟨h2, ?_⟩
      split at h
      case h_2 => cases h
      rename_i v m1 hcall
      have hA := (hc _ _ _ _ _ hcall).1 h3
      rw [Mem.push_L _ h1] at hA
      rw [Mem.L_len, List.append_assoc]
      refine hA.mono ?_
      rintro y g ⟨rfl, rfl⟩
      unfold rfEnd
      cases hat : m1.at m.n with
      | ctl c =>
       cases c with
       | mit _ _ _ => rw [hat] at h; cases h
       | loop ps2 a2 b2 env2 pe =>
        have hg := Mem.at_get (m := m1) (k := m.n) (by rw [hat]; intro q; cases q)
        have hlt : m.n < m1.n := by
          have := (List.getElem?_eq_some_iff.1 hg).1
          rwa [Mem.L_len] at this
        rw [hat] at hg h
        simp only [rangeE] at h
        rw [hg]
        cases pe with
        | none =>
          simp only at h
          obtain ⟨hm1, h⟩ := bifk h
          simp only [KC.out.injEq] at h
          obtain ⟨rfl, rfl, rfl⟩ := h
          exact ⟨rfl, rfl, (Mem.set_L _ hm1 hlt).symm⟩
        | some c =>
          cases c with
          | ret =>
            simp only at h
            obtain ⟨hm1, h⟩ := bifk h
            simp only [KC.out.injEq] at h
            obtain ⟨rfl, rfl, rfl⟩ := h
            exact ⟨rfl, rfl, (Mem.set_L _ hm1 hlt).symm⟩
          | exit i =>
            simp only at h
            obtain ⟨hm1, h⟩ := bifk h
            simp only [KC.out.injEq] at h
            obtain ⟨rfl, rfl, rfl⟩ := h
            exact ⟨rfl, rfl, (Mem.set_L _ hm1 hlt).symm⟩
          | _ => simp at h
      | _ => rw [hat] at h; cases h
  | _ =>
    intro t m e t' m' h
    simp [ccode] at h

/-! Functions -/
def isDead : Option AObj → Bool
  | some o => (match o with | .dead => true | _ => false)
  | none => true
theorem isDead_ok {o : Option AObj} (h : isDead o = true) : oDead o = .dead := by
  cases o with
  | none => rfl
  | some o => cases o <;> first | rfl | cases h
inductive XS where
  | none
  | some (g : List AV → Mem → OV)
structure CF where
  run : CallT → Nat → List AV → Mem → OV
structure CZ where
  run : ET → Mem → PB
def cresE (P : Program) (f n : Nat) (r : ResultVar) : CZ :=
  match r with
  | .tmp k => ⟨fun t _ => some (true, (cev f n (.tmp k)).run t)⟩
  | .cell a ty => ⟨fun t m => pld (tI P ty) m.at ((cev f n (.tmp a)).run t)⟩
structure CZL where
  run : ET → Mem → Option (List AV)
def cresL (P : Program) (f n : Nat) : List ResultVar → CZL
  | [] => ⟨fun _ _ => some []⟩
  | r :: rs => ⟨fun t m => match (cresE P f n r).run t m with
    | some (true, x) => (match (cresL P f n rs).run t m with
      | some xs => some (x :: xs)
      | none => none)
    | _ => none⟩
def tupR (m : Mem) : Option (List AV) → OV
  | some [x] => .val x m
  | some xs => .val (.tup xs) m
  | none => .none
theorem cresL_eq (P : Program) (f n : Nat) (t : ET) (m : Mem) : ∀ rs, (cresL P f n rs).run t m = resLB P m (eL f n t) rs
  | [] => rfl
  | r :: rs => by
    have h : (cresE P f n r).run t m = resEB P m (eL f n t) r := by
      cases r <;> simp only [cresE, resEB, cev_eq, evB]
    simp only [cresL, resLB, h, cresL_eq P f n t m rs] <;> (rcases resEB P m (eL f n t) r with _ | ⟨b, x⟩ <;> first | rfl | (cases b <;> cases resLB P m (eL f n t) rs <;> rfl))
theorem tupR_eq (P : Program) (m : Mem) (env : List AV) (rs : List ResultVar) : tupR m (resLB P m env rs) = resB P rs env m := by
  unfold tupR resB
  cases resLB P m env rs with
  | none => rfl
  | some xs => cases xs with
    | nil => rfl
    | cons a l => cases l <;> rfl
def finK (z : CZL) : KC → OV
  | .out e t m => (match e with
    | .exit _ => .none
    | .normal => tupR m (z.run t m)
    | .ret => tupR m (z.run t m))
  | .none => .none
/-- So many steps down to a place. -/
def bitsFor (n : Nat) : Nat := bif Nat.ble n 8 then 1 else bif Nat.ble n 64 then 2 else 3
def cbody (P : Program) (fn : Func) (c : Code) : CF :=
  let n := fn.ntmps
  let f := bitsFor n
  let b := ccode P f n c
  let z := cresL P f n fn.results.toList
  bif Nat.ble n (8 ^ f) then ⟨fun call L args m => bif Nat.ble (lenB args) n then finK z (b.run call L (initE f args) m) else .none⟩ else ⟨fun _ _ _ _ => .none⟩
def cfun (P : Program) (X : FuncId → XS) (g : FuncId) : CF :=
  match X g with
  | .some q => ⟨fun _ _ args m => q args m⟩
  | .none => (match P.funcs[g]? with
    | some fn => (match fn.body with
      | some c => cbody P fn c
      | none => ⟨fun _ _ _ _ => .none⟩)
    | none => ⟨fun _ _ _ _ => .none⟩)
/-- A round of a loop over a function. -/
def putsB (f : Nat) (n : Nat) : List Nat → List AV → ET → ET
  | p :: ps, x :: xs, t => putsB f n ps xs ((cput f n (some p)).run t x)
  | _, _, t => t
def roundE (k : Nat) (ps : Array Tmp) (a b : Code) (env : List AV) : KC → OV
  | .out e _ m => bif m.ok && Nat.blt k m.n && isDead (m.t.get k) then (match e with
    | .normal => .val (.bool true) (m.set k (.loop ps a b env none))
    | .ret => .val (.bool false) (m.set k (.loop ps a b env (some .ret)))
    | .exit i => .val (.bool false) (m.set k (.loop ps a b env (some (.exit i))))) else .none
  | .none => .none
def roundB (k : Nat) (ps : Array Tmp) (a b : Code) (env : List AV) (cb : CC) (call : CallT) (L : Nat) : KC → OV
  | .out e t m => XE.casesOn e (roundE k ps a b env (cb.run call L t m)) .none (fun _ => .none)
  | .none => .none
def roundK (P : Program) (call : CallT) (L : Nat) (k : Nat) (args : List AV) (m : Mem) (ps : Array Tmp) (a b : Code) (env : List AV) : OV :=
  let n := lenB env
  let f := bitsFor n
  bif Nat.ble n (8 ^ f) && m.ok && Nat.beq (lenB args) ps.size then roundB k ps a b env (ccode P f n b) call L ((ccode P f n a).run call L (putsB f n ps.toList args (initE f env)) (m.set k .dead)) else .none
def yieldK (P : Program) (call : CallT) (L : Nat) (args : List AV) (m : Mem) : OV :=
  match args with
  | .yl k :: l => (match m.at k with
    | .ctl (.loop ps a b env none) => roundK P call L k l m ps a b env
    | _ => .none)
  | _ => .none
def callK (P : Program) (X : FuncId → XS) (L : Nat) : Nat → FuncId → List AV → Mem → OV
  | 0, _, _, _ => .none
  | d + 1, g, args, m => bif Nat.beq g yid then yieldK P (callK P X L d) L args m else (cfun P X g).run (callK P X L d) L args m
theorem putsB_eq {f n : Nat} (hn : n ≤ 8 ^ f) : ∀ (ps : List Nat) (xs : List AV) (t : ET), eL f n (putsB f n ps xs t) = putsA (eL f n t) ps xs
  | [], xs, t => by simp [putsB, putsA]
  | p :: ps, [], t => by simp [putsB, putsA]
  | p :: ps, x :: xs, t => by
    simp only [putsB, putsA]
    rw [putsB_eq hn ps xs, cput_eq hn]
    rw [putB_eq]; rfl
theorem roundK_ok {P : Program} (hm : P.follows .mixedOrders = true) {call : CallT} (hc : CallOk P call) {L k : Nat} {args : List AV} {m m' : Mem} {x : AV} (h : yieldK P call L (.yl k :: args) m = .val x m') : ylK P k args m.L fun y g => y = x ∧ g = m'.L := by
  simp only [yieldK] at h
  cases hat : m.at k with
  | ctl c =>
   cases c with
   | mit _ _ _ => rw [hat] at h; cases h
   | loop ps a b env pe =>
    rw [hat] at h
    cases pe with
    | some c => cases h
    | none =>
      simp only [roundK] at h
      obtain ⟨h1, h⟩ := bifv h
      rw [Bool.and_eq_true, Bool.and_eq_true, ble_iff, beq_iff, lenB_eq, lenB_eq] at h1
      obtain ⟨⟨h1, h2⟩, h3⟩ := h1
      rw [lenB_eq] at h
      have hg := Mem.at_get (m := m) (k := k) (by rw [hat]; intro q; cases q)
      have hlt : k < m.n := by
        have := (List.getElem?_eq_some_iff.1 hg).1
        rwa [Mem.L_len] at this
      rw [hat] at hg
      unfold ylK
      rw [hg]
      refine ⟨h3, ?_⟩
      unfold ARound
      cases ha : (ccode P (bitsFor env.length) env.length a).run call L (putsB (bitsFor env.length) env.length ps.toList args (initE (bitsFor env.length) env)) (m.set k .dead) with
      | none => rw [ha] at h; cases h
      | out e t1 m1 =>
        rw [ha] at h
        have hA := ccode_ok hm h1 hc a _ _ _ _ _ ha
        rw [putsB_eq h1, initE_L h1 env (Nat.le_refl _), Nat.sub_self, List.replicate_zero, List.append_nil, Mem.set_L _ h2 hlt] at hA
        simp only [roundB] at h
        cases e with
        | ret => cases h
        | exit i => cases h
        | normal =>
          simp only at h
          refine hA.mono ?_
          rintro e2 env2 g2 ⟨rfl, rfl, rfl⟩
          refine ⟨rfl, ?_⟩
          cases hb : (ccode P (bitsFor env.length) env.length b).run call L t1 m1 with
          | none => rw [hb] at h; cases h
          | out e3 t3 m3 =>
            rw [hb] at h
            simp only [roundE] at h
            have hB := ccode_ok hm h1 hc b _ _ _ _ _ hb
            obtain ⟨q, h⟩ := bifv h
            rw [Bool.and_eq_true, Bool.and_eq_true, blt_iff] at q
            obtain ⟨⟨q1, q2⟩, q3⟩ := q
            have hd : m3.L[k]? = some .dead := by
              rw [Mem.L_get _ _ q2]
              congr 1
              exact isDead_ok q3
            refine hB.mono ?_
            rintro e4 env4 g4 ⟨rfl, rfl, rfl⟩
            refine ⟨hd, ?_⟩
            cases e3 with
            | normal =>
              simp only [OV.val.injEq] at h
              obtain ⟨rfl, rfl⟩ := h
              exact ⟨rfl, (Mem.set_L _ q1 q2).symm⟩
            | ret =>
              simp only [OV.val.injEq] at h
              obtain ⟨rfl, rfl⟩ := h
              exact ⟨rfl, (Mem.set_L _ q1 q2).symm⟩
            | exit i =>
              simp only [OV.val.injEq] at h
              obtain ⟨rfl, rfl⟩ := h
              exact ⟨rfl, (Mem.set_L _ q1 q2).symm⟩
  | _ => rw [hat] at h; cases h
/-- The contracts hold. -/
def XOk (P : Program) (X : FuncId → XS) : Prop := ∀ g q, X g = .some q → ∀ args m x m', q args m = .val x m' → ACall P g args m.L fun y h => y = x ∧ h = m'.L
theorem callK_ok {P : Program} (hm : P.follows .mixedOrders = true) {X : FuncId → XS} (hX : XOk P X) (L : Nat) : ∀ d, CallOk P (callK P X L d)
  | 0 => fun _ _ _ _ _ h => by cases h
  | d + 1 => by
    intro g args m x m' h
    have ih := callK_ok hm hX L d
    simp only [callK] at h
    refine ⟨fun hne => ?_, fun t l e1 e2 => ?_⟩
    rotate_left
    · subst e1 e2
      rw [show Nat.beq yid yid = true from by decide] at h
      exact roundK_ok hm ih h
    rw [show Nat.beq g yid = false from by cases q : Nat.beq g yid <;> first | rfl | exact absurd (beq_iff.1 q) hne] at h
    simp only [cfun, cond_false] at h
    split at h
    · rename_i q e
      exact hX _ _ e _ _ _ _ h
    · split at h
      · rename_i fn hf
        split at h
        · rename_i c hb
          unfold cbody at h
          cases hn : Nat.ble fn.ntmps (8 ^ bitsFor fn.ntmps) with
          | false => simp only [hn, cond_false] at h; cases h
          | true =>
            simp only [hn, cond_true] at h
            have hn2 := ble_iff.1 hn
            obtain ⟨hl, h⟩ := bifv h
            rw [ble_iff, lenB_eq] at hl
            cases hr : (ccode P (bitsFor fn.ntmps) fn.ntmps c).run (callK P X L d) L (initE (bitsFor fn.ntmps) args) m with
            | none => rw [hr] at h; cases h
            | out e t1 m1 =>
              rw [hr] at h
              have hw := ccode_ok hm hn2 ih c _ _ _ _ _ hr
              rw [initE_L hn2 args hl] at hw
              have hfin : resB P fn.results.toList (eL (bitsFor fn.ntmps) fn.ntmps t1) m1 = .val x m' := by
                rw [← tupR_eq, ← cresL_eq]
                cases e <;> first | exact h | cases h
              obtain ⟨rfl, p, hp, hpp⟩ := resB_ok hfin
              refine ACall.of_AWP hf hb (hw.mono ?_)
              rintro e1 env1 h1 ⟨rfl, rfl, rfl⟩
              have fin : finR (resA P fn.results.toList (eL (bitsFor fn.ntmps) fn.ntmps t1) m'.L) m.L.length m'.L (fun y g => y = x ∧ g = m'.L) := by
                rw [hp]; exact ⟨hpp, x, m'.L, Close.refl _ _ _, rfl, rfl⟩
              cases e with
              | normal => exact fin
              | ret => exact fin
              | exit i => cases h
        · cases h
      · cases h
def noXS : FuncId → XS := fun _ => .none
/-- A call without arguments that answers x. -/
theorem closedK_ok {P : Program} (hm : P.follows .mixedOrders = true) {X : FuncId → XS} (hX : XOk P X) (L d : Nat) (g : FuncId) (x : AV) (h : (callK P X L d g [] Mem.nil).is x = true) (hg : Nat.beq g yid = false := by rfl) : ACall P g [] [] fun r _ => r = x := by
  obtain ⟨m, hr⟩ := OV.is_ok h
  have := (callK_ok hm hX L d g [] Mem.nil x m hr).1 (fun e => by rw [beq_iff.2 e] at hg; cases hg)
  exact this.mono fun y g q => q.1
end Go.Proofs.Vale

set_option linter.unusedVariables false
set_option linter.unusedSimpArgs false
namespace Go.Proofs.Vale

/-! ### From no memory of one's own to any -/
theorem own_nil {β : Beta} {b : Nat} (o : Own [] β b) : False := by
  obtain ⟨t, o, g, h1, _⟩ := o; simp at h1
theorem lay_nil {β : Beta} {fr : Nat → Prop} {H : Array Obj} {h : List AObj} (L : Lay β fr H h) : Lay β0 fr H [] where
  frlt := L.frlt
  ownfr := fun b o => (own_nil o).elim
  lt := fun t g b h => by cases h
  inj := fun t t' o o' g g' b h1 => by simp at h1
  obj := fun t o h1 => by simp at h1
  dom := fun t g r h => by cases h
  top := fun t g s l h1 => by simp at h1
  tab := L.tab
theorem ACall.any {P : Program} {f : FuncId} {args : List AV} {h : List AObj} {K : AV → List AObj → Prop} (hl : lowL 0 args = true) (k : ACall P f args [] fun r _ => r.low 0 = true ∧ K r h) : ACall P f args h K := by
  intro w β fr vs L R
  have R0 : CellsRep β0 fr w.heap args vs := ⟨R.1, fun j hj => by
    obtain ⟨u, hu, hr⟩ := R.2 j hj
    exact ⟨u, hu, hr.low (n := 0) (fun t g r ht => absurd ht (by omega)) (fun _ e => e) (lowL_mem hl _ (List.getElem_mem hj))⟩⟩
  refine (k w β0 fr vs (lay_nil L) R0).mono ?_
  rintro e w' ⟨v, x, h', β', fr', rfl, ⟨hf, hk⟩, L', R', S'⟩
  have same : ∀ b, b < w.heap.size → w'.heap[b]? = w.heap[b]? := fun b hb => S'.keep b hb own_nil
  have E : Ext β fr w.heap β fr' w'.heap := ⟨fun _ _ _ e => e, S'.ext.frm, S'.ext.cells, fun t g b c e f hb hc => ⟨c, f, by rw [same b (L.lt _ _ _ hb)]; exact hc, rfl⟩⟩
  refine ⟨v, x, h, β, fr', rfl, hk, ?_, R'.low (n := 0) (fun t g r ht => absurd ht (by omega)) (fun _ e => e) hf, ?_⟩
  · exact { frlt := L'.frlt
            ownfr := fun b ho hb => by
              obtain ⟨t, o, g, h1, h2, h3⟩ := ho
              have hlt := L.lt _ _ _ h3
              rcases S'.frz b hb with q | q | q
              · exact L.ownfr b ⟨t, o, g, h1, h2, h3⟩ q
              · exact own_nil q
              · omega
            lt := fun t g b hb => Nat.lt_of_lt_of_le (L.lt t g b hb) S'.size, inj := L.inj
            obj := fun t o ho => (L.obj t o ho).ext E fun g b _ hb => same b (L.lt _ _ _ hb), dom := L.dom, top := L.top, tab := fun b cs q => ⟨E.frm b (L.tab b cs q).1, by rw [E.cells b (L.tab b cs q).1]; exact (L.tab b cs q).2⟩ }
  · exact { ext := E, os := S'.os, tape := S'.tape, output := S'.output, size := S'.size, keep := fun b hb _ => same b hb, prov := fun b e => .inl e
            frz := fun b hb => by
              rcases S'.frz b hb with q | q | q
              · exact .inl q
              · exact (own_nil q).elim
              · exact .inr (.inr q) }
/-- A call without arguments, worked out, over any memory. -/
theorem closedK_any {P : Program} (hm : P.follows .mixedOrders = true) {X : FuncId → XS} (hX : XOk P X) (L d : Nat) (g : FuncId) (x : AV) (hx : x.low 0 = true) (h : (callK P X L d g [] Mem.nil).is x = true) (hh : List AObj) (hg : Nat.beq g yid = false := by rfl) : ACall P g [] hh fun r _ => r = x :=
  ACall.any rfl ((closedK_ok hm hX L d g x h hg).mono fun r _ e => by subst e; exact ⟨hx, rfl⟩)
end Go.Proofs.Vale

set_option linter.unusedVariables false
set_option linter.unusedSimpArgs false
namespace Go.Proofs.Vale

/-! ### A call whose result is frozen, the rest of what it made is let go, the caller's own memory stays -/
/-- What a call hands back, frozen. -/
def OV.isF (o : OV) (k : Nat) (x : AV) : Bool :=
  match o with
  | .val r m => AV.same (frzA m.L k r) x
  | .none => false
theorem ACall.weak {P : Program} {f : FuncId} {ar : List AV} {h : List AObj} {K K' : AV → List AObj → Prop} (a : ACall P f ar h K) (kk : ∀ r h', K r h' → ∃ r', (∀ β fr H v, Rep β fr H r v → Rep β fr H r' v) ∧ K' r' h') : ACall P f ar h K' := by
  intro w β fr vs L R
  refine (a w β fr vs L R).mono ?_
  rintro e w' ⟨v, x, h', β', fr', rfl, hk, L', R', S'⟩
  obtain ⟨r', h1, h2⟩ := kk _ _ hk
  exact ⟨v, r', h', β', fr', rfl, h2, L', h1 _ _ _ _ R', S'⟩
theorem rep_cut {β : Beta} {fr : Nat → Prop} {H : Array Obj} {c : Bool} {l : List AV} {v : Value} (r : Rep β fr H (.fz c l) v) : Rep β fr H (.fz false l) v := by
  simp only [Rep] at r ⊢
  obtain ⟨a, cap, h1, h2, h3, h4⟩ := r
  exact ⟨a, cap, h1, h2, fun q => (by cases q), h4⟩
end Go.Proofs.Vale
