/- YthgafblmefjkdaaDoorVL: a text of the proof of this claim, by its prover. -/
import Derived.Test.YthgafblmefjkdaaDoorVK
set_option linter.unusedVariables false
set_option linter.unusedSimpArgs false
namespace Go.Proofs.Vale

theorem CellsRep.ext {β β' : Beta} {fr fr' : Nat → Prop} {H H' : Array Obj} (e : Ext β fr H β' fr' H') {cs : List AV} {us : Array Value} (h : CellsRep β fr H cs us) : CellsRep β' fr' H' cs us :=
  ⟨h.1, fun j hj => let ⟨u, hu, hr⟩ := h.2 j hj; ⟨u, hu, hr.ext e⟩⟩

theorem Ext.push {β : Beta} {fr : Nat → Prop} {H H' : Array Obj} {h : List AObj} (L : Lay β fr H h) (g : Nat) {c : Obj} (hw : H' = H.push c) : Ext β fr H (betaSet β h.length g (some H.size)) fr H' where
  beta := fun t' g' r e => by rw [betaSet_other (by have := L.dom _ _ _ e; omega)]; exact e
  frm := fun _ e => e
  cells := fun b hb => by rw [hw, Array.getElem?_push, if_neg (by have := L.frlt b hb; omega)]
  shape := fun t' g' b c' e f hb hc => ⟨c', f, by rw [hw, Array.getElem?_push, if_neg (by have := L.lt _ _ _ hb; omega)]; exact hc, rfl⟩

/-- A new variable. -/
def bxK (x : AV) (h : List AObj) (K : AV → List AObj → Prop) : Prop :=
  x.sure = true ∧ K (.ref h.length 0 x.cells.length 0 0) (h ++ [.arr 0 x.cells.length [x]])

theorem newVar_ok {P : Program} {w : World} {β : Beta} {fr : Nat → Prop} {h : List AObj} {x : AV} {v : Value} {t : TypeId} (L : Lay β fr w.heap h) (hx : Rep β fr w.heap x v) (hs : x.sure = true) :
    ∃ w' β', (newVar t v).run P w = .ok ⟨w.heap.size, 0, none⟩ w' ∧ Lay β' fr w'.heap (h ++ [.arr 0 x.cells.length [x]]) ∧ Rep β' fr w'.heap (.ref h.length 0 x.cells.length 0 0) (.pointer (some ⟨w.heap.size, 0, none⟩)) ∧ Step1 β fr h w β' fr (h ++ [.arr 0 x.cells.length [x]]) w' := by
  have hc := Rep_cells' hx hs
  have E := Ext.push (H' := w.heap.push (.cells v.cells t)) L 0 rfl
  obtain ⟨L', S'⟩ := L.push (w' := { w with heap := w.heap.push (.cells v.cells t) }) (o := .arr 0 x.cells.length [x]) (g := 0) (c := .cells v.cells t) rfl rfl rfl rfl rfl
    (by
      refine .inr ⟨w.heap.size, v.cells, t, (0, 0), betaSet_same _ _ _ _, by simp, fun i _ => by simp, by simp, by simp [hc.1], fun i hi j hj => ?_⟩
      have : i = 0 := by simpa using hi
      subst this
      obtain ⟨u, hu, hr⟩ := (hc.ext E).2 j (by simpa using hj)
      exact ⟨u, by simpa using hu, by simpa using hr⟩)
  refine ⟨_, _, rfl, L', ?_, S'⟩
  simp only [Rep]
  exact ⟨_, betaSet_same _ _ _ _, by simp⟩

theorem bx_ok {P : Program} {o : Oper} {t : TypeId} {x : Operand} {ev : Operand → AV} {h : List AObj} {K : AV → List AObj → Prop} (ho : o.op = .box t x) (hk : bxK (ev x) h K) : OpK P o ev h K := by
  refine OpK.of_run fun a w β fr L hr => ?_
  rw [ho] at hr
  have hx := hr x (by simp [Op.operands])
  obtain ⟨w', β', h1, h2, h3, h4⟩ := newVar_ok (P := P) (t := t) L hx hk.1
  exact ⟨_, _, w', _, β', fr, .inl (by simp [execOp, ho, Instr.box, h1]), hk.2, h2, h3, h4⟩

def zI (P : Program) (t : TypeId) : Option AV :=
  match P.info? t with
  | some i => (match i.zero with | some z => some (ofVal z) | none => none)
  | none => none

theorem al_ok {P : Program} {o : Oper} {t : TypeId} {x : AV} {ev : Operand → AV} {h : List AObj} {K : AV → List AObj → Prop} (ho : o.op = .alloc t) (hz : zI P t = some x) (hk : bxK x h K) : OpK P o ev h K := by
  refine OpK.of_run fun a w β fr L hr => ?_
  unfold zI at hz
  split at hz
  · rename_i i hi
    split at hz
    · rename_i z hzz
      injection hz with hz; subst hz
      obtain ⟨w', β', h1, h2, h3, h4⟩ := newVar_ok (P := P) (t := t) L (Rep_ofVal β fr w.heap z) hk.1
      exact ⟨_, _, w', _, β', fr, .inl (by simp [execOp, ho, Instr.alloc, zeroValue, typeInfo, hi, hzz, h1]), hk.2, h2, h3, h4⟩
    · cases hz
  · cases hz

/-- A store. -/
def upA (e : AV) (j : Nat) (x : AV) : AV :=
  match e with
  | .agg cs => .agg (cs.take j ++ x.cells ++ cs.drop (j + x.cells.length))
  | _ => x

def stK (P : Program) (t : TypeId) (a x : AV) (h : List AObj) (K : AV → List AObj → Prop) : Prop :=
  match tI P t, a with
  | some (n, ag), .ref tt g s i j =>
    (match h[tt]? with
    | some (.arr g' s' l) => (g = g' ∧ s = s' ∧ i < l.length ∧ x.sure = true ∧ x.cells.length = n ∧ 0 < n ∧ j + n ≤ (l.getD i .any).cells.length ∧ x.cells.all AV.one = true) ∧ K (.tup []) (h.set tt (.arr g' s' (l.set i (upA (l.getD i .any) j x))))
    | _ => False)
  | _, _ => False

theorem upA_cells {e x : AV} {j n : Nat} (hn : x.cells.length = n) (hn0 : 0 < n) (hj : j + n ≤ e.cells.length) : (upA e j x).cells.length = e.cells.length ∧ ∀ k (h : k < (upA e j x).cells.length), (∀ q : j ≤ k ∧ k < j + n, (upA e j x).cells[k] = x.cells[k - j]'(by omega)) ∧ (∀ q : ¬ (j ≤ k ∧ k < j + n), ∃ hk : k < e.cells.length, (upA e j x).cells[k] = e.cells[k]) := by
  subst hn
  cases e
  case agg cs =>
    simp only [upA, AV.cells_agg] at *
    refine ⟨by simp; omega, fun k h => ⟨fun q => ?_, fun q => ?_⟩⟩
    · rw [List.getElem_append_left (by simp; omega), List.getElem_append_right (by simp; omega)]
      congr 1; simp; omega
    · have hk : k < cs.length := by simp at h; omega
      refine ⟨hk, ?_⟩
      by_cases h2 : k < j
      · rw [List.getElem_append_left (by simp; omega), List.getElem_append_left (by simp; omega)]; simp
      · rw [List.getElem_append_right (by simp; omega)]
        simp only [List.getElem_drop]
        congr 1; simp; omega
  all_goals
    have hj1 : j + x.cells.length ≤ 1 := hj
    have hj0 : j = 0 := by omega
    subst hj0
    refine ⟨by show x.cells.length = 1; omega, fun k h => ⟨fun q => rfl, fun q => ?_⟩⟩
    have h' : k < x.cells.length := h
    omega

theorem st_ok {P : Program} {o : Oper} {t : TypeId} {A X : Operand} {ev : Operand → AV} {h : List AObj} {K : AV → List AObj → Prop} (ho : o.op = .store t A X) (hk : stK P t (ev A) (ev X) h K) : OpK P o ev h K := by
  refine OpK.of_run fun a w β fr L hr => ?_
  rw [ho] at hr
  have hA := hr A (by simp [Op.operands])
  have hX := hr X (by simp [Op.operands])
  unfold stK at hk
  split at hk
  · rename_i n ag tt g s i j hti e1
    split at hk
    · rename_i g' s' l ht
      obtain ⟨⟨rfl, rfl, hi, hsure, hn, hn0, hjn, hone⟩, hK⟩ := hk
      rw [getD_get hi] at hjn hK
      rw [e1] at hA; simp only [Rep] at hA
      obtain ⟨b, hb, hv⟩ := hA
      rcases L.obj tt _ ht with ⟨-, z⟩ | ⟨b', c, el, f, hb', hH, hfz, hls, hln, hlc⟩
      · subst z; simp at hi
      rw [hb] at hb'; injection hb' with hb'; injection hb' with hb'; subst hb'
      have hc := Rep_cells' hX hsure
      have hvs : (a.eval X).cells.toList.length = n := by rw [← hn, ← hc.1]; simp
      have hlcell : (l[i]).cells.length = s := hls _ (List.getElem_mem hi)
      have hone' : ∀ v ∈ (a.eval X).cells.toList, v.oneCell' = true := by
        intro v hv'
        obtain ⟨k, hk, rfl⟩ := List.getElem_of_mem hv'
        obtain ⟨u, hu, hr'⟩ := hc.2 k (by omega)
        have hk' : k < (a.eval X).cells.size := by simpa using hk
        rw [Array.getElem?_eq_getElem hk'] at hu; injection hu with hu
        have := Rep_one hr' (List.all_eq_true.1 hone _ (List.getElem_mem _))
        rw [← hu] at this; simpa using this
      have hroom : i * s + j + n ≤ l.length * s := by
        have : (i + 1) * s ≤ l.length * s := Nat.mul_le_mul_right s hi
        rw [Nat.add_mul] at this; omega
      obtain ⟨c2, w', s1, s2, s3, s4, s5, s6, s7, s8, s9⟩ := run_storeCells (P := P) b (i * s + j) el f (a.eval X).cells.toList 0 c w hH hone' (by omega) hfz
      have hrun : (execOp a.eval o).run P w = .ok .skip w' := by
        simp only [execOp, ho, Instr.storeAt, hv, Instr.sureAddr, Sem.run_bind, Sem.run_pure, Result.andThen_ok, storeVar, run_sizeOf hti]
        rw [if_neg (by rw [hc.1]; omega)]
        simp [s1]
      have hupd := upA_cells (e := l[i]) (x := ev X) hn hn0 hjn
      obtain ⟨L', S'⟩ := L.turn (w' := w') (β' := β) (g' := g) (o' := .arr g s (l.set i (upA (l[i]) j (ev X)))) (r := some b) ht rfl rfl (fun _ _ _ => .inr trivial)
        (fun _ _ _ e => e) (fun _ _ _ e => .inl e) hb (fun b e => by injection e with e; subst e; exact ⟨.inl hb, by rw [s4]; exact L.lt _ _ _ hb⟩) (fun k _ hk => s3 k (fun q => hk (by rw [q]; exact hb))) (by omega)
        (fun b1 c1 e1 f1 q q' => by
          rw [hb] at q; injection q with q; injection q with q; subst q
          rw [hH] at q'; injection q' with q'; injection q' with q1 q2 q3; subst q1 q2 q3
          exact ⟨c2, f, s2, s8⟩) s5 s6 s7
        (fun E => by
          refine .inr ⟨b, c2, el, f, hb, s2, by rw [s8]; exact hfz, ?_, by rw [s8, List.length_set]; exact hln, fun k hk m hm => ?_⟩
          · intro x hx
            obtain ⟨k, hk, rfl⟩ := List.getElem_of_mem hx
            rw [List.getElem_set]
            split
            · rw [hupd.1, hlcell]
            · exact hls _ (List.getElem_mem _)
          · have hk' : k < l.length := by simpa using hk
            have hms : m < s := by
              rw [List.getElem_set] at hm
              split at hm
              · rw [hupd.1, hlcell] at hm; exact hm
              · rw [hls _ (List.getElem_mem _)] at hm; exact hm
            by_cases q : k = i
            · subst q
              simp only [List.getElem_set_self] at hm ⊢
              by_cases q2 : j ≤ m ∧ m < j + n
              · rw [(hupd.2 m hm).1 q2]
                obtain ⟨u, hu, hr'⟩ := hc.2 (m - j) (by omega)
                refine ⟨u, ?_, hr'.ext E⟩
                rw [s9, if_pos (by omega)]
                rw [show k * s + m - (k * s + j + 0) = m - j by omega]
                simpa using hu
              · obtain ⟨hk2, e2⟩ := (hupd.2 m hm).2 q2
                rw [e2]
                obtain ⟨u, hu, hr'⟩ := hlc k hk' m hk2
                refine ⟨u, ?_, hr'.ext E⟩
                rw [s9, if_neg (by omega)]; exact hu
            · simp only [List.getElem_set_ne (fun e => q e.symm)] at hm ⊢
              obtain ⟨u, hu, hr'⟩ := hlc k hk' m hm
              refine ⟨u, ?_, hr'.ext E⟩
              rw [s9, if_neg]
              · exact hu
              · rintro ⟨q3, q4⟩
                rcases Nat.lt_or_gt_of_ne q with q5 | q5
                · have : (k + 1) * s ≤ i * s := Nat.mul_le_mul_right s q5
                  rw [Nat.add_mul] at this; omega
                · have : (i + 1) * s ≤ k * s := Nat.mul_le_mul_right s q5
                  rw [Nat.add_mul] at this; omega)
        (L.top tt g s l ht)
      exact ⟨undef, .tup [], w', _, β, fr, .inr ⟨hrun, rfl⟩, hK, L', by simp [Rep, undef], S'⟩
    · cases hk
  · cases hk

/-! ### Comparing with nil -/

def eqB (op : BinOp) (b : Bool) : Bool :=
  match op with
  | .eql => b
  | _ => !b

theorem run_equalIn_slnil {P : Program} {w : World} {t e : TypeId} (d : Nat) (he : P.underlying t = some (.slice e)) (ao : Option Addr) (n cap : Nat) : (Op.equalIn (d + 1) t (.slice ao n cap) (.slice none 0 0)).run P w = .ok ao.isNone w := by
  cases ao <;> simp only [Op.equalIn, Sem.run_bind, run_underlying he, Result.andThen_ok, Sem.run_pure, Option.isNone]

def nqK (P : Program) (op : BinOp) (t : TypeId) (x : AV) (h : List AObj) (K : AV → List AObj → Prop) : Prop :=
  match x with
  | .fz c l => (∃ e, tk P t = .sl e) ∧ ∀ b : Bool, (b = true → l = []) → K (.bool (eqB op b)) h
  | .sl _ _ _ off len => (∃ e, tk P t = .sl e) ∧ ∀ b : Bool, (b = true → len = 0) → K (.bool (eqB op b)) h
  | _ => False

theorem nq_ok {P : Program} {o : Oper} {op : BinOp} {t yt : TypeId} {X : Operand} {ev : Operand → AV} {h : List AObj} {K : AV → List AObj → Prop} (ho : o.op = .binOp op t X (.const (.slice none 0 0)) yt) (hop : op = .eql ∨ op = .neq) (hk : nqK P op t (ev X) h K) : OpK P o ev h K := by
  refine OpK.of_run fun a w β fr L hr => ?_
  rw [ho] at hr
  have hX := hr X (by simp [Op.operands])
  have run : ∀ {ao : Option Addr} {n cap : Nat} {e : TypeId}, a.eval X = .slice ao n cap → tk P t = .sl e → (execOp a.eval o).run P w = .ok (.value (.bool (eqB op ao.isNone))) w := by
    intro ao n cap e hv he
    have hq : (Op.equal t (.slice ao n cap) (.slice none 0 0)).run P w = .ok ao.isNone w := by
      exact run_equalIn_slnil _ (tk_sl he) ao n cap
    have hce : a.eval (.const (.slice none 0 0)) = .slice none 0 0 := rfl
    simp only [execOp, ho, hv, hce, Sem.run_bind, run_eqGuard_not (P := P) (w := w) (op := op) (t := t) (x := X) (y := .const (.slice none 0 0)) (a := .slice ao n cap) (b := .slice none 0 0) (by simp) (by simp), Result.andThen_ok]
    rcases hop with rfl | rfl <;> simp [Go.binOp, hq, eqB]
  unfold nqK at hk
  split at hk
  · rename_i c l e1
    obtain ⟨⟨e, he⟩, hk⟩ := hk
    rw [e1] at hX; simp only [Rep] at hX
    obtain ⟨ao, cap, hv, h1, h2, h3⟩ := hX
    refine ⟨_, _, w, h, β, fr, .inl (run hv he), hk ao.isNone (fun q => ?_), L, by simp only [Rep], Step1.refl _ _ _ _⟩
    cases l with
    | nil => rfl
    | cons y l => obtain ⟨ad, s, rfl, -⟩ := h3 (by simp); cases q
  · rename_i tt g s off len e1
    obtain ⟨⟨e, he⟩, hk⟩ := hk
    rw [e1] at hX; simp only [Rep] at hX
    rcases hX with ⟨-, -, h1, hv⟩ | ⟨b, c, el, f, cap, -, -, hv, -, -⟩
    · exact ⟨_, _, w, h, β, fr, .inl (run hv he), hk true (fun q => h1), L, by simp only [Rep]; rfl, Step1.refl _ _ _ _⟩
    · exact ⟨_, _, w, h, β, fr, .inl (run hv he), hk false (fun q => by cases q), L, by simp only [Rep]; rfl, Step1.refl _ _ _ _⟩
  · cases hk

/-! ### Bytes of a string -/

def sbK (P : Program) (dst : TypeId) (x : AV) (h : List AObj) (K : AV → List AObj → Prop) : Prop :=
  match x, tk P dst with
  | .str s, .sl e => tk P e = .int .u8 ∧ K (.sl h.length 0 1 0 s.length) (h ++ [.arr 0 1 (bytesA s)])
  | _, _ => False

theorem push_modify (H : Array Obj) (a : Obj) (f : Obj → Obj) : (H.push a).modify H.size f = H.push (f a) := by
  apply Array.ext_getElem?
  intro i
  rw [Array.getElem?_modify]
  by_cases e : H.size = i
  · subst e; simp
  · rw [if_neg e, Array.getElem?_push, Array.getElem?_push]; simp [show ¬ i = H.size from fun q => e q.symm]

theorem sb_ok {P : Program} {o : Oper} {src dst : TypeId} {X : Operand} {ev : Operand → AV} {h : List AObj} {K : AV → List AObj → Prop} (ho : o.op = .convert src dst X) (hsrc : ∃ d, P.underlying src = some d) (hk : sbK P dst (ev X) h K) : OpK P o ev h K := by
  refine OpK.of_run fun a w β fr L hr => ?_
  rw [ho] at hr
  have hX := hr X (by simp [Op.operands])
  unfold sbK at hk
  split at hk
  · rename_i s e e1 e2
    obtain ⟨he, hK⟩ := hk
    rw [e1] at hX; simp only [Rep] at hX
    obtain ⟨bs, hv, rfl⟩ := hX
    obtain ⟨d, hd⟩ := hsrc
    let q : Question := .appendCap bs.size 0 e
    let cap := q.cut (w.tape w.drawn q)
    have hcap : bs.size ≤ cap := by show bs.size ≤ bs.size + _; omega
    let cells : Array Value := (bs.data.map fun b => .int .u8 b.toNat) ++ Array.replicate (cap - bs.size) (.int .u8 0)
    have hcs : cells.size = cap := by simp [cells]; omega
    let w' : World := { w with drawn := w.drawn + 1, heap := w.heap.push (.cells cells e (cells.size, cells.size + 1)) }
    have hrun : (execOp a.eval o).run P w = .ok (.value (.slice (some ⟨w.heap.size, 0, none⟩) bs.size cap)) w' := by
      simp only [execOp, ho, hv, Sem.run_bind, convert, run_underlying hd, run_underlying (tk_sl e2), Result.andThen_ok, run_underlying (tk_int he), Conv.stringToBytes]
      have hch : (choose (.appendCap bs.size 0 e)).run P w = .ok cap { w with drawn := w.drawn + 1 } := rfl
      simp only [hch, Result.andThen_ok, newRow, Sem.run_bind, run_newObj, Sem.run_pure, markStringish, run_shape]
      have hsh : ({ w with drawn := w.drawn + 1, heap := w.heap.push (.cells cells e) } : World).shape? w.heap.size = some (e, cells.size) := by simp [World.shape?]
      simp only [cells] at hsh
      simp only [hsh, run_freeze, Result.andThen_ok, Sem.run_pure]
      congr 1
      simp only [World.freeze, w']
      rw [if_neg (by omega)]
      congr 1
      rw [push_modify]
      simp [cells]
    have hrow : RowAt β fr w.heap (bytesA bs.data.toList) 1 (bs.data.map fun b => .int .u8 b.toNat) := by
      refine ⟨by simp [bytesA], bytesA_cells, fun i hi j hj => ?_⟩
      have hi' : i < bs.data.size := by simp [bytesA] at hi; exact hi
      have hc := bytesA_cells _ (List.getElem_mem hi)
      have : j = 0 := by omega
      subst this
      refine ⟨.int .u8 (bs.data[i]).toNat, by rw [Nat.mul_one, Nat.add_zero, Array.getElem?_map, Array.getElem?_eq_getElem hi']; rfl, ?_⟩
      simp only [bytesA, List.getElem_map, AV.cells, List.getElem_cons_zero, Rep]; simp
    have E := Ext.push (H' := w'.heap) L 0 rfl
    obtain ⟨L', S'⟩ := L.push (w' := w') (o := .arr 0 1 (bytesA bs.data.toList)) (g := 0) (c := .cells cells e (cells.size, cells.size + 1)) rfl rfl rfl rfl rfl
      ((hrow.ext E).obj (c := cells) (e := e) (f := (cells.size, cells.size + 1)) (betaSet_same _ _ _ _) (by simp [w']) (fun i hi => by simp; omega) (fun k hk => by simp only [cells]; rw [Array.getElem?_append_left hk]) (by simp [cells]))
    refine ⟨_, _, w', _, _, _, .inl hrun, hK, L', ?_, S'⟩
    simp only [Rep]
    exact .inr ⟨w.heap.size, cells, e, (cells.size, cells.size + 1), cap, betaSet_same _ _ _ _, by simp [w'], by simp, by rw [hcs]; simp, by simpa using hcap⟩
  · cases hk

/-! ### Calls of functions -/

def entersB (P : Program) (f : FuncId) : Bool :=
  match P.funcs[f]? with
  | some fn => fn.body.isSome && fn.name != "runtime.NumGoroutine"
  | none => false

def clK (P : Program) (x : AV) (args : List AV) (h : List AObj) (K : AV → List AObj → Prop) : Prop :=
  match x with
  | .func (.func f) first cap => entersB P f = true ∧ ACall P f (first ++ args ++ cap) h K
  | _ => False

theorem CellsRep.append {β : Beta} {fr : Nat → Prop} {H : Array Obj} {xs ys : List AV} {us vs : Array Value} (h : CellsRep β fr H xs us) (k : CellsRep β fr H ys vs) : CellsRep β fr H (xs ++ ys) (us ++ vs) := by
  refine ⟨by simp [h.1, k.1], fun j hj => ?_⟩
  by_cases q : j < xs.length
  · simp only [List.getElem_append_left q]
    obtain ⟨u, hu, hr⟩ := h.2 j q
    exact ⟨u, by rw [Array.getElem?_append_left (by rw [h.1]; exact q)]; exact hu, hr⟩
  · simp only [List.getElem_append_right (Nat.le_of_not_lt q)]
    obtain ⟨u, hu, hr⟩ := k.2 (j - xs.length) (by simp at hj; omega)
    exact ⟨u, by rw [Array.getElem?_append_right (by rw [h.1]; omega), h.1]; exact hu, hr⟩

theorem cl_ok {P : Program} {o : Oper} {c : Call} {F : Operand} {ev : Operand → AV} {h : List AObj} {K : AV → List AObj → Prop} (ho : o.op = .call c) (hc : c.callee = .value F) (hk : clK P (ev F) (c.args.toList.map ev) h K) : OpK P o ev h K := by
  intro a w β fr L hr next Q hn
  rw [ho] at hr
  have hF := hr F (by simp [Op.operands, Call.operands, hc])
  have hargs : CellsRep β fr w.heap (c.args.toList.map ev) (c.args.map a.eval) := by
    refine ⟨by simp, fun j hj => ?_⟩
    have hj' : j < c.args.size := by simpa using hj
    exact ⟨a.eval c.args[j], by simp [hj'], by simp; exact hr _ (by simp [Op.operands, Call.operands, hc])⟩
  unfold clK at hk
  split at hk
  · rename_i f first cap e1
    obtain ⟨hen, hcall⟩ := hk
    rw [e1] at hF; simp only [Rep] at hF
    obtain ⟨us, vs, hv, h1, h2, h3, h4⟩ := hF
    have hrun : (execOp a.eval o).run P w = .ok (.enter f (us ++ c.args.map a.eval ++ vs)) w := by
      unfold entersB at hen
      split at hen
      · rename_i fn hfn
        simp only [Bool.and_eq_true, bne_iff_ne, ne_eq] at hen
        obtain ⟨hb, hnm⟩ := hen
        have hbn : fn.body.isNone = false := by cases q : fn.body <;> simp_all
        simp only [execOp, ho, Go.resolve, hc, hv, Deferred.ofValue, Sem.run_bind, Sem.run_pure, Result.andThen_ok, Go.invoke, callFunc, run_program, hfn]
        simp [hnm, hbn]
      · cases hen
    unfold Oper.wp
    rw [hrun, Oper.upon_enter]
    refine (hcall w β fr _ L ((CellsRep.append ⟨h1, h3⟩ hargs).append ⟨h2, h4⟩)).mono ?_
    rintro e w' ⟨v, x, h', β', fr', rfl, k1, k2, k3, k4⟩
    exact hn v x w' h' β' fr' k1 k2 k3 k4
  · cases hk

end Go.Proofs.Vale
