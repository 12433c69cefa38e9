/- YthgafblmefjkdaaDoorVM: a text of the proof of this claim, by its prover. -/
import Derived.Test.YthgafblmefjkdaaDoorVL
set_option linter.unusedVariables false
set_option linter.unusedSimpArgs false
namespace Go.Proofs.Vale

/-! ### A slice written out -/

theorem fill_row (s : Nat) : ∀ (vals : List Value) (k : Nat) (us : Array Value), (∀ v ∈ vals, v.cells.size = s) → (k + vals.length) * s ≤ us.size →
    ∃ us', Instr.fill (fun i => some (i * s, s)) us ((vals.zipIdx k).map fun x => (x.2, x.1)) = some us' ∧ us'.size = us.size ∧ (∀ p, p < k * s → us'[p]? = us[p]?) ∧
      ∀ i (hi : i < vals.length) j, j < s → us'[(k + i) * s + j]? = (vals[i]).cells[j]?
  | [], k, us, _, _ => ⟨us, rfl, rfl, fun _ _ => rfl, fun i hi => by simp at hi⟩
  | v :: vals, k, us, hv, hl => by
    simp only [List.length_cons] at hl
    have hvs : v.cells.size = s := hv v (by simp)
    have hks : k * s + s ≤ us.size := by
      have : (k + 1) * s ≤ (k + (vals.length + 1)) * s := Nat.mul_le_mul_right s (by omega)
      rw [Nat.add_mul] at this; omega
    let us1 := v.cells.toList.zipIdx.foldl (fun (cs : Array Value) (x : Value × Nat) => cs.setIfInBounds (k * s + x.2) x.1) us
    have h1s : us1.size = us.size := by
      have : ∀ (l : List (Value × Nat)) (c : Array Value), (l.foldl (fun (c : Array Value) (x : Value × Nat) => c.setIfInBounds (k * s + x.2) x.1) c).size = c.size := by
        intro l; induction l with
        | nil => intro c; rfl
        | cons a l ih => intro c; rw [List.foldl_cons, ih]; simp
      exact this _ _
    have h1 : ∀ p, us1[p]? = if k * s + 0 ≤ p ∧ p < k * s + 0 + v.cells.toList.length ∧ p < us.size then v.cells.toList[p - (k * s + 0)]? else us[p]? := fun p => fold_set us (k * s) v.cells.toList 0 p
    obtain ⟨us', g1, g2, g3, g4⟩ := fill_row s vals (k + 1) us1 (fun v hv' => hv v (by simp [hv'])) (by rw [h1s]; rw [show k + 1 + vals.length = k + (vals.length + 1) by omega]; exact hl)
    refine ⟨us', ?_, g2.trans h1s, fun p hp => ?_, fun i hi j hj => ?_⟩
    · simp only [List.zipIdx_cons, List.map_cons, Instr.fill, hvs]
      rw [if_neg (by simp; omega), ← Array.foldl_toList, Array.toList_zipIdx]
      exact g1
    · have hp' : p < (k + 1) * s := by rw [Nat.add_mul]; omega
      rw [g3 p hp', h1 p, if_neg (by omega)]
    · cases i with
      | zero =>
        have hlt : k * s + j < (k + 1) * s := by rw [Nat.add_mul]; omega
        simp only [Nat.add_zero, List.getElem_cons_zero]
        rw [g3 _ hlt, h1, if_pos (by simp [hvs]; omega)]
        rw [show k * s + j - (k * s + 0) = j by omega]; simp
      | succ i =>
        simp only [List.getElem_cons_succ]
        have := g4 i (by simpa using hi) j hj
        rw [show k + 1 + i = k + (i + 1) by omega] at this
        exact this

def bsK (P : Program) (t : TypeId) (n : Nat) (parts : List (Nat × AV)) (h : List AObj) (K : AV → List AObj → Prop) : Prop :=
  match eI P t with
  | some (e, s, by_) => (n * s ≤ 16777216 ∧ parts.map (·.1) = List.range n ∧ (parts.all fun x => x.2.sure && x.2.cells.length == s) = true) ∧ K (.sl h.length 0 s 0 n) (h ++ [.arr 0 s (parts.map (·.2))])
  | none => False

theorem bs_ok {P : Program} {o : Oper} {t : TypeId} {n : Nat} {parts : Array (Nat × Operand)} {ev : Operand → AV} {h : List AObj} {K : AV → List AObj → Prop} (ho : o.op = .buildSlice t n parts) (hk : bsK P t n (parts.toList.map fun x => (x.1, ev x.2)) h K) : OpK P o ev h K := by
  refine OpK.of_run fun a w β fr L hr => ?_
  rw [ho] at hr
  unfold bsK at hk
  split at hk
  · rename_i e s by_ hei
    obtain ⟨⟨hn, hp, hsz⟩, hK⟩ := hk
    obtain ⟨ht, i, z, hi, his, hib, hz, hzs⟩ := ei_full hei
    let vals : List Value := parts.toList.map fun x => a.eval x.2
    have hlen : parts.toList.length = n := by
      have := congrArg List.length hp
      simpa using this
    have hreps : ∀ k (hk : k < parts.toList.length), Rep β fr w.heap (ev (parts.toList[k]).2) (a.eval (parts.toList[k]).2) := fun k hk => by
      refine hr _ ?_
      simp [Op.operands]
      have hm : parts.toList[k] ∈ parts := Array.mem_toList_iff.1 (List.getElem_mem _)
      exact ⟨_, hm⟩
    have hcr : ∀ k (hk : k < parts.toList.length), CellsRep β fr w.heap (ev (parts.toList[k]).2).cells (a.eval (parts.toList[k]).2).cells ∧ (ev (parts.toList[k]).2).cells.length = s := fun k hk => by
      have := List.all_eq_true.1 hsz (((parts.toList[k]).1, ev (parts.toList[k]).2)) (by
        simp only [List.mem_map]; exact ⟨parts.toList[k], List.getElem_mem _, rfl⟩)
      simp only [Bool.and_eq_true, beq_iff_eq] at this
      exact ⟨Rep_cells' (hreps k hk) this.1, this.2⟩
    have hvs : ∀ v ∈ vals, v.cells.size = s := by
      intro v hv
      obtain ⟨k, hk, rfl⟩ := List.getElem_of_mem hv
      have hk' : k < parts.toList.length := by simpa [vals] using hk
      have := hcr k hk'
      simp only [vals, List.getElem_map]
      rw [this.1.1, this.2]
    let us : Array Value := (Array.range (n * s)).map fun k => (if n * s = 0 then #[] else z.cells)[k % (if n * s = 0 then #[] else z.cells).size]!
    obtain ⟨us', g1, g2, g3, g4⟩ := fill_row s vals 0 us hvs (by simp [us, vals]; rw [← hlen]; simp)
    have hpv : (parts.map fun (x : Nat × Operand) => (x.1, a.eval x.2)).toList = (vals.zipIdx 0).map fun x => (x.2, x.1) := by
      apply List.ext_getElem?
      intro k
      by_cases hk : k < parts.toList.length
      · have hi1 : (parts.toList[k]).1 = k := by
          have := congrArg (fun l => l[k]?) hp
          simp only [List.getElem?_map, List.getElem?_eq_getElem hk, Option.map_some] at this
          rw [List.getElem?_range (by omega)] at this
          injection this
        simp only [Array.toList_map, List.getElem?_map, List.getElem?_eq_getElem hk, Option.map_some, List.getElem?_zipIdx, vals]
        simp
        rw [Array.getElem_toList] at hi1; exact hi1
      · rw [List.getElem?_eq_none (by simp at hk ⊢; omega), List.getElem?_eq_none (by simp [vals] at hk ⊢; omega)]
    let w' : World := { w with heap := w.heap.push (.cells us' e) }
    have hrun : (execOp a.eval o).run P w = .ok (.value (.slice (some ⟨w.heap.size, 0, none⟩) n n)) w' := by
      simp only [execOp, ho, Instr.buildSlice, Sem.run_bind, run_underlying ht, Result.andThen_ok, run_sizeOf' hi, his]
      rw [if_neg (by omega)]
      simp only [Sem.run_bind, Sem.run_pure, Result.andThen_ok]
      have hzr : (zeroValue e).run P w = .ok z w := by simp [zeroValue, typeInfo, hi, hz]
      by_cases hz0 : n * s = 0
      · have g1' : Instr.fill (fun i => some (i * s, s)) ((Array.range (n * s)).map fun x => (#[] : Array Value)[x % (#[] : Array Value).size]!) (parts.map fun (x : Nat × Operand) => (x.1, a.eval x.2)).toList = some us' := by
          rw [hpv]; simp only [us, if_pos hz0] at g1; exact g1
        rw [if_pos hz0]
        simp only [Sem.run_bind, Sem.run_pure, Result.andThen_ok, g1']
        rfl
      · have g1' : Instr.fill (fun i => some (i * s, s)) ((Array.range (n * s)).map fun x => z.cells[x % z.cells.size]!) (parts.map fun (x : Nat × Operand) => (x.1, a.eval x.2)).toList = some us' := by
          rw [hpv]; simp only [us, if_neg hz0] at g1; exact g1
        rw [if_neg hz0]
        simp only [Sem.run_bind, Sem.run_pure, Result.andThen_ok, hzr, g1']
        rfl
    have hsize : us'.size = n * s := by rw [g2]; simp [us]
    have hrow : RowAt β fr w.heap (parts.toList.map fun x => ev x.2) s us' := by
      refine ⟨by rw [hsize]; simp [← hlen], ?_, fun k hk j hj => ?_⟩
      · intro x hx
        obtain ⟨k, hk, rfl⟩ := List.getElem_of_mem hx
        have hk' : k < parts.toList.length := by simpa using hk
        simpa using (hcr k hk').2
      · have hk' : k < parts.toList.length := by simpa using hk
        simp only [List.getElem_map] at hj ⊢
        obtain ⟨u, hu, hr'⟩ := (hcr k hk').1.2 j hj
        refine ⟨u, ?_, hr'⟩
        have := g4 k (by simpa [vals] using hk') j (by rw [← (hcr k hk').2]; exact hj)
        simp only [Nat.zero_add] at this
        rw [this]; simpa [vals] using hu
    have E := Ext.push (H' := w'.heap) L 0 rfl
    have hmm : (parts.toList.map fun x => (x.1, ev x.2)).map (·.2) = parts.toList.map fun x => ev x.2 := by simp
    rw [hmm] at hK
    obtain ⟨L', S'⟩ := L.push (w' := w') (o := .arr 0 s (parts.toList.map fun x => ev x.2)) (g := 0) (c := .cells us' e) rfl rfl rfl rfl rfl
      ((hrow.ext E).obj (c := us') (e := e) (f := (0, 0)) (betaSet_same _ _ _ _) (by simp [w']) (fun i hi => by simp) (fun k hk => rfl) (Nat.le_refl _))
    refine ⟨_, _, w', _, _, _, .inl hrun, hK, L', ?_, S'⟩
    simp only [Rep]
    exact .inr ⟨w.heap.size, us', e, (0, 0), n, betaSet_same _ _ _ _, by simp [w'], by simp, by rw [hsize]; simp, Nat.le_refl _⟩
  · cases hk

/-! ### Going through a text's runes -/

/-- The text's rune at a place, and its width. -/
def dcA (s : List UInt8) (pos : Nat) : Nat × Nat := Utf8.decode ⟨⟨s⟩⟩ pos

def rgK (P : Program) (t : TypeId) (x : AV) (h : List AObj) (K : AV → List AObj → Prop) : Prop :=
  match tk P t, x with
  | .str, .str s => K (.it h.length) (h ++ [.it s 0])
  | _, _ => False

theorem rg_ok {P : Program} {o : Oper} {t : TypeId} {X : Operand} {ev : Operand → AV} {h : List AObj} {K : AV → List AObj → Prop} (ho : o.op = .range t X) (hk : rgK P t (ev X) h K) : OpK P o ev h K := by
  refine OpK.of_run fun a w β fr L hr => ?_
  rw [ho] at hr
  have hX := hr X (by simp [Op.operands])
  unfold rgK at hk
  split at hk
  · rename_i s ht e
    rw [e] at hX; simp only [Rep] at hX
    obtain ⟨b, hv, hb⟩ := hX
    have E := Ext.push (H' := w.heap.push (.stringIter b 0)) L 0 rfl
    obtain ⟨L', S'⟩ := L.push (w' := { w with heap := w.heap.push (.stringIter b 0) }) (o := .it s 0) (g := 0) (c := .stringIter b 0) rfl rfl rfl rfl rfl
      ⟨w.heap.size, b, betaSet_same _ _ _ _, by simp, hb⟩
    refine ⟨.pointer (some ⟨w.heap.size, 0, none⟩), _, _, _, _, fr, .inl ?_, hk, L', ?_, S'⟩
    · simp [execOp, ho, Instr.range, hv, run_underlying (tk_str ht)]
    · simp only [Rep]; exact ⟨_, betaSet_same _ _ _ _, rfl⟩
  · cases hk

def nxK (x : AV) (b : Bool) (h : List AObj) (K : AV → List AObj → Prop) : Prop :=
  match x, b with
  | .it t, true => (match h[t]? with
    | some (.it s pos) => (pos < s.length → K (.tup [.bool true, .int .i64 pos, .int .i32 (dcA s pos).1]) (h.set t (.it s (pos + (dcA s pos).2)))) ∧ (s.length ≤ pos → K (.tup [.bool false]) h)
    | _ => False)
  | _, _ => False

theorem run_next_some {P : Program} (w : World) (k : Nat) (s : ByteArray) (pos : Nat) (ty : TypeId) (hk : w.heap[k]? = some (.stringIter s pos)) (h : pos < s.size) :
    (Instr.next (.pointer (some ⟨k, 0, none⟩)) true ty).run P w =
      .ok (.tuple #[.bool true, .int .i64 pos, .int .i32 (Utf8.decode s pos).1]) { w with heap := w.heap.setIfInBounds k (.stringIter s (pos + (Utf8.decode s pos).2)) } := by
  simp only [Instr.next, getObj, setObj, Sem.run_bind, Sem.run, hk, Result.andThen, h, if_true]
  simp [goInt]

theorem run_next_none {P : Program} (w : World) (k : Nat) (s : ByteArray) (pos : Nat) (ty : TypeId) (hk : w.heap[k]? = some (.stringIter s pos)) (h : ¬ pos < s.size) :
    (Instr.next (.pointer (some ⟨k, 0, none⟩)) true ty).run P w = .ok (.tuple #[.bool false]) w := by
  simp [Instr.next, getObj, Sem.run, hk, h]

theorem nx_ok {P : Program} {o : Oper} {X : Operand} {b : Bool} {ev : Operand → AV} {h : List AObj} {K : AV → List AObj → Prop} (ho : o.op = .next X b) (hk : nxK (ev X) b h K) : OpK P o ev h K := by
  refine OpK.of_run fun a w β fr L hr => ?_
  rw [ho] at hr
  have hX := hr X (by simp [Op.operands])
  unfold nxK at hk
  split at hk
  · rename_i t e
    split at hk
    · rename_i s pos ht
      rw [e] at hX; simp only [Rep] at hX
      obtain ⟨b, hb, hv⟩ := hX
      obtain ⟨b', by_, hb', hH, hs⟩ := L.obj t _ ht
      rw [hb] at hb'; injection hb' with hb'; injection hb' with hb'; subst hb'
      have hby : by_ = ⟨⟨s⟩⟩ := by rw [← hs]
      subst hby
      have hlt : b < w.heap.size := L.lt _ _ _ hb
      have hsz : (⟨⟨s⟩⟩ : ByteArray).size = s.length := by simp [ByteArray.size]
      by_cases hp : pos < s.length
      · have hrun := run_next_some (P := P) w b ⟨⟨s⟩⟩ pos o.type hH (by omega)
        obtain ⟨L', S'⟩ := L.turn0 (w' := { w with heap := w.heap.setIfInBounds b (Obj.stringIter ⟨⟨s⟩⟩ (pos + (dcA s pos).2)) }) (β' := β) (g' := 0) (o' := .it s (pos + (dcA s pos).2)) (r := some b) ht rfl rfl (fun _ _ _ => .inr trivial)
          (fun _ _ _ e => e) (fun _ _ _ e => .inl e) hb (fun b1 e1 => by injection e1 with e1; subst e1; exact ⟨.inl hb, by simpa using hlt⟩)
          (fun k _ hk => by simp only [Array.getElem?_setIfInBounds]; rw [if_neg (fun q => hk (by rw [← q]; exact hb))]) (by simp)
          (fun b1 c1 e1 f1 q q' => by
            rw [hb] at q; injection q with q; injection q with q; subst q
            rw [hH] at q'; cases q') rfl rfl rfl
          (fun E => ⟨b, ⟨⟨s⟩⟩, hb, by simp [Array.getElem?_setIfInBounds, hlt], hs⟩)
          (fun ⟨_, _, _, q⟩ => by cases q)
        · refine ⟨.tuple #[.bool true, .int .i64 pos, .int .i32 (dcA s pos).1], _, _, _, β, fr, .inl ?_, hk.1 hp, L', ?_, S'⟩
          · simp [execOp, ho, hv, hrun, dcA]
          · simp only [Rep]
            refine ⟨_, rfl, rfl, fun j hj => ?_⟩
            have : j = 0 ∨ j = 1 ∨ j = 2 := by simp at hj; omega
            rcases this with rfl | rfl | rfl <;> simp [Rep]
      · have hrun := run_next_none (P := P) w b ⟨⟨s⟩⟩ pos o.type hH (by omega)
        refine ⟨.tuple #[.bool false], _, _, _, β, fr, .inl ?_, hk.2 (by omega), L, ?_, Step1.refl _ _ _ _⟩
        · simp [execOp, ho, hv, hrun]
        · simp only [Rep]
          refine ⟨_, rfl, rfl, fun j hj => ?_⟩
          have : j = 0 := by simp at hj; omega
          subst this; simp [Rep]
    · cases hk
  · cases hk

end Go.Proofs.Vale
