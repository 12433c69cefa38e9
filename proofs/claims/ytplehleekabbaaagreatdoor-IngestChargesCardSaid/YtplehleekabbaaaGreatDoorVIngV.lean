/- YtplehleekabbaaaGreatDoorVIngV: a text of the proof of this claim, by its prover. -/
import Derived.Test.YtplehleekabbaaaGreatDoorVPolH
import Derived.Test.YtplehleekabbaaaGreatDoorVRk
import Derived.Test.YtplehleekabbaaaGreatDoorVSchI
import Derived.Test.YtplehleekabbaaaGreatDoorVSchP
set_option linter.unusedVariables false
set_option linter.unusedSimpArgs false
set_option maxHeartbeats 4000000
set_option maxRecDepth 100000
namespace Go.Proofs.Vale
open Go.Proofs Go.Proofs.YtplehleekabbaaaGreatDoorT

/-! ### The live question, worked out by the kernel over what the library does -/
theorem X_frame {P : Program} {g : FuncId} {args : List AV} {m : Mem} {x : AV} (k : ∀ h, ACall P g args h fun r _ => r = x) (hl : x.low 0 = true) : ACall P g args m.L fun y h => y = x ∧ h = m.L := by
  refine ACall.frame ((k _).mono ?_)
  rintro r h rfl
  exact ⟨hl, rfl, rfl⟩
def unstr : List AV → Option (List Str)
  | [] => some []
  | x :: l => (match x with
    | .str s => (match unstr l with
      | some ss => some (s :: ss)
      | none => none)
    | _ => none)
theorem unstr_ok : ∀ {l : List AV} {ss : List Str}, unstr l = some ss → l = strs ss
  | [], ss, h => by injection h with h; subst h; rfl
  | x :: l, ss, h => by
    simp only [unstr] at h
    split at h
    · rename_i s
      split at h
      · rename_i tt e
        injection h with h; subst h
        rw [unstr_ok e]; rfl
      · cases h
    · cases h
def xJoin (args : List AV) (m : Mem) : OV :=
  match args with
  | [x, .str sep] => (match x with
    | .fz c l => (match unstr l with
      | some ss => bif Nat.ble (lenB ss) 140737488355328 && Nat.ble (lenB (Lib.join ss sep)) 140737488355328 then .val (.str (Lib.join ss sep)) m else .none
      | none => .none)
    | .sl t g s off len => (match m.at t with
      | .arr g' s' l => (match unstr ((l.drop off).take len) with
        | some ss => bif Nat.beq g g' && Nat.beq s s' && Nat.ble (off + len) (lenB l) && Nat.ble (lenB ss) 140737488355328 && Nat.ble (lenB (Lib.join ss sep)) 140737488355328 then .val (.str (Lib.join ss sep)) m else .none
        | none => .none)
      | _ => .none)
    | _ => .none)
  | _ => .none
theorem xJoin_ok (args : List AV) (m m' : Mem) (x : AV) (h : xJoin args m = .val x m') : ACall Tryz.prog 71 args m.L fun y g => y = x ∧ g = m'.L := by
  unfold xJoin at h
  split at h
  · split at h
    · rename_i sep _ c l
      split at h
      · rename_i ss e
        obtain ⟨hb, h⟩ := bifv h
        simp only [OV.val.injEq] at h
        obtain ⟨rfl, rfl⟩ := h
        simp only [Bool.and_eq_true, ble_iff, lenB_eq] at hb
        rw [unstr_ok e]
        exact join_ok ss sep c m.L hb.1 hb.2
      · cases h
    · rename_i sep _ t g s off len
      split at h
      · rename_i g' s' l hg
        split at h
        · rename_i ss e
          obtain ⟨hb, h⟩ := bifv h
          simp only [OV.val.injEq] at h
          obtain ⟨rfl, rfl⟩ := h
          simp only [Bool.and_eq_true, ble_iff, beq_iff, lenB_eq] at hb
          obtain ⟨⟨⟨⟨h1, h2⟩, h3⟩, h4⟩, h5⟩ := hb
          have hget := m.at_get (k := t) (by rw [hg]; simp)
          rw [hg] at hget
          refine ACall.pure (p := (g = g' ∧ s = s' ∧ off + len ≤ l.length) ∧ True ∧ True) (as' := [.fz false (strs ss), .str sep]) ?_ ⟨⟨h1, h2, h3⟩, trivial, trivial⟩ ((join_ok ss sep false _ h4 h5).mono ?_)
          · simp only [lends, lendA, hget, unstr_ok e]
          · rintro r h2 ⟨rfl, rfl⟩
            exact ⟨rfl, rfl, rfl⟩
        · cases h
      · cases h
    · cases h
  · cases h
def xItoa (args : List AV) (m : Mem) : OV :=
  match args with
  | [.int .i64 n] => bif ileB (-9223372036854775808) n && ileB n 9223372036854775807 then .val (.str (Lib.itoa n)) m else .none
  | _ => .none
theorem xItoa_ok (args : List AV) (m m' : Mem) (x : AV) (h : xItoa args m = .val x m') : ACall Tryz.prog 70 args m.L fun y g => y = x ∧ g = m'.L := by
  unfold xItoa at h
  split at h
  · rename_i n
    obtain ⟨hb, h⟩ := bifv h
    simp only [OV.val.injEq] at h
    obtain ⟨rfl, rfl⟩ := h
    simp only [Bool.and_eq_true, ileB_iff] at hb
    exact itoa_ok n m.L hb.1 hb.2
  · cases h
def xWords (args : List AV) (m : Mem) : OV :=
  match args with
  | [] => .val (.fz false (strs wordsL)) m
  | _ => .none
end Go.Proofs.Vale

set_option linter.unusedVariables false
set_option linter.unusedSimpArgs false
set_option maxHeartbeats 4000000
set_option maxRecDepth 100000
namespace Go.Proofs.Vale
open Go.Proofs Go.Proofs.YtplehleekabbaaaGreatDoorT

/-! ### What is lent, however deep -/
theorem ACall.pureF {P : Program} {f : FuncId} {ar ar' : List AV} {h : List AObj} {K : AV → List AObj → Prop} (k : Nat) (hl : ar.map (frzA h k) = ar') (a : ACall P f ar' (deadH h) fun r _ => flatV r = true ∧ K r h) : ACall P f ar h K := by
  intro w β fr us L R
  have R' : CellsRep β (allFr β fr w.heap) w.heap ar' us := by
    subst hl
    refine ⟨by rw [List.length_map]; exact R.1, fun j hj => ?_⟩
    have hj' : j < ar.length := by simpa using hj
    obtain ⟨u, hu, hr⟩ := R.2 j hj'
    refine ⟨u, hu, ?_⟩
    rw [List.getElem_map]
    exact frz_rep L (fun b e => L.frlt b e) (fun b ⟨t, o, g, h1, h2, h3⟩ => L.lt _ _ _ h3) k _ u hr
  refine (a w β (allFr β fr w.heap) us (lay_dead L) R').mono ?_
  rintro e w' ⟨v, x, h', β', fr', rfl, ⟨hf, hk⟩, L', R', S'⟩
  have same : ∀ b, b < w.heap.size → w'.heap[b]? = w.heap[b]? := fun b hb => S'.ext.cells b hb
  have E : Ext β fr w.heap β fr w'.heap := ⟨fun _ _ _ e => e, fun _ e => e, fun b hb => same b (L.frlt b hb), fun t g b c e f hb hc => ⟨c, f, by rw [same b (L.lt _ _ _ hb)]; exact hc, rfl⟩⟩
  refine ⟨v, x, h, β, fr, rfl, hk, ?_, flatV_rep hf R', ?_⟩
  · exact { frlt := fun b hb => Nat.lt_of_lt_of_le (L.frlt b hb) S'.size, ownfr := L.ownfr, lt := fun t g b hb => Nat.lt_of_lt_of_le (L.lt t g b hb) S'.size, inj := L.inj
            obj := fun t o ho => (L.obj t o ho).ext E fun g b _ hb => same b (L.lt _ _ _ hb), dom := L.dom, top := L.top, tab := fun b cs q => ⟨(L.tab b cs q).1, by rw [E.cells b (L.tab b cs q).1]; exact (L.tab b cs q).2⟩ }
  · exact { ext := E, os := S'.os, tape := S'.tape, output := S'.output, size := S'.size, keep := fun b hb _ => same b hb, prov := fun b e => .inl e, frz := fun b e => .inl e }

def shortB : List Str → Bool
  | [] => true
  | s :: l => Nat.ble (lenB s) 1000 && shortB l
theorem shortB_ok : ∀ {l : List Str}, shortB l = true → ∀ s ∈ l, s.length ≤ 1000
  | [], _, s, hs => by simp at hs
  | x :: l, h, s, hs => by
    rw [shortB, Bool.and_eq_true, ble_iff, lenB_eq] at h
    rcases List.mem_cons.1 hs with rfl | hs
    · exact h.1
    · exact shortB_ok h.2 s hs
def xRight (args : List AV) (m : Mem) : OV :=
  match args.map (frzA m.L 3) with
  | [.agg [.fz c1 l1, .fz c2 l2]] => (match unstr l1, unstr l2 with
    | some d, some e => bif Nat.ble (lenB d) 1000 && Nat.ble (lenB e) 1000 && shortB (d ++ e) then .val (.bool (decide (d ++ e).Nodup && sizesS d e && (d ++ e).all nameS)) m else .none
    | _, _ => .none)
  | _ => .none
theorem xRight_ok (args : List AV) (m m' : Mem) (x : AV) (h : xRight args m = .val x m') : ACall Tryz.prog 34 args m.L fun y g => y = x ∧ g = m'.L := by
  unfold xRight at h
  split at h
  · rename_i c1 l1 c2 l2 hl
    split at h
    · rename_i d e e1 e2
      obtain ⟨hb, h⟩ := bifv h
      simp only [OV.val.injEq] at h
      obtain ⟨rfl, rfl⟩ := h
      rw [Bool.and_eq_true, Bool.and_eq_true, ble_iff, ble_iff, lenB_eq, lenB_eq] at hb
      refine ACall.pureF 3 hl ?_
      rw [unstr_ok e1, unstr_ok e2, ← right_eq]
      refine (right_ok c1 c2 d e _ (by omega) (fun s hs => by have := shortB_ok hb.2 s hs; omega)).mono ?_
      rintro r h' rfl
      exact ⟨rfl, rfl, rfl⟩
    · cases h
  · cases h
def xValue (args : List AV) (m : Mem) : OV :=
  match args with
  | [.str s] => bif Nat.ble (lenB s) 100000 then .val (.bool (valueS s)) m else .none
  | _ => .none
theorem xValue_ok (args : List AV) (m m' : Mem) (x : AV) (h : xValue args m = .val x m') : ACall Tryz.prog 57 args m.L fun y g => y = x ∧ g = m'.L := by
  unfold xValue at h
  split at h
  · rename_i s
    obtain ⟨hb, h⟩ := bifv h
    simp only [OV.val.injEq] at h
    obtain ⟨rfl, rfl⟩ := h
    rw [ble_iff, lenB_eq] at hb
    exact X_frame (fun h => value_all s h (by omega)) (by simp [AV.low])
  · cases h
def ingX (g : FuncId) : XS :=
  match g with
  | 71 => .some xJoin
  | 70 => .some xItoa
  | 34 => .some xRight
  | 57 => .some xValue
  | _ => .none
theorem ingX_ok : XOk Tryz.prog ingX := by
  intro g q hq args m x m' h
  unfold ingX at hq
  split at hq
  · injection hq with hq; subst hq; exact xJoin_ok _ _ _ _ h
  · injection hq with hq; subst hq; exact xItoa_ok _ _ _ _ h
  · injection hq with hq; subst hq; exact xRight_ok _ _ _ _ h
  · injection hq with hq; subst hq; exact xValue_ok _ _ _ _ h
  · cases hq
end Go.Proofs.Vale
