/- YtohppebjmfnmdaaGreatDoorVPolV: a text of the proof of this claim, by its prover. -/
import Derived.Test.YtohppebjmfnmdaaGreatDoorVPolJ
import Derived.Test.YtohppebjmfnmdaaGreatDoorVPolG
import Derived.Test.YtohppebjmfnmdaaGreatDoorVRj
set_option linter.unusedVariables false
set_option linter.unusedSimpArgs false
set_option maxHeartbeats 4000000
set_option maxRecDepth 100000
namespace Go.Proofs.Vale
open Go.Proofs Go.Proofs.YtohppebjmfnmdaaGreatDoorT

/-! ### The live question, worked out by the kernel over what the library does -/
theorem X_frame {P : Program} {g : FuncId} {args : List AV} {m : Mem} {x : AV} (k : ∀ h, ACall P g args h fun r _ => r = x) (hl : x.low 0 = true) : ACall P g args m.L fun y h => y = x ∧ h = m.L := by
  refine ACall.frame ((k _).mono ?_)
  rintro r h rfl
  exact ⟨hl, rfl, rfl⟩
def unstr : List AV → Option (List Str)
  | [] => some []
  | x :: l => (match x with
    | .str s => (match unstr l with
      | some ss => some (s :: ss)
      | none => none)
    | _ => none)
theorem unstr_ok : ∀ {l : List AV} {ss : List Str}, unstr l = some ss → l = strs ss
  | [], ss, h => by injection h with h; subst h; rfl
  | x :: l, ss, h => by
    simp only [unstr] at h
    split at h
    · rename_i s
      split at h
      · rename_i tt e
        injection h with h; subst h
        rw [unstr_ok e]; rfl
      · cases h
    · cases h
def xSplit (args : List AV) (m : Mem) : OV :=
  match args with
  | [.str s, .str t] => bif Nat.blt (lenB s) 4294967281 && Nat.ble 1 (lenB t) && Nat.beq (lenB (splitL s t)) (Lib.countB ⟨s.toArray⟩ ⟨t.toArray⟩ + 1) then .val (.fz false (strs (splitL s t))) m else .none
  | _ => .none
theorem xSplit_ok (args : List AV) (m m' : Mem) (x : AV) (h : xSplit args m = .val x m') : ACall Tryz.prog 25 args m.L fun y g => y = x ∧ g = m'.L := by
  unfold xSplit at h
  split at h
  · rename_i s t
    obtain ⟨hb, h⟩ := bifv h
    simp only [OV.val.injEq] at h
    obtain ⟨rfl, rfl⟩ := h
    simp only [Bool.and_eq_true, blt_iff, ble_iff, beq_iff, lenB_eq] at hb
    exact split_fz s t m.L hb.1.1 hb.1.2 hb.2
  · cases h
def xCut (args : List AV) (m : Mem) : OV :=
  match args with
  | [.str s, .str t] => .val (.tup [.str (Lib.trimPrefix s t), .bool (Lib.hasPrefix s t)]) m
  | _ => .none
theorem xCut_ok (args : List AV) (m m' : Mem) (x : AV) (h : xCut args m = .val x m') : ACall Tryz.prog 26 args m.L fun y g => y = x ∧ g = m'.L := by
  unfold xCut at h
  split at h
  · simp only [OV.val.injEq] at h
    obtain ⟨rfl, rfl⟩ := h
    exact cutPrefix_ok _ _ _
  · cases h
def xJoin (args : List AV) (m : Mem) : OV :=
  match args with
  | [x, .str sep] => (match x with
    | .fz c l => (match unstr l with
      | some ss => bif Nat.ble (lenB ss) 140737488355328 && Nat.ble (lenB (Lib.join ss sep)) 140737488355328 then .val (.str (Lib.join ss sep)) m else .none
      | none => .none)
    | .sl t g s off len => (match m.at t with
      | .arr g' s' l => (match unstr ((l.drop off).take len) with
        | some ss => bif Nat.beq g g' && Nat.beq s s' && Nat.ble (off + len) (lenB l) && Nat.ble (lenB ss) 140737488355328 && Nat.ble (lenB (Lib.join ss sep)) 140737488355328 then .val (.str (Lib.join ss sep)) m else .none
        | none => .none)
      | _ => .none)
    | _ => .none)
  | _ => .none
theorem xJoin_ok (args : List AV) (m m' : Mem) (x : AV) (h : xJoin args m = .val x m') : ACall Tryz.prog 44 args m.L fun y g => y = x ∧ g = m'.L := by
  unfold xJoin at h
  split at h
  · split at h
    · rename_i sep _ c l
      split at h
      · rename_i ss e
        obtain ⟨hb, h⟩ := bifv h
        simp only [OV.val.injEq] at h
        obtain ⟨rfl, rfl⟩ := h
        simp only [Bool.and_eq_true, ble_iff, lenB_eq] at hb
        rw [unstr_ok e]
        exact join_ok ss sep c m.L hb.1 hb.2
      · cases h
    · rename_i sep _ t g s off len
      split at h
      · rename_i g' s' l hg
        split at h
        · rename_i ss e
          obtain ⟨hb, h⟩ := bifv h
          simp only [OV.val.injEq] at h
          obtain ⟨rfl, rfl⟩ := h
          simp only [Bool.and_eq_true, ble_iff, beq_iff, lenB_eq] at hb
          obtain ⟨⟨⟨⟨h1, h2⟩, h3⟩, h4⟩, h5⟩ := hb
          have hget := m.at_get (k := t) (by rw [hg]; simp)
          rw [hg] at hget
          refine ACall.pure (p := (g = g' ∧ s = s' ∧ off + len ≤ l.length) ∧ True ∧ True) (as' := [.fz false (strs ss), .str sep]) ?_ ⟨⟨h1, h2, h3⟩, trivial, trivial⟩ ((join_ok ss sep false _ h4 h5).mono ?_)
          · simp only [lends, lendA, hget, unstr_ok e]
          · rintro r h2 ⟨rfl, rfl⟩
            exact ⟨rfl, rfl, rfl⟩
        · cases h
      · cases h
    · cases h
  · cases h
def xNum (args : List AV) (m : Mem) : OV :=
  match args with
  | [.str s] => (match Lib.atoiAll s with
    | .ok v => bif Nat.ble (lenB s) 281474976710656 then .val (.tup [.int .i64 v, .nili]) m else .none
    | _ => .none)
  | _ => .none
theorem xNum_ok (args : List AV) (m m' : Mem) (x : AV) (h : xNum args m = .val x m') : ACall Tryz.prog 37 args m.L fun y g => y = x ∧ g = m'.L := by
  unfold xNum at h
  split at h
  · rename_i s
    split at h
    · rename_i v hv
      obtain ⟨hb, h⟩ := bifv h
      simp only [OV.val.injEq] at h
      obtain ⟨rfl, rfl⟩ := h
      rw [ble_iff, lenB_eq] at hb
      exact atoi_num s v m.L hb hv
    · cases h
  · cases h
def xItoa (args : List AV) (m : Mem) : OV :=
  match args with
  | [.int .i64 n] => bif ileB (-9223372036854775808) n && ileB n 9223372036854775807 then .val (.str (Lib.itoa n)) m else .none
  | _ => .none
theorem xItoa_ok (args : List AV) (m m' : Mem) (x : AV) (h : xItoa args m = .val x m') : ACall Tryz.prog 38 args m.L fun y g => y = x ∧ g = m'.L := by
  unfold xItoa at h
  split at h
  · rename_i n
    obtain ⟨hb, h⟩ := bifv h
    simp only [OV.val.injEq] at h
    obtain ⟨rfl, rfl⟩ := h
    simp only [Bool.and_eq_true, ileB_iff] at hb
    exact itoa_ok n m.L hb.1 hb.2
  · cases h
def xWords (args : List AV) (m : Mem) : OV :=
  match args with
  | [] => .val (.fz false (strs wordsL)) m
  | _ => .none
theorem xWords_ok (args : List AV) (m m' : Mem) (x : AV) (h : xWords args m = .val x m') : ACall Tryz.prog 58 args m.L fun y g => y = x ∧ g = m'.L := by
  unfold xWords at h
  split at h
  · simp only [OV.val.injEq] at h
    obtain ⟨rfl, rfl⟩ := h
    exact X_frame words_ok (by simp [AV.low, low_strs])
  · cases h
def polX (g : FuncId) : XS :=
  match g with
  | 25 => .some xSplit
  | 26 => .some xCut
  | 44 => .some xJoin
  | 37 => .some xNum
  | 38 => .some xItoa
  | 58 => .some xWords
  | _ => .none
theorem polX_ok : XOk Tryz.prog polX := by
  intro g q hq args m x m' h
  unfold polX at hq
  split at hq
  · injection hq with hq; subst hq; exact xSplit_ok _ _ _ _ h
  · injection hq with hq; subst hq; exact xCut_ok _ _ _ _ h
  · injection hq with hq; subst hq; exact xJoin_ok _ _ _ _ h
  · injection hq with hq; subst hq; exact xNum_ok _ _ _ _ h
  · injection hq with hq; subst hq; exact xItoa_ok _ _ _ _ h
  · injection hq with hq; subst hq; exact xWords_ok _ _ _ _ h
  · cases hq
end Go.Proofs.Vale
