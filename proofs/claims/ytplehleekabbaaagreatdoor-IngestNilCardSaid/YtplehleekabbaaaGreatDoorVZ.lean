/- YtplehleekabbaaaGreatDoorVZ: a text of the proof of this claim, by its prover. -/
import Derived.Test.YtplehleekabbaaaGreatDoorVY
import Derived.SizedLaws
set_option linter.unusedVariables false
set_option linter.unusedSimpArgs false
namespace Go.Proofs.Vale

/-! ### How large an argument may be -/
theorem slice_len {H : Type} {enc : TypeId × Value → H} {P : Program} {W : World} {base : Nat} {sp : Nat → Bool} {t e : TypeId} {a : Option Addr} {n cap : Nat} {d : DataW H} {p : List MemPlace} (hu : P.underlying t = some (.slice e)) (h : DataW.Trod enc P W base sp true t (.slice a n cap) d p) : n = 0 ∨ ∃ elems spare, d = .slice elems spare ∧ elems.length = n := by
  obtain ⟨m, hm⟩ := h
  cases m with
  | zero => cases hm
  | succ m =>
    simp only [Value.cells, DataW.trod, hu] at hm
    cases a with
    | none =>
      by_cases q : n = 0
      · exact .inl q
      · exfalso
        rcases n with _ | n
        · exact q rfl
        · simp at hm
    | some a =>
      right
      simp only at hm
      split at hm
      · rw [Option.bind_eq_some_iff] at hm
        obtain ⟨elems, h1, h2⟩ := hm
        rw [Option.map_eq_some_iff] at h2
        obtain ⟨rest, h3, h4⟩ := h2
        injection h4 with h4 h5
        refine ⟨_, _, h4.symm, ?_⟩
        have := (mapM_get _ _ _ h1).1
        simp at this ⊢
        exact this
      · cases hm
theorem arg_len {H : Type} {enc : TypeId × Value → H} {P : Program} {W : World} {base : Nat} {sp : Nat → Bool} {t e : TypeId} {v : Value} {d : DataW H} {p : List MemPlace} {β : Beta} {fr : Nat → Prop} {M : Array Obj} {c : Bool} {l : List AV} {ts : List TypeId} {ds : List (DataW H)} {j : Nat}
    (hu : P.underlying t = some (.slice e)) (h : DataW.Trod enc P W base sp true t v d p) (r : Rep β fr M (.fz c l) v)
    (hs : (DataW.weightsEach P ts ds).all (· ≤ reachBytes) = true) (ht : ts[j]? = some t) (hd : ds[j]? = some d) : l.length * P.bytesOf e ≤ 140737488351232 := by
  simp only [Rep] at r
  obtain ⟨a, cap, rfl, _⟩ := r
  rcases slice_len hu h with q | ⟨elems, spare, rfl, q⟩
  · rw [q]; simp
  · have := sized_slice hs ht hd hu
    have h2 : l.length * P.bytesOf e ≤ (elems.length + spare.length) * P.bytesOf e := Nat.mul_le_mul_right _ (by omega)
    have h3 : reachBytes = 140737488351232 := by decide
    omega
end Go.Proofs.Vale
