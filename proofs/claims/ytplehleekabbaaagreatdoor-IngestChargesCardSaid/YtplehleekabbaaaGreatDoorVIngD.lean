/- YtplehleekabbaaaGreatDoorVIngD: a text of the proof of this claim, by its prover. -/
import Derived.Test.YtplehleekabbaaaGreatDoorVIngX
import Derived.Test.YtplehleekabbaaaGreatDoorVIngC
set_option linter.unusedVariables false
set_option maxRecDepth 100000
namespace Go.Proofs.YtplehleekabbaaaGreatDoor
open Go.ChangeShapes Go.WideShapes Go.ChangeAt Go.RowKit Go.Proofs.Vale
theorem hasC_bud27 {n : Nat} {xs : List AV} (h : HasC Tryz.prog n 27 xs) : ∃ (z : Int) (l : List Int), mkV true xs = budA false z l ∧ l.length ≤ 9223372036854775807 := by
  obtain ⟨xss, k, rfl, hl, hx⟩ := HasC_struct Tryz.underlying27 (by kernel_rfl) h
  obtain ⟨u, v, rfl⟩ : ∃ u v, xss = [u, v] := by
    match xss, hl with
    | [u, v], _ => exact ⟨u, v, rfl⟩
  obtain ⟨t, ht, ht2⟩ := hasC_i643 (hx 0 (by simp) (by simp)).1
  obtain ⟨m, hm, hm1, hm2⟩ := hasC_ints25 (hx 1 (by simp) (by simp)).1
  simp only [List.getElem_cons_zero, List.getElem_cons_succ] at ht hm
  subst ht hm
  exact ⟨t, m, rfl, hm1⟩
end Go.Proofs.YtplehleekabbaaaGreatDoor
