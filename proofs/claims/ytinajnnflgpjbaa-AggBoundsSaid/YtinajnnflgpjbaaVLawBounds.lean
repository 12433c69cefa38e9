/- AggBounds of columbarylaw12 is true at every input and never panics; what it reads stays as it was. No conditions. -/
import Derived.Test.YtinajnnflgpjbaaVAggD
import Derived.Test.YtinajnnflgpjbaaRows
import Derived.WalkKit
import Derived.ProofKit
import Derived.OpenShut
import Derived.ShutString
import Derived.ChangeOld
import Derived.Below
import Derived.SizedLaws
set_option linter.unusedVariables false
set_option maxRecDepth 100000
namespace Go.Proofs.Ytinajnnflgpjbaa.aggBounds
open Go.ChangeShapes Go.WideShapes Go.ChangeAt Go.RowKit Go.Proofs.Vale
theorem own : ownKnob Try.prog.godebug = none := by kernel_rfl
theorem laidOut : laidOutB Try.prog = true := by kernel_rfl
theorem hasC_ints {n : Nat} {xs : List AV} (h : HasC Try.prog n 24 xs) : ∃ l : List Int, mkV false xs = .fz false (ints l) ∧ l.length ≤ 9223372036854775807 := by
  obtain ⟨l, m, rfl, hl, hx⟩ := HasC_slice Try.underlying24 (by rw [show Try.prog.cellsOf 3 = 1 by kernel_rfl]; simp) (by kernel_rfl) h
  obtain ⟨zs, rfl, -⟩ := list_of (f := fun z : Int => AV.int .i64 z) (Q := fun _ => True) l (fun y hy => by
    obtain ⟨ys, h1, -, h3, -⟩ := hx y hy
    obtain ⟨z, rfl, -⟩ := HasC_int Try.underlying3 h3
    rw [show isAgB Try.prog 3 = false by kernel_rfl] at h1
    exact ⟨z, h1, trivial⟩)
  exact ⟨zs, rfl, by simpa [maxLen] using hl⟩
theorem hasC_i64 {n : Nat} {xs : List AV} (h : HasC Try.prog n 3 xs) : ∃ z : Int, mkV false xs = .int .i64 z ∧ -9223372036854775808 ≤ z ∧ z ≤ 9223372036854775807 := by
  obtain ⟨z, rfl, hz⟩ := HasC_int Try.underlying3 h
  simp only [Lit.wf, IntKind.min, IntKind.max, IntKind.signed, IntKind.bits] at hz
  simp at hz
  exact ⟨z, rfl, by omega, by omega⟩
theorem lifted (os : Os) (started : os.Started) (H : Type) (enc : TypeId × Value → H) :
    ReturnsInHanded {} Try.checked os 5 .any (Rows.aggBoundsSpec.pre6 enc Try.prog Try.f5 Rows.aggBoundsRow.domain false) (Rows.aggBoundsSpec.post enc Try.prog Try.f5 false true false false) := by
  refine returnsInHanded_of_change_sized (C := Try.checked) own started (by kernel_rfl) Try.func5
    (ChangeSpec.witness6 (enc := enc) (C := Try.checked) false ⟨#[], #[.slice none 0 0], []⟩ 8 (by kernel_rfl) (by kernel_rfl) (by kernel_rfl) (by kernel_rfl)) ?_
  intro W base args ds gs before hval0 hW hcnd hsz0 _
  have hval : ∀ (j : Nat) t v, Try.f5.params[j]? = some t → args[j]? = some v → Value.okWide Try.prog W .any base t v := hval0
  have hW' := hW
  obtain ⟨p, q, hA0, hV, rfl, hfz, hnd⟩ := hW
  have hA : DataW.TrodAll enc Try.prog W 0 (fun _ => true) true Try.f5.params.toList args.toList ds p := hA0
  rw [Try.params5] at hA hval
  obtain ⟨v0, vs0, d0, ds0, p0, q0, hargs0, rfl, rfl, h0, r0⟩ := trodAll_cons hA
  obtain ⟨rfl, rfl, rfl⟩ := trodAll_nil r0
  obtain rfl : args = #[v0] := by cases args; simp_all
  obtain ⟨rfl, rfl⟩ := trodVars_none hV
  have lt0 : ∀ x ∈ p0, x.block < W.heap.size := by obtain ⟨m, hm⟩ := h0; exact DataW.trod_lt m _ _ _ hm
  obtain ⟨n0, x0, e0, c0, m0⟩ := arg_rep (hval 0 24 v0 rfl rfl) h0 (by kernel_rfl) (fun _ => by kernel_rfl)
  rw [show isAgB Try.prog 24 = false by kernel_rfl] at m0
  obtain ⟨l, ha, hl⟩ := hasC_ints c0
  rw [m0, ha] at e0
  refine (law_calls (f5_ok l false [] hl) (cells1 e0)).mono fun e W' ⟨he, bel⟩ => ?_
  subst he
  exact ⟨_, rfl, _, _, _, [], _, [], hW', trodAll_mk1 (shut_bool Try.underlying4 _),
    (trodAll_cons_mk (Below.trod laidOut (by kernel_rfl) (of_decide_eq_true (by kernel_rfl)) h0 bel lt0) trodAll_mk0), rfl, bel.frame _, fun h => by cases h⟩
theorem over : Rows.aggBoundsRow.holds Try.pinned (OpenSpec.ofChange Rows.aggBoundsSpec) :=
  OpenClaim.holds_of_wide 5 Try.f5 rfl rfl rfl rfl rfl rfl rfl ⟨rfl, rfl, rfl, rfl, rfl⟩ rfl rfl rfl rfl rfl (by kernel_rfl) Try.func5 (by kernel_rfl)
    (of_decide_eq_true (by kernel_rfl)) (by unfold Func.isWrapper; first | (rw [if_pos (by decide +kernel)]; kernel_rfl) | (rw [if_neg (by decide +kernel)]; exact ⟨rfl, rfl⟩))
    (fun os started H enc _ => lifted os started H enc)
theorem proved : Rows.AggBoundsSaid := over
end Go.Proofs.Ytinajnnflgpjbaa.aggBounds
namespace Go.Proofs.Ytinajnnflgpjbaa
theorem aggBounds_holds : Rows.AggBoundsSaid := aggBounds.proved
end Go.Proofs.Ytinajnnflgpjbaa
