/- DimcolNil of columbarylaw09 is true at every input and never panics; what it reads stays as it was. No conditions. -/
import Derived.Test.YtmhcmpeffhlaeaaGreatVDimH
import Derived.Test.YtmhcmpeffhlaeaaGreatVZ
import Derived.Test.YtmhcmpeffhlaeaaGreatRows
import Derived.WalkKit
import Derived.ProofKit
import Derived.OpenShut
import Derived.ShutString
import Derived.ChangeOld
import Derived.Below
import Derived.SizedLaws
set_option linter.unusedVariables false
set_option maxRecDepth 100000
namespace Go.Proofs.YtmhcmpeffhlaeaaGreat.dimcolNil
open Go.ChangeShapes Go.WideShapes Go.ChangeAt Go.RowKit Go.Proofs.Vale
theorem own : ownKnob Tryz.prog.godebug = none := by kernel_rfl
theorem laidOut : laidOutB Tryz.prog = true := by kernel_rfl
theorem hasC_str {n : Nat} {xs : List AV} (h : HasC Tryz.prog n 9 xs) : ∃ s : Str, mkV false xs = .str s ∧ s.length ≤ 9223372036854775807 := by
  obtain ⟨s, rfl, hs⟩ := HasC_str Tryz.underlying9 h
  exact ⟨s, rfl, by simpa [maxLen] using hs⟩
theorem hasC_i64 {n : Nat} {xs : List AV} (h : HasC Tryz.prog n 3 xs) : ∃ z : Int, mkV false xs = .int .i64 z ∧ -9223372036854775808 ≤ z ∧ z ≤ 9223372036854775807 := by
  obtain ⟨z, rfl, hz⟩ := HasC_int Tryz.underlying3 h
  simp only [Lit.wf, IntKind.min, IntKind.max, IntKind.signed, IntKind.bits] at hz
  simp at hz
  exact ⟨z, rfl, by omega, by omega⟩
theorem lifted (os : Os) (started : os.Started) (H : Type) (enc : TypeId × Value → H) :
    ReturnsInHanded {} Tryz.checked os 6 .any (Rows.dimcolNilSpec.pre6 enc Tryz.prog Tryz.f6 Rows.dimcolNilRow.domain false) (Rows.dimcolNilSpec.post enc Tryz.prog Tryz.f6 false true false false) := by
  refine returnsInHanded_of_change_sized (C := Tryz.checked) own started (by kernel_rfl) Tryz.func6
    (ChangeSpec.witness6 (enc := enc) (C := Tryz.checked) false ⟨#[], #[.string ⟨#[]⟩, .int .i64 0], []⟩ 8 (by kernel_rfl) (by kernel_rfl) (by kernel_rfl) (by kernel_rfl)) ?_
  intro W base args ds gs before hval0 hW hcnd hsz0 _
  have hval : ∀ (j : Nat) t v, Tryz.f6.params[j]? = some t → args[j]? = some v → Value.okWide Tryz.prog W .any base t v := hval0
  have hW' := hW
  obtain ⟨p, q, hA0, hV, rfl, hfz, hnd⟩ := hW
  have hA : DataW.TrodAll enc Tryz.prog W 0 (fun _ => true) true Tryz.f6.params.toList args.toList ds p := hA0
  have hsz : (DataW.weightsEach Tryz.prog (Tryz.f6.params.toList ++ Rows.dimcolNilSpec.plain.varTypes Tryz.prog) (ds ++ gs)).all (· ≤ reachBytes) = true := hsz0
  rw [Tryz.params6] at hA hval hsz
  obtain ⟨v0, vs0, d0, ds0, p0, q0, hargs0, rfl, rfl, h0, r0⟩ := trodAll_cons hA
  obtain ⟨v1, vs1, d1, ds1, p1, q1, hargs1, rfl, rfl, h1, r1⟩ := trodAll_cons r0
  obtain ⟨rfl, rfl, rfl⟩ := trodAll_nil r1
  obtain rfl : args = #[v0, v1] := by cases args; simp_all
  obtain ⟨rfl, rfl⟩ := trodVars_none hV
  have lt0 : ∀ x ∈ p0, x.block < W.heap.size := by obtain ⟨m, hm⟩ := h0; exact DataW.trod_lt m _ _ _ hm
  have lt1 : ∀ x ∈ p1, x.block < W.heap.size := by obtain ⟨m, hm⟩ := h1; exact DataW.trod_lt m _ _ _ hm
  obtain ⟨n0, x0, e0, c0, m0⟩ := arg_rep (hval 0 9 v0 rfl rfl) h0 (by kernel_rfl) (fun _ => by kernel_rfl)
  obtain ⟨n1, x1, e1, c1, m1⟩ := arg_rep (hval 1 3 v1 rfl rfl) h1 (by kernel_rfl) (fun _ => by kernel_rfl)
  rw [show isAgB Tryz.prog 9 = false by kernel_rfl] at m0
  rw [show isAgB Tryz.prog 3 = false by kernel_rfl] at m1
  obtain ⟨s0, ha0, hs0⟩ := hasC_str c0
  obtain ⟨z1, ha1, hz1⟩ := hasC_i64 c1
  rw [m0, ha0] at e0
  rw [m1, ha1] at e1
  refine (law_calls (nil_ok s0 z1 []) (cells2 e0 e1) (fun _ _ q => by cases q)).mono fun e W' ⟨he, bel⟩ => ?_
  subst he
  exact ⟨_, rfl, _, _, _, [], _, [], hW', trodAll_mk1 (shut_bool Tryz.underlying4 _),
    (trodAll_cons_mk (Below.trod laidOut (by kernel_rfl) (of_decide_eq_true (by kernel_rfl)) h0 bel lt0) (trodAll_cons_mk (Below.trod laidOut (by kernel_rfl) (of_decide_eq_true (by kernel_rfl)) h1 bel lt1) trodAll_mk0)), rfl, bel.frame _, fun h => by cases h⟩
theorem over : Rows.dimcolNilRow.holds Tryz.pinned (OpenSpec.ofChange Rows.dimcolNilSpec) :=
  OpenClaim.holds_of_wide 6 Tryz.f6 rfl rfl rfl rfl rfl rfl rfl ⟨rfl, rfl, rfl, rfl, rfl⟩ rfl rfl rfl rfl rfl (by kernel_rfl) Tryz.func6 (by kernel_rfl)
    (of_decide_eq_true (by kernel_rfl)) (by unfold Func.isWrapper; first | (rw [if_pos (by decide +kernel)]; kernel_rfl) | (rw [if_neg (by decide +kernel)]; exact ⟨rfl, rfl⟩))
    (fun os started H enc _ => lifted os started H enc)
theorem proved : Rows.DimcolNilSaid := over
end Go.Proofs.YtmhcmpeffhlaeaaGreat.dimcolNil
namespace Go.Proofs.YtmhcmpeffhlaeaaGreat
theorem dimcolNil_holds : Rows.DimcolNilSaid := dimcolNil.proved
end Go.Proofs.YtmhcmpeffhlaeaaGreat
