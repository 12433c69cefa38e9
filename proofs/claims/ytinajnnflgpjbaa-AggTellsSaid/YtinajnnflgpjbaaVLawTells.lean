/- AggTells of columbarylaw12 is true at every input and never panics; what it reads stays as it was. No conditions. -/
import Derived.Test.YtinajnnflgpjbaaVAggE
import Derived.Test.YtinajnnflgpjbaaRows
import Derived.WalkKit
import Derived.ProofKit
import Derived.OpenShut
import Derived.ShutString
import Derived.ChangeOld
import Derived.Below
import Derived.SizedLaws
set_option linter.unusedVariables false
set_option maxRecDepth 100000
namespace Go.Proofs.Ytinajnnflgpjbaa.aggTells
open Go.ChangeShapes Go.WideShapes Go.ChangeAt Go.RowKit Go.Proofs.Vale
theorem own : ownKnob Try.prog.godebug = none := by kernel_rfl
theorem laidOut : laidOutB Try.prog = true := by kernel_rfl
theorem hasC_A3 {n : Nat} {xs : List AV} (h : HasC Try.prog n 23 xs) : ∃ a : A3, mkV true xs = encA a := by
  obtain ⟨xss, m, rfl, hl, hx⟩ := HasC_struct Try.underlying23 (by kernel_rfl) h
  obtain ⟨u, v, w, rfl⟩ : ∃ u v w, xss = [u, v, w] := by
    match xss, hl with
    | [u, v, w], _ => exact ⟨u, v, w, rfl⟩
  obtain ⟨a, ha, _⟩ := HasC_int Try.underlying3 (hx 0 (by simp) (by simp)).1
  obtain ⟨b, hb, _⟩ := HasC_int Try.underlying3 (hx 1 (by simp) (by simp)).1
  obtain ⟨c, hc, _⟩ := HasC_int Try.underlying3 (hx 2 (by simp) (by simp)).1
  simp only [List.getElem_cons_zero, List.getElem_cons_succ] at ha hb hc
  subst ha hb hc
  exact ⟨⟨a, b, c⟩, rfl⟩
theorem hasC_ints {n : Nat} {xs : List AV} (h : HasC Try.prog n 24 xs) : ∃ l : List Int, mkV false xs = .fz false (ints l) ∧ l.length ≤ 9223372036854775807 := by
  obtain ⟨l, m, rfl, hl, hx⟩ := HasC_slice Try.underlying24 (by rw [show Try.prog.cellsOf 3 = 1 by kernel_rfl]; simp) (by kernel_rfl) h
  obtain ⟨zs, rfl, -⟩ := list_of (f := fun z : Int => AV.int .i64 z) (Q := fun _ => True) l (fun y hy => by
    obtain ⟨ys, h1, -, h3, -⟩ := hx y hy
    obtain ⟨z, rfl, -⟩ := HasC_int Try.underlying3 h3
    rw [show isAgB Try.prog 3 = false by kernel_rfl] at h1
    exact ⟨z, h1, trivial⟩)
  exact ⟨zs, rfl, by simpa [maxLen] using hl⟩
theorem lifted (os : Os) (started : os.Started) (H : Type) (enc : TypeId × Value → H) :
    ReturnsInHanded {} Try.checked os 3 .any (Rows.aggTellsSpec.pre6 enc Try.prog Try.f3 Rows.aggTellsRow.domain false) (Rows.aggTellsSpec.post enc Try.prog Try.f3 false true false false) := by
  refine returnsInHanded_of_change_sized (C := Try.checked) own started (by kernel_rfl) Try.func3
    (ChangeSpec.witness6 (enc := enc) (C := Try.checked) false ⟨#[], #[.agg #[.int .i64 0, .int .i64 0, .int .i64 0], .agg #[.int .i64 0, .int .i64 0, .int .i64 0], .slice none 0 0], []⟩ 8 (by kernel_rfl) (by kernel_rfl) (by kernel_rfl) (by kernel_rfl)) ?_
  intro W base args ds gs before hval0 hW hcnd hsz0 _
  have hval : ∀ (j : Nat) t v, Try.f3.params[j]? = some t → args[j]? = some v → Value.okWide Try.prog W .any base t v := hval0
  have hW' := hW
  obtain ⟨p, q, hA0, hV, rfl, hfz, hnd⟩ := hW
  have hA : DataW.TrodAll enc Try.prog W 0 (fun _ => true) true Try.f3.params.toList args.toList ds p := hA0
  rw [Try.params3] at hA hval
  obtain ⟨v0, vs0, d0, ds0, p0, q0, hargs0, rfl, rfl, h0, r0⟩ := trodAll_cons hA
  obtain ⟨v1, vs1, d1, ds1, p1, q1, hargs1, rfl, rfl, h1, r1⟩ := trodAll_cons r0
  obtain ⟨v2, vs2, d2, ds2, p2, q2, hargs2, rfl, rfl, h2, r2⟩ := trodAll_cons r1
  obtain ⟨rfl, rfl, rfl⟩ := trodAll_nil r2
  obtain rfl : args = #[v0, v1, v2] := by cases args; simp_all
  obtain ⟨rfl, rfl⟩ := trodVars_none hV
  have lt0 : ∀ x ∈ p0, x.block < W.heap.size := by obtain ⟨m, hm⟩ := h0; exact DataW.trod_lt m _ _ _ hm
  have lt1 : ∀ x ∈ p1, x.block < W.heap.size := by obtain ⟨m, hm⟩ := h1; exact DataW.trod_lt m _ _ _ hm
  have lt2 : ∀ x ∈ p2, x.block < W.heap.size := by obtain ⟨m, hm⟩ := h2; exact DataW.trod_lt m _ _ _ hm
  obtain ⟨n0, x0, e0, c0, m0⟩ := arg_rep (hval 0 23 v0 rfl rfl) h0 (by kernel_rfl) (by intro h; exact absurd h (by rw [show isAgB Try.prog 23 = true by kernel_rfl]; simp))
  obtain ⟨n1, x1, e1, c1, m1⟩ := arg_rep (hval 1 23 v1 rfl rfl) h1 (by kernel_rfl) (by intro h; exact absurd h (by rw [show isAgB Try.prog 23 = true by kernel_rfl]; simp))
  obtain ⟨n2, x2, e2, c2, m2⟩ := arg_rep (hval 2 24 v2 rfl rfl) h2 (by kernel_rfl) (fun _ => by kernel_rfl)
  rw [show isAgB Try.prog 23 = true by kernel_rfl] at m0 m1
  rw [show isAgB Try.prog 24 = false by kernel_rfl] at m2
  obtain ⟨a, ha⟩ := hasC_A3 c0
  obtain ⟨b, hb⟩ := hasC_A3 c1
  obtain ⟨l, hc, hl⟩ := hasC_ints c2
  rw [m0, ha] at e0
  rw [m1, hb] at e1
  rw [m2, hc] at e2
  refine (law_calls (f3_ok a b l false [] hl) (cells3 e0 e1 e2)).mono fun e W' ⟨he, bel⟩ => ?_
  subst he
  exact ⟨_, rfl, _, _, _, [], _, [], hW', trodAll_mk1 (shut_bool Try.underlying4 _),
    (trodAll_cons_mk (Below.trod laidOut (by kernel_rfl) (of_decide_eq_true (by kernel_rfl)) h0 bel lt0)
      (trodAll_cons_mk (Below.trod laidOut (by kernel_rfl) (of_decide_eq_true (by kernel_rfl)) h1 bel lt1)
        (trodAll_cons_mk (Below.trod laidOut (by kernel_rfl) (of_decide_eq_true (by kernel_rfl)) h2 bel lt2) trodAll_mk0))), rfl, bel.frame _, fun h => by cases h⟩
theorem over : Rows.aggTellsRow.holds Try.pinned (OpenSpec.ofChange Rows.aggTellsSpec) :=
  OpenClaim.holds_of_wide 3 Try.f3 rfl rfl rfl rfl rfl rfl rfl ⟨rfl, rfl, rfl, rfl, rfl⟩ rfl rfl rfl rfl rfl (by kernel_rfl) Try.func3 (by kernel_rfl)
    (of_decide_eq_true (by kernel_rfl)) (by unfold Func.isWrapper; first | (rw [if_pos (by decide +kernel)]; kernel_rfl) | (rw [if_neg (by decide +kernel)]; exact ⟨rfl, rfl⟩))
    (fun os started H enc _ => lifted os started H enc)
theorem proved : Rows.AggTellsSaid := over
end Go.Proofs.Ytinajnnflgpjbaa.aggTells
namespace Go.Proofs.Ytinajnnflgpjbaa
theorem aggTells_holds : Rows.AggTellsSaid := aggTells.proved
end Go.Proofs.Ytinajnnflgpjbaa
