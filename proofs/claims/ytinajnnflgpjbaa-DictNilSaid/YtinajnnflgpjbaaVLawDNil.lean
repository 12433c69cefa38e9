/- DictNil of columbarylaw06 is true at every input and never panics; what it reads stays as it was. No conditions. -/
import Derived.Test.YtinajnnflgpjbaaVDictN
import Derived.Test.YtinajnnflgpjbaaVZ
import Derived.Test.YtinajnnflgpjbaaRows
import Derived.WalkKit
import Derived.ProofKit
import Derived.OpenShut
import Derived.ShutString
import Derived.ChangeOld
import Derived.Below
import Derived.SizedLaws
set_option linter.unusedVariables false
set_option maxRecDepth 100000
namespace Go.Proofs.Ytinajnnflgpjbaa.dictNil
open Go.ChangeShapes Go.WideShapes Go.ChangeAt Go.RowKit Go.Proofs.Vale
theorem own : ownKnob Try.prog.godebug = none := by kernel_rfl
theorem laidOut : laidOutB Try.prog = true := by kernel_rfl
theorem hasC_strs37 {n : Nat} {xs : List AV} (h : HasC Try.prog n 37 xs) : ∃ l : List Str, mkV false xs = .fz false (strs l) ∧ l.length ≤ 9223372036854775807 ∧ ∀ s ∈ l, s.length ≤ 9223372036854775807 := by
  obtain ⟨l, m, rfl, hl, hx⟩ := HasC_slice Try.underlying37 (by rw [show Try.prog.cellsOf 9 = 1 by kernel_rfl]; simp) (by kernel_rfl) h
  obtain ⟨zs, rfl, hz⟩ := list_of (f := fun z : Str => AV.str z) (Q := fun z => z.length ≤ maxLen) l (fun y hy => by
    obtain ⟨ys, h1, -, h3, -⟩ := hx y hy
    obtain ⟨z, rfl, hz⟩ := HasC_str Try.underlying9 h3
    rw [show isAgB Try.prog 9 = false by kernel_rfl] at h1
    exact ⟨z, h1, hz⟩)
  exact ⟨zs, rfl, by simpa [maxLen] using hl, fun s hs => by have := hz s hs; simpa [maxLen] using this⟩
theorem hasC_str {n : Nat} {xs : List AV} (h : HasC Try.prog n 9 xs) : ∃ s : Str, mkV false xs = .str s ∧ s.length ≤ 9223372036854775807 := by
  obtain ⟨s, rfl, hs⟩ := HasC_str Try.underlying9 h
  exact ⟨s, rfl, by simpa [maxLen] using hs⟩
theorem lifted (os : Os) (started : os.Started) (H : Type) (enc : TypeId × Value → H) :
    ReturnsInHanded {} Try.checked os 9 .any (Rows.dictNilSpec.pre6 enc Try.prog Try.f9 Rows.dictNilRow.domain false) (Rows.dictNilSpec.post enc Try.prog Try.f9 false true false false) := by
  refine returnsInHanded_of_change_sized (C := Try.checked) own started (by kernel_rfl) Try.func9
    (ChangeSpec.witness6 (enc := enc) (C := Try.checked) false ⟨#[], #[.slice none 0 0, .string ⟨#[]⟩], []⟩ 8 (by kernel_rfl) (by kernel_rfl) (by kernel_rfl) (by kernel_rfl)) ?_
  intro W base args ds gs before hval0 hW hcnd hsz0 _
  have hval : ∀ (j : Nat) t v, Try.f9.params[j]? = some t → args[j]? = some v → Value.okWide Try.prog W .any base t v := hval0
  have hW' := hW
  obtain ⟨p, q, hA0, hV, rfl, hfz, hnd⟩ := hW
  have hA : DataW.TrodAll enc Try.prog W 0 (fun _ => true) true Try.f9.params.toList args.toList ds p := hA0
  have hsz : (DataW.weightsEach Try.prog (Try.f9.params.toList ++ Rows.dictNilSpec.plain.varTypes Try.prog) (ds ++ gs)).all (· ≤ reachBytes) = true := hsz0
  rw [Try.params9] at hA hval hsz
  obtain ⟨v0, vs0, d0, ds0, p0, q0, hargs0, rfl, rfl, h0, r0⟩ := trodAll_cons hA
  obtain ⟨v1, vs1, d1, ds1, p1, q1, hargs1, rfl, rfl, h1, r1⟩ := trodAll_cons r0
  obtain ⟨rfl, rfl, rfl⟩ := trodAll_nil r1
  obtain rfl : args = #[v0, v1] := by cases args; simp_all
  obtain ⟨rfl, rfl⟩ := trodVars_none hV
  have lt0 : ∀ x ∈ p0, x.block < W.heap.size := by obtain ⟨m, hm⟩ := h0; exact DataW.trod_lt m _ _ _ hm
  have lt1 : ∀ x ∈ p1, x.block < W.heap.size := by obtain ⟨m, hm⟩ := h1; exact DataW.trod_lt m _ _ _ hm
  obtain ⟨n0, x0, e0, c0, m0⟩ := arg_rep (hval 0 37 v0 rfl rfl) h0 (by kernel_rfl) (fun _ => by kernel_rfl)
  obtain ⟨n1, x1, e1, c1, m1⟩ := arg_rep (hval 1 9 v1 rfl rfl) h1 (by kernel_rfl) (fun _ => by kernel_rfl)
  rw [show isAgB Try.prog 37 = false by kernel_rfl] at m0
  rw [show isAgB Try.prog 9 = false by kernel_rfl] at m1
  obtain ⟨l0, ha0, hn0, hs0⟩ := hasC_strs37 c0
  obtain ⟨s1, ha1, hs1⟩ := hasC_str c1
  rw [m0, ha0] at e0
  rw [m1, ha1] at e1
  have hl0 : l0.length * 16 ≤ 140737488351232 := by
    have := arg_len Try.underlying37 h0 e0 hsz (j := 0) rfl rfl
    rw [strs_len, show Try.prog.bytesOf 9 = 16 by kernel_rfl] at this; exact this
  refine (law_calls (nil_ok false l0 s1 [] hl0) (cells2 e0 e1)).mono fun e W' ⟨he, bel⟩ => ?_
  subst he
  exact ⟨_, rfl, _, _, _, [], _, [], hW', trodAll_mk1 (shut_bool Try.underlying4 _),
    (trodAll_cons_mk (Below.trod laidOut (by kernel_rfl) (of_decide_eq_true (by kernel_rfl)) h0 bel lt0) (trodAll_cons_mk (Below.trod laidOut (by kernel_rfl) (of_decide_eq_true (by kernel_rfl)) h1 bel lt1) trodAll_mk0)), rfl, bel.frame _, fun h => by cases h⟩
theorem over : Rows.dictNilRow.holds Try.pinned (OpenSpec.ofChange Rows.dictNilSpec) :=
  OpenClaim.holds_of_wide 9 Try.f9 rfl rfl rfl rfl rfl rfl rfl ⟨rfl, rfl, rfl, rfl, rfl⟩ rfl rfl rfl rfl rfl (by kernel_rfl) Try.func9 (by kernel_rfl)
    (of_decide_eq_true (by kernel_rfl)) (by unfold Func.isWrapper; first | (rw [if_pos (by decide +kernel)]; kernel_rfl) | (rw [if_neg (by decide +kernel)]; exact ⟨rfl, rfl⟩))
    (fun os started H enc _ => lifted os started H enc)
theorem proved : Rows.DictNilSaid := over
end Go.Proofs.Ytinajnnflgpjbaa.dictNil
namespace Go.Proofs.Ytinajnnflgpjbaa
theorem dictNil_holds : Rows.DictNilSaid := dictNil.proved
end Go.Proofs.Ytinajnnflgpjbaa
