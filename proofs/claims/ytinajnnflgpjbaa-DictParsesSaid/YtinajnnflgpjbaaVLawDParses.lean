/- DictParses of columbarylaw06 is true at every input and never panics; what it reads stays as it was. No conditions. -/
import Derived.Test.YtinajnnflgpjbaaVDictX
import Derived.Test.YtinajnnflgpjbaaVZ
import Derived.Test.YtinajnnflgpjbaaRows
import Derived.WalkKit
import Derived.ProofKit
import Derived.OpenShut
import Derived.ShutString
import Derived.ChangeOld
import Derived.Below
import Derived.SizedLaws
set_option linter.unusedVariables false
set_option maxRecDepth 100000
namespace Go.Proofs.Ytinajnnflgpjbaa.dictParses
open Go.ChangeShapes Go.WideShapes Go.ChangeAt Go.RowKit Go.Proofs.Vale
theorem own : ownKnob Try.prog.godebug = none := by kernel_rfl
theorem laidOut : laidOutB Try.prog = true := by kernel_rfl
theorem hasC_bytes53 {n : Nat} {xs : List AV} (h : HasC Try.prog n 53 xs) : ∃ l : Str, mkV false xs = .fz false (bytesA l) ∧ l.length ≤ 9223372036854775807 := by
  obtain ⟨l, m, rfl, hl, hx⟩ := HasC_slice Try.underlying53 (by rw [show Try.prog.cellsOf 5 = 1 by kernel_rfl]; simp) (by kernel_rfl) h
  obtain ⟨zs, rfl, hz⟩ := list_of (f := fun z : UInt8 => AV.int .u8 z.toNat) (Q := fun _ => True) l (fun y hy => by
    obtain ⟨ys, h1, -, h3, -⟩ := hx y hy
    obtain ⟨z, rfl, hz⟩ := HasC_int Try.underlying5 h3
    rw [show isAgB Try.prog 5 = false by kernel_rfl] at h1
    simp only [Lit.wf, IntKind.min, IntKind.max, IntKind.signed, IntKind.bits] at hz
    simp at hz
    refine ⟨UInt8.ofNat z.toNat, ?_, trivial⟩
    rw [h1]
    have : ((UInt8.ofNat z.toNat).toNat : Int) = z := by rw [UInt8.toNat_ofNat']; omega
    show AV.int .u8 z = AV.int .u8 ((UInt8.ofNat z.toNat).toNat : Int)
    rw [this])
  exact ⟨zs, rfl, by simpa [maxLen] using hl⟩
theorem lifted (os : Os) (started : os.Started) (H : Type) (enc : TypeId × Value → H) :
    ReturnsInHanded {} Try.checked os 10 .any (Rows.dictParsesSpec.pre6 enc Try.prog Try.f10 Rows.dictParsesRow.domain false) (Rows.dictParsesSpec.post enc Try.prog Try.f10 false true false false) := by
  refine returnsInHanded_of_change_sized (C := Try.checked) own started (by kernel_rfl) Try.func10
    (ChangeSpec.witness6 (enc := enc) (C := Try.checked) false ⟨#[], #[.slice none 0 0], []⟩ 8 (by kernel_rfl) (by kernel_rfl) (by kernel_rfl) (by kernel_rfl)) ?_
  intro W base args ds gs before hval0 hW hcnd hsz0 _
  have hval : ∀ (j : Nat) t v, Try.f10.params[j]? = some t → args[j]? = some v → Value.okWide Try.prog W .any base t v := hval0
  have hW' := hW
  obtain ⟨p, q, hA0, hV, rfl, hfz, hnd⟩ := hW
  have hA : DataW.TrodAll enc Try.prog W 0 (fun _ => true) true Try.f10.params.toList args.toList ds p := hA0
  have hsz : (DataW.weightsEach Try.prog (Try.f10.params.toList ++ Rows.dictParsesSpec.plain.varTypes Try.prog) (ds ++ gs)).all (· ≤ reachBytes) = true := hsz0
  rw [Try.params10] at hA hval hsz
  obtain ⟨v0, vs0, d0, ds0, p0, q0, hargs0, rfl, rfl, h0, r0⟩ := trodAll_cons hA
  obtain ⟨rfl, rfl, rfl⟩ := trodAll_nil r0
  obtain rfl : args = #[v0] := by cases args; simp_all
  obtain ⟨rfl, rfl⟩ := trodVars_none hV
  have lt0 : ∀ x ∈ p0, x.block < W.heap.size := by obtain ⟨m, hm⟩ := h0; exact DataW.trod_lt m _ _ _ hm
  obtain ⟨n0, x0, e0, c0, m0⟩ := arg_rep (hval 0 53 v0 rfl rfl) h0 (by kernel_rfl) (fun _ => by kernel_rfl)
  rw [show isAgB Try.prog 53 = false by kernel_rfl] at m0
  obtain ⟨b0, ha0, hn0⟩ := hasC_bytes53 c0
  rw [m0, ha0] at e0
  have hl0 : b0.length * 1 ≤ 140737488351232 := by
    have := arg_len Try.underlying53 h0 e0 hsz (j := 0) rfl rfl
    rw [bytesA_len, show Try.prog.bytesOf 5 = 1 by kernel_rfl] at this; exact this
  refine (law_calls (parses_ok false b0 [] hn0) (cells1 e0)).mono fun e W' ⟨he, bel⟩ => ?_
  subst he
  exact ⟨_, rfl, _, _, _, [], _, [], hW', trodAll_mk1 (shut_bool Try.underlying4 _),
    (trodAll_cons_mk (Below.trod laidOut (by kernel_rfl) (of_decide_eq_true (by kernel_rfl)) h0 bel lt0) trodAll_mk0), rfl, bel.frame _, fun h => by cases h⟩
theorem over : Rows.dictParsesRow.holds Try.pinned (OpenSpec.ofChange Rows.dictParsesSpec) :=
  OpenClaim.holds_of_wide 10 Try.f10 rfl rfl rfl rfl rfl rfl rfl ⟨rfl, rfl, rfl, rfl, rfl⟩ rfl rfl rfl rfl rfl (by kernel_rfl) Try.func10 (by kernel_rfl)
    (of_decide_eq_true (by kernel_rfl)) (by unfold Func.isWrapper; first | (rw [if_pos (by decide +kernel)]; kernel_rfl) | (rw [if_neg (by decide +kernel)]; exact ⟨rfl, rfl⟩))
    (fun os started H enc _ => lifted os started H enc)
theorem proved : Rows.DictParsesSaid := over
end Go.Proofs.Ytinajnnflgpjbaa.dictParses
namespace Go.Proofs.Ytinajnnflgpjbaa
theorem dictParses_holds : Rows.DictParsesSaid := dictParses.proved
end Go.Proofs.Ytinajnnflgpjbaa
