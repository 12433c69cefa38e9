/- YtchboekipfpheaaDoorVLexX: a text of the proof of this claim, by its prover. -/
import Derived.Test.YtchboekipfpheaaDoorVLexQ
import Derived.Test.YtchboekipfpheaaDoorVZ
import Derived.Test.YtchboekipfpheaaDoorRows
import Derived.WalkKit
import Derived.ProofKit
import Derived.OpenShut
import Derived.ShutString
import Derived.ChangeOld
import Derived.Below
import Derived.SizedLaws
import Derived.LaidLaws
import Derived.Stop.LaidErr
set_option linter.unusedVariables false
set_option maxRecDepth 100000
namespace Go.Proofs.YtchboekipfpheaaDoor
open Go.ChangeShapes Go.WideShapes Go.ChangeAt Go.RowKit Go.Proofs.Vale
theorem own : ownKnob Tryd.prog.godebug = none := by kernel_rfl
theorem laidOut : laidOutB Tryd.prog = true := by kernel_rfl
def litV : DataW Unit → Value
  | .lit (.int k n) => .int k n
  | _ => .nilIface
def rowV : DataW Unit → Array Value
  | .agg l => (l.flatMap fun d => match d with
    | .agg m => m.map litV
    | d => [litV d]).toArray
  | _ => #[]
def bytesV (l : List UInt8) : Value := .string ⟨l.toArray⟩
/-- The settled world with two blocks more (what the two errors point at), the listed variables holding what the rows list. -/
noncomputable def laidWorld (os : Os) : World :=
  let N := (World.settled Tryd.prog os).heap.size
  let w0 := World.holding Tryd.prog os ⟨#[.cells #[bytesV [118, 97, 108, 117, 101, 32, 111, 117, 116, 32, 111, 102, 32, 114, 97, 110, 103, 101]] 111, .cells #[bytesV [105, 110, 118, 97, 108, 105, 100, 32, 115, 121, 110, 116, 97, 120]] 111], #[], []⟩
  let put (h : Array Obj) (g : Nat) (cs : Array Value) : Array Obj := h.modify g fun
    | .cells _ t frozen => .cells cs t frozen
    | o => o
  let h1 := put w0.heap 6 (rowV Rows.laid_math_bits_deBruijn32tab)
  let h2 := put h1 7 (rowV Rows.laid_math_bits_deBruijn64tab)
  let h3 := put h2 5 (rowV Rows.laid_internal_strconv_uint64pow10)
  let h4 := put h3 1 (rowV Rows.laid_unicode_utf8_acceptRanges)
  let h5 := put h4 4 #[.iface 109 (.pointer (some ⟨N, 0, none⟩))]
  let h6 := put h5 3 #[.iface 109 (.pointer (some ⟨N + 1, 0, none⟩))]
  let h7 := put h6 0 (rowV Rows.laid_unicode_utf8_first)
  { w0 with heap := h7 }
theorem laid_met (os : Os) (args : Array Value) : laidMetH Tryd.prog Rows.lexerTellsRow.laid ((laidWorld os).forCall (fun _ _ => 0) ⟨#[], args, []⟩).memory :=
  laidMet_of_run' (P := Tryd.prog) (l := Rows.lexerTellsRow.laid) 10 (by kernel_rfl) (by kernel_rfl)
theorem shaped (os : Os) (args : Array Value) : ((laidWorld os).forCall (fun _ _ => 0) ⟨#[], args, []⟩).Shaped Tryd.prog :=
  World.shaped_of_RefB (by kernel_rfl) (by kernel_rfl)
theorem star : "*" ++ "errors.errorString" = "*errors.errorString" := by decide
theorem name109 (u : TypeId) (h : Tryd.prog.typeName? 3 u = some "*errors.errorString") : u = 109 :=
  typeName_ptr_named (nm := "errors.errorString") (by rw [star]; kernel_rfl) (by kernel_rfl) (by decide) u (by rw [star]; exact h)
/-- The two errors that the walk reads. -/
theorem tab_of_laid {W : World} (h : laidMetH Tryd.prog Rows.lexerTellsRow.laid W) : ∀ b p, (b, p) ∈ tabs → ∃ cs e f, W.heap[b]? = some (.cells cs e f) ∧ p cs := by
  have h' : laidMet Tryd.prog Rows.lexerTellsRow.laid W := h
  have h2 := (laidMet.tail (laidMet.tail (laidMet.tail (laidMet.tail h'))))
  have h3 := laidMet.tail h2
  obtain ⟨a, s, r1, -, -, -⟩ := laid_sentinel (g := 4) (ti := 64) (tp := 109) (te := 111) (ts := 9) h2 (by kernel_rfl) (by kernel_rfl) (ms := #[("Error", 67)]) (by kernel_rfl) name109 (by kernel_rfl) (f := ⟨"s", 9, 0, false, "", "errors", 0⟩) (by kernel_rfl) rfl rfl (by kernel_rfl) (by kernel_rfl) (by kernel_rfl)
  obtain ⟨a2, s2, r2, -, -, -⟩ := laid_sentinel (g := 3) (ti := 64) (tp := 109) (te := 111) (ts := 9) h3 (by kernel_rfl) (by kernel_rfl) (ms := #[("Error", 67)]) (by kernel_rfl) name109 (by kernel_rfl) (f := ⟨"s", 9, 0, false, "", "errors", 0⟩) (by kernel_rfl) rfl rfl (by kernel_rfl) (by kernel_rfl) (by kernel_rfl)
  have key : ∀ (n : String) (g : Nat) (x : Value), Tryd.prog.globalNamed n = some g → W.var? Tryd.prog n = some #[x] → (x = .nilIface ∨ ∃ te pe, x = .iface te pe) → ∃ cs e f, W.heap[g]? = some (.cells cs e f) ∧ errP cs := by
    intro n g x hg hv hx
    unfold World.var? at hv
    rw [hg] at hv
    simp only [Option.bind_some] at hv
    split at hv
    · rename_i cs e f hc; injection hv with hv; subst hv; exact ⟨_, e, f, hc, x, rfl, hx⟩
    · cases hv
  intro b p hb
  simp only [tabs, List.mem_cons, List.not_mem_nil, or_false, Prod.mk.injEq] at hb
  rcases hb with ⟨rfl, rfl⟩ | ⟨rfl, rfl⟩
  · exact key "strconv.ErrSyntax" 3 _ (by kernel_rfl) r2 (.inr ⟨_, _, rfl⟩)
  · exact key "strconv.ErrRange" 4 _ (by kernel_rfl) r1 (.inr ⟨_, _, rfl⟩)
end Go.Proofs.YtchboekipfpheaaDoor

set_option linter.unusedVariables false
set_option maxRecDepth 100000
namespace Go.Proofs.YtchboekipfpheaaDoor
open Go.ChangeShapes Go.WideShapes Go.ChangeAt Go.RowKit Go.Proofs.Vale
theorem hasC_str9 {n : Nat} {xs : List AV} (h : HasC Tryd.prog n 9 xs) : ∃ s : Str, xs = [.str s] ∧ s.length ≤ 9223372036854775807 := by
  obtain ⟨s, rfl, hs⟩ := HasC_str Tryd.underlying9 h
  exact ⟨s, rfl, by simpa [maxLen] using hs⟩
theorem hasC_i643 {n : Nat} {xs : List AV} (h : HasC Tryd.prog n 3 xs) : ∃ z : Int, xs = [.int .i64 z] ∧ -9223372036854775808 ≤ z ∧ z ≤ 9223372036854775807 := by
  obtain ⟨z, rfl, hz⟩ := HasC_int Tryd.underlying3 h
  simp only [Lit.wf, IntKind.min, IntKind.max, IntKind.signed, IntKind.bits] at hz
  simp at hz
  exact ⟨z, rfl, by omega, by omega⟩
theorem hasC_i6429 {n : Nat} {xs : List AV} (h : HasC Tryd.prog n 29 xs) : ∃ z : Int, xs = [.int .i64 z] ∧ -9223372036854775808 ≤ z ∧ z ≤ 9223372036854775807 := by
  obtain ⟨z, rfl, hz⟩ := HasC_int Tryd.underlying29 h
  simp only [Lit.wf, IntKind.min, IntKind.max, IntKind.signed, IntKind.bits] at hz
  simp at hz
  exact ⟨z, rfl, by omega, by omega⟩
theorem hasC_tok31 {n : Nat} {xs : List AV} (h : HasC Tryd.prog n 31 xs) : ∃ t : Tok, mkV true xs = tokA t ∧ t.2.1.length ≤ 9223372036854775807 := by
  obtain ⟨xss, k, rfl, hl, hx⟩ := HasC_struct Tryd.underlying31 (by kernel_rfl) h
  obtain ⟨a, u, v, rfl⟩ : ∃ a u v, xss = [a, u, v] := by
    match xss, hl with
    | [a, u, v], _ => exact ⟨a, u, v, rfl⟩
  obtain ⟨t, ht, -⟩ := hasC_i6429 (hx 0 (by simp) (by simp)).1
  obtain ⟨s, hs, hs2⟩ := hasC_str9 (hx 1 (by simp) (by simp)).1
  obtain ⟨m, hm, -⟩ := hasC_i643 (hx 2 (by simp) (by simp)).1
  simp only [List.getElem_cons_zero, List.getElem_cons_succ] at ht hs hm
  subst ht hs hm
  exact ⟨(t, s, m), rfl, hs2⟩
theorem hasC_toks23 {n : Nat} {xs : List AV} (h : HasC Tryd.prog n 23 xs) : ∃ l : List Tok, xs = [.fz false (toks l)] ∧ l.length ≤ 9223372036854775807 ∧ ∀ t ∈ l, t.2.1.length ≤ 9223372036854775807 := by
  obtain ⟨l, m, rfl, hl, hx⟩ := HasC_slice Tryd.underlying23 (by rw [show Tryd.prog.cellsOf 31 = 3 by kernel_rfl]; simp) (by kernel_rfl) h
  obtain ⟨zs, rfl, hz⟩ := list_of (f := tokA) (Q := fun z => z.2.1.length ≤ 9223372036854775807) l (fun y hy => by
    obtain ⟨ys, h1, -, h3, -⟩ := hx y hy
    obtain ⟨z, h4, hz⟩ := hasC_tok31 h3
    rw [show isAgB Tryd.prog 31 = true by kernel_rfl, h4] at h1
    exact ⟨z, h1, hz⟩)
  have e : maxLen ≤ 9223372036854775807 := by decide
  exact ⟨zs, rfl, by rw [List.length_map] at hl; omega, hz⟩
end Go.Proofs.YtchboekipfpheaaDoor
