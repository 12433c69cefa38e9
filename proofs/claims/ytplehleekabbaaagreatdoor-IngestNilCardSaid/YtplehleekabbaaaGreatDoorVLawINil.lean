/- IngestNil of columbarylaw18 is true at every input and never panics; what it reads stays as it was. No conditions but the variables of the library that the row lists; the card ties them to the program text. -/
import Derived.Test.YtplehleekabbaaaGreatDoorVIngX
import Derived.Handed
import Derived.JoinedOf
import Derived.SevenTiedAt
import Derived.Test.YtplehleekabbaaaGreatDoorCards
import Derived.Test.YtplehleekabbaaaGreatDoorTie
set_option linter.unusedVariables false
set_option maxRecDepth 100000
namespace Go.Proofs.YtplehleekabbaaaGreatDoor.ingestNil
open Go.ChangeShapes Go.WideShapes Go.ChangeAt Go.RowKit Go.Proofs.Vale
theorem lifted (os : Os) (started : os.Started) (H : Type) (enc : TypeId × Value → H) :
    ReturnsInHanded {} Tryz.checked os 6 .any (fun w args => (Rows.ingestNilSpec.pre enc Tryz.prog Tryz.f6 [] false w args ∧ laidMetH Tryz.prog Rows.ingestNilRow.laid w) ∧ sizedMet enc Tryz.prog Tryz.f6 (OpenSpec.ofChange Rows.ingestNilSpec) false w args)
      (Rows.ingestNilSpec.post enc Tryz.prog Tryz.f6 false true false false) := by
  refine returnsInHanded_of_change_shaped (C := Tryz.checked) (X := fun w _ => laidMetH Tryz.prog Rows.ingestNilRow.laid w) (fun _ _ _ hh h => h.of_heap hh) own started (by kernel_rfl) Tryz.func6
    (ChangeSpec.witness_shaped (enc := enc) (C := Tryz.checked) (os := os) (X := fun w _ => laidMetH Tryz.prog Rows.ingestNilRow.laid w) false (laidWorld os) #[.agg #[.int .i64 0, .slice none 0 0, .slice none 0 0]] 8 rfl (shaped os _) (by kernel_rfl) (by kernel_rfl) (by kernel_rfl) (laid_met os _)) ?_
  intro W base args ds gs before hsh hval0 hW hcnd hsz0 hL _
  have hval : ∀ (j : Nat) t v, Tryz.f6.params[j]? = some t → args[j]? = some v → Value.okWide Tryz.prog W .any base t v := hval0
  have hW' := hW
  obtain ⟨p, q, hA0, hV, rfl, hfz, hnd⟩ := hW
  have hA : DataW.TrodAll enc Tryz.prog W 0 (fun _ => true) true Tryz.f6.params.toList args.toList ds p := hA0
  have hsz : (DataW.weightsEach Tryz.prog (Tryz.f6.params.toList ++ Rows.ingestNilSpec.plain.varTypes Tryz.prog) (ds ++ gs)).all (· ≤ reachBytes) = true := hsz0
  rw [Tryz.params6] at hA hval hsz
  obtain ⟨v0, vs0, d0, ds0, p0, q0, hargs0, rfl, rfl, h0, r0⟩ := trodAll_cons hA
  obtain ⟨rfl, rfl, rfl⟩ := trodAll_nil r0
  obtain rfl : args = #[v0] := by cases args; simp_all
  obtain ⟨rfl, rfl⟩ := trodVars_none hV
  have lt0 : ∀ x ∈ p0, x.block < W.heap.size := by obtain ⟨m, hm⟩ := h0; exact DataW.trod_lt m _ _ _ hm
  obtain ⟨n0, x0, e0, c0, m0⟩ := arg_rep (hval 0 29 v0 rfl rfl) h0 (by kernel_rfl) (by intro h; exact absurd h (by rw [show isAgB Tryz.prog 29 = true by kernel_rfl]; simp))
  rw [show isAgB Tryz.prog 29 = true by kernel_rfl] at m0
  obtain ⟨tm0, dm0, ms0, ha0, ht0, hdl0, hml0, hds0, hmz0⟩ := hasC_ev29 c0
  rw [m0, ha0] at e0
  have E0 : Rep β0 (frOf W) W.heap (evA' tm0 false false dm0 ms0) v0 := e0
  refine (law_calls (nil_law (tm0, dm0, ms0) [] hdl0) (cells1 E0) (tab_of_laid hL hsh)).mono fun e W' ⟨he, bel⟩ => ?_
  subst he
  exact ⟨_, rfl, _, _, _, [], _, [], hW', trodAll_mk1 (shut_bool Tryz.underlying4 _),
    (trodAll_cons_mk (Below.trod laidOut (by kernel_rfl) (of_decide_eq_true (by kernel_rfl)) h0 bel lt0) trodAll_mk0), rfl, bel.frame _, fun h => by cases h⟩
theorem over : Rows.ingestNilRow.holds Tryz.pinned (OpenSpec.ofChange Rows.ingestNilSpec) :=
  OpenClaim.holds_of_wide 6 Tryz.f6 rfl rfl rfl rfl rfl rfl rfl ⟨rfl, rfl, rfl, rfl, rfl⟩ rfl rfl rfl rfl rfl (by kernel_rfl) Tryz.func6 (by kernel_rfl)
    (of_decide_eq_true (by kernel_rfl)) (by unfold Func.isWrapper; first | (rw [if_pos (by decide +kernel)]; kernel_rfl) | (rw [if_neg (by decide +kernel)]; exact ⟨rfl, rfl⟩))
    (fun os started H enc _ => lifted os started H enc)
theorem proved : Rows.IngestNilCardSaid :=
  Claim7.holds_tied_plain_at .later [] [.data, .data, .data, .listed, .data] true (true, "96a1ae12b5130497405f42e594c85ffbbc7f0f8cad1ac1aa2b166887b77bfe7e") true
    over (fun _ h => by cases h) (by kernel_rfl) (fun _ h => by cases h) ingestNil_row_tie rfl ⟨rfl, rfl⟩ (by kernel_rfl) rfl
    (fun f fn hf hfn => by
      obtain rfl : f = 6 := Option.some.inj ((show Tryz.prog.funcNamed "columbary/columbarylaw18.IngestNil" = some 6 by kernel_rfl).symm.trans hf) |>.symm
      obtain rfl : fn = Tryz.f6 := (Option.some.inj (Tryz.func6.symm.trans hfn)).symm
      exact ⟨by kernel_rfl, fun j t ht => by
        rw [Tryz.params6] at ht
        have h3 : t = 29 := by
          rcases j with _ | j
          · exact (by simpa using ht.symm)
          · simp at ht
        rcases h3 with rfl
        · exact (show Tryz.prog.wantsStandIn 29 = false by kernel_rfl)⟩)
    (by kernel_rfl)
end Go.Proofs.YtplehleekabbaaaGreatDoor.ingestNil
namespace Go.Proofs.YtplehleekabbaaaGreatDoor
theorem ingestNil_holds : Rows.IngestNilCardSaid := ingestNil.proved
end Go.Proofs.YtplehleekabbaaaGreatDoor
