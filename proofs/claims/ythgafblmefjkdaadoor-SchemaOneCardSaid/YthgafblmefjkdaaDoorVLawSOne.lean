/- SchemaOne of columbarylaw10 is true at every input and never panics; what it reads stays as it was. No conditions but the two tables of the library that the row lists; the card ties them to the program's text. -/
import Derived.Test.YthgafblmefjkdaaDoorVSchX
import Derived.Test.YthgafblmefjkdaaDoorVSchT
import Derived.Handed
import Derived.JoinedOf
import Derived.SevenTiedAt
import Derived.Test.YthgafblmefjkdaaDoorCards
import Derived.Test.YthgafblmefjkdaaDoorTie
set_option linter.unusedVariables false
set_option maxRecDepth 100000
namespace Go.Proofs.YthgafblmefjkdaaDoor.schemaOne
open Go.ChangeShapes Go.WideShapes Go.ChangeAt Go.RowKit Go.Proofs.Vale
theorem lifted (os : Os) (started : os.Started) (H : Type) (enc : TypeId × Value → H) :
    ReturnsInHanded {} Tryd.checked os 6 .any (fun w args => (Rows.schemaOneSpec.pre enc Tryd.prog Tryd.f6 [] false w args ∧ laidMetH Tryd.prog Rows.schemaOneRow.laid w) ∧ sizedMet enc Tryd.prog Tryd.f6 (OpenSpec.ofChange Rows.schemaOneSpec) false w args)
      (Rows.schemaOneSpec.post enc Tryd.prog Tryd.f6 false true false false) := by
  refine returnsInHanded_of_change_and (C := Tryd.checked) (X := fun w _ => laidMetH Tryd.prog Rows.schemaOneRow.laid w) (fun _ _ _ hh h => h.of_heap hh) own started (by kernel_rfl) Tryd.func6
    (ChangeSpec.witness_shaped (enc := enc) (C := Tryd.checked) (os := os) (X := fun w _ => laidMetH Tryd.prog Rows.schemaOneRow.laid w) false (laidWorld os) #[.agg #[.slice none 0 0, .slice none 0 0], .agg #[.int .i64 0, .slice none 0 0, .slice none 0 0], .int .i64 0] 8 rfl (shaped os _) (by kernel_rfl) (by kernel_rfl) (by kernel_rfl) (laid_met os _)) ?_
  intro W base args ds gs before hval0 hW hcnd hsz0 hL _
  have hval : ∀ (j : Nat) t v, Tryd.f6.params[j]? = some t → args[j]? = some v → Value.okWide Tryd.prog W .any base t v := hval0
  have hW' := hW
  obtain ⟨p, q, hA0, hV, rfl, hfz, hnd⟩ := hW
  have hA : DataW.TrodAll enc Tryd.prog W 0 (fun _ => true) true Tryd.f6.params.toList args.toList ds p := hA0
  have hsz : (DataW.weightsEach Tryd.prog (Tryd.f6.params.toList ++ Rows.schemaOneSpec.plain.varTypes Tryd.prog) (ds ++ gs)).all (· ≤ reachBytes) = true := hsz0
  rw [Tryd.params6] at hA hval hsz
  obtain ⟨v0, vs0, d0, ds0, p0, q0, hargs0, rfl, rfl, h0, r0⟩ := trodAll_cons hA
  obtain ⟨v1, vs1, d1, ds1, p1, q1, hargs1, rfl, rfl, h1, r1⟩ := trodAll_cons r0
  obtain ⟨v2, vs2, d2, ds2, p2, q2, hargs2, rfl, rfl, h2, r2⟩ := trodAll_cons r1
  obtain ⟨rfl, rfl, rfl⟩ := trodAll_nil r2
  obtain rfl : args = #[v0, v1, v2] := by cases args; simp_all
  obtain ⟨rfl, rfl⟩ := trodVars_none hV
  have lt0 : ∀ x ∈ p0, x.block < W.heap.size := by obtain ⟨m, hm⟩ := h0; exact DataW.trod_lt m _ _ _ hm
  have lt1 : ∀ x ∈ p1, x.block < W.heap.size := by obtain ⟨m, hm⟩ := h1; exact DataW.trod_lt m _ _ _ hm
  have lt2 : ∀ x ∈ p2, x.block < W.heap.size := by obtain ⟨m, hm⟩ := h2; exact DataW.trod_lt m _ _ _ hm
  obtain ⟨n0, x0, e0, c0, m0⟩ := arg_rep (hval 0 24 v0 rfl rfl) h0 (by kernel_rfl) (by intro h; exact absurd h (by rw [show isAgB Tryd.prog 24 = true by kernel_rfl]; simp))
  rw [show isAgB Tryd.prog 24 = true by kernel_rfl] at m0
  obtain ⟨sd0, sm0, ha0, hs0⟩ := hasC_sch24 c0
  rw [m0, ha0] at e0
  have E0 : Rep β0 (frOf W) W.heap (schA false false sd0 sm0) v0 := e0
  obtain ⟨hz0, hz0'⟩ := sch_len h0 e0 hsz (j := 0) rfl rfl
  rw [strs_len] at hz0 hz0'
  obtain ⟨n1, x1, e1, c1, m1⟩ := arg_rep (hval 1 34 v1 rfl rfl) h1 (by kernel_rfl) (by intro h; exact absurd h (by rw [show isAgB Tryd.prog 34 = true by kernel_rfl]; simp))
  rw [show isAgB Tryd.prog 34 = true by kernel_rfl] at m1
  obtain ⟨tm1, dm1, ms1, ha1, ht1, hdl1, hml1, hds1, hmz1⟩ := hasC_ev34 c1
  rw [m1, ha1] at e1
  have E1 : Rep β0 (frOf W) W.heap (evA' tm1 false false dm1 ms1) v1 := e1
  obtain ⟨n2, x2, e2, c2, m2⟩ := arg_rep (hval 2 3 v2 rfl rfl) h2 (by kernel_rfl) (fun _ => by kernel_rfl)
  rw [show isAgB Tryd.prog 3 = false by kernel_rfl] at m2
  obtain ⟨z2, ha2, hz2⟩ := hasC_i643 c2
  rw [m2, ha2] at e2
  have E2 : Rep β0 (frOf W) W.heap (.int .i64 z2) v2 := e2
  refine (law_calls (one_law false false false false sd0 sm0 dm1 tm1 ms1 z2 [] (by omega) (by omega) hdl1 hml1 hs0 hds1) (cells3 E0 E1 E2) (tab_of_laid hL)).mono fun e W' ⟨he, bel⟩ => ?_
  subst he
  exact ⟨_, rfl, _, _, _, [], _, [], hW', trodAll_mk1 (shut_bool Tryd.underlying4 _),
    (trodAll_cons_mk (Below.trod laidOut (by kernel_rfl) (of_decide_eq_true (by kernel_rfl)) h0 bel lt0) (trodAll_cons_mk (Below.trod laidOut (by kernel_rfl) (of_decide_eq_true (by kernel_rfl)) h1 bel lt1) (trodAll_cons_mk (Below.trod laidOut (by kernel_rfl) (of_decide_eq_true (by kernel_rfl)) h2 bel lt2) trodAll_mk0))), rfl, bel.frame _, fun h => by cases h⟩
theorem over : Rows.schemaOneRow.holds Tryd.pinned (OpenSpec.ofChange Rows.schemaOneSpec) :=
  OpenClaim.holds_of_wide 6 Tryd.f6 rfl rfl rfl rfl rfl rfl rfl ⟨rfl, rfl, rfl, rfl, rfl⟩ rfl rfl rfl rfl rfl (by kernel_rfl) Tryd.func6 (by kernel_rfl)
    (of_decide_eq_true (by kernel_rfl)) (by unfold Func.isWrapper; first | (rw [if_pos (by decide +kernel)]; kernel_rfl) | (rw [if_neg (by decide +kernel)]; exact ⟨rfl, rfl⟩))
    (fun os started H enc _ => lifted os started H enc)
theorem proved : Rows.SchemaOneCardSaid :=
  Claim7.holds_tied_plain_at .later [] [.listed, .data] true (true, "21905dc54e1fa92505d8f6f0b9bbafaa01c3ad67a2d63a510b6a60401a2a3624") false
    over (fun _ h => by cases h) (by kernel_rfl) (fun _ h => by cases h) schemaOne_row_tie rfl ⟨rfl, rfl⟩ (by kernel_rfl) rfl
    (fun f fn hf hfn => by
      obtain rfl : f = 6 := Option.some.inj ((show Tryd.prog.funcNamed "columbary/columbarylaw10.SchemaOne" = some 6 by kernel_rfl).symm.trans hf) |>.symm
      obtain rfl : fn = Tryd.f6 := (Option.some.inj (Tryd.func6.symm.trans hfn)).symm
      exact ⟨by kernel_rfl, fun j t ht => by
        rw [Tryd.params6] at ht
        have h3 : t = 24 ∨ t = 34 ∨ t = 3 := by
          rcases j with _ | _ | _ | j
          · exact .inl (by simpa using ht.symm)
          · exact .inr (.inl (by simpa using ht.symm))
          · exact .inr (.inr ((by simpa using ht.symm)))
          · simp at ht
        rcases h3 with rfl | rfl | rfl
        · exact (show Tryd.prog.wantsStandIn 24 = false by kernel_rfl)
        · exact (show Tryd.prog.wantsStandIn 34 = false by kernel_rfl)
        · exact (show Tryd.prog.wantsStandIn 3 = false by kernel_rfl)⟩)
    (by kernel_rfl)
end Go.Proofs.YthgafblmefjkdaaDoor.schemaOne
namespace Go.Proofs.YthgafblmefjkdaaDoor
theorem schemaOne_holds : Rows.SchemaOneCardSaid := schemaOne.proved
end Go.Proofs.YthgafblmefjkdaaDoor
