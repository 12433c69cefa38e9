/- YtohppebjmfnmdaaGreatDoorVPolJ: a text of the proof of this claim, by its prover. -/
import Derived.Test.YtohppebjmfnmdaaGreatDoorVPolC
import Derived.Shelf.SlSorted.Search
set_option linter.unusedVariables false
set_option linter.unusedSimpArgs false
set_option maxHeartbeats 4000000
set_option maxRecDepth 100000
namespace Go.Proofs.Vale
open Go.Proofs Go.Proofs.YtohppebjmfnmdaaGreatDoorT
attribute [local irreducible] acode aopsL aopsT dopsL dopsT dmL dmT pop popG aop ALoop ADraw ACall AWP AFin acondT ALoopT ADrawT ACallT doP doG doGd

/-! ### What the library does -/
theorem pair_args {β : Beta} {fr : Nat → Prop} {H : Array Obj} {s t : Str} {us : Array Value} (R : CellsRep β fr H [.str s, .str t] us) : ∃ a b : ByteArray, us = #[.string a, .string b] ∧ a.data.toList = s ∧ b.data.toList = t := by
  obtain ⟨hvs, hv⟩ := R
  obtain ⟨v, hv1, hv2⟩ := hv 0 (by simp)
  obtain ⟨u, hu1, hu2⟩ := hv 1 (by simp)
  simp only [List.getElem_cons_zero, List.getElem_cons_succ, Rep] at hv2 hu2
  obtain ⟨a, rfl, ha⟩ := hv2
  obtain ⟨b, rfl, hb⟩ := hu2
  refine ⟨a, b, ?_, ha, hb⟩
  apply Array.ext_getElem?
  intro i
  rcases i with _ | _ | i
  · rw [hv1]; rfl
  · rw [hu1]; rfl
  · rw [Array.getElem?_eq_none (by rw [hvs]; simp), Array.getElem?_eq_none (by simp)]
theorem bsz (b : ByteArray) : b.size = b.data.toList.length := by show b.data.size = _; rw [Array.length_toList]
/-- The parts of a text. -/
def splitL (s t : Str) : List Str := (Lib.splitB ⟨t.toArray⟩ 0 (Lib.countB ⟨s.toArray⟩ ⟨t.toArray⟩) ⟨s.toArray⟩).map (·.data.toList)
theorem split_ok (s t : Str) (h : List AObj) (hs : s.length < 4294967281) (ht : 1 ≤ t.length) (hl : (splitL s t).length = Lib.countB ⟨s.toArray⟩ ⟨t.toArray⟩ + 1) : ACall Tryz.prog 25 [.str s, .str t] h (fun r h' => r = .sl h.length 0 1 0 (splitL s t).length ∧ h' = h ++ [.arr 0 1 (strs (splitL s t))]) := by
  unfold ACall; intro w β fr us L Rr
  obtain ⟨a, b, rfl, ha, hb⟩ := pair_args Rr
  have ea : a = ⟨s.toArray⟩ := bytes_eq (by rw [ha])
  have eb : b = ⟨t.toArray⟩ := bytes_eq (by rw [hb])
  obtain ⟨_, cs, e, f, hH, m, hm⟩ := L.tab 0 intP (by simp [tabs])
  have hm' : w.cell? ⟨0, 0, none⟩ = some (.int .i64 m) := by rw [cell?_eq _ _ rfl]; simp [cellAt, hH, hm]
  refine (Tryz.strings_Split a b m w (by rw [bsz, ha]; exact hs) hm' (by rw [bsz, hb]; exact ht)).mono ?_
  rintro e w' ⟨rfl, rfl⟩
  have hcs : ((Lib.splitB b 0 (Lib.countB a b) a).map Value.string).toArray = ((splitL s t).map fun l => Value.string ⟨l.toArray⟩).toArray := by
    rw [ea, eb, splitL, List.map_map]; rfl
  obtain ⟨β', L', R', S'⟩ := new_strs L (splitL s t) 9 _ hcs
  refine ⟨_, _, _, β', fr, rfl, ⟨rfl, rfl⟩, L', ?_, S'⟩
  have hlab : Lib.countB a b + 1 = (splitL s t).length := by rw [ea, eb, hl]
  rw [hlab]
  exact R'
theorem cutPrefix_ok (s t : Str) (h : List AObj) : ACall Tryz.prog 26 [.str s, .str t] h (fun r h' => r = .tup [.str (Lib.trimPrefix s t), .bool (Lib.hasPrefix s t)] ∧ h' = h) := by
  unfold ACall; intro w β fr us L Rr
  obtain ⟨a, b, rfl, rfl, rfl⟩ := pair_args Rr
  refine (Tryz.strings_CutPrefix a b w).mono ?_
  rintro e w' ⟨rfl, rfl⟩
  refine ⟨_, _, _, β, fr, rfl, ⟨rfl, rfl⟩, L, ?_, Step1.refl _ _ _ _⟩
  simp only [Rep]
  refine ⟨_, rfl, rfl, fun j hj => ?_⟩
  have : j = 0 ∨ j = 1 := by simp at hj; omega
  rcases this with rfl | rfl
  · exact ⟨_, rfl, by simp [Rep]⟩
  · exact ⟨_, rfl, by simp [Rep]⟩
theorem below_lay {β : Beta} {fr : Nat → Prop} {w w' : World} {h : List AObj} (L : Lay β fr w.heap h) (B : Go.RowKit.Below w.heap.size w w') : Lay β fr w'.heap h ∧ Step1 β fr h w β fr h w' := by
  have same := B.block
  have E : Ext β fr w.heap β fr w'.heap := ⟨fun _ _ _ e => e, fun _ e => e, fun b hb => same b (L.frlt b hb), fun t g b c e f hb hc => ⟨c, f, by rw [same b (L.lt _ _ _ hb)]; exact hc, rfl⟩⟩
  refine ⟨?_, ?_⟩
  · exact { frlt := fun b hb => Nat.lt_of_lt_of_le (L.frlt b hb) B.size, ownfr := L.ownfr, lt := fun t g b hb => Nat.lt_of_lt_of_le (L.lt t g b hb) B.size, inj := L.inj
            obj := fun t o ho => (L.obj t o ho).ext E fun g b _ hb => same b (L.lt _ _ _ hb), dom := L.dom, top := L.top, tab := fun b cs q => ⟨(L.tab b cs q).1, by rw [E.cells b (L.tab b cs q).1]; exact (L.tab b cs q).2⟩ }
  · exact { ext := E, os := B.os, tape := B.tape, output := B.output, size := B.size, keep := fun b hb _ => same b hb, prov := fun b e => .inl e, frz := fun b e => .inl e }
theorem one_arg {β : Beta} {fr : Nat → Prop} {H : Array Obj} {s : Str} {us : Array Value} (R : CellsRep β fr H [.str s] us) : ∃ a : ByteArray, us = #[.string a] ∧ a.data.toList = s := by
  obtain ⟨hvs, hv⟩ := R
  obtain ⟨v, hv1, hv2⟩ := hv 0 (by simp)
  simp only [List.getElem_cons_zero, Rep] at hv2
  obtain ⟨a, rfl, ha⟩ := hv2
  refine ⟨a, ?_, ha⟩
  apply Array.ext_getElem?
  intro i
  rcases i with _ | i
  · rw [hv1]; rfl
  · rw [Array.getElem?_eq_none (by rw [hvs]; simp), Array.getElem?_eq_none (by simp)]
theorem tup2_rep {β : Beta} {fr : Nat → Prop} {H : Array Obj} {x y : AV} {u v : Value} (hx : Rep β fr H x u) (hy : Rep β fr H y v) : Rep β fr H (.tup [x, y]) (.tuple #[u, v]) := by
  simp only [Rep]
  refine ⟨_, rfl, rfl, fun j hj => ?_⟩
  rcases j with _ | _ | j
  · exact ⟨u, rfl, hx⟩
  · exact ⟨v, rfl, hy⟩
  · simp at hj; omega
theorem join_ok (l : List Str) (sep : Str) (c : Bool) (h : List AObj) (hl : l.length ≤ 140737488355328) (hj : (Lib.join l sep).length ≤ 140737488355328) : ACall Tryz.prog 44 [.fz c (strs l), .str sep] h (fun r h' => r = .str (Lib.join l sep) ∧ h' = h) := by
  unfold ACall; intro w β fr us L Rr
  obtain ⟨hvs, hv⟩ := Rr
  obtain ⟨v, hv1, hv2⟩ := hv 0 (by simp)
  obtain ⟨u, hu1, hu2⟩ := hv 1 (by simp)
  simp only [List.getElem_cons_zero, List.getElem_cons_succ, Rep] at hv2 hu2
  obtain ⟨a, cap, rfl, hcap, -, hel⟩ := hv2
  obtain ⟨b, rfl, rfl⟩ := hu2
  obtain rfl : us = #[.slice a (strs l).length cap, .string b] := by
    apply Array.ext_getElem?
    intro i
    rcases i with _ | _ | i
    · rw [hv1]; rfl
    · rw [hu1]; rfl
    · rw [Array.getElem?_eq_none (by rw [hvs]; simp), Array.getElem?_eq_none (by simp)]
  have hsl : (strs l).length = l.length := by simp [strs]
  rw [hsl] at hcap ⊢
  by_cases he : l = []
  · subst he
    refine (Tryz.strings_Join_none a cap b w).mono ?_
    rintro e w' ⟨rfl, rfl⟩
    refine ⟨_, _, _, β, fr, rfl, ⟨rfl, rfl⟩, L, ?_, Step1.refl _ _ _ _⟩
    simp only [Rep]
    exact ⟨_, rfl, rfl⟩
  · obtain ⟨ad, s, rfl, hfr, hsp, hs, hcell⟩ := hel (by intro q; exact he (by simpa [strs] using q))
    have hs1 : s = 1 := by
      obtain ⟨x, hx⟩ := List.exists_mem_of_ne_nil l he
      rw [← hs (.str x) (by simp only [strs, List.mem_map]; exact ⟨x, hx, rfl⟩)]; rfl
    subst hs1
    obtain ⟨bk, o, sp⟩ := ad
    simp only at hsp hfr hcell
    subst hsp
    have hcl : ∀ i (hi : i < l.length), ∃ y : ByteArray, cellAt w.heap bk (o + i) = some (.string y) ∧ y.data.toList = l[i] := by
      intro i hi
      have e1 : (strs l)[i]'(by rw [hsl]; exact hi) = .str l[i] := by simp [strs]
      obtain ⟨u, h1, h2⟩ := hcell i (by rw [hsl]; exact hi) 0 (by rw [e1]; exact Nat.zero_lt_one)
      simp only [e1] at h2
      have e2 : ∀ p : 0 < (AV.str l[i]).cells.length, (AV.cells (.str l[i]))[0]'p = .str l[i] := fun _ => rfl
      rw [e2] at h2
      simp only [Rep] at h2
      obtain ⟨y, rfl, hy⟩ := h2
      refine ⟨y, ?_, hy⟩
      rw [← h1]; congr 1; omega
    have hxs : (l.map fun x => (⟨x.toArray⟩ : ByteArray)).map (·.data.toList) = l := by simp [List.map_map, Function.comp_def]
    have hw : ∀ (j : Nat) (x : ByteArray), (l.map fun x => (⟨x.toArray⟩ : ByteArray))[j]? = some x → w.cell? ⟨bk, o + j, none⟩ = some (.string x) := by
      intro j x hx
      rw [cell?_eq _ _ rfl]
      rw [List.getElem?_map] at hx
      rcases hq : l[j]? with _ | q
      · rw [hq] at hx; cases hx
      · rw [hq] at hx
        injection hx with hx
        obtain ⟨hj1, hj2⟩ := List.getElem?_eq_some_iff.1 hq
        obtain ⟨y, h1, h2⟩ := hcl j hj1
        simp only
        rw [h1, ← hx]
        have : y = ⟨q.toArray⟩ := by
          have h3 : y.data = q.toArray := by rw [← Array.toArray_toList (xs := y.data), h2, hj2]
          cases y; simp_all
        rw [this]
    have z := Tryz.strings_Join bk o cap (l.map fun x => (⟨x.toArray⟩ : ByteArray)) b w hw (L.frlt bk hfr) (by rw [List.length_map]; exact hl) (by rw [List.length_map]; exact hcap) (by rw [hxs]; exact hj)
    rw [List.length_map, hxs] at z
    refine z.mono ?_
    rintro e w' ⟨rfl, B⟩
    obtain ⟨L', S'⟩ := below_lay L B
    refine ⟨_, _, _, β, fr, rfl, ⟨rfl, rfl⟩, L', ?_, S'⟩
    simp only [Rep]
    exact ⟨_, rfl, by simp⟩
theorem atoi_num (s : Str) (v : Int) (h : List AObj) (hs : s.length ≤ 281474976710656) (hv : Lib.atoiAll s = .ok v) : ACall Tryz.prog 37 [.str s] h (fun r h' => r = .tup [.int .i64 v, .nili] ∧ h' = h) := by
  unfold ACall; intro w β fr us L Rr
  obtain ⟨a, rfl, rfl⟩ := one_arg Rr
  refine (Tryz.strconv_Atoi_ok a (by rw [bsz]; omega) v hv w).mono ?_
  rintro e w' ⟨rfl, hw⟩
  have B : Go.RowKit.Below w.heap.size w w' := by
    rcases hw with rfl | ⟨t, rfl⟩
    · exact Go.RowKit.Below.refl _ _
    · exact Lib.bytesWorld_below _ _ _
  obtain ⟨L', S'⟩ := below_lay L B
  exact ⟨_, .tup [.int .i64 v, .nili], h, β, fr, rfl, ⟨rfl, rfl⟩, L', tup2_rep (by simp [Rep]) (by simp [Rep]), S'⟩
theorem pow_at {β : Beta} {fr : Nat → Prop} {w : World} {h : List AObj} (L : Lay β fr w.heap h) : Lib.TabIs Tryz.prog w "internal/strconv.uint64pow10" .u64 Lib.pow10Tab := by
  obtain ⟨_, cs, e, f, hH, rfl⟩ := L.tab 6 powP (by simp [tabs])
  have hg : Tryz.prog.globalNamed "internal/strconv.uint64pow10" = some 6 := by kernel_rfl
  unfold Lib.TabIs World.var?
  rw [hg]
  simp only [Option.bind_some, hH]
theorem itoa_ok (n : Int) (h : List AObj) (h0 : -9223372036854775808 ≤ n) (h1 : n ≤ 9223372036854775807) : ACall Tryz.prog 38 [.int .i64 n] h (fun r h' => r = .str (Lib.itoa n) ∧ h' = h) := by
  unfold ACall; intro w β fr us L Rr
  obtain ⟨hvs, hv⟩ := Rr
  obtain ⟨v, hv1, hv2⟩ := hv 0 (by simp)
  simp only [List.getElem_cons_zero, Rep] at hv2
  subst hv2
  obtain rfl : us = #[.int .i64 n] := by
    apply Array.ext_getElem?
    intro i
    rcases i with _ | i
    · rw [hv1]; rfl
    · rw [Array.getElem?_eq_none (by rw [hvs]; simp), Array.getElem?_eq_none (by simp)]
  refine (Tryz.strconv_Itoa n h0 h1 w (pow_at L)).mono ?_
  rintro e w' ⟨rfl, k, os, rfl⟩
  obtain ⟨L', S'⟩ := below_lay L (below_grown_sl w.heap.size w k os (Nat.le_refl _))
  refine ⟨_, _, _, β, fr, rfl, ⟨rfl, rfl⟩, L', ?_, S'⟩
  simp only [Rep]
  exact ⟨_, rfl, by simp⟩
/-- A number that is read as it is written. -/
theorem number_ok (s : Str) (v : Int) (h : List AObj) (hs : s.length ≤ 281474976710656) (hv : Lib.atoiAll s = .ok v) (hi : Lib.itoa v = s) (h0 : -9223372036854775808 ≤ v) (h1 : v ≤ 9223372036854775807) (ha : ag v = true) : ACall Tryz.prog 27 [.str s] h (fun r h' => r = .tup [.int .i64 v, .bool true] ∧ h' = h) := by
  (refine ACall.of_code Tryz.func27 rfl ?_; simp only [Tryz.f27]; simp only [go_sem, Nat.reduceMul, Nat.reduceLT, Nat.reduceLeDiff, Nat.reduceEqDiff, Nat.reduceBEq, Int.toNat_natCast, Int.reduceToNat, Int.reduceNeg, Int.reduceLT, Int.reduceLE, Int.reduceBEq, Int.reduceBNe, decide_true, decide_false, Bool.false_eq_true, false_imp_iff, Nat.lt_irrefl])
  refine ACallT.by (atoi_num s v _ hs hv) ?_
  rintro r h2 ⟨rfl, rfl⟩
  simp only [go_sem, Nat.reduceMul, Nat.reduceLT, Nat.reduceLeDiff, Nat.reduceEqDiff, Nat.reduceBEq, Int.toNat_natCast, Int.reduceToNat, Int.reduceNeg, Int.reduceLT, Int.reduceLE, Int.reduceBEq, Int.reduceBNe, decide_true, decide_false, Bool.false_eq_true, false_imp_iff, Nat.lt_irrefl]
  refine ACallT.by (itoa_ok v _ h0 h1) ?_
  rintro r h2 ⟨rfl, rfl⟩
  rw [hi]
  simp only [go_sem, Nat.reduceMul, Nat.reduceLT, Nat.reduceLeDiff, Nat.reduceEqDiff, Nat.reduceBEq, Int.toNat_natCast, Int.reduceToNat, Int.reduceNeg, Int.reduceLT, Int.reduceLE, Int.reduceBEq, Int.reduceBNe, decide_true, decide_false, Bool.false_eq_true, false_imp_iff, Nat.lt_irrefl]
  refine ACallT.by (ag_ok v _) ?_
  rintro r h2 ⟨rfl, rfl⟩
  rw [ha]
  simp only [go_sem, Nat.reduceMul, Nat.reduceLT, Nat.reduceLeDiff, Nat.reduceEqDiff, Nat.reduceBEq, Int.toNat_natCast, Int.reduceToNat, Int.reduceNeg, Int.reduceLT, Int.reduceLE, Int.reduceBEq, Int.reduceBNe, decide_true, decide_false, Bool.false_eq_true, false_imp_iff, Nat.lt_irrefl]
  exact Fin_plain ⟨rfl, rfl⟩
/-! ### What lines say: the map of two functions -/
theorem says_ok (h : List AObj) : ACall Tryz.prog 39 [] h (fun r h' => r = .mp h.length ∧ h' = h ++ [.map [(.str [116, 105, 101, 114], .func (.func 54) [] []), (.str [112, 114, 111, 106], .func (.func 55) [] [])]]) := by
  (refine ACall.of_code Tryz.func39 rfl ?_; simp only [Tryz.f39]; simp only [go_sem, Nat.reduceMul, Nat.reduceLT, Nat.reduceLeDiff, Nat.reduceEqDiff, Nat.reduceBEq, Int.toNat_natCast, Int.reduceToNat, Int.reduceNeg, Int.reduceLT, Int.reduceLE, Int.reduceBEq, Int.reduceBNe, decide_true, decide_false, Bool.false_eq_true, false_imp_iff, Nat.lt_irrefl])
  refine muH_none rfl ?_
  simp only [go_sem, Nat.reduceMul, Nat.reduceLT, Nat.reduceLeDiff, Nat.reduceEqDiff, Nat.reduceBEq, Int.toNat_natCast, Int.reduceToNat, Int.reduceNeg, Int.reduceLT, Int.reduceLE, Int.reduceBEq, Int.reduceBNe, decide_true, decide_false, Bool.false_eq_true, false_imp_iff, Nat.lt_irrefl]
  refine muH_none rfl ?_
  simp only [go_sem, Nat.reduceMul, Nat.reduceLT, Nat.reduceLeDiff, Nat.reduceEqDiff, Nat.reduceBEq, Int.toNat_natCast, Int.reduceToNat, Int.reduceNeg, Int.reduceLT, Int.reduceLE, Int.reduceBEq, Int.reduceBNe, decide_true, decide_false, Bool.false_eq_true, false_imp_iff, Nat.lt_irrefl]
  exact Fin_plain ⟨rfl, rfl⟩
end Go.Proofs.Vale

set_option linter.unusedVariables false
set_option linter.unusedSimpArgs false
set_option maxHeartbeats 4000000
set_option maxRecDepth 100000
namespace Go.Proofs.Vale
open Go.Proofs Go.Proofs.YtohppebjmfnmdaaGreatDoorT
attribute [local irreducible] acode aopsL aopsT dopsL dopsT dmL dmT pop popG aop ALoop ADraw ACall AWP AFin acondT ALoopT ADrawT ACallT doP doG doGd

/-! ### A line of a policy's text -/
def namesS (l : List Str) : Str := if l = [] then [45] else Lib.join l [44]
theorem names_ok (l : List Str) (c : Bool) (h : List AObj) (hl : l.length ≤ 140737488355328) (hj : (Lib.join l [44]).length ≤ 140737488355328) : ACall Tryz.prog 59 [.fz c (strs l)] h (fun r h' => r = .str (namesS l) ∧ h' = h) := by
  (refine ACall.of_code Tryz.func59 rfl ?_; simp only [Tryz.f59]; simp only [go_sem, Nat.reduceMul, Nat.reduceLT, Nat.reduceLeDiff, Nat.reduceEqDiff, Nat.reduceBEq, Int.toNat_natCast, Int.reduceToNat, Int.reduceNeg, Int.reduceLT, Int.reduceLE, Int.reduceBEq, Int.reduceBNe, decide_true, decide_false, Bool.false_eq_true, false_imp_iff, Nat.lt_irrefl])
  refine acond_intro (fun hc => ?_) (fun hc => ?_)
  · have : l = [] := by
      have q : (l.length : Int) = 0 := by simpa using hc
      exact List.length_eq_zero_iff.1 (by omega)
    subst this
    simp only [go_sem, Nat.reduceMul, Nat.reduceLT, Nat.reduceLeDiff, Nat.reduceEqDiff, Nat.reduceBEq, Int.toNat_natCast, Int.reduceToNat, Int.reduceNeg, Int.reduceLT, Int.reduceLE, Int.reduceBEq, Int.reduceBNe, decide_true, decide_false, Bool.false_eq_true, false_imp_iff, Nat.lt_irrefl]
    exact Fin_plain ⟨rfl, rfl⟩
  · have hne : l ≠ [] := by rintro rfl; simp at hc
    simp only [go_sem, Nat.reduceMul, Nat.reduceLT, Nat.reduceLeDiff, Nat.reduceEqDiff, Nat.reduceBEq, Int.toNat_natCast, Int.reduceToNat, Int.reduceNeg, Int.reduceLT, Int.reduceLE, Int.reduceBEq, Int.reduceBNe, decide_true, decide_false, Bool.false_eq_true, false_imp_iff, Nat.lt_irrefl]
    refine ACallT.by (join_ok l [44] c _ hl hj) ?_
    rintro r h2 ⟨rfl, rfl⟩
    simp only [go_sem, Nat.reduceMul, Nat.reduceLT, Nat.reduceLeDiff, Nat.reduceEqDiff, Nat.reduceBEq, Int.toNat_natCast, Int.reduceToNat, Int.reduceNeg, Int.reduceLT, Int.reduceLE, Int.reduceBEq, Int.reduceBNe, decide_true, decide_false, Bool.false_eq_true, false_imp_iff, Nat.lt_irrefl]
    refine Fin_plain ⟨?_, rfl⟩
    rw [namesS, if_neg hne]
def sayS (w : Str) (a b : Int) (l : List Str) : Str := Lib.join [w, Lib.itoa a, Lib.itoa b, namesS l] [32]
theorem say_ok (w : Str) (a b : Int) (l : List Str) (c : Bool) (h : List AObj) (ha : -9223372036854775808 ≤ a ∧ a ≤ 9223372036854775807) (hb : -9223372036854775808 ≤ b ∧ b ≤ 9223372036854775807) (hl : l.length ≤ 140737488355328) (hj : (Lib.join l [44]).length ≤ 140737488355328) (hs : (sayS w a b l).length ≤ 140737488355328) : ACall Tryz.prog 43 [.str w, .int .i64 a, .int .i64 b, .fz c (strs l)] h (fun r _ => r = .str (sayS w a b l)) := by
  (refine ACall.of_code Tryz.func43 rfl ?_; simp only [Tryz.f43]; simp only [go_sem, Nat.reduceMul, Nat.reduceLT, Nat.reduceLeDiff, Nat.reduceEqDiff, Nat.reduceBEq, Int.toNat_natCast, Int.reduceToNat, Int.reduceNeg, Int.reduceLT, Int.reduceLE, Int.reduceBEq, Int.reduceBNe, decide_true, decide_false, Bool.false_eq_true, false_imp_iff, Nat.lt_irrefl])
  refine ACallT.by (itoa_ok a _ ha.1 ha.2) ?_
  rintro r h2 ⟨rfl, rfl⟩
  simp only [go_sem, Nat.reduceMul, Nat.reduceLT, Nat.reduceLeDiff, Nat.reduceEqDiff, Nat.reduceBEq, Int.toNat_natCast, Int.reduceToNat, Int.reduceNeg, Int.reduceLT, Int.reduceLE, Int.reduceBEq, Int.reduceBNe, decide_true, decide_false, Bool.false_eq_true, false_imp_iff, Nat.lt_irrefl]
  refine ACallT.by (itoa_ok b _ hb.1 hb.2) ?_
  rintro r h2 ⟨rfl, rfl⟩
  simp only [go_sem, Nat.reduceMul, Nat.reduceLT, Nat.reduceLeDiff, Nat.reduceEqDiff, Nat.reduceBEq, Int.toNat_natCast, Int.reduceToNat, Int.reduceNeg, Int.reduceLT, Int.reduceLE, Int.reduceBEq, Int.reduceBNe, decide_true, decide_false, Bool.false_eq_true, false_imp_iff, Nat.lt_irrefl]
  refine ACallT.by (names_ok l c _ hl hj) ?_
  rintro r h2 ⟨rfl, rfl⟩
  simp only [go_sem, Nat.reduceMul, Nat.reduceLT, Nat.reduceLeDiff, Nat.reduceEqDiff, Nat.reduceBEq, Int.toNat_natCast, Int.reduceToNat, Int.reduceNeg, Int.reduceLT, Int.reduceLE, Int.reduceBEq, Int.reduceBNe, decide_true, decide_false, Bool.false_eq_true, false_imp_iff, Nat.lt_irrefl]
  have hg : (h2 ++ [AObj.arr 0 1 [AV.str w, AV.str (Lib.itoa a), AV.str (Lib.itoa b), AV.str (namesS l)]])[h2.length]? = some (AObj.arr 0 1 (strs [w, Lib.itoa a, Lib.itoa b, namesS l])) := by rw [List.getElem?_append_right (Nat.le_refl _), Nat.sub_self]; rfl
  refine ACallT.pure (as' := [.fz false (strs [w, Lib.itoa a, Lib.itoa b, namesS l]), .str [32]]) (p := (0 = 0 ∧ 1 = 1 ∧ 0 + 4 ≤ 4) ∧ True ∧ True) (by simp only [lends, lendA, hg]; rfl) ⟨⟨rfl, rfl, by omega⟩, trivial, trivial⟩ (join_ok [w, Lib.itoa a, Lib.itoa b, namesS l] [32] false _ (by simp) hs) ?_
  rintro r h3 ⟨rfl, rfl⟩
  refine ⟨rfl, ?_⟩
  simp only [go_sem, Nat.reduceMul, Nat.reduceLT, Nat.reduceLeDiff, Nat.reduceEqDiff, Nat.reduceBEq, Int.toNat_natCast, Int.reduceToNat, Int.reduceNeg, Int.reduceLT, Int.reduceLE, Int.reduceBEq, Int.reduceBNe, decide_true, decide_false, Bool.false_eq_true, false_imp_iff, Nat.lt_irrefl]
  exact Fin_plain rfl
end Go.Proofs.Vale

set_option linter.unusedVariables false
set_option linter.unusedSimpArgs false
set_option maxHeartbeats 4000000
set_option maxRecDepth 100000
namespace Go.Proofs.Vale
open Go.Proofs Go.Proofs.YtohppebjmfnmdaaGreatDoorT
attribute [local irreducible] acode aopsL aopsT dopsL dopsT dmL dmT pop popG aop ALoop ADraw ACall AWP AFin acondT ALoopT ADrawT ACallT doP doG doGd

/-! ### A tier, or a projection, is taken in -/
def atT (t : Nat) (L : List AV) (X : AV) (h : List AObj) : Prop := (X = .fz true [] ∧ L = []) ∨ ∃ tg g, tg < h.length ∧ tg ≠ t ∧ X = .sl tg g 3 0 L.length ∧ h[tg]? = some (.arr g 3 L)
theorem tier_in (t : Nat) (a b : Int) (l : List Str) (c : Bool) (X Y : AV) (H : Int) (L : List AV) (h : List AObj) (hP : h[t]? = some (.arr 0 3 [.agg [X, Y, .int .i64 H]])) (hX : atT t L X h) (hL : L.length ≤ 1000) :
    ACall Tryz.prog 54 [.ref t 0 3 0 0, .int .i64 a, .int .i64 b, .fz c (strs l)] h (fun r h' => ∃ X', h'[t]? = some (.arr 0 3 [.agg [X', Y, .int .i64 H]]) ∧ atT t (L ++ [.agg [.int .i64 a, .int .i64 b, .fz c (strs l)]]) X' h' ∧ ∀ s, s < h.length → s ≠ t → (∀ tg g n, X = .sl tg g 3 0 n → s ≠ tg) → h'[s]? = h[s]?) := by
  have hPx : ∀ x, (h ++ x)[t]? = some (AObj.arr 0 3 [.agg [X, Y, .int .i64 H]]) := fun x => by rw [List.getElem?_append_left (List.getElem?_eq_some_iff.1 hP).1]; exact hP
  have htl := (List.getElem?_eq_some_iff.1 hP).1
  refine ACall.of_code Tryz.func54 rfl ?_
  simp only [Tryz.f54]
  rcases hX with ⟨rfl, rfl⟩ | ⟨tg, g, htg, hne, rfl, hg⟩
  · simp only [go_sem, hP, hPx, Nat.reduceMul, Nat.reduceLT, Nat.reduceLeDiff, Nat.reduceEqDiff, Nat.reduceBEq, Int.toNat_natCast, Int.reduceToNat, Int.reduceNeg, Int.reduceLT, Int.reduceLE, Int.reduceBEq, Int.reduceBNe, decide_true, decide_false, Bool.false_eq_true, false_imp_iff, Nat.lt_irrefl]
    refine ⟨fun q => absurd q (by simp), fun _ => Fin_plain ⟨.sl (h.length + 1) 0 3 0 1, ?_, .inr ⟨h.length + 1, 0, ?_, by omega, rfl, ?_⟩, ?_⟩⟩
    · rw [List.getElem?_set_self (by simp; omega)]
    · simp
    · rw [List.getElem?_set_ne (by omega), List.getElem?_append_right (by omega), Nat.add_sub_cancel_left]; rfl
    · intro s hs hst _
      rw [List.getElem?_set_ne (Ne.symm hst), List.getElem?_append_left hs]
  · have hgx : ∀ x, (h ++ x)[tg]? = some (AObj.arr g 3 L) := fun x => by rw [List.getElem?_append_left htg]; exact hg
    have hset : ∀ x o, ((h ++ x).set tg o)[t]? = some (AObj.arr 0 3 [.agg [.sl tg g 3 0 L.length, Y, .int .i64 H]]) := fun x o => by rw [List.getElem?_set_ne hne]; exact hPx x
    simp only [go_sem, hP, hPx, hg, hgx, hset, Nat.reduceMul, Nat.reduceLT, Nat.reduceLeDiff, Nat.reduceEqDiff, Nat.reduceBEq, Int.toNat_natCast, Int.reduceToNat, Int.reduceNeg, Int.reduceLT, Int.reduceLE, Int.reduceBEq, Int.reduceBNe, decide_true, decide_false, Bool.false_eq_true, false_imp_iff, Nat.lt_irrefl]
    refine ⟨⟨by omega, by omega⟩, Fin_plain ⟨.sl tg (g + 1) 3 0 (L.length + 1), ?_, .inr ⟨tg, g + 1, ?_, hne, by simp, ?_⟩, ?_⟩⟩
    · rw [List.getElem?_set_self (by simp; omega)]
    · simp; omega
    · rw [List.getElem?_set_ne (Ne.symm hne), List.getElem?_set_self (by simp; omega)]
    · intro s hs hst hsx
      rw [List.getElem?_set_ne (Ne.symm hst), List.getElem?_set_ne (Ne.symm (hsx tg g L.length rfl)), List.getElem?_append_left hs]
theorem proj_in (t : Nat) (a b : Int) (l : List Str) (c : Bool) (X Y : AV) (H : Int) (L : List AV) (h : List AObj) (hP : h[t]? = some (.arr 0 3 [.agg [Y, X, .int .i64 H]])) (hX : atT t L X h) (hL : L.length ≤ 1000) :
    ACall Tryz.prog 55 [.ref t 0 3 0 0, .int .i64 a, .int .i64 b, .fz c (strs l)] h (fun r h' => ∃ X', h'[t]? = some (.arr 0 3 [.agg [Y, X', .int .i64 H]]) ∧ atT t (L ++ [.agg [.int .i64 a, .int .i64 b, .fz c (strs l)]]) X' h' ∧ ∀ s, s < h.length → s ≠ t → (∀ tg g n, X = .sl tg g 3 0 n → s ≠ tg) → h'[s]? = h[s]?) := by
  have hPx : ∀ x, (h ++ x)[t]? = some (AObj.arr 0 3 [.agg [Y, X, .int .i64 H]]) := fun x => by rw [List.getElem?_append_left (List.getElem?_eq_some_iff.1 hP).1]; exact hP
  have htl := (List.getElem?_eq_some_iff.1 hP).1
  refine ACall.of_code Tryz.func55 rfl ?_
  simp only [Tryz.f55]
  rcases hX with ⟨rfl, rfl⟩ | ⟨tg, g, htg, hne, rfl, hg⟩
  · simp only [go_sem, hP, hPx, Nat.reduceMul, Nat.reduceLT, Nat.reduceLeDiff, Nat.reduceEqDiff, Nat.reduceBEq, Int.toNat_natCast, Int.reduceToNat, Int.reduceNeg, Int.reduceLT, Int.reduceLE, Int.reduceBEq, Int.reduceBNe, decide_true, decide_false, Bool.false_eq_true, false_imp_iff, Nat.lt_irrefl]
    refine ⟨fun q => absurd q (by simp), fun _ => Fin_plain ⟨.sl (h.length + 1) 0 3 0 1, ?_, .inr ⟨h.length + 1, 0, ?_, by omega, rfl, ?_⟩, ?_⟩⟩
    · rw [List.getElem?_set_self (by simp; omega)]
    · simp
    · rw [List.getElem?_set_ne (by omega), List.getElem?_append_right (by omega), Nat.add_sub_cancel_left]; rfl
    · intro s hs hst _
      rw [List.getElem?_set_ne (Ne.symm hst), List.getElem?_append_left hs]
  · have hgx : ∀ x, (h ++ x)[tg]? = some (AObj.arr g 3 L) := fun x => by rw [List.getElem?_append_left htg]; exact hg
    have hset : ∀ x o, ((h ++ x).set tg o)[t]? = some (AObj.arr 0 3 [.agg [Y, .sl tg g 3 0 L.length, .int .i64 H]]) := fun x o => by rw [List.getElem?_set_ne hne]; exact hPx x
    simp only [go_sem, hP, hPx, hg, hgx, hset, Nat.reduceMul, Nat.reduceLT, Nat.reduceLeDiff, Nat.reduceEqDiff, Nat.reduceBEq, Int.toNat_natCast, Int.reduceToNat, Int.reduceNeg, Int.reduceLT, Int.reduceLE, Int.reduceBEq, Int.reduceBNe, decide_true, decide_false, Bool.false_eq_true, false_imp_iff, Nat.lt_irrefl]
    refine ⟨⟨by omega, by omega⟩, Fin_plain ⟨.sl tg (g + 1) 3 0 (L.length + 1), ?_, .inr ⟨tg, g + 1, ?_, hne, by simp, ?_⟩, ?_⟩⟩
    · rw [List.getElem?_set_self (by simp; omega)]
    · simp; omega
    · rw [List.getElem?_set_ne (Ne.symm hne), List.getElem?_set_self (by simp; omega)]
    · intro s hs hst hsx
      rw [List.getElem?_set_ne (Ne.symm hst), List.getElem?_set_ne (Ne.symm (hsx tg g L.length rfl)), List.getElem?_append_left hs]
/-- The parts of a text, frozen at once. -/
theorem split_fz (s t : Str) (h : List AObj) (hs : s.length < 4294967281) (ht : 1 ≤ t.length) (hl : (splitL s t).length = Lib.countB ⟨s.toArray⟩ ⟨t.toArray⟩ + 1) : ACall Tryz.prog 25 [.str s, .str t] h (fun r h' => r = .fz false (strs (splitL s t)) ∧ h' = h) := by
  refine ACall.frame (ACall.freeze 4 (split_ok s t (deadH h) hs ht hl) ?_)
  rintro r h' ⟨rfl, rfl⟩
  have hg : (deadH h ++ [AObj.arr 0 1 (strs (splitL s t))])[h.length]? = some (AObj.arr 0 1 (strs (splitL s t))) := by
    have : (deadH h).length = h.length := by simp [deadH]
    rw [List.getElem?_append_right (by omega), this, Nat.sub_self]; rfl
  simp only [deadH, List.length_map] at hg ⊢
  simp only [frz_sl, hg]
  rw [frzO_all (strs_len _).symm (flatS _)]
  exact ⟨by simp [AV.low, low_strs], rfl, trivial⟩
end Go.Proofs.Vale
