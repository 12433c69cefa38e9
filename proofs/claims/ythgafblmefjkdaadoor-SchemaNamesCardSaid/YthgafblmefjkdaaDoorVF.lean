/- YthgafblmefjkdaaDoorVF: a text of the proof of this claim, by its prover. -/
import Derived.Test.YthgafblmefjkdaaDoorVE
set_option linter.unusedVariables false
set_option linter.unusedSimpArgs false
namespace Go.Proofs.Vale

theorem obA_spec {a : Act} {w : World} {β : Beta} {fr : Nat → Prop} {ev : Operand → AV} {o : Option Operand} {d l : Int} (h : obA (o.map ev) d = some l) (hr : ∀ y, o = some y → Rep β fr w.heap (ev y) (a.eval y)) :
    (o = none ∧ l = d) ∨ ∃ y k, o = some y ∧ a.eval y = .int k l := by
  cases o with
  | none => simp [obA] at h; exact .inl ⟨rfl, h.symm⟩
  | some y =>
    simp only [Option.map_some, obA] at h
    split at h
    · rename_i e; cases e
    · rename_i k n e
      injection e with e
      injection h with h; subst h
      have := hr y rfl
      rw [e] at this; simp only [Rep] at this
      exact .inr ⟨y, _, rfl, this⟩
    · cases h

theorem run_sliceBound {P : Program} {w : World} {k : IntKind} {n : Int} {y : Nat} {c : BoundsCode} (h0 : 0 ≤ n) (h1 : n ≤ y) : (Instr.sliceBound (.int k n) y c).run P w = .ok n.toNat w := by
  simp [Instr.sliceBound, asIntOf, h0, h1]

/-- The three bounds of a cut, without a third one. -/
theorem run_sliceBounds2 {P : Program} {w : World} {a : Act} {isS : Bool} {len cap : Nat} {lo hi : Option Operand} {l h : Int}
    (hl : (lo = none ∧ l = 0) ∨ ∃ y k, lo = some y ∧ a.eval y = .int k l) (hh : (hi = none ∧ h = (len : Int)) ∨ ∃ y k, hi = some y ∧ a.eval y = .int k h) (h0 : 0 ≤ l) (h1 : l ≤ h) (h2 : h ≤ cap) :
    (Instr.sliceBounds isS len cap (lo.map a.eval) (hi.map a.eval) none).run P w = .ok (l.toNat, h.toNat, cap) w := by
  unfold Instr.sliceBounds
  rcases hh with ⟨rfl, rfl⟩ | ⟨y, k, rfl, hy⟩ <;> rcases hl with ⟨rfl, rfl⟩ | ⟨z, k', rfl, hz⟩
  · simp
  · simp only [Option.map_some, Option.map_none, hz, Sem.run_bind, Sem.run_pure, Result.andThen_ok, Option.isSome_none]
    rw [run_sliceBound h0 h1]; simp
  · simp only [Option.map_some, Option.map_none, hy, Sem.run_bind, Sem.run_pure, Result.andThen_ok, Option.isSome_none]
    rw [run_sliceBound (by omega) h2]; simp
  · simp only [Option.map_some, Option.map_none, hy, hz, Sem.run_bind, Sem.run_pure, Result.andThen_ok, Option.isSome_none]
    rw [run_sliceBound (by omega) h2]
    simp only [Result.andThen_ok]
    rw [run_sliceBound h0 (by omega)]; simp

theorem run_sliceBounds3 {P : Program} {w : World} {a : Act} {isS : Bool} {len cap : Nat} {lo : Option Operand} {y z : Operand} {k k2 : IntKind} {l h m : Int}
    (hl : (lo = none ∧ l = 0) ∨ ∃ y k, lo = some y ∧ a.eval y = .int k l) (hy : a.eval y = .int k h) (hz : a.eval z = .int k2 m) (h0 : 0 ≤ l) (h1 : l ≤ h) (h2 : h ≤ m) (h3 : m ≤ cap) :
    (Instr.sliceBounds isS len cap (lo.map a.eval) (some (a.eval y)) (some (a.eval z))).run P w = .ok (l.toNat, h.toNat, m.toNat) w := by
  unfold Instr.sliceBounds
  rcases hl with ⟨rfl, rfl⟩ | ⟨x, k', rfl, hx⟩
  · simp only [Option.map_some, Option.map_none, hy, hz, Sem.run_bind, Sem.run_pure, Result.andThen_ok, Option.isSome_some]
    rw [run_sliceBound (by omega) h3]
    simp only [Result.andThen_ok]
    rw [run_sliceBound (by omega) (by omega)]; simp
  · simp only [Option.map_some, Option.map_none, hx, hy, hz, Sem.run_bind, Sem.run_pure, Result.andThen_ok, Option.isSome_some]
    rw [run_sliceBound (by omega) h3]
    simp only [Result.andThen_ok]
    rw [run_sliceBound (by omega) (by omega)]
    simp only [Result.andThen_ok]
    rw [run_sliceBound h0 (by omega)]; simp

theorem take_drop_cells {xs : List AV} {l h i : Nat} (hi : i < ((xs.take h).drop l).length) : ∃ hx : l + i < xs.length, ((xs.take h).drop l)[i] = xs[l + i] := by
  have : l + i < xs.length := by simp at hi; omega
  exact ⟨this, by simp⟩

/-- A cut of frozen memory. -/
theorem Rep_cut {β : Beta} {fr : Nat → Prop} {H : Array Obj} {c c' : Bool} {xs : List AV} {es l h m : Nat} {a : Option Addr} {cap : Nat} (hx : Rep β fr H (.fz c xs) (.slice a xs.length cap))
    (hu : ∀ x ∈ xs, x.cells.length = es) (h1 : l ≤ h) (h2 : h ≤ xs.length) (h3 : h ≤ m) (hc : c' = true → m = h) :
    Rep β fr H (.fz c' ((xs.take h).drop l)) (.slice (if m = l then a else a.map (·.add (l * es))) (h - l) (m - l)) := by
  simp only [Rep] at hx ⊢
  obtain ⟨a', cap', hv, h4, h5, h6⟩ := hx
  injection hv with hv1 hv2 hv3; subst hv1 hv3
  have hlen : ((xs.take h).drop l).length = h - l := by simp; omega
  refine ⟨_, _, by rw [hlen], by omega, fun e => by have := hc e; omega, fun hne => ?_⟩
  have hpos : 0 < h - l := by
    rcases Nat.eq_zero_or_pos (h - l) with z | z
    · exact absurd (List.eq_nil_of_length_eq_zero (by omega)) hne
    · exact z
  obtain ⟨ad, s, rfl, hf, hs, hu', hc'⟩ := h6 (by intro e; subst e; simp at h2; omega)
  have hml : ¬ m = l := by omega
  have hse : s = es := by
    have := hu' _ (List.getElem_mem (show 0 < xs.length by omega))
    rw [hu _ (List.getElem_mem (show 0 < xs.length by omega))] at this; exact this.symm
  subst hse
  refine ⟨ad.add (l * s), s, by simp [hml], by rw [add_none hs]; exact hf, by rw [add_none hs], fun x hx => hu x (List.mem_of_mem_take (List.mem_of_mem_drop hx)), fun i hi j hj => ?_⟩
  obtain ⟨hlt, he⟩ := take_drop_cells hi
  simp only [he] at hj ⊢
  obtain ⟨u, hu1, hr⟩ := hc' (l + i) hlt j hj
  refine ⟨u, ?_, hr⟩
  rw [add_none hs]
  simp only
  rw [← hu1, Nat.add_mul]; congr 1; omega

theorem sl_ok {P : Program} {o : Oper} {t : TypeId} {x : Operand} {lo hi mx : Option Operand} {ev : Operand → AV} {h : List AObj} {p : Prop} {r : AV} (ho : o.op = .slice t x lo hi mx) (hb : slA P t (ev x) (lo.map ev) (hi.map ev) (mx.map ev) = some (p, r)) : PopOk P o ev h p r := by
  intro hp a w β fr L hr
  rw [ho] at hr
  have hx := hr x (by simp [Op.operands])
  have hlo : ∀ y, lo = some y → Rep β fr w.heap (ev y) (a.eval y) := fun y e => hr y (by simp [Op.operands, e])
  have hhi : ∀ y, hi = some y → Rep β fr w.heap (ev y) (a.eval y) := fun y e => hr y (by simp [Op.operands, e])
  have hmx : ∀ y, mx = some y → Rep β fr w.heap (ev y) (a.eval y) := fun y e => hr y (by simp [Op.operands, e])
  simp only [execOp, ho]
  unfold slA at hb
  split at hb
  · rename_i s e1
    rw [e1] at hx; simp only [Rep] at hx
    obtain ⟨b, hv, rfl⟩ := hx
    split at hb
    · rename_i l hh em el eh
      injection hb with hb; injection hb with hq hr'; subst hr'; rw [← hq] at hp
      obtain ⟨ht, h0, h1, h2⟩ := hp
      have hmn : mx = none := by simpa using em
      subst hmn
      have hsz : b.data.toList.length = b.size := by simp
      have hB := run_sliceBounds2 (P := P) (w := w) (a := a) (isS := false) (len := b.size) (cap := b.size) (obA_spec el hlo) (by rw [← hsz]; exact obA_spec eh hhi) h0 h1 (by omega)
      refine ⟨.string (b.extract l.toNat hh.toNat), w, ?_, rfl, rfl, rfl, rfl, ?_⟩
      · simp [Instr.sliceAt, Instr.slice, run_underlying (tk_str ht), hv, hB]
      · simp only [Rep]
        refine ⟨_, rfl, ?_⟩
        simp [List.extract_eq_take_drop, List.drop_take]
    · cases hb
  · rename_i c xs e1
    rw [e1] at hx
    have hx0 := hx
    simp only [Rep] at hx
    obtain ⟨ao, cap, hv, h4, h5, h6⟩ := hx
    rw [hv] at hx0
    split at hb
    · rename_i e es by_ l hh e2 em el eh
      injection hb with hb; injection hb with hq hr'; subst hr'; rw [← hq] at hp
      obtain ⟨h0, h1, h2, hu⟩ := hp
      have hmn : mx = none := by simpa using em
      subst hmn
      obtain ⟨ht, inf, hi1, hi2, hi3⟩ := ei_spec e2
      have hB := run_sliceBounds2 (P := P) (w := w) (a := a) (isS := true) (len := xs.length) (cap := cap) (obA_spec el hlo) (obA_spec eh hhi) h0 h1 (by omega)
      refine ⟨.slice (if cap = l.toNat then ao else ao.map (·.add (l.toNat * es))) (hh.toNat - l.toNat) (cap - l.toNat), w, ?_, rfl, rfl, rfl, rfl, ?_⟩
      · simp [Instr.sliceAt, Instr.slice, run_underlying ht, hv, hB, run_sizeOf' hi1, hi2]
      · refine Rep_cut hx0 hu (by omega) (by omega) (by omega) (fun e => ?_)
        simp at e; have := h5 e.1; omega
    · rename_i e es by_ k m l hh e2 em el eh
      injection hb with hb; injection hb with hq hr'; subst hr'; rw [← hq] at hp
      obtain ⟨his, h0, h1, h2, h3, hu⟩ := hp
      obtain ⟨z, rfl, hz⟩ : ∃ z, mx = some z ∧ ev z = .int k m := by
        cases mx with
        | none => cases em
        | some z => exact ⟨z, rfl, by simpa using em⟩
      obtain ⟨ht, inf, hi1, hi2, hi3⟩ := ei_spec e2
      have hzv := hmx z rfl
      rw [hz] at hzv; simp only [Rep] at hzv
      rcases obA_spec eh hhi with ⟨e, _⟩ | ⟨y, ky, rfl, hy⟩
      · subst e; simp at his
      have hB := run_sliceBounds3 (P := P) (w := w) (a := a) (isS := true) (len := xs.length) (cap := cap) (obA_spec el hlo) hy hzv h0 h1 h2 (by omega)
      refine ⟨.slice (if m.toNat = l.toNat then ao else ao.map (·.add (l.toNat * es))) (hh.toNat - l.toNat) (m.toNat - l.toNat), w, ?_, rfl, rfl, rfl, rfl, ?_⟩
      · simp only [Option.map_some] at *
        simp [Instr.sliceAt, Instr.slice, run_underlying ht, hv, hB, run_sizeOf' hi1, hi2]
      · refine Rep_cut hx0 hu (by omega) (by omega) (by omega) (fun e => ?_)
        simp at e; omega
    · cases hb
  · rename_i tt g s off len e1
    rw [e1] at hx; simp only [Rep] at hx
    split at hb
    · rename_i e es by_ hh e2 el em eh
      injection hb with hb; injection hb with hq hr'; subst hr'; rw [← hq] at hp
      obtain ⟨h0, h1⟩ := hp
      have hmn : mx = none := by simpa using em
      have hln : lo = none := by simpa using el
      subst hmn hln
      obtain ⟨ht, inf, hi1, hi2, hi3⟩ := ei_spec e2
      rcases hx with ⟨hb, h2, h3, hv⟩ | ⟨b, c, ele, f, cap, hb, hH, hv, hs, hl⟩
      · subst h2 h3
        have hB := run_sliceBounds2 (P := P) (w := w) (a := a) (isS := true) (len := 0) (cap := 0) (lo := none) (l := 0) (.inl ⟨rfl, rfl⟩) (by simpa using obA_spec eh hhi) (by omega) h0 (by simpa using h1)
        have hz : hh.toNat = 0 := by simp at h1; omega
        refine ⟨.slice none 0 0, w, ?_, rfl, rfl, rfl, rfl, ?_⟩
        · simp only [Option.map_none] at hB
          simp [Instr.sliceAt, Instr.slice, run_underlying ht, hv, hB, run_sizeOf' hi1, hi2, hz]
        · simp only [Rep]; exact .inl ⟨hb, trivial, hz, trivial⟩
      · have hB := run_sliceBounds2 (P := P) (w := w) (a := a) (isS := true) (len := len) (cap := cap) (lo := none) (l := 0) (.inl ⟨rfl, rfl⟩) (obA_spec eh hhi) (by omega) h0 (by omega)
        refine ⟨.slice (some ⟨b, off * s, none⟩) hh.toNat cap, w, ?_, rfl, rfl, rfl, rfl, ?_⟩
        · simp only [Option.map_none] at hB
          simp [Instr.sliceAt, Instr.slice, run_underlying ht, hv, hB, run_sizeOf' hi1, hi2, add_none]
        · simp only [Rep]; exact .inr ⟨b, c, ele, f, cap, hb, hH, rfl, hs, by omega⟩
    · cases hb
  · cases hb


theorem run_bytes {P : Program} {w : World} {β : Beta} {fr : Nat → Prop} {src dst e : TypeId} (hs : P.underlying src = some (.slice e)) (he : P.underlying e = some (.int .u8)) (hd : P.underlying dst = some .string) {b o n cap : Nat} {xs : List AV} (hn : xs.length = n)
    (hx : ∀ i (hi : i < xs.length), ∃ u, cellAt w.heap b (o + i) = some u ∧ Rep β fr w.heap (xs[i]) u) (hb : xs.all isByte = true) :
    ∃ s : ByteArray, (convert src dst (.slice (some ⟨b, o, none⟩) n cap)).run P w = .ok (.string s) w ∧ s.data.toList = xs.map byteOf := by
  let f : AV → Int := fun | .int _ n => n | _ => 0
  refine ⟨_, run_convert_bytes_arg w src e hs he b o n cap (xs.map f) (by simp [hn]) (fun i hi => ?_) dst hd, ?_⟩
  · obtain ⟨u, hu, hr⟩ := hx i (by omega)
    rw [cell?_eq _ _ rfl]
    simp only [hu]
    have hb' := List.all_eq_true.1 hb _ (List.getElem_mem (show i < xs.length by omega))
    rw [List.getD_eq_getElem?_getD, List.getElem?_map, List.getElem?_eq_getElem (show i < xs.length by omega)]
    generalize xs[i]'(by omega) = x at *
    unfold isByte at hb'
    split at hb'
    · simp only [Rep] at hr; subst hr; rfl
    · cases hb'
  · rw [strOfNums_data, List.map_map]
    refine List.map_congr_left fun x hx => ?_
    have hb' := List.all_eq_true.1 hb _ hx
    unfold isByte at hb'
    split at hb'
    · rfl
    · cases hb'

theorem isByte_cells {x : AV} (h : isByte x = true) : x.cells = [x] := by
  unfold isByte at h; split at h <;> first | rfl | cases h

theorem cv_ok {P : Program} {o : Oper} {src dst : TypeId} {x : Operand} {ev : Operand → AV} {h : List AObj} {p : Prop} {r : AV} (ho : o.op = .convert src dst x) (hb : cvA P src dst h (ev x) = some (p, r)) : PopOk P o ev h p r := by
  intro hp a w β fr L hr
  rw [ho] at hr
  have hx := hr x (by simp [Op.operands])
  simp only [execOp, ho]
  suffices key : ∃ v, (convert src dst (a.eval x)).run P w = .ok v w ∧ Rep β fr w.heap r v by
    obtain ⟨v, h1, h2⟩ := key
    exact ⟨v, w, by simp [h1], rfl, rfl, rfl, rfl, h2⟩
  unfold cvA at hb
  split at hb
  · rename_i k n e1
    rw [e1] at hx; simp only [Rep] at hx
    split at hb
    · rename_i k' e2
      injection hb with hb; injection hb with hq hr'; subst hr'; rw [← hq] at hp
      obtain ⟨d, hd⟩ := hp
      refine ⟨_, ?_, by simp only [Rep]; rfl⟩
      simp [convert, hx, run_underlying (tk_int e2), run_underlying hd, Conv.intToInt]
    · cases hb
  · rename_i s e1
    rw [e1] at hx; simp only [Rep] at hx
    obtain ⟨b, hv, rfl⟩ := hx
    split at hb
    · rename_i e2
      injection hb with hb; injection hb with hq hr'; subst hr'; rw [← hq] at hp
      obtain ⟨d, hd⟩ := hp
      refine ⟨.string b, ?_, by simp [Rep]⟩
      simp [convert, hv, run_underlying (tk_str e2), run_underlying hd]
    · cases hb
  · rename_i c l e1
    rw [e1] at hx; simp only [Rep] at hx
    obtain ⟨ao, cap, hv, h4, h5, h6⟩ := hx
    split at hb
    · rename_i e e2 e3
      injection hb with hb; injection hb with hq hr'; subst hr'; rw [← hq] at hp
      obtain ⟨he, hby⟩ := hp
      rw [hv]
      cases l with
      | nil =>
        cases ao with
        | none => exact ⟨_, run_convert_bytes_nil w src e (tk_sl e2) (tk_int he) _ _ dst (tk_str e3), by simp [Rep]⟩
        | some ad =>
          refine ⟨.string ByteArray.empty, ?_, by simp [Rep]⟩
          simp [convert, run_underlying (tk_sl e2), run_underlying (tk_str e3), run_underlying (tk_int he), Conv.bytesToString, loadCells, loadCellsFrom]
      | cons y l =>
        obtain ⟨ad, s, rfl, hf, hs, hu, hc⟩ := h6 (by simp)
        have hs1 : s = 1 := by
          have := hu y (by simp)
          rw [isByte_cells (List.all_eq_true.1 hby _ (by simp))] at this
          exact this.symm
        subst hs1
        obtain ⟨bk, of, sp⟩ := ad
        simp only at hs; subst hs
        obtain ⟨sb, h7, h8⟩ := run_bytes (P := P) (w := w) (β := β) (fr := fr) (cap := cap) (b := bk) (o := of) (xs := y :: l) (tk_sl e2) (tk_int he) (tk_str e3) rfl (fun i hi => by
          have hcl := isByte_cells (List.all_eq_true.1 hby _ (List.getElem_mem hi))
          obtain ⟨u, hu1, hu2⟩ := hc i hi 0 (by rw [hcl]; simp)
          refine ⟨u, by simpa using hu1, ?_⟩
          simpa [hcl] using hu2) hby
        exact ⟨_, h7, by simp only [Rep]; exact ⟨sb, rfl, h8⟩⟩
    · cases hb
  · rename_i t g s off len e1
    rw [e1] at hx; simp only [Rep] at hx
    split at hb
    · rename_i e g' s' l e2 e3 e4
      injection hb with hb; injection hb with hq hr'; subst hr'; rw [← hq] at hp
      obtain ⟨he, rfl, rfl, rfl, hn, hby⟩ := hp
      rcases hx with ⟨hbb, rfl, rfl, hv⟩ | ⟨bk, c, ele, f, cap, hbb, hH, hv, hs, hl⟩
      · rw [hv]
        exact ⟨_, run_convert_bytes_nil w src e (tk_sl e2) (tk_int he) _ _ dst (tk_str e3), by simp [Rep]⟩
      · rw [hv]
        have hby' : ((l.drop off).take len).all isByte = true := List.all_eq_true.2 fun x hx => List.all_eq_true.1 hby x (List.mem_of_mem_drop (List.mem_of_mem_take hx))
        obtain ⟨sb, h7, h8⟩ := run_bytes (P := P) (w := w) (β := β) (fr := fr) (cap := cap) (b := bk) (o := off * 1) (n := len) (xs := (l.drop off).take len) (tk_sl e2) (tk_int he) (tk_str e3) (by simp; omega) (fun i hi => by
          have hi' : off + i < l.length := by simp at hi; omega
          have hcl := isByte_cells (List.all_eq_true.1 hby _ (List.getElem_mem hi'))
          obtain ⟨u, hu1, hu2⟩ := L.arr e4 hi' hbb 0 (by rw [hcl]; simp)
          refine ⟨u, by simpa using hu1, ?_⟩
          simp only [List.getElem_take, List.getElem_drop]
          simpa [hcl] using hu2) hby'
        exact ⟨_, h7, by simp only [Rep]; exact ⟨sb, rfl, h8⟩⟩
    · cases hb
  · cases hb

end Go.Proofs.Vale
