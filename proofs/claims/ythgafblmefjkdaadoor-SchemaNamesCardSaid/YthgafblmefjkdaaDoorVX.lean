/- YthgafblmefjkdaaDoorVX: a text of the proof of this claim, by its prover. -/
import Derived.Test.YthgafblmefjkdaaDoorVW
import Derived.Sort.Grow
import Derived.Sort.EncStr
set_option linter.unusedVariables false
set_option linter.unusedSimpArgs false
set_option maxHeartbeats 1000000
namespace Go.Proofs.Vale
open Go.Sort

/-! ### A function that turns a list of texts in its place -/
def strsX (l : List (List UInt8)) : List AV := l.map .str

theorem putCells_size (enc : List UInt8 → Value) (off : Nat) (d : Array (List UInt8)) (c : Array Value) : (putCells enc off d c).size = c.size := by simp [putCells]

theorem inplace_ok {P : Program} {f : FuncId} {t g : Nat} {R : AV} {rv : Option Addr → Nat → Value} {ss zs : List (List UInt8)} {h : List AObj} (hz : zs.length = ss.length)
    (ht : h[t]? = some (.arr g 1 (strsX ss)))
    (c1 : ∀ blk cap w, Holds encStr w blk 0 ss.toArray → blk < w.heap.size → ss.length ≤ cap → Calls P f #[.slice (some ⟨blk, 0, none⟩) ss.length cap] w fun e w' => e = .returned (rv (some ⟨blk, 0, none⟩) cap) ∧ ∃ n os, w' = grow (putRow encStr (Sort.ahead w n) blk 0 zs.toArray) os)
    (c0 : ∀ w, ss = [] → Calls P f #[.slice none 0 0] w fun e w' => e = .returned (rv none 0) ∧ w' = w)
    (hr : ∀ β fr H a cap, Rep β fr H (.sl t g 1 0 ss.length) (.slice a ss.length cap) → Rep β fr H R (rv a cap)) :
    ACall P f [.sl t g 1 0 ss.length] h (fun r h' => r = R ∧ h' = h.set t (.arr g 1 (strsX zs))) := by
  intro w β fr vs L Rr
  obtain ⟨hvs, hv⟩ := Rr
  obtain ⟨v, hv1, hv2⟩ := hv 0 (by simp)
  have hvs' : vs = #[v] := by
    apply Array.ext_getElem?
    intro i
    rcases i with _ | i
    · rw [hv1]; rfl
    · rw [Array.getElem?_eq_none (by rw [hvs]; simp), Array.getElem?_eq_none (by simp)]
  subst hvs'
  simp only [List.getElem_cons_zero] at hv2
  have hv2' := hv2
  simp only [Rep] at hv2
  rcases hv2 with ⟨hb, _, hl0, rfl⟩ | ⟨b, c, e, fz, cap, hb, hH, rfl, hcap, hle⟩
  · have hss : ss = [] := List.length_eq_zero_iff.1 hl0
    subst hss
    have hzs : zs = [] := List.length_eq_zero_iff.1 hz
    subst hzs
    refine (c0 w rfl).mono ?_
    rintro e w' ⟨rfl, rfl⟩
    have hset : h.set t (.arr g 1 (strsX [])) = h := by
      apply List.ext_getElem?
      intro i
      rw [List.getElem?_set]
      split
      · subst_vars; split
        · rw [ht]
        · rw [List.getElem?_eq_none (by omega)]
      · rfl
    refine ⟨_, _, _, β, fr, rfl, ⟨rfl, rfl⟩, by rw [hset]; exact L, hr _ _ _ _ _ hv2', by rw [hset]; exact Step1.refl _ _ _ _⟩
  · have hob := L.obj t _ ht
    rcases hob with ⟨z, _⟩ | ⟨b', c', e', f', hb', hH', hfz, hls, hln, hlc⟩
    · rw [hb] at z; injection z with z; cases z
    rw [hb] at hb'; injection hb' with hb'; injection hb' with hb'; subst hb'
    rw [hH] at hH'; injection hH' with hH'; injection hH' with q1 q2 q3; subst q1 q2 q3
    have hbl : b < w.heap.size := L.lt _ _ _ hb
    have hlen : (strsX ss).length = ss.length := by simp [strsX]
    have hsz : ss.length ≤ c.size := by rw [hlen, Nat.mul_one] at hln; exact hln
    have hcell : ∀ j, (hj : j < ss.length) → c[j]? = some (encStr ss[j]) := by
      intro j hj
      obtain ⟨u, hu, hru⟩ := hlc j (by rw [hlen]; exact hj) 0 (by simp [strsX, AV.cells])
      simp only [strsX, List.getElem_map, AV.cells, List.getElem_cons_zero, Rep] at hru
      obtain ⟨bs, rfl, hbs⟩ := hru
      rw [Nat.mul_one, Nat.add_zero] at hu
      rw [hu, ← hbs]
    have hold : Holds encStr w b 0 ss.toArray := by
      intro j hj
      have hj' : j < ss.length := by simpa using hj
      refine ⟨?_, ?_⟩
      · rw [cell?_eq _ _ rfl]
        simp only [cellAt, hH, Nat.zero_add]
        rw [hcell j hj', getElem!_pos ss.toArray j hj]
        simp
      · have := hfz j (by omega)
        simp only [World.frozen?, hH, Nat.zero_add]
        exact this
    simp only [Nat.zero_mul] at hv2' ⊢
    refine (c1 b cap w hold hbl hle).mono ?_
    rintro e1 w' ⟨rfl, n, os, rfl⟩
    let c2 := putCells encStr 0 zs.toArray c
    have hc2 : c2.size = c.size := putCells_size _ _ _ _
    have hH2 : (grow (putRow encStr (Sort.ahead w n) b 0 zs.toArray) os).heap[b]? = some (.cells c2 e fz) := by
      rw [heap_grow_old _ _ (by simpa using hbl)]
      simp only [putRow, mapBlock, Sort.heap_ahead]
      rw [Array.getElem?_modify, if_pos rfl, hH]
      rfl
    have hne : ∀ b1, b1 < w.heap.size → b1 ≠ b → (grow (putRow encStr (Sort.ahead w n) b 0 zs.toArray) os).heap[b1]? = w.heap[b1]? := by
      intro b1 h1 h2
      rw [heap_grow_old _ _ (by simpa using h1)]
      simp only [putRow, mapBlock, Sort.heap_ahead]
      rw [Array.getElem?_modify, if_neg (fun q => h2 q.symm)]
    have hsize : w.heap.size ≤ (grow (putRow encStr (Sort.ahead w n) b 0 zs.toArray) os).heap.size := by simp [grow]
    obtain ⟨L', S'⟩ := L.turn (w' := grow (putRow encStr (Sort.ahead w n) b 0 zs.toArray) os) (β' := β) (g' := g) (o' := .arr g 1 (strsX zs)) (r := some b) ht rfl rfl (fun _ _ _ => .inr trivial)
      (fun _ _ _ e => e) (fun _ _ _ e => .inl e) hb (fun b e => by injection e with e; subst e; exact ⟨.inl hb, by omega⟩) (fun k hk1 hk => hne k hk1 (fun q => hk (by rw [q]; exact hb))) hsize
      (fun b1 c1 e1 f1 q q' => by
        rw [hb] at q; injection q with q; injection q with q; subst q
        rw [hH] at q'; injection q' with q'; injection q' with q1 q2 q3; subst q1 q2 q3
        exact ⟨c2, fz, hH2, hc2⟩) rfl rfl rfl
      (fun E => by
        refine .inr ⟨b, c2, e, fz, hb, hH2, by rw [hc2]; exact hfz, ?_, by rw [hc2]; simp [strsX, hz]; exact hsz, fun k hk m hm => ?_⟩
        · intro x hx
          simp only [strsX, List.mem_map] at hx
          obtain ⟨y, _, rfl⟩ := hx; rfl
        · have hk' : k < zs.length := by simpa [strsX] using hk
          have hm' : m = 0 := by simp only [strsX, List.getElem_map, AV.cells, List.length_singleton] at hm; omega
          subst hm'
          refine ⟨encStr zs[k], ?_, ?_⟩
          · rw [Nat.mul_one, Nat.add_zero]
            have : k < c.size := by omega
            simp only [c2, putCells, Array.getElem?_mapIdx]
            rw [Array.getElem?_eq_getElem this]
            simp [hk']
          · simp only [strsX, List.getElem_map, AV.cells, List.getElem_cons_zero, Rep]
            exact ⟨_, rfl, by simp⟩)
      (fun g1 hg => L.top _ _ _ _ ht _ hg)
    exact ⟨_, _, _, β, fr, rfl, ⟨rfl, rfl⟩, L', hr _ _ _ _ _ (hv2'.ext S'.ext), S'⟩
theorem nil_call {P : Program} {f : FuncId} {c : Bool} {R : AV} {rv : Option Addr → Nat → Value} {h : List AObj}
    (c0 : ∀ a cap w, Calls P f #[.slice a 0 cap] w fun e w' => e = .returned (rv a cap) ∧ w' = w)
    (hr : ∀ β fr H a cap, Rep β fr H (.fz c []) (.slice a 0 cap) → Rep β fr H R (rv a cap)) : ACall P f [.fz c []] h (fun r h' => r = R ∧ h' = h) := by
  intro w β fr vs L Rr
  obtain ⟨hvs, hv⟩ := Rr
  obtain ⟨v, hv1, hv2⟩ := hv 0 (by simp)
  have hvs' : vs = #[v] := by
    apply Array.ext_getElem?
    intro i
    rcases i with _ | i
    · rw [hv1]; rfl
    · rw [Array.getElem?_eq_none (by rw [hvs]; simp), Array.getElem?_eq_none (by simp)]
  subst hvs'
  simp only [List.getElem_cons_zero] at hv2
  have hv3 := hv2
  simp only [Rep] at hv3
  obtain ⟨a, cap, rfl, _⟩ := hv3
  refine (c0 a cap w).mono ?_
  rintro e w' ⟨rfl, rfl⟩
  exact ⟨_, _, _, β, fr, rfl, ⟨rfl, rfl⟩, L, hr _ _ _ _ _ hv2, Step1.refl _ _ _ _⟩
end Go.Proofs.Vale
