/- YtinajnnflgpjbaaVDictV: a text of the proof of this claim, by its prover. -/
import Derived.Test.YtinajnnflgpjbaaVDictT
import Derived.Test.YtinajnnflgpjbaaVDictU
set_option linter.unusedVariables false
set_option linter.unusedSimpArgs false
namespace Go.Proofs.Vale
open Go.Proofs

/-! ### There and back -/
theorem nxtF_vb : ∀ (f k u : Nat) (b : Str) (v n : Nat), nxtF f k u b = some (v, n) → (k = 0 → u = 0) → (0 < k → 0 < u) → ∃ p, b = p ++ b.drop (n - k) ∧ vhi u ++ p = vb v
  | 0, _, _, _, _, _, h, _, _ => by cases h
  | f + 1, k, u, [], _, _, h, _, _ => by cases h
  | f + 1, k, u, c :: r, v, n, h, h0, h1 => by
    have hc256 := c.toNat_lt
    simp only [nxtF] at h
    split at h
    · cases h
    · rename_i hc
      split at h
      · rename_i hlt
        injection h with h; injection h with e1 e2; subst e1 e2
        refine ⟨[c], by simp, ?_⟩
        rw [vb, show (128 * u + c.toNat % 128) / 128 = u by omega, show (128 * u + c.toNat % 128) % 128 = c.toNat by omega]
        simp
      · rename_i hge
        have hne : 128 * u + c.toNat % 128 ≠ 0 := by
          intro e
          have hu0 : u = 0 := by omega
          by_cases q : k = 0
          · refine hc (.inl ⟨q, ?_⟩)
            apply UInt8.toNat_inj.1
            show c.toNat = 128
            omega
          · have := h1 (by omega); omega
        obtain ⟨p, q1, q2⟩ := nxtF_vb f (k + 1) _ r v n h (by omega) (by omega)
        have hn := (nxtF_n f (k + 1) _ r v n h).1
        refine ⟨c :: p, ?_, ?_⟩
        · rw [show n - k = (n - (k + 1)) + 1 by omega, List.drop_succ_cons, List.cons_append, ← q1]
        · rw [← q2, vhi_pos hne, show (128 * u + c.toNat % 128) / 128 = u by omega, show 128 + (128 * u + c.toNat % 128) % 128 = c.toNat by omega]
          simp
theorem nxt_vb {b : Str} {v n : Nat} (h : nxt b = some (v, n)) : b = vb v ++ b.drop n := by
  obtain ⟨p, q1, q2⟩ := nxtF_vb 10 0 0 b v n h (fun _ => rfl) (by omega)
  rw [vhi_zero, List.nil_append] at q2
  rw [← q2]; exact q1
theorem nxtF_vhi : ∀ (w f : Nat) (r : Str), w < 144115188075855872 → (vhi w).length ≤ f → nxtF f 0 0 (vhi w ++ r) = nxtF (f - (vhi w).length) (vhi w).length w r := by
  intro w
  induction w using Nat.strongRecOn with
  | ind w ih =>
    intro f r hw hf
    by_cases h0 : w = 0
    · subst h0; simp [vhi_zero]
    · have hl : (vhi w).length = (vhi (w / 128)).length + 1 := by rw [vhi_pos h0]; simp
      rw [hl]
      have e : vhi w ++ r = vhi (w / 128) ++ (UInt8.ofNat (128 + w % 128) :: r) := by rw [vhi_pos h0]; simp
      rw [e, ih (w / 128) (by omega) f _ (by omega) (by omega)]
      obtain ⟨g, hg⟩ : ∃ g, f - (vhi (w / 128)).length = g + 1 := ⟨f - (vhi (w / 128)).length - 1, by omega⟩
      have ht : (UInt8.ofNat (128 + w % 128)).toNat = 128 + w % 128 := by rw [UInt8.toNat_ofNat']; omega
      have hc : ¬ (((vhi (w / 128)).length = 0 ∧ UInt8.ofNat (128 + w % 128) = 128) ∨ 144115188075855872 ≤ w / 128) := by
        rintro (⟨q1, q2⟩ | q)
        · have h3 : w / 128 = 0 := by
            by_cases q : w / 128 = 0
            · exact q
            · rw [vhi_pos q] at q1; simp at q1
          have := congrArg UInt8.toNat q2
          rw [ht] at this
          have h4 : (128 : UInt8).toNat = 128 := rfl
          omega
        · omega
      rw [hg]
      simp only [nxtF]
      rw [if_neg hc, ht, if_neg (by omega), show 128 * (w / 128) + (128 + w % 128) % 128 = w by omega, show f - ((vhi (w / 128)).length + 1) = g by omega]
theorem nxt_back (v : Nat) (r : Str) (hv : v < 18446744073709551616) : nxt (vb v ++ r) = some (v, (vb v).length) := by
  have hl := vhi_len 9 (v / 128) (by omega)
  have e : vb v ++ r = vhi (v / 128) ++ (UInt8.ofNat (v % 128) :: r) := by simp [vb]
  have ht : (UInt8.ofNat (v % 128)).toNat = v % 128 := by rw [UInt8.toNat_ofNat']; omega
  obtain ⟨g, hg⟩ : ∃ g, 10 - (vhi (v / 128)).length = g + 1 := ⟨10 - (vhi (v / 128)).length - 1, by omega⟩
  rw [nxt, e, nxtF_vhi _ 10 _ (by omega) (by omega), hg]
  have hc : ¬ (((vhi (v / 128)).length = 0 ∧ UInt8.ofNat (v % 128) = 128) ∨ 144115188075855872 ≤ v / 128) := by
    rintro (⟨q1, q2⟩ | q)
    · have := congrArg UInt8.toNat q2
      rw [ht] at this
      have h4 : (128 : UInt8).toNat = 128 := rfl
      omega
    · omega
  simp only [nxtF]
  rw [if_neg hc, ht, if_pos (by omega), show 128 * (v / 128) + v % 128 % 128 = v by omega]
  simp [vb]
theorem unf_nat {u : Nat} (h : 0 ≤ unf u) : u = 2 * (unf u).toNat := by
  simp only [unf] at h ⊢
  split
  · rename_i q; rw [if_pos q] at h; omega
  · rename_i q; rw [if_neg q] at h; omega
theorem unf_two (k : Nat) : unf (2 * k) = k := by simp only [unf]; rw [if_pos (by omega)]; omega
theorem rdInt_vb {hi : Int} {b b1 : Str} {v : Int} (h : rdInt 0 hi b = some (v, b1)) : b = vb (2 * v.toNat) ++ b1 := by
  simp only [rdInt] at h
  split at h
  · rename_i u n hx
    split at h
    · cases h
    · rename_i hc
      injection h with h; injection h with h1 h2; subst h1 h2
      rw [← unf_nat (by omega)]; exact nxt_vb hx
  · cases h
theorem rdInt_back (lo hi : Int) (k : Nat) (r : Str) (hk : k ≤ 4611686018427387904) (h1 : lo ≤ k) (h2 : (k : Int) ≤ hi) : rdInt lo hi (vb (2 * k) ++ r) = some ((k : Int), r) := by
  simp only [rdInt, nxt_back (2 * k) r (by omega), unf_two]
  rw [if_neg (by omega)]; simp
theorem rdTx_vb {hi : Int} {b b1 s : Str} (h : rdTx hi b = some (s, b1)) : b = vb (2 * s.length) ++ (s ++ b1) := by
  simp only [rdTx] at h
  split at h
  · rename_i u n hx
    split at h
    · cases h
    · rename_i hc
      injection h with h; injection h with h1 h2
      have hn := nxt_n hx
      have hl : s.length = (unf u).toNat := by rw [← h1]; simp; omega
      rw [hl, ← unf_nat (by omega), ← h1, ← h2, show b.drop (n + (unf u).toNat) = (b.drop n).drop (unf u).toNat by rw [List.drop_drop], List.take_append_drop]
      exact nxt_vb hx
  · cases h
theorem rdTx_back (hi : Int) (s r : Str) (hs : s.length ≤ 4611686018427387904) (h : (s.length : Int) ≤ hi) : rdTx hi (vb (2 * s.length) ++ (s ++ r)) = some (s, r) := by
  simp only [rdTx, nxt_back (2 * s.length) (s ++ r) (by omega), unf_two]
  rw [if_neg (by simp only [List.length_append]; omega)]
  simp
theorem cmn_take : ∀ (a b : Str), a.take (cmn a b) = b.take (cmn a b)
  | [], b => by cases b <;> simp [cmn]
  | x :: a, [] => by simp [cmn]
  | x :: a, y :: b => by
    simp only [cmn]
    split
    · rename_i e; subst e; simp [cmn_take a b]
    · simp
/-- The bytes of one text behind another one. -/
def piece (last S : Str) : Str := vb (2 * cmn last S) ++ (vb (2 * (S.drop (cmn last S)).length) ++ S.drop (cmn last S))
theorem ppS_some {b last S b2 : Str} (h : ppS b last = some (S, b2)) : b = piece last S ++ b2 ∧ dfits S = true ∧ sLt last S = true := by
  simp only [ppS] at h
  split at h
  · cases h
  · rename_i k b1 hk
    split at h
    · cases h
    · rename_i s0 b3 hx
      split at h
      · rename_i hc
        injection h with h; injection h with h1 h2; subst h2
        obtain ⟨k1, k2, -⟩ := rdInt_ok hk
        have hkc : k.toNat = cmn last S := by rw [← h1]; omega
        have hd : S.drop (cmn last S) = s0 := by
          rw [← hkc, ← h1]
          have : (last.take k.toNat).length = k.toNat := by simp; omega
          rw [List.drop_left' this]
        rw [h1] at hc
        refine ⟨?_, hc.1, hc.2.1⟩
        rw [piece, hd, ← hkc, rdInt_vb hk, rdTx_vb hx]
        simp [List.append_assoc]
      · cases h
theorem ppS_back (last S r : Str) (hf : dfits S = true) (hl : sLt last S = true) (hll : last.length ≤ 24) : ppS (piece last S ++ r) last = some (S, r) := by
  have hc := cmn_le last S
  have hS : S.length ≤ 24 := by simp only [dfits] at hf; simp at hf; exact hf.2
  have e1 : piece last S ++ r = vb (2 * cmn last S) ++ (vb (2 * (S.drop (cmn last S)).length) ++ (S.drop (cmn last S) ++ r)) := by simp [piece, List.append_assoc]
  have hdl : (S.drop (cmn last S)).length ≤ 24 := by simp; omega
  rw [e1]
  simp only [ppS, rdInt_back 0 last.length (cmn last S) _ (by omega) (by omega) (by omega), rdTx_back 24 (S.drop (cmn last S)) r (by omega) (by omega), Int.toNat_natCast]
  rw [cmn_take, List.take_append_drop, if_pos ⟨hf, hl, rfl⟩]
theorem rise_cons {x y : Str} {l : List Str} (h : sLt x y = true) (hr : Rise (y :: l)) : Rise (x :: y :: l) := by
  rw [Rise, List.pairwise_cons]
  refine ⟨fun z hz => ?_, hr⟩
  rcases List.mem_cons.1 hz with rfl | hz
  · exact h
  · rw [Rise, List.pairwise_cons] at hr
    exact sLt_trans h (hr.1 z hz)
theorem ppF_some : ∀ (n : Nat) (b last b2 : Str) (acc L : List Str), ppF n b last acc = some (b2, L) → ∃ M, L = acc ++ M ∧ M.length = n ∧ b = encF last M ++ b2 ∧ Rise (last :: M) ∧ ∀ s ∈ M, dfits s = true
  | 0, b, last, b2, acc, L, h => by
    injection h with h; injection h with h1 h2; subst h1 h2
    exact ⟨[], by simp, rfl, rfl, by simp [Rise], by simp⟩
  | n + 1, b, last, b2, acc, L, h => by
    simp only [ppF] at h
    split at h
    · cases h
    · rename_i S b3 hs
      obtain ⟨q1, q2, q3⟩ := ppS_some hs
      obtain ⟨M, m1, m2, m3, m4, m5⟩ := ppF_some n b3 S b2 (acc ++ [S]) L h
      refine ⟨S :: M, by rw [m1]; simp, by simp [m2], ?_, rise_cons q3 m4, fun s hs => ?_⟩
      · rw [q1, m3, encF, piece]; simp [List.append_assoc]
      · rcases List.mem_cons.1 hs with rfl | hs
        · exact q2
        · exact m5 s hs
theorem ppF_back : ∀ (M : List Str) (last b2 : Str) (acc : List Str), Rise (last :: M) → (∀ s ∈ M, dfits s = true) → last.length ≤ 24 → ppF M.length (encF last M ++ b2) last acc = some (b2, acc ++ M)
  | [], last, b2, acc, _, _, _ => by simp [ppF, encF]
  | S :: M, last, b2, acc, hr, hf, hl => by
    rw [Rise, List.pairwise_cons] at hr
    have hS := hf S (by simp)
    have hS24 : S.length ≤ 24 := by simp only [dfits] at hS; simp at hS; exact hS.2
    have e : encF last (S :: M) ++ b2 = piece last S ++ (encF S M ++ b2) := by rw [encF, piece]; simp [List.append_assoc]
    simp only [List.length_cons, ppF]
    rw [e, ppS_back last S _ hS (hr.1 S (by simp)) hl]
    simp only
    rw [ppF_back M S b2 (acc ++ [S]) hr.2 (fun s hs => hf s (by simp [hs])) hS24]
    simp
theorem parse_some {b : Str} {L : List Str} (h : parseF b = some L) : bytesF L = b ∧ Rise L ∧ (∀ s ∈ L, dfits s = true) ∧ L.length ≤ 65536 := by
  simp only [parseF] at h
  split at h
  · cases h
  · rename_i n b1 hn
    split at h
    · cases h
    · rename_i b2 L2 hp
      split at h
      · rename_i hb
        injection h with h; subst h hb
        obtain ⟨M, m1, m2, m3, m4, m5⟩ := ppF_some _ _ _ _ _ _ hp
        obtain ⟨n1, n2, -⟩ := rdInt_ok hn
        rw [List.nil_append] at m1; subst m1
        rw [Rise, List.pairwise_cons] at m4
        refine ⟨?_, m4.2, m5, by omega⟩
        rw [rdInt_vb hn, m3, List.append_nil, bytesF, m2]
      · cases h
theorem parse_back {L : List Str} (hr : Rise L) (hf : ∀ s ∈ L, dfits s = true) (hl : L.length ≤ 65536) : parseF (bytesF L) = some L := by
  have hr2 : Rise ([] :: L) := by
    rw [Rise, List.pairwise_cons]
    refine ⟨fun s hs => ?_, hr⟩
    have := hf s hs
    cases s with
    | nil => simp [dfits] at this
    | cons a s => rfl
  have := ppF_back L [] [] [] hr2 hf (by simp)
  rw [List.append_nil] at this
  simp only [parseF, bytesF, rdInt_back 0 65536 L.length _ (by omega) (by omega) (by omega), Int.toNat_natCast, this]
  simp
theorem rpS_some {b last S b2 : Str} {first : Bool} (h : rpS b last first = some (S, b2)) (hf : first = true → last = []) : dfits S = true ∧ sLt last S = true := by
  simp only [rpS] at h
  split at h
  · cases h
  · split at h
    · cases h
    · split at h
      · rename_i hc
        injection h with h; injection h with h1 h2
        rw [h1] at hc
        refine ⟨hc.1, ?_⟩
        cases first with
        | false => exact hc.2 rfl
        | true =>
          rw [hf rfl]
          have := hc.1
          cases S with
          | nil => simp [dfits] at this
          | cons a s => rfl
      · cases h
theorem rpF_some : ∀ (n : Nat) (first : Bool) (b last b2 : Str) (acc L : List Str), rpF n first b last acc = some (b2, L) → (first = true → last = []) → ∃ M, L = acc ++ M ∧ M.length = n ∧ Rise (last :: M) ∧ ∀ s ∈ M, dfits s = true
  | 0, first, b, last, b2, acc, L, h, _ => by
    injection h with h; injection h with h1 h2; subst h1 h2
    exact ⟨[], by simp, rfl, by simp [Rise], by simp⟩
  | n + 1, first, b, last, b2, acc, L, h, hf => by
    simp only [rpF] at h
    split at h
    · cases h
    · rename_i S b3 hs
      obtain ⟨q2, q3⟩ := rpS_some hs hf
      obtain ⟨M, m1, m2, m4, m5⟩ := rpF_some n false b3 S b2 (acc ++ [S]) L h (fun q => by cases q)
      refine ⟨S :: M, by rw [m1]; simp, by simp [m2], rise_cons q3 m4, fun s hs => ?_⟩
      rcases List.mem_cons.1 hs with rfl | hs
      · exact q2
      · exact m5 s hs
theorem rpS_of {b last S b2 : Str} {first : Bool} (h : ppS b last = some (S, b2)) : rpS b last first = some (S, b2) := by
  simp only [ppS] at h
  simp only [rpS]
  split at h
  · cases h
  · rename_i k b1 hk
    rw [hk]; simp only
    split at h
    · cases h
    · rename_i s0 b3 hx
      rw [hx]; simp only
      split at h
      · rename_i hc
        rw [if_pos ⟨hc.1, fun _ => hc.2.1⟩]; exact h
      · cases h
theorem rpF_of : ∀ (n : Nat) (first : Bool) (b last b2 : Str) (acc L : List Str), ppF n b last acc = some (b2, L) → rpF n first b last acc = some (b2, L)
  | 0, _, _, _, _, _, _, h => h
  | n + 1, first, b, last, b2, acc, L, h => by
    simp only [ppF] at h
    split at h
    · cases h
    · rename_i S b3 hs
      simp only [rpF, rpS_of hs]
      exact rpF_of n false b3 S b2 _ L h
theorem rparse_eq (b : Str) : rparseF b = parseF b := by
  cases h : parseF b with
  | some L =>
    have hs := parse_some h
    simp only [parseF] at h
    simp only [rparseF]
    split at h
    · cases h
    · rename_i n b1 hn
      rw [hn]; simp only
      split at h
      · cases h
      · rename_i b2 L2 hp
        rw [rpF_of _ true _ _ _ _ _ hp]; simp only
        split at h
        · rename_i hb
          injection h with h; subst h
          rw [if_pos ⟨hb, hs.1⟩]
        · cases h
  | none =>
    cases h2 : rparseF b with
    | none => rfl
    | some L =>
      exfalso
      simp only [rparseF] at h2
      split at h2
      · cases h2
      · rename_i n b1 hn
        split at h2
        · cases h2
        · rename_i b2 L2 hp
          split at h2
          · rename_i hb
            injection h2 with h2; subst h2
            obtain ⟨M, m1, m2, m4, m5⟩ := rpF_some _ _ _ _ _ _ _ hp (fun _ => rfl)
            obtain ⟨n1, n2, -⟩ := rdInt_ok hn
            rw [List.nil_append] at m1; subst m1
            rw [Rise, List.pairwise_cons] at m4
            have := parse_back m4.2 m5 (by omega)
            rw [hb.2, h] at this; cases this
          · cases h2
end Go.Proofs.Vale
