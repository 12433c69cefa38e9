/- YtplehleekabbaaaGreatDoorVZ: a text of the proof of this claim, by its prover. -/
import Derived.Test.YtplehleekabbaaaGreatDoorVY
import Derived.SizedLaws
set_option linter.unusedVariables false
set_option linter.unusedSimpArgs false
namespace Go.Proofs.Vale
theorem slice_len {H:Type} {enc:TypeId × Value→H} {P:Program} {W:World} {base:Nat} {sp:Nat→Bool} {t e:TypeId} {a:Option Addr} {n cap:Nat} {d:DataW H} {p:List MemPlace} (hu:P.underlying t=some (.slice e)) (h:DataW.Trod enc P W base sp true t (.slice a n cap) d p):n=0∨∃ elems spare,d=.slice elems spare∧elems.length=n:=by
 obtain ⟨m,hm⟩:=h
 cases m with
 | zero=>cases hm
 | succ m =>
  simp only [Value.cells,DataW.trod,hu] at hm
  cases a with
  | none =>
   by_cases q:n=0
   ·exact .inl q
   ·exfalso
    rcases n with _ | n
    ·exact q rfl
    ·simp at hm
  | some a =>
   right
   simp only at hm
   split at hm
   ·rw [Option.bind_eq_some_iff] at hm
    obtain ⟨elems,h1,h2⟩:=hm
    rw [Option.map_eq_some_iff] at h2
    obtain ⟨rest,h3,h4⟩:=h2
    injection h4 with h4 h5
    refine ⟨_,_,h4.symm, ?_⟩
    have:=(mapM_get _ _ _ h1).1
    simp at this ⊢
    exact this
   ·cases hm
end Go.Proofs.Vale
