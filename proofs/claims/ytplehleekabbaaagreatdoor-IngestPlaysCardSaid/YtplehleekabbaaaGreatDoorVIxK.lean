/- YtplehleekabbaaaGreatDoorVIxK: a text of the proof of this claim, by its prover. -/
import Derived.Test.YtplehleekabbaaaGreatDoorVIngX
import Derived.Test.YtplehleekabbaaaGreatDoorVIxJ
set_option linter.unusedVariables false
set_option maxRecDepth 100000
namespace Go.Proofs.YtplehleekabbaaaGreatDoor
open Go.ChangeShapes Go.WideShapes Go.ChangeAt Go.RowKit Go.Proofs.Vale
theorem hasC_evs31 {n:Nat} {xs:List AV} (h:HasC Tryz.prog n 31 xs):∃ l:List Ev,xs=[.fz false (evs l)]∧l.length≤9223372036854775807∧∀ e∈l,e.2.1.length≤9223372036854775807:=by
 obtain ⟨l,m,rfl,hl,hx⟩:=HasC_slice Tryz.underlying31 (by rw [show Tryz.prog.cellsOf 29=3 by kernel_rfl]; simp) (by kernel_rfl) h
 obtain ⟨zs,rfl,hz⟩:=list_of (f:=eventA) (Q:=fun e:Ev=>e.2.1.length≤9223372036854775807) l (fun y hy=>by
  obtain ⟨ys,h1,-,h3,-⟩:=hx y hy
  rw [show isAgB Tryz.prog 29=true by kernel_rfl] at h1
  obtain ⟨t,d,ms,ha,-,hd,-⟩:=hasC_ev29 h3
  exact ⟨(t,d,ms),by rw [h1,ha]; rfl,hd⟩)
 have e:maxLen≤9223372036854775807:=by decide
 exact ⟨zs,rfl,by rw [List.length_map] at hl; omega,hz⟩
end Go.Proofs.YtplehleekabbaaaGreatDoor
