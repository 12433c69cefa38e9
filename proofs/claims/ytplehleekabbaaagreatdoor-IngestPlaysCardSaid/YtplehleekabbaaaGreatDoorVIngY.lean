/- YtplehleekabbaaaGreatDoorVIngY: a text of the proof of this claim, by its prover. -/
import Derived.Test.YtplehleekabbaaaGreatDoorVIngA
import Derived.Test.YtplehleekabbaaaGreatDoorVZ
import Derived.Test.YtplehleekabbaaaGreatDoorRows
import Derived.WalkKit
import Derived.ProofKit
import Derived.OpenShut
import Derived.ShutString
import Derived.ChangeOld
import Derived.Below
import Derived.SizedLaws
import Derived.LaidLaws
import Derived.Lib.LaidU8
import Derived.Stop.LaidErr
import Derived.Handed
set_option linter.unusedVariables false
set_option maxRecDepth 100000
namespace Go.Proofs.YtplehleekabbaaaGreatDoor
open Go.ChangeShapes Go.WideShapes Go.ChangeAt Go.RowKit Go.Proofs.Vale
theorem own:ownKnob Tryz.prog.godebug=none:=by kernel_rfl
theorem laidOut:laidOutB Tryz.prog=true:=by kernel_rfl
def litV:DataW Unit→Value
 | .lit (.int k n)=>.int k n
 | _=>.nilIface
def rowV:DataW Unit→Array Value
 | .agg l=>(l.flatMap fun d=>match d with
  | .agg m=>m.map litV
  | d=>[litV d]).toArray
 | _=>#[]
noncomputable def laidWorld (os:Os):World :=
 let N:=(World.settled Tryz.prog os).heap.size
 let w0:=World.holding Tryz.prog os ⟨#[.cells (Lib.whiteT.map fun (z:Nat)=>Value.int .u16 (z:Int)).toArray 207,.cells #[.slice (some ⟨N,0,none⟩) 7 7,.slice none 0 0,.int .i64 2] 204],#[],[]⟩
 let put (h:Array Obj) (g:Nat) (cs:Array Value):Array Obj:=h.modify g fun
  | .cells _ t frozen=>.cells cs t frozen
  | o=>o
 let h1:=put w0.heap 4 (rowV Rows.laid_math_bits_deBruijn32tab)
 let h2:=put h1 5 (rowV Rows.laid_math_bits_deBruijn64tab)
 let h3:=put h2 2 (rowV Rows.laid_internal_strconv_uint64pow10)
 let h4:=put h3 1 #[.pointer (some ⟨N+1,0,none⟩)]
 let h5:=put h4 0 (rowV Rows.laid_strings_asciiSpace)
 { w0 with heap:=h5 }
def codeM:MemPlace→Nat
 | .cell b o=>(b * 1024+o) * 2
 | .map b=>b * 2+1
def ndB:List Nat→PT→Bool
 | [],_=>true
 | k::l,t=>(match t.get k with | none=>Nat.blt k 16777000 | some _=>false) && ndB l (t.set .dead 24 k)
theorem ndB_ok:∀ {l:List Nat} {t:PT},ndB l t=true→l.Pairwise (·≠·)∧∀ k∈l,t.get k=none
 | [],t,_=>⟨.nil,fun k h=>by cases h⟩
 | k::l,t,h=>by
  rw [ndB,Bool.and_eq_true] at h
  obtain ⟨h1,h2⟩:=h
  obtain ⟨i1,i2⟩:=ndB_ok h2
  split at h1
  ·rename_i e
   have hk:=blt_iff.1 h1
   have key:∀ j∈l,j≠k∧t.get j=none:=by
    intro j hj
    have:=i2 j hj
    rw [PT.get_set .dead 24 t k j (by simp; omega)] at this
    split at this
    ·cases this
    ·rename_i q; exact ⟨q,this⟩
   exact ⟨List.pairwise_cons.2 ⟨fun j hj q=>(key j hj).1 q.symm,i1⟩,fun j hj=>by
    rcases List.mem_cons.1 hj with rfl | hj
    ·exact e
    ·exact (key j hj).2⟩
  ·cases h1
theorem laidMet_by {P : Program} {w : World} {l : List (String × DataW Unit)} (fuel : Nat) (h : (DataW.laidRun P w fuel (l.map (·.1))).map (·.1) = some l)
  (hn:(DataW.laidRun P w fuel (l.map (·.1))).map (fun x=>ndB (x.2.map codeM) .leaf)=some true) (hr:(DataW.laidRun P w fuel (l.map (·.1))).map (fun x=>laidRowsB P w x.2)=some true):laidMet P l w:=by
 cases hx:DataW.laidRun P w fuel (l.map (·.1)) with
 | none=>simp [hx] at h
 | some x =>
  obtain ⟨l',ps⟩:=x
  simp only [hx,Option.map_some,Option.some.injEq] at h hn hr
  subst h
  refine laidMet_of_run fuel hx (decide_eq_true ?_) hr
  exact List.Pairwise.of_map codeM (fun a b q e=>q (congrArg codeM e)) (ndB_ok hn).1
theorem laid1 (os:Os) (args:Array Value):(DataW.laidRun Tryz.prog ((laidWorld os).forCall (fun _ _=>0) ⟨#[],args,[]⟩).memory 10 (Rows.ingestNilRow.laid.map (·.1))).map (·.1)=some Rows.ingestNilRow.laid:=by kernel_rfl
theorem laid2 (os:Os) (args:Array Value):(DataW.laidRun Tryz.prog ((laidWorld os).forCall (fun _ _=>0) ⟨#[],args,[]⟩).memory 10 (Rows.ingestNilRow.laid.map (·.1))).map (fun x=>ndB (x.2.map codeM) .leaf)=some true:=by kernel_rfl
theorem laid3 (os:Os) (args:Array Value):(DataW.laidRun Tryz.prog ((laidWorld os).forCall (fun _ _=>0) ⟨#[],args,[]⟩).memory 10 (Rows.ingestNilRow.laid.map (·.1))).map (fun x=>laidRowsB Tryz.prog ((laidWorld os).forCall (fun _ _=>0) ⟨#[],args,[]⟩).memory x.2)=some true:=by kernel_rfl
theorem laid_met (os:Os) (args:Array Value):laidMetH Tryz.prog Rows.ingestNilRow.laid ((laidWorld os).forCall (fun _ _=>0) ⟨#[],args,[]⟩).memory :=
 laidMet_by (P:=Tryz.prog) (l:=Rows.ingestNilRow.laid) 10 (laid1 os args) (laid2 os args) (laid3 os args)
theorem shaped (os:Os) (args:Array Value):((laidWorld os).forCall (fun _ _=>0) ⟨#[],args,[]⟩).Shaped Tryz.prog :=
 World.shaped_of_RefB (by kernel_rfl) (by kernel_rfl)
end Go.Proofs.YtplehleekabbaaaGreatDoor
