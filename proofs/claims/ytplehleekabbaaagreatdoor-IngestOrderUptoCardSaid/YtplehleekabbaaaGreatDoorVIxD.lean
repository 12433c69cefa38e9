/- YtplehleekabbaaaGreatDoorVIxD: a text of the proof of this claim, by its prover. -/
import Derived.Test.YtplehleekabbaaaGreatDoorVIxB
import Derived.Test.YtplehleekabbaaaGreatDoorVFoB
import Derived.Test.YtplehleekabbaaaGreatDoorVPa
open Nat renaming reduceMul → uA, reduceLT → uB, reduceLeDiff → uC, reduceEqDiff → uD, reduceBEq → uE, lt_irrefl → uQ
open Int renaming toNat_natCast → uF, reduceToNat → uG, reduceNeg → uH, reduceLT → uI, reduceLE → uJ, reduceBEq → uK, reduceBNe → uL
open Bool renaming false_eq_true → uO
set_option linter.unusedVariables false
set_option linter.unusedSimpArgs false
set_option maxHeartbeats 4000000
set_option maxRecDepth 100000
namespace Go.Proofs.Vale
open Go.Proofs Go.Proofs.YtplehleekabbaaaGreatDoorT
attribute [local irreducible] acode aopsL aopsT dopsL dopsT pop popG aop ALoop ADraw ACall AWP AFin acondT ALoopT ADrawT ACallT doP doG doGd frL frT frX
theorem icount_ok (d m : List Str) (g n : Int) (xt mt : Nat) (H0 : List AObj) (hx : H0[xt]? = some (ixO d m g mt n)) :
  ACall Tryz.prog 19 [.ref xt 0 5 0 0] H0 (fun r H'=>r=.int .i64 n∧H'=H0):=by
 simp only [ixO] at hx
 (refine ACall.of_code Tryz.func19 rfl ?_; simp only [Tryz.f19]; simp only [go_sem,uA,uB,uC,uD,uE,uF,uG,uH,uI,uJ,uK,uL,uM,uN,uO,uP,uQ])
 simp only [go_sem,hx,uA,uB,uC,uD,uE,uF,uG,uH,uI,uJ,uK,uL,uM,uN,uO,uP,uQ]
 exact Fin_plain ⟨rfl,rfl⟩
end Go.Proofs.Vale
namespace Go.Proofs.Vale
open Go.Proofs Go.Proofs.YtplehleekabbaaaGreatDoorT
attribute [local irreducible] acode aopsL aopsT dopsL dopsT pop popG aop ALoop ADraw ACall AWP AFin acondT ALoopT ADrawT ACallT doP doG doGd frL frT frX
def raddK (d m:List Str) (g:Int) (Lm:List Rw) (e:Ev):Int :=
 bif checkS d m e.1 e.2.1 e.2.2 != 0 then checkS d m e.1 e.2.1 e.2.2 else (foldF (Lm++[ixRow g e])).1
def raddL (d m:List Str) (g:Int) (Lm:List Rw) (e:Ev):List Rw :=
 bif raddK d m g Lm e != 0 then Lm else (foldF (Lm++[ixRow g e])).2
end Go.Proofs.Vale
