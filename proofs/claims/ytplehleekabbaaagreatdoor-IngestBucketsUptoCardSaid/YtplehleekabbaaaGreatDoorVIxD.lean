/- YtplehleekabbaaaGreatDoorVIxD: a text of the proof of this claim, by its prover. -/
import Derived.Test.YtplehleekabbaaaGreatDoorVIxB
import Derived.Test.YtplehleekabbaaaGreatDoorVFoB
import Derived.Test.YtplehleekabbaaaGreatDoorVTr
open Nat renaming reduceMul → uA, reduceLT → uB, reduceLeDiff → uC, reduceEqDiff → uD, reduceBEq → uE, lt_irrefl → uQ
open Int renaming toNat_natCast → uF, reduceToNat → uG, reduceNeg → uH, reduceLT → uI, reduceLE → uJ, reduceBEq → uK, reduceBNe → uL
open Bool renaming false_eq_true → uO
set_option linter.unusedVariables false
set_option linter.unusedSimpArgs false
set_option maxHeartbeats 4000000
set_option maxRecDepth 100000
namespace Go.Proofs.Vale
open Go.Proofs Go.Proofs.YtplehleekabbaaaGreatDoorT
attribute [local irreducible] acode aopsL aopsT dopsL dopsT pop popG aop ALoop ADraw ACall AWP AFin acondT ALoopT ADrawT ACallT doP doG doGd frL frT frX
theorem icount_ok (d m : List Str) (g n : Int) (xt mt : Nat) (H0 : List AObj) (hx : H0[xt]? = some (ixO d m g mt n)) :
  ACall Tryz.prog 19 [.ref xt 0 5 0 0] H0 (fun r H'=>r=.int .i64 n∧H'=H0):=by
 simp only [ixO] at hx
 (refine ACall.of_code Tryz.func19 rfl ?_; simp only [Tryz.f19]; simp only [go_sem,uA,uB,uC,uD,uE,uF,uG,uH,uI,uJ,uK,uL,uM,uN,uO,uP,uQ])
 simp only [go_sem,hx,uA,uB,uC,uD,uE,uF,uG,uH,uI,uJ,uK,uL,uM,uN,uO,uP,uQ]
 exact Fin_plain ⟨rfl,rfl⟩
theorem rgr_ok (g:Int) (h:List AObj):ACall Tryz.prog 46 [.int .i64 g] h (fun r _=>r=.bool (gr g)):=by
 (refine ACall.of_code Tryz.func46 rfl ?_; simp only [Tryz.f46]; simp only [go_sem,uA,uB,uC,uD,uE,uF,uG,uH,uI,uJ,uK,uL,uM,uN,uO,uP,uQ])
 exact Fin_plain rfl
theorem rfit_ok (t g:Int) (h:List AObj):ACall Tryz.prog 88 [.int .i64 t,.int .i64 g] h (fun r _=>r=.bool (gr g && ft t)):=by
 (refine ACall.of_code Tryz.func88 rfl ?_; simp only [Tryz.f88]; simp only [go_sem,uA,uB,uC,uD,uE,uF,uG,uH,uI,uJ,uK,uL,uM,uN,uO,uP,uQ])
 refine ACallT.frame (rgr_ok g _) ?_
 rintro _ _ rfl
 refine ⟨rfl, ?_⟩
 cases hg:gr g with
 | true =>
  simp only [go_sem,uA,uB,uC,uD,uE,uF,uG,uH,uI,uJ,uK,uL,uM,uN,uO,uP,uQ]
  refine Fin_plain ?_
  simp [ft]
  try (by_cases a:(-1099511627776:Int)≤t <;> by_cases b:t≤1099511627776 <;> simp [a,b])
 | false =>
  simp only [go_sem,uA,uB,uC,uD,uE,uF,uG,uH,uI,uJ,uK,uL,uM,uN,uO,uP,uQ]
  exact Fin_plain rfl
theorem rfloor_ok (t g:Int) (h:List AObj) (h0:0≤t) (h1:t≤1099511627776) (hg:gr g=true):ACall Tryz.prog 52 [.int .i64 t,.int .i64 g] h (fun r _=>r=.tup [.int .i64 (t - t % g),.int .i64 0]):=by
 have hg2:=(gr_iff g).1 hg
 have hf:ft t=true:=(ft_iff t).2 ⟨by omega,by omega⟩
 have a1:=Int.emod_nonneg t (show g≠0 by omega)
 have a2:=Int.emod_lt_of_pos t (show 0 < g by omega)
 have a3:g * (t / g)+t % g=t:=Int.mul_ediv_add_emod t g
 have a4:t.tdiv g=t / g:=Int.tdiv_eq_ediv_of_nonneg h0
 have a5:0≤t / g:=Int.ediv_nonneg h0 (by omega)
 have a6:t / g≤t:=Int.ediv_le_self _ h0
 have a7:(t / g) * g=t - t % g:=by rw [Int.mul_comm]; omega
 have w1:IntKind.i64.wrap (t.tdiv g)=t / g:=by rw [a4,wrap_id (by omega) (by omega)]
 have w2:IntKind.i64.wrap ((t / g) * g)=t - t % g:=by rw [a7,wrap_id (by omega) (by omega)]
 have hc:decide (t < t - t % g)=false:=decide_eq_false (by omega)
 (refine ACall.of_code Tryz.func52 rfl ?_; simp only [Tryz.f52]; simp only [go_sem,uA,uB,uC,uD,uE,uF,uG,uH,uI,uJ,uK,uL,uM,uN,uO,uP,uQ])
 refine ACallT.frame (rfit_ok t g _) ?_
 rintro _ _ rfl
 refine ⟨rfl, ?_⟩
 rw [hg,hf]
 simp only [go_sem,w1,w2,hc,uA,uB,uC,uD,uE,uF,uG,uH,uI,uJ,uK,uL,uM,uN,uO,uP,uQ]
 refine ⟨by omega, ?_⟩
 exact Fin_plain rfl
end Go.Proofs.Vale
namespace Go.Proofs.Vale
open Go.Proofs Go.Proofs.YtplehleekabbaaaGreatDoorT
attribute [local irreducible] acode aopsL aopsT dopsL dopsT pop popG aop ALoop ADraw ACall AWP AFin acondT ALoopT ADrawT ACallT doP doG doGd frL frT frX
def raddK (d m:List Str) (g:Int) (Lm:List Rw) (e:Ev):Int :=
 bif checkS d m e.1 e.2.1 e.2.2 != 0 then checkS d m e.1 e.2.1 e.2.2 else (foldF (Lm++[ixRow g e])).1
def raddL (d m:List Str) (g:Int) (Lm:List Rw) (e:Ev):List Rw :=
 bif raddK d m g Lm e != 0 then Lm else (foldF (Lm++[ixRow g e])).2
end Go.Proofs.Vale
