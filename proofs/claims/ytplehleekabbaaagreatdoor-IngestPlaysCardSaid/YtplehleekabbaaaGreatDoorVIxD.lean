/- YtplehleekabbaaaGreatDoorVIxD: a text of the proof of this claim, by its prover. -/
import Derived.Test.YtplehleekabbaaaGreatDoorVIxB
import Derived.Test.YtplehleekabbaaaGreatDoorVFoB
import Derived.Test.YtplehleekabbaaaGreatDoorVTr
open Nat renaming reduceMul → uA, reduceLT → uB, reduceLeDiff → uC, reduceEqDiff → uD, reduceBEq → uE, lt_irrefl → uQ
open Int renaming toNat_natCast → uF, reduceToNat → uG, reduceNeg → uH, reduceLT → uI, reduceLE → uJ, reduceBEq → uK, reduceBNe → uL
open Bool renaming false_eq_true → uO
set_option linter.unusedVariables false
set_option linter.unusedSimpArgs false
set_option maxHeartbeats 4000000
set_option maxRecDepth 100000
namespace Go.Proofs.Vale
open Go.Proofs Go.Proofs.YtplehleekabbaaaGreatDoorT
attribute [local irreducible] acode aopsL aopsT dopsL dopsT pop popG aop ALoop ADraw ACall AWP AFin acondT ALoopT ADrawT ACallT doP doG doGd frL frT frX
theorem ilen_ok (R : List Rw) (d m : List Str) (g n : Int) (xt mt : Nat) (H0 : List AObj) (hx : H0[xt]? = some (ixO d m g mt n)) (hm : H0[mt]? = some (.map (entR keyT R))) :
  ACall Tryz.prog 23 [.ref xt 0 5 0 0] H0 (fun r H'=>r=.int .i64 R.length∧H'=H0):=by
 simp only [ixO] at hx
 (refine ACall.of_code Tryz.func23 rfl ?_; simp only [Tryz.f23]; simp only [go_sem,uA,uB,uC,uD,uE,uF,uG,uH,uI,uJ,uK,uL,uM,uN,uO,uP,uQ])
 simp only [go_sem,hx,hm,ent_len,uA,uB,uC,uD,uE,uF,uG,uH,uI,uJ,uK,uL,uM,uN,uO,uP,uQ]
 exact Fin_plain ⟨rfl,rfl⟩
theorem icount_ok (d m : List Str) (g n : Int) (xt mt : Nat) (H0 : List AObj) (hx : H0[xt]? = some (ixO d m g mt n)) :
  ACall Tryz.prog 19 [.ref xt 0 5 0 0] H0 (fun r H'=>r=.int .i64 n∧H'=H0):=by
 simp only [ixO] at hx
 (refine ACall.of_code Tryz.func19 rfl ?_; simp only [Tryz.f19]; simp only [go_sem,uA,uB,uC,uD,uE,uF,uG,uH,uI,uJ,uK,uL,uM,uN,uO,uP,uQ])
 simp only [go_sem,hx,uA,uB,uC,uD,uE,uF,uG,uH,uI,uJ,uK,uL,uM,uN,uO,uP,uQ]
 exact Fin_plain ⟨rfl,rfl⟩
theorem rgr_ok (g:Int) (h:List AObj):ACall Tryz.prog 46 [.int .i64 g] h (fun r _=>r=.bool (gr g)):=by
 (refine ACall.of_code Tryz.func46 rfl ?_; simp only [Tryz.f46]; simp only [go_sem,uA,uB,uC,uD,uE,uF,uG,uH,uI,uJ,uK,uL,uM,uN,uO,uP,uQ])
 exact Fin_plain rfl
theorem rfit_ok (t g:Int) (h:List AObj):ACall Tryz.prog 88 [.int .i64 t,.int .i64 g] h (fun r _=>r=.bool (gr g && ft t)):=by
 (refine ACall.of_code Tryz.func88 rfl ?_; simp only [Tryz.f88]; simp only [go_sem,uA,uB,uC,uD,uE,uF,uG,uH,uI,uJ,uK,uL,uM,uN,uO,uP,uQ])
 refine ACallT.frame (rgr_ok g _) ?_
 rintro _ _ rfl
 refine ⟨rfl, ?_⟩
 cases hg:gr g with
 | true =>
  simp only [go_sem,uA,uB,uC,uD,uE,uF,uG,uH,uI,uJ,uK,uL,uM,uN,uO,uP,uQ]
  refine Fin_plain ?_
  simp [ft]
  try (by_cases a:(-1099511627776:Int)≤t <;> by_cases b:t≤1099511627776 <;> simp [a,b])
 | false =>
  simp only [go_sem,uA,uB,uC,uD,uE,uF,uG,uH,uI,uJ,uK,uL,uM,uN,uO,uP,uQ]
  exact Fin_plain rfl
theorem rfloor_ok (t g:Int) (h:List AObj) (h0:0≤t) (h1:t≤1099511627776) (hg:gr g=true):ACall Tryz.prog 52 [.int .i64 t,.int .i64 g] h (fun r _=>r=.tup [.int .i64 (t - t % g),.int .i64 0]):=by
 have hg2:=(gr_iff g).1 hg
 have hf:ft t=true:=(ft_iff t).2 ⟨by omega,by omega⟩
 have a1:=Int.emod_nonneg t (show g≠0 by omega)
 have a2:=Int.emod_lt_of_pos t (show 0 < g by omega)
 have a3:g * (t / g)+t % g=t:=Int.mul_ediv_add_emod t g
 have a4:t.tdiv g=t / g:=Int.tdiv_eq_ediv_of_nonneg h0
 have a5:0≤t / g:=Int.ediv_nonneg h0 (by omega)
 have a6:t / g≤t:=Int.ediv_le_self _ h0
 have a7:(t / g) * g=t - t % g:=by rw [Int.mul_comm]; omega
 have w1:IntKind.i64.wrap (t.tdiv g)=t / g:=by rw [a4,wrap_id (by omega) (by omega)]
 have w2:IntKind.i64.wrap ((t / g) * g)=t - t % g:=by rw [a7,wrap_id (by omega) (by omega)]
 have hc:decide (t < t - t % g)=false:=decide_eq_false (by omega)
 (refine ACall.of_code Tryz.func52 rfl ?_; simp only [Tryz.f52]; simp only [go_sem,uA,uB,uC,uD,uE,uF,uG,uH,uI,uJ,uK,uL,uM,uN,uO,uP,uQ])
 refine ACallT.frame (rfit_ok t g _) ?_
 rintro _ _ rfl
 refine ⟨rfl, ?_⟩
 rw [hg,hf]
 simp only [go_sem,w1,w2,hc,uA,uB,uC,uD,uE,uF,uG,uH,uI,uJ,uK,uL,uM,uN,uO,uP,uQ]
 refine ⟨by omega, ?_⟩
 exact Fin_plain rfl
def rixO (c1 c2 c:Bool) (d m:List Str) (g:Int) (Lm:List Rw):AObj:=.arr 0 4 [.agg [.fz c1 (strs d),.fz c2 (strs m),.int .i64 g,.fz c (rowsA Lm)]]
theorem rnew_ok (c1 c2:Bool) (d m:List Str) (g:Int) (h:List AObj) (hd:d.length+m.length≤8796093022000) (hL:∀ s∈d++m,s.length≤9223372036854775807) (hr:rightS d m=true) (hg:gr g=true):ACall Tryz.prog 20 [schA c1 c2 d m,.int .i64 g] h (fun r h'=>r=.tup [.ref (h.length+1) 0 4 0 0,.int .i64 0]∧h'=h++[.arr 0 2 [schA c1 c2 d m],rixO c1 c2 true d m g []]):=by
 have hright:=rright_ok c1 c2 d m
 simp only [schA] at hright ⊢
 (refine ACall.of_code Tryz.func20 rfl ?_; simp only [Tryz.f20]; simp only [go_sem,uA,uB,uC,uD,uE,uF,uG,uH,uI,uJ,uK,uL,uM,uN,uO,uP,uQ])
 refine ACallT.frame (hright _ hd hL) ?_
 rintro _ _ rfl
 refine ⟨rfl, ?_⟩
 rw [hr]
 simp only [go_sem,uA,uB,uC,uD,uE,uF,uG,uH,uI,uJ,uK,uL,uM,uN,uO,uP,uQ]
 refine ACallT.frame (rgr_ok g _) ?_
 rintro _ _ rfl
 refine ⟨rfl, ?_⟩
 rw [hg]
 simp only [go_sem,uA,uB,uC,uD,uE,uF,uG,uH,uI,uJ,uK,uL,uM,uN,uO,uP,uQ]
 exact Fin_plain ⟨rfl,rfl⟩
end Go.Proofs.Vale
namespace Go.Proofs.Vale
open Go.Proofs Go.Proofs.YtplehleekabbaaaGreatDoorT
attribute [local irreducible] acode aopsL aopsT dopsL dopsT pop popG aop ALoop ADraw ACall AWP AFin acondT ALoopT ADrawT ACallT doP doG doGd frL frT frX
def raddK (d m:List Str) (g:Int) (Lm:List Rw) (e:Ev):Int :=
 bif checkS d m e.1 e.2.1 e.2.2 != 0 then checkS d m e.1 e.2.1 e.2.2 else (foldF (Lm++[ixRow g e])).1
def raddL (d m:List Str) (g:Int) (Lm:List Rw) (e:Ev):List Rw :=
 bif raddK d m g Lm e != 0 then Lm else (foldF (Lm++[ixRow g e])).2
theorem radd_ok (Lm : List Rw) (c1 c2 c : Bool) (d m : List Str) (g : Int) (e : Ev) (xt : Nat) (H0 : List AObj) (hn : Lm.length ≤ 1000) (hd : d.length ≤ 1000) (he1 : e.2.1.length ≤ 1000) (he2 : e.2.2.length ≤ 1000) (hv : ∀ s ∈ e.2.1, s.length ≤ 1000) (hg : gr g = true) (hR : ∀ r ∈ Lm, RowI d m r) (hm2 : m.length ≤ 1000) (hx : H0[xt]? = some (rixO c1 c2 c d m g Lm)) :
  ACall Tryz.prog 22 [.ref xt 0 4 0 0,eventA e] H0 (fun r H'=>r=.int .i64 (raddK d m g Lm e)∧(∀ i,i < H0.length→i≠xt→H'[i]? = H0[i]?)∧H0.length≤H'.length∧H'[xt]? = some (rixO c1 c2 (bif raddK d m g Lm e != 0 then c else false) d m g (raddL d m g Lm e))):=by
 have hxl:xt < H0.length:=(List.getElem?_eq_some_iff.1 hx).1
 simp only [rixO] at hx
 have hx':∀ x,(H0++x)[xt]? = _:=fun x=>(List.getElem?_append_left hxl).trans hx
 have hof:=rrof_ok c1 c2 false false d m e.2.1 e.1 e.2.2
 simp only [evA',schA] at hof
 simp only [eventA]
 (refine ACall.of_code Tryz.func22 rfl ?_; simp only [Tryz.f22]; simp only [go_sem,uA,uB,uC,uD,uE,uF,uG,uH,uI,uJ,uK,uL,uM,uN,uO,uP,uQ])
 (refine ADrawT.walk [[0],[0],[0],[0],[0],[0,6,10],[6,10],[6,10],[6,10,11],[0,6,10],[10,11],[11]] mixedOrdersD (by kernel_rfl) (by kernel_rfl) ?_; simp only [go_sem,uA,uB,uC,uD,uE,uF,uG,uH,uI,uJ,uK,uL,uM,uN,uO,uP,uQ])
 simp only [go_sem,hx',uA,uB,uC,uD,uE,uF,uG,uH,uI,uJ,uK,uL,uM,uN,uO,uP,uQ]
 have hchk:=@check_0 d m e
 have hrow:=@rowI_new d m e g hg
 generalize hk:checkS d m e.1 e.2.1 e.2.2=k at *
 refine frX_same (.tup [rowA (ofR k e.1 e.2.1 e.2.2),.int .i64 k]) ?_ ?_
 ·simp only [go_sem,uA,uB,uC,uD,uE,uF,uG,uH,uI,uJ,uK,uL,uM,uN,uO,uP,uQ]
  exact ACallT.frame (hof _ (by omega) (by omega) (fun s hs=>by have:=hv s hs; omega)) fun _ _ q=>by rw [q]; exact ⟨by simp [AV.low,lowL,low_row],rfl,rfl⟩
 by_cases hk0:k=0
 ·subst hk0
  have hof0:ofR 0 e.1 e.2.1 e.2.2=(e.1,e.2.1,1,onesG e.2.2):=rfl
  rw [hof0]
  simp only [rowA]
  simp only [go_sem,hx',uA,uB,uC,uD,uE,uF,uG,uH,uI,uJ,uK,uL,uM,uN,uO,uP,uQ]
  refine ⟨by simp [fmem,Agree,hx'], ?_⟩
  obtain ⟨q1,q2,q3,q4,q5⟩:=hchk rfl
  have hrw:=hrow rfl
  (refine ADrawT.walk [[0],[0],[0],[0],[0],[0],[0,7],[7],[7],[7],[7],[7]] mixedOrdersD (by kernel_rfl) (by kernel_rfl) ?_; simp only [go_sem,uA,uB,uC,uD,uE,uF,uG,uH,uI,uJ,uK,uL,uM,uN,uO,uP,uQ])
  simp only [go_sem,hx',uA,uB,uC,uD,uE,uF,uG,uH,uI,uJ,uK,uL,uM,uN,uO,uP,uQ]
  refine frX_same (.tup [.int .i64 (e.1 - e.1 % g),.int .i64 0]) ?_ ?_
  ·simp only [go_sem,uA,uB,uC,uD,uE,uF,uG,uH,uI,uJ,uK,uL,uM,uN,uO,uP,uQ]
   exact ACallT.frame (rfloor_ok e.1 g _ (by omega) (by omega) hg) fun _ _ q=>by rw [q]; exact ⟨rfl,rfl,rfl⟩
  simp only [go_sem,hx',uA,uB,uC,uD,uE,uF,uG,uH,uI,uJ,uK,uL,uM,uN,uO,uP,uQ]
  refine ⟨by simp [fmem,Agree,hx'], ?_⟩
  (refine ADrawT.walk2 [[0,1],[0,1],[0,1],[0,1],[0,1],[1,6,8],[0,1,6],[0,1,6,8],[8,9],[9,10],[10],[10],[10],[10],[10]] mixedOrdersD (by kernel_rfl) (by kernel_rfl) ?_; simp only [go_sem,uA,uB,uC,uD,uE,uF,uG,uH,uI,uJ,uK,uL,uM,uN,uO,uP,uQ])
  simp only [go_sem,hx',uA,uB,uC,uD,uE,uF,uG,uH,uI,uJ,uK,uL,uM,uN,uO,uP,uQ]
  have hallL:(rowsA Lm).all (okEl 4)=true:=by have:=rows_okEl2 Lm 0; rwa [List.drop_zero] at this
  refine ⟨⟨by omega,by omega,hallL⟩,⟨by omega,by omega⟩, ?_⟩
  have hFL:∀ r∈Lm++[ixRow g e],FoOk d.length m.length r:=by
   intro r hr
   rcases List.mem_append.1 hr with q | q
   ·exact ⟨(hR r q).1,(hR r q).2.2.1⟩
   ·rw [List.mem_singleton.1 q]; exact ⟨hrw.1,hrw.2.2.1⟩
  have hfo:=fun M (h:M[H0.length+2]? = some (.arr 2 4 (rowsA (Lm++[ixRow g e]))))=>rfold_fz (Lm++[ixRow g e]) d.length m.length (H0.length+2) 2 M (by simp; omega) hd hm2 hFL h
  rw [show (Lm++[ixRow g e]).length=Lm.length+1 by simp] at hfo
  have hA:raddK d m g Lm e=(foldF (Lm++[ixRow g e])).1:=by unfold raddK; rw [hk]; rfl
  have hL:raddL d m g Lm e=bif (foldF (Lm++[ixRow g e])).1 != 0 then Lm else (foldF (Lm++[ixRow g e])).2:=by unfold raddL; rw [hA]
  have hrA:rowsA (Lm++[ixRow g e])=rowsA Lm++[rowA (ixRow g e)]:=by simp [rowsA]
  rw [hA,hL]
  simp only [hrA] at hfo
  generalize foldF (Lm++[ixRow g e])=F at *
  refine frX_ext (.tup [.fz false (rowsA F.2),.int .i64 F.1]) (List.replicate (4 * (Lm.length+1)) .dead) ?_ ?_
  ·simp only [go_sem,uA,uB,uC,uD,uE,uF,uG,uH,uI,uJ,uK,uL,uM,uN,uO,uP,uQ]
   refine ACallT.by (hfo _ ?_) fun _ _ q=>q
   rw [List.getElem?_append_right (by omega),show H0.length+2 - H0.length=2 by omega]; rfl
  simp only [go_sem,hx',uA,uB,uC,uD,uE,uF,uG,uH,uI,uJ,uK,uL,uM,uN,uO,uP,uQ]
  have ht5:∀ (a b:AObj) (x:List AObj),(H0++a::b::x)[H0.length+1]? = some b:=fun a b x=>by
   rw [List.getElem?_append_right (by omega),show H0.length+1 - H0.length=1 by omega]; rfl
  refine ⟨by simp [fmem,Agree,hx',ht5], ?_⟩
  refine acond_intro (fun hc=>?_) (fun hc=>?_)
  ·simp only [go_sem,uA,uB,uC,uD,uE,uF,uG,uH,uI,uJ,uK,uL,uM,uN,uO,uP,uQ]
   rw [hc]
   refine Fin_plain ⟨rfl,fun i hi _=>List.getElem?_append_left hi,by simp, ?_⟩
   exact hx' _
  ·simp only [go_sem,hx',uA,uB,uC,uD,uE,uF,uG,uH,uI,uJ,uK,uL,uM,uN,uO,uP,uQ]
   rw [hc]
   have h00:F.1=0:=by simpa using hc
   refine Fin_plain ⟨by rw [h00],fun i hi h1=>?_,by simp, ?_⟩
   ·rw [List.getElem?_set_ne (fun q=>h1 q.symm),List.getElem?_append_left hi]
   ·exact List.getElem?_set_self (by simp; omega)
 ·have hkd:(k != 0)=true:=by simpa using hk0
  rw [ofR_err _ _ _ hk0]
  simp only [rowA,zeroR]
  simp only [go_sem,hx',uA,uB,uC,uD,uE,uF,uG,uH,uI,uJ,uK,uL,uM,uN,uO,uP,uQ]
  refine ⟨by simp [fmem,Agree,hx'], ?_⟩
  simp only [go_sem,hkd,uA,uB,uC,uD,uE,uF,uG,uH,uI,uJ,uK,uL,uM,uN,uO,uP,uQ]
  have hA:raddK d m g Lm e=k:=by unfold raddK; rw [hk,hkd]; rfl
  have hL:raddL d m g Lm e=Lm:=by unfold raddL; rw [hA,hkd]; rfl
  rw [hA,hL,hkd]
  refine Fin_plain ⟨rfl,fun i hi _=>List.getElem?_append_left hi,by simp,hx' _⟩
end Go.Proofs.Vale
