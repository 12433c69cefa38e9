/- YtplehleekabbaaaGreatDoorVSrtH: a text of the proof of this claim, by its prover. -/
import Derived.Test.YtplehleekabbaaaGreatDoorVSrtD
open Nat renaming reduceMul → uA, reduceLT → uB, reduceLeDiff → uC, reduceEqDiff → uD, reduceBEq → uE, lt_irrefl → uQ
open Int renaming toNat_natCast → uF, reduceToNat → uG, reduceNeg → uH, reduceLT → uI, reduceLE → uJ, reduceBEq → uK, reduceBNe → uL
open Bool renaming false_eq_true → uO
set_option linter.unusedVariables false
set_option linter.unusedSimpArgs false
set_option maxHeartbeats 4000000
set_option maxRecDepth 100000
namespace Go.Proofs.Vale
open Go.Proofs Go.Proofs.YtplehleekabbaaaGreatDoorT
attribute [local irreducible] acode aopsL aopsT dopsL dopsT pop popG aop ALoop ADraw ACall AWP AFin acondT ALoopT ADrawT ACallT doP doG doGd frL frT frX
theorem order2_ok (L : List Rw) (t g q : Nat) (n : Int) (H : List AObj) (hok : ∀ (k : Nat) (h : k < L.length), RwOk L[k]) (a b : Nat) (ha : a < L.length) (hb : b < L.length) (ht : H[t]? = some (.arr g 4 (rowsA L))) (hq : H[q]? = some (.arr 0 1 [.int .i64 n])) :
  ACall Tryz.prog 176 [.sl t g 4 0 L.length,.int .i64 a,.int .i64 b,.ref q 0 1 0 0,cmpF] H (fun r H'=>∃ (x y:Nat) (m:Int),r=.tup [.int .i64 x,.int .i64 y]∧((x=a∧y=b)∨(x=b∧y=a))∧H'=H.set q (.arr 0 1 [.int .i64 m])):=by
 have f1:=rowsA_get L a ha
 have f2:=rowsA_get L b hb
 have p1:=hok a ha
 have p2:=hok b hb
 (refine ACall.of_code Tryz.func176 rfl ?_; simp only [Tryz.f176]; simp only [go_sem,uA,uB,uC,uD,uE,uF,uG,uH,uI,uJ,uK,uL,uM,uN,uO,uP,uQ])
 (refine ADrawT.mem [] mixedOrdersD (by kernel_rfl) (by kernel_rfl) ?_; simp only [go_sem,uA,uB,uC,uD,uE,uF,uG,uH,uI,uJ,uK,uL,uM,uN,uO,uP,uQ])
 simp only [go_sem,ht,f1,f2,uA,uB,uC,uD,uE,uF,uG,uH,uI,uJ,uK,uL,uM,uN,uO,uP,uQ]
 refine ⟨⟨by omega,by omega⟩,by omega,⟨by omega,by omega⟩,by omega, ?_⟩
 refine doX_intro (.int .i64 (cmpR L[b] L[a])) ⟨rfl,fun mm=>?_⟩ ?_
 ·simp only [go_sem,uA,uB,uC,uD,uE,uF,uG,uH,uI,uJ,uK,uL,uM,uN,uO,uP,uQ]
  refine ACallT.frame (cmpR_ok L[b] L[a] _ p2.1 p1.1) ?_
  rintro _ _ rfl
  exact ⟨rfl,rfl⟩
 simp only [go_sem,ht,f1,f2,uA,uB,uC,uD,uE,uF,uG,uH,uI,uJ,uK,uL,uM,uN,uO,uP,uQ]
 refine ⟨by simp [okAcc], ?_⟩
 refine acond_intro (fun hx=>?_) (fun hx=>?_)
 ·simp only [go_sem,hq,uA,uB,uC,uD,uE,uF,uG,uH,uI,uJ,uK,uL,uM,uN,uO,uP,uQ]
  refine Fin_plain ⟨b,a,_,rfl,.inr ⟨rfl,rfl⟩,rfl⟩
 ·simp only [go_sem,uA,uB,uC,uD,uE,uF,uG,uH,uI,uJ,uK,uL,uM,uN,uO,uP,uQ]
  refine Fin_plain ⟨a,b,n,rfl,.inl ⟨rfl,rfl⟩,(heap_same hq).symm⟩
theorem median_ok (L : List Rw) (t g q : Nat) (n : Int) (H : List AObj) (hok : ∀ (k : Nat) (h : k < L.length), RwOk L[k]) (a b c : Nat) (ha : a < L.length) (hb : b < L.length) (hc : c < L.length) (ht : H[t]? = some (.arr g 4 (rowsA L))) (hq : H[q]? = some (.arr 0 1 [.int .i64 n])) :
  ACall Tryz.prog 164 [.sl t g 4 0 L.length,.int .i64 a,.int .i64 b,.int .i64 c,.ref q 0 1 0 0,cmpF] H (fun r H'=>∃ (x:Nat) (m:Int),r=.int .i64 x∧(x=a∨x=b∨x=c)∧H'=H.set q (.arr 0 1 [.int .i64 m])):=by
 have hne:q≠t:=by rintro rfl; rw [hq] at ht; simp at ht
 have hql:=(List.getElem?_eq_some_iff.1 hq).1
 have ht':∀ v,(H.set q v)[t]? = some (.arr g 4 (rowsA L)):=fun v=>(List.getElem?_set_ne hne).trans ht
 have hq':∀ v:AObj,(H.set q v)[q]? = some v:=fun v=>List.getElem?_set_self hql
 (refine ACall.of_code Tryz.func164 rfl ?_; simp only [Tryz.f164]; simp only [go_sem,uA,uB,uC,uD,uE,uF,uG,uH,uI,uJ,uK,uL,uM,uN,uO,uP,uQ])
 refine ACallT.by (order2_ok L t g q n H hok a b ha hb ht hq) ?_
 rintro _ _ ⟨x1,y1,m1,rfl,h1,rfl⟩
 simp only [go_sem,uA,uB,uC,uD,uE,uF,uG,uH,uI,uJ,uK,uL,uM,uN,uO,uP,uQ]
 refine ACallT.by (order2_ok L t g q m1 _ hok y1 c (by omega) hc (ht' _) (hq' _)) ?_
 rintro _ _ ⟨x2,y2,m2,rfl,h2,rfl⟩
 simp only [go_sem,uA,uB,uC,uD,uE,uF,uG,uH,uI,uJ,uK,uL,uM,uN,uO,uP,uQ]
 refine ACallT.by (order2_ok L t g q m2 _ hok x1 x2 (by omega) (by omega) (by rw [List.set_set]; exact ht' _) (by rw [List.set_set]; exact hq' _)) ?_
 rintro _ _ ⟨x3,y3,m3,rfl,h3,rfl⟩
 simp only [go_sem,uA,uB,uC,uD,uE,uF,uG,uH,uI,uJ,uK,uL,uM,uN,uO,uP,uQ]
 exact Fin_plain ⟨y3,m3,rfl,by omega,by rw [List.set_set,List.set_set]⟩
theorem medAdj_ok (L : List Rw) (t g q : Nat) (n : Int) (H : List AObj) (hok : ∀ (k : Nat) (h : k < L.length), RwOk L[k]) (hn : L.length ≤ 1152921504606846976) (a : Nat) (h0 : 0 < a) (ha : a + 1 < L.length) (ht : H[t]? = some (.arr g 4 (rowsA L))) (hq : H[q]? = some (.arr 0 1 [.int .i64 n])) :
  ACall Tryz.prog 163 [.sl t g 4 0 L.length,.int .i64 a,.ref q 0 1 0 0,cmpF] H (fun r H'=>∃ (x:Nat) (m:Int),r=.int .i64 x∧(x=a - 1∨x=a∨x=a+1)∧H'=H.set q (.arr 0 1 [.int .i64 m])):=by
 have w1:IntKind.i64.wrap ((a:Int) - 1)=((a - 1:Nat):Int):=by rw [wrap_id (by omega) (by omega)]; omega
 have w2:IntKind.i64.wrap ((a:Int)+1)=((a+1:Nat):Int):=by rw [wrap_id (by omega) (by omega)]; omega
 (refine ACall.of_code Tryz.func163 rfl ?_; simp only [Tryz.f163]; simp only [go_sem,uA,uB,uC,uD,uE,uF,uG,uH,uI,uJ,uK,uL,uM,uN,uO,uP,uQ])
 simp only [w1,w2]
 refine ACallT.by (median_ok L t g q n H hok (a - 1) a (a+1) (by omega) (by omega) (by omega) ht hq) ?_
 rintro _ _ ⟨x,m,rfl,hx,rfl⟩
 simp only [go_sem,uA,uB,uC,uD,uE,uF,uG,uH,uI,uJ,uK,uL,uM,uN,uO,uP,uQ]
 exact Fin_plain ⟨x,m,rfl,hx,rfl⟩
end Go.Proofs.Vale
namespace Go.Proofs.Vale
open Go.Proofs Go.Proofs.YtplehleekabbaaaGreatDoorT
attribute [local irreducible] acode aopsL aopsT dopsL dopsT pop popG aop ALoop ADraw ACall AWP AFin acondT ALoopT ADrawT ACallT doP doG doGd frL frT frX
theorem chooseP_ok (L : List Rw) (t g : Nat) (H : List AObj) (hok : ∀ (k : Nat) (h : k < L.length), RwOk L[k]) (hn : L.length ≤ 1152921504606846976) (a l : Nat) (hl : 0 < l) (hal : a + l ≤ L.length) (ht : H[t]? = some (.arr g 4 (rowsA L))) :
  ACall Tryz.prog 136 [.sl t g 4 0 L.length,.int .i64 a,.int .i64 (a+l:Nat),cmpF] H (fun r H'=>∃ (x:Nat) (m:Int),r=.tup [.int .i64 x,.int .i64 m]∧a≤x∧x < a+l∧∀ i,i < H.length→H'[i]? = H[i]?):=by
 have htl:t < H.length:=(List.getElem?_eq_some_iff.1 ht).1
 have w0:IntKind.i64.wrap (((a+l:Nat):Int) - (a:Int))=(l:Int):=by rw [wrap_id (by omega) (by omega)]; omega
 have wq:IntKind.i64.wrap ((l:Int).tdiv 4)=((l / 4:Nat):Int):=by
  rw [show (l:Int).tdiv 4=((l / 4:Nat):Int) from rfl,wrap_id (by omega) (by omega)]
 have w1:IntKind.i64.wrap (((l / 4:Nat):Int) * 1)=((l / 4:Nat):Int):=by rw [wrap_id (by omega) (by omega)]; omega
 have w2:IntKind.i64.wrap (((l / 4:Nat):Int) * 2)=((l / 4 * 2:Nat):Int):=by rw [wrap_id (by omega) (by omega)]; omega
 have w3:IntKind.i64.wrap (((l / 4:Nat):Int) * 3)=((l / 4 * 3:Nat):Int):=by rw [wrap_id (by omega) (by omega)]; omega
 have v1:IntKind.i64.wrap ((a:Int)+((l / 4:Nat):Int))=((a+l / 4:Nat):Int):=by rw [wrap_id (by omega) (by omega)]; omega
 have v2:IntKind.i64.wrap ((a:Int)+((l / 4 * 2:Nat):Int))=((a+l / 4 * 2:Nat):Int):=by rw [wrap_id (by omega) (by omega)]; omega
 have v3:IntKind.i64.wrap ((a:Int)+((l / 4 * 3:Nat):Int))=((a+l / 4 * 3:Nat):Int):=by rw [wrap_id (by omega) (by omega)]; omega
 (refine ACall.of_code Tryz.func136 rfl ?_; simp only [Tryz.f136]; simp only [go_sem,uA,uB,uC,uD,uE,uF,uG,uH,uI,uJ,uK,uL,uM,uN,uO,uP,uQ])
 generalize e1:IntKind.i64.wrap ((a:Int)+IntKind.i64.wrap (IntKind.i64.wrap ((IntKind.i64.wrap (((a+l:Nat):Int) - (a:Int))).tdiv 4) * 1))=z1
 rw [w0,wq,w1,v1] at e1
 subst e1
 generalize e2:IntKind.i64.wrap ((a:Int)+IntKind.i64.wrap (IntKind.i64.wrap ((IntKind.i64.wrap (((a+l:Nat):Int) - (a:Int))).tdiv 4) * 2))=z2
 rw [w0,wq,w2,v2] at e2
 subst e2
 generalize e3:IntKind.i64.wrap ((a:Int)+IntKind.i64.wrap (IntKind.i64.wrap ((IntKind.i64.wrap (((a+l:Nat):Int) - (a:Int))).tdiv 4) * 3))=z3
 rw [w0,wq,w3,v3] at e3
 subst e3
 generalize e4:IntKind.i64.wrap (((a+l:Nat):Int) - (a:Int))=z4
 rw [w0] at e4
 subst e4
 refine ⟨by decide,by decide,by decide, ?_⟩
 have hq0:∀ v:AObj,(H++[v])[H.length]? = some v:=fun v=>by simp
 have ht0:∀ v:AObj,(H++[v])[t]? = some (.arr g 4 (rowsA L)):=fun v=>(List.getElem?_append_left htl).trans ht
 refine acond_intro (fun hc=>?_) (fun hc=>?_)
 ·have h8:8≤l:=by have:=of_decide_eq_true hc; omega
  simp only [go_sem,uA,uB,uC,uD,uE,uF,uG,uH,uI,uJ,uK,uL,uM,uN,uO,uP,uQ]
  refine acond_intro (fun hd=>?_) (fun hd=>?_)
  ·have h50:50≤l:=by have:=of_decide_eq_true hd; omega
   simp only [go_sem,uA,uB,uC,uD,uE,uF,uG,uH,uI,uJ,uK,uL,uM,uN,uO,uP,uQ]
   refine ACallT.by (medAdj_ok L t g H.length 0 _ hok hn (a+l / 4) (by omega) (by omega) (ht0 _) (hq0 _)) ?_
   rintro _ _ ⟨x1,m1,rfl,h1,rfl⟩
   simp only [go_sem,uA,uB,uC,uD,uE,uF,uG,uH,uI,uJ,uK,uL,uM,uN,uO,uP,uQ]
   refine ACallT.by (medAdj_ok L t g H.length m1 _ hok hn (a+l / 4 * 2) (by omega) (by omega) (ht0 _) (hq0 _)) ?_
   rintro _ _ ⟨x2,m2,rfl,h2,rfl⟩
   simp only [go_sem,uA,uB,uC,uD,uE,uF,uG,uH,uI,uJ,uK,uL,uM,uN,uO,uP,uQ]
   refine ACallT.by (medAdj_ok L t g H.length m2 _ hok hn (a+l / 4 * 3) (by omega) (by omega) (ht0 _) (hq0 _)) ?_
   rintro _ _ ⟨x3,m3,rfl,h3,rfl⟩
   simp only [go_sem,uA,uB,uC,uD,uE,uF,uG,uH,uI,uJ,uK,uL,uM,uN,uO,uP,uQ]
   refine ACallT.by (median_ok L t g H.length m3 _ hok x1 x2 x3 (by omega) (by omega) (by omega) (ht0 _) (hq0 _)) ?_
   rintro _ _ ⟨x,m,rfl,hx4,rfl⟩
   simp only [go_sem,uA,uB,uC,uD,uE,uF,uG,uH,uI,uJ,uK,uL,uM,uN,uO,uP,uQ]
   refine acond_intro (fun hx=>?_) (fun hx=>?_)
   ·simp only [go_sem,uA,uB,uC,uD,uE,uF,uG,uH,uI,uJ,uK,uL,uM,uN,uO,uP,uQ]
    exact Fin_plain ⟨x,1,rfl,by omega,by omega,fun i hi=>by first | rfl | exact List.getElem?_append_left hi⟩
   ·simp only [go_sem,uA,uB,uC,uD,uE,uF,uG,uH,uI,uJ,uK,uL,uM,uN,uO,uP,uQ]
    refine acond_intro (fun hy=>?_) (fun hy=>?_)
    ·simp only [go_sem,uA,uB,uC,uD,uE,uF,uG,uH,uI,uJ,uK,uL,uM,uN,uO,uP,uQ]
     exact Fin_plain ⟨x,2,rfl,by omega,by omega,fun i hi=>by first | rfl | exact List.getElem?_append_left hi⟩
    ·simp only [go_sem,uA,uB,uC,uD,uE,uF,uG,uH,uI,uJ,uK,uL,uM,uN,uO,uP,uQ]
     exact Fin_plain ⟨x,0,rfl,by omega,by omega,fun i hi=>by first | rfl | exact List.getElem?_append_left hi⟩
  ·simp only [go_sem,uA,uB,uC,uD,uE,uF,uG,uH,uI,uJ,uK,uL,uM,uN,uO,uP,uQ]
   refine ACallT.by (median_ok L t g H.length 0 _ hok (a+l / 4) (a+l / 4 * 2) (a+l / 4 * 3) (by omega) (by omega) (by omega) (ht0 _) (hq0 _)) ?_
   rintro _ _ ⟨x,m,rfl,hx4,rfl⟩
   simp only [go_sem,uA,uB,uC,uD,uE,uF,uG,uH,uI,uJ,uK,uL,uM,uN,uO,uP,uQ]
   refine acond_intro (fun hx=>?_) (fun hx=>?_)
   ·simp only [go_sem,uA,uB,uC,uD,uE,uF,uG,uH,uI,uJ,uK,uL,uM,uN,uO,uP,uQ]
    exact Fin_plain ⟨x,1,rfl,by omega,by omega,fun i hi=>by first | rfl | exact List.getElem?_append_left hi⟩
   ·simp only [go_sem,uA,uB,uC,uD,uE,uF,uG,uH,uI,uJ,uK,uL,uM,uN,uO,uP,uQ]
    refine acond_intro (fun hy=>?_) (fun hy=>?_)
    ·simp only [go_sem,uA,uB,uC,uD,uE,uF,uG,uH,uI,uJ,uK,uL,uM,uN,uO,uP,uQ]
     exact Fin_plain ⟨x,2,rfl,by omega,by omega,fun i hi=>by first | rfl | exact List.getElem?_append_left hi⟩
    ·simp only [go_sem,uA,uB,uC,uD,uE,uF,uG,uH,uI,uJ,uK,uL,uM,uN,uO,uP,uQ]
     exact Fin_plain ⟨x,0,rfl,by omega,by omega,fun i hi=>by first | rfl | exact List.getElem?_append_left hi⟩
 ·simp only [go_sem,uA,uB,uC,uD,uE,uF,uG,uH,uI,uJ,uK,uL,uM,uN,uO,uP,uQ]
  exact Fin_plain ⟨a+l / 4 * 2,1,rfl,by omega,by omega,fun i hi=>by first | rfl | exact List.getElem?_append_left hi⟩
end Go.Proofs.Vale
