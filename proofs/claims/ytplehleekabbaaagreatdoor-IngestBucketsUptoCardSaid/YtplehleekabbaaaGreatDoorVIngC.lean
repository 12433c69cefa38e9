/- YtplehleekabbaaaGreatDoorVIngC: a text of the proof of this claim, by its prover. -/
import Derived.Test.YtplehleekabbaaaGreatDoorVIngA
import Derived.Test.YtplehleekabbaaaGreatDoorVRk
import Derived.Test.YtplehleekabbaaaGreatDoorVDrx
open Nat renaming reduceMul → uA, reduceLT → uB, reduceLeDiff → uC, reduceEqDiff → uD, reduceBEq → uE, lt_irrefl → uQ
open Int renaming toNat_natCast → uF, reduceToNat → uG, reduceNeg → uH, reduceLT → uI, reduceLE → uJ, reduceBEq → uK, reduceBNe → uL
open Bool renaming false_eq_true → uO
set_option linter.unusedVariables false
set_option linter.unusedSimpArgs false
set_option maxHeartbeats 4000000
set_option maxRecDepth 100000
namespace Go.Proofs.Vale
open Go.Proofs Go.Proofs.YtplehleekabbaaaGreatDoorT
attribute [local irreducible] acode aopsL aopsT pop popG aop ALoop ADraw ACall AWP AFin acondT ALoopT ADrawT ACallT doP doG doGd
theorem ints_len (l:List Int):(intsA l).length=l.length:=by simp [intsA]
def fitsI (n:Int):Bool:=decide (-4611686018427387904≤n) && decide (n≤4611686018427387904)
theorem rfits1_ok (a:Int) (h:List AObj):ACall Tryz.prog 113 [.int .i64 a] h (fun r _=>r=.bool (fitsI a)):=by
 (refine ACall.of_code Tryz.func113 rfl ?_; simp only [Tryz.f113]; simp only [go_sem,uA,uB,uC,uD,uE,uF,uG,uH,uI,uJ,uK,uL,uM,uN,uO,uP,uQ])
 refine Fin_plain ?_
 simp only [fitsI]
 congr 1
 cases decide (-4611686018427387904≤a) <;> rfl
theorem afits_ok (l:List Int) (c:Bool) (h:List AObj) (hl:l.length≤9223372036854775807):ACall Tryz.prog 60 [.fz c (intsA l)] h (fun r _=>r=.bool (l.all fitsI)):=by
 (refine ACall.of_code Tryz.func60 rfl ?_; simp only [Tryz.f60]; simp only [go_sem,uA,uB,uC,uD,uE,uF,uG,uH,uI,uJ,uK,uL,uM,uN,uO,uP,uQ])
 refine ALoop.over [2,4,7,8,9,10,11,12,13,14,15,16,17] (fun e h'=>∃ k:Nat,k≤l.length∧e.getD 7 .any=.int .i64 k∧(l.take k).all fitsI=true) (fun e _=>l.length - natA (e.getD 7 .any)) ⟨0,by simp,rfl,by simp⟩ ?_
 simp only [List.length_cons,List.length_nil,Nat.reduceAdd,allL_succ,allL_zero]
 intro y2 y4 y7 y8 y9 y10 y11 y12 y13 y14 y15 y16 y17 h' hI
 simp only [go_sem] at hI
 obtain ⟨k,hk,rfl,hall⟩:=hI
 simp only [go_sem,uA,uB,uC,uD,uE,uF,uG,uH,uI,uJ,uK,uL,uM,uN,uO,uP,uQ]
 refine acond_intro (fun hc=>?_) (fun hc=>?_)
 ·have hlt:k < l.length:=by simpa [ints_len] using hc
  simp only [go_sem,uA,uB,uC,uD,uE,uF,uG,uH,uI,uJ,uK,uL,uM,uN,uO,uP,uQ]
  rw [ints_get l k hlt]
  simp only [go_sem,uA,uB,uC,uD,uE,uF,uG,uH,uI,uJ,uK,uL,uM,uN,uO,uP,uQ]
  refine ⟨⟨by omega,by omega⟩, ?_⟩
  refine acond_intro (fun hc2=>?_) (fun hc2=>?_)
  ·simp only [go_sem,uA,uB,uC,uD,uE,uF,uG,uH,uI,uJ,uK,uL,uM,uN,uO,uP,uQ]
   refine Fin_plain ?_
   have hx:fitsI l[k]=false:=by
    simp only [fitsI]
    by_cases q:l[k] < -4611686018427387904
    ·simp; omega
    ·simp [q] at hc2; simp; omega
   have:l.all fitsI=false:=by
    rw [List.all_eq_false]; exact ⟨l[k],List.getElem_mem _,by simp [hx]⟩
   rw [this]
  ·simp only [go_sem,uA,uB,uC,uD,uE,uF,uG,uH,uI,uJ,uK,uL,uM,uN,uO,uP,uQ]
   have hx:fitsI l[k]=true:=by
    simp only [fitsI]
    by_cases q:l[k] < -4611686018427387904
    ·simp [q] at hc2
    ·simp [q] at hc2; simp; omega
   rw [wrap_id (by omega) (by omega)]
   refine ⟨⟨k+1,by omega,rfl, ?_⟩,by omega⟩
   rw [List.take_succ_eq_append_getElem hlt,List.all_append,hall]; simp [hx]
 ·have hge : k = l.length := by have : ¬ k < l.length := by simpa [ints_len] using hc
                                omega
  subst hge
  simp only [go_sem,uA,uB,uC,uD,uE,uF,uG,uH,uI,uJ,uK,uL,uM,uN,uO,uP,uQ]
  refine Fin_plain ?_
  rw [List.take_length] at hall; rw [hall]
structure A3 where
 s:Int
 mn:Int
 mx:Int
 deriving DecidableEq
@[go_sem] def a3A (a:A3):AV:=.agg [.int .i64 a.s,.int .i64 a.mn,.int .i64 a.mx]
def rightF (a:A3):Bool:=fitsI a.s && fitsI a.mn && fitsI a.mx && decide (a.mn≤a.mx)
def oneF (n:Int):A3 × Int:=if fitsI n then (⟨n,n,n⟩,0) else (⟨0,0,0⟩,121)
theorem aright_ok (a:A3) (h:List AObj):ACall Tryz.prog 104 [a3A a] h (fun r _=>r=.bool (rightF a)):=by
 (refine ACall.of_code Tryz.func104 rfl ?_; simp only [Tryz.f104]; simp only [go_sem,uA,uB,uC,uD,uE,uF,uG,uH,uI,uJ,uK,uL,uM,uN,uO,uP,uQ])
 (refine ACallT.pure (by simp only [go_sem,uA,uB,uC,uD,uE,uF,uG,uH,uI,uJ,uK,uL,uM,uN,uO,uP,uQ]; rfl) (by first | trivial | assumption | (simp only [go_sem,uA,uB,uC,uD,uE,uF,uG,uH,uI,uJ,uK,uL,uM,uN,uO,uP,uQ]; done) | (simp only [go_sem,uA,uB,uC,uD,uE,uF,uG,uH,uI,uJ,uK,uL,uM,uN,uO,uP,uQ]; first | trivial | assumption | omega | decide | (refine ⟨?_, ?_⟩ <;> first | trivial | assumption | omega | decide))) (afits_ok [a.s,a.mn,a.mx] _ _ (by simp)) ?_; refine fun _ _ e=>?_; subst e; refine ⟨rfl, ?_⟩; simp only [go_sem,uA,uB,uC,uD,uE,uF,uG,uH,uI,uJ,uK,uL,uM,uN,uO,uP,uQ])
 refine Fin_plain ?_
 simp only [rightF]
 cases fitsI a.s <;> cases fitsI a.mn <;> cases fitsI a.mx <;> rfl
theorem aone_ok (n:Int) (h:List AObj):ACall Tryz.prog 67 [.int .i64 n] h (fun r _=>r=.tup [a3A (oneF n).1,.int .i64 (oneF n).2]):=by
 (refine ACall.of_code Tryz.func67 rfl ?_; simp only [Tryz.f67]; simp only [go_sem,uA,uB,uC,uD,uE,uF,uG,uH,uI,uJ,uK,uL,uM,uN,uO,uP,uQ])
 (refine ACallT.pure (by simp only [go_sem,uA,uB,uC,uD,uE,uF,uG,uH,uI,uJ,uK,uL,uM,uN,uO,uP,uQ]; rfl) (by first | trivial | assumption | (simp only [go_sem,uA,uB,uC,uD,uE,uF,uG,uH,uI,uJ,uK,uL,uM,uN,uO,uP,uQ]; done) | (simp only [go_sem,uA,uB,uC,uD,uE,uF,uG,uH,uI,uJ,uK,uL,uM,uN,uO,uP,uQ]; first | trivial | assumption | omega | decide | (refine ⟨?_, ?_⟩ <;> first | trivial | assumption | omega | decide))) (afits_ok [n] _ _ (by simp)) ?_; refine fun _ _ e=>?_; subst e; refine ⟨rfl, ?_⟩; simp only [go_sem,uA,uB,uC,uD,uE,uF,uG,uH,uI,uJ,uK,uL,uM,uN,uO,uP,uQ])
 refine acond_intro (fun hc=>?_) (fun hc=>?_)
 ·simp only [go_sem,uA,uB,uC,uD,uE,uF,uG,uH,uI,uJ,uK,uL,uM,uN,uO,uP,uQ]
  refine Fin_plain ?_
  simp at hc
  simp [oneF,a3A,hc]
 ·simp only [go_sem,uA,uB,uC,uD,uE,uF,uG,uH,uI,uJ,uK,uL,uM,uN,uO,uP,uQ]
  refine Fin_plain ?_
  simp at hc
  simp [oneF,a3A,hc]
theorem raright_ok (a:A3) (h:List AObj):ACall Tryz.prog 142 [a3A a] h (fun r _=>r=.bool (rightF a)):=by
 (refine ACall.of_code Tryz.func142 rfl ?_; simp only [Tryz.f142]; simp only [go_sem,uA,uB,uC,uD,uE,uF,uG,uH,uI,uJ,uK,uL,uM,uN,uO,uP,uQ])
 (refine ACallT.pure (by simp only [go_sem,uA,uB,uC,uD,uE,uF,uG,uH,uI,uJ,uK,uL,uM,uN,uO,uP,uQ]; rfl) (by first | trivial | assumption | (simp only [go_sem,uA,uB,uC,uD,uE,uF,uG,uH,uI,uJ,uK,uL,uM,uN,uO,uP,uQ]; done) | (simp only [go_sem,uA,uB,uC,uD,uE,uF,uG,uH,uI,uJ,uK,uL,uM,uN,uO,uP,uQ]; first | trivial | assumption | omega | decide | (refine ⟨?_, ?_⟩ <;> first | trivial | assumption | omega | decide))) (rfits1_ok a.s _) ?_; refine fun _ _ e=>?_; subst e; refine ⟨rfl, ?_⟩; simp only [go_sem,uA,uB,uC,uD,uE,uF,uG,uH,uI,uJ,uK,uL,uM,uN,uO,uP,uQ])
 (refine ACallT.pure (by simp only [go_sem,uA,uB,uC,uD,uE,uF,uG,uH,uI,uJ,uK,uL,uM,uN,uO,uP,uQ]; rfl) (by first | trivial | assumption | (simp only [go_sem,uA,uB,uC,uD,uE,uF,uG,uH,uI,uJ,uK,uL,uM,uN,uO,uP,uQ]; done) | (simp only [go_sem,uA,uB,uC,uD,uE,uF,uG,uH,uI,uJ,uK,uL,uM,uN,uO,uP,uQ]; first | trivial | assumption | omega | decide | (refine ⟨?_, ?_⟩ <;> first | trivial | assumption | omega | decide))) (rfits1_ok a.mn _) ?_; refine fun _ _ e=>?_; subst e; refine ⟨rfl, ?_⟩; simp only [go_sem,uA,uB,uC,uD,uE,uF,uG,uH,uI,uJ,uK,uL,uM,uN,uO,uP,uQ])
 (refine ACallT.pure (by simp only [go_sem,uA,uB,uC,uD,uE,uF,uG,uH,uI,uJ,uK,uL,uM,uN,uO,uP,uQ]; rfl) (by first | trivial | assumption | (simp only [go_sem,uA,uB,uC,uD,uE,uF,uG,uH,uI,uJ,uK,uL,uM,uN,uO,uP,uQ]; done) | (simp only [go_sem,uA,uB,uC,uD,uE,uF,uG,uH,uI,uJ,uK,uL,uM,uN,uO,uP,uQ]; first | trivial | assumption | omega | decide | (refine ⟨?_, ?_⟩ <;> first | trivial | assumption | omega | decide))) (rfits1_ok a.mx _) ?_; refine fun _ _ e=>?_; subst e; refine ⟨rfl, ?_⟩; simp only [go_sem,uA,uB,uC,uD,uE,uF,uG,uH,uI,uJ,uK,uL,uM,uN,uO,uP,uQ])
 cases hs:fitsI a.s <;> cases hmn:fitsI a.mn <;> cases hmx:fitsI a.mx <;> (try simp only [go_sem,uA,uB,uC,uD,uE,uF,uG,uH,uI,uJ,uK,uL,uM,uN,uO,uP,uQ]) <;> refine Fin_plain ?_ <;> simp [rightF,hs,hmn,hmx]
theorem wrapI {n:Int} (h:-9223372036854775808≤n∧n≤9223372036854775807):IntKind.i64.wrap n=n:=wrap_id h.1 h.2
theorem fitsI_iff (n:Int):fitsI n=true↔(-4611686018427387904≤n∧n≤4611686018427387904):=by simp [fitsI]
def sizeF (n:Int):Int:=if fitsI n then (if n < -n then -n else n) else 4611686018427387904
theorem asize_ok (n:Int) (h:List AObj):ACall Tryz.prog 30 [.int .i64 n] h (fun r _=>r=.int .i64 (sizeF n)):=by
 (refine ACall.of_code Tryz.func30 rfl ?_; simp only [Tryz.f30]; simp only [go_sem,uA,uB,uC,uD,uE,uF,uG,uH,uI,uJ,uK,uL,uM,uN,uO,uP,uQ])
 (refine ACallT.pure (by simp only [go_sem,uA,uB,uC,uD,uE,uF,uG,uH,uI,uJ,uK,uL,uM,uN,uO,uP,uQ]; rfl) (by first | trivial | assumption | (simp only [go_sem,uA,uB,uC,uD,uE,uF,uG,uH,uI,uJ,uK,uL,uM,uN,uO,uP,uQ]; done) | (simp only [go_sem,uA,uB,uC,uD,uE,uF,uG,uH,uI,uJ,uK,uL,uM,uN,uO,uP,uQ]; first | trivial | assumption | omega | decide | (refine ⟨?_, ?_⟩ <;> first | trivial | assumption | omega | decide))) (afits_ok [n] _ _ (by simp)) ?_; refine fun _ _ e=>?_; subst e; refine ⟨rfl, ?_⟩; simp only [go_sem,uA,uB,uC,uD,uE,uF,uG,uH,uI,uJ,uK,uL,uM,uN,uO,uP,uQ])
 refine acond_intro (fun hc=>?_) (fun hc=>?_)
 ·simp only [go_sem,uA,uB,uC,uD,uE,uF,uG,uH,uI,uJ,uK,uL,uM,uN,uO,uP,uQ]
  refine Fin_plain ?_
  simp at hc
  simp [sizeF,hc]
 ·simp only [go_sem,uA,uB,uC,uD,uE,uF,uG,uH,uI,uJ,uK,uL,uM,uN,uO,uP,uQ]
  refine Fin_plain ?_
  simp at hc
  have:=(fitsI_iff n).1 hc
  rw [wrapI (by omega)]
  simp only [sizeF,hc,if_true]
  simp only [gt_iff_lt,Int.zero_sub]
def joinF (a b:A3):A3 × Int :=
 if rightF a && rightF b then
  if fitsI (a.s+b.s) then (⟨a.s+b.s,if b.mn < a.mn then b.mn else a.mn,if a.mx < b.mx then b.mx else a.mx⟩,0) else (⟨0,0,0⟩,121)
 else (⟨0,0,0⟩,1)
theorem right_fits {a:A3} (h:rightF a=true):-4611686018427387904≤a.s∧a.s≤4611686018427387904:=by
 simp only [rightF,Bool.and_eq_true] at h
 exact (fitsI_iff _).1 h.1.1.1
theorem ajoin_ok (a b:A3) (h:List AObj):ACall Tryz.prog 72 [a3A a,a3A b] h (fun r _=>r=.tup [a3A (joinF a b).1,.int .i64 (joinF a b).2]):=by
 (refine ACall.of_code Tryz.func72 rfl ?_; simp only [Tryz.f72]; simp only [go_sem,uA,uB,uC,uD,uE,uF,uG,uH,uI,uJ,uK,uL,uM,uN,uO,uP,uQ])
 (refine ACallT.pure (by simp only [go_sem,uA,uB,uC,uD,uE,uF,uG,uH,uI,uJ,uK,uL,uM,uN,uO,uP,uQ]; rfl) (by first | trivial | assumption | (simp only [go_sem,uA,uB,uC,uD,uE,uF,uG,uH,uI,uJ,uK,uL,uM,uN,uO,uP,uQ]; done) | (simp only [go_sem,uA,uB,uC,uD,uE,uF,uG,uH,uI,uJ,uK,uL,uM,uN,uO,uP,uQ]; first | trivial | assumption | omega | decide | (refine ⟨?_, ?_⟩ <;> first | trivial | assumption | omega | decide))) (aright_ok a _) ?_; refine fun _ _ e=>?_; subst e; refine ⟨rfl, ?_⟩)
 cases ha:rightF a
 ·simp only [go_sem,uA,uB,uC,uD,uE,uF,uG,uH,uI,uJ,uK,uL,uM,uN,uO,uP,uQ]
  refine Fin_plain ?_
  simp [joinF,ha,a3A]
 ·simp only [go_sem,uA,uB,uC,uD,uE,uF,uG,uH,uI,uJ,uK,uL,uM,uN,uO,uP,uQ]
  (refine ACallT.pure (by simp only [go_sem,uA,uB,uC,uD,uE,uF,uG,uH,uI,uJ,uK,uL,uM,uN,uO,uP,uQ]; rfl) (by first | trivial | assumption | (simp only [go_sem,uA,uB,uC,uD,uE,uF,uG,uH,uI,uJ,uK,uL,uM,uN,uO,uP,uQ]; done) | (simp only [go_sem,uA,uB,uC,uD,uE,uF,uG,uH,uI,uJ,uK,uL,uM,uN,uO,uP,uQ]; first | trivial | assumption | omega | decide | (refine ⟨?_, ?_⟩ <;> first | trivial | assumption | omega | decide))) (aright_ok b _) ?_; refine fun _ _ e=>?_; subst e; refine ⟨rfl, ?_⟩)
  cases hb:rightF b
  ·simp only [go_sem,uA,uB,uC,uD,uE,uF,uG,uH,uI,uJ,uK,uL,uM,uN,uO,uP,uQ]
   refine Fin_plain ?_
   simp [joinF,ha,hb,a3A]
  ·have ba:=right_fits ha
   have bb:=right_fits hb
   simp only [go_sem,uA,uB,uC,uD,uE,uF,uG,uH,uI,uJ,uK,uL,uM,uN,uO,uP,uQ]
   rw [wrapI (n:=-4611686018427387904 - a.s) (by omega)]
   generalize hq:(bif decide (0 < a.s) then decide (IntKind.i64.wrap (4611686018427387904 - a.s) < b.s) else false)=q
   refine ⟨by cases q <;> simp, ?_⟩
   have hov:(bif q then true else bif decide (a.s < 0) then decide (b.s < -4611686018427387904 - a.s) else false)=!fitsI (a.s+b.s):=by
    rw [← hq]
    have hw:0 < a.s→IntKind.i64.wrap (4611686018427387904 - a.s)=4611686018427387904 - a.s:=fun h1=>wrapI (by omega)
    simp only [fitsI]
    by_cases h1:0 < a.s <;> (try rw [hw h1]) <;> by_cases h2:a.s < 0 <;> by_cases h3:4611686018427387904 - a.s < b.s <;> by_cases h4:b.s < -4611686018427387904 - a.s <;> by_cases h5:-4611686018427387904≤a.s+b.s <;> by_cases h6:a.s+b.s≤4611686018427387904 <;> simp [h1,h2,h3,h4,h5,h6] <;> omega
   rw [hov]
   refine acond_intro (fun hc=>?_) (fun hc=>?_)
   ·simp only [go_sem,uA,uB,uC,uD,uE,uF,uG,uH,uI,uJ,uK,uL,uM,uN,uO,uP,uQ]
    refine Fin_plain ?_
    simp at hc
    simp [joinF,ha,hb,hc,a3A]
   ·simp only [go_sem,uA,uB,uC,uD,uE,uF,uG,uH,uI,uJ,uK,uL,uM,uN,uO,uP,uQ]
    refine Fin_plain ?_
    simp at hc
    have:=(fitsI_iff _).1 hc
    rw [wrapI (n:=a.s+b.s) (by omega)]
    simp [joinF,ha,hb,hc,a3A]
theorem rajoin_ok (a b:A3) (h:List AObj):ACall Tryz.prog 112 [a3A a,a3A b] h (fun r _=>r=.tup [a3A (joinF a b).1,.int .i64 (joinF a b).2]):=by
 (refine ACall.of_code Tryz.func112 rfl ?_; simp only [Tryz.f112]; simp only [go_sem,uA,uB,uC,uD,uE,uF,uG,uH,uI,uJ,uK,uL,uM,uN,uO,uP,uQ])
 (refine ACallT.pure (by simp only [go_sem,uA,uB,uC,uD,uE,uF,uG,uH,uI,uJ,uK,uL,uM,uN,uO,uP,uQ]; rfl) (by first | trivial | assumption | (simp only [go_sem,uA,uB,uC,uD,uE,uF,uG,uH,uI,uJ,uK,uL,uM,uN,uO,uP,uQ]; done) | (simp only [go_sem,uA,uB,uC,uD,uE,uF,uG,uH,uI,uJ,uK,uL,uM,uN,uO,uP,uQ]; first | trivial | assumption | omega | decide | (refine ⟨?_, ?_⟩ <;> first | trivial | assumption | omega | decide))) (raright_ok a _) ?_; refine fun _ _ e=>?_; subst e; refine ⟨rfl, ?_⟩)
 simp only [go_sem,uA,uB,uC,uD,uE,uF,uG,uH,uI,uJ,uK,uL,uM,uN,uO,uP,uQ]
 (refine ACallT.pure (by simp only [go_sem,uA,uB,uC,uD,uE,uF,uG,uH,uI,uJ,uK,uL,uM,uN,uO,uP,uQ]; rfl) (by first | trivial | assumption | (simp only [go_sem,uA,uB,uC,uD,uE,uF,uG,uH,uI,uJ,uK,uL,uM,uN,uO,uP,uQ]; done) | (simp only [go_sem,uA,uB,uC,uD,uE,uF,uG,uH,uI,uJ,uK,uL,uM,uN,uO,uP,uQ]; first | trivial | assumption | omega | decide | (refine ⟨?_, ?_⟩ <;> first | trivial | assumption | omega | decide))) (raright_ok b _) ?_; refine fun _ _ e=>?_; subst e; refine ⟨rfl, ?_⟩)
 cases ha:rightF a
 ·simp only [go_sem,uA,uB,uC,uD,uE,uF,uG,uH,uI,uJ,uK,uL,uM,uN,uO,uP,uQ]
  refine Fin_plain ?_
  simp [joinF,ha,a3A]
 cases hb:rightF b
 ·simp only [go_sem,uA,uB,uC,uD,uE,uF,uG,uH,uI,uJ,uK,uL,uM,uN,uO,uP,uQ]
  refine Fin_plain ?_
  simp [joinF,ha,hb,a3A]
 ·have ba:=right_fits ha
  have bb:=right_fits hb
  simp only [go_sem,uA,uB,uC,uD,uE,uF,uG,uH,uI,uJ,uK,uL,uM,uN,uO,uP,uQ]
  rw [wrapI (n:=-4611686018427387904 - b.s) (by omega)]
  generalize hq:(bif decide (0 < b.s) then decide (IntKind.i64.wrap (4611686018427387904 - b.s) < a.s) else false)=q
  refine ⟨by cases q <;> simp, ?_⟩
  have hov:(bif q then true else bif decide (b.s < 0) then decide (a.s < -4611686018427387904 - b.s) else false)=!fitsI (a.s+b.s):=by
   rw [← hq]
   have hw:0 < b.s→IntKind.i64.wrap (4611686018427387904 - b.s)=4611686018427387904 - b.s:=fun h1=>wrapI (by omega)
   simp only [fitsI]
   by_cases h1:0 < b.s <;> (try rw [hw h1]) <;> by_cases h2:b.s < 0 <;> by_cases h3:4611686018427387904 - b.s < a.s <;> by_cases h4:a.s < -4611686018427387904 - b.s <;> by_cases h5:-4611686018427387904≤a.s+b.s <;> by_cases h6:a.s+b.s≤4611686018427387904 <;> simp [h1,h2,h3,h4,h5,h6] <;> omega
  rw [hov]
  refine acond_intro (fun hc=>?_) (fun hc=>?_)
  ·simp only [go_sem,uA,uB,uC,uD,uE,uF,uG,uH,uI,uJ,uK,uL,uM,uN,uO,uP,uQ]
   refine Fin_plain ?_
   simp at hc
   simp [joinF,ha,hb,hc,a3A]
  ·simp only [go_sem,uA,uB,uC,uD,uE,uF,uG,uH,uI,uJ,uK,uL,uM,uN,uO,uP,uQ]
   refine Fin_plain ?_
   simp at hc
   have:=(fitsI_iff _).1 hc
   rw [wrapI (n:=a.s+b.s) (by omega)]
   simp [joinF,ha,hb,hc,a3A]
end Go.Proofs.Vale
namespace Go.Proofs.Vale
open Go.Proofs Go.Proofs.YtplehleekabbaaaGreatDoorT
attribute [local irreducible] acode aopsL aopsT dopsL dopsT pop popG aop ALoop ADraw ACall AWP AFin acondT ALoopT ADrawT ACallT doP doG doGd
abbrev Ev:=Int × List Str × List Int
def eventA (e:Ev):AV:=.agg [.int .i64 e.1,.fz false (strs e.2.1),.fz false (intsA e.2.2)]
def evs (l:List Ev):List AV:=l.map eventA
@[go_sem] theorem evs_len (l:List Ev):(evs l).length=l.length:=by simp [evs]
theorem evs_get (l:List Ev) (k:Nat) (h:k < l.length):(evs l).getD k .any=.agg [.int .i64 l[k].1,.fz false (strs l[k].2.1),.fz false (intsA l[k].2.2)]:=by simp [evs,eventA,List.getD_eq_getElem?_getD,h]
def evFit (e:Ev):Bool:=fitS e.2.1 && decide (e.2.2.length≤20)
theorem lfits_ok (c1 c2 c:Bool) (d m:List Str) (l:List Ev) (h:List AObj) (hd:d.length≤9223372036854775807) (hm:m.length≤9223372036854775807) (hl:l.length≤9223372036854775807) (he:∀ e∈l,e.2.1.length≤9223372036854775807):ACall Tryz.prog 8 [schA c1 c2 d m,.fz c (evs l)] h (fun r _=>r=.bool (fitS d && fitS m && decide (l.length≤60) && l.all evFit)):=by
 simp only [schA]
 (refine ACall.of_code Tryz.func8 rfl ?_; simp only [Tryz.f8]; simp only [go_sem,uA,uB,uC,uD,uE,uF,uG,uH,uI,uJ,uK,uL,uM,uN,uO,uP,uQ])
 (refine ACallT.frame ((fits_ok d c1 _ hd).mono fun _ _ q=>q.1) ?_; refine fun _ _ e=>?_; subst e; refine ⟨by (first | rfl | (simp only [AV.low,lowL,low_strs,Bool.and_true,Bool.and_self])), ?_⟩; simp only [go_sem,uA,uB,uC,uD,uE,uF,uG,uH,uI,uJ,uK,uL,uM,uN,uO,uP,uQ])
 (refine ACallT.frame ((fits_ok m c2 _ hm).mono fun _ _ q=>q.1) ?_; refine fun _ _ e=>?_; subst e; refine ⟨by (first | rfl | (simp only [AV.low,lowL,low_strs,Bool.and_true,Bool.and_self])), ?_⟩; simp only [go_sem,uA,uB,uC,uD,uE,uF,uG,uH,uI,uJ,uK,uL,uM,uN,uO,uP,uQ])
 generalize fitS d=fd
 generalize fitS m=fm
 cases fd with
 | false =>
  simp only [go_sem,uA,uB,uC,uD,uE,uF,uG,uH,uI,uJ,uK,uL,uM,uN,uO,uP,uQ]
  exact Fin_plain rfl
 | true =>
 cases fm with
 | false =>
  simp only [go_sem,uA,uB,uC,uD,uE,uF,uG,uH,uI,uJ,uK,uL,uM,uN,uO,uP,uQ]
  exact Fin_plain rfl
 | true =>
 simp only [go_sem,uA,uB,uC,uD,uE,uF,uG,uH,uI,uJ,uK,uL,uM,uN,uO,uP,uQ]
 refine acond_intro (fun hc=>?_) (fun hc=>?_)
 ·simp only [go_sem,uA,uB,uC,uD,uE,uF,uG,uH,uI,uJ,uK,uL,uM,uN,uO,uP,uQ]
  refine Fin_plain ?_
  have:¬ l.length≤60:=by have:=of_decide_eq_true hc; omega
  simp [this]
 ·have h60:l.length≤60:=by have:=of_decide_eq_false hc; omega
  simp only [go_sem,uA,uB,uC,uD,uE,uF,uG,uH,uI,uJ,uK,uL,uM,uN,uO,uP,uQ]
  refine ALoop.over [4,7,8,26,27,28,29,30,31,32,33,34,35,36,37,38,39,40,41,42,43,44,45,46,47,48] (fun e h'=>∃ k:Nat,k≤l.length∧e.getD 7 .any=.int .i64 k∧(l.take k).all evFit=true) (fun e _=>l.length - natA (e.getD 7 .any)) ⟨0,by omega,rfl,by simp⟩ ?_
  simp only [List.length_cons,List.length_nil,Nat.reduceAdd,allL_succ,allL_zero]
  intro y4 y7 y8 y26 y27 y28 y29 y30 y31 y32 y33 y34 y35 y36 y37 y38 y39 y40 y41 y42 y43 y44 y45 y46 y47 y48 h1 hI
  simp only [go_sem] at hI
  obtain ⟨k,hk,rfl,hall⟩:=hI
  simp only [go_sem,uA,uB,uC,uD,uE,uF,uG,uH,uI,uJ,uK,uL,uM,uN,uO,uP,uQ]
  refine acond_intro (fun hc=>?_) (fun hc=>?_)
  ·have hlt:k < l.length:=by have:=of_decide_eq_true hc; omega
   have hin:l[k]∈l:=List.getElem_mem _
   simp only [go_sem,evs_get l k hlt,uA,uB,uC,uD,uE,uF,uG,uH,uI,uJ,uK,uL,uM,uN,uO,uP,uQ]
   refine ⟨⟨by omega,by omega⟩, ?_⟩
   (refine ACallT.frame ((fits_ok l[k].2.1 _ _ (he _ hin)).mono fun _ _ q=>q.1) ?_; refine fun _ _ e=>?_; subst e; refine ⟨by (first | rfl | (simp only [AV.low,lowL,low_strs,Bool.and_true,Bool.and_self])), ?_⟩; simp only [go_sem,uA,uB,uC,uD,uE,uF,uG,uH,uI,uJ,uK,uL,uM,uN,uO,uP,uQ])
   have hev:evFit l[k]=(fitS l[k].2.1 && decide (l[k].2.2.length≤20)):=rfl
   generalize fitS l[k].2.1=fk at *
   cases fk with
   | false =>
    simp only [go_sem,evs_get l k hlt,uA,uB,uC,uD,uE,uF,uG,uH,uI,uJ,uK,uL,uM,uN,uO,uP,uQ]
    refine Fin_plain ?_
    have:l.all evFit=false:=by rw [List.all_eq_false]; exact ⟨_,hin,by rw [hev]; simp⟩
    simp [this]
   | true =>
    simp only [go_sem,evs_get l k hlt,uA,uB,uC,uD,uE,uF,uG,uH,uI,uJ,uK,uL,uM,uN,uO,uP,uQ]
    refine ⟨⟨by omega,by omega⟩, ?_⟩
    refine acond_intro (fun hb=>?_) (fun hb=>?_)
    ·simp only [go_sem,uA,uB,uC,uD,uE,uF,uG,uH,uI,uJ,uK,uL,uM,uN,uO,uP,uQ]
     refine Fin_plain ?_
     have h20:¬ l[k].2.2.length≤20:=by have:=of_decide_eq_true hb; omega
     have:l.all evFit=false:=by rw [List.all_eq_false]; exact ⟨_,hin,by rw [hev]; simp [h20]⟩
     simp [this]
    ·have h20:l[k].2.2.length≤20:=by have:=of_decide_eq_false hb; omega
     simp only [go_sem,uA,uB,uC,uD,uE,uF,uG,uH,uI,uJ,uK,uL,uM,uN,uO,uP,uQ]
     rw [wrap_id (by omega) (by omega)]
     refine ⟨⟨k+1,by omega,rfl, ?_⟩,by omega⟩
     rw [List.take_succ_eq_append_getElem hlt,List.all_append,hall]
     simp [hev,h20]
  ·have:k=l.length:=by have:=of_decide_eq_false hc; omega
   subst this
   simp only [go_sem,uA,uB,uC,uD,uE,uF,uG,uH,uI,uJ,uK,uL,uM,uN,uO,uP,uQ]
   refine Fin_plain ?_
   rw [List.take_length] at hall
   simp [hall,h60]
end Go.Proofs.Vale
namespace Go.Proofs.Vale
open Go.Proofs Go.Proofs.YtplehleekabbaaaGreatDoorT
attribute [local irreducible] acode aopsL aopsT dopsL dopsT pop popG aop ALoop ADraw ACall AWP AFin acondT ALoopT ADrawT ACallT doP doG doGd frL frT frX
theorem intsA_get (l:List Int) (k:Nat) (h:k < l.length):(intsA l).getD k .any=.int .i64 l[k]:=by simp [intsA,List.getD_eq_getElem?_getD,h]
theorem intsA_flat (l:List Int):∀ y∈intsA l,flatX y=true:=by
 intro y hy; simp only [intsA,List.mem_map] at hy; obtain ⟨b,_,rfl⟩:=hy; rfl
theorem sizeF_nn (n:Int):0≤sizeF n:=by
 unfold sizeF; split <;> (try split) <;> omega
theorem sizeF_le (n:Int):sizeF n≤4611686018427387904:=by
 unfold sizeF fitsI
 split
 ·rename_i h
  simp only [Bool.and_eq_true,decide_eq_true_eq] at h
  split <;> omega
 ·omega
theorem iclone_ok (l:List Int) (c:Bool) (h:List AObj) (hl:l.length≤8796093022000):ACall Tryz.prog 29 [.fz c (intsA l)] h (fun r h'=>(l=[]∧r=.fz true []∧h'=h)∨∃ g,r=.sl h.length g 1 0 l.length∧h'=h++[.arr g 1 (intsA l)]):=by
 (refine ACall.of_code Tryz.func29 rfl ?_; simp only [Tryz.f29]; simp only [go_sem,uA,uB,uC,uD,uE,uF,uG,uH,uI,uJ,uK,uL,uM,uN,uO,uP,uQ])
 intro b hb
 cases b with
 | true =>
  simp only [go_sem,uA,uB,uC,uD,uE,uF,uG,uH,uI,uJ,uK,uL,uM,uN,uO,uP,uQ]
  have:l=[]:=by have:=hb rfl; cases l with
   | nil=>rfl
   | cons a l=>simp [intsA] at this
  refine Fin_plain (.inl ⟨this,rfl,rfl⟩)
 | false =>
  simp only [go_sem,uA,uB,uC,uD,uE,uF,uG,uH,uI,uJ,uK,uL,uM,uN,uO,uP,uQ]
  have hall:(intsA l).all (okEl 1)=true:=by simp [intsA,okEl,AV.cells,AV.one]
  refine ⟨⟨by omega,by omega,hall⟩, ?_⟩
  refine Fin_plain (.inr ⟨1,rfl,rfl⟩)
theorem iclone_ne (l:List Int) (c:Bool) (h:List AObj) (hl:l.length≤8796093022000) (h0:l≠[]):ACall Tryz.prog 29 [.fz c (intsA l)] h (fun r h'=>r=.sl h.length 1 1 0 l.length∧h'=h++[.arr 1 1 (intsA l)]):=by
 (refine ACall.of_code Tryz.func29 rfl ?_; simp only [Tryz.f29]; simp only [go_sem,uA,uB,uC,uD,uE,uF,uG,uH,uI,uJ,uK,uL,uM,uN,uO,uP,uQ])
 intro b hb
 cases b with
 | true =>
  have:l=[]:=by have:=hb rfl; cases l with
   | nil=>rfl
   | cons a l=>simp [intsA] at this
  exact absurd this h0
 | false =>
  simp only [go_sem,uA,uB,uC,uD,uE,uF,uG,uH,uI,uJ,uK,uL,uM,uN,uO,uP,uQ]
  have hall:(intsA l).all (okEl 1)=true:=by simp [intsA,okEl,AV.cells,AV.one]
  refine ⟨⟨by omega,by omega,hall⟩, ?_⟩
  refine Fin_plain ⟨rfl,rfl⟩
theorem iclone_nil (c:Bool) (h:List AObj):ACall Tryz.prog 29 [.fz c (intsA [])] h (fun r h'=>r=.fz false []∧h'=h):=by
 refine ACall.frame ?_
 refine ACall.any (by simp [lowL,AV.low,intsA]) ?_
 refine (ACall.freeze 3 (iclone_ok [] c [] (by simp)) (K2:=fun r _=>r=.fz true []∨r=.fz false []) ?_).weak ?_
 ·rintro r h' (⟨-,rfl,rfl⟩ | ⟨g,rfl,rfl⟩)
  ·exact .inl rfl
  ·right
   simp only [frz_sl]
   exact frzO_all (l:=[]) rfl (by simp)
 ·rintro r h' (rfl | rfl)
  ·exact ⟨.fz false [],fun β fr H v q=>rep_cut q,rfl,rfl,rfl,rfl⟩
  ·exact ⟨.fz false [],fun β fr H v q=>q,rfl,rfl,rfl,rfl⟩
abbrev budA (c:Bool) (n:Int) (l:List Int):AV:=.agg [.int .i64 n,.fz c (intsA l)]
def badZ (p:Int × Int):Bool:=bif decide (p.1 < 0) then true else decide (4611686018427387904 - sizeF p.2 < p.1)
def addZ (ss ms:List Int):List Int:=List.zipWith (fun a n=>a+sizeF n) ss ms
def chgC (d m:List Str) (t:Int) (dims:List Str) (ms:List Int) (n:Int) (ss:List Int):Int :=
 bif checkS d m t dims ms != 0 then checkS d m t dims ms
 else bif (bif (bif ((ss.length:Int) != (m.length:Int)) then true else decide (n < 0)) then true else decide (1048576≤n)) then 182
 else bif (ss.zip ms).any badZ then 182 else 0
def budR (c:Bool) (k n:Int) (ss ms:List Int):AV:=budA c (bif k==0 then n+1 else 0) (bif k==0 then addZ ss ms else [])
theorem check_len {d m:List Str} {t:Int} {dims:List Str} {ms:List Int} (h:checkS d m t dims ms=0):ms.length=m.length:=by
 unfold checkS at h
 cases e:(bif (((dims.length:Int)) != (d.length:Int)) then true else ((ms.length:Int) != (m.length:Int))) with
 | true=>rw [e] at h; simp at h
 | false =>
  cases e2:((dims.length:Int)) != (d.length:Int) with
  | true=>rw [e2] at e; simp at e
  | false=>rw [e2] at e; simp at e; omega
theorem budR_err (c:Bool) {k:Int} (n:Int) (ss ms:List Int) (h:k≠0):budR c k n ss ms=budA c 0 []:=by
 have:(k==0)=false:=by simpa using h
 simp [budR,this]
theorem addZ_len (ss ms:List Int) (h:ss.length=ms.length):(addZ ss ms).length=ss.length:=by simp [addZ,h]
def partZ (ss ms:List Int) (k:Nat):List Int:=(List.range ss.length).map fun i=>if i < k then ss.getD i 0+sizeF (ms.getD i 0) else ss.getD i 0
@[go_sem] theorem partZ_len (ss ms:List Int) (k:Nat):(partZ ss ms k).length=ss.length:=by simp [partZ]
theorem partZ_zero (ss ms:List Int):partZ ss ms 0=ss:=by
 refine List.ext_getElem (by simp [partZ]) fun i h1 h2=>?_
 simp [partZ,List.getD_eq_getElem?_getD,h2]
theorem partZ_get (ss ms:List Int) (k:Nat) (hk:k < ss.length):(intsA (partZ ss ms k)).getD k .any=.int .i64 ss[k]:=by
 rw [intsA_get _ _ (by rw [partZ_len]; exact hk)]
 simp [partZ,List.getD_eq_getElem?_getD,hk]
theorem partZ_set (ss ms:List Int) (k:Nat) (hk:k < ss.length) (hm:k < ms.length):(intsA (partZ ss ms k)).set k (.int .i64 (ss[k]+sizeF ms[k]))=intsA (partZ ss ms (k+1)):=by
 refine List.ext_getElem (by simp [intsA,partZ]) fun i h1 h2=>?_
 rw [List.getElem_set]
 have hi:i < ss.length:=by simpa [intsA,partZ] using h1
 by_cases e:k=i
 ·subst e
  simp [intsA,partZ,List.getD_eq_getElem?_getD,hk,hm]
 ·have e2:(i < k)↔(i < k+1):=by omega
  simp [intsA,partZ,e,e2]
theorem partZ_full (ss ms:List Int) (h:ss.length=ms.length):partZ ss ms ss.length=addZ ss ms:=by
 refine List.ext_getElem (by simp [partZ,addZ,h]) fun i h1 h2=>?_
 have hi:i < ss.length:=by simpa [partZ] using h1
 have hj:i < ms.length:=by omega
 simp [partZ,addZ,List.getD_eq_getElem?_getD,hi,hj]
theorem zip_bad {ss ms:List Int} {k:Nat} (hk:k < ss.length) (hm:k < ms.length) (h:((ss.zip ms).take k).any badZ=false):((ss.zip ms).take (k+1)).any badZ=badZ (ss[k],ms[k]):=by
 rw [List.take_succ_eq_append_getElem (by simp; omega),List.any_append,h]
 simp
theorem charge_ok (a1 a2 c1 c2 cb : Bool) (d m dims : List Str) (t : Int) (ms : List Int) (n : Int) (ss : List Int) (h : List AObj) (hd : dims.length ≤ 9223372036854775807) (hm : ms.length ≤ 8796093022000) (hs : ss.length ≤ 8796093022000) (hM : m.length ≤ 9223372036854775807) (hv : ∀ s ∈ dims, ValOk s) :
  ACall Tryz.prog 11 [schA a1 a2 d m,budA cb n ss,evA' t c1 c2 dims ms] h (fun r _=>∃ c,r=.tup [budR c (chgC d m t dims ms n ss) n ss ms,.int .i64 (chgC d m t dims ms n ss)]):=by
 simp only [schA,evA']
 (refine ACall.of_code Tryz.func11 rfl ?_; simp only [Tryz.f11]; simp only [go_sem,uA,uB,uC,uD,uE,uF,uG,uH,uI,uJ,uK,uL,uM,uN,uO,uP,uQ])
 (refine ACallT.frame (check_ok a1 a2 c1 c2 d m dims t ms _ hd (by omega) hv) ?_; refine fun _ _ e=>?_; subst e; refine ⟨by (first | rfl | (simp only [AV.low,lowL,low_strs,Bool.and_true,Bool.and_self])), ?_⟩; simp only [go_sem,uA,uB,uC,uD,uE,uF,uG,uH,uI,uJ,uK,uL,uM,uN,uO,uP,uQ])
 generalize hk:checkS d m t dims ms=k
 refine acond_intro (fun hc=>?_) (fun hc=>?_)
 ·have hk0:k≠0:=by simpa using hc
  simp only [go_sem,uA,uB,uC,uD,uE,uF,uG,uH,uI,uJ,uK,uL,uM,uN,uO,uP,uQ]
  refine Fin_plain ⟨true, ?_⟩
  have:chgC d m t dims ms n ss=k:=by unfold chgC; rw [hk,show (k != 0)=true from hc]; rfl
  rw [this,budR_err _ _ _ _ hk0]; rfl
 have hk0:k=0:=by simpa using hc
 subst hk0
 have hlm:=check_len hk
 simp only [go_sem,uA,uB,uC,uD,uE,uF,uG,uH,uI,uJ,uK,uL,uM,uN,uO,uP,uQ]
 refine acond_intro (fun hb=>?_) (fun hb=>?_)
 ·simp only [go_sem,uA,uB,uC,uD,uE,uF,uG,uH,uI,uJ,uK,uL,uM,uN,uO,uP,uQ]
  refine Fin_plain ⟨true, ?_⟩
  have:chgC d m t dims ms n ss=182:=by unfold chgC; rw [hk,hb]; rfl
  rw [this,budR_err _ _ _ _ (by decide)]; rfl
 obtain ⟨hl,hn0,hn1⟩:ss.length=m.length∧0≤n∧n < 1048576:=by
  by_cases e1:((ss.length:Int) != (m.length:Int))=true
  ·rw [e1] at hb; simp at hb
  ·have e1:((ss.length:Int) != (m.length:Int))=false:=by simpa using e1
   rw [e1] at hb; simp at hb e1
   exact ⟨by omega,by omega,by omega⟩
 have hC:chgC d m t dims ms n ss=bif (ss.zip ms).any badZ then 182 else 0:=by unfold chgC; rw [hk,hb]; rfl
 rw [hC]
 simp only [go_sem,uA,uB,uC,uD,uE,uF,uG,uH,uI,uJ,uK,uL,uM,uN,uO,uP,uQ]
 (refine ADrawT.walk [[0,6,8],[0,6,8],[0,6,8],[0],[0],[0,6,8],[6,8],[0,6,8],[8,9]] mixedOrdersD (by kernel_rfl) (by kernel_rfl) ?_; simp only [go_sem,uA,uB,uC,uD,uE,uF,uG,uH,uI,uJ,uK,uL,uM,uN,uO,uP,uQ])
 rw [wrap_id (by omega) (by omega)]
 by_cases h0:ss=[]
 ·subst h0
  refine frX_same (.fz false []) ?_ ?_
  ·simp only [go_sem,uA,uB,uC,uD,uE,uF,uG,uH,uI,uJ,uK,uL,uM,uN,uO,uP,uQ]
   exact ACallT.by (iclone_nil cb _) fun _ _ e=>e
  simp only [go_sem,uA,uB,uC,uD,uE,uF,uG,uH,uI,uJ,uK,uL,uM,uN,uO,uP,uQ]
  refine ⟨by simp [fmem,Agree], ?_⟩
  refine ALoop.over [7,10,11,47,48,49,50,51,52,53,54,55,56,57,58,59,60,61,62,63,64,65,66,67,68,69,70,71,72,73,74,75,76,77,78,79,80,81] (fun e h'=>e.getD 47 .any=.int .i64 0∧h'=h++[.arr 0 2 [.agg [.fz a1 (strs d),.fz a2 (strs m)]],.arr 0 2 [budA cb n []],.arr 0 3 [.agg [.int .i64 t,.fz c1 (strs dims),.fz c2 (intsA ms)]],.arr 0 2 [.agg [.int .i64 0,.fz true []]],.arr 0 2 [.agg [.int .i64 (n+1),.fz false []]]]) (fun e _=>0) ⟨rfl,rfl⟩ ?_
  simp only [List.length_cons,List.length_nil,Nat.reduceAdd,allL_succ,allL_zero]
  intro y7 y10 y11 y47 y48 y49 y50 y51 y52 y53 y54 y55 y56 y57 y58 y59 y60 y61 y62 y63 y64 y65 y66 y67 y68 y69 y70 y71 y72 y73 y74 y75 y76 y77 y78 y79 y80 y81 h1 hI
  simp only [go_sem] at hI
  obtain ⟨rfl,rfl⟩:=hI
  simp only [go_sem,uA,uB,uC,uD,uE,uF,uG,uH,uI,uJ,uK,uL,uM,uN,uO,uP,uQ]
  refine acond_intro (fun hc=>absurd hc (by simp)) (fun hc=>?_)
  simp only [go_sem,uA,uB,uC,uD,uE,uF,uG,uH,uI,uJ,uK,uL,uM,uN,uO,uP,uQ]
  exact Fin_plain ⟨false,rfl⟩
 ·refine frX_ext (.sl (h.length+4) 1 1 0 ss.length) [.arr 1 1 (intsA ss)] ?_ ?_
  ·simp only [go_sem,uA,uB,uC,uD,uE,uF,uG,uH,uI,uJ,uK,uL,uM,uN,uO,uP,uQ]
   exact ACallT.by (iclone_ne ss cb _ hs h0) fun _ _ e=>⟨by rw [e.1]; simp,e.2⟩
  simp only [go_sem,uA,uB,uC,uD,uE,uF,uG,uH,uI,uJ,uK,uL,uM,uN,uO,uP,uQ]
  refine ⟨by simp [fmem,Agree], ?_⟩
  refine ALoop.over [7,10,11,47,48,49,50,51,52,53,54,55,56,57,58,59,60,61,62,63,64,65,66,67,68,69,70,71,72,73,74,75,76,77,78,79,80,81] (fun e h'=>∃ k:Nat,k≤ss.length∧e.getD 47 .any=.int .i64 k∧h'=h++[.arr 0 2 [.agg [.fz a1 (strs d),.fz a2 (strs m)]],.arr 0 2 [budA cb n ss],.arr 0 3 [.agg [.int .i64 t,.fz c1 (strs dims),.fz c2 (intsA ms)]],.arr 0 2 [.agg [.int .i64 0,.fz true []]],.arr 1 1 (intsA (partZ ss ms k)),.arr 0 2 [.agg [.int .i64 (n+1),.sl (h.length+4) 1 1 0 ss.length]]]∧((ss.zip ms).take k).any badZ=false) (fun e _=>ss.length - natA (e.getD 47 .any)) ⟨0,by omega,rfl,by rw [partZ_zero],by simp⟩ ?_
  simp only [List.length_cons,List.length_nil,Nat.reduceAdd,allL_succ,allL_zero]
  intro y7 y10 y11 y47 y48 y49 y50 y51 y52 y53 y54 y55 y56 y57 y58 y59 y60 y61 y62 y63 y64 y65 y66 y67 y68 y69 y70 y71 y72 y73 y74 y75 y76 y77 y78 y79 y80 y81 h1 hI
  simp only [go_sem] at hI
  obtain ⟨k,hk,rfl,rfl,hall⟩:=hI
  simp only [go_sem,uA,uB,uC,uD,uE,uF,uG,uH,uI,uJ,uK,uL,uM,uN,uO,uP,uQ]
  refine acond_intro (fun hc=>?_) (fun hc=>?_)
  ·have hlt:k < ss.length:=by have:=of_decide_eq_true hc; omega
   have hltm:k < ms.length:=by omega
   simp only [go_sem,intsA_get ms k hltm,uA,uB,uC,uD,uE,uF,uG,uH,uI,uJ,uK,uL,uM,uN,uO,uP,uQ]
   refine ⟨⟨by omega,by omega⟩, ?_⟩
   (refine ACallT.frame (asize_ok ms[k] _) ?_; refine fun _ _ e=>?_; subst e; refine ⟨by (first | rfl | (simp only [AV.low,lowL,low_strs,Bool.and_true,Bool.and_self])), ?_⟩; simp only [go_sem,uA,uB,uC,uD,uE,uF,uG,uH,uI,uJ,uK,uL,uM,uN,uO,uP,uQ])
   have s1:=sizeF_nn ms[k]
   have s2:=sizeF_le ms[k]
   simp only [go_sem,partZ_get ss ms k hlt,uA,uB,uC,uD,uE,uF,uG,uH,uI,uJ,uK,uL,uM,uN,uO,uP,uQ]
   refine ⟨⟨by omega,by omega⟩,by omega, ?_⟩
   rw [wrap_id (by omega) (by omega)]
   refine ⟨fun q=>⟨q,by omega,by omega⟩,fun q=>⟨q,hlt⟩, ?_⟩
   have hbz:badZ (ss[k],ms[k])=(bif decide (ss[k] < 0) then true else decide (4611686018427387904 - sizeF ms[k] < ss[k])):=rfl
   refine acond_intro (fun hd=>?_) (fun hd=>?_)
   ·simp only [go_sem,uA,uB,uC,uD,uE,uF,uG,uH,uI,uJ,uK,uL,uM,uN,uO,uP,uQ]
    refine Fin_plain ⟨true, ?_⟩
    have hz:(ss.zip ms).any badZ=true:=by
     rw [List.any_eq_true]
     refine ⟨(ss[k],ms[k]), ?_,hbz.trans hd⟩
     have:(ss.zip ms)[k]'(by simp; omega)=(ss[k],ms[k]):=List.getElem_zip
     rw [← this]; exact List.getElem_mem _
    rw [hz]
    exact congrArg (fun z=>AV.tup [z,.int .i64 182]) (budR_err true n ss ms (by decide:(182:Int)≠0)).symm
   ·rw [hd] at hbz
    have hb1:0≤ss[k]∧ss[k]+sizeF ms[k]≤4611686018427387904:=by
     cases e:decide (ss[k] < 0) with
     | true=>rw [e] at hd; cases hd
     | false =>
      rw [e] at hd
      have e1:=of_decide_eq_false e
      have e2:decide (4611686018427387904 - sizeF ms[k] < ss[k])=false:=hd
      have e2:=of_decide_eq_false e2
      omega
    simp only [go_sem,partZ_get ss ms k hlt,uA,uB,uC,uD,uE,uF,uG,uH,uI,uJ,uK,uL,uM,uN,uO,uP,uQ]
    rw [wrap_id (by omega) (by omega),wrap_id (by omega) (by omega),partZ_set ss ms k hlt hltm]
    exact ⟨⟨by omega,by omega⟩,hlt,⟨by omega,by omega⟩,hlt,⟨k+1,by omega,rfl,rfl,(zip_bad hlt hltm hall).trans hbz⟩,by omega⟩
  ·have:k=ss.length:=by have:=of_decide_eq_false hc; omega
   subst this
   simp only [go_sem,uA,uB,uC,uD,uE,uF,uG,uH,uI,uJ,uK,uL,uM,uN,uO,uP,uQ]
   have hz:(ss.zip ms).any badZ=false:=by
    rw [List.take_of_length_le (by simp; omega)] at hall; exact hall
   refine Fin_freeze 4 ⟨false, ?_⟩
   rw [hz,partZ_full ss ms (by omega)]
   simp only [go_sem,uA,uB,uC,uD,uE,uF,uG,uH,uI,uJ,uK,uL,uM,uN,uO,uP,uQ]
   rw [frzO_all (by rw [ints_len,addZ_len _ _ (by omega)]) (intsA_flat _)]
   rfl
end Go.Proofs.Vale
