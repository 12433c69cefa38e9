/- YtplehleekabbaaaGreatDoorVAggA: a text of the proof of this claim, by its prover. -/
import Derived.Test.YtplehleekabbaaaGreatDoorVIngA
open Nat renaming reduceMul → uA, reduceLT → uB, reduceLeDiff → uC, reduceEqDiff → uD, reduceBEq → uE, lt_irrefl → uQ
open Int renaming toNat_natCast → uF, reduceToNat → uG, reduceNeg → uH, reduceLT → uI, reduceLE → uJ, reduceBEq → uK, reduceBNe → uL
open Bool renaming false_eq_true → uO
set_option linter.unusedVariables false
set_option linter.unusedSimpArgs false
set_option maxHeartbeats 4000000
set_option maxRecDepth 100000
namespace Go.Proofs.Vale
open Go.Proofs Go.Proofs.YtplehleekabbaaaGreatDoorT
attribute [local irreducible] acode aopsL aopsT pop popG aop ALoop ADraw ACall AWP AFin acondT ALoopT ADrawT ACallT doP doG doGd
theorem ints_len (l:List Int):(intsA l).length=l.length:=by simp [intsA]
def fitsI (n:Int):Bool:=decide (-4611686018427387904≤n) && decide (n≤4611686018427387904)
theorem rfits1_ok (a:Int) (h:List AObj):ACall Tryz.prog 113 [.int .i64 a] h (fun r _=>r=.bool (fitsI a)):=by
 (refine ACall.of_code Tryz.func113 rfl ?_; simp only [Tryz.f113]; simp only [go_sem,uA,uB,uC,uD,uE,uF,uG,uH,uI,uJ,uK,uL,uM,uN,uO,uP,uQ])
 refine Fin_plain ?_
 simp only [fitsI]
 congr 1
 cases decide (-4611686018427387904≤a) <;> rfl
theorem afits_ok (l:List Int) (c:Bool) (h:List AObj) (hl:l.length≤9223372036854775807):ACall Tryz.prog 60 [.fz c (intsA l)] h (fun r _=>r=.bool (l.all fitsI)):=by
 (refine ACall.of_code Tryz.func60 rfl ?_; simp only [Tryz.f60]; simp only [go_sem,uA,uB,uC,uD,uE,uF,uG,uH,uI,uJ,uK,uL,uM,uN,uO,uP,uQ])
 refine ALoop.over [2,4,7,8,9,10,11,12,13,14,15,16,17] (fun e h'=>∃ k:Nat,k≤l.length∧e.getD 7 .any=.int .i64 k∧(l.take k).all fitsI=true) (fun e _=>l.length - natA (e.getD 7 .any)) ⟨0,by simp,rfl,by simp⟩ ?_
 simp only [List.length_cons,List.length_nil,Nat.reduceAdd,allL_succ,allL_zero]
 intro y2 y4 y7 y8 y9 y10 y11 y12 y13 y14 y15 y16 y17 h' hI
 simp only [go_sem] at hI
 obtain ⟨k,hk,rfl,hall⟩:=hI
 simp only [go_sem,uA,uB,uC,uD,uE,uF,uG,uH,uI,uJ,uK,uL,uM,uN,uO,uP,uQ]
 refine acond_intro (fun hc=>?_) (fun hc=>?_)
 ·have hlt:k < l.length:=by simpa [ints_len] using hc
  simp only [go_sem,uA,uB,uC,uD,uE,uF,uG,uH,uI,uJ,uK,uL,uM,uN,uO,uP,uQ]
  rw [ints_get l k hlt]
  simp only [go_sem,uA,uB,uC,uD,uE,uF,uG,uH,uI,uJ,uK,uL,uM,uN,uO,uP,uQ]
  refine ⟨⟨by omega,by omega⟩, ?_⟩
  refine acond_intro (fun hc2=>?_) (fun hc2=>?_)
  ·simp only [go_sem,uA,uB,uC,uD,uE,uF,uG,uH,uI,uJ,uK,uL,uM,uN,uO,uP,uQ]
   refine Fin_plain ?_
   have hx:fitsI l[k]=false:=by
    simp only [fitsI]
    by_cases q:l[k] < -4611686018427387904
    ·simp; omega
    ·simp [q] at hc2; simp; omega
   have:l.all fitsI=false:=by
    rw [List.all_eq_false]; exact ⟨l[k],List.getElem_mem _,by simp [hx]⟩
   rw [this]
  ·simp only [go_sem,uA,uB,uC,uD,uE,uF,uG,uH,uI,uJ,uK,uL,uM,uN,uO,uP,uQ]
   have hx:fitsI l[k]=true:=by
    simp only [fitsI]
    by_cases q:l[k] < -4611686018427387904
    ·simp [q] at hc2
    ·simp [q] at hc2; simp; omega
   rw [wrap_id (by omega) (by omega)]
   refine ⟨⟨k+1,by omega,rfl, ?_⟩,by omega⟩
   rw [List.take_succ_eq_append_getElem hlt,List.all_append,hall]; simp [hx]
 ·have hge : k = l.length := by have : ¬ k < l.length := by simpa [ints_len] using hc
                                omega
  subst hge
  simp only [go_sem,uA,uB,uC,uD,uE,uF,uG,uH,uI,uJ,uK,uL,uM,uN,uO,uP,uQ]
  refine Fin_plain ?_
  rw [List.take_length] at hall; rw [hall]
structure A3 where
 s:Int
 mn:Int
 mx:Int
 deriving DecidableEq
@[go_sem] def a3A (a:A3):AV:=.agg [.int .i64 a.s,.int .i64 a.mn,.int .i64 a.mx]
def rightF (a:A3):Bool:=fitsI a.s && fitsI a.mn && fitsI a.mx && decide (a.mn≤a.mx)
def oneF (n:Int):A3 × Int:=if fitsI n then (⟨n,n,n⟩,0) else (⟨0,0,0⟩,121)
theorem aright_ok (a:A3) (h:List AObj):ACall Tryz.prog 104 [a3A a] h (fun r _=>r=.bool (rightF a)):=by
 (refine ACall.of_code Tryz.func104 rfl ?_; simp only [Tryz.f104]; simp only [go_sem,uA,uB,uC,uD,uE,uF,uG,uH,uI,uJ,uK,uL,uM,uN,uO,uP,uQ])
 (refine ACallT.pure (by simp only [go_sem,uA,uB,uC,uD,uE,uF,uG,uH,uI,uJ,uK,uL,uM,uN,uO,uP,uQ]; rfl) (by first | trivial | assumption | (simp only [go_sem,uA,uB,uC,uD,uE,uF,uG,uH,uI,uJ,uK,uL,uM,uN,uO,uP,uQ]; done) | (simp only [go_sem,uA,uB,uC,uD,uE,uF,uG,uH,uI,uJ,uK,uL,uM,uN,uO,uP,uQ]; first | trivial | assumption | omega | decide | (refine ⟨?_, ?_⟩ <;> first | trivial | assumption | omega | decide))) (afits_ok [a.s,a.mn,a.mx] _ _ (by simp)) ?_; refine fun _ _ e=>?_; subst e; refine ⟨rfl, ?_⟩; simp only [go_sem,uA,uB,uC,uD,uE,uF,uG,uH,uI,uJ,uK,uL,uM,uN,uO,uP,uQ])
 refine Fin_plain ?_
 simp only [rightF]
 cases fitsI a.s <;> cases fitsI a.mn <;> cases fitsI a.mx <;> rfl
theorem aone_ok (n:Int) (h:List AObj):ACall Tryz.prog 67 [.int .i64 n] h (fun r _=>r=.tup [a3A (oneF n).1,.int .i64 (oneF n).2]):=by
 (refine ACall.of_code Tryz.func67 rfl ?_; simp only [Tryz.f67]; simp only [go_sem,uA,uB,uC,uD,uE,uF,uG,uH,uI,uJ,uK,uL,uM,uN,uO,uP,uQ])
 (refine ACallT.pure (by simp only [go_sem,uA,uB,uC,uD,uE,uF,uG,uH,uI,uJ,uK,uL,uM,uN,uO,uP,uQ]; rfl) (by first | trivial | assumption | (simp only [go_sem,uA,uB,uC,uD,uE,uF,uG,uH,uI,uJ,uK,uL,uM,uN,uO,uP,uQ]; done) | (simp only [go_sem,uA,uB,uC,uD,uE,uF,uG,uH,uI,uJ,uK,uL,uM,uN,uO,uP,uQ]; first | trivial | assumption | omega | decide | (refine ⟨?_, ?_⟩ <;> first | trivial | assumption | omega | decide))) (afits_ok [n] _ _ (by simp)) ?_; refine fun _ _ e=>?_; subst e; refine ⟨rfl, ?_⟩; simp only [go_sem,uA,uB,uC,uD,uE,uF,uG,uH,uI,uJ,uK,uL,uM,uN,uO,uP,uQ])
 refine acond_intro (fun hc=>?_) (fun hc=>?_)
 ·simp only [go_sem,uA,uB,uC,uD,uE,uF,uG,uH,uI,uJ,uK,uL,uM,uN,uO,uP,uQ]
  refine Fin_plain ?_
  simp at hc
  simp [oneF,a3A,hc]
 ·simp only [go_sem,uA,uB,uC,uD,uE,uF,uG,uH,uI,uJ,uK,uL,uM,uN,uO,uP,uQ]
  refine Fin_plain ?_
  simp at hc
  simp [oneF,a3A,hc]
theorem raright_ok (a:A3) (h:List AObj):ACall Tryz.prog 142 [a3A a] h (fun r _=>r=.bool (rightF a)):=by
 (refine ACall.of_code Tryz.func142 rfl ?_; simp only [Tryz.f142]; simp only [go_sem,uA,uB,uC,uD,uE,uF,uG,uH,uI,uJ,uK,uL,uM,uN,uO,uP,uQ])
 (refine ACallT.pure (by simp only [go_sem,uA,uB,uC,uD,uE,uF,uG,uH,uI,uJ,uK,uL,uM,uN,uO,uP,uQ]; rfl) (by first | trivial | assumption | (simp only [go_sem,uA,uB,uC,uD,uE,uF,uG,uH,uI,uJ,uK,uL,uM,uN,uO,uP,uQ]; done) | (simp only [go_sem,uA,uB,uC,uD,uE,uF,uG,uH,uI,uJ,uK,uL,uM,uN,uO,uP,uQ]; first | trivial | assumption | omega | decide | (refine ⟨?_, ?_⟩ <;> first | trivial | assumption | omega | decide))) (rfits1_ok a.s _) ?_; refine fun _ _ e=>?_; subst e; refine ⟨rfl, ?_⟩; simp only [go_sem,uA,uB,uC,uD,uE,uF,uG,uH,uI,uJ,uK,uL,uM,uN,uO,uP,uQ])
 (refine ACallT.pure (by simp only [go_sem,uA,uB,uC,uD,uE,uF,uG,uH,uI,uJ,uK,uL,uM,uN,uO,uP,uQ]; rfl) (by first | trivial | assumption | (simp only [go_sem,uA,uB,uC,uD,uE,uF,uG,uH,uI,uJ,uK,uL,uM,uN,uO,uP,uQ]; done) | (simp only [go_sem,uA,uB,uC,uD,uE,uF,uG,uH,uI,uJ,uK,uL,uM,uN,uO,uP,uQ]; first | trivial | assumption | omega | decide | (refine ⟨?_, ?_⟩ <;> first | trivial | assumption | omega | decide))) (rfits1_ok a.mn _) ?_; refine fun _ _ e=>?_; subst e; refine ⟨rfl, ?_⟩; simp only [go_sem,uA,uB,uC,uD,uE,uF,uG,uH,uI,uJ,uK,uL,uM,uN,uO,uP,uQ])
 (refine ACallT.pure (by simp only [go_sem,uA,uB,uC,uD,uE,uF,uG,uH,uI,uJ,uK,uL,uM,uN,uO,uP,uQ]; rfl) (by first | trivial | assumption | (simp only [go_sem,uA,uB,uC,uD,uE,uF,uG,uH,uI,uJ,uK,uL,uM,uN,uO,uP,uQ]; done) | (simp only [go_sem,uA,uB,uC,uD,uE,uF,uG,uH,uI,uJ,uK,uL,uM,uN,uO,uP,uQ]; first | trivial | assumption | omega | decide | (refine ⟨?_, ?_⟩ <;> first | trivial | assumption | omega | decide))) (rfits1_ok a.mx _) ?_; refine fun _ _ e=>?_; subst e; refine ⟨rfl, ?_⟩; simp only [go_sem,uA,uB,uC,uD,uE,uF,uG,uH,uI,uJ,uK,uL,uM,uN,uO,uP,uQ])
 cases hs:fitsI a.s <;> cases hmn:fitsI a.mn <;> cases hmx:fitsI a.mx <;> (try simp only [go_sem,uA,uB,uC,uD,uE,uF,uG,uH,uI,uJ,uK,uL,uM,uN,uO,uP,uQ]) <;> refine Fin_plain ?_ <;> simp [rightF,hs,hmn,hmx]
theorem raone_ok (n:Int) (h:List AObj):ACall Tryz.prog 87 [.int .i64 n] h (fun r _=>r=.tup [a3A (oneF n).1,.int .i64 (oneF n).2]):=by
 (refine ACall.of_code Tryz.func87 rfl ?_; simp only [Tryz.f87]; simp only [go_sem,uA,uB,uC,uD,uE,uF,uG,uH,uI,uJ,uK,uL,uM,uN,uO,uP,uQ])
 (refine ACallT.pure (by simp only [go_sem,uA,uB,uC,uD,uE,uF,uG,uH,uI,uJ,uK,uL,uM,uN,uO,uP,uQ]; rfl) (by first | trivial | assumption | (simp only [go_sem,uA,uB,uC,uD,uE,uF,uG,uH,uI,uJ,uK,uL,uM,uN,uO,uP,uQ]; done) | (simp only [go_sem,uA,uB,uC,uD,uE,uF,uG,uH,uI,uJ,uK,uL,uM,uN,uO,uP,uQ]; first | trivial | assumption | omega | decide | (refine ⟨?_, ?_⟩ <;> first | trivial | assumption | omega | decide))) (rfits1_ok n _) ?_; refine fun _ _ e=>?_; subst e; refine ⟨rfl, ?_⟩; simp only [go_sem,uA,uB,uC,uD,uE,uF,uG,uH,uI,uJ,uK,uL,uM,uN,uO,uP,uQ])
 refine acond_intro (fun hc=>?_) (fun hc=>?_)
 ·simp only [go_sem,uA,uB,uC,uD,uE,uF,uG,uH,uI,uJ,uK,uL,uM,uN,uO,uP,uQ]
  refine Fin_plain ?_
  simp at hc
  simp [oneF,a3A,hc]
 ·simp only [go_sem,uA,uB,uC,uD,uE,uF,uG,uH,uI,uJ,uK,uL,uM,uN,uO,uP,uQ]
  refine Fin_plain ?_
  simp at hc
  simp [oneF,a3A,hc]
theorem wrapI {n:Int} (h:-9223372036854775808≤n∧n≤9223372036854775807):IntKind.i64.wrap n=n:=wrap_id h.1 h.2
theorem fitsI_iff (n:Int):fitsI n=true↔(-4611686018427387904≤n∧n≤4611686018427387904):=by simp [fitsI]
def sizeF (n:Int):Int:=if fitsI n then (if n < -n then -n else n) else 4611686018427387904
theorem asize_ok (n:Int) (h:List AObj):ACall Tryz.prog 30 [.int .i64 n] h (fun r _=>r=.int .i64 (sizeF n)):=by
 (refine ACall.of_code Tryz.func30 rfl ?_; simp only [Tryz.f30]; simp only [go_sem,uA,uB,uC,uD,uE,uF,uG,uH,uI,uJ,uK,uL,uM,uN,uO,uP,uQ])
 (refine ACallT.pure (by simp only [go_sem,uA,uB,uC,uD,uE,uF,uG,uH,uI,uJ,uK,uL,uM,uN,uO,uP,uQ]; rfl) (by first | trivial | assumption | (simp only [go_sem,uA,uB,uC,uD,uE,uF,uG,uH,uI,uJ,uK,uL,uM,uN,uO,uP,uQ]; done) | (simp only [go_sem,uA,uB,uC,uD,uE,uF,uG,uH,uI,uJ,uK,uL,uM,uN,uO,uP,uQ]; first | trivial | assumption | omega | decide | (refine ⟨?_, ?_⟩ <;> first | trivial | assumption | omega | decide))) (afits_ok [n] _ _ (by simp)) ?_; refine fun _ _ e=>?_; subst e; refine ⟨rfl, ?_⟩; simp only [go_sem,uA,uB,uC,uD,uE,uF,uG,uH,uI,uJ,uK,uL,uM,uN,uO,uP,uQ])
 refine acond_intro (fun hc=>?_) (fun hc=>?_)
 ·simp only [go_sem,uA,uB,uC,uD,uE,uF,uG,uH,uI,uJ,uK,uL,uM,uN,uO,uP,uQ]
  refine Fin_plain ?_
  simp at hc
  simp [sizeF,hc]
 ·simp only [go_sem,uA,uB,uC,uD,uE,uF,uG,uH,uI,uJ,uK,uL,uM,uN,uO,uP,uQ]
  refine Fin_plain ?_
  simp at hc
  have:=(fitsI_iff n).1 hc
  rw [wrapI (by omega)]
  simp only [sizeF,hc,if_true]
  simp only [gt_iff_lt,Int.zero_sub]
def joinF (a b:A3):A3 × Int :=
 if rightF a && rightF b then
  if fitsI (a.s+b.s) then (⟨a.s+b.s,if b.mn < a.mn then b.mn else a.mn,if a.mx < b.mx then b.mx else a.mx⟩,0) else (⟨0,0,0⟩,121)
 else (⟨0,0,0⟩,1)
theorem right_fits {a:A3} (h:rightF a=true):-4611686018427387904≤a.s∧a.s≤4611686018427387904:=by
 simp only [rightF,Bool.and_eq_true] at h
 exact (fitsI_iff _).1 h.1.1.1
theorem ajoin_ok (a b:A3) (h:List AObj):ACall Tryz.prog 72 [a3A a,a3A b] h (fun r _=>r=.tup [a3A (joinF a b).1,.int .i64 (joinF a b).2]):=by
 (refine ACall.of_code Tryz.func72 rfl ?_; simp only [Tryz.f72]; simp only [go_sem,uA,uB,uC,uD,uE,uF,uG,uH,uI,uJ,uK,uL,uM,uN,uO,uP,uQ])
 (refine ACallT.pure (by simp only [go_sem,uA,uB,uC,uD,uE,uF,uG,uH,uI,uJ,uK,uL,uM,uN,uO,uP,uQ]; rfl) (by first | trivial | assumption | (simp only [go_sem,uA,uB,uC,uD,uE,uF,uG,uH,uI,uJ,uK,uL,uM,uN,uO,uP,uQ]; done) | (simp only [go_sem,uA,uB,uC,uD,uE,uF,uG,uH,uI,uJ,uK,uL,uM,uN,uO,uP,uQ]; first | trivial | assumption | omega | decide | (refine ⟨?_, ?_⟩ <;> first | trivial | assumption | omega | decide))) (aright_ok a _) ?_; refine fun _ _ e=>?_; subst e; refine ⟨rfl, ?_⟩)
 cases ha:rightF a
 ·simp only [go_sem,uA,uB,uC,uD,uE,uF,uG,uH,uI,uJ,uK,uL,uM,uN,uO,uP,uQ]
  refine Fin_plain ?_
  simp [joinF,ha,a3A]
 ·simp only [go_sem,uA,uB,uC,uD,uE,uF,uG,uH,uI,uJ,uK,uL,uM,uN,uO,uP,uQ]
  (refine ACallT.pure (by simp only [go_sem,uA,uB,uC,uD,uE,uF,uG,uH,uI,uJ,uK,uL,uM,uN,uO,uP,uQ]; rfl) (by first | trivial | assumption | (simp only [go_sem,uA,uB,uC,uD,uE,uF,uG,uH,uI,uJ,uK,uL,uM,uN,uO,uP,uQ]; done) | (simp only [go_sem,uA,uB,uC,uD,uE,uF,uG,uH,uI,uJ,uK,uL,uM,uN,uO,uP,uQ]; first | trivial | assumption | omega | decide | (refine ⟨?_, ?_⟩ <;> first | trivial | assumption | omega | decide))) (aright_ok b _) ?_; refine fun _ _ e=>?_; subst e; refine ⟨rfl, ?_⟩)
  cases hb:rightF b
  ·simp only [go_sem,uA,uB,uC,uD,uE,uF,uG,uH,uI,uJ,uK,uL,uM,uN,uO,uP,uQ]
   refine Fin_plain ?_
   simp [joinF,ha,hb,a3A]
  ·have ba:=right_fits ha
   have bb:=right_fits hb
   simp only [go_sem,uA,uB,uC,uD,uE,uF,uG,uH,uI,uJ,uK,uL,uM,uN,uO,uP,uQ]
   rw [wrapI (n:=-4611686018427387904 - a.s) (by omega)]
   generalize hq:(bif decide (0 < a.s) then decide (IntKind.i64.wrap (4611686018427387904 - a.s) < b.s) else false)=q
   refine ⟨by cases q <;> simp, ?_⟩
   have hov:(bif q then true else bif decide (a.s < 0) then decide (b.s < -4611686018427387904 - a.s) else false)=!fitsI (a.s+b.s):=by
    rw [← hq]
    have hw:0 < a.s→IntKind.i64.wrap (4611686018427387904 - a.s)=4611686018427387904 - a.s:=fun h1=>wrapI (by omega)
    simp only [fitsI]
    by_cases h1:0 < a.s <;> (try rw [hw h1]) <;> by_cases h2:a.s < 0 <;> by_cases h3:4611686018427387904 - a.s < b.s <;> by_cases h4:b.s < -4611686018427387904 - a.s <;> by_cases h5:-4611686018427387904≤a.s+b.s <;> by_cases h6:a.s+b.s≤4611686018427387904 <;> simp [h1,h2,h3,h4,h5,h6] <;> omega
   rw [hov]
   refine acond_intro (fun hc=>?_) (fun hc=>?_)
   ·simp only [go_sem,uA,uB,uC,uD,uE,uF,uG,uH,uI,uJ,uK,uL,uM,uN,uO,uP,uQ]
    refine Fin_plain ?_
    simp at hc
    simp [joinF,ha,hb,hc,a3A]
   ·simp only [go_sem,uA,uB,uC,uD,uE,uF,uG,uH,uI,uJ,uK,uL,uM,uN,uO,uP,uQ]
    refine Fin_plain ?_
    simp at hc
    have:=(fitsI_iff _).1 hc
    rw [wrapI (n:=a.s+b.s) (by omega)]
    simp [joinF,ha,hb,hc,a3A]
theorem rajoin_ok (a b:A3) (h:List AObj):ACall Tryz.prog 112 [a3A a,a3A b] h (fun r _=>r=.tup [a3A (joinF a b).1,.int .i64 (joinF a b).2]):=by
 (refine ACall.of_code Tryz.func112 rfl ?_; simp only [Tryz.f112]; simp only [go_sem,uA,uB,uC,uD,uE,uF,uG,uH,uI,uJ,uK,uL,uM,uN,uO,uP,uQ])
 (refine ACallT.pure (by simp only [go_sem,uA,uB,uC,uD,uE,uF,uG,uH,uI,uJ,uK,uL,uM,uN,uO,uP,uQ]; rfl) (by first | trivial | assumption | (simp only [go_sem,uA,uB,uC,uD,uE,uF,uG,uH,uI,uJ,uK,uL,uM,uN,uO,uP,uQ]; done) | (simp only [go_sem,uA,uB,uC,uD,uE,uF,uG,uH,uI,uJ,uK,uL,uM,uN,uO,uP,uQ]; first | trivial | assumption | omega | decide | (refine ⟨?_, ?_⟩ <;> first | trivial | assumption | omega | decide))) (raright_ok a _) ?_; refine fun _ _ e=>?_; subst e; refine ⟨rfl, ?_⟩)
 simp only [go_sem,uA,uB,uC,uD,uE,uF,uG,uH,uI,uJ,uK,uL,uM,uN,uO,uP,uQ]
 (refine ACallT.pure (by simp only [go_sem,uA,uB,uC,uD,uE,uF,uG,uH,uI,uJ,uK,uL,uM,uN,uO,uP,uQ]; rfl) (by first | trivial | assumption | (simp only [go_sem,uA,uB,uC,uD,uE,uF,uG,uH,uI,uJ,uK,uL,uM,uN,uO,uP,uQ]; done) | (simp only [go_sem,uA,uB,uC,uD,uE,uF,uG,uH,uI,uJ,uK,uL,uM,uN,uO,uP,uQ]; first | trivial | assumption | omega | decide | (refine ⟨?_, ?_⟩ <;> first | trivial | assumption | omega | decide))) (raright_ok b _) ?_; refine fun _ _ e=>?_; subst e; refine ⟨rfl, ?_⟩)
 cases ha:rightF a
 ·simp only [go_sem,uA,uB,uC,uD,uE,uF,uG,uH,uI,uJ,uK,uL,uM,uN,uO,uP,uQ]
  refine Fin_plain ?_
  simp [joinF,ha,a3A]
 cases hb:rightF b
 ·simp only [go_sem,uA,uB,uC,uD,uE,uF,uG,uH,uI,uJ,uK,uL,uM,uN,uO,uP,uQ]
  refine Fin_plain ?_
  simp [joinF,ha,hb,a3A]
 ·have ba:=right_fits ha
  have bb:=right_fits hb
  simp only [go_sem,uA,uB,uC,uD,uE,uF,uG,uH,uI,uJ,uK,uL,uM,uN,uO,uP,uQ]
  rw [wrapI (n:=-4611686018427387904 - b.s) (by omega)]
  generalize hq:(bif decide (0 < b.s) then decide (IntKind.i64.wrap (4611686018427387904 - b.s) < a.s) else false)=q
  refine ⟨by cases q <;> simp, ?_⟩
  have hov:(bif q then true else bif decide (b.s < 0) then decide (a.s < -4611686018427387904 - b.s) else false)=!fitsI (a.s+b.s):=by
   rw [← hq]
   have hw:0 < b.s→IntKind.i64.wrap (4611686018427387904 - b.s)=4611686018427387904 - b.s:=fun h1=>wrapI (by omega)
   simp only [fitsI]
   by_cases h1:0 < b.s <;> (try rw [hw h1]) <;> by_cases h2:b.s < 0 <;> by_cases h3:4611686018427387904 - b.s < a.s <;> by_cases h4:a.s < -4611686018427387904 - b.s <;> by_cases h5:-4611686018427387904≤a.s+b.s <;> by_cases h6:a.s+b.s≤4611686018427387904 <;> simp [h1,h2,h3,h4,h5,h6] <;> omega
  rw [hov]
  refine acond_intro (fun hc=>?_) (fun hc=>?_)
  ·simp only [go_sem,uA,uB,uC,uD,uE,uF,uG,uH,uI,uJ,uK,uL,uM,uN,uO,uP,uQ]
   refine Fin_plain ?_
   simp at hc
   simp [joinF,ha,hb,hc,a3A]
  ·simp only [go_sem,uA,uB,uC,uD,uE,uF,uG,uH,uI,uJ,uK,uL,uM,uN,uO,uP,uQ]
   refine Fin_plain ?_
   simp at hc
   have:=(fitsI_iff _).1 hc
   rw [wrapI (n:=a.s+b.s) (by omega)]
   simp [joinF,ha,hb,hc,a3A]
end Go.Proofs.Vale
