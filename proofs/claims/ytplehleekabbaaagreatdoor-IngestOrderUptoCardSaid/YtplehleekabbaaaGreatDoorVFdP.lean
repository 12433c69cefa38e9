/- YtplehleekabbaaaGreatDoorVFdP: a text of the proof of this claim, by its prover. -/
import Derived.Test.YtplehleekabbaaaGreatDoorVStbD
import Derived.Test.YtplehleekabbaaaGreatDoorVSrtP
import Derived.Test.YtplehleekabbaaaGreatDoorVFldA
import Derived.Test.YtplehleekabbaaaGreatDoorVFoB
import Derived.Test.YtplehleekabbaaaGreatDoorVPa
open Nat renaming reduceMul → uA, reduceLT → uB, reduceLeDiff → uC, reduceEqDiff → uD, reduceBEq → uE, lt_irrefl → uQ
open Int renaming toNat_natCast → uF, reduceToNat → uG, reduceNeg → uH, reduceLT → uI, reduceLE → uJ, reduceBEq → uK, reduceBNe → uL
open Bool renaming false_eq_true → uO
set_option linter.unusedVariables false
set_option linter.unusedSimpArgs false
set_option maxHeartbeats 8000000
set_option maxRecDepth 100000
namespace Go.Proofs.Vale
open Go.Proofs Go.Proofs.YtplehleekabbaaaGreatDoorT
attribute [local irreducible] acode aopsL aopsT dopsL dopsT pop popG aop ALoop ADraw ACall AWP AFin acondT ALoopT ADrawT ACallT doP doG doGd frL frT frX
theorem sorted_sub {A:List Rw} (h:SrtR A) (n:Nat):SrtR (A.take n)∧SrtR (A.drop n):=⟨h.sublist (List.take_sublist _ _),h.sublist (List.drop_sublist _ _)⟩
theorem symMerge_ok : ∀ (F : Nat) (P A B S : List Rw) (t g N : Nat) (H : List AObj), A.length + B.length ≤ F → (P ++ (A ++ (B ++ S))).length = N → N ≤ 1152921504606846976 → (∀ r ∈ A ++ B, RwOk r) → A ≠ [] → B ≠ [] → SrtR A → SrtR B →
  H[t]? = some (.arr g 4 (rowsA (P++(A++(B++S)))))→∀ a m b:Nat,a=P.length→m=a+A.length→b=m+B.length →
  ACall Tryz.prog 115 [.sl t g 4 0 N,.int .i64 a,.int .i64 m,.int .i64 b,cmpF] H (fun r H'=>r=.tup []∧∃ M,M.Perm (A++B)∧SrtR M∧H'=H.set t (.arr g 4 (rowsA (P++(M++S))))):=by
 intro F
 induction F with
 | zero=>intro P A B S t g N H hF _ _ _ hA; exact absurd (List.length_eq_zero_iff.1 (by omega)) hA
 | succ F ih =>
 intro P A B S t g N H hF hN hn hok hA hB sA sB ht a m b ha hm hb
 have htl:t < H.length:=(List.getElem?_eq_some_iff.1 ht).1
 have hAl:0 < A.length:=List.length_pos_iff.2 hA
 have hBl:0 < B.length:=List.length_pos_iff.2 hB
 by_cases hA1:A.length=1
 ·obtain ⟨x,rfl⟩:=List.length_eq_one_iff.1 hA1
  exact sym_left P B S x t g N H hN hn hok hB sB ht a m b ha (by simp at hm; omega) hb
 by_cases hB1:B.length=1
 ·obtain ⟨x,rfl⟩:=List.length_eq_one_iff.1 hB1
  exact sym_right P A S x t g N H hN hn hok (by omega) sA ht a m b ha hm (by simp at hb; omega)
 have hNl:b+S.length=N:=by rw [← hN]; simp; omega
 obtain ⟨st,hst⟩:∃ st:List Rw→List AObj,∀ X,st X=H.set t (.arr g 4 (rowsA X)):=⟨_,fun _=>rfl⟩
 refine ACall.mono (K:=fun r H'=>r=.tup []∧∃ M,M.Perm (A++B)∧SrtR M∧H'=st (P++(M++S))) ?_ (by rintro _ _ ⟨rfl,M,m1,m2,rfl⟩; exact ⟨rfl,M,m1,m2,hst _⟩)
 (refine ACall.of_code Tryz.func115 rfl ?_; simp only [Tryz.f115]; simp only [go_sem,uA,uB,uC,uD,uE,uF,uG,uH,uI,uJ,uK,uL,uM,uN,uO,uP,uQ])
 rw [wrap_id (x:=(m:Int) - (a:Int)) (by omega) (by omega)]
 have hc0:((m:Int) - (a:Int)==1)=false:=beq_eq_false_iff_ne.2 (by omega)
 refine acond_intro (fun q=>by rw [hc0] at q; cases q) (fun _=>?_)
 simp only [go_sem,uA,uB,uC,uD,uE,uF,uG,uH,uI,uJ,uK,uL,uM,uN,uO,uP,uQ]
 rw [wrap_id (x:=(b:Int) - (m:Int)) (by omega) (by omega)]
 have hc1:((b:Int) - (m:Int)==1)=false:=beq_eq_false_iff_ne.2 (by omega)
 refine acond_intro (fun q=>by rw [hc1] at q; cases q) (fun _=>?_)
 obtain ⟨mid,hmid⟩:∃ mid,mid=(a+b) / 2:=⟨_,rfl⟩
 have hwm:=half_ok a b N (by omega) (by omega) hn
 rw [← hmid] at hwm
 have hwn:IntKind.i64.wrap ((mid:Int)+(m:Int))=((mid+m:Nat):Int):=by rw [wrap_id (by omega) (by omega)]; omega
 simp only [go_sem,hwm,hwn,uA,uB,uC,uD,uE,uF,uG,uH,uI,uJ,uK,uL,uM,uN,uO,uP,uQ]
 obtain ⟨n,hnn⟩:∃ n,n=mid+m:=⟨_,rfl⟩
 rw [← hnn]
 have hwb:mid < m→IntKind.i64.wrap ((n:Int) - (b:Int))=((n - b:Nat):Int):=fun q=>by rw [wrap_id (by omega) (by omega)]; omega
 refine acond_over rfl rfl [20,21,141,142,143,144,145,146] (fun e h'=>h'=H∧∃ s0 r0:Nat,e.getD 20 .any=.int .i64 s0∧e.getD 21 .any=.int .i64 r0∧a≤s0∧s0≤r0∧r0≤m∧r0≤mid∧n≤s0+b∧(s0=a∨s0+b=n)∧(r0=mid∨r0=m)) (fun _ _ _=>False) (fun hb R hR _=>?_) (fun hb R hR _=>?_) (fun _ _ _ f=>f.elim) ?_
 ·have hlt:mid < m:=by have:=of_decide_eq_true hb; omega
  simp only [go_sem,hwb hlt,uA,uB,uC,uD,uE,uF,uG,uH,uI,uJ,uK,uL,uM,uN,uO,uP,uQ]
  refine hR _ _ ?_ ⟨rfl,n - b,mid,rfl,rfl,by omega,by omega,by omega,by omega,by omega,.inr (by omega),.inl rfl⟩
  simp only [go_sem,uA,uB,uC,uD,uE,uF,uG,uH,uI,uJ,uK,uL,uM,uN,uO,uP,uQ]
 ·have hlt:m≤mid:=by have:=of_decide_eq_false hb; omega
  simp only [go_sem,uA,uB,uC,uD,uE,uF,uG,uH,uI,uJ,uK,uL,uM,uN,uO,uP,uQ]
  refine hR _ _ ?_ ⟨rfl,a,m,rfl,rfl,by omega,by omega,by omega,by omega,by omega,.inl rfl,.inr rfl⟩
  simp only [go_sem,uA,uB,uC,uD,uE,uF,uG,uH,uI,uJ,uK,uL,uM,uN,uO,uP,uQ]
 simp (config:={ maxSteps:=10000000 }) only [List.length_cons,List.length_nil,Nat.reduceAdd,allL_succ,allL_zero]
 intro y20 y21 y141 y142 y143 y144 y145 y146 H0 hI
 simp only [go_sem] at hI
 obtain ⟨rfl,s0,r0,rfl,rfl,hs0,hsr,hrm,hrmid,hnb,hs0e,hr0e⟩:=hI
 obtain ⟨L,hL⟩:∃ L,L=P++(A++(B++S)):=⟨_,rfl⟩
 rw [← hL] at ht hN
 have gA:∀ k,(h1:a≤k)→(h2:k < m)→G L k=A[k - a]'(by omega):=by
  intro k h1 h2
  have e:k=P.length+(k - a):=by omega
  have:=G_app P A (B++S) (k - a) (by omega)
  rw [← e,← hL] at this; exact this
 have gB:∀ k,(h1:m≤k)→(h2:k < b)→G L k=B[k - m]'(by omega):=by
  intro k h1 h2
  have e:k=(P++A).length+(k - m):=by rw [List.length_append]; omega
  have e2:L=(P++A)++(B++S):=by rw [hL]; simp
  have:=G_app (P++A) B S (k - m) (by omega)
  rw [← e,← e2] at this; exact this
 have hwp:IntKind.i64.wrap ((n:Int) - 1)=((n - 1:Nat):Int):=by rw [wrap_id (by omega) (by omega)]; omega
 simp only [go_sem,hwp,uA,uB,uC,uD,uE,uF,uG,uH,uI,uJ,uK,uL,uM,uN,uO,uP,uQ]
 refine ALoop.over [20,21,23,149,150,151,152,153,154,155,156,157,158,159,160,161,162,163,164,165,166,167,168,169,170,171,172,173,174] (fun e H'=>∃ i j:Nat,e.getD 20 .any=.int .i64 i∧e.getD 21 .any=.int .i64 j∧s0≤i∧i≤j∧j≤r0∧(i=s0∨cmpR (G L (i - 1)) (G L (n - i))≤0)∧(j=r0∨cmpR (G L (n - 1 - j)) (G L j) < 0)∧H'=H0) (fun e _=>natA (e.getD 21 .any) - natA (e.getD 20 .any)) ⟨s0,r0,rfl,rfl,Nat.le_refl _,hsr,Nat.le_refl _,.inl rfl,.inl rfl,rfl⟩ ?_
 simp only [List.length_cons,List.length_nil,Nat.reduceAdd,allL_succ,allL_zero]
 intro y20 y21 y23 y149 y150 y151 y152 y153 y154 y155 y156 y157 y158 y159 y160 y161 y162 y163 y164 y165 y166 y167 y168 y169 y170 y171 y172 y173 y174 H1 hI
 simp only [go_sem] at hI
 obtain ⟨i,j,rfl,rfl,hi0,hij,hj0,hlo,hhi,rfl⟩:=hI
 have hset:∀ v:AObj,(H1.set t v)[t]? = some v:=fun v=>List.getElem?_set_self htl
 simp only [go_sem,uA,uB,uC,uD,uE,uF,uG,uH,uI,uJ,uK,uL,uM,uN,uO,uP,uQ]
 refine acond_intro (fun hc=>?_) (fun hc=>?_)
 ·have hlt:i < j:=by have:=of_decide_eq_true hc; omega
  obtain ⟨h,hh⟩:∃ h,h=(i+j) / 2:=⟨_,rfl⟩
  have hw:=half_ok i j N (by omega) (by omega) hn
  rw [← hh] at hw
  have hw2:IntKind.i64.wrap (((n - 1:Nat):Int) - (h:Int))=((n - 1 - h:Nat):Int):=by rw [wrap_id (by omega) (by omega)]; omega
  have g1:=getG L h (by omega)
  have g2:=getG L (n - 1 - h) (by omega)
  have o1:RwOk (G L h):=by rw [gA h (by omega) (by omega)]; exact hok _ (by simp)
  have o2:RwOk (G L (n - 1 - h)):=by rw [gB (n - 1 - h) (by omega) (by omega)]; exact hok _ (by simp)
  simp only [go_sem,hw,uA,uB,uC,uD,uE,uF,uG,uH,uI,uJ,uK,uL,uM,uN,uO,uP,uQ]
  (refine ADrawT.mem [] mixedOrdersD (by kernel_rfl) (by kernel_rfl) ?_; simp only [go_sem,uA,uB,uC,uD,uE,uF,uG,uH,uI,uJ,uK,uL,uM,uN,uO,uP,uQ])
  simp only [go_sem,ht,hw,hw2,g1,g2,uA,uB,uC,uD,uE,uF,uG,uH,uI,uJ,uK,uL,uM,uN,uO,uP,uQ]
  refine ⟨⟨by omega,by omega⟩,by omega,⟨by omega,by omega⟩,by omega, ?_⟩
  refine doX_intro (.int .i64 (cmpR (G L (n - 1 - h)) (G L h))) ⟨rfl,fun mm=>?_⟩ ?_
  ·simp only [go_sem,uA,uB,uC,uD,uE,uF,uG,uH,uI,uJ,uK,uL,uM,uN,uO,uP,uQ]
   refine ACallT.frame (cmpR_ok (G L (n - 1 - h)) (G L h) _ o2.1 o1.1) ?_
   rintro _ _ rfl
   exact ⟨rfl,rfl⟩
  simp only [go_sem,ht,hw,hw2,g1,g2,uA,uB,uC,uD,uE,uF,uG,uH,uI,uJ,uK,uL,uM,uN,uO,uP,uQ]
  refine ⟨by simp [okAcc], ?_⟩
  refine acond_intro (fun hd=>?_) (fun hd=>?_)
  ·simp only [go_sem,uA,uB,uC,uD,uE,uF,uG,uH,uI,uJ,uK,uL,uM,uN,uO,uP,uQ]
   have hd:¬ cmpR (G L (n - 1 - h)) (G L h) < 0:=by simpa using hd
   refine ⟨⟨h+1,j, ?_,rfl,by omega,by omega,hj0,.inr ?_,hhi⟩, ?_⟩
   ·rw [wrap_id (by omega) (by omega)]; rfl
   ·rw [show h+1 - 1=h by omega,show n - (h+1)=n - 1 - h by omega,cmpR_flip]; omega
   ·rw [wrap_id (by omega) (by omega)]; omega
  ·simp only [go_sem,uA,uB,uC,uD,uE,uF,uG,uH,uI,uJ,uK,uL,uM,uN,uO,uP,uQ]
   have hd:cmpR (G L (n - 1 - h)) (G L h) < 0:=by simpa using hd
   refine ⟨⟨i,h,rfl,rfl,hi0,by omega,by omega,hlo,.inr hd⟩, ?_⟩
   omega
 ·have hij:i=j:=by have:=of_decide_eq_false hc; omega
  subst hij
  clear hc
  obtain ⟨e,he⟩:∃ e,e=n - i:=⟨_,rfl⟩
  have hwe:IntKind.i64.wrap ((n:Int) - (i:Int))=((e:Nat):Int):=by rw [wrap_id (by omega) (by omega)]; omega
  obtain ⟨A1,hA1e⟩:∃ X,X=A.take (i - a):=⟨_,rfl⟩
  obtain ⟨A2,hA2e⟩:∃ X,X=A.drop (i - a):=⟨_,rfl⟩
  obtain ⟨B1,hB1e⟩:∃ X,X=B.take (e - m):=⟨_,rfl⟩
  obtain ⟨B2,hB2e⟩:∃ X,X=B.drop (e - m):=⟨_,rfl⟩
  have lA1:A1.length=i - a:=by rw [hA1e]; simp; omega
  have lA2:A2.length=m - i:=by rw [hA2e]; simp; omega
  have lB1:B1.length=e - m:=by rw [hB1e]; simp; omega
  have lB2:B2.length=b - e:=by rw [hB2e]; simp; omega
  have eA:A=A1++A2:=by rw [hA1e,hA2e]; simp
  have eB:B=B1++B2:=by rw [hB1e,hB2e]; simp
  have hhalf:∀ x,x∈A1∨x∈B1→∀ y,y∈A2∨y∈B2→cmpR x y≤0:=by
   refine halves (eA ▸ sA) (eB ▸ sB) ?_ ?_
   ·by_cases q1:i=a
    ·left; exact List.length_eq_zero_iff.1 (by omega)
    ·by_cases q2:e=b
     ·right; left; exact List.length_eq_zero_iff.1 (by omega)
     ·right; right
      have hlo:cmpR (G L (i - 1)) (G L (n - i))≤0:=by
       rcases hlo with q | q
       ·omega
       ·exact q
      rw [gA (i - 1) (by omega) (by omega),gB (n - i) (by omega) (by omega)] at hlo
      refine ⟨_,_,_,_,hA1e.trans (take_last (by omega) (by omega)),hB2e.trans (drop_first (by omega)), ?_⟩
      have e1:A[i - a - 1]'(by omega)=A[i - 1 - a]'(by omega):=by congr 1; omega
      have e2:B[e - m]'(by omega)=B[n - i - m]'(by omega):=by congr 1; omega
      rw [e1,e2]; exact hlo
   ·by_cases q1:i=m
    ·left; exact List.length_eq_zero_iff.1 (by omega)
    ·by_cases q2:e=m
     ·right; left; exact List.length_eq_zero_iff.1 (by omega)
     ·right; right
      have hhi:cmpR (G L (n - 1 - i)) (G L i) < 0:=by
       rcases hhi with q | q
       ·omega
       ·exact q
      rw [gB (n - 1 - i) (by omega) (by omega),gA i (by omega) (by omega)] at hhi
      refine ⟨_,_,_,_,hB1e.trans (take_last (by omega) (by omega)),hA2e.trans (drop_first (by omega)), ?_⟩
      have e1:B[e - m - 1]'(by omega)=B[n - 1 - i - m]'(by omega):=by congr 1; omega
      rw [e1]; omega
  clear hlo hhi gA gB hwp hwb hs0e hr0e
  obtain ⟨sA1,sA2⟩:SrtR A1∧SrtR A2:=by rw [hA1e,hA2e]; exact sorted_sub sA _
  obtain ⟨sB1,sB2⟩:SrtR B1∧SrtR B2:=by rw [hB1e,hB2e]; exact sorted_sub sB _
  clear hA1e hA2e hB1e hB2e
  have hL1:L=P++(A1++(A2++(B1++(B2++S)))):=by rw [hL,eA,eB]; simp
  have hN2:P.length+A1.length+A2.length+B1.length+B2.length+S.length=N:=by rw [← hN,hL1]; simp; omega
  obtain ⟨h2,hh2⟩:∃ h2,h2=st (P++(A1++(B1++(A2++(B2++S))))):=⟨_,rfl⟩
  have hrot:i < m→m < e→ACall Tryz.prog 143 [.sl t g 4 0 N,.int .i64 i,.int .i64 m,.int .i64 e,cmpF] H1 (fun r H'=>r=.tup []∧H'=h2):=by
   intro q1 q2
   have e1:L=(P++A1)++(A2++(B1++(B2++S))):=by rw [hL1]; simp
   refine (rotate_ok (P++A1) A2 B1 (B2++S) t g N H1 cmpF (by rw [← e1]; exact hN) hn (fun z=>by rw [z] at lA2; simp at lA2; omega) (fun z=>by rw [z] at lB1; simp at lB1; omega) (by rw [← e1]; exact ht) i m e (by rw [List.length_append]; omega) (by rw [List.length_append]; omega) (by rw [List.length_append]; omega)).mono ?_
   rintro _ _ ⟨rfl,rfl⟩
   exact ⟨rfl,by rw [hh2,hst]; simp⟩
  have hno:¬ (i < m∧m < e)→H1=h2:=by
   intro q
   have:P++(A1++(B1++(A2++(B2++S))))=L:=by
    rw [hL1]
    by_cases q1:i < m
    ·have:B1=[]:=List.length_eq_zero_iff.1 (by omega)
     rw [this]; simp
    ·have:A2=[]:=List.length_eq_zero_iff.1 (by omega)
     rw [this]; simp
   rw [hh2,this,hst,heap_same ht]
  have ht2:h2[t]? = some (.arr g 4 (rowsA (P++(A1++(B1++(A2++(B2++S))))))):=by rw [hh2,hst]; exact hset _
  have hs2:∀ X,h2.set t (.arr g 4 (rowsA X))=st X:=fun X=>by rw [hh2,hst,hst,List.set_set]
  have hs3:∀ Y X,(st Y).set t (.arr g 4 (rowsA X))=st X:=fun Y X=>by rw [hst,hst,List.set_set]
  have hst2:∀ X,(st X)[t]? = some (.arr g 4 (rowsA X)):=fun X=>by rw [hst]; exact hset _
  have hL2l:(P++(A1++(B1++(A2++(B2++S))))).length=N:=by rw [← hN2]; simp; omega
  have hl2:t < h2.length:=(List.getElem?_eq_some_iff.1 ht2).1
  have okM:∀ M:List Rw,(∀ x∈M,x∈A++B)→∀ r∈M,RwOk r:=fun M q r hr=>hok r (q r hr)
  -- the left part
  have hleft:a < i→i < mid→ACall Tryz.prog 115 [.sl t g 4 0 N,.int .i64 a,.int .i64 i,.int .i64 mid,cmpF] h2 (fun r H'=>r=.tup []∧∃ M1,M1.Perm (A1++B1)∧SrtR M1∧H'=st (P++(M1++(A2++(B2++S))))):=by
   intro q1 q2
   refine (ih P A1 B1 (A2++(B2++S)) t g N h2 (by omega) hL2l hn (fun r hr=>hok r (by rw [eA,eB]; simp at hr ⊢; rcases hr with q | q; exact .inl q; exact .inr (.inr (.inl q)))) (fun z=>by rw [z] at lA1; simp at lA1; omega) (fun z=>by rw [z] at lB1; simp at lB1; omega) sA1 sB1 ht2 a i mid ha (by omega) (by omega)).mono ?_
   rintro _ _ ⟨rfl,M1,m1,m2,rfl⟩
   exact ⟨rfl,M1,m1,m2,hs2 _⟩
  have hlno:¬ (a < i∧i < mid)→∃ M1,M1.Perm (A1++B1)∧SrtR M1∧h2=st (P++(M1++(A2++(B2++S)))):=by
   intro q
   refine ⟨A1++B1,.refl _, ?_,by rw [hh2]; simp⟩
   by_cases q1:a < i
   ·have:B1=[]:=List.length_eq_zero_iff.1 (by omega)
    rw [this]; simpa using sA1
   ·have:A1=[]:=List.length_eq_zero_iff.1 (by omega)
    rw [this]; simpa using sB1
  have hright:mid < e→e < b→∀ M1:List Rw,M1.Perm (A1++B1)→SrtR M1→ACall Tryz.prog 115 [.sl t g 4 0 N,.int .i64 mid,.int .i64 e,.int .i64 b,cmpF] (st (P++(M1++(A2++(B2++S))))) (fun r H'=>r=.tup []∧∃ M,M.Perm (A++B)∧SrtR M∧H'=st (P++(M++S))):=by
   intro q1 q2 M1 m1 m2
   have lM1:M1.length=A1.length+B1.length:=by rw [m1.length_eq]; simp
   have e1:P++(M1++(A2++(B2++S)))=(P++M1)++(A2++(B2++S)):=by simp
   rw [e1]
   refine (ih (P++M1) A2 B2 S t g N _ (by omega) (by rw [← hN2]; simp; omega) hn (fun r hr=>hok r (by rw [eA,eB]; simp at hr ⊢; rcases hr with q | q; exact .inr (.inl q); exact .inr (.inr (.inr q)))) (fun z=>by rw [z] at lA2; simp at lA2; omega) (fun z=>by rw [z] at lB2; simp at lB2; omega) sA2 sB2 (hst2 _) mid e b (by rw [List.length_append]; omega) (by omega) (by omega)).mono ?_
   rintro _ _ ⟨rfl,M2,n1,n2,rfl⟩
   refine ⟨rfl,M1++M2, ?_, ?_,by rw [hs3]; simp⟩
   ·refine (m1.append n1).trans ?_
    rw [eA,eB]
    simp only [List.append_assoc]
    refine List.Perm.append_left _ ?_
    rw [← List.append_assoc,← List.append_assoc A2]
    exact List.Perm.append_right _ List.perm_append_comm
   ·refine srtR_app.2 ⟨m2,n2,fun x hx y hy=>hhalf x ?_ y ?_⟩
    ·exact List.mem_append.1 (m1.subset hx)
    ·exact List.mem_append.1 (n1.subset hy)
  have hrno:¬ (mid < e∧e < b)→∀ M1:List Rw,M1.Perm (A1++B1)→SrtR M1→∃ M,M.Perm (A++B)∧SrtR M∧st (P++(M1++(A2++(B2++S))))=st (P++(M++S)):=by
   intro q M1 m1 m2
   refine ⟨M1++(A2++B2), ?_, ?_,by simp⟩
   ·refine (m1.append_right _).trans ?_
    rw [eA,eB]
    simp only [List.append_assoc]
    refine List.Perm.append_left _ ?_
    rw [← List.append_assoc,← List.append_assoc A2]
    exact List.Perm.append_right _ List.perm_append_comm
   ·refine srtR_app.2 ⟨m2, ?_,fun x hx y hy=>hhalf x (List.mem_append.1 (m1.subset hx)) y (List.mem_append.1 hy)⟩
    by_cases q1:mid < e
    ·have:B2=[]:=List.length_eq_zero_iff.1 (by omega)
     rw [this]; simpa using sA2
    ·have:A2=[]:=List.length_eq_zero_iff.1 (by omega)
     rw [this]; simpa using sB2
  clear hhalf ih hs2 hh2 hL2l ht2 sA1 sA2 sB1 sB2 okM
  simp only [go_sem,hwe,uA,uB,uC,uD,uE,uF,uG,uH,uI,uJ,uK,uL,uM,uN,uO,uP,uQ]
  refine acond_over rfl rfl [186,187,188,189,190,191] (fun e h'=>h'=h2) (fun _ _ _=>False) (fun hb R hR _=>?_) (fun hb R hR _=>?_) (fun _ _ _ f=>f.elim) ?_
  ·have q:i < m∧m < e:=by simp at hb; omega
   simp only [go_sem,uA,uB,uC,uD,uE,uF,uG,uH,uI,uJ,uK,uL,uM,uN,uO,uP,uQ]
   refine ACallT.by (hrot q.1 q.2) ?_
   rintro _ _ ⟨rfl,rfl⟩
   simp only [go_sem,uA,uB,uC,uD,uE,uF,uG,uH,uI,uJ,uK,uL,uM,uN,uO,uP,uQ]
   refine hR _ _ ?_ rfl
   simp only [go_sem,uA,uB,uC,uD,uE,uF,uG,uH,uI,uJ,uK,uL,uM,uN,uO,uP,uQ]
  ·have q:¬ (i < m∧m < e):=fun q=>by simp at hb; omega
   simp only [go_sem,uA,uB,uC,uD,uE,uF,uG,uH,uI,uJ,uK,uL,uM,uN,uO,uP,uQ]
   refine hR _ _ ?_ (hno q)
   simp only [go_sem,uA,uB,uC,uD,uE,uF,uG,uH,uI,uJ,uK,uL,uM,uN,uO,uP,uQ]
  clear hno hrot
  simp (config:={ maxSteps:=10000000 }) only [List.length_cons,List.length_nil,Nat.reduceAdd,allL_succ,allL_zero]
  intro y186 y187 y188 y189 y190 y191 h3 hI
  obtain rfl:h3=h2:=hI
  simp only [go_sem,uA,uB,uC,uD,uE,uF,uG,uH,uI,uJ,uK,uL,uM,uN,uO,uP,uQ]
  refine acond_over rfl rfl [200,201,202,203,204,205] (fun e h'=>∃ M1,M1.Perm (A1++B1)∧SrtR M1∧h'=st (P++(M1++(A2++(B2++S))))) (fun _ _ _=>False) (fun hb R hR _=>?_) (fun hb R hR _=>?_) (fun _ _ _ f=>f.elim) ?_
  ·have q:a < i∧i < mid:=by simp at hb; omega
   simp only [go_sem,uA,uB,uC,uD,uE,uF,uG,uH,uI,uJ,uK,uL,uM,uN,uO,uP,uQ]
   refine ACallT.by (hleft q.1 q.2) ?_
   rintro _ _ ⟨rfl,M1,m1,m2,rfl⟩
   simp only [go_sem,uA,uB,uC,uD,uE,uF,uG,uH,uI,uJ,uK,uL,uM,uN,uO,uP,uQ]
   refine hR _ _ ?_ ⟨M1,m1,m2,rfl⟩
   simp only [go_sem,uA,uB,uC,uD,uE,uF,uG,uH,uI,uJ,uK,uL,uM,uN,uO,uP,uQ]
  ·have q:¬ (a < i∧i < mid):=fun q=>by simp at hb; omega
   simp only [go_sem,uA,uB,uC,uD,uE,uF,uG,uH,uI,uJ,uK,uL,uM,uN,uO,uP,uQ]
   refine hR _ _ ?_ (hlno q)
   simp only [go_sem,uA,uB,uC,uD,uE,uF,uG,uH,uI,uJ,uK,uL,uM,uN,uO,uP,uQ]
  clear hlno hleft
  simp (config:={ maxSteps:=10000000 }) only [List.length_cons,List.length_nil,Nat.reduceAdd,allL_succ,allL_zero]
  intro y200 y201 y202 y203 y204 y205 h4 hI
  obtain ⟨M1,m1,m2,rfl⟩:=hI
  simp only [go_sem,uA,uB,uC,uD,uE,uF,uG,uH,uI,uJ,uK,uL,uM,uN,uO,uP,uQ]
  refine acond_intro (fun hb=>?_) (fun hb=>?_)
  ·have q:mid < e∧e < b:=by simp at hb; omega
   simp only [go_sem,uA,uB,uC,uD,uE,uF,uG,uH,uI,uJ,uK,uL,uM,uN,uO,uP,uQ]
   refine ACallT.by (hright q.1 q.2 M1 m1 m2) ?_
   rintro _ _ ⟨rfl,M,n1,n2,rfl⟩
   simp only [go_sem,uA,uB,uC,uD,uE,uF,uG,uH,uI,uJ,uK,uL,uM,uN,uO,uP,uQ]
   exact Fin_plain ⟨rfl,M,n1,n2,rfl⟩
  ·have q:¬ (mid < e∧e < b):=fun q=>by simp at hb; omega
   obtain ⟨M,n1,n2,en⟩:=hrno q M1 m1 m2
   simp only [go_sem,uA,uB,uC,uD,uE,uF,uG,uH,uI,uJ,uK,uL,uM,uN,uO,uP,uQ]
   exact Fin_plain ⟨rfl,M,n1,n2,en⟩
end Go.Proofs.Vale
set_option maxHeartbeats 4000000
namespace Go.Proofs.Vale
open Go.Proofs Go.Proofs.YtplehleekabbaaaGreatDoorT
attribute [local irreducible] acode aopsL aopsT dopsL dopsT pop popG aop ALoop ADraw ACall AWP AFin acondT ALoopT ADrawT ACallT doP doG doGd frL frT frX
def BlkS (k:Nat) (Es:List (List Rw)):Prop:=∀ E∈Es,E.length=k∧SrtR E
theorem blk_cons {k:Nat} {E:List Rw} {Es:List (List Rw)}:BlkS k (E::Es)↔(E.length=k∧SrtR E)∧BlkS k Es:=by simp [BlkS]
theorem blk_snoc {k:Nat} {E:List Rw} {Es:List (List Rw)} (h:BlkS k Es) (h1:E.length=k) (h2:SrtR E):BlkS k (Es++[E]):=fun X hX=>by
 rcases List.mem_append.1 hX with q | q
 ·exact h X q
 ·obtain rfl:X=E:=by simpa using q
  exact ⟨h1,h2⟩
theorem stable_ok (M : List Rw) (t g N : Nat) (H : List AObj) (hN : M.length = N) (hn : N ≤ 1000000) (hok : ∀ r ∈ M, RwOk r) (ht : H[t]? = some (.arr g 4 (rowsA M))) :
  ACall Tryz.prog 89 [.sl t g 4 0 N,.int .i64 N,cmpF] H (fun r H'=>r=.tup []∧∃ M',M'.Perm M∧SrtR M'∧H'=H.set t (.arr g 4 (rowsA M'))):=by
 have htl:t < H.length:=(List.getElem?_eq_some_iff.1 ht).1
 have hset:∀ v:AObj,(H.set t v)[t]? = some v:=fun v=>List.getElem?_set_self htl
 have okP:∀ {L:List Rw},L.Perm M→∀ r∈L,RwOk r:=fun p r hr=>hok r (p.subset hr)
 obtain ⟨st,hst⟩:∃ st:List Rw→List AObj,∀ X,st X=H.set t (.arr g 4 (rowsA X)):=⟨_,fun _=>rfl⟩
 have hs2:∀ X,(st X)[t]? = some (.arr g 4 (rowsA X)):=fun X=>by rw [hst]; exact hset _
 have hs3:∀ Y X,(st Y).set t (.arr g 4 (rowsA X))=st X:=fun Y X=>by rw [hst,hst,List.set_set]
 have hs0:H=st M:=by rw [hst,heap_same ht]
 refine ACall.mono (K:=fun r H'=>r=.tup []∧∃ M',M'.Perm M∧SrtR M'∧H'=st M') ?_ (by rintro _ _ ⟨rfl,M',m1,m2,rfl⟩; exact ⟨rfl,M',m1,m2,hst _⟩)
 rw [hs0]
 (refine ACall.of_code Tryz.func89 rfl ?_; simp only [Tryz.f89]; simp only [go_sem,uA,uB,uC,uD,uE,uF,uG,uH,uI,uJ,uK,uL,uM,uN,uO,uP,uQ])
 refine ALoop.over [7,8,11,12,13,14,15,16,17,18,19,20,21,22] (fun e H'=>∃ (Es:List (List Rw)) (T:List Rw),e.getD 7 .any=.int .i64 Es.flatten.length∧e.getD 8 .any=.int .i64 (Es.flatten.length+20:Nat)∧(Es.flatten++T).Perm M∧BlkS 20 Es∧H'=st (Es.flatten++T)) (fun e _=>N+20 - natA (e.getD 8 .any)) ⟨[],M,rfl,rfl,.refl _,by simp [BlkS],rfl⟩ ?_
 simp only [List.length_cons,List.length_nil,Nat.reduceAdd,allL_succ,allL_zero]
 intro y7 y8 y11 y12 y13 y14 y15 y16 y17 y18 y19 y20 y21 y22 H1 hI
 simp only [go_sem] at hI
 obtain ⟨Es,T,rfl,rfl,hp,hb,rfl⟩:=hI
 obtain ⟨D,hD⟩:∃ D,D=Es.flatten:=⟨_,rfl⟩
 rw [← hD] at hp ⊢
 have hDT:D.length+T.length=N:=by rw [← hN,← hp.length_eq]; simp
 have hok1:=okP hp
 simp only [go_sem,uA,uB,uC,uD,uE,uF,uG,uH,uI,uJ,uK,uL,uM,uN,uO,uP,uQ]
 refine acond_intro (fun hc=>?_) (fun hc=>?_)
 ·have hle:D.length+20≤N:=by have:=of_decide_eq_true hc; omega
  have hl:(T.take 20).length=20:=by simp; omega
  have e1:D++T=D++(T.take 20++T.drop 20):=by simp
  have hk:=insSort2 D (T.take 20) (T.drop 20) t g N (st (D++T)) (by rw [← e1]; simpa using hDT) (by omega) (fun r hr=>hok1 r (by simp [List.mem_of_mem_take hr])) (by rw [← e1]; exact hs2 _)
  rw [hl] at hk
  simp only [go_sem,uA,uB,uC,uD,uE,uF,uG,uH,uI,uJ,uK,uL,uM,uN,uO,uP,uQ]
  refine ACallT.by hk ?_
  rintro _ _ ⟨rfl,M',p1,s1,rfl⟩
  simp only [go_sem,hs3,uA,uB,uC,uD,uE,uF,uG,uH,uI,uJ,uK,uL,uM,uN,uO,uP,uQ]
  have hl':M'.length=20:=by rw [p1.length_eq,hl]
  have e2:(Es++[M']).flatten=D++M':=by simp [hD]
  refine ⟨⟨Es++[M'],T.drop 20, ?_, ?_, ?_,blk_snoc hb hl' s1, ?_⟩, ?_⟩
  ·rw [e2,List.length_append,hl']
  ·rw [e2,List.length_append,hl',wrap_id (by omega) (by omega)]; rfl
  ·rw [e2]
   refine List.Perm.trans ?_ hp
   rw [List.append_assoc,e1]
   exact List.Perm.append_left _ (List.Perm.append_right _ p1)
  ·rw [e2,List.append_assoc]
  ·rw [wrap_id (by omega) (by omega)]; omega
 ·have hlt:T.length < 20:=by have:=of_decide_eq_false hc; omega
  have hk:=insSort2 D T [] t g N (st (D++T)) (by simpa using hDT) (by omega) (fun r hr=>hok1 r (by simp [hr])) (by simpa using hs2 (D++T))
  rw [hDT] at hk
  simp only [go_sem,uA,uB,uC,uD,uE,uF,uG,uH,uI,uJ,uK,uL,uM,uN,uO,uP,uQ]
  refine ACallT.by hk ?_
  rintro _ _ ⟨rfl,T',p1,s1,rfl⟩
  have hT':T'.length < 20:=by rw [p1.length_eq]; exact hlt
  have hp1:(D++T').Perm M:=(List.Perm.append_left _ p1).trans hp
  simp only [List.append_nil,hs3]
  clear hk hlt hp hok1 hDT hc
  simp only [go_sem,uA,uB,uC,uD,uE,uF,uG,uH,uI,uJ,uK,uL,uM,uN,uO,uP,uQ]
  refine ALoop.over [6,7,8,9,28,29,30,31,32,33,34,35,36,37,38,39,40,41,42,43,44,45,46,47,48,49,50,51,52,53,54,55,56,57,58,59,60,61,62] (fun e H'=>∃ (k:Nat) (Es:List (List Rw)) (R:List Rw),e.getD 6 .any=.int .i64 k∧20≤k∧k≤2 * N+20∧(Es.flatten++R).Perm M∧BlkS k Es∧R.length < k∧SrtR R∧H'=st (Es.flatten++R)) (fun e _=>2 * N+21 - natA (e.getD 6 .any)) ⟨20,Es,T',rfl,Nat.le_refl _,by omega,by rw [← hD]; exact hp1,hb,hT',s1,by rw [← hD]⟩ ?_
  clear hb hT' s1 hp1 p1 hD
  simp only [List.length_cons,List.length_nil,Nat.reduceAdd,allL_succ,allL_zero]
  intro y6 y7 y8 y9 y28 y29 y30 y31 y32 y33 y34 y35 y36 y37 y38 y39 y40 y41 y42 y43 y44 y45 y46 y47 y48 y49 y50 y51 y52 y53 y54 y55 y56 y57 y58 y59 y60 y61 y62 H1 hI
  simp only [go_sem] at hI
  obtain ⟨k,Es,R,rfl,hk20,hkN,hp,hb,hR,sR,rfl⟩:=hI
  simp only [go_sem,uA,uB,uC,uD,uE,uF,uG,uH,uI,uJ,uK,uL,uM,uN,uO,uP,uQ]
  refine acond_intro (fun hc=>?_) (fun hc=>?_)
  ·have hkn:k < N:=by have:=of_decide_eq_true hc; omega
   have w2:IntKind.i64.wrap (2 * (k:Int))=((2 * k:Nat):Int):=by rw [wrap_id (by omega) (by omega)]; omega
   have w3:IntKind.i64.wrap ((k:Int) * 2)=((2 * k:Nat):Int):=by rw [wrap_id (by omega) (by omega)]; omega
   simp only [go_sem,w2,uA,uB,uC,uD,uE,uF,uG,uH,uI,uJ,uK,uL,uM,uN,uO,uP,uQ]
   refine ALoop.over [7,8,33,34,35,36,37,38,39,40,41,42,43,44,45,46,47,48] (fun e H'=>∃ (Ds Es:List (List Rw)) , e.getD 7 .any=.int .i64 Ds.flatten.length∧e.getD 8 .any=.int .i64 (Ds.flatten.length+2 * k:Nat)∧(Ds.flatten++(Es.flatten++R)).Perm M∧BlkS (2 * k) Ds∧BlkS k Es∧H'=st (Ds.flatten++(Es.flatten++R))) (fun e _=>N+2 * k - natA (e.getD 8 .any)) ⟨[],Es,rfl,by simp,hp,by simp [BlkS],hb,rfl⟩ ?_
   clear hp hb
   simp only [List.length_cons,List.length_nil,Nat.reduceAdd,allL_succ,allL_zero]
   intro y7 y8 y33 y34 y35 y36 y37 y38 y39 y40 y41 y42 y43 y44 y45 y46 y47 y48 H1 hI
   simp only [go_sem] at hI
   obtain ⟨Ds,Es,rfl,rfl,hp,hbD,hbE,rfl⟩:=hI
   obtain ⟨D,hD⟩:∃ D,D=Ds.flatten:=⟨_,rfl⟩
   rw [← hD] at hp ⊢
   have hok1:=okP hp
   have hlen:D.length+(Es.flatten.length+R.length)=N:=by rw [← hN,← hp.length_eq]; simp
   have wk:IntKind.i64.wrap ((D.length:Int)+(k:Int))=((D.length+k:Nat):Int):=by rw [wrap_id (by omega) (by omega)]; omega
   simp only [go_sem,uA,uB,uC,uD,uE,uF,uG,uH,uI,uJ,uK,uL,uM,uN,uO,uP,uQ]
   refine acond_intro (fun hc=>?_) (fun hc=>?_)
   ·have hle:D.length+2 * k≤N:=by have:=of_decide_eq_true hc; omega
    match Es,hbE,hp,hok1,hlen with
    | [],_,_,_,hlen=>simp at hlen; omega
    | [E],hbE,_,_,hlen =>
     have:=(hbE E (by simp)).1
     simp at hlen; omega
    | E1::E2::Es,hbE,hp,hok1,hlen =>
     obtain ⟨⟨l1,s1⟩,hb2⟩:=blk_cons.1 hbE
     obtain ⟨⟨l2,s2⟩,hbE'⟩:=blk_cons.1 hb2
     simp only [List.flatten_cons,List.append_assoc] at hp hok1 ⊢
     have hkm:=symMerge_ok _ D E1 E2 (Es.flatten++R) t g N (st (D++(E1++(E2++(Es.flatten++R))))) (Nat.le_refl _) (by rw [← hN,← hp.length_eq]) (by omega) (fun r hr=>hok1 r (by simp at hr ⊢; rcases hr with q | q; exact .inr (.inl q); exact .inr (.inr (.inl q)))) (fun z=>by rw [z] at l1; simp at l1; omega) (fun z=>by rw [z] at l2; simp at l2; omega) s1 s2 (hs2 _) D.length (D.length+k) (D.length+2 * k) rfl (by omega) (by omega)
     simp only [go_sem,wk,uA,uB,uC,uD,uE,uF,uG,uH,uI,uJ,uK,uL,uM,uN,uO,uP,uQ]
     refine ACallT.by hkm ?_
     rintro _ _ ⟨rfl,M',p1,s3,rfl⟩
     have hl':M'.length=2 * k:=by rw [p1.length_eq,List.length_append]; omega
     have e2:(Ds++[M']).flatten=D++M':=by simp [hD]
     simp only [go_sem,hs3,w2,uA,uB,uC,uD,uE,uF,uG,uH,uI,uJ,uK,uL,uM,uN,uO,uP,uQ]
     refine ⟨⟨Ds++[M'],Es, ?_, ?_, ?_,blk_snoc hbD hl' s3,hbE', ?_⟩, ?_⟩
     ·rw [e2,List.length_append,hl']
     ·rw [e2,List.length_append,hl',wrap_id (by omega) (by omega)]; rfl
     ·rw [e2,List.append_assoc]
      refine List.Perm.trans ?_ hp
      refine List.Perm.append_left _ ?_
      rw [← List.append_assoc E1]
      exact List.Perm.append_right _ p1
     ·rw [e2,List.append_assoc]
     ·rw [wrap_id (by omega) (by omega)]; omega
   ·have hgt:N < D.length+2 * k:=by have:=of_decide_eq_false hc; omega
    simp only [go_sem,wk,uA,uB,uC,uD,uE,uF,uG,uH,uI,uJ,uK,uL,uM,uN,uO,uP,uQ]
    refine acond_intro (fun hd=>?_) (fun hd=>?_)
    ·have hmn:D.length+k < N:=by have:=of_decide_eq_true hd; omega
     match Es,hbE,hp,hok1,hlen with
     | [],_,_,_,hlen=>simp at hlen; omega
     | E1::E2::Es,hbE,_,_,hlen =>
      have:=(hbE E1 (by simp)).1
      have:=(hbE E2 (by simp)).1
      simp at hlen; omega
     | [E],hbE,hp,hok1,hlen =>
      obtain ⟨⟨l1,s1⟩,_⟩:=blk_cons.1 hbE
      simp only [List.flatten_cons,List.flatten_nil,List.append_nil,List.length_append] at hp hok1 hlen ⊢
      have hkm:=symMerge_ok _ D E R [] t g N (st (D++(E++R))) (Nat.le_refl _) (by rw [List.append_nil,← hN,← hp.length_eq]) (by omega) (fun r hr=>hok1 r (by simp at hr ⊢; exact .inr hr)) (fun z=>by rw [z] at l1; simp at l1; omega) (fun z=>by rw [z] at hlen; simp at hlen; omega) s1 sR (by rw [List.append_nil]; exact hs2 _) D.length (D.length+k) N rfl (by omega) (by omega)
      simp only [go_sem,uA,uB,uC,uD,uE,uF,uG,uH,uI,uJ,uK,uL,uM,uN,uO,uP,uQ]
      refine ACallT.by hkm ?_
      rintro _ _ ⟨rfl,M',p1,s3,rfl⟩
      have hl':M'.length < 2 * k:=by rw [p1.length_eq,List.length_append]; omega
      simp only [List.append_nil,hs3]
      simp only [go_sem,w3,uA,uB,uC,uD,uE,uF,uG,uH,uI,uJ,uK,uL,uM,uN,uO,uP,uQ]
      refine ⟨⟨2 * k,Ds,M',rfl,by omega,by omega, ?_,hbD,hl',s3,by rw [← hD]⟩, ?_⟩
      ·rw [← hD]; exact (List.Perm.append_left _ p1).trans hp
      ·omega
    ·have hmn:N≤D.length+k:=by have:=of_decide_eq_false hd; omega
     simp only [go_sem,w3,uA,uB,uC,uD,uE,uF,uG,uH,uI,uJ,uK,uL,uM,uN,uO,uP,uQ]
     refine ⟨⟨2 * k,Ds,Es.flatten++R,rfl,by omega,by omega, ?_,hbD, ?_, ?_,by rw [← hD]⟩, ?_⟩
     ·rw [← hD]; exact hp
     ·rw [List.length_append]; omega
     ·match Es,hbE,hlen with
      | [],_,_=>simpa using sR
      | E1::E2::Es,hbE,hlen =>
       have:=(hbE E1 (by simp)).1
       have:=(hbE E2 (by simp)).1
       simp at hlen; omega
      | [E],hbE,hlen =>
       obtain ⟨l1,s1⟩:=hbE E (by simp)
       simp at hlen
       have:R=[]:=List.length_eq_zero_iff.1 (by omega)
       rw [this]; simpa using s1
     ·omega
  ·have hkn:N≤k:=by have:=of_decide_eq_false hc; omega
   have hlen:Es.flatten.length+R.length=N:=by rw [← hN,← hp.length_eq]; simp
   simp only [go_sem,uA,uB,uC,uD,uE,uF,uG,uH,uI,uJ,uK,uL,uM,uN,uO,uP,uQ]
   refine Fin_plain ⟨rfl,_,hp, ?_,rfl⟩
   match Es,hb,hlen with
   | [],_,_=>simpa using sR
   | E1::E2::Es,hbE,hlen =>
    have:=(hbE E1 (by simp)).1
    have:=(hbE E2 (by simp)).1
    simp at hlen; omega
   | [E],hbE,hlen =>
    obtain ⟨l1,s1⟩:=hbE E (by simp)
    simp at hlen
    have:R=[]:=List.length_eq_zero_iff.1 (by omega)
    rw [this]; simpa using s1
theorem sortStable_ok (M : List Rw) (t g : Nat) (H : List AObj) (hn : M.length ≤ 1000000) (hok : ∀ r ∈ M, RwOk r) (ht : H[t]? = some (.arr g 4 (rowsA M))) :
  ACall Tryz.prog 53 [.sl t g 4 0 M.length,cmpF] H (fun r H'=>r=.tup []∧∃ M',M'.Perm M∧SrtR M'∧H'=H.set t (.arr g 4 (rowsA M'))):=by
 (refine ACall.of_code Tryz.func53 rfl ?_; simp only [Tryz.f53]; simp only [go_sem,uA,uB,uC,uD,uE,uF,uG,uH,uI,uJ,uK,uL,uM,uN,uO,uP,uQ])
 refine ACallT.by (stable_ok M t g M.length H rfl hn hok ht) ?_
 rintro _ h2 ⟨rfl,M',hp,hs,hps⟩
 simp only [go_sem,uA,uB,uC,uD,uE,uF,uG,uH,uI,uJ,uK,uL,uM,uN,uO,uP,uQ]
 exact Fin_plain ⟨rfl,M',hp,hs,hps⟩
theorem stable_nil (H:List AObj):ACall Tryz.prog 89 [.fz true [],.int .i64 0,cmpF] H (fun r H'=>r=.tup []∧H'=H):=by
 (refine ACall.of_code Tryz.func89 rfl ?_; simp only [Tryz.f89]; simp only [go_sem,uA,uB,uC,uD,uE,uF,uG,uH,uI,uJ,uK,uL,uM,uN,uO,uP,uQ])
 refine ALoop.over [7,8,11,12,13,14,15,16,17,18,19,20,21,22] (fun e H'=>e.getD 7 .any=.int .i64 0∧e.getD 8 .any=.int .i64 20∧H'=H) (fun _ _=>0) ⟨rfl,rfl,rfl⟩ ?_
 simp only [List.length_cons,List.length_nil,Nat.reduceAdd,allL_succ,allL_zero]
 intro y7 y8 y11 y12 y13 y14 y15 y16 y17 y18 y19 y20 y21 y22 H1 hI
 simp only [go_sem] at hI
 obtain ⟨rfl,rfl,rfl⟩:=hI
 simp only [go_sem,uA,uB,uC,uD,uE,uF,uG,uH,uI,uJ,uK,uL,uM,uN,uO,uP,uQ]
 refine ACallT.by (insSort_nil _) ?_
 rintro _ H3 ⟨rfl,rfl⟩
 simp only [go_sem,uA,uB,uC,uD,uE,uF,uG,uH,uI,uJ,uK,uL,uM,uN,uO,uP,uQ]
 refine ALoop.over [6,7,8,9,28,29,30,31,32,33,34,35,36,37,38,39,40,41,42,43,44,45,46,47,48,49,50,51,52,53,54,55,56,57,58,59,60,61,62] (fun e H'=>e.getD 6 .any=.int .i64 20∧H'=H3) (fun _ _=>0) ⟨rfl,rfl⟩ ?_
 simp only [List.length_cons,List.length_nil,Nat.reduceAdd,allL_succ,allL_zero]
 intro y6 y7 y8 y9 y28 y29 y30 y31 y32 y33 y34 y35 y36 y37 y38 y39 y40 y41 y42 y43 y44 y45 y46 y47 y48 y49 y50 y51 y52 y53 y54 y55 y56 y57 y58 y59 y60 y61 y62 H2 hI
 simp only [go_sem] at hI
 obtain ⟨rfl,rfl⟩:=hI
 simp only [go_sem,uA,uB,uC,uD,uE,uF,uG,uH,uI,uJ,uK,uL,uM,uN,uO,uP,uQ]
 exact Fin_plain ⟨rfl,rfl⟩
theorem sortStable_nil (H:List AObj):ACall Tryz.prog 53 [.fz true [],cmpF] H (fun r H'=>r=.tup []∧H'=H):=by
 (refine ACall.of_code Tryz.func53 rfl ?_; simp only [Tryz.f53]; simp only [go_sem,uA,uB,uC,uD,uE,uF,uG,uH,uI,uJ,uK,uL,uM,uN,uO,uP,uQ])
 refine ACallT.by (stable_nil H) ?_
 rintro _ _ ⟨rfl,rfl⟩
 simp only [go_sem,uA,uB,uC,uD,uE,uF,uG,uH,uI,uJ,uK,uL,uM,uN,uO,uP,uQ]
 exact Fin_plain ⟨rfl,rfl⟩
end Go.Proofs.Vale
namespace Go.Proofs.Vale
open Go.Proofs Go.Proofs.YtplehleekabbaaaGreatDoorT
attribute [local irreducible] acode aopsL aopsT dopsL dopsT pop popG aop ALoop ADraw ACall AWP AFin acondT ALoopT ADrawT ACallT doP doG doGd frL frT frX
theorem stepR_far {out:List Rw} {r:Rw} (hl:∀ x∈out,x.2.1.length=r.2.1.length) (h:∀ x∈out,cmpR x r < 0):stepR out r=(0,out++[r]):=by
 have hp:posR out r=out.length:=(posR_eq r out out.length (Nat.le_refl _) (fun j hj=>by
  rw [G_lt hj,lessR_cmp (hl _ (List.getElem_mem _))]
  exact decide_eq_true (h _ (List.getElem_mem _))) (fun q=>by omega)).symm
 unfold stepR
 rw [hp,if_neg (fun q=>by omega)]
 simp
theorem stepR_near {U:List Rw} {u r:Rw} (hl:∀ x∈U++[u],x.2.1.length=r.2.1.length) (hs:SrtS (U++[u])) (hk:cmpR u r=0):stepR (U++[u]) r=if joinC u r=0 then (0,U++[joinR u r]) else (joinC u r,[]):=by
 have hG:G (U++[u]) U.length=u:=by rw [G_lt (by simp)]; simp
 have hp:posR (U++[u]) r=U.length:=posR_key hs hl (by simp) (by rw [hG]; exact (cmpR_eq0 _ _).1 hk)
 unfold stepR
 rw [hp,hG,if_pos ⟨by simp,(keyB_iff _ _).2 ((cmpR_eq0 _ _).1 hk)⟩]
 simp
theorem rowsA_last (U:List Rw) (u:Rw) (k:Nat) (hk:k=U.length):(rowsA (U++[u])).getD k .any=.agg [.int .i64 u.1,.fz false (strs u.2.1),.int .i64 u.2.2.1,.fz false (a3s u.2.2.2)]:=get_mid U u [] k hk
theorem set_last (U:List Rw) (u v:Rw) (k:Nat) (hk:k=U.length):(rowsA (U++[u])).set k (rowA v)=rowsA (U++[v]):=by
 subst hk
 have hl:U.length=(rowsA U).length:=(rowsA_len U).symm
 rw [rowsA_app,hl,List.set_append_right _ _ (by omega),rowsA_app]; simp [rowsA]
theorem pfold_own (L : List Rw) (p q t g : Nat) (H0 : List AObj) (hn : L.length ≤ 1000000) (hp : p ≤ 1000) (hq : q ≤ 1000) (hL : ∀ r ∈ L, RwN p q r) (ht : H0[t]? = some (.arr g 4 (rowsA L))) :
  ACall Tryz.prog 25 [.sl t g 4 0 L.length] H0 (fun r H'=>(∀ i,i < H0.length→H'[i]? = H0[i]?)∧∃ M,M.Perm L∧SrtR M∧∃ X,r=.tup [X,.int .i64 (foldF M).1]∧OutR H0.length H' (foldF M).2 X):=by
 have htl:t < H0.length:=(List.getElem?_eq_some_iff.1 ht).1
 have hb:∀ r∈L,r.2.1.length≤2000000000000∧r.2.2.2.length≤2000000000000:=fun r hr=>by have:=(hL r hr).1; exact ⟨by have:=this.1; omega,by have:=this.2; omega⟩
 (refine ACall.of_code Tryz.func25 rfl ?_; simp only [Tryz.f25]; simp only [go_sem,uA,uB,uC,uD,uE,uF,uG,uH,uI,uJ,uK,uL,uM,uN,uO,uP,uQ])
 refine ACallT.by (copy_sl L t g H0 (by omega) hb ht) ?_
 rintro r H1 ⟨hold1,⟨rfl,rfl⟩ | ⟨u0,g0,rfl,hu0,hu1⟩⟩
 ·simp only [go_sem,uA,uB,uC,uD,uE,uF,uG,uH,uI,uJ,uK,uL,uM,uN,uO,uP,uQ]
  refine ACallT.by (sortStable_nil H1) ?_
  rintro _ _ ⟨rfl,rfl⟩
  simp only [go_sem,uA,uB,uC,uD,uE,uF,uG,uH,uI,uJ,uK,uL,uM,uN,uO,uP,uQ]
  refine ALoop.over [2,3,4,6,7,8,9,16,17,18,19,20,21,22,23,24,25,26,27,28,29,30,31,32,33,34,35,36,37,38,39,40,41,42,43,44,45,46,47,48,49,50,51,52,53,54,55,56] (fun e H'=>e.getD 4 .any=.fz true []∧e.getD 16 .any=.int .i64 0∧(∀ i,i < H0.length→H'[i]? = H0[i]?)) (fun _ _=>0) ⟨rfl,rfl,hold1⟩ ?_
  simp only [List.length_cons,List.length_nil,Nat.reduceAdd,allL_succ,allL_zero]
  intro y2 y3 y4 y6 y7 y8 y9 y16 y17 y18 y19 y20 y21 y22 y23 y24 y25 y26 y27 y28 y29 y30 y31 y32 y33 y34 y35 y36 y37 y38 y39 y40 y41 y42 y43 y44 y45 y46 y47 y48 y49 y50 y51 y52 y53 y54 y55 y56 H2 hI
  simp only [go_sem] at hI
  obtain ⟨rfl,rfl,hold2⟩:=hI
  have hz:((0:Nat):Int)=0:=rfl
  simp only [go_sem,hz,uA,uB,uC,uD,uE,uF,uG,uH,uI,uJ,uK,uL,uM,uN,uO,uP,uQ]
  exact Fin_plain ⟨hold2,[],.refl _,by simp [SrtR],.fz true [],rfl,.inl ⟨rfl,rfl⟩⟩
 have hle1:H0.length≤H1.length:=by have:=(List.getElem?_eq_some_iff.1 hu1).1; omega
 simp only [go_sem,uA,uB,uC,uD,uE,uF,uG,uH,uI,uJ,uK,uL,uM,uN,uO,uP,uQ]
 refine ACallT.by (sortStable_ok L u0 g0 H1 hn (fun r hr=>⟨by have:=(hb r hr).1; omega,by have:=(hb r hr).2; omega⟩) hu1) ?_
 rintro _ _ ⟨rfl,M,hpm,hsm,rfl⟩
 have hML:M.length=L.length:=hpm.length_eq
 rw [← hML]
 have hM:∀ r∈M,RwN p q r:=fun r hr=>hL r (hpm.subset hr)
 have hM1:∀ r∈M,FoOk p q r:=fun r hr=>(hM r hr).1
 obtain ⟨H2,hH2⟩:∃ H2,H2=H1.set u0 (.arr g0 4 (rowsA M)):=⟨_,rfl⟩
 have hl2:H2.length=H1.length:=by rw [hH2]; simp
 have hu2:H2[u0]? = some (.arr g0 4 (rowsA M)):=by rw [hH2]; exact List.getElem?_set_self (List.getElem?_eq_some_iff.1 hu1).1
 have hold2:∀ i,i < H0.length→H2[i]? = H0[i]? := fun i hi=>by rw [hH2,List.getElem?_set_ne (by omega)]; exact hold1 i hi
 have hu2l:=(List.getElem?_eq_some_iff.1 hu2).1
 rw [← hH2]
 clear hH2 hold1 hu1 ht hL hb
 simp only [go_sem,uA,uB,uC,uD,uE,uF,uG,uH,uI,uJ,uK,uL,uM,uN,uO,uP,uQ]
 refine ALoop.over [2,3,4,6,7,8,9,16,17,18,19,20,21,22,23,24,25,26,27,28,29,30,31,32,33,34,35,36,37,38,39,40,41,42,43,44,45,46,47,48,49,50,51,52,53,54,55,56] (fun e H'=>∃ (i:Nat) (X:AV) (out:List Rw),e.getD 16 .any=.int .i64 i∧i≤M.length∧e.getD 4 .any=X∧foldF (M.take i)=(0,out)∧out.length≤i∧(∀ i,i < H2.length→H'[i]? = H2[i]?)∧H2.length≤H'.length∧OutR H2.length H' out X) (fun e _=>M.length - natA (e.getD 16 .any)) ⟨0,_,[],rfl,Nat.zero_le _,rfl,rfl,Nat.le_refl _,fun _ _=>rfl,Nat.le_refl _,.inl ⟨rfl,rfl⟩⟩ ?_
 simp only [List.length_cons,List.length_nil,Nat.reduceAdd,allL_succ,allL_zero]
 intro y2 y3 y4 y6 y7 y8 y9 y16 y17 y18 y19 y20 y21 y22 y23 y24 y25 y26 y27 y28 y29 y30 y31 y32 y33 y34 y35 y36 y37 y38 y39 y40 y41 y42 y43 y44 y45 y46 y47 y48 y49 y50 y51 y52 y53 y54 y55 y56 H hI
 simp only [go_sem] at hI
 obtain ⟨i,X,out,rfl,hiM,rfl,hf,hol,hold,hHl,hX⟩:=hI
 have hT:=(hold u0 hu2l).trans hu2
 have hT':∀ x,(H++x)[u0]? = _:=fun x=>(List.getElem?_append_left (by omega)).trans hT
 simp only [go_sem,uA,uB,uC,uD,uE,uF,uG,uH,uI,uJ,uK,uL,uM,uN,uO,uP,uQ]
 refine acond_intro (fun hc=>?_) (fun hc=>?_)
 ·have hlt:i < M.length:=by have:=of_decide_eq_true hc; omega
  have hr:=rowsA_get M i hlt
  have hrN:=hM M[i] (List.getElem_mem _)
  have hro:=hM1 M[i] (List.getElem_mem _)
  have hsn:=foldF_snoc M i hlt
  rw [hf] at hsn
  have hsn:foldF (M.take (i+1))=stepR out M[i]:=hsn
  obtain ⟨sO,oO,-,kO⟩:=foldF_tot fin_id (fun x hx=>hM x (List.mem_of_mem_take hx)) hf
  have hlO:∀ x∈out,x.2.1.length=M[i].2.1.length:=fun x hx=>by rw [(oO x hx).1.1,hro.1]
  have hleO:∀ x∈out,cmpR x M[i]≤0:=by
   intro x hx
   obtain ⟨y,hy,e⟩:=kO x hx
   rw [cmpR_key x _ y _ e rfl]
   obtain ⟨j,hj,rfl⟩:=List.getElem_of_mem hy
   simp at hj
   rw [List.getElem_take]
   exact List.pairwise_iff_getElem.1 hsm j i (by omega) hlt (by omega)
  have hbx:∀ y:AObj,(H++[y])[H.length]? = some y:=fun y=>by simp
  generalize M[i]=R at *
  rcases hX with ⟨rfl,rfl⟩ | ⟨hne,u,g',rfl,hu0',hu⟩
  ·have hst:stepR [] R=(0,[R]):=by simp [stepR,posR]
   rw [hst] at hsn
   have hz:((0:Nat):Int)=0:=rfl
   simp only [go_sem,hT,hr,hz,uA,uB,uC,uD,uE,uF,uG,uH,uI,uJ,uK,uL,uM,uN,uO,uP,uQ]
   refine ⟨⟨by omega,by omega⟩,by omega, ?_⟩
   (refine ADrawT.walk3 [[0],[0],[0],[0],[0],[0],[0],[0],[0],[0,10],[10],[10]] mixedOrdersD (by kernel_rfl) (by kernel_rfl) ?_; simp only [go_sem,uA,uB,uC,uD,uE,uF,uG,uH,uI,uJ,uK,uL,uM,uN,uO,uP,uQ])
   refine ⟨by simp [fmem,Agree], ?_⟩
   refine ⟨fun q=>absurd q (by simp),fun _=>⟨⟨i+1,_,[R], ?_,by omega,rfl,hsn,by simp,fun j hj=>?_,by omega,.inr ⟨by simp,H.length+2,0,rfl,by omega, ?_⟩⟩, ?_⟩⟩
   ·rw [wrap_id (by omega) (by omega)]; rfl
   ·rw [List.getElem?_append_left (by omega)]; exact hold j hj
   ·rw [List.getElem?_append_right (by omega),show H.length+2 - H.length=2 by omega]; rfl
   ·rw [wrap_id (by omega) (by omega)]; omega
  ·obtain ⟨U,w,rfl⟩:∃ U w,out=U++[w]:=by
    rcases List.eq_nil_or_concat out with q | ⟨U,w,q⟩
    ·exact absurd q hne
    ·exact ⟨U,w,by rw [q]; simp⟩
   have hUl:(U++[w]).length=U.length+1:=by simp
   rw [hUl] at hol ⊢
   have huH:=(List.getElem?_eq_some_iff.1 hu).1
   have hU':∀ x,(H++x)[u]? = _:=fun x=>(List.getElem?_append_left huH).trans hu
   have hw1:IntKind.i64.wrap (((U.length+1:Nat):Int) - 1)=(U.length:Int):=by rw [wrap_id (by omega) (by omega)]; omega
   have hz:(((U.length+1:Nat):Int)==0)=false:=beq_eq_false_iff_ne.2 (by omega)
   have glast:=rowsA_last U w U.length rfl
   have okw:=(oO w (by simp)).1
   simp only [go_sem,hT,hr,hz,uA,uB,uC,uD,uE,uF,uG,uH,uI,uJ,uK,uL,uM,uN,uO,uP,uQ]
   refine ⟨⟨by omega,by omega⟩,by omega, ?_⟩
   (refine ADrawT.walk3 [[0],[0],[0],[0],[0],[0],[0],[0],[0],[0,10],[10],[10]] mixedOrdersD (by kernel_rfl) (by kernel_rfl) ?_; simp only [go_sem,uA,uB,uC,uD,uE,uF,uG,uH,uI,uJ,uK,uL,uM,uN,uO,uP,uQ])
   simp only [go_sem,hU',hw1,glast,hz,uA,uB,uC,uD,uE,uF,uG,uH,uI,uJ,uK,uL,uM,uN,uO,uP,uQ]
   refine ⟨⟨by omega,by omega⟩,by omega, ?_⟩
   refine frX_same (.int .i64 (cmpR w R)) ?_ ?_
   ·simp only [go_sem,uA,uB,uC,uD,uE,uF,uG,uH,uI,uJ,uK,uL,uM,uN,uO,uP,uQ]
    exact ACallT.frame (cmpR_ok w R _ (by have:=okw.1; omega) (by have:=hro.1; omega)) fun _ _ e=>by rw [e]; exact ⟨rfl,rfl,rfl⟩
   simp only [go_sem,hU',hw1,glast,hz,uA,uB,uC,uD,uE,uF,uG,uH,uI,uJ,uK,uL,uM,uN,uO,uP,uQ]
   refine ⟨by simp [fmem,Agree,hU'], ?_⟩
   have hwR:=hleO w (by simp)
   refine acond_intro (fun hd=>?_) (fun hd=>?_)
   ·have hlt2:cmpR w R < 0:=by
     have:cmpR w R≠0:=by simpa using hd
     omega
    have hst:stepR (U++[w]) R=(0,(U++[w])++[R]):=by
     refine stepR_far hlO fun x hx=>?_
     rcases List.mem_append.1 hx with q | q
     ·exact cmpR_lt _ _ _ ((List.pairwise_append.1 sO).2.2 x q w (by simp)) hlt2
     ·obtain rfl:x=w:=by simpa using q
      exact hlt2
    rw [hst] at hsn
    simp only [go_sem,hU',hbx,uA,uB,uC,uD,uE,uF,uG,uH,uI,uJ,uK,uL,uM,uN,uO,uP,uQ]
    refine ⟨⟨by omega,by omega⟩,⟨i+1,_,(U++[w])++[R], ?_,by omega,by rw [List.length_append,hUl]; rfl,hsn,by simp; omega,fun j hj=>?_,by first | omega | (simp; omega),.inr ⟨by simp,u,g'+1,rfl,hu0', ?_⟩⟩, ?_⟩
    ·rw [wrap_id (by omega) (by omega)]; rfl
    ·rw [List.getElem?_set_ne (by omega),List.getElem?_append_left (by omega)]; exact hold j hj
    ·rw [List.getElem?_set_self (by simp; omega),rowsA_app (U++[w])]; rfl
    ·rw [wrap_id (by omega) (by omega)]; omega
   ·have heq:cmpR w R=0:=by simpa using hd
    have hst:=stepR_near hlO sO heq
    simp only [go_sem,uA,uB,uC,uD,uE,uF,uG,uH,uI,uJ,uK,uL,uM,uN,uO,uP,uQ]
    (refine ADrawT.walk3 [[0],[0],[0],[0],[0],[0],[0,7,11],[7,11],[7,11],[7,11,12],[0,7,11],[11,12],[12]] mixedOrdersD (by kernel_rfl) (by kernel_rfl) ?_; simp only [go_sem,uA,uB,uC,uD,uE,uF,uG,uH,uI,uJ,uK,uL,uM,uN,uO,uP,uQ])
    simp only [go_sem,hU',hw1,glast,hbx,uA,uB,uC,uD,uE,uF,uG,uH,uI,uJ,uK,uL,uM,uN,uO,uP,uQ]
    refine ⟨⟨by omega,by omega⟩,by omega, ?_⟩
    refine frX_same (.tup [rowA (joinR w R),.int .i64 (joinC w R)]) ?_ ?_
    ·simp only [go_sem,uA,uB,uC,uD,uE,uF,uG,uH,uI,uJ,uK,uL,uM,uN,uO,uP,uQ]
     exact ACallT.frame (rwjoin_ok w R _ (by have:=okw.1; omega) (by have:=hro.1; omega) (by have:=okw.2; omega) (by have:=hro.2; omega)) fun _ _ e=>by rw [e]; exact ⟨by simp [AV.low,lowL,low_row],rfl,rfl⟩
    by_cases hjc:joinC w R=0
    ·rw [if_pos hjc] at hst
     rw [hjc]
     have hJN:FoOk p q (joinR w R):=joinR_ok2 okw hro hjc
     generalize joinR w R=J at *
     simp only [rowA]
     simp only [go_sem,hU',hw1,glast,hbx,uA,uB,uC,uD,uE,uF,uG,uH,uI,uJ,uK,uL,uM,uN,uO,uP,uQ]
     refine ⟨by simp [fmem,Agree,hU'], ?_⟩
     rw [hst] at hsn
     refine ⟨⟨by omega,by omega⟩,by omega,⟨i+1,_,U++[J], ?_,by omega,rfl,hsn,by simp; omega,fun j hj=>?_,by omega,.inr ⟨by simp,u,g',by rw [List.length_append]; rfl,hu0', ?_⟩⟩, ?_⟩
     ·rw [wrap_id (by omega) (by omega)]; rfl
     ·rw [List.getElem?_set_ne (by omega),List.getElem?_append_left (by omega)]; exact hold j hj
     ·rw [List.getElem?_set_self (by simp; omega)]
      exact congrArg (fun z=>some (AObj.arr g' 4 z)) (set_last U w J _ rfl)
     ·rw [wrap_id (by omega) (by omega)]; omega
    ·rw [if_neg hjc] at hst
     have hcd:(joinC w R != 0)=true:=by simpa using hjc
     generalize joinC w R=jc at *
     generalize joinR w R=J at *
     simp only [rowA]
     simp only [go_sem,hU',hw1,glast,hbx,hcd,uA,uB,uC,uD,uE,uF,uG,uH,uI,uJ,uK,uL,uM,uN,uO,uP,uQ]
     refine ⟨by simp [fmem,Agree,hU'], ?_⟩
     rw [hst] at hsn
     have hfin:foldF M=(jc,[]):=(foldF_err M (i+1) (by rw [hsn]; exact hjc)).trans hsn
     refine Fin_plain ⟨fun j hj=>?_,M,hpm,hsm,.fz true [],by rw [hfin],.inl ⟨by rw [hfin],rfl⟩⟩
     rw [List.getElem?_append_left (by omega)]
     exact (hold j (by omega)).trans (hold2 j hj)
 ·obtain rfl:i=M.length:=by have:=of_decide_eq_false hc; omega
  rw [List.take_length] at hf
  simp only [go_sem,uA,uB,uC,uD,uE,uF,uG,uH,uI,uJ,uK,uL,uM,uN,uO,uP,uQ]
  refine Fin_plain ⟨fun j hj=>(hold j (by omega)).trans (hold2 j hj),M,hpm,hsm,_,by rw [hf], ?_⟩
  rw [hf]
  rcases hX with q | ⟨h1,u,g',h2,h3,h4⟩
  ·exact .inl q
  ·exact .inr ⟨h1,u,g',h2,by omega,h4⟩
theorem pfold_ok (L : List Rw) (p q t g : Nat) (H0 : List AObj) (hn : L.length ≤ 1000000) (hp : p ≤ 1000) (hq : q ≤ 1000) (hL : ∀ r ∈ L, RwN p q r) (ht : H0[t]? = some (.arr g 4 (rowsA L))) :
  ACall Tryz.prog 25 [.sl t g 4 0 L.length] H0 (fun r H'=>(∃ M,M.Perm L∧SrtR M∧r=.tup [.fz false (rowsA (foldF M).2),.int .i64 (foldF M).1])∧(∀ i,i < H0.length→H'[i]? = H0[i]?)):=by
 have fz:ACall Tryz.prog 25 [.sl t g 4 0 L.length] H0 (fun r H'=>(∃ M c,M.Perm L∧SrtR M∧r=.tup [.fz c (rowsA (foldF M).2),.int .i64 (foldF M).1])∧(∀ i,i < H0.length→H'[i]? = H0[i]?)):=by
  refine ACall.junkE 4 (pfold_own L p q t g H0 hn hp hq hL ht) ?_
  rintro r H' ⟨hold,M,hpm,hsm,X,rfl,hX⟩
  refine ⟨hold,fun z=>⟨⟨M, ?_⟩,fun i hi=>List.getElem?_append_left hi⟩⟩
  rcases hX with ⟨h1,rfl⟩ | ⟨h1,u,g',rfl,h2,h3⟩
  ·rw [h1]; exact ⟨true,hpm,hsm,rfl⟩
  ·refine ⟨false,hpm,hsm, ?_⟩
   have:=frzT_rows (T:=fun i=>decide (H0.length≤i)) (k:=0) h3 (by simpa using h2) rfl
   show AV.tup [frzT _ H' 3 _,frzT _ H' 3 _]=_
   rw [this]; rfl
 refine fz.weak ?_
 rintro r H' ⟨⟨M,c,hpm,hsm,rfl⟩,hold⟩
 exact ⟨.tup [.fz false (rowsA (foldF M).2),.int .i64 (foldF M).1],fun β fr H v z=>rep_tup2 (fun u z=>rep_cut z) z,⟨M,hpm,hsm,rfl⟩,hold⟩
end Go.Proofs.Vale
