/- YtplehleekabbaaaGreatDoorVSrtM: a text of the proof of this claim, by its prover. -/
import Derived.Test.YtplehleekabbaaaGreatDoorVSrtI
import Derived.Test.YtplehleekabbaaaGreatDoorVSrtJ
import Derived.Test.YtplehleekabbaaaGreatDoorVSrtF
import Derived.Test.YtplehleekabbaaaGreatDoorVSrtH
open Nat renaming reduceMul → uA, reduceLT → uB, reduceLeDiff → uC, reduceEqDiff → uD, reduceBEq → uE, lt_irrefl → uQ
open Int renaming toNat_natCast → uF, reduceToNat → uG, reduceNeg → uH, reduceLT → uI, reduceLE → uJ, reduceBEq → uK, reduceBNe → uL
open Bool renaming false_eq_true → uO
set_option linter.unusedVariables false
set_option linter.unusedSimpArgs false
set_option maxHeartbeats 4000000
set_option maxRecDepth 100000
namespace Go.Proofs.Vale
open Go.Proofs Go.Proofs.YtplehleekabbaaaGreatDoorT
attribute [local irreducible] acode aopsL aopsT dopsL dopsT pop popG aop ALoop ADraw ACall AWP AFin acondT ALoopT ADrawT ACallT doP doG doGd frL frT frX
theorem bitsLen_ok (n:Nat) (h:List AObj) (h1:n < 18446744073709551616):ACall Tryz.prog 97 [.int .u64 n] h (fun r _=>r=.int .i64 (Lib.bitLen n)):=by
 unfold ACall; intro w β fr us L Rr
 obtain ⟨hvs,hv⟩:=Rr
 obtain ⟨v,hv1,hv2⟩:=hv 0 (by simp)
 simp only [List.getElem_cons_zero,Rep] at hv2
 subst hv2
 obtain rfl:us=#[.int .u64 n]:=by
  apply Array.ext_getElem?
  intro i
  rcases i with _ | i
  ·rw [hv1]; rfl
  ·rw [Array.getElem?_eq_none (by rw [hvs]; simp),Array.getElem?_eq_none (by simp)]
 have hc:=Any.bits_Len (ρ:=Tryz.lays190_ren) { Tryz.lays190 with } (n:Int) w (by omega) (by omega)
 refine hc.mono ?_
 rintro e w' ⟨rfl,rfl⟩
 exact ⟨_,_,_,β,fr,rfl,rfl,L,by simp [Rep],Step1.refl _ _ _ _⟩
theorem bitLen_up:∀ (k n:Nat),n≤k→0 < n→n < 9223372036854775808→2 ^ Lib.bitLen n≤2 * n:=by
 intro k
 induction k with
 | zero=>intro n h1 h2; omega
 | succ k ih =>
  intro n h1 h2 h3
  rw [Lib.bitLen_half n (by omega) (by omega)]
  rw [Nat.pow_add,Nat.pow_one]
  by_cases e:n / 2=0
  ·rw [e]
   rw [show Lib.bitLen 0=0 from rfl]; omega
  ·have:=ih (n / 2) (by omega) (by omega) (by omega)
   omega
theorem nextPow_ok (n:Nat) (h:List AObj) (h0:0 < n) (h1:n < 4611686018427387904):ACall Tryz.prog 150 [.int .i64 n] h (fun r _=>∃ m:Nat,r=.int .u64 m∧0 < m∧m≤2 * n):=by
 (refine ACall.of_code Tryz.func150 rfl ?_; simp only [Tryz.f150]; simp only [go_sem,uA,uB,uC,uD,uE,uF,uG,uH,uI,uJ,uK,uL,uM,uN,uO,uP,uQ])
 rw [show IntKind.u64.wrap (n:Int)=(n:Int) by rw [wrap_u64 (by omega) (by omega)]]
 refine ACallT.frame (bitsLen_ok n _ (by omega)) ?_
 rintro _ _ rfl
 refine ⟨rfl, ?_⟩
 simp only [go_sem,uA,uB,uC,uD,uE,uF,uG,uH,uI,uJ,uK,uL,uM,uN,uO,uP,uQ]
 refine ⟨by omega, ?_⟩
 have hb:Lib.bitLen n≤63:=Lib.bitLen_le n 63 (by omega) (by omega)
 have hu:=bitLen_up n n (Nat.le_refl _) h0 (by omega)
 have hp:0 < 2 ^ Lib.bitLen n:=Nat.pow_pos (by decide)
 rw [Nat.min_eq_left (by omega),show IntKind.u64.wrap (1 * 2 ^ Lib.bitLen n)=((2 ^ Lib.bitLen n:Nat):Int) by rw [Int.one_mul,show (2:Int) ^ Lib.bitLen n=((2 ^ Lib.bitLen n:Nat):Int) by simp,wrap_u64 (by omega) (by omega)]]
 exact Fin_plain ⟨2 ^ Lib.bitLen n,rfl,hp,hu⟩
theorem xorNext_ok (q:Nat) (n:Int) (H:List AObj) (hq:H[q]? = some (.arr 0 1 [.int .u64 n])):ACall Tryz.prog 151 [.ref q 0 1 0 0] H (fun r H'=>∃ m:Int,r=.int .u64 m∧H'=H.set q (.arr 0 1 [.int .u64 m])):=by
 have hql:=(List.getElem?_eq_some_iff.1 hq).1
 have hq':∀ v:AObj,(H.set q v)[q]? = some v:=fun v=>List.getElem?_set_self hql
 (refine ACall.of_code Tryz.func151 rfl ?_; simp only [Tryz.f151]; simp only [go_sem,uA,uB,uC,uD,uE,uF,uG,uH,uI,uJ,uK,uL,uM,uN,uO,uP,uQ])
 (refine ADrawT.mem [(9,2),(9,5)] mixedOrdersD (by kernel_rfl) (by kernel_rfl) ?_; simp only [go_sem,uA,uB,uC,uD,uE,uF,uG,uH,uI,uJ,uK,uL,uM,uN,uO,uP,uQ])
 simp only [go_sem,hq,hq',List.set_set,uA,uB,uC,uD,uE,uF,uG,uH,uI,uJ,uK,uL,uM,uN,uO,uP,uQ]
 refine ⟨by simp [okAcc], ?_⟩
 (refine ADrawT.mem [(9,2),(9,5)] mixedOrdersD (by kernel_rfl) (by kernel_rfl) ?_; simp only [go_sem,uA,uB,uC,uD,uE,uF,uG,uH,uI,uJ,uK,uL,uM,uN,uO,uP,uQ])
 simp only [go_sem,hq,hq',List.set_set,uA,uB,uC,uD,uE,uF,uG,uH,uI,uJ,uK,uL,uM,uN,uO,uP,uQ]
 refine ⟨by simp [okAcc], ?_⟩
 (refine ADrawT.mem [(9,2),(9,5)] mixedOrdersD (by kernel_rfl) (by kernel_rfl) ?_; simp only [go_sem,uA,uB,uC,uD,uE,uF,uG,uH,uI,uJ,uK,uL,uM,uN,uO,uP,uQ])
 simp only [go_sem,hq,hq',List.set_set,uA,uB,uC,uD,uE,uF,uG,uH,uI,uJ,uK,uL,uM,uN,uO,uP,uQ]
 refine ⟨by simp [okAcc], ?_⟩
 exact Fin_plain ⟨_,rfl,rfl⟩
theorem and_le_u64 (x:Int) (y:Nat) (h:y < 18446744073709551616):∃ r:Nat,intBitsA .and .u64 x (y:Int)=(r:Int)∧r≤y:=by
 refine ⟨(BitVec.ofInt 64 x).toNat &&& y, ?_,Nat.and_le_right⟩
 have e:(BitVec.ofInt 64 (y:Int)).toNat=y:=by
  rw [BitVec.ofInt_natCast]; exact Nat.mod_eq_of_lt h
 have le:(BitVec.ofInt 64 x).toNat &&& y≤y:=Nat.and_le_right
 show IntKind.u64.wrap ((BitVec.ofInt 64 x &&& BitVec.ofInt 64 (y:Int)).toNat:Int)=_
 rw [BitVec.toNat_and,e,wrap_u64 (by omega) (by omega)]
theorem breakP_ok (P M S : List Rw) (t g N : Nat) (H : List AObj) (hN : (P ++ (M ++ S)).length = N) (hn : N ≤ 1152921504606846976) (ht : H[t]? = some (.arr g 4 (rowsA (P ++ (M ++ S))))) :
  ACall Tryz.prog 135 [.sl t g 4 0 N,.int .i64 P.length,.int .i64 (P.length+M.length:Nat),cmpF] H (fun r H'=>r=.tup []∧∃ M',M'.Perm M∧H'[t]? = some (.arr g 4 (rowsA (P++(M'++S))))∧(∀ i,i < H.length→i≠t→H'[i]? = H[i]?)∧H.length≤H'.length):=by
 have hPM:P.length+M.length≤N:=by rw [← hN]; simp
 have htl:t < H.length:=(List.getElem?_eq_some_iff.1 ht).1
 have hne:H.length≠t:=by omega
 obtain ⟨l,hl⟩:∃ l,l=M.length:=⟨_,rfl⟩
 have w0:IntKind.i64.wrap (((P.length+M.length:Nat):Int) - (P.length:Int))=(l:Int):=by rw [wrap_id (by omega) (by omega)]; omega
 have wq:IntKind.i64.wrap ((l:Int).tdiv 4)=((l / 4:Nat):Int):=by
  rw [show (l:Int).tdiv 4=((l / 4:Nat):Int) from rfl,wrap_id (by omega) (by omega)]
 have w2:IntKind.i64.wrap (((l / 4:Nat):Int) * 2)=((l / 4 * 2:Nat):Int):=by rw [wrap_id (by omega) (by omega)]; omega
 have v2:IntKind.i64.wrap ((P.length:Int)+((l / 4 * 2:Nat):Int))=((P.length+l / 4 * 2:Nat):Int):=by rw [wrap_id (by omega) (by omega)]; omega
 have v3:IntKind.i64.wrap (((P.length+l / 4 * 2:Nat):Int)+1)=((P.length+l / 4 * 2+1:Nat):Int):=by rw [wrap_id (by omega) (by omega)]; omega
 (refine ACall.of_code Tryz.func135 rfl ?_; simp only [Tryz.f135]; simp only [go_sem,uA,uB,uC,uD,uE,uF,uG,uH,uI,uJ,uK,uL,uM,uN,uO,uP,uQ])
 generalize e4:IntKind.i64.wrap (((P.length+M.length:Nat):Int) - (P.length:Int))=z4
 rw [w0] at e4
 subst e4
 refine acond_intro (fun hc=>?_) (fun hc=>?_)
 ·have h8:8≤l:=by have:=of_decide_eq_true hc; omega
  have v1:IntKind.i64.wrap (((P.length+l / 4 * 2:Nat):Int) - 1)=((P.length+(l / 4 * 2 - 1+0):Nat):Int):=by rw [wrap_id (by omega) (by omega)]; omega
  simp only [go_sem,uA,uB,uC,uD,uE,uF,uG,uH,uI,uJ,uK,uL,uM,uN,uO,uP,uQ]
  refine ACallT.frame (nextPow_ok l _ (by omega) (by omega)) ?_
  rintro _ _ ⟨m0,rfl,hm0,hm1⟩
  refine ⟨rfl, ?_⟩
  simp only [go_sem,wq,w2,v2,v1,uA,uB,uC,uD,uE,uF,uG,uH,uI,uJ,uK,uL,uM,uN,uO,uP,uQ]
  refine ⟨by decide, ?_⟩
  have hb0:∀ v:AObj,(H++[v])[H.length]? = some v:=fun v=>by simp
  refine ALoop.over [11,12,28,29,30,31,32,33,34,35,36,37,38,39,40,41,42,43,44,45,46,47,48,49,50,51,52,53,54,55,56,57,58,59,60,61,62,63,64,65,66] (fun e h'=>∃ (c:Nat) (M1:List Rw) (m:Int),e.getD 11 .any=.int .i64 (P.length+(l / 4 * 2 - 1+c):Nat)∧c≤3∧M1.Perm M∧h'[t]? = some (.arr g 4 (rowsA (P++(M1++S))))∧h'[H.length]? = some (.arr 0 1 [.int .u64 m])∧(∀ i,i < H.length→i≠t→h'[i]? = H[i]?)) (fun e _=>2000000000000000000 - natA (e.getD 11 .any)) ⟨0,M,_,rfl,by omega,.refl _,(List.getElem?_append_left htl).trans ht,hb0 _,fun i hi _=>List.getElem?_append_left hi⟩ ?_
  simp only [List.length_cons,List.length_nil,Nat.reduceAdd,allL_succ,allL_zero]
  intro y11 y12 y28 y29 y30 y31 y32 y33 y34 y35 y36 y37 y38 y39 y40 y41 y42 y43 y44 y45 y46 y47 y48 y49 y50 y51 y52 y53 y54 y55 y56 y57 y58 y59 y60 y61 y62 y63 y64 y65 y66 h1 hI
  simp only [go_sem] at hI
  obtain ⟨c,M1,m,rfl,hc3,hpm,ht1,hq1,hrest⟩:=hI
  have hl1:=hpm.length_eq
  have hlN:(P++(M1++S)).length=N:=by rw [← hN]; simp [hl1]
  have htl1:t < h1.length:=(List.getElem?_eq_some_iff.1 ht1).1
  have hql1:H.length < h1.length:=(List.getElem?_eq_some_iff.1 hq1).1
  simp only [go_sem,wq,w2,v2,v3,uA,uB,uC,uD,uE,uF,uG,uH,uI,uJ,uK,uL,uM,uN,uO,uP,uQ]
  refine ⟨by decide, ?_⟩
  by_cases hlt:c < 3
  ·have hgd:decide (((P.length+(l / 4 * 2 - 1+c):Nat):Int)≤((P.length+l / 4 * 2+1:Nat):Int))=true:=decide_eq_true (by omega)
   simp only [go_sem,hgd,uA,uB,uC,uD,uE,uF,uG,uH,uI,uJ,uK,uL,uM,uN,uO,uP,uQ]
   refine ACallT.by (xorNext_ok H.length m _ hq1) ?_
   rintro _ _ ⟨m2,rfl,rfl⟩
   have ht2:∀ v:AObj,(h1.set H.length v)[t]? = some (.arr g 4 (rowsA (P++(M1++S)))):=fun v=>(List.getElem?_set_ne hne).trans ht1
   have hset:∀ v w:AObj,((h1.set H.length w).set t v)[t]? = some v:=fun v w=>List.getElem?_set_self (by simpa using htl1)
   have hq2:∀ v w:AObj,((h1.set H.length w).set t v)[H.length]? = some w:=fun v w=>(List.getElem?_set_ne (fun q=>hne q.symm)).trans (List.getElem?_set_self hql1)
   have wm:IntKind.u64.wrap ((m0:Int) - 1)=((m0 - 1:Nat):Int):=by rw [wrap_u64 (by omega) (by omega)]; omega
   obtain ⟨o,ho,hom⟩:=and_le_u64 m2 (m0 - 1) (by omega)
   have wo:IntKind.i64.wrap (o:Int)=(o:Int):=wrap_id (by omega) (by omega)
   simp only [go_sem,wm,ho,wo,uA,uB,uC,uD,uE,uF,uG,uH,uI,uJ,uK,uL,uM,uN,uO,uP,uQ]
   refine acond_intro (fun hol=>?_) (fun hol=>?_)
   ·have hol2:l≤o:=by have:=of_decide_eq_true hol; omega
    have ws:IntKind.i64.wrap ((o:Int) - (l:Int))=((o - l:Nat):Int):=by rw [wrap_id (by omega) (by omega)]; omega
    obtain ⟨i,hi⟩:∃ i,i=l / 4 * 2 - 1+c:=⟨_,rfl⟩
    have hiM:i < M1.length:=by omega
    have hxM:o - l < M1.length:=by omega
    have wa:IntKind.i64.wrap ((P.length:Int)+(o - l:Nat))=((P.length+(o - l):Nat):Int):=by rw [wrap_id (by omega) (by omega)]; rfl
    have k1:=getM P M1 S i _ rfl hiM
    have k2:=getM P M1 S (o - l) _ rfl hxM
    have k3:=getS (P++(M1++S)) (P.length+i) (P.length+(o - l)) M1[o - l] (by simp; omega)
    rw [← hi]
    simp only [go_sem,ws,uA,uB,uC,uD,uE,uF,uG,uH,uI,uJ,uK,uL,uM,uN,uO,uP,uQ]
    (refine ADrawT.mem [(17,11),(17,15),(19,11),(19,15),(19,17)] mixedOrdersD (by kernel_rfl) (by kernel_rfl) ?_; simp only [go_sem,uA,uB,uC,uD,uE,uF,uG,uH,uI,uJ,uK,uL,uM,uN,uO,uP,uQ])
    simp only [go_sem,ht2,hset,wa,k1,k2,k3,List.set_set,uA,uB,uC,uD,uE,uF,uG,uH,uI,uJ,uK,uL,uM,uN,uO,uP,uQ]
    refine ⟨⟨by omega,by omega⟩,by omega,⟨by omega,by omega⟩,by omega,⟨by omega,by omega⟩,by omega,⟨by omega,by omega⟩,by omega,by simp [okAcc],⟨c+1,(M1.set i M1[o - l]).set (o - l) M1[i],m2, ?_,by omega,(swap_perm hiM hxM).trans hpm, ?_,hq2 _ _,fun j hj hjt=>?_⟩, ?_⟩
    ·rw [wrap_id (by omega) (by omega)]; congr 1; omega
    ·exact congrArg (fun z=>some (AObj.arr g 4 z)) (swapM P M1 S i (o - l) _ _ rfl rfl hiM hxM)
    ·rw [List.getElem?_set_ne (fun q=>hjt q.symm),List.getElem?_set_ne (by omega)]; exact hrest j hj hjt
    ·rw [wrap_id (by omega) (by omega)]; omega
   ·have hol2:o < l:=by have:=of_decide_eq_false hol; omega
    obtain ⟨i,hi⟩:∃ i,i=l / 4 * 2 - 1+c:=⟨_,rfl⟩
    have hiM:i < M1.length:=by omega
    have hxM:o < M1.length:=by omega
    have wa:IntKind.i64.wrap ((P.length:Int)+(o:Nat))=((P.length+(o):Nat):Int):=by rw [wrap_id (by omega) (by omega)]; rfl
    have k1:=getM P M1 S i _ rfl hiM
    have k2:=getM P M1 S (o) _ rfl hxM
    have k3:=getS (P++(M1++S)) (P.length+i) (P.length+(o)) M1[o] (by simp; omega)
    rw [← hi]
    simp only [go_sem,uA,uB,uC,uD,uE,uF,uG,uH,uI,uJ,uK,uL,uM,uN,uO,uP,uQ]
    (refine ADrawT.mem [(17,11),(17,15),(19,11),(19,15),(19,17)] mixedOrdersD (by kernel_rfl) (by kernel_rfl) ?_; simp only [go_sem,uA,uB,uC,uD,uE,uF,uG,uH,uI,uJ,uK,uL,uM,uN,uO,uP,uQ])
    simp only [go_sem,ht2,hset,wa,k1,k2,k3,List.set_set,uA,uB,uC,uD,uE,uF,uG,uH,uI,uJ,uK,uL,uM,uN,uO,uP,uQ]
    refine ⟨⟨by omega,by omega⟩,by omega,⟨by omega,by omega⟩,by omega,⟨by omega,by omega⟩,by omega,⟨by omega,by omega⟩,by omega,by simp [okAcc],⟨c+1,(M1.set i M1[o]).set (o) M1[i],m2, ?_,by omega,(swap_perm hiM hxM).trans hpm, ?_,hq2 _ _,fun j hj hjt=>?_⟩, ?_⟩
    ·rw [wrap_id (by omega) (by omega)]; congr 1; omega
    ·exact congrArg (fun z=>some (AObj.arr g 4 z)) (swapM P M1 S i (o) _ _ rfl rfl hiM hxM)
    ·rw [List.getElem?_set_ne (fun q=>hjt q.symm),List.getElem?_set_ne (by omega)]; exact hrest j hj hjt
    ·rw [wrap_id (by omega) (by omega)]; omega
  ·have hgd:decide (((P.length+(l / 4 * 2 - 1+c):Nat):Int)≤((P.length+l / 4 * 2+1:Nat):Int))=false:=decide_eq_false (by omega)
   simp only [go_sem,hgd,uA,uB,uC,uD,uE,uF,uG,uH,uI,uJ,uK,uL,uM,uN,uO,uP,uQ]
   exact Fin_plain ⟨rfl,M1,hpm,ht1,hrest,by omega⟩
 ·simp only [go_sem,uA,uB,uC,uD,uE,uF,uG,uH,uI,uJ,uK,uL,uM,uN,uO,uP,uQ]
  exact Fin_plain ⟨rfl,M,.refl _,ht,fun _ _ _=>rfl,Nat.le_refl _⟩
end Go.Proofs.Vale
set_option maxHeartbeats 8000000
namespace Go.Proofs.Vale
open Go.Proofs Go.Proofs.YtplehleekabbaaaGreatDoorT
attribute [local irreducible] acode aopsL aopsT dopsL dopsT pop popG aop ALoop ADraw ACall AWP AFin acondT ALoopT ADrawT ACallT doP doG doGd frL frT frX
theorem acond_over {b : Bool} {P : Program} {c1 c2 : Code} {env : List AV} {h : List AObj} {Q : Post} {A B : Prop} {s : Tag A} {t : Tag B} (hA : A = acode P c1 env h Q) (hB : B = acode P c2 env h Q) (ws : List Nat) (I : List AV → List AObj → Prop) (J : Exit → List AV → List AObj → Prop)
  (k1:b=true→∀ R:Post,(∀ env' h',RoundEnd env ws env'→I env' h'→R .normal env' h')→(∀ e env' h',J e env' h'→R e env' h')→acode P c1 env h R)
  (k2:b=false→∀ R:Post,(∀ env' h',RoundEnd env ws env'→I env' h'→R .normal env' h')→(∀ e env' h',J e env' h'→R e env' h')→acode P c2 env h R)
  (kj:∀ e env' h',J e env' h'→Q e env' h')
  (k:allL ws.length fun ys=>∀ h,I (overs env ws ys) h→Q .normal (overs env ws ys) h):acondT (.bool b) A B s t:=by
 subst hA hB
 have kn:∀ env' h',RoundEnd env ws env'→I env' h'→Q .normal env' h':=by
  intro env' h' e hI
  have:=allL_spec _ _ k (ws.map fun w=>env'.getD w .any) (by simp) h'
  rw [RoundEnd] at e
  rw [← e] at this
  exact this hI
 refine acond_intro (fun hb=>k1 hb Q kn kj) (fun hb=>k2 hb Q kn kj)
def PS (H:List AObj) (t g:Nat) (L:List Rw) (h:List AObj):Prop:=h[t]? = some (.arr g 4 (rowsA L))∧(∀ i,i < H.length→i≠t→h[i]? = H[i]?)∧H.length≤h.length
theorem PS.set {H h:List AObj} {t g:Nat} {L:List Rw} (p:PS H t g L h) (L':List Rw):PS H t g L' (h.set t (.arr g 4 (rowsA L'))) :=
 ⟨List.getElem?_set_self (List.getElem?_eq_some_iff.1 p.1).1,fun i h1 h2=>(List.getElem?_set_ne (fun q=>h2 q.symm)).trans (p.2.1 i h1 h2),by simpa using p.2.2⟩
theorem PS.by {H h h2:List AObj} {t g:Nat} {L L2:List Rw} (p:PS H t g L h) (q:PS h t g L2 h2):PS H t g L2 h2 :=
 ⟨q.1,fun i h1 h3=>(q.2.1 i (by have:=p.2.2; omega) h3).trans (p.2.1 i h1 h3),Nat.le_trans p.2.2 q.2.2⟩
theorem QSo_all {P Q S M A M1 B:List Rw} (h:QSo M A M1 B) (hQ:Q=P++A) (hok:∀ r∈P++(M++S),RwOk r):∀ r∈Q++(M1++(B++S)),RwOk r:=by
 subst hQ
 intro r hr
 refine hok r ?_
 simp only [List.mem_append] at hr ⊢
 have:=fun hx=>h.1.subset (a:=r) hx
 simp only [List.mem_append] at this
 rcases hr with (q | q) | q | q | q
 ·exact .inl q
 ·exact .inr (.inl (this (.inl q)))
 ·exact .inr (.inl (this (.inr (.inl q))))
 ·exact .inr (.inl (this (.inr (.inr q))))
 ·exact .inr (.inr q)
theorem QSo_len {P Q S M A M1 B:List Rw} {N:Nat} (h:QSo M A M1 B) (hQ:Q=P++A) (hN:(P++(M++S)).length=N):(Q++(M1++(B++S))).length=N:=by
 subst hQ
 have:=h.1.length_eq
 simp only [List.length_append] at this hN ⊢
 omega
theorem insSort2 (P M S : List Rw) (t g N : Nat) (H : List AObj) (hN : (P ++ (M ++ S)).length = N) (hn : N ≤ 1152921504606846976) (hok : ∀ r ∈ M, RwOk r) (ht : H[t]? = some (.arr g 4 (rowsA (P ++ (M ++ S))))) :
  ACall Tryz.prog 114 [.sl t g 4 0 N,.int .i64 P.length,.int .i64 (P.length+M.length:Nat),cmpF] H (fun r H'=>r=.tup []∧∃ M',M'.Perm M∧SrtR M'∧H'=H.set t (.arr g 4 (rowsA (P++(M'++S))))):=by
 have e:∀ X,P++X++S=P++(X++S):=fun X=>by simp
 have:=insSort_ok cmpR_ge cmpR_le P M S t g H (by rw [e,hN]; omega) hok (by rw [e]; exact ht)
 rw [e,hN] at this
 simp only [e] at this
 exact this
end Go.Proofs.Vale
