/- YtplehleekabbaaaGreatDoorVSchO: a text of the proof of this claim, by its prover. -/
import Derived.Test.YtplehleekabbaaaGreatDoorVSchG
open Nat renaming reduceMul → uA, reduceLT → uB, reduceLeDiff → uC, reduceEqDiff → uD, reduceBEq → uE, lt_irrefl → uQ
open Int renaming toNat_natCast → uF, reduceToNat → uG, reduceNeg → uH, reduceLT → uI, reduceLE → uJ, reduceBEq → uK, reduceBNe → uL
open Bool renaming false_eq_true → uO
set_option linter.unusedVariables false
set_option linter.unusedSimpArgs false
set_option maxHeartbeats 4000000
set_option maxRecDepth 100000
namespace Go.Proofs.Vale
open Go.Proofs Go.Proofs.YtplehleekabbaaaGreatDoorT
attribute [local irreducible] acode aopsL aopsT dopsL dopsT pop popG aop ALoop ADraw ACall AWP AFin acondT ALoopT ADrawT ACallT doP doG doGd
def intsA (l:List Int):List AV:=l.map (.int .i64 ·)
@[go_sem] theorem intsA_len (l:List Int):(intsA l).length=l.length:=by simp [intsA]
theorem ints_get (l:List Int) (k:Nat) (h:k < l.length):(intsA l).getD k .any=.int .i64 l[k]:=by simp [intsA,List.getD_eq_getElem?_getD,h]
def badI (n:Int):Bool:=bif decide (n < -4611686018427387904) then true else decide (4611686018427387904 < n)
theorem check2_ok (n:Int) (h:List AObj):ACall Tryz.prog 59 [.int .i64 n] h (fun r _=>r=.bool (badI n)):=by
 (refine ACall.of_code Tryz.func59 rfl ?_; simp only [Tryz.f59]; simp only [go_sem,uA,uB,uC,uD,uE,uF,uG,uH,uI,uJ,uK,uL,uM,uN,uO,uP,uQ])
 exact Fin_plain (by simp only [badI])
theorem indexI_ok (l:List Int) (c:Bool) (h:List AObj) (hl:l.length≤9223372036854775807):ACall Tryz.prog 94 [.fz c (intsA l),.func (.func 59) [] []] h (fun r _=>∃ i:Int,r=.int .i64 i∧decide (0≤i)=l.any badI):=by
 (refine ACall.of_code Tryz.func94 rfl ?_; simp only [Tryz.f94]; simp only [go_sem,uA,uB,uC,uD,uE,uF,uG,uH,uI,uJ,uK,uL,uM,uN,uO,uP,uQ])
 refine ALoop.over [4,5,8,9,10,11,12,13,14,15,16,17,18] (fun e h'=>∃ k:Nat,k≤l.length∧e.getD 8 .any=.int .i64 k∧(l.take k).any badI=false) (fun e _=>l.length - natA (e.getD 8 .any)) ⟨0,by simp,rfl,by simp⟩ ?_
 simp only [List.length_cons,List.length_nil,Nat.reduceAdd,allL_succ,allL_zero]
 intro y4 y5 y8 y9 y10 y11 y12 y13 y14 y15 y16 y17 y18 h' hI
 simp only [go_sem] at hI
 obtain ⟨k,hk,rfl,hall⟩:=hI
 simp only [go_sem,uA,uB,uC,uD,uE,uF,uG,uH,uI,uJ,uK,uL,uM,uN,uO,uP,uQ]
 refine acond_intro (fun hc=>?_) (fun hc=>?_)
 ·have hlt:k < l.length:=by simpa using hc
  simp only [go_sem,ints_get l _ hlt,uA,uB,uC,uD,uE,uF,uG,uH,uI,uJ,uK,uL,uM,uN,uO,uP,uQ]
  refine ⟨⟨by omega,by omega⟩, ?_⟩
  (refine ACallT.pure (by simp only [go_sem,uA,uB,uC,uD,uE,uF,uG,uH,uI,uJ,uK,uL,uM,uN,uO,uP,uQ]; rfl) (by first | trivial | assumption | (simp only [go_sem,uA,uB,uC,uD,uE,uF,uG,uH,uI,uJ,uK,uL,uM,uN,uO,uP,uQ]; done) | (simp only [go_sem,uA,uB,uC,uD,uE,uF,uG,uH,uI,uJ,uK,uL,uM,uN,uO,uP,uQ]; first | trivial | assumption | omega | decide | (refine ⟨?_, ?_⟩ <;> first | trivial | assumption | omega | decide))) (check2_ok l[k] _) ?_; refine fun _ _ e=>?_; subst e; refine ⟨rfl, ?_⟩)
  generalize hb:badI l[k]=b
  cases b with
  | true =>
   simp only [go_sem,uA,uB,uC,uD,uE,uF,uG,uH,uI,uJ,uK,uL,uM,uN,uO,uP,uQ]
   refine Fin_plain ⟨k,rfl, ?_⟩
   have:l.any badI=true:=by rw [List.any_eq_true]; exact ⟨l[k],List.getElem_mem _,hb⟩
   rw [this]; simp
  | false =>
   simp only [go_sem,uA,uB,uC,uD,uE,uF,uG,uH,uI,uJ,uK,uL,uM,uN,uO,uP,uQ]
   rw [wrap_id (by omega) (by omega)]
   refine ⟨⟨k+1,by omega,rfl, ?_⟩,by omega⟩
   rw [List.take_succ_eq_append_getElem hlt,List.any_append,hall]; simp [hb]
 ·have hge : k = l.length := by have : ¬ k < l.length := by simpa using hc
                                omega
  simp only [go_sem,uA,uB,uC,uD,uE,uF,uG,uH,uI,uJ,uK,uL,uM,uN,uO,uP,uQ]
  refine Fin_plain ⟨-1,rfl, ?_⟩
  subst hge
  rw [List.take_length] at hall
  rw [hall]; rfl
theorem containsI_ok (l:List Int) (c:Bool) (h:List AObj) (hl:l.length≤9223372036854775807):ACall Tryz.prog 58 [.fz c (intsA l),.func (.func 59) [] []] h (fun r _=>r=.bool (l.any badI)):=by
 (refine ACall.of_code Tryz.func58 rfl ?_; simp only [Tryz.f58]; simp only [go_sem,uA,uB,uC,uD,uE,uF,uG,uH,uI,uJ,uK,uL,uM,uN,uO,uP,uQ])
 refine ACallT.by (indexI_ok l c _ hl) ?_
 rintro r h1 ⟨i,rfl,hi⟩
 simp only [go_sem,uA,uB,uC,uD,uE,uF,uG,uH,uI,uJ,uK,uL,uM,uN,uO,uP,uQ]
 exact Fin_plain (by rw [hi])
def ValOk (s:Str):Prop:=∀ h:List AObj,ACall Tryz.prog 57 [.str s] h (fun r _=>r=.bool (valueS s))
theorem check1_ok (s:Str) (hv:ValOk s) (h:List AObj):ACall Tryz.prog 56 [.str s] h (fun r _=>r=.bool (!valueS s)):=by
 (refine ACall.of_code Tryz.func56 rfl ?_; simp only [Tryz.f56]; simp only [go_sem,uA,uB,uC,uD,uE,uF,uG,uH,uI,uJ,uK,uL,uM,uN,uO,uP,uQ])
 refine ACallT.by (hv _) ?_
 rintro r h1 rfl
 simp only [go_sem,uA,uB,uC,uD,uE,uF,uG,uH,uI,uJ,uK,uL,uM,uN,uO,uP,uQ]
 exact Fin_plain rfl
def evA' (t:Int) (c1 c2:Bool) (dims:List Str) (ms:List Int):AV:=.agg [.int .i64 t,.fz c1 (strs dims),.fz c2 (intsA ms)]
def checkS (d m:List Str) (t:Int) (dims:List Str) (ms:List Int):Int :=
 bif (bif (((dims.length:Int)) != (d.length:Int)) then true else ((ms.length:Int) != (m.length:Int))) then 101
 else bif dims.any (fun s=>!valueS s) then 102
 else bif ms.any badI then 102
 else bif (bif decide (t < 0) then true else decide (1099511627776 < t)) then 181 else 0
theorem check_ok (a1 a2 c1 c2:Bool) (d m dims:List Str) (t:Int) (ms:List Int) (h:List AObj) (hd:dims.length≤9223372036854775807) (hm:ms.length≤9223372036854775807) (hv:∀ s∈dims,ValOk s):ACall Tryz.prog 28 [schA a1 a2 d m,evA' t c1 c2 dims ms] h (fun r _=>r=.int .i64 (checkS d m t dims ms)):=by
 simp only [schA,evA']
 (refine ACall.of_code Tryz.func28 rfl ?_; simp only [Tryz.f28]; simp only [go_sem,uA,uB,uC,uD,uE,uF,uG,uH,uI,uJ,uK,uL,uM,uN,uO,uP,uQ])
 generalize hz:(bif (((dims.length:Int)) != (d.length:Int)) then true else ((ms.length:Int) != (m.length:Int)))=z
 cases z with
 | true=>simp only [go_sem,uA,uB,uC,uD,uE,uF,uG,uH,uI,uJ,uK,uL,uM,uN,uO,uP,uQ]; refine Fin_plain ?_; rw [checkS,hz]; rfl
 | false =>
  simp only [go_sem,uA,uB,uC,uD,uE,uF,uG,uH,uI,uJ,uK,uL,uM,uN,uO,uP,uQ]
  (refine ACallT.frame (containsFn_ok 56 (fun s=>!valueS s) (by kernel_rfl) dims c1 _ (fun s hs h=>check1_ok s (hv s hs) h) hd) ?_; refine fun _ _ e=>?_; subst e; refine ⟨by (first | rfl | (simp only [AV.low,lowL,low_strs,Bool.and_true,Bool.and_self])), ?_⟩; simp only [go_sem,uA,uB,uC,uD,uE,uF,uG,uH,uI,uJ,uK,uL,uM,uN,uO,uP,uQ])
  generalize hz2:dims.any (fun s=>!valueS s)=z2
  cases z2 with
  | true=>simp only [go_sem,uA,uB,uC,uD,uE,uF,uG,uH,uI,uJ,uK,uL,uM,uN,uO,uP,uQ]; refine Fin_plain ?_; rw [checkS,hz,hz2]; rfl
  | false =>
   simp only [go_sem,uA,uB,uC,uD,uE,uF,uG,uH,uI,uJ,uK,uL,uM,uN,uO,uP,uQ]
   (refine ACallT.frame (containsI_ok ms c2 _ hm) ?_; refine fun _ _ e=>?_; subst e; refine ⟨by (first | rfl | (simp only [AV.low,lowL,low_strs,Bool.and_true,Bool.and_self])), ?_⟩; simp only [go_sem,uA,uB,uC,uD,uE,uF,uG,uH,uI,uJ,uK,uL,uM,uN,uO,uP,uQ])
   generalize hz3:ms.any badI=z3
   cases z3 with
   | true=>simp only [go_sem,uA,uB,uC,uD,uE,uF,uG,uH,uI,uJ,uK,uL,uM,uN,uO,uP,uQ]; refine Fin_plain ?_; rw [checkS,hz,hz2,hz3]; rfl
   | false =>
    simp only [go_sem,uA,uB,uC,uD,uE,uF,uG,uH,uI,uJ,uK,uL,uM,uN,uO,uP,uQ]
    generalize hz4:(bif decide (t < 0) then true else decide (1099511627776 < t))=z4
    cases z4 with
    | true=>simp only [go_sem,uA,uB,uC,uD,uE,uF,uG,uH,uI,uJ,uK,uL,uM,uN,uO,uP,uQ]; refine Fin_plain ?_; rw [checkS,hz,hz2,hz3,hz4]; rfl
    | false=>simp only [go_sem,uA,uB,uC,uD,uE,uF,uG,uH,uI,uJ,uK,uL,uM,uN,uO,uP,uQ]; refine Fin_plain ?_; rw [checkS,hz,hz2,hz3,hz4]; rfl
end Go.Proofs.Vale
namespace Go.Proofs.Vale
open Go.Proofs Go.Proofs.YtplehleekabbaaaGreatDoorT
attribute [local irreducible] acode aopsL aopsT dopsL dopsT pop popG aop ALoop ADraw ACall AWP AFin acondT ALoopT ADrawT ACallT doP doG doGd
abbrev sLt (s t:Str):Bool:=Op.bytesLess s t
theorem sLt_trans {a b c:Str} (h:sLt a b=true) (k:sLt b c=true):sLt a c=true:=by
 induction a generalizing b c with
 | nil =>
  cases c with
  | nil=>cases b <;> simp [sLt,Op.bytesLess] at k
  | cons z c=>rfl
 | cons x a ih =>
  cases b with
  | nil=>simp [sLt,Op.bytesLess] at h
  | cons y b =>
   cases c with
   | nil=>simp [sLt,Op.bytesLess] at k
   | cons z c =>
    simp only [sLt,Op.bytesLess,Bool.or_eq_true,Bool.and_eq_true,decide_eq_true_eq,beq_iff_eq] at h k ⊢
    rcases h with h | ⟨rfl,h⟩ <;> rcases k with k | ⟨rfl,k⟩
    ·exact .inl (UInt8.lt_trans h k)
    ·exact .inl h
    ·exact .inl k
    ·exact .inr ⟨rfl,ih h k⟩
def newL (l:List Str):List Str:=Lib.compact (l.mergeSort fun x y=>decide (x≤y))
theorem lt_iff (x y:Str):x < y↔sLt x y=true:=by
 induction x generalizing y with
 | nil=>cases y <;> simp [sLt,Op.bytesLess]
 | cons a x ih =>
  cases y with
  | nil=>simp [sLt,Op.bytesLess]
  | cons b y =>
   rw [List.cons_lt_cons_iff,ih]
   simp [sLt,Op.bytesLess]
theorem le_iff (x y:Str):x≤y↔sLt y x=false:=by
 rw [← List.not_lt,lt_iff]; simp
theorem sLt_irrefl (x:Str):sLt x x=false:=bytesLess_irrefl x
theorem sLt_total {x y:Str} (h:x≠y) (k:sLt x y=false):sLt y x=true:=by
 have:=bytesLess_total x y h
 show Op.bytesLess y x=true
 rw [show Op.bytesLess x y=false from k] at this
 simpa using this.symm
theorem le_lt_trans {x y z:Str} (h:sLt y x=false) (k:sLt y z=true):sLt x z=true:=by
 by_cases e:x=y
 ·subst e; exact k
 ·exact sLt_trans (sLt_total (fun q=>e q.symm) h) k
abbrev Rise (l:List Str):Prop:=l.Pairwise fun a b=>sLt a b=true
theorem compactUpTo_spec (d:Array Str) (hd:d.toList.Pairwise fun a b=>sLt b a=false):∀ m,m≤d.size→Rise (Lib.compactUpTo d m)∧∀ x,x∈Lib.compactUpTo d m↔∃ j,j < m∧d[j]! = x:=by
 intro m
 induction m with
 | zero=>intro _; simp [Lib.compactUpTo,Rise]
 | succ m ih =>
  intro hm
  obtain ⟨h1,h2⟩:=ih (by omega)
  have hmd:m < d.size:=by omega
  have hle:∀ i j,i < j→j < d.size→sLt (d[j]!) (d[i]!)=false:=by
   intro i j hij hj
   have:=List.pairwise_iff_getElem.1 hd i j (by simpa using Nat.lt_trans hij hj) (by simpa using hj) hij
   rw [getElem!_pos d j hj,getElem!_pos d i (by omega)]
   simpa using this
  rw [Lib.compactUpTo_succ]
  by_cases hk:Lib.keeps d m=true
  ·rw [if_pos hk]
   refine ⟨?_, ?_⟩
   ·rw [Rise,List.pairwise_append]
    refine ⟨h1,by simp, ?_⟩
    intro a ha b hb
    simp only [List.mem_singleton] at hb; subst hb
    obtain ⟨j,hj,rfl⟩:=(h2 a).1 ha
    have hne:m=0∨d[m]! ≠ d[m - 1]! := by
     exact of_decide_eq_true hk
    rcases hne with q | q
    ·omega
    ·have h3:=sLt_total (fun e=>q e) (hle (m - 1) m (by omega) hmd)
     by_cases e:j=m - 1
     ·subst e; exact h3
     ·exact le_lt_trans (hle j (m - 1) (by omega) (by omega)) h3
   ·intro x
    rw [List.mem_append,h2,List.mem_singleton]
    constructor
    ·rintro (⟨j,hj,e⟩ | e)
     ·exact ⟨j,by omega,e⟩
     ·exact ⟨m,by omega,e.symm⟩
    ·rintro ⟨j,hj,e⟩
     by_cases q:j=m
     ·subst q; exact .inr e.symm
     ·exact .inl ⟨j,by omega,e⟩
  ·rw [if_neg hk,List.append_nil]
   refine ⟨h1,fun x=>?_⟩
   rw [h2]
   have heq:0 < m∧d[m]! = d[m - 1]! := by
    have:=of_decide_eq_false (Bool.eq_false_iff.2 hk)
    refine ⟨Nat.pos_of_ne_zero fun e=>this (.inl e), ?_⟩
    by_cases q:d[m]! = d[m - 1]!
    ·exact q
    ·exact absurd (.inr q) this
   constructor
   ·rintro ⟨j,hj,e⟩; exact ⟨j,by omega,e⟩
   ·rintro ⟨j,hj,e⟩
    by_cases q:j=m
    ·subst q; exact ⟨j - 1,by omega,by rw [← heq.2]; exact e⟩
    ·exact ⟨j,by omega,e⟩
theorem newL_rise (l:List Str):Rise (newL l)∧∀ x,x∈newL l↔x∈l:=by
 have hs:(l.mergeSort fun x y=>decide (x≤y)).Pairwise fun a b=>sLt b a=false:=by
  have:=List.pairwise_mergeSort (le:=fun x y:Str=>decide (x≤y)) (fun a b c h1 h2=>by
   simp only [decide_eq_true_eq,le_iff] at h1 h2 ⊢
   cases e:sLt c a with
   | false=>rfl
   | true =>
    have:=le_lt_trans h2 e
    rw [h1] at this; cases this) (fun a b=>by
   simp only [Bool.or_eq_true,decide_eq_true_eq,le_iff]
   cases e:sLt b a with
   | false=>exact .inl rfl
   | true =>
    right
    cases e2:sLt a b with
    | false=>rfl
    | true=>have:=sLt_trans e e2; rw [sLt_irrefl] at this; cases this) l
  exact this.imp fun h=>by simpa [le_iff] using h
 have:=compactUpTo_spec (l.mergeSort fun x y=>decide (x≤y)).toArray (by simpa using hs) (l.mergeSort fun x y=>decide (x≤y)).length (by simp)
 refine ⟨this.1,fun x=>?_⟩
 show x∈Lib.compactUpTo _ _↔_
 rw [this.2,← List.mem_mergeSort (le:=fun x y:Str=>decide (x≤y))]
 constructor
 ·rintro ⟨j,hj,rfl⟩
  rw [getElem!_pos _ j (by simpa using hj)]
  simp
 ·intro h
  obtain ⟨j,hj,rfl⟩:=List.getElem_of_mem h
  exact ⟨j,hj,by rw [getElem!_pos _ j (by simpa using hj)]; simp⟩
theorem sub_len {a b:List Str} (ha:a.Nodup) (h:∀ x∈a,x∈b):a.length≤b.length:=by
 induction a generalizing b with
 | nil=>simp
 | cons x a ih =>
  rw [List.nodup_cons] at ha
  have hx:=h x (by simp)
  have:=ih (b:=b.erase x) ha.2 (fun y hy=>(List.mem_erase_of_ne (fun e:y=x=>ha.1 (by rw [← e]; exact hy))).2 (h y (by simp [hy])))
  rw [List.length_erase_of_mem hx] at this
  have hp:=List.length_pos_of_mem hx
  simp only [List.length_cons]; omega
theorem dup_ex:∀ (b:List Str),¬ b.Nodup→∃ x,x∈b∧x∈b.erase x
 | [],h=>absurd List.nodup_nil h
 | y::b,h=>by
  by_cases hy:y∈b
  ·exact ⟨y,by simp,by rw [List.erase_cons_head]; exact hy⟩
  ·have hb:¬ b.Nodup:=fun q=>h (List.nodup_cons.2 ⟨hy,q⟩)
   obtain ⟨x,h1,h2⟩:=dup_ex b hb
   refine ⟨x,by simp [h1], ?_⟩
   have hne:y≠x:=fun e=>hy (e ▸ h1)
   rw [List.erase_cons_tail (by simpa using hne)]
   simp [h2]
theorem apart_iff (l:List Str):apartS l=true↔l.Nodup:=by
 have hs:(srt l).length=l.length:=by simp [srt]
 obtain ⟨h1,h2⟩:=newL_rise l
 have hle:(newL l).length≤l.length:=by have:=Lib.compact_length_le (srt l); rw [hs] at this; exact this
 have hn:(newL l).Nodup:=h1.imp fun h e=>by subst e; rw [sLt_irrefl] at h; cases h
 have e:apartS l=true↔(newL l).length=l.length:=by
  show ((((newL l).length:Int)==((srt l).length:Int))=true)↔_
  rw [hs,beq_iff_eq]; omega
 rw [e]
 constructor
 ·intro q
  by_cases hd:l.Nodup
  ·exact hd
  ·exfalso
   obtain ⟨x,hx,hx2⟩:=dup_ex l hd
   have:=sub_len hn (b:=l.erase x) (fun y hy=>by
    have hy2:=(h2 y).1 hy
    by_cases e:y=x
    ·subst e; exact hx2
    ·exact (List.mem_erase_of_ne e).2 hy2)
   rw [List.length_erase_of_mem hx] at this
   have hp:=List.length_pos_of_mem hx
   omega
 ·intro q
  have:=sub_len q (b:=newL l) (fun y hy=>(h2 y).2 hy)
  omega
theorem srt_any (l:List Str) (p:Str→Bool):(srt l).any p=l.any p:=by
 rw [Bool.eq_iff_iff,List.any_eq_true,List.any_eq_true]
 simp only [srt,List.mem_mergeSort]
theorem right_eq (d m:List Str):rightS d m=(decide (d++m).Nodup && sizesS d m && (d++m).all nameS):=by
 rw [rightS,srt_any]
 have e:apartS (d++m)=decide (d++m).Nodup:=by rw [Bool.eq_iff_iff,apart_iff,decide_eq_true_iff]
 rw [e,List.any_eq_not_all_not]; simp
def cityL:List Str:=[[99,105,116,121],[107,105,110,100]]
def costL:List Str:=[[99,111,115,116]]
theorem n1:nameS [97,95,49]=true:=by decide
theorem n2:nameS [115,117,109]=false:=by decide
theorem v1:valueS [97,34]=false:=by decide
theorem c1:checkS cityL costL 3 [[],[120,32,121]] [-4]=0:=by decide
theorem v3:findV cityL [107,105,110,100]=.tup [.int .i64 1,.bool true]:=by rw [findV,if_pos (by decide)]; rfl
end Go.Proofs.Vale
namespace Go.Proofs.Vale
open Go.Proofs Go.Proofs.YtplehleekabbaaaGreatDoorT
attribute [local irreducible] acode aopsL aopsT dopsL dopsT pop popG aop ALoop ADraw ACall AWP AFin acondT ALoopT ADrawT ACallT doP doG doGd
theorem ACallT.part {P:Program} {f:FuncId} {xs xs':List AV} {h h2:List AObj} {K:AV→List AObj→Prop} {t:Tag K} (T:Nat→Bool) (k:Nat) (hlen:h2.length=h.length) (hp:∀ i o,h2[i]? = some o→PartO T h i o) (hl:xs.map (frzT T h k)=xs') (a:ACallT P f xs' h2 K t):ACallT P f xs h K t:=by
 unfold ACallT at a ⊢; exact ACall.partArgs T k hlen hp hl a
def T2 (n:Nat) (i:Nat):Bool:=i==n || i==n+1
end Go.Proofs.Vale
namespace Go.Proofs.Vale
open Go.Proofs Go.Proofs.YtplehleekabbaaaGreatDoorT
attribute [local irreducible] acode aopsL aopsT dopsL dopsT pop popG aop ALoop ADraw ACall AWP AFin acondT ALoopT ADrawT ACallT doP doG doGd
end Go.Proofs.Vale
namespace Go.Proofs.Vale
open Go.Proofs Go.Proofs.YtplehleekabbaaaGreatDoorT
attribute [local irreducible] acode aopsL aopsT dopsL dopsT pop popG aop ALoop ADraw ACall AWP AFin acondT ALoopT ADrawT ACallT doP doG doGd
end Go.Proofs.Vale
