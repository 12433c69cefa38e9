/- YtplehleekabbaaaGreatDoorVSchP: a text of the proof of this claim, by its prover. -/
import Derived.Test.YtplehleekabbaaaGreatDoorVSchO
open Nat renaming reduceMul → uA, reduceLT → uB, reduceLeDiff → uC, reduceEqDiff → uD, reduceBEq → uE, lt_irrefl → uQ
open Int renaming toNat_natCast → uF, reduceToNat → uG, reduceNeg → uH, reduceLT → uI, reduceLE → uJ, reduceBEq → uK, reduceBNe → uL
open Bool renaming false_eq_true → uO
set_option linter.unusedVariables false
set_option linter.unusedSimpArgs false
set_option maxHeartbeats 4000000
set_option maxRecDepth 100000
namespace Go.Proofs.Vale
open Go.Proofs Go.Proofs.YtplehleekabbaaaGreatDoorT
attribute [local irreducible] acode aopsL aopsT dopsL dopsT pop popG aop ALoop ADraw ACall AWP AFin acondT ALoopT ADrawT ACallT doP doG doGd
theorem arg_str {β:Beta} {fr:Nat→Prop} {H:Array Obj} {s:Str} {x:AV} {us:Array Value} (R:CellsRep β fr H [.str s,x] us):∃ (a:ByteArray) (u:Value),us=#[.string a,u]∧a.data.toList=s∧Rep β fr H x u:=by
 obtain ⟨hvs,hv⟩:=R
 obtain ⟨v,hv1,hv2⟩:=hv 0 (by simp)
 obtain ⟨u,hu1,hu2⟩:=hv 1 (by simp)
 simp only [List.getElem_cons_zero,List.getElem_cons_succ] at hv2 hu2
 simp only [Rep] at hv2
 obtain ⟨a,rfl,ha⟩:=hv2
 refine ⟨a,u, ?_,ha,hu2⟩
 apply Array.ext_getElem?
 intro i
 rcases i with _ | _ | i
 ·rw [hv1]; rfl
 ·rw [hu1]; rfl
 ·rw [Array.getElem?_eq_none (by rw [hvs]; simp),Array.getElem?_eq_none (by simp)]
theorem indexByte_ok (s:Str) (c:Int) (h:List AObj):ACall Tryz.prog 166 [.str s,.int .u8 c] h (fun r h'=>r=.int .i64 (Lib.indexByte s c.toNat.toUInt8)∧h'=h):=by
 unfold ACall; intro w β fr us L Rr
 obtain ⟨a,u,rfl,rfl,hu⟩:=arg_str Rr
 simp only [Rep] at hu
 subst hu
 refine (Tryz.strings_IndexByte a c w).mono ?_
 rintro e w' ⟨rfl,rfl⟩
 exact ⟨_,_,_,β,fr,rfl,⟨rfl,rfl⟩,L,by simp [Rep],Step1.refl _ _ _ _⟩
theorem indexRune_lo (s:Str) (c:Int) (h:List AObj) (h0:0≤c) (h1:c < 128):ACall Tryz.prog 144 [.str s,.int .i32 c] h (fun r h'=>r=.int .i64 (Lib.indexByte s c.toNat.toUInt8)∧h'=h):=by
 unfold ACall; intro w β fr us L Rr
 obtain ⟨a,u,rfl,rfl,hu⟩:=arg_str Rr
 simp only [Rep] at hu
 subst hu
 refine (Tryz.strings_IndexRune_ascii a c w h0 h1).mono ?_
 rintro e w' ⟨rfl,rfl⟩
 exact ⟨_,_,_,β,fr,rfl,⟨rfl,rfl⟩,L,by simp [Rep],Step1.refl _ _ _ _⟩
theorem enc_hi (r:Int) (h:128≤r):(∃ a b,encA r=[a,b]∧128≤b.toNat)∨(∃ a b c,encA r=[a,b,c])∨(∃ a b c d,encA r=[a,b,c,d]):=by
 unfold encA Utf8.encode
 generalize hc:(if Utf8.valid r then r.toNat else Utf8.runeError)=c
 have h8:128≤c:=by
  rw [← hc]; split
  ·omega
  ·decide
 simp only []
 rw [if_neg (by omega)]
 split
 ·refine .inl ⟨_,_,rfl, ?_⟩
  rw [UInt8.toNat_ofNat']; omega
 ·split
  ·exact .inr (.inl ⟨_,_,_,rfl⟩)
  ·exact .inr (.inr ⟨_,_,_,_,rfl⟩)
theorem validRune_ok (r:Int) (h:List AObj):ACall Tryz.prog 167 [.int .i32 r] h (fun x h'=>(∃ b,x=.bool b)∧h'=h):=by
 (refine ACall.of_code Tryz.func167 rfl ?_; simp only [Tryz.f167]; simp only [go_sem,uA,uB,uC,uD,uE,uF,uG,uH,uI,uJ,uK,uL,uM,uN,uO,uP,uQ])
 generalize (bif decide ((0:Int)≤r) then decide (r < 55296) else false)=z
 cases z with
 | true=>simp only [go_sem,uA,uB,uC,uD,uE,uF,uG,uH,uI,uJ,uK,uL,uM,uN,uO,uP,uQ]; exact Fin_plain ⟨⟨_,rfl⟩,rfl⟩
 | false =>
  simp only [go_sem,uA,uB,uC,uD,uE,uF,uG,uH,uI,uJ,uK,uL,uM,uN,uO,uP,uQ]
  generalize (bif decide ((57343:Int) < r) then decide (r≤1114111) else false)=z
  cases z with
  | true=>simp only [go_sem,uA,uB,uC,uD,uE,uF,uG,uH,uI,uJ,uK,uL,uM,uN,uO,uP,uQ]; exact Fin_plain ⟨⟨_,rfl⟩,rfl⟩
  | false=>simp only [go_sem,uA,uB,uC,uD,uE,uF,uG,uH,uI,uJ,uK,uL,uM,uN,uO,uP,uQ]; exact Fin_plain ⟨⟨_,rfl⟩,rfl⟩
theorem indexRune_hi (r:Int) (h:List AObj) (h0:128≤r):ACall Tryz.prog 144 [.str [34,92],.int .i32 r] h (fun x _=>∃ i:Int,x=.int .i64 i):=by
 (refine ACall.of_code Tryz.func144 rfl ?_; simp only [Tryz.f144]; simp only [go_sem,uA,uB,uC,uD,uE,uF,uG,uH,uI,uJ,uK,uL,uM,uN,uO,uP,uQ])
 have hz:(bif decide ((0:Int)≤r) then decide (r < 128) else false)=false:=by
  rw [show decide (r < 128)=false by simp; omega]; cases decide ((0:Int)≤r) <;> rfl
 generalize (bif decide ((0:Int)≤r) then decide (r < 128) else false)=z at hz ⊢
 subst hz
 simp only [go_sem,uA,uB,uC,uD,uE,uF,uG,uH,uI,uJ,uK,uL,uM,uN,uO,uP,uQ]
 generalize hz:(r==65533)=z
 cases z with
 | true =>
  simp only [go_sem,uA,uB,uC,uD,uE,uF,uG,uH,uI,uJ,uK,uL,uM,uN,uO,uP,uQ]
  refine ALoop.over [4,5,6,176,177,178,179,180,181,182] (fun e h'=>∃ k:Nat,k≤2∧h'=h++[.it [34,92] k]) (fun e h'=>2 - (match h'[h.length]? with | some (.it _ k)=>k | _=>0)) ⟨0,by omega,rfl⟩ ?_
  simp only [List.length_cons,List.length_nil,Nat.reduceAdd,allL_succ,allL_zero]
  intro y4 y5 y6 y176 y177 y178 y179 y180 y181 y182 h' hI
  obtain ⟨k,hk,rfl⟩:=hI
  simp only [go_sem,getElem?_app0,uA,uB,uC,uD,uE,uF,uG,uH,uI,uJ,uK,uL,uM,uN,uO,uP,uQ]
  refine nxG_intro (fun hp=>?_) (fun hp=>?_)
  ·simp only [go_sem,uA,uB,uC,uD,uE,uF,uG,uH,uI,uJ,uK,uL,uM,uN,uO,uP,uQ]
   have hk2:k < 2:=hp
   have hd:dcA [34,92] k=(if k=0 then 34 else 92,1):=by
    rcases k with _ | _ | k
    ·decide
    ·decide
    ·omega
   have hne:(((dcA [34,92] k).1:Int)==65533)=false:=by rw [hd]; split <;> decide
   rw [hne,show (dcA [34,92] k).2=1 by rw [hd]]
   simp only [go_sem,getElem?_app0,set_app0,uA,uB,uC,uD,uE,uF,uG,uH,uI,uJ,uK,uL,uM,uN,uO,uP,uQ]
   exact ⟨⟨k+1,hk2,rfl⟩,Nat.sub_lt_sub_left hk2 (Nat.lt_succ_self k)⟩
  ·simp only [go_sem,uA,uB,uC,uD,uE,uF,uG,uH,uI,uJ,uK,uL,uM,uN,uO,uP,uQ]
   exact Fin_plain ⟨_,rfl⟩
 | false =>
  simp only [go_sem,uA,uB,uC,uD,uE,uF,uG,uH,uI,uJ,uK,uL,uM,uN,uO,uP,uQ]
  refine ACallT.by (validRune_ok r _) ?_
  rintro x h1 ⟨⟨b,rfl⟩,rfl⟩
  cases b with
  | false=>simp only [go_sem,uA,uB,uC,uD,uE,uF,uG,uH,uI,uJ,uK,uL,uM,uN,uO,uP,uQ]; exact Fin_plain ⟨_,rfl⟩
  | true =>
   have hE:=enc_hi r h0
   simp only [go_sem,uA,uB,uC,uD,uE,uF,uG,uH,uI,uJ,uK,uL,uM,uN,uO,uP,uQ]
   generalize encA r=en at *
   rcases hE with ⟨a,b,rfl,hb⟩ | ⟨a,b,c,rfl⟩ | ⟨a,b,c,d,rfl⟩
   ·simp only [go_sem,uA,uB,uC,uD,uE,uF,uG,uH,uI,uJ,uK,uL,uM,uN,uO,uP,uQ]
    refine ALoop.over [4,9,10,11,12,23,24,25,26,27,28,29,30,31,32,33,34,35,36,37,38,39,40,41,42,43,44,45,46,47,48,49,50,51,52,53,54,55,56,57,58,59,60,61,62,63,64,65,66,67,68,69,70,71,72,73,74,75,76,77,78,79,80,81,82,83,84,85,86,87,88,89,90,91,92,93,94,95,96,97,98] (fun e h'=>h'=h1∧e.getD 9 .any=.int .i64 1) (fun _ _=>0) ⟨rfl,rfl⟩ ?_
    simp only [List.length_cons,List.length_nil,Nat.reduceAdd,allL_succ,allL_zero]
    intro y4 y9 y10 y11 y12 y23 y24 y25 y26 y27 y28 y29 y30 y31 y32 y33 y34 y35 y36 y37 y38 y39 y40 y41 y42 y43 y44 y45 y46 y47 y48 y49 y50 y51 y52 y53 y54 y55 y56 y57 y58 y59 y60 y61 y62 y63 y64 y65 y66 y67 y68 y69 y70 y71 y72 y73 y74 y75 y76 y77 y78 y79 y80 y81 y82 y83 y84 y85 y86 y87 y88 y89 y90 y91 y92 y93 y94 y95 y96 y97 y98 h' hI
    simp only [go_sem] at hI
    obtain ⟨rfl,rfl⟩:=hI
    simp only [go_sem,uA,uB,uC,uD,uE,uF,uG,uH,uI,uJ,uK,uL,uM,uN,uO,uP,uQ]
    refine acond_intro (fun hc=>?_) (fun hc=>absurd hc (by decide))
    simp only [go_sem,uA,uB,uC,uD,uE,uF,uG,uH,uI,uJ,uK,uL,uM,uN,uO,uP,uQ]
    refine ADrawT.quiet mixedOrdersD (by kernel_rfl) ?_
    simp only [go_sem,uA,uB,uC,uD,uE,uF,uG,uH,uI,uJ,uK,uL,uM,uN,uO,uP,uQ]
    refine ⟨by decide,by decide, ?_⟩
    rw [show IntKind.i64.wrap (((2:Nat):Int) - 1)=1 from rfl]
    refine acond_intro (fun hc=>?_) (fun hc=>?_)
    ·simp only [go_sem,uA,uB,uC,uD,uE,uF,uG,uH,uI,uJ,uK,uL,uM,uN,uO,uP,uQ]
     refine ADrawT.quiet mixedOrdersD (by kernel_rfl) ?_
     simp only [go_sem,uA,uB,uC,uD,uE,uF,uG,uH,uI,uJ,uK,uL,uM,uN,uO,uP,uQ]
     refine ⟨by decide,by decide, ?_⟩
     refine doX_intro (.int .i64 (-1)) ?_ ?_
     ·simp only [go_sem,uA,uB,uC,uD,uE,uF,uG,uH,uI,uJ,uK,uL,uM,uN,uO,uP,uQ]
      rw [show IntKind.i64.wrap (1+1)=2 from rfl]
      refine ACallT.by (indexByte_ok _ _ _) ?_
      rintro x h2 ⟨rfl,rfl⟩
      simp only [go_sem,uA,uB,uC,uD,uE,uF,uG,uH,uI,uJ,uK,uL,uM,uN,uO,uP,uQ]
      rfl
     ·simp only [go_sem,uA,uB,uC,uD,uE,uF,uG,uH,uI,uJ,uK,uL,uM,uN,uO,uP,uQ]
      exact Fin_plain ⟨_,rfl⟩
    ·exfalso
     have hc2:(((UInt8.toNat 92:Nat):Int) != ((([a,b].getD 1 0).toNat:Nat):Int))=false:=hc
     simp only [List.getD_cons_succ,List.getD_cons_zero] at hc2
     have:((UInt8.toNat 92:Nat):Int)=((b.toNat:Nat):Int):=by simpa using hc2
     have h92:UInt8.toNat 92=92:=rfl
     omega
   ·simp only [go_sem,uA,uB,uC,uD,uE,uF,uG,uH,uI,uJ,uK,uL,uM,uN,uO,uP,uQ]
    refine ALoop.over [4,9,10,11,12,23,24,25,26,27,28,29,30,31,32,33,34,35,36,37,38,39,40,41,42,43,44,45,46,47,48,49,50,51,52,53,54,55,56,57,58,59,60,61,62,63,64,65,66,67,68,69,70,71,72,73,74,75,76,77,78,79,80,81,82,83,84,85,86,87,88,89,90,91,92,93,94,95,96,97,98] (fun e h'=>h'=h1∧e.getD 9 .any=.int .i64 2) (fun _ _=>0) ⟨rfl,rfl⟩ ?_
    simp only [List.length_cons,List.length_nil,Nat.reduceAdd,allL_succ,allL_zero]
    intro y4 y9 y10 y11 y12 y23 y24 y25 y26 y27 y28 y29 y30 y31 y32 y33 y34 y35 y36 y37 y38 y39 y40 y41 y42 y43 y44 y45 y46 y47 y48 y49 y50 y51 y52 y53 y54 y55 y56 y57 y58 y59 y60 y61 y62 y63 y64 y65 y66 y67 y68 y69 y70 y71 y72 y73 y74 y75 y76 y77 y78 y79 y80 y81 y82 y83 y84 y85 y86 y87 y88 y89 y90 y91 y92 y93 y94 y95 y96 y97 y98 h' hI
    simp only [go_sem] at hI
    obtain ⟨rfl,rfl⟩:=hI
    simp only [go_sem,uA,uB,uC,uD,uE,uF,uG,uH,uI,uJ,uK,uL,uM,uN,uO,uP,uQ]
    refine acond_intro (fun hc=>absurd hc (by decide)) (fun hc=>?_)
    simp only [go_sem,uA,uB,uC,uD,uE,uF,uG,uH,uI,uJ,uK,uL,uM,uN,uO,uP,uQ]
    exact Fin_plain ⟨_,rfl⟩
   ·simp only [go_sem,uA,uB,uC,uD,uE,uF,uG,uH,uI,uJ,uK,uL,uM,uN,uO,uP,uQ]
    refine ALoop.over [4,9,10,11,12,23,24,25,26,27,28,29,30,31,32,33,34,35,36,37,38,39,40,41,42,43,44,45,46,47,48,49,50,51,52,53,54,55,56,57,58,59,60,61,62,63,64,65,66,67,68,69,70,71,72,73,74,75,76,77,78,79,80,81,82,83,84,85,86,87,88,89,90,91,92,93,94,95,96,97,98] (fun e h'=>h'=h1∧e.getD 9 .any=.int .i64 3) (fun _ _=>0) ⟨rfl,rfl⟩ ?_
    simp only [List.length_cons,List.length_nil,Nat.reduceAdd,allL_succ,allL_zero]
    intro y4 y9 y10 y11 y12 y23 y24 y25 y26 y27 y28 y29 y30 y31 y32 y33 y34 y35 y36 y37 y38 y39 y40 y41 y42 y43 y44 y45 y46 y47 y48 y49 y50 y51 y52 y53 y54 y55 y56 y57 y58 y59 y60 y61 y62 y63 y64 y65 y66 y67 y68 y69 y70 y71 y72 y73 y74 y75 y76 y77 y78 y79 y80 y81 y82 y83 y84 y85 y86 y87 y88 y89 y90 y91 y92 y93 y94 y95 y96 y97 y98 h' hI
    simp only [go_sem] at hI
    obtain ⟨rfl,rfl⟩:=hI
    simp only [go_sem,uA,uB,uC,uD,uE,uF,uG,uH,uI,uJ,uK,uL,uM,uN,uO,uP,uQ]
    refine acond_intro (fun hc=>absurd hc (by decide)) (fun hc=>?_)
    simp only [go_sem,uA,uB,uC,uD,uE,uF,uG,uH,uI,uJ,uK,uL,uM,uN,uO,uP,uQ]
    exact Fin_plain ⟨_,rfl⟩
theorem dc_w (s:Str) (k:Nat) (h:k < s.length):1≤(dcA s k).2∧k+(dcA s k).2≤s.length:=by
 have hsz:(⟨⟨s⟩⟩:ByteArray).size=s.length:=rfl
 unfold dcA
 simp only [Utf8.decode,hsz]
 split
 ·exact ⟨by show 1≤1; omega,by show k+1≤_; omega⟩
 ·split
  ·rename_i hc
   simp only [Bool.and_eq_true,decide_eq_true_eq] at hc
   split
   ·exact ⟨by show 1≤2; omega,by show k+2≤_; omega⟩
   ·exact ⟨by show 1≤1; omega,by show k+1≤_; omega⟩
  ·split
   ·rename_i hc
    simp only [Bool.and_eq_true,decide_eq_true_eq] at hc
    split
    ·exact ⟨by show 1≤3; omega,by show k+3≤_; omega⟩
    ·exact ⟨by show 1≤1; omega,by show k+1≤_; omega⟩
   ·split
    ·rename_i hc
     simp only [Bool.and_eq_true,decide_eq_true_eq] at hc
     split
     ·exact ⟨by show 1≤4; omega,by show k+4≤_; omega⟩
     ·exact ⟨by show 1≤1; omega,by show k+1≤_; omega⟩
    ·exact ⟨by show 1≤1; omega,by show k+1≤_; omega⟩
theorem useSet_ok (n:Int) (h:List AObj):ACall Tryz.prog 145 [.int .i64 n] h (fun r h'=>r=.bool (decide (8 < n))∧h'=h):=by
 (refine ACall.of_code Tryz.func145 rfl ?_; simp only [Tryz.f145]; simp only [go_sem,uA,uB,uC,uD,uE,uF,uG,uH,uI,uJ,uK,uL,uM,uN,uO,uP,uQ])
 exact Fin_plain ⟨rfl,rfl⟩
def barS:Str:=[34,92]
theorem indexAny_short (s:Str) (h:List AObj) (hs:s.length≤8):ACall Tryz.prog 116 [.str s,.str barS] h (fun x _=>∃ i:Int,x=.int .i64 i):=by
 have hb2:barS.length=2:=rfl
 rw [barS]
 (refine ACall.of_code Tryz.func116 rfl ?_; simp only [Tryz.f116]; simp only [go_sem,uA,uB,uC,uD,uE,uF,uG,uH,uI,uJ,uK,uL,uM,uN,uO,uP,uQ])
 refine acond_intro (fun hc=>absurd hc (by decide)) (fun hc=>?_)
 simp only [go_sem,uA,uB,uC,uD,uE,uF,uG,uH,uI,uJ,uK,uL,uM,uN,uO,uP,uQ]
 refine acond_intro (fun hc=>absurd hc (by decide)) (fun hc=>?_)
 simp only [go_sem,uA,uB,uC,uD,uE,uF,uG,uH,uI,uJ,uK,uL,uM,uN,uO,uP,uQ]
 refine ACallT.by (useSet_ok _ _) ?_
 rintro x h1 ⟨rfl,rfl⟩
 rw [show decide ((8:Int) < (s.length:Int))=false by simp; omega]
 simp only [go_sem,uA,uB,uC,uD,uE,uF,uG,uH,uI,uJ,uK,uL,uM,uN,uO,uP,uQ]
 refine ALoop.over [4,9,10,46,47,48,49,50,51,52,53,54] (fun e h'=>∃ k:Nat,k≤s.length∧h'=h1++[.it s k]) (fun e h'=>s.length - (match h'[h1.length]? with | some (.it _ k)=>k | _=>0)) ⟨0,by omega,rfl⟩ ?_
 simp only [List.length_cons,List.length_nil,Nat.reduceAdd,allL_succ,allL_zero]
 intro y4 y9 y10 y46 y47 y48 y49 y50 y51 y52 y53 y54 h' hI
 obtain ⟨k,hk,rfl⟩:=hI
 simp only [go_sem,getElem?_app0,uA,uB,uC,uD,uE,uF,uG,uH,uI,uJ,uK,uL,uM,uN,uO,uP,uQ]
 refine nxG_intro (fun hp=>?_) (fun hp=>?_)
 ·simp only [go_sem,uA,uB,uC,uD,uE,uF,uG,uH,uI,uJ,uK,uL,uM,uN,uO,uP,uQ]
  obtain ⟨hw1,hw2⟩:=dc_w s k hp
  have hcall:∀ h,ACall Tryz.prog 144 [.str [34,92],.int .i32 ((dcA s k).1:Int)] h (fun x _=>∃ i:Int,x=.int .i64 i):=fun h=>by
   by_cases q:(dcA s k).1 < 128
   ·refine (indexRune_lo _ _ h (by omega) (by omega)).mono ?_
    rintro x h2 ⟨rfl,rfl⟩
    exact ⟨_,rfl⟩
   ·exact indexRune_hi _ h (by omega)
  refine ACallT.frame (hcall _) ?_
  rintro x h2 ⟨i,rfl⟩
  refine ⟨by (first | rfl | (simp only [AV.low,lowL,low_strs,Bool.and_true,Bool.and_self])), ?_⟩
  simp only [go_sem,uA,uB,uC,uD,uE,uF,uG,uH,uI,uJ,uK,uL,uM,uN,uO,uP,uQ]
  refine acond_intro (fun hc=>?_) (fun hc=>?_)
  ·simp only [go_sem,uA,uB,uC,uD,uE,uF,uG,uH,uI,uJ,uK,uL,uM,uN,uO,uP,uQ]
   exact Fin_plain ⟨_,rfl⟩
  ·simp only [go_sem,getElem?_app0,set_app0,uA,uB,uC,uD,uE,uF,uG,uH,uI,uJ,uK,uL,uM,uN,uO,uP,uQ]
   exact ⟨⟨_,hw2,rfl⟩,Nat.sub_lt_sub_left hp (Nat.lt_add_of_pos_right hw1)⟩
 ·simp only [go_sem,uA,uB,uC,uD,uE,uF,uG,uH,uI,uJ,uK,uL,uM,uN,uO,uP,uQ]
  exact Fin_plain ⟨_,rfl⟩
theorem indexAny_long (s:Str) (h:List AObj) (h8:8 < s.length) (hs:s.length < 4294967281):ACall Tryz.prog 116 [.str s,.str barS] h (fun x _=>∃ i:Int,x=.int .i64 i):=by
 unfold ACall; intro w β fr us L Rr
 obtain ⟨a,b,rfl,rfl,hb⟩:=two_args Rr
 have hb3:b.data.toList.length=2:=by rw [hb]; rfl
 refine (Tryz.strings_IndexAny_long (zero_of_info (n:=256) (by kernel_rfl)).1 a b w (by rw [bsize]; omega) (by rw [bsize]; exact h8) (by rw [bsize]; exact hs) (by rw [bsize]; omega) (fun j x hx=>?_)).mono ?_
 ·rw [hb] at hx
  have:=List.mem_of_getElem? hx
  simp only [barS,List.mem_cons,List.not_mem_nil,or_false] at this
  rcases this with rfl | rfl <;> decide
 rintro e w' ⟨rfl,B⟩
 have B2:Go.RowKit.Below w.heap.size w w':=by
  rw [B]; exact ((Go.RowKit.Below.refl _ _).alloc (Nat.le_refl _) _).alloc (by simp) _
 obtain ⟨L',S'⟩:=below_lay L B2
 exact ⟨_,.int .i64 (Lib.indexAny a.data.toList b.data.toList),_,β,fr,rfl,⟨_,rfl⟩,L',by simp [Rep],S'⟩
theorem containsAny_any (s:Str) (h:List AObj) (hs:s.length < 4294967281):ACall Tryz.prog 91 [.str s,.str barS] h (fun x _=>∃ b:Bool,x=.bool b):=by
 have hi:∀ h,ACall Tryz.prog 116 [.str s,.str barS] h (fun x _=>∃ i:Int,x=.int .i64 i):=fun h=>by
  by_cases q:s.length≤8
  ·exact indexAny_short s h q
  ·exact indexAny_long s h (by omega) hs
 (refine ACall.of_code Tryz.func91 rfl ?_; simp only [Tryz.f91]; simp only [go_sem,uA,uB,uC,uD,uE,uF,uG,uH,uI,uJ,uK,uL,uM,uN,uO,uP,uQ])
 refine ACallT.by (hi _) ?_
 rintro x h2 ⟨i,rfl⟩
 simp only [go_sem,uA,uB,uC,uD,uE,uF,uG,uH,uI,uJ,uK,uL,uM,uN,uO,uP,uQ]
 exact Fin_plain ⟨_,rfl⟩
theorem value_all (s:Str) (h:List AObj) (hs:s.length≤9223372036854775807):ACall Tryz.prog 57 [.str s] h (fun r _=>r=.bool (valueS s)):=by
 by_cases ha:ascii s=true
 ·exact value_ok s h hs ha
 have hbad:s.any badB=true:=by
  rw [ascii,List.all_eq_true] at ha
  simp only [Classical.not_forall] at ha
  obtain ⟨b,hb,hb2⟩:=ha
  rw [List.any_eq_true]
  refine ⟨b,hb, ?_⟩
  have:128≤b.toNat:=by simpa using hb2
  simp only [badB,badR]
  rw [show decide ((126:Int) < ((b.toNat:Nat):Int))=true by simp; omega]
  cases decide (((b.toNat:Nat):Int) < 32) <;> rfl
 have hv:valueS s=false:=by rw [valueS,hbad]; simp
 (refine ACall.of_code Tryz.func57 rfl ?_; simp only [Tryz.f57]; simp only [go_sem,uA,uB,uC,uD,uE,uF,uG,uH,uI,uJ,uK,uL,uM,uN,uO,uP,uQ])
 generalize hz:decide (((List.length s:Nat):Int)≤24)=z
 cases z with
 | false=>simp only [go_sem,uA,uB,uC,uD,uE,uF,uG,uH,uI,uJ,uK,uL,uM,uN,uO,uP,uQ]; exact Fin_plain (by rw [hv])
 | true =>
  have:=of_decide_eq_true hz
  simp only [go_sem,uA,uB,uC,uD,uE,uF,uG,uH,uI,uJ,uK,uL,uM,uN,uO,uP,uQ]
  refine ACallT.by (containsAny_any s _ (by omega)) ?_
  rintro r h1 ⟨b,rfl⟩
  cases b with
  | true=>simp only [go_sem,uA,uB,uC,uD,uE,uF,uG,uH,uI,uJ,uK,uL,uM,uN,uO,uP,uQ]; exact Fin_plain (by rw [hv])
  | false =>
   simp only [go_sem,uA,uB,uC,uD,uE,uF,uG,uH,uI,uJ,uK,uL,uM,uN,uO,uP,uQ]
   refine ACallT.by (containsF_ok s _ hs) ?_
   rintro r h2 rfl
   simp only [go_sem,uA,uB,uC,uD,uE,uF,uG,uH,uI,uJ,uK,uL,uM,uN,uO,uP,uQ]
   exact Fin_plain (by rw [hv,hbad]; rfl)
end Go.Proofs.Vale
