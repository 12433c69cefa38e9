/- YtplehleekabbaaaGreatDoorVSrtI: a text of the proof of this claim, by its prover. -/
import Derived.Test.YtplehleekabbaaaGreatDoorVSrtH
import Derived.Test.YtplehleekabbaaaGreatDoorVSrtF
set_option linter.unusedVariables false
set_option linter.unusedSimpArgs false
set_option maxHeartbeats 4000000
set_option maxRecDepth 100000
namespace Go.Proofs.Vale
open Go.Proofs Go.Proofs.YtplehleekabbaaaGreatDoorT
attribute [local irreducible] acode aopsL aopsT dopsL dopsT pop popG aop ALoop ADraw ACall AWP AFin acondT ALoopT ADrawT ACallT doP doG doGd frL frT frX
def PTq (v:Rw) (i z:Nat) (M:List Rw):Prop:=0 < i∧i≤z∧z≤M.length∧G M 0=v∧(∀ x,0 < x→x < i→cmpR (G M x) v < 0)∧(∀ x,z≤x→x < M.length→0≤cmpR (G M x) v)
def PDq (v:Rw) (k:Nat) (M:List Rw):Prop:=k < M.length∧G M k=v∧(∀ x,x < k→cmpR (G M x) v < 0)∧(∀ x,k < x→x < M.length→0≤cmpR (G M x) v)
theorem pt_end {v:Rw} {j:Nat} {M:List Rw} (h:PTq v (j+1) (j+1) M) (h0:0 < M.length) (hj:j < M.length):PDq v j ((M.set j M[0]).set 0 M[j]):=by
 obtain ⟨_,_,_,h4,h5,h6⟩:=h
 by_cases e:j=0
 ·subst e
  simp only [List.set_getElem_self]
  exact ⟨h0,h4,fun x hx=>absurd hx (by omega),fun x h1 h2=>h6 x (by omega) h2⟩
 ·have sw:=fun k=>G_swap (M:=M) hj h0 e k
  refine ⟨by simpa using hj, ?_,fun x hx=>?_,fun x h1 h2=>?_⟩
  ·rw [sw]; simp [h4]
  ·rw [sw]; simp only [show ¬ x=j by omega,if_false]
   by_cases ex:x=0
   ·subst ex; simp only [if_true]; exact h5 j (by omega) (by omega)
   ·simp only [ex,if_false]; exact h5 x (by omega) (by omega)
  ·rw [sw]; simp only [show ¬ x=j by omega,show ¬ x=0 by omega,if_false]
   exact h6 x (by omega) (by simpa using h2)
theorem pt_swap {v:Rw} {i j:Nat} {M:List Rw} (h:PTq v i (j+1) M) (hij:i < j) (hi:i < M.length) (hj:j < M.length) (h1:0≤cmpR (G M i) v) (h2:cmpR (G M j) v < 0):PTq v (i+1) j ((M.set i M[j]).set j M[i]):=by
 obtain ⟨k1,k2,k3,h4,h5,h6⟩:=h
 have sw:=fun k=>G_swap (M:=M) hi hj (by omega) k
 refine ⟨by omega,by omega,by simp; omega, ?_,fun x g1 g2=>?_,fun x g1 g2=>?_⟩
 ·rw [sw]; simp [show ¬ 0=i by omega,show ¬ 0=j by omega,h4]
 ·rw [sw]
  by_cases ex:x=i
  ·simp only [ex,if_true]; exact h2
  ·simp only [ex,show ¬ x=j by omega,if_false]; exact h5 x g1 (by omega)
 ·rw [sw]
  by_cases ex:x=j
  ·simp only [ex,show ¬ j=i by omega,if_true,if_false]; exact h1
  ·simp only [ex,show ¬ x=i by omega,if_false]; exact h6 x (by omega) (by simpa using g2)
theorem pd_cut {v:Rw} {k:Nat} {M:List Rw} (h:PDq v k M):∃ U W,M=U++v::W∧U.length=k∧(∀ u∈U,cmpR u v≤0)∧(∀ w∈W,cmpR v w≤0):=by
 obtain ⟨h1,h2,h3,h4⟩:=h
 refine ⟨M.take k,M.drop (k+1), ?_,by simp; omega,fun u hu=>?_,fun w hw=>?_⟩
 ·rw [← h2,G_lt h1]; simp
 ·obtain ⟨i,hi,rfl⟩:=List.getElem_of_mem hu
  have hik:i < k:=by simp at hi; omega
  have:=h3 i hik
  rw [G_lt (by omega)] at this
  simp only [List.getElem_take]; omega
 ·obtain ⟨i,hi,rfl⟩:=List.getElem_of_mem hw
  simp at hi
  have:=h4 (k+1+i) (by omega) (by omega)
  rw [G_lt (by omega)] at this
  simp only [List.getElem_drop]
  exact cmpR_ge _ _ this
theorem pe_cut {v:Rw} {k:Nat} {M:List Rw} (h:PE v k k M):∃ U W,M=U++W∧U.length=k∧0 < k∧(∀ u∈U,cmpR u v≤0)∧(∀ w∈W,cmpR v w≤0):=by
 obtain ⟨h1,h2,h3,h4,h5,h6⟩:=h
 refine ⟨M.take k,M.drop k,by simp,by simp; omega,h1,fun u hu=>?_,fun w hw=>?_⟩
 ·obtain ⟨i,hi,rfl⟩:=List.getElem_of_mem hu
  have hik:i < k:=by simp at hi; omega
  have:=h5 i hik
  rw [G_lt (by omega)] at this
  simp only [List.getElem_take]; exact cmpR_ge _ _ this
 ·obtain ⟨i,hi,rfl⟩:=List.getElem_of_mem hw
  simp at hi
  have:=h6 (k+i) (by omega) (by omega)
  rw [G_lt (by omega)] at this
  simp only [List.getElem_drop]; omega
def LoR (P M:List Rw):Prop:=∀ A p,P=A++[p]→∀ x∈M,cmpR p x≤0
def QSo (M A M1 B:List Rw):Prop:=(A++(M1++B)).Perm M∧SrtR A∧SrtR B∧(∀ a∈A,∀ x∈M1++B,cmpR a x≤0)∧(∀ x∈M1,∀ b∈B,cmpR x b≤0)
theorem QSo_start (M:List Rw):QSo M [] M []:=⟨by simp,.nil,.nil,by simp,by simp⟩
theorem QSo_perm {M A M1 M2 B:List Rw} (h:QSo M A M1 B) (hp:M2.Perm M1):QSo M A M2 B :=
 ⟨((hp.append_right B).append_left A).trans h.1,h.2.1,h.2.2.1,fun a ha x hx=>h.2.2.2.1 a ha x (by
  rcases List.mem_append.1 hx with q | q
  ·exact List.mem_append_left _ (hp.subset q)
  ·exact List.mem_append_right _ q),fun x hx=>h.2.2.2.2 x (hp.subset hx)⟩
theorem QSo_end {M A M1 B:List Rw} (h:QSo M A M1 B) (hs:SrtR M1):SrtR (A++(M1++B)) :=
 List.pairwise_append.2 ⟨h.2.1,List.pairwise_append.2 ⟨hs,h.2.2.1,h.2.2.2.2⟩,h.2.2.2.1⟩
theorem QSo_eq {M A U W B:List Rw} {v:Rw} (h:QSo M A (U++W) B) (hv:∀ u∈U,cmpR u v≤0) (hu:∀ u∈U,cmpR v u≤0) (hw:∀ w∈W,cmpR v w≤0):QSo M (A++U) W B:=by
 refine ⟨by simpa using h.1,List.pairwise_append.2 ⟨h.2.1, ?_,fun a ha u q=>h.2.2.2.1 a ha u (by simp [q])⟩,h.2.2.1,fun a ha x hx=>?_,fun x hx=>h.2.2.2.2 x (by simp [hx])⟩
 ·refine List.pairwise_iff_getElem.2 fun i j hi hj _=>cmpR_le _ _ _ (hv _ (List.getElem_mem _)) (hu _ (List.getElem_mem _))
 ·rcases List.mem_append.1 ha with q | q
  ·exact h.2.2.2.1 a q x (by rcases List.mem_append.1 hx with r | r <;> simp [r])
  ·rcases List.mem_append.1 hx with r | r
   ·exact cmpR_le _ _ _ (hv _ q) (hw _ r)
   ·exact h.2.2.2.2 a (by simp [q]) x r
theorem QSo_left {M A U U' W B:List Rw} {v:Rw} (h:QSo M A (U++v::W) B) (hp:U'.Perm U) (hs:SrtR U') (hu:∀ u∈U,cmpR u v≤0) (hw:∀ w∈W,cmpR v w≤0):QSo M (A++(U'++[v])) W B:=by
 have h2:=QSo_perm h ((hp.append_right (v::W)))
 have hu2:∀ u∈U',cmpR u v≤0:=fun u q=>hu u (hp.subset q)
 refine ⟨by simpa using h2.1,List.pairwise_append.2 ⟨h2.2.1,List.pairwise_append.2 ⟨hs,by simp,by simpa using hu2⟩,fun a ha u q=>h2.2.2.2.1 a ha u (by simp at q; rcases q with q | q <;> simp [q])⟩,h2.2.2.1,fun a ha x hx=>?_,fun x hx=>h2.2.2.2.2 x (by simp [hx])⟩
 simp only [List.mem_append,List.mem_singleton] at ha hx
 rcases ha with q | q | rfl
 ·exact h2.2.2.2.1 a q x (by rcases hx with r | r <;> simp [r])
 ·rcases hx with r | r
  ·exact cmpR_le _ _ _ (hu2 _ q) (hw _ r)
  ·exact h2.2.2.2.2 a (by simp [q]) x r
 ·rcases hx with r | r
  ·exact hw _ r
  ·exact h2.2.2.2.2 a (by simp) x r
theorem QSo_right {M A U W W' B:List Rw} {v:Rw} (h:QSo M A (U++v::W) B) (hp:W'.Perm W) (hs:SrtR W') (hu:∀ u∈U,cmpR u v≤0) (hw:∀ w∈W,cmpR v w≤0):QSo M A U (v::(W'++B)):=by
 have h2:=QSo_perm h (((hp.cons v).append_left U))
 have hw2:∀ u∈W',cmpR v u≤0:=fun u q=>hw u (hp.subset q)
 refine ⟨by simpa using h2.1,h2.2.1,List.pairwise_cons.2 ⟨fun x hx=>?_,List.pairwise_append.2 ⟨hs,h2.2.2.1,fun a ha b hb=>h2.2.2.2.2 a (by simp [ha]) b hb⟩⟩,fun a ha x hx=>h2.2.2.2.1 a ha x (by
  simp only [List.mem_append,List.mem_cons] at hx ⊢
  rcases hx with r | r | r | r <;> simp [r]),fun x hx b hb=>?_⟩
 ·rcases List.mem_append.1 hx with q | q
  ·exact hw2 _ q
  ·exact h2.2.2.2.2 v (by simp) x q
 ·simp only [List.mem_append,List.mem_cons] at hb
  rcases hb with rfl | q | q
  ·exact hu _ hx
  ·exact cmpR_le _ _ _ (hu _ hx) (hw2 _ q)
  ·exact h2.2.2.2.2 x (by simp [hx]) b q
theorem QSo_lo {P M A M1 B:List Rw} (h:QSo M A M1 B) (hl:LoR P M):LoR (P++A) M1:=by
 intro C p e x hx
 rcases List.eq_nil_or_concat A with rfl | ⟨A',a,rfl⟩
 ·simp at e
  exact hl C p e x (h.1.subset (by simp [hx]))
 ·have:p=a:=by
   have e2:=congrArg List.getLast? e
   simp at e2; exact e2.symm
  subst this
  exact h.2.2.2.1 p (by simp) x (by simp [hx])
end Go.Proofs.Vale
