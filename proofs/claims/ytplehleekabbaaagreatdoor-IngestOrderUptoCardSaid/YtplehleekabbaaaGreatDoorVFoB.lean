/- YtplehleekabbaaaGreatDoorVFoB: a text of the proof of this claim, by its prover. -/
import Derived.Test.YtplehleekabbaaaGreatDoorVCpC
import Derived.Test.YtplehleekabbaaaGreatDoorVSrtD
set_option linter.unusedVariables false
set_option linter.unusedSimpArgs false
set_option maxHeartbeats 4000000
set_option maxRecDepth 100000
namespace Go.Proofs.Vale
open Go.Proofs Go.Proofs.YtplehleekabbaaaGreatDoorT
attribute [local irreducible] acode aopsL aopsT dopsL dopsT pop popG aop ALoop ADraw ACall AWP AFin acondT ALoopT ADrawT ACallT doP doG doGd frL frT frX
def posR (out:List Rw) (r:Rw):Nat:=(out.takeWhile fun o=>lessR o r).length
theorem posR_eq (r:Rw):∀ (out:List Rw) (k:Nat),k≤out.length→(∀ j,j < k→lessR (G out j) r=true)→(k < out.length→lessR (G out k) r=false)→k=posR out r:=by
 intro out
 induction out with
 | nil=>intro k h _ _; simp at h; subst h; rfl
 | cons a out ih =>
  intro k hk h1 h2
  cases k with
  | zero =>
   have:=h2 (by simp)
   have e:G (a::out) 0=a:=rfl
   rw [e] at this
   simp [posR,List.takeWhile_cons,this]
  | succ k =>
   have h0:=h1 0 (by omega)
   have e:G (a::out) 0=a:=rfl
   rw [e] at h0
   have:=ih k (by simpa using hk) (fun j hj=>h1 (j+1) (by omega)) (fun q=>h2 (by simpa using q))
   simp [posR,List.takeWhile_cons,h0] at this ⊢
   exact this
def stepR (out:List Rw) (r:Rw):Int × List Rw :=
 if posR out r < out.length∧keyB (G out (posR out r)) r=true then
  (if joinC (G out (posR out r)) r=0 then (0,out.take (posR out r)++joinR (G out (posR out r)) r::out.drop (posR out r+1)) else (joinC (G out (posR out r)) r,[]))
 else (0,out.take (posR out r)++r::out.drop (posR out r))
def foldS (s:Int × List Rw) (r:Rw):Int × List Rw:=if s.1=0 then stepR s.2 r else s
def foldF (L:List Rw):Int × List Rw:=L.foldl foldS (0,[])
theorem foldF_snoc (L:List Rw) (i:Nat) (hi:i < L.length):foldF (L.take (i+1))=foldS (foldF (L.take i)) L[i]:=by
 unfold foldF
 rw [List.take_succ_eq_append_getElem hi,List.foldl_append]; rfl
theorem foldS_err:∀ (L:List Rw) (s:Int × List Rw),s.1≠0→L.foldl foldS s=s:=by
 intro L
 induction L with
 | nil=>intro s _; rfl
 | cons a L ih =>
  intro s h
  rw [List.foldl_cons]
  have:foldS s a=s:=by unfold foldS; rw [if_neg h]
  rw [this]; exact ih s h
theorem foldF_err (L:List Rw) (i:Nat) (h:(foldF (L.take i)).1≠0):foldF L=foldF (L.take i):=by
 conv=>lhs; rw [← List.take_append_drop i L]
 unfold foldF at h ⊢
 rw [List.foldl_append]; exact foldS_err _ _ h
def FoOk (p q:Nat) (r:Rw):Prop:=r.2.1.length=p∧r.2.2.2.length=q
theorem keyB_cmp (a b:Rw):keyB a b=!(cmpR a b != 0):=by
 have h:=cmpR_eq0 a b
 unfold keyB
 by_cases e:cmpR a b=0
 ·have:=h.1 e
  unfold keyR at this
  injection this with e1 e2
  simp [e,e1,e2]
 ·have hk:¬ keyR a=keyR b:=fun q=>e (h.2 q)
  have:(decide (a.2.1=b.2.1) && (a.1==b.1))=false:=by
   by_cases e1:a.2.1=b.2.1
   ·by_cases e2:a.1=b.1
    ·exact absurd (by unfold keyR; rw [e1,e2]) hk
    ·simp [e2]
   ·simp [e1]
  rw [this]; simp [e]
theorem joinR_ok2 {a b:Rw} {p q:Nat} (ha:FoOk p q a) (hb:FoOk p q b) (h:joinC a b=0):FoOk p q (joinR a b):=by
 rw [joinR_ok h]
 exact ⟨ha.1,by simp only; rw [joinG_len (by rw [ha.2,hb.2]),ha.2]⟩
end Go.Proofs.Vale
namespace Go.Proofs.Vale
open Go.Proofs Go.Proofs.YtplehleekabbaaaGreatDoorT
attribute [local irreducible] acode aopsL aopsT dopsL dopsT pop popG aop ALoop ADraw ACall AWP AFin acondT ALoopT ADrawT ACallT doP doG doGd frL frT frX
def OutR (n0:Nat) (H:List AObj) (out:List Rw) (X:AV):Prop:=(out=[]∧X=.fz true [])∨(out≠[]∧∃ u g',X=.sl u g' 4 0 out.length∧n0≤u∧H[u]? = some (.arr g' 4 (rowsA out)))
theorem rows_okEl (out:List Rw) (k:Nat):(List.take k (rowsA out)).all (okEl 4)=true:=by
 rw [List.all_eq_true]
 intro x hx
 obtain ⟨r,_,rfl⟩:=List.mem_map.1 (List.mem_of_mem_take hx)
 rfl
end Go.Proofs.Vale
