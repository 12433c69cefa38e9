/- YtplehleekabbaaaGreatDoorVRw: a text of the proof of this claim, by its prover. -/
import Derived.Test.YtplehleekabbaaaGreatDoorVTurn
import Derived.Test.YtplehleekabbaaaGreatDoorVDrw
set_option linter.unusedVariables false
set_option linter.unusedSimpArgs false
namespace Go.Proofs.Vale
def gdv (env:List AV) (ds:List (Option Nat)) (g:Option (Nat × Bool)):Option Bool :=
 match g with
 | none=>some true
 | some (j,w)=>gdA (gv env ds j) w
def QS (P:Program) (ds:List (Option Nat)) (o:Oper) (env:List AV) (h:List AObj) (x:AV) (h':List AObj):Prop :=
 ∃ gd,gdv env ds o.guard=some gd∧(gd=true→OpK P o (evA env) h fun y g=>y=x∧g=h')∧(gd=false→x=.tup []∧h'=h)
def QSL (P:Program):List (Option Nat)→List Oper→List AV→List AObj→List AV→List AObj→Prop
 | _,[],env,h,env',h'=>env'=env∧h'=h
 | ds,o::os,env,h,env',h'=>∃ x h1,QS P ds o env h x h1∧QSL P (o.dst::ds) os (putA env o.dst x) h1 env' h'
theorem QSL_ok {P : Program} {ops : Array Oper} {Q : Exit → Act → World → Prop} {ro : Option Nat} {dfs : List Deferred} : ∀ (rest done : List Oper) (env : List AV) (h : List AObj) (env' : List AV) (h' : List AObj) (tmps : Array Value) (w : World) (β : Beta) (fr : Nat → Prop), ops.toList = done ++ rest →
  QSL P (done.map (·.dst)).reverse rest env h env' h'→Lay β fr w.heap h→EnvRep β fr w.heap env tmps →
  (∀ β' fr' tmps' w',Lay β' fr' w'.heap h'→EnvRep β' fr' w'.heap env' tmps'→Step1 β fr h w β' fr' h' w'→Q .normal ⟨tmps',dfs⟩ w') →
  wpListIn (roF ro) 0 P ops Q rest ⟨tmps,dfs⟩ w
 | [],done,env,h,env',h',tmps,w,β,fr,hops,hk,L,R,hQ=>by
  obtain ⟨rfl,rfl⟩:=hk
  exact hQ β fr tmps w L R (Step1.refl _ _ _ _)
 | o::rest,done,env,h,env',h',tmps,w,β,fr,hops,hk,L,R,hQ=>by
  have hops':ops.toList=(done++[o])++rest:=by simp [hops]
  have hds:(o.dst::(done.map (·.dst)).reverse)=((done++[o]).map (·.dst)).reverse:=by simp
  obtain ⟨x,h1,⟨gd,hgd,ht,hf⟩,hk⟩:=hk
  rw [hds] at hk
  have next:∀ v w1 β1 fr1,Lay β1 fr1 w1.heap h1→Rep β1 fr1 w1.heap x v→Step1 β fr h w β1 fr1 h1 w1→wpListIn (roF ro) 0 P ops Q rest ((⟨tmps,dfs⟩:Act).put o.dst v) w1:=by
   intro v w1 β1 fr1 L1 R1 S1
   rw [put_act]
   exact QSL_ok rest (done++[o]) _ h1 env' h' _ w1 β1 fr1 hops' hk L1 ((R.ext S1.ext).put R1 o.dst) fun β2 fr2 t2 w2 L2 R2 S2=>hQ β2 fr2 t2 w2 L2 R2 (S1.trans S2)
  have hev:∀ y,y∈o.op.operands→Rep β fr w.heap (evA env y) ((⟨tmps,dfs⟩:Act).eval y):=fun y _=>R.eval y
  have hw:Region.wanted o (yielded ops tmps)=gd:=by
   unfold gdv at hgd
   cases hg:o.guard with
   | none=>rw [hg] at hgd; simp at hgd; subst hgd; simp [Region.wanted,hg]
   | some jw=>obtain ⟨j,want⟩:=jw; rw [hg] at hgd; exact guard_spec hops R hgd hg
  simp only [wpListIn]
  rw [hw]
  cases gd with
  | true =>
   rw [if_pos rfl]
   exact ht rfl ⟨tmps,dfs⟩ w β fr L hev _ _ _ fun v y w1 g β1 fr1 k L1 R1 S1=>by
    obtain ⟨rfl,rfl⟩:=k
    exact next v w1 β1 fr1 L1 R1 S1
  | false =>
   rw [if_neg (by simp)]
   refine ⟨fun _ _=>trivial, ?_⟩
   obtain ⟨rfl,rfl⟩:=hf rfl
   exact next _ w β fr L (Rep_undef _ _ _) (Step1.refl _ _ _ _)
theorem qs_run {P : Program} {ops : Array Oper} {i : Nat} {o : Oper} {env : List AV} {h h1 : List AObj} {x : AV} {tmps : Array Value} {w : World} {β : Beta} {fr : Nat → Prop} {Q : Exit → Act → World → Prop} {ro : Option Nat} {dfs : List Deferred} {Kc : Act → World → Prop}
  (ho:ops[i]? = some o) (hq:QS P ((ops.toList.take i).map (·.dst)).reverse o env h x h1) (L:Lay β fr w.heap h) (hs:Sees β fr w.heap ops o env tmps)
  (hk:∀ v w' β' fr',Lay β' fr' w'.heap h1→Rep β' fr' w'.heap x v→Step1 β fr h w β' fr' h1 w'→Kc ((⟨tmps,dfs⟩:Act).put o.dst v) w'):wpOpIn (roF ro) 0 P ops Q i Kc ⟨tmps,dfs⟩ w:=by
 unfold wpOpIn
 rw [ho]
 simp only
 obtain ⟨gd,hgd,ht,hf⟩:=hq
 have hw:Region.wanted o (yielded ops tmps)=gd:=by
  unfold gdv at hgd
  cases hg:o.guard with
  | none=>rw [hg] at hgd; simp at hgd; subst hgd; simp [Region.wanted,hg]
  | some jw=>obtain ⟨j,want⟩:=jw; rw [hg] at hgd; exact guard_sees hs hgd hg
 rw [hw]
 cases gd with
 | true =>
  rw [if_pos rfl]
  exact ht rfl ⟨tmps,dfs⟩ w β fr L (fun y hy=>hs.eval y hy) _ _ _ fun v y w' h' β' fr' k L' R' S'=>by
   obtain ⟨rfl,rfl⟩:=k
   exact hk v w' β' fr' L' R' S'
 | false =>
  rw [if_neg (by simp)]
  refine ⟨fun _ _=>trivial, ?_⟩
  obtain ⟨rfl,rfl⟩:=hf rfl
  exact hk _ w β fr L (Rep_undef _ _ _) (Step1.refl _ _ _ _)
def curK (tu S:Nat→Bool):Nat→Nat
 | 0=>0
 | n+1=>if tu n && S n then n+1 else curK tu S n
theorem curK_le (tu S:Nat→Bool):∀ n,curK tu S n≤n
 | 0=>Nat.le_refl _
 | n+1=>by simp only [curK]; split; exact Nat.le_refl _; have:=curK_le tu S n; omega
theorem curK_gt {tu S:Nat→Bool} {t:Nat} (ht:tu t=true) (hS:S t=true):∀ n,t < n→t < curK tu S n
 | 0,h=>by omega
 | n+1,h=>by
  simp only [curK]
  split
  ·exact h
  ·rename_i q
   rcases Nat.lt_or_ge t n with e | e
   ·exact curK_gt ht hS n e
   ·obtain rfl:t=n:=by omega
    simp [ht,hS] at q
theorem curK_cases (tu S:Nat→Bool):∀ n,curK tu S n=0∨∃ t,t < n∧tu t=true∧S t=true∧curK tu S n=t+1
 | 0=>.inl rfl
 | n+1=>by
  simp only [curK]
  split
  ·rename_i q
   rw [Bool.and_eq_true] at q
   exact .inr ⟨n,by omega,q.1,q.2,rfl⟩
  ·rcases curK_cases tu S n with e | ⟨t,h1,h2,h3,h4⟩
   ·exact .inl e
   ·exact .inr ⟨t,by omega,h2,h3,h4⟩
theorem curK_congr {tu S T:Nat→Bool}:∀ n,(∀ i,i < n→tu i=true→S i=T i)→curK tu S n=curK tu T n
 | 0,_=>rfl
 | n+1,h=>by
  simp only [curK]
  rw [curK_congr n fun i hi=>h i (by omega)]
  cases e:tu n with
  | false=>rfl
  | true=>rw [h n (by omega) e]
theorem chain_mem {tu:Nat→Bool} {H:Nat→List AObj} (hH:∀ i,tu i=false→H (i+1)=H i):∀ (n k:Nat),k≤n→(∀ t,k≤t→t < n→tu t=false)→H n=H k
 | 0, k, hk, _ => by obtain rfl : k = 0 := by omega
                     rfl
 | n+1,k,hk,h=>by
  by_cases e:k=n+1
  ·rw [e]
  ·rw [hH n (h n (by omega) (by omega)),chain_mem hH n k (by omega) fun t h1 h2=>h t h1 (by omega)]
def okChain (ops:Array Oper) (tu:Nat→Bool):Bool :=
 let A:=ancL ops.toList []
 (List.range ops.size).all fun j=>!tu j || (List.range ops.size).all fun i=>!(tu i && decide (i < j)) || (A.getD j []).contains i
theorem okChain_spec {ops:Array Oper} {tu:Nat→Bool} (h:okChain ops tu=true) {i j:Nat} (hj:j < ops.size) (hij:i < j) (h1:tu i=true) (h2:tu j=true):i∈(ancL ops.toList []).getD j []:=by
 have a:=List.all_eq_true.1 h j (by simpa using hj)
 simp only [h2,Bool.not_true,Bool.false_or] at a
 have b:=List.all_eq_true.1 a i (by simp; omega)
 simpa [h1,hij] using b
def Win (ops:Array Oper) (tu:Nat→Bool) (i k:Nat):Prop :=
 k≤ops.size∧∀ t,t < ops.size→tu t=true→(t∈(ancL ops.toList []).getD i []→t < k)∧(i∈(ancL ops.toList []).getD t []→k≤t)
theorem wpAny_chain {P : Program} {ops : Array Oper} {tu : Nat → Bool} {xs : Nat → AV} {H : Nat → List AObj} {env : List AV} {Q : Exit → Act → World → Prop} {ro : Option Nat} {dfs : List Deferred} (hok : okDraw ops = true) (hch : okChain ops tu = true) (hH : ∀ i, tu i = false → H (i + 1) = H i)
  (hq:∀ i o,ops.toList[i]? = some o→tu i=false→∀ k,Win ops tu i k→QS P ((ops.toList.take i).map (·.dst)).reverse o (mix ops.toList xs (fun _=>true) env i) (H k) (xs i) (H k))
  (ht:∀ i o,ops.toList[i]? = some o→tu i=true→QS P ((ops.toList.take i).map (·.dst)).reverse o (mix ops.toList xs (fun _=>true) env i) (H i) (xs i) (H (i+1))) :
  ∀ (fuel:Nat) (listed:Array Bool) (tmps:Array Value) (w:World) (β:Beta) (fr:Nat→Prop),listed.size=ops.size→Down ops.toList (fun j=>listed.getD j false)→listed.toList.countP (·==false)≤fuel →
   Lay β fr w.heap (H (curK tu (fun j=>listed.getD j false) ops.size))→EnvRep β fr w.heap (mix ops.toList xs (fun j=>listed.getD j false) env ops.size) tmps →
   (∀ tmps' w' β' fr',Lay β' fr' w'.heap (H ops.size)→EnvRep β' fr' w'.heap (mix ops.toList xs (fun _=>true) env ops.size) tmps'→Step1 β fr (H (curK tu (fun j=>listed.getD j false) ops.size)) w β' fr' (H ops.size) w'→Q .normal ⟨tmps',dfs⟩ w') →
   wpAnyIn (roF ro) 0 P .any ops Q fuel listed ⟨tmps,dfs⟩ w:=by
 have fin:∀ (listed:Array Bool),listed.size=ops.size→(∀ i,i < ops.size→listed.getD i false=true)→mix ops.toList xs (fun j=>listed.getD j false) env ops.size=mix ops.toList xs (fun _=>true) env ops.size :=
  fun listed hsz ha=>mix_congr ops.size fun i hi=>⟨ha i hi,rfl⟩
 have finH:∀ (listed:Array Bool),(∀ i,i < ops.size→listed.getD i false=true)→H (curK tu (fun j=>listed.getD j false) ops.size)=H ops.size:=by
  intro listed ha
  refine (chain_mem hH _ _ (curK_le _ _ _) fun t h1 h2=>?_).symm
  cases e:tu t with
  | false=>rfl
  | true =>
   have:=curK_gt (tu:=tu) (S:=fun j=>listed.getD j false) e (ha t h2) ops.size h2
   omega
 intro fuel
 induction fuel with
 | zero =>
  intro listed tmps w β fr hsz hD hc L R hQ
  have ha:∀ i,i < ops.size→listed.getD i false=true:=by
   intro i hi
   have h0:=List.countP_eq_zero.1 (Nat.le_zero.1 hc)
   have hi':i < listed.size:=by omega
   have:=h0 listed[i] (by simp)
   rw [Array.getD_eq_getD_getElem?, Array.getElem?_eq_getElem hi']
   simpa using this
  rw [finH listed ha] at L hQ
  refine ⟨?_, ?_⟩
  ·rw [List.eq_nil_iff_forall_not_mem]
   intro i hi
   obtain ⟨o,ho,h1,_⟩:=(mem_ready hsz).1 hi
   rw [ha i (Array.getElem?_eq_some_iff.1 ho).1] at h1; cases h1
  ·rw [fin listed hsz ha] at R
   exact hQ tmps w β fr L R (Step1.refl _ _ _ _)
 | succ fuel ih =>
  intro listed tmps w β fr hsz hD hc L R hQ
  refine ⟨fun hr=>?_,fun i hi=>?_⟩
  ·have ha:=all_listed hok hsz hr
   rw [finH listed ha] at L hQ
   rw [fin listed hsz ha] at R
   exact hQ tmps w β fr L R (Step1.refl _ _ _ _)
  ·obtain ⟨o,ho,h1,h2'⟩:=(mem_ready hsz).1 hi
   have hin:=(Array.getElem?_eq_some_iff.1 ho).1
   have hoL:ops.toList[i]? = some o:=by rw [Array.getElem?_toList]; exact ho
   have hT:∀ j,j < ops.size→(listed.setIfInBounds i true).getD j false=(listed.getD j false || j==i):=by
    intro j hj
    rw [Array.getD_eq_getD_getElem?, Array.getD_eq_getD_getElem?]
    by_cases e:i=j
    ·subst e
     rw [Array.getElem?_setIfInBounds_self_of_lt (by omega)]; simp
    ·rw [Array.getElem?_setIfInBounds_ne e]
     have:(j==i)=false:=by simp; omega
     rw [this,Bool.or_false]
   have hT2:∀ j,(listed.setIfInBounds i true).getD j false=true→listed.getD j false=true∨j=i:=by
    intro j hj
    by_cases q:j < ops.size
    ·rw [hT j q] at hj; simpa using hj
    ·rw [Array.getD_eq_getD_getElem?, Array.getElem?_eq_none (by simp; omega)] at hj; simp at hj
   have hT3:∀ j,listed.getD j false=true→(listed.setIfInBounds i true).getD j false=true:=by
    intro j hj
    by_cases q:j < ops.size
    ·rw [hT j q,hj]; rfl
    ·rw [Array.getD_eq_getD_getElem?, Array.getElem?_eq_none (by omega)] at hj; simp at hj
   have go:∀ (m m':List AObj) v w' β' fr',m=H (curK tu (fun j=>listed.getD j false) ops.size)→m'=H (curK tu (fun j=>(listed.setIfInBounds i true).getD j false) ops.size)→Lay β' fr' w'.heap m'→Rep β' fr' w'.heap (xs i) v→Step1 β fr m w β' fr' m' w'→wpAnyIn (roF ro) 0 P .any ops Q fuel (listed.setIfInBounds i true) ((⟨tmps,dfs⟩:Act).put o.dst v) w':=by
    intro m m' v w' β' fr' em em' L' R' S'
    subst em em'
    rw [put_act]
    refine ih (listed.setIfInBounds i true) _ w' β' fr' (by simp [hsz]) ?_ ?_ L' ?_ fun t2 w2 β2 fr2 L2 R2 S2=>hQ t2 w2 β2 fr2 L2 R2 (S'.trans S2)
    ·intro j oj hj hSj k hk
     rcases hT2 j hSj with q | q
     ·exact hT3 k (hD j oj hj q k hk)
     ·subst q
      rw [hoL] at hj; injection hj with hj; subst hj
      exact hT3 k (h2' k hk)
    ·rw [Array.toList_setIfInBounds,List.countP_set (by simpa using (by omega:i < listed.size))]
     have hli:listed.toList[i]'(by simpa using (by omega:i < listed.size))=false:=by
      rw [Array.getD_eq_getD_getElem?, Array.getElem?_eq_getElem (by omega)] at h1
      simpa using h1
     rw [hli]
     have:0 < listed.toList.countP (·==false):=List.countP_pos_iff.2 ⟨false,by rw [← hli]; exact List.getElem_mem _,rfl⟩
     rw [show (false==false)=true from rfl,show (true==false)=false from rfl,if_pos rfl,if_neg (by simp)]
     omega
    ·rw [mix_step (S:=fun j=>listed.getD j false) (T:=fun j=>(listed.setIfInBounds i true).getD j false) hok hin h1 hT]
     have hd:dstAt ops.toList i=o.dst:=by simp [dstAt,ho]
     rw [hd]
     exact (R.ext S'.ext).put R' o.dst
   have before:∀ t,t∈(ancL ops.toList []).getD i []→listed.getD t false=true:=fun t q=>anc_good ops.toList i o hoL t q (fun j=>listed.getD j false) hD h2'
   have behind:∀ t,t < ops.size→i∈(ancL ops.toList []).getD t []→listed.getD t false=false:=by
    intro t hts q
    cases e:listed.getD t false with
    | false=>rfl
    | true =>
     exfalso
     obtain ⟨ot,hot⟩:∃ ot,ops.toList[t]? = some ot:=⟨_,List.getElem?_eq_getElem (by simpa using hts)⟩
     have:=anc_good ops.toList t ot hot i q (fun j=>listed.getD j false) hD (fun k hk=>hD t ot hot e k hk)
     rw [h1] at this; cases this
   cases hti:tu i with
   | true =>
    have e1:H (curK tu (fun j=>listed.getD j false) ops.size)=H i:=by
     have hlt:curK tu (fun j=>listed.getD j false) ops.size≤i:=by
      rcases curK_cases tu (fun j=>listed.getD j false) ops.size with e | ⟨t,q1,q2,q3,q4⟩
      ·omega
      ·rw [q4]
       rcases Nat.lt_trichotomy t i with q | q | q
       ·omega
       ·subst q; rw [h1] at q3; cases q3
       ·have:=behind t q1 (okChain_spec hch q1 q hti q2)
        rw [this] at q3; cases q3
     refine (chain_mem hH _ _ hlt fun t q1 q2=>?_).symm
     cases e:tu t with
     | false=>rfl
     | true =>
      have:=curK_gt (tu:=tu) (S:=fun j=>listed.getD j false) e (before t (okChain_spec hch hin q2 e hti)) ops.size (by omega)
      omega
    have e2:curK tu (fun j=>(listed.setIfInBounds i true).getD j false) ops.size=i+1:=by
     have g1:=curK_gt (tu:=tu) (S:=fun j=>(listed.setIfInBounds i true).getD j false) hti (by simp only [hT i hin]; simp) ops.size hin
     rcases curK_cases tu (fun j=>(listed.setIfInBounds i true).getD j false) ops.size with e | ⟨t,q1,q2,q3,q4⟩
     ·omega
     ·rw [q4]
      rcases Nat.lt_trichotomy t i with q | q | q
      ·omega
      ·omega
      ·have:=behind t q1 (okChain_spec hch q1 q hti q2)
       simp only [hT t q1,this] at q3
       simp at q3; omega
    rw [e1] at L
    exact qs_run ho (ht i o hoL hti) L (sees_mix hok ho hD h2' h1 R) fun v w' β' fr' L' R' S'=>go _ _ v w' β' fr' e1.symm (by rw [e2]) L' R' S'
   | false =>
    have e2:curK tu (fun j=>(listed.setIfInBounds i true).getD j false) ops.size=curK tu (fun j=>listed.getD j false) ops.size:=by
     refine curK_congr _ fun j hj htj=>?_
     rw [hT j hj]
     have:(j==i)=false:=by
      simp; intro e; subst e; rw [hti] at htj; cases htj
     rw [this,Bool.or_false]
    have hwin:Win ops tu i (curK tu (fun j=>listed.getD j false) ops.size):=by
     refine ⟨curK_le _ _ _,fun t hts htt=>⟨fun q=>curK_gt htt (before t q) _ hts,fun q=>?_⟩⟩
     have hb:=behind t hts q
     rcases curK_cases tu (fun j=>listed.getD j false) ops.size with e | ⟨s,q1,q2,q3,q4⟩
     ·omega
     ·rw [q4]
      rcases Nat.lt_trichotomy s t with r | r | r
      ·omega
      ·subst r; rw [hb] at q3; cases q3
      ·obtain ⟨os,hos⟩:∃ os,ops.toList[s]? = some os:=⟨_,List.getElem?_eq_getElem (by simpa using q1)⟩
       have:=anc_good ops.toList s os hos t (okChain_spec hch q1 r htt q2) (fun j=>listed.getD j false) hD (fun k hk=>hD s os hos q3 k hk)
       rw [hb] at this; cases this
    exact qs_run ho (hq i o hoL hti _ hwin) L (sees_mix hok ho hD h2' h1 R) fun v w' β' fr' L' R' S'=>go _ _ v w' β' fr' rfl (by rw [e2]) L' R' S'
theorem ADraw.chain {P : Program} {ops : Array Oper} {tu : Nat → Bool} {xs : Nat → AV} {H : Nat → List AObj} {env : List AV} {K : List AV → List AObj → Prop} (hm : P.follows .mixedOrders = true) (hok : okDraw ops = true) (hch : okChain ops tu = true) (hH : ∀ i, tu i = false → H (i + 1) = H i)
  (hq:∀ i o,ops.toList[i]? = some o→tu i=false→∀ k,Win ops tu i k→QS P ((ops.toList.take i).map (·.dst)).reverse o (mix ops.toList xs (fun _=>true) env i) (H k) (xs i) (H k))
  (ht:∀ i o,ops.toList[i]? = some o→tu i=true→QS P ((ops.toList.take i).map (·.dst)).reverse o (mix ops.toList xs (fun _=>true) env i) (H i) (xs i) (H (i+1)))
  (k:K (mix ops.toList xs (fun _=>true) env ops.size) (H ops.size)):ADraw P ops K env (H 0):=by
 intro id n0 ro dfs tmps w β fr Su L R
 have e0:∀ j,(Array.replicate ops.size false).getD j false=false:=by
  intro j
  rw [Array.getD_eq_getD_getElem?, Array.getElem?_replicate]; split <;> rfl
 have m0:∀ n,mix ops.toList xs (fun j=>(Array.replicate ops.size false).getD j false) env n=env:=by
  intro n
  induction n with
  | zero=>rfl
  | succ n ih=>simp only [mix,e0,Bool.false_eq_true,if_false] at ih ⊢; exact ih
 have c0:∀ n,curK tu (fun j=>(Array.replicate ops.size false).getD j false) n=0:=by
  intro n
  induction n with
  | zero=>rfl
  | succ n ih=>simp only [curK,e0,Bool.and_false,Bool.false_eq_true,if_false] at ih ⊢; exact ih
 refine wpIn_region_any hm ?_
 refine wpAny_chain hok hch hH hq ht ops.size (Array.replicate ops.size false) tmps { w with drawn:=w.drawn+1 } β fr (by simp) ?_ ?_ ?_ ?_ ?_
 ·intro i o ho hS; simp only [e0] at hS; cases hS
 ·exact Nat.le_trans List.countP_le_length (by simp)
 ·rw [c0]; exact L
 ·rw [m0]; exact R
 ·intro tmps' w' β' fr' L' R' S'
  rw [c0] at S'
  have SS:=(Step1.drawn (w:=w) (w':={ w with drawn:=w.drawn+1 }) rfl rfl rfl rfl).trans S'
  exact ⟨_,_,β',fr',k,Su.step SS,L',R',SS⟩
end Go.Proofs.Vale
set_option maxHeartbeats 1000000
namespace Go.Proofs.Vale
def opn (tu S:Nat→Bool):Nat→Nat
 | 0=>0
 | n+1=>if opn tu S n=n then (if tu n && !S n then n else n+1) else opn tu S n
theorem opn_le (tu S:Nat→Bool):∀ n,opn tu S n≤n
 | 0=>Nat.le_refl _
 | n+1=>by
  simp only [opn]
  have:=opn_le tu S n
  split
  ·split <;> omega
  ·omega
theorem opn_run {tu S:Nat→Bool}:∀ {n t:Nat},t < opn tu S n→tu t=true→S t=true
 | 0,t,h,_=>by simp [opn] at h
 | n+1,t,h,ht=>by
  simp only [opn] at h
  split at h
  ·rename_i e
   split at h
   ·rename_i q
    exact opn_run (n:=n) (by omega) ht
   ·rename_i q
    by_cases z:t=n
    ·subst z
     cases hs:S t with
     | true=>rfl
     | false=>rw [ht,hs] at q; simp at q
    ·exact opn_run (n:=n) (by omega) ht
  ·exact opn_run (n:=n) h ht
theorem opn_stop {tu S:Nat→Bool}:∀ {n:Nat},opn tu S n < n→tu (opn tu S n)=true∧S (opn tu S n)=false
 | 0,h=>by omega
 | n+1,h=>by
  simp only [opn] at h ⊢
  split at h
  ·rename_i e
   rw [if_pos e]
   split at h
   ·rename_i q
    rw [if_pos q]
    rw [Bool.and_eq_true,Bool.not_eq_true'] at q
    exact q
   ·omega
  ·rename_i e
   rw [if_neg e]
   exact opn_stop (by have:=opn_le tu S n; omega)
theorem opn_congr {tu S T:Nat→Bool}:∀ n,(∀ i,i < n→tu i=true→S i=T i)→opn tu S n=opn tu T n
 | 0,_=>rfl
 | n+1,h=>by
  simp only [opn]
  rw [opn_congr n fun i hi=>h i (by omega)]
  cases e:tu n with
  | false=>rfl
  | true=>rw [h n (by omega) e]
theorem opn_ge {tu S:Nat→Bool} {n k:Nat} (hk:k≤n) (h:∀ t,t < k→tu t=true→S t=true):k≤opn tu S n:=by
 rcases Nat.lt_or_ge (opn tu S n) k with q | q
 ·have:=opn_stop (tu:=tu) (S:=S) (n:=n) (by omega)
  rw [h _ q this.1] at this; cases this.2
 ·exact q
def okFree (ops:Array Oper) (tu fe:Nat→Bool):Bool :=
 let A:=ancL ops.toList []
 (List.range ops.size).all fun j=>(!tu j || fe j || (List.range ops.size).all fun i=>!(tu i && decide (i < j)) || (A.getD j []).contains i) &&
  (List.range ops.size).all fun f=>!(fe f && (A.getD j []).contains f) || (List.range ops.size).all fun i=>!(tu i && decide (i < f)) || (A.getD j []).contains i
theorem okFree_chain {ops:Array Oper} {tu fe:Nat→Bool} (h:okFree ops tu fe=true) {i j:Nat} (hj:j < ops.size) (hij:i < j) (h1:tu i=true) (h2:tu j=true) (h3:fe j=false):i∈(ancL ops.toList []).getD j []:=by
 have a:=List.all_eq_true.1 h j (by simpa using hj)
 simp only [h2,h3,Bool.not_true,Bool.false_or,Bool.and_eq_true] at a
 have b:=List.all_eq_true.1 a.1 i (by simp; omega)
 simpa [h1,hij] using b
theorem okFree_lean {ops:Array Oper} {tu fe:Nat→Bool} (h:okFree ops tu fe=true) {i f j:Nat} (hj:j < ops.size) (hf:f < ops.size) (hfj:f∈(ancL ops.toList []).getD j []) (hif:i < f) (h1:tu i=true) (h2:fe f=true):i∈(ancL ops.toList []).getD j []:=by
 have a:=List.all_eq_true.1 h j (by simpa using hj)
 rw [Bool.and_eq_true] at a
 have b:=List.all_eq_true.1 a.2 f (by simp; omega)
 have hc:((ancL ops.toList []).getD j []).contains f=true:=by simpa using hfj
 simp only [h2,hc,Bool.and_self,Bool.not_true,Bool.false_or] at b
 have c:=List.all_eq_true.1 b i (by simp; omega)
 simpa [h1,hif] using c
theorem Lay.adopt {β : Beta} {fr : Nat → Prop} {H : Array Obj} {h : List AObj} (L : Lay β fr H h) {o : AObj} {b : Nat} (hg : o.gen = some 0) (hb : b < H.size) (ho : ¬ Own h β b) (hf : ¬ fr b)
  (hO:ObjAt (betaSet β h.length 0 (some b)) fr H h.length o):Lay (betaSet β h.length 0 (some b)) fr H (h++[o])∧Ext β fr H (betaSet β h.length 0 (some b)) fr H∧∀ b',Own (h++[o]) (betaSet β h.length 0 (some b)) b'→Own h β b'∨b'=b:=by
 have hother:∀ t g',t < h.length→betaSet β h.length 0 (some b) t g'=β t g':=fun t g' h1=>betaSet_other (by omega)
 have E:Ext β fr H (betaSet β h.length 0 (some b)) fr H :=
  { beta := fun t g' r e => by rw [hother t g' (L.dom _ _ _ e)]; exact e
    frm:=fun _ e=>e,cells:=fun _ _=>rfl,shape:=fun t g' b c' e f hb hc=>⟨c',f,hc,rfl⟩ }
 have hown:∀ b',Own (h++[o]) (betaSet β h.length 0 (some b)) b'→Own h β b'∨b'=b:=by
  rintro b' ⟨t,o1,g1,h1,h2,h3⟩
  by_cases hl:t < h.length
  ·rw [List.getElem?_append_left hl] at h1
   rw [hother t g1 hl] at h3
   exact .inl ⟨t,o1,g1,h1,h2,h3⟩
  ·have hlt:=(List.getElem?_eq_some_iff.1 h1).1
   have:t=h.length:=by simp at hlt; omega
   subst this
   rw [List.getElem?_append_right (by omega)] at h1
   simp at h1; subst h1
   rw [hg] at h2; injection h2 with h2; subst h2
   rw [betaSet_same] at h3; injection h3 with h3; injection h3 with h3
   exact .inr h3.symm
 refine ⟨?_,E,hown⟩
 refine { frlt:=L.frlt,ownfr:=fun b' hb' hf'=>?_,lt:=fun t g' b' hb'=>?_,inj:=?_,obj:=fun t o1 h1=>?_,dom:=fun t g' r e=>?_,top:=?_,tab:=L.tab }
 ·rcases hown b' hb' with q | rfl
  ·exact L.ownfr b' q hf'
  ·exact hf hf'
 ·by_cases e:t=h.length∧g'=0
  ·obtain ⟨rfl,rfl⟩:=e
   rw [betaSet_same] at hb'; injection hb' with hb'; injection hb' with hb'; omega
  ·rw [betaSet_other e] at hb'; exact L.lt _ _ _ hb'
 ·intro t t' o1 o2 g1 g2 b' h1 h2 h3 h4 h5 h6
  by_cases hl:t < h.length <;> by_cases hl':t' < h.length
  ·rw [List.getElem?_append_left hl] at h1
   rw [List.getElem?_append_left hl'] at h4
   rw [hother t g1 hl] at h3
   rw [hother t' g2 hl'] at h6
   exact L.inj _ _ _ _ _ _ _ h1 h2 h3 h4 h5 h6
  ·exfalso
   rw [List.getElem?_append_left hl] at h1
   rw [hother t g1 hl] at h3
   have hlt:=(List.getElem?_eq_some_iff.1 h4).1
   have:t'=h.length:=by simp at hlt; omega
   subst this
   rw [List.getElem?_append_right (by omega)] at h4
   simp at h4; subst h4
   rw [hg] at h5; injection h5 with h5; subst h5
   rw [betaSet_same] at h6; injection h6 with h6; injection h6 with h6; subst h6
   exact ho ⟨t,o1,g1,h1,h2,h3⟩
  ·exfalso
   rw [List.getElem?_append_left hl'] at h4
   rw [hother t' g2 hl'] at h6
   have hlt:=(List.getElem?_eq_some_iff.1 h1).1
   have:t=h.length:=by simp at hlt; omega
   subst this
   rw [List.getElem?_append_right (by omega)] at h1
   simp at h1; subst h1
   rw [hg] at h2; injection h2 with h2; subst h2
   rw [betaSet_same] at h3; injection h3 with h3; injection h3 with h3; subst h3
   exact ho ⟨t',o2,g2,h4,h5,h6⟩
  ·have:=(List.getElem?_eq_some_iff.1 h1).1
   have:=(List.getElem?_eq_some_iff.1 h4).1
   simp at *; omega
 ·by_cases hl:t < h.length
  ·rw [List.getElem?_append_left hl] at h1
   exact (L.obj t o1 h1).ext E fun g' b hg' hb=>rfl
  ·have hlt':=(List.getElem?_eq_some_iff.1 h1).1
   have:t=h.length:=by simp at hlt'; omega
   subst this
   rw [List.getElem?_append_right (by omega)] at h1
   simp at h1; subst h1; exact hO
 ·by_cases e':t=h.length∧g'=0
  ·simp; omega
  ·rw [betaSet_other e'] at e; have:=L.dom _ _ _ e; simp; omega
 ·intro t g1 s l h1 g' hg'
  by_cases hl:t < h.length
  ·rw [List.getElem?_append_left hl] at h1
   rw [hother t g' hl]; exact L.top t g1 s l h1 g' hg'
  ·have hlt':=(List.getElem?_eq_some_iff.1 h1).1
   have:t=h.length:=by simp at hlt'; omega
   subst this
   rw [List.getElem?_append_right (by omega)] at h1
   simp at h1; subst h1
   simp only [AObj.gen] at hg; injection hg with hg; subst hg
   rw [betaSet_other (by omega)]
   cases hb:β h.length g' with
   | none=>rfl
   | some r=>exact absurd (L.dom _ _ _ hb) (by omega)
structure Hid (β:Beta) (fr:Nat→Prop) (h:List AObj) (w:World) (n0:Nat) (tmps:Array Value) (t b:Nat) (ob:AObj) (x:AV) (d:Option Nat):Prop where
 lo:n0≤b
 lt:b < w.heap.size
 own:¬ Own h β b
 frz:¬ fr b
 obj:ObjAt (betaSet β t 0 (some b)) fr w.heap t ob
 val:∃ v,Rep (betaSet β t 0 (some b)) fr w.heap x v∧∀ s,d=some s→s < tmps.size→tmps[s]? = some v
theorem Hid.step {β β' : Beta} {fr fr' : Nat → Prop} {h h' : List AObj} {w w' : World} {n0 : Nat} {tmps tmps' : Array Value} {t b : Nat} {ob : AObj} {x : AV} {d : Option Nat} (k : Hid β fr h w n0 tmps t b ob x d) (hg : ob.gen = some 0) (S : Step1 β fr h w β' fr' h' w')
  (ht:tmps'.size=tmps.size) (hd:∀ s,d=some s→tmps'[s]? = tmps[s]?):Hid β' fr' h' w' n0 tmps' t b ob x d:=by
 have hs:=S.keep b k.lt k.own
 have E:Ext (betaSet β t 0 (some b)) fr w.heap (betaSet β' t 0 (some b)) fr' w'.heap :=
  { beta := fun t1 g1 r e => by
     by_cases q:t1=t∧g1=0
     ·obtain ⟨rfl,rfl⟩:=q
      rw [betaSet_same] at e ⊢; exact e
     ·rw [betaSet_other q] at e ⊢; exact S.ext.beta _ _ _ e
    frm:=S.ext.frm,cells:=S.ext.cells
    shape:=fun t1 g1 b1 c e f hb hc=>by
     by_cases q:t1=t∧g1=0
     ·obtain ⟨rfl,rfl⟩:=q
      rw [betaSet_same] at hb; injection hb with hb; injection hb with hb; subst hb
      exact ⟨c,f,hs.trans hc,rfl⟩
     ·rw [betaSet_other q] at hb; exact S.ext.shape _ _ _ _ _ _ hb hc }
 refine ⟨k.lo,Nat.lt_of_lt_of_le k.lt S.size,fun o=>?_,fun f=>?_,k.obj.ext E fun g b1 hg1 hb=>?_, ?_⟩
 ·rcases S.prov b o with q | q
  ·exact k.own q
  ·have:=k.lt; omega
 ·rcases S.frz b f with q | q | q
  ·exact k.frz q
  ·exact k.own q
  ·have:=k.lt; omega
 ·rw [hg] at hg1; injection hg1 with hg1; subst hg1
  rw [betaSet_same] at hb; injection hb with hb; injection hb with hb; subst hb
  exact hs
 ·obtain ⟨v,h1,h2⟩:=k.val
  exact ⟨v,h1.ext E,fun s e hlt=>by rw [hd s e]; exact h2 s e (by rw [← ht]; exact hlt)⟩
def xsH (fe:Nat→Bool) (xs:Nat→AV) (K i:Nat):AV:=if fe i && decide (K≤i) then .any else xs i
structure SF (ops:Array Oper) (tu fe:Nat→Bool) (xs:Nat→AV) (H:Nat→List AObj) (O:Nat→AObj) (env:List AV) (β0:Beta) (fr0:Nat→Prop) (w0:World) (S:Nat→Bool) (K:Nat) (tmps:Array Value) (w:World) (β:Beta) (fr:Nat→Prop) (bl:Nat→Nat):Prop where
 le:K≤ops.size
 run:∀ t,t < K→tu t=true→S t=true
 lay:Lay β fr w.heap (H K)
 env:EnvRep β fr w.heap (mix ops.toList (xsH fe xs K) S env ops.size) tmps
 st:Step1 β0 fr0 (H 0) w0 β fr (H K) w
 hid:∀ f,f < ops.size→fe f=true→S f=true→K≤f→Hid β fr (H K) w w0.heap.size tmps (H f).length (bl f) (O f) (xs f) (dstAt ops.toList f)
 dif:∀ f f',f < ops.size→f' < ops.size→fe f=true→fe f'=true→S f=true→S f'=true→K≤f→K≤f'→bl f=bl f'→f=f'
section
variable {ops:Array Oper} {tu fe:Nat→Bool} {xs:Nat→AV} {H:Nat→List AObj} {O:Nat→AObj} {env:List AV} {β0:Beta} {fr0:Nat→Prop} {w0:World} {S:Nat→Bool}
theorem H_mono (hlen:∀ i,(H i).length≤(H (i+1)).length):∀ {i j:Nat},i≤j→(H i).length≤(H j).length
 | i, 0, h => by obtain rfl : i = 0 := by omega
                 exact Nat.le_refl _
 | i,j+1,h=>by
  rcases Nat.lt_or_ge j i with q | q
  ·obtain rfl:i=j+1:=by omega
   exact Nat.le_refl _
  ·exact Nat.le_trans (H_mono hlen q) (hlen j)
theorem SF.next (hok : okDraw ops = true) (hH : ∀ i, tu i = false → H (i + 1) = H i) (hfe : ∀ i, fe i = true → tu i = true) (hO : ∀ i, i < ops.size → fe i = true → (O i).gen = some 0 ∧ H (i + 1) = H i ++ [O i])
  {K:Nat} {tmps:Array Value} {w:World} {β:Beta} {fr:Nat→Prop} {bl:Nat→Nat} (s:SF ops tu fe xs H O env β0 fr0 w0 S K tmps w β fr bl) (hK:K < ops.size) (hk:tu K=true→fe K=true∧S K=true) :
  ∃ β',SF ops tu fe xs H O env β0 fr0 w0 S (K+1) tmps w β' fr bl:=by
 cases hf:fe K with
 | false =>
  have ht:tu K=false:=by
   cases q:tu K with
   | false=>rfl
   | true=>rw [(hk q).1] at hf; cases hf
  have hx:∀ i,xsH fe xs (K+1) i=xsH fe xs K i:=by
   intro i
   unfold xsH
   by_cases q:i=K
   ·subst q; rw [hf]; rfl
   ·have:decide (K+1≤i)=decide (K≤i):=decide_eq_decide.2 (by omega)
    rw [this]
  refine ⟨β,by have:=s.le; omega,fun t h1 h2=>?_,by rw [hH K ht]; exact s.lay, ?_,by rw [hH K ht]; exact s.st,fun f h1 h2 h3 h4=>?_,fun f f' h1 h2 h3 h4 h5 h6 h7 h8=>s.dif f f' h1 h2 h3 h4 h5 h6 (by omega) (by omega)⟩
  ·rcases Nat.lt_succ_iff_lt_or_eq.1 h1 with q | rfl
   ·exact s.run t q h2
   ·rw [ht] at h2; cases h2
  ·rw [mix_congr (T:=S) (ys:=xsH fe xs K) ops.size fun i _=>⟨rfl,hx i⟩]; exact s.env
  ·rw [hH K ht]; exact s.hid f h1 h2 h3 (by omega)
 | true =>
  have hSK:=(hk (hfe K hf)).2
  obtain ⟨og,oH⟩:=hO K hK hf
  have hd:=s.hid K hK hf hSK (Nat.le_refl _)
  obtain ⟨L1,E1,P1⟩:=s.lay.adopt og hd.lt hd.own hd.frz hd.obj
  have St:Step1 β0 fr0 (H 0) w0 (betaSet β (H K).length 0 (some (bl K))) fr (H (K+1)) w:=by
   rw [oH]
   exact { ext := s.st.ext.trans E1, os := s.st.os, tape := s.st.tape, output := s.st.output, size := s.st.size, keep := s.st.keep
           prov:=fun b ob=>by
            rcases P1 b ob with q | rfl
            ·exact s.st.prov b q
            ·exact .inr hd.lo
           frz:=s.st.frz }
  refine ⟨betaSet β (H K).length 0 (some (bl K)),by omega,fun t h1 h2=>?_,by rw [oH]; exact L1, ?_,St,fun f h1 h2 h3 h4=>?_,fun f f' h1 h2 h3 h4 h5 h6 h7 h8=>s.dif f f' h1 h2 h3 h4 h5 h6 (by omega) (by omega)⟩
  ·rcases Nat.lt_succ_iff_lt_or_eq.1 h1 with q | rfl
   ·exact s.run t q h2
   ·exact hSK
  ·have hsz:=s.env.1
   rw [mix_length] at hsz
   refine ⟨by rw [mix_length]; exact hsz,fun j hj=>?_⟩
   rw [mix_length] at hj
   have hgd:∀ (ys:Nat→AV) (q:j < (mix ops.toList ys S env ops.size).length),(mix ops.toList ys S env ops.size)[j]=(mix ops.toList ys S env ops.size).getD j .any:=fun ys q=>(getD_get q).symm
   rw [hgd]
   by_cases e:dstAt ops.toList K=some j
   ·obtain ⟨v,v1,v2⟩:=hd.val
    refine ⟨v,v2 j e (by omega), ?_⟩
    rw [mix_hit (S:=S) e hSK hj ops.size hK fun k _ hk=>dst_uniq hok e hk]
    unfold xsH
    rw [if_neg (by simp)]
    exact v1
   ·obtain ⟨u,hu,hr⟩:=s.env.2 j (by rw [mix_length]; exact hj)
    refine ⟨u,hu, ?_⟩
    rw [hgd] at hr
    have:(mix ops.toList (xsH fe xs (K+1)) S env ops.size).getD j .any=(mix ops.toList (xsH fe xs K) S env ops.size).getD j .any:=by
     by_cases hx:∃ i,i < ops.size∧dstAt ops.toList i=some j∧S i=true
     ·obtain ⟨i,h1,h2,h3⟩:=hx
      have uniq:∀ k,k < ops.size→k≠i→dstAt ops.toList k≠some j:=fun k _ hk=>dst_uniq hok h2 hk
      rw [mix_hit (S:=S) h2 h3 hj ops.size h1 uniq,mix_hit (S:=S) h2 h3 hj ops.size h1 uniq]
      have hne:i≠K:=fun q=>e (q ▸ h2)
      unfold xsH
      have:decide (K+1≤i)=decide (K≤i):=decide_eq_decide.2 (by omega)
      rw [this]
     ·have none':∀ k,k < ops.size→S k=true→dstAt ops.toList k≠some j:=fun k h1 h2 h3=>hx ⟨k,h1,h3,h2⟩
      rw [mix_base (S:=S) _ none',mix_base (S:=S) _ none']
    rw [this]
    exact hr.ext E1
  ·have hd':=s.hid f h1 h2 h3 (by omega)
   have hne:bl f≠bl K:=fun q=>by
    have:=s.dif f K h1 hK h2 hf h3 hSK (by omega) (Nat.le_refl _) q
    omega
   refine ⟨hd'.lo,hd'.lt,fun o=>?_,hd'.frz, ?_, ?_⟩
   ·rw [oH] at o
    rcases P1 _ o with q | q
    ·exact hd'.own q
    ·exact hne q
   ·refine hd'.obj.ext ?_ fun _ _ _ _=>rfl
    exact { beta := fun t1 g1 r e => by
             by_cases q:t1=(H f).length∧g1=0
             ·obtain ⟨rfl,rfl⟩:=q
              rw [betaSet_same] at e ⊢; exact e
             ·rw [betaSet_other q] at e ⊢; exact E1.beta _ _ _ e
            frm:=fun _ e=>e,cells:=fun _ _=>rfl,shape:=fun _ _ _ c _ f _ h=>⟨c,f,h,rfl⟩ }
   ·obtain ⟨v,v1,v2⟩:=hd'.val
    refine ⟨v,v1.ext ?_,v2⟩
    exact { beta := fun t1 g1 r e => by
             by_cases q:t1=(H f).length∧g1=0
             ·obtain ⟨rfl,rfl⟩:=q
              rw [betaSet_same] at e ⊢; exact e
             ·rw [betaSet_other q] at e ⊢; exact E1.beta _ _ _ e
            frm:=fun _ e=>e,cells:=fun _ _=>rfl,shape:=fun _ _ _ c _ f _ h=>⟨c,f,h,rfl⟩ }
theorem SF.upto (hok : okDraw ops = true) (hH : ∀ i, tu i = false → H (i + 1) = H i) (hfe : ∀ i, fe i = true → tu i = true) (hO : ∀ i, i < ops.size → fe i = true → (O i).gen = some 0 ∧ H (i + 1) = H i ++ [O i])
  {tmps:Array Value} {w:World} {fr:Nat→Prop} {bl:Nat→Nat}:∀ (d:Nat) {K:Nat} {β:Beta},SF ops tu fe xs H O env β0 fr0 w0 S K tmps w β fr bl→K+d≤ops.size→(∀ t,K≤t→t < K+d→tu t=true→fe t=true∧S t=true) →
   ∃ β',SF ops tu fe xs H O env β0 fr0 w0 S (K+d) tmps w β' fr bl
 | 0,K,β,s,_,_=>⟨β,s⟩
 | d+1,K,β,s,hd,hk=>by
  obtain ⟨β1,s1⟩:=s.next hok hH hfe hO (by omega) (hk K (Nat.le_refl _) (by omega))
  obtain ⟨β2,s2⟩:=SF.upto hok hH hfe hO d s1 (by omega) fun t h1 h2=>hk t (by omega) (by omega)
  exact ⟨β2,by rw [show K+(d+1)=K+1+d by omega]; exact s2⟩
end
theorem sees_xs {β : Beta} {fr : Nat → Prop} {Hp : Array Obj} {ops : Array Oper} {fe : Nat → Bool} {xs : Nat → AV} {env : List AV} {tmps : Array Value} {i K : Nat} {o : Oper} (h : okDraw ops = true) (ho : ops[i]? = some o)
  (hn:∀ f,f < ops.size→fe f=true→K≤f→f ∉ (ancL ops.toList []).getD i []) (k:Sees β fr Hp ops o (mix ops.toList (xsH fe xs K) (fun _=>true) env i) tmps):Sees β fr Hp ops o (mix ops.toList xs (fun _=>true) env i) tmps:=by
 intro s hs hl
 rw [mix_length] at hl
 have hin:=(Array.getElem?_eq_some_iff.1 ho).1
 obtain ⟨u,hu,hr⟩:=k s hs (by rw [mix_length]; exact hl)
 refine ⟨u,hu, ?_⟩
 have:(mix ops.toList xs (fun _=>true) env i).getD s .any=(mix ops.toList (xsH fe xs K) (fun _=>true) env i).getD s .any:=by
  by_cases hx:∃ j,j < i∧dstAt ops.toList j=some s
  ·obtain ⟨j,hj,hjs⟩:=hx
   have uniq:∀ k,k < i→k≠j→dstAt ops.toList k≠some s:=fun k _ hk=>dst_uniq h hjs hk
   rw [mix_hit (S:=fun _=>true) hjs rfl hl i hj uniq,mix_hit (S:=fun _=>true) hjs rfl hl i hj uniq]
   unfold xsH
   split
   ·rename_i q
    rw [Bool.and_eq_true,decide_eq_true_eq] at q
    exfalso
    obtain ⟨oj,hq⟩:∃ oj,ops[j]? = some oj:=⟨_,Array.getElem?_eq_getElem (by omega)⟩
    have hqs:oj.dst=some s:=by simpa [dstAt,hq] using hjs
    have hp:=okDraw_pair h ho hq (by omega)
    unfold okPair at hp
    rw [hqs] at hp
    have hc:(o.looksAt ops).contains s=true:=by simpa using hs
    simp only [hc,Bool.not_true,Bool.false_or,Bool.and_eq_true,Bool.or_eq_true,decide_eq_true_eq] at hp
    rcases hp.2 with ⟨h1,h2⟩ | ⟨h1,h2⟩
    ·exact hn j (by omega) q.1 q.2 (by simpa using h2)
    ·omega
   ·rfl
  ·have none':∀ k,k < i→dstAt ops.toList k≠some s:=fun k hk e=>hx ⟨k,hk,e⟩
   rw [mix_base (S:=fun _=>true) _ fun k hk _=>none' k hk,mix_base (S:=fun _=>true) _ fun k hk _=>none' k hk]
 rw [this]; exact hr
theorem Lay.pushed {β:Beta} {fr:Nat→Prop} {h:List AObj} {w w':World} {c:Obj} (L:Lay β fr w.heap h) (hh:w'.heap=w.heap.push c) (ho:w'.os=w.os) (ht:w'.tape=w.tape) (hp:w'.output=w.output):Lay β fr w'.heap h∧Step1 β fr h w β fr h w':=by
 have hold:∀ b,b < w.heap.size→w'.heap[b]? = w.heap[b]? := fun b hb=>by rw [hh,Array.getElem?_push,if_neg (by omega)]
 have E:Ext β fr w.heap β fr w'.heap :=
  { beta := fun t g' r e => e, frm := fun _ e => e, cells := fun b hb => hold b (L.frlt b hb)
    shape:=fun t g' b c' e f hb hc=>⟨c',f,by rw [hold b (L.lt _ _ _ hb)]; exact hc,rfl⟩ }
 have hsz:w'.heap.size=w.heap.size+1:=by rw [hh]; simp
 refine ⟨{ frlt:=fun b hb=>by have:=L.frlt b hb; omega,ownfr:=L.ownfr,lt:=fun t g b hb=>by have:=L.lt t g b hb; omega,inj:=L.inj,obj:=fun t o1 h1=>(L.obj t o1 h1).ext E fun g b hg hb=>hold b (L.lt _ _ _ hb),dom:=L.dom,top:=L.top,tab:=fun b p q=>⟨(L.tab b p q).1,by rw [E.cells b (L.tab b p q).1]; exact (L.tab b p q).2⟩ }, ?_⟩
 exact ⟨E,ho,ht,hp,by omega,fun b hb _=>hold b hb,fun b q=>.inl q,fun b q=>.inl q⟩
theorem put_size (tmps:Array Value) (ds:List Deferred) (dst:Option Nat) (v:Value):((⟨tmps,ds⟩:Act).put dst v).tmps.size=tmps.size:=by cases dst <;> simp [Act.put]
theorem put_other {tmps:Array Value} {ds:List Deferred} {dst:Option Nat} {v:Value} {s:Nat} (h:dst≠some s):((⟨tmps,ds⟩:Act).put dst v).tmps[s]? = tmps[s]? := by
 cases dst with
 | none=>rfl
 | some d =>
  simp only [Act.put]
  rw [Array.getElem?_setIfInBounds_ne (fun e=>h (by rw [e]))]
theorem wpAny_free {P : Program} {ops : Array Oper} {tu fe : Nat → Bool} {xs : Nat → AV} {H : Nat → List AObj} {O : Nat → AObj} {env : List AV} {Q : Exit → Act → World → Prop} {ro : Option Nat} {dfs : List Deferred} {β0 : Beta} {fr0 : Nat → Prop} {w0 : World} (hok : okDraw ops = true) (hfr : okFree ops tu fe = true)
  (hH:∀ i,tu i=false→H (i+1)=H i) (hfe:∀ i,fe i=true→tu i=true) (hO:∀ i,i < ops.size→fe i=true→(O i).gen=some 0∧H (i+1)=H i++[O i]) (hlen:∀ i,(H i).length≤(H (i+1)).length)
  (hq:∀ i o,ops.toList[i]? = some o→tu i=false→∀ k,Win ops tu i k→QS P ((ops.toList.take i).map (·.dst)).reverse o (mix ops.toList xs (fun _=>true) env i) (H k) (xs i) (H k))
  (ht:∀ i o,ops.toList[i]? = some o→tu i=true→fe i=false→QS P ((ops.toList.take i).map (·.dst)).reverse o (mix ops.toList xs (fun _=>true) env i) (H i) (xs i) (H (i+1)))
  (hnb:∀ i o,ops.toList[i]? = some o→fe i=true→o.guard=none∧∃ x:Nat→AV,xs i=x (H i).length∧∀ m,NewB P o (evA (mix ops.toList xs (fun _=>true) env i)) m x (O i)) :
  ∀ (fuel:Nat) (listed:Array Bool) (tmps:Array Value) (w:World) (β:Beta) (fr:Nat→Prop) (bl:Nat→Nat),listed.size=ops.size→Down ops.toList (fun j=>listed.getD j false)→listed.toList.countP (·==false)≤fuel →
   SF ops tu fe xs H O env β0 fr0 w0 (fun j=>listed.getD j false) (opn tu (fun j=>listed.getD j false) ops.size) tmps w β fr bl →
   (∀ tmps' w' β' fr',Lay β' fr' w'.heap (H ops.size)→EnvRep β' fr' w'.heap (mix ops.toList xs (fun _=>true) env ops.size) tmps'→Step1 β0 fr0 (H 0) w0 β' fr' (H ops.size) w'→Q .normal ⟨tmps',dfs⟩ w') →
   wpAnyIn (roF ro) 0 P .any ops Q fuel listed ⟨tmps,dfs⟩ w:=by
 have fin : ∀ (listed : Array Bool) (tmps : Array Value) (w : World) (β : Beta) (fr : Nat → Prop) (bl : Nat → Nat), listed.size = ops.size → (∀ i, i < ops.size → listed.getD i false = true) →
   SF ops tu fe xs H O env β0 fr0 w0 (fun j=>listed.getD j false) (opn tu (fun j=>listed.getD j false) ops.size) tmps w β fr bl →
   (∀ tmps' w' β' fr',Lay β' fr' w'.heap (H ops.size)→EnvRep β' fr' w'.heap (mix ops.toList xs (fun _=>true) env ops.size) tmps'→Step1 β0 fr0 (H 0) w0 β' fr' (H ops.size) w'→Q .normal ⟨tmps',dfs⟩ w')→Q .normal ⟨tmps,dfs⟩ w:=by
  intro listed tmps w β fr bl hsz ha s hQ
  have e:opn tu (fun j=>listed.getD j false) ops.size=ops.size:=by
   have:=opn_ge (tu:=tu) (S:=fun j=>listed.getD j false) (n:=ops.size) (k:=ops.size) (Nat.le_refl _) fun t h1 _=>ha t h1
   have:=opn_le tu (fun j=>listed.getD j false) ops.size
   omega
  rw [e] at s
  refine hQ tmps w β fr s.lay ?_ s.st
  rw [mix_congr (T:=fun j=>listed.getD j false) (ys:=xsH fe xs ops.size) ops.size fun i hi=>⟨(ha i hi).symm, ?_⟩]
  ·exact s.env
  ·unfold xsH
   rw [if_neg (by simp; intro _; omega)]
 intro fuel
 induction fuel with
 | zero =>
  intro listed tmps w β fr bl hsz hD hc s hQ
  have ha:∀ i,i < ops.size→listed.getD i false=true:=by
   intro i hi
   have h0:=List.countP_eq_zero.1 (Nat.le_zero.1 hc)
   have hi':i < listed.size:=by omega
   have:=h0 listed[i] (by simp)
   rw [Array.getD_eq_getD_getElem?, Array.getElem?_eq_getElem hi']
   simpa using this
  refine ⟨?_,fin listed tmps w β fr bl hsz ha s hQ⟩
  rw [List.eq_nil_iff_forall_not_mem]
  intro i hi
  obtain ⟨o,ho,h1,_⟩:=(mem_ready hsz).1 hi
  rw [ha i (Array.getElem?_eq_some_iff.1 ho).1] at h1; cases h1
 | succ fuel ih =>
  intro listed tmps w β fr bl hsz hD hc s hQ
  refine ⟨fun hr=>fin listed tmps w β fr bl hsz (all_listed hok hsz hr) s hQ,fun i hi=>?_⟩
  obtain ⟨o,ho,h1,h2'⟩:=(mem_ready hsz).1 hi
  have hin:=(Array.getElem?_eq_some_iff.1 ho).1
  have hoL:ops.toList[i]? = some o:=by rw [Array.getElem?_toList]; exact ho
  have hT:∀ j,j < ops.size→(listed.setIfInBounds i true).getD j false=(listed.getD j false || j==i):=by
   intro j hj
   rw [Array.getD_eq_getD_getElem?, Array.getD_eq_getD_getElem?]
   by_cases e:i=j
   ·subst e
    rw [Array.getElem?_setIfInBounds_self_of_lt (by omega)]; simp
   ·rw [Array.getElem?_setIfInBounds_ne e]
    have:(j==i)=false:=by simp; omega
    rw [this,Bool.or_false]
  have hTi:(listed.setIfInBounds i true).getD i false=true:=by rw [hT i hin]; simp
  have hTo:∀ j,j < ops.size→j≠i→(listed.setIfInBounds i true).getD j false=listed.getD j false:=fun j hj e=>by
   rw [hT j hj]; have:(j==i)=false:=by simp; omega
   rw [this,Bool.or_false]
  have hT2:∀ j,(listed.setIfInBounds i true).getD j false=true→listed.getD j false=true∨j=i:=by
   intro j hj
   by_cases q:j < ops.size
   ·rw [hT j q] at hj; simpa using hj
   ·rw [Array.getD_eq_getD_getElem?, Array.getElem?_eq_none (by simp; omega)] at hj; simp at hj
  have hT3:∀ j,listed.getD j false=true→(listed.setIfInBounds i true).getD j false=true:=by
   intro j hj
   by_cases q:j < ops.size
   ·rw [hT j q,hj]; rfl
   ·rw [Array.getD_eq_getD_getElem?, Array.getElem?_eq_none (by omega)] at hj; simp at hj
  have before:∀ t,t∈(ancL ops.toList []).getD i []→listed.getD t false=true:=fun t q=>anc_good ops.toList i o hoL t q (fun j=>listed.getD j false) hD h2'
  have behind:∀ t u,t < ops.size→u∈(ancL ops.toList []).getD t []→listed.getD u false=false→listed.getD t false=false:=by
   intro t u hts q hu
   cases e:listed.getD t false with
   | false=>rfl
   | true =>
    exfalso
    obtain ⟨ot,hot⟩:∃ ot,ops.toList[t]? = some ot:=⟨_,List.getElem?_eq_getElem (by simpa using hts)⟩
    have:=anc_good ops.toList t ot hot u q (fun j=>listed.getD j false) hD (fun k hk=>hD t ot hot e k hk)
    rw [hu] at this; cases this
  generalize hK:opn tu (fun j=>listed.getD j false) ops.size=K at *
  have hKle:K≤ops.size:=s.le
  have hKstop:K < ops.size→tu K=true∧listed.getD K false=false:=fun q=>by
   have:=opn_stop (tu:=tu) (S:=fun j=>listed.getD j false) (n:=ops.size) (by rw [hK]; exact q)
   rw [hK] at this; exact this
  have hnot:∀ f,f < ops.size→fe f=true→K≤f→f ∉ (ancL ops.toList []).getD i []:=by
   intro f hf hff hKf q
   obtain ⟨k1,k2⟩:=hKstop (by omega)
   rcases Nat.lt_or_ge K f with z | z
   ·have:=before K (okFree_lean hfr hin hf q z k1 hff)
    rw [k2] at this; cases this
   ·obtain rfl:f=K:=by omega
    have:=before f q
    rw [k2] at this; cases this
  have hsee:Sees β fr w.heap ops o (mix ops.toList xs (fun _=>true) env i) tmps:=sees_xs hok ho hnot (sees_mix hok ho hD h2' h1 s.env)
  have hdi:dstAt ops.toList i=o.dst:=by simp [dstAt,ho]
  have go : ∀ (K1 : Nat) (v : Value) (w' : World) (β' : Beta) (fr' : Nat → Prop) (bl' : Nat → Nat), SF ops tu fe xs H O env β0 fr0 w0 (fun j => (listed.setIfInBounds i true).getD j false) K1 ((⟨tmps, dfs⟩ : Act).put o.dst v).tmps w' β' fr' bl' →
    K1≤opn tu (fun j=>(listed.setIfInBounds i true).getD j false) ops.size→(∀ t,K1≤t→t < opn tu (fun j=>(listed.setIfInBounds i true).getD j false) ops.size→tu t=true→fe t=true) →
    wpAnyIn (roF ro) 0 P .any ops Q fuel (listed.setIfInBounds i true) ((⟨tmps,dfs⟩:Act).put o.dst v) w':=by
   intro K1 v w' β' fr' bl' s1 hle hff
   obtain ⟨β2,s2⟩:=SF.upto hok hH hfe hO (opn tu (fun j=>(listed.setIfInBounds i true).getD j false) ops.size - K1) s1 (by have:=opn_le tu (fun j=>(listed.setIfInBounds i true).getD j false) ops.size; omega) fun t t1 t2 t3=>⟨hff t t1 (by omega) t3,opn_run (tu:=tu) (S:=fun j=>(listed.setIfInBounds i true).getD j false) (n:=ops.size) (by omega) t3⟩
   rw [show K1+(opn tu (fun j=>(listed.setIfInBounds i true).getD j false) ops.size - K1)=opn tu (fun j=>(listed.setIfInBounds i true).getD j false) ops.size by omega] at s2
   have e0:((⟨tmps,dfs⟩:Act).put o.dst v).tmps=((⟨tmps,[]⟩:Act).put o.dst v).tmps:=by cases o.dst <;> rfl
   rw [put_act]
   rw [e0] at s2
   refine ih (listed.setIfInBounds i true) _ w' β2 fr' bl' (by simp [hsz]) ?_ ?_ s2 hQ
   ·intro j oj hj hSj k hk
    rcases hT2 j hSj with q | q
    ·exact hT3 k (hD j oj hj q k hk)
    ·subst q
     rw [hoL] at hj; injection hj with hj; subst hj
     exact hT3 k (h2' k hk)
   ·rw [Array.toList_setIfInBounds,List.countP_set (by simpa using (by omega:i < listed.size))]
    have hli:listed.toList[i]'(by simpa using (by omega:i < listed.size))=false:=by
     rw [Array.getD_eq_getD_getElem?, Array.getElem?_eq_getElem (by omega)] at h1
     simpa using h1
    rw [hli]
    have:0 < listed.toList.countP (·==false):=List.countP_pos_iff.2 ⟨false,by rw [← hli]; exact List.getElem_mem _,rfl⟩
    rw [show (false==false)=true from rfl,show (true==false)=false from rfl,if_pos rfl,if_neg (by simp)]
    omega
  have hidS:∀ {β':Beta} {fr':Nat→Prop} {h':List AObj} {w':World} (v:Value),Step1 β fr (H K) w β' fr' h' w'→∀ f,f < ops.size→fe f=true→listed.getD f false=true→K≤f→f≠i→Hid β' fr' h' w' w0.heap.size ((⟨tmps,dfs⟩:Act).put o.dst v).tmps (H f).length (bl f) (O f) (xs f) (dstAt ops.toList f):=by
   intro β' fr' h' w' v S' f f1 f2 f3 f4 f5
   refine (s.hid f f1 f2 f3 f4).step (hO f f1 f2).1 S' (put_size _ _ _ _) fun s1 e=>put_other ?_
   rw [← hdi]
   exact dst_uniq hok e (fun q=>f5 q.symm)
  have envS:∀ {β':Beta} {fr':Nat→Prop} {w':World} {v:Value} (K1:Nat),Ext β fr w.heap β' fr' w'.heap→(∀ j,xsH fe xs K1 j=xsH fe xs K j)→Rep β' fr' w'.heap (xsH fe xs K i) v→EnvRep β' fr' w'.heap (mix ops.toList (xsH fe xs K1) (fun j=>(listed.setIfInBounds i true).getD j false) env ops.size) ((⟨tmps,dfs⟩:Act).put o.dst v).tmps:=by
   intro β' fr' w' v K1 E hx R
   rw [mix_congr (T:=fun j=>(listed.setIfInBounds i true).getD j false) (ys:=xsH fe xs K) ops.size fun j _=>⟨rfl,hx j⟩]
   rw [mix_step (S:=fun j=>listed.getD j false) (T:=fun j=>(listed.setIfInBounds i true).getD j false) hok hin h1 hT,hdi]
   exact (s.env.ext E).put R o.dst
  cases hti:tu i with
  | false =>
   have hfi:fe i=false:=by
    cases q:fe i with
    | false=>rfl
    | true=>rw [hfe i q] at hti; cases hti
   have e2:opn tu (fun j=>(listed.setIfInBounds i true).getD j false) ops.size=K:=by
    rw [← hK]
    refine opn_congr _ fun j hj htj=>hTo j hj ?_
    rintro rfl; rw [hti] at htj; cases htj
   have hwin:Win ops tu i K:=by
    refine ⟨hKle,fun t hts htt=>⟨fun q=>?_,fun q=>?_⟩⟩
    ·rcases Nat.lt_or_ge t K with z | z
     ·exact z
     ·exfalso
      obtain ⟨k1,k2⟩:=hKstop (by omega)
      have hxt:=before t q
      have hne:t≠K:=fun e=>by rw [e,k2] at hxt; cases hxt
      cases hft:fe t with
      | true=>exact hnot t hts hft z q
      | false =>
       have:=behind t K hts (okFree_chain hfr hts (by omega) k1 htt hft) k2
       rw [hxt] at this; cases this
    ·rcases Nat.lt_or_ge t K with z | z
     ·exfalso
      have:=s.run t z htt
      rw [behind t i hts q h1] at this; cases this
     ·exact z
   refine qs_run ho (hq i o hoL hti _ hwin) s.lay hsee fun v w' β' fr' L' R' S'=>?_
   have hxi:xsH fe xs K i=xs i:=by unfold xsH; rw [hfi]; rfl
   refine go K v w' β' fr' bl ⟨hKle,fun t a b=>hT3 t (s.run t a b),L',envS K S'.ext (fun _=>rfl) (by rw [hxi]; exact R'),s.st.trans S',fun f f1 f2 f3 f4=>?_,fun f f' a b c d x y z u e=>?_⟩ (by rw [e2]; exact Nat.le_refl _) (fun t t1 t2 _=>by rw [e2] at t2; omega)
   ·have hne:f≠i:=fun e=>by rw [e,hfi] at f2; cases f2
    exact hidS v S' f f1 f2 (by rw [← hTo f f1 hne]; exact f3) f4 hne
   ·have hne:f≠i:=fun e=>by rw [e,hfi] at c; cases c
    have hne':f'≠i:=fun e=>by rw [e,hfi] at d; cases d
    exact s.dif f f' a b c d (by have:=hTo f a hne; rw [← this]; exact x) (by have:=hTo f' b hne'; rw [← this]; exact y) z u e
  | true =>
   cases hfi:fe i with
   | false =>
    have hKi:K=i:=by
     rcases Nat.lt_trichotomy K i with z | z | z
     ·obtain ⟨k1,k2⟩:=hKstop (by omega)
      have:=before K (okFree_chain hfr hin z k1 hti hfi)
      rw [k2] at this; cases this
     ·exact z
     ·have:=s.run i z hti
      rw [h1] at this; cases this
    subst hKi
    refine qs_run ho (ht K o hoL hti hfi) s.lay hsee fun v w' β' fr' L' R' S'=>?_
    have hxi:xsH fe xs K K=xs K:=by unfold xsH; rw [hfi]; rfl
    have hx:∀ j,xsH fe xs (K+1) j=xsH fe xs K j:=by
     intro j
     unfold xsH
     by_cases q:j=K
     ·subst q; rw [hfi]; rfl
     ·have:decide (K+1≤j)=decide (K≤j):=decide_eq_decide.2 (by omega)
      rw [this]
    refine go (K+1) v w' β' fr' bl ⟨by omega,fun t a b=>?_,L',envS (K+1) S'.ext hx (by rw [hxi]; exact R'),s.st.trans S',fun f f1 f2 f3 f4=>?_,fun f f' a b c d x y z u e=>?_⟩ ?_ ?_
    ·rcases Nat.lt_succ_iff_lt_or_eq.1 a with q | rfl
     ·exact hT3 t (s.run t q b)
     ·exact hTi
    ·have hne:f≠K:=by omega
     exact hidS v S' f f1 f2 (by rw [← hTo f f1 hne]; exact f3) (by omega) hne
    ·exact s.dif f f' a b c d (by have:=hTo f a (by omega); rw [← this]; exact x) (by have:=hTo f' b (by omega); rw [← this]; exact y) (by omega) (by omega) e
    ·refine opn_ge (by omega) fun t a b=>?_
     rcases Nat.lt_succ_iff_lt_or_eq.1 a with q | rfl
     ·exact hT3 t (s.run t q b)
     ·exact hTi
    ·intro t t1 t2 t3
     cases q:fe t with
     | true=>rfl
     | false =>
      exfalso
      have hts:t < ops.size:=Nat.lt_of_lt_of_le t2 (opn_le _ _ _)
      have hx:=opn_run (n:=ops.size) t2 t3
      rw [hTo t hts (by omega)] at hx
      rw [behind t K hts (okFree_chain hfr hts (by omega) hti t3 q) h1] at hx; cases hx
   | true =>
    have hKi:K≤i:=by
     rcases Nat.lt_or_ge i K with z | z
     ·have:=s.run i z hti
      rw [h1] at this; cases this
     ·exact z
    obtain ⟨hg,x,hx,hN⟩:=hnb i o hoL hfi
    obtain ⟨og,oH⟩:=hO i hin hfi
    obtain ⟨v,w',c,r1,r2,r3,r4,r5,r6⟩:=hN (H K) ⟨tmps,dfs⟩ w β fr s.lay fun y hy=>hsee.eval y hy
    obtain ⟨L',S'⟩:=s.lay.pushed r2 r3 r4 r5
    have hlenK:(H K).length≤(H i).length:=H_mono hlen hKi
    have hbn:∀ g,β (H i).length g=none:=by
     intro g
     cases q:β (H i).length g with
     | none=>rfl
     | some r=>exact absurd (s.lay.dom _ _ _ q) (by omega)
    have E:Ext β fr w.heap (betaSet β (H i).length 0 (some w.heap.size)) fr w'.heap :=
     { beta := fun t1 g1 r e => by
        rw [betaSet_other]
        ·exact e
        ·rintro ⟨rfl,rfl⟩; rw [hbn 0] at e; cases e
       frm:=fun _ e=>e,cells:=S'.ext.cells,shape:=S'.ext.shape }
    obtain ⟨n1,n2⟩:=r6 _ (H i).length E (betaSet_same _ _ _ _)
    unfold wpOpIn
    rw [ho]
    simp only
    have hw:Region.wanted o (yielded ops tmps)=true:=by simp [Region.wanted,hg]
    rw [if_pos hw]
    refine wpIn_val r1 ?_
    have hxi:xsH fe xs K i=.any:=by
     unfold xsH
     rw [if_pos (by rw [hfi]; simp; exact hKi)]
    refine go K v w' β fr (fun f=>if f=i then w.heap.size else bl f) ⟨hKle,fun t a b=>hT3 t (s.run t a b),L',envS K S'.ext (fun _=>rfl) (by rw [hxi]; simp [Rep]),s.st.trans S',fun f f1 f2 f3 f4=>?_,fun f f' a b c' d x' y z u e=>?_⟩ ?_ ?_
    ·by_cases q:f=i
     ·subst q
      simp only [if_true]
      refine ⟨s.st.size,by rw [r2]; simp,fun o=>?_,fun q=>?_,n1,v,by rw [hx]; exact n2,fun s1 e hlt=>?_⟩
      ·obtain ⟨t,ob,g,a1,a2,a3⟩:=o
       have:=s.lay.lt _ _ _ a3; omega
      ·have:=s.lay.frlt _ q; omega
      ·rw [hdi] at e
       rw [e]
       rw [put_size] at hlt
       simp [Act.put,hlt]
     ·rw [if_neg q]
      exact hidS v S' f f1 f2 (by rw [← hTo f f1 q]; exact f3) f4 q
    ·by_cases q:f=i <;> by_cases q':f'=i
     ·rw [q,q']
     ·rw [if_pos q,if_neg q'] at e
      have:=(s.hid f' b d (by have:=hTo f' b q'; rw [← this]; exact y) u).lt
      omega
     ·rw [if_neg q,if_pos q'] at e
      have:=(s.hid f a c' (by have:=hTo f a q; rw [← this]; exact x') z).lt
      omega
     ·rw [if_neg q,if_neg q'] at e
      exact s.dif f f' a b c' d (by have:=hTo f a q; rw [← this]; exact x') (by have:=hTo f' b q'; rw [← this]; exact y) z u e
    ·exact opn_ge hKle fun t a b=>hT3 t (s.run t a b)
    ·intro t t1 t2 t3
     by_cases q:t=i
     ·rw [q]; exact hfi
     ·cases z:fe t with
      | true=>rfl
      | false =>
       exfalso
       have hts:t < ops.size:=Nat.lt_of_lt_of_le t2 (opn_le _ _ _)
       have hx:=opn_run (n:=ops.size) t2 t3
       rw [hTo t hts q] at hx
       obtain ⟨k1,k2⟩:=hKstop (by omega)
       have hne:t≠K:=fun e=>by rw [e,k2] at hx; cases hx
       rw [behind t K hts (okFree_chain hfr hts (by omega) k1 t3 z) k2] at hx; cases hx
theorem ADraw.free {P : Program} {ops : Array Oper} {tu fe : Nat → Bool} {xs : Nat → AV} {H : Nat → List AObj} {O : Nat → AObj} {env : List AV} {K : List AV → List AObj → Prop} (hm : P.follows .mixedOrders = true) (hok : okDraw ops = true) (hfr : okFree ops tu fe = true)
  (hH:∀ i,tu i=false→H (i+1)=H i) (hfe:∀ i,fe i=true→tu i=true) (hO:∀ i,i < ops.size→fe i=true→(O i).gen=some 0∧H (i+1)=H i++[O i]) (hlen:∀ i,(H i).length≤(H (i+1)).length)
  (hq:∀ i o,ops.toList[i]? = some o→tu i=false→∀ k,Win ops tu i k→QS P ((ops.toList.take i).map (·.dst)).reverse o (mix ops.toList xs (fun _=>true) env i) (H k) (xs i) (H k))
  (ht:∀ i o,ops.toList[i]? = some o→tu i=true→fe i=false→QS P ((ops.toList.take i).map (·.dst)).reverse o (mix ops.toList xs (fun _=>true) env i) (H i) (xs i) (H (i+1)))
  (hnb:∀ i o,ops.toList[i]? = some o→fe i=true→o.guard=none∧∃ x:Nat→AV,xs i=x (H i).length∧∀ m,NewB P o (evA (mix ops.toList xs (fun _=>true) env i)) m x (O i))
  (k:K (mix ops.toList xs (fun _=>true) env ops.size) (H ops.size)):ADraw P ops K env (H 0):=by
 intro id n0 ro dfs tmps w β fr Su L R
 have e0:∀ j,(Array.replicate ops.size false).getD j false=false:=by
  intro j
  rw [Array.getD_eq_getD_getElem?, Array.getElem?_replicate]; split <;> rfl
 have m0:∀ n xs,mix ops.toList xs (fun j=>(Array.replicate ops.size false).getD j false) env n=env:=by
  intro n xs
  induction n with
  | zero=>rfl
  | succ n ih=>simp only [mix,e0,Bool.false_eq_true,if_false] at ih ⊢; exact ih
 have S0:=Step1.drawn (β:=β) (fr:=fr) (h:=H 0) (w:=w) (w':={ w with drawn:=w.drawn+1 }) rfl rfl rfl rfl
 refine wpIn_region_any hm ?_
 generalize hK:opn tu (fun j=>(Array.replicate ops.size false).getD j false) ops.size=K0
 have hno:∀ t,t < K0→tu t=false:=by
  intro t h
  cases q:tu t with
  | false=>rfl
  | true =>
   have:=opn_run (tu:=tu) (S:=fun j=>(Array.replicate ops.size false).getD j false) (n:=ops.size) (by rw [hK]; exact h) q
   simp only [e0] at this; cases this
 have hKle:K0≤ops.size:=by rw [← hK]; exact opn_le _ _ _
 have eH:H K0=H 0:=chain_mem hH K0 0 (Nat.zero_le _) fun t _ h=>hno t h
 refine wpAny_free (w0:={ w with drawn:=w.drawn+1 }) (β0:=β) (fr0:=fr) hok hfr hH hfe hO hlen hq ht hnb ops.size (Array.replicate ops.size false) tmps { w with drawn:=w.drawn+1 } β fr (fun _=>0) (by simp) ?_ ?_ ?_ ?_
 ·intro i o ho hS; simp only [e0] at hS; cases hS
 ·exact Nat.le_trans List.countP_le_length (by simp)
 ·rw [hK]
  refine ⟨hKle,fun t h1 h2=>(by rw [hno t h1] at h2; cases h2),by rw [eH]; exact L,by rw [m0]; exact R,by rw [eH]; exact Step1.refl _ _ _ _,fun f _ _ h=>?_,fun f _ _ _ _ _ h=>?_⟩
  ·simp only [e0] at h; cases h
  ·simp only [e0] at h; cases h
 ·intro tmps' w' β' fr' L' R' S'
  have SS:=S0.trans S'
  exact ⟨_,_,β',fr',k,Su.step SS,L',R',SS⟩
end Go.Proofs.Vale
