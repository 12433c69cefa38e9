/- YtplehleekabbaaaGreatDoorVR: a text of the proof of this claim, by its prover. -/
import Derived.Test.YtplehleekabbaaaGreatDoorVQ
import GoSem.ClaimChange
import Derived.Below
import Derived.ChangeShapes
import Derived.OpenShut
set_option linter.unusedVariables false
set_option linter.unusedSimpArgs false
namespace Go.Proofs.Vale
def β0:Beta:=fun _ _=>none
def contL (P:Program):List Field→Nat→Option Nat
 | [],o=>some o
 | f::fs,o=>if f.offset=o then contL P fs (o+P.cellsOf f.type) else none
def okK (P:Program) (t:TypeId):Bool :=
 match P.underlying t with
 | some .bool=>true
 | some (.int _)=>true
 | some .string=>true
 | some (.slice _)=>true
 | some (.struct _)=>true
 | some (.array _ _)=>true
 | _=>false
def isAgB (P:Program) (t:TypeId):Bool :=
 match P.underlying t with
 | some (.struct _)=>true
 | some (.array _ _)=>true
 | _=>false
def mkV (ag:Bool) (xs:List AV):AV:=if ag then .agg xs else xs.getD 0 .any
def HasC (P:Program):Nat→TypeId→List AV→Prop
 | 0,_,_=>False
 | n+1,t,xs =>
  match P.underlying t with
  | some .bool=>∃ b,xs=[.bool b]
  | some (.int k)=>∃ z,xs=[.int k z]∧(Lit.int k z).wf=true
  | some .string=>∃ s,xs=[.str s]∧s.length≤maxLen
  | some (.slice e)=>P.cellsOf e≠0→okK P e=true→∃ l,xs=[.fz false l]∧l.length≤maxLen∧∀ y∈l,∃ ys,y=mkV (isAgB P e) ys∧y.cells=ys∧HasC P n e ys∧ys.length=P.cellsOf e
  | some (.struct fs)=>contL P fs.toList 0=some (P.cellsOf t)→∃ xss:List (List AV),xs=xss.flatten∧xss.length=fs.toList.length∧∀ j (hj:j < xss.length) (hf:j < fs.toList.length),HasC P n (fs.toList[j]).type (xss[j])∧(xss[j]).length=P.cellsOf (fs.toList[j]).type
  | some (.array m e)=>P.cellsOf t=m * P.cellsOf e→∃ xss:List (List AV),xs=xss.flatten∧xss.length=m∧∀ ys∈xss,HasC P n e ys∧ys.length=P.cellsOf e
  | _=>True
abbrev frOf (W:World):Nat→Prop:=fun b=>b < W.heap.size
theorem mapM_get {α β:Type} (f:α→Option β):∀ (l:List α) (r:List β),l.mapM f=some r→r.length=l.length∧∀ i (h:i < l.length) (h':i < r.length),f (l[i])=some (r[i])
 | [],r,h=>by simp at h; subst h; exact ⟨rfl,fun i h=>by simp at h⟩
 | a::l,r,h=>by
  simp only [List.mapM_cons] at h
  cases ha:f a with
  | none=>simp [ha] at h
  | some b =>
   cases hl:l.mapM f with
   | none=>simp [ha,hl] at h
   | some bs =>
    simp [ha,hl] at h; subst h
    obtain ⟨h1,h2⟩:=mapM_get f l bs hl
    refine ⟨by simp [h1],fun i hi hi'=>?_⟩
    cases i with
    | zero=>simpa using ha
    | succ i=>simpa using h2 i (by simpa using hi) (by simpa using hi')
def anyC (n:Nat):List AV:=List.replicate n .any
theorem anyC_rep (β:Beta) (fr:Nat→Prop) (H:Array Obj) (us:Array Value):CellsRep β fr H (anyC us.size) us :=
 ⟨by simp [anyC],fun j hj=>by
  have hj':j < us.size:=by simpa [anyC] using hj
  exact ⟨us[j],by simp [hj'],by simp [anyC,Rep]⟩⟩
theorem cells?_get {W:World} {base:Nat} {a:Addr} {n:Nat} {cs:List Value} (h:W.cells? base a n=some cs):base≤a.block∧cs.length=n∧∀ j (hj:j < n) (hj':j < cs.length),W.cell? (a.add j)=some (cs[j]):=by
 unfold World.cells? at h
 split at h
 ·rename_i hb
  obtain ⟨h1,h2⟩:=mapM_get _ _ _ h
  refine ⟨hb,by simpa using h1,fun j hj hj'=>?_⟩
  have:=h2 j (by simpa using hj) hj'
  simpa only [List.getElem_range] using this
 ·cases h
theorem cell?_spot {W:World} {a:Addr} {v:Value} (h:W.cell? a=some v):a.spot=none:=by
 unfold World.cell? at h
 split at h
 ·split at h
  ·cases h
  ·rename_i q; cases hs:a.spot <;> simp_all
 ·cases h
theorem cell?_at {W:World} {a:Addr} {v:Value} (h:W.cell? a=some v):cellAt W.heap a.block a.off=some v:=by
 rw [cell?_eq _ _ (cell?_spot h)] at h; exact h
theorem cellAt_lt {H:Array Obj} {b o:Nat} {v:Value} (h:cellAt H b o=some v):b < H.size:=by
 unfold cellAt at h
 split at h
 ·rename_i e; exact (Array.getElem?_eq_some_iff.1 e).1
 ·cases h
theorem flat_rep {β:Beta} {fr:Nat→Prop} {H:Array Obj}:∀ (xss:List (List AV)) (uss:List (List Value)),xss.length=uss.length→(∀ j (hj:j < xss.length) (hj':j < uss.length),CellsRep β fr H (xss[j]) (uss[j]).toArray)→CellsRep β fr H xss.flatten uss.flatten.toArray
 | [],[],_,_=>⟨rfl,fun j hj=>by simp at hj⟩
 | xs::xss,us::uss,hl,h=>by
  have h0:=h 0 (by simp) (by simp)
  have ih:=flat_rep xss uss (by simpa using hl) fun j hj hj'=>by have:=h (j+1) (by simpa using hj) (by simpa using hj'); simpa using this
  have:=CellsRep.append h0 ih
  simpa using this
theorem cut_flatten (s:Nat):∀ (n:Nat) (cs:List Value),cs.length=n * s→((List.range n).map fun i=>(cs.drop (i * s)).take s).flatten=cs
 | 0,cs,h=>by simp at h; simp [h]
 | n+1,cs,h=>by
  rw [List.range_succ_eq_map,List.map_cons,List.map_map,List.flatten_cons]
  have ih:=cut_flatten s n (cs.drop s) (by rw [List.length_drop,h,Nat.add_mul]; omega)
  have e:((fun i=>List.take s (List.drop (i * s) cs))∘Nat.succ)=fun i=>List.take s (List.drop (i * s) (cs.drop s)):=by
   funext i
   simp only [Function.comp,List.drop_drop]
   congr 2
   rw [Nat.succ_mul]; omega
  rw [e,ih]
  simp
theorem cut_fields (P:Program):∀ (fs:List Field) (o e:Nat) (cs:List Value),contL P fs o=some e→cs.length=e→(fs.map fun f=>(cs.drop f.offset).take (P.cellsOf f.type)).flatten=cs.drop o
 | [],o,e,cs,h,hl=>by
  simp only [contL,Option.some.injEq] at h; subst h
  simp [List.drop_eq_nil_of_le (Nat.le_of_eq hl)]
 | f::fs,o,e,cs,h,hl=>by
  simp only [contL] at h
  split at h
  ·rename_i ho
   rw [List.map_cons,List.flatten_cons,cut_fields P fs _ e cs h hl,ho]
   rw [← List.drop_drop]
   exact List.take_append_drop _ _
  ·cases h
theorem contL_le (P:Program):∀ (fs:List Field) (o e:Nat),contL P fs o=some e→o≤e∧∀ f∈fs,f.offset+P.cellsOf f.type≤e
 | [],o,e,h=>by simp only [contL,Option.some.injEq] at h; subst h; exact ⟨Nat.le_refl _,by simp⟩
 | f::fs,o,e,h=>by
  simp only [contL] at h
  split at h
  ·rename_i ho
   obtain ⟨h1,h2⟩:=contL_le P fs _ e h
   refine ⟨by omega,fun g hg=>?_⟩
   rcases List.mem_cons.1 hg with rfl | hg
   ·omega
   ·exact h2 g hg
  ·cases h
theorem trod_rep {H : Type} {enc : TypeId × Value → H} {P : Program} {W : World} {sp : Nat → Bool} : ∀ (fuel : Nat) (t : TypeId) (cs : List Value) (d : DataW H × List MemPlace), DataW.trod enc P W 0 sp true fuel t cs = some d → cs.length = P.cellsOf t →
  ∃ xs:List AV,CellsRep β0 (frOf W) W.heap xs cs.toArray∧HasC P fuel t xs∧(okK P t=true→isAgB P t=false→∃ x,xs=[x]∧leaf x=true)
 | 0,t,cs,d,h,hl=>by simp [DataW.trod] at h
 | fuel+1,t,cs,d,h,hl=>by
  have one:∀ (x:AV) (v:Value),Rep β0 (frOf W) W.heap x v→CellsRep β0 (frOf W) W.heap [x] [v].toArray:=fun x v hr=>⟨rfl,fun j hj=>by
   have:j=0:=by simpa using hj
   subst this; exact ⟨v,rfl,hr⟩⟩
  have any:(∀ xs,HasC P (fuel+1) t xs)→okK P t=false→∃ xs:List AV,CellsRep β0 (frOf W) W.heap xs cs.toArray∧HasC P (fuel+1) t xs∧(okK P t=true→isAgB P t=false→∃ x,xs=[x]∧leaf x=true):=fun q q2=>⟨_,anyC_rep _ _ _ cs.toArray,q _,fun e=>by rw [q2] at e; cases e⟩
  cases hu:P.underlying t with
  | none=>exact any (fun xs=>by simp [HasC,hu]) (by simp [okK,hu])
  | some td =>
   cases td with
   | bool =>
    obtain ⟨b,rfl,-⟩:=DataW.trod_bool hu h
    exact ⟨[.bool b],one _ _ (by simp [Rep]),by simp [HasC,hu],fun _ _=>⟨_,rfl,rfl⟩⟩
   | int k =>
    obtain ⟨n,rfl,-,hw⟩:=DataW.trod_int hu h
    exact ⟨[.int k n],one _ _ (by simp [Rep]),by simp only [HasC,hu]; exact ⟨n,rfl,hw⟩,fun _ _=>⟨_,rfl,rfl⟩⟩
   | string =>
    obtain ⟨s,rfl,-,hw⟩:=DataW.trod_string hu h
    exact ⟨[.str s.data.toList],one _ _ (by simp [Rep]),by simp only [HasC,hu]; exact ⟨_,rfl,by simpa using hw⟩,fun _ _=>⟨_,rfl,rfl⟩⟩
   | slice e =>
    by_cases hz:P.cellsOf e≠0∧okK P e=true
    ·obtain ⟨hz,hk⟩:=hz
     rcases DataW.trod_slice hu h with ⟨rfl,-⟩ | ⟨a,len,cap,elems,rest,n,hn,rfl,-,-,hlc,hcm,hel,hat,-,-⟩
     ·exact ⟨[.fz false []],one _ _ (by simp [Rep]),by simp only [HasC,hu]; exact fun _ _=>⟨[],rfl,by simp,by simp⟩,fun _ _=>⟨_,rfl,rfl⟩⟩
     ·injection hn with hn; subst hn
      have key:∀ i,i < len→∃ xs:List AV,xs.length=P.cellsOf e∧(mkV (isAgB P e) xs).cells=xs∧HasC P fuel e xs∧∃ us:Array Value,CellsRep β0 (frOf W) W.heap xs us∧∀ j (hj:j < P.cellsOf e),∃ u,us[j]? = some u∧W.cell? ((a.add (i * P.cellsOf e)).add j)=some u:=by
       intro i hi
       have he:=hat i hi
       have hx:∃ x,elems[i]? = some x:=⟨elems[i]'(by omega),List.getElem?_eq_getElem _⟩
       obtain ⟨x,hx⟩:=hx
       rw [hx] at he
       cases hc:W.cells? 0 (a.add (i * P.cellsOf e)) (P.cellsOf e) with
       | none=>rw [hc] at he; cases he
       | some cs' =>
        rw [hc] at he
        simp only [Option.bind_some] at he
        obtain ⟨-,h2,h3⟩:=cells?_get hc
        obtain ⟨xs,r1,r2,r3⟩:=trod_rep fuel e cs' x he h2
        have hxl:xs.length=P.cellsOf e:=by rw [← r1.1]; simpa using h2
        refine ⟨xs,hxl, ?_,r2,cs'.toArray,r1,fun j hj=>⟨cs'[j]'(by omega),by rw [List.getElem?_toArray,List.getElem?_eq_getElem (by omega)],h3 j hj (by omega)⟩⟩
        unfold mkV
        split
        ·rfl
        ·rename_i q
         obtain ⟨x,rfl,hlf⟩:=r3 hk (by simpa using q)
         simpa using leaf_cells hlf
      let f:Nat→List AV:=fun i=>if q:i < len then Classical.choose (key i q) else []
      have hf:∀ i (q:i < len),(f i).length=P.cellsOf e∧(mkV (isAgB P e) (f i)).cells=f i∧HasC P fuel e (f i)∧∃ us:Array Value,CellsRep β0 (frOf W) W.heap (f i) us∧∀ j (hj:j < P.cellsOf e),∃ u,us[j]? = some u∧W.cell? ((a.add (i * P.cellsOf e)).add j)=some u:=by
       intro i q
       have:=Classical.choose_spec (key i q)
       simp only [f,dif_pos q]; exact this
      let l:List AV:=(List.range len).map fun i=>mkV (isAgB P e) (f i)
      have hll:l.length=len:=by simp [l]
      refine ⟨[.fz false l],one _ _ ?_, ?_,fun _ _=>⟨_,rfl,rfl⟩⟩
      ·simp only [Rep]
       refine ⟨some a,cap,by rw [hll],by rw [hll]; exact hlc,(fun q=>by cases q),fun hne=>?_⟩
       have hpos:0 < len:=by rw [← hll]; exact List.length_pos_iff.2 hne
       have hsp:a.spot=none:=by
        obtain ⟨-,-,-,us,-,h4⟩:=hf 0 hpos
        obtain ⟨u,-,h5⟩:=h4 0 (by omega)
        have:=cell?_spot h5
        simpa [Addr.add] using this
       refine ⟨a,P.cellsOf e,rfl, ?_,hsp, ?_,fun i hi j hj=>?_⟩
       ·obtain ⟨-,-,-,us,-,h4⟩:=hf 0 hpos
        obtain ⟨u,-,h5⟩:=h4 0 (by omega)
        have:=cellAt_lt (cell?_at h5)
        simpa [Addr.add] using this
       ·intro x hx
        simp only [l,List.mem_map,List.mem_range] at hx
        obtain ⟨i,hi,rfl⟩:=hx
        rw [(hf i hi).2.1]; exact (hf i hi).1
       ·have hi':i < len:=by rw [hll] at hi; exact hi
        obtain ⟨h1,h2,-,us,h3,h4⟩:=hf i hi'
        have hli:l[i]=mkV (isAgB P e) (f i):=by simp [l]
        have hj':j < P.cellsOf e:=by rw [hli,h2,h1] at hj; exact hj
        obtain ⟨u,hu1,hu2⟩:=h4 j hj'
        obtain ⟨u',hu3,hr⟩:=h3.2 j (by omega)
        rw [hu1] at hu3; injection hu3 with hu3; subst hu3
        refine ⟨u, ?_, ?_⟩
        ·rw [add_none hsp,add_none rfl] at hu2
         exact cell?_at hu2
        ·have e2:(l[i]).cells=f i:=by rw [hli,h2]
         have:∀ (zs:List AV) (hz:zs=f i) (hj:j < zs.length),Rep β0 (frOf W) W.heap zs[j] u:=by intro zs hz hj; subst hz; exact hr
         exact this _ e2 hj
      ·simp only [HasC,hu]
       intro _ _
       refine ⟨l,rfl,by rw [hll]; omega,fun y hy=>?_⟩
       simp only [l,List.mem_map,List.mem_range] at hy
       obtain ⟨i,hi,rfl⟩:=hy
       exact ⟨f i,rfl,(hf i hi).2.1,(hf i hi).2.2.1,(hf i hi).1⟩
    ·refine ⟨_,anyC_rep _ _ _ cs.toArray,by simp only [HasC,hu]; exact fun q1 q2=>absurd ⟨q1,q2⟩ hz,fun _ _=>?_⟩
     have hl1:cs.length=1:=by
      rcases DataW.trod_slice hu h with ⟨rfl,-⟩ | ⟨a,len,cap,elems,rest,n,hn,rfl,-⟩ <;> rfl
     exact ⟨.any,by simp [anyC,hl1],rfl⟩
   | struct fs =>
    by_cases hct:contL P fs.toList 0=some (P.cellsOf t)
    ·obtain ⟨xs,n,hn,-,hl2,hxl,hat⟩:=DataW.trod_struct hu h
     injection hn with hn; subst hn
     have key:∀ i (hi:i < fs.toList.length),∃ ys:List AV,CellsRep β0 (frOf W) W.heap ys ((cs.drop (fs.toList[i]).offset).take (P.cellsOf (fs.toList[i]).type)).toArray∧HasC P fuel (fs.toList[i]).type ys∧ys.length=P.cellsOf (fs.toList[i]).type:=by
      intro i hi
      have hi':i < fs.size:=by simpa using hi
      have he:=hat i fs[i] (by simp [hi'])
      have hx:∃ x,xs[i]? = some x:=⟨xs[i]'(by omega),List.getElem?_eq_getElem _⟩
      obtain ⟨x,hx⟩:=hx
      rw [hx] at he
      have hle:=(contL_le P fs.toList 0 _ hct).2 fs[i] (by simp)
      have hln:((cs.drop fs[i].offset).take (P.cellsOf fs[i].type)).length=P.cellsOf fs[i].type:=by simp; omega
      obtain ⟨ys,r1,r2,-⟩:=trod_rep fuel _ _ x he hln
      refine ⟨ys,by simpa using r1,by simpa using r2, ?_⟩
      rw [← r1.1]; simpa using hln
     let f:Nat→List AV:=fun i=>if q:i < fs.toList.length then Classical.choose (key i q) else []
     have hf:∀ i (q:i < fs.toList.length),CellsRep β0 (frOf W) W.heap (f i) ((cs.drop (fs.toList[i]).offset).take (P.cellsOf (fs.toList[i]).type)).toArray∧HasC P fuel (fs.toList[i]).type (f i)∧(f i).length=P.cellsOf (fs.toList[i]).type:=by
      intro i q
      have:=Classical.choose_spec (key i q)
      simp only [f,dif_pos q]; exact this
     let xss:List (List AV):=(List.range fs.toList.length).map f
     refine ⟨xss.flatten, ?_, ?_,fun _ q=>by simp [isAgB,hu] at q⟩
     ·have hcut:=cut_fields P fs.toList 0 _ cs hct hl2
      simp only [List.drop_zero] at hcut
      rw [← hcut]
      refine flat_rep xss _ (by simp [xss]) fun j hj hj'=>?_
      have hj2:j < fs.toList.length:=by simpa [xss] using hj
      simp only [xss,List.getElem_map,List.getElem_range]
      exact (hf j hj2).1
     ·simp only [HasC,hu]
      intro _
      refine ⟨xss,rfl,by simp [xss],fun j hj hj'=>?_⟩
      simp only [xss,List.getElem_map,List.getElem_range]
      exact (hf j hj').2
    ·exact ⟨_,anyC_rep _ _ _ cs.toArray,by simp only [HasC,hu]; exact fun q=>absurd q hct,fun _ q=>by simp [isAgB,hu] at q⟩
   | array m e =>
    by_cases hct:P.cellsOf t=m * P.cellsOf e
    ·obtain ⟨xs,n,hn,-,hl2,hxl,hat⟩:=DataW.trod_array hu h
     injection hn with hn; subst hn
     have key:∀ i (hi:i < m),∃ ys:List AV,CellsRep β0 (frOf W) W.heap ys ((cs.drop (i * P.cellsOf e)).take (P.cellsOf e)).toArray∧HasC P fuel e ys∧ys.length=P.cellsOf e:=by
      intro i hi
      have he:=hat i hi
      have hx:∃ x,xs[i]? = some x:=⟨xs[i]'(by omega),List.getElem?_eq_getElem _⟩
      obtain ⟨x,hx⟩:=hx
      rw [hx] at he
      have hln:((cs.drop (i * P.cellsOf e)).take (P.cellsOf e)).length=P.cellsOf e:=by
       have:=idx_lt (s:=P.cellsOf e+1) hi (Nat.lt_succ_self _)
       have h2:(i+1) * P.cellsOf e≤m * P.cellsOf e:=Nat.mul_le_mul_right _ hi
       rw [Nat.add_mul] at h2
       simp; omega
      obtain ⟨ys,r1,r2,-⟩:=trod_rep fuel _ _ x he hln
      exact ⟨ys,r1,r2,by rw [← r1.1]; simpa using hln⟩
     let f:Nat→List AV:=fun i=>if q:i < m then Classical.choose (key i q) else []
     have hf:∀ i (q:i < m),CellsRep β0 (frOf W) W.heap (f i) ((cs.drop (i * P.cellsOf e)).take (P.cellsOf e)).toArray∧HasC P fuel e (f i)∧(f i).length=P.cellsOf e:=by
      intro i q
      have:=Classical.choose_spec (key i q)
      simp only [f,dif_pos q]; exact this
     let xss:List (List AV):=(List.range m).map f
     refine ⟨xss.flatten, ?_, ?_,fun _ q=>by simp [isAgB,hu] at q⟩
     ·rw [← cut_flatten (P.cellsOf e) m cs (by omega)]
      refine flat_rep xss _ (by simp [xss]) fun j hj hj'=>?_
      have hj2:j < m:=by simpa [xss] using hj
      simp only [xss,List.getElem_map,List.getElem_range]
      exact (hf j hj2).1
     ·simp only [HasC,hu]
      intro _
      refine ⟨xss,rfl,by simp [xss],fun ys hys=>?_⟩
      simp only [xss,List.mem_map,List.mem_range] at hys
      obtain ⟨i,hi,rfl⟩:=hys
      exact (hf i hi).2
    ·exact ⟨_,anyC_rep _ _ _ cs.toArray,by simp only [HasC,hu]; exact fun q=>absurd q hct,fun _ q=>by simp [isAgB,hu] at q⟩
   | _=>exact any (fun xs=>by simp [HasC,hu]) (by simp [okK,hu])
theorem arg_rep {H : Type} {enc : TypeId × Value → H} {P : Program} {W : World} {sp : Nat → Bool} {base : Nat} {t : TypeId} {v : Value} {d : DataW H} {p : List MemPlace} (hv : Value.okWide P W .any base t v) (h : DataW.Trod enc P W 0 sp true t v d p) (hk : okK P t = true) (hc : isAgB P t = false → P.cellsOf t = 1) :
  ∃ fuel x,Rep β0 (frOf W) W.heap x v∧HasC P fuel t x.cells∧x=mkV (isAgB P t) x.cells:=by
 obtain ⟨fuel,hf⟩:=h
 have hshape:(isAgB P t=true→∃ cs,v=.agg cs∧cs.size=P.cellsOf t)∧(isAgB P t=false→v.cells=#[v]):=by
  unfold okK at hk
  unfold isAgB
  split at hk
  ·rename_i q; simp only [q]; refine ⟨fun e=>by simp at e,fun _=>?_⟩
   obtain ⟨b,rfl⟩:=Go.WideShapes.okWide_bool q hv; rfl
  ·rename_i q; simp only [q]; refine ⟨fun e=>by simp at e,fun _=>?_⟩
   obtain ⟨b,rfl⟩:=Go.WideShapes.okWide_int q hv; rfl
  ·rename_i q; simp only [q]; refine ⟨fun e=>by simp at e,fun _=>?_⟩
   obtain ⟨b,rfl⟩:=Go.WideShapes.okWide_string q hv; rfl
  ·rename_i q; simp only [q]; refine ⟨fun e=>by simp at e,fun _=>?_⟩
   obtain ⟨a,b,c,rfl⟩:=Go.WideShapes.okWide_slice q hv; rfl
  ·rename_i q; simp only [q]; refine ⟨fun _=>?_,fun e=>by simp at e⟩
   unfold Value.okWide at hv; rw [q] at hv
   obtain ⟨cs,h1,h2,-⟩:=hv; exact ⟨cs,h1,h2⟩
  ·rename_i q; simp only [q]; refine ⟨fun _=>?_,fun e=>by simp at e⟩
   unfold Value.okWide at hv; rw [q] at hv
   obtain ⟨cs,h1,h2,-⟩:=hv; exact ⟨cs,h1,h2⟩
  ·cases hk
 cases hag:isAgB P t with
 | true =>
  obtain ⟨cs,rfl,hcs⟩:=hshape.1 hag
  obtain ⟨xs,h1,h2,-⟩:=trod_rep fuel t _ _ hf (by simpa [Value.cells] using hcs)
  refine ⟨fuel,.agg xs, ?_,h2,by simp [mkV,AV.cells]⟩
  simp only [Rep]
  exact ⟨cs,rfl,by simpa [Value.cells] using h1.1,fun j hj=>by simpa [Value.cells] using h1.2 j hj⟩
 | false =>
  have hvc:=hshape.2 hag
  rw [hvc] at hf
  obtain ⟨xs,h1,h2,h3⟩:=trod_rep fuel t _ _ hf (by simp [hc hag])
  obtain ⟨x,rfl,hl⟩:=h3 hk hag
  refine ⟨fuel,x, ?_,by rw [leaf_cells hl]; exact h2,by simp [mkV,leaf_cells hl]⟩
  obtain ⟨u,hu,hr⟩:=h1.2 0 (by simp)
  simp at hu; subst hu; simpa using hr
theorem lay0 (W:World) (hT:∀ b p,(b,p)∈tabs→∃ cs e f,W.heap[b]? = some (.cells cs e f)∧p cs):Lay β0 (frOf W) W.heap [] where
 frlt:=fun _ h=>h
 ownfr:=fun b ⟨t,o,g,h,_⟩=>by simp at h
 lt:=fun _ _ _ h=>by cases h
 inj:=fun t t' o o' g g' b h=>by simp at h
 obj:=fun t o h=>by simp at h
 dom:=fun _ _ _ h=>by cases h
 top:=fun t g s l h=>by simp at h
 tab:=fun b cs q=>⟨by obtain ⟨c,e,f,h,_⟩:=hT b cs q; exact (Array.getElem?_eq_some_iff.1 h).1,hT b cs q⟩
theorem law_calls {P : Program} {f : FuncId} {as : List AV} {vs : Array Value} {W : World} (k : ACall P f as [] fun r _ => r = .bool true) (h : CellsRep β0 (frOf W) W.heap as vs) (hT : ∀ b p, (b, p) ∈ tabs → ∃ cs e f, W.heap[b]? = some (.cells cs e f) ∧ p cs) :
  Calls P f vs W fun e W'=>e=.returned (.bool true)∧Go.RowKit.Below W.heap.size W W' :=
 (k W β0 (frOf W) vs (lay0 W hT) h).mono fun e W' ⟨v,x,h',β',fr',he,hx,L,R,S⟩=>by
  subst hx; simp only [Rep] at R; subst R
  exact ⟨he,S.os,S.tape,S.output,S.size,fun b hb=>S.keep b hb fun ⟨t,o,g,h,_⟩=>by simp at h⟩
theorem cells1 {β:Beta} {fr:Nat→Prop} {H:Array Obj} {x:AV} {v:Value} (h:Rep β fr H x v):CellsRep β fr H [x] #[v]:=⟨rfl,fun j hj=>by
 have:j=0:=by simpa using hj
 subst this; exact ⟨v,rfl,h⟩⟩
theorem cells2 {β:Beta} {fr:Nat→Prop} {H:Array Obj} {x y:AV} {v u:Value} (h:Rep β fr H x v) (k:Rep β fr H y u):CellsRep β fr H [x,y] #[v,u]:=CellsRep.append (cells1 h) (cells1 k)
theorem cells3 {β:Beta} {fr:Nat→Prop} {H:Array Obj} {x y z:AV} {v u t:Value} (h:Rep β fr H x v) (k:Rep β fr H y u) (l:Rep β fr H z t):CellsRep β fr H [x,y,z] #[v,u,t]:=CellsRep.append (cells2 h k) (cells1 l)
theorem list_of {α β:Type} {f:α→β} {Q:α→Prop}:∀ (l:List β),(∀ y∈l,∃ z,y=f z∧Q z)→∃ zs:List α,l=zs.map f∧∀ z∈zs,Q z
 | [],_=>⟨[],rfl,by simp⟩
 | y::l,h=>by
  obtain ⟨z,rfl,hz⟩:=h y (by simp)
  obtain ⟨zs,rfl,hzs⟩:=list_of l fun y hy=>h y (by simp [hy])
  exact ⟨z::zs,rfl,fun x hx=>by rcases List.mem_cons.1 hx with rfl | hx; exact hz; exact hzs x hx⟩
theorem HasC_int {P:Program} {n:Nat} {t:TypeId} {k:IntKind} {xs:List AV} (ht:P.underlying t=some (.int k)) (h:HasC P n t xs):∃ z,xs=[.int k z]∧(Lit.int k z).wf=true:=by
 cases n with
 | zero=>exact h.elim
 | succ n=>simp only [HasC,ht] at h; exact h
theorem HasC_str {P:Program} {n:Nat} {t:TypeId} {xs:List AV} (ht:P.underlying t=some .string) (h:HasC P n t xs):∃ s,xs=[.str s]∧s.length≤maxLen:=by
 cases n with
 | zero=>exact h.elim
 | succ n=>simp only [HasC,ht] at h; exact h
theorem HasC_slice {P:Program} {n:Nat} {t e:TypeId} {xs:List AV} (ht:P.underlying t=some (.slice e)) (hz:P.cellsOf e≠0) (hk:okK P e=true) (h:HasC P n t xs):∃ l m,xs=[.fz false l]∧l.length≤maxLen∧∀ y∈l,∃ ys,y=mkV (isAgB P e) ys∧y.cells=ys∧HasC P m e ys∧ys.length=P.cellsOf e:=by
 cases n with
 | zero=>exact h.elim
 | succ n=>simp only [HasC,ht] at h; obtain ⟨l,h⟩:=h hz hk; exact ⟨l,n,h⟩
theorem HasC_struct {P : Program} {n : Nat} {t : TypeId} {fs : Array Field} {xs : List AV} (ht : P.underlying t = some (.struct fs)) (hc : contL P fs.toList 0 = some (P.cellsOf t)) (h : HasC P n t xs) :
  ∃ (xss:List (List AV)) (m:Nat),xs=xss.flatten∧xss.length=fs.toList.length∧∀ j (hj:j < xss.length) (hf:j < fs.toList.length),HasC P m (fs.toList[j]).type (xss[j])∧(xss[j]).length=P.cellsOf (fs.toList[j]).type:=by
 cases n with
 | zero=>exact h.elim
 | succ n=>simp only [HasC,ht] at h; obtain ⟨xss,h⟩:=h hc; exact ⟨xss,n,h⟩
end Go.Proofs.Vale
