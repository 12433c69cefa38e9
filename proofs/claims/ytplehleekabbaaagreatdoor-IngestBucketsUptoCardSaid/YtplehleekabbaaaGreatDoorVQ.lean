/- YtplehleekabbaaaGreatDoorVQ: a text of the proof of this claim, by its prover. -/
import Derived.Test.YtplehleekabbaaaGreatDoorVP
set_option linter.unusedVariables false
set_option linter.unusedSimpArgs false
namespace Go.Proofs.Vale
theorem getElem?_app {α:Type} (h l:List α) (k:Nat):(h++l)[h.length+k]? = l[k]? := by rw [List.getElem?_append_right (by omega)]; congr 1; omega
theorem getElem?_app0 {α:Type} (h l:List α):(h++l)[h.length]? = l[0]? := by rw [List.getElem?_append_right (by omega)]; congr 1; omega
theorem set_app {α:Type} (h l:List α) (k:Nat) (x:α):(h++l).set (h.length+k) x=h++l.set k x:=by
 rw [List.set_append_right _ _ (by omega)]; congr 2; omega
theorem set_app0 {α:Type} (h l:List α) (x:α):(h++l).set h.length x=h++l.set 0 x:=by
 rw [List.set_append_right _ _ (by omega)]; congr 2; omega
attribute [go_sem] getElem?_app getElem?_app0 set_app set_app0
def ldP (ti:Option (Nat × Bool)) (y:AV):PV :=
 match ti with
 | some (n,ag)=>some (n≤y.cells.length∧(ag=false→n=1),partA y 0 n ag)
 | none=>none
def ldR (ti:Option (Nat × Bool)) (o:Option AObj) (g s i j:Nat):PV :=
 match ti,o with
 | some (n,ag),some (.arr g' s' l)=>some (g=g'∧s=s'∧i < l.length∧j+n≤(l.getD i .any).cells.length∧(ag=false→n=1),partA (l.getD i .any) j n ag)
 | _,_=>none
section
variable (P:Program) (h:List AObj)
@[go_sem] theorem ldA_ptr (t:Nat) (y:AV):ldA P t h (.ptr y)=ldP (tI P t) y:=by unfold ldA ldP; cases tI P t <;> rfl
@[go_sem] theorem ldA_ref (t tt g s i j:Nat):ldA P t h (.ref tt g s i j)=ldR (tI P t) h[tt]? g s i j:=by
 unfold ldA ldR
 cases tI P t with
 | none=>rfl
 | some q =>
  cases hq:h[tt]? with
  | none=>simp [hq]
  | some o=>cases o <;> simp [hq]
@[go_sem] theorem ldP_agg (n:Nat) (y:AV):ldP (some (n,true)) y=some (n≤y.cells.length,.agg (y.cells.take n)):=by simp [ldP,partA]
@[go_sem] theorem ldP_one (y:AV):ldP (some (1,false)) y=some (1≤y.cells.length,y.cells.getD 0 .any):=by simp [ldP,partA]
@[go_sem] theorem ldR_agg (n g s i j g' s':Nat) (l:List AV):ldR (some (n,true)) (some (.arr g' s' l)) g s i j=some (g=g'∧s=s'∧i < l.length∧j+n≤(l.getD i .any).cells.length,.agg (((l.getD i .any).cells.drop j).take n)):=by simp [ldR,partA]
@[go_sem] theorem ldR_one (g s i j g' s':Nat) (l:List AV):ldR (some (1,false)) (some (.arr g' s' l)) g s i j=some (g=g'∧s=s'∧i < l.length∧j+1≤(l.getD i .any).cells.length,(l.getD i .any).cells.getD j .any):=by simp [ldR,partA]
def faP (fi:Option (Nat × Nat × Bool)) (y:AV):PV :=
 match fi with
 | some (off,n,ag)=>some (off+n≤y.cells.length∧(ag=false→n=1∧leaf (y.cells.getD off .any)=true),.ptr (partA y off n ag))
 | none=>none
def faR (fi:Option (Nat × Nat × Bool)) (t g s i j:Nat):PV :=
 match fi with
 | some (off,n,ag)=>some (True,.ref t g s i (j+off))
 | none=>none
@[go_sem] theorem faA_ptr (s f:Nat) (y:AV):faA P s f (.ptr y)=faP (fI P s f) y:=by unfold faA faP; cases fI P s f <;> rfl
@[go_sem] theorem faA_ref (s f t g s' i j:Nat):faA P s f (.ref t g s' i j)=faR (fI P s f) t g s' i j:=by unfold faA faR; cases fI P s f <;> rfl
@[go_sem] theorem faP_one (off:Nat) (y:AV):faP (some (off,1,false)) y=some (off+1≤y.cells.length∧leaf (y.cells.getD off .any)=true,.ptr (y.cells.getD off .any)):=by simp [faP,partA]
@[go_sem] theorem faR_some (off n:Nat) (ag:Bool) (t g s i j:Nat):faR (some (off,n,ag)) t g s i j=some (True,.ref t g s i (j+off)):=nrfl rfl
def ixP (ei:Option (TypeId × Nat × Nat)) (l:List AV) (n:Int):PV :=
 match ei with
 | some (e,es,by_)=>some (0≤n∧n < l.length∧(l.getD n.toNat .any).cells.length=es,.ptr (l.getD n.toNat .any))
 | none=>none
def ixS (ei:Option (TypeId × Nat × Nat)) (tt g s off len:Nat) (n:Int):PV :=
 match ei with
 | some (e,es,by_)=>some (0≤n∧n < len∧s=es,.ref tt g s (off+n.toNat) 0)
 | none=>none
@[go_sem] theorem ixA_fz (t:Nat) (c:Bool) (l:List AV) (k:IntKind) (n:Int):ixA P t (.fz c l) (.int k n)=ixP (eI P t) l n:=by unfold ixA ixP; cases eI P t <;> rfl
@[go_sem] theorem ixA_sl (t tt g s off len:Nat) (k:IntKind) (n:Int):ixA P t (.sl tt g s off len) (.int k n)=ixS (eI P t) tt g s off len n:=by unfold ixA ixS; cases eI P t <;> rfl
@[go_sem] theorem ixP_some (e es b:Nat) (l:List AV) (n:Int):ixP (some (e,es,b)) l n=some (0≤n∧n < l.length∧(l.getD n.toNat .any).cells.length=es,.ptr (l.getD n.toNat .any)):=nrfl rfl
@[go_sem] theorem ixS_some (e es b tt g s off len:Nat) (n:Int):ixS (some (e,es,b)) tt g s off len n=some (0≤n∧n < len∧s=es,.ref tt g s (off+n.toNat) 0):=nrfl rfl
@[go_sem] theorem inA_str (t:Nat) (s:List UInt8) (k:IntKind) (n:Int):inA P t (.str s) (.int k n)=some (tk P t=.str∧0≤n∧n < s.length,.int .u8 (s.getD n.toNat 0).toNat):=nrfl rfl
@[go_sem] theorem obA_none (d:Int):obA none d=some d:=nrfl rfl
@[go_sem] theorem obA_int (k:IntKind) (n d:Int):obA (some (.int k n)) d=some n:=nrfl rfl
def slS (P:Program) (t:TypeId) (s:List UInt8) (l h:Option Int):PV :=
 match l,h with
 | some l,some h=>some (tk P t=.str∧0≤l∧l≤h∧h≤s.length,.str ((s.take h.toNat).drop l.toNat))
 | _,_=>none
def slF (ei:Option (TypeId × Nat × Nat)) (c:Bool) (xs:List AV) (l h:Option Int):PV :=
 match ei,l,h with
 | some (e,es,by_),some l,some h=>some (0≤l∧l≤h∧h≤xs.length∧(∀ x∈xs,x.cells.length=es),.fz (c && decide (h=xs.length)) ((xs.take h.toNat).drop l.toNat))
 | _,_,_=>none
def slO (ei:Option (TypeId × Nat × Nat)) (tt g s off len:Nat) (h:Option Int):PV :=
 match ei,h with
 | some (e,es,by_),some h=>some (0≤h∧h≤len,.sl tt g s off h.toNat)
 | _,_=>none
@[go_sem] theorem slA_str (t:Nat) (s:List UInt8) (lo hi:Option AV):slA P t (.str s) lo hi none=slS P t s (obA lo 0) (obA hi s.length):=by
 unfold slA slS; simp only; cases obA lo 0 <;> cases obA hi s.length <;> rfl
@[go_sem] theorem slA_fz (t:Nat) (c:Bool) (xs:List AV) (lo hi:Option AV):slA P t (.fz c xs) lo hi none=slF (eI P t) c xs (obA lo 0) (obA hi xs.length):=by
 unfold slA slF; simp only; cases eI P t <;> cases obA lo 0 <;> cases obA hi xs.length <;> rfl
@[go_sem] theorem slA_sl (t tt g s off len:Nat) (hi:Option AV):slA P t (.sl tt g s off len) none hi none=slO (eI P t) tt g s off len (obA hi len):=by
 unfold slA slOwn slO; simp only; cases eI P t <;> cases obA hi len <;> rfl
def slO2 (ei:Option (TypeId × Nat × Nat)) (tt g s off len:Nat) (l:Int) (h:Option Int):PV :=
 match ei,h with
 | some (e,es,by_),some h=>some (0≤l∧l≤h∧h≤len∧s=es,slT tt g s off l h)
 | _,_=>none
@[go_sem] theorem slA_sl2 (t tt g s off len:Nat) (k:IntKind) (l:Int) (hi:Option AV):slA P t (.sl tt g s off len) (some (.int k l)) hi none=slO2 (eI P t) tt g s off len l (obA hi len):=by
 unfold slA slOwn slO2; simp only; cases eI P t <;> cases obA hi len <;> rfl
@[go_sem] theorem slO2_some (e es b tt g s off len:Nat) (l hh:Int):slO2 (some (e,es,b)) tt g s off len l (some hh)=some (0≤l∧l≤hh∧hh≤len∧s=es,slT tt g s off l hh):=nrfl rfl
@[go_sem] theorem slS_some (t:Nat) (s:List UInt8) (l hh:Int):slS P t s (some l) (some hh)=some (tk P t=.str∧0≤l∧l≤hh∧hh≤s.length,.str ((s.take hh.toNat).drop l.toNat)):=nrfl rfl
@[go_sem] theorem slF_some (e es b:Nat) (c:Bool) (xs:List AV) (l hh:Int):slF (some (e,es,b)) c xs (some l) (some hh)=some (0≤l∧l≤hh∧hh≤xs.length∧(∀ x∈xs,x.cells.length=es),.fz (c && decide (hh=xs.length)) ((xs.take hh.toNat).drop l.toNat)):=nrfl rfl
@[go_sem] theorem slO_some (e es b tt g s off len:Nat) (hh:Int):slO (some (e,es,b)) tt g s off len (some hh)=some (0≤hh∧hh≤len,.sl tt g s off hh.toNat):=nrfl rfl
def cvJ (s:TK) (n:Int):PV :=
 match s with
 | .int _=>some (True,.str (encA n))
 | _=>none
def cvI (P:Program) (src:TypeId) (d:TK) (n:Int):PV :=
 match d with
 | .int k'=>some ((∃ d,P.underlying src=some d),.int k' (k'.wrap n))
 | .str=>cvJ (tk P src) n
 | _=>none
def cvS (P:Program) (src:TypeId) (d:TK) (s:List UInt8):PV :=
 match d with
 | .str=>some ((∃ d,P.underlying src=some d),.str s)
 | _=>none
@[go_sem] theorem cvA_int (s d:Nat) (k:IntKind) (n:Int):cvA P s d h (.int k n)=cvI P s (tk P d) n:=by unfold cvA cvI cvJ; simp only; cases tk P d <;> rfl
@[go_sem] theorem cvI_str (s:Nat) (n:Int):cvI P s .str n=cvJ (tk P s) n:=nrfl rfl
@[go_sem] theorem cvJ_int (k:IntKind) (n:Int):cvJ (.int k) n=some (True,.str (encA n)):=nrfl rfl
@[go_sem] theorem cvI_int (s:Nat) (k:IntKind) (n:Int):cvI P s (.int k) n=some ((∃ d,P.underlying s=some d),.int k (k.wrap n)):=nrfl rfl
@[go_sem] theorem exA_tup (vs:List AV) (i:Nat):exA (.tup vs) i=some (i < vs.length,vs.getD i .any):=nrfl rfl
@[go_sem] theorem unA_tup0 (vs:List AV) (op:UnOp):unA op (.tup vs)=none:=by cases op <;> rfl
@[go_sem] theorem inA_tup0 (vs:List AV) (t:Nat) (y:AV):inA P t (.tup vs) y=none:=by rfl
@[go_sem] theorem lenA_tup0 (vs:List AV) (t:Nat):lenA P t (.tup vs)=none:=by rfl
@[go_sem] theorem slA_tup0 (vs:List AV) (t:Nat) (a b c:Option AV):slA P t (.tup vs) a b c=none:=by rfl
@[go_sem] theorem ncA_tup0 (vs:List AV)  : ncA (.tup vs)=none:=by rfl
@[go_sem] theorem taA_tup0 (vs:List AV) (t:Nat) (b:Bool):taA P (.tup vs) t b=none:=by rfl
@[go_sem] theorem eqo_tup0 (vs:List AV) (t:Nat) (y:AV):eqo P t (.tup vs) y=none:=by cases y <;> rfl
@[go_sem] theorem eqoi_tup0 (vs:List AV) (t:Nat) (k:IntKind) (n:Int):eqo P t (.int k n) (.tup vs)=none:=by rfl
@[go_sem] theorem inA_any0 (t:Nat) (y:AV):inA P t .any y=none:=by rfl
@[go_sem] theorem lenA_any0 (t:Nat):lenA P t .any=none:=by rfl
@[go_sem] theorem slA_any0 (t:Nat) (a b c:Option AV):slA P t .any a b c=none:=by rfl
@[go_sem] theorem ncA_any0  : ncA .any=none:=by rfl
@[go_sem] theorem taA_any0 (t:Nat) (b:Bool):taA P .any t b=none:=by rfl
@[go_sem] theorem eqoi_any0 (t:Nat) (k:IntKind) (n:Int):eqo P t (.int k n) .any=none:=by rfl
@[go_sem] theorem pkt_tup (vs:List AV) (x:Bool):pkA (.bool true) (.bool x) (.tup vs)=some (True,.bool x):=nrfl rfl
@[go_sem] theorem pkf_tup (vs:List AV) (y:Bool):pkA (.bool false) (.tup vs) (.bool y)=some (True,.bool y):=nrfl rfl
@[go_sem] theorem unA_neg (k:IntKind) (n:Int):unA .neg (.int k n)=some (True,.int k (k.wrap (0 - n))):=nrfl rfl
@[go_sem] theorem unA_not (b:Bool):unA .not (.bool b)=some (True,.bool (!b)):=nrfl rfl
@[go_sem] theorem ncA_ref (t g s i j:Nat):ncA (.ref t g s i j)=some (True,.ref t g s i j):=nrfl rfl
@[go_sem] theorem mfA_eq (fn:Fn) (f c:List AV):mfA fn f c=some (True,.func fn f c):=nrfl rfl
@[go_sem] theorem pkA_bb (c x y:Bool):pkA (.bool c) (.bool x) (.bool y)=some (True,.bool (bif c then x else y)):=nrfl rfl
@[go_sem] theorem pkA_ob (c g x y:Bool):pkA (.bool c) (.opt g (.bool x)) (.bool y)=some (c=true→g=true,.bool (bif c then x else y)):=nrfl rfl
@[go_sem] theorem pkA_bo (c g x y:Bool):pkA (.bool c) (.bool x) (.opt g (.bool y))=some (c=false→g=true,.bool (bif c then x else y)):=nrfl rfl
def buP (bi:Option (List (Nat × Nat) × List AV)) (parts:List (Nat × AV)):PV :=
 match bi with
 | some (ps,z)=>(match fillA ps z parts with | some r=>some ((parts.all fun x=>x.2.sure)=true,.agg r) | none=>none)
 | none=>none
def buF (f:Option (List AV)) (parts:List (Nat × AV)):PV :=
 match f with
 | some r=>some ((parts.all fun x=>x.2.sure)=true,.agg r)
 | none=>none
@[go_sem] theorem buA_eq (t:Nat) (parts:List (Nat × AV)):buA P t parts=buP (bI P t) parts:=nrfl rfl
@[go_sem] theorem buP_some (ps:List (Nat × Nat)) (z:List AV) (parts:List (Nat × AV)):buP (some (ps,z)) parts=buF (fillA ps z parts) parts:=nrfl rfl
@[go_sem] theorem buF_some (r:List AV) (parts:List (Nat × AV)):buF (some r) parts=some ((parts.all fun x=>x.2.sure)=true,.agg r):=nrfl rfl
@[go_sem] theorem fillA_nil (ps:List (Nat × Nat)) (cs:List AV):fillA ps cs []=some cs:=nrfl rfl
def fillB (q:Option (Nat × Nat)) (ps:List (Nat × Nat)) (cs:List AV) (x:AV) (r:List (Nat × AV)):Option (List AV) :=
 match q with
 | some (off,n)=>if x.cells.length=n∧off+n≤cs.length then fillA ps (cs.take off++x.cells++cs.drop (off+n)) r else none
 | none=>none
@[go_sem] theorem fillA_cons (ps:List (Nat × Nat)) (cs:List AV) (i:Nat) (x:AV) (r:List (Nat × AV)):fillA ps cs ((i,x)::r)=fillB ps[i]? ps cs x r:=by rw [fillA]; unfold fillB; cases ps[i]? <;> rfl
@[go_sem] theorem fillB_some (off n:Nat) (ps:List (Nat × Nat)) (cs:List AV) (x:AV) (r:List (Nat × AV)):fillB (some (off,n)) ps cs x r=if x.cells.length=n∧off+n≤cs.length then fillA ps (cs.take off++x.cells++cs.drop (off+n)) r else none:=nrfl rfl
@[go_sem] theorem blt_len (ts:List TypeId) (t:TypeId) (x:AV):bltA P .len ⟨t::ts⟩ [x]=lenA P t x:=nrfl rfl
@[go_sem] theorem blt_min (ts:Array TypeId) (x y:AV):bltA P .min ts [x,y]=mnA x y:=nrfl rfl
@[go_sem] theorem blt_max (ts:Array TypeId) (x y:AV):bltA P .max ts [x,y]=mxA x y:=nrfl rfl
@[go_sem] theorem blt_cap (ts:List TypeId) (t:TypeId) (x:AV):bltA P .cap ⟨t::ts⟩ [x]=capA P t x:=nrfl rfl
@[go_sem] theorem capA_fz (t:TypeId) (l:List AV):capA P t (.fz true l)=some ((∃ e,tk P t=.sl e),.int .i64 l.length):=nrfl rfl
@[go_sem] theorem blt_append (ts:Array TypeId) (x:List AV):bltA P .append ts x=none:=by cases x <;> rfl
@[go_sem] theorem len_str (t:Nat) (s:List UInt8):lenA P t (.str s)=some (tk P t=.str,.int .i64 s.length):=nrfl rfl
@[go_sem] theorem len_fz (t:Nat) (c:Bool) (l:List AV):lenA P t (.fz c l)=some ((∃ e,tk P t=.sl e),.int .i64 l.length):=nrfl rfl
@[go_sem] theorem len_sl (t a b c d n:Nat):lenA P t (.sl a b c d n)=some ((∃ e,tk P t=.sl e),.int .i64 n):=nrfl rfl
@[go_sem] theorem mn_int (k k':IntKind) (a b:Int):mnA (.int k a) (.int k' b)=some (True,.int k (if b < a then b else a)):=nrfl rfl
@[go_sem] theorem mx_int (k k':IntKind) (a b:Int):mxA (.int k a) (.int k' b)=some (True,.int k (if b > a then b else a)):=nrfl rfl
@[go_sem] theorem eqR_eq (p:Prop) (b:Bool):eqR .eql (some (p,b))=some (p,.bool b):=nrfl rfl
@[go_sem] theorem eqR_ne (p:Prop) (b:Bool):eqR .neq (some (p,b))=some (p,.bool (!b)):=nrfl rfl
@[go_sem] theorem eqR_none (op:BinOp):eqR op none=none:=by cases op <;> rfl
@[go_sem] theorem eqo_bool (t:Nat) (a b:Bool):eqo P t (.bool a) (.bool b)=some (tk P t=.bool,a==b):=nrfl rfl
@[go_sem] theorem eqo_rn (t a b c d e:Nat):eqo P t (.ref a b c d e) .nilp=some (tk P t=.ptr,false):=nrfl rfl
@[go_sem] theorem eqo_fz (t:Nat) (c:Bool) (l:List AV) (y:AV):eqo P t (.fz c l) y=none:=by cases y <;> rfl
@[go_sem] theorem eqo_sl (t a b c d n:Nat) (y:AV):eqo P t (.sl a b c d n) y=none:=by cases y <;> rfl
def eqG (P:Program) (t:Nat) (xs:List AV) (e:Option Bool):Option (Prop × Bool) :=
 match e with
 | some b=>some (flatI P t=true∧xs.map avK=flatK P t,b)
 | none=>none
@[go_sem] theorem eqo_agg (t:Nat) (xs ys:List AV):eqo P t (.agg xs) (.agg ys)=eqG P t xs (eqCells xs ys):=by unfold eqo eqG; simp only; cases eqCells xs ys <;> rfl
@[go_sem] theorem eqG_some (t:Nat) (xs:List AV) (b:Bool):eqG P t xs (some b)=some (flatI P t=true∧xs.map avK=flatK P t,b):=nrfl rfl
@[go_sem] theorem eqCells_nil:eqCells [] []=some true:=nrfl rfl
def andO (a b:Option Bool):Option Bool :=
 match a,b with
 | some a,some b=>some (a && b)
 | _,_=>none
@[go_sem] theorem eqCells_cons (x y:AV) (xs ys:List AV):eqCells (x::xs) (y::ys)=andO (eqA x y) (eqCells xs ys):=by rw [eqCells]; unfold andO; cases eqA x y <;> cases eqCells xs ys <;> rfl
@[go_sem] theorem andO_some (a b:Bool):andO (some a) (some b)=some (a && b):=nrfl rfl
@[go_sem] theorem eqA_int (k:IntKind) (a b:Int):eqA (.int k a) (.int k b)=some (a==b):=by simp [eqA]
@[go_sem] theorem avK_int (k:IntKind) (a:Int):avK (.int k a)=.int k:=nrfl rfl
end
section
variable (P:Program) (ev:Operand→AV) (h:List AObj) (K:AV→List AObj→Prop)
def alK (z:Option AV) (h:List AObj) (K:AV→List AObj→Prop) (_:Tag K):Prop :=
 match z with
 | some x=>bxK x h K
 | none=>False
@[go_sem ↓] theorem aop_alloc (t:TypeId):aop P (.alloc t) ev h K=alK (zI P t) h K ⟨⟩:=by unfold aop alK; simp only; cases zI P t <;> rfl
def bxT (x:AV) (h:List AObj) (K:AV→List AObj→Prop) (_:Tag K):Prop:=bxK x h K
@[go_sem] theorem alK_some (x:AV) (t:Tag K):alK (some x) h K t=bxT x h K t:=nrfl rfl
@[go_sem ↓] theorem aop_box (t:TypeId) (v:Operand):aop P (.box t v) ev h K=bxT (ev v) h K ⟨⟩:=nrfl rfl
def stT (P:Program) (t:Nat) (a x:AV) (h:List AObj) (K:AV→List AObj→Prop) (_:Tag K):Prop:=stK P t a x h K
def nqT (P:Program) (op:BinOp) (t:Nat) (x:AV) (h:List AObj) (K:AV→List AObj→Prop) (_:Tag K):Prop:=nqK P op t x h K
def apKT (P:Program) (ts:Array TypeId) (a x:AV) (h:List AObj) (K:AV→List AObj→Prop) (_:Tag K):Prop:=apK P ts a x h K
def clT (P:Program) (f:AV) (as:List AV) (h:List AObj) (K:AV→List AObj→Prop) (_:Tag K):Prop:=cyK P f as h K
@[go_sem ↓] theorem aop_buildSlice (t n:Nat) (ps:List (Nat × Operand)):aop P (.buildSlice t n ⟨ps⟩) ev h K=bsK P t n (ps.map fun x=>(x.1,ev x.2)) h K:=nrfl rfl
@[go_sem ↓] theorem aop_store (t:TypeId) (a x:Operand):aop P (.store t a x) ev h K=stT P t (ev a) (ev x) h K ⟨⟩:=nrfl rfl
def rgT (P:Program) (t:Nat) (x:AV) (h:List AObj) (K:AV→List AObj→Prop) (_:Tag K):Prop:=rgK P t x h K
def nxT (x:AV) (b:Bool) (h:List AObj) (K:AV→List AObj→Prop) (_:Tag K):Prop:=nxK x b h K
@[go_sem ↓] theorem aop_range (t:TypeId) (x:Operand):aop P (.range t x) ev h K=rgT P t (ev x) h K ⟨⟩:=nrfl rfl
@[go_sem ↓] theorem aop_next (x:Operand) (b:Bool):aop P (.next x b) ev h K=nxT (ev x) b h K ⟨⟩:=nrfl rfl
def rgE (d:TK) (s:List UInt8) (h:List AObj) (K:AV→List AObj→Prop) (_:Tag K):Prop :=
 match d with
 | .str=>K (.it h.length) (h++[.it s 0])
 | _=>False
@[go_sem] theorem rgT_str (t:Nat) (s:List UInt8) (tg:Tag K):rgT P t (.str s) h K tg=rgE (tk P t) s h K ⟨⟩:=by unfold rgT rgK rgE; cases tk P t <;> rfl
@[go_sem] theorem rgE_str (s:List UInt8) (tg:Tag K):rgE .str s h K tg=K (.it h.length) (h++[.it s 0]):=nrfl rfl
@[go_sem] theorem keyOk_str (s:List UInt8):keyOk .str (.str s)=true:=nrfl rfl
def mmT (h:List AObj) (K:AV→List AObj→Prop) (_:Tag K):Prop:=mmK h K
@[go_sem ↓] theorem aop_makeMap (t:TypeId):aop P (.makeMap t none) ev h K=mmT h K ⟨⟩:=nrfl rfl
@[go_sem] theorem mmT_eq (tg:Tag K):mmT h K tg=K (.mp h.length) (h++[.map []]):=nrfl rfl
def luT (P:Program) (t:Nat) (x k:AV) (ok:Bool) (h:List AObj) (K:AV→List AObj→Prop) (_:Tag K):Prop:=luK P t x k ok h K
def luE (P:Program) (d:TK) (o:Option AObj) (k:AV) (ok:Bool) (h:List AObj) (K:AV→List AObj→Prop) (_:Tag K):Prop :=
 match d with
 | .map kt et=>keyOk (tk P kt) k=true∧(match zI P et with
  | some z=>(match o with
   | some (.map l)=>luG k z ok l h K
   | _=>False)
  | none=>False)
 | _=>False
def luZ (z:Option AV) (k:AV) (ok:Bool) (l:List (AV × AV)) (h:List AObj) (K:AV→List AObj→Prop) (_:Tag K):Prop :=
 match z with
 | some z=>luG k z ok l h K
 | none=>False
def luH (k z:AV) (ok:Bool) (l:List (AV × AV)) (h:List AObj) (K:AV→List AObj→Prop) (_:Tag K):Prop:=luG k z ok l h K
@[go_sem ↓] theorem aop_lookup (t:TypeId) (x k:Operand) (ok:Bool):aop P (.lookup t x k ok) ev h K=luT P t (ev x) (ev k) ok h K ⟨⟩:=nrfl rfl
@[go_sem] theorem luT_mp (t m:Nat) (k:AV) (ok:Bool) (tg:Tag K):luT P t (.mp m) k ok h K tg=luE P (tk P t) h[m]? k ok h K ⟨⟩:=by
 unfold luT luK luE
 cases tk P t <;> rfl
@[go_sem] theorem luE_map (kt et:TypeId) (l:List (AV × AV)) (k:AV) (ok:Bool) (tg:Tag K):luE P (.map kt et) (some (.map l)) k ok h K tg=(keyOk (tk P kt) k=true∧luZ (zI P et) k ok l h K ⟨⟩):=nrfl rfl
@[go_sem] theorem luZ_some (z k:AV) (ok:Bool) (l:List (AV × AV)) (tg:Tag K):luZ (some z) k ok l h K tg=luH k z ok l h K ⟨⟩:=nrfl rfl
theorem luH_some {k z:AV} {ok:Bool} {l:List (AV × AV)} {h:List AObj} {K:AV→List AObj→Prop} {tg:Tag K} (i:Nat) (hf:findM k l 0=some (some i)) (hk:K (luR ok (l.getD i (.any,.any)).2 true) h):luH k z ok l h K tg:=by
 unfold luH luG; rw [hf]; exact hk
theorem luH_none {k z:AV} {ok:Bool} {l:List (AV × AV)} {h:List AObj} {K:AV→List AObj→Prop} {tg:Tag K} (hf:findM k l 0=some none) (hk:K (luR ok z false) h):luH k z ok l h K tg:=by
 unfold luH luG; rw [hf]; exact hk
@[go_sem] theorem luR_true (v:AV) (b:Bool):luR true v b=.tup [v,.bool b]:=nrfl rfl
def muT (P:Program) (t:Nat) (x k v:AV) (h:List AObj) (K:AV→List AObj→Prop) (_:Tag K):Prop:=muK P t x k v h K
def muE (P:Program) (d:TK) (m:Nat) (o:Option AObj) (k v:AV) (h:List AObj) (K:AV→List AObj→Prop) (_:Tag K):Prop :=
 match d with
 | .map kt et=>keyOk (tk P kt) k=true∧(match o with
  | some (.map l)=>muG k v l fun l'=>K (.tup []) (h.set m (.map l'))
  | _=>False)
 | _=>False
def muH (m:Nat) (k v:AV) (l:List (AV × AV)) (h:List AObj) (K:AV→List AObj→Prop) (_:Tag K):Prop:=muG k v l fun l'=>K (.tup []) (h.set m (.map l'))
@[go_sem ↓] theorem aop_mapUpdate (t:TypeId) (m k v:Operand):aop P (.mapUpdate t m k v) ev h K=muT P t (ev m) (ev k) (ev v) h K ⟨⟩:=nrfl rfl
@[go_sem] theorem muT_mp (t m:Nat) (k v:AV) (tg:Tag K):muT P t (.mp m) k v h K tg=muE P (tk P t) m h[m]? k v h K ⟨⟩:=by
 unfold muT muK muE
 cases tk P t <;> rfl
@[go_sem] theorem muE_map (kt et:TypeId) (m:Nat) (l:List (AV × AV)) (k v:AV) (tg:Tag K):muE P (.map kt et) m (some (.map l)) k v h K tg=(keyOk (tk P kt) k=true∧muH m k v l h K ⟨⟩):=nrfl rfl
theorem muH_some {m:Nat} {k v:AV} {l:List (AV × AV)} {h:List AObj} {K:AV→List AObj→Prop} {tg:Tag K} (i:Nat) (hf:findM k l 0=some (some i)) (hk:K (.tup []) (h.set m (.map (l.set i (k,v))))):muH m k v l h K tg:=by
 unfold muH muG; rw [hf]; exact hk
theorem muH_none {m:Nat} {k v:AV} {l:List (AV × AV)} {h:List AObj} {K:AV→List AObj→Prop} {tg:Tag K} (hf:findM k l 0=some none) (hk:K (.tup []) (h.set m (.map (l++[(k,v)])))):muH m k v l h K tg:=by
 unfold muH muG; rw [hf]; exact hk
def rgM (mt:Nat) (d:TK) (o:Option AObj) (h:List AObj) (K:AV→List AObj→Prop) (_:Tag K):Prop :=
 match d with
 | .map _ _=>(match o with
  | some (.map l)=>K (.it h.length) (h++[.mit (some mt) l.length []])
  | _=>False)
 | _=>False
@[go_sem] theorem rgT_mp (t mt:Nat) (tg:Tag K):rgT P t (.mp mt) h K tg=rgM mt (tk P t) h[mt]? h K ⟨⟩:=by
 unfold rgT rgK rgM
 cases tk P t <;> rfl
@[go_sem] theorem rgM_map (mt a b:Nat) (l:List (AV × AV)) (tg:Tag K):rgM mt (.map a b) (some (.map l)) h K tg=K (.it h.length) (h++[.mit (some mt) l.length []]):=nrfl rfl
def nxM (t:Nat) (o:Option AObj) (h:List AObj) (K:AV→List AObj→Prop) (_:Tag K):Prop :=
 match o with
 | some (.ctl (.mit none _ _))=>K (.tup [.bool false]) h
 | some (.ctl (.mit (some mt) n seen))=>(match h[mt]? with
  | some (.map l)=>l.length=n∧(∀ i,i < n→i ∉ seen→K (.tup [.bool true,(l.getD i (.any,.any)).1,(l.getD i (.any,.any)).2]) (h.set t (.mit (some mt) n (seen++[i]))))∧((∀ i,i < n→i∈seen)→K (.tup [.bool false]) h)
  | _=>False)
 | _=>False
def nxL (t mt n:Nat) (seen:List Nat) (o:Option AObj) (h:List AObj) (K:AV→List AObj→Prop) (_:Tag K):Prop :=
 match o with
 | some (.map l)=>l.length=n∧(∀ i,i < n→i ∉ seen→K (.tup [.bool true,(l.getD i (.any,.any)).1,(l.getD i (.any,.any)).2]) (h.set t (.mit (some mt) n (seen++[i]))))∧((∀ i,i < n→i∈seen)→K (.tup [.bool false]) h)
 | _=>False
def nxC (t mt n:Nat) (seen:List Nat) (l:List (AV × AV)) (h:List AObj) (K:AV→List AObj→Prop) (_:Tag K):Prop :=
 (∀ i,i < n→i ∉ seen→K (.tup [.bool true,(l.getD i (.any,.any)).1,(l.getD i (.any,.any)).2]) (h.set t (.mit (some mt) n (seen++[i]))))∧((∀ i,i < n→i∈seen)→K (.tup [.bool false]) h)
@[go_sem] theorem nxT_mit (t:Nat) (tg:Tag K):nxT (.it t) false h K tg=nxM t h[t]? h K ⟨⟩:=by
 unfold nxT nxK nxM
 rfl
@[go_sem] theorem nxM_some (t mt n:Nat) (seen:List Nat) (tg:Tag K):nxM t (some (.mit (some mt) n seen)) h K tg=nxL t mt n seen h[mt]? h K ⟨⟩:=nrfl rfl
@[go_sem] theorem nxL_map (t mt n:Nat) (seen:List Nat) (l:List (AV × AV)) (tg:Tag K):nxL t mt n seen (some (.map l)) h K tg=(l.length=n∧nxC t mt n seen l h K ⟨⟩):=nrfl rfl
theorem nxC_intro {t mt n:Nat} {seen:List Nat} {l:List (AV × AV)} {h:List AObj} {K:AV→List AObj→Prop} {tg:Tag K} (h1:∀ i,i < n→i ∉ seen→K (.tup [.bool true,(l.getD i (.any,.any)).1,(l.getD i (.any,.any)).2]) (h.set t (.mit (some mt) n (seen++[i])))) (h2:(∀ i,i < n→i∈seen)→K (.tup [.bool false]) h):nxC t mt n seen l h K tg:=⟨h1,h2⟩
def enT (x:AV) (h:List AObj) (K:AV→List AObj→Prop) (_:Tag K):Prop:=enK x h K
def enM (o:Option AObj) (h:List AObj) (K:AV→List AObj→Prop) (_:Tag K):Prop :=
 match o with
 | some (.ctl (.mit (some mt) n seen))=>(match seen.getLast?, h[mt]? with
  | some i,some (.map l)=>(l.length=n∧i < n)∧K (.tup [(l.getD i (.any,.any)).1,(l.getD i (.any,.any)).2]) h
  | _,_=>False)
 | _=>False
def enL (n:Nat) (i:Option Nat) (o:Option AObj) (h:List AObj) (K:AV→List AObj→Prop) (_:Tag K):Prop :=
 match i,o with
 | some i,some (.map l)=>(l.length=n∧i < n)∧K (.tup [(l.getD i (.any,.any)).1,(l.getD i (.any,.any)).2]) h
 | _,_=>False
@[go_sem ↓] theorem aop_entry (x:Operand):aop P (.entry x) ev h K=enT (ev x) h K ⟨⟩:=nrfl rfl
@[go_sem] theorem enT_it (t:Nat) (tg:Tag K):enT (.it t) h K tg=enM h[t]? h K ⟨⟩:=by
 unfold enT enK enM
 rfl
@[go_sem] theorem enM_mit (mt n:Nat) (seen:List Nat) (tg:Tag K):enM (some (.mit (some mt) n seen)) h K tg=enL n seen.getLast? h[mt]? h K ⟨⟩:=nrfl rfl
@[go_sem] theorem enL_map (n i:Nat) (l:List (AV × AV)) (tg:Tag K):enL n (some i) (some (.map l)) h K tg=((l.length=n∧i < n)∧K (.tup [(l.getD i (.any,.any)).1,(l.getD i (.any,.any)).2]) h):=nrfl rfl
def nxE (t:Nat) (o:Option AObj) (h:List AObj) (K:AV→List AObj→Prop) (_:Tag K):Prop :=
 match o with
 | some (.it s pos)=>(pos < s.length→K (.tup [.bool true,.int .i64 pos,.int .i32 (dcA s pos).1]) (h.set t (.it s (pos+(dcA s pos).2))))∧(s.length≤pos→K (.tup [.bool false]) h)
 | _=>False
def nxG (t:Nat) (s:List UInt8) (pos:Nat) (h:List AObj) (K:AV→List AObj→Prop) (_:Tag K):Prop :=
 (pos < s.length→K (.tup [.bool true,.int .i64 pos,.int .i32 (dcA s pos).1]) (h.set t (.it s (pos+(dcA s pos).2))))∧(s.length≤pos→K (.tup [.bool false]) h)
theorem nxG_intro {t:Nat} {s:List UInt8} {pos:Nat} {h:List AObj} {K:AV→List AObj→Prop} {tg:Tag K} (h1:pos < s.length→K (.tup [.bool true,.int .i64 pos,.int .i32 (dcA s pos).1]) (h.set t (.it s (pos+(dcA s pos).2)))) (h2:s.length≤pos→K (.tup [.bool false]) h):nxG t s pos h K tg:=⟨h1,h2⟩
@[go_sem] theorem nxT_it (t:Nat) (tg:Tag K):nxT (.it t) true h K tg=nxE t h[t]? h K ⟨⟩:=by
 unfold nxT nxK nxE
 cases hq:h[t]? with
 | none=>simp [hq]
 | some o=>cases o <;> simp [hq]
@[go_sem] theorem nxE_it (t:Nat) (s:List UInt8) (pos:Nat) (tg:Tag K):nxE t (some (.it s pos)) h K tg=nxG t s pos h K ⟨⟩:=nrfl rfl
@[go_sem ↓] theorem aop_eqnil (t yt:TypeId) (x:Operand):aop P (.binOp .eql t x (.const (.slice none 0 0)) yt) ev h K=nqT P .eql t (ev x) h K ⟨⟩:=nrfl rfl
@[go_sem ↓] theorem aop_append (A X:Operand) (ts:Array TypeId):aop P (.call ⟨.builtin .append,⟨[A,X]⟩,ts⟩) ev h K=apKT P ts (ev A) (ev X) h K ⟨⟩:=nrfl rfl
@[go_sem ↓] theorem aop_call (f:Operand) (as:List Operand) (ts:Array TypeId):aop P (.call ⟨.value f,⟨as⟩,ts⟩) ev h K=clT P (ev f) (as.map ev) h K ⟨⟩:=nrfl rfl
@[go_sem] theorem bxT_eq (x:AV) (t:Tag K):bxT x h K t=(x.sure=true∧K (.ref h.length 0 x.cells.length 0 0) (h++[.arr 0 x.cells.length [x]])):=nrfl rfl
def isRg:Nat→List Nat→Nat→Bool
 | k,[],n=>k==n
 | k,x::l,n=>x==k && isRg (k+1) l n
theorem isRg_iff (n:Nat):∀ (l:List Nat) (k:Nat),k≤n→(isRg k l n=true↔l=(List.range' k (n - k)))
 | [],k,hk=>by
  simp only [isRg,beq_iff_eq]
  constructor
  ·rintro rfl; simp
  ·intro h
   have:n - k=0:=by cases hn:n - k with | zero=>rfl | succ m=>rw [hn,List.range'_succ] at h; cases h
   omega
 | x::l,k,hk=>by
  simp only [isRg,Bool.and_eq_true,beq_iff_eq]
  by_cases hkn:k=n
  ·subst hkn
   simp only [Nat.sub_self,List.range'_zero,reduceCtorEq,iff_false,not_and]
   intro _ h
   have:∀ (l:List Nat) (k n:Nat),n < k→isRg k l n=false:=by
    intro l; induction l with
    | nil=>intro k n h; simp [isRg]; omega
    | cons x l ih=>intro k n h; simp [isRg,ih (k+1) n (by omega)]
   rw [this l (k+1) k (by omega)] at h; cases h
  ·have hn:n - k=(n - (k+1))+1:=by omega
   rw [hn,List.range'_succ,isRg_iff n l (k+1) (by omega)]
   simp
theorem isRg_eq (l:List Nat) (n:Nat):(l=List.range n)=(isRg 0 l n=true):=by
 rw [isRg_iff n l 0 (by omega),List.range_eq_range']; simp
@[go_sem] theorem isRg_nil (k n:Nat):isRg k [] n=(k==n):=nrfl rfl
@[go_sem] theorem isRg_cons (k x n:Nat) (l:List Nat):isRg k (x::l) n=(x==k && isRg (k+1) l n):=nrfl rfl
def bsE (ei:Option (TypeId × Nat × Nat)) (n:Nat) (parts:List (Nat × AV)) (h:List AObj) (K:AV→List AObj→Prop) (_:Tag K):Prop :=
 match ei with
 | some (e,s,by_)=>(n * s≤16777216∧parts.map (·.1)=List.range n∧(parts.all fun x=>x.2.sure && x.2.cells.length==s)=true)∧K (.sl h.length 0 s 0 n) (h++[.arr 0 s (parts.map (·.2))])
 | none=>False
@[go_sem ↓] theorem bsK_eq (t n:Nat) (parts:List (Nat × AV)):bsK P t n parts h K=bsE (eI P t) n parts h K ⟨⟩:=nrfl rfl
@[go_sem] theorem bsE_some (e s b n:Nat) (parts:List (Nat × AV)) (tg:Tag K):bsE (some (e,s,b)) n parts h K tg=((n * s≤16777216∧isRg 0 (parts.map (·.1)) n=true∧(parts.all fun x=>x.2.sure && x.2.cells.length==s)=true)∧K (.sl h.length 0 s 0 n) (h++[.arr 0 s (parts.map (·.2))])):=by
 rw [← isRg_eq]; rfl
def stE (ti:Option (Nat × Bool)) (o:Option AObj) (tt g s i j:Nat) (x:AV) (h:List AObj) (K:AV→List AObj→Prop) (_:Tag K):Prop :=
 match ti,o with
 | some (n,ag),some (.arr g' s' l)=>(g=g'∧s=s'∧i < l.length∧x.sure=true∧x.cells.length=n∧0 < n∧j+n≤(l.getD i .any).cells.length∧x.cells.all AV.one=true)∧K (.tup []) (h.set tt (.arr g' s' (l.set i (upA (l.getD i .any) j x))))
 | _,_=>False
@[go_sem] theorem stK_ref (t tt g s i j:Nat) (x:AV) (tg:Tag K):stT P t (.ref tt g s i j) x h K tg=stE (tI P t) h[tt]? tt g s i j x h K ⟨⟩:=by
 unfold stT stK stE
 cases tI P t with
 | none=>rfl
 | some q =>
  cases hq:h[tt]? with
  | none=>simp [hq]
  | some o=>cases o <;> simp [hq]
@[go_sem] theorem stE_some (n:Nat) (ag:Bool) (tt g s i j g' s':Nat) (l:List AV) (x:AV) (tg:Tag K):stE (some (n,ag)) (some (.arr g' s' l)) tt g s i j x h K tg=((g=g'∧s=s'∧i < l.length∧x.sure=true∧x.cells.length=n∧0 < n∧j+n≤(l.getD i .any).cells.length∧x.cells.all AV.one=true)∧K (.tup []) (h.set tt (.arr g' s' (l.set i (upA (l.getD i .any) j x))))):=nrfl rfl
@[go_sem] theorem upA_agg (cs:List AV) (j:Nat) (x:AV):upA (.agg cs) j x=.agg (cs.take j++x.cells++cs.drop (j+x.cells.length)):=nrfl rfl
@[go_sem] theorem upA_int (k:IntKind) (n:Int) (j:Nat) (x:AV):upA (.int k n) j x=x:=nrfl rfl
@[go_sem] theorem upA_fz (c:Bool) (l:List AV) (j:Nat) (x:AV):upA (.fz c l) j x=x:=nrfl rfl
@[go_sem] theorem upA_sl (a b c d e:Nat) (j:Nat) (x:AV):upA (.sl a b c d e) j x=x:=nrfl rfl
@[go_sem] theorem nqK_fz (op:BinOp) (t:Nat) (c:Bool) (l:List AV) (tg:Tag K):nqT P op t (.fz c l) h K tg=((∃ e,tk P t=.sl e)∧∀ b:Bool,(b=true→l=[])→K (.bool (eqB op b)) h):=nrfl rfl
@[go_sem] theorem nqK_sl (op:BinOp) (t a b c d n:Nat) (tg:Tag K):nqT P op t (.sl a b c d n) h K tg=((∃ e,tk P t=.sl e)∧∀ b:Bool,(b=true→n=0)→K (.bool (eqB op b)) h):=nrfl rfl
@[go_sem] theorem eqB_eq (b:Bool):eqB .eql b=b:=nrfl rfl
def ylE (P:Program) (t:Nat) (as:List AV) (o:Option AObj) (h:List AObj) (K:AV→List AObj→Prop) (_:Tag K):Prop :=
 match o with
 | some (.ctl (.loop ps a b env none))=>as.length=ps.size∧ARound P t ps a b env as h K
 | _=>False
def ARoundT (P:Program) (t:Nat) (ps:Array Tmp) (a b:Code) (env as:List AV) (h:List AObj) (K:AV→List AObj→Prop) (_:Tag K):Prop:=ARound P t ps a b env as h K
@[go_sem] theorem clT_yl (t:Nat) (as:List AV) (tg:Tag K):clT P (.yl t) as h K tg=ylE P t as h[t]? h K ⟨⟩:=by
 show ylK P t as h K=_
 unfold ylK ylE
 generalize h[t]? = o
 cases o with
 | none=>rfl
 | some o=>cases o <;> first | rfl | (rename_i c; cases c <;> first | rfl | (rename_i a b c d e; cases e <;> rfl))
@[go_sem] theorem ylE_loop (t:Nat) (as:List AV) (ps:Array Tmp) (a b:Code) (env:List AV) (tg:Tag K):ylE P t as (some (.loop ps a b env none)) h K tg=(as.length=ps.size∧ARoundT P t ps a b env as h K ⟨⟩):=nrfl rfl
def rdT (t:Nat) (ps:Array Tmp) (a b:Code) (env:List AV) (K:AV→List AObj→Prop) (o:Option AObj) (h2:List AObj) (e:Exit) (_:Tag K):Prop :=
 o=some .dead∧match e with
 | .normal=>K (.bool true) (h2.set t (.loop ps a b env none))
 | .ret=>K (.bool false) (h2.set t (.loop ps a b env (some .ret)))
 | .exit i=>K (.bool false) (h2.set t (.loop ps a b env (some (.exit i))))
 | .goto i=>K (.bool false) (h2.set t (.loop ps a b env (some (.goto i))))
 | _=>False
theorem ARoundT.intro {t : Nat} {ps : Array Tmp} {a b a' b' : Code} {env as : List AV} {tg : Tag K} (ha : a = a') (hb : b = b')
  (k:acode P a' (putsA env ps.toList as) (h.set t .dead) fun e env1 h1=>match e with
   | .normal=>acode P b' env1 h1 fun e2 _ h2=>rdT t ps a b env K h2[t]? h2 e2 ⟨⟩
   | _=>False):ARoundT P t ps a b env as h K tg:=by
 have ca:∀ {env h Q},acode P a' env h Q→acode P a env h Q:=fun x=>by rw [ha]; exact x
 have cb:∀ {env h Q},acode P b' env h Q→acode P b env h Q:=fun x=>by rw [hb]; exact x
 refine (acode_ok a _ _ _ (ca k)).mono fun e env1 h1 q=>?_
 cases e with
 | normal=>exact ⟨rfl,(acode_ok b _ _ _ (cb q))⟩
 | _=>exact q.elim
section
variable (t:Nat) (ps:Array Tmp) (a b:Code) (env:List AV) (o:Option AObj) (h2:List AObj) (tg:Tag K)
@[go_sem ↓] theorem rdT_normal:rdT t ps a b env K o h2 .normal tg=(o=some .dead∧K (.bool true) (h2.set t (.loop ps a b env none))):=nrfl rfl
@[go_sem] theorem putsA_cons (p:Nat) (ps:List Nat) (x:AV) (xs:List AV):putsA env (p::ps) (x::xs)=putsA (env.set p x) ps xs:=nrfl rfl
@[go_sem] theorem putsA_nil (xs:List AV):putsA env [] xs=env:=by simp only [putsA]
end
@[go_sem] theorem clK_func (f:Nat) (a c as:List AV) (tg:Tag K):clT P (.func (.func f) a c) as h K tg=(entersB P f=true∧ACallT P f (a++as++c) h K ⟨⟩):=nrfl rfl
def apF (ei:Option (TypeId × Nat × Nat)) (rd:Option (Prop × List AV)) (ty:Bool) (l:List AV) (h:List AObj) (K:AV→List AObj→Prop) (_:Tag K):Prop :=
 match ei,rd with
 | some (e, s, by_), some (p, ys) => (ty = true ∧ p ∧ (l.length + ys.length + 96) * by_ ≤ 140737488355328 ∧ l.length + ys.length ≤ 4611686018427387904 ∧ ys.all (okEl s) = true ∧ (l.all fun y => y.cells.length == s) = true) ∧
   (ys=[]→K (.fz true l) h)∧(ys≠[]→K (.sl h.length 0 s 0 (l.length+ys.length)) (h++[.arr 0 s (l++ys)]))
 | _,_=>False
def apO (ei:Option (TypeId × Nat × Nat)) (rd:Option (Prop × List AV)) (ty:Bool) (o:Option AObj) (t g s' off len:Nat) (h:List AObj) (K:AV→List AObj→Prop) (_:Tag K):Prop :=
 match ei,rd,o with
 | some (e, s, by_), some (p, ys), some (.arr g' s'' l) => (ty = true ∧ p ∧ g = g' ∧ s' = s ∧ s'' = s ∧ off = 0 ∧ len = l.length ∧ (l.length + ys.length + 96) * by_ ≤ 140737488355328 ∧ l.length + ys.length ≤ 4611686018427387904 ∧ ys.all (okEl s) = true) ∧
    K (.sl t (g+1) s 0 (l.length+ys.length)) (h.set t (.arr (g+1) s (l++ys)))
 | _,_,_=>False
def apG (ei:Option (TypeId × Nat × Nat)) (rd:Option (Prop × List AV)) (ty mt:Bool) (l:List AV) (x:AV) (h:List AObj) (K:AV→List AObj→Prop) (_:Tag K):Prop :=
 match rd with
 | some q=>apF ei (some q) ty l h K ⟨⟩
 | none=>match ei,l,x with
  | some (e,s,by_),[],.int _ n=>(mt=true∧0 < n∧(n.toNat+96) * by_≤140737488355328∧n≤4611686018427387904)∧K (.sl h.length 0 s 0 n.toNat) (h++[.arr 0 s []])
  | _,_,_=>False
@[go_sem] theorem apK_fz (t:TypeId) (ts:List TypeId) (l:List AV) (x:AV) (tg:Tag K):apKT P ⟨t::ts⟩ (.fz true l) x h K tg=apG (eI P t) (rdA h x) (apTy P ⟨t::ts⟩) (mkTy P ⟨t::ts⟩) l x h K ⟨⟩:=by
 unfold apKT apK apG apF
 rw [show (⟨t::ts⟩:Array TypeId).getD 0 0=t from rfl]
 generalize eI P t=q1
 generalize rdA h x=q2
 cases q1 <;> cases q2 <;> (try rfl)
 cases l <;> cases x <;> rfl
@[go_sem] theorem apG_some (ei:Option (TypeId × Nat × Nat)) (q:Prop × List AV) (ty mt:Bool) (l:List AV) (x:AV) (tg:Tag K):apG ei (some q) ty mt l x h K tg=apF ei (some q) ty l h K ⟨⟩:=rfl
@[go_sem] theorem apG_none (e s b:Nat) (ty mt:Bool) (k:IntKind) (n:Int) (tg:Tag K):apG (some (e,s,b)) none ty mt [] (.int k n) h K tg=((mt=true∧0 < n∧(n.toNat+96) * b≤140737488355328∧n≤4611686018427387904)∧K (.sl h.length 0 s 0 n.toNat) (h++[.arr 0 s []])):=rfl
@[go_sem] theorem rdA_int (k:IntKind) (n:Int):rdA h (.int k n)=none:=nrfl rfl
def mkT (k:TK):Bool :=
 match k with
 | .int _=>true
 | _=>false
@[go_sem] theorem mkTy_two (t u:TypeId) (l:List TypeId):mkTy P ⟨t::u::l⟩=mkT (tk P u):=by
 unfold mkTy mkT; simp; rfl
@[go_sem] theorem mkT_int (k:IntKind):mkT (.int k)=true:=nrfl rfl
@[go_sem] theorem mkT_sl (e:TypeId):mkT (.sl e)=false:=nrfl rfl
@[go_sem] theorem apK_sl (t0:TypeId) (ts:List TypeId) (t g s' off len:Nat) (x:AV) (tg:Tag K):apKT P ⟨t0::ts⟩ (.sl t g s' off len) x h K tg=apO (eI P t0) (rdA h x) (apTy P ⟨t0::ts⟩) h[t]? t g s' off len h K ⟨⟩:=by
 unfold apKT apK apO
 rw [show (⟨t0::ts⟩:Array TypeId).getD 0 0=t0 from rfl]
 generalize eI P t0=q1
 generalize rdA h x=q2
 cases q1 with
 | none=>cases q2 <;> rfl
 | some q1 =>
  cases q2 with
  | none=>rfl
  | some q2 =>
   simp only
   generalize h[t]? = q3
   cases q3 with
   | none=>rfl
   | some o=>cases o <;> rfl
@[go_sem] theorem apF_some (e s b : Nat) (p : Prop) (ys : List AV) (ty : Bool) (l : List AV) (tg : Tag K) : apF (some (e, s, b)) (some (p, ys)) ty l h K tg = ((ty = true ∧ p ∧ (l.length + ys.length + 96) * b ≤ 140737488355328 ∧ l.length + ys.length ≤ 4611686018427387904 ∧ ys.all (okEl s) = true ∧ (l.all fun y => y.cells.length == s) = true) ∧
   (ys=[]→K (.fz true l) h)∧(ys≠[]→K (.sl h.length 0 s 0 (l.length+ys.length)) (h++[.arr 0 s (l++ys)]))):=rfl
@[go_sem] theorem apO_some (e s b : Nat) (p : Prop) (ys : List AV) (ty : Bool) (t g s' off len g' s'' : Nat) (l : List AV) (tg : Tag K) : apO (some (e, s, b)) (some (p, ys)) ty (some (.arr g' s'' l)) t g s' off len h K tg = ((ty = true ∧ p ∧ g = g' ∧ s' = s ∧ s'' = s ∧ off = 0 ∧ len = l.length ∧ (l.length + ys.length + 96) * b ≤ 140737488355328 ∧ l.length + ys.length ≤ 4611686018427387904 ∧ ys.all (okEl s) = true) ∧
    K (.sl t (g+1) s 0 (l.length+ys.length)) (h.set t (.arr (g+1) s (l++ys)))):=rfl
def rdO (o:Option AObj) (g s off len:Nat):Option (Prop × List AV) :=
 match o with
 | some (.arr g' s' l)=>some (g=g'∧s=s'∧off+len≤l.length,(l.drop off).take len)
 | _=>none
@[go_sem] theorem rdA_fz (c:Bool) (l:List AV):rdA h (.fz c l)=some (True,l):=nrfl rfl
@[go_sem] theorem rdA_sl (t g s off len:Nat):rdA h (.sl t g s off len)=rdO h[t]? g s off len:=by
 unfold rdA rdO; simp only
 cases hq:h[t]? with
 | none=>simp [hq]
 | some o=>cases o <;> simp [hq]
@[go_sem] theorem rdO_some (g s off len g' s':Nat) (l:List AV):rdO (some (.arr g' s' l)) g s off len=some (g=g'∧s=s'∧off+len≤l.length,(l.drop off).take len):=nrfl rfl
def apT (k:TK):Bool :=
 match k with
 | .sl _=>true
 | .str=>true
 | _=>false
@[go_sem] theorem apTy_two (t u:TypeId) (l:List TypeId):apTy P ⟨t::u::l⟩=apT (tk P u):=by
 unfold apTy apT; simp; cases tk P u <;> rfl
@[go_sem] theorem apT_sl (e:Nat):apT (.sl e)=true:=nrfl rfl
@[go_sem] theorem okEl_eq (s:Nat) (y:AV):okEl s y=(y.cells.length==s && y.cells.all AV.one):=nrfl rfl
end
end Go.Proofs.Vale
