/- YtplehleekabbaaaGreatDoorVP: a text of the proof of this claim, by its prover. -/
import Derived.Test.YtplehleekabbaaaGreatDoorVO
set_option linter.unusedVariables false
set_option linter.unusedSimpArgs false
namespace Go.Proofs.Vale
universe u
theorem nrfl {α:Sort u} {a b:α} (h:a=b):a=b:=h
structure Tag {α:Sort u} (a:α):Type where mk ::
def acondT (c:AV) (A B:Prop) (_:Tag A) (_:Tag B):Prop:=acond c A B
def ALoopT (P:Program) (c:Code) (Q:Post) (_:Tag c) (_:Tag Q) (env:List AV) (h:List AObj):Prop:=ALoop P c Q env h
def ADrawT (P:Program) (ops:Array Oper) (K:List AV→List AObj→Prop) (_:Tag ops) (_:Tag K) (env:List AV) (h:List AObj):Prop:=ADraw P ops K env h
def ACallT (P:Program) (f:FuncId) (as:List AV) (h:List AObj) (K:AV→List AObj→Prop) (_:Tag K):Prop:=ACall P f as h K
theorem ACallT.by {P:Program} {f:FuncId} {as:List AV} {h:List AObj} {K K':AV→List AObj→Prop} {t:Tag K} (a:ACall P f as h K') (k:∀ x h',K' x h'→K x h'):ACallT P f as h K t:=ACall.mono a k
def doP (r:PV) (A:Prop) (K:AV→Prop) (_:Tag A) (_:Tag K):Prop :=
 match r with
 | some (p,x)=>p∧K x
 | none=>A
def doG (gd:Bool) (r:PV) (A B:Prop) (K:AV→Prop) (_:Tag A) (_:Tag B) (_:Tag K):Prop :=
 match r with
 | some (p,x)=>(gd=true→p)∧K (.opt gd x)
 | none=>(gd=true→A)∧(gd=false→B)
def doGd (g:Option Bool) (K:Bool→Prop) (_:Tag K):Prop :=
 match g with
 | some b=>K b
 | none=>False
@[go_sem] theorem doP_some (p:Prop) (x:AV) (A:Prop) (K:AV→Prop) (s:Tag A) (t:Tag K):doP (some (p,x)) A K s t=(p∧K x):=nrfl rfl
@[go_sem] theorem doP_none (A:Prop) (K:AV→Prop) (s:Tag A) (t:Tag K):doP none A K s t=A:=nrfl rfl
@[go_sem] theorem doG_some (gd:Bool) (p:Prop) (x:AV) (A B:Prop) (K:AV→Prop) (r:Tag A) (s:Tag B) (t:Tag K):doG gd (some (p,x)) A B K r s t=((gd=true→p)∧K (.opt gd x)):=nrfl rfl
def doGn (gd:Bool) (A B:Prop) (_:Tag A) (_:Tag B):Prop:=(gd=true→A)∧(gd=false→B)
@[go_sem] theorem doG_none (gd:Bool) (A B:Prop) (K:AV→Prop) (r:Tag A) (s:Tag B) (t:Tag K):doG gd none A B K r s t=doGn gd A B r s:=nrfl rfl
@[go_sem] theorem doGn_true (A B:Prop) (r:Tag A) (s:Tag B):doGn true A B r s=A:=by simp [doGn]
@[go_sem] theorem doGn_false (A B:Prop) (r:Tag A) (s:Tag B):doGn false A B r s=B:=by simp [doGn]
@[go_sem] theorem doGd_some (b:Bool) (K:Bool→Prop) (t:Tag K):doGd (some b) K t=K b:=nrfl rfl
@[go_sem ↓] theorem aopsL_nil (P:Program) (ds:List (Option Nat)) (env:List AV) (h:List AObj) (K:List AV→List AObj→Prop):aopsL P ds [] env h K=K env h:=nrfl rfl
def aopsT (P:Program) (ds:List (Option Nat)) (os:List Oper) (env:List AV) (h:List AObj) (K:List AV→List AObj→Prop) (_:Tag ds) (_:Tag os) (_:Tag K):Prop:=aopsL P ds os env h K
@[go_sem ↓] theorem aopsL_cons (P:Program) (ds:List (Option Nat)) (o:Oper) (os:List Oper) (env:List AV) (h:List AObj) (K:List AV→List AObj→Prop):aopsL P ds (o::os) env h K=aopsT P ds (o::os) env h K ⟨⟩ ⟨⟩ ⟨⟩:=nrfl rfl
@[go_sem] theorem aopsT_plain (P : Program) (ds : List (Option Nat)) (dst : Option Nat) (op : Op) (ty : TypeId) (pos : String) (after : Array Edge) (os : List Oper) (env : List AV) (h : List AObj) (K : List AV → List AObj → Prop) :
  ∀ t1 t2 t3,aopsT P ds (⟨dst,op,ty,pos,after,none⟩::os) env h K t1 t2 t3=doP (pop P op (evA env) h) (aop P op (evA env) h fun x h'=>aopsL P (dst::ds) os (putA env dst x) h' K) (fun x=>aopsL P (dst::ds) os (putA env dst x) h K) ⟨⟩ ⟨⟩:=by
 intro _ _ _
 unfold aopsT
 rw [aopsL]; rfl
@[go_sem] theorem aopsT_guard (P : Program) (ds : List (Option Nat)) (dst : Option Nat) (op : Op) (ty : TypeId) (pos : String) (after : Array Edge) (j : Nat) (want : Bool) (os : List Oper) (env : List AV) (h : List AObj) (K : List AV → List AObj → Prop) :
  ∀ t1 t2 t3,aopsT P ds (⟨dst,op,ty,pos,after,some (j,want)⟩::os) env h K t1 t2 t3=doGd (gdA (gv env ds j) want) (fun gd =>
   doG gd (popG P op (evA env) h) (aop P op (fun y=>(evA env y).stripT) h fun x h'=>aopsL P (dst::ds) os (putA env dst x) h' K) (aopsL P (dst::ds) os (putA env dst (.tup [])) h K) (fun x=>aopsL P (dst::ds) os (putA env dst x) h K) ⟨⟩ ⟨⟩ ⟨⟩) ⟨⟩:=by
 intro _ _ _
 unfold aopsT
 rw [aopsL]
 simp only
 cases gdA (gv env ds j) want with
 | none=>rfl
 | some gd =>
  simp only [doGd]
  cases popG P op (evA env) h with
  | none=>rfl
  | some q=>rfl
theorem acond_true (A B:Prop) (s:Tag A) (t:Tag B):acondT (.bool true) A B s t=A:=by simp [acondT,acond]
theorem acond_false (A B:Prop) (s:Tag A) (t:Tag B):acondT (.bool false) A B s t=B:=by simp [acondT,acond]
theorem acond_intro {b:Bool} {A B:Prop} {s:Tag A} {t:Tag B} (h1:b=true→A) (h2:b=false→B):acondT (.bool b) A B s t:=⟨h1,h2⟩
def finRT (r:PV) (n:Nat) (h:List AObj) (K:AV→List AObj→Prop) (_:Tag K):Prop:=finR r n h K
@[go_sem ↓] theorem AFin_ret (P:Program) (rs:List ResultVar) (n:Nat) (K:AV→List AObj→Prop) (env:List AV) (h:List AObj):AFin P rs n K .ret env h=finRT (resA P rs env h) n h K ⟨⟩:=nrfl rfl
@[go_sem ↓] theorem AFin_normal (P:Program) (rs:List ResultVar) (n:Nat) (K:AV→List AObj→Prop) (env:List AV) (h:List AObj):AFin P rs n K .normal env h=finRT (resA P rs env h) n h K ⟨⟩:=nrfl rfl
def rfT (P:Program) (x:AV) (ps:Array Tmp) (as bd:Code) (env:List AV) (h:List AObj) (Q:Post) (_:Tag as) (_:Tag bd) (_:Tag Q):Prop:=rfK P x ps as bd env h Q
def rfC (P:Program) (f:FuncId) (first cap:List AV) (ps:Array Tmp) (as bd:Code) (env:List AV) (h:List AObj) (Q:Post) (_:Tag as) (_:Tag bd) (_:Tag Q):Prop :=
 ACall P f (first++[.yl h.length]++cap) (h++[.loop ps as bd env none]) fun _ h'=>rfEnd h.length env Q h'
@[go_sem] theorem rfT_func (P : Program) (f : FuncId) (first cap : List AV) (ps : Array Tmp) (as bd : Code) (env : List AV) (h : List AObj) (Q : Post) (s : Tag as) (t : Tag bd) (u : Tag Q) :
  rfT P (.func (.func f) first cap) ps as bd env h Q s t u=(entersB P f=true∧rfC P f first cap ps as bd env h Q ⟨⟩ ⟨⟩ ⟨⟩):=nrfl rfl
def rfET (t:Nat) (env:List AV) (Q:Post) (o:Option AObj) (h':List AObj) (_:Tag Q):Prop :=
 match o with
 | some (.ctl (.loop _ _ _ _ none))=>Q .normal env (h'.set t .dead)
 | some (.ctl (.loop _ _ _ _ (some .ret)))=>Q .ret env (h'.set t .dead)
 | some (.ctl (.loop _ _ _ _ (some (.exit i))))=>Q (.exit i) env (h'.set t .dead)
 | some (.ctl (.loop _ _ _ _ (some (.goto i))))=>Q (.goto i) env (h'.set t .dead)
 | _=>False
theorem rfEnd_of {t:Nat} {env:List AV} {Q:Post} {h':List AObj} (k:rfET t env Q h'[t]? h' ⟨⟩):rfEnd t env Q h':=k
section
variable (t:Nat) (env:List AV) (Q:Post) (h':List AObj) (u:Tag Q) (ps:Array Tmp) (as bd:Code) (env':List AV)
@[go_sem ↓] theorem rfET_none:rfET t env Q (some (.loop ps as bd env' none)) h' u=Q .normal env (h'.set t .dead):=nrfl rfl
end
theorem rfC.intro {P : Program} {f : FuncId} {first cap : List AV} {ps : Array Tmp} {as bd : Code} {env : List AV} {h : List AObj} {Q : Post} {s : Tag as} {t : Tag bd} {u : Tag Q}
  (k:∀ as' bd':Code,as'=as→bd'=bd→ACallT P f (first++[.yl h.length]++cap) (h++[.loop ps as' bd' env none]) (fun _ h'=>rfEnd h.length env Q h') ⟨⟩):rfC P f first cap ps as bd env h Q s t u:=k _ _ rfl rfl
section
variable (P:Program) (ev:Operand→AV) (h:List AObj) (env:List AV) (Q:Post)
@[go_sem ↓] theorem acode_skip:acode P .skip env h Q=Q .normal env h:=nrfl rfl
@[go_sem ↓] theorem acode_region (id:Nat) (ops:List Oper):acode P (.region id ⟨ops⟩ false) env h Q=aopsL P [] ops env h (Q .normal):=nrfl rfl
@[go_sem ↓] theorem acode_draw (id:Nat) (ops:Array Oper):acode P (.region id ops true) env h Q=ADrawT P ops (Q .normal) ⟨⟩ ⟨⟩ env h:=nrfl rfl
@[go_sem ↓] theorem acode_seq (a b:Code):acode P (.seq a b) env h Q=acode P a env h fun e env h=>match e with | .normal=>acode P b env h Q | e=>Q e env h:=nrfl rfl
@[go_sem ↓] theorem acode_cond (c:Operand) (a b:Code):acode P (.cond c a b) env h Q=acondT (evA env c) (acode P a env h Q) (acode P b env h Q) ⟨⟩ ⟨⟩:=nrfl rfl
@[go_sem ↓] theorem acode_block (id:Nat) (c:Code):acode P (.block id c) env h Q=acode P c env h fun e env h=>match e with | .exit i=>if i=id then Q .normal env h else Q (.exit i) env h | e=>Q e env h:=nrfl rfl
@[go_sem ↓] theorem acode_loop (c:Code):acode P (.loop c) env h Q=ALoopT P c Q ⟨⟩ ⟨⟩ env h:=nrfl rfl
@[go_sem ↓] theorem acode_range (g:Operand) (ps:List Tmp) (as bd:Code):acode P (.rangeFunc g ⟨ps⟩ as bd) env h Q=rfT P (evA env g) ⟨ps⟩ as bd env h Q ⟨⟩ ⟨⟩ ⟨⟩:=nrfl rfl
@[go_sem ↓] theorem acode_exit (id:Nat):acode P (.exit id) env h Q=Q (.exit id) env h:=nrfl rfl
@[go_sem ↓] theorem acode_ret:acode P .ret env h Q=Q .ret env h:=nrfl rfl
@[go_sem ↓] theorem acode_scope (c:Code):acode P (.scope c) env h Q=acode P c env h fun e env h=>match e with | .goto _=>False | e=>Q e env h:=nrfl rfl
@[go_sem] theorem evA_tmp (t:Nat):evA env (.tmp t)=env.getD t .any:=nrfl rfl
@[go_sem] theorem evA_const (v:Value):evA env (.const v)=ofVal v:=nrfl rfl
@[go_sem] theorem evA_func (f:FuncId):evA env (.func f)=.func (.func f) [] []:=nrfl rfl
@[go_sem] theorem ofVal_int (k:IntKind) (n:Int):ofVal (.int k n)=.int k n:=nrfl rfl
@[go_sem] theorem ofVal_bool (b:Bool):ofVal (.bool b)=.bool b:=nrfl rfl
@[go_sem] theorem ofVal_string (l:List UInt8):ofVal (.string ⟨⟨l⟩⟩)=.str l:=nrfl rfl
@[go_sem] theorem ofVal_nilp:ofVal (.pointer none)=.nilp:=nrfl rfl
@[go_sem] theorem ofVal_nils:ofVal (.slice none 0 0)=.fz true []:=nrfl rfl
@[go_sem] theorem ofVal_nilf:ofVal .nilFunc=.nilf:=nrfl rfl
@[go_sem] theorem putA_some (d:Nat) (x:AV):putA env (some d) x=env.set d x:=nrfl rfl
@[go_sem] theorem putA_none (x:AV):putA env none x=env:=nrfl rfl
@[go_sem] theorem pop_move (x:Operand):pop P (.move x) ev h=some (True,ev x):=nrfl rfl
@[go_sem] theorem pop_assign (x:Operand):pop P (.assign x) ev h=some (True,ev x):=nrfl rfl
@[go_sem] theorem pop_pick (c a b:Operand):pop P (.pick c a b) ev h=pkA (ev c) (ev a) (ev b):=nrfl rfl
@[go_sem] theorem pop_load (t:TypeId) (x:Operand):pop P (.load t x) ev h=ldA P t h (ev x):=nrfl rfl
@[go_sem] theorem pop_nilCheck (x:Operand):pop P (.nilCheck x) ev h=ncA (ev x):=nrfl rfl
@[go_sem] theorem pop_binOp (op:BinOp) (t yt:TypeId) (x y:Operand):pop P (.binOp op t x y yt) ev h=orP (bin op (ev x) (ev y)) (eqR op (eqo P t (ev x) (ev y))):=nrfl rfl
@[go_sem] theorem pop_unOp (op:UnOp) (t:TypeId) (x:Operand):pop P (.unOp op t x) ev h=unA op (ev x):=nrfl rfl
@[go_sem] theorem pop_convert (s d:TypeId) (x:Operand):pop P (.convert s d x) ev h=cvA P s d h (ev x):=nrfl rfl
@[go_sem] theorem pop_makeFunc (fn:Fn) (f c:List Operand):pop P (.makeFunc fn ⟨f⟩ ⟨c⟩) ev h=mfA fn (f.map ev) (c.map ev):=nrfl rfl
@[go_sem] theorem pop_slice (t:TypeId) (x:Operand) (lo hi mx:Option Operand):pop P (.slice t x lo hi mx) ev h=slA P t (ev x) (lo.map ev) (hi.map ev) (mx.map ev):=nrfl rfl
@[go_sem] theorem pop_fieldAddr (s f:Nat) (x:Operand):pop P (.fieldAddr s x f) ev h=faA P s f (ev x):=nrfl rfl
@[go_sem] theorem pop_makeMap (t:TypeId) (r:Option Operand):pop P (.makeMap t r) ev h=none:=nrfl rfl
@[go_sem] theorem pop_lookup (t:TypeId) (x k:Operand) (ok:Bool):pop P (.lookup t x k ok) ev h=none:=nrfl rfl
@[go_sem] theorem pop_mapUpdate (t:TypeId) (m k v:Operand):pop P (.mapUpdate t m k v) ev h=none:=nrfl rfl
@[go_sem] theorem pop_indexAddr (t:TypeId) (x i:Operand):pop P (.indexAddr t x i) ev h=ixA P t (ev x) (ev i):=nrfl rfl
@[go_sem] theorem pop_index (t:TypeId) (x i:Operand):pop P (.index t x i) ev h=inA P t (ev x) (ev i):=nrfl rfl
@[go_sem] theorem pop_extract (x:Operand) (i:Nat):pop P (.extract x i) ev h=exA (ev x) i:=nrfl rfl
@[go_sem] theorem pop_build (t:TypeId) (ps:List (Nat × Operand)):pop P (.build t ⟨ps⟩) ev h=buA P t (ps.map fun x=>(x.1,ev x.2)):=nrfl rfl
@[go_sem] theorem pop_blt (b:Builtin) (t:TypeId) (ts:List TypeId) (as:List Operand):pop P (.call ⟨.builtin b,⟨as⟩,⟨t::ts⟩⟩) ev h=bltA P b ⟨t::ts⟩ (as.map ev):=nrfl rfl
@[go_sem] theorem pop_call (f:Operand) (as:Array Operand) (ts:Array TypeId):pop P (.call ⟨.value f,as,ts⟩) ev h=none:=nrfl rfl
@[go_sem] theorem pop_range (t:TypeId) (x:Operand):pop P (.range t x) ev h=none:=nrfl rfl
@[go_sem] theorem pop_next (x:Operand) (b:Bool):pop P (.next x b) ev h=none:=nrfl rfl
@[go_sem] theorem pop_alloc (t:TypeId):pop P (.alloc t) ev h=none:=nrfl rfl
@[go_sem] theorem pop_box (t:TypeId) (x:Operand):pop P (.box t x) ev h=none:=nrfl rfl
@[go_sem] theorem pop_buildSlice (t n:Nat) (ps:Array (Nat × Operand)):pop P (.buildSlice t n ps) ev h=none:=nrfl rfl
@[go_sem] theorem pop_store (t:TypeId) (a x:Operand):pop P (.store t a x) ev h=none:=nrfl rfl
theorem popG_pick (c a b:Operand):popG P (.pick c a b) ev h=addP (ev c).okS (pkA (ev c).strip (ev a) (ev b)):=rfl
theorem popG_other (op:Op) (hn:∀ c a b,op≠.pick c a b):popG P op ev h=addP (andL (op.operands.toList.map fun x=>(ev x).okS)) (pop P op (fun x=>(ev x).strip) h):=by
 cases op <;> first | rfl | exact absurd rfl (hn _ _ _)
end
attribute [go_sem] popG_pick
section
variable (P:Program) (ev:Operand→AV) (h:List AObj)
@[go_sem] theorem popG_move (x:Operand):popG P (.move x) ev h=some ((ev x).okS∧True∧True,(ev x).strip):=by simp [popG,addP,andL,Op.operands,pop]
@[go_sem] theorem popG_load (t:TypeId) (x:Operand):popG P (.load t x) ev h=addP ((ev x).okS∧True) (ldA P t h (ev x).strip):=nrfl rfl
@[go_sem] theorem popG_binOp (op:BinOp) (t yt:TypeId) (x y:Operand):popG P (.binOp op t x y yt) ev h=addP ((ev x).okS∧(ev y).okS∧True) (orP (bin op (ev x).strip (ev y).strip) (eqR op (eqo P t (ev x).strip (ev y).strip))):=nrfl rfl
@[go_sem] theorem popG_unOp (op:UnOp) (t:TypeId) (x:Operand):popG P (.unOp op t x) ev h=addP ((ev x).okS∧True) (unA op (ev x).strip):=nrfl rfl
@[go_sem] theorem popG_fieldAddr (s f:Nat) (x:Operand):popG P (.fieldAddr s x f) ev h=addP ((ev x).okS∧True) (faA P s f (ev x).strip):=nrfl rfl
@[go_sem] theorem popG_indexAddr (t:TypeId) (x i:Operand):popG P (.indexAddr t x i) ev h=addP ((ev x).okS∧(ev i).okS∧True) (ixA P t (ev x).strip (ev i).strip):=nrfl rfl
@[go_sem] theorem popG_call (f:Operand) (as:Array Operand) (ts:Array TypeId):popG P (.call ⟨.value f,as,ts⟩) ev h=none:=nrfl rfl
@[go_sem] theorem popG_blt1 (b:Builtin) (t:TypeId) (ts:List TypeId) (a:Operand):popG P (.call ⟨.builtin b,⟨[a]⟩,⟨t::ts⟩⟩) ev h=addP ((ev a).okS∧True) (bltA P b ⟨t::ts⟩ [(ev a).strip]):=nrfl rfl
attribute [go_sem] Option.toList_some Option.toList_none
@[go_sem] theorem addP_some (q p:Prop) (r:AV):addP q (some (p,r))=some (q∧p,r):=nrfl rfl
@[go_sem] theorem addP_none (q:Prop):addP q none=none:=nrfl rfl
@[go_sem] theorem orP_some (r:Prop × AV) (b:PV):orP (some r) b=some r:=nrfl rfl
@[go_sem] theorem orP_none (b:PV):orP none b=b:=nrfl rfl
end
@[go_sem] theorem strip_int (k:IntKind) (n:Int):AV.strip (.int k n)=(.int k n):=nrfl rfl
@[go_sem] theorem okS_int (k:IntKind) (n:Int):AV.okS (.int k n)=True:=nrfl rfl
@[go_sem] theorem sure_int (k:IntKind) (n:Int):AV.sure (.int k n)=true:=nrfl rfl
@[go_sem] theorem one_int (k:IntKind) (n:Int):AV.one (.int k n)=true:=nrfl rfl
@[go_sem] theorem leaf_int (k:IntKind) (n:Int):leaf (.int k n)=true:=nrfl rfl
@[go_sem] theorem cells_int (k:IntKind) (n:Int):AV.cells (.int k n)=[(.int k n)]:=nrfl rfl
@[go_sem] theorem strip_bool (b:Bool):AV.strip (.bool b)=(.bool b):=nrfl rfl
@[go_sem] theorem okS_bool (b:Bool):AV.okS (.bool b)=True:=nrfl rfl
@[go_sem] theorem strip_str (s:List UInt8):AV.strip (.str s)=(.str s):=nrfl rfl
@[go_sem] theorem okS_str (s:List UInt8):AV.okS (.str s)=True:=nrfl rfl
@[go_sem] theorem sure_str (s:List UInt8):AV.sure (.str s)=true:=nrfl rfl
@[go_sem] theorem one_str (s:List UInt8):AV.one (.str s)=true:=nrfl rfl
@[go_sem] theorem cells_str (s:List UInt8):AV.cells (.str s)=[(.str s)]:=nrfl rfl
@[go_sem] theorem strip_nilp  : AV.strip .nilp=.nilp:=nrfl rfl
@[go_sem] theorem okS_nilp  : AV.okS .nilp=True:=nrfl rfl
@[go_sem] theorem strip_fz (c:Bool) (l:List AV):AV.strip (.fz c l)=(.fz c l):=nrfl rfl
@[go_sem] theorem okS_fz (c:Bool) (l:List AV):AV.okS (.fz c l)=True:=nrfl rfl
@[go_sem] theorem sure_fz (c:Bool) (l:List AV):AV.sure (.fz c l)=true:=nrfl rfl
@[go_sem] theorem one_fz (c:Bool) (l:List AV):AV.one (.fz c l)=true:=nrfl rfl
@[go_sem] theorem leaf_fz (c:Bool) (l:List AV):leaf (.fz c l)=true:=nrfl rfl
@[go_sem] theorem cells_fz (c:Bool) (l:List AV):AV.cells (.fz c l)=[(.fz c l)]:=nrfl rfl
@[go_sem] theorem strip_ref (t g s i j:Nat):AV.strip (.ref t g s i j)=(.ref t g s i j):=nrfl rfl
@[go_sem] theorem okS_ref (t g s i j:Nat):AV.okS (.ref t g s i j)=True:=nrfl rfl
@[go_sem] theorem strip_sl (t g s o n:Nat):AV.strip (.sl t g s o n)=(.sl t g s o n):=nrfl rfl
@[go_sem] theorem okS_sl (t g s o n:Nat):AV.okS (.sl t g s o n)=True:=nrfl rfl
@[go_sem] theorem sure_sl (t g s o n:Nat):AV.sure (.sl t g s o n)=true:=nrfl rfl
@[go_sem] theorem one_sl (t g s o n:Nat):AV.one (.sl t g s o n)=true:=nrfl rfl
@[go_sem] theorem cells_sl (t g s o n:Nat):AV.cells (.sl t g s o n)=[(.sl t g s o n)]:=nrfl rfl
@[go_sem] theorem sure_agg (cs:List AV):AV.sure (.agg cs)=true:=nrfl rfl
@[go_sem] theorem strip_tup (cs:List AV):AV.strip (.tup cs)=(.tup cs):=nrfl rfl
@[go_sem] theorem okS_tup (cs:List AV):AV.okS (.tup cs)=True:=nrfl rfl
@[go_sem] theorem strip_func (fn:Fn) (f c:List AV):AV.strip (.func fn f c)=(.func fn f c):=nrfl rfl
@[go_sem] theorem okS_func (fn:Fn) (f c:List AV):AV.okS (.func fn f c)=True:=nrfl rfl
@[go_sem] theorem sure_mp (t:Nat):AV.sure (.mp t)=true:=nrfl rfl
@[go_sem] theorem cells_mp (t:Nat):AV.cells (.mp t)=[(.mp t)]:=nrfl rfl
@[go_sem] theorem strip_opt (b:Bool) (x:AV):AV.strip (.opt b x)=x:=nrfl rfl
@[go_sem] theorem stripT_str (s:List UInt8):AV.stripT (.str s)=(.str s):=nrfl rfl
@[go_sem] theorem stripT_fz (c:Bool) (l:List AV):AV.stripT (.fz c l)=(.fz c l):=nrfl rfl
@[go_sem] theorem stripT_func (fn:Fn) (f c:List AV):AV.stripT (.func fn f c)=(.func fn f c):=nrfl rfl
@[go_sem] theorem stripT_opt (x:AV):AV.stripT (.opt true x)=x:=nrfl rfl
@[go_sem] theorem okS_opt (b:Bool) (x:AV):AV.okS (.opt b x)=(b=true):=nrfl rfl
attribute [go_sem] AV.cells_agg
@[go_sem] theorem gdA_bool (g want:Bool):gdA (.bool g) want=some (g==want):=nrfl rfl
@[go_sem] theorem gdA_opt (b g want:Bool):gdA (.opt b (.bool g)) want=some (b && (g==want)):=nrfl rfl
section
variable (k k':IntKind) (a b:Int) (s t:List UInt8)
@[go_sem] theorem bin_add:bin .add (.int k a) (.int k' b)=some (k=k',.int k (k.wrap (a+b))):=nrfl rfl
@[go_sem] theorem bin_sub:bin .sub (.int k a) (.int k' b)=some (k=k',.int k (k.wrap (a - b))):=nrfl rfl
@[go_sem] theorem bin_mul:bin .mul (.int k a) (.int k' b)=some (k=k',.int k (k.wrap (a * b))):=nrfl rfl
@[go_sem] theorem bin_and:bin .and (.int k a) (.int k' b)=some (k=k',.int k (intBitsA .and k a b)):=nrfl rfl
@[go_sem] theorem bin_xor:bin .xor (.int k a) (.int k' b)=some (k=k',.int k (intBitsA .xor k a b)):=nrfl rfl
@[go_sem] theorem bin_eql:bin .eql (.int k a) (.int k' b)=some (k=k',.bool (a==b)):=nrfl rfl
@[go_sem] theorem bin_neq:bin .neq (.int k a) (.int k' b)=some (k=k',.bool (a != b)):=nrfl rfl
@[go_sem] theorem bin_lss:bin .lss (.int k a) (.int k' b)=some (k=k',.bool (decide (a < b))):=nrfl rfl
@[go_sem] theorem bin_leq:bin .leq (.int k a) (.int k' b)=some (k=k',.bool (decide (a≤b))):=nrfl rfl
@[go_sem] theorem bin_gtr:bin .gtr (.int k a) (.int k' b)=some (k=k',.bool (decide (b < a))):=nrfl rfl
@[go_sem] theorem bin_geq:bin .geq (.int k a) (.int k' b)=some (k=k',.bool (decide (b≤a))):=nrfl rfl
@[go_sem] theorem bin_quo:bin .quo (.int k a) (.int k' b)=some (k=k'∧b≠0,.int k (k.wrap (a.tdiv b))):=nrfl rfl
@[go_sem] theorem bin_rem:bin .rem (.int k a) (.int k' b)=some (k=k'∧b≠0,.int k (a.tmod b)):=nrfl rfl
@[go_sem] theorem bin_shl:bin .shl (.int k a) (.int k' b)=some (0≤b,.int k (k.wrap (a * 2 ^ (min b.toNat k.bits)))):=nrfl rfl
@[go_sem] theorem bin_shr:bin .shr (.int k a) (.int k' b)=some (0≤b,.int k (a.fdiv (2 ^ (min b.toNat k.bits)))):=nrfl rfl
@[go_sem] theorem bin_sadd:bin .add (.str s) (.str t)=some (((s.length+t.length:Nat):Int)≤9223372036854775807,.str (s++t)):=nrfl rfl
@[go_sem] theorem bin_seql:bin .eql (.str s) (.str t)=some (True,.bool (s==t)):=nrfl rfl
@[go_sem] theorem bin_sneq:bin .neq (.str s) (.str t)=some (True,.bool (s != t)):=nrfl rfl
@[go_sem] theorem bin_slss:bin .lss (.str s) (.str t)=some (True,.bool (Op.bytesLess s t)):=nrfl rfl
@[go_sem] theorem bin_sgtr:bin .gtr (.str s) (.str t)=some (True,.bool (Op.bytesLess t s)):=nrfl rfl
@[go_sem] theorem bin_nbool (op:BinOp) (b:Bool) (y:AV):bin op (.bool b) y=none:=by cases y <;> rfl
@[go_sem] theorem bin_nfz (op:BinOp) (c:Bool) (l:List AV) (y:AV):bin op (.fz c l) y=none:=by cases y <;> rfl
@[go_sem] theorem bin_nref (op:BinOp) (t g s i j:Nat) (y:AV):bin op (.ref t g s i j) y=none:=by cases y <;> rfl
@[go_sem] theorem bin_nsl (op:BinOp) (t g s o n:Nat) (y:AV):bin op (.sl t g s o n) y=none:=by cases y <;> rfl
@[go_sem] theorem bin_nagg (op:BinOp) (cs:List AV) (y:AV):bin op (.agg cs) y=none:=by cases y <;> rfl
@[go_sem] theorem bin_ntup (op:BinOp) (cs:List AV) (y:AV):bin op (.tup cs) y=none:=by cases y <;> rfl
end
attribute [go_sem] List.replicate_succ List.replicate_zero List.length_cons List.length_nil Nat.reduceAdd Nat.reduceSub Nat.zero_add List.cons_append List.nil_append List.append_nil List.set_cons_succ List.set_cons_zero
 List.getD_cons_succ List.getD_cons_zero true_and and_true List.reverse_cons List.reverse_nil List.getElem?_cons_succ List.getElem?_cons_zero implies_true imp_self List.map_cons List.map_nil
 List.getElem?_nil List.all_cons List.all_nil List.drop_succ_cons List.drop_zero List.take_succ_cons List.take_zero List.drop_nil List.take_nil beq_self_eq_true Bool.and_true Bool.true_and Bool.and_false Bool.false_and Bool.or_true Bool.true_or Bool.or_false Bool.false_or
 Bool.not_true Bool.not_false if_true if_false and_self Option.map_some Option.map_none Option.isSome_some Option.isSome_none List.append_assoc List.length_append
attribute [go_sem] List.take_length List.drop_length eq_self true_imp_iff forall_const Bool.false_eq_true false_imp_iff Bool.true_eq_false cond_true cond_false
attribute [go_sem] gv beq_true beq_false acond_true acond_false
@[go_sem] theorem resE_tmp (P:Program) (h:List AObj) (env:List AV) (t:Nat):resE P h env (.tmp t)=some (True,env.getD t .any):=nrfl rfl
@[go_sem] theorem resE_cell (P:Program) (h:List AObj) (env:List AV) (a t:Nat):resE P h env (.cell a t)=ldA P t h (env.getD a .any):=nrfl rfl
@[go_sem] theorem resL_nil (P:Program) (h:List AObj) (env:List AV):resL P h env []=some (True,[]):=nrfl rfl
def resC (a:PV) (b:Option (Prop × List AV)):Option (Prop × List AV) :=
 match a,b with
 | some (p,x),some (q,xs)=>some (p∧q,x::xs)
 | _,_=>none
@[go_sem] theorem resL_cons (P:Program) (h:List AObj) (env:List AV) (r:ResultVar) (rs:List ResultVar):resL P h env (r::rs)=resC (resE P h env r) (resL P h env rs):=by
 rw [resL]; unfold resC; cases resE P h env r <;> cases resL P h env rs <;> rfl
@[go_sem] theorem resC_some (p q:Prop) (x:AV) (xs:List AV):resC (some (p,x)) (some (q,xs))=some (p∧q,x::xs):=nrfl rfl
def resF (a:Option (Prop × List AV)):PV :=
 match a with
 | some (p,[x])=>some (p,x)
 | some (p,xs)=>some (p,.tup xs)
 | none=>none
@[go_sem] theorem resA_eq (P:Program) (rs:List ResultVar) (env:List AV) (h:List AObj):resA P rs env h=resF (resL P h env rs):=nrfl rfl
@[go_sem] theorem resF_0 (p:Prop):resF (some (p,[]))=some (p,.tup []):=nrfl rfl
@[go_sem] theorem resF_1 (p:Prop) (x:AV):resF (some (p,[x]))=some (p,x):=nrfl rfl
@[go_sem] theorem resF_2 (p:Prop) (x y:AV) (l:List AV):resF (some (p,x::y::l))=some (p,.tup (x::y::l)):=nrfl rfl
def finT (x:AV) (n:Nat) (h:List AObj) (K:AV→List AObj→Prop) (_:Tag K):Prop:=∃ x2 h2,Close n x h x2 h2∧K x2 h2
@[go_sem] theorem finR_some (p:Prop) (x:AV) (n:Nat) (h:List AObj) (K:AV→List AObj→Prop) (t:Tag K):finRT (some (p,x)) n h K t=(p∧finT x n h K ⟨⟩):=nrfl rfl
theorem Fin_plain {n:Nat} {x:AV} {h:List AObj} {K:AV→List AObj→Prop} {t:Tag K} (k:K x h):finT x n h K t:=⟨_,_,Close.refl _ _ _,k⟩
end Go.Proofs.Vale
