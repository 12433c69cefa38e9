/- YtplehleekabbaaaGreatDoorVRe: a text of the proof of this claim, by its prover. -/
import Derived.Test.YtplehleekabbaaaGreatDoorVRw
set_option linter.unusedVariables false
set_option linter.unusedSimpArgs false
namespace Go.Proofs.Vale
inductive PT where
 | leaf
 | node (l:PT) (v:Option AObj) (r:PT)
 deriving Inhabited
def PT.get:PT→Nat→Option AObj
 | .leaf,_=>none
 | .node l v r,k=>match k with
  | 0=>v
  | k+1=>bif Nat.beq (k % 2) 0 then l.get (k / 2) else r.get (k / 2)
def PT.left:PT→PT
 | .leaf=>.leaf
 | .node l _ _=>l
def PT.right:PT→PT
 | .leaf=>.leaf
 | .node _ _ r=>r
theorem PT.left_node (l:PT) (v:Option AObj) (r:PT):(PT.node l v r).left=l:=rfl
theorem PT.right_node (l:PT) (v:Option AObj) (r:PT):(PT.node l v r).right=r:=rfl
def PT.val:PT→Option AObj
 | .leaf=>none
 | .node _ v _=>v
theorem PT.get_zero (t:PT):t.get 0=t.val:=by cases t <;> rfl
theorem PT.get_succ (t:PT) (k:Nat):t.get (k+1)=bif Nat.beq (k % 2) 0 then t.left.get (k / 2) else t.right.get (k / 2):=by
 cases t with
 | leaf=>simp [PT.get,PT.left,PT.right]
 | node l v r=>rfl
def PT.set (o:AObj):Nat→PT→Nat→PT
 | 0,t,_=>t
 | f+1,t,k=>match k with
  | 0=>.node t.left (some o) t.right
  | k+1=>bif Nat.beq (k % 2) 0 then .node (PT.set o f t.left (k / 2)) t.val t.right else .node t.left t.val (PT.set o f t.right (k / 2))
theorem PT.get_set (o:AObj):∀ (f:Nat) (t:PT) (k j:Nat),k+1 < 2 ^ f→(PT.set o f t k).get j=if j=k then some o else t.get j
 | 0,t,k,j,h=>by simp at h
 | f+1,t,0,j,h=>by
  cases j with
  | zero=>simp [PT.set,PT.get]
  | succ j=>rw [PT.get_succ,PT.get_succ]; simp [PT.set,PT.left,PT.right]
 | f+1,t,k+1,j,h=>by
  have hk:k / 2+1 < 2 ^ f:=by rw [Nat.pow_succ] at h; omega
  cases j with
  | zero =>
   rw [PT.get_zero,PT.get_zero]
   simp only [PT.set]
   cases Nat.beq (k % 2) 0 <;> simp [PT.val]
  | succ j =>
   rw [PT.get_succ,PT.get_succ]
   simp only [PT.set]
   cases hkb:Nat.beq (k % 2) 0 <;> simp only [cond_true,cond_false]
   ·have e1:k % 2≠0:=fun e=>by rw [e] at hkb; cases hkb
    cases hjb:Nat.beq (j % 2) 0 <;> simp only [cond_true,cond_false,PT.left_node,PT.right_node]
    ·rw [PT.get_set o f t.right (k / 2) (j / 2) hk]
     have e2:j % 2≠0:=fun e=>by rw [e] at hjb; cases hjb
     by_cases q:j / 2=k / 2
     ·rw [if_pos q,if_pos (by omega)]
     ·rw [if_neg q,if_neg (by omega)]
    ·have e2:j % 2=0:=Nat.eq_of_beq_eq_true hjb
     rw [if_neg (by omega)]
   ·have e1:k % 2=0:=Nat.eq_of_beq_eq_true hkb
    cases hjb:Nat.beq (j % 2) 0 <;> simp only [cond_true,cond_false,PT.left_node,PT.right_node]
    ·have e2:j % 2≠0:=fun e=>by rw [e] at hjb; cases hjb
     rw [if_neg (by omega)]
    ·rw [PT.get_set o f t.left (k / 2) (j / 2) hk]
     have e2:j % 2=0:=Nat.eq_of_beq_eq_true hjb
     by_cases q:j / 2=k / 2
     ·rw [if_pos q,if_pos (by omega)]
     ·rw [if_neg q,if_neg (by omega)]
structure Mem where
 n:Nat
 t:PT
def oDead:Option AObj→AObj
 | some o=>o
 | none=>.dead
def Mem.at (m:Mem) (k:Nat):AObj:=bif Nat.blt k m.n then oDead (m.t.get k) else .dead
def Mem.L (m:Mem):List AObj:=(List.range m.n).map fun k=>oDead (m.t.get k)
def Mem.lim:Nat:=16777200
def Mem.set (m:Mem) (k:Nat) (o:AObj):Mem:=⟨m.n,m.t.set o 24 k⟩
def Mem.push (m:Mem) (o:AObj):Mem:=⟨m.n+1,m.t.set o 24 m.n⟩
def Mem.ok (m:Mem):Bool:=Nat.blt m.n Mem.lim
theorem blt_iff {a b:Nat}:Nat.blt a b=true↔a < b:=by simp [Nat.blt]; omega
def ileB:Int→Int→Bool
 | .ofNat a,.ofNat b=>Nat.ble a b
 | .negSucc a,.negSucc b=>Nat.ble b a
 | .negSucc _,.ofNat _=>true
 | .ofNat _,.negSucc _=>false
def ieqB:Int→Int→Bool
 | .ofNat a,.ofNat b=>Nat.beq a b
 | .negSucc a,.negSucc b=>Nat.beq a b
 | _,_=>false
def iltB (a b:Int):Bool:=!ileB b a
def kB (a b:IntKind):Bool:=decide (a=b)
def wrapB (k:IntKind) (n:Int):Int :=
 match k,n with
 | .i64,.ofNat a=>bif Nat.blt a 9223372036854775808 then .ofNat a else IntKind.wrap .i64 (.ofNat a)
 | .u64,.ofNat a=>.ofNat (a % 18446744073709551616)
 | .u8,.ofNat a=>.ofNat (a % 256)
 | k,n=>k.wrap n
def nthA:List AV→Nat→AV
 | [],_=>.any
 | x::l,k=>match k with
  | 0=>x
  | k+1=>nthA l k
def setA:List AV→Nat→AV→List AV
 | [],_,_=>[]
 | y::l,k,x=>match k with
  | 0=>x::l
  | k+1=>y::setA l k x
def lenB {α:Type}:List α→Nat
 | []=>0
 | _::l=>lenB l+1
mutual
def AV.same:AV→AV→Bool
 | .int k a,.int k' b=>kB k k' && ieqB a b
 | .bool a,.bool b=>a==b
 | .str a,.str b=>a==b
 | .nilp,.nilp=>true
 | .ptr a,.ptr b=>a.same b
 | .fz c l,.fz d m=>c==d && sameL l m
 | .ref t g s i j,.ref t' g' s' i' j'=>Nat.beq t t' && Nat.beq g g' && Nat.beq s s' && Nat.beq i i' && Nat.beq j j'
 | .sl t g s i j,.sl t' g' s' i' j'=>Nat.beq t t' && Nat.beq g g' && Nat.beq s s' && Nat.beq i i' && Nat.beq j j'
 | .mp a,.mp b=>Nat.beq a b
 | .nilm,.nilm=>true
 | .agg l,.agg m=>sameL l m
 | .tup l,.tup m=>sameL l m
 | .nilf,.nilf=>true
 | .func (.func f) a b,.func (.func g) c d=>Nat.beq f g && sameL a c && sameL b d
 | .nili,.nili=>true
 | .iface t a,.iface u b=>Nat.beq t u && a.same b
 | _,_=>false
def sameL:List AV→List AV→Bool
 | [],[]=>true
 | x::l,y::m=>x.same y && sameL l m
 | _,_=>false
end
end Go.Proofs.Vale
namespace Go.Proofs.Vale
abbrev PB:=Option (Bool × AV)
def Sim (a:PB) (b:PV):Prop:=∀ r,a=some (true,r)→∃ p,b=some (p,r)∧p
theorem Sim.none (b:PV):Sim none b:=fun _ h=>by cases h
theorem Sim.some {q:Bool} {p:Prop} {x y:AV} (h:q=true→p) (e:x=y):Sim (some (q,x)) (some (p,y)):=by
 rintro r h1; injection h1 with h1; injection h1 with h1 h2; subst h1 h2 e; exact ⟨p,rfl,h rfl⟩
def tkB (a b:TK):Bool:=decide (a=b)
def p2 (n:Nat):Int:=Int.ofNat (2 ^ n)
def pbin (op:BinOp) (x y:AV):PB :=
 match x,y with
 | .int k a,.int k' b =>
  match op with
  | .add=>some (kB k k',.int k (wrapB k (a+b)))
  | .sub=>some (kB k k',.int k (wrapB k (a - b)))
  | .mul=>some (kB k k',.int k (wrapB k (a * b)))
  | .quo=>some (kB k k' && !ieqB b 0,.int k (wrapB k (a.tdiv b)))
  | .rem=>some (kB k k' && !ieqB b 0,.int k (a.tmod b))
  | .and=>some (kB k k',.int k (intBitsA .and k a b))
  | .or=>some (kB k k',.int k (intBitsA .or k a b))
  | .xor=>some (kB k k',.int k (intBitsA .xor k a b))
  | .andNot=>some (kB k k',.int k (intBitsA .andNot k a b))
  | .shl=>some (ileB 0 b,.int k (wrapB k (a * p2 (min b.toNat k.bits))))
  | .shr=>some (ileB 0 b,.int k (a.fdiv (p2 (min b.toNat k.bits))))
  | .eql=>some (kB k k',.bool (ieqB a b))
  | .neq=>some (kB k k',.bool (!ieqB a b))
  | .lss=>some (kB k k',.bool (iltB a b))
  | .leq=>some (kB k k',.bool (ileB a b))
  | .gtr=>some (kB k k',.bool (iltB b a))
  | .geq=>some (kB k k',.bool (ileB b a))
 | .str a,.str b =>
  match op with
  | .add=>some (Nat.ble (a.length+b.length) 9223372036854775807,.str (a++b))
  | .eql=>some (true,.bool (a==b))
  | .neq=>some (true,.bool (!(a==b)))
  | .lss=>some (true,.bool (Op.bytesLess a b))
  | .leq=>some (true,.bool (!Op.bytesLess b a))
  | .gtr=>some (true,.bool (Op.bytesLess b a))
  | .geq=>some (true,.bool (!Op.bytesLess a b))
  | _=>none
 | _,_=>none
def peqA:AV→AV→Option Bool
 | .int k a,.int k' b=>bif kB k k' then some (ieqB a b) else none
 | .bool a,.bool b=>some (a==b)
 | .str a,.str b=>some (a==b)
 | _,_=>none
def peqC:List AV→List AV→Option Bool
 | [],[]=>some true
 | x::xs,y::ys=>match peqA x y,peqC xs ys with
  | some a,some b=>some (a && b)
  | _,_=>none
 | _,_=>none
def tksB:List TK→List TK→Bool
 | [],[]=>true
 | a::l,b::m=>tkB a b && tksB l m
 | _,_=>false
def peqo (P:Program) (t:TypeId) (x y:AV):Option (Bool × Bool) :=
 match x,y with
 | .bool a,.bool b=>some (tkB (tk P t) .bool,a==b)
 | .nilp,.nilp=>some (tkB (tk P t) .ptr,true)
 | .nilp,.ptr _=>some (tkB (tk P t) .ptr,false)
 | .ptr _,.nilp=>some (tkB (tk P t) .ptr,false)
 | .nilp,.ref ..=>some (tkB (tk P t) .ptr,false)
 | .ref ..,.nilp=>some (tkB (tk P t) .ptr,false)
 | .agg xs,.agg ys=>(match peqC xs ys with | some b=>some (flatI P t && tksB (xs.map avK) (flatK P t),b) | none=>none)
 | _,_=>none
def peqR (op:BinOp) (r:Option (Bool × Bool)):PB :=
 match op,r with
 | .eql,some (p,b)=>some (p,.bool b)
 | .neq,some (p,b)=>some (p,.bool (!b))
 | _,_=>none
def pcells:AV→Nat
 | .agg cs=>lenB cs
 | _=>1
def pPart (x:AV) (j n:Nat) (ag:Bool):AV :=
 match ag with
 | true=>.agg ((x.cells.drop j).take n)
 | false=>nthA x.cells j
def agOk (ag:Bool) (n:Nat):Bool:=ag || Nat.beq n 1
theorem ble_iff {a b:Nat}:Nat.ble a b=true↔a≤b:=by simp
def pld (ti:Option (Nat × Bool)) (g:Nat→AObj) (x:AV):PB :=
 match ti,x with
 | some (n,ag),.ptr y=>some (Nat.ble n (pcells y) && agOk ag n,pPart y 0 n ag)
 | some (n,ag),.ref tt gg s i j =>
  match g tt with
  | .arr g' s' l=>let e:=nthA l i
   some (Nat.beq gg g' && Nat.beq s s' && Nat.blt i (lenB l) && Nat.ble (j+n) (pcells e) && agOk ag n,pPart e j n ag)
  | _=>none
 | _,_=>none
def pfa (fi:Option (Nat × Nat × Bool)) (x:AV):PB :=
 match fi,x with
 | some (off,n,ag),.ptr y=>some (Nat.ble (off+n) (pcells y) && (ag || (Nat.beq n 1 && leaf (nthA y.cells off))),.ptr (pPart y off n ag))
 | some (off,n,ag),.ref t g s i j=>some (true,.ref t g s i (j+off))
 | _,_=>none
def pfd (fi:Option (Nat × Nat × Bool)) (x:AV):PB :=
 match fi,x with
 | some (off,n,ag),.agg cs=>some (Nat.ble (off+n) (lenB cs) && agOk ag n,pPart (.agg cs) off n ag)
 | _,_=>none
def pix (ei:Option (TypeId × Nat × Nat)) (ai:Option (Nat × Nat × Bool)) (x i:AV):PB :=
 match ei,x,i with
 | some (e,es,by_),.fz c l,.int k n=>let y:=nthA l n.toNat
  some (ileB 0 n && Nat.blt n.toNat (lenB l) && Nat.beq (pcells y) es,.ptr y)
 | some (e,es,by_),.sl tt g s off len,.int k n=>some (ileB 0 n && Nat.blt n.toNat len && Nat.beq s es,.ref tt g s (off+n.toNat) 0)
 | none,.ref tt g s i j,.int k n=>(match ai with
  | some (m,es,_)=>some (ileB 0 n && Nat.blt n.toNat m,.ref tt g s i (j+n.toNat * es))
  | none=>none)
 | none,.ptr y,.int k n=>(match ai with
  | some (m,es,ag)=>some (ileB 0 n && Nat.blt n.toNat m && Nat.ble (n.toNat * es+es) (pcells y) && (ag || (Nat.beq es 1 && leaf (nthA y.cells (n.toNat * es)))),.ptr (pPart y (n.toNat * es) es ag))
  | none=>none)
 | _,_,_=>none
def pin (P:Program) (t:TypeId) (x i:AV):PB :=
 match x,i with
 | .str s,.int k n=>some (tkB (tk P t) .str && ileB 0 n && Nat.blt n.toNat (lenB s),.int .u8 (s.getD n.toNat 0).toNat)
 | .agg cs,.int k n=>(match aI P t with
  | some (m,s,ag)=>some (ileB 0 n && Nat.blt n.toNat m && Nat.ble (n.toNat * s+s) (lenB cs) && agOk ag s,pPart (.agg cs) (n.toNat * s) s ag)
  | none=>none)
 | _,_=>none
def allC (l:List AV) (es:Nat):Bool :=
 match l with
 | []=>true
 | x::l=>Nat.beq (pcells x) es && allC l es
def psl (P:Program) (t:TypeId) (x:AV) (lo hi mx:Option AV):PB :=
 match x with
 | .str s=>(match mx with
  | none=>(match obA lo 0 with
   | some l=>(match obA hi s.length with
    | some h=>some (tkB (tk P t) .str && ileB 0 l && ileB l h && ileB h s.length,.str ((s.take h.toNat).drop l.toNat))
    | none=>none)
   | none=>none)
  | some _=>none)
 | .fz c xs=>(match eI P t with
  | some (e,es,by_)=>(match obA lo 0 with
   | some l=>(match obA hi xs.length with
    | some h=>(match mx with
     | none=>some (ileB 0 l && ileB l h && ileB h xs.length && allC xs es,.fz (c && ieqB h xs.length) ((xs.take h.toNat).drop l.toNat))
     | some (.int _ m)=>some (hi.isSome && ileB 0 l && ileB l h && ileB h m && ileB m xs.length && allC xs es,.fz (ieqB m h) ((xs.take h.toNat).drop l.toNat))
     | _=>none)
    | none=>none)
   | none=>none)
  | none=>none)
 | .sl tt g s off len=>(match eI P t with
  | some (e,es,by_)=>(match obA hi len with
   | some h=>(match mx with
    | none=>(match lo with
     | none=>some (ileB 0 h && ileB h len,.sl tt g s off h.toNat)
     | some (.int _ l)=>some (ileB 0 l && ileB l h && ileB h len && Nat.beq s es,bif ieqB l 0 then .sl tt g s off h.toNat else bif iltB l h then .sl tt g s (off+l.toNat) (h - l).toNat else .fz false [])
     | _=>none)
    | some (.int _ m)=>(match obA lo 0 with
     | some l=>some (hi.isSome && ieqB l 0 && ileB 0 h && ileB h m && ileB m len,bif ieqB m 0 then .fz true [] else .sl tt g s off h.toNat)
     | none=>none)
    | _=>none)
   | none=>none)
  | none=>none)
 | _=>none
def undI (P:Program) (t:TypeId):Bool:=(P.underlying t).isSome
def pcv (P:Program) (src dst:TypeId) (g:Nat→AObj) (x:AV):PB :=
 match x with
 | .int k n=>(match tk P dst with | .int k'=>some (undI P src,.int k' (wrapB k' n)) | .str=>(match tk P src with | .int _=>some (true,.str (encA n)) | _=>none) | _=>none)
 | .str s=>(match tk P dst with | .str=>some (undI P src,.str s) | _=>none)
 | .fz c l=>(match tk P src,tk P dst with | .sl e,.str=>some (tkB (tk P e) (.int .u8) && l.all isByte,.str (l.map byteOf)) | _,_=>none)
 | .sl t gg s off len=>(match tk P src,tk P dst,g t with
  | .sl e,.str,.arr g' s' l=>some (tkB (tk P e) (.int .u8) && Nat.beq gg g' && Nat.beq s 1 && Nat.beq s' 1 && Nat.ble (off+len) (lenB l) && l.all isByte,.str (((l.drop off).take len).map byteOf))
  | _,_,_=>none)
 | _=>none
def punA (op:UnOp) (x:AV):PB :=
 match op,x with
 | .neg,.int k n=>some (true,.int k (wrapB k (0 - n)))
 | .not,.bool b=>some (true,.bool (!b))
 | .xor,.int k n=>some (true,.int k (intBitsA .xor k (if k.signed then -1 else k.max) n))
 | _,_=>none
def pncA (x:AV):PB :=
 match x with
 | .ptr y=>some (true,.ptr y)
 | .ref t g s i j=>some (true,.ref t g s i j)
 | .func (.func f) fs cs=>some (true,.func (.func f) fs cs)
 | _=>none
def ptaA (P:Program) (x:AV) (t:TypeId) (ok:Bool):PB :=
 match x with
 | .iface t' y=>some (Nat.beq t' t && P.concrete t,if ok then .tup [y,.bool true] else y)
 | _=>none
def pexA (x:AV) (i:Nat):PB :=
 match x with
 | .tup vs=>some (Nat.blt i (lenB vs),nthA vs i)
 | _=>none
def sures:List (Nat × AV)→Bool
 | []=>true
 | x::l=>x.2.sure && sures l
def pbuA (bi:Option (List (Nat × Nat) × List AV)) (parts:List (Nat × AV)):PB :=
 match bi with
 | some (ps,z)=>(match fillA ps z parts with | some r=>some (sures parts,.agg r) | none=>none)
 | none=>none
def isSl:TK→Bool
 | .sl _=>true
 | _=>false
def pbltA (P:Program) (b:Builtin) (ts:Array TypeId) (xs:List AV):PB :=
 match b,xs with
 | .len,[x]=>(match x with
  | .str s=>some (tkB (tk P (ts.getD 0 0)) .str,.int .i64 (lenB s))
  | .fz c l=>some (isSl (tk P (ts.getD 0 0)),.int .i64 (lenB l))
  | .sl _ _ _ _ n=>some (isSl (tk P (ts.getD 0 0)),.int .i64 n)
  | _=>none)
 | .min,[.int k a,.int k' b]=>some (true,.int k (bif iltB b a then b else a))
 | .max,[.int k a,.int k' b]=>some (true,.int k (bif iltB a b then b else a))
 | .cap,[.fz true l]=>some (isSl (tk P (ts.getD 0 0)),.int .i64 (lenB l))
 | _,_=>none
def porP (a b:PB):PB :=
 match a with
 | some r=>some r
 | none=>b
end Go.Proofs.Vale
namespace Go.Proofs.Vale
inductive OV where
 | none
 | val (x:AV) (m:Mem)
def ppop (P:Program) (op:Op) (ev:Operand→AV) (g:Nat→AObj):PB :=
 match op with
 | .move x=>some (true,ev x)
 | .assign x=>some (true,ev x)
 | .load t x=>pld (tI P t) g (ev x)
 | .nilCheck x=>pncA (ev x)
 | .binOp op t x y _=>porP (pbin op (ev x) (ev y)) (peqR op (peqo P t (ev x) (ev y)))
 | .unOp op _ x=>punA op (ev x)
 | .convert s d x=>pcv P s d g (ev x)
 | .makeInterface t x=>some (P.concrete t,.iface t (ev x))
 | .makeFunc fn f c=>some (true,.func fn (f.toList.map ev) (c.toList.map ev))
 | .slice t x lo hi mx=>psl P t (ev x) (lo.map ev) (hi.map ev) (mx.map ev)
 | .fieldAddr s x f=>pfa (fI P s f) (ev x)
 | .field s x f=>pfd (fI P s f) (ev x)
 | .indexAddr t x i=>pix (eI P t) (aI P t) (ev x) (ev i)
 | .index t x i=>pin P t (ev x) (ev i)
 | .typeAssert x _ t ok=>ptaA P (ev x) t ok
 | .extract x i=>pexA (ev x) i
 | .build t parts=>pbuA (bI P t) (parts.toList.map fun x=>(x.1,ev x.2))
 | .call c=>(match c.callee with | .builtin b=>if c.argTypes.size=0 then none else pbltA P b c.argTypes (c.args.toList.map ev) | _=>none)
 | _=>none
def pbx (x:AV) (m:Mem):OV :=
 bif x.sure && m.ok then .val (.ref m.n 0 (pcells x) 0 0) (m.push (.arr 0 (pcells x) [x])) else .none
def pst (ti:Option (Nat × Bool)) (a x:AV) (m:Mem):OV :=
 match ti,a with
 | some (n,ag),.ref tt g s i j =>
  (match m.at tt with
  | .arr g' s' l=>let e:=nthA l i
   bif Nat.beq g g' && Nat.beq s s' && Nat.blt i (lenB l) && x.sure && Nat.beq (pcells x) n && Nat.blt 0 n && Nat.ble (j+n) (pcells e) && x.cells.all AV.one && m.ok
   then .val (.tup []) (m.set tt (.arr g' s' (setA l i (upA e j x)))) else .none
  | _=>.none)
 | _,_=>.none
def bytesB:List UInt8→List AV
 | []=>[]
 | b::l=>.int .u8 b.toNat::bytesB l
def psb (P:Program) (dst:TypeId) (x:AV) (m:Mem):OV :=
 match x,tk P dst with
 | .str s,.sl e=>bif tkB (tk P e) (.int .u8) && m.ok then .val (.sl m.n 0 1 0 (lenB s)) (m.push (.arr 0 1 (bytesB s))) else .none
 | _,_=>.none
def isRgB:Nat→List (Nat × AV)→Nat→Nat→Bool
 | k,[],n,_=>Nat.beq k n
 | k,x::l,n,s=>Nat.beq x.1 k && x.2.sure && Nat.beq (pcells x.2) s && isRgB (k+1) l n s
def pbs (ei:Option (TypeId × Nat × Nat)) (n:Nat) (parts:List (Nat × AV)) (m:Mem):OV :=
 match ei with
 | some (e,s,by_)=>bif Nat.ble (n * s) 16777216 && isRgB 0 parts n s && m.ok then .val (.sl m.n 0 s 0 n) (m.push (.arr 0 s (parts.map (·.2)))) else .none
 | none=>.none
def bsv (parts:List (Nat × AV)):Bool:=lowL 0 (parts.map (·.2))
def pbz (ei:Option (TypeId × Nat × Nat)) (n:Nat) (parts:List (Nat × AV)) (m:Mem):OV :=
 match ei with
 | some (e,s,by_)=>bif Nat.ble (n * s) 16777216 && isRgB 0 parts n s then .val (.fz true (parts.map (·.2))) m else .none
 | none=>.none
def prd (g:Nat→AObj) (x:AV):Option (Bool × List AV) :=
 match x with
 | .fz c l=>some (true,l)
 | .sl t gg s off len=>(match g t with | .arr g' s' l=>some (Nat.beq gg g' && Nat.beq s s' && Nat.ble (off+len) (lenB l),(l.drop off).take len) | _=>none)
 | .str s=>some (true,bytesB s)
 | _=>none
def okEls (s:Nat):List AV→Bool
 | []=>true
 | y::l=>Nat.beq (pcells y) s && y.cells.all AV.one && okEls s l
def isNilL:List AV→Bool
 | []=>true
 | _=>false
def pap (P:Program) (ts:Array TypeId) (a x:AV) (m:Mem):OV :=
 match eI P (ts.getD 0 0),a with
 | some (e,s,by_),.sl t g s' off len =>
  (match prd m.at x with
  | some (true,ys) =>
   (match m.at t with
   | .arr g' s'' l=>let n:=lenB l+lenB ys
    bif apTy P ts && Nat.beq g g' && Nat.beq s' s && Nat.beq s'' s && Nat.beq off 0 && Nat.beq len (lenB l) && Nat.ble ((n+96) * by_) 140737488355328 && Nat.ble n 4611686018427387904 && okEls s ys && m.ok
    then .val (.sl t (g+1) s 0 n) (m.set t (.arr (g+1) s (l++ys))) else .none
   | _=>.none)
  | _=>.none)
 | some (e,s,by_),.fz true l =>
  (match prd m.at x with
  | some (true,ys)=>let n:=lenB l+lenB ys
   bif apTy P ts && Nat.ble ((n+96) * by_) 140737488355328 && Nat.ble n 4611686018427387904 && okEls s ys && allC l s && m.ok
   then (match isNilL ys with
    | true=>.val (.fz true l) m
    | false=>.val (.sl m.n 0 s 0 n) (m.push (.arr 0 s (l++ys)))) else .none
  | _=>.none)
 | _,_=>.none
def prg (P:Program) (t:TypeId) (x:AV) (m:Mem):OV :=
 match tk P t,x with
 | .str,.str s=>bif m.ok then .val (.it m.n) (m.push (.it s 0)) else .none
 | .map _ _,.mp mt=>(match m.at mt with
  | .map l=>bif m.ok then .val (.it m.n) (m.push (.mit (some mt) (lenB l) [])) else .none
  | _=>.none)
 | .map _ _,.nilm=>bif m.ok then .val (.it m.n) (m.push (.mit none 0 [])) else .none
 | _,_=>.none
def memB (k:Nat):List Nat→Bool
 | []=>false
 | x::l=>bif Nat.beq k x then true else memB k l
def unseen (seen:List Nat):Nat→List Nat
 | 0=>[]
 | n+1=>bif memB n seen then unseen seen n else n::unseen seen n
def pairAt (l:List (AV × AV)) (i:Nat):AV × AV:=l.getD i (.any,.any)
def pnm (t:Nat) (m:Mem):AObj→OV
 | .ctl (.mit o n seen)=>(match o with
  | none=>.val (.tup [.bool false]) m
  | some mt=>(match m.at mt with
   | .map l=>bif Nat.beq (lenB l) n && m.ok then (match unseen seen n with
    | []=>.val (.tup [.bool false]) m
    | [i]=>.val (.tup [.bool true,(pairAt l i).1,(pairAt l i).2]) (m.set t (.mit (some mt) n (seen++[i])))
    | _=>.none) else .none
   | _=>.none))
 | _=>.none
def pen (x:AV) (g:Nat→AObj):Option AV :=
 match x with
 | .it t=>(match g t with
  | .ctl (.mit o n seen)=>(match o with
   | none=>none
   | some mt=>(match seen.getLast? with
    | none=>none
    | some i=>(match g mt with
     | .map l=>bif Nat.beq (lenB l) n && Nat.blt i n then some (.tup [(pairAt l i).1,(pairAt l i).2]) else none
     | _=>none)))
  | _=>none)
 | _=>none
def pnx (x:AV) (b:Bool) (m:Mem):OV :=
 match x,b with
 | .it t,true=>(match m.at t with
  | .it s pos=>bif Nat.blt pos (lenB s) then (let d:=dcA s pos; bif m.ok then .val (.tup [.bool true,.int .i64 pos,.int .i32 d.1]) (m.set t (.it s (pos+d.2))) else .none) else .val (.tup [.bool false]) m
  | _=>.none)
 | .it t,false=>pnm t m (m.at t)
 | _,_=>.none
def pmm (m:Mem):OV:=bif m.ok then .val (.mp m.n) (m.push (.map [])) else .none
def plu (P:Program) (t:TypeId) (x k:AV) (ok:Bool) (g:Nat→AObj):Option AV :=
 match tk P t with
 | .map kt et=>bif keyOk (tk P kt) k then (match zI P et with
  | some z=>(match x with
   | .mp tg=>(match g tg with
    | .map l=>(match findM k l 0 with
     | some (some i)=>some (luR ok (l.getD i (.any,.any)).2 true)
     | some none=>some (luR ok z false)
     | none=>none)
    | _=>none)
   | .nilm=>some (luR ok z false)
   | _=>none)
  | none=>none) else none
 | _=>none
def pmu (P:Program) (t:TypeId) (x k v:AV) (m:Mem):OV :=
 match tk P t,x with
 | .map kt et,.mp tg=>bif keyOk (tk P kt) k && m.ok then (match m.at tg with
  | .map l=>(match findM k l 0 with
   | some (some i)=>.val (.tup []) (m.set tg (.map (l.set i (k,v))))
   | some none=>.val (.tup []) (m.set tg (.map (l++[(k,v)])))
   | none=>.none)
  | _=>.none) else .none
 | _,_=>.none
def pme (P:Program) (t:TypeId) (x k:AV) (m:Mem):OV :=
 match tk P t,x with
 | .map kt et,.mp tg=>bif keyOk (tk P kt) k && m.ok then (match zI P et with
  | some z=>(match m.at tg with
   | .map l=>(match findM k l 0 with
    | some (some i)=>.val (.tup [(l.getD i (.any,.any)).2,.int .i64 (i:Int)]) (m.set tg (.map (l.set i (k,(l.getD i (.any,.any)).2))))
    | some none=>.val (.tup [z,.int .i64 (l.length:Int)]) (m.set tg (.map (l++[(k,z)])))
    | none=>.none)
   | _=>.none)
  | none=>.none) else .none
 | _,_=>.none
def pes (x s v:AV) (m:Mem):OV :=
 match x,s with
 | .mp tg,.int .i64 n=>(match m.at tg with
  | .map l=>bif ileB 0 n && Nat.blt n.toNat l.length && m.ok then .val (.tup []) (m.set tg (.map (l.set n.toNat ((l.getD n.toNat (.any,.any)).1,v)))) else .none
  | _=>.none)
 | _,_=>.none
def pnq (P:Program) (op:BinOp) (t:TypeId) (x:AV):Option AV :=
 match x with
 | .fz c (_::_)=>bif isSl (tk P t) then some (.bool (eqB op false)) else none
 | .sl _ _ _ _ (_+1)=>bif isSl (tk P t) then some (.bool (eqB op false)) else none
 | _=>none
def pni (P:Program) (op:BinOp) (t:TypeId) (x:AV):Option AV :=
 match x with
 | .nili=>bif tkB (tk P t) .iface then some (.bool (eqB op true)) else none
 | .iface _ _=>bif tkB (tk P t) .iface then some (.bool (eqB op false)) else none
 | _=>none
def repB:Nat→AV→List AV
 | 0,_=>[]
 | n+1,x=>x::repB n x
def pms (P:Program) (t:TypeId) (l c:AV) (m:Mem):OV :=
 match eI P t,l,c with
 | some (e,s,by_),.int .i64 n,.int .i64 k=>(match zI P e with
  | some z=>bif ileB 0 n && ileB n k && Nat.ble (k.toNat * by_) 140737488355328 && ileB k 9223372036854775807 && Nat.beq (pcells z) s && z.sure && m.ok then .val (.sl m.n 0 s 0 n.toNat) (m.push (.arr 0 s (repB n.toNat z))) else .none
  | none=>.none)
 | _,_,_=>.none
def pcr (P:Program) (ts:Array TypeId) (x:AV) (m:Mem):OV :=
 match eI P (ts.getD 0 0),x with
 | some (e,s,by_),.sl t g s' off len=>(match m.at t,zI P e with
  | .arr g' s'' l,some z=>bif !(Nat.beq ts.size 0) && Nat.beq g g' && Nat.beq s' s && Nat.beq s'' s && Nat.ble (off+len) (lenB l) && Nat.beq (pcells z) s && z.sure && z.cells.all AV.one && m.ok then .val (.tup []) (m.set t (.arr g' s'' (l.take off++repB len z++l.drop (off+len)))) else .none
  | _,_=>.none)
 | some _,.fz c l=>bif !(Nat.beq ts.size 0) && isNilL l then .val (.tup []) m else .none
 | _,_=>.none
def pcp (P:Program) (ts:Array TypeId) (d x:AV) (m:Mem):OV :=
 match eI P (ts.getD 0 0),d with
 | some (e,s,by_),.sl t g s' off len=>(match prd m.at x,m.at t with
  | some (true,ys),.arr g' s'' l=>let n:=min (lenB ys) len
   bif !(Nat.beq ts.size 0) && Nat.beq g g' && Nat.beq s' s && Nat.beq s'' s && Nat.ble (off+len) (lenB l) && okEls s ys && m.ok then .val (.int .i64 (n:Nat)) (m.set t (.arr g' s'' (l.take off++ys.take len++l.drop (off+n)))) else .none
  | _,_=>.none)
 | _,_=>.none
end Go.Proofs.Vale
namespace Go.Proofs.Vale
def yid:FuncId:=4294967295
def enB (P:Program) (f:FuncId):Bool:=entersB P f && !Nat.beq f yid
def qn (P:Program) (op:Op) (ev:Operand→AV):Option AV :=
 match op with
 | .binOp op t x y _=>(match op,y with
  | .eql,.const (.slice none 0 0)=>pnq P .eql t (ev x)
  | .neq,.const (.slice none 0 0)=>pnq P .neq t (ev x)
  | .eql,.const .nilIface=>pni P .eql t (ev x)
  | .neq,.const .nilIface=>pni P .neq t (ev x)
  | _,_=>none)
 | _=>none
def qpp (P:Program) (op:Op) (ev:Operand→AV) (g:Nat→AObj):Option AV :=
 match ppop P op ev g with
 | some (true,x)=>some x
 | some (false,_)=>none
 | none=>qn P op ev
def qo (P:Program) (op:Op) (ev:Operand→AV) (g:Nat→AObj):Option AV :=
 match op with
 | .pick c a b=>(match ev c with | .bool true=>some (ev a) | .bool false=>some (ev b) | _=>none)
 | .lookup t x k ok=>plu P t (ev x) (ev k) ok g
 | op=>qpp P op ev g
def bsE' (ei:Option (TypeId × Nat × Nat)) (n:Nat) (parts:List (Nat × AV)) (m:Mem):OV:=bif bsv parts then pbz ei n parts m else pbs ei n parts m
def penV (o:Option AV) (m:Mem):OV :=
 match o with
 | some r=>.val r m
 | none=>.none
def mo (P:Program) (call:FuncId→List AV→Mem→OV) (op:Op) (ev:Operand→AV) (m:Mem):OV :=
 match op with
 | .alloc t=>(match zI P t with | some x=>pbx x m | none=>.none)
 | .box _ v=>pbx (ev v) m
 | .buildSlice t n parts=>bsE' (eI P t) n (parts.toList.map fun x=>(x.1,ev x.2)) m
 | .store t a x=>pst (tI P t) (ev a) (ev x) m
 | .convert s d x=>bif undI P s then psb P d (ev x) m else .none
 | .range t x=>prg P t (ev x) m
 | .next x b=>pnx (ev x) b m
 | .entry x=>penV (pen (ev x) m.at) m
 | .makeMap _ none=>pmm m
 | .makeSlice t l c=>pms P t (ev l) (ev c) m
 | .mapUpdate t x k v=>pmu P t (ev x) (ev k) (ev v) m
 | .insert t x k v=>pmu P t (ev x) (ev k) (ev v) m
 | .mapEntry t x k=>pme P t (ev x) (ev k) m
 | .entryStore _ x s v=>pes (ev x) (ev s) (ev v) m
 | .call c=>(match c.callee with
  | .builtin .append=>(match c.args.toList with | [A,X]=>pap P c.argTypes (ev A) (ev X) m | _=>.none)
  | .value f=>(match ev f with
   | .func (.func f) first cap=>bif enB P f then call f (first++c.args.toList.map ev++cap) m else .none
   | .yl t=>call yid (.yl t::c.args.toList.map ev) m
   | _=>.none)
  | .builtin .clear=>(match c.args.toList with | [X]=>pcr P c.argTypes (ev X) m | _=>.none)
  | .builtin .copy=>(match c.args.toList with | [D,X]=>pcp P c.argTypes (ev D) (ev X) m | _=>.none)
  | .invoke r name=>(match ev r with
   | .iface t y=>(match mI P t name with
    | some f=>bif enB P f then call f (y::c.args.toList.map ev) m else .none
    | none=>.none)
   | _=>.none)
  | _=>.none)
 | _=>.none
def ro (P:Program) (call:FuncId→List AV→Mem→OV) (op:Op) (ev:Operand→AV) (m:Mem):OV :=
 match qo P op ev m.at with
 | some x=>.val x m
 | none=>mo P call op ev m
def gdB (x:AV) (want:Bool):Option Bool :=
 match x with
 | .bool g=>some (g==want)
 | .tup _=>some false
 | _=>none
def nthO:List Oper→Nat→Option Oper
 | [],_=>none
 | o::l,k=>match k with
  | 0=>some o
  | k+1=>nthO l k
theorem nthO_eq:∀ (l:List Oper) (k:Nat),nthO l k=l[k]?
 | [],k=>by simp [nthO]
 | o::l,0=>rfl
 | o::l,k+1=>by rw [List.getElem?_cons_succ]; exact nthO_eq l k
def guardB (env:List AV) (all:List Oper) (i:Nat) (g:Option (Nat × Bool)):Option Bool :=
 match g with
 | none=>some true
 | some (j,want)=>bif Nat.blt j i then (match nthO all j with
  | some o=>(match o.dst with
   | some d=>gdB (nthA env d) want
   | none=>none)
  | none=>none) else none
inductive OE where
 | none
 | ok (env:List AV) (m:Mem)
def isT (op:Op):Bool :=
 match op with
 | .move _ | .assign _ | .pick .. | .load .. | .nilCheck _ | .binOp .. | .unOp .. | .convert .. | .makeInterface .. | .makeFunc .. | .slice .. | .fieldAddr .. | .field .. | .indexAddr .. | .index .. | .typeAssert .. | .extract .. | .build .. | .lookup ..=>false
 | .call c=>(match c.callee with | .builtin .len=>false | .builtin .cap=>false | .builtin .min=>false | .builtin .max=>false | _=>true)
 | _=>true
def tuB (all:List Oper) (i:Nat):Bool:=match nthO all i with | some o=>isT o.op | none=>false
structure Ent where
 env:List AV
 x:AV
 m:Mem
inductive OP where
 | none
 | ok (es:List Ent) (env:List AV) (m:Mem)
def winB (A:List (List Nat)) (all:List Oper) (n i k:Nat):Bool :=
 Nat.ble k n && (List.range n).all fun t=>!tuB all t || ((!((A.getD i []).contains t) || Nat.blt t k) && (!((A.getD t []).contains i) || Nat.ble k t))
def wins (A:List (List Nat)) (all:List Oper) (n i:Nat):List Nat :=
 (List.range (n+1)).filter fun k=>(match k with | 0=>true | t+1=>tuB all t) && winB A all n i k
def winL (all:List Oper) (n:Nat):List (List Nat):=let A:=ancL all []; (List.range n).map (wins A all n)
def isFree (op:Op):Bool :=
 match op with
 | .alloc _=>true
 | .box _ _=>true
 | .makeMap _ none=>true
 | _=>false
def noGuard (g:Option (Nat × Bool)):Bool:=match g with | none=>true | some _=>false
def feB (all:List Oper) (i:Nat):Bool:=match nthO all i with | some o=>isFree o.op && noGuard o.guard | none=>false
theorem newB_mm' {P:Program} {o:Oper} {t:TypeId} {ev:Operand→AV} {m:List AObj} (ho:o.op=.makeMap t none):NewB P o ev m (fun k=>.mp k) (.map []):=by
 intro a w β fr L hr
 refine ⟨.map (some w.heap.size),{ w with heap:=w.heap.push (.map #[] 0) },.map #[] 0, ?_,rfl,rfl,rfl,rfl,fun β' tg E hb=>⟨?_, ?_⟩⟩
 ·simp [execOp,ho,Instr.makeMap]
 ·exact ⟨w.heap.size,#[],hb,by simp,rfl,fun i hi=>by simp at hi⟩
 ·simp only [Rep]; exact ⟨_,hb,rfl⟩
def okD (ops:Array Oper):Bool:=okDraw ops && okFree ops (tuB ops.toList) (feB ops.toList)
end Go.Proofs.Vale
