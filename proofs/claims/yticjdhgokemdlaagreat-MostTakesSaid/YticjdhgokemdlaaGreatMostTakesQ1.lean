import Derived.WalkKit
set_option linter.unusedSimpArgs false
set_option linter.unusedVariables false
namespace Go.Aev
open Go
inductive T where
 | int (k:IntKind) (n:Int)
 | bool (b:Bool)
 | str (s:ByteArray)
 | lst (sz:Nat) (isNil:Bool) (xs:List (List T))
 | emp (isNil:Bool)
 | ptr (cs:List T)
 | nilp
 | nilm
 | nilf
 | nili
 | any
 deriving Inhabited
inductive Id where
 | c (n:Nat)
 | s (d:Nat) (j:Nat)
 | g (i:Id) (n:Nat)
 deriving DecidableEq,Inhabited
def Id.real:Id->Bool
 | .g _ _=>false
 | _=>true
inductive AV where
 | top
 | t (x:T)
 | tup (vs:List AV)
 | agg (vs:List AV)
 | ref (i:Id) (off:Nat)
 | el (i:Id) (sz k off:Nat)
 | own (i:Id)
 | part (i:Id) (sz off len:Nat)
 | row (i:Id) (n:Nat)
 | rel (i:Id) (sz n k off:Nat)
 | fn (f:FuncId) (fst caps:List AV)
 deriving Inhabited
inductive Ck where
 | i (k:IntKind)
 | b
 | s
 | l (sz:Nat)
 | x
 deriving Inhabited,DecidableEq
structure Row where
 n:Nat
 cs:List T
 own:Option (Bool×List (List T))
 deriving Inhabited
inductive Blk where
 | box (cs:List AV)
 | sl (fz:Bool) (sz:Nat) (isNil:Bool) (xs:List (List T))
 | fbox (cs:List T)
 | arr (cs:List AV)
 | mp (ag:Bool) (ks:List Ck) (vk:Ck) (es:List (List T×T))
 | rows (b:Bool) (sz col rsz nx:Nat) (es:List Row)
 | dead
 deriving Inhabited
def T.int?(k:IntKind):T->Option Int
 | .int k' n=>if k'=k then some n else none
 | _=>none
def T.bool?:T->Option Bool
 | .bool b=>some b
 | _=>none
def T.str?:T->Option ByteArray
 | .str s=>some s
 | _=>none
def T.ptr?:T->Option (List T)
 | .ptr cs=>some cs
 | _=>none
def T.lst?(sz:Nat):T->Option (Bool×List (List T))
 | .lst sz' b xs=>if sz'=sz then some (b,xs) else none
 | .emp b=>some (b,[])
 | _=>none
def aU:T->Value
 | .int k n=> .int k n
 | .bool b=> .bool b
 | .str s=> .string s
 | _=> .nilIface
def aN(ag:Bool)(cs:List T):Value:=cond ag (.agg (cs.map aU).toArray) ((cs.map aU).headD .nilIface)
def okK:Ck->T->Bool
 | .i k, .int k' _=>decide (k'=k)
 | .b, .bool _=>true
 | .s, .str _=>true
 | _,_=>false
def aC:List Ck->List T->Bool
 | [],[]=>true
 | k::ks,x::xs=>okK k x && aC ks xs
 | _,_=>false
def hY:T->T->Bool
 | .int _ a, .int _ b=>a==b
 | .bool a, .bool b=>a==b
 | .str a, .str b=>a==b
 | _,_=>false
def br:List T->List T->Bool
 | [],[]=>true
 | x::xs,y::ys=>hY x y && br xs ys
 | _,_=>false
def cz(key:List T):List (List T×T)->Option T
 | []=>none
 | (k,v)::r=>cond (br key k) (some v) (cz key r)
def cR(key:List T)(v:T):List (List T×T)->List (List T×T)
 | []=> [(key,v)]
 | (k,u)::r=>cond (br key k) ((key,v)::r) ((k,u)::cR key v r)
def T.flat?:T->Option Unit
 | .int _ _=>some ()
 | .bool _=>some ()
 | .str _=>some ()
 | _=>none
def gd{α:Type}[Inhabited α](c:Option Bool)(m:Option α):Option α:=
 match m with
 | some a=>some a
 | none=>match c with
  | none=>none
  | some b=>cond b none (some default)
def gdK{α R:Type}[Inhabited α](c:Option Bool)(m:Option α)(k:α->Option R):Option R:=
 match m with
 | some a=>k a
 | none=>match c with
  | none=>none
  | some b=>cond b none (k default)
def fU{R:Type}(c:Option Bool):Nat->List T->(List T->Option R)->Option R
 | 0,_,K=>K []
 | n+1,cs,K=>gdK c cs.head? fun x=>fU c n cs.tail fun l=>K (x::l)
def gG:Value->Option T
 | .int k i=>some (.int k i)
 | .bool b=>some (.bool b)
 | .string s=>some (.str s)
 | .slice none 0 0=>some (.emp true)
 | .pointer none=>some .nilp
 | .map none=>some .nilm
 | .nilFunc=>some .nilf
 | .nilIface=>some .nili
 | _=>none
def ej:List Value->Option (List T)
 | []=>some []
 | v::r=>(gG v).bind fun x=>(ej r).bind fun l=>some (x::l)
def al(P:Program)(t:TypeId):Bool:=
 match P.underlying t with
 | some (.struct _) | some (.array _ _)=>true
 | _=>false
def iU(P:Program)(t:TypeId):Option IntKind:=
 match P.underlying t with
 | some (.int k)=>some k
 | _=>none
def az(P:Program)(t:TypeId):Bool:=(P.underlying t).isSome
def jY(P:Program)(t:TypeId)(f:Nat):Option (Nat×TypeId):=
 match P.underlying t with
 | some (.struct fs)=>match fs[f]? with
  | some x=>cond (az P x.type) (some (x.offset,x.type)) none
  | none=>none
 | _=>none
def fE(P:Program)(t:TypeId):Option TypeId:=
 match P.underlying t with
 | some (.slice e)=>cond (az P e) (some e) none
 | _=>none
def mw(P:Program)(t:TypeId):Option (Nat×TypeId):=
 match P.underlying t with
 | some (.array n e)=>cond (az P e) (some (n,e)) none
 | _=>none
def gL(P:Program)(t:TypeId):Bool:=
 match P.underlying t with
 | some (.struct fs)=>fs.toList.all fun f=>az P f.type
 | some (.array _ e)=>az P e
 | _=>false
def qe(P:Program)(t:TypeId):Bool:=
 match P.underlying t with
 | some .string=>true
 | _=>false
def cD(P:Program)(t:TypeId):Option (List T):=
 match P.info? t with
 | some i=>match i.zero with
  | some v=>ej v.cells.toList
  | none=>none
 | none=>none
structure Gs where
 d:Nat
 want:Bool
 c:Bool
structure St where
 t:Nat->Option Gs×AV
 h:Id->Option Blk
abbrev Upd:=List (Id×Blk)
def ae(h:Id->Option Blk):Upd->Id->Option Blk
 | []=>h
 | (i,b)::us=>ae (fun j=>if j=i then some b else h j) us
def eN(d:Nat):Option Gs×AV->Option Gs×AV
 | (some g,v)=>cond (g.d==d) (none, .top) (some g,v)
 | (none,v)=>(none,v)
def St.put(s:St)(inv:Bool)(d:Option Nat)(g:Option Gs)(v:AV)(us:Upd):St:=
 {t :=match d with
    | some d=>fun k=>if k=d then(g,v) else cond inv (eN d (s.t k)) (s.t k)
    | none=>s.t
  h:=ae s.h us}
def rp(v:Value):AV:=
 match v with
 | .agg cs=>match ej cs.toList with
  | some l=> .agg (l.map .t)
  | none=> .top
 | v=>match gG v with
  | some x=> .t x
  | none=> .top
def dG:Option Gs->Option Gs->Bool
 | none,_=>true
 | some a,some b=>a.d==b.d && a.want==b.want
 | some _,none=>false
def St.openG(s:St)(g:Gs):St:={s with t:=fun k=>cond (dG (s.t k).1 (some g)) (none,(s.t k).2) (s.t k)}
def St.get(s:St)(g:Option Gs):Operand->AV
 | .tmp k=>match s.t k with
  | (gk,v)=>cond (dG gk g) v .top
 | .const v=>rp v
 | .func f=> .fn f [] []
 | .global _=> .top
def St.getArm(s:St)(g:Option Gs)(cs:Operand)(want:Bool)(o:Operand):AV:=
 match cs,o with
 | .tmp d, .tmp k=>match s.t k with
  | (some gk,v)=>cond ((gk.d==d && gk.want==want) || dG (some gk) g) v .top
  | (none,v)=>v
 | _,o=>s.get g o
def AV.t?:AV->Option T
 | .t x=>some x
 | _=>none
def bx:List AV->Option (List T)
 | []=>some []
 | .t x::r=>(bx r).bind fun l=>some (x::l)
 | _::_=>none
def aS(h:Id->Option Blk):AV->Option T
 | .t x=>some x
 | .own i=>match h i with
  | some (.sl _ sz b xs)=>some (.lst sz b xs)
  | _=>none
 | .part i sz off len=>match h i with
  | some (.sl _ sz' b xs)=>if sz'=sz then some (.lst sz b ((xs.drop off).take len)) else none
  | _=>none
 | .ref i off=>match h i with
  | some (.box cs)=>(bx cs).bind fun l=>some (.ptr (l.drop off))
  | some (.fbox l)=>some (.ptr (l.drop off))
  | _=>none
 | _=>none
def df(h:Id->Option Blk):List AV->Option (List T)
 | []=>some []
 | v::r=>(aS h v).bind fun x=>(df h r).bind fun l=>some (x::l)
def pn(h:Id->Option Blk):AV->Option T
 | .own i=>match h i with
  | some (.sl _ sz b xs)=>some (.lst sz b xs)
  | some (.rows ..)=>some .any
  | some (.mp ..)=>some .any
  | _=>none
 | v=>aS h v
def kR(h:Id->Option Blk):List AV->Option (List T)
 | []=>some []
 | v::r=>(pn h v).bind fun x=>(kR h r).bind fun l=>some (x::l)
def dH(h:Id->Option Blk):AV->Option (List T)
 | .agg vs=>df h vs
 | v=>(aS h v).bind fun x=>some [x]
def b7(h:Id->Option Blk):AV->Upd
 | .own i=>match h i with
  | some (.sl false sz b xs)=> [(i, .sl true sz b xs)]
  | _=> []
 | .part i _ _ _=>match h i with
  | some (.sl false sz b xs)=> [(i, .sl true sz b xs)]
  | _=> []
 | .ref i _=>match h i with
  | some (.box cs)=>match bx cs with
   | some l=> [(i, .fbox l)]
   | none=> []
  | _=> []
 | _=> []
def fI(h:Id->Option Blk):List AV->Upd
 | []=> []
 | v::r=>b7 h v++fI h r
def frz(h:Id->Option Blk):AV->Upd
 | .agg vs=>fI h vs
 | v=>b7 h v
def jx{R:Type}(op:BinOp)(k:IntKind)(c:Option Bool)(x y:T)(K:T->Option R):Option R:=
 gdK c (x.int? k) fun a=>gdK c (y.int? k) fun b=>
  match op with
  | .add=>K (.int k (k.wrap (a+b)))
  | .sub=>K (.int k (k.wrap (a - b)))
  | .mul=>K (.int k (k.wrap (a * b)))
  | .quo=>gdK c (if b=0 then none else some ()) fun _=>K (.int k (k.wrap (a.tdiv b)))
  | .rem=>gdK c (if b=0 then none else some ()) fun _=>K (.int k (a.tmod b))
  | .and=>K (.int k (k.wrap (BitVec.ofInt k.bits a &&& BitVec.ofInt k.bits b).toNat))
  | .or=>K (.int k (k.wrap (BitVec.ofInt k.bits a ||| BitVec.ofInt k.bits b).toNat))
  | .xor=>K (.int k (k.wrap (BitVec.ofInt k.bits a ^^^ BitVec.ofInt k.bits b).toNat))
  | .andNot=>K (.int k (k.wrap (BitVec.ofInt k.bits a &&& ~~~(BitVec.ofInt k.bits b)).toNat))
  | .lss=>K (.bool (decide (a < b)))
  | .leq=>K (.bool (decide (a<=b)))
  | .gtr=>K (.bool (decide (a > b)))
  | .geq=>K (.bool (decide (a>=b)))
  | _=>none
def iF{R:Type}(op:BinOp)(k ky:IntKind)(c:Option Bool)(x y:T)(K:T->Option R):Option R:=
 gdK c (x.int? k) fun a=>gdK c (y.int? ky) fun b=>
  gdK c (if b < 0 then none else some ()) fun _=>
  match op with
  | .shl=>K (.int k (k.wrap (a * 2 ^ (min b.toNat k.bits))))
  | .shr=>K (.int k (a.fdiv (2 ^ (min b.toNat k.bits))))
  | _=>none
def jG{R:Type}(op:BinOp)(c:Option Bool)(x y:T)(K:T->Option R):Option R:=
 gdK c x.str? fun a=>gdK c y.str? fun b=>
  match op with
  | .add=>gdK c (if a.size+b.size<=4294967296 then some () else none) fun _=>K (.str (a++b))
  | .lss=>K (.bool (Op.bytesLess a.toList b.toList))
  | .leq=>K (.bool (Op.bytesLess a.toList b.toList || a.toList==b.toList))
  | .gtr=>K (.bool (!(Op.bytesLess a.toList b.toList || a.toList==b.toList)))
  | .geq=>K (.bool (!(Op.bytesLess a.toList b.toList)))
  | _=>none
def jo(P:Program)(go:TypeId->Option (List TypeId)):List Field->Nat->Option (List TypeId)
 | [],_=>some []
 | f ::r,off=>if f.offset=off/\f.name≠ "_" then
     (go f.type).bind fun l=>if P.cellsOf f.type=l.length/\0 < l.length then(jo P go r (off+l.length)).bind fun q=>some (l++q) else none
  else none
def bH(P:Program):Nat->TypeId->Option (List TypeId)
 | 0,_=>none
 | n+1,t=>match P.underlying t with
  | some (.int _) | some .bool | some .string=>some [t]
  | some (.struct fs)=>if P.stoodInHeld t then none else jo P (bH P n) fs.toList 0
  | some (.array m e)=>(bH P n e).bind fun l=>if P.cellsOf e=l.length then some (List.replicate m l).flatten else none
  | _=>none
def cE(P:Program)(s:St)(t:TypeId)(x:AV):Option Bool:=
 match P.underlying t with
 | some (.slice _)=>match x with
  | .t (.lst _ b _)=>some b
  | .t (.emp b)=>some b
  | .own i=>match s.h i with
   | some (.sl _ _ b _)=>some b
   | _=>none
  | _=>none
 | some (.pointer _)=>match x with
  | .t (.ptr _)=>some false
  | .t .nilp=>some true
  | .ref _ _=>some false
  | .el _ _ _ _=>some false
  | _=>none
 | some (.func ..)=>match x with
  | .t .nilf=>some true
  | .fn _ _ _=>some false
  | _=>none
 | some (.map ..)=>match x with
  | .t .nilm=>some true
  | _=>none
 | _=>none
def gz(P:Program)(t:TypeId)(o:Operand):Bool:=
 match P.underlying t,o with
 | some (.slice _), .const (.slice none 0 0)=>true
 | some (.pointer _), .const (.pointer none)=>true
 | some (.func ..), .const .nilFunc=>true
 | some (.map ..), .const (.map none)=>true
 | _,_=>false
def eqC{R:Type}(P:Program)(c:Option Bool)(t:TypeId)(x y:T)(K:Bool->Option R):Option R:=
 match P.underlying t with
 | some (.int k)=>gdK c (x.int? k) fun a=>gdK c (y.int? k) fun b=>K (a==b)
 | some .bool=>gdK c x.bool? fun a=>gdK c y.bool? fun b=>K (a==b)
 | some .string=>gdK c x.str? fun a=>gdK c y.str? fun b=>K (a==b)
 | _=>none
def bp{R:Type}(P:Program)(c:Option Bool):List TypeId->List T->List T->(Bool->Option R)->Option R
 | [],[],[],K=>K true
 | t::ts,x::xs,y::ys,K=>eqC P c t x y fun b=>bp P c ts xs ys fun r=>K (b && r)
 | _,_,_,_=>none
def jy{R:Type}(P:Program)(op:BinOp)(t ty:TypeId)(c:Option Bool)(x y:T)(K:T->Option R):Option R:=
 match op with
 | .shl | .shr=>match iU P t,iU P ty with
  | some k,some ky=>iF op k ky c x y K
  | _,_=>none
 | .eql | .neq=>none
 | op=>match P.underlying t with
  | some (.int k)=>jx op k c x y K
  | some .string=>jG op c x y K
  | _=>none
def ij{R:Type}(P:Program)(c:Option Bool)(t:TypeId)(x y:AV)(K:Bool->Option R):Option R:=
 match x,y with
 | .t x, .t y=>cond (qe P t) (gdK c x.str? fun a=>gdK c y.str? fun b=>K (a.toList==b.toList)) (eqC P c t x y K)
 | .agg xs, .agg ys=>cond (P.eqGuardType P.depth t || !al P t) none <| (bx xs).bind fun xs=>(bx ys).bind fun ys=>(bH P 8 t).bind fun ts=>bp P c ts xs ys K
 | _,_=>none
def jk{R:Type}(P:Program)(op:UnOp)(t:TypeId)(c:Option Bool)(x:T)(K:T->Option R):Option R:=
 match op,P.underlying t with
 | .neg,some (.int k)=>gdK c (x.int? k) fun a=>K (.int k (k.wrap (0 - a)))
 | .xor,some (.int k)=>gdK c (x.int? k) fun a=>
   K (.int k (k.wrap (BitVec.ofInt k.bits (if k.signed then -1 else k.max) ^^^ BitVec.ofInt k.bits a).toNat))
 | .not,some .bool=>gdK c x.bool? fun a=>K (.bool (!a))
 | _,_=>none
open Go
def typK{R:Type}(k:Ck)(c:Option Bool)(x:T)(K:T->Option R):Option R:=
 match k with
 | .i k=>gdK c (x.int? k) fun n=>K (.int k n)
 | .b=>gdK c x.bool? fun b=>K (.bool b)
 | .s=>gdK c x.str? fun s=>K (.str s)
 | .l sz=>gdK c (x.lst? sz) fun p=>K (.lst sz p.1 p.2)
 | .x=>K x
def typKs{R:Type}(c:Option Bool):List Ck->List T->(List T->Option R)->Option R
 | [],xs,K=>K xs
 | _::_,[],K=>K []
 | k::ks,x::xs,K=>typK k c x fun y=>typKs c ks xs fun ys=>K (y::ys)
def ee(P:Program)(t:TypeId):Ck:=
 match P.underlying t with
 | some (.int k)=> .i k
 | some .bool=> .b
 | some .string=> .s
 | some (.slice e)=> .l (P.cellsOf e)
 | _=> .x
def na(P:Program):Nat->TypeId->List Ck
 | 0,_=> []
 | n+1,t=>match P.underlying t with
  | some (.struct fs)=>fs.toList.flatMap fun f=>na P n f.type
  | some (.array m e)=>(List.replicate m (na P n e)).flatten
  | _=> [ee P t]
def jU(P:Program)(t:TypeId):List Ck:=
 if(na P 8 t).length=P.cellsOf t then na P 8 t else List.replicate (P.cellsOf t) .x
inductive RSh where
 | f (k:Ck)
 | t (k:Ck)
 | own (sz:Nat)
 | ref (k off:Nat)
 | same (k:Nat)
 | rows (sz col rsz:Nat)
 | mp (ag:Bool) (ks:List Ck) (vk:Ck)
 | new (l:List RSh)
 | no
 | agg (l:List RSh)
 deriving Inhabited
inductive BSh where
 | box (l:List RSh)
 | sl (sz:Nat)
 | mp (ag:Bool) (ks:List Ck) (vk:Ck)
 | dead
 deriving Inhabited
structure Sig where
 res:List RSh
 outs:List BSh
 deriving Inhabited
structure Ann where
 live:FuncId->Nat->Option (List (Nat×Option Nat))
 join:FuncId->Nat->Option (List (Nat×Option Nat))
 sig:FuncId->Option Sig
 bref:FuncId->Option (List Bool):=fun _=>none
 deep:FuncId->Bool:=fun _=>false
 bsig:FuncId->Nat->Sig:=fun _ _=>⟨[],[]⟩
 app:Option Nat->Bool:=fun _=>false
 wr:FuncId->Bool:=fun _=>false
 st:Option Nat->Bool:=fun _=>false
 sx:Option Nat->Bool:=fun _=>false
 ld:Option Nat->Bool:=fun _=>false
 nst:Option Nat->TypeId->Nat:=fun _ _=>0
 ext:FuncId->List AV->List Blk->Option (List T):=fun _ _ _=>none
inductive Key where
 | call (f:FuncId)
 | node (f:FuncId) (todo:List Item) (live:List (Nat×Option Nat)) (m:Nat×Nat)
abbrev Orc:=Key->List AV->List Blk->Option (List T)
def lim:Nat:=4294967296
mutual
def AV.ids:AV->List Id
 | .top=> []
 | .t _=> []
 | .tup vs=>aD vs
 | .agg vs=>aD vs
 | .ref i _=> [i]
 | .el i _ _ _=> [i]
 | .own i=> [i]
 | .part i _ _ _=> [i]
 | .row i _=> [i]
 | .rel i _ _ _ _=> [i]
 | .fn _ a b=>aD a++aD b
def aD:List AV->List Id
 | []=> []
 | v::r=>v.ids++aD r
end
mutual
def AV.rn(m:List Id):AV->AV
 | .top=> .top
 | .t x=> .t x
 | .tup vs=> .tup (rnL m vs)
 | .agg vs=> .agg (rnL m vs)
 | .ref i o=> .ref (.c (m.idxOf i)) o
 | .el i sz k o=> .el (.c (m.idxOf i)) sz k o
 | .own i=> .own (.c (m.idxOf i))
 | .part i sz o n=> .part (.c (m.idxOf i)) sz o n
 | .row i n=> .row (.c (m.idxOf i)) n
 | .rel i sz n k o=> .rel (.c (m.idxOf i)) sz n k o
 | .fn f a b=> .fn f (rnL m a) (rnL m b)
def rnL(m:List Id):List AV->List AV
 | []=> []
 | v::r=>v.rn m::rnL m r
end
def rnB(m:List Id):Option Blk->Blk
 | some (.box cs)=> .box (rnL m cs)
 | some (.arr cs)=> .arr (rnL m cs)
 | some b=>b
 | none=> .dead
def bB(h:Id->Option Blk):Nat->List Id->List Id->Option (List Id)
 | 0,_,_=>none
 | _+1,[],seen=>some seen
 | n+1,i::todo,seen=>
  cond (seen.contains i) (bB h n todo seen)
   (match h i with
    | some (.box cs)=>bB h n (todo++aD cs) (seen++ [i])
    | some (.arr cs)=>bB h n (todo++aD cs) (seen++ [i])
    | some _=>bB h n todo (seen++ [i])
    | none=>none)
def fF:Nat->List AV->Option (List AV)
 | 0,_=>some []
 | _+1,[]=>none
 | n+1,c::r=>(fF n r).bind fun l=>some (c::l)
def repl{α:Type}(off:Nat)(new old:List α):List α:=old.take off++new++old.drop (off+new.length)
def cf(n:Nat):List Row->Option (Bool×List (List T))
 | []=>none
 | e::r=>if e.n=n then e.own else cf n r
def bW(n:Nat)(p:Option (Bool×List (List T))):List Row->List Row
 | []=> []
 | e::r=>if e.n=n then{e with own:=p}::r else e::bW n p r
def dP{R:Type}(h:Id->Option Blk)(c:Option Bool)(i:Id)(n:Nat)(K:Nat->Bool->List (List T)->Option R):Option R:=
 match h i with
 | some (.rows _ _ _ rsz _ es)=>gdK c (cf n es) fun p=>K rsz p.1 p.2
 | _=>none
def dC{R:Type}(P:Program)(t:TypeId)(c:Option Bool)(cs:List T)(K:AV->Option R):Option R:=
 cond (al P t) (fU c (P.cellsOf t) cs fun l=>typKs c (jU P t) l fun l=>K (.agg (l.map .t))) (gdK c cs.head? fun x=>typK (ee P t) c x fun x=>K (.t x))
def fk{R:Type}(P:Program)(t:TypeId)(cs:List AV)(K:AV->Option R):Option R:=
 cond (al P t) ((fF (P.cellsOf t) cs).bind fun l=>K (.agg l)) (cs.head?.bind K)
def iX{R:Type}(P:Program)(t:TypeId)(c:Option Bool)(i:Id)(sz col off:Nat)(e:Row)(K:AV->Option R):Option R:=
 cond (al P t)
  (if off=0/\P.cellsOf t=sz then fU c sz e.cs fun l=>typKs c ((jU P t).set col .x) l fun l=>K (.agg ((l.map .t).set col (.row i e.n))) else none)
  (if off=col then K (.row i e.n) else gdK c (e.cs.drop off).head? fun x=>typK (ee P t) c x fun x=>K (.t x))
def cY{R:Type}(P:Program)(s:St)(c:Option Bool)(t:TypeId)(a:AV)(K:AV->Option R):Option R:=
 cond (az P t) (match a with
 | .ref i off=>match s.h i with
  | some (.box cs)=>fk P t (cs.drop off) K
  | some (.fbox l)=>dC P t c (l.drop off) K
  | _=>none
 | .el i sz k off=>match s.h i with
  | some (.sl _ sz' _ xs)=>if sz'=sz then gdK c xs[k]? fun cs=>dC P t c (cs.drop off) K else none
  | some (.rows _ sz' col _ _ es)=>if sz'=sz then gdK c es[k]? fun e=>iX P t c i sz col off e K else none
  | _=>none
 | .rel i sz n k off=>dP s.h c i n fun rsz _ xs=>if rsz=sz then gdK c xs[k]? fun cs=>dC P t c (cs.drop off) K else none
 | .t x=>gdK c x.ptr? fun cs=>dC P t c cs K
 | _=>none) none
def b5(v:AV):List AV:=
 match v with
 | .agg vs=>vs
 | v=> [v]
def iw:AV->Bool
 | .agg _ | .tup _ | .top=>false
 | _=>true
def aB(k off:Nat)(l:List T)(xs:List (List T)):Option (List (List T)):=
 match xs[k]? with
 | some cs=>if off+l.length<=cs.length then some (xs.set k (repl off l cs)) else none
 | none=>none
def cu{R:Type}(P:Program)(s:St)(t:TypeId)(a v:AV)(K:Upd->Option R):Option R:=
 cond (az P t) (match a with
 | .ref i off=>match s.h i with
  | some (.box cs)=>
   if(b5 v).length=P.cellsOf t/\(b5 v).all iw/\off+ (b5 v).length<=cs.length then K [(i, .box (repl off (b5 v) cs))] else none
  | _=>none
 | .el i sz k off=>match s.h i with
  | some (.sl false sz' b xs)=>(dH s.h v).bind fun l=>
    if sz'=sz/\l.length=P.cellsOf t/\v.ids.contains i=false then
     gdK none (aB k off l xs) fun ys=>K ((i, .sl false sz b ys)::frz s.h v) else none
  | some (.rows b sz' col rsz nx es)=>match v with
   | .own j=>match s.h j with
    | some (.sl false rsz' b' xs)=>
     if sz'=sz/\off=col/\rsz'=rsz/\P.cellsOf t=1/\al P t=false then
      gdK none es[k]? fun e=>K [(j, .dead),(i, .rows b sz col rsz (nx+1) (es.set k ⟨nx,e.cs,some (b',xs)⟩))] else none
    | _=>none
   | _=>none
  | _=>none
 | .rel i sz n k off=>match s.h i with
  | some (.rows b sz' col rsz nx es)=>gdK none (cf n es) fun p=>(dH s.h v).bind fun l=>
    if rsz=sz/\l.length=P.cellsOf t/\v.ids.contains i=false then
     gdK none (aB k off l p.2) fun ys=>K ((i, .rows b sz' col rsz nx (bW n (some (p.1,ys)) es))::frz s.h v) else none
  | _=>none
 | _=>none) none
def kV:List (Nat×List AV)->List AV->Option (List AV)
 | [],z=>some z
 | (off,l)::r,z=>if off+l.length<=z.length then kV r (repl off l z) else none
def kw(P:Program)(t:TypeId)(f:Nat):Option (Nat×TypeId):=
 match jY P t f with
 | some p=>some p
 | none=>match mw P t with
  | some (_,u)=>some (f * P.cellsOf u,u)
  | none=>none
def gq(P:Program)(t:TypeId)(ev:Operand->AV):List (Nat×Operand)->Option (List (Nat×List AV))
 | []=>some []
 | (f,o)::r=>(kw P t f).bind fun p=>
   if(b5 (ev o)).length=P.cellsOf p.2/\(b5 (ev o)).all iw then(gq P t ev r).bind fun q=>some ((p.1,b5 (ev o))::q) else none
def oV(P:Program)(t:TypeId)(ev:Operand->AV)(ps:List (Nat×Operand)):Option AV:=
 if gL P t then
 (cD P t).bind fun z=>(gq P t ev ps).bind fun l=>(kV l (z.map .t)).bind fun cs=>some (.agg cs)
 else none
def cr(P:Program)(h:Id->Option Blk)(e:TypeId)(ev:Operand->AV):Nat->List (Nat×Operand)->Option (List (List T)×Upd)
 | _,[]=>some ([],[])
 | n,(k,o)::r=>(dH h (ev o)).bind fun l=>if k=n/\l.length=P.cellsOf e then
    (cr P h e ev (n+1) r).bind fun q=>some (l::q.1,frz h (ev o)++q.2)
  else none
def cW{R:Type}(c:Option Bool)(i:Int)(n:Nat)(K:Option R):Option R:=gdK c (if 0<=i/\i < n then some () else none) fun _=>K
def cJ{R:Type}(P:Program)(s:St)(c:Option Bool)(t:TypeId)(x:AV)(i:Int)(K:AV->Option R):Option R:=
 match fE P t with
 | some e=>match x with
  | .own j=>match s.h j with
   | some (.sl _ sz _ xs)=>if sz=P.cellsOf e then cW c i xs.length (K (.el j sz i.toNat 0)) else none
   | some (.rows _ sz _ _ _ es)=>if sz=P.cellsOf e then cW c i es.length (K (.el j sz i.toNat 0)) else none
   | _=>none
  | .row j n=>dP s.h c j n fun rsz _ xs=>if rsz=P.cellsOf e then cW c i xs.length (K (.rel j rsz n i.toNat 0)) else none
  | .part j sz off n=>match s.h j with
   | some (.sl _ sz' _ _)=>if sz=P.cellsOf e/\sz'=sz then cW c i n (K (.el j sz (off+i.toNat) 0)) else none
   | _=>none
  | .t y=>gdK c (y.lst? (P.cellsOf e)) fun p=>cW c i p.2.length (gdK c p.2[i.toNat]? fun cs=>K (.t (.ptr cs)))
  | _=>none
 | none=>match mw P t with
  | some (n,e)=>cW c i n (match x with
   | .ref j off=>K (.ref j (off+i.toNat * P.cellsOf e))
   | .el j sz k off=>K (.el j sz k (off+i.toNat * P.cellsOf e))
   | .t y=>gdK c y.ptr? fun cs=>K (.t (.ptr (cs.drop (i.toNat * P.cellsOf e))))
   | _=>none)
  | none=>none
def iV{R:Type}(P:Program)(c:Option Bool)(t:TypeId)(x:AV)(f:Nat)(K:AV->Option R):Option R:=
 match jY P t f with
 | some (off,u)=>if P.cellsOf u=0 then none else
  match x with
  | .ref j o=>K (.ref j (o+off))
  | .el j sz k o=>K (.el j sz k (o+off))
  | .rel j sz n k o=>K (.rel j sz n k (o+off))
  | .t y=>gdK c y.ptr? fun cs=>K (.t (.ptr (cs.drop off)))
  | _=>none
 | none=>none
def jO{R:Type}(P:Program)(t:TypeId)(x:AV)(f:Nat)(K:AV->Option R):Option R:=
 match jY P t f with
 | some (off,u)=>match x with
  | .agg vs=>fk P u (vs.drop off) K
  | _=>none
 | none=>none
def eV{R:Type}(P:Program)(s:St)(c:Option Bool)(t:TypeId)(x:AV)(K:AV->Option R):Option R:=
 match P.underlying t with
 | some .string=>match x with
  | .t y=>gdK c y.str? fun b=>K (.t (.int .i64 b.size))
  | _=>none
 | some (.array n _)=>K (.t (.int .i64 n))
 | some (.slice e)=>match x with
  | .own j=>match s.h j with
   | some (.sl _ _ _ xs)=>K (.t (.int .i64 xs.length))
   | some (.rows _ _ _ _ _ es)=>K (.t (.int .i64 es.length))
   | _=>none
  | .row j n=>dP s.h c j n fun _ _ xs=>K (.t (.int .i64 xs.length))
  | .part _ _ _ n=>K (.t (.int .i64 n))
  | .t y=>gdK c (y.lst? (P.cellsOf e)) fun p=>K (.t (.int .i64 p.2.length))
  | _=>none
 | _=>none
def boundAV{R:Type}(s:St)(c:Option Bool)(g:Option Gs)(o:Option Operand)(K:Option Int->Option R):Option R:=
 match o with
 | none=>K none
 | some o=>(s.get g o).t?.bind fun x=>gdK c (anyInt x) fun n=>K (some n)
where
 anyInt:T->Option Int
  | .int _ n=>some n
  | _=>none
def inB(lo hi n:Int):Option Unit:=if 0<=lo/\lo<=hi/\hi<=n then some () else none
def sub(lo hi:Int)(xs:List (List T)):List (List T):=(xs.drop lo.toNat).take (hi.toNat - lo.toNat)
def mN(lo hi m:Int):Option Unit:=if lo=0/\hi=0/\m=0 then some () else none
def oN:T->Bool
 | .emp true=>true
 | .lst _ true []=>true
 | _=>false
def fq{R:Type}(P:Program)(s:St)(c:Option Bool)(t:TypeId)(x:AV)(lo hi mx:Option Int)(K:AV->Option R):Option R:=
 match P.underlying t with
 | some .string=>match x,mx with
  | .t y,none=>gdK c y.str? fun b=>
    gdK c (inB (lo.getD 0) (hi.getD b.size) b.size) fun _=>K (.t (.str (b.extract (lo.getD 0).toNat (hi.getD b.size).toNat)))
  | _,_=>none
 | some (.slice e)=>match mx with
  | none=>match x with
   | .own j=>match s.h j with
    | some (.sl _ sz _ xs)=>if sz=P.cellsOf e/\az P e=true then
      gdK c (inB (lo.getD 0) (hi.getD xs.length) xs.length) fun _=>
      K (.part j sz (lo.getD 0).toNat ((hi.getD xs.length).toNat - (lo.getD 0).toNat)) else none
    | _=>none
   | .part j sz off n=>match s.h j with
    | some (.sl _ sz' _ _)=>if sz=P.cellsOf e/\sz'=sz/\az P e=true then
      gdK c (inB (lo.getD 0) (hi.getD n) n) fun _=>
      K (.part j sz (off+ (lo.getD 0).toNat) ((hi.getD n).toNat - (lo.getD 0).toNat)) else none
    | _=>none
   | .t y=>if az P e=true then gdK c (y.lst? (P.cellsOf e)) fun p=>
     gdK c (inB (lo.getD 0) (hi.getD p.2.length) p.2.length) fun _=>
     K (.t (.lst (P.cellsOf e) p.1 (sub (lo.getD 0) (hi.getD p.2.length) p.2))) else none
   | _=>none
  | some m=>match x with
   | .t y=>if az P e=true then gdK c (y.lst? (P.cellsOf e)) fun p=>gdK c (mN (lo.getD 0) (hi.getD 1) m) fun _=>K (.t (.emp p.1)) else none
   | .own j=>match s.h j with
    | some (.sl _ _ b _)=>if az P e=false then none else gdK c (mN (lo.getD 0) (hi.getD 1) m) fun _=>K (.t (.emp b))
    | _=>none
   | _=>none
 | _=>none
def ap(n m:Int):Option Unit:=if 0<=n/\n<=m/\m<=lim then some () else none
def eJ{R:Type}(P:Program)(s:St)(t:TypeId)(sz:Nat)(zs:List T)(y:AV)(K:List (List T)->Option R):Option R:=
 match P.underlying t with
 | some (.slice _)=>(aS s.h y).bind fun x=>gdK none (x.lst? sz) fun p=>K p.2
 | some .string=>if sz=1 then y.t?.bind fun x=>gdK none x.str? fun b=>K (b.data.toList.map fun u=> [.int .u8 u.toNat]) else none
 | some (.int _)=>y.t?.bind fun x=>gdK none (x.int? .i64) fun n=>gdK none (ap n n) fun _=>K (List.replicate n.toNat zs)
 | _=>none
def f0(bs n:Nat):Prop:=n<=lim\/(0 < bs/\n * bs<=140737488355328)
instance (bs n:Nat):Decidable (f0 bs n):=inferInstanceAs (Decidable (_\/_))
def aA(bs n:Nat):Option Unit:=if f0 bs n then some () else none
def uQ:T->Option Bool
 | .emp b=>some b
 | .lst _ b xs=>cond (b && xs.isEmpty) (some true) none
 | _=>none
def pq(h:Id->Option Blk):AV->Option (Id×Nat×Nat×Nat×Nat×List Row)
 | .own i=>match h i with
  | some (.rows _ sz col rsz nx es)=>some (i,sz,col,rsz,nx,es)
  | _=>none
 | _=>none
def rm(h:Id->Option Blk):AV->Option (Id×List AV)
 | .own j=>match h j with
  | some (.arr cs)=>some (j,cs)
  | _=>none
 | _=>none
def gU{R:Type}(P:Program)(s:St)(d:Nat)(e:TypeId)(i:Id)(sz col rsz nx:Nat)(es:List Row)(j:Id)(cs:List AV)(K:AV->Upd->Option R):Option R:=
 if sz=P.cellsOf e/\cs.length=sz/\col < sz/\i≠j then
  (bx (cs.set col (.t .nilp))).bind fun l=>match cs[col]? with
   | some (.own j2)=>match s.h j2 with
    | some (.sl false rsz' b' xs)=>if rsz'=rsz then
      gdK none (aA (P.bytesOf e) (es.length+1)) fun _=>
      K (.own (.s d 0)) [(i, .dead),(j, .dead),(j2, .dead),(.s d 0, .rows false sz col rsz (nx+1) (es++ [⟨nx,l,some (b',xs)⟩]))] else none
    | _=>none
   | some (.row a n)=>match s.h a with
    | some (.rows b2 sz2 col2 rsz2 nx2 es2)=>if rsz2=rsz/\a≠i then
      gdK none (cf n es2) fun p=>gdK none (aA (P.bytesOf e) (es.length+1)) fun _=>
      K (.own (.s d 0)) [(i, .dead),(j, .dead),(a, .rows b2 sz2 col2 rsz2 nx2 (bW n none es2)),(.s d 0, .rows false sz col rsz (nx+1) (es++ [⟨nx,l,some p⟩]))] else none
    | _=>none
   | _=>none
 else none
def dh{R:Type}(P:Program)(s:St)(d:Nat)(rw:Bool)(t ty:TypeId)(x y:AV)(K:AV->Upd->Option R):Option R:=
 (fE P t).bind fun e=>(cD P e).bind fun zs=>
 if P.bytesOf e<=8192/\zs.length=P.cellsOf e then
 match cond rw (pq s.h x) none,cond rw (rm s.h y) none with
 | some (i,sz,col,rsz,nx,es),some (j,cs)=>match P.underlying ty with
  | some (.slice _)=>gU P s d e i sz col rsz nx es j cs K
  | _=>none
 | _,_=>
 eJ P s ty (P.cellsOf e) zs y fun ys=>
 match x with
 | .own i=>match s.h i with
  | some (.sl false sz' b xs)=>if sz'=P.cellsOf e then
    gdK none (aA (P.bytesOf e) (xs.length+ys.length)) fun _=>
    K (.own (.s d 0)) [(.s d 0, .sl false (P.cellsOf e) (b && ys.isEmpty) (xs++ys)),(i, .dead)] else none
  | _=>none
 | .part i sz'' off n=>match s.h i with
  | some (.sl false sz' b xs)=>if sz'=P.cellsOf e/\sz''=P.cellsOf e then
    gdK none (aA (P.bytesOf e) (n+ys.length)) fun _=>
    K (.own (.s d 0)) [(.s d 0, .sl false (P.cellsOf e) (b && ys.isEmpty) ((xs.drop off).take n++ys)),(i, .dead)] else none
  | _=>none
 | .t z=>(uQ z).bind fun b=>gdK none (aA (P.bytesOf e) ys.length) fun _=>
    K (.own (.s d 0)) [(.s d 0, .sl false (P.cellsOf e) (b && ys.isEmpty) ys)]
 | _=>none
 else none
def ii(n:Nat):List Row:=(List.range n).map fun k=>⟨k,[.nilp],some (true,[])⟩
def je{R:Type}(P:Program)(d:Nat)(t:TypeId)(nst:Nat)(n m:T)(K:AV->Upd->Option R):Option R:=
 (fE P t).bind fun e=>(cD P e).bind fun zs=>
 gdK none (n.int? .i64) fun n=>gdK none (m.int? .i64) fun m=>
 if P.bytesOf e<=8192/\zs.length=P.cellsOf e then
 gdK none (ap n m) fun _=>
  cond (nst==2) (match P.underlying e,zs with
   | some (.slice u),[.emp true]=>if P.cellsOf e=1 then K (.own (.s d 0)) [(.s d 0, .rows false 1 0 (P.cellsOf u) n.toNat (ii n.toNat))] else none
   | _,_=>none)
   (K (.own (.s d 0)) [(.s d 0, .sl false (P.cellsOf e) false (List.replicate n.toNat zs))])
 else none
def mm(isMax:Bool)(a b:Int):Int:=cond isMax (if b > a then b else a) (if b < a then b else a)
def fW{R:Type}(k:IntKind)(c:Option Bool)(isMax:Bool):Int->List T->(T->Option R)->Option R
 | a,[],K=>K (.int k a)
 | a,y::r,K=>gdK c (y.int? k) fun b=>fW k c isMax (mm isMax a b) r K
def jJ{R:Type}(P:Program)(c:Option Bool)(src dst:TypeId)(x:T)(K:T->Option R):Option R:=
 match P.underlying src,P.underlying dst with
 | some (.int k),some (.int k')=>gdK c (x.int? k) fun n=>K (.int k' (k'.wrap n))
 | some .string,some .string=>gdK c x.str? fun b=>K (.str b)
 | _,_=>none
def bytesOf:List (List T)->Option (List UInt8)
 | []=>some []
 | cs::r=>cs.head?.bind fun x=>(x.int? .u8).bind fun n=>(bytesOf r).bind fun l=>some (UInt8.ofNat n.toNat::l)
def eD:Ck->Bool
 | .i _ | .b | .s=>true
 | _=>false
def iP(P:Program)(t:TypeId):Option (TypeId×TypeId):=
 match P.underlying t with
 | some (.map k e)=>cond (az P k && az P e) (some (k,e)) none
 | _=>none
def qw(P:Program)(t:TypeId):Option T:=
 match P.info? t with
 | some i=>match i.zero with
  | some v=>gG v
  | none=>none
 | none=>none
def dK(P:Program)(k:TypeId):Option (Bool×List Ck):=
 match P.underlying k with
 | some (.int i)=>some (false,[.i i])
 | some .string=>some (false,[.s])
 | some (.array n e)=>match P.underlying e with
  | some (.int i)=>if P.cellsOf e=1/\n<=8 then some (true,List.replicate n (.i i)) else none
  | _=>none
 | _=>none
def fZ{R:Type}(P:Program)(k:TypeId)(c:Option Bool)(v:AV)(K:Bool->List Ck->List T->Option R):Option R:=
 (dK P k).bind fun q=>match q.1,v with
  | false, .t x=>typKs c q.2 [x] fun cs=>K false q.2 cs
  | true, .agg vs=>(bx vs).bind fun l=>if l.length=q.2.length then typKs c q.2 l fun cs=>K true q.2 cs else none
  | _,_=>none
def fB{R:Type}(P:Program)(s:St)(c:Option Bool)(t:TypeId)(x key:AV)(ok:Bool)(K:AV->Option R):Option R:=
 (iP P t).bind fun q=>(qw P q.2).bind fun z=>fZ P q.1 c key fun ag ks cs=>match x with
  | .own i=>match s.h i with
   | some (.mp ag' ks' vk es)=>if ag'=ag/\ks'=ks/\ee P q.2=vk/\eD vk=true/\al P q.2=false then
     typK vk c ((cz cs es).getD z) fun v=>K (cond ok (.tup [.t v, .t (.bool (cz cs es).isSome)]) (.t v)) else none
   | _=>none
  | _=>none
def jv{R:Type}(P:Program)(d:Nat)(t:TypeId)(K:AV->Upd->Option R):Option R:=
 (iP P t).bind fun q=>(dK P q.1).bind fun p=>if eD (ee P q.2)=true then K (.own (.s d 0)) [(.s d 0, .mp p.1 p.2 (ee P q.2) [])] else none
def fC{R:Type}(P:Program)(s:St)(t:TypeId)(x key v:AV)(K:Upd->Option R):Option R:=
 (iP P t).bind fun q=>fZ P q.1 none key fun ag ks cs=>match x with
  | .own i=>match s.h i with
   | some (.mp ag' ks' vk es)=>if ag'=ag/\ks'=ks/\ee P q.2=vk/\eD vk=true then
     v.t?.bind fun v=>typK vk none v fun v=>K [(i, .mp ag ks vk (cR cs v es))] else none
   | _=>none
  | _=>none
def dO(key:List T):List (List T×T)->List (List T×T)
 | []=> []
 | p::r=>cond (br key p.1) r (p::dO key r)
def eU{R:Type}(P:Program)(s:St)(t:TypeId)(x key:AV)(K:Upd->Option R):Option R:=
 (iP P t).bind fun q=>fZ P q.1 none key fun ag ks cs=>match x with
  | .own i=>match s.h i with
   | some (.mp ag' ks' vk es)=>if ag'=ag/\ks'=ks then K [(i, .mp ag ks vk (dO cs es))] else none
   | _=>none
  | _=>none
def cM(fl dp:Bool)(h:Id->Option Blk):AV->Option (T×Upd)
 | .ref i off=>cond fl (match h i with
  | some (.box cs)=>(cond dp (kR h (cs.drop off)) (bx (cs.drop off))).bind fun l=>some (.ptr l,[])
  | some (.fbox l)=>some (.ptr (l.drop off),[])
  | _=>none) ((aS h (.ref i off)).bind fun x=>some (x,b7 h (.ref i off)))
 | v=>(aS h v).bind fun x=>some (x,cond fl [] (b7 h v))
def eL(fl dp:Bool)(h:Id->Option Blk):List AV->Option (List T×Upd)
 | []=>some ([],[])
 | v::r=>(cM fl dp h v).bind fun p=>(eL fl dp h r).bind fun q=>some (p.1::q.1,p.2++q.2)
def dZ(fl dp:Bool)(h:Id->Option Blk):AV->Option (AV×Upd)
 | .fn f a b=>(eL fl dp h a).bind fun x=>(eL fl dp h b).bind fun y=>some (.fn f (x.1.map .t) (y.1.map .t),x.2++y.2)
 | .agg vs=>(eL fl dp h vs).bind fun x=>some (.agg (x.1.map .t),x.2)
 | v=>(cM fl dp h v).bind fun p=>some (.t p.1,p.2)
def dM(fl dp:Bool)(h:Id->Option Blk):List AV->Option (List AV×Upd)
 | []=>some ([],[])
 | v::r=>(dZ fl dp h v).bind fun p=>(dM fl dp h r).bind fun q=>some (p.1::q.1,p.2++q.2)
def mO(P:Program):Nat->TypeId->Bool
 | 0,_=>false
 | n+1,t=>match P.underlying t with
  | some (.int _) | some .bool | some .string=>true
  | some (.struct fs)=>fs.toList.all fun f=>mO P n f.type
  | some (.array _ e)=>mO P n e
  | _=>false
def qr(e:Row):T:=match e.own with
 | some p=> .lst 0 p.1 p.2
 | none=> .nilp
def pD(b:Bool)(es:List Row):T:= .lst 2 b (es.map fun e=> [.ptr e.cs,qr e])
def mj:Nat->List (List T)->Option (List Row)
 | _,[]=>some []
 | n,[.ptr cs, .lst _ b xs]::r=>(mj (n+1) r).bind fun l=>some (⟨n,cs,some (b,xs)⟩::l)
 | _,_=>none
def eI:T->Option (Bool×List Row)
 | .lst _ b xs=>(mj 0 xs).bind fun l=>some (b,l)
 | _=>none
def eE(es:List Row):Bool:=es.all fun e=>e.own.isSome
def uW:RSh->Bool
 | .rows _ _ _=>true
 | _=>false
def iH(es:List (List T×T)):T:= .lst 2 false (es.map fun p=> [.ptr p.1,p.2])
def rx:List (List T)->Option (List (List T×T))
 | []=>some []
 | [.ptr k,v]::r=>(rx r).bind fun l=>some ((k,v)::l)
 | _=>none
def eO:T->Option (List (List T×T))
 | .lst _ _ xs=>rx xs
 | _=>none
def eG{R:Type}(ids:List Id)(d:Nat)(c:Option Bool)(j:Nat)(r:RSh)(x:T)(K:AV->Upd->Nat->Option R):Option R:=
 match r with
 | .f k=>typK k c x fun x=>K (.t x) [] j
 | .t k=>typK k c x fun x=>K (.t x) [] j
 | .own sz=>match c with
  | none=>gdK none (x.lst? sz) fun p=>K (.own (.s d j)) [(.s d j, .sl false sz p.1 p.2)] (j+1)
  | some _=>none
 | .ref k off=>match ids[k]? with
  | some i=>K (.ref i off) [] j
  | none=>none
 | .same k=>match ids[k]? with
  | some i=>K (.own i) [] j
  | none=>none
 | .rows sz col rsz=>match c with
  | none=>gdK none (eI x) fun p=>K (.own (.s d j)) [(.s d j, .rows p.1 sz col rsz p.2.length p.2)] (j+1)
  | some _=>none
 | .mp ag ks vk=>match c with
  | none=>gdK none (eO x) fun es=>K (.own (.s d j)) [(.s d j, .mp ag ks vk es)] (j+1)
  | some _=>none
 | .no=>K .top [] j
 | .agg _=>none
 | .new _=>none
def cO{R:Type}(ids:List Id)(d:Nat)(c:Option Bool):Nat->List RSh->List T->(List AV->Upd->Nat->Option R)->Option R
 | j,[],_,K=>K [] [] j
 | j,r::rs,xs,K=>gdK c xs.head? fun x=>eG ids d c j r x fun v u j=>cO ids d c j rs xs.tail fun vs us j=>K (v::vs) (u++us) j
def RSh.size:RSh->Nat
 | .agg l=>l.length
 | .new l=>l.length
 | _=>1
def bg{R:Type}(ids:List Id)(d:Nat)(c:Option Bool):Nat->List RSh->List T->(List AV->Upd->Nat->Option R)->Option R
 | j,[],_,K=>K [] [] j
 | j,r::rs,xs,K=>match r with
  | .agg l=>cO ids d c j l xs fun v u j=>bg ids d c j rs (xs.drop l.length) fun vs us j=>K (AV.agg v::vs) (u++us) j
  | .new l=>match c with
   | none=>cO ids d c j l xs fun v u j=>bg ids d c (j+1) rs (xs.drop l.length) fun vs us j'=>K (AV.ref (.s d j) 0::vs) (u++ [(.s d j, .box v)] ++us) j'
   | some _=>none
  | r=>gdK c xs.head? fun x=>eG ids d c j r x fun v u j=>bg ids d c j rs xs.tail fun vs us j=>K (v::vs) (u++us) j
def eC:List RSh->Nat
 | []=>0
 | r::rs=>r.size+eC rs
def bU{R:Type}(all:List Id)(d:Nat):Nat->List Id->List BSh->List T->(Upd->Option R)->Option R
 | j,i::is, .box l::r,xs,K=>cO all d none j l xs fun v u j=>bU all d j is r (xs.drop l.length) fun q=>K (u++ (i, .box v)::q)
 | j,i::is, .sl sz::r,xs,K=>gdK none (xs.head?.bind (T.lst? sz)) fun p=>bU all d j is r xs.tail fun q=>K ((i, .sl false sz p.1 p.2)::q)
 | j,i::is, .mp ag ks vk::r,xs,K=>gdK none (xs.head?.bind eO) fun es=>bU all d j is r xs.tail fun q=>K ((i, .mp ag ks vk es)::q)
 | j,_::is, .dead::r,xs,K=>bU all d j is r xs K
 | _,[],[],_,K=>K []
 | _,_,_,_,_=>none
def dX:List AV->AV
 | [v]=>v
 | vs=> .tup vs
def yN(P:Program)(t:TypeId):RSh:=cond (al P t) (.agg ((jU P t).map fun k=>cond (mO P 8 t) (.f k) (.t k))) (cond (mO P 8 t) (.f (ee P t)) (.t (ee P t)))
def iD:RSh->Bool
 | .f _=>true
 | .agg l=>l.all fun r=>match r with
  | .f _=>true
  | _=>false
 | _=>false
def aP(P:Program)(A:Ann)(f:FuncId)(n:Nat)(fn:Func):List RSh:=
 match A.bref f with
 | some _=>(A.bsig f n).res
 | none=>match A.sig f with
  | some sg=>sg.res
  | none=>fn.resultTypes.toList.map (yN P)
def bY(A:Ann)(f:FuncId)(n:Nat):List BSh:=
 match A.bref f with
 | some _=>(A.bsig f n).outs
 | none=> []
def zh:AV->Bool
 | .own _=>true
 | .part _ _ _ _=>true
 | _=>false
def ce:Option Blk->Nat
 | some (.box cs)=>cs.length+1000 * (cs.filter zh).length
 | _=>0
def bq(c:Option Bool)(m:Option (List T)):Option (List T):=
 match c with
 | none=>m
 | some b=>cond b m (some [])
def typV{R:Type}(P:Program)(c:Option Bool)(t:TypeId)(v:AV)(K:AV->Option R):Option R:=
 match v with
 | .t x=>typK (ee P t) c x fun y=>K (.t y)
 | .agg vs=>match bx vs with
  | some l=>typKs c (jU P t) l fun l=>K (.agg (l.map .t))
  | none=>K (.agg vs)
 | v=>K v
def typVs{R:Type}(P:Program)(c:Option Bool):List TypeId->List AV->(List AV->Option R)->Option R
 | [],vs,K=>K vs
 | _::_,[],K=>K []
 | t::ts,v::vs,K=>typV P c t v fun u=>typVs P c ts vs fun us=>K (u::us)
def rY:List Bool->List AV->List Id
 | b::fl,v::vs=>cond b v.ids [] ++rY fl vs
 | _,_=> []
def kS(h:Id->Option Blk)(keep:List Id)(b:Bool)(v:AV):Option (AV×Upd):=
 cond (b || (!v.ids.isEmpty && v.ids.all keep.contains)) (some (v,[])) (dZ false false h v)
def eP(h:Id->Option Blk)(keep:List Id):List Bool->List AV->Option (List AV×Upd)
 | _,[]=>some ([],[])
 | fl,v::r=>(kS h keep (fl.headD false) v).bind fun p=>(eP h keep fl.tail r).bind fun q=>some (p.1::q.1,p.2++q.2)
def zA(sz col rsz:Nat):Nat:=100000+1000 * sz+100 * col+rsz
def iS(h:Id->Option Blk)(new i:Id)(k sz col rsz:Nat):Option Upd:=
 match h i with
 | some (.box cs)=>match cs[k]? with
  | some (.own _)=>some []
  | some (.t (.emp b))=>cond (h new).isNone (some [(new, .rows b sz col rsz 0 []),(i, .box (cs.set k (.own new)))]) none
  | some (.t (.lst _ true []))=>cond (h new).isNone (some [(new, .rows true sz col rsz 0 []),(i, .box (cs.set k (.own new)))]) none
  | _=>none
 | _=>none
def gg(h:Id->Option Blk)(new i:Id)(k sz:Nat):Option Upd:=
 cond (Nat.ble 100000 sz) (iS h new i k (sz % 100000 / 1000) (sz % 1000 / 100) (sz % 100)) <|
 match h i with
 | some (.box cs)=>match cs[k]? with
  | some (.own _)=>some []
  | some (.t (.emp b))=>cond (h new).isNone (some [(new, .sl false sz b []),(i, .box (cs.set k (.own new)))]) none
  | some (.t (.lst _ true []))=>cond (h new).isNone (some [(new, .sl false sz true []),(i, .box (cs.set k (.own new)))]) none
  | some (.part j sz' 0 n)=>match h j with
   | some (.sl false sz'' b xs)=>if sz''=sz/\sz'=sz/\j≠i then cond (h new).isNone (some [(j, .dead),(new, .sl false sz b (xs.take n)),(i, .box (cs.set k (.own new)))]) none else none
   | _=>none
  | _=>none
 | _=>none
def cS(nm:Nat):Nat->(Id->Option Blk)->List (Id×Nat×Nat)->Option Upd
 | _,_,[]=>some []
 | j,h,(i,k,sz)::r=>(gg h (.s nm j) i k sz).bind fun us=>(cS nm (j+1) (ae h us) r).bind fun vs=>some (us++vs)
def ix:List Id->List Id->List Id
 | [],_=> []
 | i::r,seen=>cond (seen.contains i) (ix r seen) (i::ix r (i::seen))
def fD(i:Id):Nat->List RSh->List (Id×Nat×Nat)
 | _,[]=> []
 | k, .own sz::r=>(i,k,sz)::fD i (k+1) r
 | k, .rows sz col rsz::r=>(i,k,zA sz col rsz)::fD i (k+1) r
 | k,_::r=>fD i (k+1) r
def fj:List Id->List BSh->List (Id×Nat×Nat)
 | i::is, .box l::r=>fD i 0 l++fj is r
 | _::is,_::r=>fj is r
 | _,_=> []
def cV(l:List Id):Upd:=l.map fun i=>(i, .dead)
def oB(d:Nat)(l:List Id):Bool:=l.all fun i=>match i with
 | .s d' _=> !(d'==d)
 | .c _=>true
 | .g _ _=>false
def callAV{R:Type}(P:Program)(A:Ann)(O:Orc)(s:St)(d:Nat)(c:Option Bool)(f:FuncId)(args:List AV)(K:AV->Upd->Option R):Option R:=
 match P.funcs[f]? with
 | none=>none
 | some fn=>
  match A.bref f with
  | none=>(dM ((aP P A f 0 fn).all iD) (A.deep f) s.h args).bind fun p=>
   typVs P c fn.params.toList p.1 fun q=>gdK none (bq c (O (.call f) q [])) fun xs=>bg [] d c 0 (aP P A f 0 fn) xs fun vs u _=>K (dX vs) (p.2++u)
  | some fl=>match c with
   | some _=>none
   | none=>(eP s.h (rY fl args) fl args).bind fun p=>
    (cS (2000000+d) 0 (ae s.h p.2) (fj (ix (aD p.1) []) (bY A f (ce ((aD p.1).head?.bind (ae s.h p.2)))))).bind fun us=>
    (bB (ae (ae s.h p.2) us) 1000 (aD p.1) []).bind fun seen=>
    cond (oB d seen && Nat.beq (ce (seen.map fun i=>rnB seen (ae (ae s.h p.2) us i)).head?) (ce ((aD p.1).head?.bind (ae s.h p.2)))) (typVs P none fn.params.toList (rnL seen p.1) fun q=>
     gdK none (O (.call f) q (seen.map fun i=>rnB seen (ae (ae s.h p.2) us i))) fun xs=>
     bg seen d none 0 (aP P A f (ce ((aD p.1).head?.bind (ae s.h p.2))) fn) xs fun vs u j=>
     bU seen d j seen (bY A f (ce ((aD p.1).head?.bind (ae s.h p.2)))) (xs.drop (eC (aP P A f (ce ((aD p.1).head?.bind (ae s.h p.2))) fn))) fun q=>
     K (dX vs) (p.2++us++cV seen++u++q)) none
def fg:List AV->Option (List AV×Id×Nat×List AV)
 | []=>none
 | .row i n::r=>some ([],i,n,r)
 | v::r=>(fg r).bind fun q=>some (v::q.1,q.2.1,q.2.2.1,q.2.2.2)
def iR(n:Nat):List Row->Option Unit
 | []=>none
 | e::r=>if e.n=n then(match e.own with | none=>some () | some _=>none) else iR n r
def kf{R:Type}(h:Id->Option Blk)(i new:Id)(n rsz:Nat)(K:Upd->Option R):Option R:=
 match h i,h new with
 | some (.rows b sz col rsz' nx es),some (.sl false rsz'' b' xs)=>if rsz'=rsz/\rsz''=rsz then
   gdK none (iR n es) fun _=>K [(i, .rows b sz col rsz nx (bW n (some (b',xs)) es)),(new, .dead)] else none
 | _,_=>none
def wB:Operand->Bool
 | .func _=>false
 | _=>true
def callL{R:Type}(lend:Bool)(P:Program)(A:Ann)(O:Orc)(s:St)(d:Nat)(c:Option Bool)(f:FuncId)(args:List AV)(K:AV->Upd->Option R):Option R:=
 match cond lend (fg args) none with
 | none=>callAV P A O s d c f args K
 | some (l1,i,n,l2)=>match c,s.h i with
  | none,some (.rows b sz col rsz nx es)=>gdK none (cf n es) fun p=>
    cond (s.h (.s (2500000+d) 0)).isNone
     (callAV P A O {t:=s.t,h:=ae s.h [(i, .rows b sz col rsz nx (bW n none es)),(.s (2500000+d) 0, .sl false rsz p.1 p.2)]} d none f (l1++ .own (.s (2500000+d) 0)::l2) fun v us=>
      kf (ae s.h ([(i, .rows b sz col rsz nx (bW n none es)),(.s (2500000+d) 0, .sl false rsz p.1 p.2)] ++us)) i (.s (2500000+d) 0) n rsz fun post=>
       K v ([(i, .rows b sz col rsz nx (bW n none es)),(.s (2500000+d) 0, .sl false rsz p.1 p.2)] ++us++post)) none
  | _,_=>none
theorem zl{R:Type}(P:Program)(A:Ann)(O:Orc)(s:St)(d:Nat)(c:Option Bool)(f:FuncId)(args:List AV)(K:AV->Upd->Option R):callL false P A O s d c f args K=callAV P A O s d c f args K:=rfl
def nS(c:Option Bool)(b:Bool):Option Bool:=some (match c with
 | none=>b
 | some a=>a && b)
def gt{R:Type}(c:Option Bool)(v:AV)(K:Int->Option R):Option R:=
 v.t?.bind fun x=>gdK c (boundAV.anyInt x) K
def aop{R:Type}(P:Program)(A:Ann)(O:Orc)(g:Option Gs)(o:Oper)(s:St)(K:AV->Upd->Option R):Option R:=
 let ev:=s.get g
 let c:=g.map (·.c)
 let d:=o.dst.getD 0
 match o.op with
 | .move x | .assign x=>K (ev x) []
 | .pick k a b=>(ev k).t?.bind fun k'=>gdK c k'.bool? fun kb=>
   (s.getArm g k true a).t?.bind fun x=>gdK (nS c kb) x.bool? fun xb=>
   (s.getArm g k false b).t?.bind fun y=>gdK (nS c (!kb)) y.bool? fun yb=>K (AV.t (.bool (cond kb xb yb))) []
 | .alloc t=>match c with
  | some _=>none
  | none=>(cD P t).bind fun l=>K (.ref (.s d 0) 0) [(.s d 0, .box (l.map .t))]
 | .box _ x=>match c with
  | some _=>none
  | none=>if(b5 (ev x)).all iw then K (.ref (.s d 0) 0) [(.s d 0, .box (b5 (ev x)))] else none
 | .build t ps=>(oV P t ev ps.toList).bind fun v=>K v []
 | .buildSlice t n ps=>(fE P t).bind fun e=>if A.nst o.dst o.type=1 then
   (match c,ps.toList,n with
   | none,[(0,x)],1=>if((b5 (ev x)).length=P.cellsOf e/\(b5 (ev x)).all iw=true)/\P.cellsOf e<=1000/\0 < P.cellsOf e/\(cD P e).isSome=true then K (.own (.s d 0)) [(.s d 0, .arr (b5 (ev x)))] else none
   | _,_,_=>none)
   else if ps.size=n/\n<=1000/\P.cellsOf e<=1000/\0 < P.cellsOf e/\(cD P e).isSome=true then
   if n=0/\A.app o.dst=true then K (.t (.emp false)) [] else
   (cr P s.h e ev 0 ps.toList).bind fun q=>
   match c with
   | some _=>K (.t (.lst (P.cellsOf e) false q.1)) q.2
   | none=>K (.own (.s d 0)) ((.s d 0, .sl false (P.cellsOf e) false q.1)::q.2)
   else none
 | .load t a=>cY P s c t (ev a) fun v=>K v []
 | .store t a x=>match c with
  | some _=>none
  | none=>cu P s t (ev a) (ev x) fun u=>K .top u
 | .nilCheck x=>match ev x with
  | .ref i k=>K (.ref i k) []
  | .el i sz k o=>K (.el i sz k o) []
  | .rel i sz n k o=>K (.rel i sz n k o) []
  | .t y=>gdK c y.ptr? fun cs=>K (.t (.ptr cs)) []
  | .fn f a b=>K (.fn f a b) []
  | _=>none
 | .binOp op t x y ty=>match op,gz P t y,gz P t x with
  | .eql,true,_=>(cE P s t (ev x)).bind fun b=>K (.t (.bool b)) []
  | .neq,true,_=>(cE P s t (ev x)).bind fun b=>K (.t (.bool (!b))) []
  | .eql,_,true=>(cE P s t (ev y)).bind fun b=>K (.t (.bool b)) []
  | .neq,_,true=>(cE P s t (ev y)).bind fun b=>K (.t (.bool (!b))) []
  | .eql,_,_=>ij P c t (ev x) (ev y) fun b=>K (.t (.bool b)) []
  | .neq,_,_=>ij P c t (ev x) (ev y) fun b=>K (.t (.bool (!b))) []
  | op,_,_=>(ev x).t?.bind fun a=>(ev y).t?.bind fun b=>jy P op t ty c a b fun z=>K (.t z) []
 | .unOp op t x=>(ev x).t?.bind fun a=>jk P op t c a fun z=>K (.t z) []
 | .convert src dst x=>match P.underlying src,P.underlying dst with
  | some (.slice e),some .string=>match iU P e with
   | some .u8=>(aS s.h (ev x)).bind fun y=>gdK c ((y.lst? 1).bind fun p=>bytesOf p.2) fun l=>K (.t (.str ⟨l.toArray⟩)) []
   | _=>none
  | _,_=>(ev x).t?.bind fun a=>jJ P c src dst a fun z=>K (.t z) []
 | .makeFunc (.func f) fst caps=>K (.fn f (fst.toList.map ev) (caps.toList.map ev)) []
 | .makeSlice t l m=>match c with
  | some _=>none
  | none=>(ev l).t?.bind fun n=>(ev m).t?.bind fun k=>je P d t (A.nst o.dst o.type) n k K
 | .makeMap t m=>match c,m with
  | none,none=>jv P d t K
  | _,_=>none
 | .lookup t x k ok=>fB P s c t (ev x) (ev k) ok fun v=>K v []
 | .mapUpdate t x k v=>match c with
  | some _=>none
  | none=>fC P s t (ev x) (ev k) (ev v) fun u=>K .top u
 | .slice t x lo hi mx=>
  boundAV s c g lo fun lo=>boundAV s c g hi fun hi=>boundAV s c g mx fun mx=>fq P s c t (ev x) lo hi mx fun v=>K v []
 | .fieldAddr t x f=>iV P c t (ev x) f fun v=>K v []
 | .field t x f=>jO P t (ev x) f fun v=>K v []
 | .indexAddr t x i=>gt c (ev i) fun n=>cJ P s c t (ev x) n fun v=>K v []
 | .index t x i=>gt c (ev i) fun n=>match P.underlying t with
  | some .string=>(ev x).t?.bind fun y=>gdK c y.str? fun b=>cW c n b.size
    (gdK c b.data.toList[n.toNat]? fun u=>K (.t (.int .u8 u.toNat)) [])
  | some (.array m e)=>match ev x with
   | .agg vs=>cond (az P e) ((bx vs).bind fun l=>cW c n m (dC P e c (l.drop (n.toNat * P.cellsOf e)) fun z=>K z [])) none
   | _=>none
  | _=>none
 | .extract x k=>match ev x with
  | .tup vs=>(vs[k]?).bind fun v=>K v []
  | _=>none
 | .call cl=>match cl.callee with
  | .builtin .len=>match cl.args.toList,cl.argTypes.toList with
   | [x],t::_=>eV P s c t (ev x) fun v=>K v []
   | _,_=>none
  | .builtin .append=>match c,cl.args.toList,cl.argTypes.toList with
   | none,[x,y],[t,u]=>dh P s d (A.nst o.dst o.type==3) t u (ev x) (ev y) K
   | _,_,_=>none
  | .builtin .max=>match iU P o.type with
   | some k=>(bx (cl.args.toList.map ev)).bind fun l=>match l with
    | x::r=>gdK c (x.int? k) fun a=>fW k c true a r fun z=>K (.t z) []
    | []=>none
   | none=>none
  | .builtin .min=>match iU P o.type with
   | some k=>(bx (cl.args.toList.map ev)).bind fun l=>match l with
    | x::r=>gdK c (x.int? k) fun a=>fW k c false a r fun z=>K (.t z) []
    | []=>none
   | none=>none
  | .builtin .delete=>match c,cl.args.toList,cl.argTypes.toList with
   | none,[x,y],t::_=>eU P s t (ev x) (ev y) fun u=>K (.tup []) u
   | _,_,_=>none
  | .builtin .cap=>match cl.args.toList,cl.argTypes.toList with
   | [x],t::_=>match P.underlying t with
    | some (.slice _)=>match ev x with
     | .t y=>cond (oN y) (K (.t (.int .i64 0)) []) none
     | _=>none
    | _=>none
   | _,_=>none
  | .value fo=>match ev fo with
   | .fn f a b=>callL (wB fo) P A O s d c f (a++cl.args.toList.map ev++b) K
   | _=>none
  | _=>none
 | _=>none
open Go
section
variable (P:Program) (A:Ann) (O:Orc)
def oe(b want:Bool):Bool:=cond want b (!b)
def gC(g:Option Gs)(b want:Bool):Bool:=
 match g with
 | none=>oe b want
 | some g0=>cond g0.c (oe b want) false
def aT{R:Type}(ops:Array Oper)(o:Oper)(s:St)(K:Option Gs->Option R):Option R:=
 match o.guard with
 | none=>K none
 | some (j,want)=>match(ops[j]?).bind (·.dst) with
  | none=>none
  | some d=>(s.t d).2.t?.bind fun x=>gdK ((s.t d).1.map (·.c)) x.bool? fun b=>
    K (some {d:=d,want:=want,c:=gC (s.t d).1 b want})
def BM:Builtin->Bool
 | .delete=>true
 | _=>false
def isW(o:Oper):Bool:=
 match o.op with
 | .store .. =>true
 | .mapUpdate .. =>true
 | .call cl=>match cl.callee with
  | .builtin .append=>match cl.args.toList with
   | .const (.slice none 0 0)::_=>false
   | _=> !A.app o.dst
  | .builtin b=>BM b
  | .value (.func f)=>match A.bref f with
   | some _=>true
   | none=>match P.funcs[f]? with
    | some _=>A.wr f
    | none=>true
  | _=>true
 | _=>false
def B5(o:Oper):Bool:=
 match o.op with
 | .call cl=>match cl.callee with
  | .value (.func f)=>match P.funcs[f]? with
   | some fn=>(aP P A f 0 fn).all iD
   | none=>false
  | _=>false
 | _=>false
def bR(o:Oper):Bool:=
 match o.op with
 | .move _ | .assign _ | .pick .. | .build .. | .unOp .. | .makeFunc .. | .fieldAddr .. | .field .. | .extract .. | .nilCheck _=>true
 | .binOp _ t x y _=> !(gz P t x || gz P t y)
 | .call cl=>match cl.callee with
  | .builtin .max | .builtin .min=>true
  | _=>false
 | _=>false
def isD(o:Oper):Bool:=
 match o.op with
 | .call cl=>match cl.callee with
  | .value (.func f)=>A.deep f
  | .value _=>true
  | .builtin .append=>A.nst o.dst o.type==3
  | _=>false
 | _=>false
def jg(o:Oper):Bool:=bR P o ||
 match o.op with
 | .load .. | .index .. | .indexAddr .. | .slice .. | .binOp .. | .convert .. | .lookup .. =>true
 | .call cl=>match cl.callee with
  | .builtin .len=>true
  | .value (.func _)=> !isW P A o && B5 P A o
  | _=>false
 | _=>false
def cw(o:Oper):Bool:=
 match o.op with
 | .alloc _ | .box .. | .makeSlice .. | .makeMap .. =>true
 | _=>false
def isR(o:Oper):Bool:=
 match o.op with
 | .call cl=>match cl.callee with
  | .value (.func f)=>(A.bref f).isSome
  | .value _=>true
  | _=>false
 | _=>false
def iO(a b:Oper):Bool:= !((isW P A a && !(bR P b || cw b)) || (isW P A b && !(bR P a || cw a))) && (!isD A a || jg P A b) && (!isD A b || jg P A a)
def bX:List Oper->List Nat
 | []=> []
 | o::r=>match o.dst with
  | some d=>d::bX r
  | none=>bX r
def iT(ops:Array Oper)(a:Nat):Nat:=match ops.find? (fun o=>o.dst==some a) with
 | some o=>match o.op with
  | .fieldAddr _ (.tmp b) _=>b
  | _=>a
 | none=>a
def stA(ops:Array Oper)(o:Oper):Option Nat:=match o.guard,o.op with
 | none, .store _ (.tmp a) _=>some (iT ops a)
 | none, .load _ (.tmp a)=>some (iT ops a)
 | _,_=>none
def st2(ops:Array Oper)(a b:Oper):Bool:=A.st ((ops[0]?).bind (·.dst)) && (match stA ops a,stA ops b with
 | some k,some k'=> !(k==k') && !(bX ops.toList).contains k && !(bX ops.toList).contains k'
 | _,_=>false)
def apA(o:Oper):Bool:=o.guard.isNone && isW P A o && match o.op with
 | .call cl=>match cl.callee with
  | .builtin .append=> !(A.nst o.dst o.type==3)
  | .value (.func f)=>(A.bref f).isNone && !A.deep f
  | _=>false
 | _=>false
def dc(ops:Array Oper)(o:Oper):Option (Option Nat):=match o.guard,o.op with
 | none, .load _ (.tmp a)=>some (some (iT ops a))
 | none, .buildSlice .. =>some none
 | _,_=>none
def ld2(ops:Array Oper)(a b:Oper):Bool:=A.ld ((ops[0]?).bind (·.dst)) && apA P A a && (match dc ops b with
 | some (some k)=> !(bX ops.toList).contains k
 | some none=>true
 | none=>false)
def cK(o:Oper)(k:Bool):Bool:=match o.guard,o.op with
 | none, .store t (.tmp _) _=>(match P.underlying t with
  | some (.slice _)=>k
  | some (.int _)=> !k
  | _=>false)
 | _,_=>false
def st4(ops:Array Oper)(a b:Oper):Bool:=A.sx ((ops[0]?).bind (·.dst)) && cK P a true && cK P b false
def ka:Upd->Bool
 | [(_, .dead),(_, .rows _ _ _ rsz _ _)]=> !(rsz==1)
 | _=>false
def kb:Upd->Bool
 | [(_, .sl false sz _ _)]=>sz==1
 | _=>false
def pm(o:Oper)(s:St):Bool:=match o.op with
 | .store _ _ y=>(s.get none y).ids.isEmpty
 | _=>false
def nr(o:Oper):Bool:=match o.guard,o.op with
 | none, .indexAddr t (.tmp _) _=>(match fE P t with
  | some e=>P.cellsOf e==1
  | none=>false)
 | none, .load _ (.tmp _)=>true
 | _,_=>false
def lD(o:Oper)(s:St):Bool:=match o.op with
 | .load _ x=>(match s.get none x with
  | .ref _ _=>true
  | _=>false)
 | .indexAddr _ x _=>(match s.get none x with
  | .own _=>true
  | _=>false)
 | _=>false
def st5(ops:Array Oper)(a b:Oper):Bool:=A.sx ((ops[0]?).bind (·.dst)) && (cK P a true || cK P a false) && nr P b
def st3(ops:Array Oper)(a b:Oper):Bool:=st2 A ops a b || ld2 P A ops a b || ld2 P A ops b a || (st4 P A ops a b || st4 P A ops b a) || (st5 P A ops a b || st5 P A ops b a)
def bnd(ops:Array Oper):Nat->Nat->Nat->Bool
 | 0,_,_=>false
 | n+1,j,i=>match ops[j]? with
  | none=>false
  | some oj=>oj.after.any fun e=>Region.binds .any e && (e.on==i || (Nat.blt i e.on && bnd ops n e.on i))
def qT(ops:Array Oper)(listed:Array Bool)(i:Nat):Bool:=
 match ops[i]? with
 | none=>false
 | some oi=>(List.range ops.size).all fun j=>match ops[j]? with
  | none=>true
  | some oj=>j==i || listed.getD j true || iO P A oi oj || st3 P A ops oi oj || bnd ops 12 j i
def nN(ops:Array Oper):Nat->Nat->Array Bool->Bool
 | 0,_,_=>true
 | n+1,k,listed=>qT P A ops listed k && nN ops n (k+1) (listed.setIfInBounds k true)
def C0(h:Id->Option Blk)(us:Upd):Bool:=us.all fun p=>(h p.1).isNone
def cC(d:Nat)(h:Id->Option Blk)(us:Upd):Bool:=us.all fun p=>match p.1 with
 | .s d' _=> !(d'==d) || (h p.1).isNone
 | .c _=>true
 | .g _ _=>false
def be(ops:Array Oper)(d:Option Nat):Bool:=
 ops.any fun o=>match o.guard with
  | none=>false
  | some (j,_)=>match(ops[j]?).bind (·.dst),d with
   | some e,some d=>e==d
   | _,_=>false
def jp(ops:Array Oper)(o:Oper)(d:Nat):Bool:=
 (List.range ops.size).all fun i=>match ops[i]? with
  | some oi=> !(oi.dst==some d) || o.after.any (fun e=>Region.binds .any e && (e.on==i || bnd ops 12 e.on i))
  | none=>true
def gx(ops:Array Oper)(g:Option Gs)(o:Oper)(s:St):Bool:=
 o.op.operands.toList.all fun x=>(s.get g x).ids.all fun i=>match i with
  | .s d _=>jp ops o d
  | .c _=>true
  | .g _ _=>false
def dr(o:Oper)(us:Upd):Bool:=us.all fun p=>match p.1 with
 | .s d _=>o.dst==some d
 | .c _=>false
 | .g _ _=>false
def jh(ops:Array Oper)(o:Oper)(us:Upd):Bool:=us.all fun p=>match p.1 with
 | .s d _=>jp ops o d || o.dst==some d
 | .c _=>true
 | .g _ _=>false
def stP(ops:Array Oper)(o o':Oper)(s:St)(us:Upd):Bool:=match stA ops o,stA ops o' with
 | some k,some k'=>(o.op.operands.toList.all fun x=>(s.get none x).ids.all fun i=>decide (i∈(s.t k).2.ids)) && us.all (fun p=>decide (p.1∈(s.t k).2.ids)) && us.all (fun p=>decide (p.1∉(s.t k').2.ids))
 | _,_=>false
def ldA(ops:Array Oper)(o':Oper)(s:St)(us:Upd):Bool:=match dc ops o' with
 | some (some k)=>us.all fun p=>decide (p.1∉(s.t k).2.ids)
 | _=>true
def ldB(ops:Array Oper)(o:Oper)(s:St):Bool:=match dc ops o with
 | some (some k)=>o.op.operands.toList.all fun x=>(s.get none x).ids.all fun i=>decide (i∈(s.t k).2.ids)
 | some none=>o.op.operands.toList.all fun x=>(s.get none x).ids.isEmpty
 | none=>true
def cQ(ops:Array Oper)(o:Oper)(s:St)(us:Upd):Bool:=ops.all fun o'=>(!(st2 A ops o o') || stP ops o o' s us) && (!(ld2 P A ops o o') || ldA ops o' s us) && (!(ld2 P A ops o' o) || ldB ops o s) && ((!(st4 P A ops o o') || ka us) && (!(st4 P A ops o' o) || (kb us && pm o s))) && ((!(st5 P A ops o o') || ka us || kb us) && (!(st5 P A ops o' o) || lD o s))
def gw(draw:Bool)(nt:Nat)(ops:Array Oper)(o:Oper)(g:Option Gs)(s:St)(us:Upd):Bool:=
 (match o.dst with | some d=>decide (d < nt) | none=>true) &&
 (match g with | some g=>us.isEmpty && !(o.dst==some g.d) | none=>true) &&
 cC (o.dst.getD 0) s.h us && (!draw || (gx ops g o s && (isW P A o || dr o us) && (!bR P o || us.isEmpty) && (!jg P A o || us.isEmpty) && (!isW P A o || jh ops o us) && Nat.ble nt 1000000 && cQ P A ops o s us))
def gM(draw:Bool)(o:Oper)(g:Option Gs):Option Gs:=
 match g with
 | some g=>cond (!draw && isR A o) (some g) none
 | none=>none
def mP(nt:Nat)(o:Oper)(g:Gs):Bool:=(match o.dst with | some d=>decide (d < nt) | none=>true) && !(o.dst==some g.d)
def yR(o:Oper):AV:=
 match o.op with
 | .call cl=>match cl.callee with
  | .value (.func f)=>match P.funcs[f]? with
   | some fn=>match aP P A f 0 fn with
    | [.f .b]=> .t (.bool false)
    | [.f (.i k)]=> .t (.int k 0)
    | _=> .top
   | none=> .top
  | _=>match P.underlying o.type with
   | some .bool=> .t (.bool false)
   | some (.int k)=> .t (.int k 0)
   | _=> .top
 | _=> .top
def gB{R:Type}(draw:Bool)(nt:Nat)(ops:Array Oper)(o:Oper)(s:St)(K:St->Option R):Option R:=
 aT ops o s fun g=>match gM A draw o g with
 | some gs=>cond (mP nt o gs) (cond gs.c
   (aop P A O none o (s.openG gs) fun v us=>
    if gw P A draw nt ops o none s us then K (s.put (be ops o.dst) o.dst (some gs) v us) else none)
   (K (s.put (be ops o.dst) o.dst (some gs) (yR P A o) []))) none
 | none=>aop P A O g o s fun v us=>
  if gw P A draw nt ops o g s us then K (s.put (be ops o.dst) o.dst g v us) else none
def lK{R:Type}(draw:Bool)(nt:Nat)(ops:Array Oper):List Oper->St->(St->Option R)->Option R
 | [],s,K=>K s
 | o::r,s,K=>gB P A O draw nt ops o s fun s'=>lK draw nt ops r s' K
def St.clear(s:St):St:=
 {t :=fun k=>match s.t k with
    | (none,v)=>(none,v)
    | (some _,_)=>(none, .top)
  h:=s.h}
def kT:List Nat->Bool
 | []=>true
 | d::r=> !r.contains d && kT r
def iM(ops:Array Oper):Bool:=ops.all fun o=>match o.guard with
 | none=>true
 | some (j,_)=>o.after.any fun e=>Region.binds .any e && e.on==j
def pK(draw:Bool)(ops:Array Oper):Bool:=
 !draw || (Region.lexB .any ops && nN P A ops ops.size 0 (Array.replicate ops.size false) && kT (bX ops.toList) && iM ops)
def region{R:Type}(nt:Nat)(draw:Bool)(ops:Array Oper)(s:St)(K:St->Option R):Option R:=
 cond (pK P A draw ops)
  (lK P A O draw nt ops ops.toList s fun s'=>K s'.clear) none
def iG(h:Id->Option Blk):AV->AV
 | .own i=>match h i with
  | some (.sl true sz b xs)=> .t (.lst sz b xs)
  | _=> .own i
 | .part i sz off n=>match h i with
  | some (.sl true sz' b xs)=>if sz'=sz then .t (.lst sz b ((xs.drop off).take n)) else .part i sz off n
  | _=> .part i sz off n
 | .ref i off=>match h i with
  | some (.fbox l)=> .t (.ptr (l.drop off))
  | _=> .ref i off
 | v=>v
def kI(s:St)(k:Nat×Option Nat):Option (AV×Upd):=
 match s.t k.1 with
 | (some _,_)=>none
 | (none,v)=>match k.2 with
  | none=>some (iG s.h v,[])
  | some sz=>if sz=0\/sz>=1000000 then some (iG s.h v,[]) else match v with
   | .own i=>match s.h i with
    | some (.sl false _ _ _)=>some (.own i,[])
    | _=>none
   | .t (.emp b)=>some (.own (.s (1000000+k.1) 0),[(.s (1000000+k.1) 0, .sl false sz b [])])
   | _=>none
def fS(s:St):List (Nat×Option Nat)->Option (List AV×Upd)
 | []=>some ([],[])
 | k::r=>(kI s k).bind fun p=>(fS s r).bind fun q=>some (p.1::q.1,p.2++q.2)
def toNode1(f:FuncId)(todo:List Item)(live:List (Nat×Option Nat))(m:Nat×Nat)(s:St):Option (List T):=
 (fS s live).bind fun p=>
  if C0 s.h p.2 then
  let h:=ae s.h p.2
  (bB h 1000 ((List.range m.1).map Id.c++aD p.1) []).bind fun seen=>
   O (.node f todo live m) (rnL seen p.1) (seen.map fun i=>rnB seen (h i))
  else none
def gy(s:St):List (Nat×Option Nat)->Upd
 | []=> []
 | (k,some 0)::r=>b7 s.h (s.t k).2++gy s r
 | _::r=>gy s r
def oH(s:St):List (Nat×Option Nat)->List (Id×Nat×Nat)
 | []=> []
 | (k,some n)::r=>match cond (Nat.ble 1000000 n) (s.t k).2 .top with
  | .ref i _=>(i,n / 1000000 - 1,n % 1000000)::oH s r
  | _=>oH s r
 | _::r=>oH s r
def toNode(f:FuncId)(todo:List Item)(live:List (Nat×Option Nat))(m:Nat×Nat)(s:St):Option (List T):=
 (cS 1900000 0 (ae s.h (gy s live)) (oH s live)).bind fun us=>
  toNode1 O f todo live m {t:=s.t,h:=ae (ae s.h (gy s live)) us}
def fromNode(live:List (Nat×Option Nat))(vals:List AV)(blks:List Blk):St:=
 {t:=fun k=>(none,look live vals k)
  h:=fun
   | .c j=>blks[j]?
   | _=>none}
where
 look:List (Nat×Option Nat)->List AV->Nat->AV
 | (k,_)::ks,v::vs,j=>if j=k then v else look ks vs j
 | _,_,_=> .top
def rid:Code->Nat
 | .region id _ _=>id
 | .seq a _=>rid a
 | .block _ b=>rid b
 | .cond _ a _=>rid a
 | _=>1000000
def xy(h:Id->Option Blk)(sz:Nat):AV->Option (T×Id)
 | .own i=>match h i with
  | some (.sl false sz' b xs)=>if sz'=sz then some (.lst sz b xs,i) else none
  | _=>none
 | _=>none
def cF{R:Type}(m:Nat)(h:Id->Option Blk)(r:RSh)(v:AV)(K:T->List Id->List Id->Option R):Option R:=
 match r with
 | .f _=>v.t?.bind fun x=>gdK none x.flat? fun _=>K x [] []
 | .t _=>(aS h v).bind fun x=>K x [] ((b7 h v).map (·.1))
 | .own sz=>match v with
  | .own i=>(xy h sz (.own i)).bind fun p=>K p.1 [p.2] []
  | .part i sz' 0 n=>match h i with
   | some (.sl false sz'' b xs)=>if sz''=sz/\sz'=sz then K (.lst sz b (xs.take n)) [i] [] else none
   | _=>none
  | .t (.emp b)=>K (.emp b) [] []
  | .t (.lst _ true [])=>K (.emp true) [] []
  | _=>none
 | .ref k off=>match v with
  | .ref (.c k') off'=>if k'=k/\off'=off/\k < m then K .nilp [] [] else none
  | _=>none
 | .same k=>match v with
  | .own (.c k')=>if k'=k/\k < m then K .nilp [] [] else none
  | _=>none
 | .rows sz col rsz=>match v with
  | .own i=>match h i with
   | some (.rows b sz' col' rsz' _ es)=>if sz'=sz/\col'=col/\rsz'=rsz then
     gdK none (if eE es=true then some () else none) fun _=>K (pD b es) [i] [] else none
   | _=>none
  | _=>none
 | .mp ag ks vk=>match v with
  | .own i=>match h i with
   | some (.mp ag' ks' vk' es)=>if ag'=ag/\ks'=ks/\vk'=vk then K (iH es) [i] [] else none
   | _=>none
  | _=>none
 | .no=>match v with
  | .ref _ _=>K .nilp [] []
  | _=>none
 | .agg _=>none
 | .new _=>none
def fi{R:Type}(m:Nat)(h:Id->Option Blk):List RSh->List AV->(List T->List Id->List Id->Option R)->Option R
 | [],[],K=>K [] [] []
 | r::rs,v::vs,K=>cF m h r v fun x a b=>fi m h rs vs fun xs a' b'=>K (x::xs) (a++a') (b++b')
 | _,_,_=>none
def bJ{R:Type}(m:Nat)(h:Id->Option Blk):List RSh->List AV->(List T->List Id->List Id->Option R)->Option R
 | [],[],K=>K [] [] []
 | r::rs,v::vs,K=>match r with
  | .agg l=>match v with
   | .agg cs=>fi m h l cs fun xs a b=>bJ m h rs vs fun ys a' b'=>K (xs++ys) (a++a') (b++b')
   | _=>none
  | .new l=>match v with
   | .ref i 0=>match h i with
    | some (.box cs)=>fi m h l cs fun xs a b=>bJ m h rs vs fun ys a' b'=>K (xs++ys) (i:: (a++a')) (b++b')
    | _=>none
   | _=>none
  | r=>cF m h r v fun x a b=>bJ m h rs vs fun xs a' b'=>K (x::xs) (a++a') (b++b')
 | _,_,_=>none
def dL{R:Type}(m:Nat)(h:Id->Option Blk):Nat->List BSh->(List T->List Id->List Id->Option R)->Option R
 | _,[],K=>K [] [] []
 | j, .box l::r,K=>match h (.c j) with
  | some (.box cs)=>fi m h l cs fun xs a b=>dL m h (j+1) r fun ys a' b'=>K (xs++ys) (.c j:: (a++a')) (b++b')
  | _=>none
 | j, .sl sz::r,K=>match h (.c j) with
  | some (.sl false sz' b xs)=>if sz'=sz then dL m h (j+1) r fun ys a' b'=>K (.lst sz b xs::ys) (.c j::a') b' else none
  | _=>none
 | j, .mp ag ks vk::r,K=>match h (.c j) with
  | some (.mp ag' ks' vk' es)=>if ag'=ag/\ks'=ks/\vk'=vk then dL m h (j+1) r fun ys a' b'=>K (iH es::ys) (.c j::a') b' else none
  | _=>none
 | j, .dead::r,K=>dL m h (j+1) r K
def jb{R:Type}(s:St):List ResultVar->(List AV->Option R)->Option R
 | [],K=>K []
 | .tmp k::r,K=>match s.t k with
   | (none,v)=>jb s r fun l=>K (v::l)
   | _=>none
 | .cell k t::r,K=>match s.t k with
   | (none,v)=>cY P s none t v fun v=>jb s r fun l=>K (v::l)
   | _=>none
def oX:List Id->Bool
 | []=>true
 | i::r=> !r.contains i && oX r
def oJ(f:FuncId)(fn:Func)(m:Nat×Nat)(s:St):Option (List T):=
 jb P s fn.results.toList fun vs=>
  if m.1= (bY A f m.2).length then
  bJ m.1 s.h (aP P A f m.2 fn) vs fun xs a b=>dL m.1 s.h 0 (bY A f m.2) fun ys a' b'=>
   if oX (a++a') && (b++b').all (fun i=> !(a++a').contains i) then some (xs++ys) else none
  else none
def kW(col rsz:Nat)(e:Row):List T:=e.cs.set col (match e.own with
 | some p=> .lst rsz p.1 p.2
 | none=> .nilp)
def kx:List AV->List Id
 | []=> []
 | .own i::r=>i::kx r
 | _::r=>kx r
def pr(h:Id->Option Blk)(t:Nat->Option Gs×AV):List ResultVar->List Id
 | []=> []
 | .tmp k::r=>(match(t k).2 with
  | .agg vs=>kx vs
  | v=>kx [v])++pr h t r
 | .cell k _::r=>(match(t k).2 with
  | .ref i _=>match h i with
   | some (.box cs)=>kx cs
   | _=> []
  | _=> [])++pr h t r
def jX{R:Type}:(Id->Option Blk)->List Id->(Upd->Option R)->Option R
 | _,[],K=>K []
 | h,i::r,K=>match h i with
  | some (.rows b sz col rsz _ es)=>gdK none (if eE es=true then some () else none) fun _=>
    jX (ae h [(i, .sl true sz b (es.map (kW col rsz)))]) r fun us=>K ((i, .sl true sz b (es.map (kW col rsz)))::us)
  | _=>jX h r K
def mR(f:FuncId)(fn:Func)(m:Nat×Nat)(s:St):Option (List T):=
 cond ((aP P A f m.2 fn).any uW) (oJ P A f fn m s)
  (jX s.h (pr s.h s.t fn.results.toList) fun us=>oJ P A f fn m {t:=s.t,h:=ae s.h us})
def ev(f:FuncId)(fn:Func)(m:Nat×Nat):Nat->Bool->List Item->St->Option (List T)
 | 0,_,_,_=>none
 | n+1,cut,todo,s=>match todo with
  | []=>mR P A f fn m s
  | .code c::k=>match c with
   | .skip=>ev f fn m n true k s
   | .seq a b=>ev f fn m n cut (.code a:: .code b::k) s
   | .region id ops draw=>match cond cut (A.join f id) none with
    | some live=>toNode O f (.code (.region id ops draw)::k) live m s
    | none=>region P A O fn.ntmps draw ops s fun s'=>ev f fn m n true k s'
   | .cond x a b=>(s.get none x).t?.bind fun y=>gdK none y.bool? fun t=>cond t (ev f fn m n true (.code a::k) s) (ev f fn m n true (.code b::k) s)
   | .block id b=>ev f fn m n cut (.code b:: .inBlock id::k) s
   | .loop b=>match A.live f (rid b) with
    | some live=>toNode O f (.inLoop b::k) live m s
    | none=>none
   | .exit id=>match exitTo id k with
    | some k'=>ev f fn m n true k' s
    | none=>none
   | .ret=>mR P A f fn m s
   | _=>none
  | .inBlock _::k=>ev f fn m n true k s
  | .inLoop b::k=>match A.live f (rid b) with
    | some live=>toNode O f (.inLoop b::k) live m s
    | none=>none
  | _::_=>none
def cP:Nat:=100000
def lM(vals:List AV)(blks:List Blk):St:=
 {t:=fun k=>(none,vals.getD k .top)
  h:=fun
   | .c j=>blks[j]?
   | _=>none}
def stepO:Orc
 | .call f,vals,blks=>match A.ext f vals blks with
  | some r=>some r
  | none=>match P.funcs[f]? with
  | some fn=>match fn.body with
   | some c=>if vals.length<=fn.ntmps then ev P A O f fn (blks.length,ce blks.head?) cP true [.code c] (lM vals blks) else none
   | none=>none
  | none=>none
 | .node f todo live m,vals,blks=>match P.funcs[f]? with
  | some fn=>match todo with
   | .inLoop b::k=>ev P A O f fn m cP true (.code b:: .inLoop b::k) (fromNode live vals blks)
   | todo=>ev P A O f fn m cP false todo (fromNode live vals blks)
  | none=>none
end
def gO(loop:Bool)(r:Nat):Code->List Item->Option (List Item)
 | .seq a b,k=>match gO loop r a (.code b::k) with
  | some t=>some t
  | none=>gO loop r b k
 | .block id b,k=>gO loop r b (.inBlock id::k)
 | .loop b,k=>if loop && rid b==r then some (.inLoop b::k) else gO loop r b (.inLoop b::k)
 | .cond _ a b,k=>match gO loop r a k with
  | some t=>some t
  | none=>gO loop r b k
 | .region id ops draw,k=>if !loop && id==r then some (.code (.region id ops draw)::k) else none
 | _,_=>none
def ak(P:Program)(f:FuncId)(loop:Bool)(r:Nat)(live:List (Nat×Option Nat))(m:Nat×Nat):Key:=
 .node f (match P.funcs[f]? with
  | some fn=>match fn.body with
   | some c=>(gO loop r c []).getD []
   | none=> []
  | none=> []) live m
def cB(P:Program)(A:Ann):Nat->Orc
 | 0=>fun _ _ _=>none
 | n+1=>stepO P A (cB P A n)
open Classical in
noncomputable def orc(P:Program)(A:Ann):Orc:=fun k vs bs=>
 if h:∃n r,cB P A n k vs bs=some r then some (Classical.choose (Classical.choose_spec h)) else none
open Go
section
variable (w:World) (A:Nat->Prop)
mutual
def RelT:T->Value->Prop
 | .int k n,v=>v= .int k n
 | .bool b,v=>v= .bool b
 | .str s,v=>v= .string s
 | .lst sz b xs,v=>(b=true/\xs= []/\v= .slice none 0 0)\/
   (b=false/\∃blk off sp cap,v= .slice (some ⟨blk,off,sp⟩) xs.length cap/\xs.length<=cap/\(xs= []\/(sp=none/\A blk))/\RelEls blk sz off xs)
 | .emp b,v=>(b=true/\v= .slice none 0 0)\/(b=false/\∃blk off sp,v= .slice (some ⟨blk,off,sp⟩) 0 0)
 | .ptr cs,v=>∃blk off,v= .pointer (some ⟨blk,off,none⟩)/\(cs= []\/A blk)/\RelAt blk off cs
 | .nilp,v=>v= .pointer none
 | .nilm,v=>v= .map none
 | .nilf,v=>v= .nilFunc
 | .nili,v=>v= .nilIface
 | .any,v=>v.oneCell'=true/\v.cells= #[v]
def RelEls(blk sz:Nat):Nat->List (List T)->Prop
 | _,[]=>True
 | off,cs::xs=>cs.length=sz/\RelAt blk off cs/\RelEls blk sz (off+sz) xs
def RelAt(blk:Nat):Nat->List T->Prop
 | _,[]=>True
 | off,c::cs=>(∃v,w.cell? ⟨blk,off,none⟩=some v/\RelT c v)/\RelAt blk (off+1) cs
end
def RelTs:List T->List Value->Prop
 | [],vs=>vs= []
 | c::cs,vs=>∃v r,vs=v::r/\RelT w A c v/\RelTs cs r
end
section
variable {w w':World} {A A':Nat->Prop}
theorem fK{a:Addr}(h:w'.heap[a.block]? =w.heap[a.block]?):w'.cell? a=w.cell? a:=by simp [World.cell?,h]
mutual
theorem RelT.mono(h:∀b,A b->A' b/\w'.heap[b]? =w.heap[b]?):∀(t:T) (v:Value),RelT w A t v->RelT w' A' t v
 | .int k n,v,hv=>by simpa [RelT] using hv
 | .bool b,v,hv=>by simpa [RelT] using hv
 | .str s,v,hv=>by simpa [RelT] using hv
 | .emp b,v,hv=>by simpa [RelT] using hv
 | .nilp,v,hv=>by simpa [RelT] using hv
 | .nilm,v,hv=>by simpa [RelT] using hv
 | .nilf,v,hv=>by simpa [RelT] using hv
 | .nili,v,hv=>by simpa [RelT] using hv
 | .any,v,hv=>by simp only [RelT] at hv⊢;exact hv
 | .lst sz b xs,v,hv=>by
  simp only [RelT] at hv⊢
  rcases hv with hv | ⟨hb,blk,off,sp,cap,h1,h2,h3,h4⟩
  ·exact .inl hv
  ·refine .inr ⟨hb,blk,off,sp,cap,h1,h2, ?_, ?_⟩
   ·rcases h3 with h3 | h3
    ·exact .inl h3
    ·exact .inr ⟨h3.1,(h _ h3.2).1⟩
   ·rcases h3 with h3 | h3
    ·subst h3;simp [RelEls]
    ·exact RelEls.mono h blk sz h3.2 off xs h4
 | .ptr cs,v,hv=>by
  simp only [RelT] at hv⊢
  obtain⟨blk,off,h1,h2,h3⟩:=hv
  refine⟨blk,off,h1, ?_, ?_⟩
  ·rcases h2 with h2 | h2
   ·exact .inl h2
   ·exact .inr (h _ h2).1
  ·rcases h2 with h2 | h2
   ·subst h2;simp [RelAt]
   ·exact RelAt.mono h blk h2 off cs h3
theorem RelEls.mono(h:∀b,A b->A' b/\w'.heap[b]? =w.heap[b]?)(blk sz:Nat)(hb:A blk):∀(off:Nat) (xs:List (List T)),RelEls w A blk sz off xs->RelEls w' A' blk sz off xs
 | _,[],_=>by simp [RelEls]
 | off,cs::xs,hv=>by
  simp only [RelEls] at hv⊢
  exact⟨hv.1,RelAt.mono h blk hb off cs hv.2.1,RelEls.mono h blk sz hb (off+sz) xs hv.2.2⟩
theorem RelAt.mono(h:∀b,A b->A' b/\w'.heap[b]? =w.heap[b]?)(blk:Nat)(hb:A blk):∀(off:Nat) (cs:List T),RelAt w A blk off cs->RelAt w' A' blk off cs
 | _,[],_=>by simp [RelAt]
 | off,c::cs,hv=>by
  simp only [RelAt] at hv⊢
  obtain⟨⟨v,hc,hr⟩,hrest⟩:=hv
  exact⟨⟨v,by rw [fK (w:=w) (by exact(h blk hb).2)];exact hc,RelT.mono h c v hr⟩,RelAt.mono h blk hb (off+1) cs hrest⟩
end
theorem RelAt.mono'(h:∀b,A b->A' b/\w'.heap[b]? =w.heap[b]?)(blk:Nat)(hb:w'.heap[blk]? =w.heap[blk]?):∀(off:Nat) (cs:List T),RelAt w A blk off cs->RelAt w' A' blk off cs
 | _,[],_=>by simp [RelAt]
 | off,c::cs,hv=>by
  simp only [RelAt] at hv⊢
  obtain⟨⟨v,hc,hr⟩,hrest⟩:=hv
  exact⟨⟨v,by rw [fK (w:=w) (by exact hb)];exact hc,RelT.mono h c v hr⟩,RelAt.mono' h blk hb (off+1) cs hrest⟩
theorem RelEls.mono'(h:∀b,A b->A' b/\w'.heap[b]? =w.heap[b]?)(blk sz:Nat)(hb:w'.heap[blk]? =w.heap[blk]?):∀(off:Nat) (xs:List (List T)),RelEls w A blk sz off xs->RelEls w' A' blk sz off xs
 | _,[],_=>by simp [RelEls]
 | off,cs::xs,hv=>by
  simp only [RelEls] at hv⊢
  exact⟨hv.1,RelAt.mono' h blk hb off cs hv.2.1,RelEls.mono' h blk sz hb (off+sz) xs hv.2.2⟩
theorem RelTs.mono(h:∀b,A b->A' b/\w'.heap[b]? =w.heap[b]?):∀(cs:List T) (vs:List Value),RelTs w A cs vs->RelTs w' A' cs vs
 | [],_,hv=>hv
 | c::cs,vs,⟨v,r,e,h1,h2⟩=>⟨v,r,e,RelT.mono h c v h1,RelTs.mono h cs r h2⟩
theorem RelEls.get{blk sz:Nat}:∀{off:Nat} {xs:List (List T)},RelEls w A blk sz off xs->∀{k:Nat} {cs:List T},xs[k]? =some cs->cs.length=sz/\RelAt w A blk (off+k * sz) cs
 | off,cs::xs,h,0,cs',e=>by
  simp only [RelEls] at h
  simp at e;subst e
  exact⟨h.1,by simpa using h.2.1⟩
 | off,cs::xs,h,k+1,cs',e=>by
  simp only [RelEls] at h
  have:=RelEls.get h.2.2 (k:=k) (cs:=cs') (by simpa using e)
  refine⟨this.1, ?_⟩
  have he:off+ (k+1) * sz=off+sz+k * sz:=by rw [Nat.succ_mul];omega
  rw [he];exact this.2
theorem RelAt.get{blk:Nat}:∀{off:Nat} {cs:List T},RelAt w A blk off cs->∀{k:Nat} {c:T},cs[k]? =some c->∃v,w.cell? ⟨blk,off+k,none⟩=some v/\RelT w A c v
 | off,c::cs,h,0,c',e=>by
  simp only [RelAt] at h
  simp at e;subst e
  exact h.1
 | off,c::cs,h,k+1,c',e=>by
  simp only [RelAt] at h
  have:=RelAt.get h.2 (k:=k) (c:=c') (by simpa using e)
  have he:off+1+k=off+ (k+1):=by omega
  rw [he] at this;exact this
theorem RelAt.drop{blk:Nat}:∀{off:Nat} {cs:List T},RelAt w A blk off cs->∀(n:Nat),RelAt w A blk (off+n) (cs.drop n)
 | _,_,h,0=>by simpa using h
 | _,[],_,n+1=>by simp [RelAt]
 | off,c::cs,h,n+1=>by
  simp only [RelAt] at h
  have:=RelAt.drop h.2 n
  have he:off+1+n=off+ (n+1):=by omega
  rw [he] at this
  simpa using this
theorem RelEls.drop{blk sz:Nat}:∀{off:Nat} {xs:List (List T)},RelEls w A blk sz off xs->∀(n:Nat),RelEls w A blk sz (off+n * sz) (xs.drop n)
 | _,_,h,0=>by simpa using h
 | _,[],_,n+1=>by simp [RelEls]
 | off,cs::xs,h,n+1=>by
  simp only [RelEls] at h
  have:=RelEls.drop h.2.2 n
  have he:off+sz+n * sz=off+ (n+1) * sz:=by rw [Nat.succ_mul];omega
  rw [he] at this
  simpa using this
theorem RelEls.take{blk sz:Nat}:∀{off:Nat} {xs:List (List T)},RelEls w A blk sz off xs->∀(n:Nat),RelEls w A blk sz off (xs.take n)
 | _,_,_,0=>by simp [RelEls]
 | _,[],_,n+1=>by simp [RelEls]
 | off,cs::xs,h,n+1=>by
  simp only [RelEls] at h
  simp only [List.take_succ_cons,RelEls]
  exact⟨h.1,h.2.1,RelEls.take h.2.2 n⟩
theorem RelEls.append{blk sz:Nat}:∀{off:Nat} {xs ys:List (List T)},RelEls w A blk sz off xs->RelEls w A blk sz (off+xs.length * sz) ys->RelEls w A blk sz off (xs++ys)
 | off,[],ys,_,h=>by simpa using h
 | off,cs::xs,ys,h,h'=>by
  simp only [RelEls] at h
  simp only [List.cons_append,RelEls]
  refine⟨h.1,h.2.1,RelEls.append h.2.2 ?_⟩
  have he:off+sz+xs.length * sz=off+ (cs::xs).length * sz:=by simp [Nat.succ_mul];omega
  rw [he];exact h'
theorem RelT.oneCell{t:T}{v:Value}(h:RelT w A t v):v.oneCell'=true/\v.cells= #[v]:=by
 cases t <;> simp only [RelT] at h
 case lst=>rcases h with⟨_,_,rfl⟩ | ⟨_,_,_,_,_,rfl,_⟩ <;> exact⟨rfl,rfl⟩
 case emp=>rcases h with⟨_,rfl⟩ | ⟨_,_,_,_,rfl⟩ <;> exact⟨rfl,rfl⟩
 case ptr=>obtain⟨_,_,rfl,_⟩:=h;exact⟨rfl,rfl⟩
 case any=>exact h
 all_goals subst h;exact⟨rfl,rfl⟩
theorem RelTs.length:∀{cs:List T} {vs:List Value},RelTs w A cs vs->vs.length=cs.length
 | [],_,h=>by simp only [RelTs] at h;simp [h]
 | c::cs,vs,⟨v,r,e,_,h⟩=>by subst e;simp [RelTs.length h]
end
section
variable (w:World) (A:Nat->Prop) (ρ:Id->Option Value)
mutual
def RelV:AV->Value->Prop
 | .top,_=>True
 | .t x,v=>RelT w A x v
 | .tup vs,v=>∃ws:List Value,v= .tuple ws.toArray/\RelVs vs ws
 | .agg vs,v=>∃ws:List Value,v= .agg ws.toArray/\RelVs vs ws/\∀u∈ws,u.oneCell'=true/\u.cells= #[u]
 | .ref i off,v=>∃b,ρ i=some (.pointer (some ⟨b,0,none⟩))/\v= .pointer (some ⟨b,off,none⟩)
 | .el i sz k off,v=>∃b o L cap,ρ i=some (.slice (some ⟨b,o,none⟩) L cap)/\v= .pointer (some ⟨b,o+k * sz+off,none⟩)
 | .own i,v=>ρ i=some v
 | .part i sz off n,v=>∃a L cap a',ρ i=some (.slice a L cap)/\off+n<=L/\L<=cap/\v= .slice a' n (cap - off)/\
   ((off=0/\a'=a)\/(off=cap/\(a'=none↔a=none)/\True)\/∃b o,a=some ⟨b,o,none⟩/\a'=some ⟨b,o+off * sz,none⟩)
 | .row i n,v=>ρ (.g i n)=some v
 | .rel i sz n k off,v=>∃b o L cap,ρ (.g i n)=some (.slice (some ⟨b,o,none⟩) L cap)/\v= .pointer (some ⟨b,o+k * sz+off,none⟩)
 | .fn f xs ys,v=>∃x' y':List Value,v= .func (.func f) x'.toArray y'.toArray/\RelVs xs x'/\RelVs ys y'
def RelVs:List AV->List Value->Prop
 | [],vs=>vs= []
 | a::as,vs=>∃v r,vs=v::r/\RelV a v/\RelVs as r
end
end
section
variable {w w':World} {A A':Nat->Prop} {ρ ρ':Id->Option Value}
mutual
theorem RelV.mono(h:∀b,A b->A' b/\w'.heap[b]? =w.heap[b]?)(hρ:∀i v,ρ i=some v->ρ' i=some v):∀(a:AV) (v:Value),RelV w A ρ a v->RelV w' A' ρ' a v
 | .top,_,_=>by simp [RelV]
 | .t x,v,hv=>by simp only [RelV] at hv⊢;exact RelT.mono h x v hv
 | .tup vs,v,hv=>by
  simp only [RelV] at hv⊢;obtain⟨ws,e,hw⟩:=hv;exact⟨ws,e,RelVs.mono h hρ vs ws hw⟩
 | .agg vs,v,hv=>by
  simp only [RelV] at hv⊢;obtain⟨ws,e,hw,hc⟩:=hv;exact⟨ws,e,RelVs.mono h hρ vs ws hw,hc⟩
 | .ref i off,v,hv=>by
  simp only [RelV] at hv⊢;obtain⟨b,e,hw⟩:=hv;exact⟨b,hρ _ _ e,hw⟩
 | .el i sz k off,v,hv=>by
  simp only [RelV] at hv⊢;obtain⟨b,o,L,cap,e,hw⟩:=hv;exact⟨b,o,L,cap,hρ _ _ e,hw⟩
 | .own i,v,hv=>by simp only [RelV] at hv⊢;exact hρ _ _ hv
 | .part i sz off n,v,hv=>by
  simp only [RelV] at hv⊢;obtain⟨a,L,cap,a',e,hw⟩:=hv;exact⟨a,L,cap,a',hρ _ _ e,hw⟩
 | .row i n,v,hv=>by simp only [RelV] at hv⊢;exact hρ _ _ hv
 | .rel i sz n k off,v,hv=>by
  simp only [RelV] at hv⊢;obtain⟨b,o,L,cap,e,hw⟩:=hv;exact⟨b,o,L,cap,hρ _ _ e,hw⟩
 | .fn f xs ys,v,hv=>by
  simp only [RelV] at hv⊢;obtain⟨x',y',e,h1,h2⟩:=hv;exact⟨x',y',e,RelVs.mono h hρ xs x' h1,RelVs.mono h hρ ys y' h2⟩
theorem RelVs.mono(h:∀b,A b->A' b/\w'.heap[b]? =w.heap[b]?)(hρ:∀i v,ρ i=some v->ρ' i=some v):∀(as:List AV) (vs:List Value),RelVs w A ρ as vs->RelVs w' A' ρ' as vs
 | [],_,hv=>by simpa [RelVs] using hv
 | a::as,vs,hv=>by
  simp only [RelVs] at hv⊢;obtain⟨v,r,e,h1,h2⟩:=hv;exact⟨v,r,e,RelV.mono h hρ a v h1,RelVs.mono h hρ as r h2⟩
end
theorem RelVs.length:∀{as:List AV} {vs:List Value},RelVs w A ρ as vs->vs.length=as.length
 | [],_,h=>by simp only [RelVs] at h;simp [h]
 | a::as,vs,h=>by simp only [RelVs] at h;obtain⟨v,r,e,_,h⟩:=h;subst e;simp [RelVs.length h]
theorem RelVs.get:∀{as:List AV} {vs:List Value},RelVs w A ρ as vs->∀{k:Nat} {a:AV},as[k]? =some a->∃v,vs[k]? =some v/\RelV w A ρ a v
 | a::as,vs,h,0,a',e=>by
  simp only [RelVs] at h;obtain⟨v,r,rfl,h1,_⟩:=h
  simp at e;subst e;exact⟨v,rfl,h1⟩
 | a::as,vs,h,k+1,a',e=>by
  simp only [RelVs] at h;obtain⟨v,r,rfl,_,h⟩:=h
  obtain⟨u,hu,hr⟩:=RelVs.get h (k:=k) (a:=a') (by simpa using e)
  exact⟨u,by simpa using hu,hr⟩
theorem RelVs.append:∀{as bs:List AV} {vs us:List Value},RelVs w A ρ as vs->RelVs w A ρ bs us->RelVs w A ρ (as++bs) (vs++us)
 | [],_,_,_,h,h'=>by simp only [RelVs] at h;subst h;simpa using h'
 | a::as,bs,vs,us,h,h'=>by
  simp only [RelVs] at h;obtain⟨v,r,rfl,h1,h⟩:=h
  simp only [List.cons_append,RelVs]
  exact⟨v,r++us,rfl,h1,RelVs.append h h'⟩
theorem RelVs.drop:∀{as:List AV} {vs:List Value},RelVs w A ρ as vs->∀n,RelVs w A ρ (as.drop n) (vs.drop n)
 | _,_,h,0=>by simpa using h
 | [],vs,h,n+1=>by simp only [RelVs] at h;subst h;simp [RelVs]
 | a::as,vs,h,n+1=>by
  simp only [RelVs] at h;obtain⟨v,r,rfl,h1,h⟩:=h
  simpa using RelVs.drop h n
theorem RelVs.take:∀{as:List AV} {vs:List Value},RelVs w A ρ as vs->∀n,RelVs w A ρ (as.take n) (vs.take n)
 | _,_,_,0=>by simp [RelVs]
 | [],vs,h,n+1=>by simp only [RelVs] at h;subst h;simp [RelVs]
 | a::as,vs,h,n+1=>by
  simp only [RelVs] at h;obtain⟨v,r,rfl,h1,h⟩:=h
  simp only [List.take_succ_cons,RelVs]
  exact⟨v,r.take n,rfl,h1,RelVs.take h n⟩
theorem RelVs.of_ts:∀{cs:List T} {vs:List Value},RelTs w A cs vs->RelVs w A ρ (cs.map .t) vs
 | [],_,h=>by simpa [RelVs,RelTs] using h
 | c::cs,vs,⟨v,r,e,h1,h2⟩=>by
  simp only [List.map_cons,RelVs];exact⟨v,r,e,by simpa [RelV] using h1,RelVs.of_ts h2⟩
theorem RelTs.of_allT:∀{as:List AV} {cs:List T} {vs:List Value},bx as=some cs->RelVs w A ρ as vs->RelTs w A cs vs
 | [],cs,vs,h,hv=>by simp only [bx,Option.some.injEq] at h;subst h;simpa [RelTs,RelVs] using hv
 | a::as,cs,vs,h,hv=>by
  cases a <;> simp only [bx,reduceCtorEq] at h
  case t x=>
   cases hl:bx as with
   | none=>simp [hl] at h
   | some l=>
    simp only [hl,Option.bind_some,Option.some.injEq] at h;subst h
    simp only [RelVs,RelV] at hv
    obtain⟨v,r,e,h1,h2⟩:=hv
    exact⟨v,r,e,h1,RelTs.of_allT hl h2⟩
end
open Go
section
variable {R S α:Type}
theorem aw[Inhabited α](c:Option Bool)(m:Option α)(k:α->Option R)(f:R->Option S):(gdK c m k).bind f=gdK c m fun a=>(k a).bind f:=by
 unfold gdK
 cases m with
 | some a=>rfl
 | none=>cases c with
  | none=>rfl
  | some b=>cases b <;> rfl
theorem ah[Inhabited α]{c:Option Bool}{m:Option α}{k:α->Option R}{r:R}(h:gdK c m k=some r)(hc:c=none\/c=some true):∃a,m=some a/\k a=some r:=by
 unfold gdK at h
 cases m with
 | some a=>exact⟨a,rfl,h⟩
 | none=>rcases hc with rfl | rfl <;> simp at h
theorem eu(c:Bool)(x y:Option R)(f:R->Option S):(cond c x y).bind f=cond c (x.bind f) (y.bind f):=by cases c <;> rfl
theorem aJ(c:Prop)[Decidable c](x y:Option R)(f:R->Option S):(if c then x else y).bind f=if c then x.bind f else y.bind f:=by split <;> rfl
theorem am(f:R->Option S):(none:Option R).bind f=none:=rfl
theorem o5(c:Option Bool):∀(n:Nat) (cs:List T) (K:List T->Option R) (f:R->Option S),(fU c n cs K).bind f=fU c n cs fun x=>(K x).bind f
 | 0,_,_,_=>rfl
 | n+1,cs,K,f=>by simp only [fU,aw,o5 c n]
theorem eW(k:Ck)(c:Option Bool)(x:T)(K:T->Option R)(f:R->Option S):(typK k c x K).bind f=typK k c x fun x=>(K x).bind f:=by
 unfold typK;cases k <;> simp only [aw]
theorem i0(c:Option Bool):∀(ks:List Ck) (xs:List T) (K:List T->Option R) (f:R->Option S),(typKs c ks xs K).bind f=typKs c ks xs fun x=>(K x).bind f
 | [],_,_,_=>rfl
 | _::_,[],_,_=>rfl
 | k::ks,x::xs,K,f=>by simp only [typKs,eW,i0 c ks xs]
theorem zm(op:BinOp)(k:IntKind)(c:Option Bool)(x y:T)(K:T->Option R)(f:R->Option S):(jx op k c x y K).bind f=jx op k c x y fun x=>(K x).bind f:=by
 unfold jx;cases op <;> simp only [aw,am]
theorem zX(op:BinOp)(k ky:IntKind)(c:Option Bool)(x y:T)(K:T->Option R)(f:R->Option S):(iF op k ky c x y K).bind f=iF op k ky c x y fun x=>(K x).bind f:=by
 unfold iF;cases op <;> simp only [aw,am]
theorem C7(op:BinOp)(c:Option Bool)(x y:T)(K:T->Option R)(f:R->Option S):(jG op c x y K).bind f=jG op c x y fun x=>(K x).bind f:=by
 unfold jG;cases op <;> simp only [aw,am]
theorem wV(P:Program)(c:Option Bool)(t:TypeId)(x y:T)(K:Bool->Option R)(f:R->Option S):(eqC P c t x y K).bind f=eqC P c t x y fun x=>(K x).bind f:=by
 unfold eqC;split <;> simp only [aw,am]
theorem sC(P:Program)(c:Option Bool):∀(ts:List TypeId) (xs ys:List T) (K:Bool->Option R) (f:R->Option S),(bp P c ts xs ys K).bind f=bp P c ts xs ys fun x=>(K x).bind f
 | [],[],[],_,_=>rfl
 | t::ts,x::xs,y::ys,K,f=>by simp only [bp,wV,sC P c ts xs ys]
 | [],[],_::_,_,_=>rfl
 | [],_::_,_,_,_=>rfl
 | _::_,[],_,_,_=>rfl
 | _::_,_::_,[],_,_=>rfl
theorem AC(P:Program)(op:BinOp)(t ty:TypeId)(c:Option Bool)(x y:T)(K:T->Option R)(f:R->Option S):(jy P op t ty c x y K).bind f=jy P op t ty c x y fun x=>(K x).bind f:=by
 unfold jy;cases op <;> simp only [] <;> first | rfl | (split <;> simp only [zm,zX,C7,am])
theorem AM(P:Program)(c:Option Bool)(t:TypeId)(x y:AV)(K:Bool->Option R)(f:R->Option S):(ij P c t x y K).bind f=ij P c t x y fun x=>(K x).bind f:=by
 unfold ij;split <;> simp only [eu,aw,wV,sC,Option.bind_assoc,am]
theorem zp(P:Program)(op:UnOp)(t:TypeId)(c:Option Bool)(x:T)(K:T->Option R)(f:R->Option S):(jk P op t c x K).bind f=jk P op t c x fun x=>(K x).bind f:=by
 unfold jk;split <;> simp only [aw,am]
theorem kc(P:Program)(t:TypeId)(c:Option Bool)(cs:List T)(K:AV->Option R)(f:R->Option S):(dC P t c cs K).bind f=dC P t c cs fun x=>(K x).bind f:=by
 unfold dC;simp only [eu,aw,o5,eW,i0]
theorem wE(P:Program)(t:TypeId)(cs:List AV)(K:AV->Option R)(f:R->Option S):(fk P t cs K).bind f=fk P t cs fun x=>(K x).bind f:=by
 unfold fk;simp only [eu,Option.bind_assoc]
theorem rZ(h:Id->Option Blk)(c:Option Bool)(i:Id)(n:Nat)(K:Nat->Bool->List (List T)->Option R)(f:R->Option S):(dP h c i n K).bind f=dP h c i n fun a b l=>(K a b l).bind f:=by
 unfold dP;split <;> simp only [aw,am]
theorem Do(P:Program)(t:TypeId)(c:Option Bool)(i:Id)(sz col off:Nat)(e:Row)(K:AV->Option R)(f:R->Option S):(iX P t c i sz col off e K).bind f=iX P t c i sz col off e fun x=>(K x).bind f:=by
 unfold iX;simp only [eu,aJ,aw,o5,eW,i0,am]
theorem A3(P:Program)(s:St)(c:Option Bool)(t:TypeId)(a:AV)(K:AV->Option R)(f:R->Option S):(cY P s c t a K).bind f=cY P s c t a fun x=>(K x).bind f:=by
 unfold cY;rw [eu];congr 1;split
 ·split <;> simp only [wE,kc,am]
 ·split <;> simp only [aJ,aw,kc,Do,am]
 ·simp only [rZ,aJ,aw,kc,am]
 ·simp only [aw,kc]
 ·rfl
theorem Dm(P:Program)(s:St)(t:TypeId)(a v:AV)(K:Upd->Option R)(f:R->Option S):(cu P s t a v K).bind f=cu P s t a v fun x=>(K x).bind f:=by
 unfold cu;rw [eu];congr 1;split
 ·split <;> simp only [aJ,am]
 ·split
  ·simp only [Option.bind_assoc,aJ,aw,am]
  ·split
   ·split <;> simp only [aJ,aw,am]
   ·rfl
  ·rfl
 ·split <;> simp only [Option.bind_assoc,aJ,aw,am]
 ·rfl
theorem hI(c:Option Bool)(i:Int)(n:Nat)(K:Option R)(f:R->Option S):(cW c i n K).bind f=cW c i n (K.bind f):=by
 unfold cW;simp only [aw]
theorem C6(P:Program)(s:St)(c:Option Bool)(t:TypeId)(x:AV)(i:Int)(K:AV->Option R)(f:R->Option S):(cJ P s c t x i K).bind f=cJ P s c t x i fun x=>(K x).bind f:=by
 unfold cJ;split
 ·split
  ·split <;> simp only [aJ,hI,am]
  ·simp only [rZ,aJ,hI,am]
  ·split <;> simp only [aJ,hI,am]
  ·simp only [aw,hI]
  ·rfl
 ·split
  ·rw [hI];congr 1;split <;> simp only [aw,am]
  ·rfl
theorem Ec(P:Program)(c:Option Bool)(t:TypeId)(x:AV)(k:Nat)(K:AV->Option R)(f:R->Option S):(iV P c t x k K).bind f=iV P c t x k fun x=>(K x).bind f:=by
 unfold iV;split
 ·rw [aJ];congr 1;split <;> simp only [aw,am]
 ·rfl
theorem Cc(P:Program)(t:TypeId)(x:AV)(k:Nat)(K:AV->Option R)(f:R->Option S):(jO P t x k K).bind f=jO P t x k fun x=>(K x).bind f:=by
 unfold jO;split
 ·split <;> simp only [wE,am]
 ·rfl
theorem zk(P:Program)(s:St)(c:Option Bool)(t:TypeId)(x:AV)(K:AV->Option R)(f:R->Option S):(eV P s c t x K).bind f=eV P s c t x fun x=>(K x).bind f:=by
 unfold eV;split
 ·split <;> simp only [aw,am]
 ·rfl
 ·split
  ·split <;> rfl
  ·simp only [rZ]
  ·rfl
  ·simp only [aw]
  ·rfl
 ·rfl
theorem Dw(s:St)(c:Option Bool)(g:Option Gs)(o:Option Operand)(K:Option Int->Option R)(f:R->Option S):(boundAV s c g o K).bind f=boundAV s c g o fun x=>(K x).bind f:=by
 unfold boundAV;split
 ·rfl
 ·simp only [Option.bind_assoc,aw]
theorem Ag(P:Program)(s:St)(c:Option Bool)(t:TypeId)(x:AV)(lo hi mx:Option Int)(K:AV->Option R)(f:R->Option S):(fq P s c t x lo hi mx K).bind f=fq P s c t x lo hi mx fun x=>(K x).bind f:=by
 unfold fq;split
 ·split <;> simp only [aw,am]
 ·split
  ·split
   ·split <;> simp only [aJ,aw,am]
   ·split <;> simp only [aJ,aw,am]
   ·simp only [aJ,aw,am]
   ·rfl
  ·split
   ·simp only [aJ,aw,am]
   ·split <;> simp only [aJ,aw,am]
   ·rfl
 ·rfl
theorem CI(P:Program)(s:St)(t:TypeId)(sz:Nat)(zs:List T)(y:AV)(K:List (List T)->Option R)(f:R->Option S):(eJ P s t sz zs y K).bind f=eJ P s t sz zs y fun x=>(K x).bind f:=by
 unfold eJ;split <;> simp only [Option.bind_assoc,aJ,aw,am]
theorem yM(P:Program)(s:St)(d:Nat)(e:TypeId)(i:Id)(sz col rsz nx:Nat)(es:List Row)(j:Id)(cs:List AV)(K:AV->Upd->Option R)(f:R->Option S):(gU P s d e i sz col rsz nx es j cs K).bind f=gU P s d e i sz col rsz nx es j cs fun v u=>(K v u).bind f:=by
 unfold gU;rw [aJ];congr 1;rw [Option.bind_assoc];congr 1;funext l;split
 ·split <;> simp only [aJ,aw,am]
 ·split <;> simp only [aJ,aw,am]
 ·rfl
theorem BJ(P:Program)(s:St)(d:Nat)(rw:Bool)(t ty:TypeId)(x y:AV)(K:AV->Upd->Option R)(f:R->Option S):(dh P s d rw t ty x y K).bind f=dh P s d rw t ty x y fun v u=>(K v u).bind f:=by
 unfold dh;rw [Option.bind_assoc];congr 1;funext e;rw [Option.bind_assoc];congr 1;funext zs;rw [aJ];congr 1
 split
 ·split <;> simp only [yM,am]
 ·rw [CI];congr 1;funext ys
  split
  ·split <;> simp only [aJ,aw,am]
  ·split <;> simp only [aJ,aw,am]
  ·simp only [Option.bind_assoc,aw]
  ·rfl
theorem DF(P:Program)(d:Nat)(t:TypeId)(ns:Nat)(n m:T)(K:AV->Upd->Option R)(f:R->Option S):(je P d t ns n m K).bind f=je P d t ns n m fun v u=>(K v u).bind f:=by
 unfold je
 rw [Option.bind_assoc];congr 1;funext e;rw [Option.bind_assoc];congr 1;funext zs;rw [aw];congr 1;funext n;rw [aw];congr 1;funext m;rw [aJ];congr 1;rw [aw];congr 1;funext _;rw [eu];congr 1
 split <;> simp only [aJ,am]
theorem qa(P:Program)(k:TypeId)(c:Option Bool)(v:AV)(K:Bool->List Ck->List T->Option R)(f:R->Option S):(fZ P k c v K).bind f=fZ P k c v fun a b l=>(K a b l).bind f:=by
 unfold fZ;rw [Option.bind_assoc];congr 1;funext q;split <;> simp only [i0,Option.bind_assoc,aJ,am]
theorem BA(P:Program)(s:St)(c:Option Bool)(t:TypeId)(x k:AV)(ok:Bool)(K:AV->Option R)(f:R->Option S):(fB P s c t x k ok K).bind f=fB P s c t x k ok fun v=>(K v).bind f:=by
 unfold fB;rw [Option.bind_assoc];congr 1;funext q;rw [Option.bind_assoc];congr 1;funext z;rw [qa];congr 1;funext a b l
 split
 ·split
  ·rw [aJ];simp only [eW,am]
  ·rfl
 ·rfl
theorem CO(P:Program)(d:Nat)(t:TypeId)(K:AV->Upd->Option R)(f:R->Option S):(jv P d t K).bind f=jv P d t fun v u=>(K v u).bind f:=by
 unfold jv;simp only [Option.bind_assoc,aJ,am]
theorem Aw(P:Program)(s:St)(t:TypeId)(x k:AV)(K:Upd->Option R)(f:R->Option S):(eU P s t x k K).bind f=eU P s t x k fun u=>(K u).bind f:=by
 unfold eU;rw [Option.bind_assoc];congr 1;funext q;rw [qa];congr 1;funext a b l
 split
 ·split
  ·rw [aJ];rfl
  ·rfl
 ·rfl
theorem zt(P:Program)(s:St)(t:TypeId)(x k v:AV)(K:Upd->Option R)(f:R->Option S):(fC P s t x k v K).bind f=fC P s t x k v fun u=>(K u).bind f:=by
 unfold fC;rw [Option.bind_assoc];congr 1;funext q;rw [qa];congr 1;funext a b l
 split
 ·split
  ·rw [aJ];simp only [Option.bind_assoc,eW,am]
  ·rfl
 ·rfl
theorem rq(k:IntKind)(c:Option Bool)(b:Bool):∀(l:List T) (a:Int) (K:T->Option R) (f:R->Option S),(fW k c b a l K).bind f=fW k c b a l fun x=>(K x).bind f
 | [],_,_,_=>rfl
 | y::r,a,K,f=>by simp only [fW,aw,rq k c b r]
theorem C3(P:Program)(c:Option Bool)(a b:TypeId)(x:T)(K:T->Option R)(f:R->Option S):(jJ P c a b x K).bind f=jJ P c a b x fun x=>(K x).bind f:=by
 unfold jJ;split <;> simp only [aw,am]
theorem xT(ids:List Id)(d:Nat)(c:Option Bool)(j:Nat)(r:RSh)(x:T)(K:AV->Upd->Nat->Option R)(f:R->Option S):(eG ids d c j r x K).bind f=eG ids d c j r x fun v u j=>(K v u j).bind f:=by
 unfold eG;split
 ·exact eW _ _ _ _ _
 ·exact eW _ _ _ _ _
 ·split <;> simp only [aw,am]
 ·split <;> simp only [am]
 ·split <;> simp only [am]
 ·split <;> simp only [aw,am]
 ·split <;> simp only [aw,am]
 ·rfl
 ·rfl
 ·rfl
theorem nu(ids:List Id)(d:Nat)(c:Option Bool):∀(rs:List RSh) (j:Nat) (xs:List T) (K:List AV->Upd->Nat->Option R) (f:R->Option S),(cO ids d c j rs xs K).bind f=cO ids d c j rs xs fun v u j=>(K v u j).bind f
 | [],_,_,_,_=>rfl
 | r::rs,j,xs,K,f=>by simp only [cO,aw,xT,nu ids d c rs]
theorem iB(ids:List Id)(d:Nat)(c:Option Bool):∀(rs:List RSh) (j:Nat) (xs:List T) (K:List AV->Upd->Nat->Option R) (f:R->Option S),(bg ids d c j rs xs K).bind f=bg ids d c j rs xs fun v u j=>(K v u j).bind f
 | [],_,_,_,_=>rfl
 | r::rs,j,xs,K,f=>by
  cases r
  case new l=>cases c <;> simp only [bg,nu,iB ids d _ rs,am]
  all_goals simp only [bg,aw,xT,nu,iB ids d c rs]
theorem ol(all:List Id)(d:Nat):∀(rs:List BSh) (is:List Id) (j:Nat) (xs:List T) (K:Upd->Option R) (f:R->Option S),(bU all d j is rs xs K).bind f=bU all d j is rs xs fun u=>(K u).bind f
 | [],[],_,_,_,_=>rfl
 | [],_::_,_,_,_,_=>rfl
 | r::rs,[],_,_,_,_=>by cases r <;> rfl
 | r::rs,i::is,j,xs,K,f=>by cases r <;> simp only [bU,aw,nu,ol all d rs]
theorem Dx(P:Program)(c:Option Bool)(t:TypeId)(v:AV)(K:AV->Option R)(f:R->Option S):(typV P c t v K).bind f=typV P c t v fun x=>(K x).bind f:=by
 unfold typV;split
 ·exact eW _ _ _ _ _
 ·split
  ·exact i0 _ _ _ _ _
  ·rfl
 ·rfl
theorem p9(P:Program)(c:Option Bool):∀(ts:List TypeId) (vs:List AV) (K:List AV->Option R) (f:R->Option S),(typVs P c ts vs K).bind f=typVs P c ts vs fun x=>(K x).bind f
 | [],_,_,_=>rfl
 | _::_,[],_,_=>rfl
 | t::ts,v::vs,K,f=>by simp only [typVs,Dx,p9 P c ts vs]
theorem yq(P:Program)(A:Ann)(O:Orc)(s:St)(d:Nat)(c:Option Bool)(g:FuncId)(args:List AV)(K:AV->Upd->Option R)(f:R->Option S):
  (callAV P A O s d c g args K).bind f=callAV P A O s d c g args fun v u=>(K v u).bind f:=by
 unfold callAV;split
 ·rfl
 ·split
  ·simp only [Option.bind_assoc,aw,iB,p9]
  ·split
   ·rfl
   ·simp only [Option.bind_assoc,eu,am,aw,iB,ol,p9]
theorem zF(h:Id->Option Blk)(i new:Id)(n rsz:Nat)(K:Upd->Option R)(f:R->Option S):(kf h i new n rsz K).bind f=kf h i new n rsz fun u=>(K u).bind f:=by
 unfold kf;split
 ·rw [aJ];simp only [aw,am]
 ·rfl
theorem Cu(lend:Bool)(P:Program)(A:Ann)(O:Orc)(s:St)(d:Nat)(c:Option Bool)(g:FuncId)(args:List AV)(K:AV->Upd->Option R)(f:R->Option S):
  (callL lend P A O s d c g args K).bind f=callL lend P A O s d c g args fun v u=>(K v u).bind f:=by
 unfold callL;split
 ·exact yq _ _ _ _ _ _ _ _ _ _
 ·split
  ·simp only [aw,eu,yq,zF,am]
  ·rfl
theorem tM(c:Option Bool)(v:AV)(K:Int->Option R)(f:R->Option S):(gt c v K).bind f=gt c v fun x=>(K x).bind f:=by
 unfold gt;simp only [Option.bind_assoc,aw]
theorem py(P:Program)(A:Ann)(O:Orc)(g:Option Gs)(o:Oper)(s:St)(K:AV->Upd->Option R)(f:R->Option S):
  (aop P A O g o s K).bind f=aop P A O g o s fun v u=>(K v u).bind f:=by
 unfold aop
 cases o.op <;> dsimp only
 case pick=>simp only [Option.bind_assoc,aw]
 case alloc=>split <;> simp only [Option.bind_assoc,am]
 case box=>split <;> simp only [aJ,am]
 case build=>simp only [Option.bind_assoc]
 case buildSlice=>
  rw [Option.bind_assoc];congr 1;funext e;rw [aJ];congr 1
  ·split <;> simp only [aJ,am]
  rw [aJ];congr 1;rw [aJ];congr 1;rw [Option.bind_assoc];congr 1;funext q;split <;> rfl
 case load=>simp only [A3]
 case store=>split <;> simp only [Dm,am]
 case nilCheck=>split <;> simp only [aw,am]
 case binOp=>split <;> simp only [Option.bind_assoc,AM,AC]
 case unOp=>simp only [Option.bind_assoc,zp]
 case convert=>
  split
  ·split <;> simp only [Option.bind_assoc,aw,am]
  ·simp only [Option.bind_assoc,C3]
 case makeFunc=>split <;> simp_all
 case makeSlice=>split <;> simp only [Option.bind_assoc,DF,am]
 case makeMap=>split <;> simp only [CO,am]
 case lookup=>simp only [BA]
 case mapUpdate=>split <;> simp only [zt,am]
 case slice=>simp only [Dw,Ag]
 case fieldAddr=>simp only [Ec]
 case field=>simp only [Cc]
 case indexAddr=>simp only [tM,C6]
 case index=>
  simp only [tM];congr 1;funext n;split
  ·simp only [Option.bind_assoc,aw,hI]
  ·split <;> simp only [eu,Option.bind_assoc,hI,kc,am]
  ·rfl
 case extract=>split <;> simp only [Option.bind_assoc,am]
 case call cl=>
  split
  ·split <;> simp only [zk,am]
  ·split <;> simp only [BJ,am]
  ·split
   ·rw [Option.bind_assoc];congr 1;funext l;split <;> simp only [aw,rq,am]
   ·rfl
  ·split
   ·rw [Option.bind_assoc];congr 1;funext l;split <;> simp only [aw,rq,am]
   ·rfl
  ·split <;> simp only [Aw,am]
  ·(repeat' split) <;> simp only [eu,am]
  ·split <;> simp only [Cu,am]
  ·rfl
 all_goals rfl
def aopD(P:Program)(A:Ann)(O:Orc)(g:Option Gs)(o:Oper)(s:St):Option (AV×Upd):=aop P A O g o s fun v u=>some (v,u)
theorem iJ(P:Program)(A:Ann)(O:Orc)(g:Option Gs)(o:Oper)(s:St)(K:AV->Upd->Option R):aop P A O g o s K= (aopD P A O g o s).bind fun p=>K p.1 p.2:=by
 unfold aopD;rw [py];rfl
theorem sO(ops:Array Oper)(o:Oper)(s:St)(K:Option Gs->Option R)(f:R->Option S):(aT ops o s K).bind f=aT ops o s fun g=>(K g).bind f:=by
 unfold aT;split
 ·rfl
 ·split
  ·rfl
  ·simp only [Option.bind_assoc,aw]
theorem ma(ops:Array Oper)(o:Oper)(s:St)(K:Option Gs->Option R):aT ops o s K= (aT ops o s some).bind K:=by
 rw [sO];rfl
def oneD(P:Program)(A:Ann)(O:Orc)(draw:Bool)(nt:Nat)(ops:Array Oper)(o:Oper)(s:St):Option St:=gB P A O draw nt ops o s some
theorem zH(P:Program)(A:Ann)(O:Orc)(draw:Bool)(nt:Nat)(ops:Array Oper)(o:Oper)(s:St)(K:St->Option R):gB P A O draw nt ops o s K= (oneD P A O draw nt ops o s).bind K:=by
 unfold oneD gB
 rw [sO];congr 1;funext g
 cases gM A draw o g with
 | none=>
  dsimp only
  rw [py];congr 1;funext v u
  rw [aJ];rfl
 | some gs=>
  dsimp only
  cases mP nt o gs with
  | false=>rfl
  | true=>
   cases gs.c with
   | false=>rfl
   | true=>
    simp only [cond_true]
    rw [py];congr 1;funext v u
    rw [aJ];rfl
def ropsD(P:Program)(A:Ann)(O:Orc)(draw:Bool)(nt:Nat)(ops:Array Oper):List Oper->St->Option St
 | [],s=>some s
 | o::r,s=>(oneD P A O draw nt ops o s).bind (ropsD P A O draw nt ops r)
theorem rC(P:Program)(A:Ann)(O:Orc)(draw:Bool)(nt:Nat)(ops:Array Oper):∀(l:List Oper) (s:St) (K:St->Option R),lK P A O draw nt ops l s K= (ropsD P A O draw nt ops l s).bind K
 | [],_,_=>rfl
 | o::r,s,K=>by
  simp only [lK,ropsD,zH,Option.bind_assoc];congr 1;funext s';exact rC P A O draw nt ops r s' K
end
open Go
structure Ctx where
 A0:Nat->Prop
 M:Nat->Prop
 N0:Nat
def Ctx.MO(c:Ctx)(b:Nat):Prop:=c.M b\/c.N0<=b
def AA(c:Ctx)(w:World)(O:Id->Option Nat)(b:Nat):Prop:=(c.A0 b\/c.MO b)/\b < w.heap.size/\∀i,O i≠some b
def SlAt(w:World)(A:Nat->Prop)(sz:Nat)(b:Bool)(l:List (List T))(v:Value)(Q:Nat->Prop):Prop:=
 ∃a cap,v= .slice a l.length cap/\l.length<=cap/\(a=none↔b=true)/\True/\
  (cap=0\/∃blk off arr t,a=some ⟨blk,off,none⟩/\Q blk/\w.heap[blk]? =some (.cells arr t (0,0))/\off+cap * sz<=arr.size/\RelEls w A blk sz off l)
def RowAt(w:World)(A:Nat->Prop)(ρ:Id->Option Value)(O:Id->Option Nat)(i:Id)(blk sz col rsz base:Nat)(e:Row):Prop:=
 e.cs.length=sz/\col < sz/\(∀j x,j≠col->e.cs[j]? =some x->∃v,w.cell? ⟨blk,base+j,none⟩=some v/\RelT w A x v)/\
 ∃v,w.cell? ⟨blk,base+col,none⟩=some v/\ρ (.g i e.n)=some v/\
  match e.own with
  | some p=>SlAt w A rsz p.1 p.2 v (fun b=>O (.g i e.n)=some b)
  | none=>O (.g i e.n)=none
def RowsAt(w:World)(A:Nat->Prop)(ρ:Id->Option Value)(O:Id->Option Nat)(i:Id)(blk sz col rsz:Nat):Nat->List Row->Prop
 | _,[]=>True
 | base,e::es=>RowAt w A ρ O i blk sz col rsz base e/\RowsAt w A ρ O i blk sz col rsz (base+sz) es
def RowNames(ρ:Id->Option Value)(O:Id->Option Nat)(i:Id)(nx:Nat)(es:List Row):Prop:=
 (es.map (·.n)).Nodup/\(∀e∈es,e.n < nx)/\(∀n,nx<=n->ρ (.g i n)=none)/\∀n b,O (.g i n)=some b->∃e∈es,e.n=n
def RelB(w:World)(A:Nat->Prop)(ρ:Id->Option Value)(O:Id->Option Nat)(i:Id):Blk->Prop
 | .box cs=>∃b arr t,ρ i=some (.pointer (some ⟨b,0,none⟩))/\O i=some b/\w.heap[b]? =some (.cells arr t (0,0))/\RelVs w A ρ cs arr.toList/\
   (∀u∈arr.toList,u.oneCell'=true/\u.cells= #[u])
 | .sl fz sz b l=>∃v,ρ i=some v/\SlAt w A sz b l v (fun blk=>if fz=true then A blk else O i=some blk)/\(fz=true->O i=none)
 | .fbox l=>∃b,ρ i=some (.pointer (some ⟨b,0,none⟩))/\O i=none/\A b/\RelAt w A b 0 l
 | .arr cs=>∃b arr t,ρ i=some (.slice (some ⟨b,0,none⟩) 1 1)/\O i=some b/\w.heap[b]? =some (.cells arr t (0,0))/\RelVs w A ρ cs arr.toList/\
   (∀u∈arr.toList,u.oneCell'=true/\u.cells= #[u])
 | .mp ag ks vk es=>∃b ents clock,ρ i=some (.map (some b))/\O i=some b/\w.heap[b]? =some (.map ents clock)/\
   ents.toList.map (fun e=>(e.key,e.val))=es.map (fun p=>(aN ag p.1,aU p.2))/\(es.all fun p=>aC ks p.1 && okK vk p.2)=true
 | .rows b sz col rsz nx es=>∃a cap,ρ i=some (.slice a es.length cap)/\es.length<=cap/\(a=none↔b=true)/\RowNames ρ O i nx es/\
   (cap=0\/∃blk off arr t,a=some ⟨blk,off,none⟩/\O i=some blk/\w.heap[blk]? =some (.cells arr t (0,0))/\off+cap * sz<=arr.size/\RowsAt w A ρ O i blk sz col rsz off es)
 | .dead=>(∃v,ρ i=some v/\v.oneCell'=true/\v.cells= #[v])/\O i=none
structure HS (c:Ctx) (w:World) (h:Id->Option Blk) (ρ:Id->Option Value) (O:Id->Option Nat):Prop where
 blk:∀i b,h i=some b->RelB w (AA c w O) ρ O i b
 nodom:∀i,i.real=true->h i=none->ρ i=none/\O i=none
 nog:∀i n,h (.g i n)=none
 gdom:∀i n,h i=none->ρ (.g i n)=none/\O (.g i n)=none
 gone:∀i n u,ρ (.g i n)=some u->u.oneCell'=true/\u.cells= #[u]
 inj:∀i j b,O i=some b->O j=some b->i=j
 lt:∀i b,O i=some b->b < w.heap.size
 own:∀i b,O i=some b->c.MO b
 size:c.N0<=w.heap.size
structure Le (w:World) (ρ:Id->Option Value) (O:Id->Option Nat) (w':World) (ρ':Id->Option Value) (O':Id->Option Nat):Prop where
 os:w'.os=w.os
 output:w'.output=w.output
 tape:w'.tape=w.tape
 size:w.heap.size<=w'.heap.size
 rho:∀i v,ρ i=some v->ρ' i=some v
 blk:∀b,b < w.heap.size->(∀i,O i≠some b)->w'.heap[b]? =w.heap[b]?
 own:∀i b,O' i=some b->(∃j,O j=some b)\/w.heap.size<=b
section
variable {c:Ctx} {w w' w'':World} {h h':Id->Option Blk} {ρ ρ' ρ'':Id->Option Value} {O O' O'':Id->Option Nat}
theorem Le.refl:Le w ρ O w ρ O:=⟨rfl,rfl,rfl,Nat.le_refl _,fun _ _ h=>h,fun _ _ _=>rfl,fun i b h=> .inl ⟨i,h⟩⟩
theorem Le.trans(a:Le w ρ O w' ρ' O')(b:Le w' ρ' O' w'' ρ'' O''):Le w ρ O w'' ρ'' O'' where
 os:=b.os.trans a.os
 output:=b.output.trans a.output
 tape:=b.tape.trans a.tape
 size:=Nat.le_trans a.size b.size
 rho i v h:=b.rho i v (a.rho i v h)
 blk k hk hn:=by
  rw [b.blk k (Nat.lt_of_lt_of_le hk a.size),a.blk k hk hn]
  intro i hi
  rcases a.own i k hi with⟨j,hj⟩ | h
  ·exact hn j hj
  ·omega
 own i k hi:=by
  rcases b.own i k hi with⟨j,hj⟩ | h
  ·exact a.own j k hj
  ·exact .inr (Nat.le_trans a.size h)
theorem Le.A(le:Le w ρ O w' ρ' O')(b:Nat)(ha:AA c w O b):AA c w' O' b/\w'.heap[b]? =w.heap[b]?:=by
 refine⟨⟨ha.1,Nat.lt_of_lt_of_le ha.2.1 le.size,fun i hi=> ?_⟩,le.blk b ha.2.1 ha.2.2⟩
 rcases le.own i b hi with⟨j,hj⟩ | h
 ·exact ha.2.2 j hj
 ·have:=ha.2.1;omega
theorem SlAt.mono{A A' Q Q':Nat->Prop}{sz:Nat}{b:Bool}{l:List (List T)}{v:Value}(hA:∀b,A b->A' b/\w'.heap[b]? =w.heap[b]?)
  (hQ:∀b,Q b->Q' b/\w'.heap[b]? =w.heap[b]?) (hs:SlAt w A sz b l v Q):SlAt w' A' sz b l v Q':=by
 obtain⟨a,cap,h1,h2,h3,h4,h5⟩:=hs
 refine⟨a,cap,h1,h2,h3,h4, ?_⟩
 rcases h5 with h5 | ⟨blk,off,arr,t,e1,e2,e3,e4,e5⟩
 ·exact .inl h5
 ·exact .inr ⟨blk,off,arr,t,e1,(hQ _ e2).1,by rw [(hQ _ e2).2];exact e3,e4,RelEls.mono' hA blk sz (hQ _ e2).2 off l e5⟩
def GKi(i:Id)(w:World)(ρ:Id->Option Value)(O:Id->Option Nat)(w':World)(ρ':Id->Option Value)(O':Id->Option Nat):Prop:=
 ∀n,ρ' (.g i n)=ρ (.g i n)/\O' (.g i n)=O (.g i n)/\∀b,O (.g i n)=some b->w'.heap[b]? =w.heap[b]?
theorem RowAt.mono{A A':Nat->Prop}{i:Id}{blk sz col rsz base:Nat}{e:Row}(hA:∀b,A b->A' b/\w'.heap[b]? =w.heap[b]?)(hb:w'.heap[blk]? =w.heap[blk]?)(hg:GKi i w ρ O w' ρ' O')(h:RowAt w A ρ O i blk sz col rsz base e):
  RowAt w' A' ρ' O' i blk sz col rsz base e:=by
 obtain⟨h1,h2,h3,v,h4,h5,h7⟩:=h
 have hc:∀p,w'.cell? ⟨blk,p,none⟩=w.cell? ⟨blk,p,none⟩:=fun p=>fK hb
 refine⟨h1,h2,fun j x hj hx=> ?_,v,by rw [hc];exact h4,by rw [(hg e.n).1];exact h5, ?_⟩
 ·obtain⟨u,g1,g2⟩:=h3 j x hj hx
  exact⟨u,by rw [hc];exact g1,RelT.mono hA x u g2⟩
 ·revert h7
  cases e.own with
  | none=>intro h;simp only at h⊢;rw [(hg e.n).2.1];exact h
  | some p=>
   intro g2
   refine SlAt.mono hA (fun b hq=> ?_) g2
   rw [(hg e.n).2.1]
   exact⟨hq,(hg e.n).2.2 b hq⟩
theorem RowsAt.mono{A A':Nat->Prop}{i:Id}{blk sz col rsz:Nat}(hA:∀b,A b->A' b/\w'.heap[b]? =w.heap[b]?)(hb:w'.heap[blk]? =w.heap[blk]?)(hg:GKi i w ρ O w' ρ' O'):∀{es:List Row} {base:Nat},RowsAt w A ρ O i blk sz col rsz base es->
  RowsAt w' A' ρ' O' i blk sz col rsz base es
 | [],_,_=>trivial
 | e::es,base,h=>⟨RowAt.mono hA hb hg h.1,RowsAt.mono hA hb hg h.2⟩
theorem SlAt.keep{A A' Q Q':Nat->Prop}{sz:Nat}{b:Bool}{l:List (List T)}{v:Value}(hA:∀b,A b->A' b/\w'.heap[b]? =w.heap[b]?)
  (hQ:∀b,Q b->Q' b/\w'.heap[b]? =w.heap[b]?) (hs:SlAt w A sz b l v Q):SlAt w' A' sz b l v Q':=SlAt.mono hA hQ hs
theorem RowAt.move{A A':Nat->Prop}{i i':Id}{blk blk' sz col rsz base base':Nat}{e:Row}(hc:∀j,j < sz->w'.cell? ⟨blk',base'+j,none⟩=w.cell? ⟨blk,base+j,none⟩)(hA:∀b,A b->A' b/\w'.heap[b]? =w.heap[b]?)
  (h1:ρ' (.g i' e.n)=ρ (.g i e.n)) (h2:O' (.g i' e.n)=O (.g i e.n)) (h3:∀b,O (.g i e.n)=some b->w'.heap[b]? =w.heap[b]?) (h:RowAt w A ρ O i blk sz col rsz base e):RowAt w' A' ρ' O' i' blk' sz col rsz base' e:=by
 obtain⟨a1,a2,a3,v,a4,a5,a7⟩:=h
 refine⟨a1,a2,fun j x hj hx=> ?_,v,by rw [hc _ a2];exact a4,by rw [h1];exact a5, ?_⟩
 ·obtain⟨u,g1,g2⟩:=a3 j x hj hx
  have:=(List.getElem?_eq_some_iff.1 hx).1
  exact⟨u,by rw [hc j (by omega)];exact g1,RelT.mono hA x u g2⟩
 ·revert a7
  cases e.own with
  | none=>intro h;simp only at h⊢;rw [h2];exact h
  | some p=>
   intro g
   refine SlAt.mono hA (fun b hq=> ?_) g
   rw [h2]
   exact⟨hq,h3 b hq⟩
theorem RowsAt.move{A A':Nat->Prop}{i i':Id}{blk blk' sz col rsz:Nat}(hA:∀b,A b->A' b/\w'.heap[b]? =w.heap[b]?):∀{es:List Row} {base base':Nat},
  (∀p,p < es.length * sz->w'.cell? ⟨blk',base'+p,none⟩=w.cell? ⟨blk,base+p,none⟩)->(∀e∈es,ρ' (.g i' e.n)=ρ (.g i e.n)/\O' (.g i' e.n)=O (.g i e.n)/\∀b,O (.g i e.n)=some b->w'.heap[b]? =w.heap[b]?)->
  RowsAt w A ρ O i blk sz col rsz base es->RowsAt w' A' ρ' O' i' blk' sz col rsz base' es
 | [],_,_,_,_,_=>trivial
 | e::es,base,base',hc,hg,h=>by
  have el:(e::es).length * sz=sz+es.length * sz:=by simp [Nat.succ_mul];omega
  obtain⟨h1,h2,h3⟩:=hg e List.mem_cons_self
  refine⟨RowAt.move (fun j hj=>hc j (by omega)) hA h1 h2 h3 h.1,RowsAt.move hA (fun p hp=> ?_) (fun e he=>hg e (List.mem_cons_of_mem _ he)) h.2⟩
  rw [Nat.add_assoc,Nat.add_assoc];exact hc (sz+p) (by omega)
theorem RowsAt.append{A:Nat->Prop}{i:Id}{blk sz col rsz:Nat}:∀{es fs:List Row} {base:Nat},RowsAt w A ρ O i blk sz col rsz base es->RowsAt w A ρ O i blk sz col rsz (base+es.length * sz) fs->RowsAt w A ρ O i blk sz col rsz base (es++fs)
 | [],fs,base,_,h=>by simpa using h
 | e::es,fs,base,h,h'=>by
  refine⟨h.1,RowsAt.append h.2 ?_⟩
  have:base+sz+es.length * sz=base+ (e::es).length * sz:=by simp [Nat.succ_mul];omega
  rw [this];exact h'
theorem RowsAt.set{A A':Nat->Prop}{i:Id}{blk sz col rsz:Nat}{x:Row}(hA:∀b,A b->A' b/\w'.heap[b]? =w.heap[b]?):∀{es:List Row} {base k:Nat},k < es.length->
  (∀p,base<=p->p < base+es.length * sz->¬(base+k * sz<=p/\p < base+k * sz+sz)->w'.cell? ⟨blk,p,none⟩=w.cell? ⟨blk,p,none⟩)->
  (∀j e,j≠k->es[j]? =some e->ρ' (.g i e.n)=ρ (.g i e.n)/\O' (.g i e.n)=O (.g i e.n)/\∀b,O (.g i e.n)=some b->w'.heap[b]? =w.heap[b]?)->
  RowAt w' A' ρ' O' i blk sz col rsz (base+k * sz) x->RowsAt w A ρ O i blk sz col rsz base es->RowsAt w' A' ρ' O' i blk sz col rsz base (es.set k x)
 | [],_,_,hk,_,_,_,_=>by simp at hk
 | e::es,base,0,hk,hc,hg,hx,h=>by
  have el:(e::es).length * sz=sz+es.length * sz:=by simp [Nat.succ_mul];omega
  refine⟨by simpa using hx,RowsAt.move hA (fun p hp=>hc _ (by omega) (by omega) (by omega)) (fun e' he=> ?_) h.2⟩
  obtain⟨j,hj⟩:=List.mem_iff_getElem?.1 he
  exact hg (j+1) e' (by omega) (by simpa using hj)
 | e::es,base,k+1,hk,hc,hg,hx,h=>by
  have el:(e::es).length * sz=sz+es.length * sz:=by simp [Nat.succ_mul];omega
  have e2:(k+1) * sz=sz+k * sz:=by rw [Nat.succ_mul];omega
  obtain⟨h1,h2,h3⟩:=hg 0 e (by omega) rfl
  refine⟨RowAt.move (fun j hj=>hc _ (by omega) (by omega) (by omega)) hA h1 h2 h3 h.1,RowsAt.set hA (by simpa using hk) (fun p p1 p2 p3=>hc p (by omega) (by omega) (by omega)) (fun j e' hj he=>hg (j+1) e' (by omega) (by simpa using he)) ?_ h.2⟩
  rw [show base+sz+k * sz=base+ (k+1) * sz by omega];exact hx
theorem RowNames.mono{i:Id}{nx:Nat}{es:List Row}(hg:GKi i w ρ O w' ρ' O')(h:RowNames ρ O i nx es):RowNames ρ' O' i nx es:=
 ⟨h.1,h.2.1,fun n hn=>by rw [(hg n).1];exact h.2.2.1 n hn,fun n b hn=>by rw [(hg n).2.1] at hn;exact h.2.2.2 n b hn⟩
theorem RelB.mono{A A':Nat->Prop}{i:Id}(hg:GKi i w ρ O w' ρ' O')(hA:∀b,A b->A' b/\w'.heap[b]? =w.heap[b]?)(hρ:∀i v,ρ i=some v->ρ' i=some v)(hO:O' i=O i)
  (hb:∀b,O i=some b->w'.heap[b]? =w.heap[b]?):∀{b:Blk},RelB w A ρ O i b->RelB w' A' ρ' O' i b
 | .box cs,⟨b,arr,t,e1,e2,e3,e4,e5⟩=>⟨b,arr,t,hρ _ _ e1,by rw [hO];exact e2,by rw [hb _ e2];exact e3,RelVs.mono hA hρ cs _ e4,e5⟩
 | .sl fz sz b l,⟨v,e1,e2,e3⟩=>by
  refine⟨v,hρ _ _ e1,SlAt.mono hA (fun b hq=> ?_) e2,by rw [hO];exact e3⟩
  cases fz
  ·simp only [Bool.false_eq_true,if_false] at hq⊢;exact⟨by rw [hO];exact hq,hb _ hq⟩
  ·simp only [if_true] at hq⊢;exact hA _ hq
 | .fbox l,⟨b,e1,e2,e3,e4⟩=>⟨b,hρ _ _ e1,by rw [hO];exact e2,(hA b e3).1,RelAt.mono hA b e3 0 l e4⟩
 | .arr cs,⟨b,arr,t,e1,e2,e3,e4,e5⟩=>⟨b,arr,t,hρ _ _ e1,by rw [hO];exact e2,by rw [hb _ e2];exact e3,RelVs.mono hA hρ cs _ e4,e5⟩
 | .mp ag ks vk es,⟨b,ents,clock,e1,e2,e3,e4,e5⟩=>⟨b,ents,clock,hρ _ _ e1,by rw [hO];exact e2,by rw [hb _ e2];exact e3,e4,e5⟩
 | .rows b sz col rsz nx es,h=>by
  obtain⟨a,cap,e1,e2,e3,e4,e5⟩:=h
  refine⟨a,cap,hρ _ _ e1,e2,e3,e4.mono hg, ?_⟩
  rcases e5 with e5 | ⟨blk,off,arr,t,q1,q2,q3,q4,q5⟩
  ·exact .inl e5
  ·exact .inr ⟨blk,off,arr,t,q1,by rw [hO];exact q2,by rw [hb _ q2];exact q3,q4,q5.mono hA (hb _ q2) hg⟩
 | .dead,⟨⟨v,e1,e3⟩,e2⟩=>⟨⟨v,hρ _ _ e1,e3⟩,by rw [hO];exact e2⟩
def GK(w:World)(ρ:Id->Option Value)(O:Id->Option Nat)(w':World)(ρ':Id->Option Value)(O':Id->Option Nat):Prop:= ∀i,GKi i w ρ O w' ρ' O'
theorem GK.refl:GK w ρ O w ρ O:=fun _ _=>⟨rfl,rfl,fun _ _=>rfl⟩
theorem HS.real(hs:HS c w h ρ O){i:Id}(hi:h i≠none):i.real=true:=by
 cases i with
 | g i n=>exact(hi (hs.nog i n)).elim
 | _=>rfl
theorem HS.goG(hs:HS c w h ρ O)(le:Le w ρ O w' ρ' O')
  (hblk:∀i b,h' i=some b->(h i=some b/\O' i=O i/\(∀blk,O i=some blk->w'.heap[blk]? =w.heap[blk]?)/\GKi i w ρ O w' ρ' O')\/RelB w' (AA c w' O') ρ' O' i b)
  (hnone:∀i,i.real=true->h' i=none->ρ' i=none/\O' i=none) (hnog:∀i n,h' (.g i n)=none)
  (hgd:∀i n,h' i=none->ρ' (.g i n)=none/\O' (.g i n)=none) (hgo:∀i n u,ρ' (.g i n)=some u->u.oneCell'=true/\u.cells= #[u])
  (inj:∀i j b,O' i=some b->O' j=some b->i=j) (lt:∀i b,O' i=some b->b < w'.heap.size):HS c w' h' ρ' O' where
 blk i b hb:=by
  rcases hblk i b hb with⟨h1,h2,h3,h4⟩ | h1
  ·exact RelB.mono h4 (fun b ha=>le.A b ha) le.rho h2 h3 (hs.blk i b h1)
  ·exact h1
 nodom:=hnone
 nog:=hnog
 gdom:=hgd
 gone:=hgo
 inj:=inj
 lt:=lt
 own i b hi:=by
  rcases le.own i b hi with⟨j,hj⟩ | h
  ·exact hs.own j b hj
  ·exact .inr (Nat.le_trans hs.size h)
 size:=Nat.le_trans hs.size le.size
theorem HS.go(hs:HS c w h ρ O)(le:Le w ρ O w' ρ' O')(hg:GK w ρ O w' ρ' O')
  (hblk:∀i b,h' i=some b->(h i=some b/\O' i=O i/\(∀blk,O i=some blk->w'.heap[blk]? =w.heap[blk]?))\/RelB w' (AA c w' O') ρ' O' i b)
  (hnone:∀i,i.real=true->h' i=none->ρ' i=none/\O' i=none) (hd:∀i,h' i=none->h i=none) (hnog:∀i n,h' (.g i n)=none)
  (inj:∀i j b,O' i=some b->O' j=some b->i=j) (lt:∀i b,O' i=some b->b < w'.heap.size):HS c w' h' ρ' O':=
 hs.goG le (fun i b hb=>by
  rcases hblk i b hb with⟨h1,h2,h3⟩ | h1
  ·exact .inl ⟨h1,h2,h3,hg i⟩
  ·exact .inr h1) hnone hnog (fun i n hi=>by
  have:=hs.gdom i n (hd i hi)
  rw [(hg i n).1,(hg i n).2.1];exact this) (fun i n u hu=>by rw [(hg i n).1] at hu;exact hs.gone i n u hu) inj lt
theorem HS.world(hs:HS c w h ρ O)(le:Le w ρ O w' ρ O)(keep:∀i blk,O i=some blk->w'.heap[blk]? =w.heap[blk]?):HS c w' h ρ O:=
 hs.go le (fun i n=>⟨rfl,rfl,fun b hb=>keep _ b hb⟩) (fun i _ hb=> .inl ⟨hb,rfl,fun blk h=>keep i blk h⟩) hs.nodom (fun _ h=>h) hs.nog hs.inj fun i b h=>Nat.lt_of_lt_of_le (hs.lt i b h) le.size
def upd{α:Type}(f:Id->Option α)(i:Id)(v:Option α):Id->Option α:=fun j=>if j=i then v else f j
@[simp] theorem upd_same {α:Type} (f:Id->Option α) (i:Id) (v:Option α):upd f i v i=v:=by simp [upd]
theorem ab{α:Type}(f:Id->Option α){i j:Id}(v:Option α)(h:j≠i):upd f i v j=f j:=by simp [upd,h]
theorem bo(h:Id->Option Blk)(i:Id)(b:Blk):ae h [(i,b)]=upd h i (some b):=rfl
theorem aO(h:Id->Option Blk)(i:Id)(b:Blk)(us:Upd):ae h ((i,b)::us)=ae (upd h i (some b)) us:=rfl
theorem dQ(h:Id->Option Blk):∀(us vs:Upd),ae h (us++vs)=ae (ae h us) vs
 | [],_=>rfl
 | (i,b)::us,vs=>by simp only [List.cons_append,aO];exact dQ _ us vs
theorem ai{i j:Id}{n:Nat}(hr:i.real=true):Id.g j n≠i:=by rintro rfl;cases hr
theorem Le.alloc(hs:HS c w h ρ O){i:Id}(hr:i.real=true)(hi:h i=none)(o:Obj)(v:Value)(ob:Option Nat)(hob:ob=none\/ob=some w.heap.size):
  Le w ρ O (w.alloc o) (upd ρ i (some v)) (upd O i ob) where
 os:=rfl
 output:=rfl
 tape:=rfl
 size:=by simp
 rho j u hj:=by
  by_cases e:j=i
  ·subst e;rw [(hs.nodom _ hr hi).1] at hj;cases hj
  ·rw [ab _ _ e];exact hj
 blk b hb _:=Go.RowKit.Below.heap_alloc _ _ _ hb
 own j b hj:=by
  by_cases e:j=i
  ·subst e;rw [upd_same] at hj;rcases hob with rfl | rfl
   ·cases hj
   ·cases hj;exact .inr (Nat.le_refl _)
  ·rw [ab _ _ e] at hj;exact .inl ⟨j,hj⟩
theorem HS.alloc(hs:HS c w h ρ O){i:Id}(hr:i.real=true)(hi:h i=none)(o:Obj)(v:Value)(ob:Option Nat)(hob:ob=none\/ob=some w.heap.size)(b:Blk)
  (hb:RelB (w.alloc o) (AA c (w.alloc o) (upd O i ob)) (upd ρ i (some v)) (upd O i ob) i b):
  HS c (w.alloc o) (upd h i (some b)) (upd ρ i (some v)) (upd O i ob):=by
 refine hs.go (Le.alloc hs hr hi o v ob hob) (fun j n=>⟨ab _ _ (ai hr),ab _ _ (ai hr),fun b hb=>Go.RowKit.Below.heap_alloc _ _ _ (hs.lt _ b hb)⟩) (fun j b' hj=> ?_) (fun j hjr hj=> ?_) (fun j hj=> ?_) (fun j n=>by rw [ab _ _ (ai hr)];exact hs.nog j n) (fun j k d hj hk=> ?_) (fun j d hj=> ?_)
 ·by_cases e:j=i
  ·subst e;rw [upd_same] at hj;cases hj;exact .inr hb
  ·rw [ab _ _ e] at hj
   exact .inl ⟨hj,ab _ _ e,fun blk hblk=>Go.RowKit.Below.heap_alloc _ _ _ (hs.lt j blk hblk)⟩
 ·by_cases e:j=i
  ·subst e;rw [upd_same] at hj;cases hj
  ·rw [ab _ _ e] at hj;rw [ab _ _ e,ab _ _ e];exact hs.nodom j hjr hj
 ·by_cases e:j=i
  ·subst e;rw [upd_same] at hj;cases hj
  ·rw [ab _ _ e] at hj;exact hj
 ·by_cases e:j=i <;> by_cases e':k=i
  ·rw [e,e']
  ·exfalso;rw [ab _ _ e'] at hk;subst e;rw [upd_same] at hj
   rcases hob with rfl | rfl
   ·cases hj
   ·cases hj;exact Nat.lt_irrefl _ (hs.lt _ _ hk)
  ·exfalso;rw [ab _ _ e] at hj;subst e';rw [upd_same] at hk
   rcases hob with rfl | rfl
   ·cases hk
   ·cases hk;exact Nat.lt_irrefl _ (hs.lt _ _ hj)
  ·rw [ab _ _ e] at hj;rw [ab _ _ e'] at hk;exact hs.inj j k d hj hk
 ·by_cases e:j=i
  ·subst e;rw [upd_same] at hj;rcases hob with rfl | rfl
   ·cases hj
   ·cases hj;simp
  ·rw [ab _ _ e] at hj;have:=hs.lt j d hj;simp;omega
theorem Le.release{i:Id}:Le w ρ O w ρ (upd O i none) where
 os:=rfl
 output:=rfl
 tape:=rfl
 size:=Nat.le_refl _
 rho _ _ h:=h
 blk _ _ _:=rfl
 own j b hj:=by
  by_cases e:j=i
  ·subst e;rw [upd_same] at hj;cases hj
  ·rw [ab _ _ e] at hj;exact .inl ⟨j,hj⟩
theorem HS.release(hs:HS c w h ρ O){i:Id}(hr:i.real=true)(b:Blk)(hb:RelB w (AA c w (upd O i none)) ρ (upd O i none) i b):HS c w (upd h i (some b)) ρ (upd O i none):=by
 refine hs.go Le.release (fun j n=>⟨rfl,ab _ _ (ai hr),fun _ _=>rfl⟩) (fun j b' hj=> ?_) (fun j hjr hj=> ?_) (fun j hj=> ?_) (fun j n=>by rw [ab _ _ (ai hr)];exact hs.nog j n) (fun j k d hj hk=> ?_) (fun j d hj=> ?_)
 ·by_cases e:j=i
  ·subst e;rw [upd_same] at hj;cases hj;exact .inr hb
  ·rw [ab _ _ e] at hj;exact .inl ⟨hj,ab _ _ e,fun _ _=>rfl⟩
 ·by_cases e:j=i
  ·subst e;rw [upd_same] at hj;cases hj
  ·rw [ab _ _ e] at hj⊢;exact hs.nodom j hjr hj
 ·by_cases e:j=i
  ·subst e;rw [upd_same] at hj;cases hj
  ·rw [ab _ _ e] at hj;exact hj
 ·by_cases e:j=i
  ·subst e;rw [upd_same] at hj;cases hj
  ·by_cases e':k=i
   ·subst e';rw [upd_same] at hk;cases hk
   ·rw [ab _ _ e] at hj;rw [ab _ _ e'] at hk;exact hs.inj j k d hj hk
 ·by_cases e:j=i
  ·subst e;rw [upd_same] at hj;cases hj
  ·rw [ab _ _ e] at hj;exact hs.lt j d hj
theorem HS.freeze(hs:HS c w h ρ O){i:Id}{sz:Nat}{b:Bool}{l:List (List T)}(hi:h i=some (.sl false sz b l)):
  HS c w (upd h i (some (.sl true sz b l))) ρ (upd O i none):=by
 refine hs.release (hs.real (by rw [hi];simp)) _ ?_
 obtain⟨v,e1,e2,e3⟩:=hs.blk i _ hi
 refine⟨v,e1, ?_,fun _=>by simp⟩
 simp only [if_true]
 have hA:∀b,AA c w O b->AA c w (upd O i none) b/\w.heap[b]? =w.heap[b]?:=fun b ha=>(Le.release (ρ:=ρ) (i:=i)).A b ha
 refine SlAt.mono hA (fun blk hq=> ?_) e2
 simp only [Bool.false_eq_true,if_false] at hq
 refine⟨⟨.inr (hs.own i blk hq),hs.lt i blk hq,fun j hj=> ?_⟩,rfl⟩
 by_cases e:j=i
 ·subst e;rw [upd_same] at hj;cases hj
 ·rw [ab _ _ e] at hj;exact e (hs.inj j i blk hj hq)
theorem HS.freezeBox(hs:HS c w h ρ O){i:Id}{cs:List AV}{l:List T}(hi:h i=some (.box cs))(hl:bx cs=some l):
  HS c w (upd h i (some (.fbox l))) ρ (upd O i none):=by
 refine hs.release (hs.real (by rw [hi];simp)) _ ?_
 obtain⟨b,arr,t,e1,e2,e3,e4,e5⟩:=hs.blk i _ hi
 have hA:∀b,AA c w O b->AA c w (upd O i none) b/\w.heap[b]? =w.heap[b]?:=fun b ha=>(Le.release (ρ:=ρ) (i:=i)).A b ha
 have hb:AA c w (upd O i none) b:=⟨.inr (hs.own i b e2),hs.lt i b e2,fun j hj=>by
  by_cases e:j=i
  ·subst e;rw [upd_same] at hj;cases hj
  ·rw [ab _ _ e] at hj;exact e (hs.inj j i b hj e2)⟩
 refine⟨b,e1,by simp,hb, ?_⟩
 have hT:=RelTs.of_allT hl e4
 have key:∀(l:List T) (vs:List Value) (off:Nat),RelTs w (AA c w O) l vs->(∀j v,vs[j]? =some v->w.cell? ⟨b,off+j,none⟩=some v)->RelAt w (AA c w (upd O i none)) b off l:=by
  intro l
  induction l with
  | nil=>intro vs off _ _;simp [RelAt]
  | cons x l ih=>
   rintro vs off ⟨v,r,rfl,h1,h2⟩ hv
   simp only [RelAt]
   refine⟨⟨v,by simpa using hv 0 v rfl,RelT.mono hA x v h1⟩,ih r (off+1) h2 fun j u hj=> ?_⟩
   have:=hv (j+1) u (by simpa using hj)
   rw [show off+1+j=off+ (j+1) by omega];exact this
 refine key l _ 0 hT fun j v hj=> ?_
 simp only [World.cell?,e3,Nat.zero_add]
 simpa using hj
theorem Le.write{b:Nat}{i:Id}(hi:O i=some b)(hos:w'.os=w.os)(ho:w'.output=w.output)(ht:w'.tape=w.tape)(hsz:w'.heap.size=w.heap.size)(hk:∀k,k≠b->w'.heap[k]? =w.heap[k]?):Le w ρ O w' ρ O where
 os:=hos
 output:=ho
 tape:=ht
 size:=Nat.le_of_eq hsz.symm
 rho _ _ h:=h
 blk k _ hn:=hk k fun e=>hn i (e▸hi)
 own j b hj:= .inl ⟨j,hj⟩
theorem HS.write(hs:HS c w h ρ O){b:Nat}{i:Id}(hi:O i=some b)(le:Le w ρ O w' ρ O)(hk:∀k,k≠b->w'.heap[k]? =w.heap[k]?)(x:Blk)
  (hx:RelB w' (AA c w' O) ρ O i x) (hd:h i≠none):HS c w' (upd h i (some x)) ρ O:=by
 have hr:=hs.real hd
 refine hs.go le (fun j n=>⟨rfl,rfl,fun d hd=>hk d fun e=>ai hr (hs.inj _ i b (e▸hd) hi)⟩) (fun j b' hj=> ?_) (fun j hjr hj=> ?_) (fun j hj=> ?_) (fun j n=>by rw [ab _ _ (ai hr)];exact hs.nog j n) hs.inj (fun j d hj=>Nat.lt_of_lt_of_le (hs.lt j d hj) le.size)
 ·by_cases e:j=i
  ·subst e;rw [upd_same] at hj;cases hj;exact .inr hx
  ·rw [ab _ _ e] at hj
   exact .inl ⟨hj,rfl,fun blk hblk=>hk blk fun e'=>e (hs.inj j i b (e'▸hblk) hi)⟩
 ·by_cases e:j=i
  ·subst e;rw [upd_same] at hj;cases hj
  ·rw [ab _ _ e] at hj;exact hs.nodom j hjr hj
 ·by_cases e:j=i
  ·subst e;rw [upd_same] at hj;cases hj
  ·rw [ab _ _ e] at hj;exact hj
end
def SS(w:World)(A:Nat->Prop)(ρ:Id->Option Value)(s:Nat->Option Gs×AV)(tmps:Array Value):Prop:=
 ∀k,match s k with
  | (none,v)=>RelV w A ρ v (tmps.getD k undef)
  | (some g,v)=>(tmps.getD g.d undef= .bool g.want/\g.c=true/\RelV w A ρ v (tmps.getD k undef))\/(tmps.getD g.d undef≠ .bool g.want/\g.c=false/\tmps.getD k undef=undef)
section
variable {c:Ctx} {w w':World} {ρ ρ':Id->Option Value} {A A':Nat->Prop} {s:Nat->Option Gs×AV} {tmps:Array Value}
theorem SS.mono(hA:∀b,A b->A' b/\w'.heap[b]? =w.heap[b]?)(hρ:∀i v,ρ i=some v->ρ' i=some v)(hs:SS w A ρ s tmps):SS w' A' ρ' s tmps:=by
 intro k
 have:=hs k
 revert this
 split
 ·intro this;exact RelV.mono hA hρ _ _ this
 ·intro this
  rcases this with⟨h1,h2,h3⟩ | h1
  ·exact .inl ⟨h1,h2,RelV.mono hA hρ _ _ h3⟩
  ·exact .inr h1
def Runs(tmps:Array Value):Option Gs->Prop
 | none=>True
 | some g=>tmps.getD g.d undef= .bool g.want/\g.c=true
theorem Runs.cond{g:Option Gs}(h:Runs tmps g):g.map (·.c)=none\/g.map (·.c)=some true:=by
 cases g with
 | none=>exact .inl rfl
 | some g=>exact .inr (by simp [h.2])
theorem zN(v:Value):RelV w A ρ (rp v) v:=by
 have one:∀(u:Value) (x:T),gG u=some x->RelT w A x u:=by
  intro u x e
  cases u <;> simp only [gG,Option.some.injEq,reduceCtorEq] at e
  case slice a l cp=>
   split at e <;> simp_all
   subst e;simp [RelT]
  case pointer a=>split at e <;> simp_all;subst e;simp [RelT]
  case map a=>split at e <;> simp_all;subst e;simp [RelT]
  all_goals (subst e;simp [RelT])
 have all:∀(us:List Value) (l:List T),ej us=some l->RelTs w A l us:=by
  intro us
  induction us with
  | nil=>intro l e;simp only [ej,Option.some.injEq] at e;subst e;rfl
  | cons u us ih=>
   intro l e
   simp only [ej] at e
   cases h1:gG u with
   | none=>simp [h1] at e
   | some x=>
    cases h2:ej us with
    | none=>simp [h1,h2] at e
    | some l'=>
     simp only [h1,h2,Option.bind_some,Option.some.injEq] at e;subst e
     exact⟨u,us,rfl,one u x h1,ih l' h2⟩
 unfold rp
 split
 ·rename_i cs
  split
  ·rename_i l e
   simp only [RelV]
   have:=all cs.toList l e
   refine⟨cs.toList,by simp,RelVs.of_ts this, ?_⟩
   have key:∀(l:List T) (us:List Value),RelTs w A l us->∀u∈us,u.oneCell'=true/\u.cells= #[u]:=by
    intro l
    induction l with
    | nil=>intro us hu;simp only [RelTs] at hu;subst hu;simp
    | cons x l ih=>
     intro us ⟨v,r,e,h1,h2⟩ u hu
     subst e
     rcases List.mem_cons.1 hu with rfl | hu
     ·exact h1.oneCell
     ·exact ih r h2 u hu
   exact key l _ this
  ·simp [RelV]
 ·split
  ·rename_i x e
   simp only [RelV]
   exact one _ x e
  ·simp [RelV]
theorem SS.get{a:Act}{h:Id->Option Blk}(hs:SS w A ρ s a.tmps){g:Option Gs}(hr:Runs a.tmps g)(x:Operand):RelV w A ρ (St.get ⟨s,h⟩ g x) (a.eval x):=by
 cases x with
 | tmp k=>
  simp only [St.get,Act.eval]
  have:=hs k
  split at this
  ·rename_i v e;simp only [e,dG,cond_true];exact this
  ·rename_i g' v e;simp only [e]
   cases g with
   | none=>simp [dG,RelV]
   | some g0=>
    by_cases hsame:dG (some g') (some g0)=true
    ·simp only [hsame,cond_true]
     simp only [dG,Bool.and_eq_true,beq_iff_eq] at hsame
     rcases this with⟨_,_,h3⟩ | ⟨h1,_⟩
     ·exact h3
     ·exfalso;apply h1;rw [hsame.1,hsame.2];exact hr.1
    ·simp only [Bool.not_eq_true] at hsame
     simp [hsame,RelV]
 | const v=>exact zN v
 | func f=>simp only [St.get,Act.eval,RelV];exact⟨[],[],rfl,by simp [RelVs],by simp [RelVs]⟩
 | global g=>simp [St.get,RelV]
theorem SS.getArm{a:Act}{h:Id->Option Blk}(hs:SS w A ρ s a.tmps){g:Option Gs}(hr:Runs a.tmps g)(cs x:Operand)(want:Bool)(hc:a.eval cs= .bool want):
  RelV w A ρ (St.getArm ⟨s,h⟩ g cs want x) (a.eval x):=by
 unfold St.getArm
 split
 ·rename_i d k
  simp only [Act.eval] at hc⊢
  have:=hs k
  split
  ·rename_i gk v e
   simp only [e] at this
   by_cases h1:(gk.d==d && gk.want==want)=true
   ·simp only [h1,Bool.true_or,cond_true]
    simp only [Bool.and_eq_true,beq_iff_eq] at h1
    rcases this with⟨_,_,h3⟩ | ⟨h2,_⟩
    ·exact h3
    ·exfalso;apply h2;rw [h1.1,h1.2];exact hc
   ·simp only [Bool.not_eq_true] at h1
    simp only [h1,Bool.false_or]
    have hg:=SS.get (h:=h) hs hr (.tmp k)
    simp only [St.get,e,Act.eval] at hg
    exact hg
  ·rename_i v e;simp only [e] at this;exact this
 ·exact SS.get hs hr _
end
end Go.Aev
