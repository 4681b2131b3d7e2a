import Derived.WalkKit
import Derived.Test.YtcjplcpngagalaaGreatDoorChecked
import Derived.Lib.ItoaNum
import Derived.Lib.LaidTab
set_option linter.all false
namespace Go.Aev
open Go
abbrev Mt:=@Option.some.injEq
abbrev Mu:=@Option.bind_eq_some_iff
abbrev Mv:=@List.mem_cons_self
abbrev Mw:=@Option.bind_some
abbrev Mx:=@List.mem_cons_of_mem
abbrev My:=@List.getElem?_eq_some_iff
abbrev Mz:=@Bool.not_true
abbrev MA:=@Bool.not_false
abbrev MB:=@Bool.and_eq_true
abbrev MC:=@List.length_singleton
abbrev MD:=@List.mem_of_getElem?
abbrev ME:=@List.length_cons
abbrev MH:=@Result.andThen_ok
abbrev MI:=@List.mem_singleton
abbrev MJ:=@List.getElem?_eq_getElem
abbrev MK:=@List.mem_append_right
abbrev MM:=@List.mem_append_left
abbrev MN:=@List.mem_cons
abbrev MP:=@Option.bind_assoc
abbrev MQ:=@List.mem_append
abbrev MR:=@List.all_eq_true
abbrev MS:=@List.length_nil
abbrev MT:=@List.getD_eq_getElem?_getD
abbrev MU:=@List.append_nil
abbrev MV:=@Sem.run_bind
abbrev MW:=@List.length_eq_zero_iff
abbrev MX:=@ByteArray.size_append
abbrev MY:=@List.append_assoc
abbrev MZ:=@Bool.false_eq_true
abbrev M1:=@Array.length_toList
abbrev M2:=@Nat.le_refl
abbrev M3:=@Array.mem_of_getElem?
abbrev M4:=@Int.natCast_zero
abbrev M5:=@List.singleton_append
abbrev M6:=@Sem.run_pure
abbrev M7:=@List.mem_map
abbrev M8:=@Bool.false_or
abbrev Na:=@Int.lt_irrefl
abbrev Nb:=@List.getElem?_append_left
abbrev Nc:=@Nat.zero_add
abbrev Nf:=@Int.toNat_natCast
abbrev Ng:=@Prod.mk.injEq
abbrev Nh:=@List.map_cons
abbrev Ni:=@Go.RowKit.Below.heap_alloc
abbrev Nj:=@Array.all_eq_true_iff_forall_mem
abbrev Nk:=@Bool.or_eq_true
abbrev Nl:=@Nat.le_trans
abbrev Nn:=@Array.getElem?_toList
abbrev Np:=@Bool.not_eq_true'
abbrev Nq:=@Nat.mul_le_mul_right
abbrev Nr:=@Nat.succ_mul
abbrev Ns:=@Addr.mk.injEq
abbrev Nt:=@List.getElem?_append_right
abbrev Nu:=@List.cons_append
abbrev Nv:=@List.length_take
abbrev Nw:=@Value.slice.injEq
abbrev Nx:=@Nat.lt_of_lt_of_le
abbrev Ny:=@List.length_append
abbrev Nz:=@List.getElem?_map
abbrev NA:=@Bool.true_and
abbrev NB:=@Option.isSome_iff_exists
abbrev NC:=@List.nodup_cons
abbrev ND:=@List.map_nil
abbrev NF:=@Bool.false_and
abbrev NG:=@List.head?_cons
abbrev NH:=@List.length_drop
abbrev NI:=@List.size_toArray
abbrev NJ:=@List.ext_getElem?
abbrev NK:=@Bool.and_true
abbrev NL:=@List.all_cons
abbrev NM:=@List.length_map
abbrev NN:=@List.cons.injEq
abbrev NO:=@Array.getD_eq_getD_getElem?
abbrev NP:=@List.getElem?_cons_succ
abbrev NQ:=@Nat.lt_irrefl
abbrev NR:=@List.any_cons
abbrev NS:=@Bool.and_false
abbrev NT:=@List.getElem?_set
abbrev NU:=@List.nodup_append
abbrev NV:=@List.replicate_succ
abbrev NW:=@Value.pointer.injEq
abbrev NX:=@Bool.true_or
abbrev NY:=@List.flatten_cons
abbrev NZ:=@List.any_eq_false
abbrev N1:=@Option.map_some
abbrev N2:=@List.map_congr_left
abbrev N3:=@MapKept.run_getObj_map
abbrev N4:=@Array.ext'
abbrev N5:=@List.not_mem_nil
abbrev N6:=@List.getElem?_eq_none
abbrev N7:=@Array.getElem?_eq_getElem
abbrev N8:=@List.mem_or_eq_of_mem_set
abbrev N9:=@Bool.or_eq_false_iff
abbrev Oa:=@List.getElem?_mapIdx
abbrev Ob:=@List.getElem?_cons_zero
abbrev Oc:=@Option.getD_some
abbrev Od:=@List.isEmpty_iff
abbrev Oe:=@List.any_eq_true
abbrev Og:=@Option.map_eq_some_iff
abbrev Oh:=@Nat.add_mul
abbrev Oi:=@List.drop_eq_nil_of_le
abbrev Oj:=@Nat.zero_le
abbrev Ol:=@Bool.not_eq_false'
abbrev Om:=@Classical.choose_spec
abbrev On:=@List.getElem?_toArray
abbrev Oo:=@List.length_replicate
abbrev Oq:=@List.nil_append
abbrev Ot:=@Nat.add_assoc
abbrev Ou:=@List.take_add_one
abbrev Ov:=@List.drop_eq_getElem_cons
abbrev Ow:=@List.mem_of_mem_take
abbrev Ox:=@Option.isNone_iff_eq_none
abbrev Oy:=@List.getElem?_of_mem
abbrev Oz:=@Bool.not_eq_true
abbrev OA:=@Nat.add_zero
abbrev OB:=@List.getElem?_drop
abbrev OC:=@List.set_cons_succ
abbrev OE:=@List.map_append
abbrev OF:=@Array.any_eq_true'
abbrev OG:=@List.length_eq_one_iff
abbrev OH:=@MapKept.run_setObj_map
abbrev OI:=@List.getElem?_set_self
abbrev OJ:=@List.mem_iff_getElem?
abbrev OK:=@Iff.rfl
abbrev OL:=@List.tail_cons
abbrev OM:=@List.range'_succ
abbrev ON:=@List.mem_of_mem_drop
abbrev OO:=@Nat.lt_succ_self
abbrev OP:=@Nat.le_add_right
abbrev OQ:=@Option.ne_none_iff_exists'
abbrev OR:=@Array.getElem?_eq_some_iff
abbrev OS:=@List.take_succ_cons
abbrev OT:=@List.extract_eq_take_drop
abbrev OU:=@List.length_set
abbrev OV:=@List.getElem?_take
abbrev OW:=@List.set_cons_zero
abbrev OX:=@List.mem_filterMap
abbrev OY:=@List.nodup_nil
abbrev OZ:=@Array.size_append
abbrev O5:=@List.take_of_length_le
abbrev O6:=@Array.toList_map
abbrev O7:=@List.getElem_mem
abbrev O8:=@Eq.trans
abbrev O9:=@Ne.symm
abbrev Pa:=@Array.getElem?_setIfInBounds_ne
abbrev Pb:=@Array.toList_extract
abbrev Pc:=@List.range_eq_range'
abbrev Pd:=@Int.mul_le_mul_of_nonneg_right
abbrev Pe:=@Option.map_none
abbrev Pf:=@Nat.sub_self
abbrev Pg:=@Bool.or_true
abbrev Ph:=@Int.mul_le_mul_of_nonneg_left
abbrev Pj:=@List.drop_drop
abbrev Pk:=@List.mem_range
abbrev Pm:=@List.prefix_append
abbrev Pn:=@Option.isNone_none
abbrev Po:=@List.exists_cons_of_ne_nil
abbrev Pp:=@List.isEmpty_cons
abbrev Pq:=@Option.getD_none
abbrev Pr:=@List.map_set
abbrev Ps:=@List.idxOf_lt_length_iff
abbrev Pt:=@Nat.not_le_of_lt
abbrev Pu:=@List.isEmpty_nil
abbrev Pv:=@List.take_zero
abbrev Pw:=@List.mapM_cons
abbrev Px:=@Nat.mul_le_mul
abbrev Py:=@List.drop_left
abbrev Pz:=@Nat.mod_lt
abbrev PA:=@Nat.not_lt
inductive T where
 | int (k:IntKind) (n:Int)
 | bool (b:Bool)
 | str (s:ByteArray)
 | ab (sz:Nat) (isNil:Bool) (xs:List (List T))
 | af (isNil:Bool)
 | ptr (cs:List T)
 | ao
 | tE
 | tD
 | wV
 | cr (f:FuncId)
 | any
 deriving Inhabited
inductive Id where
 | c (n:Nat)
 | s (d:Nat) (j:Nat)
 | g (i:Id) (n:Nat)
 deriving DecidableEq,Inhabited
def Id.real:Id->Bool
 | .g _ _=>false
 | _=>true
inductive AV where
 | top
 | t (x:T)
 | jR (vs:List AV)
 | agg (vs:List AV)
 | ref (i:Id) (off:Nat)
 | el (i:Id) (sz k off:Nat)
 | own (i:Id)
 | part (i:Id) (sz off len:Nat)
 | row (i:Id) (n:Nat)
 | rel (i:Id) (sz n k off:Nat)
 | fn (f:FuncId) (fst caps:List AV)
 deriving Inhabited
inductive Ck where
 | i (k:IntKind)
 | b
 | s
 | l (sz:Nat)
 | x
 deriving Inhabited,DecidableEq
structure Row where
 n:Nat
 cs:List T
 own:Option (Bool×List (List T))
 deriving Inhabited
inductive ad where
 | box (cs:List AV)
 | sl (fz:Bool) (sz:Nat) (isNil:Bool) (xs:List (List T))
 | cE (cs:List T)
 | arr (cs:List AV)
 | mp (ag:Bool) (ks:List Ck) (vk:Ck) (es:List (List T×T))
 | rows (b:Bool) (sz col rsz nx:Nat) (es:List Row)
 | dead
 deriving Inhabited
def T.int?(k:IntKind):T->Option Int
 | .int a n=>if a=k then some n else none
 | _=>none
def T.bool?:T->Option Bool
 | .bool b=>some b
 | _=>none
def T.bc:T->Option ByteArray
 | .str s=>some s
 | _=>none
def T.nL:T->Option (List T)
 | .ptr cs=>some cs
 | _=>none
def T.an(sz:Nat):T->Option (Bool×List (List T))
 | .ab a b xs=>if a=sz then some (b,xs) else none
 | .af b=>some (b,[])
 | _=>none
def cZ:T->Value
 | .int k n=> .int k n
 | .bool b=> .bool b
 | .str s=> .string s
 | _=> .nilIface
def cM(ag:Bool)(cs:List T):Value:=cond ag (.agg (cs.map cZ).toArray) ((cs.map cZ).headD .nilIface)
def dt:Ck->T->Bool
 | .i k, .int a _=>decide (a=k)
 | .b, .bool _=>true
 | .s, .str _=>true
 | _,_=>false
def bX:List Ck->List T->Bool
 | [],[]=>true
 | k::ks,x::xs=>dt k x && bX ks xs
 | _,_=>false
def kW:T->T->Bool
 | .int _ a, .int _ b=>a==b
 | .bool a, .bool b=>a==b
 | .str a, .str b=>a==b
 | _,_=>false
def dB:List T->List T->Bool
 | [],[]=>true
 | x::xs,y::a=>kW x y && dB xs a
 | _,_=>false
def fq(key:List T):List (List T×T)->Option T
 | []=>none
 | (k,v)::r=>cond (dB key k) (some v) (fq key r)
def gv(key:List T)(v:T):List (List T×T)->List (List T×T)
 | []=> [(key,v)]
 | (k,u)::r=>cond (dB key k) ((key,v)::r) ((k,u)::gv key v r)
def T.nr:T->Option Unit
 | .int _ _=>some ()
 | .bool _=>some ()
 | .str _=>some ()
 | _=>none
def gd{α:Type}[Inhabited α](c:Option Bool)(m:Option α):Option α:=
 match m with
 | some a=>some a
 | none=>match c with
  | none=>none
  | some b=>cond b none (some default)
def aa{α R:Type}[Inhabited α](c:Option Bool)(m:Option α)(k:α->Option R):Option R:=
 match m with
 | some a=>k a
 | none=>match c with
  | none=>none
  | some b=>cond b none (k default)
def mH{R:Type}(c:Option Bool):Nat->List T->(List T->Option R)->Option R
 | 0,_,K=>K []
 | n+1,cs,K=>aa c cs.head? λx=>mH c n cs.tail λl=>K (x::l)
def mw:Value->Option T
 | .int k i=>some (.int k i)
 | .bool b=>some (.bool b)
 | .string s=>some (.str s)
 | .slice none 0 0=>some (.af true)
 | .pointer none=>some .ao
 | .map none=>some .tE
 | .nilFunc=>some .tD
 | .nilIface=>some .wV
 | _=>none
def jG:List Value->Option (List T)
 | []=>some []
 | v::r=>(mw v).bind λx=>(jG r).bind λl=>some (x::l)
def bz(P:Program)(t:TypeId):Bool:=
 match P.underlying t with
 | some (.struct _) | some (.array _ _)=>true
 | _=>false
def oW(P:Program)(t:TypeId):Option IntKind:=
 match P.underlying t with
 | some (.int k)=>some k
 | _=>none
def bR(P:Program)(t:TypeId):Bool:=(P.underlying t).isSome
def qq(P:Program)(t:TypeId)(f:Nat):Option (Nat×TypeId):=
 match P.underlying t with
 | some (.struct a)=>match a[f]? with
  | some x=>cond (bR P x.type) (some (x.offset,x.type)) none
  | none=>none
 | _=>none
def kU(P:Program)(t:TypeId):Option TypeId:=
 match P.underlying t with
 | some (.slice e)=>cond (bR P e) (some e) none
 | _=>none
def sc(P:Program)(t:TypeId):Option (Nat×TypeId):=
 match P.underlying t with
 | some (.array n e)=>cond (bR P e) (some (n,e)) none
 | _=>none
def nJ(P:Program)(t:TypeId):Bool:=
 match P.underlying t with
 | some (.struct a)=>a.toList.all λf=>bR P f.type
 | some (.array _ e)=>bR P e
 | _=>false
def wD(P:Program)(t:TypeId):Bool:=
 match P.underlying t with
 | some .string=>true
 | _=>false
def gy(P:Program)(t:TypeId):Option (List T):=
 match P.info? t with
 | some i=>match i.zero with
  | some v=>jG v.cells.toList
  | none=>none
 | none=>none
structure Gs where
 d:Nat
 want:Bool
 c:Bool
structure St where
 t:Nat->Option Gs×AV
 h:Id->Option ad
abbrev aB:=List (Id×ad)
def aJ(h:Id->Option ad):aB->Id->Option ad
 | []=>h
 | (i,b)::us=>aJ (λj=>if j=i then some b else h j) us
def ke(d:Nat):Option Gs×AV->Option Gs×AV
 | (some g,v)=>cond (g.d==d) (none, .top) (some g,v)
 | (none,v)=>(none,v)
def St.put(s:St)(a:Bool)(d:Option Nat)(g:Option Gs)(v:AV)(us:aB):St:=
 {t :=match d with
    | some d=>λk=>if k=d then(g,v) else cond a (ke d (s.t k)) (s.t k)
    | none=>s.t
  h:=aJ s.h us}
def u5(v:Value):AV:=
 match v with
 | .agg cs=>match jG cs.toList with
  | some l=> .agg (l.map .t)
  | none=> .top
 | v=>match mw v with
  | some x=> .t x
  | none=> .top
def jk:Option Gs->Option Gs->Bool
 | none,_=>true
 | some a,some b=>a.d==b.d && a.want==b.want
 | some _,none=>false
def St.pe(s:St)(g:Gs):St:={s with t:=λk=>cond (jk (s.t k).1 (some g)) (none,(s.t k).2) (s.t k)}
def St.get(s:St)(g:Option Gs):Operand->AV
 | .tmp k=>match s.t k with
  | (a,v)=>cond (jk a g) v .top
 | .const v=>u5 v
 | .func f=> .fn f [] []
 | .global _=> .top
def St.kr(s:St)(g:Option Gs)(cs:Operand)(want:Bool)(o:Operand):AV:=
 match cs,o with
 | .tmp d, .tmp k=>match s.t k with
  | (some a,v)=>cond ((a.d==d && a.want==want) || jk (some a) g) v .top
  | (none,v)=>v
 | _,o=>s.get g o
def AV.t?:AV->Option T
 | .t x=>some x
 | _=>none
def dz:List AV->Option (List T)
 | []=>some []
 | .t x::r=>(dz r).bind λl=>some (x::l)
 | _::_=>none
def cX(h:Id->Option ad):AV->Option T
 | .t x=>some x
 | .own i=>match h i with
  | some (.sl _ sz b xs)=>some (.ab sz b xs)
  | _=>none
 | .part i sz off len=>match h i with
  | some (.sl _ a b xs)=>if a=sz then some (.ab sz b ((xs.drop off).take len)) else none
  | _=>none
 | .ref i off=>match h i with
  | some (.box cs)=>(dz cs).bind λl=>some (.ptr (l.drop off))
  | some (.cE l)=>some (.ptr (l.drop off))
  | _=>none
 | _=>none
def jm(h:Id->Option ad):List AV->Option (List T)
 | []=>some []
 | v::r=>(cX h v).bind λx=>(jm h r).bind λl=>some (x::l)
def xH(h:Id->Option ad):AV->Option T
 | .own i=>match h i with
  | some (.sl _ sz b xs)=>some (.ab sz b xs)
  | some (.rows ..)=>some .any
  | some (.mp ..)=>some .any
  | _=>none
 | v=>cX h v
def rC(h:Id->Option ad):List AV->Option (List T)
 | []=>some []
 | v::r=>(xH h v).bind λx=>(rC h r).bind λl=>some (x::l)
def jl(h:Id->Option ad):AV->Option (List T)
 | .agg vs=>jm h vs
 | v=>(cX h v).bind λx=>some [x]
def fC(h:Id->Option ad):AV->aB
 | .own i=>match h i with
  | some (.sl false sz b xs)=> [(i, .sl true sz b xs)]
  | _=> []
 | .part i _ _ _=>match h i with
  | some (.sl false sz b xs)=> [(i, .sl true sz b xs)]
  | _=> []
 | .ref i _=>match h i with
  | some (.box cs)=>match dz cs with
   | some l=> [(i, .cE l)]
   | none=> []
  | _=> []
 | _=> []
def kq(h:Id->Option ad):List AV->aB
 | []=> []
 | v::r=>fC h v++kq h r
def ft(h:Id->Option ad):AV->aB
 | .agg vs=>kq h vs
 | v=>fC h v
def og{R:Type}(op:BinOp)(k:IntKind)(c:Option Bool)(x y:T)(K:T->Option R):Option R:=
 aa c (x.int? k) λa=>aa c (y.int? k) λb=>
  match op with
  | .add=>K (.int k (k.wrap (a+b)))
  | .sub=>K (.int k (k.wrap (a - b)))
  | .mul=>K (.int k (k.wrap (a * b)))
  | .quo=>aa c (if b=0 then none else some ()) λ_=>K (.int k (k.wrap (a.tdiv b)))
  | .rem=>aa c (if b=0 then none else some ()) λ_=>K (.int k (a.tmod b))
  | .and=>K (.int k (k.wrap (BitVec.ofInt k.bits a &&& BitVec.ofInt k.bits b).toNat))
  | .or=>K (.int k (k.wrap (BitVec.ofInt k.bits a ||| BitVec.ofInt k.bits b).toNat))
  | .xor=>K (.int k (k.wrap (BitVec.ofInt k.bits a ^^^ BitVec.ofInt k.bits b).toNat))
  | .andNot=>K (.int k (k.wrap (BitVec.ofInt k.bits a &&& ~~~(BitVec.ofInt k.bits b)).toNat))
  | .lss=>K (.bool (decide (a < b)))
  | .leq=>K (.bool (decide (a<=b)))
  | .gtr=>K (.bool (decide (a > b)))
  | .geq=>K (.bool (decide (a>=b)))
  | _=>none
def pE{R:Type}(op:BinOp)(k d:IntKind)(c:Option Bool)(x y:T)(K:T->Option R):Option R:=
 aa c (x.int? k) λa=>aa c (y.int? d) λb=>
  aa c (if b < 0 then none else some ()) λ_=>
  match op with
  | .shl=>K (.int k (k.wrap (a * 2 ^ (min b.toNat k.bits))))
  | .shr=>K (.int k (a.fdiv (2 ^ (min b.toNat k.bits))))
  | _=>none
def pK{R:Type}(op:BinOp)(c:Option Bool)(x y:T)(K:T->Option R):Option R:=
 aa c x.bc λa=>aa c y.bc λb=>
  match op with
  | .add=>aa c (if a.size+b.size<=4294967296 then some () else none) λ_=>K (.str (a++b))
  | .lss=>K (.bool (Op.bytesLess a.toList b.toList))
  | .leq=>K (.bool (Op.bytesLess a.toList b.toList || a.toList==b.toList))
  | .gtr=>K (.bool (!(Op.bytesLess a.toList b.toList || a.toList==b.toList)))
  | .geq=>K (.bool (!(Op.bytesLess a.toList b.toList)))
  | _=>none
def oS(P:Program)(go:TypeId->Option (List TypeId)):List Field->Nat->Option (List TypeId)
 | [],_=>some []
 | f ::r,off=>if f.offset=off/\f.name≠ "_" then
     (go f.type).bind λl=>if P.cellsOf f.type=l.length/\0 < l.length then(oS P go r (off+l.length)).bind λq=>some (l++q) else none
  else none
def eC(P:Program):Nat->TypeId->Option (List TypeId)
 | 0,_=>none
 | n+1,t=>match P.underlying t with
  | some (.int _) | some .bool | some .string=>some [t]
  | some (.struct a)=>if P.stoodInHeld t then none else oS P (eC P n) a.toList 0
  | some (.array m e)=>(eC P n e).bind λl=>if P.cellsOf e=l.length then some (List.replicate m l).flatten else none
  | _=>none
def ik(P:Program)(s:St)(t:TypeId)(x:AV):Option Bool:=
 match P.underlying t with
 | some (.slice _)=>match x with
  | .t (.ab _ b _)=>some b
  | .t (.af b)=>some b
  | .own i=>match s.h i with
   | some (.sl _ _ b _)=>some b
   | _=>none
  | _=>none
 | some (.pointer _)=>match x with
  | .t (.ptr _)=>some false
  | .t .ao=>some true
  | .ref _ _=>some false
  | .el _ _ _ _=>some false
  | _=>none
 | some (.func ..)=>match x with
  | .t .tD=>some true
  | .fn _ _ _=>some false
  | _=>none
 | some (.map ..)=>match x with
  | .t .tE=>some true
  | _=>none
 | _=>none
def mv(P:Program)(t:TypeId)(o:Operand):Bool:=
 match P.underlying t,o with
 | some (.slice _), .const (.slice none 0 0)=>true
 | some (.pointer _), .const (.pointer none)=>true
 | some (.func ..), .const .nilFunc=>true
 | some (.map ..), .const (.map none)=>true
 | _,_=>false
def jz{R:Type}(P:Program)(c:Option Bool)(t:TypeId)(x y:T)(K:Bool->Option R):Option R:=
 match P.underlying t with
 | some (.int k)=>aa c (x.int? k) λa=>aa c (y.int? k) λb=>K (a==b)
 | some .bool=>aa c x.bool? λa=>aa c y.bool? λb=>K (a==b)
 | some .string=>aa c x.bc λa=>aa c y.bc λb=>K (a==b)
 | _=>none
def dD{R:Type}(P:Program)(c:Option Bool):List TypeId->List T->List T->(Bool->Option R)->Option R
 | [],[],[],K=>K true
 | t::ts,x::xs,y::a,K=>jz P c t x y λb=>dD P c ts xs a λr=>K (b && r)
 | _,_,_,_=>none
def oo{R:Type}(P:Program)(op:BinOp)(t ty:TypeId)(c:Option Bool)(x y:T)(K:T->Option R):Option R:=
 match op with
 | .shl | .shr=>match oW P t,oW P ty with
  | some k,some a=>pE op k a c x y K
  | _,_=>none
 | .eql | .neq=>none
 | op=>match P.underlying t with
  | some (.int k)=>og op k c x y K
  | some .string=>pK op c x y K
  | _=>none
def nn{R:Type}(P:Program)(c:Option Bool)(t:TypeId)(x y:AV)(K:Bool->Option R):Option R:=
 match x,y with
 | .t x, .t y=>cond (wD P t) (aa c x.bc λa=>aa c y.bc λb=>K (a.toList==b.toList)) (jz P c t x y K)
 | .agg xs, .agg d=>cond (P.eqGuardType P.depth t || !bz P t) none <| (dz xs).bind λxs=>(dz d).bind λd=>(eC P 8 t).bind λts=>dD P c ts xs d K
 | _,_=>none
def pQ{R:Type}(P:Program)(op:UnOp)(t:TypeId)(c:Option Bool)(x:T)(K:T->Option R):Option R:=
 match op,P.underlying t with
 | .neg,some (.int k)=>aa c (x.int? k) λa=>K (.int k (k.wrap (0 - a)))
 | .xor,some (.int k)=>aa c (x.int? k) λa=>
   K (.int k (k.wrap (BitVec.ofInt k.bits (if k.signed then -1 else k.max) ^^^ BitVec.ofInt k.bits a).toNat))
 | .not,some .bool=>aa c x.bool? λa=>K (.bool (!a))
 | _,_=>none
open Go
def dX{R:Type}(k:Ck)(c:Option Bool)(x:T)(K:T->Option R):Option R:=
 match k with
 | .i k=>aa c (x.int? k) λn=>K (.int k n)
 | .b=>aa c x.bool? λb=>K (.bool b)
 | .s=>aa c x.bc λs=>K (.str s)
 | .l sz=>aa c (x.an sz) λp=>K (.ab sz p.1 p.2)
 | .x=>K x
def dR{R:Type}(c:Option Bool):List Ck->List T->(List T->Option R)->Option R
 | [],xs,K=>K xs
 | _::_,[],K=>K []
 | k::ks,x::xs,K=>dX k c x λy=>dR c ks xs λa=>K (y::a)
def jv(P:Program)(t:TypeId):Ck:=
 match P.underlying t with
 | some (.int k)=> .i k
 | some .bool=> .b
 | some .string=> .s
 | some (.slice e)=> .l (P.cellsOf e)
 | _=> .x
def sf(P:Program):Nat->TypeId->List Ck
 | 0,_=> []
 | n+1,t=>match P.underlying t with
  | some (.struct a)=>a.toList.flatMap λf=>sf P n f.type
  | some (.array m e)=>(List.replicate m (sf P n e)).flatten
  | _=> [jv P t]
def p6(P:Program)(t:TypeId):List Ck:=
 if(sf P 8 t).length=P.cellsOf t then sf P 8 t else List.replicate (P.cellsOf t) .x
inductive bW where
 | f (k:Ck)
 | t (k:Ck)
 | own (sz:Nat)
 | ref (k off:Nat)
 | same (k:Nat)
 | rows (sz col rsz:Nat)
 | mp (ag:Bool) (ks:List Ck) (vk:Ck)
 | new (l:List bW)
 | no
 | agg (l:List bW)
 deriving Inhabited
inductive iw where
 | box (l:List bW)
 | sl (sz:Nat)
 | mp (ag:Bool) (ks:List Ck) (vk:Ck)
 | dead
 deriving Inhabited
structure xZ where
 res:List bW
 outs:List iw
 deriving Inhabited
structure ct where
 live:FuncId->Nat->Option (List (Nat×Option Nat))
 join:FuncId->Nat->Option (List (Nat×Option Nat))
 sig:FuncId->Option xZ
 gf:FuncId->Option (List Bool):=λ_=>none
 deep:FuncId->Bool:=λ_=>false
 uV:FuncId->Nat->xZ:=λ_ _=>⟨[],[]⟩
 app:Option Nat->Bool:=λ_=>false
 wr:FuncId->Bool:=λ_=>false
 st:Option Nat->Bool:=λ_=>false
 Dv:Option Nat->TypeId->Bool:=λ_ _=>true
 sx:Option Nat->Bool:=λ_=>false
 ld:Option Nat->Bool:=λ_=>false
 u4:Option Nat->Bool:=λ_=>false
 ou:Option Nat->TypeId->Bool:=λ_ _=>false
 tn:Option Nat->TypeId->Bool:=λ_ _=>false
 tm:Option Nat->TypeId->Bool:=λ_ _=>false
 jF:Option Nat->TypeId->Nat:=λ_ _=>0
 ext:FuncId->List AV->List ad->Option (List T):=λ_ _ _=>none
inductive Key where
 | call (f:FuncId)
 | node (f:FuncId) (todo:List Item) (live:List (Nat×Option Nat)) (m:Nat×Nat)
abbrev aq:=Key->List AV->List ad->Option (List T)
def kA:Nat:=4294967296
mutual
def AV.ids:AV->List Id
 | .top=> []
 | .t _=> []
 | .jR vs=>bS vs
 | .agg vs=>bS vs
 | .ref i _=> [i]
 | .el i _ _ _=> [i]
 | .own i=> [i]
 | .part i _ _ _=> [i]
 | .row i _=> [i]
 | .rel i _ _ _ _=> [i]
 | .fn _ a b=>bS a++bS b
def bS:List AV->List Id
 | []=> []
 | v::r=>v.ids++bS r
end
mutual
def AV.rn(m:List Id):AV->AV
 | .top=> .top
 | .t x=> .t x
 | .jR vs=> .jR (iM m vs)
 | .agg vs=> .agg (iM m vs)
 | .ref i o=> .ref (.c (m.idxOf i)) o
 | .el i sz k o=> .el (.c (m.idxOf i)) sz k o
 | .own i=> .own (.c (m.idxOf i))
 | .part i sz o n=> .part (.c (m.idxOf i)) sz o n
 | .row i n=> .row (.c (m.idxOf i)) n
 | .rel i sz n k o=> .rel (.c (m.idxOf i)) sz n k o
 | .fn f a b=> .fn f (iM m a) (iM m b)
def iM(m:List Id):List AV->List AV
 | []=> []
 | v::r=>v.rn m::iM m r
end
def fH(m:List Id):Option ad->ad
 | some (.box cs)=> .box (iM m cs)
 | some (.arr cs)=> .arr (iM m cs)
 | some b=>b
 | none=> .dead
def dV(h:Id->Option ad):Nat->List Id->List Id->Option (List Id)
 | 0,_,_=>none
 | _+1,[],seen=>some seen
 | n+1,i::todo,seen=>
  cond (seen.contains i) (dV h n todo seen)
   (match h i with
    | some (.box cs)=>dV h n (todo++bS cs) (seen++ [i])
    | some (.arr cs)=>dV h n (todo++bS cs) (seen++ [i])
    | some _=>dV h n todo (seen++ [i])
    | none=>none)
def kJ:Nat->List AV->Option (List AV)
 | 0,_=>some []
 | _+1,[]=>none
 | n+1,c::r=>(kJ n r).bind λl=>some (c::l)
def cb{α:Type}(off:Nat)(new a:List α):List α:=a.take off++new++a.drop (off+new.length)
def cq(n:Nat):List Row->Option (Bool×List (List T))
 | []=>none
 | e::r=>if e.n=n then e.own else cq n r
def cH(n:Nat)(p:Option (Bool×List (List T))):List Row->List Row
 | []=> []
 | e::r=>if e.n=n then{e with own:=p}::r else e::cH n p r
def jM{R:Type}(h:Id->Option ad)(c:Option Bool)(i:Id)(n:Nat)(K:Nat->Bool->List (List T)->Option R):Option R:=
 match h i with
 | some (.rows _ _ _ rsz _ es)=>aa c (cq n es) λp=>K rsz p.1 p.2
 | _=>none
def jd{R:Type}(P:Program)(t:TypeId)(c:Option Bool)(cs:List T)(K:AV->Option R):Option R:=
 cond (bz P t) (mH c (P.cellsOf t) cs λl=>dR c (p6 P t) l λl=>K (.agg (l.map .t))) (aa c cs.head? λx=>dX (jv P t) c x λx=>K (.t x))
def kB{R:Type}(P:Program)(t:TypeId)(cs:List AV)(K:AV->Option R):Option R:=
 cond (bz P t) ((kJ (P.cellsOf t) cs).bind λl=>K (.agg l)) (cs.head?.bind K)
def o6{R:Type}(P:Program)(t:TypeId)(c:Option Bool)(i:Id)(sz col off:Nat)(e:Row)(K:AV->Option R):Option R:=
 cond (bz P t)
  (if off=0/\P.cellsOf t=sz then mH c sz e.cs λl=>dR c ((p6 P t).set col .x) l λl=>K (.agg ((l.map .t).set col (.row i e.n))) else none)
  (if off=col then K (.row i e.n) else aa c (e.cs.drop off).head? λx=>dX (jv P t) c x λx=>K (.t x))
def fu{R:Type}(P:Program)(s:St)(c:Option Bool)(t:TypeId)(a:AV)(K:AV->Option R):Option R:=
 cond (bR P t) (match a with
 | .ref i off=>match s.h i with
  | some (.box cs)=>kB P t (cs.drop off) K
  | some (.cE l)=>jd P t c (l.drop off) K
  | _=>none
 | .el i sz k off=>match s.h i with
  | some (.sl _ b _ xs)=>if b=sz then aa c xs[k]? λcs=>jd P t c (cs.drop off) K else none
  | some (.rows _ b col _ _ es)=>if b=sz then aa c es[k]? λe=>o6 P t c i sz col off e K else none
  | _=>none
 | .rel i sz n k off=>jM s.h c i n λrsz _ xs=>if rsz=sz then aa c xs[k]? λcs=>jd P t c (cs.drop off) K else none
 | .t x=>aa c x.nL λcs=>jd P t c cs K
 | _=>none) none
def fk(v:AV):List AV:=
 match v with
 | .agg vs=>vs
 | .fn f [] []=> [.t (.cr f)]
 | v=> [v]
def mZ:AV->Bool
 | .agg _ | .jR _ | .top=>false
 | _=>true
def fT(k off:Nat)(l:List T)(xs:List (List T)):Option (List (List T)):=
 match xs[k]? with
 | some cs=>if off+l.length<=cs.length then some (xs.set k (cb off l cs)) else none
 | none=>none
def gX{R:Type}(P:Program)(s:St)(t:TypeId)(a v:AV)(K:aB->Option R):Option R:=
 cond (bR P t) (match a with
 | .ref i off=>match s.h i with
  | some (.box cs)=>
   if(fk v).length=P.cellsOf t/\(fk v).all mZ/\off+ (fk v).length<=cs.length then K [(i, .box (cb off (fk v) cs))] else none
  | _=>none
 | .el i sz k off=>match s.h i with
  | some (.sl false d b xs)=>(jl s.h v).bind λl=>
    if d=sz/\l.length=P.cellsOf t/\v.ids.contains i=false then
     aa none (fT k off l xs) λm=>K ((i, .sl false sz b m)::ft s.h v) else none
  | some (.rows b d col rsz f es)=>match v with
   | .own j=>match s.h j with
    | some (.sl false g o xs)=>
     if d=sz/\off=col/\g=rsz/\P.cellsOf t=1/\bz P t=false then
      aa none es[k]? λe=>K [(j, .dead),(i, .rows b sz col rsz (f+1) (es.set k ⟨f,e.cs,some (o,xs)⟩))] else none
    | _=>none
   | _=>none
  | _=>none
 | .rel i sz n k off=>match s.h i with
  | some (.rows b d col rsz f es)=>aa none (cq n es) λp=>(jl s.h v).bind λl=>
    if rsz=sz/\l.length=P.cellsOf t/\v.ids.contains i=false then
     aa none (fT k off l p.2) λm=>K ((i, .rows b d col rsz f (cH n (some (p.1,m)) es))::ft s.h v) else none
  | _=>none
 | _=>none) none
def qF:List (Nat×List AV)->List AV->Option (List AV)
 | [],z=>some z
 | (off,l)::r,z=>if off+l.length<=z.length then qF r (cb off l z) else none
def qV(P:Program)(t:TypeId)(f:Nat):Option (Nat×TypeId):=
 match qq P t f with
 | some p=>some p
 | none=>match sc P t with
  | some (_,u)=>some (f * P.cellsOf u,u)
  | none=>none
def mC(P:Program)(t:TypeId)(ev:Operand->AV):List (Nat×Operand)->Option (List (Nat×List AV))
 | []=>some []
 | (f,o)::r=>(qV P t f).bind λp=>
   if(fk (ev o)).length=P.cellsOf p.2/\(fk (ev o)).all mZ then(mC P t ev r).bind λq=>some ((p.1,fk (ev o))::q) else none
def sd(P:Program)(t:TypeId)(ev:Operand->AV)(a:List (Nat×Operand)):Option AV:=
 if nJ P t then
 (gy P t).bind λz=>(mC P t ev a).bind λl=>(qF l (z.map .t)).bind λcs=>some (.agg cs)
 else none
def gh(P:Program)(h:Id->Option ad)(e:TypeId)(ev:Operand->AV):Nat->List (Nat×Operand)->Option (List (List T)×aB)
 | _,[]=>some ([],[])
 | n,(k,o)::r=>(jl h (ev o)).bind λl=>if k=n/\l.length=P.cellsOf e then
    (gh P h e ev (n+1) r).bind λq=>some (l::q.1,ft h (ev o)++q.2)
  else none
def iG{R:Type}(c:Option Bool)(i:Int)(n:Nat)(K:Option R):Option R:=aa c (if 0<=i/\i < n then some () else none) λ_=>K
def ij{R:Type}(P:Program)(s:St)(c:Option Bool)(t:TypeId)(x:AV)(i:Int)(K:AV->Option R):Option R:=
 match kU P t with
 | some e=>match x with
  | .own j=>match s.h j with
   | some (.sl _ sz _ xs)=>if sz=P.cellsOf e then iG c i xs.length (K (.el j sz i.toNat 0)) else none
   | some (.rows _ sz _ _ _ es)=>if sz=P.cellsOf e then iG c i es.length (K (.el j sz i.toNat 0)) else none
   | _=>none
  | .row j n=>jM s.h c j n λrsz _ xs=>if rsz=P.cellsOf e then iG c i xs.length (K (.rel j rsz n i.toNat 0)) else none
  | .part j sz off n=>match s.h j with
   | some (.sl _ a _ _)=>if sz=P.cellsOf e/\a=sz then iG c i n (K (.el j sz (off+i.toNat) 0)) else none
   | _=>none
  | .t y=>aa c (y.an (P.cellsOf e)) λp=>iG c i p.2.length (aa c p.2[i.toNat]? λcs=>K (.t (.ptr cs)))
  | _=>none
 | none=>match sc P t with
  | some (n,e)=>iG c i n (match x with
   | .ref j off=>K (.ref j (off+i.toNat * P.cellsOf e))
   | .el j sz k off=>K (.el j sz k (off+i.toNat * P.cellsOf e))
   | .t y=>aa c y.nL λcs=>K (.t (.ptr (cs.drop (i.toNat * P.cellsOf e))))
   | _=>none)
  | none=>none
def oP{R:Type}(P:Program)(c:Option Bool)(t:TypeId)(x:AV)(f:Nat)(K:AV->Option R):Option R:=
 match qq P t f with
 | some (off,u)=>if P.cellsOf u=0 then none else
  match x with
  | .ref j o=>K (.ref j (o+off))
  | .el j sz k o=>K (.el j sz k (o+off))
  | .rel j sz n k o=>K (.rel j sz n k (o+off))
  | .t y=>aa c y.nL λcs=>K (.t (.ptr (cs.drop off)))
  | _=>none
 | none=>none
def oO{R:Type}(P:Program)(t:TypeId)(x:AV)(f:Nat)(K:AV->Option R):Option R:=
 match qq P t f with
 | some (off,u)=>match x with
  | .agg vs=>kB P u (vs.drop off) K
  | _=>none
 | none=>none
def lr{R:Type}(P:Program)(s:St)(c:Option Bool)(t:TypeId)(x:AV)(K:AV->Option R):Option R:=
 match P.underlying t with
 | some .string=>match x with
  | .t y=>aa c y.bc λb=>K (.t (.int .i64 b.size))
  | _=>none
 | some (.array n _)=>K (.t (.int .i64 n))
 | some (.slice e)=>match x with
  | .own j=>match s.h j with
   | some (.sl _ _ _ xs)=>K (.t (.int .i64 xs.length))
   | some (.rows _ _ _ _ _ es)=>K (.t (.int .i64 es.length))
   | _=>none
  | .row j n=>jM s.h c j n λ_ _ xs=>K (.t (.int .i64 xs.length))
  | .part _ _ _ n=>K (.t (.int .i64 n))
  | .t y=>aa c (y.an (P.cellsOf e)) λp=>K (.t (.int .i64 p.2.length))
  | _=>none
 | _=>none
def gK{R:Type}(s:St)(c:Option Bool)(g:Option Gs)(o:Option Operand)(K:Option Int->Option R):Option R:=
 match o with
 | none=>K none
 | some o=>(s.get g o).t?.bind λx=>aa c (anyInt x) λn=>K (some n)
where
 anyInt:T->Option Int
  | .int _ n=>some n
  | _=>none
def fD(b a n:Int):Option Unit:=if 0<=b/\b<=a/\a<=n then some () else none
def sub(a b:Int)(xs:List (List T)):List (List T):=(xs.drop a.toNat).take (b.toNat - a.toNat)
def uD(b a m:Int):Option Unit:=if b=0/\a=0/\m=0 then some () else none
def td:T->Bool
 | .af true=>true
 | .ab _ true []=>true
 | _=>false
def lM{R:Type}(P:Program)(s:St)(c:Option Bool)(t:TypeId)(x:AV)(a d f:Option Int)(K:AV->Option R):Option R:=
 match P.underlying t with
 | some .string=>match x,f with
  | .t y,none=>aa c y.bc λb=>
    aa c (fD (a.getD 0) (d.getD b.size) b.size) λ_=>K (.t (.str (b.extract (a.getD 0).toNat (d.getD b.size).toNat)))
  | _,_=>none
 | some (.slice e)=>match f with
  | none=>match x with
   | .own j=>match s.h j with
    | some (.sl _ sz _ xs)=>if sz=P.cellsOf e/\bR P e=true then
      aa c (fD (a.getD 0) (d.getD xs.length) xs.length) λ_=>
      K (.part j sz (a.getD 0).toNat ((d.getD xs.length).toNat - (a.getD 0).toNat)) else none
    | _=>none
   | .part j sz off n=>match s.h j with
    | some (.sl _ g _ _)=>if sz=P.cellsOf e/\g=sz/\bR P e=true then
      aa c (fD (a.getD 0) (d.getD n) n) λ_=>
      K (.part j sz (off+ (a.getD 0).toNat) ((d.getD n).toNat - (a.getD 0).toNat)) else none
    | _=>none
   | .t y=>if bR P e=true then aa c (y.an (P.cellsOf e)) λp=>
     aa c (fD (a.getD 0) (d.getD p.2.length) p.2.length) λ_=>
     K (.t (.ab (P.cellsOf e) p.1 (sub (a.getD 0) (d.getD p.2.length) p.2))) else none
   | _=>none
  | some m=>match x with
   | .t y=>if bR P e=true then aa c (y.an (P.cellsOf e)) λp=>aa c (uD (a.getD 0) (d.getD 1) m) λ_=>K (.t (.af p.1)) else none
   | .own j=>match s.h j with
    | some (.sl _ _ b _)=>if bR P e=false then none else aa c (uD (a.getD 0) (d.getD 1) m) λ_=>K (.t (.af b))
    | _=>none
   | _=>none
 | _=>none
def kC(n m:Int):Option Unit:=if 0<=n/\n<=m/\m<=kA then some () else none
def jV{R:Type}(P:Program)(s:St)(t:TypeId)(sz:Nat)(a:List T)(y:AV)(K:List (List T)->Option R):Option R:=
 match P.underlying t with
 | some (.slice _)=>(cX s.h y).bind λx=>aa none (x.an sz) λp=>K p.2
 | some .string=>if sz=1 then y.t?.bind λx=>aa none x.bc λb=>K (b.data.toList.map λu=> [.int .u8 u.toNat]) else none
 | some (.int _)=>y.t?.bind λx=>aa none (x.int? .i64) λn=>aa none (kC n n) λ_=>K (List.replicate n.toNat a)
 | _=>none
def ma(a n:Nat):Prop:=n<=kA\/(0 < a/\n * a<=140737488355328)
instance (bs n:Nat):Decidable (ma bs n):=inferInstanceAs (Decidable (_\/_))
def bg(a n:Nat):Option Unit:=if ma a n then some () else none
def BY:T->Option Bool
 | .af b=>some b
 | .ab _ b xs=>cond (b && xs.isEmpty) (some true) none
 | _=>none
def xv(h:Id->Option ad):AV->Option (Id×Nat×Nat×Nat×Nat×List Row)
 | .own i=>match h i with
  | some (.rows _ sz col rsz a es)=>some (i,sz,col,rsz,a,es)
  | _=>none
 | _=>none
def w6(h:Id->Option ad):AV->Option (Id×List AV)
 | .own j=>match h j with
  | some (.arr cs)=>some (j,cs)
  | _=>none
 | _=>none
def mY{R:Type}(P:Program)(s:St)(d:Nat)(e:TypeId)(i:Id)(sz col rsz f:Nat)(es:List Row)(j:Id)(cs:List AV)(K:AV->aB->Option R):Option R:=
 if sz=P.cellsOf e/\cs.length=sz/\col < sz/\i≠j then
  (dz (cs.set col (.t .ao))).bind λl=>match cs[col]? with
   | some (.own o)=>match s.h o with
    | some (.sl false m u xs)=>if m=rsz then
      aa none (bg (P.bytesOf e) (es.length+1)) λ_=>
      K (.own (.s d 0)) [(i, .dead),(j, .dead),(o, .dead),(.s d 0, .rows false sz col rsz (f+1) (es++ [⟨f,l,some (u,xs)⟩]))] else none
    | _=>none
   | some (.row a n)=>match s.h a with
    | some (.rows v r k b q g)=>if b=rsz/\a≠i then
      aa none (cq n g) λp=>aa none (bg (P.bytesOf e) (es.length+1)) λ_=>
      K (.own (.s d 0)) [(i, .dead),(j, .dead),(a, .rows v r k b q (cH n none g)),(.s d 0, .rows false sz col rsz (f+1) (es++ [⟨f,l,some p⟩]))] else none
    | _=>none
   | _=>none
 else none
def iW{R:Type}(P:Program)(s:St)(d:Nat)(rw:Bool)(t ty:TypeId)(x y:AV)(K:AV->aB->Option R):Option R:=
 (kU P t).bind λe=>(gy P e).bind λk=>
 if P.bytesOf e<=8192/\k.length=P.cellsOf e then
 match cond rw (xv s.h x) none,cond rw (w6 s.h y) none with
 | some (i,sz,col,rsz,l,es),some (j,cs)=>match P.underlying ty with
  | some (.slice _)=>mY P s d e i sz col rsz l es j cs K
  | _=>none
 | _,_=>
 jV P s ty (P.cellsOf e) k y λa=>
 match x with
 | .own i=>match s.h i with
  | some (.sl false f b xs)=>if f=P.cellsOf e then
    aa none (bg (P.bytesOf e) (xs.length+a.length)) λ_=>
    K (.own (.s d 0)) [(.s d 0, .sl false (P.cellsOf e) (b && a.isEmpty) (xs++a)),(i, .dead)] else none
  | _=>none
 | .part i g off n=>match s.h i with
  | some (.sl false f b xs)=>if f=P.cellsOf e/\g=P.cellsOf e then
    aa none (bg (P.bytesOf e) (n+a.length)) λ_=>
    K (.own (.s d 0)) [(.s d 0, .sl false (P.cellsOf e) (b && a.isEmpty) ((xs.drop off).take n++a)),(i, .dead)] else none
  | _=>none
 | .t z=>(BY z).bind λb=>aa none (bg (P.bytesOf e) a.length) λ_=>
    K (.own (.s d 0)) [(.s d 0, .sl false (P.cellsOf e) (b && a.isEmpty) a)]
 | _=>none
 else none
def nF(n:Nat):List Row:=(List.range n).map λk=>⟨k,[.ao],some (true,[])⟩
def o7{R:Type}(P:Program)(d:Nat)(t:TypeId)(jF:Nat)(n m:T)(K:AV->aB->Option R):Option R:=
 (kU P t).bind λe=>(gy P e).bind λa=>
 aa none (n.int? .i64) λn=>aa none (m.int? .i64) λm=>
 if P.bytesOf e<=8192/\a.length=P.cellsOf e then
 aa none (kC n m) λ_=>
  cond (jF==2) (match P.underlying e,a with
   | some (.slice u),[.af true]=>if P.cellsOf e=1 then K (.own (.s d 0)) [(.s d 0, .rows false 1 0 (P.cellsOf u) n.toNat (nF n.toNat))] else none
   | _,_=>none)
   (K (.own (.s d 0)) [(.s d 0, .sl false (P.cellsOf e) false (List.replicate n.toNat a))])
 else none
def mm(d:Bool)(a b:Int):Int:=cond d (if b > a then b else a) (if b < a then b else a)
def mr{R:Type}(k:IntKind)(c:Option Bool)(d:Bool):Int->List T->(T->Option R)->Option R
 | a,[],K=>K (.int k a)
 | a,y::r,K=>aa c (y.int? k) λb=>mr k c d (mm d a b) r K
def oz{R:Type}(P:Program)(c:Option Bool)(src a:TypeId)(x:T)(K:T->Option R):Option R:=
 match P.underlying src,P.underlying a with
 | some (.int k),some (.int d)=>aa c (x.int? k) λn=>K (.int d (d.wrap n))
 | some .string,some .string=>aa c x.bc λb=>K (.str b)
 | _,_=>none
def bytesOf:List (List T)->Option (List UInt8)
 | []=>some []
 | cs::r=>cs.head?.bind λx=>(x.int? .u8).bind λn=>(bytesOf r).bind λl=>some (UInt8.ofNat n.toNat::l)
def kG:Ck->Bool
 | .i _ | .b | .s=>true
 | _=>false
def o9(P:Program)(t:TypeId):Option (TypeId×TypeId):=
 match P.underlying t with
 | some (.map k e)=>cond (bR P k && bR P e) (some (k,e)) none
 | _=>none
def xX(P:Program)(t:TypeId):Option T:=
 match P.info? t with
 | some i=>match i.zero with
  | some v=>mw v
  | none=>none
 | none=>none
def jc(P:Program)(k:TypeId):Option (Bool×List Ck):=
 match P.underlying k with
 | some (.int i)=>some (false,[.i i])
 | some .string=>some (false,[.s])
 | some (.array n e)=>match P.underlying e with
  | some (.int i)=>if P.cellsOf e=1/\n<=8 then some (true,List.replicate n (.i i)) else none
  | _=>none
 | _=>none
def mj{R:Type}(P:Program)(k:TypeId)(c:Option Bool)(v:AV)(K:Bool->List Ck->List T->Option R):Option R:=
 (jc P k).bind λq=>match q.1,v with
  | false, .t x=>dR c q.2 [x] λcs=>K false q.2 cs
  | true, .agg vs=>(dz vs).bind λl=>if l.length=q.2.length then dR c q.2 l λcs=>K true q.2 cs else none
  | _,_=>none
def lu{R:Type}(P:Program)(s:St)(c:Option Bool)(t:TypeId)(x key:AV)(ok:Bool)(K:AV->Option R):Option R:=
 (o9 P t).bind λq=>(xX P q.2).bind λz=>mj P q.1 c key λag ks cs=>match x with
  | .own i=>match s.h i with
   | some (.mp a b vk es)=>if a=ag/\b=ks/\jv P q.2=vk/\kG vk=true/\bz P q.2=false then
     dX vk c ((fq cs es).getD z) λv=>K (cond ok (.jR [.t v, .t (.bool (fq cs es).isSome)]) (.t v)) else none
   | _=>none
  | _=>none
def o8{R:Type}(P:Program)(d:Nat)(t:TypeId)(K:AV->aB->Option R):Option R:=
 (o9 P t).bind λq=>(jc P q.1).bind λp=>if kG (jv P q.2)=true then K (.own (.s d 0)) [(.s d 0, .mp p.1 p.2 (jv P q.2) [])] else K (.t .any) [(.s d 0, .dead)]
def lE{R:Type}(P:Program)(s:St)(t:TypeId)(x key v:AV)(K:aB->Option R):Option R:=
 (o9 P t).bind λq=>mj P q.1 none key λag ks cs=>match x with
  | .own i=>match s.h i with
   | some (.mp a b vk es)=>if a=ag/\b=ks/\jv P q.2=vk/\kG vk=true then
     v.t?.bind λv=>dX vk none v λv=>K [(i, .mp ag ks vk (gv cs v es))] else none
   | _=>none
  | _=>none
def jx(key:List T):List (List T×T)->List (List T×T)
 | []=> []
 | p::r=>cond (dB key p.1) r (p::jx key r)
def kT{R:Type}(P:Program)(s:St)(t:TypeId)(x key:AV)(K:aB->Option R):Option R:=
 (o9 P t).bind λq=>mj P q.1 none key λag ks cs=>match x with
  | .own i=>match s.h i with
   | some (.mp a b vk es)=>if a=ag/\b=ks then K [(i, .mp ag ks vk (jx cs es))] else none
   | _=>none
  | _=>none
def iz(a b:Bool)(h:Id->Option ad):AV->Option (T×aB)
 | .ref i off=>cond a (match h i with
  | some (.box cs)=>(cond b (rC h (cs.drop off)) (dz (cs.drop off))).bind λl=>some (.ptr l,[])
  | some (.cE l)=>some (.ptr (l.drop off),[])
  | _=>none) ((cX h (.ref i off)).bind λx=>some (x,fC h (.ref i off)))
 | v=>(cX h v).bind λx=>some (x,cond a [] (fC h v))
def jW(b a:Bool)(h:Id->Option ad):List AV->Option (List T×aB)
 | []=>some ([],[])
 | v::r=>(iz b a h v).bind λp=>(jW b a h r).bind λq=>some (p.1::q.1,p.2++q.2)
def jr(e d:Bool)(h:Id->Option ad):AV->Option (AV×aB)
 | .fn f a b=>(jW e d h a).bind λx=>(jW e d h b).bind λy=>some (.fn f (x.1.map .t) (y.1.map .t),x.2++y.2)
 | .agg vs=>(jW e d h vs).bind λx=>some (.agg (x.1.map .t),x.2)
 | v=>(iz e d h v).bind λp=>some (.t p.1,p.2)
def js(b a:Bool)(h:Id->Option ad):List AV->Option (List AV×aB)
 | []=>some ([],[])
 | v::r=>(jr b a h v).bind λp=>(js b a h r).bind λq=>some (p.1::q.1,p.2++q.2)
def sT(P:Program):Nat->TypeId->Bool
 | 0,_=>false
 | n+1,t=>match P.underlying t with
  | some (.int _) | some .bool | some .string=>true
  | some (.struct a)=>a.toList.all λf=>sT P n f.type
  | some (.array _ e)=>sT P n e
  | _=>false
def po(e:Row):T:=match e.own with
 | some p=> .ab 0 p.1 p.2
 | none=> .ao
def ba(b:Bool)(es:List Row):T:= .ab 2 b (es.map λe=> [.ptr e.cs,po e])
def nb:Nat->List (List T)->Option (List Row)
 | _,[]=>some []
 | n,[.ptr cs, .ab _ b xs]::r=>(nb (n+1) r).bind λl=>some (⟨n,cs,some (b,xs)⟩::l)
 | _,_=>none
def aM:T->Option (Bool×List Row)
 | .ab _ b xs=>(nb 0 xs).bind λl=>some (b,l)
 | _=>none
def aW(es:List Row):Bool:=es.all λe=>e.own.isSome
def Bm:bW->Bool
 | .rows _ _ _=>true
 | _=>false
def aG(es:List (List T×T)):T:= .ab 2 false (es.map λp=> [.ptr p.1,p.2])
def qg:List (List T)->Option (List (List T×T))
 | []=>some []
 | [.ptr k,v]::r=>(qg r).bind λl=>some ((k,v)::l)
 | _=>none
def aK:T->Option (List (List T×T))
 | .ab _ _ xs=>qg xs
 | _=>none
def kc{R:Type}(ids:List Id)(d:Nat)(c:Option Bool)(j:Nat)(r:bW)(x:T)(K:AV->aB->Nat->Option R):Option R:=
 match r with
 | .f k=>dX k c x λx=>K (.t x) [] j
 | .t k=>dX k c x λx=>K (.t x) [] j
 | .own sz=>match c with
  | none=>aa none (x.an sz) λp=>K (.own (.s d j)) [(.s d j, .sl false sz p.1 p.2)] (j+1)
  | some _=>none
 | .ref k off=>match ids[k]? with
  | some i=>K (.ref i off) [] j
  | none=>none
 | .same k=>match ids[k]? with
  | some i=>K (.own i) [] j
  | none=>none
 | .rows sz col rsz=>match c with
  | none=>aa none (aM x) λp=>K (.own (.s d j)) [(.s d j, .rows p.1 sz col rsz p.2.length p.2)] (j+1)
  | some _=>none
 | .mp ag ks vk=>match c with
  | none=>aa none (aK x) λes=>K (.own (.s d j)) [(.s d j, .mp ag ks vk es)] (j+1)
  | some _=>none
 | .no=>K .top [] j
 | .agg _=>none
 | .new _=>none
def iC{R:Type}(ids:List Id)(d:Nat)(c:Option Bool):Nat->List bW->List T->(List AV->aB->Nat->Option R)->Option R
 | j,[],_,K=>K [] [] j
 | j,r::rs,xs,K=>aa c xs.head? λx=>kc ids d c j r x λv u j=>iC ids d c j rs xs.tail λvs us j=>K (v::vs) (u++us) j
def bW.size:bW->Nat
 | .agg l=>l.length
 | .new l=>l.length
 | _=>1
def dw{R:Type}(ids:List Id)(d:Nat)(c:Option Bool):Nat->List bW->List T->(List AV->aB->Nat->Option R)->Option R
 | j,[],_,K=>K [] [] j
 | j,r::rs,xs,K=>match r with
  | .agg l=>iC ids d c j l xs λv u j=>dw ids d c j rs (xs.drop l.length) λvs us j=>K (AV.agg v::vs) (u++us) j
  | .new l=>match c with
   | none=>iC ids d c j l xs λv u j=>dw ids d c (j+1) rs (xs.drop l.length) λvs us a=>K (AV.ref (.s d j) 0::vs) (u++ [(.s d j, .box v)] ++us) a
   | some _=>none
  | r=>aa c xs.head? λx=>kc ids d c j r x λv u j=>dw ids d c j rs xs.tail λvs us j=>K (v::vs) (u++us) j
def kH:List bW->Nat
 | []=>0
 | r::rs=>r.size+kH rs
def eP{R:Type}(all:List Id)(d:Nat):Nat->List Id->List iw->List T->(aB->Option R)->Option R
 | j,i::a, .box l::r,xs,K=>iC all d none j l xs λv u j=>eP all d j a r (xs.drop l.length) λq=>K (u++ (i, .box v)::q)
 | j,i::a, .sl sz::r,xs,K=>aa none (xs.head?.bind (T.an sz)) λp=>eP all d j a r xs.tail λq=>K ((i, .sl false sz p.1 p.2)::q)
 | j,i::a, .mp ag ks vk::r,xs,K=>aa none (xs.head?.bind aK) λes=>eP all d j a r xs.tail λq=>K ((i, .mp ag ks vk es)::q)
 | j,_::a, .dead::r,xs,K=>eP all d j a r xs K
 | _,[],[],_,K=>K []
 | _,_,_,_,_=>none
def jK:List AV->AV
 | [v]=>v
 | vs=> .jR vs
def EU(P:Program)(t:TypeId):bW:=cond (bz P t) (.agg ((p6 P t).map λk=>cond (sT P 8 t) (.f k) (.t k))) (cond (sT P 8 t) (.f (jv P t)) (.t (jv P t)))
def oR:bW->Bool
 | .f _=>true
 | .agg l=>l.all λr=>match r with
  | .f _=>true
  | _=>false
 | _=>false
def cN(P:Program)(A:ct)(f:FuncId)(n:Nat)(fn:Func):List bW:=
 match A.gf f with
 | some _=>(A.uV f n).res
 | none=>match A.sig f with
  | some a=>a.res
  | none=>fn.resultTypes.toList.map (EU P)
def fF(A:ct)(f:FuncId)(n:Nat):List iw:=
 match A.gf f with
 | some _=>(A.uV f n).outs
 | none=> []
def JN:AV->Bool
 | .own _=>true
 | .part _ _ _ _=>true
 | _=>false
def fA:Option ad->Nat
 | some (.box cs)=>cs.length+1000 * (cs.filter JN).length
 | _=>0
def cB(c:Option Bool)(m:Option (List T)):Option (List T):=
 match c with
 | none=>m
 | some b=>cond b m (some [])
def kK{R:Type}(P:Program)(c:Option Bool)(t:TypeId)(v:AV)(K:AV->Option R):Option R:=
 match v with
 | .t x=>dX (jv P t) c x λy=>K (.t y)
 | .agg vs=>match dz vs with
  | some l=>dR c (p6 P t) l λl=>K (.agg (l.map .t))
  | none=>K (.agg vs)
 | v=>K v
def gY{R:Type}(P:Program)(c:Option Bool):List TypeId->List AV->(List AV->Option R)->Option R
 | [],vs,K=>K vs
 | _::_,[],K=>K []
 | t::ts,v::vs,K=>kK P c t v λu=>gY P c ts vs λus=>K (u::us)
def uW:List Bool->List AV->List Id
 | b::a,v::vs=>cond b v.ids [] ++uW a vs
 | _,_=> []
def p8(h:Id->Option ad)(dx:List Id)(b:Bool)(v:AV):Option (AV×aB):=
 cond (b || (!v.ids.isEmpty && v.ids.all dx.contains)) (some (v,[])) (jr false false h v)
def jX(h:Id->Option ad)(dx:List Id):List Bool->List AV->Option (List AV×aB)
 | _,[]=>some ([],[])
 | a,v::r=>(p8 h dx (a.headD false) v).bind λp=>(jX h dx a.tail r).bind λq=>some (p.1::q.1,p.2++q.2)
def JX(sz col rsz:Nat):Nat:=100000+1000 * sz+100 * col+rsz
def pk(h:Id->Option ad)(new i:Id)(k sz col rsz:Nat):Option aB:=
 match h i with
 | some (.box cs)=>match cs[k]? with
  | some (.own _)=>some []
  | some (.t (.af b))=>cond (h new).isNone (some [(new, .rows b sz col rsz 0 []),(i, .box (cs.set k (.own new)))]) none
  | some (.t (.ab _ true []))=>cond (h new).isNone (some [(new, .rows true sz col rsz 0 []),(i, .box (cs.set k (.own new)))]) none
  | _=>none
 | _=>none
def mB(h:Id->Option ad)(new i:Id)(k sz:Nat):Option aB:=
 cond (Nat.ble 100000 sz) (pk h new i k (sz % 100000 / 1000) (sz % 1000 / 100) (sz % 100)) <|
 match h i with
 | some (.box cs)=>match cs[k]? with
  | some (.own _)=>some []
  | some (.t (.af b))=>cond (h new).isNone (some [(new, .sl false sz b []),(i, .box (cs.set k (.own new)))]) none
  | some (.t (.ab _ true []))=>cond (h new).isNone (some [(new, .sl false sz true []),(i, .box (cs.set k (.own new)))]) none
  | some (.part j d 0 n)=>match h j with
   | some (.sl false a b xs)=>if a=sz/\d=sz/\j≠i then cond (h new).isNone (some [(j, .dead),(new, .sl false sz b (xs.take n)),(i, .box (cs.set k (.own new)))]) none else none
   | _=>none
  | _=>none
 | _=>none
def iI(nm:Nat):Nat->(Id->Option ad)->List (Id×Nat×Nat)->Option aB
 | _,_,[]=>some []
 | j,h,(i,k,sz)::r=>(mB h (.s nm j) i k sz).bind λus=>(iI nm (j+1) (aJ h us) r).bind λvs=>some (us++vs)
def nc:List Id->List Id->List Id
 | [],_=> []
 | i::r,seen=>cond (seen.contains i) (nc r seen) (i::nc r (i::seen))
def lH(i:Id):Nat->List bW->List (Id×Nat×Nat)
 | _,[]=> []
 | k, .own sz::r=>(i,k,sz)::lH i (k+1) r
 | k, .rows sz col rsz::r=>(i,k,JX sz col rsz)::lH i (k+1) r
 | k,_::r=>lH i (k+1) r
def lI:List Id->List iw->List (Id×Nat×Nat)
 | i::a, .box l::r=>lH i 0 l++lI a r
 | _::a,_::r=>lI a r
 | _,_=> []
def iB(l:List Id):aB:=l.map λi=>(i, .dead)
def tG(d:Nat)(l:List Id):Bool:=l.all λi=>match i with
 | .s a _=> !(a==d)
 | .c _=>true
 | .g _ _=>false
def fj{R:Type}(P:Program)(A:ct)(O:aq)(s:St)(d:Nat)(c:Option Bool)(f:FuncId)(args:List AV)(K:AV->aB->Option R):Option R:=
 match P.funcs[f]? with
 | none=>none
 | some fn=>
  match A.gf f with
  | none=>(js ((cN P A f 0 fn).all oR) (A.deep f) s.h args).bind λp=>
   gY P c fn.params.toList p.1 λq=>aa none (cB c (O (.call f) q [])) λxs=>dw [] d c 0 (cN P A f 0 fn) xs λvs u _=>K (jK vs) (p.2++u)
  | some a=>match c with
   | some _=>none
   | none=>(jX s.h (uW a args) a args).bind λp=>
    (iI (2000000+d) 0 (aJ s.h p.2) (lI (nc (bS p.1) []) (fF A f (fA ((bS p.1).head?.bind (aJ s.h p.2)))))).bind λus=>
    (dV (aJ (aJ s.h p.2) us) 1000 (bS p.1) []).bind λseen=>
    cond (tG d seen && Nat.beq (fA (seen.map λi=>fH seen (aJ (aJ s.h p.2) us i)).head?) (fA ((bS p.1).head?.bind (aJ s.h p.2)))) (gY P none fn.params.toList (iM seen p.1) λq=>
     aa none (O (.call f) q (seen.map λi=>fH seen (aJ (aJ s.h p.2) us i))) λxs=>
     dw seen d none 0 (cN P A f (fA ((bS p.1).head?.bind (aJ s.h p.2))) fn) xs λvs u j=>
     eP seen d j seen (fF A f (fA ((bS p.1).head?.bind (aJ s.h p.2)))) (xs.drop (kH (cN P A f (fA ((bS p.1).head?.bind (aJ s.h p.2))) fn))) λq=>
     K (jK vs) (p.2++us++iB seen++u++q)) none
def gw:List AV->Option (List AV×Id×Nat×List AV)
 | []=>none
 | .row i n::r=>some ([],i,n,r)
 | v::r=>(gw r).bind λq=>some (v::q.1,q.2.1,q.2.2.1,q.2.2.2)
def pc(n:Nat):List Row->Option Unit
 | []=>none
 | e::r=>if e.n=n then(match e.own with | none=>some () | some _=>none) else pc n r
def p9{R:Type}(h:Id->Option ad)(i new:Id)(n rsz:Nat)(K:aB->Option R):Option R:=
 match h i,h new with
 | some (.rows b sz col d f es),some (.sl false a e xs)=>if d=rsz/\a=rsz then
   aa none (pc n es) λ_=>K [(i, .rows b sz col rsz f (cH n (some (e,xs)) es)),(new, .dead)] else none
 | _,_=>none
def BB:Operand->Bool
 | .func _=>false
 | _=>true
def hZ{R:Type}(fE:Bool)(P:Program)(A:ct)(O:aq)(s:St)(d:Nat)(c:Option Bool)(f:FuncId)(args:List AV)(K:AV->aB->Option R):Option R:=
 match cond fE (gw args) none with
 | none=>fj P A O s d c f args K
 | some (g,i,n,j)=>match c,s.h i with
  | none,some (.rows b sz col rsz a es)=>aa none (cq n es) λp=>
    cond (s.h (.s (2500000+d) 0)).isNone
     (fj P A O {t:=s.t,h:=aJ s.h [(i, .rows b sz col rsz a (cH n none es)),(.s (2500000+d) 0, .sl false rsz p.1 p.2)]} d none f (g++ .own (.s (2500000+d) 0)::j) λv us=>
      p9 (aJ s.h ([(i, .rows b sz col rsz a (cH n none es)),(.s (2500000+d) 0, .sl false rsz p.1 p.2)] ++us)) i (.s (2500000+d) 0) n rsz λe=>
       K v ([(i, .rows b sz col rsz a (cH n none es)),(.s (2500000+d) 0, .sl false rsz p.1 p.2)] ++us++e)) none
  | _,_=>none
theorem ED{R:Type}(P:Program)(A:ct)(O:aq)(s:St)(d:Nat)(c:Option Bool)(f:FuncId)(args:List AV)(K:AV->aB->Option R):hZ false P A O s d c f args K=fj P A O s d c f args K:=rfl
def lJ{R:Type}(P:Program)(s:St)(e:TypeId)(d:Nat)(c:Option Bool)(v:AV)(K:AV->aB->Option R):Option R:=
 match c,v with
 | none, .agg vs=>match gw vs with
  | some (a,i,n,f)=>match s.h i with
   | some (.rows b sz col rsz g es)=>aa none (cq n es) λp=>
     (dz (a++ .t (.ab rsz p.1 p.2)::f)).bind λl=>if l.length=P.cellsOf e/\P.cellsOf e<=1000/\0 < P.cellsOf e/\(gy P e).isSome=true then
      K (.own (.s d 0)) [(i, .rows b sz col rsz g (cH n none es)),(.s d 1, .sl true rsz p.1 p.2),(.s d 0, .sl false (P.cellsOf e) false [l])] else none
   | _=>none
  | none=>none
 | _,_=>none
def sY(c:Option Bool)(b:Bool):Option Bool:=some (match c with
 | none=>b
 | some a=>a && b)
def mh{R:Type}(c:Option Bool)(v:AV)(K:Int->Option R):Option R:=
 v.t?.bind λx=>aa c (gK.anyInt x) K
def ko:AV->AV
 | .t (.cr f)=> .fn f [] []
 | v=>v
def gI{R:Type}(P:Program)(A:ct)(O:aq)(g:Option Gs)(o:Oper)(s:St)(K:AV->aB->Option R):Option R:=
 let ev:=s.get g;let c:=g.map (·.c);let d:=o.dst.getD 0
 match o.op with
 | .move x | .assign x=>K (ev x) []
 | .pick k a b=>(ev k).t?.bind λI=>aa c I.bool? λkb=>
   (s.kr g k true a).t?.bind λx=>aa (sY c kb) x.bool? λJ=>
   (s.kr g k false b).t?.bind λy=>aa (sY c (!kb)) y.bool? λL=>K (AV.t (.bool (cond kb J L))) []
 | .alloc t=>match c with
  | some _=>none
  | none=>(gy P t).bind λl=>K (.ref (.s d 0) 0) [(.s d 0, .box (l.map .t))]
 | .box _ x=>match c with
  | some _=>none
  | none=>if(fk (ev x)).all mZ then K (.ref (.s d 0) 0) [(.s d 0, .box (fk (ev x)))] else none
 | .build t j=>(sd P t ev j.toList).bind λv=>K v []
 | .buildSlice t n j=>(kU P t).bind λe=>if A.jF o.dst o.type=1 then
   (match c,j.toList,n with
   | none,[(0,x)],1=>if((fk (ev x)).length=P.cellsOf e/\(fk (ev x)).all mZ=true)/\P.cellsOf e<=1000/\0 < P.cellsOf e/\(gy P e).isSome=true then K (.own (.s d 0)) [(.s d 0, .arr (fk (ev x)))] else none
   | _,_,_=>none)
   else if A.jF o.dst o.type=5 then(match j.toList,n with
   | [(0,x)],1=>lJ P s e d c (ev x) K
   | _,_=>none)
   else if j.size=n/\n<=1000/\P.cellsOf e<=1000/\0 < P.cellsOf e/\(gy P e).isSome=true then
   if n=0/\A.app o.dst=true then K (.t (.af false)) [] else
   (gh P s.h e ev 0 j.toList).bind λq=>
   match c with
   | some _=>K (.t (.ab (P.cellsOf e) false q.1)) q.2
   | none=>K (.own (.s d 0)) ((.s d 0, .sl false (P.cellsOf e) false q.1)::q.2)
   else none
 | .load t a=>fu P s c t (ev a) λv=>K v []
 | .store t a x=>match c with
  | some _=>none
  | none=>gX P s t (ev a) (ev x) λu=>K .top u
 | .nilCheck x=>match ev x with
  | .ref i k=>K (.ref i k) []
  | .el i sz k o=>K (.el i sz k o) []
  | .rel i sz n k o=>K (.rel i sz n k o) []
  | .t y=>aa c y.nL λcs=>K (.t (.ptr cs)) []
  | .fn f a b=>K (.fn f a b) []
  | _=>none
 | .binOp op t x y ty=>match op,mv P t y,mv P t x with
  | .eql,true,_=>(ik P s t (ev x)).bind λb=>K (.t (.bool b)) []
  | .neq,true,_=>(ik P s t (ev x)).bind λb=>K (.t (.bool (!b))) []
  | .eql,_,true=>(ik P s t (ev y)).bind λb=>K (.t (.bool b)) []
  | .neq,_,true=>(ik P s t (ev y)).bind λb=>K (.t (.bool (!b))) []
  | .eql,_,_=>nn P c t (ev x) (ev y) λb=>K (.t (.bool b)) []
  | .neq,_,_=>nn P c t (ev x) (ev y) λb=>K (.t (.bool (!b))) []
  | op,_,_=>(ev x).t?.bind λa=>(ev y).t?.bind λb=>oo P op t ty c a b λz=>K (.t z) []
 | .unOp op t x=>(ev x).t?.bind λa=>pQ P op t c a λz=>K (.t z) []
 | .convert src B x=>match P.underlying src,P.underlying B with
  | some (.slice e),some .string=>match oW P e with
   | some .u8=>(cX s.h (ev x)).bind λy=>aa c ((y.an 1).bind λp=>bytesOf p.2) λl=>K (.t (.str ⟨l.toArray⟩)) []
   | _=>none
  | _,_=>(ev x).t?.bind λa=>oz P c src B a λz=>K (.t z) []
 | .makeFunc (.func f) H C=>K (.fn f (H.toList.map ev) (C.toList.map ev)) []
 | .makeSlice t l m=>match c with
  | some _=>none
  | none=>(ev l).t?.bind λn=>(ev m).t?.bind λk=>o7 P d t (A.jF o.dst o.type) n k K
 | .makeMap t m=>match c,m with
  | none,none=>o8 P d t K
  | _,_=>none
 | .lookup t x k ok=>lu P s c t (ev x) (ev k) ok λv=>K v []
 | .mapUpdate t x k v=>match c with
  | some _=>none
  | none=>lE P s t (ev x) (ev k) (ev v) λu=>K .top u
 | .slice t x E D F=>
  gK s c g E λE=>gK s c g D λD=>gK s c g F λF=>lM P s c t (ev x) E D F λv=>K v []
 | .fieldAddr t x f=>oP P c t (ev x) f λv=>K v []
 | .field t x f=>oO P t (ev x) f λv=>K v []
 | .indexAddr t x i=>mh c (ev i) λn=>ij P s c t (ev x) n λv=>K v []
 | .index t x i=>mh c (ev i) λn=>match P.underlying t with
  | some .string=>(ev x).t?.bind λy=>aa c y.bc λb=>iG c n b.size
    (aa c b.data.toList[n.toNat]? λu=>K (.t (.int .u8 u.toNat)) [])
  | some (.array m e)=>match ev x with
   | .agg vs=>cond (bR P e) ((dz vs).bind λl=>iG c n m (jd P e c (l.drop (n.toNat * P.cellsOf e)) λz=>K z [])) none
   | _=>none
  | _=>none
 | .extract x k=>match ev x with
  | .jR vs=>(vs[k]?).bind λv=>K v []
  | _=>none
 | .call cl=>match cl.callee with
  | .builtin .len=>match cl.args.toList,cl.argTypes.toList with
   | [x],t::_=>lr P s c t (ev x) λv=>K v []
   | _,_=>none
  | .builtin .append=>match c,cl.args.toList,cl.argTypes.toList with
   | none,[x,y],[t,u]=>iW P s d (A.jF o.dst o.type==3) t u (ev x) (ev y) K
   | _,_,_=>none
  | .builtin .max=>match oW P o.type with
   | some k=>(dz (cl.args.toList.map ev)).bind λl=>match l with
    | x::r=>aa c (x.int? k) λa=>mr k c true a r λz=>K (.t z) []
    | []=>none
   | none=>none
  | .builtin .min=>match oW P o.type with
   | some k=>(dz (cl.args.toList.map ev)).bind λl=>match l with
    | x::r=>aa c (x.int? k) λa=>mr k c false a r λz=>K (.t z) []
    | []=>none
   | none=>none
  | .builtin .delete=>match c,cl.args.toList,cl.argTypes.toList with
   | none,[x,y],t::_=>kT P s t (ev x) (ev y) λu=>K (.jR []) u
   | _,_,_=>none
  | .builtin .cap=>match cl.args.toList,cl.argTypes.toList with
   | [x],t::_=>match P.underlying t with
    | some (.slice _)=>match ev x with
     | .t y=>cond (td y) (K (.t (.int .i64 0)) []) none
     | _=>none
    | _=>none
   | _,_=>none
  | .value G=>match ko (ev G) with
   | .fn f a b=>hZ (BB G) P A O s d c f (a++cl.args.toList.map ev++b) K
   | _=>none
  | _=>none
 | _=>none
open Go
section
variable (P:Program) (A:ct) (O:aq)
def sr(b want:Bool):Bool:=cond want b (!b)
def gC(g:Option Gs)(b want:Bool):Bool:=
 match g with
 | none=>sr b want
 | some a=>cond a.c (sr b want) false
def cL{R:Type}(a:Array Oper)(o:Oper)(s:St)(K:Option Gs->Option R):Option R:=
 match o.guard with
 | none=>K none
 | some (j,want)=>match(a[j]?).bind (·.dst) with
  | none=>none
  | some d=>(s.t d).2.t?.bind λx=>aa ((s.t d).1.map (·.c)) x.bool? λb=>
    K (some {d:=d,want:=want,c:=gC (s.t d).1 b want})
def HJ:Builtin->Bool
 | .delete=>true
 | _=>false
def aH(o:Oper):Bool:=
 match o.op with
 | .store .. =>true
 | .mapUpdate .. =>true
 | .call cl=>match cl.callee with
  | .builtin .append=>match cl.args.toList with
   | .const (.slice none 0 0)::_=>false
   | _=> !A.app o.dst
  | .builtin b=>HJ b
  | .value (.func f)=>match A.gf f with
   | some _=>true
   | none=>match P.funcs[f]? with
    | some _=>A.wr f
    | none=>true
  | .value _=> !A.u4 o.dst
  | _=>true
 | .buildSlice .. =>A.jF o.dst o.type==6
 | _=>false
def Hq(o:Oper):Bool:=
 match o.op with
 | .call cl=>match cl.callee with
  | .value (.func f)=>match P.funcs[f]? with
   | some fn=>(cN P A f 0 fn).all oR
   | none=>false
  | _=>false
 | _=>false
def dZ(o:Oper):Bool:=
 match o.op with
 | .move _ | .assign _ | .pick .. | .build .. | .unOp .. | .makeFunc .. | .fieldAddr .. | .field .. | .extract .. | .nilCheck _=>true
 | .binOp _ t x y _=> !(mv P t x || mv P t y)
 | .call cl=>match cl.callee with
  | .builtin .max | .builtin .min=>true
  | _=>false
 | _=>false
def dC(o:Oper):Bool:=
 match o.op with
 | .call cl=>match cl.callee with
  | .value (.func f)=>A.deep f
  | .value _=>true
  | .builtin .append=>A.jF o.dst o.type==3
  | _=>false
 | _=>false
def lF(o:Oper):Bool:=dZ P o ||
 match o.op with
 | .load .. | .index .. | .indexAddr .. | .slice .. | .binOp .. | .convert .. | .lookup .. =>true
 | .call cl=>match cl.callee with
  | .builtin .len=>true
  | .value (.func _)=> !aH P A o && Hq P A o
  | _=>false
 | _=>false
def gP(o:Oper):Bool:=
 match o.op with
 | .alloc _ | .box .. | .makeSlice .. | .makeMap .. =>true
 | _=>false
def dF(o:Oper):Bool:=
 match o.op with
 | .call cl=>match cl.callee with
  | .value (.func f)=>(A.gf f).isSome
  | .value _=> !A.u4 o.dst
  | _=>false
 | _=>false
def ov(a b:Oper):Bool:= !((aH P A a && !(dZ P b || gP b)) || (aH P A b && !(dZ P a || gP a))) && (!dC A a || lF P A b) && (!dC A b || lF P A a)
def fp:List Oper->List Nat
 | []=> []
 | o::r=>match o.dst with
  | some d=>d::fp r
  | none=>fp r
def tV(d:Array Oper):Nat->Nat->Nat
 | 0,a=>a
 | n+1,a=>match d.find? (λo=>o.dst==some a) with
  | some o=>match o.op with
   | .fieldAddr _ (.tmp b) _=>tV d n b
   | .nilCheck (.tmp b)=>tV d n b
   | .move (.tmp b)=>tV d n b
   | _=>a
  | none=>a
def pj(b:Array Oper)(a:Nat):Nat:=tV b 6 a
def eY(b:Array Oper)(o:Oper):Option Nat:=match o.guard,o.op with
 | none, .store _ (.tmp a) _=>some (pj b a)
 | none, .load _ (.tmp a)=>some (pj b a)
 | _,_=>none
def _root_.Go.Aev.ct.stM(A:ct)(a:Array Oper):Bool:=A.st ((a[0]?).bind (·.dst)) && A.Dv ((a[0]?).bind (·.dst)) (((a[0]?).map (·.type)).getD 0)
def iO(d:Array Oper)(a b:Oper):Bool:=A.stM d && (match eY d a,eY d b with
 | some k,some e=> !(k==e) && !(fp d.toList).contains k && !(fp d.toList).contains e
 | _,_=>false)
def yd(o:Oper):Bool:=o.guard.isNone && aH P A o && match o.op with
 | .call cl=>match cl.callee with
  | .builtin .append=> !(A.jF o.dst o.type==3)
  | .value (.func f)=>(A.gf f).isNone && !A.deep f
  | _=>false
 | .buildSlice .. =>true
 | .store _ (.tmp _) _=>true
 | _=>false
def HL(o:Oper):Bool:=match o.op with
 | .store .. =>true
 | _=>false
def gT(b:Array Oper)(o:Oper):Option (Option Nat):=match o.guard,o.op with
 | none, .load _ (.tmp a)=>some (some (pj b a))
 | none, .buildSlice .. =>some none
 | _,_=>none
def gR(d:Array Oper)(a b:Oper):Bool:=A.ld ((d[0]?).bind (·.dst)) && (!aH P A b && yd P A a && (A.stM d || !HL a)) && (match gT d b with
 | some (some k)=> !(fp d.toList).contains k
 | some none=>true
 | none=>false)
def il(o:Oper)(k:Bool):Bool:=match o.guard,o.op with
 | none, .store t (.tmp _) _=>(match P.underlying t with
  | some (.slice _)=>k
  | some (.int _)=> !k
  | _=>false)
 | _,_=>false
def jO(d:Array Oper)(a b:Oper):Bool:=A.sx ((d[0]?).bind (·.dst)) && il P a true && il P b false
def ka:aB->Bool
 | [(_, .dead),(_, .rows _ _ _ rsz _ _)]=> !(rsz==1)
 | _=>false
def kb:aB->Bool
 | [(_, .sl false sz _ _)]=>sz==1
 | _=>false
def uP(o:Oper)(s:St):Bool:=match o.op with
 | .store _ _ y=>(s.get none y).ids.isEmpty
 | _=>false
def tc(o:Oper):Bool:=match o.guard,o.op with
 | none, .indexAddr t (.tmp _) _=>(match kU P t with
  | some e=>P.cellsOf e==1
  | none=>false)
 | none, .load _ (.tmp _)=>true
 | _,_=>false
def qS(o:Oper)(s:St):Bool:=match o.op with
 | .load _ x=>(match s.get none x with
  | .ref _ _=>true
  | _=>false)
 | .indexAddr _ x _=>(match s.get none x with
  | .own _=>true
  | _=>false)
 | _=>false
def jn(d:Array Oper)(a b:Oper):Bool:=A.sx ((d[0]?).bind (·.dst)) && (il P a true || il P a false) && tc P b
def mi(o:Oper):Bool:=match o.guard,o.op with
 | none, .load _ (.tmp _)=>true
 | none, .indexAddr _ (.tmp _) _=>true
 | _,_=>false
def pJ(a b:Oper):Bool:=((A.ou a.dst a.type && A.tn b.dst b.type) || A.tm b.dst b.type) && mi b
def pH(d:Array Oper)(a b:Oper):Bool:=iO A d a b || gR P A d a b || gR P A d b a || (jO P A d a b || jO P A d b a) || (jn P A d a b || jn P A d b a) || (pJ A a b || pJ A b a)
def fM(a:Array Oper):Nat->Nat->Nat->Bool
 | 0,_,_=>false
 | n+1,j,i=>match a[j]? with
  | none=>false
  | some b=>b.after.any λe=>Region.binds .any e && (e.on==i || (Nat.blt i e.on && fM a n e.on i))
def wg(a:Array Oper)(listed:Array Bool)(i:Nat):Bool:=
 match a[i]? with
 | none=>false
 | some b=>(List.range a.size).all λj=>match a[j]? with
  | none=>true
  | some d=>j==i || listed.getD j true || ov P A b d || pH P A a b d || fM a 12 j i
def tp(b:Array Oper):Nat->Nat->Array Bool->Bool
 | 0,_,_=>true
 | n+1,k,a=>wg P A b a k && tp b n (k+1) (a.setIfInBounds k true)
def Hv(h:Id->Option ad)(us:aB):Bool:=us.all λp=>(h p.1).isNone
def gp(d:Nat)(h:Id->Option ad)(us:aB):Bool:=us.all λp=>match p.1 with
 | .s a _=> !(a==d) || (h p.1).isNone
 | .c _=>true
 | .g _ _=>false
def df(a:Array Oper)(d:Option Nat):Bool:=
 a.any λo=>match o.guard with
  | none=>false
  | some (j,_)=>match(a[j]?).bind (·.dst),d with
   | some e,some d=>e==d
   | _,_=>false
def ot(a:Array Oper)(o:Oper)(d:Nat):Bool:=
 (List.range a.size).all λi=>match a[i]? with
  | some b=> !(b.dst==some d) || o.after.any (λe=>Region.binds .any e && (e.on==i || fM a 12 e.on i))
  | none=>true
def mu(a:Array Oper)(g:Option Gs)(o:Oper)(s:St):Bool:=
 o.op.operands.toList.all λx=>(s.get g x).ids.all λi=>match i with
  | .s d _=>ot a o d
  | .c _=>true
  | .g _ _=>false
def je(o:Oper)(us:aB):Bool:=us.all λp=>match p.1 with
 | .s d _=>o.dst==some d
 | .c _=>false
 | .g _ _=>false
def pR(a:Array Oper)(o:Oper)(us:aB):Bool:=us.all λp=>match p.1 with
 | .s d _=>ot a o d || o.dst==some d
 | .c _=>true
 | .g _ _=>false
def xM(a:Array Oper)(o d:Oper)(s:St)(us:aB):Bool:=match eY a o,eY a d with
 | some k,some b=>(o.op.operands.toList.all λx=>(s.get none x).ids.all λi=>decide (i∈(s.t k).2.ids)) && us.all (λp=>decide (p.1∈(s.t k).2.ids)) && us.all (λp=>decide (p.1∉(s.t b).2.ids))
 | _,_=>false
def th(a:Array Oper)(b:Oper)(s:St)(us:aB):Bool:=match gT a b with
 | some (some k)=>us.all λp=>decide (p.1∉(s.t k).2.ids)
 | _=>true
def qH(a:Array Oper)(o:Oper)(s:St):Bool:=match gT a o with
 | some (some k)=>o.op.operands.toList.all λx=>(s.get none x).ids.all λi=>decide (i∈(s.t k).2.ids)
 | some none=>o.op.operands.toList.all λx=>(s.get none x).ids.isEmpty
 | none=>true
def iP(a:Array Oper)(o:Oper)(s:St)(us:aB):Bool:=a.all λb=>(!(iO A a o b) || xM a o b s us) && (!(gR P A a o b) || th a b s us) && (!(gR P A a b o) || qH a o s) && ((!(jO P A a o b) || ka us) && (!(jO P A a b o) || (kb us && uP o s))) && ((!(jn P A a o b) || ka us || kb us) && (!(jn P A a b o) || qS o s))
def qy:AV->Bool
 | .ref _ _=>true
 | .t (.int _ _)=>true
 | _=>false
def Bl:AV->Bool
 | .ref _ _=>true
 | _=>false
def oh(o:Oper)(s:St):Bool:=o.op.operands.toList.all λx=>(s.get none x).ids.isEmpty
def mo(o:Oper)(s:St)(v:AV):Bool:=(!(A.tm o.dst o.type && mi o) || oh o s) && (!(A.tn o.dst o.type && mi o) || oh o s || (match o.op with
 | .load _ x=>Bl (s.get none x) && qy v
 | _=>false))
def qz:AV->AV->Option (Option (Int×Int))
 | .ref i o, .ref j p=>cond (decide (i=j/\o=p)) (some none) none
 | .ref _ _,_=>none
 | _, .ref _ _=>none
 | .t (.int k a), .t (.int d b)=>cond (decide (k=d)) (some (some (a,b))) none
 | .t (.int _ _),_=>none
 | _, .t (.int _ _)=>none
 | _,_=>some none
def qC{R:Type}:List AV->List AV->Option R->Option R
 | [],[],K=>K
 | c::r,c'::a,K=>match qz c c' with
  | none=>none
  | some none=>qC r a K
  | some (some p)=>aa none (if p.1=p.2 then some () else none) λ_=>qC r a K
 | _,_,_=>none
def qA:Option ad->Option ad->Option (Option (List AV×List AV))
 | some (.box cs),some (.box a)=>some (some (cs,a))
 | some (.box _),_=>none
 | _,some (.box _)=>none
 | some (.cE _),_=>none
 | _,some (.cE _)=>none
 | _,_=>some none
def qD{R:Type}(h h':Id->Option ad):aB->Option R->Option R
 | [],K=>K
 | p::us,K=>match qA (h p.1) (h' p.1) with
  | none=>none
  | some none=>qD h h' us K
  | some (some q)=>qC q.1 q.2 (qD h h' us K)
def wE{R:Type}(a:Bool)(o:Oper)(h:Id->Option ad)(us:aB)(K:Option R):Option R:=cond (a && A.ou o.dst o.type) (qD h (aJ h us) us K) K
def lC(b:Bool)(nt:Nat)(a:Array Oper)(o:Oper)(g:Option Gs)(s:St)(v:AV)(us:aB):Bool:=
 (match o.dst with | some d=>decide (d < nt) | none=>true) &&
 (match g with | some g=>us.isEmpty && !(o.dst==some g.d) | none=>true) &&
 gp (o.dst.getD 0) s.h us && (!b || (mu a g o s && (aH P A o || je o us) && (!dZ P o || us.isEmpty) && (!lF P A o || us.isEmpty) && (!aH P A o || pR a o us) && Nat.ble nt 1000000 && iP P A a o s us && mo A o s v))
def nR(a:Bool)(o:Oper)(g:Option Gs):Option Gs:=
 match g with
 | some g=>cond (!a && dF A o) (some g) none
 | none=>none
def sG(nt:Nat)(o:Oper)(g:Gs):Bool:=(match o.dst with | some d=>decide (d < nt) | none=>true) && !(o.dst==some g.d)
def JF(o:Oper):AV:=
 match o.op with
 | .call cl=>match cl.callee with
  | .value (.func f)=>match P.funcs[f]? with
   | some fn=>match cN P A f 0 fn with
    | [.f .b]=> .t (.bool false)
    | [.f (.i k)]=> .t (.int k 0)
    | _=> .top
   | none=> .top
  | _=>match P.underlying o.type with
   | some .bool=> .t (.bool false)
   | some (.int k)=> .t (.int k 0)
   | _=> .top
 | _=> .top
def mA{R:Type}(b:Bool)(nt:Nat)(a:Array Oper)(o:Oper)(s:St)(K:St->Option R):Option R:=
 cL a o s λg=>match nR A b o g with
 | some d=>cond (sG nt o d) (cond d.c
   (gI P A O none o (s.pe d) λv us=>
    if lC P A b nt a o none s v us then K (s.put (df a o.dst) o.dst (some d) v us) else none)
   (K (s.put (df a o.dst) o.dst (some d) (JF P A o) []))) none
 | none=>gI P A O g o s λv us=>
  wE A b o s.h us (if lC P A b nt a o g s v us then K (s.put (df a o.dst) o.dst g v us) else none)
def rq{R:Type}(a:Bool)(nt:Nat)(b:Array Oper):List Oper->St->(St->Option R)->Option R
 | [],s,K=>K s
 | o::r,s,K=>mA P A O a nt b o s λs'=>rq a nt b r s' K
def St.clear(s:St):St:=
 {t :=λk=>match s.t k with
    | (none,v)=>(none,v)
    | (some _,_)=>(none, .top)
  h:=s.h}
def qM:List Nat->Bool
 | []=>true
 | d::r=> !r.contains d && qM r
def oV(a:Array Oper):Bool:=a.all λo=>match o.guard with
 | none=>true
 | some (j,_)=>o.after.any λe=>Region.binds .any e && e.on==j
def xk(b:Bool)(a:Array Oper):Bool:=
 !b || (Region.lexB .any a && tp P A a a.size 0 (Array.replicate a.size false) && qM (fp a.toList) && oV a)
def region{R:Type}(nt:Nat)(a:Bool)(b:Array Oper)(s:St)(K:St->Option R):Option R:=
 cond (xk P A a b)
  (rq P A O a nt b b.toList s λs'=>K s'.clear) none
def lB(h:Id->Option ad):AV->AV
 | .own i=>match h i with
  | some (.sl true sz b xs)=> .t (.ab sz b xs)
  | _=> .own i
 | .part i sz off n=>match h i with
  | some (.sl true a b xs)=>if a=sz then .t (.ab sz b ((xs.drop off).take n)) else .part i sz off n
  | _=> .part i sz off n
 | .ref i off=>match h i with
  | some (.cE l)=> .t (.ptr (l.drop off))
  | _=> .ref i off
 | v=>v
def qJ(s:St)(k:Nat×Option Nat):Option (AV×aB):=
 match s.t k.1 with
 | (some _,_)=>none
 | (none,v)=>match k.2 with
  | none=>some (lB s.h v,[])
  | some sz=>if sz=0\/sz>=999998 then some (lB s.h v,[]) else match v with
   | .own i=>match s.h i with
    | some (.sl false _ _ _)=>some (.own i,[])
    | _=>none
   | .t (.af b)=>some (.own (.s (1000000+k.1) 0),[(.s (1000000+k.1) 0, .sl false sz b [])])
   | _=>none
def mq(s:St):List (Nat×Option Nat)->Option (List AV×aB)
 | []=>some ([],[])
 | k::r=>(qJ s k).bind λp=>(mq s r).bind λq=>some (p.1::q.1,p.2++q.2)
def uv(f:FuncId)(todo:List Item)(live:List (Nat×Option Nat))(m:Nat×Nat)(s:St):Option (List T):=
 (mq s live).bind λp=>
  if Hv s.h p.2 then
  let h:=aJ s.h p.2
  (dV h 1000 ((List.range m.1).map Id.c++bS p.1) []).bind λseen=>
   O (.node f todo live m) (iM seen p.1) (seen.map λi=>fH seen (h i))
  else none
def wk(h:Id->Option ad):AV->aB
 | .ref i _=>match h i with
  | some (.box cs)=>kq h cs
  | _=> []
 | _=> []
def la(s:St):List (Nat×Option Nat)->aB
 | []=> []
 | (k,some 0)::r=>fC s.h (s.t k).2++la s r
 | (k,some (n+1))::r=>cond (Nat.beq n 999998) (wk s.h (s.t k).2) [] ++la s r
 | (_,none)::r=>la s r
def tS(s:St):List (Nat×Option Nat)->List (Id×Nat×Nat)
 | []=> []
 | (k,some n)::r=>match cond (Nat.ble 1000000 n) (s.t k).2 .top with
  | .ref i _=>(i,n / 1000000 - 1,n % 1000000)::tS s r
  | _=>tS s r
 | _::r=>tS s r
def pn(col rsz:Nat)(e:Row):List T:=e.cs.set col (match e.own with
 | some p=> .ab rsz p.1 p.2
 | none=> .ao)
def tH(h:Id->Option ad):AV->(Id->Option ad)
 | .ref i _=>match h i with
  | some (.box cs)=>aJ h [(i, .box (cs.map (lB h)))]
  | _=>h
 | _=>h
def xE(h:Id->Option ad):AV->(Id->Option ad)
 | .own i=>match h i with
  | some (.rows b sz col rsz _ es)=>cond (aW es) (aJ h [(i, .sl true sz b (es.map (pn col rsz)))]) h
  | _=>h
 | _=>h
def xF:(Id->Option ad)->List AV->(Id->Option ad)
 | h,[]=>h
 | h,v::r=>xF (xE h v) r
def xC(h:Id->Option ad):AV->(Id->Option ad)
 | .ref i _=>match h i with
  | some (.box cs)=>xF h cs
  | _=>h
 | _=>h
def pd(t:Nat->Option Gs×AV):(Id->Option ad)->List (Nat×Option Nat)->(Id->Option ad)
 | h,[]=>h
 | h,(k,some n)::r=>pd t (cond (Nat.beq n 999999) (tH h (t k).2) (cond (Nat.beq n 999998) (tH (xC h (t k).2) (t k).2) h)) r
 | h,(_,none)::r=>pd t h r
def jQ(f:FuncId)(todo:List Item)(live:List (Nat×Option Nat))(m:Nat×Nat)(s:St):Option (List T):=
 (iI 1900000 0 (aJ s.h (la s live)) (tS s live)).bind λus=>
  uv O f todo live m {t:=s.t,h:=pd s.t (aJ (aJ s.h (la s live)) us) live}
def kZ(live:List (Nat×Option Nat))(bf:List AV)(blks:List ad):St:=
 {t:=λk=>(none,look live bf k)
  h:=fun
   | .c j=>blks[j]?
   | _=>none}
where
 look:List (Nat×Option Nat)->List AV->Nat->AV
 | (k,_)::ks,v::vs,j=>if j=k then v else look ks vs j
 | _,_,_=> .top
def mF:Code->Nat
 | .region id _ _=>id
 | .seq a _=>mF a
 | .block _ b=>mF b
 | .cond _ a _=>mF a
 | _=>1000000
def Ca(h:Id->Option ad)(sz:Nat):AV->Option (T×Id)
 | .own i=>match h i with
  | some (.sl false a b xs)=>if a=sz then some (.ab sz b xs,i) else none
  | _=>none
 | _=>none
def ig{R:Type}(m:Nat)(h:Id->Option ad)(r:bW)(v:AV)(K:T->List Id->List Id->Option R):Option R:=
 match r with
 | .f _=>v.t?.bind λx=>aa none x.nr λ_=>K x [] []
 | .t _=>(cX h v).bind λx=>K x [] ((fC h v).map (·.1))
 | .own sz=>match v with
  | .own i=>(Ca h sz (.own i)).bind λp=>K p.1 [p.2] []
  | .part i a 0 n=>match h i with
   | some (.sl false j b xs)=>if j=sz/\a=sz then K (.ab sz b (xs.take n)) [i] [] else none
   | _=>none
  | .t (.af b)=>K (.af b) [] []
  | .t (.ab _ true [])=>K (.af true) [] []
  | _=>none
 | .ref k off=>match v with
  | .ref (.c e) off'=>if e=k/\off'=off/\k < m then K .ao [] [] else none
  | _=>none
 | .same k=>match v with
  | .own (.c e)=>if e=k/\k < m then K .ao [] [] else none
  | _=>none
 | .rows sz col rsz=>match v with
  | .own i=>match h i with
   | some (.rows b a d g _ es)=>if a=sz/\d=col/\g=rsz then
     aa none (if aW es=true then some () else none) λ_=>K (ba b es) [i] [] else none
   | _=>none
  | _=>none
 | .mp ag ks vk=>match v with
  | .own i=>match h i with
   | some (.mp l o q es)=>if l=ag/\o=ks/\q=vk then K (aG es) [i] [] else none
   | _=>none
  | _=>none
 | .no=>match v with
  | .ref _ _=>K .ao [] []
  | _=>none
 | .agg _=>none
 | .new _=>none
def kV{R:Type}(m:Nat)(h:Id->Option ad):List bW->List AV->(List T->List Id->List Id->Option R)->Option R
 | [],[],K=>K [] [] []
 | r::rs,v::vs,K=>ig m h r v λx a b=>kV m h rs vs λxs d e=>K (x::xs) (a++d) (b++e)
 | _,_,_=>none
def eQ{R:Type}(m:Nat)(h:Id->Option ad):List bW->List AV->(List T->List Id->List Id->Option R)->Option R
 | [],[],K=>K [] [] []
 | r::rs,v::vs,K=>match r with
  | .agg l=>match v with
   | .agg cs=>kV m h l cs λxs a b=>eQ m h rs vs λf d e=>K (xs++f) (a++d) (b++e)
   | _=>none
  | .new l=>match v with
   | .ref i 0=>match h i with
    | some (.box cs)=>kV m h l cs λxs a b=>eQ m h rs vs λf d e=>K (xs++f) (i:: (a++d)) (b++e)
    | _=>none
   | _=>none
  | r=>ig m h r v λx a b=>eQ m h rs vs λxs d e=>K (x::xs) (a++d) (b++e)
 | _,_,_=>none
def jy{R:Type}(m:Nat)(h:Id->Option ad):Nat->List iw->(List T->List Id->List Id->Option R)->Option R
 | _,[],K=>K [] [] []
 | j, .box l::r,K=>match h (.c j) with
  | some (.box cs)=>kV m h l cs λxs a b=>jy m h (j+1) r λf d e=>K (xs++f) (.c j:: (a++d)) (b++e)
  | _=>none
 | j, .sl sz::r,K=>match h (.c j) with
  | some (.sl false k b xs)=>if k=sz then jy m h (j+1) r λf d e=>K (.ab sz b xs::f) (.c j::d) e else none
  | _=>none
 | j, .mp ag ks vk::r,K=>match h (.c j) with
  | some (.mp g i n es)=>if g=ag/\i=ks/\n=vk then jy m h (j+1) r λf d e=>K (aG es::f) (.c j::d) e else none
  | _=>none
 | j, .dead::r,K=>jy m h (j+1) r K
def ph{R:Type}(s:St):List ResultVar->(List AV->Option R)->Option R
 | [],K=>K []
 | .tmp k::r,K=>match s.t k with
   | (none,v)=>ph s r λl=>K (v::l)
   | _=>none
 | .cell k t::r,K=>match s.t k with
   | (none,v)=>fu P s none t v λv=>ph s r λl=>K (v::l)
   | _=>none
def tF:List Id->Bool
 | []=>true
 | i::r=> !r.contains i && tF r
def sS(f:FuncId)(fn:Func)(m:Nat×Nat)(s:St):Option (List T):=
 ph P s fn.results.toList λvs=>
  if m.1= (fF A f m.2).length then
  eQ m.1 s.h (cN P A f m.2 fn) vs λxs a b=>jy m.1 s.h 0 (fF A f m.2) λg d e=>
   if tF (a++d) && (b++e).all (λi=> !(a++d).contains i) then some (xs++g) else none
  else none
def qT:List AV->List Id
 | []=> []
 | .own i::r=>i::qT r
 | _::r=>qT r
def xn(h:Id->Option ad)(t:Nat->Option Gs×AV):List ResultVar->List Id
 | []=> []
 | .tmp k::r=>(match(t k).2 with
  | .agg vs=>qT vs
  | v=>qT [v])++xn h t r
 | .cell k _::r=>(match(t k).2 with
  | .ref i _=>match h i with
   | some (.box cs)=>qT cs
   | _=> []
  | _=> [])++xn h t r
def rB{R:Type}:(Id->Option ad)->List Id->(aB->Option R)->Option R
 | _,[],K=>K []
 | h,i::r,K=>match h i with
  | some (.rows b sz col rsz _ es)=>aa none (if aW es=true then some () else none) λ_=>
    rB (aJ h [(i, .sl true sz b (es.map (pn col rsz)))]) r λus=>K ((i, .sl true sz b (es.map (pn col rsz)))::us)
  | _=>rB h r K
def sR(f:FuncId)(fn:Func)(m:Nat×Nat)(s:St):Option (List T):=
 cond ((cN P A f m.2 fn).any Bm) (sS P A f fn m s)
  (rB s.h (xn s.h s.t fn.results.toList) λus=>sS P A f fn m {t:=s.t,h:=aJ s.h us})
def ev(f:FuncId)(fn:Func)(m:Nat×Nat):Nat->Bool->List Item->St->Option (List T)
 | 0,_,_,_=>none
 | n+1,d,todo,s=>match todo with
  | []=>sR P A f fn m s
  | .code c::k=>match c with
   | .skip=>ev f fn m n true k s
   | .seq a b=>ev f fn m n d (.code a:: .code b::k) s
   | .region id g e=>match cond d (A.join f id) none with
    | some live=>jQ O f (.code (.region id g e)::k) live m s
    | none=>region P A O fn.ntmps e g s λs'=>ev f fn m n true k s'
   | .cond x a b=>(s.get none x).t?.bind λy=>aa none y.bool? λt=>cond t (ev f fn m n true (.code a::k) s) (ev f fn m n true (.code b::k) s)
   | .block id b=>ev f fn m n d (.code b:: .inBlock id::k) s
   | .loop b=>match A.live f (mF b) with
    | some live=>jQ O f (.inLoop b::k) live m s
    | none=>none
   | .exit id=>match exitTo id k with
    | some i=>ev f fn m n true i s
    | none=>none
   | .ret=>sR P A f fn m s
   | _=>none
  | .inBlock _::k=>ev f fn m n true k s
  | .inLoop b::k=>match A.live f (mF b) with
    | some live=>jQ O f (.inLoop b::k) live m s
    | none=>none
  | _::_=>none
def iE:Nat:=100000
def qv(bf:List AV)(a:List ad):St:=
 {t:=λk=>(none,bf.getD k .top)
  h:=fun
   | .c j=>a[j]?
   | _=>none}
def ax:aq
 | .call f,bf,a=>match A.ext f bf a with
  | some r=>some r
  | none=>match P.funcs[f]? with
  | some fn=>match fn.body with
   | some c=>if bf.length<=fn.ntmps then ev P A O f fn (a.length,fA a.head?) iE true [.code c] (qv bf a) else none
   | none=>none
  | none=>none
 | .node f todo live m,bf,a=>match P.funcs[f]? with
  | some fn=>match todo with
   | .inLoop b::k=>ev P A O f fn m iE true (.code b:: .inLoop b::k) (kZ live bf a)
   | todo=>ev P A O f fn m iE false todo (kZ live bf a)
  | none=>none
end
def nq(d:Bool)(r:Nat):Code->List Item->Option (List Item)
 | .seq a b,k=>match nq d r a (.code b::k) with
  | some t=>some t
  | none=>nq d r b k
 | .block id b,k=>nq d r b (.inBlock id::k)
 | .loop b,k=>if d && mF b==r then some (.inLoop b::k) else nq d r b (.inLoop b::k)
 | .cond _ a b,k=>match nq d r a k with
  | some t=>some t
  | none=>nq d r b k
 | .region id f e,k=>if !d && id==r then some (.code (.region id f e)::k) else none
 | _,_=>none
def bP(P:Program)(f:FuncId)(a:Bool)(r:Nat)(live:List (Nat×Option Nat))(m:Nat×Nat):Key:=
 .node f (match P.funcs[f]? with
  | some fn=>match fn.body with
   | some c=>(nq a r c []).getD []
   | none=> []
  | none=> []) live m
def gS(P:Program)(A:ct):Nat->aq
 | 0=>λ_ _ _=>none
 | n+1=>ax P A (gS P A n)
open Classical in
noncomputable def jI(P:Program)(A:ct):aq:=λk vs a=>
 if h:∃n r,gS P A n k vs a=some r then some (Classical.choose (Om h)) else none
open Go
section
variable (w:World) (A:Nat->Prop)
mutual
def ay:T->Value->Prop
 | .int k n,v=>v= .int k n
 | .bool b,v=>v= .bool b
 | .str s,v=>v= .string s
 | .ab sz b xs,v=>(b=true/\xs= []/\v= .slice none 0 0)\/
   (b=false/\∃ae off sp cap,v= .slice (some ⟨ae,off,sp⟩) xs.length cap/\xs.length<=cap/\(xs= []\/(sp=none/\A ae))/\a8 ae sz off xs)
 | .af b,v=>(b=true/\v= .slice none 0 0)\/(b=false/\∃ae off sp,v= .slice (some ⟨ae,off,sp⟩) 0 0)
 | .ptr cs,v=>∃ae off,v= .pointer (some ⟨ae,off,none⟩)/\(cs= []\/A ae)/\aY ae off cs
 | .ao,v=>v= .pointer none
 | .tE,v=>v= .map none
 | .tD,v=>v= .nilFunc
 | .wV,v=>v= .nilIface
 | .cr f,v=>v= .func (.func f) #[] #[]
 | .any,v=>v.oneCell'=true/\v.cells= #[v]
def a8(ae sz:Nat):Nat->List (List T)->Prop
 | _,[]=>True
 | off,cs::xs=>cs.length=sz/\aY ae off cs/\a8 ae sz (off+sz) xs
def aY(ae:Nat):Nat->List T->Prop
 | _,[]=>True
 | off,c::cs=>(∃v,w.cell? ⟨ae,off,none⟩=some v/\ay c v)/\aY ae (off+1) cs
end
def aQ:List T->List Value->Prop
 | [],vs=>vs= []
 | c::cs,vs=>∃v r,vs=v::r/\ay w A c v/\aQ cs r
end
section
variable {w w':World} {A A':Nat->Prop}
theorem kQ{a:Addr}(h:w'.heap[a.block]? =w.heap[a.block]?):w'.cell? a=w.cell? a:=by simp [World.cell?,h]
mutual
theorem ay.mono(h:∀b,A b->A' b/\w'.heap[b]? =w.heap[b]?):∀(t:T) (v:Value),ay w A t v->ay w' A' t v
 | .int k n,v,a=>by simpa [ay] using a
 | .bool b,v,a=>by simpa [ay] using a
 | .str s,v,a=>by simpa [ay] using a
 | .af b,v,a=>by simpa [ay] using a
 | .ao,v,a=>by simpa [ay] using a
 | .tE,v,a=>by simpa [ay] using a
 | .tD,v,a=>by simpa [ay] using a
 | .wV,v,a=>by simpa [ay] using a
 | .cr f,v,a=>by simpa [ay] using a
 | .any,v,a=>by simp only [ay] at a⊢;exact a
 | .ab sz b xs,v,a=>by
  simp only [ay] at a⊢;rcases a with a | ⟨j,ae,off,sp,cap,g,e,d,i⟩
  .exact .inl a
  .refine .inr ⟨j,ae,off,sp,cap,g,e, ?_, ?_⟩
   .rcases d with d | d
    .exact .inl d
    .exact .inr ⟨d.1,(h _ d.2).1⟩
   .rcases d with d | d
    .subst d;simp [a8]
    .exact a8.mono h ae sz d.2 off xs i
 | .ptr cs,v,a=>by
  simp only [ay] at a⊢;obtain⟨ae,off,g,e,d⟩:=a;refine⟨ae,off,g, ?_, ?_⟩
  .rcases e with e | e
   .exact .inl e
   .exact .inr (h _ e).1
  .rcases e with e | e
   .subst e;simp [aY]
   .exact aY.mono h ae e off cs d
theorem a8.mono(h:∀b,A b->A' b/\w'.heap[b]? =w.heap[b]?)(ae sz:Nat)(d:A ae):∀(off:Nat) (xs:List (List T)),a8 w A ae sz off xs->a8 w' A' ae sz off xs
 | _,[],_=>by simp [a8]
 | off,cs::xs,a=>by simp only [a8] at a⊢;exact⟨a.1,aY.mono h ae d off cs a.2.1,a8.mono h ae sz d (off+sz) xs a.2.2⟩
theorem aY.mono(h:∀b,A b->A' b/\w'.heap[b]? =w.heap[b]?)(ae:Nat)(d:A ae):∀(off:Nat) (cs:List T),aY w A ae off cs->aY w' A' ae off cs
 | _,[],_=>by simp [aY]
 | off,c::cs,e=>by simp only [aY] at e⊢;obtain⟨⟨v,f,g⟩,a⟩:=e;exact⟨⟨v,by rw [kQ (w:=w) (by exact(h ae d).2)];exact f,ay.mono h c v g⟩,aY.mono h ae d (off+1) cs a⟩
end
theorem aY.lA(h:∀b,A b->A' b/\w'.heap[b]? =w.heap[b]?)(ae:Nat)(d:w'.heap[ae]? =w.heap[ae]?):∀(off:Nat) (cs:List T),aY w A ae off cs->aY w' A' ae off cs
 | _,[],_=>by simp [aY]
 | off,c::cs,e=>by simp only [aY] at e⊢;obtain⟨⟨v,f,g⟩,a⟩:=e;exact⟨⟨v,by rw [kQ (w:=w) (by exact d)];exact f,ay.mono h c v g⟩,aY.lA h ae d (off+1) cs a⟩
theorem a8.lA(h:∀b,A b->A' b/\w'.heap[b]? =w.heap[b]?)(ae sz:Nat)(d:w'.heap[ae]? =w.heap[ae]?):∀(off:Nat) (xs:List (List T)),a8 w A ae sz off xs->a8 w' A' ae sz off xs
 | _,[],_=>by simp [a8]
 | off,cs::xs,a=>by simp only [a8] at a⊢;exact⟨a.1,aY.lA h ae d off cs a.2.1,a8.lA h ae sz d (off+sz) xs a.2.2⟩
theorem aQ.mono(h:∀b,A b->A' b/\w'.heap[b]? =w.heap[b]?):∀(cs:List T) (vs:List Value),aQ w A cs vs->aQ w' A' cs vs
 | [],_,f=>f
 | c::cs,vs,⟨v,r,e,a,d⟩=>⟨v,r,e,ay.mono h c v a,aQ.mono h cs r d⟩
theorem a8.get{ae sz:Nat}:∀{off:Nat} {xs:List (List T)},a8 w A ae sz off xs->∀{k:Nat} {cs:List T},xs[k]? =some cs->cs.length=sz/\aY w A ae (off+k * sz) cs
 | off,cs::xs,h,0,a,e=>by simp only [a8] at h;simp at e;subst e;exact⟨h.1,by simpa using h.2.1⟩
 | off,cs::xs,h,k+1,a,e=>by
  simp only [a8] at h;have:=a8.get h.2.2 (k:=k) (cs:=a) (by simpa using e);refine⟨this.1, ?_⟩;have b:off+ (k+1) * sz=off+sz+k * sz:=by rw [Nr];omega
  rw [b];exact this.2
theorem aY.get{ae:Nat}:∀{off:Nat} {cs:List T},aY w A ae off cs->∀{k:Nat} {c:T},cs[k]? =some c->∃v,w.cell? ⟨ae,off+k,none⟩=some v/\ay w A c v
 | off,c::cs,h,0,c',e=>by simp only [aY] at h;simp at e;subst e;exact h.1
 | off,c::cs,h,k+1,c',e=>by
  simp only [aY] at h;have:=aY.get h.2 (k:=k) (c:=c') (by simpa using e);have a:off+1+k=off+ (k+1):=by omega
  rw [a] at this;exact this
theorem aY.drop{ae:Nat}:∀{off:Nat} {cs:List T},aY w A ae off cs->∀(n:Nat),aY w A ae (off+n) (cs.drop n)
 | _,_,h,0=>by simpa using h
 | _,[],_,n+1=>by simp [aY]
 | off,c::cs,h,n+1=>by
  simp only [aY] at h;have:=aY.drop h.2 n;have a:off+1+n=off+ (n+1):=by omega
  rw [a] at this;simpa using this
theorem a8.drop{ae sz:Nat}:∀{off:Nat} {xs:List (List T)},a8 w A ae sz off xs->∀(n:Nat),a8 w A ae sz (off+n * sz) (xs.drop n)
 | _,_,h,0=>by simpa using h
 | _,[],_,n+1=>by simp [a8]
 | off,cs::xs,h,n+1=>by
  simp only [a8] at h;have:=a8.drop h.2.2 n;have a:off+sz+n * sz=off+ (n+1) * sz:=by rw [Nr];omega
  rw [a] at this;simpa using this
theorem a8.take{ae sz:Nat}:∀{off:Nat} {xs:List (List T)},a8 w A ae sz off xs->∀(n:Nat),a8 w A ae sz off (xs.take n)
 | _,_,_,0=>by simp [a8]
 | _,[],_,n+1=>by simp [a8]
 | off,cs::xs,h,n+1=>by simp only [a8] at h;simp only [OS,a8];exact⟨h.1,h.2.1,a8.take h.2.2 n⟩
theorem a8.append{ae sz:Nat}:∀{off:Nat} {xs a:List (List T)},a8 w A ae sz off xs->a8 w A ae sz (off+xs.length * sz) a->a8 w A ae sz off (xs++a)
 | off,[],a,_,h=>by simpa using h
 | off,cs::xs,a,h,h'=>by
  simp only [a8] at h;simp only [Nu,a8];refine⟨h.1,h.2.1,a8.append h.2.2 ?_⟩;have b:off+sz+xs.length * sz=off+ (cs::xs).length * sz:=by simp [Nr];omega
  rw [b];exact h'
theorem ay.nH{t:T}{v:Value}(h:ay w A t v):v.oneCell'=true/\v.cells= #[v]:=by
 cases t <;> simp only [ay] at h
 case ab=>rcases h with⟨_,_,rfl⟩ | ⟨_,_,_,_,_,rfl,_⟩ <;> exact⟨rfl,rfl⟩
 case af=>rcases h with⟨_,rfl⟩ | ⟨_,_,_,_,rfl⟩ <;> exact⟨rfl,rfl⟩
 case ptr=>obtain⟨_,_,rfl,_⟩:=h;exact⟨rfl,rfl⟩
 case any=>exact h
 all_goals subst h;exact⟨rfl,rfl⟩
theorem aQ.length:∀{cs:List T} {vs:List Value},aQ w A cs vs->vs.length=cs.length
 | [],_,h=>by simp only [aQ] at h;simp [h]
 | c::cs,vs,⟨v,r,e,_,h⟩=>by subst e;simp [aQ.length h]
end
section
variable (w:World) (A:Nat->Prop) (ρ:Id->Option Value)
mutual
def aj:AV->Value->Prop
 | .top,_=>True
 | .t x,v=>ay w A x v
 | .jR vs,v=>∃d:List Value,v= .tuple d.toArray/\az vs d
 | .agg vs,v=>∃d:List Value,v= .agg d.toArray/\az vs d/\∀u∈d,u.oneCell'=true/\u.cells= #[u]
 | .ref i off,v=>∃b,ρ i=some (.pointer (some ⟨b,0,none⟩))/\v= .pointer (some ⟨b,off,none⟩)
 | .el i sz k off,v=>∃b o L cap,ρ i=some (.slice (some ⟨b,o,none⟩) L cap)/\v= .pointer (some ⟨b,o+k * sz+off,none⟩)
 | .own i,v=>ρ i=some v
 | .part i sz off n,v=>∃a L cap e,ρ i=some (.slice a L cap)/\off+n<=L/\L<=cap/\v= .slice e n (cap - off)/\
   ((off=0/\e=a)\/(off=cap/\(e=none↔a=none)/\True)\/∃b o,a=some ⟨b,o,none⟩/\e=some ⟨b,o+off * sz,none⟩)
 | .row i n,v=>ρ (.g i n)=some v
 | .rel i sz n k off,v=>∃b o L cap,ρ (.g i n)=some (.slice (some ⟨b,o,none⟩) L cap)/\v= .pointer (some ⟨b,o+k * sz+off,none⟩)
 | .fn f xs m,v=>∃j l:List Value,v= .func (.func f) j.toArray l.toArray/\az xs j/\az m l
def az:List AV->List Value->Prop
 | [],vs=>vs= []
 | a::b,vs=>∃v r,vs=v::r/\aj a v/\az b r
end
end
section
variable {w w':World} {A A':Nat->Prop} {ρ ρ':Id->Option Value}
mutual
theorem aj.mono(h:∀b,A b->A' b/\w'.heap[b]? =w.heap[b]?)(g:∀i v,ρ i=some v->ρ' i=some v):∀(a:AV) (v:Value),aj w A ρ a v->aj w' A' ρ' a v
 | .top,_,_=>by simp [aj]
 | .t x,v,d=>by simp only [aj] at d⊢;exact ay.mono h x v d
 | .jR vs,v,d=>by simp only [aj] at d⊢;obtain⟨l,e,j⟩:=d;exact⟨l,e,az.mono h g vs l j⟩
 | .agg vs,v,d=>by simp only [aj] at d⊢;obtain⟨l,e,j,y⟩:=d;exact⟨l,e,az.mono h g vs l j,y⟩
 | .ref i off,v,d=>by simp only [aj] at d⊢;obtain⟨b,e,j⟩:=d;exact⟨b,g _ _ e,j⟩
 | .el i sz k off,v,d=>by simp only [aj] at d⊢;obtain⟨b,o,L,cap,e,j⟩:=d;exact⟨b,o,L,cap,g _ _ e,j⟩
 | .own i,v,d=>by simp only [aj] at d⊢;exact g _ _ d
 | .part i sz off n,v,d=>by simp only [aj] at d⊢;obtain⟨a,L,cap,q,e,j⟩:=d;exact⟨a,L,cap,q,g _ _ e,j⟩
 | .row i n,v,d=>by simp only [aj] at d⊢;exact g _ _ d
 | .rel i sz n k off,v,d=>by simp only [aj] at d⊢;obtain⟨b,o,L,cap,e,j⟩:=d;exact⟨b,o,L,cap,g _ _ e,j⟩
 | .fn f xs z,v,d=>by simp only [aj] at d⊢;obtain⟨m,p,e,r,u⟩:=d;exact⟨m,p,e,az.mono h g xs m r,az.mono h g z p u⟩
theorem az.mono(h:∀b,A b->A' b/\w'.heap[b]? =w.heap[b]?)(g:∀i v,ρ i=some v->ρ' i=some v):∀(d:List AV) (vs:List Value),az w A ρ d vs->az w' A' ρ' d vs
 | [],_,f=>by simpa [az] using f
 | a::d,vs,f=>by simp only [az] at f⊢;obtain⟨v,r,e,j,k⟩:=f;exact⟨v,r,e,aj.mono h g a v j,az.mono h g d r k⟩
end
theorem az.length:∀{b:List AV} {vs:List Value},az w A ρ b vs->vs.length=b.length
 | [],_,h=>by simp only [az] at h;simp [h]
 | a::b,vs,h=>by simp only [az] at h;obtain⟨v,r,e,_,h⟩:=h;subst e;simp [az.length h]
theorem az.get:∀{b:List AV} {vs:List Value},az w A ρ b vs->∀{k:Nat} {a:AV},b[k]? =some a->∃v,vs[k]? =some v/\aj w A ρ a v
 | a::b,vs,h,0,d,e=>by simp only [az] at h;obtain⟨v,r,rfl,f,_⟩:=h;simp at e;subst e;exact⟨v,rfl,f⟩
 | a::b,vs,h,k+1,d,e=>by simp only [az] at h;obtain⟨v,r,rfl,_,h⟩:=h;obtain⟨u,i,g⟩:=az.get h (k:=k) (a:=d) (by simpa using e);exact⟨u,by simpa using i,g⟩
theorem az.append:∀{b d:List AV} {vs us:List Value},az w A ρ b vs->az w A ρ d us->az w A ρ (b++d) (vs++us)
 | [],_,_,_,h,h'=>by simp only [az] at h;subst h;simpa using h'
 | a::b,d,vs,us,h,h'=>by simp only [az] at h;obtain⟨v,r,rfl,e,h⟩:=h;simp only [Nu,az];exact⟨v,r++us,rfl,e,az.append h h'⟩
theorem az.drop:∀{b:List AV} {vs:List Value},az w A ρ b vs->∀n,az w A ρ (b.drop n) (vs.drop n)
 | _,_,h,0=>by simpa using h
 | [],vs,h,n+1=>by simp only [az] at h;subst h;simp [az]
 | a::b,vs,h,n+1=>by simp only [az] at h;obtain⟨v,r,rfl,d,h⟩:=h;simpa using az.drop h n
theorem az.take:∀{b:List AV} {vs:List Value},az w A ρ b vs->∀n,az w A ρ (b.take n) (vs.take n)
 | _,_,_,0=>by simp [az]
 | [],vs,h,n+1=>by simp only [az] at h;subst h;simp [az]
 | a::b,vs,h,n+1=>by simp only [az] at h;obtain⟨v,r,rfl,d,h⟩:=h;simp only [OS,az];exact⟨v,r.take n,rfl,d,az.take h n⟩
theorem az.jH:∀{cs:List T} {vs:List Value},aQ w A cs vs->az w A ρ (cs.map .t) vs
 | [],_,h=>by simpa [az,aQ] using h
 | c::cs,vs,⟨v,r,e,a,b⟩=>by simp only [Nh,az];exact⟨v,r,e,by simpa [aj] using a,az.jH b⟩
theorem aQ.jf:∀{b:List AV} {cs:List T} {vs:List Value},dz b=some cs->az w A ρ b vs->aQ w A cs vs
 | [],cs,vs,h,d=>by simp only [dz,Mt] at h;subst h;simpa [aQ,az] using d
 | a::b,cs,vs,h,d=>by
  cases a <;> simp only [dz,reduceCtorEq] at h
  case t x=>
   cases hl:dz b with
   | none=>simp [hl] at h
   | some l=>simp only [hl,Mw,Mt] at h;subst h;simp only [az,aj] at d;obtain⟨v,r,e,f,g⟩:=d;exact⟨v,r,e,f,aQ.jf hl g⟩
end
open Go
section
variable {R S α:Type}
theorem bE[Inhabited α](c:Option Bool)(m:Option α)(k:α->Option R)(f:R->Option S):(aa c m k).bind f=aa c m λa=>(k a).bind f:=by
 unfold aa;cases m with
 | some a=>rfl
 | none=>cases c with
  | none=>rfl
  | some b=>cases b <;> rfl
theorem aL[Inhabited α]{c:Option Bool}{m:Option α}{k:α->Option R}{r:R}(h:aa c m k=some r)(b:c=none\/c=some true):∃a,m=some a/\k a=some r:=by
 unfold aa at h;cases m with
 | some a=>exact⟨a,rfl,h⟩
 | none=>rcases b with rfl | rfl <;> simp at h
theorem jw(c:Bool)(x y:Option R)(f:R->Option S):(cond c x y).bind f=cond c (x.bind f) (y.bind f):=by cases c <;> rfl
theorem cw(c:Prop)[Decidable c](x y:Option R)(f:R->Option S):(if c then x else y).bind f=if c then x.bind f else y.bind f:=by split <;> rfl
theorem bw(f:R->Option S):(none:Option R).bind f=none:=rfl
theorem xQ(c:Option Bool):∀(n:Nat) (cs:List T) (K:List T->Option R) (f:R->Option S),(mH c n cs K).bind f=mH c n cs λx=>(K x).bind f
 | 0,_,_,_=>rfl
 | n+1,cs,K,f=>by simp only [mH,bE,xQ c n]
theorem lO(k:Ck)(c:Option Bool)(x:T)(K:T->Option R)(f:R->Option S):(dX k c x K).bind f=dX k c x λx=>(K x).bind f:=by unfold dX;cases k <;> simp only [bE]
theorem pP(c:Option Bool):∀(ks:List Ck) (xs:List T) (K:List T->Option R) (f:R->Option S),(dR c ks xs K).bind f=dR c ks xs λx=>(K x).bind f
 | [],_,_,_=>rfl
 | _::_,[],_,_=>rfl
 | k::ks,x::xs,K,f=>by simp only [dR,lO,pP c ks xs]
theorem Ed(op:BinOp)(k:IntKind)(c:Option Bool)(x y:T)(K:T->Option R)(f:R->Option S):(og op k c x y K).bind f=og op k c x y λx=>(K x).bind f:=by unfold og;cases op <;> simp only [bE,bw]
theorem Lz(op:BinOp)(k a:IntKind)(c:Option Bool)(x y:T)(K:T->Option R)(f:R->Option S):(pE op k a c x y K).bind f=pE op k a c x y λx=>(K x).bind f:=by unfold pE;cases op <;> simp only [bE,bw]
theorem LY(op:BinOp)(c:Option Bool)(x y:T)(K:T->Option R)(f:R->Option S):(pK op c x y K).bind f=pK op c x y λx=>(K x).bind f:=by unfold pK;cases op <;> simp only [bE,bw]
theorem Az(P:Program)(c:Option Bool)(t:TypeId)(x y:T)(K:Bool->Option R)(f:R->Option S):(jz P c t x y K).bind f=jz P c t x y λx=>(K x).bind f:=by unfold jz;split <;> simp only [bE,bw]
theorem AB(P:Program)(c:Option Bool):∀(ts:List TypeId) (xs a:List T) (K:Bool->Option R) (f:R->Option S),(dD P c ts xs a K).bind f=dD P c ts xs a λx=>(K x).bind f
 | [],[],[],_,_=>rfl
 | t::ts,x::xs,y::a,K,f=>by simp only [dD,Az,AB P c ts xs a]
 | [],[],_::_,_,_=>rfl
 | [],_::_,_,_,_=>rfl
 | _::_,[],_,_,_=>rfl
 | _::_,_::_,[],_,_=>rfl
theorem Ej(P:Program)(op:BinOp)(t ty:TypeId)(c:Option Bool)(x y:T)(K:T->Option R)(f:R->Option S):(oo P op t ty c x y K).bind f=oo P op t ty c x y λx=>(K x).bind f:=by unfold oo;cases op <;> simp only [] <;> first | rfl | (split <;> simp only [Ed,Lz,LY,bw])
theorem Hf(P:Program)(c:Option Bool)(t:TypeId)(x y:AV)(K:Bool->Option R)(f:R->Option S):(nn P c t x y K).bind f=nn P c t x y λx=>(K x).bind f:=by unfold nn;split <;> simp only [jw,bE,Az,AB,MP,bw]
theorem Mh(P:Program)(op:UnOp)(t:TypeId)(c:Option Bool)(x:T)(K:T->Option R)(f:R->Option S):(pQ P op t c x K).bind f=pQ P op t c x λx=>(K x).bind f:=by unfold pQ;split <;> simp only [bE,bw]
theorem qK(P:Program)(t:TypeId)(c:Option Bool)(cs:List T)(K:AV->Option R)(f:R->Option S):(jd P t c cs K).bind f=jd P t c cs λx=>(K x).bind f:=by unfold jd;simp only [jw,bE,xQ,lO,pP]
theorem BF(P:Program)(t:TypeId)(cs:List AV)(K:AV->Option R)(f:R->Option S):(kB P t cs K).bind f=kB P t cs λx=>(K x).bind f:=by unfold kB;simp only [jw,MP]
theorem xt(h:Id->Option ad)(c:Option Bool)(i:Id)(n:Nat)(K:Nat->Bool->List (List T)->Option R)(f:R->Option S):(jM h c i n K).bind f=jM h c i n λa b l=>(K a b l).bind f:=by unfold jM;split <;> simp only [bE,bw]
theorem HX(P:Program)(t:TypeId)(c:Option Bool)(i:Id)(sz col off:Nat)(e:Row)(K:AV->Option R)(f:R->Option S):(o6 P t c i sz col off e K).bind f=o6 P t c i sz col off e λx=>(K x).bind f:=by unfold o6;simp only [jw,cw,bE,xQ,lO,pP,bw]
theorem HW(P:Program)(s:St)(c:Option Bool)(t:TypeId)(a:AV)(K:AV->Option R)(f:R->Option S):(fu P s c t a K).bind f=fu P s c t a λx=>(K x).bind f:=by
 unfold fu;rw [jw];congr 1;split
 .split <;> simp only [BF,qK,bw]
 .split <;> simp only [cw,bE,qK,HX,bw]
 .simp only [xt,cw,bE,qK,bw]
 .simp only [bE,qK]
 .rfl
theorem LV(P:Program)(s:St)(t:TypeId)(a v:AV)(K:aB->Option R)(f:R->Option S):(gX P s t a v K).bind f=gX P s t a v λx=>(K x).bind f:=by
 unfold gX;rw [jw];congr 1;split
 .split <;> simp only [cw,bw]
 .split
  .simp only [MP,cw,bE,bw]
  .split
   .split <;> simp only [cw,bE,bw]
   .rfl
  .rfl
 .split <;> simp only [MP,cw,bE,bw]
 .rfl
theorem nz(c:Option Bool)(i:Int)(n:Nat)(K:Option R)(f:R->Option S):(iG c i n K).bind f=iG c i n (K.bind f):=by unfold iG;simp only [bE]
theorem HG(P:Program)(s:St)(c:Option Bool)(t:TypeId)(x:AV)(i:Int)(K:AV->Option R)(f:R->Option S):(ij P s c t x i K).bind f=ij P s c t x i λx=>(K x).bind f:=by
 unfold ij;split
 .split
  .split <;> simp only [cw,nz,bw]
  .simp only [xt,cw,nz,bw]
  .split <;> simp only [cw,nz,bw]
  .simp only [bE,nz]
  .rfl
 .split
  .rw [nz];congr 1;split <;> simp only [bE,bw]
  .rfl
theorem Ho(P:Program)(c:Option Bool)(t:TypeId)(x:AV)(k:Nat)(K:AV->Option R)(f:R->Option S):(oP P c t x k K).bind f=oP P c t x k λx=>(K x).bind f:=by
 unfold oP;split
 .rw [cw];congr 1;split <;> simp only [bE,bw]
 .rfl
theorem Hm(P:Program)(t:TypeId)(x:AV)(k:Nat)(K:AV->Option R)(f:R->Option S):(oO P t x k K).bind f=oO P t x k λx=>(K x).bind f:=by
 unfold oO;split
 .split <;> simp only [BF,bw]
 .rfl
theorem HO(P:Program)(s:St)(c:Option Bool)(t:TypeId)(x:AV)(K:AV->Option R)(f:R->Option S):(lr P s c t x K).bind f=lr P s c t x λx=>(K x).bind f:=by
 unfold lr;split
 .split <;> simp only [bE,bw]
 .rfl
 .split
  .split <;> rfl
  .simp only [xt]
  .rfl
  .simp only [bE]
  .rfl
 .rfl
theorem Ep(s:St)(c:Option Bool)(g:Option Gs)(o:Option Operand)(K:Option Int->Option R)(f:R->Option S):(gK s c g o K).bind f=gK s c g o λx=>(K x).bind f:=by
 unfold gK;split
 .rfl
 .simp only [MP,bE]
theorem LF(P:Program)(s:St)(c:Option Bool)(t:TypeId)(x:AV)(b a d:Option Int)(K:AV->Option R)(f:R->Option S):(lM P s c t x b a d K).bind f=lM P s c t x b a d λx=>(K x).bind f:=by
 unfold lM;split
 .split <;> simp only [bE,bw]
 .split
  .split
   .split <;> simp only [cw,bE,bw]
   .split <;> simp only [cw,bE,bw]
   .simp only [cw,bE,bw]
   .rfl
  .split
   .simp only [cw,bE,bw]
   .split <;> simp only [cw,bE,bw]
   .rfl
 .rfl
theorem D8(P:Program)(s:St)(t:TypeId)(sz:Nat)(a:List T)(y:AV)(K:List (List T)->Option R)(f:R->Option S):(jV P s t sz a y K).bind f=jV P s t sz a y λx=>(K x).bind f:=by unfold jV;split <;> simp only [MP,cw,bE,bw]
theorem D4(P:Program)(s:St)(d:Nat)(e:TypeId)(i:Id)(sz col rsz a:Nat)(es:List Row)(j:Id)(cs:List AV)(K:AV->aB->Option R)(f:R->Option S):(mY P s d e i sz col rsz a es j cs K).bind f=mY P s d e i sz col rsz a es j cs λv u=>(K v u).bind f:=by
 unfold mY;rw [cw];congr 1;rw [MP];congr 1;funext l;split
 .split <;> simp only [cw,bE,bw]
 .split <;> simp only [cw,bE,bw]
 .rfl
theorem D2(P:Program)(s:St)(d:Nat)(rw:Bool)(t ty:TypeId)(x y:AV)(K:AV->aB->Option R)(f:R->Option S):(iW P s d rw t ty x y K).bind f=iW P s d rw t ty x y λv u=>(K v u).bind f:=by
 unfold iW;rw [MP];congr 1;funext e;rw [MP];congr 1;funext b;rw [cw];congr 1;split
 .split <;> simp only [D4,bw]
 .rw [D8];congr 1;funext a;split
  .split <;> simp only [cw,bE,bw]
  .split <;> simp only [cw,bE,bw]
  .simp only [MP,bE]
  .rfl
theorem H9(P:Program)(d:Nat)(t:TypeId)(ns:Nat)(n m:T)(K:AV->aB->Option R)(f:R->Option S):(o7 P d t ns n m K).bind f=o7 P d t ns n m λv u=>(K v u).bind f:=by unfold o7;rw [MP];congr 1;funext e;rw [MP];congr 1;funext a;rw [bE];congr 1;funext n;rw [bE];congr 1;funext m;rw [cw];congr 1;rw [bE];congr 1;funext _;rw [jw];congr 1;split <;> simp only [cw,bw]
theorem wH(P:Program)(k:TypeId)(c:Option Bool)(v:AV)(K:Bool->List Ck->List T->Option R)(f:R->Option S):(mj P k c v K).bind f=mj P k c v λa b l=>(K a b l).bind f:=by unfold mj;rw [MP];congr 1;funext q;split <;> simp only [pP,MP,cw,bw]
theorem H6(P:Program)(s:St)(c:Option Bool)(t:TypeId)(x k:AV)(ok:Bool)(K:AV->Option R)(f:R->Option S):(lu P s c t x k ok K).bind f=lu P s c t x k ok λv=>(K v).bind f:=by
 unfold lu;rw [MP];congr 1;funext q;rw [MP];congr 1;funext z;rw [wH];congr 1;funext a b l;split
 .split
  .rw [cw];simp only [lO,bw]
  .rfl
 .rfl
theorem Ib(P:Program)(d:Nat)(t:TypeId)(K:AV->aB->Option R)(f:R->Option S):(o8 P d t K).bind f=o8 P d t λv u=>(K v u).bind f:=by unfold o8;simp only [MP,cw,bw]
theorem EW(P:Program)(s:St)(t:TypeId)(x k:AV)(K:aB->Option R)(f:R->Option S):(kT P s t x k K).bind f=kT P s t x k λu=>(K u).bind f:=by
 unfold kT;rw [MP];congr 1;funext q;rw [wH];congr 1;funext a b l;split
 .split
  .rw [cw];rfl
  .rfl
 .rfl
theorem JV(P:Program)(s:St)(t:TypeId)(x k v:AV)(K:aB->Option R)(f:R->Option S):(lE P s t x k v K).bind f=lE P s t x k v λu=>(K u).bind f:=by
 unfold lE;rw [MP];congr 1;funext q;rw [wH];congr 1;funext a b l;split
 .split
  .rw [cw];simp only [MP,lO,bw]
  .rfl
 .rfl
theorem wR(k:IntKind)(c:Option Bool)(b:Bool):∀(l:List T) (a:Int) (K:T->Option R) (f:R->Option S),(mr k c b a l K).bind f=mr k c b a l λx=>(K x).bind f
 | [],_,_,_=>rfl
 | y::r,a,K,f=>by simp only [mr,bE,wR k c b r]
theorem EN(P:Program)(c:Option Bool)(a b:TypeId)(x:T)(K:T->Option R)(f:R->Option S):(oz P c a b x K).bind f=oz P c a b x λx=>(K x).bind f:=by unfold oz;split <;> simp only [bE,bw]
theorem yL(ids:List Id)(d:Nat)(c:Option Bool)(j:Nat)(r:bW)(x:T)(K:AV->aB->Nat->Option R)(f:R->Option S):(kc ids d c j r x K).bind f=kc ids d c j r x λv u j=>(K v u j).bind f:=by
 unfold kc;split
 .exact lO _ _ _ _ _
 .exact lO _ _ _ _ _
 .split <;> simp only [bE,bw]
 .split <;> simp only [bw]
 .split <;> simp only [bw]
 .split <;> simp only [bE,bw]
 .split <;> simp only [bE,bw]
 .rfl
 .rfl
 .rfl
theorem sA(ids:List Id)(d:Nat)(c:Option Bool):∀(rs:List bW) (j:Nat) (xs:List T) (K:List AV->aB->Nat->Option R) (f:R->Option S),(iC ids d c j rs xs K).bind f=iC ids d c j rs xs λv u j=>(K v u j).bind f
 | [],_,_,_,_=>rfl
 | r::rs,j,xs,K,f=>by simp only [iC,bE,yL,sA ids d c rs]
theorem na(ids:List Id)(d:Nat)(c:Option Bool):∀(rs:List bW) (j:Nat) (xs:List T) (K:List AV->aB->Nat->Option R) (f:R->Option S),(dw ids d c j rs xs K).bind f=dw ids d c j rs xs λv u j=>(K v u j).bind f
 | [],_,_,_,_=>rfl
 | r::rs,j,xs,K,f=>by
  cases r
  case new l=>cases c <;> simp only [dw,sA,na ids d _ rs,bw]
  all_goals simp only [dw,bE,yL,sA,na ids d c rs]
theorem sC(all:List Id)(d:Nat):∀(rs:List iw) (a:List Id) (j:Nat) (xs:List T) (K:aB->Option R) (f:R->Option S),(eP all d j a rs xs K).bind f=eP all d j a rs xs λu=>(K u).bind f
 | [],[],_,_,_,_=>rfl
 | [],_::_,_,_,_,_=>rfl
 | r::rs,[],_,_,_,_=>by cases r <;> rfl
 | r::rs,i::a,j,xs,K,f=>by cases r <;> simp only [eP,bE,sA,sC all d rs]
theorem L8(P:Program)(c:Option Bool)(t:TypeId)(v:AV)(K:AV->Option R)(f:R->Option S):(kK P c t v K).bind f=kK P c t v λx=>(K x).bind f:=by
 unfold kK;split
 .exact lO _ _ _ _ _
 .split
  .exact pP _ _ _ _ _
  .rfl
 .rfl
theorem xU(P:Program)(c:Option Bool):∀(ts:List TypeId) (vs:List AV) (K:List AV->Option R) (f:R->Option S),(gY P c ts vs K).bind f=gY P c ts vs λx=>(K x).bind f
 | [],_,_,_=>rfl
 | _::_,[],_,_=>rfl
 | t::ts,v::vs,K,f=>by simp only [gY,L8,xU P c ts vs]
theorem yA(P:Program)(A:ct)(O:aq)(s:St)(d:Nat)(c:Option Bool)(g:FuncId)(args:List AV)(K:AV->aB->Option R)(f:R->Option S):
  (fj P A O s d c g args K).bind f=fj P A O s d c g args λv u=>(K v u).bind f:=by
 unfold fj;split
 .rfl
 .split
  .simp only [MP,bE,na,xU]
  .split
   .rfl
   .simp only [MP,jw,bw,bE,na,sC,xU]
theorem Eh(h:Id->Option ad)(i new:Id)(n rsz:Nat)(K:aB->Option R)(f:R->Option S):(p9 h i new n rsz K).bind f=p9 h i new n rsz λu=>(K u).bind f:=by
 unfold p9;split
 .rw [cw];simp only [bE,bw]
 .rfl
theorem J6(P:Program)(s:St)(e:TypeId)(d:Nat)(c:Option Bool)(v:AV)(K:AV->aB->Option R)(f:R->Option S):(lJ P s e d c v K).bind f=lJ P s e d c v λv u=>(K v u).bind f:=by
 unfold lJ;split
 .split
  .split
   .rw [bE];congr 1;funext p;rw [MP];congr 1;funext l;rw [cw];rfl
   .rfl
  .rfl
 .rfl
theorem EE(fE:Bool)(P:Program)(A:ct)(O:aq)(s:St)(d:Nat)(c:Option Bool)(g:FuncId)(args:List AV)(K:AV->aB->Option R)(f:R->Option S):
  (hZ fE P A O s d c g args K).bind f=hZ fE P A O s d c g args λv u=>(K v u).bind f:=by
 unfold hZ;split
 .exact yA _ _ _ _ _ _ _ _ _ _
 .split
  .simp only [bE,jw,yA,Eh,bw]
  .rfl
theorem Bh(c:Option Bool)(v:AV)(K:Int->Option R)(f:R->Option S):(mh c v K).bind f=mh c v λx=>(K x).bind f:=by unfold mh;simp only [MP,bE]
theorem uM(P:Program)(A:ct)(O:aq)(g:Option Gs)(o:Oper)(s:St)(K:AV->aB->Option R)(f:R->Option S):
  (gI P A O g o s K).bind f=gI P A O g o s λv u=>(K v u).bind f:=by
 unfold gI;cases o.op <;> dsimp only
 case pick=>simp only [MP,bE]
 case alloc=>split <;> simp only [MP,bw]
 case box=>split <;> simp only [cw,bw]
 case build=>simp only [MP]
 case buildSlice=>
  rw [MP];congr 1;funext e;rw [cw];congr 1
  .split <;> simp only [cw,bw]
  rw [cw];congr 1
  .split <;> simp only [J6,bw]
  rw [cw];congr 1;rw [cw];congr 1;rw [MP];congr 1;funext q;split <;> rfl
 case load=>simp only [HW]
 case store=>split <;> simp only [LV,bw]
 case nilCheck=>split <;> simp only [bE,bw]
 case binOp=>split <;> simp only [MP,Hf,Ej]
 case unOp=>simp only [MP,Mh]
 case convert=>
  split
  .split <;> simp only [MP,bE,bw]
  .simp only [MP,EN]
 case makeFunc=>split <;> simp_all
 case makeSlice=>split <;> simp only [MP,H9,bw]
 case makeMap=>split <;> simp only [Ib,bw]
 case lookup=>simp only [H6]
 case mapUpdate=>split <;> simp only [JV,bw]
 case slice=>simp only [Ep,LF]
 case fieldAddr=>simp only [Ho]
 case field=>simp only [Hm]
 case indexAddr=>simp only [Bh,HG]
 case index=>
  simp only [Bh];congr 1;funext n;split
  .simp only [MP,bE,nz]
  .split <;> simp only [jw,MP,nz,qK,bw]
  .rfl
 case extract=>split <;> simp only [MP,bw]
 case call cl=>
  split
  .split <;> simp only [HO,bw]
  .split <;> simp only [D2,bw]
  .split
   .rw [MP];congr 1;funext l;split <;> simp only [bE,wR,bw]
   .rfl
  .split
   .rw [MP];congr 1;funext l;split <;> simp only [bE,wR,bw]
   .rfl
  .split <;> simp only [EW,bw]
  ·(repeat' split) <;> simp only [jw,bw]
  .split <;> simp only [EE,bw]
  .rfl
 all_goals rfl
def cA(P:Program)(A:ct)(O:aq)(g:Option Gs)(o:Oper)(s:St):Option (AV×aB):=gI P A O g o s λv u=>some (v,u)
theorem oe(P:Program)(A:ct)(O:aq)(g:Option Gs)(o:Oper)(s:St)(K:AV->aB->Option R):gI P A O g o s K= (cA P A O g o s).bind λp=>K p.1 p.2:=by unfold cA;rw [uM];rfl
theorem Be(a:Array Oper)(o:Oper)(s:St)(K:Option Gs->Option R)(f:R->Option S):(cL a o s K).bind f=cL a o s λg=>(K g).bind f:=by
 unfold cL;split
 .rfl
 .split
  .rfl
  .simp only [MP,bE]
theorem s4(a:Array Oper)(o:Oper)(s:St)(K:Option Gs->Option R):cL a o s K= (cL a o s some).bind K:=by rw [Be];rfl
def kv:List AV->List AV->Bool
 | [],[]=>true
 | c::r,c'::a=>match qz c c' with
  | none=>false
  | some none=>kv r a
  | some (some p)=>decide (p.1=p.2) && kv r a
 | _,_=>false
theorem yH(K:Option R)(a b:Bool):cond a (cond b K none) none=cond (a && b) K none:=by cases a <;> rfl
theorem Hx(p:Prop)[Decidable p](X:Option R):aa none (if p then some () else none) (λ_=>X)=cond (decide p) X none:=by by_cases h:p <;> simp [h,aa]
theorem Br(K:Option R):∀l b:List AV,qC l b K=cond (kv l b) K none
 | [],[]=>rfl
 | [],_::_=>rfl
 | _::_,[]=>rfl
 | c::r,c'::d=>by
  have a:=Br K r d;unfold qC kv;cases qz c c' with
  | none=>rfl
  | some q=>
   cases q with
   | none=>exact a
   | some p=>dsimp only;rw [a,Hx,yH]
def jb(h h':Id->Option ad):aB->Bool
 | []=>true
 | p::us=>match qA (h p.1) (h' p.1) with
  | none=>false
  | some none=>jb h h' us
  | some (some q)=>kv q.1 q.2 && jb h h' us
theorem Bw(h h':Id->Option ad)(K:Option R):∀us:aB,qD h h' us K=cond (jb h h' us) K none
 | []=>rfl
 | p::us=>by
  have a:=Bw h h' K us;unfold qD jb;cases qA (h p.1) (h' p.1) with
  | none=>rfl
  | some q=>
   cases q with
   | none=>exact a
   | some q=>dsimp only;rw [Br,a,yH]
def im(A:ct)(a:Bool)(o:Oper)(h:Id->Option ad)(us:aB):Bool:= !(a && A.ou o.dst o.type) || jb h (aJ h us) us
theorem qB(A:ct)(a:Bool)(o:Oper)(h:Id->Option ad)(us:aB)(K:Option R):wE A a o h us K=cond (im A a o h us) K none:=by unfold wE im;rw [Bw];cases(a && A.ou o.dst o.type) <;> rfl
def dU(P:Program)(A:ct)(O:aq)(a:Bool)(nt:Nat)(b:Array Oper)(o:Oper)(s:St):Option St:=mA P A O a nt b o s some
theorem JK(P:Program)(A:ct)(O:aq)(a:Bool)(nt:Nat)(b:Array Oper)(o:Oper)(s:St)(K:St->Option R):mA P A O a nt b o s K= (dU P A O a nt b o s).bind K:=by
 unfold dU mA;rw [Be];congr 1;funext g;cases nR A a o g with
 | none=>
  dsimp only;rw [uM];congr 1;funext v u;rw [qB,qB];cases im A a o s.h u with
  | false=>rfl
  | true=>simp only [cond_true];rw [cw];rfl
 | some d=>
  dsimp only;cases sG nt o d with
  | false=>rfl
  | true=>
   cases d.c with
   | false=>rfl
   | true=>simp only [cond_true];rw [uM];congr 1;funext v u;rw [cw];rfl
def gU(P:Program)(A:ct)(O:aq)(a:Bool)(nt:Nat)(b:Array Oper):List Oper->St->Option St
 | [],s=>some s
 | o::r,s=>(dU P A O a nt b o s).bind (gU P A O a nt b r)
theorem xq(P:Program)(A:ct)(O:aq)(a:Bool)(nt:Nat)(b:Array Oper):∀(l:List Oper) (s:St) (K:St->Option R),rq P A O a nt b l s K= (gU P A O a nt b l s).bind K
 | [],_,_=>rfl
 | o::r,s,K=>by simp only [rq,gU,JK,MP];congr 1;funext s';exact xq P A O a nt b r s' K
end
open Go
def oU(w:World):Prop:=Lib.TabIs Go.Proofs.Tryz.prog w "internal/strconv.uint64pow10" .u64 Lib.pow10Tab
def mc:Nat:=3
theorem Hz:Go.Proofs.Tryz.prog.globalNamed "internal/strconv.uint64pow10" =some 0:=by kernel_rfl
theorem wo{w w':World}(a:∀b,b < mc->w'.heap[b]? =w.heap[b]?)(h:oU w):oU w':=by unfold oU Lib.TabIs World.var? at h⊢;rw [Hz,Mw] at h⊢;rw [a 0 (by decide)];exact h
def GlobOk(w:World):Prop:=oU w/\mc<=w.heap.size
open Go
structure Ctx where
 A0:Nat->Prop
 M:Nat->Prop
 N0:Nat
def Ctx.MO(c:Ctx)(b:Nat):Prop:=c.M b\/c.N0<=b
def AA(c:Ctx)(w:World)(O:Id->Option Nat)(b:Nat):Prop:=(c.A0 b\/c.MO b)/\b < w.heap.size/\∀i,O i≠some b
def cz(w:World)(A:Nat->Prop)(sz:Nat)(b:Bool)(l:List (List T))(v:Value)(Q:Nat->Prop):Prop:=
 ∃a cap,v= .slice a l.length cap/\l.length<=cap/\(a=none↔b=true)/\True/\
  (cap=0\/∃ae off arr t,a=some ⟨ae,off,none⟩/\Q ae/\w.heap[ae]? =some (.cells arr t (0,0))/\off+cap * sz<=arr.size/\a8 w A ae sz off l)
def gG(w:World)(A:Nat->Prop)(ρ:Id->Option Value)(O:Id->Option Nat)(i:Id)(ae sz col rsz base:Nat)(e:Row):Prop:=
 e.cs.length=sz/\col < sz/\(∀j x,j≠col->e.cs[j]? =some x->∃v,w.cell? ⟨ae,base+j,none⟩=some v/\ay w A x v)/\
 ∃v,w.cell? ⟨ae,base+col,none⟩=some v/\ρ (.g i e.n)=some v/\
  match e.own with
  | some p=>cz w A rsz p.1 p.2 v (λb=>O (.g i e.n)=some b)
  | none=>O (.g i e.n)=none
def cg(w:World)(A:Nat->Prop)(ρ:Id->Option Value)(O:Id->Option Nat)(i:Id)(ae sz col rsz:Nat):Nat->List Row->Prop
 | _,[]=>True
 | base,e::es=>gG w A ρ O i ae sz col rsz base e/\cg w A ρ O i ae sz col rsz (base+sz) es
def lY(ρ:Id->Option Value)(O:Id->Option Nat)(i:Id)(a:Nat)(es:List Row):Prop:=
 (es.map (·.n)).Nodup/\(∀e∈es,e.n < a)/\(∀n,a<=n->ρ (.g i n)=none)/\∀n b,O (.g i n)=some b->∃e∈es,e.n=n
def cG(w:World)(A:Nat->Prop)(ρ:Id->Option Value)(O:Id->Option Nat)(i:Id):ad->Prop
 | .box cs=>∃b arr t,ρ i=some (.pointer (some ⟨b,0,none⟩))/\O i=some b/\w.heap[b]? =some (.cells arr t (0,0))/\az w A ρ cs arr.toList/\
   (∀u∈arr.toList,u.oneCell'=true/\u.cells= #[u])
 | .sl fz sz b l=>∃v,ρ i=some v/\cz w A sz b l v (λae=>if fz=true then A ae else O i=some ae)/\(fz=true->O i=none)
 | .cE l=>∃b,ρ i=some (.pointer (some ⟨b,0,none⟩))/\O i=none/\A b/\aY w A b 0 l
 | .arr cs=>∃b arr t,ρ i=some (.slice (some ⟨b,0,none⟩) 1 1)/\O i=some b/\w.heap[b]? =some (.cells arr t (0,0))/\az w A ρ cs arr.toList/\
   (∀u∈arr.toList,u.oneCell'=true/\u.cells= #[u])
 | .mp ag ks vk es=>∃b d f,ρ i=some (.map (some b))/\O i=some b/\w.heap[b]? =some (.map d f)/\
   d.toList.map (λe=>(e.key,e.val))=es.map (λp=>(cM ag p.1,cZ p.2))/\(es.all λp=>bX ks p.1 && dt vk p.2)=true
 | .rows b sz col rsz g es=>∃a cap,ρ i=some (.slice a es.length cap)/\es.length<=cap/\(a=none↔b=true)/\lY ρ O i g es/\
   (cap=0\/∃ae off arr t,a=some ⟨ae,off,none⟩/\O i=some ae/\w.heap[ae]? =some (.cells arr t (0,0))/\off+cap * sz<=arr.size/\cg w A ρ O i ae sz col rsz off es)
 | .dead=>(∃v,ρ i=some v/\v.oneCell'=true/\v.cells= #[v])/\O i=none
structure HS (c:Ctx) (w:World) (h:Id->Option ad) (ρ:Id->Option Value) (O:Id->Option Nat):Prop where
 ae:∀i b,h i=some b->cG w (AA c w O) ρ O i b
 cj:∀i,i.real=true->h i=none->ρ i=none/\O i=none
 dr:∀i n,h (.g i n)=none
 eD:∀i n,h i=none->ρ (.g i n)=none/\O (.g i n)=none
 gone:∀i n u,ρ (.g i n)=some u->u.oneCell'=true/\u.cells= #[u]
 inj:∀i j b,O i=some b->O j=some b->i=j
 lt:∀i b,O i=some b->b < w.heap.size
 own:∀i b,O i=some b->c.MO b
 size:c.N0<=w.heap.size
 glob:oU w/\mc<=c.N0/\∀b,b < mc->¬c.M b
structure Le (w:World) (ρ:Id->Option Value) (O:Id->Option Nat) (w':World) (ρ':Id->Option Value) (O':Id->Option Nat):Prop where
 os:w'.os=w.os
 output:w'.output=w.output
 tape:w'.tape=w.tape
 size:w.heap.size<=w'.heap.size
 dG:∀i v,ρ i=some v->ρ' i=some v
 ae:∀b,b < w.heap.size->(∀i,O i≠some b)->w'.heap[b]? =w.heap[b]?
 own:∀i b,O' i=some b->(∃j,O j=some b)\/w.heap.size<=b
section
variable {c:Ctx} {w w' w'':World} {h h':Id->Option ad} {ρ ρ' ρ'':Id->Option Value} {O O' O'':Id->Option Nat}
theorem Le.refl:Le w ρ O w ρ O:=⟨rfl,rfl,rfl,M2 _,λ_ _ h=>h,λ_ _ _=>rfl,λi b h=> .inl ⟨i,h⟩⟩
theorem Le.trans(a:Le w ρ O w' ρ' O')(b:Le w' ρ' O' w'' ρ'' O''):Le w ρ O w'' ρ'' O'' where
 os:=b.os.trans a.os
 output:=b.output.trans a.output
 tape:=b.tape.trans a.tape
 size:=Nl a.size b.size
 dG i v h:=b.dG i v (a.dG i v h)
 ae k hk hn:=by
  rw [b.ae k (Nx hk a.size),a.ae k hk hn];intro i hi;rcases a.own i k hi with⟨j,hj⟩ | h
  .exact hn j hj
  .omega
 own i k hi:=by
  rcases b.own i k hi with⟨j,hj⟩ | h
  .exact a.own j k hj
  .exact .inr (Nl a.size h)
theorem Le.A(le:Le w ρ O w' ρ' O')(b:Nat)(a:AA c w O b):AA c w' O' b/\w'.heap[b]? =w.heap[b]?:=by
 refine⟨⟨a.1,Nx a.2.1 le.size,λi d=> ?_⟩,le.ae b a.2.1 a.2.2⟩;rcases le.own i b d with⟨j,e⟩ | h
 .exact a.2.2 j e
 .have:=a.2.1;omega
theorem cz.mono{A A' Q g:Nat->Prop}{sz:Nat}{b:Bool}{l:List (List T)}{v:Value}(o:∀b,A b->A' b/\w'.heap[b]? =w.heap[b]?)
  (f:∀b,Q b->g b/\w'.heap[b]? =w.heap[b]?) (hs:cz w A sz b l v Q):cz w' A' sz b l v g:=by
 obtain⟨a,cap,j,k,m,n,e⟩:=hs;refine⟨a,cap,j,k,m,n, ?_⟩;rcases e with e | ⟨ae,off,arr,t,i,d,e3,e4,e5⟩
 .exact .inl e
 .exact .inr ⟨ae,off,arr,t,i,(f _ d).1,by rw [(f _ d).2];exact e3,e4,a8.lA o ae sz (f _ d).2 off l e5⟩
def nY(i:Id)(w:World)(ρ:Id->Option Value)(O:Id->Option Nat)(w':World)(ρ':Id->Option Value)(O':Id->Option Nat):Prop:=
 ∀n,ρ' (.g i n)=ρ (.g i n)/\O' (.g i n)=O (.g i n)/\∀b,O (.g i n)=some b->w'.heap[b]? =w.heap[b]?
theorem gG.mono{A A':Nat->Prop}{i:Id}{ae sz col rsz base:Nat}{e:Row}(f:∀b,A b->A' b/\w'.heap[b]? =w.heap[b]?)(z:w'.heap[ae]? =w.heap[ae]?)(a:nY i w ρ O w' ρ' O')(h:gG w A ρ O i ae sz col rsz base e):
  gG w' A' ρ' O' i ae sz col rsz base e:=by
 obtain⟨m,o,q,v,r,t,y⟩:=h;have g:∀p,w'.cell? ⟨ae,p,none⟩=w.cell? ⟨ae,p,none⟩:=λp=>kQ z;refine⟨m,o,λj x B C=> ?_,v,by rw [g];exact r,by rw [(a e.n).1];exact t, ?_⟩
 .obtain⟨u,l,d⟩:=q j x B C;exact⟨u,by rw [g];exact l,ay.mono f x u d⟩
 .revert y;cases e.own with
  | none=>intro h;simp only at h⊢;rw [(a e.n).2.1];exact h
  | some p=>intro d;refine cz.mono f (λb k=> ?_) d;rw [(a e.n).2.1];exact⟨k,(a e.n).2.2 b k⟩
theorem cg.mono{A A':Nat->Prop}{i:Id}{ae sz col rsz:Nat}(a:∀b,A b->A' b/\w'.heap[b]? =w.heap[b]?)(d:w'.heap[ae]? =w.heap[ae]?)(f:nY i w ρ O w' ρ' O'):∀{es:List Row} {base:Nat},cg w A ρ O i ae sz col rsz base es->
  cg w' A' ρ' O' i ae sz col rsz base es
 | [],_,_=>trivial
 | e::es,base,h=>⟨gG.mono a d f h.1,cg.mono a d f h.2⟩
theorem cz.dx{A A' Q a:Nat->Prop}{sz:Nat}{b:Bool}{l:List (List T)}{v:Value}(d:∀b,A b->A' b/\w'.heap[b]? =w.heap[b]?)
  (e:∀b,Q b->a b/\w'.heap[b]? =w.heap[b]?) (hs:cz w A sz b l v Q):cz w' A' sz b l v a:=cz.mono d e hs
theorem gG.move{A A':Nat->Prop}{i i':Id}{ae blk' sz col rsz base a:Nat}{e:Row}(l:∀j,j < sz->w'.cell? ⟨blk',a+j,none⟩=w.cell? ⟨ae,base+j,none⟩)(k:∀b,A b->A' b/\w'.heap[b]? =w.heap[b]?)
  (D:ρ' (.g i' e.n)=ρ (.g i e.n)) (f:O' (.g i' e.n)=O (.g i e.n)) (E:∀b,O (.g i e.n)=some b->w'.heap[b]? =w.heap[b]?) (h:gG w A ρ O i ae sz col rsz base e):gG w' A' ρ' O' i' blk' sz col rsz a e:=by
 obtain⟨q,d,r,v,t,y,z⟩:=h;refine⟨q,d,λj x F o=> ?_,v,by rw [l _ d];exact t,by rw [D];exact y, ?_⟩
 .obtain⟨u,B,C⟩:=r j x F o;have:=(My.1 o).1;exact⟨u,by rw [l j (by omega)];exact B,ay.mono k x u C⟩
 .revert z;cases e.own with
  | none=>intro h;simp only at h⊢;rw [f];exact h
  | some p=>intro g;refine cz.mono k (λb m=> ?_) g;rw [f];exact⟨m,E b m⟩
theorem cg.move{A A':Nat->Prop}{i i':Id}{ae blk' sz col rsz:Nat}(d:∀b,A b->A' b/\w'.heap[b]? =w.heap[b]?):∀{es:List Row} {base a:Nat},
  (∀p,p < es.length * sz->w'.cell? ⟨blk',a+p,none⟩=w.cell? ⟨ae,base+p,none⟩)->(∀e∈es,ρ' (.g i' e.n)=ρ (.g i e.n)/\O' (.g i' e.n)=O (.g i e.n)/\∀b,O (.g i e.n)=some b->w'.heap[b]? =w.heap[b]?)->
  cg w A ρ O i ae sz col rsz base es->cg w' A' ρ' O' i' blk' sz col rsz a es
 | [],_,_,_,_,_=>trivial
 | e::es,base,a,f,k,h=>by
  have el:(e::es).length * sz=sz+es.length * sz:=by simp [Nr];omega
  obtain⟨l,m,o⟩:=k e Mv;refine⟨gG.move (λj r=>f j (by omega)) d l m o h.1,cg.move d (λp t=> ?_) (λe q=>k e (Mx _ q)) h.2⟩;rw [Ot,Ot];exact f (sz+p) (by omega)
theorem cg.append{A:Nat->Prop}{i:Id}{ae sz col rsz:Nat}:∀{es a:List Row} {base:Nat},cg w A ρ O i ae sz col rsz base es->cg w A ρ O i ae sz col rsz (base+es.length * sz) a->cg w A ρ O i ae sz col rsz base (es++a)
 | [],a,base,_,h=>by simpa using h
 | e::es,a,base,h,h'=>by
  refine⟨h.1,cg.append h.2 ?_⟩;have:base+sz+es.length * sz=base+ (e::es).length * sz:=by simp [Nr];omega
  rw [this];exact h'
theorem cg.set{A A':Nat->Prop}{i:Id}{ae sz col rsz:Nat}{x:Row}(l:∀b,A b->A' b/\w'.heap[b]? =w.heap[b]?):∀{es:List Row} {base k:Nat},k < es.length->
  (∀p,base<=p->p < base+es.length * sz->¬(base+k * sz<=p/\p < base+k * sz+sz)->w'.cell? ⟨ae,p,none⟩=w.cell? ⟨ae,p,none⟩)->
  (∀j e,j≠k->es[j]? =some e->ρ' (.g i e.n)=ρ (.g i e.n)/\O' (.g i e.n)=O (.g i e.n)/\∀b,O (.g i e.n)=some b->w'.heap[b]? =w.heap[b]?)->
  gG w' A' ρ' O' i ae sz col rsz (base+k * sz) x->cg w A ρ O i ae sz col rsz base es->cg w' A' ρ' O' i ae sz col rsz base (es.set k x)
 | [],_,_,f,_,_,_,_=>by simp at f
 | e::es,base,0,f,a,d,q,h=>by
  have el:(e::es).length * sz=sz+es.length * sz:=by simp [Nr];omega
  refine⟨by simpa using q,cg.move l (λp y=>a _ (by omega) (by omega) (by omega)) (λe' m=> ?_) h.2⟩;obtain⟨j,o⟩:=OJ.1 m;exact d (j+1) e' (by omega) (by simpa using o)
 | e::es,base,k+1,f,a,d,q,h=>by
  have el:(e::es).length * sz=sz+es.length * sz:=by simp [Nr];omega
  have v:(k+1) * sz=sz+k * sz:=by rw [Nr];omega
  obtain⟨r,t,u⟩:=d 0 e (by omega) rfl;refine⟨gG.move (λj o=>a _ (by omega) (by omega) (by omega)) l r t u h.1,cg.set l (by simpa using f) (λp z B C=>a p (by omega) (by omega) (by omega)) (λj e' o m=>d (j+1) e' (by omega) (by simpa using m)) ?_ h.2⟩;rw [show base+sz+k * sz=base+ (k+1) * sz by omega];exact q
theorem lY.mono{i:Id}{e:Nat}{es:List Row}(d:nY i w ρ O w' ρ' O')(h:lY ρ O i e es):lY ρ' O' i e es:=
 ⟨h.1,h.2.1,λn a=>by rw [(d n).1];exact h.2.2.1 n a,λn b a=>by rw [(d n).2.1] at a;exact h.2.2.2 n b a⟩
theorem cG.mono{A A':Nat->Prop}{i:Id}(q:nY i w ρ O w' ρ' O')(j:∀b,A b->A' b/\w'.heap[b]? =w.heap[b]?)(e:∀i v,ρ i=some v->ρ' i=some v)(g:O' i=O i)
  (k:∀b,O i=some b->w'.heap[b]? =w.heap[b]?):∀{b:ad},cG w A ρ O i b->cG w' A' ρ' O' i b
 | .box cs,⟨b,arr,t,f,d,e3,e4,e5⟩=>⟨b,arr,t,e _ _ f,by rw [g];exact d,by rw [k _ d];exact e3,az.mono j e cs _ e4,e5⟩
 | .sl fz sz b l,⟨v,f,d,e3⟩=>by
  refine⟨v,e _ _ f,cz.mono j (λb m=> ?_) d,by rw [g];exact e3⟩;cases fz
  .simp only [MZ,if_false] at m⊢;exact⟨by rw [g];exact m,k _ m⟩
  .simp only [if_true] at m⊢;exact j _ m
 | .cE l,⟨b,f,d,e3,e4⟩=>⟨b,e _ _ f,by rw [g];exact d,(j b e3).1,aY.mono j b e3 0 l e4⟩
 | .arr cs,⟨b,arr,t,f,d,e3,e4,e5⟩=>⟨b,arr,t,e _ _ f,by rw [g];exact d,by rw [k _ d];exact e3,az.mono j e cs _ e4,e5⟩
 | .mp ag ks vk es,⟨b,o,n,f,d,e3,e4,e5⟩=>⟨b,o,n,e _ _ f,by rw [g];exact d,by rw [k _ d];exact e3,e4,e5⟩
 | .rows b sz col rsz z es,h=>by
  obtain⟨a,cap,f,d,e3,e4,e5⟩:=h;refine⟨a,cap,e _ _ f,d,e3,e4.mono q, ?_⟩;rcases e5 with e5 | ⟨ae,off,arr,t,r,p,u,x,y⟩
  .exact .inl e5
  .exact .inr ⟨ae,off,arr,t,r,by rw [g];exact p,by rw [k _ p];exact u,x,y.mono j (k _ p) q⟩
 | .dead,⟨⟨v,f,e3⟩,d⟩=>⟨⟨v,e _ _ f,e3⟩,by rw [g];exact d⟩
def GK(w:World)(ρ:Id->Option Value)(O:Id->Option Nat)(w':World)(ρ':Id->Option Value)(O':Id->Option Nat):Prop:= ∀i,nY i w ρ O w' ρ' O'
theorem GK.refl:GK w ρ O w ρ O:=λ_ _=>⟨rfl,rfl,λ_ _=>rfl⟩
theorem HS.real(hs:HS c w h ρ O){i:Id}(a:h i≠none):i.real=true:=by
 cases i with
 | g i n=>exact(a (hs.dr i n)).elim
 | _=>rfl
theorem HS.me(hs:HS c w h ρ O)(le:Le w ρ O w' ρ' O')
  (hblk:∀i b,h' i=some b->(h i=some b/\O' i=O i/\(∀ae,O i=some ae->w'.heap[ae]? =w.heap[ae]?)/\nY i w ρ O w' ρ' O')\/cG w' (AA c w' O') ρ' O' i b)
  (hnone:∀i,i.real=true->h' i=none->ρ' i=none/\O' i=none) (hnog:∀i n,h' (.g i n)=none)
  (hgd:∀i n,h' i=none->ρ' (.g i n)=none/\O' (.g i n)=none) (hgo:∀i n u,ρ' (.g i n)=some u->u.oneCell'=true/\u.cells= #[u])
  (inj:∀i j b,O' i=some b->O' j=some b->i=j) (lt:∀i b,O' i=some b->b < w'.heap.size):HS c w' h' ρ' O' where
 ae i b hb:=by
  rcases hblk i b hb with⟨h1,h2,h3,h4⟩ | h1
  .exact cG.mono h4 (λb ha=>le.A b ha) le.dG h2 h3 (hs.ae i b h1)
  .exact h1
 cj:=hnone
 dr:=hnog
 eD:=hgd
 gone:=hgo
 inj:=inj
 lt:=lt
 own i b hi:=by
  rcases le.own i b hi with⟨j,hj⟩ | h
  .exact hs.own j b hj
  .exact .inr (Nl hs.size h)
 size:=Nl hs.size le.size
 glob:=⟨wo (λb hb=>le.ae b (Nx hb (Nl hs.glob.2.1 hs.size)) λi hi=>by
  rcases hs.own i b hi with h | h
  .exact hs.glob.2.2 b hb h
  .have:=hs.glob.2.1;omega) hs.glob.1,hs.glob.2⟩
theorem HS.ok(hs:HS c w h ρ O):GlobOk w:=⟨hs.glob.1,Nl hs.glob.2.1 hs.size⟩
theorem HS.go(hs:HS c w h ρ O)(le:Le w ρ O w' ρ' O')(a:GK w ρ O w' ρ' O')
  (f:∀i b,h' i=some b->(h i=some b/\O' i=O i/\(∀ae,O i=some ae->w'.heap[ae]? =w.heap[ae]?))\/cG w' (AA c w' O') ρ' O' i b)
  (d:∀i,i.real=true->h' i=none->ρ' i=none/\O' i=none) (q:∀i,h' i=none->h i=none) (k:∀i n,h' (.g i n)=none)
  (inj:∀i j b,O' i=some b->O' j=some b->i=j) (lt:∀i b,O' i=some b->b < w'.heap.size):HS c w' h' ρ' O':=
 hs.me le (λi b p=>by
  rcases f i b p with⟨e,m,o⟩ | e
  .exact .inl ⟨e,m,o,a i⟩
  .exact .inr e) d k (λi n r=>by
  have:=hs.eD i n (q i r);rw [(a i n).1,(a i n).2.1];exact this) (λi n u l=>by rw [(a i n).1] at l;exact hs.gone i n u l) inj lt
theorem HS.world(hs:HS c w h ρ O)(le:Le w ρ O w' ρ O)(dx:∀i ae,O i=some ae->w'.heap[ae]? =w.heap[ae]?):HS c w' h ρ O:=
 hs.go le (λi n=>⟨rfl,rfl,λb a=>dx _ b a⟩) (λi _ a=> .inl ⟨a,rfl,λae h=>dx i ae h⟩) hs.cj (λ_ h=>h) hs.dr hs.inj λi b h=>Nx (hs.lt i b h) le.size
def aF{α:Type}(f:Id->Option α)(i:Id)(v:Option α):Id->Option α:=λj=>if j=i then v else f j
@[simp] theorem aA {α:Type} (f:Id->Option α) (i:Id) (v:Option α):aF f i v i=v:=by simp [aF]
theorem au{α:Type}(f:Id->Option α){i j:Id}(v:Option α)(h:j≠i):aF f i v j=f j:=by simp [aF,h]
theorem dc(h:Id->Option ad)(i:Id)(b:ad):aJ h [(i,b)]=aF h i (some b):=rfl
theorem cD(h:Id->Option ad)(i:Id)(b:ad)(us:aB):aJ h ((i,b)::us)=aJ (aF h i (some b)) us:=rfl
theorem jS(h:Id->Option ad):∀(us vs:aB),aJ h (us++vs)=aJ (aJ h us) vs
 | [],_=>rfl
 | (i,b)::us,vs=>by simp only [Nu,cD];exact jS _ us vs
theorem aN{i j:Id}{n:Nat}(a:i.real=true):Id.g j n≠i:=by rintro rfl;cases a
theorem Le.alloc(hs:HS c w h ρ O){i:Id}(hr:i.real=true)(hi:h i=none)(o:Obj)(v:Value)(ob:Option Nat)(hob:ob=none\/ob=some w.heap.size):
  Le w ρ O (w.alloc o) (aF ρ i (some v)) (aF O i ob) where
 os:=rfl
 output:=rfl
 tape:=rfl
 size:=by simp
 dG j u hj:=by
  by_cases e:j=i
  .subst e;rw [(hs.cj _ hr hi).1] at hj;cases hj
  .rw [au _ _ e];exact hj
 ae b hb _:=Ni _ _ _ hb
 own j b hj:=by
  by_cases e:j=i
  .subst e;rw [aA] at hj;rcases hob with rfl | rfl
   .cases hj
   .cases hj;exact .inr (M2 _)
  .rw [au _ _ e] at hj;exact .inl ⟨j,hj⟩
theorem HS.alloc(hs:HS c w h ρ O){i:Id}(l:i.real=true)(r:h i=none)(o:Obj)(v:Value)(ob:Option Nat)(g:ob=none\/ob=some w.heap.size)(b:ad)
  (m:cG (w.alloc o) (AA c (w.alloc o) (aF O i ob)) (aF ρ i (some v)) (aF O i ob) i b):
  HS c (w.alloc o) (aF h i (some b)) (aF ρ i (some v)) (aF O i ob):=by
 refine hs.go (Le.alloc hs l r o v ob g) (λj n=>⟨au _ _ (aN l),au _ _ (aN l),λb m=>Ni _ _ _ (hs.lt _ b m)⟩) (λj t a=> ?_) (λj q a=> ?_) (λj a=> ?_) (λj n=>by rw [au _ _ (aN l)];exact hs.dr j n) (λj k d a f=> ?_) (λj d a=> ?_)
 .by_cases e:j=i
  .subst e;rw [aA] at a;cases a;exact .inr m
  .rw [au _ _ e] at a;exact .inl ⟨a,au _ _ e,λae p=>Ni _ _ _ (hs.lt j ae p)⟩
 .by_cases e:j=i
  .subst e;rw [aA] at a;cases a
  .rw [au _ _ e] at a;rw [au _ _ e,au _ _ e];exact hs.cj j q a
 .by_cases e:j=i
  .subst e;rw [aA] at a;cases a
  .rw [au _ _ e] at a;exact a
 .by_cases e:j=i <;> by_cases e':k=i
  .rw [e,e']
  .exfalso;rw [au _ _ e'] at f;subst e;rw [aA] at a;rcases g with rfl | rfl
   .cases a
   .cases a;exact NQ _ (hs.lt _ _ f)
  .exfalso;rw [au _ _ e] at a;subst e';rw [aA] at f;rcases g with rfl | rfl
   .cases f
   .cases f;exact NQ _ (hs.lt _ _ a)
  .rw [au _ _ e] at a;rw [au _ _ e'] at f;exact hs.inj j k d a f
 .by_cases e:j=i
  .subst e;rw [aA] at a;rcases g with rfl | rfl
   .cases a
   .cases a;simp
  .rw [au _ _ e] at a;have:=hs.lt j d a;simp;omega
theorem Le.release{i:Id}:Le w ρ O w ρ (aF O i none) where
 os:=rfl
 output:=rfl
 tape:=rfl
 size:=M2 _
 dG _ _ h:=h
 ae _ _ _:=rfl
 own j b hj:=by
  by_cases e:j=i
  .subst e;rw [aA] at hj;cases hj
  .rw [au _ _ e] at hj;exact .inl ⟨j,hj⟩
theorem HS.release(hs:HS c w h ρ O){i:Id}(l:i.real=true)(b:ad)(m:cG w (AA c w (aF O i none)) ρ (aF O i none) i b):HS c w (aF h i (some b)) ρ (aF O i none):=by
 refine hs.go Le.release (λj n=>⟨rfl,au _ _ (aN l),λ_ _=>rfl⟩) (λj o a=> ?_) (λj g a=> ?_) (λj a=> ?_) (λj n=>by rw [au _ _ (aN l)];exact hs.dr j n) (λj k d a f=> ?_) (λj d a=> ?_)
 .by_cases e:j=i
  .subst e;rw [aA] at a;cases a;exact .inr m
  .rw [au _ _ e] at a;exact .inl ⟨a,au _ _ e,λ_ _=>rfl⟩
 .by_cases e:j=i
  .subst e;rw [aA] at a;cases a
  .rw [au _ _ e] at a⊢;exact hs.cj j g a
 .by_cases e:j=i
  .subst e;rw [aA] at a;cases a
  .rw [au _ _ e] at a;exact a
 .by_cases e:j=i
  .subst e;rw [aA] at a;cases a
  .by_cases e':k=i
   .subst e';rw [aA] at f;cases f
   .rw [au _ _ e] at a;rw [au _ _ e'] at f;exact hs.inj j k d a f
 .by_cases e:j=i
  .subst e;rw [aA] at a;cases a
  .rw [au _ _ e] at a;exact hs.lt j d a
theorem HS.freeze(hs:HS c w h ρ O){i:Id}{sz:Nat}{b:Bool}{l:List (List T)}(f:h i=some (.sl false sz b l)):
  HS c w (aF h i (some (.sl true sz b l))) ρ (aF O i none):=by
 refine hs.release (hs.real (by rw [f];simp)) _ ?_;obtain⟨v,g,k,e3⟩:=hs.ae i _ f;refine⟨v,g, ?_,λ_=>by simp⟩;simp only [if_true];have m:∀b,AA c w O b->AA c w (aF O i none) b/\w.heap[b]? =w.heap[b]?:=λb n=>(Le.release (ρ:=ρ) (i:=i)).A b n;refine cz.mono m (λae d=> ?_) k;simp only [MZ,if_false] at d;refine⟨⟨.inr (hs.own i ae d),hs.lt i ae d,λj a=> ?_⟩,rfl⟩;by_cases e:j=i
 .subst e;rw [aA] at a;cases a
 .rw [au _ _ e] at a;exact e (hs.inj j i ae a d)
theorem HS.Hu(hs:HS c w h ρ O){i:Id}{cs:List AV}{l:List T}(f:h i=some (.box cs))(hl:dz cs=some l):
  HS c w (aF h i (some (.cE l))) ρ (aF O i none):=by
 refine hs.release (hs.real (by rw [f];simp)) _ ?_;obtain⟨b,arr,t,k,d,e3,e4,e5⟩:=hs.ae i _ f;have o:∀b,AA c w O b->AA c w (aF O i none) b/\w.heap[b]? =w.heap[b]?:=λb q=>(Le.release (ρ:=ρ) (i:=i)).A b q;have y:AA c w (aF O i none) b:=⟨.inr (hs.own i b d),hs.lt i b d,λj a=>by
  by_cases e:j=i
  .subst e;rw [aA] at a;cases a
  .rw [au _ _ e] at a;exact e (hs.inj j i b a d)⟩
 refine⟨b,k,by simp,y, ?_⟩;have p:=aQ.jf hl e4;have key:∀(l:List T) (vs:List Value) (off:Nat),aQ w (AA c w O) l vs->(∀j v,vs[j]? =some v->w.cell? ⟨b,off+j,none⟩=some v)->aY w (AA c w (aF O i none)) b off l:=by
  intro l;induction l with
  | nil=>intro vs off _ _;simp [aY]
  | cons x l z=>rintro vs off ⟨v,r,rfl,m,n⟩ g;simp only [aY];refine⟨⟨v,by simpa using g 0 v rfl,ay.mono o x v m⟩,z r (off+1) n λj u a=> ?_⟩;have:=g (j+1) u (by simpa using a);rw [show off+1+j=off+ (j+1) by omega];exact this
 refine key l _ 0 p λj v a=> ?_;simp only [World.cell?,e3,Nc];simpa using a
theorem Le.write{b:Nat}{i:Id}(hi:O i=some b)(hos:w'.os=w.os)(ho:w'.output=w.output)(ht:w'.tape=w.tape)(hsz:w'.heap.size=w.heap.size)(hk:∀k,k≠b->w'.heap[k]? =w.heap[k]?):Le w ρ O w' ρ O where
 os:=hos
 output:=ho
 tape:=ht
 size:=Nat.le_of_eq hsz.symm
 dG _ _ h:=h
 ae k _ hn:=hk k λe=>hn i (e▸hi)
 own j b hj:= .inl ⟨j,hj⟩
theorem HS.write(hs:HS c w h ρ O){b:Nat}{i:Id}(l:O i=some b)(le:Le w ρ O w' ρ O)(o:∀k,k≠b->w'.heap[k]? =w.heap[k]?)(x:ad)
  (q:cG w' (AA c w' O) ρ O i x) (g:h i≠none):HS c w' (aF h i (some x)) ρ O:=by
 have p:=hs.real g;refine hs.go le (λj n=>⟨rfl,rfl,λd g=>o d λe=>aN p (hs.inj _ i b (e▸g) l)⟩) (λj r a=> ?_) (λj m a=> ?_) (λj a=> ?_) (λj n=>by rw [au _ _ (aN p)];exact hs.dr j n) hs.inj (λj d a=>Nx (hs.lt j d a) le.size)
 .by_cases e:j=i
  .subst e;rw [aA] at a;cases a;exact .inr q
  .rw [au _ _ e] at a;exact .inl ⟨a,rfl,λae f=>o ae λe'=>e (hs.inj j i b (e'▸f) l)⟩
 .by_cases e:j=i
  .subst e;rw [aA] at a;cases a
  .rw [au _ _ e] at a;exact hs.cj j m a
 .by_cases e:j=i
  .subst e;rw [aA] at a;cases a
  .rw [au _ _ e] at a;exact a
end
def SS(w:World)(A:Nat->Prop)(ρ:Id->Option Value)(s:Nat->Option Gs×AV)(tmps:Array Value):Prop:=
 ∀k,match s k with
  | (none,v)=>aj w A ρ v (tmps.getD k undef)
  | (some g,v)=>(tmps.getD g.d undef= .bool g.want/\g.c=true/\aj w A ρ v (tmps.getD k undef))\/(tmps.getD g.d undef≠ .bool g.want/\g.c=false/\tmps.getD k undef=undef)
section
variable {c:Ctx} {w w':World} {ρ ρ':Id->Option Value} {A A':Nat->Prop} {s:Nat->Option Gs×AV} {tmps:Array Value}
theorem SS.mono(e:∀b,A b->A' b/\w'.heap[b]? =w.heap[b]?)(a:∀i v,ρ i=some v->ρ' i=some v)(hs:SS w A ρ s tmps):SS w' A' ρ' s tmps:=by
 intro k;have:=hs k;revert this;split
 .intro this;exact aj.mono e a _ _ this
 .intro this;rcases this with⟨d,f,g⟩ | d
  .exact .inl ⟨d,f,aj.mono e a _ _ g⟩
  .exact .inr d
def iV(tmps:Array Value):Option Gs->Prop
 | none=>True
 | some g=>tmps.getD g.d undef= .bool g.want/\g.c=true
theorem iV.cond{g:Option Gs}(h:iV tmps g):g.map (·.c)=none\/g.map (·.c)=some true:=by
 cases g with
 | none=>exact .inl rfl
 | some g=>exact .inr (by simp [h.2])
theorem J0(v:Value):aj w A ρ (u5 v) v:=by
 have one:∀(u:Value) (x:T),mw u=some x->ay w A x u:=by
  intro u x e;cases u <;> simp only [mw,Mt,reduceCtorEq] at e
  case slice a l i=>split at e <;> simp_all;subst e;simp [ay]
  case pointer a=>split at e <;> simp_all;subst e;simp [ay]
  case map a=>split at e <;> simp_all;subst e;simp [ay]
  all_goals (subst e;simp [ay])
 have all:∀(us:List Value) (l:List T),jG us=some l->aQ w A l us:=by
  intro us;induction us with
  | nil=>intro l e;simp only [jG,Mt] at e;subst e;rfl
  | cons u us f=>
   intro l e;simp only [jG] at e;cases b:mw u with
   | none=>simp [b] at e
   | some x=>
    cases d:jG us with
    | none=>simp [b,d] at e
    | some g=>simp only [b,d,Mw,Mt] at e;subst e;exact⟨u,us,rfl,one u x b,f g d⟩
 unfold u5;split
 .rename_i cs;split
  .rename_i l e;simp only [aj];have:=all cs.toList l e;refine⟨cs.toList,by simp,az.jH this, ?_⟩;have key:∀(l:List T) (us:List Value),aQ w A l us->∀u∈us,u.oneCell'=true/\u.cells= #[u]:=by
    intro l;induction l with
    | nil=>intro us hu;simp only [aQ] at hu;subst hu;simp
    | cons x l f=>
     intro us ⟨v,r,e,b,d⟩ u hu;subst e;rcases MN.1 hu with rfl | hu
     .exact b.nH
     .exact f r d u hu
   exact key l _ this
  .simp [aj]
 .split
  .rename_i x e;simp only [aj];exact one _ x e
  .simp [aj]
theorem SS.get{a:Act}{h:Id->Option ad}(hs:SS w A ρ s a.tmps){g:Option Gs}(m:iV a.tmps g)(x:Operand):aj w A ρ (St.get ⟨s,h⟩ g x) (a.eval x):=by
 cases x with
 | tmp k=>
  simp only [St.get,Act.eval];have:=hs k;split at this
  .rename_i v e;simp only [e,jk,cond_true];exact this
  .rename_i d v e;simp only [e];cases g with
   | none=>simp [jk,aj]
   | some i=>
    by_cases b:jk (some d) (some i)=true
    .simp only [b,cond_true];simp only [jk,MB,beq_iff_eq] at b;rcases this with⟨_,_,l⟩ | ⟨j,_⟩
     .exact l
     .exfalso;apply j;rw [b.1,b.2];exact m.1
    .simp only [Oz] at b;simp [b,aj]
 | const v=>exact J0 v
 | func f=>simp only [St.get,Act.eval,aj];exact⟨[],[],rfl,by simp [az],by simp [az]⟩
 | global g=>simp [St.get,aj]
theorem SS.kr{a:Act}{h:Id->Option ad}(hs:SS w A ρ s a.tmps){g:Option Gs}(l:iV a.tmps g)(cs x:Operand)(want:Bool)(i:a.eval cs= .bool want):
  aj w A ρ (St.kr ⟨s,h⟩ g cs want x) (a.eval x):=by
 unfold St.kr;split
 .rename_i d k;simp only [Act.eval] at i⊢;have:=hs k;split
  .rename_i f v e;simp only [e] at this;by_cases b:(f.d==d && f.want==want)=true
   .simp only [b,NX,cond_true];simp only [MB,beq_iff_eq] at b;rcases this with⟨_,_,n⟩ | ⟨m,_⟩
    .exact n
    .exfalso;apply m;rw [b.1,b.2];exact i
   .simp only [Oz] at b;simp only [b,M8];have j:=SS.get (h:=h) hs l (.tmp k);simp only [St.get,e,Act.eval] at j;exact j
  .rename_i v e;simp only [e] at this;exact this
 .exact SS.get hs l _
end
end Go.Aev
