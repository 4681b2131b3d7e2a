import Derived.WalkKit
import Derived.Test.YtcjplcpngagalaaDoorChecked
import Derived.Lib.ItoaNum
import Derived.Lib.LaidTab
set_option linter.all false
namespace Go.Aev
open Go
abbrev Lo:=@Option.some.injEq
abbrev Lp:=@Option.bind_eq_some_iff
abbrev Lq:=@List.mem_cons_self
abbrev Lr:=@List.mem_cons_of_mem
abbrev Ls:=@List.getElem?_eq_some_iff
abbrev Lt:=@Option.bind_some
abbrev Lu:=@Bool.and_eq_true
abbrev Lv:=@Bool.not_true
abbrev Lw:=@List.getD_eq_getElem?_getD
abbrev Lx:=@Bool.not_false
abbrev Ly:=@List.getElem?_eq_getElem
abbrev Lz:=@List.mem_singleton
abbrev LA:=@Result.andThen_ok
abbrev LB:=@List.mem_of_getElem?
abbrev LC:=@List.mem_cons
abbrev LD:=@List.length_cons
abbrev LF:=@List.mem_append_right
abbrev LG:=@List.length_singleton
abbrev LH:=@List.mem_append_left
abbrev LI:=@List.mem_append
abbrev LJ:=@Option.bind_assoc
abbrev LK:=@List.all_eq_true
abbrev LL:=@List.getElem?_append_left
abbrev LM:=@Nat.le_refl
abbrev LP:=@Sem.run_bind
abbrev LQ:=@ByteArray.size_append
abbrev LR:=@List.length_eq_zero_iff
abbrev LS:=@List.length_nil
abbrev LU:=@Array.length_toList
abbrev LV:=@List.append_assoc
abbrev LW:=@List.append_nil
abbrev LX:=@Array.mem_of_getElem?
abbrev LY:=@Bool.false_eq_true
abbrev LZ:=@List.singleton_append
abbrev L4:=@List.mem_map
abbrev L5:=@Nat.zero_add
abbrev L6:=@List.map_cons
abbrev L7:=@List.getElem?_append_right
abbrev L8:=@Sem.run_pure
abbrev L9:=@Int.natCast_zero
abbrev Ma:=@Prod.mk.injEq
abbrev Mb:=@Int.toNat_natCast
abbrev Mc:=@Go.RowKit.Below.heap_alloc
abbrev Md:=@Int.lt_irrefl
abbrev Mf:=@Array.all_eq_true_iff_forall_mem
abbrev Mg:=@Bool.or_eq_true
abbrev Mh:=@List.any_eq_false
abbrev Mi:=@List.cons_append
abbrev Mj:=@Nat.le_trans
abbrev Ml:=@Array.getElem?_toList
abbrev Mm:=@Nat.mul_le_mul_right
abbrev Mn:=@Nat.succ_mul
abbrev Mo:=@Addr.mk.injEq
abbrev Mp:=@List.length_take
abbrev Mq:=@List.length_map
abbrev Mr:=@Bool.not_eq_true'
abbrev Ms:=@List.getElem?_cons_zero
abbrev Mt:=@Bool.false_or
abbrev Mu:=@Value.slice.injEq
abbrev Mv:=@Nat.lt_of_lt_of_le
abbrev Mw:=@List.length_append
abbrev Mx:=@List.map_congr_left
abbrev My:=@List.cons.injEq
abbrev Mz:=@List.getElem?_map
abbrev MA:=@List.getElem?_of_mem
abbrev MB:=@List.nodup_cons
abbrev MC:=@Bool.true_and
abbrev MD:=@List.map_nil
abbrev ME:=@List.head?_cons
abbrev MG:=@List.length_drop
abbrev MH:=@List.not_mem_nil
abbrev MI:=@List.replicate_succ
abbrev MJ:=@List.getElem?_set
abbrev MK:=@List.size_toArray
abbrev MM:=@List.ext_getElem?
abbrev MN:=@List.all_cons
abbrev MP:=@List.nil_append
abbrev MQ:=@Array.getD_eq_getD_getElem?
abbrev MR:=@List.getElem?_cons_succ
abbrev MS:=@Nat.lt_irrefl
abbrev MT:=@List.nodup_append
abbrev MU:=@Value.pointer.injEq
abbrev MV:=@List.getElem?_eq_none
abbrev MW:=@List.length_replicate
abbrev MX:=@Option.isSome_iff_exists
abbrev MY:=@Nat.sub_self
abbrev MZ:=@Bool.or_eq_false_iff
abbrev M1:=@List.flatten_cons
abbrev M2:=@Option.map_some
abbrev M3:=@MapKept.run_getObj_map
abbrev M4:=@List.getElem?_set_self
abbrev M5:=@Array.ext'
abbrev M6:=@Option.getD_some
abbrev M7:=@List.prefix_refl
abbrev M8:=@Array.getElem?_eq_getElem
abbrev Na:=@List.mem_or_eq_of_mem_set
abbrev Nb:=@List.getElem?_mapIdx
abbrev Nc:=@Bool.and_true
abbrev Nf:=@List.take_append_of_le_length
abbrev Ng:=@List.isEmpty_iff
abbrev Nh:=@List.any_eq_true
abbrev Ni:=@Bool.and_false
abbrev Nj:=@Option.map_eq_some_iff
abbrev Nk:=@Nat.add_mul
abbrev Nl:=@List.drop_eq_nil_of_le
abbrev Nn:=@List.length_eq_one_iff
abbrev Np:=@Classical.choose_spec
abbrev Nq:=@List.getElem?_toArray
abbrev Nr:=@List.length_set
abbrev Ns:=@Nat.add_assoc
abbrev Nt:=@List.drop_eq_getElem_cons
abbrev Nu:=@Option.isNone_iff_eq_none
abbrev Nv:=@Nat.zero_le
abbrev Nw:=@Bool.false_and
abbrev Nx:=@Nat.add_zero
abbrev Ny:=@List.getElem?_take
abbrev Nz:=@List.getElem?_drop
abbrev NA:=@List.set_cons_succ
abbrev NB:=@List.map_append
abbrev NC:=@Array.any_eq_true'
abbrev ND:=@MapKept.run_setObj_map
abbrev NF:=@List.take_add_one
abbrev NG:=@List.mem_iff_getElem?
abbrev NH:=@Iff.rfl
abbrev NI:=@List.tail_cons
abbrev NJ:=@Array.toList_extract
abbrev NK:=@List.range'_succ
abbrev NL:=@List.mem_of_mem_take
abbrev NM:=@List.mem_of_mem_drop
abbrev NN:=@Nat.lt_succ_self
abbrev NO:=@Nat.le_add_right
abbrev NP:=@List.getElem_mem
abbrev NQ:=@List.getElem?_set_ne
abbrev NR:=@Option.ne_none_iff_exists'
abbrev NS:=@Array.getElem?_eq_some_iff
abbrev NT:=@List.take_succ_cons
abbrev NU:=@List.extract_eq_take_drop
abbrev NV:=@List.set_cons_zero
abbrev NX:=@List.prefix_append
abbrev NY:=@List.mem_filterMap
abbrev NZ:=@List.getElem?_take_of_lt
abbrev N1:=@UInt8.toNat_ofNat'
abbrev N2:=@List.nodup_nil
abbrev N3:=@Array.size_append
abbrev N4:=@List.take_of_length_le
abbrev N5:=@Bool.not_eq_true
abbrev N6:=@Array.toList_map
abbrev N7:=@List.take_length
abbrev N8:=@Eq.trans
abbrev N9:=@Ne.symm
abbrev Oa:=@Array.getElem?_setIfInBounds_ne
abbrev Ob:=@List.range_eq_range'
abbrev Oc:=@Int.mul_le_mul_of_nonneg_right
abbrev Od:=@List.map_map
abbrev Oe:=@Nat.lt_or_ge
abbrev Og:=@Option.map_none
abbrev Oh:=@Classical.em
abbrev Oi:=@List.pairwise_append
abbrev Oj:=@Int.mul_le_mul_of_nonneg_left
abbrev Ol:=@List.drop_drop
abbrev Om:=@List.mem_range
abbrev On:=@Bool.not_eq_false'
abbrev Oo:=@Option.isNone_none
abbrev Oq:=@List.isEmpty_cons
abbrev Ot:=@Option.getD_none
abbrev Ou:=@List.map_set
abbrev Ov:=@List.idxOf_lt_length_iff
abbrev Ow:=@List.eq_of_mem_replicate
abbrev Ox:=@Nat.not_le_of_lt
abbrev Oy:=@List.isEmpty_nil
abbrev Oz:=@List.flatMap_nil
abbrev OA:=@List.foldl_cons
abbrev OB:=@List.take_zero
abbrev OC:=@List.mapM_cons
abbrev OE:=@Nat.mul_le_mul
abbrev OF:=@List.drop_left
abbrev OG:=@Nat.not_lt
inductive T where
 | int (k:IntKind) (n:Int)
 | bool (b:Bool)
 | str (s:ByteArray)
 | ad (sz:Nat) (isNil:Bool) (xs:List (List T))
 | af (isNil:Bool)
 | ptr (cs:List T)
 | ak
 | s4
 | sZ
 | wA
 | cm (f:FuncId)
 | any
 deriving Inhabited
inductive Id where
 | c (n:Nat)
 | s (d:Nat) (j:Nat)
 | g (i:Id) (n:Nat)
 deriving DecidableEq,Inhabited
def Id.real:Id->Bool
 | .g _ _=>false
 | _=>true
inductive AV where
 | top
 | t (x:T)
 | jL (vs:List AV)
 | agg (vs:List AV)
 | ref (i:Id) (off:Nat)
 | el (i:Id) (sz k off:Nat)
 | own (i:Id)
 | part (i:Id) (sz off len:Nat)
 | row (i:Id) (n:Nat)
 | rel (i:Id) (sz n k off:Nat)
 | fn (f:FuncId) (fst caps:List AV)
 deriving Inhabited
inductive Ck where
 | i (k:IntKind)
 | b
 | s
 | l (sz:Nat)
 | x
 deriving Inhabited,DecidableEq
structure Row where
 n:Nat
 cs:List T
 own:Option (Bool×List (List T))
 deriving Inhabited
inductive ab where
 | box (cs:List AV)
 | sl (fz:Bool) (sz:Nat) (isNil:Bool) (xs:List (List T))
 | ei (cs:List T)
 | arr (cs:List AV)
 | mp (ag:Bool) (ks:List Ck) (vk:Ck) (es:List (List T×T))
 | rows (b:Bool) (sz col rsz nx:Nat) (es:List Row)
 | dead
 deriving Inhabited
def T.int?(k:IntKind):T->Option Int
 | .int a n=>if a=k then some n else none
 | _=>none
def T.bool?:T->Option Bool
 | .bool b=>some b
 | _=>none
def T.ba:T->Option ByteArray
 | .str s=>some s
 | _=>none
def T.nG:T->Option (List T)
 | .ptr cs=>some cs
 | _=>none
def T.au(sz:Nat):T->Option (Bool×List (List T))
 | .ad a b xs=>if a=sz then some (b,xs) else none
 | .af b=>some (b,[])
 | _=>none
def cZ:T->Value
 | .int k n=> .int k n
 | .bool b=> .bool b
 | .str s=> .string s
 | _=> .nilIface
def cL(ag:Bool)(cs:List T):Value:=cond ag (.agg (cs.map cZ).toArray) ((cs.map cZ).headD .nilIface)
def dr:Ck->T->Bool
 | .i k, .int a _=>decide (a=k)
 | .b, .bool _=>true
 | .s, .str _=>true
 | _,_=>false
def bU:List Ck->List T->Bool
 | [],[]=>true
 | k::ks,x::xs=>dr k x && bU ks xs
 | _,_=>false
def kI:T->T->Bool
 | .int _ a, .int _ b=>a==b
 | .bool a, .bool b=>a==b
 | .str a, .str b=>a==b
 | _,_=>false
def dC:List T->List T->Bool
 | [],[]=>true
 | x::xs,y::a=>kI x y && dC xs a
 | _,_=>false
def fh(key:List T):List (List T×T)->Option T
 | []=>none
 | (k,v)::r=>cond (dC key k) (some v) (fh key r)
def fW(key:List T)(v:T):List (List T×T)->List (List T×T)
 | []=> [(key,v)]
 | (k,u)::r=>cond (dC key k) ((key,v)::r) ((k,u)::fW key v r)
def T.nf:T->Option Unit
 | .int _ _=>some ()
 | .bool _=>some ()
 | .str _=>some ()
 | _=>none
def gd{α:Type}[Inhabited α](c:Option Bool)(m:Option α):Option α:=
 match m with
 | some a=>some a
 | none=>match c with
  | none=>none
  | some b=>cond b none (some default)
def aa{α R:Type}[Inhabited α](c:Option Bool)(m:Option α)(k:α->Option R):Option R:=
 match m with
 | some a=>k a
 | none=>match c with
  | none=>none
  | some b=>cond b none (k default)
def mu{R:Type}(c:Option Bool):Nat->List T->(List T->Option R)->Option R
 | 0,_,K=>K []
 | n+1,cs,K=>aa c cs.head? λx=>mu c n cs.tail λl=>K (x::l)
def mb:Value->Option T
 | .int k i=>some (.int k i)
 | .bool b=>some (.bool b)
 | .string s=>some (.str s)
 | .slice none 0 0=>some (.af true)
 | .pointer none=>some .ak
 | .map none=>some .s4
 | .nilFunc=>some .sZ
 | .nilIface=>some .wA
 | _=>none
def jz:List Value->Option (List T)
 | []=>some []
 | v::r=>(mb v).bind λx=>(jz r).bind λl=>some (x::l)
def bt(P:Program)(t:TypeId):Bool:=
 match P.underlying t with
 | some (.struct _) | some (.array _ _)=>true
 | _=>false
def oP(P:Program)(t:TypeId):Option IntKind:=
 match P.underlying t with
 | some (.int k)=>some k
 | _=>none
def bP(P:Program)(t:TypeId):Bool:=(P.underlying t).isSome
def p9(P:Program)(t:TypeId)(f:Nat):Option (Nat×TypeId):=
 match P.underlying t with
 | some (.struct a)=>match a[f]? with
  | some x=>cond (bP P x.type) (some (x.offset,x.type)) none
  | none=>none
 | _=>none
def kF(P:Program)(t:TypeId):Option TypeId:=
 match P.underlying t with
 | some (.slice e)=>cond (bP P e) (some e) none
 | _=>none
def rQ(P:Program)(t:TypeId):Option (Nat×TypeId):=
 match P.underlying t with
 | some (.array n e)=>cond (bP P e) (some (n,e)) none
 | _=>none
def nE(P:Program)(t:TypeId):Bool:=
 match P.underlying t with
 | some (.struct a)=>a.toList.all λf=>bP P f.type
 | some (.array _ e)=>bP P e
 | _=>false
def vM(P:Program)(t:TypeId):Bool:=
 match P.underlying t with
 | some .string=>true
 | _=>false
def fZ(P:Program)(t:TypeId):Option (List T):=
 match P.info? t with
 | some i=>match i.zero with
  | some v=>jz v.cells.toList
  | none=>none
 | none=>none
structure Gs where
 d:Nat
 want:Bool
 c:Bool
structure St where
 t:Nat->Option Gs×AV
 h:Id->Option ab
abbrev aC:=List (Id×ab)
def aI(h:Id->Option ab):aC->Id->Option ab
 | []=>h
 | (i,b)::us=>aI (λj=>if j=i then some b else h j) us
def jS(d:Nat):Option Gs×AV->Option Gs×AV
 | (some g,v)=>cond (g.d==d) (none, .top) (some g,v)
 | (none,v)=>(none,v)
def St.put(s:St)(a:Bool)(d:Option Nat)(g:Option Gs)(v:AV)(us:aC):St:=
 {t :=match d with
    | some d=>λk=>if k=d then(g,v) else cond a (jS d (s.t k)) (s.t k)
    | none=>s.t
  h:=aI s.h us}
def uE(v:Value):AV:=
 match v with
 | .agg cs=>match jz cs.toList with
  | some l=> .agg (l.map .t)
  | none=> .top
 | v=>match mb v with
  | some x=> .t x
  | none=> .top
def je:Option Gs->Option Gs->Bool
 | none,_=>true
 | some a,some b=>a.d==b.d && a.want==b.want
 | some _,none=>false
def St.o7(s:St)(g:Gs):St:={s with t:=λk=>cond (je (s.t k).1 (some g)) (none,(s.t k).2) (s.t k)}
def St.get(s:St)(g:Option Gs):Operand->AV
 | .tmp k=>match s.t k with
  | (a,v)=>cond (je a g) v .top
 | .const v=>uE v
 | .func f=> .fn f [] []
 | .global _=> .top
def St.jX(s:St)(g:Option Gs)(cs:Operand)(want:Bool)(o:Operand):AV:=
 match cs,o with
 | .tmp d, .tmp k=>match s.t k with
  | (some a,v)=>cond ((a.d==d && a.want==want) || je (some a) g) v .top
  | (none,v)=>v
 | _,o=>s.get g o
def AV.t?:AV->Option T
 | .t x=>some x
 | _=>none
def dA:List AV->Option (List T)
 | []=>some []
 | .t x::r=>(dA r).bind λl=>some (x::l)
 | _::_=>none
def cY(h:Id->Option ab):AV->Option T
 | .t x=>some x
 | .own i=>match h i with
  | some (.sl _ sz b xs)=>some (.ad sz b xs)
  | _=>none
 | .part i sz off len=>match h i with
  | some (.sl _ a b xs)=>if a=sz then some (.ad sz b ((xs.drop off).take len)) else none
  | _=>none
 | .ref i off=>match h i with
  | some (.box cs)=>(dA cs).bind λl=>some (.ptr (l.drop off))
  | some (.ei l)=>some (.ptr (l.drop off))
  | _=>none
 | _=>none
def jg(h:Id->Option ab):List AV->Option (List T)
 | []=>some []
 | v::r=>(cY h v).bind λx=>(jg h r).bind λl=>some (x::l)
def xo(h:Id->Option ab):AV->Option T
 | .own i=>match h i with
  | some (.sl _ sz b xs)=>some (.ad sz b xs)
  | some (.rows ..)=>some .any
  | some (.mp ..)=>some .any
  | _=>none
 | v=>cY h v
def qZ(h:Id->Option ab):List AV->Option (List T)
 | []=>some []
 | v::r=>(xo h v).bind λx=>(qZ h r).bind λl=>some (x::l)
def jf(h:Id->Option ab):AV->Option (List T)
 | .agg vs=>jg h vs
 | v=>(cY h v).bind λx=>some [x]
def fu(h:Id->Option ab):AV->aC
 | .own i=>match h i with
  | some (.sl false sz b xs)=> [(i, .sl true sz b xs)]
  | _=> []
 | .part i _ _ _=>match h i with
  | some (.sl false sz b xs)=> [(i, .sl true sz b xs)]
  | _=> []
 | .ref i _=>match h i with
  | some (.box cs)=>match dA cs with
   | some l=> [(i, .ei l)]
   | none=> []
  | _=> []
 | _=> []
def jW(h:Id->Option ab):List AV->aC
 | []=> []
 | v::r=>fu h v++jW h r
def fi(h:Id->Option ab):AV->aC
 | .agg vs=>jW h vs
 | v=>fu h v
def n7{R:Type}(op:BinOp)(k:IntKind)(c:Option Bool)(x y:T)(K:T->Option R):Option R:=
 aa c (x.int? k) λa=>aa c (y.int? k) λb=>
  match op with
  | .add=>K (.int k (k.wrap (a+b)))
  | .sub=>K (.int k (k.wrap (a - b)))
  | .mul=>K (.int k (k.wrap (a * b)))
  | .quo=>aa c (if b=0 then none else some ()) λ_=>K (.int k (k.wrap (a.tdiv b)))
  | .rem=>aa c (if b=0 then none else some ()) λ_=>K (.int k (a.tmod b))
  | .and=>K (.int k (k.wrap (BitVec.ofInt k.bits a &&& BitVec.ofInt k.bits b).toNat))
  | .or=>K (.int k (k.wrap (BitVec.ofInt k.bits a ||| BitVec.ofInt k.bits b).toNat))
  | .xor=>K (.int k (k.wrap (BitVec.ofInt k.bits a ^^^ BitVec.ofInt k.bits b).toNat))
  | .andNot=>K (.int k (k.wrap (BitVec.ofInt k.bits a &&& ~~~(BitVec.ofInt k.bits b)).toNat))
  | .lss=>K (.bool (decide (a < b)))
  | .leq=>K (.bool (decide (a<=b)))
  | .gtr=>K (.bool (decide (a > b)))
  | .geq=>K (.bool (decide (a>=b)))
  | _=>none
def po{R:Type}(op:BinOp)(k ky:IntKind)(c:Option Bool)(x y:T)(K:T->Option R):Option R:=
 aa c (x.int? k) λa=>aa c (y.int? ky) λb=>
  aa c (if b < 0 then none else some ()) λ_=>
  match op with
  | .shl=>K (.int k (k.wrap (a * 2 ^ (min b.toNat k.bits))))
  | .shr=>K (.int k (a.fdiv (2 ^ (min b.toNat k.bits))))
  | _=>none
def px{R:Type}(op:BinOp)(c:Option Bool)(x y:T)(K:T->Option R):Option R:=
 aa c x.ba λa=>aa c y.ba λb=>
  match op with
  | .add=>aa c (if a.size+b.size<=4294967296 then some () else none) λ_=>K (.str (a++b))
  | .lss=>K (.bool (Op.bytesLess a.toList b.toList))
  | .leq=>K (.bool (Op.bytesLess a.toList b.toList || a.toList==b.toList))
  | .gtr=>K (.bool (!(Op.bytesLess a.toList b.toList || a.toList==b.toList)))
  | .geq=>K (.bool (!(Op.bytesLess a.toList b.toList)))
  | _=>none
def oL(P:Program)(go:TypeId->Option (List TypeId)):List Field->Nat->Option (List TypeId)
 | [],_=>some []
 | f ::r,off=>if f.offset=off/\f.name≠ "_" then
     (go f.type).bind λl=>if P.cellsOf f.type=l.length/\0 < l.length then(oL P go r (off+l.length)).bind λq=>some (l++q) else none
  else none
def eD(P:Program):Nat->TypeId->Option (List TypeId)
 | 0,_=>none
 | n+1,t=>match P.underlying t with
  | some (.int _) | some .bool | some .string=>some [t]
  | some (.struct a)=>if P.stoodInHeld t then none else oL P (eD P n) a.toList 0
  | some (.array m e)=>(eD P n e).bind λl=>if P.cellsOf e=l.length then some (List.replicate m l).flatten else none
  | _=>none
def hI(P:Program)(s:St)(t:TypeId)(x:AV):Option Bool:=
 match P.underlying t with
 | some (.slice _)=>match x with
  | .t (.ad _ b _)=>some b
  | .t (.af b)=>some b
  | .own i=>match s.h i with
   | some (.sl _ _ b _)=>some b
   | _=>none
  | _=>none
 | some (.pointer _)=>match x with
  | .t (.ptr _)=>some false
  | .t .ak=>some true
  | .ref _ _=>some false
  | .el _ _ _ _=>some false
  | _=>none
 | some (.func ..)=>match x with
  | .t .sZ=>some true
  | .fn _ _ _=>some false
  | _=>none
 | some (.map ..)=>match x with
  | .t .s4=>some true
  | _=>none
 | _=>none
def ma(P:Program)(t:TypeId)(o:Operand):Bool:=
 match P.underlying t,o with
 | some (.slice _), .const (.slice none 0 0)=>true
 | some (.pointer _), .const (.pointer none)=>true
 | some (.func ..), .const .nilFunc=>true
 | some (.map ..), .const (.map none)=>true
 | _,_=>false
def jt{R:Type}(P:Program)(c:Option Bool)(t:TypeId)(x y:T)(K:Bool->Option R):Option R:=
 match P.underlying t with
 | some (.int k)=>aa c (x.int? k) λa=>aa c (y.int? k) λb=>K (a==b)
 | some .bool=>aa c x.bool? λa=>aa c y.bool? λb=>K (a==b)
 | some .string=>aa c x.ba λa=>aa c y.ba λb=>K (a==b)
 | _=>none
def dF{R:Type}(P:Program)(c:Option Bool):List TypeId->List T->List T->(Bool->Option R)->Option R
 | [],[],[],K=>K true
 | t::ts,x::xs,y::a,K=>jt P c t x y λb=>dF P c ts xs a λr=>K (b && r)
 | _,_,_,_=>none
def n9{R:Type}(P:Program)(op:BinOp)(t ty:TypeId)(c:Option Bool)(x y:T)(K:T->Option R):Option R:=
 match op with
 | .shl | .shr=>match oP P t,oP P ty with
  | some k,some ky=>po op k ky c x y K
  | _,_=>none
 | .eql | .neq=>none
 | op=>match P.underlying t with
  | some (.int k)=>n7 op k c x y K
  | some .string=>px op c x y K
  | _=>none
def na{R:Type}(P:Program)(c:Option Bool)(t:TypeId)(x y:AV)(K:Bool->Option R):Option R:=
 match x,y with
 | .t x, .t y=>cond (vM P t) (aa c x.ba λa=>aa c y.ba λb=>K (a.toList==b.toList)) (jt P c t x y K)
 | .agg xs, .agg d=>cond (P.eqGuardType P.depth t || !bt P t) none <| (dA xs).bind λxs=>(dA d).bind λd=>(eD P 8 t).bind λts=>dF P c ts xs d K
 | _,_=>none
def pD{R:Type}(P:Program)(op:UnOp)(t:TypeId)(c:Option Bool)(x:T)(K:T->Option R):Option R:=
 match op,P.underlying t with
 | .neg,some (.int k)=>aa c (x.int? k) λa=>K (.int k (k.wrap (0 - a)))
 | .xor,some (.int k)=>aa c (x.int? k) λa=>
   K (.int k (k.wrap (BitVec.ofInt k.bits (if k.signed then -1 else k.max) ^^^ BitVec.ofInt k.bits a).toNat))
 | .not,some .bool=>aa c x.bool? λa=>K (.bool (!a))
 | _,_=>none
open Go
def dY{R:Type}(k:Ck)(c:Option Bool)(x:T)(K:T->Option R):Option R:=
 match k with
 | .i k=>aa c (x.int? k) λn=>K (.int k n)
 | .b=>aa c x.bool? λb=>K (.bool b)
 | .s=>aa c x.ba λs=>K (.str s)
 | .l sz=>aa c (x.au sz) λp=>K (.ad sz p.1 p.2)
 | .x=>K x
def dU{R:Type}(c:Option Bool):List Ck->List T->(List T->Option R)->Option R
 | [],xs,K=>K xs
 | _::_,[],K=>K []
 | k::ks,x::xs,K=>dY k c x λy=>dU c ks xs λa=>K (y::a)
def jn(P:Program)(t:TypeId):Ck:=
 match P.underlying t with
 | some (.int k)=> .i k
 | some .bool=> .b
 | some .string=> .s
 | some (.slice e)=> .l (P.cellsOf e)
 | _=> .x
def rT(P:Program):Nat->TypeId->List Ck
 | 0,_=> []
 | n+1,t=>match P.underlying t with
  | some (.struct a)=>a.toList.flatMap λf=>rT P n f.type
  | some (.array m e)=>(List.replicate m (rT P n e)).flatten
  | _=> [jn P t]
def pM(P:Program)(t:TypeId):List Ck:=
 if(rT P 8 t).length=P.cellsOf t then rT P 8 t else List.replicate (P.cellsOf t) .x
inductive bS where
 | f (k:Ck)
 | t (k:Ck)
 | own (sz:Nat)
 | ref (k off:Nat)
 | same (k:Nat)
 | rows (sz col rsz:Nat)
 | mp (ag:Bool) (ks:List Ck) (vk:Ck)
 | new (l:List bS)
 | no
 | agg (l:List bS)
 deriving Inhabited
inductive im where
 | box (l:List bS)
 | sl (sz:Nat)
 | mp (ag:Bool) (ks:List Ck) (vk:Ck)
 | dead
 deriving Inhabited
structure xK where
 res:List bS
 outs:List im
 deriving Inhabited
structure cq where
 live:FuncId->Nat->Option (List (Nat×Option Nat))
 join:FuncId->Nat->Option (List (Nat×Option Nat))
 sig:FuncId->Option xK
 fN:FuncId->Option (List Bool):=λ_=>none
 deep:FuncId->Bool:=λ_=>false
 uy:FuncId->Nat->xK:=λ_ _=>⟨[],[]⟩
 app:Option Nat->Bool:=λ_=>false
 wr:FuncId->Bool:=λ_=>false
 st:Option Nat->Bool:=λ_=>false
 Dn:Option Nat->TypeId->Bool:=λ_ _=>true
 sx:Option Nat->Bool:=λ_=>false
 ld:Option Nat->Bool:=λ_=>false
 uD:Option Nat->Bool:=λ_=>false
 oe:Option Nat->TypeId->Bool:=λ_ _=>false
 sT:Option Nat->TypeId->Bool:=λ_ _=>false
 sS:Option Nat->TypeId->Bool:=λ_ _=>false
 jy:Option Nat->TypeId->Nat:=λ_ _=>0
 ext:FuncId->List AV->List ab->Option (List T):=λ_ _ _=>none
inductive Key where
 | call (f:FuncId)
 | node (f:FuncId) (todo:List Item) (live:List (Nat×Option Nat)) (m:Nat×Nat)
abbrev ay:=Key->List AV->List ab->Option (List T)
def kc:Nat:=4294967296
mutual
def AV.ids:AV->List Id
 | .top=> []
 | .t _=> []
 | .jL vs=>bQ vs
 | .agg vs=>bQ vs
 | .ref i _=> [i]
 | .el i _ _ _=> [i]
 | .own i=> [i]
 | .part i _ _ _=> [i]
 | .row i _=> [i]
 | .rel i _ _ _ _=> [i]
 | .fn _ a b=>bQ a++bQ b
def bQ:List AV->List Id
 | []=> []
 | v::r=>v.ids++bQ r
end
mutual
def AV.rn(m:List Id):AV->AV
 | .top=> .top
 | .t x=> .t x
 | .jL vs=> .jL (iH m vs)
 | .agg vs=> .agg (iH m vs)
 | .ref i o=> .ref (.c (m.idxOf i)) o
 | .el i sz k o=> .el (.c (m.idxOf i)) sz k o
 | .own i=> .own (.c (m.idxOf i))
 | .part i sz o n=> .part (.c (m.idxOf i)) sz o n
 | .row i n=> .row (.c (m.idxOf i)) n
 | .rel i sz n k o=> .rel (.c (m.idxOf i)) sz n k o
 | .fn f a b=> .fn f (iH m a) (iH m b)
def iH(m:List Id):List AV->List AV
 | []=> []
 | v::r=>v.rn m::iH m r
end
def fC(m:List Id):Option ab->ab
 | some (.box cs)=> .box (iH m cs)
 | some (.arr cs)=> .arr (iH m cs)
 | some b=>b
 | none=> .dead
def dX(h:Id->Option ab):Nat->List Id->List Id->Option (List Id)
 | 0,_,_=>none
 | _+1,[],seen=>some seen
 | n+1,i::todo,seen=>
  cond (seen.contains i) (dX h n todo seen)
   (match h i with
    | some (.box cs)=>dX h n (todo++bQ cs) (seen++ [i])
    | some (.arr cs)=>dX h n (todo++bQ cs) (seen++ [i])
    | some _=>dX h n todo (seen++ [i])
    | none=>none)
def kv:Nat->List AV->Option (List AV)
 | 0,_=>some []
 | _+1,[]=>none
 | n+1,c::r=>(kv n r).bind λl=>some (c::l)
def bZ{α:Type}(off:Nat)(new a:List α):List α:=a.take off++new++a.drop (off+new.length)
def cj(n:Nat):List Row->Option (Bool×List (List T))
 | []=>none
 | e::r=>if e.n=n then e.own else cj n r
def cH(n:Nat)(p:Option (Bool×List (List T))):List Row->List Row
 | []=> []
 | e::r=>if e.n=n then{e with own:=p}::r else e::cH n p r
def jG{R:Type}(h:Id->Option ab)(c:Option Bool)(i:Id)(n:Nat)(K:Nat->Bool->List (List T)->Option R):Option R:=
 match h i with
 | some (.rows _ _ _ rsz _ es)=>aa c (cj n es) λp=>K rsz p.1 p.2
 | _=>none
def iX{R:Type}(P:Program)(t:TypeId)(c:Option Bool)(cs:List T)(K:AV->Option R):Option R:=
 cond (bt P t) (mu c (P.cellsOf t) cs λl=>dU c (pM P t) l λl=>K (.agg (l.map .t))) (aa c cs.head? λx=>dY (jn P t) c x λx=>K (.t x))
def ke{R:Type}(P:Program)(t:TypeId)(cs:List AV)(K:AV->Option R):Option R:=
 cond (bt P t) ((kv (P.cellsOf t) cs).bind λl=>K (.agg l)) (cs.head?.bind K)
def oS{R:Type}(P:Program)(t:TypeId)(c:Option Bool)(i:Id)(sz col off:Nat)(e:Row)(K:AV->Option R):Option R:=
 cond (bt P t)
  (if off=0/\P.cellsOf t=sz then mu c sz e.cs λl=>dU c ((pM P t).set col .x) l λl=>K (.agg ((l.map .t).set col (.row i e.n))) else none)
  (if off=col then K (.row i e.n) else aa c (e.cs.drop off).head? λx=>dY (jn P t) c x λx=>K (.t x))
def fj{R:Type}(P:Program)(s:St)(c:Option Bool)(t:TypeId)(a:AV)(K:AV->Option R):Option R:=
 cond (bP P t) (match a with
 | .ref i off=>match s.h i with
  | some (.box cs)=>ke P t (cs.drop off) K
  | some (.ei l)=>iX P t c (l.drop off) K
  | _=>none
 | .el i sz k off=>match s.h i with
  | some (.sl _ b _ xs)=>if b=sz then aa c xs[k]? λcs=>iX P t c (cs.drop off) K else none
  | some (.rows _ b col _ _ es)=>if b=sz then aa c es[k]? λe=>oS P t c i sz col off e K else none
  | _=>none
 | .rel i sz n k off=>jG s.h c i n λrsz _ xs=>if rsz=sz then aa c xs[k]? λcs=>iX P t c (cs.drop off) K else none
 | .t x=>aa c x.nG λcs=>iX P t c cs K
 | _=>none) none
def ff(v:AV):List AV:=
 match v with
 | .agg vs=>vs
 | .fn f [] []=> [.t (.cm f)]
 | v=> [v]
def mS:AV->Bool
 | .agg _ | .jL _ | .top=>false
 | _=>true
def fH(k off:Nat)(l:List T)(xs:List (List T)):Option (List (List T)):=
 match xs[k]? with
 | some cs=>if off+l.length<=cs.length then some (xs.set k (bZ off l cs)) else none
 | none=>none
def gQ{R:Type}(P:Program)(s:St)(t:TypeId)(a v:AV)(K:aC->Option R):Option R:=
 cond (bP P t) (match a with
 | .ref i off=>match s.h i with
  | some (.box cs)=>
   if(ff v).length=P.cellsOf t/\(ff v).all mS/\off+ (ff v).length<=cs.length then K [(i, .box (bZ off (ff v) cs))] else none
  | _=>none
 | .el i sz k off=>match s.h i with
  | some (.sl false d b xs)=>(jf s.h v).bind λl=>
    if d=sz/\l.length=P.cellsOf t/\v.ids.contains i=false then
     aa none (fH k off l xs) λm=>K ((i, .sl false sz b m)::fi s.h v) else none
  | some (.rows b d col rsz f es)=>match v with
   | .own j=>match s.h j with
    | some (.sl false g o xs)=>
     if d=sz/\off=col/\g=rsz/\P.cellsOf t=1/\bt P t=false then
      aa none es[k]? λe=>K [(j, .dead),(i, .rows b sz col rsz (f+1) (es.set k ⟨f,e.cs,some (o,xs)⟩))] else none
    | _=>none
   | _=>none
  | _=>none
 | .rel i sz n k off=>match s.h i with
  | some (.rows b d col rsz f es)=>aa none (cj n es) λp=>(jf s.h v).bind λl=>
    if rsz=sz/\l.length=P.cellsOf t/\v.ids.contains i=false then
     aa none (fH k off l p.2) λm=>K ((i, .rows b d col rsz f (cH n (some (p.1,m)) es))::fi s.h v) else none
  | _=>none
 | _=>none) none
def qq:List (Nat×List AV)->List AV->Option (List AV)
 | [],z=>some z
 | (off,l)::r,z=>if off+l.length<=z.length then qq r (bZ off l z) else none
def qL(P:Program)(t:TypeId)(f:Nat):Option (Nat×TypeId):=
 match p9 P t f with
 | some p=>some p
 | none=>match rQ P t with
  | some (_,u)=>some (f * P.cellsOf u,u)
  | none=>none
def mg(P:Program)(t:TypeId)(ev:Operand->AV):List (Nat×Operand)->Option (List (Nat×List AV))
 | []=>some []
 | (f,o)::r=>(qL P t f).bind λp=>
   if(ff (ev o)).length=P.cellsOf p.2/\(ff (ev o)).all mS then(mg P t ev r).bind λq=>some ((p.1,ff (ev o))::q) else none
def rS(P:Program)(t:TypeId)(ev:Operand->AV)(a:List (Nat×Operand)):Option AV:=
 if nE P t then
 (fZ P t).bind λz=>(mg P t ev a).bind λl=>(qq l (z.map .t)).bind λcs=>some (.agg cs)
 else none
def fP(P:Program)(h:Id->Option ab)(e:TypeId)(ev:Operand->AV):Nat->List (Nat×Operand)->Option (List (List T)×aC)
 | _,[]=>some ([],[])
 | n,(k,o)::r=>(jf h (ev o)).bind λl=>if k=n/\l.length=P.cellsOf e then
    (fP P h e ev (n+1) r).bind λq=>some (l::q.1,fi h (ev o)++q.2)
  else none
def iB{R:Type}(c:Option Bool)(i:Int)(n:Nat)(K:Option R):Option R:=aa c (if 0<=i/\i < n then some () else none) λ_=>K
def hH{R:Type}(P:Program)(s:St)(c:Option Bool)(t:TypeId)(x:AV)(i:Int)(K:AV->Option R):Option R:=
 match kF P t with
 | some e=>match x with
  | .own j=>match s.h j with
   | some (.sl _ sz _ xs)=>if sz=P.cellsOf e then iB c i xs.length (K (.el j sz i.toNat 0)) else none
   | some (.rows _ sz _ _ _ es)=>if sz=P.cellsOf e then iB c i es.length (K (.el j sz i.toNat 0)) else none
   | _=>none
  | .row j n=>jG s.h c j n λrsz _ xs=>if rsz=P.cellsOf e then iB c i xs.length (K (.rel j rsz n i.toNat 0)) else none
  | .part j sz off n=>match s.h j with
   | some (.sl _ a _ _)=>if sz=P.cellsOf e/\a=sz then iB c i n (K (.el j sz (off+i.toNat) 0)) else none
   | _=>none
  | .t y=>aa c (y.au (P.cellsOf e)) λp=>iB c i p.2.length (aa c p.2[i.toNat]? λcs=>K (.t (.ptr cs)))
  | _=>none
 | none=>match rQ P t with
  | some (n,e)=>iB c i n (match x with
   | .ref j off=>K (.ref j (off+i.toNat * P.cellsOf e))
   | .el j sz k off=>K (.el j sz k (off+i.toNat * P.cellsOf e))
   | .t y=>aa c y.nG λcs=>K (.t (.ptr (cs.drop (i.toNat * P.cellsOf e))))
   | _=>none)
  | none=>none
def oI{R:Type}(P:Program)(c:Option Bool)(t:TypeId)(x:AV)(f:Nat)(K:AV->Option R):Option R:=
 match p9 P t f with
 | some (off,u)=>if P.cellsOf u=0 then none else
  match x with
  | .ref j o=>K (.ref j (o+off))
  | .el j sz k o=>K (.el j sz k (o+off))
  | .rel j sz n k o=>K (.rel j sz n k (o+off))
  | .t y=>aa c y.nG λcs=>K (.t (.ptr (cs.drop off)))
  | _=>none
 | none=>none
def oH{R:Type}(P:Program)(t:TypeId)(x:AV)(f:Nat)(K:AV->Option R):Option R:=
 match p9 P t f with
 | some (off,u)=>match x with
  | .agg vs=>ke P u (vs.drop off) K
  | _=>none
 | none=>none
def kP{R:Type}(P:Program)(s:St)(c:Option Bool)(t:TypeId)(x:AV)(K:AV->Option R):Option R:=
 match P.underlying t with
 | some .string=>match x with
  | .t y=>aa c y.ba λb=>K (.t (.int .i64 b.size))
  | _=>none
 | some (.array n _)=>K (.t (.int .i64 n))
 | some (.slice e)=>match x with
  | .own j=>match s.h j with
   | some (.sl _ _ _ xs)=>K (.t (.int .i64 xs.length))
   | some (.rows _ _ _ _ _ es)=>K (.t (.int .i64 es.length))
   | _=>none
  | .row j n=>jG s.h c j n λ_ _ xs=>K (.t (.int .i64 xs.length))
  | .part _ _ _ n=>K (.t (.int .i64 n))
  | .t y=>aa c (y.au (P.cellsOf e)) λp=>K (.t (.int .i64 p.2.length))
  | _=>none
 | _=>none
def gz{R:Type}(s:St)(c:Option Bool)(g:Option Gs)(o:Option Operand)(K:Option Int->Option R):Option R:=
 match o with
 | none=>K none
 | some o=>(s.get g o).t?.bind λx=>aa c (anyInt x) λn=>K (some n)
where
 anyInt:T->Option Int
  | .int _ n=>some n
  | _=>none
def gE(b a n:Int):Option Unit:=if 0<=b/\b<=a/\a<=n then some () else none
def sub(a b:Int)(xs:List (List T)):List (List T):=(xs.drop a.toNat).take (b.toNat - a.toNat)
def tW(b a m:Int):Option Unit:=if b=0/\a=0/\m=0 then some () else none
def sP:T->Bool
 | .af true=>true
 | .ad _ true []=>true
 | _=>false
def lu{R:Type}(P:Program)(s:St)(c:Option Bool)(t:TypeId)(x:AV)(a d f:Option Int)(K:AV->Option R):Option R:=
 match P.underlying t with
 | some .string=>match x,f with
  | .t y,none=>aa c y.ba λb=>
    aa c (gE (a.getD 0) (d.getD b.size) b.size) λ_=>K (.t (.str (b.extract (a.getD 0).toNat (d.getD b.size).toNat)))
  | _,_=>none
 | some (.slice e)=>match f with
  | none=>match x with
   | .own j=>match s.h j with
    | some (.sl _ sz _ xs)=>if sz=P.cellsOf e/\bP P e=true then
      aa c (gE (a.getD 0) (d.getD xs.length) xs.length) λ_=>
      K (.part j sz (a.getD 0).toNat ((d.getD xs.length).toNat - (a.getD 0).toNat)) else none
    | _=>none
   | .part j sz off n=>match s.h j with
    | some (.sl _ g _ _)=>if sz=P.cellsOf e/\g=sz/\bP P e=true then
      aa c (gE (a.getD 0) (d.getD n) n) λ_=>
      K (.part j sz (off+ (a.getD 0).toNat) ((d.getD n).toNat - (a.getD 0).toNat)) else none
    | _=>none
   | .t y=>if bP P e=true then aa c (y.au (P.cellsOf e)) λp=>
     aa c (gE (a.getD 0) (d.getD p.2.length) p.2.length) λ_=>
     K (.t (.ad (P.cellsOf e) p.1 (sub (a.getD 0) (d.getD p.2.length) p.2))) else none
   | _=>none
  | some m=>match x with
   | .t y=>if bP P e=true then aa c (y.au (P.cellsOf e)) λp=>aa c (tW (a.getD 0) (d.getD 1) m) λ_=>K (.t (.af p.1)) else none
   | .own j=>match s.h j with
    | some (.sl _ _ b _)=>if bP P e=false then none else aa c (tW (a.getD 0) (d.getD 1) m) λ_=>K (.t (.af b))
    | _=>none
   | _=>none
 | _=>none
def kf(n m:Int):Option Unit:=if 0<=n/\n<=m/\m<=kc then some () else none
def jO{R:Type}(P:Program)(s:St)(t:TypeId)(sz:Nat)(a:List T)(y:AV)(K:List (List T)->Option R):Option R:=
 match P.underlying t with
 | some (.slice _)=>(cY s.h y).bind λx=>aa none (x.au sz) λp=>K p.2
 | some .string=>if sz=1 then y.t?.bind λx=>aa none x.ba λb=>K (b.data.toList.map λu=> [.int .u8 u.toNat]) else none
 | some (.int _)=>y.t?.bind λx=>aa none (x.int? .i64) λn=>aa none (kf n n) λ_=>K (List.replicate n.toNat a)
 | _=>none
def lU(a n:Nat):Prop:=n<=kc\/(0 < a/\n * a<=140737488355328)
instance (bs n:Nat):Decidable (lU bs n):=inferInstanceAs (Decidable (_\/_))
def bq(a n:Nat):Option Unit:=if lU a n then some () else none
def BJ:T->Option Bool
 | .af b=>some b
 | .ad _ b xs=>cond (b && xs.isEmpty) (some true) none
 | _=>none
def w9(h:Id->Option ab):AV->Option (Id×Nat×Nat×Nat×Nat×List Row)
 | .own i=>match h i with
  | some (.rows _ sz col rsz a es)=>some (i,sz,col,rsz,a,es)
  | _=>none
 | _=>none
def wH(h:Id->Option ab):AV->Option (Id×List AV)
 | .own j=>match h j with
  | some (.arr cs)=>some (j,cs)
  | _=>none
 | _=>none
def mP{R:Type}(P:Program)(s:St)(d:Nat)(e:TypeId)(i:Id)(sz col rsz f:Nat)(es:List Row)(j:Id)(cs:List AV)(K:AV->aC->Option R):Option R:=
 if sz=P.cellsOf e/\cs.length=sz/\col < sz/\i≠j then
  (dA (cs.set col (.t .ak))).bind λl=>match cs[col]? with
   | some (.own o)=>match s.h o with
    | some (.sl false m u xs)=>if m=rsz then
      aa none (bq (P.bytesOf e) (es.length+1)) λ_=>
      K (.own (.s d 0)) [(i, .dead),(j, .dead),(o, .dead),(.s d 0, .rows false sz col rsz (f+1) (es++ [⟨f,l,some (u,xs)⟩]))] else none
    | _=>none
   | some (.row a n)=>match s.h a with
    | some (.rows v r k b q g)=>if b=rsz/\a≠i then
      aa none (cj n g) λp=>aa none (bq (P.bytesOf e) (es.length+1)) λ_=>
      K (.own (.s d 0)) [(i, .dead),(j, .dead),(a, .rows v r k b q (cH n none g)),(.s d 0, .rows false sz col rsz (f+1) (es++ [⟨f,l,some p⟩]))] else none
    | _=>none
   | _=>none
 else none
def iQ{R:Type}(P:Program)(s:St)(d:Nat)(rw:Bool)(t ty:TypeId)(x y:AV)(K:AV->aC->Option R):Option R:=
 (kF P t).bind λe=>(fZ P e).bind λk=>
 if P.bytesOf e<=8192/\k.length=P.cellsOf e then
 match cond rw (w9 s.h x) none,cond rw (wH s.h y) none with
 | some (i,sz,col,rsz,l,es),some (j,cs)=>match P.underlying ty with
  | some (.slice _)=>mP P s d e i sz col rsz l es j cs K
  | _=>none
 | _,_=>
 jO P s ty (P.cellsOf e) k y λa=>
 match x with
 | .own i=>match s.h i with
  | some (.sl false f b xs)=>if f=P.cellsOf e then
    aa none (bq (P.bytesOf e) (xs.length+a.length)) λ_=>
    K (.own (.s d 0)) [(.s d 0, .sl false (P.cellsOf e) (b && a.isEmpty) (xs++a)),(i, .dead)] else none
  | _=>none
 | .part i g off n=>match s.h i with
  | some (.sl false f b xs)=>if f=P.cellsOf e/\g=P.cellsOf e then
    aa none (bq (P.bytesOf e) (n+a.length)) λ_=>
    K (.own (.s d 0)) [(.s d 0, .sl false (P.cellsOf e) (b && a.isEmpty) ((xs.drop off).take n++a)),(i, .dead)] else none
  | _=>none
 | .t z=>(BJ z).bind λb=>aa none (bq (P.bytesOf e) a.length) λ_=>
    K (.own (.s d 0)) [(.s d 0, .sl false (P.cellsOf e) (b && a.isEmpty) a)]
 | _=>none
 else none
def ny(n:Nat):List Row:=(List.range n).map λk=>⟨k,[.ak],some (true,[])⟩
def oT{R:Type}(P:Program)(d:Nat)(t:TypeId)(jy:Nat)(n m:T)(K:AV->aC->Option R):Option R:=
 (kF P t).bind λe=>(fZ P e).bind λa=>
 aa none (n.int? .i64) λn=>aa none (m.int? .i64) λm=>
 if P.bytesOf e<=8192/\a.length=P.cellsOf e then
 aa none (kf n m) λ_=>
  cond (jy==2) (match P.underlying e,a with
   | some (.slice u),[.af true]=>if P.cellsOf e=1 then K (.own (.s d 0)) [(.s d 0, .rows false 1 0 (P.cellsOf u) n.toNat (ny n.toNat))] else none
   | _,_=>none)
   (K (.own (.s d 0)) [(.s d 0, .sl false (P.cellsOf e) false (List.replicate n.toNat a))])
 else none
def mm(d:Bool)(a b:Int):Int:=cond d (if b > a then b else a) (if b < a then b else a)
def l8{R:Type}(k:IntKind)(c:Option Bool)(d:Bool):Int->List T->(T->Option R)->Option R
 | a,[],K=>K (.int k a)
 | a,y::r,K=>aa c (y.int? k) λb=>l8 k c d (mm d a b) r K
def oh{R:Type}(P:Program)(c:Option Bool)(src a:TypeId)(x:T)(K:T->Option R):Option R:=
 match P.underlying src,P.underlying a with
 | some (.int k),some (.int d)=>aa c (x.int? k) λn=>K (.int d (d.wrap n))
 | some .string,some .string=>aa c x.ba λb=>K (.str b)
 | _,_=>none
def bytesOf:List (List T)->Option (List UInt8)
 | []=>some []
 | cs::r=>cs.head?.bind λx=>(x.int? .u8).bind λn=>(bytesOf r).bind λl=>some (UInt8.ofNat n.toNat::l)
def kq:Ck->Bool
 | .i _ | .b | .s=>true
 | _=>false
def oV(P:Program)(t:TypeId):Option (TypeId×TypeId):=
 match P.underlying t with
 | some (.map k e)=>cond (bP P k && bP P e) (some (k,e)) none
 | _=>none
def xH(P:Program)(t:TypeId):Option T:=
 match P.info? t with
 | some i=>match i.zero with
  | some v=>mb v
  | none=>none
 | none=>none
def iW(P:Program)(k:TypeId):Option (Bool×List Ck):=
 match P.underlying k with
 | some (.int i)=>some (false,[.i i])
 | some .string=>some (false,[.s])
 | some (.array n e)=>match P.underlying e with
  | some (.int i)=>if P.cellsOf e=1/\n<=8 then some (true,List.replicate n (.i i)) else none
  | _=>none
 | _=>none
def l5{R:Type}(P:Program)(k:TypeId)(c:Option Bool)(v:AV)(K:Bool->List Ck->List T->Option R):Option R:=
 (iW P k).bind λq=>match q.1,v with
  | false, .t x=>dU c q.2 [x] λcs=>K false q.2 cs
  | true, .agg vs=>(dA vs).bind λl=>if l.length=q.2.length then dU c q.2 l λcs=>K true q.2 cs else none
  | _,_=>none
def kQ{R:Type}(P:Program)(s:St)(c:Option Bool)(t:TypeId)(x key:AV)(ok:Bool)(K:AV->Option R):Option R:=
 (oV P t).bind λq=>(xH P q.2).bind λz=>l5 P q.1 c key λag ks cs=>match x with
  | .own i=>match s.h i with
   | some (.mp a b vk es)=>if a=ag/\b=ks/\jn P q.2=vk/\kq vk=true/\bt P q.2=false then
     dY vk c ((fh cs es).getD z) λv=>K (cond ok (.jL [.t v, .t (.bool (fh cs es).isSome)]) (.t v)) else none
   | _=>none
  | _=>none
def oU{R:Type}(P:Program)(d:Nat)(t:TypeId)(K:AV->aC->Option R):Option R:=
 (oV P t).bind λq=>(iW P q.1).bind λp=>if kq (jn P q.2)=true then K (.own (.s d 0)) [(.s d 0, .mp p.1 p.2 (jn P q.2) [])] else K (.t .any) [(.s d 0, .dead)]
def kY{R:Type}(P:Program)(s:St)(t:TypeId)(x key v:AV)(K:aC->Option R):Option R:=
 (oV P t).bind λq=>l5 P q.1 none key λag ks cs=>match x with
  | .own i=>match s.h i with
   | some (.mp a b vk es)=>if a=ag/\b=ks/\jn P q.2=vk/\kq vk=true then
     v.t?.bind λv=>dY vk none v λv=>K [(i, .mp ag ks vk (fW cs v es))] else none
   | _=>none
  | _=>none
def jr(key:List T):List (List T×T)->List (List T×T)
 | []=> []
 | p::r=>cond (dC key p.1) r (p::jr key r)
def kE{R:Type}(P:Program)(s:St)(t:TypeId)(x key:AV)(K:aC->Option R):Option R:=
 (oV P t).bind λq=>l5 P q.1 none key λag ks cs=>match x with
  | .own i=>match s.h i with
   | some (.mp a b vk es)=>if a=ag/\b=ks then K [(i, .mp ag ks vk (jr cs es))] else none
   | _=>none
  | _=>none
def iv(a b:Bool)(h:Id->Option ab):AV->Option (T×aC)
 | .ref i off=>cond a (match h i with
  | some (.box cs)=>(cond b (qZ h (cs.drop off)) (dA (cs.drop off))).bind λl=>some (.ptr l,[])
  | some (.ei l)=>some (.ptr (l.drop off),[])
  | _=>none) ((cY h (.ref i off)).bind λx=>some (x,fu h (.ref i off)))
 | v=>(cY h v).bind λx=>some (x,cond a [] (fu h v))
def jP(b a:Bool)(h:Id->Option ab):List AV->Option (List T×aC)
 | []=>some ([],[])
 | v::r=>(iv b a h v).bind λp=>(jP b a h r).bind λq=>some (p.1::q.1,p.2++q.2)
def jk(e d:Bool)(h:Id->Option ab):AV->Option (AV×aC)
 | .fn f a b=>(jP e d h a).bind λx=>(jP e d h b).bind λy=>some (.fn f (x.1.map .t) (y.1.map .t),x.2++y.2)
 | .agg vs=>(jP e d h vs).bind λx=>some (.agg (x.1.map .t),x.2)
 | v=>(iv e d h v).bind λp=>some (.t p.1,p.2)
def jl(b a:Bool)(h:Id->Option ab):List AV->Option (List AV×aC)
 | []=>some ([],[])
 | v::r=>(jk b a h v).bind λp=>(jl b a h r).bind λq=>some (p.1::q.1,p.2++q.2)
def sD(P:Program):Nat->TypeId->Bool
 | 0,_=>false
 | n+1,t=>match P.underlying t with
  | some (.int _) | some .bool | some .string=>true
  | some (.struct a)=>a.toList.all λf=>sD P n f.type
  | some (.array _ e)=>sD P n e
  | _=>false
def pg(e:Row):T:=match e.own with
 | some p=> .ad 0 p.1 p.2
 | none=> .ak
def a8(b:Bool)(es:List Row):T:= .ad 2 b (es.map λe=> [.ptr e.cs,pg e])
def mV:Nat->List (List T)->Option (List Row)
 | _,[]=>some []
 | n,[.ptr cs, .ad _ b xs]::r=>(mV (n+1) r).bind λl=>some (⟨n,cs,some (b,xs)⟩::l)
 | _,_=>none
def aM:T->Option (Bool×List Row)
 | .ad _ b xs=>(mV 0 xs).bind λl=>some (b,l)
 | _=>none
def aV(es:List Row):Bool:=es.all λe=>e.own.isSome
def AY:bS->Bool
 | .rows _ _ _=>true
 | _=>false
def aY(es:List (List T×T)):T:= .ad 2 false (es.map λp=> [.ptr p.1,p.2])
def pU:List (List T)->Option (List (List T×T))
 | []=>some []
 | [.ptr k,v]::r=>(pU r).bind λl=>some ((k,v)::l)
 | _=>none
def aK:T->Option (List (List T×T))
 | .ad _ _ xs=>pU xs
 | _=>none
def jR{R:Type}(ids:List Id)(d:Nat)(c:Option Bool)(j:Nat)(r:bS)(x:T)(K:AV->aC->Nat->Option R):Option R:=
 match r with
 | .f k=>dY k c x λx=>K (.t x) [] j
 | .t k=>dY k c x λx=>K (.t x) [] j
 | .own sz=>match c with
  | none=>aa none (x.au sz) λp=>K (.own (.s d j)) [(.s d j, .sl false sz p.1 p.2)] (j+1)
  | some _=>none
 | .ref k off=>match ids[k]? with
  | some i=>K (.ref i off) [] j
  | none=>none
 | .same k=>match ids[k]? with
  | some i=>K (.own i) [] j
  | none=>none
 | .rows sz col rsz=>match c with
  | none=>aa none (aM x) λp=>K (.own (.s d j)) [(.s d j, .rows p.1 sz col rsz p.2.length p.2)] (j+1)
  | some _=>none
 | .mp ag ks vk=>match c with
  | none=>aa none (aK x) λes=>K (.own (.s d j)) [(.s d j, .mp ag ks vk es)] (j+1)
  | some _=>none
 | .no=>K .top [] j
 | .agg _=>none
 | .new _=>none
def iy{R:Type}(ids:List Id)(d:Nat)(c:Option Bool):Nat->List bS->List T->(List AV->aC->Nat->Option R)->Option R
 | j,[],_,K=>K [] [] j
 | j,r::rs,xs,K=>aa c xs.head? λx=>jR ids d c j r x λv u j=>iy ids d c j rs xs.tail λvs us j=>K (v::vs) (u++us) j
def bS.size:bS->Nat
 | .agg l=>l.length
 | .new l=>l.length
 | _=>1
def dt{R:Type}(ids:List Id)(d:Nat)(c:Option Bool):Nat->List bS->List T->(List AV->aC->Nat->Option R)->Option R
 | j,[],_,K=>K [] [] j
 | j,r::rs,xs,K=>match r with
  | .agg l=>iy ids d c j l xs λv u j=>dt ids d c j rs (xs.drop l.length) λvs us j=>K (AV.agg v::vs) (u++us) j
  | .new l=>match c with
   | none=>iy ids d c j l xs λv u j=>dt ids d c (j+1) rs (xs.drop l.length) λvs us a=>K (AV.ref (.s d j) 0::vs) (u++ [(.s d j, .box v)] ++us) a
   | some _=>none
  | r=>aa c xs.head? λx=>jR ids d c j r x λv u j=>dt ids d c j rs xs.tail λvs us j=>K (v::vs) (u++us) j
def kr:List bS->Nat
 | []=>0
 | r::rs=>r.size+kr rs
def eT{R:Type}(all:List Id)(d:Nat):Nat->List Id->List im->List T->(aC->Option R)->Option R
 | j,i::a, .box l::r,xs,K=>iy all d none j l xs λv u j=>eT all d j a r (xs.drop l.length) λq=>K (u++ (i, .box v)::q)
 | j,i::a, .sl sz::r,xs,K=>aa none (xs.head?.bind (T.au sz)) λp=>eT all d j a r xs.tail λq=>K ((i, .sl false sz p.1 p.2)::q)
 | j,i::a, .mp ag ks vk::r,xs,K=>aa none (xs.head?.bind aK) λes=>eT all d j a r xs.tail λq=>K ((i, .mp ag ks vk es)::q)
 | j,_::a, .dead::r,xs,K=>eT all d j a r xs K
 | _,[],[],_,K=>K []
 | _,_,_,_,_=>none
def jD:List AV->AV
 | [v]=>v
 | vs=> .jL vs
def EG(P:Program)(t:TypeId):bS:=cond (bt P t) (.agg ((pM P t).map λk=>cond (sD P 8 t) (.f k) (.t k))) (cond (sD P 8 t) (.f (jn P t)) (.t (jn P t)))
def oK:bS->Bool
 | .f _=>true
 | .agg l=>l.all λr=>match r with
  | .f _=>true
  | _=>false
 | _=>false
def cN(P:Program)(A:cq)(f:FuncId)(n:Nat)(fn:Func):List bS:=
 match A.fN f with
 | some _=>(A.uy f n).res
 | none=>match A.sig f with
  | some a=>a.res
  | none=>fn.resultTypes.toList.map (EG P)
def fA(A:cq)(f:FuncId)(n:Nat):List im:=
 match A.fN f with
 | some _=>(A.uy f n).outs
 | none=> []
def IU:AV->Bool
 | .own _=>true
 | .part _ _ _ _=>true
 | _=>false
def ft:Option ab->Nat
 | some (.box cs)=>cs.length+1000 * (cs.filter IU).length
 | _=>0
def eJ(c:Option Bool)(m:Option (List T)):Option (List T):=
 match c with
 | none=>m
 | some b=>cond b m (some [])
def kx{R:Type}(P:Program)(c:Option Bool)(t:TypeId)(v:AV)(K:AV->Option R):Option R:=
 match v with
 | .t x=>dY (jn P t) c x λy=>K (.t y)
 | .agg vs=>match dA vs with
  | some l=>dU c (pM P t) l λl=>K (.agg (l.map .t))
  | none=>K (.agg vs)
 | v=>K v
def gS{R:Type}(P:Program)(c:Option Bool):List TypeId->List AV->(List AV->Option R)->Option R
 | [],vs,K=>K vs
 | _::_,[],K=>K []
 | t::ts,v::vs,K=>kx P c t v λu=>gS P c ts vs λus=>K (u::us)
def uz:List Bool->List AV->List Id
 | b::a,v::vs=>cond b v.ids [] ++uz a vs
 | _,_=> []
def pP(h:Id->Option ab)(dv:List Id)(b:Bool)(v:AV):Option (AV×aC):=
 cond (b || (!v.ids.isEmpty && v.ids.all dv.contains)) (some (v,[])) (jk false false h v)
def jQ(h:Id->Option ab)(dv:List Id):List Bool->List AV->Option (List AV×aC)
 | _,[]=>some ([],[])
 | a,v::r=>(pP h dv (a.headD false) v).bind λp=>(jQ h dv a.tail r).bind λq=>some (p.1::q.1,p.2++q.2)
def I7(sz col rsz:Nat):Nat:=100000+1000 * sz+100 * col+rsz
def pe(h:Id->Option ab)(new i:Id)(k sz col rsz:Nat):Option aC:=
 match h i with
 | some (.box cs)=>match cs[k]? with
  | some (.own _)=>some []
  | some (.t (.af b))=>cond (h new).isNone (some [(new, .rows b sz col rsz 0 []),(i, .box (cs.set k (.own new)))]) none
  | some (.t (.ad _ true []))=>cond (h new).isNone (some [(new, .rows true sz col rsz 0 []),(i, .box (cs.set k (.own new)))]) none
  | _=>none
 | _=>none
def mf(h:Id->Option ab)(new i:Id)(k sz:Nat):Option aC:=
 cond (Nat.ble 100000 sz) (pe h new i k (sz % 100000 / 1000) (sz % 1000 / 100) (sz % 100)) <|
 match h i with
 | some (.box cs)=>match cs[k]? with
  | some (.own _)=>some []
  | some (.t (.af b))=>cond (h new).isNone (some [(new, .sl false sz b []),(i, .box (cs.set k (.own new)))]) none
  | some (.t (.ad _ true []))=>cond (h new).isNone (some [(new, .sl false sz true []),(i, .box (cs.set k (.own new)))]) none
  | some (.part j d 0 n)=>match h j with
   | some (.sl false a b xs)=>if a=sz/\d=sz/\j≠i then cond (h new).isNone (some [(j, .dead),(new, .sl false sz b (xs.take n)),(i, .box (cs.set k (.own new)))]) none else none
   | _=>none
  | _=>none
 | _=>none
def iD(nm:Nat):Nat->(Id->Option ab)->List (Id×Nat×Nat)->Option aC
 | _,_,[]=>some []
 | j,h,(i,k,sz)::r=>(mf h (.s nm j) i k sz).bind λus=>(iD nm (j+1) (aI h us) r).bind λvs=>some (us++vs)
def mW:List Id->List Id->List Id
 | [],_=> []
 | i::r,seen=>cond (seen.contains i) (mW r seen) (i::mW r (i::seen))
def lb(i:Id):Nat->List bS->List (Id×Nat×Nat)
 | _,[]=> []
 | k, .own sz::r=>(i,k,sz)::lb i (k+1) r
 | k, .rows sz col rsz::r=>(i,k,I7 sz col rsz)::lb i (k+1) r
 | k,_::r=>lb i (k+1) r
def lf:List Id->List im->List (Id×Nat×Nat)
 | i::a, .box l::r=>lb i 0 l++lf a r
 | _::a,_::r=>lf a r
 | _,_=> []
def ix(l:List Id):aC:=l.map λi=>(i, .dead)
def s6(d:Nat)(l:List Id):Bool:=l.all λi=>match i with
 | .s a _=> !(a==d)
 | .c _=>true
 | .g _ _=>false
def fe{R:Type}(P:Program)(A:cq)(O:ay)(s:St)(d:Nat)(c:Option Bool)(f:FuncId)(args:List AV)(K:AV->aC->Option R):Option R:=
 match P.funcs[f]? with
 | none=>none
 | some fn=>
  match A.fN f with
  | none=>(jl ((cN P A f 0 fn).all oK) (A.deep f) s.h args).bind λp=>
   gS P c fn.params.toList p.1 λq=>aa none (eJ c (O (.call f) q [])) λxs=>dt [] d c 0 (cN P A f 0 fn) xs λvs u _=>K (jD vs) (p.2++u)
  | some a=>match c with
   | some _=>none
   | none=>(jQ s.h (uz a args) a args).bind λp=>
    (iD (2000000+d) 0 (aI s.h p.2) (lf (mW (bQ p.1) []) (fA A f (ft ((bQ p.1).head?.bind (aI s.h p.2)))))).bind λus=>
    (dX (aI (aI s.h p.2) us) 1000 (bQ p.1) []).bind λseen=>
    cond (s6 d seen && Nat.beq (ft (seen.map λi=>fC seen (aI (aI s.h p.2) us i)).head?) (ft ((bQ p.1).head?.bind (aI s.h p.2)))) (gS P none fn.params.toList (iH seen p.1) λq=>
     aa none (O (.call f) q (seen.map λi=>fC seen (aI (aI s.h p.2) us i))) λxs=>
     dt seen d none 0 (cN P A f (ft ((bQ p.1).head?.bind (aI s.h p.2))) fn) xs λvs u j=>
     eT seen d j seen (fA A f (ft ((bQ p.1).head?.bind (aI s.h p.2)))) (xs.drop (kr (cN P A f (ft ((bQ p.1).head?.bind (aI s.h p.2))) fn))) λq=>
     K (jD vs) (p.2++us++ix seen++u++q)) none
def fX:List AV->Option (List AV×Id×Nat×List AV)
 | []=>none
 | .row i n::r=>some ([],i,n,r)
 | v::r=>(fX r).bind λq=>some (v::q.1,q.2.1,q.2.2.1,q.2.2.2)
def oY(n:Nat):List Row->Option Unit
 | []=>none
 | e::r=>if e.n=n then(match e.own with | none=>some () | some _=>none) else oY n r
def pQ{R:Type}(h:Id->Option ab)(i new:Id)(n rsz:Nat)(K:aC->Option R):Option R:=
 match h i,h new with
 | some (.rows b sz col d f es),some (.sl false a e xs)=>if d=rsz/\a=rsz then
   aa none (oY n es) λ_=>K [(i, .rows b sz col rsz f (cH n (some (e,xs)) es)),(new, .dead)] else none
 | _,_=>none
def Bk:Operand->Bool
 | .func _=>false
 | _=>true
def gY{R:Type}(fx:Bool)(P:Program)(A:cq)(O:ay)(s:St)(d:Nat)(c:Option Bool)(f:FuncId)(args:List AV)(K:AV->aC->Option R):Option R:=
 match cond fx (fX args) none with
 | none=>fe P A O s d c f args K
 | some (g,i,n,j)=>match c,s.h i with
  | none,some (.rows b sz col rsz a es)=>aa none (cj n es) λp=>
    cond (s.h (.s (2500000+d) 0)).isNone
     (fe P A O {t:=s.t,h:=aI s.h [(i, .rows b sz col rsz a (cH n none es)),(.s (2500000+d) 0, .sl false rsz p.1 p.2)]} d none f (g++ .own (.s (2500000+d) 0)::j) λv us=>
      pQ (aI s.h ([(i, .rows b sz col rsz a (cH n none es)),(.s (2500000+d) 0, .sl false rsz p.1 p.2)] ++us)) i (.s (2500000+d) 0) n rsz λe=>
       K v ([(i, .rows b sz col rsz a (cH n none es)),(.s (2500000+d) 0, .sl false rsz p.1 p.2)] ++us++e)) none
  | _,_=>none
theorem Et{R:Type}(P:Program)(A:cq)(O:ay)(s:St)(d:Nat)(c:Option Bool)(f:FuncId)(args:List AV)(K:AV->aC->Option R):gY false P A O s d c f args K=fe P A O s d c f args K:=rfl
def lh{R:Type}(P:Program)(s:St)(e:TypeId)(d:Nat)(c:Option Bool)(v:AV)(K:AV->aC->Option R):Option R:=
 match c,v with
 | none, .agg vs=>match fX vs with
  | some (a,i,n,f)=>match s.h i with
   | some (.rows b sz col rsz g es)=>aa none (cj n es) λp=>
     (dA (a++ .t (.ad rsz p.1 p.2)::f)).bind λl=>if l.length=P.cellsOf e/\P.cellsOf e<=1000/\0 < P.cellsOf e/\(fZ P e).isSome=true then
      K (.own (.s d 0)) [(i, .rows b sz col rsz g (cH n none es)),(.s d 1, .sl true rsz p.1 p.2),(.s d 0, .sl false (P.cellsOf e) false [l])] else none
   | _=>none
  | none=>none
 | _,_=>none
def sJ(c:Option Bool)(b:Bool):Option Bool:=some (match c with
 | none=>b
 | some a=>a && b)
def lZ{R:Type}(c:Option Bool)(v:AV)(K:Int->Option R):Option R:=
 v.t?.bind λx=>aa c (gz.anyInt x) K
def jV:AV->AV
 | .t (.cm f)=> .fn f [] []
 | v=>v
def gw{R:Type}(P:Program)(A:cq)(O:ay)(g:Option Gs)(o:Oper)(s:St)(K:AV->aC->Option R):Option R:=
 let ev:=s.get g;let c:=g.map (·.c);let d:=o.dst.getD 0
 match o.op with
 | .move x | .assign x=>K (ev x) []
 | .pick k a b=>(ev k).t?.bind λI=>aa c I.bool? λkb=>
   (s.jX g k true a).t?.bind λx=>aa (sJ c kb) x.bool? λJ=>
   (s.jX g k false b).t?.bind λy=>aa (sJ c (!kb)) y.bool? λL=>K (AV.t (.bool (cond kb J L))) []
 | .alloc t=>match c with
  | some _=>none
  | none=>(fZ P t).bind λl=>K (.ref (.s d 0) 0) [(.s d 0, .box (l.map .t))]
 | .box _ x=>match c with
  | some _=>none
  | none=>if(ff (ev x)).all mS then K (.ref (.s d 0) 0) [(.s d 0, .box (ff (ev x)))] else none
 | .build t j=>(rS P t ev j.toList).bind λv=>K v []
 | .buildSlice t n j=>(kF P t).bind λe=>if A.jy o.dst o.type=1 then
   (match c,j.toList,n with
   | none,[(0,x)],1=>if((ff (ev x)).length=P.cellsOf e/\(ff (ev x)).all mS=true)/\P.cellsOf e<=1000/\0 < P.cellsOf e/\(fZ P e).isSome=true then K (.own (.s d 0)) [(.s d 0, .arr (ff (ev x)))] else none
   | _,_,_=>none)
   else if A.jy o.dst o.type=5 then(match j.toList,n with
   | [(0,x)],1=>lh P s e d c (ev x) K
   | _,_=>none)
   else if j.size=n/\n<=1000/\P.cellsOf e<=1000/\0 < P.cellsOf e/\(fZ P e).isSome=true then
   if n=0/\A.app o.dst=true then K (.t (.af false)) [] else
   (fP P s.h e ev 0 j.toList).bind λq=>
   match c with
   | some _=>K (.t (.ad (P.cellsOf e) false q.1)) q.2
   | none=>K (.own (.s d 0)) ((.s d 0, .sl false (P.cellsOf e) false q.1)::q.2)
   else none
 | .load t a=>fj P s c t (ev a) λv=>K v []
 | .store t a x=>match c with
  | some _=>none
  | none=>gQ P s t (ev a) (ev x) λu=>K .top u
 | .nilCheck x=>match ev x with
  | .ref i k=>K (.ref i k) []
  | .el i sz k o=>K (.el i sz k o) []
  | .rel i sz n k o=>K (.rel i sz n k o) []
  | .t y=>aa c y.nG λcs=>K (.t (.ptr cs)) []
  | .fn f a b=>K (.fn f a b) []
  | _=>none
 | .binOp op t x y ty=>match op,ma P t y,ma P t x with
  | .eql,true,_=>(hI P s t (ev x)).bind λb=>K (.t (.bool b)) []
  | .neq,true,_=>(hI P s t (ev x)).bind λb=>K (.t (.bool (!b))) []
  | .eql,_,true=>(hI P s t (ev y)).bind λb=>K (.t (.bool b)) []
  | .neq,_,true=>(hI P s t (ev y)).bind λb=>K (.t (.bool (!b))) []
  | .eql,_,_=>na P c t (ev x) (ev y) λb=>K (.t (.bool b)) []
  | .neq,_,_=>na P c t (ev x) (ev y) λb=>K (.t (.bool (!b))) []
  | op,_,_=>(ev x).t?.bind λa=>(ev y).t?.bind λb=>n9 P op t ty c a b λz=>K (.t z) []
 | .unOp op t x=>(ev x).t?.bind λa=>pD P op t c a λz=>K (.t z) []
 | .convert src B x=>match P.underlying src,P.underlying B with
  | some (.slice e),some .string=>match oP P e with
   | some .u8=>(cY s.h (ev x)).bind λy=>aa c ((y.au 1).bind λp=>bytesOf p.2) λl=>K (.t (.str ⟨l.toArray⟩)) []
   | _=>none
  | _,_=>(ev x).t?.bind λa=>oh P c src B a λz=>K (.t z) []
 | .makeFunc (.func f) H C=>K (.fn f (H.toList.map ev) (C.toList.map ev)) []
 | .makeSlice t l m=>match c with
  | some _=>none
  | none=>(ev l).t?.bind λn=>(ev m).t?.bind λk=>oT P d t (A.jy o.dst o.type) n k K
 | .makeMap t m=>match c,m with
  | none,none=>oU P d t K
  | _,_=>none
 | .lookup t x k ok=>kQ P s c t (ev x) (ev k) ok λv=>K v []
 | .mapUpdate t x k v=>match c with
  | some _=>none
  | none=>kY P s t (ev x) (ev k) (ev v) λu=>K .top u
 | .slice t x E D F=>
  gz s c g E λE=>gz s c g D λD=>gz s c g F λF=>lu P s c t (ev x) E D F λv=>K v []
 | .fieldAddr t x f=>oI P c t (ev x) f λv=>K v []
 | .field t x f=>oH P t (ev x) f λv=>K v []
 | .indexAddr t x i=>lZ c (ev i) λn=>hH P s c t (ev x) n λv=>K v []
 | .index t x i=>lZ c (ev i) λn=>match P.underlying t with
  | some .string=>(ev x).t?.bind λy=>aa c y.ba λb=>iB c n b.size
    (aa c b.data.toList[n.toNat]? λu=>K (.t (.int .u8 u.toNat)) [])
  | some (.array m e)=>match ev x with
   | .agg vs=>cond (bP P e) ((dA vs).bind λl=>iB c n m (iX P e c (l.drop (n.toNat * P.cellsOf e)) λz=>K z [])) none
   | _=>none
  | _=>none
 | .extract x k=>match ev x with
  | .jL vs=>(vs[k]?).bind λv=>K v []
  | _=>none
 | .call cl=>match cl.callee with
  | .builtin .len=>match cl.args.toList,cl.argTypes.toList with
   | [x],t::_=>kP P s c t (ev x) λv=>K v []
   | _,_=>none
  | .builtin .append=>match c,cl.args.toList,cl.argTypes.toList with
   | none,[x,y],[t,u]=>iQ P s d (A.jy o.dst o.type==3) t u (ev x) (ev y) K
   | _,_,_=>none
  | .builtin .max=>match oP P o.type with
   | some k=>(dA (cl.args.toList.map ev)).bind λl=>match l with
    | x::r=>aa c (x.int? k) λa=>l8 k c true a r λz=>K (.t z) []
    | []=>none
   | none=>none
  | .builtin .min=>match oP P o.type with
   | some k=>(dA (cl.args.toList.map ev)).bind λl=>match l with
    | x::r=>aa c (x.int? k) λa=>l8 k c false a r λz=>K (.t z) []
    | []=>none
   | none=>none
  | .builtin .delete=>match c,cl.args.toList,cl.argTypes.toList with
   | none,[x,y],t::_=>kE P s t (ev x) (ev y) λu=>K (.jL []) u
   | _,_,_=>none
  | .builtin .cap=>match cl.args.toList,cl.argTypes.toList with
   | [x],t::_=>match P.underlying t with
    | some (.slice _)=>match ev x with
     | .t y=>cond (sP y) (K (.t (.int .i64 0)) []) none
     | _=>none
    | _=>none
   | _,_=>none
  | .value G=>match jV (ev G) with
   | .fn f a b=>gY (Bk G) P A O s d c f (a++cl.args.toList.map ev++b) K
   | _=>none
  | _=>none
 | _=>none
open Go
section
variable (P:Program) (A:cq) (O:ay)
def rV(b want:Bool):Bool:=cond want b (!b)
def gC(g:Option Gs)(b want:Bool):Bool:=
 match g with
 | none=>rV b want
 | some a=>cond a.c (rV b want) false
def cK{R:Type}(a:Array Oper)(o:Oper)(s:St)(K:Option Gs->Option R):Option R:=
 match o.guard with
 | none=>K none
 | some (j,want)=>match(a[j]?).bind (·.dst) with
  | none=>none
  | some d=>(s.t d).2.t?.bind λx=>aa ((s.t d).1.map (·.c)) x.bool? λb=>
    K (some {d:=d,want:=want,c:=gC (s.t d).1 b want})
def G6:Builtin->Bool
 | .delete=>true
 | _=>false
def aH(o:Oper):Bool:=
 match o.op with
 | .store .. =>true
 | .mapUpdate .. =>true
 | .call cl=>match cl.callee with
  | .builtin .append=>match cl.args.toList with
   | .const (.slice none 0 0)::_=>false
   | _=> !A.app o.dst
  | .builtin b=>G6 b
  | .value (.func f)=>match A.fN f with
   | some _=>true
   | none=>match P.funcs[f]? with
    | some _=>A.wr f
    | none=>true
  | .value _=> !A.uD o.dst
  | _=>true
 | .buildSlice .. =>A.jy o.dst o.type==6
 | _=>false
def GF(o:Oper):Bool:=
 match o.op with
 | .call cl=>match cl.callee with
  | .value (.func f)=>match P.funcs[f]? with
   | some fn=>(cN P A f 0 fn).all oK
   | none=>false
  | _=>false
 | _=>false
def et(o:Oper):Bool:=
 match o.op with
 | .move _ | .assign _ | .pick .. | .build .. | .unOp .. | .makeFunc .. | .fieldAddr .. | .field .. | .extract .. | .nilCheck _=>true
 | .binOp _ t x y _=> !(ma P t x || ma P t y)
 | .call cl=>match cl.callee with
  | .builtin .max | .builtin .min=>true
  | _=>false
 | _=>false
def dD(o:Oper):Bool:=
 match o.op with
 | .call cl=>match cl.callee with
  | .value (.func f)=>A.deep f
  | .value _=>true
  | .builtin .append=>A.jy o.dst o.type==3
  | _=>false
 | _=>false
def kZ(o:Oper):Bool:=et P o ||
 match o.op with
 | .load .. | .index .. | .indexAddr .. | .slice .. | .binOp .. | .convert .. | .lookup .. =>true
 | .call cl=>match cl.callee with
  | .builtin .len=>true
  | .value (.func _)=> !aH P A o && GF P A o
  | _=>false
 | _=>false
def gF(o:Oper):Bool:=
 match o.op with
 | .alloc _ | .box .. | .makeSlice .. | .makeMap .. =>true
 | _=>false
def dG(o:Oper):Bool:=
 match o.op with
 | .call cl=>match cl.callee with
  | .value (.func f)=>(A.fN f).isSome
  | .value _=> !A.uD o.dst
  | _=>false
 | _=>false
def og(a b:Oper):Bool:= !((aH P A a && !(et P b || gF b)) || (aH P A b && !(et P a || gF a))) && (!dD A a || kZ P A b) && (!dD A b || kZ P A a)
def fg:List Oper->List Nat
 | []=> []
 | o::r=>match o.dst with
  | some d=>d::fg r
  | none=>fg r
def tw(d:Array Oper):Nat->Nat->Nat
 | 0,a=>a
 | n+1,a=>match d.find? (λo=>o.dst==some a) with
  | some o=>match o.op with
   | .fieldAddr _ (.tmp b) _=>tw d n b
   | .nilCheck (.tmp b)=>tw d n b
   | .move (.tmp b)=>tw d n b
   | _=>a
  | none=>a
def pd(b:Array Oper)(a:Nat):Nat:=tw b 6 a
def eY(b:Array Oper)(o:Oper):Option Nat:=match o.guard,o.op with
 | none, .store _ (.tmp a) _=>some (pd b a)
 | none, .load _ (.tmp a)=>some (pd b a)
 | _,_=>none
def _root_.Go.Aev.cq.stM(A:cq)(a:Array Oper):Bool:=A.st ((a[0]?).bind (·.dst)) && A.Dn ((a[0]?).bind (·.dst)) (((a[0]?).map (·.type)).getD 0)
def iJ(d:Array Oper)(a b:Oper):Bool:=A.stM d && (match eY d a,eY d b with
 | some k,some e=> !(k==e) && !(fg d.toList).contains k && !(fg d.toList).contains e
 | _,_=>false)
def xS(o:Oper):Bool:=o.guard.isNone && aH P A o && match o.op with
 | .call cl=>match cl.callee with
  | .builtin .append=> !(A.jy o.dst o.type==3)
  | .value (.func f)=>(A.fN f).isNone && !A.deep f
  | _=>false
 | .buildSlice .. =>true
 | .store _ (.tmp _) _=>true
 | _=>false
def G9(o:Oper):Bool:=match o.op with
 | .store .. =>true
 | _=>false
def gJ(b:Array Oper)(o:Oper):Option (Option Nat):=match o.guard,o.op with
 | none, .load _ (.tmp a)=>some (some (pd b a))
 | none, .buildSlice .. =>some none
 | _,_=>none
def gH(d:Array Oper)(a b:Oper):Bool:=A.ld ((d[0]?).bind (·.dst)) && (!aH P A b && xS P A a && (A.stM d || !G9 a)) && (match gJ d b with
 | some (some k)=> !(fg d.toList).contains k
 | some none=>true
 | none=>false)
def hJ(o:Oper)(k:Bool):Bool:=match o.guard,o.op with
 | none, .store t (.tmp _) _=>(match P.underlying t with
  | some (.slice _)=>k
  | some (.int _)=> !k
  | _=>false)
 | _,_=>false
def jI(d:Array Oper)(a b:Oper):Bool:=A.sx ((d[0]?).bind (·.dst)) && hJ P a true && hJ P b false
def ka:aC->Bool
 | [(_, .dead),(_, .rows _ _ _ rsz _ _)]=> !(rsz==1)
 | _=>false
def kb:aC->Bool
 | [(_, .sl false sz _ _)]=>sz==1
 | _=>false
def uo(o:Oper)(s:St):Bool:=match o.op with
 | .store _ _ y=>(s.get none y).ids.isEmpty
 | _=>false
def sO(o:Oper):Bool:=match o.guard,o.op with
 | none, .indexAddr t (.tmp _) _=>(match kF P t with
  | some e=>P.cellsOf e==1
  | none=>false)
 | none, .load _ (.tmp _)=>true
 | _,_=>false
def qI(o:Oper)(s:St):Bool:=match o.op with
 | .load _ x=>(match s.get none x with
  | .ref _ _=>true
  | _=>false)
 | .indexAddr _ x _=>(match s.get none x with
  | .own _=>true
  | _=>false)
 | _=>false
def jh(d:Array Oper)(a b:Oper):Bool:=A.sx ((d[0]?).bind (·.dst)) && (hJ P a true || hJ P a false) && sO P b
def l0(o:Oper):Bool:=match o.guard,o.op with
 | none, .load _ (.tmp _)=>true
 | none, .indexAddr _ (.tmp _) _=>true
 | _,_=>false
def pw(a b:Oper):Bool:=((A.oe a.dst a.type && A.sT b.dst b.type) || A.sS b.dst b.type) && l0 b
def pv(d:Array Oper)(a b:Oper):Bool:=iJ A d a b || gH P A d a b || gH P A d b a || (jI P A d a b || jI P A d b a) || (jh P A d a b || jh P A d b a) || (pw A a b || pw A b a)
def fG(a:Array Oper):Nat->Nat->Nat->Bool
 | 0,_,_=>false
 | n+1,j,i=>match a[j]? with
  | none=>false
  | some b=>b.after.any λe=>Region.binds .any e && (e.on==i || (Nat.blt i e.on && fG a n e.on i))
def vu(a:Array Oper)(listed:Array Bool)(i:Nat):Bool:=
 match a[i]? with
 | none=>false
 | some b=>(List.range a.size).all λj=>match a[j]? with
  | none=>true
  | some d=>j==i || listed.getD j true || og P A b d || pv P A a b d || fG a 12 j i
def sU(b:Array Oper):Nat->Nat->Array Bool->Bool
 | 0,_,_=>true
 | n+1,k,a=>vu P A b a k && sU b n (k+1) (a.setIfInBounds k true)
def GL(h:Id->Option ab)(us:aC):Bool:=us.all λp=>(h p.1).isNone
def fR(d:Nat)(h:Id->Option ab)(us:aC):Bool:=us.all λp=>match p.1 with
 | .s a _=> !(a==d) || (h p.1).isNone
 | .c _=>true
 | .g _ _=>false
def de(a:Array Oper)(d:Option Nat):Bool:=
 a.any λo=>match o.guard with
  | none=>false
  | some (j,_)=>match(a[j]?).bind (·.dst),d with
   | some e,some d=>e==d
   | _,_=>false
def oc(a:Array Oper)(o:Oper)(d:Nat):Bool:=
 (List.range a.size).all λi=>match a[i]? with
  | some b=> !(b.dst==some d) || o.after.any (λe=>Region.binds .any e && (e.on==i || fG a 12 e.on i))
  | none=>true
def l9(a:Array Oper)(g:Option Gs)(o:Oper)(s:St):Bool:=
 o.op.operands.toList.all λx=>(s.get g x).ids.all λi=>match i with
  | .s d _=>oc a o d
  | .c _=>true
  | .g _ _=>false
def iZ(o:Oper)(us:aC):Bool:=us.all λp=>match p.1 with
 | .s d _=>o.dst==some d
 | .c _=>false
 | .g _ _=>false
def pE(a:Array Oper)(o:Oper)(us:aC):Bool:=us.all λp=>match p.1 with
 | .s d _=>oc a o d || o.dst==some d
 | .c _=>true
 | .g _ _=>false
def xu(a:Array Oper)(o d:Oper)(s:St)(us:aC):Bool:=match eY a o,eY a d with
 | some k,some b=>(o.op.operands.toList.all λx=>(s.get none x).ids.all λi=>decide (i∈(s.t k).2.ids)) && us.all (λp=>decide (p.1∈(s.t k).2.ids)) && us.all (λp=>decide (p.1∉(s.t b).2.ids))
 | _,_=>false
def sR(a:Array Oper)(b:Oper)(s:St)(us:aC):Bool:=match gJ a b with
 | some (some k)=>us.all λp=>decide (p.1∉(s.t k).2.ids)
 | _=>true
def qu(a:Array Oper)(o:Oper)(s:St):Bool:=match gJ a o with
 | some (some k)=>o.op.operands.toList.all λx=>(s.get none x).ids.all λi=>decide (i∈(s.t k).2.ids)
 | some none=>o.op.operands.toList.all λx=>(s.get none x).ids.isEmpty
 | none=>true
def iK(a:Array Oper)(o:Oper)(s:St)(us:aC):Bool:=a.all λb=>(!(iJ A a o b) || xu a o b s us) && (!(gH P A a o b) || sR a b s us) && (!(gH P A a b o) || qu a o s) && ((!(jI P A a o b) || ka us) && (!(jI P A a b o) || (kb us && uo o s))) && ((!(jh P A a o b) || ka us || kb us) && (!(jh P A a b o) || qI o s))
def qh:AV->Bool
 | .ref _ _=>true
 | .t (.int _ _)=>true
 | _=>false
def AX:AV->Bool
 | .ref _ _=>true
 | _=>false
def n8(o:Oper)(s:St):Bool:=o.op.operands.toList.all λx=>(s.get none x).ids.isEmpty
def l6(o:Oper)(s:St)(v:AV):Bool:=(!(A.sS o.dst o.type && l0 o) || n8 o s) && (!(A.sT o.dst o.type && l0 o) || n8 o s || (match o.op with
 | .load _ x=>AX (s.get none x) && qh v
 | _=>false))
def qk:AV->AV->Option (Option (Int×Int))
 | .ref i o, .ref j p=>cond (decide (i=j/\o=p)) (some none) none
 | .ref _ _,_=>none
 | _, .ref _ _=>none
 | .t (.int k a), .t (.int d b)=>cond (decide (k=d)) (some (some (a,b))) none
 | .t (.int _ _),_=>none
 | _, .t (.int _ _)=>none
 | _,_=>some none
def qn{R:Type}:List AV->List AV->Option R->Option R
 | [],[],K=>K
 | c::r,c'::a,K=>match qk c c' with
  | none=>none
  | some none=>qn r a K
  | some (some p)=>aa none (if p.1=p.2 then some () else none) λ_=>qn r a K
 | _,_,_=>none
def ql:Option ab->Option ab->Option (Option (List AV×List AV))
 | some (.box cs),some (.box a)=>some (some (cs,a))
 | some (.box _),_=>none
 | _,some (.box _)=>none
 | some (.ei _),_=>none
 | _,some (.ei _)=>none
 | _,_=>some none
def qo{R:Type}(h h':Id->Option ab):aC->Option R->Option R
 | [],K=>K
 | p::us,K=>match ql (h p.1) (h' p.1) with
  | none=>none
  | some none=>qo h h' us K
  | some (some q)=>qn q.1 q.2 (qo h h' us K)
def vO{R:Type}(a:Bool)(o:Oper)(h:Id->Option ab)(us:aC)(K:Option R):Option R:=cond (a && A.oe o.dst o.type) (qo h (aI h us) us K) K
def kV(b:Bool)(nt:Nat)(a:Array Oper)(o:Oper)(g:Option Gs)(s:St)(v:AV)(us:aC):Bool:=
 (match o.dst with | some d=>decide (d < nt) | none=>true) &&
 (match g with | some g=>us.isEmpty && !(o.dst==some g.d) | none=>true) &&
 fR (o.dst.getD 0) s.h us && (!b || (l9 a g o s && (aH P A o || iZ o us) && (!et P o || us.isEmpty) && (!kZ P A o || us.isEmpty) && (!aH P A o || pE a o us) && Nat.ble nt 1000000 && iK P A a o s us && l6 A o s v))
def nL(a:Bool)(o:Oper)(g:Option Gs):Option Gs:=
 match g with
 | some g=>cond (!a && dG A o) (some g) none
 | none=>none
def sa(nt:Nat)(o:Oper)(g:Gs):Bool:=(match o.dst with | some d=>decide (d < nt) | none=>true) && !(o.dst==some g.d)
def IF(o:Oper):AV:=
 match o.op with
 | .call cl=>match cl.callee with
  | .value (.func f)=>match P.funcs[f]? with
   | some fn=>match cN P A f 0 fn with
    | [.f .b]=> .t (.bool false)
    | [.f (.i k)]=> .t (.int k 0)
    | _=> .top
   | none=> .top
  | _=>match P.underlying o.type with
   | some .bool=> .t (.bool false)
   | some (.int k)=> .t (.int k 0)
   | _=> .top
 | _=> .top
def me{R:Type}(b:Bool)(nt:Nat)(a:Array Oper)(o:Oper)(s:St)(K:St->Option R):Option R:=
 cK a o s λg=>match nL A b o g with
 | some d=>cond (sa nt o d) (cond d.c
   (gw P A O none o (s.o7 d) λv us=>
    if kV P A b nt a o none s v us then K (s.put (de a o.dst) o.dst (some d) v us) else none)
   (K (s.put (de a o.dst) o.dst (some d) (IF P A o) []))) none
 | none=>gw P A O g o s λv us=>
  vO A b o s.h us (if kV P A b nt a o g s v us then K (s.put (de a o.dst) o.dst g v us) else none)
def qS{R:Type}(a:Bool)(nt:Nat)(b:Array Oper):List Oper->St->(St->Option R)->Option R
 | [],s,K=>K s
 | o::r,s,K=>me P A O a nt b o s λs'=>qS a nt b r s' K
def St.clear(s:St):St:=
 {t :=λk=>match s.t k with
    | (none,v)=>(none,v)
    | (some _,_)=>(none, .top)
  h:=s.h}
def qA:List Nat->Bool
 | []=>true
 | d::r=> !r.contains d && qA r
def oO(a:Array Oper):Bool:=a.all λo=>match o.guard with
 | none=>true
 | some (j,_)=>o.after.any λe=>Region.binds .any e && e.on==j
def wT(b:Bool)(a:Array Oper):Bool:=
 !b || (Region.lexB .any a && sU P A a a.size 0 (Array.replicate a.size false) && qA (fg a.toList) && oO a)
def region{R:Type}(nt:Nat)(a:Bool)(b:Array Oper)(s:St)(K:St->Option R):Option R:=
 cond (wT P A a b)
  (qS P A O a nt b b.toList s λs'=>K s'.clear) none
def kU(h:Id->Option ab):AV->AV
 | .own i=>match h i with
  | some (.sl true sz b xs)=> .t (.ad sz b xs)
  | _=> .own i
 | .part i sz off n=>match h i with
  | some (.sl true a b xs)=>if a=sz then .t (.ad sz b ((xs.drop off).take n)) else .part i sz off n
  | _=> .part i sz off n
 | .ref i off=>match h i with
  | some (.ei l)=> .t (.ptr (l.drop off))
  | _=> .ref i off
 | v=>v
def qw(s:St)(k:Nat×Option Nat):Option (AV×aC):=
 match s.t k.1 with
 | (some _,_)=>none
 | (none,v)=>match k.2 with
  | none=>some (kU s.h v,[])
  | some sz=>if sz=0\/sz>=999998 then some (kU s.h v,[]) else match v with
   | .own i=>match s.h i with
    | some (.sl false _ _ _)=>some (.own i,[])
    | _=>none
   | .t (.af b)=>some (.own (.s (1000000+k.1) 0),[(.s (1000000+k.1) 0, .sl false sz b [])])
   | _=>none
def l7(s:St):List (Nat×Option Nat)->Option (List AV×aC)
 | []=>some ([],[])
 | k::r=>(qw s k).bind λp=>(l7 s r).bind λq=>some (p.1::q.1,p.2++q.2)
def tP(f:FuncId)(todo:List Item)(live:List (Nat×Option Nat))(m:Nat×Nat)(s:St):Option (List T):=
 (l7 s live).bind λp=>
  if GL s.h p.2 then
  let h:=aI s.h p.2
  (dX h 1000 ((List.range m.1).map Id.c++bQ p.1) []).bind λseen=>
   O (.node f todo live m) (iH seen p.1) (seen.map λi=>fC seen (h i))
  else none
def vA(h:Id->Option ab):AV->aC
 | .ref i _=>match h i with
  | some (.box cs)=>jW h cs
  | _=> []
 | _=> []
def kK(s:St):List (Nat×Option Nat)->aC
 | []=> []
 | (k,some 0)::r=>fu s.h (s.t k).2++kK s r
 | (k,some (n+1))::r=>cond (Nat.beq n 999998) (vA s.h (s.t k).2) [] ++kK s r
 | (_,none)::r=>kK s r
def tq(s:St):List (Nat×Option Nat)->List (Id×Nat×Nat)
 | []=> []
 | (k,some n)::r=>match cond (Nat.ble 1000000 n) (s.t k).2 .top with
  | .ref i _=>(i,n / 1000000 - 1,n % 1000000)::tq s r
  | _=>tq s r
 | _::r=>tq s r
def pf(col rsz:Nat)(e:Row):List T:=e.cs.set col (match e.own with
 | some p=> .ad rsz p.1 p.2
 | none=> .ak)
def s7(h:Id->Option ab):AV->(Id->Option ab)
 | .ref i _=>match h i with
  | some (.box cs)=>aI h [(i, .box (cs.map (kU h)))]
  | _=>h
 | _=>h
def xl(h:Id->Option ab):AV->(Id->Option ab)
 | .own i=>match h i with
  | some (.rows b sz col rsz _ es)=>cond (aV es) (aI h [(i, .sl true sz b (es.map (pf col rsz)))]) h
  | _=>h
 | _=>h
def xm:(Id->Option ab)->List AV->(Id->Option ab)
 | h,[]=>h
 | h,v::r=>xm (xl h v) r
def xh(h:Id->Option ab):AV->(Id->Option ab)
 | .ref i _=>match h i with
  | some (.box cs)=>xm h cs
  | _=>h
 | _=>h
def oZ(t:Nat->Option Gs×AV):(Id->Option ab)->List (Nat×Option Nat)->(Id->Option ab)
 | h,[]=>h
 | h,(k,some n)::r=>oZ t (cond (Nat.beq n 999999) (s7 h (t k).2) (cond (Nat.beq n 999998) (s7 (xh h (t k).2) (t k).2) h)) r
 | h,(_,none)::r=>oZ t h r
def jK(f:FuncId)(todo:List Item)(live:List (Nat×Option Nat))(m:Nat×Nat)(s:St):Option (List T):=
 (iD 1900000 0 (aI s.h (kK s live)) (tq s live)).bind λus=>
  tP O f todo live m {t:=s.t,h:=oZ s.t (aI (aI s.h (kK s live)) us) live}
def kJ(live:List (Nat×Option Nat))(be:List AV)(blks:List ab):St:=
 {t:=λk=>(none,look live be k)
  h:=fun
   | .c j=>blks[j]?
   | _=>none}
where
 look:List (Nat×Option Nat)->List AV->Nat->AV
 | (k,_)::ks,v::vs,j=>if j=k then v else look ks vs j
 | _,_,_=> .top
def mn:Code->Nat
 | .region id _ _=>id
 | .seq a _=>mn a
 | .block _ b=>mn b
 | .cond _ a _=>mn a
 | _=>1000000
def B3(h:Id->Option ab)(sz:Nat):AV->Option (T×Id)
 | .own i=>match h i with
  | some (.sl false a b xs)=>if a=sz then some (.ad sz b xs,i) else none
  | _=>none
 | _=>none
def hF{R:Type}(m:Nat)(h:Id->Option ab)(r:bS)(v:AV)(K:T->List Id->List Id->Option R):Option R:=
 match r with
 | .f _=>v.t?.bind λx=>aa none x.nf λ_=>K x [] []
 | .t _=>(cY h v).bind λx=>K x [] ((fu h v).map (·.1))
 | .own sz=>match v with
  | .own i=>(B3 h sz (.own i)).bind λp=>K p.1 [p.2] []
  | .part i a 0 n=>match h i with
   | some (.sl false j b xs)=>if j=sz/\a=sz then K (.ad sz b (xs.take n)) [i] [] else none
   | _=>none
  | .t (.af b)=>K (.af b) [] []
  | .t (.ad _ true [])=>K (.af true) [] []
  | _=>none
 | .ref k off=>match v with
  | .ref (.c e) off'=>if e=k/\off'=off/\k < m then K .ak [] [] else none
  | _=>none
 | .same k=>match v with
  | .own (.c e)=>if e=k/\k < m then K .ak [] [] else none
  | _=>none
 | .rows sz col rsz=>match v with
  | .own i=>match h i with
   | some (.rows b a d g _ es)=>if a=sz/\d=col/\g=rsz then
     aa none (if aV es=true then some () else none) λ_=>K (a8 b es) [i] [] else none
   | _=>none
  | _=>none
 | .mp ag ks vk=>match v with
  | .own i=>match h i with
   | some (.mp l o q es)=>if l=ag/\o=ks/\q=vk then K (aY es) [i] [] else none
   | _=>none
  | _=>none
 | .no=>match v with
  | .ref _ _=>K .ak [] []
  | _=>none
 | .agg _=>none
 | .new _=>none
def kG{R:Type}(m:Nat)(h:Id->Option ab):List bS->List AV->(List T->List Id->List Id->Option R)->Option R
 | [],[],K=>K [] [] []
 | r::rs,v::vs,K=>hF m h r v λx a b=>kG m h rs vs λxs d e=>K (x::xs) (a++d) (b++e)
 | _,_,_=>none
def eU{R:Type}(m:Nat)(h:Id->Option ab):List bS->List AV->(List T->List Id->List Id->Option R)->Option R
 | [],[],K=>K [] [] []
 | r::rs,v::vs,K=>match r with
  | .agg l=>match v with
   | .agg cs=>kG m h l cs λxs a b=>eU m h rs vs λf d e=>K (xs++f) (a++d) (b++e)
   | _=>none
  | .new l=>match v with
   | .ref i 0=>match h i with
    | some (.box cs)=>kG m h l cs λxs a b=>eU m h rs vs λf d e=>K (xs++f) (i:: (a++d)) (b++e)
    | _=>none
   | _=>none
  | r=>hF m h r v λx a b=>eU m h rs vs λxs d e=>K (x::xs) (a++d) (b++e)
 | _,_,_=>none
def js{R:Type}(m:Nat)(h:Id->Option ab):Nat->List im->(List T->List Id->List Id->Option R)->Option R
 | _,[],K=>K [] [] []
 | j, .box l::r,K=>match h (.c j) with
  | some (.box cs)=>kG m h l cs λxs a b=>js m h (j+1) r λf d e=>K (xs++f) (.c j:: (a++d)) (b++e)
  | _=>none
 | j, .sl sz::r,K=>match h (.c j) with
  | some (.sl false k b xs)=>if k=sz then js m h (j+1) r λf d e=>K (.ad sz b xs::f) (.c j::d) e else none
  | _=>none
 | j, .mp ag ks vk::r,K=>match h (.c j) with
  | some (.mp g i n es)=>if g=ag/\i=ks/\n=vk then js m h (j+1) r λf d e=>K (aY es::f) (.c j::d) e else none
  | _=>none
 | j, .dead::r,K=>js m h (j+1) r K
def pc{R:Type}(s:St):List ResultVar->(List AV->Option R)->Option R
 | [],K=>K []
 | .tmp k::r,K=>match s.t k with
   | (none,v)=>pc s r λl=>K (v::l)
   | _=>none
 | .cell k t::r,K=>match s.t k with
   | (none,v)=>fj P s none t v λv=>pc s r λl=>K (v::l)
   | _=>none
def s5:List Id->Bool
 | []=>true
 | i::r=> !r.contains i && s5 r
def sC(f:FuncId)(fn:Func)(m:Nat×Nat)(s:St):Option (List T):=
 pc P s fn.results.toList λvs=>
  if m.1= (fA A f m.2).length then
  eU m.1 s.h (cN P A f m.2 fn) vs λxs a b=>js m.1 s.h 0 (fA A f m.2) λg d e=>
   if s5 (a++d) && (b++e).all (λi=> !(a++d).contains i) then some (xs++g) else none
  else none
def qJ:List AV->List Id
 | []=> []
 | .own i::r=>i::qJ r
 | _::r=>qJ r
def wW(h:Id->Option ab)(t:Nat->Option Gs×AV):List ResultVar->List Id
 | []=> []
 | .tmp k::r=>(match(t k).2 with
  | .agg vs=>qJ vs
  | v=>qJ [v])++wW h t r
 | .cell k _::r=>(match(t k).2 with
  | .ref i _=>match h i with
   | some (.box cs)=>qJ cs
   | _=> []
  | _=> [])++wW h t r
def qY{R:Type}:(Id->Option ab)->List Id->(aC->Option R)->Option R
 | _,[],K=>K []
 | h,i::r,K=>match h i with
  | some (.rows b sz col rsz _ es)=>aa none (if aV es=true then some () else none) λ_=>
    qY (aI h [(i, .sl true sz b (es.map (pf col rsz)))]) r λus=>K ((i, .sl true sz b (es.map (pf col rsz)))::us)
  | _=>qY h r K
def sB(f:FuncId)(fn:Func)(m:Nat×Nat)(s:St):Option (List T):=
 cond ((cN P A f m.2 fn).any AY) (sC P A f fn m s)
  (qY s.h (wW s.h s.t fn.results.toList) λus=>sC P A f fn m {t:=s.t,h:=aI s.h us})
def ev(f:FuncId)(fn:Func)(m:Nat×Nat):Nat->Bool->List Item->St->Option (List T)
 | 0,_,_,_=>none
 | n+1,d,todo,s=>match todo with
  | []=>sB P A f fn m s
  | .code c::k=>match c with
   | .skip=>ev f fn m n true k s
   | .seq a b=>ev f fn m n d (.code a:: .code b::k) s
   | .region id g e=>match cond d (A.join f id) none with
    | some live=>jK O f (.code (.region id g e)::k) live m s
    | none=>region P A O fn.ntmps e g s λs'=>ev f fn m n true k s'
   | .cond x a b=>(s.get none x).t?.bind λy=>aa none y.bool? λt=>cond t (ev f fn m n true (.code a::k) s) (ev f fn m n true (.code b::k) s)
   | .block id b=>ev f fn m n d (.code b:: .inBlock id::k) s
   | .loop b=>match A.live f (mn b) with
    | some live=>jK O f (.inLoop b::k) live m s
    | none=>none
   | .exit id=>match exitTo id k with
    | some i=>ev f fn m n true i s
    | none=>none
   | .ret=>sB P A f fn m s
   | _=>none
  | .inBlock _::k=>ev f fn m n true k s
  | .inLoop b::k=>match A.live f (mn b) with
    | some live=>jK O f (.inLoop b::k) live m s
    | none=>none
  | _::_=>none
def iz:Nat:=100000
def qd(be:List AV)(a:List ab):St:=
 {t:=λk=>(none,be.getD k .top)
  h:=fun
   | .c j=>a[j]?
   | _=>none}
def aA:ay
 | .call f,be,a=>match A.ext f be a with
  | some r=>some r
  | none=>match P.funcs[f]? with
  | some fn=>match fn.body with
   | some c=>if be.length<=fn.ntmps then ev P A O f fn (a.length,ft a.head?) iz true [.code c] (qd be a) else none
   | none=>none
  | none=>none
 | .node f todo live m,be,a=>match P.funcs[f]? with
  | some fn=>match todo with
   | .inLoop b::k=>ev P A O f fn m iz true (.code b:: .inLoop b::k) (kJ live be a)
   | todo=>ev P A O f fn m iz false todo (kJ live be a)
  | none=>none
end
def nc(d:Bool)(r:Nat):Code->List Item->Option (List Item)
 | .seq a b,k=>match nc d r a (.code b::k) with
  | some t=>some t
  | none=>nc d r b k
 | .block id b,k=>nc d r b (.inBlock id::k)
 | .loop b,k=>if d && mn b==r then some (.inLoop b::k) else nc d r b (.inLoop b::k)
 | .cond _ a b,k=>match nc d r a k with
  | some t=>some t
  | none=>nc d r b k
 | .region id f e,k=>if !d && id==r then some (.code (.region id f e)::k) else none
 | _,_=>none
def bY(P:Program)(f:FuncId)(a:Bool)(r:Nat)(live:List (Nat×Option Nat))(m:Nat×Nat):Key:=
 .node f (match P.funcs[f]? with
  | some fn=>match fn.body with
   | some c=>(nc a r c []).getD []
   | none=> []
  | none=> []) live m
def gI(P:Program)(A:cq):Nat->ay
 | 0=>λ_ _ _=>none
 | n+1=>aA P A (gI P A n)
open Classical in
noncomputable def jB(P:Program)(A:cq):ay:=λk vs a=>
 if h:∃n r,gI P A n k vs a=some r then some (Classical.choose (Np h)) else none
open Go
section
variable (w:World) (A:Nat->Prop)
mutual
def ax:T->Value->Prop
 | .int k n,v=>v= .int k n
 | .bool b,v=>v= .bool b
 | .str s,v=>v= .string s
 | .ad sz b xs,v=>(b=true/\xs= []/\v= .slice none 0 0)\/
   (b=false/\∃ae off sp cap,v= .slice (some ⟨ae,off,sp⟩) xs.length cap/\xs.length<=cap/\(xs= []\/(sp=none/\A ae))/\aZ ae sz off xs)
 | .af b,v=>(b=true/\v= .slice none 0 0)\/(b=false/\∃ae off sp,v= .slice (some ⟨ae,off,sp⟩) 0 0)
 | .ptr cs,v=>∃ae off,v= .pointer (some ⟨ae,off,none⟩)/\(cs= []\/A ae)/\aX ae off cs
 | .ak,v=>v= .pointer none
 | .s4,v=>v= .map none
 | .sZ,v=>v= .nilFunc
 | .wA,v=>v= .nilIface
 | .cm f,v=>v= .func (.func f) #[] #[]
 | .any,v=>v.oneCell'=true/\v.cells= #[v]
def aZ(ae sz:Nat):Nat->List (List T)->Prop
 | _,[]=>True
 | off,cs::xs=>cs.length=sz/\aX ae off cs/\aZ ae sz (off+sz) xs
def aX(ae:Nat):Nat->List T->Prop
 | _,[]=>True
 | off,c::cs=>(∃v,w.cell? ⟨ae,off,none⟩=some v/\ax c v)/\aX ae (off+1) cs
end
def aQ:List T->List Value->Prop
 | [],vs=>vs= []
 | c::cs,vs=>∃v r,vs=v::r/\ax w A c v/\aQ cs r
end
section
variable {w w':World} {A A':Nat->Prop}
theorem kD{a:Addr}(h:w'.heap[a.block]? =w.heap[a.block]?):w'.cell? a=w.cell? a:=by simp [World.cell?,h]
mutual
theorem ax.mono(h:∀b,A b->A' b/\w'.heap[b]? =w.heap[b]?):∀(t:T) (v:Value),ax w A t v->ax w' A' t v
 | .int k n,v,a=>by simpa [ax] using a
 | .bool b,v,a=>by simpa [ax] using a
 | .str s,v,a=>by simpa [ax] using a
 | .af b,v,a=>by simpa [ax] using a
 | .ak,v,a=>by simpa [ax] using a
 | .s4,v,a=>by simpa [ax] using a
 | .sZ,v,a=>by simpa [ax] using a
 | .wA,v,a=>by simpa [ax] using a
 | .cm f,v,a=>by simpa [ax] using a
 | .any,v,a=>by simp only [ax] at a⊢;exact a
 | .ad sz b xs,v,a=>by
  simp only [ax] at a⊢;rcases a with a | ⟨j,ae,off,sp,cap,g,e,d,i⟩
  .exact .inl a
  .refine .inr ⟨j,ae,off,sp,cap,g,e, ?_, ?_⟩
   .rcases d with d | d
    .exact .inl d
    .exact .inr ⟨d.1,(h _ d.2).1⟩
   .rcases d with d | d
    .subst d;simp [aZ]
    .exact aZ.mono h ae sz d.2 off xs i
 | .ptr cs,v,a=>by
  simp only [ax] at a⊢;obtain⟨ae,off,g,e,d⟩:=a;refine⟨ae,off,g, ?_, ?_⟩
  .rcases e with e | e
   .exact .inl e
   .exact .inr (h _ e).1
  .rcases e with e | e
   .subst e;simp [aX]
   .exact aX.mono h ae e off cs d
theorem aZ.mono(h:∀b,A b->A' b/\w'.heap[b]? =w.heap[b]?)(ae sz:Nat)(d:A ae):∀(off:Nat) (xs:List (List T)),aZ w A ae sz off xs->aZ w' A' ae sz off xs
 | _,[],_=>by simp [aZ]
 | off,cs::xs,a=>by simp only [aZ] at a⊢;exact⟨a.1,aX.mono h ae d off cs a.2.1,aZ.mono h ae sz d (off+sz) xs a.2.2⟩
theorem aX.mono(h:∀b,A b->A' b/\w'.heap[b]? =w.heap[b]?)(ae:Nat)(d:A ae):∀(off:Nat) (cs:List T),aX w A ae off cs->aX w' A' ae off cs
 | _,[],_=>by simp [aX]
 | off,c::cs,e=>by simp only [aX] at e⊢;obtain⟨⟨v,f,g⟩,a⟩:=e;exact⟨⟨v,by rw [kD (w:=w) (by exact(h ae d).2)];exact f,ax.mono h c v g⟩,aX.mono h ae d (off+1) cs a⟩
end
theorem aX.kR(h:∀b,A b->A' b/\w'.heap[b]? =w.heap[b]?)(ae:Nat)(d:w'.heap[ae]? =w.heap[ae]?):∀(off:Nat) (cs:List T),aX w A ae off cs->aX w' A' ae off cs
 | _,[],_=>by simp [aX]
 | off,c::cs,e=>by simp only [aX] at e⊢;obtain⟨⟨v,f,g⟩,a⟩:=e;exact⟨⟨v,by rw [kD (w:=w) (by exact d)];exact f,ax.mono h c v g⟩,aX.kR h ae d (off+1) cs a⟩
theorem aZ.kR(h:∀b,A b->A' b/\w'.heap[b]? =w.heap[b]?)(ae sz:Nat)(d:w'.heap[ae]? =w.heap[ae]?):∀(off:Nat) (xs:List (List T)),aZ w A ae sz off xs->aZ w' A' ae sz off xs
 | _,[],_=>by simp [aZ]
 | off,cs::xs,a=>by simp only [aZ] at a⊢;exact⟨a.1,aX.kR h ae d off cs a.2.1,aZ.kR h ae sz d (off+sz) xs a.2.2⟩
theorem aQ.mono(h:∀b,A b->A' b/\w'.heap[b]? =w.heap[b]?):∀(cs:List T) (vs:List Value),aQ w A cs vs->aQ w' A' cs vs
 | [],_,f=>f
 | c::cs,vs,⟨v,r,e,a,d⟩=>⟨v,r,e,ax.mono h c v a,aQ.mono h cs r d⟩
theorem aZ.get{ae sz:Nat}:∀{off:Nat} {xs:List (List T)},aZ w A ae sz off xs->∀{k:Nat} {cs:List T},xs[k]? =some cs->cs.length=sz/\aX w A ae (off+k * sz) cs
 | off,cs::xs,h,0,a,e=>by simp only [aZ] at h;simp at e;subst e;exact⟨h.1,by simpa using h.2.1⟩
 | off,cs::xs,h,k+1,a,e=>by
  simp only [aZ] at h;have:=aZ.get h.2.2 (k:=k) (cs:=a) (by simpa using e);refine⟨this.1, ?_⟩;have b:off+ (k+1) * sz=off+sz+k * sz:=by rw [Mn];omega
  rw [b];exact this.2
theorem aX.get{ae:Nat}:∀{off:Nat} {cs:List T},aX w A ae off cs->∀{k:Nat} {c:T},cs[k]? =some c->∃v,w.cell? ⟨ae,off+k,none⟩=some v/\ax w A c v
 | off,c::cs,h,0,c',e=>by simp only [aX] at h;simp at e;subst e;exact h.1
 | off,c::cs,h,k+1,c',e=>by
  simp only [aX] at h;have:=aX.get h.2 (k:=k) (c:=c') (by simpa using e);have a:off+1+k=off+ (k+1):=by omega
  rw [a] at this;exact this
theorem aX.drop{ae:Nat}:∀{off:Nat} {cs:List T},aX w A ae off cs->∀(n:Nat),aX w A ae (off+n) (cs.drop n)
 | _,_,h,0=>by simpa using h
 | _,[],_,n+1=>by simp [aX]
 | off,c::cs,h,n+1=>by
  simp only [aX] at h;have:=aX.drop h.2 n;have a:off+1+n=off+ (n+1):=by omega
  rw [a] at this;simpa using this
theorem aZ.drop{ae sz:Nat}:∀{off:Nat} {xs:List (List T)},aZ w A ae sz off xs->∀(n:Nat),aZ w A ae sz (off+n * sz) (xs.drop n)
 | _,_,h,0=>by simpa using h
 | _,[],_,n+1=>by simp [aZ]
 | off,cs::xs,h,n+1=>by
  simp only [aZ] at h;have:=aZ.drop h.2.2 n;have a:off+sz+n * sz=off+ (n+1) * sz:=by rw [Mn];omega
  rw [a] at this;simpa using this
theorem aZ.take{ae sz:Nat}:∀{off:Nat} {xs:List (List T)},aZ w A ae sz off xs->∀(n:Nat),aZ w A ae sz off (xs.take n)
 | _,_,_,0=>by simp [aZ]
 | _,[],_,n+1=>by simp [aZ]
 | off,cs::xs,h,n+1=>by simp only [aZ] at h;simp only [NT,aZ];exact⟨h.1,h.2.1,aZ.take h.2.2 n⟩
theorem aZ.append{ae sz:Nat}:∀{off:Nat} {xs a:List (List T)},aZ w A ae sz off xs->aZ w A ae sz (off+xs.length * sz) a->aZ w A ae sz off (xs++a)
 | off,[],a,_,h=>by simpa using h
 | off,cs::xs,a,h,h'=>by
  simp only [aZ] at h;simp only [Mi,aZ];refine⟨h.1,h.2.1,aZ.append h.2.2 ?_⟩;have b:off+sz+xs.length * sz=off+ (cs::xs).length * sz:=by simp [Mn];omega
  rw [b];exact h'
theorem ax.nC{t:T}{v:Value}(h:ax w A t v):v.oneCell'=true/\v.cells= #[v]:=by
 cases t <;> simp only [ax] at h
 case ad=>rcases h with⟨_,_,rfl⟩ | ⟨_,_,_,_,_,rfl,_⟩ <;> exact⟨rfl,rfl⟩
 case af=>rcases h with⟨_,rfl⟩ | ⟨_,_,_,_,rfl⟩ <;> exact⟨rfl,rfl⟩
 case ptr=>obtain⟨_,_,rfl,_⟩:=h;exact⟨rfl,rfl⟩
 case any=>exact h
 all_goals subst h;exact⟨rfl,rfl⟩
theorem aQ.length:∀{cs:List T} {vs:List Value},aQ w A cs vs->vs.length=cs.length
 | [],_,h=>by simp only [aQ] at h;simp [h]
 | c::cs,vs,⟨v,r,e,_,h⟩=>by subst e;simp [aQ.length h]
end
section
variable (w:World) (A:Nat->Prop) (ρ:Id->Option Value)
mutual
def ah:AV->Value->Prop
 | .top,_=>True
 | .t x,v=>ax w A x v
 | .jL vs,v=>∃d:List Value,v= .tuple d.toArray/\az vs d
 | .agg vs,v=>∃d:List Value,v= .agg d.toArray/\az vs d/\∀u∈d,u.oneCell'=true/\u.cells= #[u]
 | .ref i off,v=>∃b,ρ i=some (.pointer (some ⟨b,0,none⟩))/\v= .pointer (some ⟨b,off,none⟩)
 | .el i sz k off,v=>∃b o L cap,ρ i=some (.slice (some ⟨b,o,none⟩) L cap)/\v= .pointer (some ⟨b,o+k * sz+off,none⟩)
 | .own i,v=>ρ i=some v
 | .part i sz off n,v=>∃a L cap e,ρ i=some (.slice a L cap)/\off+n<=L/\L<=cap/\v= .slice e n (cap - off)/\
   ((off=0/\e=a)\/(off=cap/\(e=none↔a=none)/\True)\/∃b o,a=some ⟨b,o,none⟩/\e=some ⟨b,o+off * sz,none⟩)
 | .row i n,v=>ρ (.g i n)=some v
 | .rel i sz n k off,v=>∃b o L cap,ρ (.g i n)=some (.slice (some ⟨b,o,none⟩) L cap)/\v= .pointer (some ⟨b,o+k * sz+off,none⟩)
 | .fn f xs m,v=>∃j l:List Value,v= .func (.func f) j.toArray l.toArray/\az xs j/\az m l
def az:List AV->List Value->Prop
 | [],vs=>vs= []
 | a::b,vs=>∃v r,vs=v::r/\ah a v/\az b r
end
end
section
variable {w w':World} {A A':Nat->Prop} {ρ ρ':Id->Option Value}
mutual
theorem ah.mono(h:∀b,A b->A' b/\w'.heap[b]? =w.heap[b]?)(g:∀i v,ρ i=some v->ρ' i=some v):∀(a:AV) (v:Value),ah w A ρ a v->ah w' A' ρ' a v
 | .top,_,_=>by simp [ah]
 | .t x,v,d=>by simp only [ah] at d⊢;exact ax.mono h x v d
 | .jL vs,v,d=>by simp only [ah] at d⊢;obtain⟨l,e,j⟩:=d;exact⟨l,e,az.mono h g vs l j⟩
 | .agg vs,v,d=>by simp only [ah] at d⊢;obtain⟨l,e,j,y⟩:=d;exact⟨l,e,az.mono h g vs l j,y⟩
 | .ref i off,v,d=>by simp only [ah] at d⊢;obtain⟨b,e,j⟩:=d;exact⟨b,g _ _ e,j⟩
 | .el i sz k off,v,d=>by simp only [ah] at d⊢;obtain⟨b,o,L,cap,e,j⟩:=d;exact⟨b,o,L,cap,g _ _ e,j⟩
 | .own i,v,d=>by simp only [ah] at d⊢;exact g _ _ d
 | .part i sz off n,v,d=>by simp only [ah] at d⊢;obtain⟨a,L,cap,q,e,j⟩:=d;exact⟨a,L,cap,q,g _ _ e,j⟩
 | .row i n,v,d=>by simp only [ah] at d⊢;exact g _ _ d
 | .rel i sz n k off,v,d=>by simp only [ah] at d⊢;obtain⟨b,o,L,cap,e,j⟩:=d;exact⟨b,o,L,cap,g _ _ e,j⟩
 | .fn f xs z,v,d=>by simp only [ah] at d⊢;obtain⟨m,p,e,r,u⟩:=d;exact⟨m,p,e,az.mono h g xs m r,az.mono h g z p u⟩
theorem az.mono(h:∀b,A b->A' b/\w'.heap[b]? =w.heap[b]?)(g:∀i v,ρ i=some v->ρ' i=some v):∀(d:List AV) (vs:List Value),az w A ρ d vs->az w' A' ρ' d vs
 | [],_,f=>by simpa [az] using f
 | a::d,vs,f=>by simp only [az] at f⊢;obtain⟨v,r,e,j,k⟩:=f;exact⟨v,r,e,ah.mono h g a v j,az.mono h g d r k⟩
end
theorem az.length:∀{b:List AV} {vs:List Value},az w A ρ b vs->vs.length=b.length
 | [],_,h=>by simp only [az] at h;simp [h]
 | a::b,vs,h=>by simp only [az] at h;obtain⟨v,r,e,_,h⟩:=h;subst e;simp [az.length h]
theorem az.get:∀{b:List AV} {vs:List Value},az w A ρ b vs->∀{k:Nat} {a:AV},b[k]? =some a->∃v,vs[k]? =some v/\ah w A ρ a v
 | a::b,vs,h,0,d,e=>by simp only [az] at h;obtain⟨v,r,rfl,f,_⟩:=h;simp at e;subst e;exact⟨v,rfl,f⟩
 | a::b,vs,h,k+1,d,e=>by simp only [az] at h;obtain⟨v,r,rfl,_,h⟩:=h;obtain⟨u,i,g⟩:=az.get h (k:=k) (a:=d) (by simpa using e);exact⟨u,by simpa using i,g⟩
theorem az.append:∀{b d:List AV} {vs us:List Value},az w A ρ b vs->az w A ρ d us->az w A ρ (b++d) (vs++us)
 | [],_,_,_,h,h'=>by simp only [az] at h;subst h;simpa using h'
 | a::b,d,vs,us,h,h'=>by simp only [az] at h;obtain⟨v,r,rfl,e,h⟩:=h;simp only [Mi,az];exact⟨v,r++us,rfl,e,az.append h h'⟩
theorem az.drop:∀{b:List AV} {vs:List Value},az w A ρ b vs->∀n,az w A ρ (b.drop n) (vs.drop n)
 | _,_,h,0=>by simpa using h
 | [],vs,h,n+1=>by simp only [az] at h;subst h;simp [az]
 | a::b,vs,h,n+1=>by simp only [az] at h;obtain⟨v,r,rfl,d,h⟩:=h;simpa using az.drop h n
theorem az.take:∀{b:List AV} {vs:List Value},az w A ρ b vs->∀n,az w A ρ (b.take n) (vs.take n)
 | _,_,_,0=>by simp [az]
 | [],vs,h,n+1=>by simp only [az] at h;subst h;simp [az]
 | a::b,vs,h,n+1=>by simp only [az] at h;obtain⟨v,r,rfl,d,h⟩:=h;simp only [NT,az];exact⟨v,r.take n,rfl,d,az.take h n⟩
theorem az.jA:∀{cs:List T} {vs:List Value},aQ w A cs vs->az w A ρ (cs.map .t) vs
 | [],_,h=>by simpa [az,aQ] using h
 | c::cs,vs,⟨v,r,e,a,b⟩=>by simp only [L6,az];exact⟨v,r,e,by simpa [ah] using a,az.jA b⟩
theorem aQ.ja:∀{b:List AV} {cs:List T} {vs:List Value},dA b=some cs->az w A ρ b vs->aQ w A cs vs
 | [],cs,vs,h,d=>by simp only [dA,Lo] at h;subst h;simpa [aQ,az] using d
 | a::b,cs,vs,h,d=>by
  cases a <;> simp only [dA,reduceCtorEq] at h
  case t x=>
   cases hl:dA b with
   | none=>simp [hl] at h
   | some l=>simp only [hl,Lt,Lo] at h;subst h;simp only [az,ah] at d;obtain⟨v,r,e,f,g⟩:=d;exact⟨v,r,e,f,aQ.ja hl g⟩
end
open Go
section
variable {R S α:Type}
theorem bw[Inhabited α](c:Option Bool)(m:Option α)(k:α->Option R)(f:R->Option S):(aa c m k).bind f=aa c m λa=>(k a).bind f:=by
 unfold aa;cases m with
 | some a=>rfl
 | none=>cases c with
  | none=>rfl
  | some b=>cases b <;> rfl
theorem aL[Inhabited α]{c:Option Bool}{m:Option α}{k:α->Option R}{r:R}(h:aa c m k=some r)(b:c=none\/c=some true):∃a,m=some a/\k a=some r:=by
 unfold aa at h;cases m with
 | some a=>exact⟨a,rfl,h⟩
 | none=>rcases b with rfl | rfl <;> simp at h
theorem jq(c:Bool)(x y:Option R)(f:R->Option S):(cond c x y).bind f=cond c (x.bind f) (y.bind f):=by cases c <;> rfl
theorem cu(c:Prop)[Decidable c](x y:Option R)(f:R->Option S):(if c then x else y).bind f=if c then x.bind f else y.bind f:=by split <;> rfl
theorem bp(f:R->Option S):(none:Option R).bind f=none:=rfl
theorem xz(c:Option Bool):∀(n:Nat) (cs:List T) (K:List T->Option R) (f:R->Option S),(mu c n cs K).bind f=mu c n cs λx=>(K x).bind f
 | 0,_,_,_=>rfl
 | n+1,cs,K,f=>by simp only [mu,bw,xz c n]
theorem lA(k:Ck)(c:Option Bool)(x:T)(K:T->Option R)(f:R->Option S):(dY k c x K).bind f=dY k c x λx=>(K x).bind f:=by unfold dY;cases k <;> simp only [bw]
theorem pC(c:Option Bool):∀(ks:List Ck) (xs:List T) (K:List T->Option R) (f:R->Option S),(dU c ks xs K).bind f=dU c ks xs λx=>(K x).bind f
 | [],_,_,_=>rfl
 | _::_,[],_,_=>rfl
 | k::ks,x::xs,K,f=>by simp only [dU,lA,pC c ks xs]
theorem D6(op:BinOp)(k:IntKind)(c:Option Bool)(x y:T)(K:T->Option R)(f:R->Option S):(n7 op k c x y K).bind f=n7 op k c x y λx=>(K x).bind f:=by unfold n7;cases op <;> simp only [bw,bp]
theorem Kz(op:BinOp)(k ky:IntKind)(c:Option Bool)(x y:T)(K:T->Option R)(f:R->Option S):(po op k ky c x y K).bind f=po op k ky c x y λx=>(K x).bind f:=by unfold po;cases op <;> simp only [bw,bp]
theorem KT(op:BinOp)(c:Option Bool)(x y:T)(K:T->Option R)(f:R->Option S):(px op c x y K).bind f=px op c x y λx=>(K x).bind f:=by unfold px;cases op <;> simp only [bw,bp]
theorem z6(P:Program)(c:Option Bool)(t:TypeId)(x y:T)(K:Bool->Option R)(f:R->Option S):(jt P c t x y K).bind f=jt P c t x y λx=>(K x).bind f:=by unfold jt;split <;> simp only [bw,bp]
theorem z7(P:Program)(c:Option Bool):∀(ts:List TypeId) (xs a:List T) (K:Bool->Option R) (f:R->Option S),(dF P c ts xs a K).bind f=dF P c ts xs a λx=>(K x).bind f
 | [],[],[],_,_=>rfl
 | t::ts,x::xs,y::a,K,f=>by simp only [dF,z6,z7 P c ts xs a]
 | [],[],_::_,_,_=>rfl
 | [],_::_,_,_,_=>rfl
 | _::_,[],_,_,_=>rfl
 | _::_,_::_,[],_,_=>rfl
theorem Ed(P:Program)(op:BinOp)(t ty:TypeId)(c:Option Bool)(x y:T)(K:T->Option R)(f:R->Option S):(n9 P op t ty c x y K).bind f=n9 P op t ty c x y λx=>(K x).bind f:=by unfold n9;cases op <;> simp only [] <;> first | rfl | (split <;> simp only [D6,Kz,KT,bp])
theorem Gr(P:Program)(c:Option Bool)(t:TypeId)(x y:AV)(K:Bool->Option R)(f:R->Option S):(na P c t x y K).bind f=na P c t x y λx=>(K x).bind f:=by unfold na;split <;> simp only [jq,bw,z6,z7,LJ,bp]
theorem K7(P:Program)(op:UnOp)(t:TypeId)(c:Option Bool)(x:T)(K:T->Option R)(f:R->Option S):(pD P op t c x K).bind f=pD P op t c x λx=>(K x).bind f:=by unfold pD;split <;> simp only [bw,bp]
theorem qx(P:Program)(t:TypeId)(c:Option Bool)(cs:List T)(K:AV->Option R)(f:R->Option S):(iX P t c cs K).bind f=iX P t c cs λx=>(K x).bind f:=by unfold iX;simp only [jq,bw,xz,lA,pC]
theorem Bq(P:Program)(t:TypeId)(cs:List AV)(K:AV->Option R)(f:R->Option S):(ke P t cs K).bind f=ke P t cs λx=>(K x).bind f:=by unfold ke;simp only [jq,LJ]
theorem w7(h:Id->Option ab)(c:Option Bool)(i:Id)(n:Nat)(K:Nat->Bool->List (List T)->Option R)(f:R->Option S):(jG h c i n K).bind f=jG h c i n λa b l=>(K a b l).bind f:=by unfold jG;split <;> simp only [bw,bp]
theorem Hm(P:Program)(t:TypeId)(c:Option Bool)(i:Id)(sz col off:Nat)(e:Row)(K:AV->Option R)(f:R->Option S):(oS P t c i sz col off e K).bind f=oS P t c i sz col off e λx=>(K x).bind f:=by unfold oS;simp only [jq,cu,bw,xz,lA,pC,bp]
theorem Hl(P:Program)(s:St)(c:Option Bool)(t:TypeId)(a:AV)(K:AV->Option R)(f:R->Option S):(fj P s c t a K).bind f=fj P s c t a λx=>(K x).bind f:=by
 unfold fj;rw [jq];congr 1;split
 .split <;> simp only [Bq,qx,bp]
 .split <;> simp only [cu,bw,qx,Hm,bp]
 .simp only [w7,cu,bw,qx,bp]
 .simp only [bw,qx]
 .rfl
theorem KQ(P:Program)(s:St)(t:TypeId)(a v:AV)(K:aC->Option R)(f:R->Option S):(gQ P s t a v K).bind f=gQ P s t a v λx=>(K x).bind f:=by
 unfold gQ;rw [jq];congr 1;split
 .split <;> simp only [cu,bp]
 .split
  .simp only [LJ,cu,bw,bp]
  .split
   .split <;> simp only [cu,bw,bp]
   .rfl
  .rfl
 .split <;> simp only [LJ,cu,bw,bp]
 .rfl
theorem nr(c:Option Bool)(i:Int)(n:Nat)(K:Option R)(f:R->Option S):(iB c i n K).bind f=iB c i n (K.bind f):=by unfold iB;simp only [bw]
theorem G3(P:Program)(s:St)(c:Option Bool)(t:TypeId)(x:AV)(i:Int)(K:AV->Option R)(f:R->Option S):(hH P s c t x i K).bind f=hH P s c t x i λx=>(K x).bind f:=by
 unfold hH;split
 .split
  .split <;> simp only [cu,nr,bp]
  .simp only [w7,cu,nr,bp]
  .split <;> simp only [cu,nr,bp]
  .simp only [bw,nr]
  .rfl
 .split
  .rw [nr];congr 1;split <;> simp only [bw,bp]
  .rfl
theorem GC(P:Program)(c:Option Bool)(t:TypeId)(x:AV)(k:Nat)(K:AV->Option R)(f:R->Option S):(oI P c t x k K).bind f=oI P c t x k λx=>(K x).bind f:=by
 unfold oI;split
 .rw [cu];congr 1;split <;> simp only [bw,bp]
 .rfl
theorem GA(P:Program)(t:TypeId)(x:AV)(k:Nat)(K:AV->Option R)(f:R->Option S):(oH P t x k K).bind f=oH P t x k λx=>(K x).bind f:=by
 unfold oH;split
 .split <;> simp only [Bq,bp]
 .rfl
theorem Hd(P:Program)(s:St)(c:Option Bool)(t:TypeId)(x:AV)(K:AV->Option R)(f:R->Option S):(kP P s c t x K).bind f=kP P s c t x λx=>(K x).bind f:=by
 unfold kP;split
 .split <;> simp only [bw,bp]
 .rfl
 .split
  .split <;> rfl
  .simp only [w7]
  .rfl
  .simp only [bw]
  .rfl
 .rfl
theorem Eh(s:St)(c:Option Bool)(g:Option Gs)(o:Option Operand)(K:Option Int->Option R)(f:R->Option S):(gz s c g o K).bind f=gz s c g o λx=>(K x).bind f:=by
 unfold gz;split
 .rfl
 .simp only [LJ,bw]
theorem KE(P:Program)(s:St)(c:Option Bool)(t:TypeId)(x:AV)(b a d:Option Int)(K:AV->Option R)(f:R->Option S):(lu P s c t x b a d K).bind f=lu P s c t x b a d λx=>(K x).bind f:=by
 unfold lu;split
 .split <;> simp only [bw,bp]
 .split
  .split
   .split <;> simp only [cu,bw,bp]
   .split <;> simp only [cu,bw,bp]
   .simp only [cu,bw,bp]
   .rfl
  .split
   .simp only [cu,bw,bp]
   .split <;> simp only [cu,bw,bp]
   .rfl
 .rfl
theorem D0(P:Program)(s:St)(t:TypeId)(sz:Nat)(a:List T)(y:AV)(K:List (List T)->Option R)(f:R->Option S):(jO P s t sz a y K).bind f=jO P s t sz a y λx=>(K x).bind f:=by unfold jO;split <;> simp only [LJ,cu,bw,bp]
theorem DW(P:Program)(s:St)(d:Nat)(e:TypeId)(i:Id)(sz col rsz a:Nat)(es:List Row)(j:Id)(cs:List AV)(K:AV->aC->Option R)(f:R->Option S):(mP P s d e i sz col rsz a es j cs K).bind f=mP P s d e i sz col rsz a es j cs λv u=>(K v u).bind f:=by
 unfold mP;rw [cu];congr 1;rw [LJ];congr 1;funext l;split
 .split <;> simp only [cu,bw,bp]
 .split <;> simp only [cu,bw,bp]
 .rfl
theorem DU(P:Program)(s:St)(d:Nat)(rw:Bool)(t ty:TypeId)(x y:AV)(K:AV->aC->Option R)(f:R->Option S):(iQ P s d rw t ty x y K).bind f=iQ P s d rw t ty x y λv u=>(K v u).bind f:=by
 unfold iQ;rw [LJ];congr 1;funext e;rw [LJ];congr 1;funext b;rw [cu];congr 1;split
 .split <;> simp only [DW,bp]
 .rw [D0];congr 1;funext a;split
  .split <;> simp only [cu,bw,bp]
  .split <;> simp only [cu,bw,bp]
  .simp only [LJ,bw]
  .rfl
theorem Hw(P:Program)(d:Nat)(t:TypeId)(ns:Nat)(n m:T)(K:AV->aC->Option R)(f:R->Option S):(oT P d t ns n m K).bind f=oT P d t ns n m λv u=>(K v u).bind f:=by unfold oT;rw [LJ];congr 1;funext e;rw [LJ];congr 1;funext a;rw [bw];congr 1;funext n;rw [bw];congr 1;funext m;rw [cu];congr 1;rw [bw];congr 1;funext _;rw [jq];congr 1;split <;> simp only [cu,bp]
theorem vS(P:Program)(k:TypeId)(c:Option Bool)(v:AV)(K:Bool->List Ck->List T->Option R)(f:R->Option S):(l5 P k c v K).bind f=l5 P k c v λa b l=>(K a b l).bind f:=by unfold l5;rw [LJ];congr 1;funext q;split <;> simp only [pC,LJ,cu,bp]
theorem Ht(P:Program)(s:St)(c:Option Bool)(t:TypeId)(x k:AV)(ok:Bool)(K:AV->Option R)(f:R->Option S):(kQ P s c t x k ok K).bind f=kQ P s c t x k ok λv=>(K v).bind f:=by
 unfold kQ;rw [LJ];congr 1;funext q;rw [LJ];congr 1;funext z;rw [vS];congr 1;funext a b l;split
 .split
  .rw [cu];simp only [lA,bp]
  .rfl
 .rfl
theorem Hy(P:Program)(d:Nat)(t:TypeId)(K:AV->aC->Option R)(f:R->Option S):(oU P d t K).bind f=oU P d t λv u=>(K v u).bind f:=by unfold oU;simp only [LJ,cu,bp]
theorem EI(P:Program)(s:St)(t:TypeId)(x k:AV)(K:aC->Option R)(f:R->Option S):(kE P s t x k K).bind f=kE P s t x k λu=>(K u).bind f:=by
 unfold kE;rw [LJ];congr 1;funext q;rw [vS];congr 1;funext a b l;split
 .split
  .rw [cu];rfl
  .rfl
 .rfl
theorem I5(P:Program)(s:St)(t:TypeId)(x k v:AV)(K:aC->Option R)(f:R->Option S):(kY P s t x k v K).bind f=kY P s t x k v λu=>(K u).bind f:=by
 unfold kY;rw [LJ];congr 1;funext q;rw [vS];congr 1;funext a b l;split
 .split
  .rw [cu];simp only [LJ,lA,bp]
  .rfl
 .rfl
theorem wm(k:IntKind)(c:Option Bool)(b:Bool):∀(l:List T) (a:Int) (K:T->Option R) (f:R->Option S),(l8 k c b a l K).bind f=l8 k c b a l λx=>(K x).bind f
 | [],_,_,_=>rfl
 | y::r,a,K,f=>by simp only [l8,bw,wm k c b r]
theorem Ez(P:Program)(c:Option Bool)(a b:TypeId)(x:T)(K:T->Option R)(f:R->Option S):(oh P c a b x K).bind f=oh P c a b x λx=>(K x).bind f:=by unfold oh;split <;> simp only [bw,bp]
theorem yB(ids:List Id)(d:Nat)(c:Option Bool)(j:Nat)(r:bS)(x:T)(K:AV->aC->Nat->Option R)(f:R->Option S):(jR ids d c j r x K).bind f=jR ids d c j r x λv u j=>(K v u j).bind f:=by
 unfold jR;split
 .exact lA _ _ _ _ _
 .exact lA _ _ _ _ _
 .split <;> simp only [bw,bp]
 .split <;> simp only [bp]
 .split <;> simp only [bp]
 .split <;> simp only [bw,bp]
 .split <;> simp only [bw,bp]
 .rfl
 .rfl
 .rfl
theorem rX(ids:List Id)(d:Nat)(c:Option Bool):∀(rs:List bS) (j:Nat) (xs:List T) (K:List AV->aC->Nat->Option R) (f:R->Option S),(iy ids d c j rs xs K).bind f=iy ids d c j rs xs λv u j=>(K v u j).bind f
 | [],_,_,_,_=>rfl
 | r::rs,j,xs,K,f=>by simp only [iy,bw,yB,rX ids d c rs]
theorem mU(ids:List Id)(d:Nat)(c:Option Bool):∀(rs:List bS) (j:Nat) (xs:List T) (K:List AV->aC->Nat->Option R) (f:R->Option S),(dt ids d c j rs xs K).bind f=dt ids d c j rs xs λv u j=>(K v u j).bind f
 | [],_,_,_,_=>rfl
 | r::rs,j,xs,K,f=>by
  cases r
  case new l=>cases c <;> simp only [dt,rX,mU ids d _ rs,bp]
  all_goals simp only [dt,bw,yB,rX,mU ids d c rs]
theorem rZ(all:List Id)(d:Nat):∀(rs:List im) (a:List Id) (j:Nat) (xs:List T) (K:aC->Option R) (f:R->Option S),(eT all d j a rs xs K).bind f=eT all d j a rs xs λu=>(K u).bind f
 | [],[],_,_,_,_=>rfl
 | [],_::_,_,_,_,_=>rfl
 | r::rs,[],_,_,_,_=>by cases r <;> rfl
 | r::rs,i::a,j,xs,K,f=>by cases r <;> simp only [eT,bw,rX,rZ all d rs]
theorem K2(P:Program)(c:Option Bool)(t:TypeId)(v:AV)(K:AV->Option R)(f:R->Option S):(kx P c t v K).bind f=kx P c t v λx=>(K x).bind f:=by
 unfold kx;split
 .exact lA _ _ _ _ _
 .split
  .exact pC _ _ _ _ _
  .rfl
 .rfl
theorem xC(P:Program)(c:Option Bool):∀(ts:List TypeId) (vs:List AV) (K:List AV->Option R) (f:R->Option S),(gS P c ts vs K).bind f=gS P c ts vs λx=>(K x).bind f
 | [],_,_,_=>rfl
 | _::_,[],_,_=>rfl
 | t::ts,v::vs,K,f=>by simp only [gS,K2,xC P c ts vs]
theorem yh(P:Program)(A:cq)(O:ay)(s:St)(d:Nat)(c:Option Bool)(g:FuncId)(args:List AV)(K:AV->aC->Option R)(f:R->Option S):
  (fe P A O s d c g args K).bind f=fe P A O s d c g args λv u=>(K v u).bind f:=by
 unfold fe;split
 .rfl
 .split
  .simp only [LJ,bw,mU,xC]
  .split
   .rfl
   .simp only [LJ,jq,bp,bw,mU,rZ,xC]
theorem Eb(h:Id->Option ab)(i new:Id)(n rsz:Nat)(K:aC->Option R)(f:R->Option S):(pQ h i new n rsz K).bind f=pQ h i new n rsz λu=>(K u).bind f:=by
 unfold pQ;split
 .rw [cu];simp only [bw,bp]
 .rfl
theorem Jg(P:Program)(s:St)(e:TypeId)(d:Nat)(c:Option Bool)(v:AV)(K:AV->aC->Option R)(f:R->Option S):(lh P s e d c v K).bind f=lh P s e d c v λv u=>(K v u).bind f:=by
 unfold lh;split
 .split
  .split
   .rw [bw];congr 1;funext p;rw [LJ];congr 1;funext l;rw [cu];rfl
   .rfl
  .rfl
 .rfl
theorem Eu(fx:Bool)(P:Program)(A:cq)(O:ay)(s:St)(d:Nat)(c:Option Bool)(g:FuncId)(args:List AV)(K:AV->aC->Option R)(f:R->Option S):
  (gY fx P A O s d c g args K).bind f=gY fx P A O s d c g args λv u=>(K v u).bind f:=by
 unfold gY;split
 .exact yh _ _ _ _ _ _ _ _ _ _
 .split
  .simp only [bw,jq,yh,Eb,bp]
  .rfl
theorem AS(c:Option Bool)(v:AV)(K:Int->Option R)(f:R->Option S):(lZ c v K).bind f=lZ c v λx=>(K x).bind f:=by unfold lZ;simp only [LJ,bw]
theorem uh(P:Program)(A:cq)(O:ay)(g:Option Gs)(o:Oper)(s:St)(K:AV->aC->Option R)(f:R->Option S):
  (gw P A O g o s K).bind f=gw P A O g o s λv u=>(K v u).bind f:=by
 unfold gw;cases o.op <;> dsimp only
 case pick=>simp only [LJ,bw]
 case alloc=>split <;> simp only [LJ,bp]
 case box=>split <;> simp only [cu,bp]
 case build=>simp only [LJ]
 case buildSlice=>
  rw [LJ];congr 1;funext e;rw [cu];congr 1
  .split <;> simp only [cu,bp]
  rw [cu];congr 1
  .split <;> simp only [Jg,bp]
  rw [cu];congr 1;rw [cu];congr 1;rw [LJ];congr 1;funext q;split <;> rfl
 case load=>simp only [Hl]
 case store=>split <;> simp only [KQ,bp]
 case nilCheck=>split <;> simp only [bw,bp]
 case binOp=>split <;> simp only [LJ,Gr,Ed]
 case unOp=>simp only [LJ,K7]
 case convert=>
  split
  .split <;> simp only [LJ,bw,bp]
  .simp only [LJ,Ez]
 case makeFunc=>split <;> simp_all
 case makeSlice=>split <;> simp only [LJ,Hw,bp]
 case makeMap=>split <;> simp only [Hy,bp]
 case lookup=>simp only [Ht]
 case mapUpdate=>split <;> simp only [I5,bp]
 case slice=>simp only [Eh,KE]
 case fieldAddr=>simp only [GC]
 case field=>simp only [GA]
 case indexAddr=>simp only [AS,G3]
 case index=>
  simp only [AS];congr 1;funext n;split
  .simp only [LJ,bw,nr]
  .split <;> simp only [jq,LJ,nr,qx,bp]
  .rfl
 case extract=>split <;> simp only [LJ,bp]
 case call cl=>
  split
  .split <;> simp only [Hd,bp]
  .split <;> simp only [DU,bp]
  .split
   .rw [LJ];congr 1;funext l;split <;> simp only [bw,wm,bp]
   .rfl
  .split
   .rw [LJ];congr 1;funext l;split <;> simp only [bw,wm,bp]
   .rfl
  .split <;> simp only [EI,bp]
  ·(repeat' split) <;> simp only [jq,bp]
  .split <;> simp only [Eu,bp]
  .rfl
 all_goals rfl
def cz(P:Program)(A:cq)(O:ay)(g:Option Gs)(o:Oper)(s:St):Option (AV×aC):=gw P A O g o s λv u=>some (v,u)
theorem n6(P:Program)(A:cq)(O:ay)(g:Option Gs)(o:Oper)(s:St)(K:AV->aC->Option R):gw P A O g o s K= (cz P A O g o s).bind λp=>K p.1 p.2:=by unfold cz;rw [uh];rfl
theorem AO(a:Array Oper)(o:Oper)(s:St)(K:Option Gs->Option R)(f:R->Option S):(cK a o s K).bind f=cK a o s λg=>(K g).bind f:=by
 unfold cK;split
 .rfl
 .split
  .rfl
  .simp only [LJ,bw]
theorem sL(a:Array Oper)(o:Oper)(s:St)(K:Option Gs->Option R):cK a o s K= (cK a o s some).bind K:=by rw [AO];rfl
def jY:List AV->List AV->Bool
 | [],[]=>true
 | c::r,c'::a=>match qk c c' with
  | none=>false
  | some none=>jY r a
  | some (some p)=>decide (p.1=p.2) && jY r a
 | _,_=>false
theorem yu(K:Option R)(a b:Bool):cond a (cond b K none) none=cond (a && b) K none:=by cases a <;> rfl
theorem GN(p:Prop)[Decidable p](X:Option R):aa none (if p then some () else none) (λ_=>X)=cond (decide p) X none:=by by_cases h:p <;> simp [h,aa]
theorem A8(K:Option R):∀l b:List AV,qn l b K=cond (jY l b) K none
 | [],[]=>rfl
 | [],_::_=>rfl
 | _::_,[]=>rfl
 | c::r,c'::d=>by
  have a:=A8 K r d;unfold qn jY;cases qk c c' with
  | none=>rfl
  | some q=>
   cases q with
   | none=>exact a
   | some p=>dsimp only;rw [a,GN,yu]
def iV(h h':Id->Option ab):aC->Bool
 | []=>true
 | p::us=>match ql (h p.1) (h' p.1) with
  | none=>false
  | some none=>iV h h' us
  | some (some q)=>jY q.1 q.2 && iV h h' us
theorem Bd(h h':Id->Option ab)(K:Option R):∀us:aC,qo h h' us K=cond (iV h h' us) K none
 | []=>rfl
 | p::us=>by
  have a:=Bd h h' K us;unfold qo iV;cases ql (h p.1) (h' p.1) with
  | none=>rfl
  | some q=>
   cases q with
   | none=>exact a
   | some q=>dsimp only;rw [A8,a,yu]
def hU(A:cq)(a:Bool)(o:Oper)(h:Id->Option ab)(us:aC):Bool:= !(a && A.oe o.dst o.type) || iV h (aI h us) us
theorem qm(A:cq)(a:Bool)(o:Oper)(h:Id->Option ab)(us:aC)(K:Option R):vO A a o h us K=cond (hU A a o h us) K none:=by unfold vO hU;rw [Bd];cases(a && A.oe o.dst o.type) <;> rfl
def dW(P:Program)(A:cq)(O:ay)(a:Bool)(nt:Nat)(b:Array Oper)(o:Oper)(s:St):Option St:=me P A O a nt b o s some
theorem IQ(P:Program)(A:cq)(O:ay)(a:Bool)(nt:Nat)(b:Array Oper)(o:Oper)(s:St)(K:St->Option R):me P A O a nt b o s K= (dW P A O a nt b o s).bind K:=by
 unfold dW me;rw [AO];congr 1;funext g;cases nL A a o g with
 | none=>
  dsimp only;rw [uh];congr 1;funext v u;rw [qm,qm];cases hU A a o s.h u with
  | false=>rfl
  | true=>simp only [cond_true];rw [cu];rfl
 | some d=>
  dsimp only;cases sa nt o d with
  | false=>rfl
  | true=>
   cases d.c with
   | false=>rfl
   | true=>simp only [cond_true];rw [uh];congr 1;funext v u;rw [cu];rfl
def gK(P:Program)(A:cq)(O:ay)(a:Bool)(nt:Nat)(b:Array Oper):List Oper->St->Option St
 | [],s=>some s
 | o::r,s=>(dW P A O a nt b o s).bind (gK P A O a nt b r)
theorem wZ(P:Program)(A:cq)(O:ay)(a:Bool)(nt:Nat)(b:Array Oper):∀(l:List Oper) (s:St) (K:St->Option R),qS P A O a nt b l s K= (gK P A O a nt b l s).bind K
 | [],_,_=>rfl
 | o::r,s,K=>by simp only [qS,gK,IQ,LJ];congr 1;funext s';exact wZ P A O a nt b r s' K
end
open Go
def oN(w:World):Prop:=Lib.TabIs Go.Proofs.Tryd.prog w "internal/strconv.uint64pow10" .u64 Lib.pow10Tab
def lV:Nat:=3
theorem GQ:Go.Proofs.Tryd.prog.globalNamed "internal/strconv.uint64pow10" =some 0:=by kernel_rfl
theorem vC{w w':World}(a:∀b,b < lV->w'.heap[b]? =w.heap[b]?)(h:oN w):oN w':=by unfold oN Lib.TabIs World.var? at h⊢;rw [GQ,Lt] at h⊢;rw [a 0 (by decide)];exact h
def GlobOk(w:World):Prop:=oN w/\lV<=w.heap.size
open Go
structure Ctx where
 A0:Nat->Prop
 M:Nat->Prop
 N0:Nat
def Ctx.MO(c:Ctx)(b:Nat):Prop:=c.M b\/c.N0<=b
def AA(c:Ctx)(w:World)(O:Id->Option Nat)(b:Nat):Prop:=(c.A0 b\/c.MO b)/\b < w.heap.size/\∀i,O i≠some b
def cx(w:World)(A:Nat->Prop)(sz:Nat)(b:Bool)(l:List (List T))(v:Value)(Q:Nat->Prop):Prop:=
 ∃a cap,v= .slice a l.length cap/\l.length<=cap/\(a=none↔b=true)/\True/\
  (cap=0\/∃ae off arr t,a=some ⟨ae,off,none⟩/\Q ae/\w.heap[ae]? =some (.cells arr t (0,0))/\off+cap * sz<=arr.size/\aZ w A ae sz off l)
def gq(w:World)(A:Nat->Prop)(ρ:Id->Option Value)(O:Id->Option Nat)(i:Id)(ae sz col rsz base:Nat)(e:Row):Prop:=
 e.cs.length=sz/\col < sz/\(∀j x,j≠col->e.cs[j]? =some x->∃v,w.cell? ⟨ae,base+j,none⟩=some v/\ax w A x v)/\
 ∃v,w.cell? ⟨ae,base+col,none⟩=some v/\ρ (.g i e.n)=some v/\
  match e.own with
  | some p=>cx w A rsz p.1 p.2 v (λb=>O (.g i e.n)=some b)
  | none=>O (.g i e.n)=none
def ca(w:World)(A:Nat->Prop)(ρ:Id->Option Value)(O:Id->Option Nat)(i:Id)(ae sz col rsz:Nat):Nat->List Row->Prop
 | _,[]=>True
 | base,e::es=>gq w A ρ O i ae sz col rsz base e/\ca w A ρ O i ae sz col rsz (base+sz) es
def lL(ρ:Id->Option Value)(O:Id->Option Nat)(i:Id)(a:Nat)(es:List Row):Prop:=
 (es.map (·.n)).Nodup/\(∀e∈es,e.n < a)/\(∀n,a<=n->ρ (.g i n)=none)/\∀n b,O (.g i n)=some b->∃e∈es,e.n=n
def cD(w:World)(A:Nat->Prop)(ρ:Id->Option Value)(O:Id->Option Nat)(i:Id):ab->Prop
 | .box cs=>∃b arr t,ρ i=some (.pointer (some ⟨b,0,none⟩))/\O i=some b/\w.heap[b]? =some (.cells arr t (0,0))/\az w A ρ cs arr.toList/\
   (∀u∈arr.toList,u.oneCell'=true/\u.cells= #[u])
 | .sl fz sz b l=>∃v,ρ i=some v/\cx w A sz b l v (λae=>if fz=true then A ae else O i=some ae)/\(fz=true->O i=none)
 | .ei l=>∃b,ρ i=some (.pointer (some ⟨b,0,none⟩))/\O i=none/\A b/\aX w A b 0 l
 | .arr cs=>∃b arr t,ρ i=some (.slice (some ⟨b,0,none⟩) 1 1)/\O i=some b/\w.heap[b]? =some (.cells arr t (0,0))/\az w A ρ cs arr.toList/\
   (∀u∈arr.toList,u.oneCell'=true/\u.cells= #[u])
 | .mp ag ks vk es=>∃b d f,ρ i=some (.map (some b))/\O i=some b/\w.heap[b]? =some (.map d f)/\
   d.toList.map (λe=>(e.key,e.val))=es.map (λp=>(cL ag p.1,cZ p.2))/\(es.all λp=>bU ks p.1 && dr vk p.2)=true
 | .rows b sz col rsz g es=>∃a cap,ρ i=some (.slice a es.length cap)/\es.length<=cap/\(a=none↔b=true)/\lL ρ O i g es/\
   (cap=0\/∃ae off arr t,a=some ⟨ae,off,none⟩/\O i=some ae/\w.heap[ae]? =some (.cells arr t (0,0))/\off+cap * sz<=arr.size/\ca w A ρ O i ae sz col rsz off es)
 | .dead=>(∃v,ρ i=some v/\v.oneCell'=true/\v.cells= #[v])/\O i=none
structure HS (c:Ctx) (w:World) (h:Id->Option ab) (ρ:Id->Option Value) (O:Id->Option Nat):Prop where
 ae:∀i b,h i=some b->cD w (AA c w O) ρ O i b
 cf:∀i,i.real=true->h i=none->ρ i=none/\O i=none
 dq:∀i n,h (.g i n)=none
 eE:∀i n,h i=none->ρ (.g i n)=none/\O (.g i n)=none
 gone:∀i n u,ρ (.g i n)=some u->u.oneCell'=true/\u.cells= #[u]
 inj:∀i j b,O i=some b->O j=some b->i=j
 lt:∀i b,O i=some b->b < w.heap.size
 own:∀i b,O i=some b->c.MO b
 size:c.N0<=w.heap.size
 glob:oN w/\lV<=c.N0/\∀b,b < lV->¬c.M b
structure Le (w:World) (ρ:Id->Option Value) (O:Id->Option Nat) (w':World) (ρ':Id->Option Value) (O':Id->Option Nat):Prop where
 os:w'.os=w.os
 output:w'.output=w.output
 tape:w'.tape=w.tape
 size:w.heap.size<=w'.heap.size
 dJ:∀i v,ρ i=some v->ρ' i=some v
 ae:∀b,b < w.heap.size->(∀i,O i≠some b)->w'.heap[b]? =w.heap[b]?
 own:∀i b,O' i=some b->(∃j,O j=some b)\/w.heap.size<=b
section
variable {c:Ctx} {w w' w'':World} {h h':Id->Option ab} {ρ ρ' ρ'':Id->Option Value} {O O' O'':Id->Option Nat}
theorem Le.refl:Le w ρ O w ρ O:=⟨rfl,rfl,rfl,LM _,λ_ _ h=>h,λ_ _ _=>rfl,λi b h=> .inl ⟨i,h⟩⟩
theorem Le.trans(a:Le w ρ O w' ρ' O')(b:Le w' ρ' O' w'' ρ'' O''):Le w ρ O w'' ρ'' O'' where
 os:=b.os.trans a.os
 output:=b.output.trans a.output
 tape:=b.tape.trans a.tape
 size:=Mj a.size b.size
 dJ i v h:=b.dJ i v (a.dJ i v h)
 ae k hk hn:=by
  rw [b.ae k (Mv hk a.size),a.ae k hk hn];intro i hi;rcases a.own i k hi with⟨j,hj⟩ | h
  .exact hn j hj
  .omega
 own i k hi:=by
  rcases b.own i k hi with⟨j,hj⟩ | h
  .exact a.own j k hj
  .exact .inr (Mj a.size h)
theorem Le.A(le:Le w ρ O w' ρ' O')(b:Nat)(a:AA c w O b):AA c w' O' b/\w'.heap[b]? =w.heap[b]?:=by
 refine⟨⟨a.1,Mv a.2.1 le.size,λi d=> ?_⟩,le.ae b a.2.1 a.2.2⟩;rcases le.own i b d with⟨j,e⟩ | h
 .exact a.2.2 j e
 .have:=a.2.1;omega
theorem cx.mono{A A' Q g:Nat->Prop}{sz:Nat}{b:Bool}{l:List (List T)}{v:Value}(r:∀b,A b->A' b/\w'.heap[b]? =w.heap[b]?)
  (f:∀b,Q b->g b/\w'.heap[b]? =w.heap[b]?) (hs:cx w A sz b l v Q):cx w' A' sz b l v g:=by
 obtain⟨a,cap,n,o,p,q,e⟩:=hs;refine⟨a,cap,n,o,p,q, ?_⟩;rcases e with e | ⟨ae,off,arr,t,i,d,j,k,m⟩
 .exact .inl e
 .exact .inr ⟨ae,off,arr,t,i,(f _ d).1,by rw [(f _ d).2];exact j,k,aZ.kR r ae sz (f _ d).2 off l m⟩
def nS(i:Id)(w:World)(ρ:Id->Option Value)(O:Id->Option Nat)(w':World)(ρ':Id->Option Value)(O':Id->Option Nat):Prop:=
 ∀n,ρ' (.g i n)=ρ (.g i n)/\O' (.g i n)=O (.g i n)/\∀b,O (.g i n)=some b->w'.heap[b]? =w.heap[b]?
theorem gq.mono{A A':Nat->Prop}{i:Id}{ae sz col rsz base:Nat}{e:Row}(f:∀b,A b->A' b/\w'.heap[b]? =w.heap[b]?)(z:w'.heap[ae]? =w.heap[ae]?)(a:nS i w ρ O w' ρ' O')(h:gq w A ρ O i ae sz col rsz base e):
  gq w' A' ρ' O' i ae sz col rsz base e:=by
 obtain⟨m,o,q,v,r,t,y⟩:=h;have g:∀p,w'.cell? ⟨ae,p,none⟩=w.cell? ⟨ae,p,none⟩:=λp=>kD z;refine⟨m,o,λj x B C=> ?_,v,by rw [g];exact r,by rw [(a e.n).1];exact t, ?_⟩
 .obtain⟨u,l,d⟩:=q j x B C;exact⟨u,by rw [g];exact l,ax.mono f x u d⟩
 .revert y;cases e.own with
  | none=>intro h;simp only at h⊢;rw [(a e.n).2.1];exact h
  | some p=>intro d;refine cx.mono f (λb k=> ?_) d;rw [(a e.n).2.1];exact⟨k,(a e.n).2.2 b k⟩
theorem ca.mono{A A':Nat->Prop}{i:Id}{ae sz col rsz:Nat}(a:∀b,A b->A' b/\w'.heap[b]? =w.heap[b]?)(d:w'.heap[ae]? =w.heap[ae]?)(f:nS i w ρ O w' ρ' O'):∀{es:List Row} {base:Nat},ca w A ρ O i ae sz col rsz base es->
  ca w' A' ρ' O' i ae sz col rsz base es
 | [],_,_=>trivial
 | e::es,base,h=>⟨gq.mono a d f h.1,ca.mono a d f h.2⟩
theorem cx.dv{A A' Q a:Nat->Prop}{sz:Nat}{b:Bool}{l:List (List T)}{v:Value}(d:∀b,A b->A' b/\w'.heap[b]? =w.heap[b]?)
  (e:∀b,Q b->a b/\w'.heap[b]? =w.heap[b]?) (hs:cx w A sz b l v Q):cx w' A' sz b l v a:=cx.mono d e hs
theorem gq.move{A A':Nat->Prop}{i i':Id}{ae blk' sz col rsz base a:Nat}{e:Row}(l:∀j,j < sz->w'.cell? ⟨blk',a+j,none⟩=w.cell? ⟨ae,base+j,none⟩)(k:∀b,A b->A' b/\w'.heap[b]? =w.heap[b]?)
  (C:ρ' (.g i' e.n)=ρ (.g i e.n)) (f:O' (.g i' e.n)=O (.g i e.n)) (D:∀b,O (.g i e.n)=some b->w'.heap[b]? =w.heap[b]?) (h:gq w A ρ O i ae sz col rsz base e):gq w' A' ρ' O' i' blk' sz col rsz a e:=by
 obtain⟨q,d,r,v,a4,t,y⟩:=h;refine⟨q,d,λj x E o=> ?_,v,by rw [l _ d];exact a4,by rw [C];exact t, ?_⟩
 .obtain⟨u,z,B⟩:=r j x E o;have:=(Ls.1 o).1;exact⟨u,by rw [l j (by omega)];exact z,ax.mono k x u B⟩
 .revert y;cases e.own with
  | none=>intro h;simp only at h⊢;rw [f];exact h
  | some p=>intro g;refine cx.mono k (λb m=> ?_) g;rw [f];exact⟨m,D b m⟩
theorem ca.move{A A':Nat->Prop}{i i':Id}{ae blk' sz col rsz:Nat}(d:∀b,A b->A' b/\w'.heap[b]? =w.heap[b]?):∀{es:List Row} {base a:Nat},
  (∀p,p < es.length * sz->w'.cell? ⟨blk',a+p,none⟩=w.cell? ⟨ae,base+p,none⟩)->(∀e∈es,ρ' (.g i' e.n)=ρ (.g i e.n)/\O' (.g i' e.n)=O (.g i e.n)/\∀b,O (.g i e.n)=some b->w'.heap[b]? =w.heap[b]?)->
  ca w A ρ O i ae sz col rsz base es->ca w' A' ρ' O' i' blk' sz col rsz a es
 | [],_,_,_,_,_=>trivial
 | e::es,base,a,f,k,h=>by
  have el:(e::es).length * sz=sz+es.length * sz:=by simp [Mn];omega
  obtain⟨l,m,o⟩:=k e Lq;refine⟨gq.move (λj r=>f j (by omega)) d l m o h.1,ca.move d (λp t=> ?_) (λe q=>k e (Lr _ q)) h.2⟩;rw [Ns,Ns];exact f (sz+p) (by omega)
theorem ca.append{A:Nat->Prop}{i:Id}{ae sz col rsz:Nat}:∀{es a:List Row} {base:Nat},ca w A ρ O i ae sz col rsz base es->ca w A ρ O i ae sz col rsz (base+es.length * sz) a->ca w A ρ O i ae sz col rsz base (es++a)
 | [],a,base,_,h=>by simpa using h
 | e::es,a,base,h,h'=>by
  refine⟨h.1,ca.append h.2 ?_⟩;have:base+sz+es.length * sz=base+ (e::es).length * sz:=by simp [Mn];omega
  rw [this];exact h'
theorem ca.set{A A':Nat->Prop}{i:Id}{ae sz col rsz:Nat}{x:Row}(l:∀b,A b->A' b/\w'.heap[b]? =w.heap[b]?):∀{es:List Row} {base k:Nat},k < es.length->
  (∀p,base<=p->p < base+es.length * sz->¬(base+k * sz<=p/\p < base+k * sz+sz)->w'.cell? ⟨ae,p,none⟩=w.cell? ⟨ae,p,none⟩)->
  (∀j e,j≠k->es[j]? =some e->ρ' (.g i e.n)=ρ (.g i e.n)/\O' (.g i e.n)=O (.g i e.n)/\∀b,O (.g i e.n)=some b->w'.heap[b]? =w.heap[b]?)->
  gq w' A' ρ' O' i ae sz col rsz (base+k * sz) x->ca w A ρ O i ae sz col rsz base es->ca w' A' ρ' O' i ae sz col rsz base (es.set k x)
 | [],_,_,f,_,_,_,_=>by simp at f
 | e::es,base,0,f,a,d,q,h=>by
  have el:(e::es).length * sz=sz+es.length * sz:=by simp [Mn];omega
  refine⟨by simpa using q,ca.move l (λp y=>a _ (by omega) (by omega) (by omega)) (λe' m=> ?_) h.2⟩;obtain⟨j,o⟩:=NG.1 m;exact d (j+1) e' (by omega) (by simpa using o)
 | e::es,base,k+1,f,a,d,q,h=>by
  have el:(e::es).length * sz=sz+es.length * sz:=by simp [Mn];omega
  have v:(k+1) * sz=sz+k * sz:=by rw [Mn];omega
  obtain⟨r,t,u⟩:=d 0 e (by omega) rfl;refine⟨gq.move (λj o=>a _ (by omega) (by omega) (by omega)) l r t u h.1,ca.set l (by simpa using f) (λp z B C=>a p (by omega) (by omega) (by omega)) (λj e' o m=>d (j+1) e' (by omega) (by simpa using m)) ?_ h.2⟩;rw [show base+sz+k * sz=base+ (k+1) * sz by omega];exact q
theorem lL.mono{i:Id}{e:Nat}{es:List Row}(d:nS i w ρ O w' ρ' O')(h:lL ρ O i e es):lL ρ' O' i e es:=
 ⟨h.1,h.2.1,λn a=>by rw [(d n).1];exact h.2.2.1 n a,λn b a=>by rw [(d n).2.1] at a;exact h.2.2.2 n b a⟩
theorem cD.mono{A A':Nat->Prop}{i:Id}(x:nS i w ρ O w' ρ' O')(n:∀b,A b->A' b/\w'.heap[b]? =w.heap[b]?)(f:∀i v,ρ i=some v->ρ' i=some v)(m:O' i=O i)
  (o:∀b,O i=some b->w'.heap[b]? =w.heap[b]?):∀{b:ab},cD w A ρ O i b->cD w' A' ρ' O' i b
 | .box cs,⟨b,arr,t,g,d,e,j,k⟩=>⟨b,arr,t,f _ _ g,by rw [m];exact d,by rw [o _ d];exact e,az.mono n f cs _ j,k⟩
 | .sl fz sz b l,⟨v,g,d,e⟩=>by
  refine⟨v,f _ _ g,cx.mono n (λb p=> ?_) d,by rw [m];exact e⟩;cases fz
  .simp only [LY,if_false] at p⊢;exact⟨by rw [m];exact p,o _ p⟩
  .simp only [if_true] at p⊢;exact n _ p
 | .ei l,⟨b,g,d,e,j⟩=>⟨b,f _ _ g,by rw [m];exact d,(n b e).1,aX.mono n b e 0 l j⟩
 | .arr cs,⟨b,arr,t,g,d,e,j,k⟩=>⟨b,arr,t,f _ _ g,by rw [m];exact d,by rw [o _ d];exact e,az.mono n f cs _ j,k⟩
 | .mp ag ks vk es,⟨b,r,q,g,d,e,j,k⟩=>⟨b,r,q,f _ _ g,by rw [m];exact d,by rw [o _ d];exact e,j,k⟩
 | .rows b sz col rsz D es,h=>by
  obtain⟨a,cap,g,d,e,j,k⟩:=h;refine⟨a,cap,f _ _ g,d,e,j.mono x, ?_⟩;rcases k with k | ⟨ae,off,arr,t,y,u,z,B,C⟩
  .exact .inl k
  .exact .inr ⟨ae,off,arr,t,y,by rw [m];exact u,by rw [o _ u];exact z,B,C.mono n (o _ u) x⟩
 | .dead,⟨⟨v,g,e⟩,d⟩=>⟨⟨v,f _ _ g,e⟩,by rw [m];exact d⟩
def GK(w:World)(ρ:Id->Option Value)(O:Id->Option Nat)(w':World)(ρ':Id->Option Value)(O':Id->Option Nat):Prop:= ∀i,nS i w ρ O w' ρ' O'
theorem GK.refl:GK w ρ O w ρ O:=λ_ _=>⟨rfl,rfl,λ_ _=>rfl⟩
theorem HS.real(hs:HS c w h ρ O){i:Id}(a:h i≠none):i.real=true:=by
 cases i with
 | g i n=>exact(a (hs.dq i n)).elim
 | _=>rfl
theorem HS.lW(hs:HS c w h ρ O)(le:Le w ρ O w' ρ' O')
  (hblk:∀i b,h' i=some b->(h i=some b/\O' i=O i/\(∀ae,O i=some ae->w'.heap[ae]? =w.heap[ae]?)/\nS i w ρ O w' ρ' O')\/cD w' (AA c w' O') ρ' O' i b)
  (hnone:∀i,i.real=true->h' i=none->ρ' i=none/\O' i=none) (hnog:∀i n,h' (.g i n)=none)
  (hgd:∀i n,h' i=none->ρ' (.g i n)=none/\O' (.g i n)=none) (hgo:∀i n u,ρ' (.g i n)=some u->u.oneCell'=true/\u.cells= #[u])
  (inj:∀i j b,O' i=some b->O' j=some b->i=j) (lt:∀i b,O' i=some b->b < w'.heap.size):HS c w' h' ρ' O' where
 ae i b hb:=by
  rcases hblk i b hb with⟨h1,h2,h3,h4⟩ | h1
  .exact cD.mono h4 (λb ha=>le.A b ha) le.dJ h2 h3 (hs.ae i b h1)
  .exact h1
 cf:=hnone
 dq:=hnog
 eE:=hgd
 gone:=hgo
 inj:=inj
 lt:=lt
 own i b hi:=by
  rcases le.own i b hi with⟨j,hj⟩ | h
  .exact hs.own j b hj
  .exact .inr (Mj hs.size h)
 size:=Mj hs.size le.size
 glob:=⟨vC (λb hb=>le.ae b (Mv hb (Mj hs.glob.2.1 hs.size)) λi hi=>by
  rcases hs.own i b hi with h | h
  .exact hs.glob.2.2 b hb h
  .have:=hs.glob.2.1;omega) hs.glob.1,hs.glob.2⟩
theorem HS.ok(hs:HS c w h ρ O):GlobOk w:=⟨hs.glob.1,Mj hs.glob.2.1 hs.size⟩
theorem HS.go(hs:HS c w h ρ O)(le:Le w ρ O w' ρ' O')(a:GK w ρ O w' ρ' O')
  (f:∀i b,h' i=some b->(h i=some b/\O' i=O i/\(∀ae,O i=some ae->w'.heap[ae]? =w.heap[ae]?))\/cD w' (AA c w' O') ρ' O' i b)
  (d:∀i,i.real=true->h' i=none->ρ' i=none/\O' i=none) (q:∀i,h' i=none->h i=none) (k:∀i n,h' (.g i n)=none)
  (inj:∀i j b,O' i=some b->O' j=some b->i=j) (lt:∀i b,O' i=some b->b < w'.heap.size):HS c w' h' ρ' O':=
 hs.lW le (λi b p=>by
  rcases f i b p with⟨e,m,o⟩ | e
  .exact .inl ⟨e,m,o,a i⟩
  .exact .inr e) d k (λi n r=>by
  have:=hs.eE i n (q i r);rw [(a i n).1,(a i n).2.1];exact this) (λi n u l=>by rw [(a i n).1] at l;exact hs.gone i n u l) inj lt
theorem HS.world(hs:HS c w h ρ O)(le:Le w ρ O w' ρ O)(dv:∀i ae,O i=some ae->w'.heap[ae]? =w.heap[ae]?):HS c w' h ρ O:=
 hs.go le (λi n=>⟨rfl,rfl,λb a=>dv _ b a⟩) (λi _ a=> .inl ⟨a,rfl,λae h=>dv i ae h⟩) hs.cf (λ_ h=>h) hs.dq hs.inj λi b h=>Mv (hs.lt i b h) le.size
def aG{α:Type}(f:Id->Option α)(i:Id)(v:Option α):Id->Option α:=λj=>if j=i then v else f j
@[simp] theorem aB {α:Type} (f:Id->Option α) (i:Id) (v:Option α):aG f i v i=v:=by simp [aG]
theorem ao{α:Type}(f:Id->Option α){i j:Id}(v:Option α)(h:j≠i):aG f i v j=f j:=by simp [aG,h]
theorem dc(h:Id->Option ab)(i:Id)(b:ab):aI h [(i,b)]=aG h i (some b):=rfl
theorem cB(h:Id->Option ab)(i:Id)(b:ab)(us:aC):aI h ((i,b)::us)=aI (aG h i (some b)) us:=rfl
theorem jM(h:Id->Option ab):∀(us vs:aC),aI h (us++vs)=aI (aI h us) vs
 | [],_=>rfl
 | (i,b)::us,vs=>by simp only [Mi,cB];exact jM _ us vs
theorem aN{i j:Id}{n:Nat}(a:i.real=true):Id.g j n≠i:=by rintro rfl;cases a
theorem Le.alloc(hs:HS c w h ρ O){i:Id}(hr:i.real=true)(hi:h i=none)(o:Obj)(v:Value)(ob:Option Nat)(hob:ob=none\/ob=some w.heap.size):
  Le w ρ O (w.alloc o) (aG ρ i (some v)) (aG O i ob) where
 os:=rfl
 output:=rfl
 tape:=rfl
 size:=by simp
 dJ j u hj:=by
  by_cases e:j=i
  .subst e;rw [(hs.cf _ hr hi).1] at hj;cases hj
  .rw [ao _ _ e];exact hj
 ae b hb _:=Mc _ _ _ hb
 own j b hj:=by
  by_cases e:j=i
  .subst e;rw [aB] at hj;rcases hob with rfl | rfl
   .cases hj
   .cases hj;exact .inr (LM _)
  .rw [ao _ _ e] at hj;exact .inl ⟨j,hj⟩
theorem HS.alloc(hs:HS c w h ρ O){i:Id}(l:i.real=true)(r:h i=none)(o:Obj)(v:Value)(ob:Option Nat)(g:ob=none\/ob=some w.heap.size)(b:ab)
  (m:cD (w.alloc o) (AA c (w.alloc o) (aG O i ob)) (aG ρ i (some v)) (aG O i ob) i b):
  HS c (w.alloc o) (aG h i (some b)) (aG ρ i (some v)) (aG O i ob):=by
 refine hs.go (Le.alloc hs l r o v ob g) (λj n=>⟨ao _ _ (aN l),ao _ _ (aN l),λb m=>Mc _ _ _ (hs.lt _ b m)⟩) (λj t a=> ?_) (λj q a=> ?_) (λj a=> ?_) (λj n=>by rw [ao _ _ (aN l)];exact hs.dq j n) (λj k d a f=> ?_) (λj d a=> ?_)
 .by_cases e:j=i
  .subst e;rw [aB] at a;cases a;exact .inr m
  .rw [ao _ _ e] at a;exact .inl ⟨a,ao _ _ e,λae p=>Mc _ _ _ (hs.lt j ae p)⟩
 .by_cases e:j=i
  .subst e;rw [aB] at a;cases a
  .rw [ao _ _ e] at a;rw [ao _ _ e,ao _ _ e];exact hs.cf j q a
 .by_cases e:j=i
  .subst e;rw [aB] at a;cases a
  .rw [ao _ _ e] at a;exact a
 .by_cases e:j=i <;> by_cases e':k=i
  .rw [e,e']
  .exfalso;rw [ao _ _ e'] at f;subst e;rw [aB] at a;rcases g with rfl | rfl
   .cases a
   .cases a;exact MS _ (hs.lt _ _ f)
  .exfalso;rw [ao _ _ e] at a;subst e';rw [aB] at f;rcases g with rfl | rfl
   .cases f
   .cases f;exact MS _ (hs.lt _ _ a)
  .rw [ao _ _ e] at a;rw [ao _ _ e'] at f;exact hs.inj j k d a f
 .by_cases e:j=i
  .subst e;rw [aB] at a;rcases g with rfl | rfl
   .cases a
   .cases a;simp
  .rw [ao _ _ e] at a;have:=hs.lt j d a;simp;omega
theorem Le.release{i:Id}:Le w ρ O w ρ (aG O i none) where
 os:=rfl
 output:=rfl
 tape:=rfl
 size:=LM _
 dJ _ _ h:=h
 ae _ _ _:=rfl
 own j b hj:=by
  by_cases e:j=i
  .subst e;rw [aB] at hj;cases hj
  .rw [ao _ _ e] at hj;exact .inl ⟨j,hj⟩
theorem HS.release(hs:HS c w h ρ O){i:Id}(l:i.real=true)(b:ab)(m:cD w (AA c w (aG O i none)) ρ (aG O i none) i b):HS c w (aG h i (some b)) ρ (aG O i none):=by
 refine hs.go Le.release (λj n=>⟨rfl,ao _ _ (aN l),λ_ _=>rfl⟩) (λj o a=> ?_) (λj g a=> ?_) (λj a=> ?_) (λj n=>by rw [ao _ _ (aN l)];exact hs.dq j n) (λj k d a f=> ?_) (λj d a=> ?_)
 .by_cases e:j=i
  .subst e;rw [aB] at a;cases a;exact .inr m
  .rw [ao _ _ e] at a;exact .inl ⟨a,ao _ _ e,λ_ _=>rfl⟩
 .by_cases e:j=i
  .subst e;rw [aB] at a;cases a
  .rw [ao _ _ e] at a⊢;exact hs.cf j g a
 .by_cases e:j=i
  .subst e;rw [aB] at a;cases a
  .rw [ao _ _ e] at a;exact a
 .by_cases e:j=i
  .subst e;rw [aB] at a;cases a
  .by_cases e':k=i
   .subst e';rw [aB] at f;cases f
   .rw [ao _ _ e] at a;rw [ao _ _ e'] at f;exact hs.inj j k d a f
 .by_cases e:j=i
  .subst e;rw [aB] at a;cases a
  .rw [ao _ _ e] at a;exact hs.lt j d a
theorem HS.freeze(hs:HS c w h ρ O){i:Id}{sz:Nat}{b:Bool}{l:List (List T)}(f:h i=some (.sl false sz b l)):
  HS c w (aG h i (some (.sl true sz b l))) ρ (aG O i none):=by
 refine hs.release (hs.real (by rw [f];simp)) _ ?_;obtain⟨v,g,k,o⟩:=hs.ae i _ f;refine⟨v,g, ?_,λ_=>by simp⟩;simp only [if_true];have m:∀b,AA c w O b->AA c w (aG O i none) b/\w.heap[b]? =w.heap[b]?:=λb n=>(Le.release (ρ:=ρ) (i:=i)).A b n;refine cx.mono m (λae d=> ?_) k;simp only [LY,if_false] at d;refine⟨⟨.inr (hs.own i ae d),hs.lt i ae d,λj a=> ?_⟩,rfl⟩;by_cases e:j=i
 .subst e;rw [aB] at a;cases a
 .rw [ao _ _ e] at a;exact e (hs.inj j i ae a d)
theorem HS.GJ(hs:HS c w h ρ O){i:Id}{cs:List AV}{l:List T}(f:h i=some (.box cs))(hl:dA cs=some l):
  HS c w (aG h i (some (.ei l))) ρ (aG O i none):=by
 refine hs.release (hs.real (by rw [f];simp)) _ ?_;obtain⟨b,arr,t,k,d,m,n,D⟩:=hs.ae i _ f;have q:∀b,AA c w O b->AA c w (aG O i none) b/\w.heap[b]? =w.heap[b]?:=λb z=>(Le.release (ρ:=ρ) (i:=i)).A b z;have B:AA c w (aG O i none) b:=⟨.inr (hs.own i b d),hs.lt i b d,λj a=>by
  by_cases e:j=i
  .subst e;rw [aB] at a;cases a
  .rw [ao _ _ e] at a;exact e (hs.inj j i b a d)⟩
 refine⟨b,k,by simp,B, ?_⟩;have y:=aQ.ja hl n;have key:∀(l:List T) (vs:List Value) (off:Nat),aQ w (AA c w O) l vs->(∀j v,vs[j]? =some v->w.cell? ⟨b,off+j,none⟩=some v)->aX w (AA c w (aG O i none)) b off l:=by
  intro l;induction l with
  | nil=>intro vs off _ _;simp [aX]
  | cons x l C=>rintro vs off ⟨v,r,rfl,o,p⟩ g;simp only [aX];refine⟨⟨v,by simpa using g 0 v rfl,ax.mono q x v o⟩,C r (off+1) p λj u a=> ?_⟩;have:=g (j+1) u (by simpa using a);rw [show off+1+j=off+ (j+1) by omega];exact this
 refine key l _ 0 y λj v a=> ?_;simp only [World.cell?,m,L5];simpa using a
theorem Le.write{b:Nat}{i:Id}(hi:O i=some b)(hos:w'.os=w.os)(ho:w'.output=w.output)(ht:w'.tape=w.tape)(hsz:w'.heap.size=w.heap.size)(hk:∀k,k≠b->w'.heap[k]? =w.heap[k]?):Le w ρ O w' ρ O where
 os:=hos
 output:=ho
 tape:=ht
 size:=Nat.le_of_eq hsz.symm
 dJ _ _ h:=h
 ae k _ hn:=hk k λe=>hn i (e▸hi)
 own j b hj:= .inl ⟨j,hj⟩
theorem HS.write(hs:HS c w h ρ O){b:Nat}{i:Id}(l:O i=some b)(le:Le w ρ O w' ρ O)(o:∀k,k≠b->w'.heap[k]? =w.heap[k]?)(x:ab)
  (q:cD w' (AA c w' O) ρ O i x) (g:h i≠none):HS c w' (aG h i (some x)) ρ O:=by
 have p:=hs.real g;refine hs.go le (λj n=>⟨rfl,rfl,λd g=>o d λe=>aN p (hs.inj _ i b (e▸g) l)⟩) (λj r a=> ?_) (λj m a=> ?_) (λj a=> ?_) (λj n=>by rw [ao _ _ (aN p)];exact hs.dq j n) hs.inj (λj d a=>Mv (hs.lt j d a) le.size)
 .by_cases e:j=i
  .subst e;rw [aB] at a;cases a;exact .inr q
  .rw [ao _ _ e] at a;exact .inl ⟨a,rfl,λae f=>o ae λe'=>e (hs.inj j i b (e'▸f) l)⟩
 .by_cases e:j=i
  .subst e;rw [aB] at a;cases a
  .rw [ao _ _ e] at a;exact hs.cf j m a
 .by_cases e:j=i
  .subst e;rw [aB] at a;cases a
  .rw [ao _ _ e] at a;exact a
end
def SS(w:World)(A:Nat->Prop)(ρ:Id->Option Value)(s:Nat->Option Gs×AV)(tmps:Array Value):Prop:=
 ∀k,match s k with
  | (none,v)=>ah w A ρ v (tmps.getD k undef)
  | (some g,v)=>(tmps.getD g.d undef= .bool g.want/\g.c=true/\ah w A ρ v (tmps.getD k undef))\/(tmps.getD g.d undef≠ .bool g.want/\g.c=false/\tmps.getD k undef=undef)
section
variable {c:Ctx} {w w':World} {ρ ρ':Id->Option Value} {A A':Nat->Prop} {s:Nat->Option Gs×AV} {tmps:Array Value}
theorem SS.mono(e:∀b,A b->A' b/\w'.heap[b]? =w.heap[b]?)(a:∀i v,ρ i=some v->ρ' i=some v)(hs:SS w A ρ s tmps):SS w' A' ρ' s tmps:=by
 intro k;have:=hs k;revert this;split
 .intro this;exact ah.mono e a _ _ this
 .intro this;rcases this with⟨d,f,g⟩ | d
  .exact .inl ⟨d,f,ah.mono e a _ _ g⟩
  .exact .inr d
def iO(tmps:Array Value):Option Gs->Prop
 | none=>True
 | some g=>tmps.getD g.d undef= .bool g.want/\g.c=true
theorem iO.cond{g:Option Gs}(h:iO tmps g):g.map (·.c)=none\/g.map (·.c)=some true:=by
 cases g with
 | none=>exact .inl rfl
 | some g=>exact .inr (by simp [h.2])
theorem Ja(v:Value):ah w A ρ (uE v) v:=by
 have one:∀(u:Value) (x:T),mb u=some x->ax w A x u:=by
  intro u x e;cases u <;> simp only [mb,Lo,reduceCtorEq] at e
  case slice a l i=>split at e <;> simp_all;subst e;simp [ax]
  case pointer a=>split at e <;> simp_all;subst e;simp [ax]
  case map a=>split at e <;> simp_all;subst e;simp [ax]
  all_goals (subst e;simp [ax])
 have all:∀(us:List Value) (l:List T),jz us=some l->aQ w A l us:=by
  intro us;induction us with
  | nil=>intro l e;simp only [jz,Lo] at e;subst e;rfl
  | cons u us f=>
   intro l e;simp only [jz] at e;cases b:mb u with
   | none=>simp [b] at e
   | some x=>
    cases d:jz us with
    | none=>simp [b,d] at e
    | some g=>simp only [b,d,Lt,Lo] at e;subst e;exact⟨u,us,rfl,one u x b,f g d⟩
 unfold uE;split
 .rename_i cs;split
  .rename_i l e;simp only [ah];have:=all cs.toList l e;refine⟨cs.toList,by simp,az.jA this, ?_⟩;have key:∀(l:List T) (us:List Value),aQ w A l us->∀u∈us,u.oneCell'=true/\u.cells= #[u]:=by
    intro l;induction l with
    | nil=>intro us hu;simp only [aQ] at hu;subst hu;simp
    | cons x l f=>
     intro us ⟨v,r,e,b,d⟩ u hu;subst e;rcases LC.1 hu with rfl | hu
     .exact b.nC
     .exact f r d u hu
   exact key l _ this
  .simp [ah]
 .split
  .rename_i x e;simp only [ah];exact one _ x e
  .simp [ah]
theorem SS.get{a:Act}{h:Id->Option ab}(hs:SS w A ρ s a.tmps){g:Option Gs}(m:iO a.tmps g)(x:Operand):ah w A ρ (St.get ⟨s,h⟩ g x) (a.eval x):=by
 cases x with
 | tmp k=>
  simp only [St.get,Act.eval];have:=hs k;split at this
  .rename_i v e;simp only [e,je,cond_true];exact this
  .rename_i d v e;simp only [e];cases g with
   | none=>simp [je,ah]
   | some i=>
    by_cases b:je (some d) (some i)=true
    .simp only [b,cond_true];simp only [je,Lu,beq_iff_eq] at b;rcases this with⟨_,_,l⟩ | ⟨j,_⟩
     .exact l
     .exfalso;apply j;rw [b.1,b.2];exact m.1
    .simp only [N5] at b;simp [b,ah]
 | const v=>exact Ja v
 | func f=>simp only [St.get,Act.eval,ah];exact⟨[],[],rfl,by simp [az],by simp [az]⟩
 | global g=>simp [St.get,ah]
theorem SS.jX{a:Act}{h:Id->Option ab}(hs:SS w A ρ s a.tmps){g:Option Gs}(l:iO a.tmps g)(cs x:Operand)(want:Bool)(i:a.eval cs= .bool want):
  ah w A ρ (St.jX ⟨s,h⟩ g cs want x) (a.eval x):=by
 unfold St.jX;split
 .rename_i d k;simp only [Act.eval] at i⊢;have:=hs k;split
  .rename_i f v e;simp only [e] at this;by_cases b:(f.d==d && f.want==want)=true
   .simp only [b,Bool.true_or,cond_true];simp only [Lu,beq_iff_eq] at b;rcases this with⟨_,_,n⟩ | ⟨m,_⟩
    .exact n
    .exfalso;apply m;rw [b.1,b.2];exact i
   .simp only [N5] at b;simp only [b,Mt];have j:=SS.get (h:=h) hs l (.tmp k);simp only [St.get,e,Act.eval] at j;exact j
  .rename_i v e;simp only [e] at this;exact this
 .exact SS.get hs l _
end
end Go.Aev
