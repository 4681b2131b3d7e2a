import Derived.WalkKit
import Derived.Test.YtcjplcpngagalaaGreatDoorChecked
import Derived.Lib.ItoaNum
import Derived.Lib.LaidTab
set_option linter.all false
namespace Go.Aev
open Go
abbrev M1:=@Option.some.injEq
abbrev M2:=@Option.bind_eq_some_iff
abbrev M3:=@List.mem_cons_self
abbrev M4:=@List.mem_cons_of_mem
abbrev M5:=@List.getElem?_eq_some_iff
abbrev M6:=@Option.bind_some
abbrev M7:=@Bool.and_eq_true
abbrev M8:=@Bool.not_true
abbrev Na:=@List.getD_eq_getElem?_getD
abbrev Nb:=@Bool.not_false
abbrev Nc:=@List.getElem?_eq_getElem
abbrev Nf:=@List.length_cons
abbrev Ng:=@List.mem_singleton
abbrev Nh:=@List.mem_of_getElem?
abbrev Ni:=@Result.andThen_ok
abbrev Nj:=@List.mem_cons
abbrev Nk:=@List.length_singleton
abbrev Nl:=@List.mem_append_right
abbrev Nn:=@List.mem_append_left
abbrev Np:=@ByteArray.size_append
abbrev Nq:=@List.mem_append
abbrev Nr:=@Option.bind_assoc
abbrev Ns:=@Nat.le_refl
abbrev Nt:=@List.all_eq_true
abbrev Nu:=@List.getElem?_append_left
abbrev Nv:=@Sem.run_bind
abbrev Nw:=@List.length_nil
abbrev Nx:=@List.append_assoc
abbrev Ny:=@List.length_eq_zero_iff
abbrev Nz:=@List.append_nil
abbrev NA:=@Bool.false_eq_true
abbrev NB:=@Array.length_toList
abbrev NC:=@Array.mem_of_getElem?
abbrev ND:=@List.singleton_append
abbrev NF:=@Nat.zero_add
abbrev NG:=@List.mem_map
abbrev NH:=@List.map_cons
abbrev NI:=@List.getElem?_append_right
abbrev NJ:=@Sem.run_pure
abbrev NK:=@Int.natCast_zero
abbrev NL:=@Prod.mk.injEq
abbrev NM:=@Int.toNat_natCast
abbrev NN:=@Go.RowKit.Below.heap_alloc
abbrev NO:=@Int.lt_irrefl
abbrev NP:=@Array.all_eq_true_iff_forall_mem
abbrev NQ:=@Nat.le_trans
abbrev NR:=@List.cons_append
abbrev NS:=@Bool.or_eq_true
abbrev NT:=@Bool.false_or
abbrev NU:=@Array.getElem?_toList
abbrev NV:=@List.any_eq_false
abbrev NX:=@Nat.mul_le_mul_right
abbrev NY:=@Nat.succ_mul
abbrev NZ:=@Addr.mk.injEq
abbrev N1:=@Bool.true_and
abbrev N2:=@List.length_take
abbrev N3:=@List.length_map
abbrev N4:=@Bool.not_eq_true'
abbrev N5:=@List.getElem?_cons_zero
abbrev N6:=@List.length_append
abbrev N7:=@Value.slice.injEq
abbrev N8:=@Nat.lt_of_lt_of_le
abbrev N9:=@List.map_congr_left
abbrev Oa:=@List.cons.injEq
abbrev Ob:=@List.getElem?_map
abbrev Oc:=@Bool.and_false
abbrev Od:=@List.nodup_cons
abbrev Oe:=@List.map_nil
abbrev Og:=@Bool.and_true
abbrev Oh:=@List.head?_cons
abbrev Oi:=@List.getElem?_of_mem
abbrev Oj:=@List.length_drop
abbrev Ol:=@List.not_mem_nil
abbrev Om:=@List.replicate_succ
abbrev On:=@List.getElem?_set
abbrev Oo:=@List.size_toArray
abbrev Oq:=@List.ext_getElem?
abbrev Ot:=@List.all_cons
abbrev Ou:=@Option.isSome_iff_exists
abbrev Ov:=@List.getElem?_eq_none
abbrev Ow:=@List.nil_append
abbrev Ox:=@Array.getD_eq_getD_getElem?
abbrev Oy:=@List.getElem?_cons_succ
abbrev Oz:=@Nat.lt_irrefl
abbrev OA:=@List.nodup_append
abbrev OB:=@Value.pointer.injEq
abbrev OC:=@List.length_replicate
abbrev OE:=@Nat.sub_self
abbrev OF:=@Bool.or_eq_false_iff
abbrev OG:=@Bool.false_and
abbrev OH:=@List.flatten_cons
abbrev OI:=@Option.map_some
abbrev OJ:=@MapKept.run_getObj_map
abbrev OK:=@List.getElem?_set_self
abbrev OL:=@Array.ext'
abbrev OM:=@Option.getD_some
abbrev ON:=@List.isEmpty_iff
abbrev OO:=@List.prefix_refl
abbrev OP:=@Array.getElem?_eq_getElem
abbrev OQ:=@List.mem_or_eq_of_mem_set
abbrev OR:=@Nat.add_mul
abbrev OS:=@List.getElem?_mapIdx
abbrev OT:=@List.take_append_of_le_length
abbrev OU:=@List.any_eq_true
abbrev OV:=@Option.map_eq_some_iff
abbrev OW:=@List.drop_eq_nil_of_le
abbrev OX:=@List.length_eq_one_iff
abbrev OY:=@Nat.zero_le
abbrev OZ:=@Classical.choose_spec
abbrev O5:=@List.getElem?_toArray
abbrev O6:=@List.length_set
abbrev O7:=@Nat.add_assoc
abbrev O8:=@List.drop_eq_getElem_cons
abbrev O9:=@Option.isNone_iff_eq_none
abbrev Pa:=@Nat.add_zero
abbrev Pb:=@List.getElem_mem
abbrev Pc:=@List.getElem?_take
abbrev Pd:=@List.getElem?_drop
abbrev Pe:=@List.set_cons_succ
abbrev Pf:=@List.map_append
abbrev Pg:=@Array.any_eq_true'
abbrev Ph:=@MapKept.run_setObj_map
abbrev Pj:=@List.take_add_one
abbrev Pk:=@List.mem_iff_getElem?
abbrev Pm:=@Iff.rfl
abbrev Pn:=@List.tail_cons
abbrev Po:=@Array.toList_extract
abbrev Pp:=@List.range'_succ
abbrev Pq:=@List.mem_of_mem_take
abbrev Pr:=@List.mem_of_mem_drop
abbrev Ps:=@Nat.lt_succ_self
abbrev Pt:=@Nat.le_add_right
abbrev Pu:=@List.getElem?_set_ne
abbrev Pv:=@Option.ne_none_iff_exists'
abbrev Pw:=@Array.getElem?_eq_some_iff
abbrev Px:=@List.take_succ_cons
abbrev Py:=@List.extract_eq_take_drop
abbrev Pz:=@List.set_cons_zero
abbrev PA:=@List.prefix_append
abbrev PB:=@List.mem_filterMap
abbrev PC:=@Classical.em
abbrev PD:=@List.getElem?_take_of_lt
abbrev PE:=@UInt8.toNat_ofNat'
abbrev PF:=@List.nodup_nil
abbrev PG:=@Array.size_append
abbrev PH:=@List.take_of_length_le
abbrev PI:=@Bool.not_eq_true
abbrev PJ:=@Array.toList_map
abbrev PK:=@List.take_length
abbrev PL:=@Eq.trans
abbrev PM:=@Ne.symm
abbrev PN:=@Array.getElem?_setIfInBounds_ne
abbrev PO:=@List.range_eq_range'
abbrev PQ:=@Int.mul_le_mul_of_nonneg_right
abbrev PR:=@List.map_map
abbrev PS:=@Nat.lt_or_ge
abbrev PT:=@Option.map_none
abbrev PU:=@List.pairwise_append
abbrev PV:=@Int.mul_le_mul_of_nonneg_left
abbrev PW:=@List.drop_drop
abbrev PX:=@List.mem_range
abbrev PY:=@Bool.not_eq_false'
abbrev PZ:=@Option.isNone_none
abbrev P0:=@List.isEmpty_cons
abbrev P1:=@Option.getD_none
abbrev P2:=@List.map_set
abbrev P3:=@List.idxOf_lt_length_iff
abbrev P4:=@List.eq_of_mem_replicate
abbrev P5:=@Nat.not_le_of_lt
abbrev P6:=@List.isEmpty_nil
abbrev P7:=@List.flatMap_nil
abbrev P8:=@List.foldl_cons
abbrev P9:=@Nat.mul_add
abbrev Qa:=@List.take_zero
abbrev Qb:=@List.mapM_cons
abbrev Qc:=@Nat.mul_le_mul
abbrev Qd:=@List.drop_left
abbrev Qe:=@Nat.not_lt
inductive T where
 | int (k:IntKind) (n:Int)
 | bool (b:Bool)
 | str (s:ByteArray)
 | ad (sz:Nat) (isNil:Bool) (xs:List (List T))
 | af (isNil:Bool)
 | ptr (cs:List T)
 | ak
 | tM
 | tL
 | xn
 | cw (f:FuncId)
 | any
 deriving Inhabited
inductive Id where
 | c (n:Nat)
 | s (d:Nat) (j:Nat)
 | g (i:Id) (n:Nat)
 deriving DecidableEq,Inhabited
def Id.real:Id->Bool
 | .g _ _=>false
 | _=>true
inductive AV where
 | top
 | t (x:T)
 | jX (vs:List AV)
 | agg (vs:List AV)
 | ref (i:Id) (off:Nat)
 | el (i:Id) (sz k off:Nat)
 | own (i:Id)
 | part (i:Id) (sz off len:Nat)
 | row (i:Id) (n:Nat)
 | rel (i:Id) (sz n k off:Nat)
 | fn (f:FuncId) (fst caps:List AV)
 deriving Inhabited
inductive Ck where
 | i (k:IntKind)
 | b
 | s
 | l (sz:Nat)
 | x
 deriving Inhabited,DecidableEq
structure Row where
 n:Nat
 cs:List T
 own:Option (Bool×List (List T))
 deriving Inhabited
inductive ab where
 | box (cs:List AV)
 | sl (fz:Bool) (sz:Nat) (isNil:Bool) (xs:List (List T))
 | eI (cs:List T)
 | arr (cs:List AV)
 | mp (ag:Bool) (ks:List Ck) (vk:Ck) (es:List (List T×T))
 | rows (b:Bool) (sz col rsz nx:Nat) (es:List Row)
 | dead
 deriving Inhabited
def T.int?(k:IntKind):T->Option Int
 | .int a n=>if a=k then some n else none
 | _=>none
def T.bool?:T->Option Bool
 | .bool b=>some b
 | _=>none
def T.a8:T->Option ByteArray
 | .str s=>some s
 | _=>none
def T.od:T->Option (List T)
 | .ptr cs=>some cs
 | _=>none
def T.au(sz:Nat):T->Option (Bool×List (List T))
 | .ad a b xs=>if a=sz then some (b,xs) else none
 | .af b=>some (b,[])
 | _=>none
def dq:T->Value
 | .int k n=> .int k n
 | .bool b=> .bool b
 | .str s=> .string s
 | _=> .nilIface
def cX(ag:Bool)(cs:List T):Value:=cond ag (.agg (cs.map dq).toArray) ((cs.map dq).headD .nilIface)
def dC:Ck->T->Bool
 | .i k, .int a _=>decide (a=k)
 | .b, .bool _=>true
 | .s, .str _=>true
 | _,_=>false
def cg:List Ck->List T->Bool
 | [],[]=>true
 | k::ks,x::xs=>dC k x && cg ks xs
 | _,_=>false
def lf:T->T->Bool
 | .int _ a, .int _ b=>a==b
 | .bool a, .bool b=>a==b
 | .str a, .str b=>a==b
 | _,_=>false
def dN:List T->List T->Bool
 | [],[]=>true
 | x::xs,y::a=>lf x y && dN xs a
 | _,_=>false
def fG(key:List T):List (List T×T)->Option T
 | []=>none
 | (k,v)::r=>cond (dN key k) (some v) (fG key r)
def gv(key:List T)(v:T):List (List T×T)->List (List T×T)
 | []=> [(key,v)]
 | (k,u)::r=>cond (dN key k) ((key,v)::r) ((k,u)::gv key v r)
def T.nP:T->Option Unit
 | .int _ _=>some ()
 | .bool _=>some ()
 | .str _=>some ()
 | _=>none
def gd{α:Type}[Inhabited α](c:Option Bool)(m:Option α):Option α:=
 match m with
 | some a=>some a
 | none=>match c with
  | none=>none
  | some b=>cond b none (some default)
def aa{α R:Type}[Inhabited α](c:Option Bool)(m:Option α)(k:α->Option R):Option R:=
 match m with
 | some a=>k a
 | none=>match c with
  | none=>none
  | some b=>cond b none (k default)
def mW{R:Type}(c:Option Bool):Nat->List T->(List T->Option R)->Option R
 | 0,_,K=>K []
 | n+1,cs,K=>aa c cs.head? λx=>mW c n cs.tail λl=>K (x::l)
def mI:Value->Option T
 | .int k i=>some (.int k i)
 | .bool b=>some (.bool b)
 | .string s=>some (.str s)
 | .slice none 0 0=>some (.af true)
 | .pointer none=>some .ak
 | .map none=>some .tM
 | .nilFunc=>some .tL
 | .nilIface=>some .xn
 | _=>none
def jL:List Value->Option (List T)
 | []=>some []
 | v::r=>(mI v).bind λx=>(jL r).bind λl=>some (x::l)
def bD(P:Program)(t:TypeId):Bool:=
 match P.underlying t with
 | some (.struct _) | some (.array _ _)=>true
 | _=>false
def po(P:Program)(t:TypeId):Option IntKind:=
 match P.underlying t with
 | some (.int k)=>some k
 | _=>none
def bW(P:Program)(t:TypeId):Bool:=(P.underlying t).isSome
def qG(P:Program)(t:TypeId)(f:Nat):Option (Nat×TypeId):=
 match P.underlying t with
 | some (.struct a)=>match a[f]? with
  | some x=>cond (bW P x.type) (some (x.offset,x.type)) none
  | none=>none
 | _=>none
def kW(P:Program)(t:TypeId):Option TypeId:=
 match P.underlying t with
 | some (.slice e)=>cond (bW P e) (some e) none
 | _=>none
def sF(P:Program)(t:TypeId):Option (Nat×TypeId):=
 match P.underlying t with
 | some (.array n e)=>cond (bW P e) (some (n,e)) none
 | _=>none
def oa(P:Program)(t:TypeId):Bool:=
 match P.underlying t with
 | some (.struct a)=>a.toList.all λf=>bW P f.type
 | some (.array _ e)=>bW P e
 | _=>false
def wM(P:Program)(t:TypeId):Bool:=
 match P.underlying t with
 | some .string=>true
 | _=>false
def gz(P:Program)(t:TypeId):Option (List T):=
 match P.info? t with
 | some i=>match i.zero with
  | some v=>jL v.cells.toList
  | none=>none
 | none=>none
structure Gs where
 d:Nat
 want:Bool
 c:Bool
structure St where
 t:Nat->Option Gs×AV
 h:Id->Option ab
abbrev aE:=List (Id×ab)
def aJ(h:Id->Option ab):aE->Id->Option ab
 | []=>h
 | (i,b)::us=>aJ (λj=>if j=i then some b else h j) us
def ko(d:Nat):Option Gs×AV->Option Gs×AV
 | (some g,v)=>cond (g.d==d) (none, .top) (some g,v)
 | (none,v)=>(none,v)
def St.put(s:St)(a:Bool)(d:Option Nat)(g:Option Gs)(v:AV)(us:aE):St:=
 {t :=match d with
    | some d=>λk=>if k=d then(g,v) else cond a (ko d (s.t k)) (s.t k)
    | none=>s.t
  h:=aJ s.h us}
def vr(v:Value):AV:=
 match v with
 | .agg cs=>match jL cs.toList with
  | some l=> .agg (l.map .t)
  | none=> .top
 | v=>match mI v with
  | some x=> .t x
  | none=> .top
def jt:Option Gs->Option Gs->Bool
 | none,_=>true
 | some a,some b=>a.d==b.d && a.want==b.want
 | some _,none=>false
def St.pG(s:St)(g:Gs):St:={s with t:=λk=>cond (jt (s.t k).1 (some g)) (none,(s.t k).2) (s.t k)}
def St.get(s:St)(g:Option Gs):Operand->AV
 | .tmp k=>match s.t k with
  | (a,v)=>cond (jt a g) v .top
 | .const v=>vr v
 | .func f=> .fn f [] []
 | .global _=> .top
def St.kx(s:St)(g:Option Gs)(cs:Operand)(want:Bool)(o:Operand):AV:=
 match cs,o with
 | .tmp d, .tmp k=>match s.t k with
  | (some a,v)=>cond ((a.d==d && a.want==want) || jt (some a) g) v .top
  | (none,v)=>v
 | _,o=>s.get g o
def AV.t?:AV->Option T
 | .t x=>some x
 | _=>none
def dK:List AV->Option (List T)
 | []=>some []
 | .t x::r=>(dK r).bind λl=>some (x::l)
 | _::_=>none
def dm(h:Id->Option ab):AV->Option T
 | .t x=>some x
 | .own i=>match h i with
  | some (.sl _ sz b xs)=>some (.ad sz b xs)
  | _=>none
 | .part i sz off len=>match h i with
  | some (.sl _ a b xs)=>if a=sz then some (.ad sz b ((xs.drop off).take len)) else none
  | _=>none
 | .ref i off=>match h i with
  | some (.box cs)=>(dK cs).bind λl=>some (.ptr (l.drop off))
  | some (.eI l)=>some (.ptr (l.drop off))
  | _=>none
 | _=>none
def jv(h:Id->Option ab):List AV->Option (List T)
 | []=>some []
 | v::r=>(dm h v).bind λx=>(jv h r).bind λl=>some (x::l)
def yc(h:Id->Option ab):AV->Option T
 | .own i=>match h i with
  | some (.sl _ sz b xs)=>some (.ad sz b xs)
  | some (.rows ..)=>some .any
  | some (.mp ..)=>some .any
  | _=>none
 | v=>dm h v
def rS(h:Id->Option ab):List AV->Option (List T)
 | []=>some []
 | v::r=>(yc h v).bind λx=>(rS h r).bind λl=>some (x::l)
def ju(h:Id->Option ab):AV->Option (List T)
 | .agg vs=>jv h vs
 | v=>(dm h v).bind λx=>some [x]
def fN(h:Id->Option ab):AV->aE
 | .own i=>match h i with
  | some (.sl false sz b xs)=> [(i, .sl true sz b xs)]
  | _=> []
 | .part i _ _ _=>match h i with
  | some (.sl false sz b xs)=> [(i, .sl true sz b xs)]
  | _=> []
 | .ref i _=>match h i with
  | some (.box cs)=>match dK cs with
   | some l=> [(i, .eI l)]
   | none=> []
  | _=> []
 | _=> []
def kv(h:Id->Option ab):List AV->aE
 | []=> []
 | v::r=>fN h v++kv h r
def fH(h:Id->Option ab):AV->aE
 | .agg vs=>kv h vs
 | v=>fN h v
def oI{R:Type}(op:BinOp)(k:IntKind)(c:Option Bool)(x y:T)(K:T->Option R):Option R:=
 aa c (x.int? k) λa=>aa c (y.int? k) λb=>
  match op with
  | .add=>K (.int k (k.wrap (a+b)))
  | .sub=>K (.int k (k.wrap (a - b)))
  | .mul=>K (.int k (k.wrap (a * b)))
  | .quo=>aa c (if b=0 then none else some ()) λ_=>K (.int k (k.wrap (a.tdiv b)))
  | .rem=>aa c (if b=0 then none else some ()) λ_=>K (.int k (a.tmod b))
  | .and=>K (.int k (k.wrap (BitVec.ofInt k.bits a &&& BitVec.ofInt k.bits b).toNat))
  | .or=>K (.int k (k.wrap (BitVec.ofInt k.bits a ||| BitVec.ofInt k.bits b).toNat))
  | .xor=>K (.int k (k.wrap (BitVec.ofInt k.bits a ^^^ BitVec.ofInt k.bits b).toNat))
  | .andNot=>K (.int k (k.wrap (BitVec.ofInt k.bits a &&& ~~~(BitVec.ofInt k.bits b)).toNat))
  | .lss=>K (.bool (decide (a < b)))
  | .leq=>K (.bool (decide (a<=b)))
  | .gtr=>K (.bool (decide (a > b)))
  | .geq=>K (.bool (decide (a>=b)))
  | _=>none
def pU{R:Type}(op:BinOp)(k ky:IntKind)(c:Option Bool)(x y:T)(K:T->Option R):Option R:=
 aa c (x.int? k) λa=>aa c (y.int? ky) λb=>
  aa c (if b < 0 then none else some ()) λ_=>
  match op with
  | .shl=>K (.int k (k.wrap (a * 2 ^ (min b.toNat k.bits))))
  | .shr=>K (.int k (a.fdiv (2 ^ (min b.toNat k.bits))))
  | _=>none
def pZ{R:Type}(op:BinOp)(c:Option Bool)(x y:T)(K:T->Option R):Option R:=
 aa c x.a8 λa=>aa c y.a8 λb=>
  match op with
  | .add=>aa c (if a.size+b.size<=4294967296 then some () else none) λ_=>K (.str (a++b))
  | .lss=>K (.bool (Op.bytesLess a.toList b.toList))
  | .leq=>K (.bool (Op.bytesLess a.toList b.toList || a.toList==b.toList))
  | .gtr=>K (.bool (!(Op.bytesLess a.toList b.toList || a.toList==b.toList)))
  | .geq=>K (.bool (!(Op.bytesLess a.toList b.toList)))
  | _=>none
def ph(P:Program)(go:TypeId->Option (List TypeId)):List Field->Nat->Option (List TypeId)
 | [],_=>some []
 | f ::r,off=>if f.offset=off/\f.name≠ "_" then
     (go f.type).bind λl=>if P.cellsOf f.type=l.length/\0 < l.length then(ph P go r (off+l.length)).bind λq=>some (l++q) else none
  else none
def eP(P:Program):Nat->TypeId->Option (List TypeId)
 | 0,_=>none
 | n+1,t=>match P.underlying t with
  | some (.int _) | some .bool | some .string=>some [t]
  | some (.struct a)=>if P.stoodInHeld t then none else ph P (eP P n) a.toList 0
  | some (.array m e)=>(eP P n e).bind λl=>if P.cellsOf e=l.length then some (List.replicate m l).flatten else none
  | _=>none
def iv(P:Program)(s:St)(t:TypeId)(x:AV):Option Bool:=
 match P.underlying t with
 | some (.slice _)=>match x with
  | .t (.ad _ b _)=>some b
  | .t (.af b)=>some b
  | .own i=>match s.h i with
   | some (.sl _ _ b _)=>some b
   | _=>none
  | _=>none
 | some (.pointer _)=>match x with
  | .t (.ptr _)=>some false
  | .t .ak=>some true
  | .ref _ _=>some false
  | .el _ _ _ _=>some false
  | _=>none
 | some (.func ..)=>match x with
  | .t .tL=>some true
  | .fn _ _ _=>some false
  | _=>none
 | some (.map ..)=>match x with
  | .t .tM=>some true
  | _=>none
 | _=>none
def mH(P:Program)(t:TypeId)(o:Operand):Bool:=
 match P.underlying t,o with
 | some (.slice _), .const (.slice none 0 0)=>true
 | some (.pointer _), .const (.pointer none)=>true
 | some (.func ..), .const .nilFunc=>true
 | some (.map ..), .const (.map none)=>true
 | _,_=>false
def jH{R:Type}(P:Program)(c:Option Bool)(t:TypeId)(x y:T)(K:Bool->Option R):Option R:=
 match P.underlying t with
 | some (.int k)=>aa c (x.int? k) λa=>aa c (y.int? k) λb=>K (a==b)
 | some .bool=>aa c x.bool? λa=>aa c y.bool? λb=>K (a==b)
 | some .string=>aa c x.a8 λa=>aa c y.a8 λb=>K (a==b)
 | _=>none
def dS{R:Type}(P:Program)(c:Option Bool):List TypeId->List T->List T->(Bool->Option R)->Option R
 | [],[],[],K=>K true
 | t::ts,x::xs,y::a,K=>jH P c t x y λb=>dS P c ts xs a λr=>K (b && r)
 | _,_,_,_=>none
def oK{R:Type}(P:Program)(op:BinOp)(t ty:TypeId)(c:Option Bool)(x y:T)(K:T->Option R):Option R:=
 match op with
 | .shl | .shr=>match po P t,po P ty with
  | some k,some ky=>pU op k ky c x y K
  | _,_=>none
 | .eql | .neq=>none
 | op=>match P.underlying t with
  | some (.int k)=>oI op k c x y K
  | some .string=>pZ op c x y K
  | _=>none
def nM{R:Type}(P:Program)(c:Option Bool)(t:TypeId)(x y:AV)(K:Bool->Option R):Option R:=
 match x,y with
 | .t x, .t y=>cond (wM P t) (aa c x.a8 λa=>aa c y.a8 λb=>K (a.toList==b.toList)) (jH P c t x y K)
 | .agg xs, .agg d=>cond (P.eqGuardType P.depth t || !bD P t) none <| (dK xs).bind λxs=>(dK d).bind λd=>(eP P 8 t).bind λts=>dS P c ts xs d K
 | _,_=>none
def qc{R:Type}(P:Program)(op:UnOp)(t:TypeId)(c:Option Bool)(x:T)(K:T->Option R):Option R:=
 match op,P.underlying t with
 | .neg,some (.int k)=>aa c (x.int? k) λa=>K (.int k (k.wrap (0 - a)))
 | .xor,some (.int k)=>aa c (x.int? k) λa=>
   K (.int k (k.wrap (BitVec.ofInt k.bits (if k.signed then -1 else k.max) ^^^ BitVec.ofInt k.bits a).toNat))
 | .not,some .bool=>aa c x.bool? λa=>K (.bool (!a))
 | _,_=>none
open Go
def eF{R:Type}(k:Ck)(c:Option Bool)(x:T)(K:T->Option R):Option R:=
 match k with
 | .i k=>aa c (x.int? k) λn=>K (.int k n)
 | .b=>aa c x.bool? λb=>K (.bool b)
 | .s=>aa c x.a8 λs=>K (.str s)
 | .l sz=>aa c (x.au sz) λp=>K (.ad sz p.1 p.2)
 | .x=>K x
def eC{R:Type}(c:Option Bool):List Ck->List T->(List T->Option R)->Option R
 | [],xs,K=>K xs
 | _::_,[],K=>K []
 | k::ks,x::xs,K=>eF k c x λy=>eC c ks xs λa=>K (y::a)
def jB(P:Program)(t:TypeId):Ck:=
 match P.underlying t with
 | some (.int k)=> .i k
 | some .bool=> .b
 | some .string=> .s
 | some (.slice e)=> .l (P.cellsOf e)
 | _=> .x
def sH(P:Program):Nat->TypeId->List Ck
 | 0,_=> []
 | n+1,t=>match P.underlying t with
  | some (.struct a)=>a.toList.flatMap λf=>sH P n f.type
  | some (.array m e)=>(List.replicate m (sH P n e)).flatten
  | _=> [jB P t]
def qn(P:Program)(t:TypeId):List Ck:=
 if(sH P 8 t).length=P.cellsOf t then sH P 8 t else List.replicate (P.cellsOf t) .x
inductive cf where
 | f (k:Ck)
 | t (k:Ck)
 | own (sz:Nat)
 | ref (k off:Nat)
 | same (k:Nat)
 | rows (sz col rsz:Nat)
 | mp (ag:Bool) (ks:List Ck) (vk:Ck)
 | new (l:List cf)
 | no
 | agg (l:List cf)
 deriving Inhabited
inductive iC where
 | box (l:List cf)
 | sl (sz:Nat)
 | mp (ag:Bool) (ks:List Ck) (vk:Ck)
 | dead
 deriving Inhabited
structure yB where
 res:List cf
 outs:List iC
 deriving Inhabited
structure cx where
 live:FuncId->Nat->Option (List (Nat×Option Nat))
 join:FuncId->Nat->Option (List (Nat×Option Nat))
 sig:FuncId->Option yB
 gf:FuncId->Option (List Bool):=λ_=>none
 deep:FuncId->Bool:=λ_=>false
 vg:FuncId->Nat->yB:=λ_ _=>⟨[],[]⟩
 app:Option Nat->Bool:=λ_=>false
 wr:FuncId->Bool:=λ_=>false
 st:Option Nat->Bool:=λ_=>false
 Ej:Option Nat->TypeId->Bool:=λ_ _=>true
 sx:Option Nat->Bool:=λ_=>false
 ld:Option Nat->Bool:=λ_=>false
 vq:Option Nat->Bool:=λ_=>false
 oN:Option Nat->TypeId->Bool:=λ_ _=>false
 tD:Option Nat->TypeId->Bool:=λ_ _=>false
 tC:Option Nat->TypeId->Bool:=λ_ _=>false
 jK:Option Nat->TypeId->Nat:=λ_ _=>0
 ext:FuncId->List AV->List ab->Option (List T):=λ_ _ _=>none
inductive Key where
 | call (f:FuncId)
 | node (f:FuncId) (todo:List Item) (live:List (Nat×Option Nat)) (m:Nat×Nat)
abbrev ax:=Key->List AV->List ab->Option (List T)
def kA:Nat:=4294967296
mutual
def AV.ids:AV->List Id
 | .top=> []
 | .t _=> []
 | .jX vs=>bX vs
 | .agg vs=>bX vs
 | .ref i _=> [i]
 | .el i _ _ _=> [i]
 | .own i=> [i]
 | .part i _ _ _=> [i]
 | .row i _=> [i]
 | .rel i _ _ _ _=> [i]
 | .fn _ a b=>bX a++bX b
def bX:List AV->List Id
 | []=> []
 | v::r=>v.ids++bX r
end
mutual
def AV.rn(m:List Id):AV->AV
 | .top=> .top
 | .t x=> .t x
 | .jX vs=> .jX (iU m vs)
 | .agg vs=> .agg (iU m vs)
 | .ref i o=> .ref (.c (m.idxOf i)) o
 | .el i sz k o=> .el (.c (m.idxOf i)) sz k o
 | .own i=> .own (.c (m.idxOf i))
 | .part i sz o n=> .part (.c (m.idxOf i)) sz o n
 | .row i n=> .row (.c (m.idxOf i)) n
 | .rel i sz n k o=> .rel (.c (m.idxOf i)) sz n k o
 | .fn f a b=> .fn f (iU m a) (iU m b)
def iU(m:List Id):List AV->List AV
 | []=> []
 | v::r=>v.rn m::iU m r
end
def fQ(m:List Id):Option ab->ab
 | some (.box cs)=> .box (iU m cs)
 | some (.arr cs)=> .arr (iU m cs)
 | some b=>b
 | none=> .dead
def eE(h:Id->Option ab):Nat->List Id->List Id->Option (List Id)
 | 0,_,_=>none
 | _+1,[],seen=>some seen
 | n+1,i::todo,seen=>
  cond (seen.contains i) (eE h n todo seen)
   (match h i with
    | some (.box cs)=>eE h n (todo++bX cs) (seen++ [i])
    | some (.arr cs)=>eE h n (todo++bX cs) (seen++ [i])
    | some _=>eE h n todo (seen++ [i])
    | none=>none)
def kK:Nat->List AV->Option (List AV)
 | 0,_=>some []
 | _+1,[]=>none
 | n+1,c::r=>(kK n r).bind λl=>some (c::l)
def cm{α:Type}(off:Nat)(new a:List α):List α:=a.take off++new++a.drop (off+new.length)
def cv(n:Nat):List Row->Option (Bool×List (List T))
 | []=>none
 | e::r=>if e.n=n then e.own else cv n r
def cR(n:Nat)(p:Option (Bool×List (List T))):List Row->List Row
 | []=> []
 | e::r=>if e.n=n then{e with own:=p}::r else e::cR n p r
def jS{R:Type}(h:Id->Option ab)(c:Option Bool)(i:Id)(n:Nat)(K:Nat->Bool->List (List T)->Option R):Option R:=
 match h i with
 | some (.rows _ _ _ rsz _ es)=>aa c (cv n es) λp=>K rsz p.1 p.2
 | _=>none
def jm{R:Type}(P:Program)(t:TypeId)(c:Option Bool)(cs:List T)(K:AV->Option R):Option R:=
 cond (bD P t) (mW c (P.cellsOf t) cs λl=>eC c (qn P t) l λl=>K (.agg (l.map .t))) (aa c cs.head? λx=>eF (jB P t) c x λx=>K (.t x))
def kB{R:Type}(P:Program)(t:TypeId)(cs:List AV)(K:AV->Option R):Option R:=
 cond (bD P t) ((kK (P.cellsOf t) cs).bind λl=>K (.agg l)) (cs.head?.bind K)
def pv{R:Type}(P:Program)(t:TypeId)(c:Option Bool)(i:Id)(sz col off:Nat)(e:Row)(K:AV->Option R):Option R:=
 cond (bD P t)
  (if off=0/\P.cellsOf t=sz then mW c sz e.cs λl=>eC c ((qn P t).set col .x) l λl=>K (.agg ((l.map .t).set col (.row i e.n))) else none)
  (if off=col then K (.row i e.n) else aa c (e.cs.drop off).head? λx=>eF (jB P t) c x λx=>K (.t x))
def fI{R:Type}(P:Program)(s:St)(c:Option Bool)(t:TypeId)(a:AV)(K:AV->Option R):Option R:=
 cond (bW P t) (match a with
 | .ref i off=>match s.h i with
  | some (.box cs)=>kB P t (cs.drop off) K
  | some (.eI l)=>jm P t c (l.drop off) K
  | _=>none
 | .el i sz k off=>match s.h i with
  | some (.sl _ b _ xs)=>if b=sz then aa c xs[k]? λcs=>jm P t c (cs.drop off) K else none
  | some (.rows _ b col _ _ es)=>if b=sz then aa c es[k]? λe=>pv P t c i sz col off e K else none
  | _=>none
 | .rel i sz n k off=>jS s.h c i n λrsz _ xs=>if rsz=sz then aa c xs[k]? λcs=>jm P t c (cs.drop off) K else none
 | .t x=>aa c x.od λcs=>jm P t c cs K
 | _=>none) none
def fE(v:AV):List AV:=
 match v with
 | .agg vs=>vs
 | .fn f [] []=> [.t (.cw f)]
 | v=> [v]
def nF:AV->Bool
 | .agg _ | .jX _ | .top=>false
 | _=>true
def fV(k off:Nat)(l:List T)(xs:List (List T)):Option (List (List T)):=
 match xs[k]? with
 | some cs=>if off+l.length<=cs.length then some (xs.set k (cm off l cs)) else none
 | none=>none
def gZ{R:Type}(P:Program)(s:St)(t:TypeId)(a v:AV)(K:aE->Option R):Option R:=
 cond (bW P t) (match a with
 | .ref i off=>match s.h i with
  | some (.box cs)=>
   if(fE v).length=P.cellsOf t/\(fE v).all nF/\off+ (fE v).length<=cs.length then K [(i, .box (cm off (fE v) cs))] else none
  | _=>none
 | .el i sz k off=>match s.h i with
  | some (.sl false d b xs)=>(ju s.h v).bind λl=>
    if d=sz/\l.length=P.cellsOf t/\v.ids.contains i=false then
     aa none (fV k off l xs) λm=>K ((i, .sl false sz b m)::fH s.h v) else none
  | some (.rows b d col rsz f es)=>match v with
   | .own j=>match s.h j with
    | some (.sl false g o xs)=>
     if d=sz/\off=col/\g=rsz/\P.cellsOf t=1/\bD P t=false then
      aa none es[k]? λe=>K [(j, .dead),(i, .rows b sz col rsz (f+1) (es.set k ⟨f,e.cs,some (o,xs)⟩))] else none
    | _=>none
   | _=>none
  | _=>none
 | .rel i sz n k off=>match s.h i with
  | some (.rows b d col rsz f es)=>aa none (cv n es) λp=>(ju s.h v).bind λl=>
    if rsz=sz/\l.length=P.cellsOf t/\v.ids.contains i=false then
     aa none (fV k off l p.2) λm=>K ((i, .rows b d col rsz f (cR n (some (p.1,m)) es))::fH s.h v) else none
  | _=>none
 | _=>none) none
def qT:List (Nat×List AV)->List AV->Option (List AV)
 | [],z=>some z
 | (off,l)::r,z=>if off+l.length<=z.length then qT r (cm off l z) else none
def rD(P:Program)(t:TypeId)(f:Nat):Option (Nat×TypeId):=
 match qG P t f with
 | some p=>some p
 | none=>match sF P t with
  | some (_,u)=>some (f * P.cellsOf u,u)
  | none=>none
def mM(P:Program)(t:TypeId)(ev:Operand->AV):List (Nat×Operand)->Option (List (Nat×List AV))
 | []=>some []
 | (f,o)::r=>(rD P t f).bind λp=>
   if(fE (ev o)).length=P.cellsOf p.2/\(fE (ev o)).all nF then(mM P t ev r).bind λq=>some ((p.1,fE (ev o))::q) else none
def sG(P:Program)(t:TypeId)(ev:Operand->AV)(a:List (Nat×Operand)):Option AV:=
 if oa P t then
 (gz P t).bind λz=>(mM P t ev a).bind λl=>(qT l (z.map .t)).bind λcs=>some (.agg cs)
 else none
def gh(P:Program)(h:Id->Option ab)(e:TypeId)(ev:Operand->AV):Nat->List (Nat×Operand)->Option (List (List T)×aE)
 | _,[]=>some ([],[])
 | n,(k,o)::r=>(ju h (ev o)).bind λl=>if k=n/\l.length=P.cellsOf e then
    (gh P h e ev (n+1) r).bind λq=>some (l::q.1,fH h (ev o)++q.2)
  else none
def iN{R:Type}(c:Option Bool)(i:Int)(n:Nat)(K:Option R):Option R:=aa c (if 0<=i/\i < n then some () else none) λ_=>K
def iu{R:Type}(P:Program)(s:St)(c:Option Bool)(t:TypeId)(x:AV)(i:Int)(K:AV->Option R):Option R:=
 match kW P t with
 | some e=>match x with
  | .own j=>match s.h j with
   | some (.sl _ sz _ xs)=>if sz=P.cellsOf e then iN c i xs.length (K (.el j sz i.toNat 0)) else none
   | some (.rows _ sz _ _ _ es)=>if sz=P.cellsOf e then iN c i es.length (K (.el j sz i.toNat 0)) else none
   | _=>none
  | .row j n=>jS s.h c j n λrsz _ xs=>if rsz=P.cellsOf e then iN c i xs.length (K (.rel j rsz n i.toNat 0)) else none
  | .part j sz off n=>match s.h j with
   | some (.sl _ a _ _)=>if sz=P.cellsOf e/\a=sz then iN c i n (K (.el j sz (off+i.toNat) 0)) else none
   | _=>none
  | .t y=>aa c (y.au (P.cellsOf e)) λp=>iN c i p.2.length (aa c p.2[i.toNat]? λcs=>K (.t (.ptr cs)))
  | _=>none
 | none=>match sF P t with
  | some (n,e)=>iN c i n (match x with
   | .ref j off=>K (.ref j (off+i.toNat * P.cellsOf e))
   | .el j sz k off=>K (.el j sz k (off+i.toNat * P.cellsOf e))
   | .t y=>aa c y.od λcs=>K (.t (.ptr (cs.drop (i.toNat * P.cellsOf e))))
   | _=>none)
  | none=>none
def pe{R:Type}(P:Program)(c:Option Bool)(t:TypeId)(x:AV)(f:Nat)(K:AV->Option R):Option R:=
 match qG P t f with
 | some (off,u)=>if P.cellsOf u=0 then none else
  match x with
  | .ref j o=>K (.ref j (o+off))
  | .el j sz k o=>K (.el j sz k (o+off))
  | .rel j sz n k o=>K (.rel j sz n k (o+off))
  | .t y=>aa c y.od λcs=>K (.t (.ptr (cs.drop off)))
  | _=>none
 | none=>none
def pd{R:Type}(P:Program)(t:TypeId)(x:AV)(f:Nat)(K:AV->Option R):Option R:=
 match qG P t f with
 | some (off,u)=>match x with
  | .agg vs=>kB P u (vs.drop off) K
  | _=>none
 | none=>none
def lC{R:Type}(P:Program)(s:St)(c:Option Bool)(t:TypeId)(x:AV)(K:AV->Option R):Option R:=
 match P.underlying t with
 | some .string=>match x with
  | .t y=>aa c y.a8 λb=>K (.t (.int .i64 b.size))
  | _=>none
 | some (.array n _)=>K (.t (.int .i64 n))
 | some (.slice e)=>match x with
  | .own j=>match s.h j with
   | some (.sl _ _ _ xs)=>K (.t (.int .i64 xs.length))
   | some (.rows _ _ _ _ _ es)=>K (.t (.int .i64 es.length))
   | _=>none
  | .row j n=>jS s.h c j n λ_ _ xs=>K (.t (.int .i64 xs.length))
  | .part _ _ _ n=>K (.t (.int .i64 n))
  | .t y=>aa c (y.au (P.cellsOf e)) λp=>K (.t (.int .i64 p.2.length))
  | _=>none
 | _=>none
def gM{R:Type}(s:St)(c:Option Bool)(g:Option Gs)(o:Option Operand)(K:Option Int->Option R):Option R:=
 match o with
 | none=>K none
 | some o=>(s.get g o).t?.bind λx=>aa c (anyInt x) λn=>K (some n)
where
 anyInt:T->Option Int
  | .int _ n=>some n
  | _=>none
def eZ(b a n:Int):Option Unit:=if 0<=b/\b<=a/\a<=n then some () else none
def sub(a b:Int)(xs:List (List T)):List (List T):=(xs.drop a.toNat).take (b.toNat - a.toNat)
def uM(b a m:Int):Option Unit:=if b=0/\a=0/\m=0 then some () else none
def tz:T->Bool
 | .af true=>true
 | .ad _ true []=>true
 | _=>false
def lS{R:Type}(P:Program)(s:St)(c:Option Bool)(t:TypeId)(x:AV)(a d f:Option Int)(K:AV->Option R):Option R:=
 match P.underlying t with
 | some .string=>match x,f with
  | .t y,none=>aa c y.a8 λb=>
    aa c (eZ (a.getD 0) (d.getD b.size) b.size) λ_=>K (.t (.str (b.extract (a.getD 0).toNat (d.getD b.size).toNat)))
  | _,_=>none
 | some (.slice e)=>match f with
  | none=>match x with
   | .own j=>match s.h j with
    | some (.sl _ sz _ xs)=>if sz=P.cellsOf e/\bW P e=true then
      aa c (eZ (a.getD 0) (d.getD xs.length) xs.length) λ_=>
      K (.part j sz (a.getD 0).toNat ((d.getD xs.length).toNat - (a.getD 0).toNat)) else none
    | _=>none
   | .part j sz off n=>match s.h j with
    | some (.sl _ g _ _)=>if sz=P.cellsOf e/\g=sz/\bW P e=true then
      aa c (eZ (a.getD 0) (d.getD n) n) λ_=>
      K (.part j sz (off+ (a.getD 0).toNat) ((d.getD n).toNat - (a.getD 0).toNat)) else none
    | _=>none
   | .t y=>if bW P e=true then aa c (y.au (P.cellsOf e)) λp=>
     aa c (eZ (a.getD 0) (d.getD p.2.length) p.2.length) λ_=>
     K (.t (.ad (P.cellsOf e) p.1 (sub (a.getD 0) (d.getD p.2.length) p.2))) else none
   | _=>none
  | some m=>match x with
   | .t y=>if bW P e=true then aa c (y.au (P.cellsOf e)) λp=>aa c (uM (a.getD 0) (d.getD 1) m) λ_=>K (.t (.af p.1)) else none
   | .own j=>match s.h j with
    | some (.sl _ _ b _)=>if bW P e=false then none else aa c (uM (a.getD 0) (d.getD 1) m) λ_=>K (.t (.af b))
    | _=>none
   | _=>none
 | _=>none
def kC(n m:Int):Option Unit:=if 0<=n/\n<=m/\m<=kA then some () else none
def ke{R:Type}(P:Program)(s:St)(t:TypeId)(sz:Nat)(a:List T)(y:AV)(K:List (List T)->Option R):Option R:=
 match P.underlying t with
 | some (.slice _)=>(dm s.h y).bind λx=>aa none (x.au sz) λp=>K p.2
 | some .string=>if sz=1 then y.t?.bind λx=>aa none x.a8 λb=>K (b.data.toList.map λu=> [.int .u8 u.toNat]) else none
 | some (.int _)=>y.t?.bind λx=>aa none (x.int? .i64) λn=>aa none (kC n n) λ_=>K (List.replicate n.toNat a)
 | _=>none
def mr(a n:Nat):Prop:=n<=kA\/(0 < a/\n * a<=140737488355328)
instance (bs n:Nat):Decidable (mr bs n):=inferInstanceAs (Decidable (_\/_))
def bp(a n:Nat):Option Unit:=if mr a n then some () else none
def CE:T->Option Bool
 | .af b=>some b
 | .ad _ b xs=>cond (b && xs.isEmpty) (some true) none
 | _=>none
def xR(h:Id->Option ab):AV->Option (Id×Nat×Nat×Nat×Nat×List Row)
 | .own i=>match h i with
  | some (.rows _ sz col rsz a es)=>some (i,sz,col,rsz,a,es)
  | _=>none
 | _=>none
def xv(h:Id->Option ab):AV->Option (Id×List AV)
 | .own j=>match h j with
  | some (.arr cs)=>some (j,cs)
  | _=>none
 | _=>none
def nC{R:Type}(P:Program)(s:St)(d:Nat)(e:TypeId)(i:Id)(sz col rsz f:Nat)(es:List Row)(j:Id)(cs:List AV)(K:AV->aE->Option R):Option R:=
 if sz=P.cellsOf e/\cs.length=sz/\col < sz/\i≠j then
  (dK (cs.set col (.t .ak))).bind λl=>match cs[col]? with
   | some (.own o)=>match s.h o with
    | some (.sl false m u xs)=>if m=rsz then
      aa none (bp (P.bytesOf e) (es.length+1)) λ_=>
      K (.own (.s d 0)) [(i, .dead),(j, .dead),(o, .dead),(.s d 0, .rows false sz col rsz (f+1) (es++ [⟨f,l,some (u,xs)⟩]))] else none
    | _=>none
   | some (.row a n)=>match s.h a with
    | some (.rows v r k b q g)=>if b=rsz/\a≠i then
      aa none (cv n g) λp=>aa none (bp (P.bytesOf e) (es.length+1)) λ_=>
      K (.own (.s d 0)) [(i, .dead),(j, .dead),(a, .rows v r k b q (cR n none g)),(.s d 0, .rows false sz col rsz (f+1) (es++ [⟨f,l,some p⟩]))] else none
    | _=>none
   | _=>none
 else none
def jd{R:Type}(P:Program)(s:St)(d:Nat)(rw:Bool)(t ty:TypeId)(x y:AV)(K:AV->aE->Option R):Option R:=
 (kW P t).bind λe=>(gz P e).bind λk=>
 if P.bytesOf e<=8192/\k.length=P.cellsOf e then
 match cond rw (xR s.h x) none,cond rw (xv s.h y) none with
 | some (i,sz,col,rsz,l,es),some (j,cs)=>match P.underlying ty with
  | some (.slice _)=>nC P s d e i sz col rsz l es j cs K
  | _=>none
 | _,_=>
 ke P s ty (P.cellsOf e) k y λa=>
 match x with
 | .own i=>match s.h i with
  | some (.sl false f b xs)=>if f=P.cellsOf e then
    aa none (bp (P.bytesOf e) (xs.length+a.length)) λ_=>
    K (.own (.s d 0)) [(.s d 0, .sl false (P.cellsOf e) (b && a.isEmpty) (xs++a)),(i, .dead)] else none
  | _=>none
 | .part i g off n=>match s.h i with
  | some (.sl false f b xs)=>if f=P.cellsOf e/\g=P.cellsOf e then
    aa none (bp (P.bytesOf e) (n+a.length)) λ_=>
    K (.own (.s d 0)) [(.s d 0, .sl false (P.cellsOf e) (b && a.isEmpty) ((xs.drop off).take n++a)),(i, .dead)] else none
  | _=>none
 | .t z=>(CE z).bind λb=>aa none (bp (P.bytesOf e) a.length) λ_=>
    K (.own (.s d 0)) [(.s d 0, .sl false (P.cellsOf e) (b && a.isEmpty) a)]
 | _=>none
 else none
def nZ(n:Nat):List Row:=(List.range n).map λk=>⟨k,[.ak],some (true,[])⟩
def pw{R:Type}(P:Program)(d:Nat)(t:TypeId)(jK:Nat)(n m:T)(K:AV->aE->Option R):Option R:=
 (kW P t).bind λe=>(gz P e).bind λa=>
 aa none (n.int? .i64) λn=>aa none (m.int? .i64) λm=>
 if P.bytesOf e<=8192/\a.length=P.cellsOf e then
 aa none (kC n m) λ_=>
  cond (jK==2) (match P.underlying e,a with
   | some (.slice u),[.af true]=>if P.cellsOf e=1 then K (.own (.s d 0)) [(.s d 0, .rows false 1 0 (P.cellsOf u) n.toNat (nZ n.toNat))] else none
   | _,_=>none)
   (K (.own (.s d 0)) [(.s d 0, .sl false (P.cellsOf e) false (List.replicate n.toNat a))])
 else none
def mm(d:Bool)(a b:Int):Int:=cond d (if b > a then b else a) (if b < a then b else a)
def mF{R:Type}(k:IntKind)(c:Option Bool)(d:Bool):Int->List T->(T->Option R)->Option R
 | a,[],K=>K (.int k a)
 | a,y::r,K=>aa c (y.int? k) λb=>mF k c d (mm d a b) r K
def oP{R:Type}(P:Program)(c:Option Bool)(src a:TypeId)(x:T)(K:T->Option R):Option R:=
 match P.underlying src,P.underlying a with
 | some (.int k),some (.int d)=>aa c (x.int? k) λn=>K (.int d (d.wrap n))
 | some .string,some .string=>aa c x.a8 λb=>K (.str b)
 | _,_=>none
def bytesOf:List (List T)->Option (List UInt8)
 | []=>some []
 | cs::r=>cs.head?.bind λx=>(x.int? .u8).bind λn=>(bytesOf r).bind λl=>some (UInt8.ofNat n.toNat::l)
def kG:Ck->Bool
 | .i _ | .b | .s=>true
 | _=>false
def pA(P:Program)(t:TypeId):Option (TypeId×TypeId):=
 match P.underlying t with
 | some (.map k e)=>cond (bW P k && bW P e) (some (k,e)) none
 | _=>none
def yz(P:Program)(t:TypeId):Option T:=
 match P.info? t with
 | some i=>match i.zero with
  | some v=>mI v
  | none=>none
 | none=>none
def jk(P:Program)(k:TypeId):Option (Bool×List Ck):=
 match P.underlying k with
 | some (.int i)=>some (false,[.i i])
 | some .string=>some (false,[.s])
 | some (.array n e)=>match P.underlying e with
  | some (.int i)=>if P.cellsOf e=1/\n<=8 then some (true,List.replicate n (.i i)) else none
  | _=>none
 | _=>none
def mC{R:Type}(P:Program)(k:TypeId)(c:Option Bool)(v:AV)(K:Bool->List Ck->List T->Option R):Option R:=
 (jk P k).bind λq=>match q.1,v with
  | false, .t x=>eC c q.2 [x] λcs=>K false q.2 cs
  | true, .agg vs=>(dK vs).bind λl=>if l.length=q.2.length then eC c q.2 l λcs=>K true q.2 cs else none
  | _,_=>none
def lD{R:Type}(P:Program)(s:St)(c:Option Bool)(t:TypeId)(x key:AV)(ok:Bool)(K:AV->Option R):Option R:=
 (pA P t).bind λq=>(yz P q.2).bind λz=>mC P q.1 c key λag ks cs=>match x with
  | .own i=>match s.h i with
   | some (.mp a b vk es)=>if a=ag/\b=ks/\jB P q.2=vk/\kG vk=true/\bD P q.2=false then
     eF vk c ((fG cs es).getD z) λv=>K (cond ok (.jX [.t v, .t (.bool (fG cs es).isSome)]) (.t v)) else none
   | _=>none
  | _=>none
def py{R:Type}(P:Program)(d:Nat)(t:TypeId)(K:AV->aE->Option R):Option R:=
 (pA P t).bind λq=>(jk P q.1).bind λp=>if kG (jB P q.2)=true then K (.own (.s d 0)) [(.s d 0, .mp p.1 p.2 (jB P q.2) [])] else K (.t .any) [(.s d 0, .dead)]
def lK{R:Type}(P:Program)(s:St)(t:TypeId)(x key v:AV)(K:aE->Option R):Option R:=
 (pA P t).bind λq=>mC P q.1 none key λag ks cs=>match x with
  | .own i=>match s.h i with
   | some (.mp a b vk es)=>if a=ag/\b=ks/\jB P q.2=vk/\kG vk=true then
     v.t?.bind λv=>eF vk none v λv=>K [(i, .mp ag ks vk (gv cs v es))] else none
   | _=>none
  | _=>none
def jF(key:List T):List (List T×T)->List (List T×T)
 | []=> []
 | p::r=>cond (dN key p.1) r (p::jF key r)
def kU{R:Type}(P:Program)(s:St)(t:TypeId)(x key:AV)(K:aE->Option R):Option R:=
 (pA P t).bind λq=>mC P q.1 none key λag ks cs=>match x with
  | .own i=>match s.h i with
   | some (.mp a b vk es)=>if a=ag/\b=ks then K [(i, .mp ag ks vk (jF cs es))] else none
   | _=>none
  | _=>none
def iG(a b:Bool)(h:Id->Option ab):AV->Option (T×aE)
 | .ref i off=>cond a (match h i with
  | some (.box cs)=>(cond b (rS h (cs.drop off)) (dK (cs.drop off))).bind λl=>some (.ptr l,[])
  | some (.eI l)=>some (.ptr (l.drop off),[])
  | _=>none) ((dm h (.ref i off)).bind λx=>some (x,fN h (.ref i off)))
 | v=>(dm h v).bind λx=>some (x,cond a [] (fN h v))
def kf(b a:Bool)(h:Id->Option ab):List AV->Option (List T×aE)
 | []=>some ([],[])
 | v::r=>(iG b a h v).bind λp=>(kf b a h r).bind λq=>some (p.1::q.1,p.2++q.2)
def jy(e d:Bool)(h:Id->Option ab):AV->Option (AV×aE)
 | .fn f a b=>(kf e d h a).bind λx=>(kf e d h b).bind λy=>some (.fn f (x.1.map .t) (y.1.map .t),x.2++y.2)
 | .agg vs=>(kf e d h vs).bind λx=>some (.agg (x.1.map .t),x.2)
 | v=>(iG e d h v).bind λp=>some (.t p.1,p.2)
def jz(b a:Bool)(h:Id->Option ab):List AV->Option (List AV×aE)
 | []=>some ([],[])
 | v::r=>(jy b a h v).bind λp=>(jz b a h r).bind λq=>some (p.1::q.1,p.2++q.2)
def tc(P:Program):Nat->TypeId->Bool
 | 0,_=>false
 | n+1,t=>match P.underlying t with
  | some (.int _) | some .bool | some .string=>true
  | some (.struct a)=>a.toList.all λf=>tc P n f.type
  | some (.array _ e)=>tc P n e
  | _=>false
def pP(e:Row):T:=match e.own with
 | some p=> .ad 0 p.1 p.2
 | none=> .ak
def be(b:Bool)(es:List Row):T:= .ad 2 b (es.map λe=> [.ptr e.cs,pP e])
def nH:Nat->List (List T)->Option (List Row)
 | _,[]=>some []
 | n,[.ptr cs, .ad _ b xs]::r=>(nH (n+1) r).bind λl=>some (⟨n,cs,some (b,xs)⟩::l)
 | _,_=>none
def aN:T->Option (Bool×List Row)
 | .ad _ b xs=>(nH 0 xs).bind λl=>some (b,l)
 | _=>none
def aX(es:List Row):Bool:=es.all λe=>e.own.isSome
def BM:cf->Bool
 | .rows _ _ _=>true
 | _=>false
def ba(es:List (List T×T)):T:= .ad 2 false (es.map λp=> [.ptr p.1,p.2])
def qz:List (List T)->Option (List (List T×T))
 | []=>some []
 | [.ptr k,v]::r=>(qz r).bind λl=>some ((k,v)::l)
 | _=>none
def aL:T->Option (List (List T×T))
 | .ad _ _ xs=>qz xs
 | _=>none
def kk{R:Type}(ids:List Id)(d:Nat)(c:Option Bool)(j:Nat)(r:cf)(x:T)(K:AV->aE->Nat->Option R):Option R:=
 match r with
 | .f k=>eF k c x λx=>K (.t x) [] j
 | .t k=>eF k c x λx=>K (.t x) [] j
 | .own sz=>match c with
  | none=>aa none (x.au sz) λp=>K (.own (.s d j)) [(.s d j, .sl false sz p.1 p.2)] (j+1)
  | some _=>none
 | .ref k off=>match ids[k]? with
  | some i=>K (.ref i off) [] j
  | none=>none
 | .same k=>match ids[k]? with
  | some i=>K (.own i) [] j
  | none=>none
 | .rows sz col rsz=>match c with
  | none=>aa none (aN x) λp=>K (.own (.s d j)) [(.s d j, .rows p.1 sz col rsz p.2.length p.2)] (j+1)
  | some _=>none
 | .mp ag ks vk=>match c with
  | none=>aa none (aL x) λes=>K (.own (.s d j)) [(.s d j, .mp ag ks vk es)] (j+1)
  | some _=>none
 | .no=>K .top [] j
 | .agg _=>none
 | .new _=>none
def iJ{R:Type}(ids:List Id)(d:Nat)(c:Option Bool):Nat->List cf->List T->(List AV->aE->Nat->Option R)->Option R
 | j,[],_,K=>K [] [] j
 | j,r::rs,xs,K=>aa c xs.head? λx=>kk ids d c j r x λv u j=>iJ ids d c j rs xs.tail λvs us j=>K (v::vs) (u++us) j
def cf.size:cf->Nat
 | .agg l=>l.length
 | .new l=>l.length
 | _=>1
def dD{R:Type}(ids:List Id)(d:Nat)(c:Option Bool):Nat->List cf->List T->(List AV->aE->Nat->Option R)->Option R
 | j,[],_,K=>K [] [] j
 | j,r::rs,xs,K=>match r with
  | .agg l=>iJ ids d c j l xs λv u j=>dD ids d c j rs (xs.drop l.length) λvs us j=>K (AV.agg v::vs) (u++us) j
  | .new l=>match c with
   | none=>iJ ids d c j l xs λv u j=>dD ids d c (j+1) rs (xs.drop l.length) λvs us a=>K (AV.ref (.s d j) 0::vs) (u++ [(.s d j, .box v)] ++us) a
   | some _=>none
  | r=>aa c xs.head? λx=>kk ids d c j r x λv u j=>dD ids d c j rs xs.tail λvs us j=>K (v::vs) (u++us) j
def kH:List cf->Nat
 | []=>0
 | r::rs=>r.size+kH rs
def fk{R:Type}(all:List Id)(d:Nat):Nat->List Id->List iC->List T->(aE->Option R)->Option R
 | j,i::a, .box l::r,xs,K=>iJ all d none j l xs λv u j=>fk all d j a r (xs.drop l.length) λq=>K (u++ (i, .box v)::q)
 | j,i::a, .sl sz::r,xs,K=>aa none (xs.head?.bind (T.au sz)) λp=>fk all d j a r xs.tail λq=>K ((i, .sl false sz p.1 p.2)::q)
 | j,i::a, .mp ag ks vk::r,xs,K=>aa none (xs.head?.bind aL) λes=>fk all d j a r xs.tail λq=>K ((i, .mp ag ks vk es)::q)
 | j,_::a, .dead::r,xs,K=>fk all d j a r xs K
 | _,[],[],_,K=>K []
 | _,_,_,_,_=>none
def jP:List AV->AV
 | [v]=>v
 | vs=> .jX vs
def FR(P:Program)(t:TypeId):cf:=cond (bD P t) (.agg ((qn P t).map λk=>cond (tc P 8 t) (.f k) (.t k))) (cond (tc P 8 t) (.f (jB P t)) (.t (jB P t)))
def pg:cf->Bool
 | .f _=>true
 | .agg l=>l.all λr=>match r with
  | .f _=>true
  | _=>false
 | _=>false
def cZ(P:Program)(A:cx)(f:FuncId)(n:Nat)(fn:Func):List cf:=
 match A.gf f with
 | some _=>(A.vg f n).res
 | none=>match A.sig f with
  | some a=>a.res
  | none=>fn.resultTypes.toList.map (FR P)
def fP(A:cx)(f:FuncId)(n:Nat):List iC:=
 match A.gf f with
 | some _=>(A.vg f n).outs
 | none=> []
def J8:AV->Bool
 | .own _=>true
 | .part _ _ _ _=>true
 | _=>false
def fM:Option ab->Nat
 | some (.box cs)=>cs.length+1000 * (cs.filter J8).length
 | _=>0
def dL(c:Option Bool)(m:Option (List T)):Option (List T):=
 match c with
 | none=>m
 | some b=>cond b m (some [])
def kL{R:Type}(P:Program)(c:Option Bool)(t:TypeId)(v:AV)(K:AV->Option R):Option R:=
 match v with
 | .t x=>eF (jB P t) c x λy=>K (.t y)
 | .agg vs=>match dK vs with
  | some l=>eC c (qn P t) l λl=>K (.agg (l.map .t))
  | none=>K (.agg vs)
 | v=>K v
def hI{R:Type}(P:Program)(c:Option Bool):List TypeId->List AV->(List AV->Option R)->Option R
 | [],vs,K=>K vs
 | _::_,[],K=>K []
 | t::ts,v::vs,K=>kL P c t v λu=>hI P c ts vs λus=>K (u::us)
def vh:List Bool->List AV->List Id
 | b::a,v::vs=>cond b v.ids [] ++vh a vs
 | _,_=> []
def qp(h:Id->Option ab)(dE:List Id)(b:Bool)(v:AV):Option (AV×aE):=
 cond (b || (!v.ids.isEmpty && v.ids.all dE.contains)) (some (v,[])) (jy false false h v)
def kg(h:Id->Option ab)(dE:List Id):List Bool->List AV->Option (List AV×aE)
 | _,[]=>some ([],[])
 | a,v::r=>(qp h dE (a.headD false) v).bind λp=>(kg h dE a.tail r).bind λq=>some (p.1::q.1,p.2++q.2)
def Kn(sz col rsz:Nat):Nat:=100000+1000 * sz+100 * col+rsz
def pM(h:Id->Option ab)(new i:Id)(k sz col rsz:Nat):Option aE:=
 match h i with
 | some (.box cs)=>match cs[k]? with
  | some (.own _)=>some []
  | some (.t (.af b))=>cond (h new).isNone (some [(new, .rows b sz col rsz 0 []),(i, .box (cs.set k (.own new)))]) none
  | some (.t (.ad _ true []))=>cond (h new).isNone (some [(new, .rows true sz col rsz 0 []),(i, .box (cs.set k (.own new)))]) none
  | _=>none
 | _=>none
def mL(h:Id->Option ab)(new i:Id)(k sz:Nat):Option aE:=
 cond (Nat.ble 100000 sz) (pM h new i k (sz % 100000 / 1000) (sz % 1000 / 100) (sz % 100)) <|
 match h i with
 | some (.box cs)=>match cs[k]? with
  | some (.own _)=>some []
  | some (.t (.af b))=>cond (h new).isNone (some [(new, .sl false sz b []),(i, .box (cs.set k (.own new)))]) none
  | some (.t (.ad _ true []))=>cond (h new).isNone (some [(new, .sl false sz true []),(i, .box (cs.set k (.own new)))]) none
  | some (.part j d 0 n)=>match h j with
   | some (.sl false a b xs)=>if a=sz/\d=sz/\j≠i then cond (h new).isNone (some [(j, .dead),(new, .sl false sz b (xs.take n)),(i, .box (cs.set k (.own new)))]) none else none
   | _=>none
  | _=>none
 | _=>none
def iQ(nm:Nat):Nat->(Id->Option ab)->List (Id×Nat×Nat)->Option aE
 | _,_,[]=>some []
 | j,h,(i,k,sz)::r=>(mL h (.s nm j) i k sz).bind λus=>(iQ nm (j+1) (aJ h us) r).bind λvs=>some (us++vs)
def nI:List Id->List Id->List Id
 | [],_=> []
 | i::r,seen=>cond (seen.contains i) (nI r seen) (i::nI r (i::seen))
def lN(i:Id):Nat->List cf->List (Id×Nat×Nat)
 | _,[]=> []
 | k, .own sz::r=>(i,k,sz)::lN i (k+1) r
 | k, .rows sz col rsz::r=>(i,k,Kn sz col rsz)::lN i (k+1) r
 | k,_::r=>lN i (k+1) r
def lO:List Id->List iC->List (Id×Nat×Nat)
 | i::a, .box l::r=>lN i 0 l++lO a r
 | _::a,_::r=>lO a r
 | _,_=> []
def iI(l:List Id):aE:=l.map λi=>(i, .dead)
def tO(d:Nat)(l:List Id):Bool:=l.all λi=>match i with
 | .s a _=> !(a==d)
 | .c _=>true
 | .g _ _=>false
def fD{R:Type}(P:Program)(A:cx)(O:ax)(s:St)(d:Nat)(c:Option Bool)(f:FuncId)(args:List AV)(K:AV->aE->Option R):Option R:=
 match P.funcs[f]? with
 | none=>none
 | some fn=>
  match A.gf f with
  | none=>(jz ((cZ P A f 0 fn).all pg) (A.deep f) s.h args).bind λp=>
   hI P c fn.params.toList p.1 λq=>aa none (dL c (O (.call f) q [])) λxs=>dD [] d c 0 (cZ P A f 0 fn) xs λvs u _=>K (jP vs) (p.2++u)
  | some a=>match c with
   | some _=>none
   | none=>(kg s.h (vh a args) a args).bind λp=>
    (iQ (2000000+d) 0 (aJ s.h p.2) (lO (nI (bX p.1) []) (fP A f (fM ((bX p.1).head?.bind (aJ s.h p.2)))))).bind λus=>
    (eE (aJ (aJ s.h p.2) us) 1000 (bX p.1) []).bind λseen=>
    cond (tO d seen && Nat.beq (fM (seen.map λi=>fQ seen (aJ (aJ s.h p.2) us i)).head?) (fM ((bX p.1).head?.bind (aJ s.h p.2)))) (hI P none fn.params.toList (iU seen p.1) λq=>
     aa none (O (.call f) q (seen.map λi=>fQ seen (aJ (aJ s.h p.2) us i))) λxs=>
     dD seen d none 0 (cZ P A f (fM ((bX p.1).head?.bind (aJ s.h p.2))) fn) xs λvs u j=>
     fk seen d j seen (fP A f (fM ((bX p.1).head?.bind (aJ s.h p.2)))) (xs.drop (kH (cZ P A f (fM ((bX p.1).head?.bind (aJ s.h p.2))) fn))) λq=>
     K (jP vs) (p.2++us++iI seen++u++q)) none
def gw:List AV->Option (List AV×Id×Nat×List AV)
 | []=>none
 | .row i n::r=>some ([],i,n,r)
 | v::r=>(gw r).bind λq=>some (v::q.1,q.2.1,q.2.2.1,q.2.2.2)
def pD(n:Nat):List Row->Option Unit
 | []=>none
 | e::r=>if e.n=n then(match e.own with | none=>some () | some _=>none) else pD n r
def qq{R:Type}(h:Id->Option ab)(i new:Id)(n rsz:Nat)(K:aE->Option R):Option R:=
 match h i,h new with
 | some (.rows b sz col d f es),some (.sl false a e xs)=>if d=rsz/\a=rsz then
   aa none (pD n es) λ_=>K [(i, .rows b sz col rsz f (cR n (some (e,xs)) es)),(new, .dead)] else none
 | _,_=>none
def B7:Operand->Bool
 | .func _=>false
 | _=>true
def im{R:Type}(fO:Bool)(P:Program)(A:cx)(O:ax)(s:St)(d:Nat)(c:Option Bool)(f:FuncId)(args:List AV)(K:AV->aE->Option R):Option R:=
 match cond fO (gw args) none with
 | none=>fD P A O s d c f args K
 | some (g,i,n,j)=>match c,s.h i with
  | none,some (.rows b sz col rsz a es)=>aa none (cv n es) λp=>
    cond (s.h (.s (2500000+d) 0)).isNone
     (fD P A O {t:=s.t,h:=aJ s.h [(i, .rows b sz col rsz a (cR n none es)),(.s (2500000+d) 0, .sl false rsz p.1 p.2)]} d none f (g++ .own (.s (2500000+d) 0)::j) λv us=>
      qq (aJ s.h ([(i, .rows b sz col rsz a (cR n none es)),(.s (2500000+d) 0, .sl false rsz p.1 p.2)] ++us)) i (.s (2500000+d) 0) n rsz λe=>
       K v ([(i, .rows b sz col rsz a (cR n none es)),(.s (2500000+d) 0, .sl false rsz p.1 p.2)] ++us++e)) none
  | _,_=>none
theorem FC{R:Type}(P:Program)(A:cx)(O:ax)(s:St)(d:Nat)(c:Option Bool)(f:FuncId)(args:List AV)(K:AV->aE->Option R):im false P A O s d c f args K=fD P A O s d c f args K:=rfl
def lP{R:Type}(P:Program)(s:St)(e:TypeId)(d:Nat)(c:Option Bool)(v:AV)(K:AV->aE->Option R):Option R:=
 match c,v with
 | none, .agg vs=>match gw vs with
  | some (a,i,n,f)=>match s.h i with
   | some (.rows b sz col rsz g es)=>aa none (cv n es) λp=>
     (dK (a++ .t (.ad rsz p.1 p.2)::f)).bind λl=>if l.length=P.cellsOf e/\P.cellsOf e<=1000/\0 < P.cellsOf e/\(gz P e).isSome=true then
      K (.own (.s d 0)) [(i, .rows b sz col rsz g (cR n none es)),(.s d 1, .sl true rsz p.1 p.2),(.s d 0, .sl false (P.cellsOf e) false [l])] else none
   | _=>none
  | none=>none
 | _,_=>none
def tm(c:Option Bool)(b:Bool):Option Bool:=some (match c with
 | none=>b
 | some a=>a && b)
def mz{R:Type}(c:Option Bool)(v:AV)(K:Int->Option R):Option R:=
 v.t?.bind λx=>aa c (gM.anyInt x) K
def ku:AV->AV
 | .t (.cw f)=> .fn f [] []
 | v=>v
def gK{R:Type}(P:Program)(A:cx)(O:ax)(g:Option Gs)(o:Oper)(s:St)(K:AV->aE->Option R):Option R:=
 let ev:=s.get g;let c:=g.map (·.c);let d:=o.dst.getD 0
 match o.op with
 | .move x | .assign x=>K (ev x) []
 | .pick k a b=>(ev k).t?.bind λI=>aa c I.bool? λkb=>
   (s.kx g k true a).t?.bind λx=>aa (tm c kb) x.bool? λJ=>
   (s.kx g k false b).t?.bind λy=>aa (tm c (!kb)) y.bool? λL=>K (AV.t (.bool (cond kb J L))) []
 | .alloc t=>match c with
  | some _=>none
  | none=>(gz P t).bind λl=>K (.ref (.s d 0) 0) [(.s d 0, .box (l.map .t))]
 | .box _ x=>match c with
  | some _=>none
  | none=>if(fE (ev x)).all nF then K (.ref (.s d 0) 0) [(.s d 0, .box (fE (ev x)))] else none
 | .build t j=>(sG P t ev j.toList).bind λv=>K v []
 | .buildSlice t n j=>(kW P t).bind λe=>if A.jK o.dst o.type=1 then
   (match c,j.toList,n with
   | none,[(0,x)],1=>if((fE (ev x)).length=P.cellsOf e/\(fE (ev x)).all nF=true)/\P.cellsOf e<=1000/\0 < P.cellsOf e/\(gz P e).isSome=true then K (.own (.s d 0)) [(.s d 0, .arr (fE (ev x)))] else none
   | _,_,_=>none)
   else if A.jK o.dst o.type=5 then(match j.toList,n with
   | [(0,x)],1=>lP P s e d c (ev x) K
   | _,_=>none)
   else if j.size=n/\n<=1000/\P.cellsOf e<=1000/\0 < P.cellsOf e/\(gz P e).isSome=true then
   if n=0/\A.app o.dst=true then K (.t (.af false)) [] else
   (gh P s.h e ev 0 j.toList).bind λq=>
   match c with
   | some _=>K (.t (.ad (P.cellsOf e) false q.1)) q.2
   | none=>K (.own (.s d 0)) ((.s d 0, .sl false (P.cellsOf e) false q.1)::q.2)
   else none
 | .load t a=>fI P s c t (ev a) λv=>K v []
 | .store t a x=>match c with
  | some _=>none
  | none=>gZ P s t (ev a) (ev x) λu=>K .top u
 | .nilCheck x=>match ev x with
  | .ref i k=>K (.ref i k) []
  | .el i sz k o=>K (.el i sz k o) []
  | .rel i sz n k o=>K (.rel i sz n k o) []
  | .t y=>aa c y.od λcs=>K (.t (.ptr cs)) []
  | .fn f a b=>K (.fn f a b) []
  | _=>none
 | .binOp op t x y ty=>match op,mH P t y,mH P t x with
  | .eql,true,_=>(iv P s t (ev x)).bind λb=>K (.t (.bool b)) []
  | .neq,true,_=>(iv P s t (ev x)).bind λb=>K (.t (.bool (!b))) []
  | .eql,_,true=>(iv P s t (ev y)).bind λb=>K (.t (.bool b)) []
  | .neq,_,true=>(iv P s t (ev y)).bind λb=>K (.t (.bool (!b))) []
  | .eql,_,_=>nM P c t (ev x) (ev y) λb=>K (.t (.bool b)) []
  | .neq,_,_=>nM P c t (ev x) (ev y) λb=>K (.t (.bool (!b))) []
  | op,_,_=>(ev x).t?.bind λa=>(ev y).t?.bind λb=>oK P op t ty c a b λz=>K (.t z) []
 | .unOp op t x=>(ev x).t?.bind λa=>qc P op t c a λz=>K (.t z) []
 | .convert src B x=>match P.underlying src,P.underlying B with
  | some (.slice e),some .string=>match po P e with
   | some .u8=>(dm s.h (ev x)).bind λy=>aa c ((y.au 1).bind λp=>bytesOf p.2) λl=>K (.t (.str ⟨l.toArray⟩)) []
   | _=>none
  | _,_=>(ev x).t?.bind λa=>oP P c src B a λz=>K (.t z) []
 | .makeFunc (.func f) H C=>K (.fn f (H.toList.map ev) (C.toList.map ev)) []
 | .makeSlice t l m=>match c with
  | some _=>none
  | none=>(ev l).t?.bind λn=>(ev m).t?.bind λk=>pw P d t (A.jK o.dst o.type) n k K
 | .makeMap t m=>match c,m with
  | none,none=>py P d t K
  | _,_=>none
 | .lookup t x k ok=>lD P s c t (ev x) (ev k) ok λv=>K v []
 | .mapUpdate t x k v=>match c with
  | some _=>none
  | none=>lK P s t (ev x) (ev k) (ev v) λu=>K .top u
 | .slice t x E D F=>
  gM s c g E λE=>gM s c g D λD=>gM s c g F λF=>lS P s c t (ev x) E D F λv=>K v []
 | .fieldAddr t x f=>pe P c t (ev x) f λv=>K v []
 | .field t x f=>pd P t (ev x) f λv=>K v []
 | .indexAddr t x i=>mz c (ev i) λn=>iu P s c t (ev x) n λv=>K v []
 | .index t x i=>mz c (ev i) λn=>match P.underlying t with
  | some .string=>(ev x).t?.bind λy=>aa c y.a8 λb=>iN c n b.size
    (aa c b.data.toList[n.toNat]? λu=>K (.t (.int .u8 u.toNat)) [])
  | some (.array m e)=>match ev x with
   | .agg vs=>cond (bW P e) ((dK vs).bind λl=>iN c n m (jm P e c (l.drop (n.toNat * P.cellsOf e)) λz=>K z [])) none
   | _=>none
  | _=>none
 | .extract x k=>match ev x with
  | .jX vs=>(vs[k]?).bind λv=>K v []
  | _=>none
 | .call cl=>match cl.callee with
  | .builtin .len=>match cl.args.toList,cl.argTypes.toList with
   | [x],t::_=>lC P s c t (ev x) λv=>K v []
   | _,_=>none
  | .builtin .append=>match c,cl.args.toList,cl.argTypes.toList with
   | none,[x,y],[t,u]=>jd P s d (A.jK o.dst o.type==3) t u (ev x) (ev y) K
   | _,_,_=>none
  | .builtin .max=>match po P o.type with
   | some k=>(dK (cl.args.toList.map ev)).bind λl=>match l with
    | x::r=>aa c (x.int? k) λa=>mF k c true a r λz=>K (.t z) []
    | []=>none
   | none=>none
  | .builtin .min=>match po P o.type with
   | some k=>(dK (cl.args.toList.map ev)).bind λl=>match l with
    | x::r=>aa c (x.int? k) λa=>mF k c false a r λz=>K (.t z) []
    | []=>none
   | none=>none
  | .builtin .delete=>match c,cl.args.toList,cl.argTypes.toList with
   | none,[x,y],t::_=>kU P s t (ev x) (ev y) λu=>K (.jX []) u
   | _,_,_=>none
  | .builtin .cap=>match cl.args.toList,cl.argTypes.toList with
   | [x],t::_=>match P.underlying t with
    | some (.slice _)=>match ev x with
     | .t y=>cond (tz y) (K (.t (.int .i64 0)) []) none
     | _=>none
    | _=>none
   | _,_=>none
  | .value G=>match ku (ev G) with
   | .fn f a b=>im (B7 G) P A O s d c f (a++cl.args.toList.map ev++b) K
   | _=>none
  | _=>none
 | _=>none
open Go
section
variable (P:Program) (A:cx) (O:ax)
def sJ(b want:Bool):Bool:=cond want b (!b)
def gC(g:Option Gs)(b want:Bool):Bool:=
 match g with
 | none=>sJ b want
 | some a=>cond a.c (sJ b want) false
def cW{R:Type}(a:Array Oper)(o:Oper)(s:St)(K:Option Gs->Option R):Option R:=
 match o.guard with
 | none=>K none
 | some (j,want)=>match(a[j]?).bind (·.dst) with
  | none=>none
  | some d=>(s.t d).2.t?.bind λx=>aa ((s.t d).1.map (·.c)) x.bool? λb=>
    K (some {d:=d,want:=want,c:=gC (s.t d).1 b want})
def Ii:Builtin->Bool
 | .delete=>true
 | _=>false
def aF(o:Oper):Bool:=
 match o.op with
 | .store .. =>true
 | .mapUpdate .. =>true
 | .call cl=>match cl.callee with
  | .builtin .append=>match cl.args.toList with
   | .const (.slice none 0 0)::_=>false
   | _=> !A.app o.dst
  | .builtin b=>Ii b
  | .value (.func f)=>match A.gf f with
   | some _=>true
   | none=>match P.funcs[f]? with
    | some _=>A.wr f
    | none=>true
  | .value _=> !A.vq o.dst
  | _=>true
 | .buildSlice .. =>A.jK o.dst o.type==6
 | _=>false
def HQ(o:Oper):Bool:=
 match o.op with
 | .call cl=>match cl.callee with
  | .value (.func f)=>match P.funcs[f]? with
   | some fn=>(cZ P A f 0 fn).all pg
   | none=>false
  | _=>false
 | _=>false
def eJ(o:Oper):Bool:=
 match o.op with
 | .move _ | .assign _ | .pick .. | .build .. | .unOp .. | .makeFunc .. | .fieldAddr .. | .field .. | .extract .. | .nilCheck _=>true
 | .binOp _ t x y _=> !(mH P t x || mH P t y)
 | .call cl=>match cl.callee with
  | .builtin .max | .builtin .min=>true
  | _=>false
 | _=>false
def dO(o:Oper):Bool:=
 match o.op with
 | .call cl=>match cl.callee with
  | .value (.func f)=>A.deep f
  | .value _=>true
  | .builtin .append=>A.jK o.dst o.type==3
  | _=>false
 | _=>false
def lL(o:Oper):Bool:=eJ P o ||
 match o.op with
 | .load .. | .index .. | .indexAddr .. | .slice .. | .binOp .. | .convert .. | .lookup .. =>true
 | .call cl=>match cl.callee with
  | .builtin .len=>true
  | .value (.func _)=> !aF P A o && HQ P A o
  | _=>false
 | _=>false
def gQ(o:Oper):Bool:=
 match o.op with
 | .alloc _ | .box .. | .makeSlice .. | .makeMap .. =>true
 | _=>false
def dT(o:Oper):Bool:=
 match o.op with
 | .call cl=>match cl.callee with
  | .value (.func f)=>(A.gf f).isSome
  | .value _=> !A.vq o.dst
  | _=>false
 | _=>false
def oO(a b:Oper):Bool:= !((aF P A a && !(eJ P b || gQ b)) || (aF P A b && !(eJ P a || gQ a))) && (!dO A a || lL P A b) && (!dO A b || lL P A a)
def fF:List Oper->List Nat
 | []=> []
 | o::r=>match o.dst with
  | some d=>d::fF r
  | none=>fF r
def uh(d:Array Oper):Nat->Nat->Nat
 | 0,a=>a
 | n+1,a=>match d.find? (λo=>o.dst==some a) with
  | some o=>match o.op with
   | .fieldAddr _ (.tmp b) _=>uh d n b
   | .nilCheck (.tmp b)=>uh d n b
   | .move (.tmp b)=>uh d n b
   | _=>a
  | none=>a
def pL(b:Array Oper)(a:Nat):Nat:=uh b 6 a
def fx(b:Array Oper)(o:Oper):Option Nat:=match o.guard,o.op with
 | none, .store _ (.tmp a) _=>some (pL b a)
 | none, .load _ (.tmp a)=>some (pL b a)
 | _,_=>none
def _root_.Go.Aev.cx.stM(A:cx)(a:Array Oper):Bool:=A.st ((a[0]?).bind (·.dst)) && A.Ej ((a[0]?).bind (·.dst)) (((a[0]?).map (·.type)).getD 0)
def iW(d:Array Oper)(a b:Oper):Bool:=A.stM d && (match fx d a,fx d b with
 | some k,some e=> !(k==e) && !(fF d.toList).contains k && !(fF d.toList).contains e
 | _,_=>false)
def yK(o:Oper):Bool:=o.guard.isNone && aF P A o && match o.op with
 | .call cl=>match cl.callee with
  | .builtin .append=> !(A.jK o.dst o.type==3)
  | .value (.func f)=>(A.gf f).isNone && !A.deep f
  | _=>false
 | .buildSlice .. =>true
 | .store _ (.tmp _) _=>true
 | _=>false
def Il(o:Oper):Bool:=match o.op with
 | .store .. =>true
 | _=>false
def gU(b:Array Oper)(o:Oper):Option (Option Nat):=match o.guard,o.op with
 | none, .load _ (.tmp a)=>some (some (pL b a))
 | none, .buildSlice .. =>some none
 | _,_=>none
def gR(d:Array Oper)(a b:Oper):Bool:=A.ld ((d[0]?).bind (·.dst)) && (!aF P A b && yK P A a && (A.stM d || !Il a)) && (match gU d b with
 | some (some k)=> !(fF d.toList).contains k
 | some none=>true
 | none=>false)
def iw(o:Oper)(k:Bool):Bool:=match o.guard,o.op with
 | none, .store t (.tmp _) _=>(match P.underlying t with
  | some (.slice _)=>k
  | some (.int _)=> !k
  | _=>false)
 | _,_=>false
def jU(d:Array Oper)(a b:Oper):Bool:=A.sx ((d[0]?).bind (·.dst)) && iw P a true && iw P b false
def ka:aE->Bool
 | [(_, .dead),(_, .rows _ _ _ rsz _ _)]=> !(rsz==1)
 | _=>false
def kb:aE->Bool
 | [(_, .sl false sz _ _)]=>sz==1
 | _=>false
def uZ(o:Oper)(s:St):Bool:=match o.op with
 | .store _ _ y=>(s.get none y).ids.isEmpty
 | _=>false
def tw(o:Oper):Bool:=match o.guard,o.op with
 | none, .indexAddr t (.tmp _) _=>(match kW P t with
  | some e=>P.cellsOf e==1
  | none=>false)
 | none, .load _ (.tmp _)=>true
 | _,_=>false
def rA(o:Oper)(s:St):Bool:=match o.op with
 | .load _ x=>(match s.get none x with
  | .ref _ _=>true
  | _=>false)
 | .indexAddr _ x _=>(match s.get none x with
  | .own _=>true
  | _=>false)
 | _=>false
def jw(d:Array Oper)(a b:Oper):Bool:=A.sx ((d[0]?).bind (·.dst)) && (iw P a true || iw P a false) && tw P b
def mA(o:Oper):Bool:=match o.guard,o.op with
 | none, .load _ (.tmp _)=>true
 | none, .indexAddr _ (.tmp _) _=>true
 | _,_=>false
def pY(a b:Oper):Bool:=((A.oN a.dst a.type && A.tD b.dst b.type) || A.tC b.dst b.type) && mA b
def pX(d:Array Oper)(a b:Oper):Bool:=iW A d a b || gR P A d a b || gR P A d b a || (jU P A d a b || jU P A d b a) || (jw P A d a b || jw P A d b a) || (pY A a b || pY A b a)
def fT(a:Array Oper):Nat->Nat->Nat->Bool
 | 0,_,_=>false
 | n+1,j,i=>match a[j]? with
  | none=>false
  | some b=>b.after.any λe=>Region.binds .any e && (e.on==i || (Nat.blt i e.on && fT a n e.on i))
def wu(a:Array Oper)(listed:Array Bool)(i:Nat):Bool:=
 match a[i]? with
 | none=>false
 | some b=>(List.range a.size).all λj=>match a[j]? with
  | none=>true
  | some d=>j==i || listed.getD j true || oO P A b d || pX P A a b d || fT a 12 j i
def tF(b:Array Oper):Nat->Nat->Array Bool->Bool
 | 0,_,_=>true
 | n+1,k,a=>wu P A b a k && tF b n (k+1) (a.setIfInBounds k true)
def HW(h:Id->Option ab)(us:aE):Bool:=us.all λp=>(h p.1).isNone
def gq(d:Nat)(h:Id->Option ab)(us:aE):Bool:=us.all λp=>match p.1 with
 | .s a _=> !(a==d) || (h p.1).isNone
 | .c _=>true
 | .g _ _=>false
def dt(a:Array Oper)(d:Option Nat):Bool:=
 a.any λo=>match o.guard with
  | none=>false
  | some (j,_)=>match(a[j]?).bind (·.dst),d with
   | some e,some d=>e==d
   | _,_=>false
def oL(a:Array Oper)(o:Oper)(d:Nat):Bool:=
 (List.range a.size).all λi=>match a[i]? with
  | some b=> !(b.dst==some d) || o.after.any (λe=>Region.binds .any e && (e.on==i || fT a 12 e.on i))
  | none=>true
def mG(a:Array Oper)(g:Option Gs)(o:Oper)(s:St):Bool:=
 o.op.operands.toList.all λx=>(s.get g x).ids.all λi=>match i with
  | .s d _=>oL a o d
  | .c _=>true
  | .g _ _=>false
def jn(o:Oper)(us:aE):Bool:=us.all λp=>match p.1 with
 | .s d _=>o.dst==some d
 | .c _=>false
 | .g _ _=>false
def qd(a:Array Oper)(o:Oper)(us:aE):Bool:=us.all λp=>match p.1 with
 | .s d _=>oL a o d || o.dst==some d
 | .c _=>true
 | .g _ _=>false
def yk(a:Array Oper)(o d:Oper)(s:St)(us:aE):Bool:=match fx a o,fx a d with
 | some k,some b=>(o.op.operands.toList.all λx=>(s.get none x).ids.all λi=>decide (i∈(s.t k).2.ids)) && us.all (λp=>decide (p.1∈(s.t k).2.ids)) && us.all (λp=>decide (p.1∉(s.t b).2.ids))
 | _,_=>false
def tB(a:Array Oper)(b:Oper)(s:St)(us:aE):Bool:=match gU a b with
 | some (some k)=>us.all λp=>decide (p.1∉(s.t k).2.ids)
 | _=>true
def qV(a:Array Oper)(o:Oper)(s:St):Bool:=match gU a o with
 | some (some k)=>o.op.operands.toList.all λx=>(s.get none x).ids.all λi=>decide (i∈(s.t k).2.ids)
 | some none=>o.op.operands.toList.all λx=>(s.get none x).ids.isEmpty
 | none=>true
def iX(a:Array Oper)(o:Oper)(s:St)(us:aE):Bool:=a.all λb=>(!(iW A a o b) || yk a o b s us) && (!(gR P A a o b) || tB a b s us) && (!(gR P A a b o) || qV a o s) && ((!(jU P A a o b) || ka us) && (!(jU P A a b o) || (kb us && uZ o s))) && ((!(jw P A a o b) || ka us || kb us) && (!(jw P A a b o) || rA o s))
def qM:AV->Bool
 | .ref _ _=>true
 | .t (.int _ _)=>true
 | _=>false
def BL:AV->Bool
 | .ref _ _=>true
 | _=>false
def oJ(o:Oper)(s:St):Bool:=o.op.operands.toList.all λx=>(s.get none x).ids.isEmpty
def mD(o:Oper)(s:St)(v:AV):Bool:=(!(A.tC o.dst o.type && mA o) || oJ o s) && (!(A.tD o.dst o.type && mA o) || oJ o s || (match o.op with
 | .load _ x=>BL (s.get none x) && qM v
 | _=>false))
def qN:AV->AV->Option (Option (Int×Int))
 | .ref i o, .ref j p=>cond (decide (i=j/\o=p)) (some none) none
 | .ref _ _,_=>none
 | _, .ref _ _=>none
 | .t (.int k a), .t (.int d b)=>cond (decide (k=d)) (some (some (a,b))) none
 | .t (.int _ _),_=>none
 | _, .t (.int _ _)=>none
 | _,_=>some none
def qQ{R:Type}:List AV->List AV->Option R->Option R
 | [],[],K=>K
 | c::r,c'::a,K=>match qN c c' with
  | none=>none
  | some none=>qQ r a K
  | some (some p)=>aa none (if p.1=p.2 then some () else none) λ_=>qQ r a K
 | _,_,_=>none
def qO:Option ab->Option ab->Option (Option (List AV×List AV))
 | some (.box cs),some (.box a)=>some (some (cs,a))
 | some (.box _),_=>none
 | _,some (.box _)=>none
 | some (.eI _),_=>none
 | _,some (.eI _)=>none
 | _,_=>some none
def qR{R:Type}(h h':Id->Option ab):aE->Option R->Option R
 | [],K=>K
 | p::us,K=>match qO (h p.1) (h' p.1) with
  | none=>none
  | some none=>qR h h' us K
  | some (some q)=>qQ q.1 q.2 (qR h h' us K)
def wN{R:Type}(a:Bool)(o:Oper)(h:Id->Option ab)(us:aE)(K:Option R):Option R:=cond (a && A.oN o.dst o.type) (qR h (aJ h us) us K) K
def lI(b:Bool)(nt:Nat)(a:Array Oper)(o:Oper)(g:Option Gs)(s:St)(v:AV)(us:aE):Bool:=
 (match o.dst with | some d=>decide (d < nt) | none=>true) &&
 (match g with | some g=>us.isEmpty && !(o.dst==some g.d) | none=>true) &&
 gq (o.dst.getD 0) s.h us && (!b || (mG a g o s && (aF P A o || jn o us) && (!eJ P o || us.isEmpty) && (!lL P A o || us.isEmpty) && (!aF P A o || qd a o us) && Nat.ble nt 1000000 && iX P A a o s us && mD A o s v))
def oq(a:Bool)(o:Oper)(g:Option Gs):Option Gs:=
 match g with
 | some g=>cond (!a && dT A o) (some g) none
 | none=>none
def sP(nt:Nat)(o:Oper)(g:Gs):Bool:=(match o.dst with | some d=>decide (d < nt) | none=>true) && !(o.dst==some g.d)
def JU(o:Oper):AV:=
 match o.op with
 | .call cl=>match cl.callee with
  | .value (.func f)=>match P.funcs[f]? with
   | some fn=>match cZ P A f 0 fn with
    | [.f .b]=> .t (.bool false)
    | [.f (.i k)]=> .t (.int k 0)
    | _=> .top
   | none=> .top
  | _=>match P.underlying o.type with
   | some .bool=> .t (.bool false)
   | some (.int k)=> .t (.int k 0)
   | _=> .top
 | _=> .top
def mK{R:Type}(b:Bool)(nt:Nat)(a:Array Oper)(o:Oper)(s:St)(K:St->Option R):Option R:=
 cW a o s λg=>match oq A b o g with
 | some d=>cond (sP nt o d) (cond d.c
   (gK P A O none o (s.pG d) λv us=>
    if lI P A b nt a o none s v us then K (s.put (dt a o.dst) o.dst (some d) v us) else none)
   (K (s.put (dt a o.dst) o.dst (some d) (JU P A o) []))) none
 | none=>gK P A O g o s λv us=>
  wN A b o s.h us (if lI P A b nt a o g s v us then K (s.put (dt a o.dst) o.dst g v us) else none)
def rL{R:Type}(a:Bool)(nt:Nat)(b:Array Oper):List Oper->St->(St->Option R)->Option R
 | [],s,K=>K s
 | o::r,s,K=>mK P A O a nt b o s λs'=>rL a nt b r s' K
def St.clear(s:St):St:=
 {t :=λk=>match s.t k with
    | (none,v)=>(none,v)
    | (some _,_)=>(none, .top)
  h:=s.h}
def rm:List Nat->Bool
 | []=>true
 | d::r=> !r.contains d && rm r
def pn(a:Array Oper):Bool:=a.all λo=>match o.guard with
 | none=>true
 | some (j,_)=>o.after.any λe=>Region.binds .any e && e.on==j
def xH(b:Bool)(a:Array Oper):Bool:=
 !b || (Region.lexB .any a && tF P A a a.size 0 (Array.replicate a.size false) && rm (fF a.toList) && pn a)
def region{R:Type}(nt:Nat)(a:Bool)(b:Array Oper)(s:St)(K:St->Option R):Option R:=
 cond (xH P A a b)
  (rL P A O a nt b b.toList s λs'=>K s'.clear) none
def lH(h:Id->Option ab):AV->AV
 | .own i=>match h i with
  | some (.sl true sz b xs)=> .t (.ad sz b xs)
  | _=> .own i
 | .part i sz off n=>match h i with
  | some (.sl true a b xs)=>if a=sz then .t (.ad sz b ((xs.drop off).take n)) else .part i sz off n
  | _=> .part i sz off n
 | .ref i off=>match h i with
  | some (.eI l)=> .t (.ptr (l.drop off))
  | _=> .ref i off
 | v=>v
def qX(s:St)(k:Nat×Option Nat):Option (AV×aE):=
 match s.t k.1 with
 | (some _,_)=>none
 | (none,v)=>match k.2 with
  | none=>some (lH s.h v,[])
  | some sz=>if sz=0\/sz>=999998 then some (lH s.h v,[]) else match v with
   | .own i=>match s.h i with
    | some (.sl false _ _ _)=>some (.own i,[])
    | _=>none
   | .t (.af b)=>some (.own (.s (1000000+k.1) 0),[(.s (1000000+k.1) 0, .sl false sz b [])])
   | _=>none
def mE(s:St):List (Nat×Option Nat)->Option (List AV×aE)
 | []=>some ([],[])
 | k::r=>(qX s k).bind λp=>(mE s r).bind λq=>some (p.1::q.1,p.2++q.2)
def uF(f:FuncId)(todo:List Item)(live:List (Nat×Option Nat))(m:Nat×Nat)(s:St):Option (List T):=
 (mE s live).bind λp=>
  if HW s.h p.2 then
  let h:=aJ s.h p.2
  (eE h 1000 ((List.range m.1).map Id.c++bX p.1) []).bind λseen=>
   O (.node f todo live m) (iU seen p.1) (seen.map λi=>fQ seen (h i))
  else none
def wz(h:Id->Option ab):AV->aE
 | .ref i _=>match h i with
  | some (.box cs)=>kv h cs
  | _=> []
 | _=> []
def lj(s:St):List (Nat×Option Nat)->aE
 | []=> []
 | (k,some 0)::r=>fN s.h (s.t k).2++lj s r
 | (k,some (n+1))::r=>cond (Nat.beq n 999998) (wz s.h (s.t k).2) [] ++lj s r
 | (_,none)::r=>lj s r
def ue(s:St):List (Nat×Option Nat)->List (Id×Nat×Nat)
 | []=> []
 | (k,some n)::r=>match cond (Nat.ble 1000000 n) (s.t k).2 .top with
  | .ref i _=>(i,n / 1000000 - 1,n % 1000000)::ue s r
  | _=>ue s r
 | _::r=>ue s r
def pO(col rsz:Nat)(e:Row):List T:=e.cs.set col (match e.own with
 | some p=> .ad rsz p.1 p.2
 | none=> .ak)
def tP(h:Id->Option ab):AV->(Id->Option ab)
 | .ref i _=>match h i with
  | some (.box cs)=>aJ h [(i, .box (cs.map (lH h)))]
  | _=>h
 | _=>h
def x7(h:Id->Option ab):AV->(Id->Option ab)
 | .own i=>match h i with
  | some (.rows b sz col rsz _ es)=>cond (aX es) (aJ h [(i, .sl true sz b (es.map (pO col rsz)))]) h
  | _=>h
 | _=>h
def x8:(Id->Option ab)->List AV->(Id->Option ab)
 | h,[]=>h
 | h,v::r=>x8 (x7 h v) r
def x5(h:Id->Option ab):AV->(Id->Option ab)
 | .ref i _=>match h i with
  | some (.box cs)=>x8 h cs
  | _=>h
 | _=>h
def pE(t:Nat->Option Gs×AV):(Id->Option ab)->List (Nat×Option Nat)->(Id->Option ab)
 | h,[]=>h
 | h,(k,some n)::r=>pE t (cond (Nat.beq n 999999) (tP h (t k).2) (cond (Nat.beq n 999998) (tP (x5 h (t k).2) (t k).2) h)) r
 | h,(_,none)::r=>pE t h r
def jW(f:FuncId)(todo:List Item)(live:List (Nat×Option Nat))(m:Nat×Nat)(s:St):Option (List T):=
 (iQ 1900000 0 (aJ s.h (lj s live)) (ue s live)).bind λus=>
  uF O f todo live m {t:=s.t,h:=pE s.t (aJ (aJ s.h (lj s live)) us) live}
def lh(live:List (Nat×Option Nat))(bh:List AV)(blks:List ab):St:=
 {t:=λk=>(none,look live bh k)
  h:=fun
   | .c j=>blks[j]?
   | _=>none}
where
 look:List (Nat×Option Nat)->List AV->Nat->AV
 | (k,_)::ks,v::vs,j=>if j=k then v else look ks vs j
 | _,_,_=> .top
def mR:Code->Nat
 | .region id _ _=>id
 | .seq a _=>mR a
 | .block _ b=>mR b
 | .cond _ a _=>mR a
 | _=>1000000
def C1(h:Id->Option ab)(sz:Nat):AV->Option (T×Id)
 | .own i=>match h i with
  | some (.sl false a b xs)=>if a=sz then some (.ad sz b xs,i) else none
  | _=>none
 | _=>none
def ir{R:Type}(m:Nat)(h:Id->Option ab)(r:cf)(v:AV)(K:T->List Id->List Id->Option R):Option R:=
 match r with
 | .f _=>v.t?.bind λx=>aa none x.nP λ_=>K x [] []
 | .t _=>(dm h v).bind λx=>K x [] ((fN h v).map (·.1))
 | .own sz=>match v with
  | .own i=>(C1 h sz (.own i)).bind λp=>K p.1 [p.2] []
  | .part i a 0 n=>match h i with
   | some (.sl false j b xs)=>if j=sz/\a=sz then K (.ad sz b (xs.take n)) [i] [] else none
   | _=>none
  | .t (.af b)=>K (.af b) [] []
  | .t (.ad _ true [])=>K (.af true) [] []
  | _=>none
 | .ref k off=>match v with
  | .ref (.c e) off'=>if e=k/\off'=off/\k < m then K .ak [] [] else none
  | _=>none
 | .same k=>match v with
  | .own (.c e)=>if e=k/\k < m then K .ak [] [] else none
  | _=>none
 | .rows sz col rsz=>match v with
  | .own i=>match h i with
   | some (.rows b a d g _ es)=>if a=sz/\d=col/\g=rsz then
     aa none (if aX es=true then some () else none) λ_=>K (be b es) [i] [] else none
   | _=>none
  | _=>none
 | .mp ag ks vk=>match v with
  | .own i=>match h i with
   | some (.mp l o q es)=>if l=ag/\o=ks/\q=vk then K (ba es) [i] [] else none
   | _=>none
  | _=>none
 | .no=>match v with
  | .ref _ _=>K .ak [] []
  | _=>none
 | .agg _=>none
 | .new _=>none
def kY{R:Type}(m:Nat)(h:Id->Option ab):List cf->List AV->(List T->List Id->List Id->Option R)->Option R
 | [],[],K=>K [] [] []
 | r::rs,v::vs,K=>ir m h r v λx a b=>kY m h rs vs λxs d e=>K (x::xs) (a++d) (b++e)
 | _,_,_=>none
def fm{R:Type}(m:Nat)(h:Id->Option ab):List cf->List AV->(List T->List Id->List Id->Option R)->Option R
 | [],[],K=>K [] [] []
 | r::rs,v::vs,K=>match r with
  | .agg l=>match v with
   | .agg cs=>kY m h l cs λxs a b=>fm m h rs vs λf d e=>K (xs++f) (a++d) (b++e)
   | _=>none
  | .new l=>match v with
   | .ref i 0=>match h i with
    | some (.box cs)=>kY m h l cs λxs a b=>fm m h rs vs λf d e=>K (xs++f) (i:: (a++d)) (b++e)
    | _=>none
   | _=>none
  | r=>ir m h r v λx a b=>fm m h rs vs λxs d e=>K (x::xs) (a++d) (b++e)
 | _,_,_=>none
def jG{R:Type}(m:Nat)(h:Id->Option ab):Nat->List iC->(List T->List Id->List Id->Option R)->Option R
 | _,[],K=>K [] [] []
 | j, .box l::r,K=>match h (.c j) with
  | some (.box cs)=>kY m h l cs λxs a b=>jG m h (j+1) r λf d e=>K (xs++f) (.c j:: (a++d)) (b++e)
  | _=>none
 | j, .sl sz::r,K=>match h (.c j) with
  | some (.sl false k b xs)=>if k=sz then jG m h (j+1) r λf d e=>K (.ad sz b xs::f) (.c j::d) e else none
  | _=>none
 | j, .mp ag ks vk::r,K=>match h (.c j) with
  | some (.mp g i n es)=>if g=ag/\i=ks/\n=vk then jG m h (j+1) r λf d e=>K (ba es::f) (.c j::d) e else none
  | _=>none
 | j, .dead::r,K=>jG m h (j+1) r K
def pK{R:Type}(s:St):List ResultVar->(List AV->Option R)->Option R
 | [],K=>K []
 | .tmp k::r,K=>match s.t k with
   | (none,v)=>pK s r λl=>K (v::l)
   | _=>none
 | .cell k t::r,K=>match s.t k with
   | (none,v)=>fI P s none t v λv=>pK s r λl=>K (v::l)
   | _=>none
def tN:List Id->Bool
 | []=>true
 | i::r=> !r.contains i && tN r
def s8(f:FuncId)(fn:Func)(m:Nat×Nat)(s:St):Option (List T):=
 pK P s fn.results.toList λvs=>
  if m.1= (fP A f m.2).length then
  fm m.1 s.h (cZ P A f m.2 fn) vs λxs a b=>jG m.1 s.h 0 (fP A f m.2) λg d e=>
   if tN (a++d) && (b++e).all (λi=> !(a++d).contains i) then some (xs++g) else none
  else none
def rB:List AV->List Id
 | []=> []
 | .own i::r=>i::rB r
 | _::r=>rB r
def xK(h:Id->Option ab)(t:Nat->Option Gs×AV):List ResultVar->List Id
 | []=> []
 | .tmp k::r=>(match(t k).2 with
  | .agg vs=>rB vs
  | v=>rB [v])++xK h t r
 | .cell k _::r=>(match(t k).2 with
  | .ref i _=>match h i with
   | some (.box cs)=>rB cs
   | _=> []
  | _=> [])++xK h t r
def rR{R:Type}:(Id->Option ab)->List Id->(aE->Option R)->Option R
 | _,[],K=>K []
 | h,i::r,K=>match h i with
  | some (.rows b sz col rsz _ es)=>aa none (if aX es=true then some () else none) λ_=>
    rR (aJ h [(i, .sl true sz b (es.map (pO col rsz)))]) r λus=>K ((i, .sl true sz b (es.map (pO col rsz)))::us)
  | _=>rR h r K
def s7(f:FuncId)(fn:Func)(m:Nat×Nat)(s:St):Option (List T):=
 cond ((cZ P A f m.2 fn).any BM) (s8 P A f fn m s)
  (rR s.h (xK s.h s.t fn.results.toList) λus=>s8 P A f fn m {t:=s.t,h:=aJ s.h us})
def ev(f:FuncId)(fn:Func)(m:Nat×Nat):Nat->Bool->List Item->St->Option (List T)
 | 0,_,_,_=>none
 | n+1,d,todo,s=>match todo with
  | []=>s7 P A f fn m s
  | .code c::k=>match c with
   | .skip=>ev f fn m n true k s
   | .seq a b=>ev f fn m n d (.code a:: .code b::k) s
   | .region id g e=>match cond d (A.join f id) none with
    | some live=>jW O f (.code (.region id g e)::k) live m s
    | none=>region P A O fn.ntmps e g s λs'=>ev f fn m n true k s'
   | .cond x a b=>(s.get none x).t?.bind λy=>aa none y.bool? λt=>cond t (ev f fn m n true (.code a::k) s) (ev f fn m n true (.code b::k) s)
   | .block id b=>ev f fn m n d (.code b:: .inBlock id::k) s
   | .loop b=>match A.live f (mR b) with
    | some live=>jW O f (.inLoop b::k) live m s
    | none=>none
   | .exit id=>match exitTo id k with
    | some i=>ev f fn m n true i s
    | none=>none
   | .ret=>s7 P A f fn m s
   | _=>none
  | .inBlock _::k=>ev f fn m n true k s
  | .inLoop b::k=>match A.live f (mR b) with
    | some live=>jW O f (.inLoop b::k) live m s
    | none=>none
  | _::_=>none
def iK:Nat:=100000
def qI(bh:List AV)(a:List ab):St:=
 {t:=λk=>(none,bh.getD k .top)
  h:=fun
   | .c j=>a[j]?
   | _=>none}
def aA:ax
 | .call f,bh,a=>match A.ext f bh a with
  | some r=>some r
  | none=>match P.funcs[f]? with
  | some fn=>match fn.body with
   | some c=>if bh.length<=fn.ntmps then ev P A O f fn (a.length,fM a.head?) iK true [.code c] (qI bh a) else none
   | none=>none
  | none=>none
 | .node f todo live m,bh,a=>match P.funcs[f]? with
  | some fn=>match todo with
   | .inLoop b::k=>ev P A O f fn m iK true (.code b:: .inLoop b::k) (lh live bh a)
   | todo=>ev P A O f fn m iK false todo (lh live bh a)
  | none=>none
end
def nO(d:Bool)(r:Nat):Code->List Item->Option (List Item)
 | .seq a b,k=>match nO d r a (.code b::k) with
  | some t=>some t
  | none=>nO d r b k
 | .block id b,k=>nO d r b (.inBlock id::k)
 | .loop b,k=>if d && mR b==r then some (.inLoop b::k) else nO d r b (.inLoop b::k)
 | .cond _ a b,k=>match nO d r a k with
  | some t=>some t
  | none=>nO d r b k
 | .region id f e,k=>if !d && id==r then some (.code (.region id f e)::k) else none
 | _,_=>none
def bZ(P:Program)(f:FuncId)(a:Bool)(r:Nat)(live:List (Nat×Option Nat))(m:Nat×Nat):Key:=
 .node f (match P.funcs[f]? with
  | some fn=>match fn.body with
   | some c=>(nO a r c []).getD []
   | none=> []
  | none=> []) live m
def gS(P:Program)(A:cx):Nat->ax
 | 0=>λ_ _ _=>none
 | n+1=>aA P A (gS P A n)
open Classical in
noncomputable def jN(P:Program)(A:cx):ax:=λk vs a=>
 if h:∃n r,gS P A n k vs a=some r then some (Classical.choose (OZ h)) else none
open Go
section
variable (w:World) (A:Nat->Prop)
mutual
def ay:T->Value->Prop
 | .int k n,v=>v= .int k n
 | .bool b,v=>v= .bool b
 | .str s,v=>v= .string s
 | .ad sz b xs,v=>(b=true/\xs= []/\v= .slice none 0 0)\/
   (b=false/\∃ae off sp cap,v= .slice (some ⟨ae,off,sp⟩) xs.length cap/\xs.length<=cap/\(xs= []\/(sp=none/\A ae))/\bd ae sz off xs)
 | .af b,v=>(b=true/\v= .slice none 0 0)\/(b=false/\∃ae off sp,v= .slice (some ⟨ae,off,sp⟩) 0 0)
 | .ptr cs,v=>∃ae off,v= .pointer (some ⟨ae,off,none⟩)/\(cs= []\/A ae)/\aZ ae off cs
 | .ak,v=>v= .pointer none
 | .tM,v=>v= .map none
 | .tL,v=>v= .nilFunc
 | .xn,v=>v= .nilIface
 | .cw f,v=>v= .func (.func f) #[] #[]
 | .any,v=>v.oneCell'=true/\v.cells= #[v]
def bd(ae sz:Nat):Nat->List (List T)->Prop
 | _,[]=>True
 | off,cs::xs=>cs.length=sz/\aZ ae off cs/\bd ae sz (off+sz) xs
def aZ(ae:Nat):Nat->List T->Prop
 | _,[]=>True
 | off,c::cs=>(∃v,w.cell? ⟨ae,off,none⟩=some v/\ay c v)/\aZ ae (off+1) cs
end
def aR:List T->List Value->Prop
 | [],vs=>vs= []
 | c::cs,vs=>∃v r,vs=v::r/\ay w A c v/\aR cs r
end
section
variable {w w':World} {A A':Nat->Prop}
theorem kS{a:Addr}(h:w'.heap[a.block]? =w.heap[a.block]?):w'.cell? a=w.cell? a:=by simp [World.cell?,h]
mutual
theorem ay.mono(h:∀b,A b->A' b/\w'.heap[b]? =w.heap[b]?):∀(t:T) (v:Value),ay w A t v->ay w' A' t v
 | .int k n,v,a=>by simpa [ay] using a
 | .bool b,v,a=>by simpa [ay] using a
 | .str s,v,a=>by simpa [ay] using a
 | .af b,v,a=>by simpa [ay] using a
 | .ak,v,a=>by simpa [ay] using a
 | .tM,v,a=>by simpa [ay] using a
 | .tL,v,a=>by simpa [ay] using a
 | .xn,v,a=>by simpa [ay] using a
 | .cw f,v,a=>by simpa [ay] using a
 | .any,v,a=>by simp only [ay] at a⊢;exact a
 | .ad sz b xs,v,a=>by
  simp only [ay] at a⊢;rcases a with a | ⟨j,ae,off,sp,cap,g,e,d,i⟩
  .exact .inl a
  .refine .inr ⟨j,ae,off,sp,cap,g,e, ?_, ?_⟩
   .rcases d with d | d
    .exact .inl d
    .exact .inr ⟨d.1,(h _ d.2).1⟩
   .rcases d with d | d
    .subst d;simp [bd]
    .exact bd.mono h ae sz d.2 off xs i
 | .ptr cs,v,a=>by
  simp only [ay] at a⊢;obtain⟨ae,off,g,e,d⟩:=a;refine⟨ae,off,g, ?_, ?_⟩
  .rcases e with e | e
   .exact .inl e
   .exact .inr (h _ e).1
  .rcases e with e | e
   .subst e;simp [aZ]
   .exact aZ.mono h ae e off cs d
theorem bd.mono(h:∀b,A b->A' b/\w'.heap[b]? =w.heap[b]?)(ae sz:Nat)(d:A ae):∀(off:Nat) (xs:List (List T)),bd w A ae sz off xs->bd w' A' ae sz off xs
 | _,[],_=>by simp [bd]
 | off,cs::xs,a=>by simp only [bd] at a⊢;exact⟨a.1,aZ.mono h ae d off cs a.2.1,bd.mono h ae sz d (off+sz) xs a.2.2⟩
theorem aZ.mono(h:∀b,A b->A' b/\w'.heap[b]? =w.heap[b]?)(ae:Nat)(d:A ae):∀(off:Nat) (cs:List T),aZ w A ae off cs->aZ w' A' ae off cs
 | _,[],_=>by simp [aZ]
 | off,c::cs,e=>by simp only [aZ] at e⊢;obtain⟨⟨v,f,g⟩,a⟩:=e;exact⟨⟨v,by rw [kS (w:=w) (by exact(h ae d).2)];exact f,ay.mono h c v g⟩,aZ.mono h ae d (off+1) cs a⟩
end
theorem aZ.lE(h:∀b,A b->A' b/\w'.heap[b]? =w.heap[b]?)(ae:Nat)(d:w'.heap[ae]? =w.heap[ae]?):∀(off:Nat) (cs:List T),aZ w A ae off cs->aZ w' A' ae off cs
 | _,[],_=>by simp [aZ]
 | off,c::cs,e=>by simp only [aZ] at e⊢;obtain⟨⟨v,f,g⟩,a⟩:=e;exact⟨⟨v,by rw [kS (w:=w) (by exact d)];exact f,ay.mono h c v g⟩,aZ.lE h ae d (off+1) cs a⟩
theorem bd.lE(h:∀b,A b->A' b/\w'.heap[b]? =w.heap[b]?)(ae sz:Nat)(d:w'.heap[ae]? =w.heap[ae]?):∀(off:Nat) (xs:List (List T)),bd w A ae sz off xs->bd w' A' ae sz off xs
 | _,[],_=>by simp [bd]
 | off,cs::xs,a=>by simp only [bd] at a⊢;exact⟨a.1,aZ.lE h ae d off cs a.2.1,bd.lE h ae sz d (off+sz) xs a.2.2⟩
theorem aR.mono(h:∀b,A b->A' b/\w'.heap[b]? =w.heap[b]?):∀(cs:List T) (vs:List Value),aR w A cs vs->aR w' A' cs vs
 | [],_,f=>f
 | c::cs,vs,⟨v,r,e,a,d⟩=>⟨v,r,e,ay.mono h c v a,aR.mono h cs r d⟩
theorem bd.get{ae sz:Nat}:∀{off:Nat} {xs:List (List T)},bd w A ae sz off xs->∀{k:Nat} {cs:List T},xs[k]? =some cs->cs.length=sz/\aZ w A ae (off+k * sz) cs
 | off,cs::xs,h,0,a,e=>by simp only [bd] at h;simp at e;subst e;exact⟨h.1,by simpa using h.2.1⟩
 | off,cs::xs,h,k+1,a,e=>by
  simp only [bd] at h;have:=bd.get h.2.2 (k:=k) (cs:=a) (by simpa using e);refine⟨this.1, ?_⟩;have b:off+ (k+1) * sz=off+sz+k * sz:=by rw [NY];omega
  rw [b];exact this.2
theorem aZ.get{ae:Nat}:∀{off:Nat} {cs:List T},aZ w A ae off cs->∀{k:Nat} {c:T},cs[k]? =some c->∃v,w.cell? ⟨ae,off+k,none⟩=some v/\ay w A c v
 | off,c::cs,h,0,c',e=>by simp only [aZ] at h;simp at e;subst e;exact h.1
 | off,c::cs,h,k+1,c',e=>by
  simp only [aZ] at h;have:=aZ.get h.2 (k:=k) (c:=c') (by simpa using e);have a:off+1+k=off+ (k+1):=by omega
  rw [a] at this;exact this
theorem aZ.drop{ae:Nat}:∀{off:Nat} {cs:List T},aZ w A ae off cs->∀(n:Nat),aZ w A ae (off+n) (cs.drop n)
 | _,_,h,0=>by simpa using h
 | _,[],_,n+1=>by simp [aZ]
 | off,c::cs,h,n+1=>by
  simp only [aZ] at h;have:=aZ.drop h.2 n;have a:off+1+n=off+ (n+1):=by omega
  rw [a] at this;simpa using this
theorem bd.drop{ae sz:Nat}:∀{off:Nat} {xs:List (List T)},bd w A ae sz off xs->∀(n:Nat),bd w A ae sz (off+n * sz) (xs.drop n)
 | _,_,h,0=>by simpa using h
 | _,[],_,n+1=>by simp [bd]
 | off,cs::xs,h,n+1=>by
  simp only [bd] at h;have:=bd.drop h.2.2 n;have a:off+sz+n * sz=off+ (n+1) * sz:=by rw [NY];omega
  rw [a] at this;simpa using this
theorem bd.take{ae sz:Nat}:∀{off:Nat} {xs:List (List T)},bd w A ae sz off xs->∀(n:Nat),bd w A ae sz off (xs.take n)
 | _,_,_,0=>by simp [bd]
 | _,[],_,n+1=>by simp [bd]
 | off,cs::xs,h,n+1=>by simp only [bd] at h;simp only [Px,bd];exact⟨h.1,h.2.1,bd.take h.2.2 n⟩
theorem bd.append{ae sz:Nat}:∀{off:Nat} {xs a:List (List T)},bd w A ae sz off xs->bd w A ae sz (off+xs.length * sz) a->bd w A ae sz off (xs++a)
 | off,[],a,_,h=>by simpa using h
 | off,cs::xs,a,h,h'=>by
  simp only [bd] at h;simp only [NR,bd];refine⟨h.1,h.2.1,bd.append h.2.2 ?_⟩;have b:off+sz+xs.length * sz=off+ (cs::xs).length * sz:=by simp [NY];omega
  rw [b];exact h'
theorem ay.n8{t:T}{v:Value}(h:ay w A t v):v.oneCell'=true/\v.cells= #[v]:=by
 cases t <;> simp only [ay] at h
 case ad=>rcases h with⟨_,_,rfl⟩ | ⟨_,_,_,_,_,rfl,_⟩ <;> exact⟨rfl,rfl⟩
 case af=>rcases h with⟨_,rfl⟩ | ⟨_,_,_,_,rfl⟩ <;> exact⟨rfl,rfl⟩
 case ptr=>obtain⟨_,_,rfl,_⟩:=h;exact⟨rfl,rfl⟩
 case any=>exact h
 all_goals subst h;exact⟨rfl,rfl⟩
theorem aR.length:∀{cs:List T} {vs:List Value},aR w A cs vs->vs.length=cs.length
 | [],_,h=>by simp only [aR] at h;simp [h]
 | c::cs,vs,⟨v,r,e,_,h⟩=>by subst e;simp [aR.length h]
end
section
variable (w:World) (A:Nat->Prop) (ρ:Id->Option Value)
mutual
def ai:AV->Value->Prop
 | .top,_=>True
 | .t x,v=>ay w A x v
 | .jX vs,v=>∃d:List Value,v= .tuple d.toArray/\az vs d
 | .agg vs,v=>∃d:List Value,v= .agg d.toArray/\az vs d/\∀u∈d,u.oneCell'=true/\u.cells= #[u]
 | .ref i off,v=>∃b,ρ i=some (.pointer (some ⟨b,0,none⟩))/\v= .pointer (some ⟨b,off,none⟩)
 | .el i sz k off,v=>∃b o L cap,ρ i=some (.slice (some ⟨b,o,none⟩) L cap)/\v= .pointer (some ⟨b,o+k * sz+off,none⟩)
 | .own i,v=>ρ i=some v
 | .part i sz off n,v=>∃a L cap e,ρ i=some (.slice a L cap)/\off+n<=L/\L<=cap/\v= .slice e n (cap - off)/\
   ((off=0/\e=a)\/(off=cap/\(e=none↔a=none)/\True)\/∃b o,a=some ⟨b,o,none⟩/\e=some ⟨b,o+off * sz,none⟩)
 | .row i n,v=>ρ (.g i n)=some v
 | .rel i sz n k off,v=>∃b o L cap,ρ (.g i n)=some (.slice (some ⟨b,o,none⟩) L cap)/\v= .pointer (some ⟨b,o+k * sz+off,none⟩)
 | .fn f xs m,v=>∃j l:List Value,v= .func (.func f) j.toArray l.toArray/\az xs j/\az m l
def az:List AV->List Value->Prop
 | [],vs=>vs= []
 | a::b,vs=>∃v r,vs=v::r/\ai a v/\az b r
end
end
section
variable {w w':World} {A A':Nat->Prop} {ρ ρ':Id->Option Value}
mutual
theorem ai.mono(h:∀b,A b->A' b/\w'.heap[b]? =w.heap[b]?)(g:∀i v,ρ i=some v->ρ' i=some v):∀(a:AV) (v:Value),ai w A ρ a v->ai w' A' ρ' a v
 | .top,_,_=>by simp [ai]
 | .t x,v,d=>by simp only [ai] at d⊢;exact ay.mono h x v d
 | .jX vs,v,d=>by simp only [ai] at d⊢;obtain⟨l,e,j⟩:=d;exact⟨l,e,az.mono h g vs l j⟩
 | .agg vs,v,d=>by simp only [ai] at d⊢;obtain⟨l,e,j,y⟩:=d;exact⟨l,e,az.mono h g vs l j,y⟩
 | .ref i off,v,d=>by simp only [ai] at d⊢;obtain⟨b,e,j⟩:=d;exact⟨b,g _ _ e,j⟩
 | .el i sz k off,v,d=>by simp only [ai] at d⊢;obtain⟨b,o,L,cap,e,j⟩:=d;exact⟨b,o,L,cap,g _ _ e,j⟩
 | .own i,v,d=>by simp only [ai] at d⊢;exact g _ _ d
 | .part i sz off n,v,d=>by simp only [ai] at d⊢;obtain⟨a,L,cap,q,e,j⟩:=d;exact⟨a,L,cap,q,g _ _ e,j⟩
 | .row i n,v,d=>by simp only [ai] at d⊢;exact g _ _ d
 | .rel i sz n k off,v,d=>by simp only [ai] at d⊢;obtain⟨b,o,L,cap,e,j⟩:=d;exact⟨b,o,L,cap,g _ _ e,j⟩
 | .fn f xs z,v,d=>by simp only [ai] at d⊢;obtain⟨m,p,e,r,u⟩:=d;exact⟨m,p,e,az.mono h g xs m r,az.mono h g z p u⟩
theorem az.mono(h:∀b,A b->A' b/\w'.heap[b]? =w.heap[b]?)(g:∀i v,ρ i=some v->ρ' i=some v):∀(d:List AV) (vs:List Value),az w A ρ d vs->az w' A' ρ' d vs
 | [],_,f=>by simpa [az] using f
 | a::d,vs,f=>by simp only [az] at f⊢;obtain⟨v,r,e,j,k⟩:=f;exact⟨v,r,e,ai.mono h g a v j,az.mono h g d r k⟩
end
theorem az.length:∀{b:List AV} {vs:List Value},az w A ρ b vs->vs.length=b.length
 | [],_,h=>by simp only [az] at h;simp [h]
 | a::b,vs,h=>by simp only [az] at h;obtain⟨v,r,e,_,h⟩:=h;subst e;simp [az.length h]
theorem az.get:∀{b:List AV} {vs:List Value},az w A ρ b vs->∀{k:Nat} {a:AV},b[k]? =some a->∃v,vs[k]? =some v/\ai w A ρ a v
 | a::b,vs,h,0,d,e=>by simp only [az] at h;obtain⟨v,r,rfl,f,_⟩:=h;simp at e;subst e;exact⟨v,rfl,f⟩
 | a::b,vs,h,k+1,d,e=>by simp only [az] at h;obtain⟨v,r,rfl,_,h⟩:=h;obtain⟨u,i,g⟩:=az.get h (k:=k) (a:=d) (by simpa using e);exact⟨u,by simpa using i,g⟩
theorem az.append:∀{b d:List AV} {vs us:List Value},az w A ρ b vs->az w A ρ d us->az w A ρ (b++d) (vs++us)
 | [],_,_,_,h,h'=>by simp only [az] at h;subst h;simpa using h'
 | a::b,d,vs,us,h,h'=>by simp only [az] at h;obtain⟨v,r,rfl,e,h⟩:=h;simp only [NR,az];exact⟨v,r++us,rfl,e,az.append h h'⟩
theorem az.drop:∀{b:List AV} {vs:List Value},az w A ρ b vs->∀n,az w A ρ (b.drop n) (vs.drop n)
 | _,_,h,0=>by simpa using h
 | [],vs,h,n+1=>by simp only [az] at h;subst h;simp [az]
 | a::b,vs,h,n+1=>by simp only [az] at h;obtain⟨v,r,rfl,d,h⟩:=h;simpa using az.drop h n
theorem az.take:∀{b:List AV} {vs:List Value},az w A ρ b vs->∀n,az w A ρ (b.take n) (vs.take n)
 | _,_,_,0=>by simp [az]
 | [],vs,h,n+1=>by simp only [az] at h;subst h;simp [az]
 | a::b,vs,h,n+1=>by simp only [az] at h;obtain⟨v,r,rfl,d,h⟩:=h;simp only [Px,az];exact⟨v,r.take n,rfl,d,az.take h n⟩
theorem az.jM:∀{cs:List T} {vs:List Value},aR w A cs vs->az w A ρ (cs.map .t) vs
 | [],_,h=>by simpa [az,aR] using h
 | c::cs,vs,⟨v,r,e,a,b⟩=>by simp only [NH,az];exact⟨v,r,e,by simpa [ai] using a,az.jM b⟩
theorem aR.jo:∀{b:List AV} {cs:List T} {vs:List Value},dK b=some cs->az w A ρ b vs->aR w A cs vs
 | [],cs,vs,h,d=>by simp only [dK,M1] at h;subst h;simpa [aR,az] using d
 | a::b,cs,vs,h,d=>by
  cases a <;> simp only [dK,reduceCtorEq] at h
  case t x=>
   cases hl:dK b with
   | none=>simp [hl] at h
   | some l=>simp only [hl,M6,M1] at h;subst h;simp only [az,ai] at d;obtain⟨v,r,e,f,g⟩:=d;exact⟨v,r,e,f,aR.jo hl g⟩
end
open Go
section
variable {R S α:Type}
theorem bE[Inhabited α](c:Option Bool)(m:Option α)(k:α->Option R)(f:R->Option S):(aa c m k).bind f=aa c m λa=>(k a).bind f:=by
 unfold aa;cases m with
 | some a=>rfl
 | none=>cases c with
  | none=>rfl
  | some b=>cases b <;> rfl
theorem aM[Inhabited α]{c:Option Bool}{m:Option α}{k:α->Option R}{r:R}(h:aa c m k=some r)(b:c=none\/c=some true):∃a,m=some a/\k a=some r:=by
 unfold aa at h;cases m with
 | some a=>exact⟨a,rfl,h⟩
 | none=>rcases b with rfl | rfl <;> simp at h
theorem jD(c:Bool)(x y:Option R)(f:R->Option S):(cond c x y).bind f=cond c (x.bind f) (y.bind f):=by cases c <;> rfl
theorem cA(c:Prop)[Decidable c](x y:Option R)(f:R->Option S):(if c then x else y).bind f=if c then x.bind f else y.bind f:=by split <;> rfl
theorem bw(f:R->Option S):(none:Option R).bind f=none:=rfl
theorem yp(c:Option Bool):∀(n:Nat) (cs:List T) (K:List T->Option R) (f:R->Option S),(mW c n cs K).bind f=mW c n cs λx=>(K x).bind f
 | 0,_,_,_=>rfl
 | n+1,cs,K,f=>by simp only [mW,bE,yp c n]
theorem lT(k:Ck)(c:Option Bool)(x:T)(K:T->Option R)(f:R->Option S):(eF k c x K).bind f=eF k c x λx=>(K x).bind f:=by unfold eF;cases k <;> simp only [bE]
theorem p9(c:Option Bool):∀(ks:List Ck) (xs:List T) (K:List T->Option R) (f:R->Option S),(eC c ks xs K).bind f=eC c ks xs λx=>(K x).bind f
 | [],_,_,_=>rfl
 | _::_,[],_,_=>rfl
 | k::ks,x::xs,K,f=>by simp only [eC,lT,p9 c ks xs]
theorem Fc(op:BinOp)(k:IntKind)(c:Option Bool)(x y:T)(K:T->Option R)(f:R->Option S):(oI op k c x y K).bind f=oI op k c x y λx=>(K x).bind f:=by unfold oI;cases op <;> simp only [bE,bw]
theorem LZ(op:BinOp)(k ky:IntKind)(c:Option Bool)(x y:T)(K:T->Option R)(f:R->Option S):(pU op k ky c x y K).bind f=pU op k ky c x y λx=>(K x).bind f:=by unfold pU;cases op <;> simp only [bE,bw]
theorem Mr(op:BinOp)(c:Option Bool)(x y:T)(K:T->Option R)(f:R->Option S):(pZ op c x y K).bind f=pZ op c x y λx=>(K x).bind f:=by unfold pZ;cases op <;> simp only [bE,bw]
theorem A2(P:Program)(c:Option Bool)(t:TypeId)(x y:T)(K:Bool->Option R)(f:R->Option S):(jH P c t x y K).bind f=jH P c t x y λx=>(K x).bind f:=by unfold jH;split <;> simp only [bE,bw]
theorem A3(P:Program)(c:Option Bool):∀(ts:List TypeId) (xs a:List T) (K:Bool->Option R) (f:R->Option S),(dS P c ts xs a K).bind f=dS P c ts xs a λx=>(K x).bind f
 | [],[],[],_,_=>rfl
 | t::ts,x::xs,y::a,K,f=>by simp only [dS,A2,A3 P c ts xs a]
 | [],[],_::_,_,_=>rfl
 | [],_::_,_,_,_=>rfl
 | _::_,[],_,_,_=>rfl
 | _::_,_::_,[],_,_=>rfl
theorem Fl(P:Program)(op:BinOp)(t ty:TypeId)(c:Option Bool)(x y:T)(K:T->Option R)(f:R->Option S):(oK P op t ty c x y K).bind f=oK P op t ty c x y λx=>(K x).bind f:=by unfold oK;cases op <;> simp only [] <;> first | rfl | (split <;> simp only [Fc,LZ,Mr,bw])
theorem HE(P:Program)(c:Option Bool)(t:TypeId)(x y:AV)(K:Bool->Option R)(f:R->Option S):(nM P c t x y K).bind f=nM P c t x y λx=>(K x).bind f:=by unfold nM;split <;> simp only [jD,bE,A2,A3,Nr,bw]
theorem MG(P:Program)(op:UnOp)(t:TypeId)(c:Option Bool)(x:T)(K:T->Option R)(f:R->Option S):(qc P op t c x K).bind f=qc P op t c x λx=>(K x).bind f:=by unfold qc;split <;> simp only [bE,bw]
theorem qY(P:Program)(t:TypeId)(c:Option Bool)(cs:List T)(K:AV->Option R)(f:R->Option S):(jm P t c cs K).bind f=jm P t c cs λx=>(K x).bind f:=by unfold jm;simp only [jD,bE,yp,lT,p9]
theorem Cf(P:Program)(t:TypeId)(cs:List AV)(K:AV->Option R)(f:R->Option S):(kB P t cs K).bind f=kB P t cs λx=>(K x).bind f:=by unfold kB;simp only [jD,Nr]
theorem xP(h:Id->Option ab)(c:Option Bool)(i:Id)(n:Nat)(K:Nat->Bool->List (List T)->Option R)(f:R->Option S):(jS h c i n K).bind f=jS h c i n λa b l=>(K a b l).bind f:=by unfold jS;split <;> simp only [bE,bw]
theorem IC(P:Program)(t:TypeId)(c:Option Bool)(i:Id)(sz col off:Nat)(e:Row)(K:AV->Option R)(f:R->Option S):(pv P t c i sz col off e K).bind f=pv P t c i sz col off e λx=>(K x).bind f:=by unfold pv;simp only [jD,cA,bE,yp,lT,p9,bw]
theorem IB(P:Program)(s:St)(c:Option Bool)(t:TypeId)(a:AV)(K:AV->Option R)(f:R->Option S):(fI P s c t a K).bind f=fI P s c t a λx=>(K x).bind f:=by
 unfold fI;rw [jD];congr 1;split
 .split <;> simp only [Cf,qY,bw]
 .split <;> simp only [cA,bE,qY,IC,bw]
 .simp only [xP,cA,bE,qY,bw]
 .simp only [bE,qY]
 .rfl
theorem Mo(P:Program)(s:St)(t:TypeId)(a v:AV)(K:aE->Option R)(f:R->Option S):(gZ P s t a v K).bind f=gZ P s t a v λx=>(K x).bind f:=by
 unfold gZ;rw [jD];congr 1;split
 .split <;> simp only [cA,bw]
 .split
  .simp only [Nr,cA,bE,bw]
  .split
   .split <;> simp only [cA,bE,bw]
   .rfl
  .rfl
 .split <;> simp only [Nr,cA,bE,bw]
 .rfl
theorem nU(c:Option Bool)(i:Int)(n:Nat)(K:Option R)(f:R->Option S):(iN c i n K).bind f=iN c i n (K.bind f):=by unfold iN;simp only [bE]
theorem If(P:Program)(s:St)(c:Option Bool)(t:TypeId)(x:AV)(i:Int)(K:AV->Option R)(f:R->Option S):(iu P s c t x i K).bind f=iu P s c t x i λx=>(K x).bind f:=by
 unfold iu;split
 .split
  .split <;> simp only [cA,nU,bw]
  .simp only [xP,cA,nU,bw]
  .split <;> simp only [cA,nU,bw]
  .simp only [bE,nU]
  .rfl
 .split
  .rw [nU];congr 1;split <;> simp only [bE,bw]
  .rfl
theorem HO(P:Program)(c:Option Bool)(t:TypeId)(x:AV)(k:Nat)(K:AV->Option R)(f:R->Option S):(pe P c t x k K).bind f=pe P c t x k λx=>(K x).bind f:=by
 unfold pe;split
 .rw [cA];congr 1;split <;> simp only [bE,bw]
 .rfl
theorem HM(P:Program)(t:TypeId)(x:AV)(k:Nat)(K:AV->Option R)(f:R->Option S):(pd P t x k K).bind f=pd P t x k λx=>(K x).bind f:=by
 unfold pd;split
 .split <;> simp only [Cf,bw]
 .rfl
theorem Is(P:Program)(s:St)(c:Option Bool)(t:TypeId)(x:AV)(K:AV->Option R)(f:R->Option S):(lC P s c t x K).bind f=lC P s c t x λx=>(K x).bind f:=by
 unfold lC;split
 .split <;> simp only [bE,bw]
 .rfl
 .split
  .split <;> rfl
  .simp only [xP]
  .rfl
  .simp only [bE]
  .rfl
 .rfl
theorem Fq(s:St)(c:Option Bool)(g:Option Gs)(o:Option Operand)(K:Option Int->Option R)(f:R->Option S):(gM s c g o K).bind f=gM s c g o λx=>(K x).bind f:=by
 unfold gM;split
 .rfl
 .simp only [Nr,bE]
theorem L8(P:Program)(s:St)(c:Option Bool)(t:TypeId)(x:AV)(b a d:Option Int)(K:AV->Option R)(f:R->Option S):(lS P s c t x b a d K).bind f=lS P s c t x b a d λx=>(K x).bind f:=by
 unfold lS;split
 .split <;> simp only [bE,bw]
 .split
  .split
   .split <;> simp only [cA,bE,bw]
   .split <;> simp only [cA,bE,bw]
   .simp only [cA,bE,bw]
   .rfl
  .split
   .simp only [cA,bE,bw]
   .split <;> simp only [cA,bE,bw]
   .rfl
 .rfl
theorem E6(P:Program)(s:St)(t:TypeId)(sz:Nat)(a:List T)(y:AV)(K:List (List T)->Option R)(f:R->Option S):(ke P s t sz a y K).bind f=ke P s t sz a y λx=>(K x).bind f:=by unfold ke;split <;> simp only [Nr,cA,bE,bw]
theorem E0(P:Program)(s:St)(d:Nat)(e:TypeId)(i:Id)(sz col rsz a:Nat)(es:List Row)(j:Id)(cs:List AV)(K:AV->aE->Option R)(f:R->Option S):(nC P s d e i sz col rsz a es j cs K).bind f=nC P s d e i sz col rsz a es j cs λv u=>(K v u).bind f:=by
 unfold nC;rw [cA];congr 1;rw [Nr];congr 1;funext l;split
 .split <;> simp only [cA,bE,bw]
 .split <;> simp only [cA,bE,bw]
 .rfl
theorem EY(P:Program)(s:St)(d:Nat)(rw:Bool)(t ty:TypeId)(x y:AV)(K:AV->aE->Option R)(f:R->Option S):(jd P s d rw t ty x y K).bind f=jd P s d rw t ty x y λv u=>(K v u).bind f:=by
 unfold jd;rw [Nr];congr 1;funext e;rw [Nr];congr 1;funext b;rw [cA];congr 1;split
 .split <;> simp only [E0,bw]
 .rw [E6];congr 1;funext a;split
  .split <;> simp only [cA,bE,bw]
  .split <;> simp only [cA,bE,bw]
  .simp only [Nr,bE]
  .rfl
theorem IM(P:Program)(d:Nat)(t:TypeId)(ns:Nat)(n m:T)(K:AV->aE->Option R)(f:R->Option S):(pw P d t ns n m K).bind f=pw P d t ns n m λv u=>(K v u).bind f:=by unfold pw;rw [Nr];congr 1;funext e;rw [Nr];congr 1;funext a;rw [bE];congr 1;funext n;rw [bE];congr 1;funext m;rw [cA];congr 1;rw [bE];congr 1;funext _;rw [jD];congr 1;split <;> simp only [cA,bw]
theorem wS(P:Program)(k:TypeId)(c:Option Bool)(v:AV)(K:Bool->List Ck->List T->Option R)(f:R->Option S):(mC P k c v K).bind f=mC P k c v λa b l=>(K a b l).bind f:=by unfold mC;rw [Nr];congr 1;funext q;split <;> simp only [p9,Nr,cA,bw]
theorem IJ(P:Program)(s:St)(c:Option Bool)(t:TypeId)(x k:AV)(ok:Bool)(K:AV->Option R)(f:R->Option S):(lD P s c t x k ok K).bind f=lD P s c t x k ok λv=>(K v).bind f:=by
 unfold lD;rw [Nr];congr 1;funext q;rw [Nr];congr 1;funext z;rw [wS];congr 1;funext a b l;split
 .split
  .rw [cA];simp only [lT,bw]
  .rfl
 .rfl
theorem IP(P:Program)(d:Nat)(t:TypeId)(K:AV->aE->Option R)(f:R->Option S):(py P d t K).bind f=py P d t λv u=>(K v u).bind f:=by unfold py;simp only [Nr,cA,bw]
theorem FU(P:Program)(s:St)(t:TypeId)(x k:AV)(K:aE->Option R)(f:R->Option S):(kU P s t x k K).bind f=kU P s t x k λu=>(K u).bind f:=by
 unfold kU;rw [Nr];congr 1;funext q;rw [wS];congr 1;funext a b l;split
 .split
  .rw [cA];rfl
  .rfl
 .rfl
theorem Kl(P:Program)(s:St)(t:TypeId)(x k v:AV)(K:aE->Option R)(f:R->Option S):(lK P s t x k v K).bind f=lK P s t x k v λu=>(K u).bind f:=by
 unfold lK;rw [Nr];congr 1;funext q;rw [wS];congr 1;funext a b l;split
 .split
  .rw [cA];simp only [Nr,lT,bw]
  .rfl
 .rfl
theorem xf(k:IntKind)(c:Option Bool)(b:Bool):∀(l:List T) (a:Int) (K:T->Option R) (f:R->Option S),(mF k c b a l K).bind f=mF k c b a l λx=>(K x).bind f
 | [],_,_,_=>rfl
 | y::r,a,K,f=>by simp only [mF,bE,xf k c b r]
theorem FJ(P:Program)(c:Option Bool)(a b:TypeId)(x:T)(K:T->Option R)(f:R->Option S):(oP P c a b x K).bind f=oP P c a b x λx=>(K x).bind f:=by unfold oP;split <;> simp only [bE,bw]
theorem zn(ids:List Id)(d:Nat)(c:Option Bool)(j:Nat)(r:cf)(x:T)(K:AV->aE->Nat->Option R)(f:R->Option S):(kk ids d c j r x K).bind f=kk ids d c j r x λv u j=>(K v u j).bind f:=by
 unfold kk;split
 .exact lT _ _ _ _ _
 .exact lT _ _ _ _ _
 .split <;> simp only [bE,bw]
 .split <;> simp only [bw]
 .split <;> simp only [bw]
 .split <;> simp only [bE,bw]
 .split <;> simp only [bE,bw]
 .rfl
 .rfl
 .rfl
theorem sL(ids:List Id)(d:Nat)(c:Option Bool):∀(rs:List cf) (j:Nat) (xs:List T) (K:List AV->aE->Nat->Option R) (f:R->Option S),(iJ ids d c j rs xs K).bind f=iJ ids d c j rs xs λv u j=>(K v u j).bind f
 | [],_,_,_,_=>rfl
 | r::rs,j,xs,K,f=>by simp only [iJ,bE,zn,sL ids d c rs]
theorem nG(ids:List Id)(d:Nat)(c:Option Bool):∀(rs:List cf) (j:Nat) (xs:List T) (K:List AV->aE->Nat->Option R) (f:R->Option S),(dD ids d c j rs xs K).bind f=dD ids d c j rs xs λv u j=>(K v u j).bind f
 | [],_,_,_,_=>rfl
 | r::rs,j,xs,K,f=>by
  cases r
  case new l=>cases c <;> simp only [dD,sL,nG ids d _ rs,bw]
  all_goals simp only [dD,bE,zn,sL,nG ids d c rs]
theorem sN(all:List Id)(d:Nat):∀(rs:List iC) (a:List Id) (j:Nat) (xs:List T) (K:aE->Option R) (f:R->Option S),(fk all d j a rs xs K).bind f=fk all d j a rs xs λu=>(K u).bind f
 | [],[],_,_,_,_=>rfl
 | [],_::_,_,_,_,_=>rfl
 | r::rs,[],_,_,_,_=>by cases r <;> rfl
 | r::rs,i::a,j,xs,K,f=>by cases r <;> simp only [fk,bE,sL,sN all d rs]
theorem MA(P:Program)(c:Option Bool)(t:TypeId)(v:AV)(K:AV->Option R)(f:R->Option S):(kL P c t v K).bind f=kL P c t v λx=>(K x).bind f:=by
 unfold kL;split
 .exact lT _ _ _ _ _
 .split
  .exact p9 _ _ _ _ _
  .rfl
 .rfl
theorem yt(P:Program)(c:Option Bool):∀(ts:List TypeId) (vs:List AV) (K:List AV->Option R) (f:R->Option S),(hI P c ts vs K).bind f=hI P c ts vs λx=>(K x).bind f
 | [],_,_,_=>rfl
 | _::_,[],_,_=>rfl
 | t::ts,v::vs,K,f=>by simp only [hI,MA,yt P c ts vs]
theorem y6(P:Program)(A:cx)(O:ax)(s:St)(d:Nat)(c:Option Bool)(g:FuncId)(args:List AV)(K:AV->aE->Option R)(f:R->Option S):
  (fD P A O s d c g args K).bind f=fD P A O s d c g args λv u=>(K v u).bind f:=by
 unfold fD;split
 .rfl
 .split
  .simp only [Nr,bE,nG,yt]
  .split
   .rfl
   .simp only [Nr,jD,bw,bE,nG,sN,yt]
theorem Fj(h:Id->Option ab)(i new:Id)(n rsz:Nat)(K:aE->Option R)(f:R->Option S):(qq h i new n rsz K).bind f=qq h i new n rsz λu=>(K u).bind f:=by
 unfold qq;split
 .rw [cA];simp only [bE,bw]
 .rfl
theorem Kx(P:Program)(s:St)(e:TypeId)(d:Nat)(c:Option Bool)(v:AV)(K:AV->aE->Option R)(f:R->Option S):(lP P s e d c v K).bind f=lP P s e d c v λv u=>(K v u).bind f:=by
 unfold lP;split
 .split
  .split
   .rw [bE];congr 1;funext p;rw [Nr];congr 1;funext l;rw [cA];rfl
   .rfl
  .rfl
 .rfl
theorem FD(fO:Bool)(P:Program)(A:cx)(O:ax)(s:St)(d:Nat)(c:Option Bool)(g:FuncId)(args:List AV)(K:AV->aE->Option R)(f:R->Option S):
  (im fO P A O s d c g args K).bind f=im fO P A O s d c g args λv u=>(K v u).bind f:=by
 unfold im;split
 .exact y6 _ _ _ _ _ _ _ _ _ _
 .split
  .simp only [bE,jD,y6,Fj,bw]
  .rfl
theorem BH(c:Option Bool)(v:AV)(K:Int->Option R)(f:R->Option S):(mz c v K).bind f=mz c v λx=>(K x).bind f:=by unfold mz;simp only [Nr,bE]
theorem uW(P:Program)(A:cx)(O:ax)(g:Option Gs)(o:Oper)(s:St)(K:AV->aE->Option R)(f:R->Option S):
  (gK P A O g o s K).bind f=gK P A O g o s λv u=>(K v u).bind f:=by
 unfold gK;cases o.op <;> dsimp only
 case pick=>simp only [Nr,bE]
 case alloc=>split <;> simp only [Nr,bw]
 case box=>split <;> simp only [cA,bw]
 case build=>simp only [Nr]
 case buildSlice=>
  rw [Nr];congr 1;funext e;rw [cA];congr 1
  .split <;> simp only [cA,bw]
  rw [cA];congr 1
  .split <;> simp only [Kx,bw]
  rw [cA];congr 1;rw [cA];congr 1;rw [Nr];congr 1;funext q;split <;> rfl
 case load=>simp only [IB]
 case store=>split <;> simp only [Mo,bw]
 case nilCheck=>split <;> simp only [bE,bw]
 case binOp=>split <;> simp only [Nr,HE,Fl]
 case unOp=>simp only [Nr,MG]
 case convert=>
  split
  .split <;> simp only [Nr,bE,bw]
  .simp only [Nr,FJ]
 case makeFunc=>split <;> simp_all
 case makeSlice=>split <;> simp only [Nr,IM,bw]
 case makeMap=>split <;> simp only [IP,bw]
 case lookup=>simp only [IJ]
 case mapUpdate=>split <;> simp only [Kl,bw]
 case slice=>simp only [Fq,L8]
 case fieldAddr=>simp only [HO]
 case field=>simp only [HM]
 case indexAddr=>simp only [BH,If]
 case index=>
  simp only [BH];congr 1;funext n;split
  .simp only [Nr,bE,nU]
  .split <;> simp only [jD,Nr,nU,qY,bw]
  .rfl
 case extract=>split <;> simp only [Nr,bw]
 case call cl=>
  split
  .split <;> simp only [Is,bw]
  .split <;> simp only [EY,bw]
  .split
   .rw [Nr];congr 1;funext l;split <;> simp only [bE,xf,bw]
   .rfl
  .split
   .rw [Nr];congr 1;funext l;split <;> simp only [bE,xf,bw]
   .rfl
  .split <;> simp only [FU,bw]
  ·(repeat' split) <;> simp only [jD,bw]
  .split <;> simp only [FD,bw]
  .rfl
 all_goals rfl
def cG(P:Program)(A:cx)(O:ax)(g:Option Gs)(o:Oper)(s:St):Option (AV×aE):=gK P A O g o s λv u=>some (v,u)
theorem oH(P:Program)(A:cx)(O:ax)(g:Option Gs)(o:Oper)(s:St)(K:AV->aE->Option R):gK P A O g o s K= (cG P A O g o s).bind λp=>K p.1 p.2:=by unfold cG;rw [uW];rfl
theorem BD(a:Array Oper)(o:Oper)(s:St)(K:Option Gs->Option R)(f:R->Option S):(cW a o s K).bind f=cW a o s λg=>(K g).bind f:=by
 unfold cW;split
 .rfl
 .split
  .rfl
  .simp only [Nr,bE]
theorem tq(a:Array Oper)(o:Oper)(s:St)(K:Option Gs->Option R):cW a o s K= (cW a o s some).bind K:=by rw [BD];rfl
def kz:List AV->List AV->Bool
 | [],[]=>true
 | c::r,c'::a=>match qN c c' with
  | none=>false
  | some none=>kz r a
  | some (some p)=>decide (p.1=p.2) && kz r a
 | _,_=>false
theorem zh(K:Option R)(a b:Bool):cond a (cond b K none) none=cond (a && b) K none:=by cases a <;> rfl
theorem HY(p:Prop)[Decidable p](X:Option R):aa none (if p then some () else none) (λ_=>X)=cond (decide p) X none:=by by_cases h:p <;> simp [h,aa]
theorem BU(K:Option R):∀l b:List AV,qQ l b K=cond (kz l b) K none
 | [],[]=>rfl
 | [],_::_=>rfl
 | _::_,[]=>rfl
 | c::r,c'::d=>by
  have a:=BU K r d;unfold qQ kz;cases qN c c' with
  | none=>rfl
  | some q=>
   cases q with
   | none=>exact a
   | some p=>dsimp only;rw [a,HY,zh]
def ji(h h':Id->Option ab):aE->Bool
 | []=>true
 | p::us=>match qO (h p.1) (h' p.1) with
  | none=>false
  | some none=>ji h h' us
  | some (some q)=>kz q.1 q.2 && ji h h' us
theorem BZ(h h':Id->Option ab)(K:Option R):∀us:aE,qR h h' us K=cond (ji h h' us) K none
 | []=>rfl
 | p::us=>by
  have a:=BZ h h' K us;unfold qR ji;cases qO (h p.1) (h' p.1) with
  | none=>rfl
  | some q=>
   cases q with
   | none=>exact a
   | some q=>dsimp only;rw [BU,a,zh]
def ix(A:cx)(a:Bool)(o:Oper)(h:Id->Option ab)(us:aE):Bool:= !(a && A.oN o.dst o.type) || ji h (aJ h us) us
theorem qP(A:cx)(a:Bool)(o:Oper)(h:Id->Option ab)(us:aE)(K:Option R):wN A a o h us K=cond (ix A a o h us) K none:=by unfold wN ix;rw [BZ];cases(a && A.oN o.dst o.type) <;> rfl
def eD(P:Program)(A:cx)(O:ax)(a:Bool)(nt:Nat)(b:Array Oper)(o:Oper)(s:St):Option St:=mK P A O a nt b o s some
theorem J4(P:Program)(A:cx)(O:ax)(a:Bool)(nt:Nat)(b:Array Oper)(o:Oper)(s:St)(K:St->Option R):mK P A O a nt b o s K= (eD P A O a nt b o s).bind K:=by
 unfold eD mK;rw [BD];congr 1;funext g;cases oq A a o g with
 | none=>
  dsimp only;rw [uW];congr 1;funext v u;rw [qP,qP];cases ix A a o s.h u with
  | false=>rfl
  | true=>simp only [cond_true];rw [cA];rfl
 | some d=>
  dsimp only;cases sP nt o d with
  | false=>rfl
  | true=>
   cases d.c with
   | false=>rfl
   | true=>simp only [cond_true];rw [uW];congr 1;funext v u;rw [cA];rfl
def gV(P:Program)(A:cx)(O:ax)(a:Bool)(nt:Nat)(b:Array Oper):List Oper->St->Option St
 | [],s=>some s
 | o::r,s=>(eD P A O a nt b o s).bind (gV P A O a nt b r)
theorem xN(P:Program)(A:cx)(O:ax)(a:Bool)(nt:Nat)(b:Array Oper):∀(l:List Oper) (s:St) (K:St->Option R),rL P A O a nt b l s K= (gV P A O a nt b l s).bind K
 | [],_,_=>rfl
 | o::r,s,K=>by simp only [rL,gV,J4,Nr];congr 1;funext s';exact xN P A O a nt b r s' K
end
open Go
def pk(w:World):Prop:=Lib.TabIs Go.Proofs.Tryz.prog w "internal/strconv.uint64pow10" .u64 Lib.pow10Tab
def mu:Nat:=3
theorem H3:Go.Proofs.Tryz.prog.globalNamed "internal/strconv.uint64pow10" =some 0:=by kernel_rfl
theorem wB{w w':World}(a:∀b,b < mu->w'.heap[b]? =w.heap[b]?)(h:pk w):pk w':=by unfold pk Lib.TabIs World.var? at h⊢;rw [H3,M6] at h⊢;rw [a 0 (by decide)];exact h
def GlobOk(w:World):Prop:=pk w/\mu<=w.heap.size
open Go
structure Ctx where
 A0:Nat->Prop
 M:Nat->Prop
 N0:Nat
def Ctx.MO(c:Ctx)(b:Nat):Prop:=c.M b\/c.N0<=b
def AA(c:Ctx)(w:World)(O:Id->Option Nat)(b:Nat):Prop:=(c.A0 b\/c.MO b)/\b < w.heap.size/\∀i,O i≠some b
def cF(w:World)(A:Nat->Prop)(sz:Nat)(b:Bool)(l:List (List T))(v:Value)(Q:Nat->Prop):Prop:=
 ∃a cap,v= .slice a l.length cap/\l.length<=cap/\(a=none↔b=true)/\True/\
  (cap=0\/∃ae off arr t,a=some ⟨ae,off,none⟩/\Q ae/\w.heap[ae]? =some (.cells arr t (0,0))/\off+cap * sz<=arr.size/\bd w A ae sz off l)
def gG(w:World)(A:Nat->Prop)(ρ:Id->Option Value)(O:Id->Option Nat)(i:Id)(ae sz col rsz base:Nat)(e:Row):Prop:=
 e.cs.length=sz/\col < sz/\(∀j x,j≠col->e.cs[j]? =some x->∃v,w.cell? ⟨ae,base+j,none⟩=some v/\ay w A x v)/\
 ∃v,w.cell? ⟨ae,base+col,none⟩=some v/\ρ (.g i e.n)=some v/\
  match e.own with
  | some p=>cF w A rsz p.1 p.2 v (λb=>O (.g i e.n)=some b)
  | none=>O (.g i e.n)=none
def cn(w:World)(A:Nat->Prop)(ρ:Id->Option Value)(O:Id->Option Nat)(i:Id)(ae sz col rsz:Nat):Nat->List Row->Prop
 | _,[]=>True
 | base,e::es=>gG w A ρ O i ae sz col rsz base e/\cn w A ρ O i ae sz col rsz (base+sz) es
def l8(ρ:Id->Option Value)(O:Id->Option Nat)(i:Id)(a:Nat)(es:List Row):Prop:=
 (es.map (·.n)).Nodup/\(∀e∈es,e.n < a)/\(∀n,a<=n->ρ (.g i n)=none)/\∀n b,O (.g i n)=some b->∃e∈es,e.n=n
def cO(w:World)(A:Nat->Prop)(ρ:Id->Option Value)(O:Id->Option Nat)(i:Id):ab->Prop
 | .box cs=>∃b arr t,ρ i=some (.pointer (some ⟨b,0,none⟩))/\O i=some b/\w.heap[b]? =some (.cells arr t (0,0))/\az w A ρ cs arr.toList/\
   (∀u∈arr.toList,u.oneCell'=true/\u.cells= #[u])
 | .sl fz sz b l=>∃v,ρ i=some v/\cF w A sz b l v (λae=>if fz=true then A ae else O i=some ae)/\(fz=true->O i=none)
 | .eI l=>∃b,ρ i=some (.pointer (some ⟨b,0,none⟩))/\O i=none/\A b/\aZ w A b 0 l
 | .arr cs=>∃b arr t,ρ i=some (.slice (some ⟨b,0,none⟩) 1 1)/\O i=some b/\w.heap[b]? =some (.cells arr t (0,0))/\az w A ρ cs arr.toList/\
   (∀u∈arr.toList,u.oneCell'=true/\u.cells= #[u])
 | .mp ag ks vk es=>∃b d f,ρ i=some (.map (some b))/\O i=some b/\w.heap[b]? =some (.map d f)/\
   d.toList.map (λe=>(e.key,e.val))=es.map (λp=>(cX ag p.1,dq p.2))/\(es.all λp=>cg ks p.1 && dC vk p.2)=true
 | .rows b sz col rsz g es=>∃a cap,ρ i=some (.slice a es.length cap)/\es.length<=cap/\(a=none↔b=true)/\l8 ρ O i g es/\
   (cap=0\/∃ae off arr t,a=some ⟨ae,off,none⟩/\O i=some ae/\w.heap[ae]? =some (.cells arr t (0,0))/\off+cap * sz<=arr.size/\cn w A ρ O i ae sz col rsz off es)
 | .dead=>(∃v,ρ i=some v/\v.oneCell'=true/\v.cells= #[v])/\O i=none
structure HS (c:Ctx) (w:World) (h:Id->Option ab) (ρ:Id->Option Value) (O:Id->Option Nat):Prop where
 ae:∀i b,h i=some b->cO w (AA c w O) ρ O i b
 ct:∀i,i.real=true->h i=none->ρ i=none/\O i=none
 dB:∀i n,h (.g i n)=none
 eQ:∀i n,h i=none->ρ (.g i n)=none/\O (.g i n)=none
 gone:∀i n u,ρ (.g i n)=some u->u.oneCell'=true/\u.cells= #[u]
 inj:∀i j b,O i=some b->O j=some b->i=j
 lt:∀i b,O i=some b->b < w.heap.size
 own:∀i b,O i=some b->c.MO b
 size:c.N0<=w.heap.size
 glob:pk w/\mu<=c.N0/\∀b,b < mu->¬c.M b
structure Le (w:World) (ρ:Id->Option Value) (O:Id->Option Nat) (w':World) (ρ':Id->Option Value) (O':Id->Option Nat):Prop where
 os:w'.os=w.os
 output:w'.output=w.output
 tape:w'.tape=w.tape
 size:w.heap.size<=w'.heap.size
 dU:∀i v,ρ i=some v->ρ' i=some v
 ae:∀b,b < w.heap.size->(∀i,O i≠some b)->w'.heap[b]? =w.heap[b]?
 own:∀i b,O' i=some b->(∃j,O j=some b)\/w.heap.size<=b
section
variable {c:Ctx} {w w' w'':World} {h h':Id->Option ab} {ρ ρ' ρ'':Id->Option Value} {O O' O'':Id->Option Nat}
theorem Le.refl:Le w ρ O w ρ O:=⟨rfl,rfl,rfl,Ns _,λ_ _ h=>h,λ_ _ _=>rfl,λi b h=> .inl ⟨i,h⟩⟩
theorem Le.trans(a:Le w ρ O w' ρ' O')(b:Le w' ρ' O' w'' ρ'' O''):Le w ρ O w'' ρ'' O'' where
 os:=b.os.trans a.os
 output:=b.output.trans a.output
 tape:=b.tape.trans a.tape
 size:=NQ a.size b.size
 dU i v h:=b.dU i v (a.dU i v h)
 ae k hk hn:=by
  rw [b.ae k (N8 hk a.size),a.ae k hk hn];intro i hi;rcases a.own i k hi with⟨j,hj⟩ | h
  .exact hn j hj
  .omega
 own i k hi:=by
  rcases b.own i k hi with⟨j,hj⟩ | h
  .exact a.own j k hj
  .exact .inr (NQ a.size h)
theorem Le.A(le:Le w ρ O w' ρ' O')(b:Nat)(a:AA c w O b):AA c w' O' b/\w'.heap[b]? =w.heap[b]?:=by
 refine⟨⟨a.1,N8 a.2.1 le.size,λi d=> ?_⟩,le.ae b a.2.1 a.2.2⟩;rcases le.own i b d with⟨j,e⟩ | h
 .exact a.2.2 j e
 .have:=a.2.1;omega
theorem cF.mono{A A' Q g:Nat->Prop}{sz:Nat}{b:Bool}{l:List (List T)}{v:Value}(o:∀b,A b->A' b/\w'.heap[b]? =w.heap[b]?)
  (f:∀b,Q b->g b/\w'.heap[b]? =w.heap[b]?) (hs:cF w A sz b l v Q):cF w' A' sz b l v g:=by
 obtain⟨a,cap,j,k,m,n,e⟩:=hs;refine⟨a,cap,j,k,m,n, ?_⟩;rcases e with e | ⟨ae,off,arr,t,i,d,e3,e4,e5⟩
 .exact .inl e
 .exact .inr ⟨ae,off,arr,t,i,(f _ d).1,by rw [(f _ d).2];exact e3,e4,bd.lE o ae sz (f _ d).2 off l e5⟩
def oz(i:Id)(w:World)(ρ:Id->Option Value)(O:Id->Option Nat)(w':World)(ρ':Id->Option Value)(O':Id->Option Nat):Prop:=
 ∀n,ρ' (.g i n)=ρ (.g i n)/\O' (.g i n)=O (.g i n)/\∀b,O (.g i n)=some b->w'.heap[b]? =w.heap[b]?
theorem gG.mono{A A':Nat->Prop}{i:Id}{ae sz col rsz base:Nat}{e:Row}(f:∀b,A b->A' b/\w'.heap[b]? =w.heap[b]?)(z:w'.heap[ae]? =w.heap[ae]?)(a:oz i w ρ O w' ρ' O')(h:gG w A ρ O i ae sz col rsz base e):
  gG w' A' ρ' O' i ae sz col rsz base e:=by
 obtain⟨m,o,q,v,r,t,y⟩:=h;have g:∀p,w'.cell? ⟨ae,p,none⟩=w.cell? ⟨ae,p,none⟩:=λp=>kS z;refine⟨m,o,λj x B C=> ?_,v,by rw [g];exact r,by rw [(a e.n).1];exact t, ?_⟩
 .obtain⟨u,l,d⟩:=q j x B C;exact⟨u,by rw [g];exact l,ay.mono f x u d⟩
 .revert y;cases e.own with
  | none=>intro h;simp only at h⊢;rw [(a e.n).2.1];exact h
  | some p=>intro d;refine cF.mono f (λb k=> ?_) d;rw [(a e.n).2.1];exact⟨k,(a e.n).2.2 b k⟩
theorem cn.mono{A A':Nat->Prop}{i:Id}{ae sz col rsz:Nat}(a:∀b,A b->A' b/\w'.heap[b]? =w.heap[b]?)(d:w'.heap[ae]? =w.heap[ae]?)(f:oz i w ρ O w' ρ' O'):∀{es:List Row} {base:Nat},cn w A ρ O i ae sz col rsz base es->
  cn w' A' ρ' O' i ae sz col rsz base es
 | [],_,_=>trivial
 | e::es,base,h=>⟨gG.mono a d f h.1,cn.mono a d f h.2⟩
theorem cF.dE{A A' Q a:Nat->Prop}{sz:Nat}{b:Bool}{l:List (List T)}{v:Value}(d:∀b,A b->A' b/\w'.heap[b]? =w.heap[b]?)
  (e:∀b,Q b->a b/\w'.heap[b]? =w.heap[b]?) (hs:cF w A sz b l v Q):cF w' A' sz b l v a:=cF.mono d e hs
theorem gG.move{A A':Nat->Prop}{i i':Id}{ae blk' sz col rsz base a:Nat}{e:Row}(l:∀j,j < sz->w'.cell? ⟨blk',a+j,none⟩=w.cell? ⟨ae,base+j,none⟩)(k:∀b,A b->A' b/\w'.heap[b]? =w.heap[b]?)
  (C:ρ' (.g i' e.n)=ρ (.g i e.n)) (f:O' (.g i' e.n)=O (.g i e.n)) (D:∀b,O (.g i e.n)=some b->w'.heap[b]? =w.heap[b]?) (h:gG w A ρ O i ae sz col rsz base e):gG w' A' ρ' O' i' blk' sz col rsz a e:=by
 obtain⟨q,d,r,v,a4,t,y⟩:=h;refine⟨q,d,λj x E o=> ?_,v,by rw [l _ d];exact a4,by rw [C];exact t, ?_⟩
 .obtain⟨u,z,B⟩:=r j x E o;have:=(M5.1 o).1;exact⟨u,by rw [l j (by omega)];exact z,ay.mono k x u B⟩
 .revert y;cases e.own with
  | none=>intro h;simp only at h⊢;rw [f];exact h
  | some p=>intro g;refine cF.mono k (λb m=> ?_) g;rw [f];exact⟨m,D b m⟩
theorem cn.move{A A':Nat->Prop}{i i':Id}{ae blk' sz col rsz:Nat}(d:∀b,A b->A' b/\w'.heap[b]? =w.heap[b]?):∀{es:List Row} {base a:Nat},
  (∀p,p < es.length * sz->w'.cell? ⟨blk',a+p,none⟩=w.cell? ⟨ae,base+p,none⟩)->(∀e∈es,ρ' (.g i' e.n)=ρ (.g i e.n)/\O' (.g i' e.n)=O (.g i e.n)/\∀b,O (.g i e.n)=some b->w'.heap[b]? =w.heap[b]?)->
  cn w A ρ O i ae sz col rsz base es->cn w' A' ρ' O' i' blk' sz col rsz a es
 | [],_,_,_,_,_=>trivial
 | e::es,base,a,f,k,h=>by
  have el:(e::es).length * sz=sz+es.length * sz:=by simp [NY];omega
  obtain⟨l,m,o⟩:=k e M3;refine⟨gG.move (λj r=>f j (by omega)) d l m o h.1,cn.move d (λp t=> ?_) (λe q=>k e (M4 _ q)) h.2⟩;rw [O7,O7];exact f (sz+p) (by omega)
theorem cn.append{A:Nat->Prop}{i:Id}{ae sz col rsz:Nat}:∀{es a:List Row} {base:Nat},cn w A ρ O i ae sz col rsz base es->cn w A ρ O i ae sz col rsz (base+es.length * sz) a->cn w A ρ O i ae sz col rsz base (es++a)
 | [],a,base,_,h=>by simpa using h
 | e::es,a,base,h,h'=>by
  refine⟨h.1,cn.append h.2 ?_⟩;have:base+sz+es.length * sz=base+ (e::es).length * sz:=by simp [NY];omega
  rw [this];exact h'
theorem cn.set{A A':Nat->Prop}{i:Id}{ae sz col rsz:Nat}{x:Row}(l:∀b,A b->A' b/\w'.heap[b]? =w.heap[b]?):∀{es:List Row} {base k:Nat},k < es.length->
  (∀p,base<=p->p < base+es.length * sz->¬(base+k * sz<=p/\p < base+k * sz+sz)->w'.cell? ⟨ae,p,none⟩=w.cell? ⟨ae,p,none⟩)->
  (∀j e,j≠k->es[j]? =some e->ρ' (.g i e.n)=ρ (.g i e.n)/\O' (.g i e.n)=O (.g i e.n)/\∀b,O (.g i e.n)=some b->w'.heap[b]? =w.heap[b]?)->
  gG w' A' ρ' O' i ae sz col rsz (base+k * sz) x->cn w A ρ O i ae sz col rsz base es->cn w' A' ρ' O' i ae sz col rsz base (es.set k x)
 | [],_,_,f,_,_,_,_=>by simp at f
 | e::es,base,0,f,a,d,q,h=>by
  have el:(e::es).length * sz=sz+es.length * sz:=by simp [NY];omega
  refine⟨by simpa using q,cn.move l (λp y=>a _ (by omega) (by omega) (by omega)) (λe' m=> ?_) h.2⟩;obtain⟨j,o⟩:=Pk.1 m;exact d (j+1) e' (by omega) (by simpa using o)
 | e::es,base,k+1,f,a,d,q,h=>by
  have el:(e::es).length * sz=sz+es.length * sz:=by simp [NY];omega
  have v:(k+1) * sz=sz+k * sz:=by rw [NY];omega
  obtain⟨r,t,u⟩:=d 0 e (by omega) rfl;refine⟨gG.move (λj o=>a _ (by omega) (by omega) (by omega)) l r t u h.1,cn.set l (by simpa using f) (λp z B C=>a p (by omega) (by omega) (by omega)) (λj e' o m=>d (j+1) e' (by omega) (by simpa using m)) ?_ h.2⟩;rw [show base+sz+k * sz=base+ (k+1) * sz by omega];exact q
theorem l8.mono{i:Id}{e:Nat}{es:List Row}(d:oz i w ρ O w' ρ' O')(h:l8 ρ O i e es):l8 ρ' O' i e es:=
 ⟨h.1,h.2.1,λn a=>by rw [(d n).1];exact h.2.2.1 n a,λn b a=>by rw [(d n).2.1] at a;exact h.2.2.2 n b a⟩
theorem cO.mono{A A':Nat->Prop}{i:Id}(q:oz i w ρ O w' ρ' O')(j:∀b,A b->A' b/\w'.heap[b]? =w.heap[b]?)(e:∀i v,ρ i=some v->ρ' i=some v)(g:O' i=O i)
  (k:∀b,O i=some b->w'.heap[b]? =w.heap[b]?):∀{b:ab},cO w A ρ O i b->cO w' A' ρ' O' i b
 | .box cs,⟨b,arr,t,f,d,e3,e4,e5⟩=>⟨b,arr,t,e _ _ f,by rw [g];exact d,by rw [k _ d];exact e3,az.mono j e cs _ e4,e5⟩
 | .sl fz sz b l,⟨v,f,d,e3⟩=>by
  refine⟨v,e _ _ f,cF.mono j (λb m=> ?_) d,by rw [g];exact e3⟩;cases fz
  .simp only [NA,if_false] at m⊢;exact⟨by rw [g];exact m,k _ m⟩
  .simp only [if_true] at m⊢;exact j _ m
 | .eI l,⟨b,f,d,e3,e4⟩=>⟨b,e _ _ f,by rw [g];exact d,(j b e3).1,aZ.mono j b e3 0 l e4⟩
 | .arr cs,⟨b,arr,t,f,d,e3,e4,e5⟩=>⟨b,arr,t,e _ _ f,by rw [g];exact d,by rw [k _ d];exact e3,az.mono j e cs _ e4,e5⟩
 | .mp ag ks vk es,⟨b,o,n,f,d,e3,e4,e5⟩=>⟨b,o,n,e _ _ f,by rw [g];exact d,by rw [k _ d];exact e3,e4,e5⟩
 | .rows b sz col rsz z es,h=>by
  obtain⟨a,cap,f,d,e3,e4,e5⟩:=h;refine⟨a,cap,e _ _ f,d,e3,e4.mono q, ?_⟩;rcases e5 with e5 | ⟨ae,off,arr,t,r,p,u,x,y⟩
  .exact .inl e5
  .exact .inr ⟨ae,off,arr,t,r,by rw [g];exact p,by rw [k _ p];exact u,x,y.mono j (k _ p) q⟩
 | .dead,⟨⟨v,f,e3⟩,d⟩=>⟨⟨v,e _ _ f,e3⟩,by rw [g];exact d⟩
def GK(w:World)(ρ:Id->Option Value)(O:Id->Option Nat)(w':World)(ρ':Id->Option Value)(O':Id->Option Nat):Prop:= ∀i,oz i w ρ O w' ρ' O'
theorem GK.refl:GK w ρ O w ρ O:=λ_ _=>⟨rfl,rfl,λ_ _=>rfl⟩
theorem HS.real(hs:HS c w h ρ O){i:Id}(a:h i≠none):i.real=true:=by
 cases i with
 | g i n=>exact(a (hs.dB i n)).elim
 | _=>rfl
theorem HS.mv(hs:HS c w h ρ O)(le:Le w ρ O w' ρ' O')
  (hblk:∀i b,h' i=some b->(h i=some b/\O' i=O i/\(∀ae,O i=some ae->w'.heap[ae]? =w.heap[ae]?)/\oz i w ρ O w' ρ' O')\/cO w' (AA c w' O') ρ' O' i b)
  (hnone:∀i,i.real=true->h' i=none->ρ' i=none/\O' i=none) (hnog:∀i n,h' (.g i n)=none)
  (hgd:∀i n,h' i=none->ρ' (.g i n)=none/\O' (.g i n)=none) (hgo:∀i n u,ρ' (.g i n)=some u->u.oneCell'=true/\u.cells= #[u])
  (inj:∀i j b,O' i=some b->O' j=some b->i=j) (lt:∀i b,O' i=some b->b < w'.heap.size):HS c w' h' ρ' O' where
 ae i b hb:=by
  rcases hblk i b hb with⟨h1,h2,h3,h4⟩ | h1
  .exact cO.mono h4 (λb ha=>le.A b ha) le.dU h2 h3 (hs.ae i b h1)
  .exact h1
 ct:=hnone
 dB:=hnog
 eQ:=hgd
 gone:=hgo
 inj:=inj
 lt:=lt
 own i b hi:=by
  rcases le.own i b hi with⟨j,hj⟩ | h
  .exact hs.own j b hj
  .exact .inr (NQ hs.size h)
 size:=NQ hs.size le.size
 glob:=⟨wB (λb hb=>le.ae b (N8 hb (NQ hs.glob.2.1 hs.size)) λi hi=>by
  rcases hs.own i b hi with h | h
  .exact hs.glob.2.2 b hb h
  .have:=hs.glob.2.1;omega) hs.glob.1,hs.glob.2⟩
theorem HS.ok(hs:HS c w h ρ O):GlobOk w:=⟨hs.glob.1,NQ hs.glob.2.1 hs.size⟩
theorem HS.go(hs:HS c w h ρ O)(le:Le w ρ O w' ρ' O')(a:GK w ρ O w' ρ' O')
  (f:∀i b,h' i=some b->(h i=some b/\O' i=O i/\(∀ae,O i=some ae->w'.heap[ae]? =w.heap[ae]?))\/cO w' (AA c w' O') ρ' O' i b)
  (d:∀i,i.real=true->h' i=none->ρ' i=none/\O' i=none) (q:∀i,h' i=none->h i=none) (k:∀i n,h' (.g i n)=none)
  (inj:∀i j b,O' i=some b->O' j=some b->i=j) (lt:∀i b,O' i=some b->b < w'.heap.size):HS c w' h' ρ' O':=
 hs.mv le (λi b p=>by
  rcases f i b p with⟨e,m,o⟩ | e
  .exact .inl ⟨e,m,o,a i⟩
  .exact .inr e) d k (λi n r=>by
  have:=hs.eQ i n (q i r);rw [(a i n).1,(a i n).2.1];exact this) (λi n u l=>by rw [(a i n).1] at l;exact hs.gone i n u l) inj lt
theorem HS.world(hs:HS c w h ρ O)(le:Le w ρ O w' ρ O)(dE:∀i ae,O i=some ae->w'.heap[ae]? =w.heap[ae]?):HS c w' h ρ O:=
 hs.go le (λi n=>⟨rfl,rfl,λb a=>dE _ b a⟩) (λi _ a=> .inl ⟨a,rfl,λae h=>dE i ae h⟩) hs.ct (λ_ h=>h) hs.dB hs.inj λi b h=>N8 (hs.lt i b h) le.size
def aH{α:Type}(f:Id->Option α)(i:Id)(v:Option α):Id->Option α:=λj=>if j=i then v else f j
@[simp] theorem aC {α:Type} (f:Id->Option α) (i:Id) (v:Option α):aH f i v i=v:=by simp [aH]
theorem aq{α:Type}(f:Id->Option α){i j:Id}(v:Option α)(h:j≠i):aH f i v j=f j:=by simp [aH,h]
theorem dr(h:Id->Option ab)(i:Id)(b:ab):aJ h [(i,b)]=aH h i (some b):=rfl
theorem cJ(h:Id->Option ab)(i:Id)(b:ab)(us:aE):aJ h ((i,b)::us)=aJ (aH h i (some b)) us:=rfl
theorem jY(h:Id->Option ab):∀(us vs:aE),aJ h (us++vs)=aJ (aJ h us) vs
 | [],_=>rfl
 | (i,b)::us,vs=>by simp only [NR,cJ];exact jY _ us vs
theorem aP{i j:Id}{n:Nat}(a:i.real=true):Id.g j n≠i:=by rintro rfl;cases a
theorem Le.alloc(hs:HS c w h ρ O){i:Id}(hr:i.real=true)(hi:h i=none)(o:Obj)(v:Value)(ob:Option Nat)(hob:ob=none\/ob=some w.heap.size):
  Le w ρ O (w.alloc o) (aH ρ i (some v)) (aH O i ob) where
 os:=rfl
 output:=rfl
 tape:=rfl
 size:=by simp
 dU j u hj:=by
  by_cases e:j=i
  .subst e;rw [(hs.ct _ hr hi).1] at hj;cases hj
  .rw [aq _ _ e];exact hj
 ae b hb _:=NN _ _ _ hb
 own j b hj:=by
  by_cases e:j=i
  .subst e;rw [aC] at hj;rcases hob with rfl | rfl
   .cases hj
   .cases hj;exact .inr (Ns _)
  .rw [aq _ _ e] at hj;exact .inl ⟨j,hj⟩
theorem HS.alloc(hs:HS c w h ρ O){i:Id}(l:i.real=true)(r:h i=none)(o:Obj)(v:Value)(ob:Option Nat)(g:ob=none\/ob=some w.heap.size)(b:ab)
  (m:cO (w.alloc o) (AA c (w.alloc o) (aH O i ob)) (aH ρ i (some v)) (aH O i ob) i b):
  HS c (w.alloc o) (aH h i (some b)) (aH ρ i (some v)) (aH O i ob):=by
 refine hs.go (Le.alloc hs l r o v ob g) (λj n=>⟨aq _ _ (aP l),aq _ _ (aP l),λb m=>NN _ _ _ (hs.lt _ b m)⟩) (λj t a=> ?_) (λj q a=> ?_) (λj a=> ?_) (λj n=>by rw [aq _ _ (aP l)];exact hs.dB j n) (λj k d a f=> ?_) (λj d a=> ?_)
 .by_cases e:j=i
  .subst e;rw [aC] at a;cases a;exact .inr m
  .rw [aq _ _ e] at a;exact .inl ⟨a,aq _ _ e,λae p=>NN _ _ _ (hs.lt j ae p)⟩
 .by_cases e:j=i
  .subst e;rw [aC] at a;cases a
  .rw [aq _ _ e] at a;rw [aq _ _ e,aq _ _ e];exact hs.ct j q a
 .by_cases e:j=i
  .subst e;rw [aC] at a;cases a
  .rw [aq _ _ e] at a;exact a
 .by_cases e:j=i <;> by_cases e':k=i
  .rw [e,e']
  .exfalso;rw [aq _ _ e'] at f;subst e;rw [aC] at a;rcases g with rfl | rfl
   .cases a
   .cases a;exact Oz _ (hs.lt _ _ f)
  .exfalso;rw [aq _ _ e] at a;subst e';rw [aC] at f;rcases g with rfl | rfl
   .cases f
   .cases f;exact Oz _ (hs.lt _ _ a)
  .rw [aq _ _ e] at a;rw [aq _ _ e'] at f;exact hs.inj j k d a f
 .by_cases e:j=i
  .subst e;rw [aC] at a;rcases g with rfl | rfl
   .cases a
   .cases a;simp
  .rw [aq _ _ e] at a;have:=hs.lt j d a;simp;omega
theorem Le.release{i:Id}:Le w ρ O w ρ (aH O i none) where
 os:=rfl
 output:=rfl
 tape:=rfl
 size:=Ns _
 dU _ _ h:=h
 ae _ _ _:=rfl
 own j b hj:=by
  by_cases e:j=i
  .subst e;rw [aC] at hj;cases hj
  .rw [aq _ _ e] at hj;exact .inl ⟨j,hj⟩
theorem HS.release(hs:HS c w h ρ O){i:Id}(l:i.real=true)(b:ab)(m:cO w (AA c w (aH O i none)) ρ (aH O i none) i b):HS c w (aH h i (some b)) ρ (aH O i none):=by
 refine hs.go Le.release (λj n=>⟨rfl,aq _ _ (aP l),λ_ _=>rfl⟩) (λj o a=> ?_) (λj g a=> ?_) (λj a=> ?_) (λj n=>by rw [aq _ _ (aP l)];exact hs.dB j n) (λj k d a f=> ?_) (λj d a=> ?_)
 .by_cases e:j=i
  .subst e;rw [aC] at a;cases a;exact .inr m
  .rw [aq _ _ e] at a;exact .inl ⟨a,aq _ _ e,λ_ _=>rfl⟩
 .by_cases e:j=i
  .subst e;rw [aC] at a;cases a
  .rw [aq _ _ e] at a⊢;exact hs.ct j g a
 .by_cases e:j=i
  .subst e;rw [aC] at a;cases a
  .rw [aq _ _ e] at a;exact a
 .by_cases e:j=i
  .subst e;rw [aC] at a;cases a
  .by_cases e':k=i
   .subst e';rw [aC] at f;cases f
   .rw [aq _ _ e] at a;rw [aq _ _ e'] at f;exact hs.inj j k d a f
 .by_cases e:j=i
  .subst e;rw [aC] at a;cases a
  .rw [aq _ _ e] at a;exact hs.lt j d a
theorem HS.freeze(hs:HS c w h ρ O){i:Id}{sz:Nat}{b:Bool}{l:List (List T)}(f:h i=some (.sl false sz b l)):
  HS c w (aH h i (some (.sl true sz b l))) ρ (aH O i none):=by
 refine hs.release (hs.real (by rw [f];simp)) _ ?_;obtain⟨v,g,k,e3⟩:=hs.ae i _ f;refine⟨v,g, ?_,λ_=>by simp⟩;simp only [if_true];have m:∀b,AA c w O b->AA c w (aH O i none) b/\w.heap[b]? =w.heap[b]?:=λb n=>(Le.release (ρ:=ρ) (i:=i)).A b n;refine cF.mono m (λae d=> ?_) k;simp only [NA,if_false] at d;refine⟨⟨.inr (hs.own i ae d),hs.lt i ae d,λj a=> ?_⟩,rfl⟩;by_cases e:j=i
 .subst e;rw [aC] at a;cases a
 .rw [aq _ _ e] at a;exact e (hs.inj j i ae a d)
theorem HS.HV(hs:HS c w h ρ O){i:Id}{cs:List AV}{l:List T}(f:h i=some (.box cs))(hl:dK cs=some l):
  HS c w (aH h i (some (.eI l))) ρ (aH O i none):=by
 refine hs.release (hs.real (by rw [f];simp)) _ ?_;obtain⟨b,arr,t,k,d,e3,e4,e5⟩:=hs.ae i _ f;have o:∀b,AA c w O b->AA c w (aH O i none) b/\w.heap[b]? =w.heap[b]?:=λb q=>(Le.release (ρ:=ρ) (i:=i)).A b q;have y:AA c w (aH O i none) b:=⟨.inr (hs.own i b d),hs.lt i b d,λj a=>by
  by_cases e:j=i
  .subst e;rw [aC] at a;cases a
  .rw [aq _ _ e] at a;exact e (hs.inj j i b a d)⟩
 refine⟨b,k,by simp,y, ?_⟩;have p:=aR.jo hl e4;have key:∀(l:List T) (vs:List Value) (off:Nat),aR w (AA c w O) l vs->(∀j v,vs[j]? =some v->w.cell? ⟨b,off+j,none⟩=some v)->aZ w (AA c w (aH O i none)) b off l:=by
  intro l;induction l with
  | nil=>intro vs off _ _;simp [aZ]
  | cons x l z=>rintro vs off ⟨v,r,rfl,m,n⟩ g;simp only [aZ];refine⟨⟨v,by simpa using g 0 v rfl,ay.mono o x v m⟩,z r (off+1) n λj u a=> ?_⟩;have:=g (j+1) u (by simpa using a);rw [show off+1+j=off+ (j+1) by omega];exact this
 refine key l _ 0 p λj v a=> ?_;simp only [World.cell?,e3,NF];simpa using a
theorem Le.write{b:Nat}{i:Id}(hi:O i=some b)(hos:w'.os=w.os)(ho:w'.output=w.output)(ht:w'.tape=w.tape)(hsz:w'.heap.size=w.heap.size)(hk:∀k,k≠b->w'.heap[k]? =w.heap[k]?):Le w ρ O w' ρ O where
 os:=hos
 output:=ho
 tape:=ht
 size:=Nat.le_of_eq hsz.symm
 dU _ _ h:=h
 ae k _ hn:=hk k λe=>hn i (e▸hi)
 own j b hj:= .inl ⟨j,hj⟩
theorem HS.write(hs:HS c w h ρ O){b:Nat}{i:Id}(l:O i=some b)(le:Le w ρ O w' ρ O)(o:∀k,k≠b->w'.heap[k]? =w.heap[k]?)(x:ab)
  (q:cO w' (AA c w' O) ρ O i x) (g:h i≠none):HS c w' (aH h i (some x)) ρ O:=by
 have p:=hs.real g;refine hs.go le (λj n=>⟨rfl,rfl,λd g=>o d λe=>aP p (hs.inj _ i b (e▸g) l)⟩) (λj r a=> ?_) (λj m a=> ?_) (λj a=> ?_) (λj n=>by rw [aq _ _ (aP p)];exact hs.dB j n) hs.inj (λj d a=>N8 (hs.lt j d a) le.size)
 .by_cases e:j=i
  .subst e;rw [aC] at a;cases a;exact .inr q
  .rw [aq _ _ e] at a;exact .inl ⟨a,rfl,λae f=>o ae λe'=>e (hs.inj j i b (e'▸f) l)⟩
 .by_cases e:j=i
  .subst e;rw [aC] at a;cases a
  .rw [aq _ _ e] at a;exact hs.ct j m a
 .by_cases e:j=i
  .subst e;rw [aC] at a;cases a
  .rw [aq _ _ e] at a;exact a
end
def SS(w:World)(A:Nat->Prop)(ρ:Id->Option Value)(s:Nat->Option Gs×AV)(tmps:Array Value):Prop:=
 ∀k,match s k with
  | (none,v)=>ai w A ρ v (tmps.getD k undef)
  | (some g,v)=>(tmps.getD g.d undef= .bool g.want/\g.c=true/\ai w A ρ v (tmps.getD k undef))\/(tmps.getD g.d undef≠ .bool g.want/\g.c=false/\tmps.getD k undef=undef)
section
variable {c:Ctx} {w w':World} {ρ ρ':Id->Option Value} {A A':Nat->Prop} {s:Nat->Option Gs×AV} {tmps:Array Value}
theorem SS.mono(e:∀b,A b->A' b/\w'.heap[b]? =w.heap[b]?)(a:∀i v,ρ i=some v->ρ' i=some v)(hs:SS w A ρ s tmps):SS w' A' ρ' s tmps:=by
 intro k;have:=hs k;revert this;split
 .intro this;exact ai.mono e a _ _ this
 .intro this;rcases this with⟨d,f,g⟩ | d
  .exact .inl ⟨d,f,ai.mono e a _ _ g⟩
  .exact .inr d
def jc(tmps:Array Value):Option Gs->Prop
 | none=>True
 | some g=>tmps.getD g.d undef= .bool g.want/\g.c=true
theorem jc.cond{g:Option Gs}(h:jc tmps g):g.map (·.c)=none\/g.map (·.c)=some true:=by
 cases g with
 | none=>exact .inl rfl
 | some g=>exact .inr (by simp [h.2])
theorem Kr(v:Value):ai w A ρ (vr v) v:=by
 have one:∀(u:Value) (x:T),mI u=some x->ay w A x u:=by
  intro u x e;cases u <;> simp only [mI,M1,reduceCtorEq] at e
  case slice a l i=>split at e <;> simp_all;subst e;simp [ay]
  case pointer a=>split at e <;> simp_all;subst e;simp [ay]
  case map a=>split at e <;> simp_all;subst e;simp [ay]
  all_goals (subst e;simp [ay])
 have all:∀(us:List Value) (l:List T),jL us=some l->aR w A l us:=by
  intro us;induction us with
  | nil=>intro l e;simp only [jL,M1] at e;subst e;rfl
  | cons u us f=>
   intro l e;simp only [jL] at e;cases b:mI u with
   | none=>simp [b] at e
   | some x=>
    cases d:jL us with
    | none=>simp [b,d] at e
    | some g=>simp only [b,d,M6,M1] at e;subst e;exact⟨u,us,rfl,one u x b,f g d⟩
 unfold vr;split
 .rename_i cs;split
  .rename_i l e;simp only [ai];have:=all cs.toList l e;refine⟨cs.toList,by simp,az.jM this, ?_⟩;have key:∀(l:List T) (us:List Value),aR w A l us->∀u∈us,u.oneCell'=true/\u.cells= #[u]:=by
    intro l;induction l with
    | nil=>intro us hu;simp only [aR] at hu;subst hu;simp
    | cons x l f=>
     intro us ⟨v,r,e,b,d⟩ u hu;subst e;rcases Nj.1 hu with rfl | hu
     .exact b.n8
     .exact f r d u hu
   exact key l _ this
  .simp [ai]
 .split
  .rename_i x e;simp only [ai];exact one _ x e
  .simp [ai]
theorem SS.get{a:Act}{h:Id->Option ab}(hs:SS w A ρ s a.tmps){g:Option Gs}(m:jc a.tmps g)(x:Operand):ai w A ρ (St.get ⟨s,h⟩ g x) (a.eval x):=by
 cases x with
 | tmp k=>
  simp only [St.get,Act.eval];have:=hs k;split at this
  .rename_i v e;simp only [e,jt,cond_true];exact this
  .rename_i d v e;simp only [e];cases g with
   | none=>simp [jt,ai]
   | some i=>
    by_cases b:jt (some d) (some i)=true
    .simp only [b,cond_true];simp only [jt,M7,beq_iff_eq] at b;rcases this with⟨_,_,l⟩ | ⟨j,_⟩
     .exact l
     .exfalso;apply j;rw [b.1,b.2];exact m.1
    .simp only [PI] at b;simp [b,ai]
 | const v=>exact Kr v
 | func f=>simp only [St.get,Act.eval,ai];exact⟨[],[],rfl,by simp [az],by simp [az]⟩
 | global g=>simp [St.get,ai]
theorem SS.kx{a:Act}{h:Id->Option ab}(hs:SS w A ρ s a.tmps){g:Option Gs}(l:jc a.tmps g)(cs x:Operand)(want:Bool)(i:a.eval cs= .bool want):
  ai w A ρ (St.kx ⟨s,h⟩ g cs want x) (a.eval x):=by
 unfold St.kx;split
 .rename_i d k;simp only [Act.eval] at i⊢;have:=hs k;split
  .rename_i f v e;simp only [e] at this;by_cases b:(f.d==d && f.want==want)=true
   .simp only [b,Bool.true_or,cond_true];simp only [M7,beq_iff_eq] at b;rcases this with⟨_,_,n⟩ | ⟨m,_⟩
    .exact n
    .exfalso;apply m;rw [b.1,b.2];exact i
   .simp only [PI] at b;simp only [b,NT];have j:=SS.get (h:=h) hs l (.tmp k);simp only [St.get,e,Act.eval] at j;exact j
  .rename_i v e;simp only [e] at this;exact this
 .exact SS.get hs l _
end
end Go.Aev
