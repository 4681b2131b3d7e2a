import Derived.WalkKit
import Derived.Test.YtcjplcpngagalaaGreatDoorChecked
import Derived.Lib.ItoaNum
import Derived.Lib.LaidTab
set_option linter.all false
namespace Go.Aev
open Go
abbrev NL:=@Option.some.injEq
abbrev NM:=@Option.bind_eq_some_iff
abbrev NN:=@List.mem_cons_self
abbrev NO:=@Option.bind_some
abbrev NP:=@List.mem_cons_of_mem
abbrev NQ:=@List.getElem?_eq_some_iff
abbrev NR:=@Bool.not_true
abbrev NS:=@Bool.not_false
abbrev NT:=@Bool.and_eq_true
abbrev NU:=@List.mem_of_getElem?
abbrev NV:=@List.length_cons
abbrev NW:=@List.length_singleton
abbrev NX:=@Result.andThen_ok
abbrev NY:=@List.mem_singleton
abbrev NZ:=@List.getElem?_eq_getElem
abbrev N1:=@List.mem_append_right
abbrev N2:=@List.mem_cons
abbrev N3:=@List.mem_append_left
abbrev N4:=@List.mem_append
abbrev N5:=@Option.bind_assoc
abbrev N6:=@List.all_eq_true
abbrev N7:=@List.length_nil
abbrev N8:=@List.getD_eq_getElem?_getD
abbrev N9:=@Sem.run_bind
abbrev Oa:=@Int.toNat_natCast
abbrev Ob:=@ByteArray.size_append
abbrev Oc:=@List.length_eq_zero_iff
abbrev Od:=@Bool.false_eq_true
abbrev Oe:=@Array.length_toList
abbrev Og:=@List.append_assoc
abbrev Oh:=@Nat.le_refl
abbrev Oi:=@Array.mem_of_getElem?
abbrev Oj:=@List.append_nil
abbrev Ol:=@List.singleton_append
abbrev Om:=@Bool.false_or
abbrev On:=@Int.natCast_zero
abbrev Oo:=@Sem.run_pure
abbrev Oq:=@List.map_cons
abbrev Ot:=@List.getElem?_append_left
abbrev Ou:=@List.mem_map
abbrev Ov:=@Nat.zero_add
abbrev Ow:=@Prod.mk.injEq
abbrev Ox:=@Int.lt_irrefl
abbrev Oy:=@Go.RowKit.Below.heap_alloc
abbrev Oz:=@Array.all_eq_true_iff_forall_mem
abbrev OA:=@Bool.or_eq_true
abbrev OB:=@List.length_append
abbrev OC:=@Nat.le_trans
abbrev OE:=@Array.getElem?_toList
abbrev OF:=@Bool.not_eq_true'
abbrev OG:=@List.length_take
abbrev OH:=@List.getElem?_append_right
abbrev OI:=@Nat.mul_le_mul_right
abbrev OJ:=@Nat.succ_mul
abbrev OK:=@Addr.mk.injEq
abbrev OL:=@List.cons_append
abbrev OM:=@Nat.lt_of_lt_of_le
abbrev ON:=@List.length_drop
abbrev OO:=@Value.slice.injEq
abbrev OP:=@List.head?_cons
abbrev OQ:=@List.getElem?_map
abbrev OR:=@Bool.true_and
abbrev OS:=@List.any_cons
abbrev OT:=@Nat.zero_le
abbrev OU:=@List.nodup_cons
abbrev OV:=@List.map_nil
abbrev OW:=@Bool.and_true
abbrev OX:=@Bool.false_and
abbrev OY:=@List.cons.injEq
abbrev OZ:=@List.size_toArray
abbrev O5:=@List.ext_getElem?
abbrev O6:=@List.all_cons
abbrev O7:=@List.length_map
abbrev O8:=@Array.getD_eq_getD_getElem?
abbrev O9:=@List.getElem?_cons_succ
abbrev Pa:=@Nat.lt_irrefl
abbrev Pb:=@Bool.true_or
abbrev Pc:=@Option.map_eq_some_iff
abbrev Pd:=@Bool.and_false
abbrev Pe:=@List.getElem?_set
abbrev Pf:=@List.nodup_append
abbrev Pg:=@List.any_eq_false
abbrev Ph:=@List.replicate_succ
abbrev Pj:=@Value.pointer.injEq
abbrev Pk:=@Option.isSome_iff_exists
abbrev Pm:=@Bool.or_eq_false_iff
abbrev Pn:=@List.flatten_cons
abbrev Po:=@Option.map_some
abbrev Pp:=@List.map_congr_left
abbrev Pq:=@MapKept.run_getObj_map
abbrev Pr:=@Array.ext'
abbrev Ps:=@Bool.not_eq_true
abbrev Pt:=@List.not_mem_nil
abbrev Pu:=@List.getElem?_drop
abbrev Pv:=@List.getElem?_eq_none
abbrev Pw:=@List.tail_cons
abbrev Px:=@Array.getElem?_eq_getElem
abbrev Py:=@List.mem_or_eq_of_mem_set
abbrev Pz:=@List.mem_of_mem_take
abbrev PA:=@List.nil_append
abbrev PB:=@List.getElem?_of_mem
abbrev PC:=@List.getElem?_mapIdx
abbrev PD:=@List.getElem?_cons_zero
abbrev PE:=@Option.getD_some
abbrev PF:=@List.isEmpty_iff
abbrev PG:=@List.any_eq_true
abbrev PH:=@Nat.add_mul
abbrev PI:=@List.drop_eq_nil_of_le
abbrev PJ:=@Bool.not_eq_false'
abbrev PK:=@List.getElem?_take
abbrev PL:=@Classical.choose_spec
abbrev PM:=@List.getElem?_toArray
abbrev PN:=@List.length_replicate
abbrev PO:=@Nat.add_assoc
abbrev PQ:=@List.take_add_one
abbrev PR:=@List.drop_eq_getElem_cons
abbrev PS:=@List.mem_of_mem_drop
abbrev PT:=@Option.isNone_iff_eq_none
abbrev PU:=@List.drop_zero
abbrev PV:=@Nat.add_zero
abbrev PW:=@List.set_cons_succ
abbrev PX:=@List.map_append
abbrev PY:=@Array.any_eq_true'
abbrev PZ:=@List.length_eq_one_iff
abbrev P0:=@MapKept.run_setObj_map
abbrev P1:=@List.getElem?_set_self
abbrev P2:=@List.mem_iff_getElem?
abbrev P3:=@List.drop_drop
abbrev P4:=@Iff.rfl
abbrev P5:=@List.range'_succ
abbrev P6:=@Nat.lt_succ_self
abbrev P7:=@Nat.le_add_right
abbrev P8:=@List.getElem_mem
abbrev P9:=@Option.ne_none_iff_exists'
abbrev Qa:=@Array.getElem?_eq_some_iff
abbrev Qb:=@List.take_succ_cons
abbrev Qc:=@List.extract_eq_take_drop
abbrev Qd:=@List.length_set
abbrev Qe:=@List.set_cons_zero
abbrev Qf:=@List.mem_filterMap
abbrev Qg:=@List.nodup_nil
abbrev Qh:=@Array.size_append
abbrev Qi:=@List.take_of_length_le
abbrev Qj:=@Nat.mod_eq_of_lt
abbrev Qk:=@Array.toList_map
abbrev Ql:=@Eq.trans
abbrev Qm:=@Ne.symm
abbrev Qn:=@Array.getElem?_setIfInBounds_ne
abbrev Qo:=@Array.toList_extract
abbrev Qp:=@List.range_eq_range'
abbrev Qq:=@Int.mul_le_mul_of_nonneg_right
abbrev Qr:=@Option.map_none
abbrev Qs:=@Nat.sub_self
abbrev Qt:=@Bool.or_true
abbrev Qu:=@BitVec.ofInt_natCast
abbrev Qv:=@Int.zero_add
abbrev Qw:=@Int.mul_le_mul_of_nonneg_left
abbrev Qx:=@List.mem_range
abbrev Qy:=@List.prefix_append
abbrev Qz:=@Option.isNone_none
abbrev QA:=@BitVec.toNat_ofNat
abbrev QB:=@List.isEmpty_cons
abbrev QC:=@Option.getD_none
abbrev QD:=@List.map_set
abbrev QE:=@List.idxOf_lt_length_iff
abbrev QF:=@Nat.not_le_of_lt
abbrev QG:=@List.isEmpty_nil
abbrev QH:=@Int.add_zero
abbrev QI:=@List.take_zero
abbrev QJ:=@List.mapM_cons
abbrev QK:=@Nat.mul_le_mul
abbrev QL:=@List.drop_left
abbrev QM:=@Nat.mod_lt
abbrev QN:=@Nat.not_lt
inductive T where
 | int (k:IntKind) (n:Int)
 | bool (b:Bool)
 | str (s:ByteArray)
 | ab (sz:Nat) (isNil:Bool) (xs:List (List T))
 | ae (isNil:Bool)
 | ptr (cs:List T)
 | ao
 | uq
 | uo
 | xG
 | cB (f:FuncId)
 | any
 deriving Inhabited
inductive Id where
 | c (n:Nat)
 | s (d:Nat) (j:Nat)
 | g (i:Id) (n:Nat)
 deriving DecidableEq,Inhabited
def Id.real:Id->Bool
 | .g _ _=>false
 | _=>true
inductive AV where
 | top
 | t (x:T)
 | kc (vs:List AV)
 | agg (vs:List AV)
 | ref (i:Id) (off:Nat)
 | el (i:Id) (sz k off:Nat)
 | own (i:Id)
 | part (i:Id) (sz off len:Nat)
 | row (i:Id) (n:Nat)
 | rel (i:Id) (sz n k off:Nat)
 | fn (f:FuncId) (fst caps:List AV)
 deriving Inhabited
inductive Ck where
 | i (k:IntKind)
 | b
 | s
 | l (sz:Nat)
 | x
 deriving Inhabited,DecidableEq
structure Row where
 n:Nat
 cs:List T
 own:Option (Bool×List (List T))
 deriving Inhabited
inductive ad where
 | box (cs:List AV)
 | sl (fz:Bool) (sz:Nat) (isNil:Bool) (xs:List (List T))
 | eE (cs:List T)
 | arr (cs:List AV)
 | mp (ag:Bool) (ks:List Ck) (vk:Ck) (es:List (List T×T))
 | rows (b:Bool) (sz col rsz nx:Nat) (es:List Row)
 | dead
 deriving Inhabited
def T.int?(k:IntKind):T->Option Int
 | .int a n=>if a=k then some n else none
 | _=>none
def T.bool?:T->Option Bool
 | .bool b=>some b
 | _=>none
def T.bh:T->Option ByteArray
 | .str s=>some s
 | _=>none
def T.oe:T->Option (List T)
 | .ptr cs=>some cs
 | _=>none
def T.ak(sz:Nat):T->Option (Bool×List (List T))
 | .ab a b xs=>if a=sz then some (b,xs) else none
 | .ae b=>some (b,[])
 | _=>none
def dt:T->Value
 | .int k n=> .int k n
 | .bool b=> .bool b
 | .str s=> .string s
 | _=> .nilIface
def cY(ag:Bool)(cs:List T):Value:=cond ag (.agg (cs.map dt).toArray) ((cs.map dt).headD .nilIface)
def dB:Ck->T->Bool
 | .i k, .int a _=>decide (a=k)
 | .b, .bool _=>true
 | .s, .str _=>true
 | _,_=>false
def cm:List Ck->List T->Bool
 | [],[]=>true
 | k::ks,x::xs=>dB k x && cm ks xs
 | _,_=>false
def lG:T->T->Bool
 | .int _ a, .int _ b=>a==b
 | .bool a, .bool b=>a==b
 | .str a, .str b=>a==b
 | _,_=>false
def dL:List T->List T->Bool
 | [],[]=>true
 | x::xs,y::a=>lG x y && dL xs a
 | _,_=>false
def fE(key:List T):List (List T×T)->Option T
 | []=>none
 | (k,v)::r=>cond (dL key k) (some v) (fE key r)
def gB(key:List T)(v:T):List (List T×T)->List (List T×T)
 | []=> [(key,v)]
 | (k,u)::r=>cond (dL key k) ((key,v)::r) ((k,u)::gB key v r)
def T.nP:T->Option Unit
 | .int _ _=>some ()
 | .bool _=>some ()
 | .str _=>some ()
 | _=>none
def gd{α:Type}[Inhabited α](c:Option Bool)(m:Option α):Option α:=
 match m with
 | some a=>some a
 | none=>match c with
  | none=>none
  | some b=>cond b none (some default)
def aa{α R:Type}[Inhabited α](c:Option Bool)(m:Option α)(k:α->Option R):Option R:=
 match m with
 | some a=>k a
 | none=>match c with
  | none=>none
  | some b=>cond b none (k default)
def mZ{R:Type}(c:Option Bool):Nat->List T->(List T->Option R)->Option R
 | 0,_,K=>K []
 | n+1,cs,K=>aa c cs.head? λx=>mZ c n cs.tail λl=>K (x::l)
def mO:Value->Option T
 | .int k i=>some (.int k i)
 | .bool b=>some (.bool b)
 | .string s=>some (.str s)
 | .slice none 0 0=>some (.ae true)
 | .pointer none=>some .ao
 | .map none=>some .uq
 | .nilFunc=>some .uo
 | .nilIface=>some .xG
 | _=>none
def jN:List Value->Option (List T)
 | []=>some []
 | v::r=>(mO v).bind λx=>(jN r).bind λl=>some (x::l)
def bI(P:Program)(t:TypeId):Bool:=
 match P.underlying t with
 | some (.struct _) | some (.array _ _)=>true
 | _=>false
def pw(P:Program)(t:TypeId):Option IntKind:=
 match P.underlying t with
 | some (.int k)=>some k
 | _=>none
def cb(P:Program)(t:TypeId):Bool:=(P.underlying t).isSome
def qI(P:Program)(t:TypeId)(f:Nat):Option (Nat×TypeId):=
 match P.underlying t with
 | some (.struct a)=>match a[f]? with
  | some x=>cond (cb P x.type) (some (x.offset,x.type)) none
  | none=>none
 | _=>none
def lE(P:Program)(t:TypeId):Option TypeId:=
 match P.underlying t with
 | some (.slice e)=>cond (cb P e) (some e) none
 | _=>none
def sQ(P:Program)(t:TypeId):Option (Nat×TypeId):=
 match P.underlying t with
 | some (.array n e)=>cond (cb P e) (some (n,e)) none
 | _=>none
def oc(P:Program)(t:TypeId):Bool:=
 match P.underlying t with
 | some (.struct a)=>a.toList.all λf=>cb P f.type
 | some (.array _ e)=>cb P e
 | _=>false
def xm(P:Program)(t:TypeId):Bool:=
 match P.underlying t with
 | some .string=>true
 | _=>false
def gG(P:Program)(t:TypeId):Option (List T):=
 match P.info? t with
 | some i=>match i.zero with
  | some v=>jN v.cells.toList
  | none=>none
 | none=>none
structure Gs where
 d:Nat
 want:Bool
 c:Bool
structure St where
 t:Nat->Option Gs×AV
 h:Id->Option ad
abbrev aB:=List (Id×ad)
def aK(h:Id->Option ad):aB->Id->Option ad
 | []=>h
 | (i,b)::us=>aK (λj=>if j=i then some b else h j) us
def kC(d:Nat):Option Gs×AV->Option Gs×AV
 | (some g,v)=>cond (g.d==d) (none, .top) (some g,v)
 | (none,v)=>(none,v)
def St.put(s:St)(a:Bool)(d:Option Nat)(g:Option Gs)(v:AV)(us:aB):St:=
 {t :=match d with
    | some d=>λk=>if k=d then(g,v) else cond a (kC d (s.t k)) (s.t k)
    | none=>s.t
  h:=aK s.h us}
def vO(v:Value):AV:=
 match v with
 | .agg cs=>match jN cs.toList with
  | some l=> .agg (l.map .t)
  | none=> .top
 | v=>match mO v with
  | some x=> .t x
  | none=> .top
def jv:Option Gs->Option Gs->Bool
 | none,_=>true
 | some a,some b=>a.d==b.d && a.want==b.want
 | some _,none=>false
def St.pH(s:St)(g:Gs):St:={s with t:=λk=>cond (jv (s.t k).1 (some g)) (none,(s.t k).2) (s.t k)}
def St.get(s:St)(g:Option Gs):Operand->AV
 | .tmp k=>match s.t k with
  | (a,v)=>cond (jv a g) v .top
 | .const v=>vO v
 | .func f=> .fn f [] []
 | .global _=> .top
def St.kI(s:St)(g:Option Gs)(cs:Operand)(want:Bool)(o:Operand):AV:=
 match cs,o with
 | .tmp d, .tmp k=>match s.t k with
  | (some a,v)=>cond ((a.d==d && a.want==want) || jv (some a) g) v .top
  | (none,v)=>v
 | _,o=>s.get g o
def AV.t?:AV->Option T
 | .t x=>some x
 | _=>none
def dJ:List AV->Option (List T)
 | []=>some []
 | .t x::r=>(dJ r).bind λl=>some (x::l)
 | _::_=>none
def dr(h:Id->Option ad):AV->Option T
 | .t x=>some x
 | .own i=>match h i with
  | some (.sl _ sz b xs)=>some (.ab sz b xs)
  | _=>none
 | .part i sz off len=>match h i with
  | some (.sl _ a b xs)=>if a=sz then some (.ab sz b ((xs.drop off).take len)) else none
  | _=>none
 | .ref i off=>match h i with
  | some (.box cs)=>(dJ cs).bind λl=>some (.ptr (l.drop off))
  | some (.eE l)=>some (.ptr (l.drop off))
  | _=>none
 | _=>none
def jx(h:Id->Option ad):List AV->Option (List T)
 | []=>some []
 | v::r=>(dr h v).bind λx=>(jx h r).bind λl=>some (x::l)
def yu(h:Id->Option ad):AV->Option T
 | .own i=>match h i with
  | some (.sl _ sz b xs)=>some (.ab sz b xs)
  | some (.rows ..)=>some .any
  | some (.mp ..)=>some .any
  | _=>none
 | v=>dr h v
def rV(h:Id->Option ad):List AV->Option (List T)
 | []=>some []
 | v::r=>(yu h v).bind λx=>(rV h r).bind λl=>some (x::l)
def jw(h:Id->Option ad):AV->Option (List T)
 | .agg vs=>jx h vs
 | v=>(dr h v).bind λx=>some [x]
def fN(h:Id->Option ad):AV->aB
 | .own i=>match h i with
  | some (.sl false sz b xs)=> [(i, .sl true sz b xs)]
  | _=> []
 | .part i _ _ _=>match h i with
  | some (.sl false sz b xs)=> [(i, .sl true sz b xs)]
  | _=> []
 | .ref i _=>match h i with
  | some (.box cs)=>match dJ cs with
   | some l=> [(i, .eE l)]
   | none=> []
  | _=> []
 | _=> []
def kH(h:Id->Option ad):List AV->aB
 | []=> []
 | v::r=>fN h v++kH h r
def fF(h:Id->Option ad):AV->aB
 | .agg vs=>kH h vs
 | v=>fN h v
def oN{R:Type}(op:BinOp)(k:IntKind)(c:Option Bool)(x y:T)(K:T->Option R):Option R:=
 aa c (x.int? k) λa=>aa c (y.int? k) λb=>
  match op with
  | .add=>K (.int k (k.wrap (a+b)))
  | .sub=>K (.int k (k.wrap (a - b)))
  | .mul=>K (.int k (k.wrap (a * b)))
  | .quo=>aa c (if b=0 then none else some ()) λ_=>K (.int k (k.wrap (a.tdiv b)))
  | .rem=>aa c (if b=0 then none else some ()) λ_=>K (.int k (a.tmod b))
  | .and=>K (.int k (k.wrap (BitVec.ofInt k.bits a &&& BitVec.ofInt k.bits b).toNat))
  | .or=>K (.int k (k.wrap (BitVec.ofInt k.bits a ||| BitVec.ofInt k.bits b).toNat))
  | .xor=>K (.int k (k.wrap (BitVec.ofInt k.bits a ^^^ BitVec.ofInt k.bits b).toNat))
  | .andNot=>K (.int k (k.wrap (BitVec.ofInt k.bits a &&& ~~~(BitVec.ofInt k.bits b)).toNat))
  | .lss=>K (.bool (decide (a < b)))
  | .leq=>K (.bool (decide (a<=b)))
  | .gtr=>K (.bool (decide (a > b)))
  | .geq=>K (.bool (decide (a>=b)))
  | _=>none
def pV{R:Type}(op:BinOp)(k d:IntKind)(c:Option Bool)(x y:T)(K:T->Option R):Option R:=
 aa c (x.int? k) λa=>aa c (y.int? d) λb=>
  aa c (if b < 0 then none else some ()) λ_=>
  match op with
  | .shl=>K (.int k (k.wrap (a * 2 ^ (min b.toNat k.bits))))
  | .shr=>K (.int k (a.fdiv (2 ^ (min b.toNat k.bits))))
  | _=>none
def p4{R:Type}(op:BinOp)(c:Option Bool)(x y:T)(K:T->Option R):Option R:=
 aa c x.bh λa=>aa c y.bh λb=>
  match op with
  | .add=>aa c (if a.size+b.size<=4294967296 then some () else none) λ_=>K (.str (a++b))
  | .lss=>K (.bool (Op.bytesLess a.toList b.toList))
  | .leq=>K (.bool (Op.bytesLess a.toList b.toList || a.toList==b.toList))
  | .gtr=>K (.bool (!(Op.bytesLess a.toList b.toList || a.toList==b.toList)))
  | .geq=>K (.bool (!(Op.bytesLess a.toList b.toList)))
  | _=>none
def pn(P:Program)(go:TypeId->Option (List TypeId)):List Field->Nat->Option (List TypeId)
 | [],_=>some []
 | f ::r,off=>if f.offset=off/\f.name≠ "_" then
     (go f.type).bind λl=>if P.cellsOf f.type=l.length/\0 < l.length then(pn P go r (off+l.length)).bind λq=>some (l++q) else none
  else none
def eL(P:Program):Nat->TypeId->Option (List TypeId)
 | 0,_=>none
 | n+1,t=>match P.underlying t with
  | some (.int _) | some .bool | some .string=>some [t]
  | some (.struct a)=>if P.stoodInHeld t then none else pn P (eL P n) a.toList 0
  | some (.array m e)=>(eL P n e).bind λl=>if P.cellsOf e=l.length then some (List.replicate m l).flatten else none
  | _=>none
def iw(P:Program)(s:St)(t:TypeId)(x:AV):Option Bool:=
 match P.underlying t with
 | some (.slice _)=>match x with
  | .t (.ab _ b _)=>some b
  | .t (.ae b)=>some b
  | .own i=>match s.h i with
   | some (.sl _ _ b _)=>some b
   | _=>none
  | _=>none
 | some (.pointer _)=>match x with
  | .t (.ptr _)=>some false
  | .t .ao=>some true
  | .ref _ _=>some false
  | .el _ _ _ _=>some false
  | _=>none
 | some (.func ..)=>match x with
  | .t .uo=>some true
  | .fn _ _ _=>some false
  | _=>none
 | some (.map ..)=>match x with
  | .t .uq=>some true
  | _=>none
 | _=>none
def mN(P:Program)(t:TypeId)(o:Operand):Bool:=
 match P.underlying t,o with
 | some (.slice _), .const (.slice none 0 0)=>true
 | some (.pointer _), .const (.pointer none)=>true
 | some (.func ..), .const .nilFunc=>true
 | some (.map ..), .const (.map none)=>true
 | _,_=>false
def jK{R:Type}(P:Program)(c:Option Bool)(t:TypeId)(x y:T)(K:Bool->Option R):Option R:=
 match P.underlying t with
 | some (.int k)=>aa c (x.int? k) λa=>aa c (y.int? k) λb=>K (a==b)
 | some .bool=>aa c x.bool? λa=>aa c y.bool? λb=>K (a==b)
 | some .string=>aa c x.bh λa=>aa c y.bh λb=>K (a==b)
 | _=>none
def dN{R:Type}(P:Program)(c:Option Bool):List TypeId->List T->List T->(Bool->Option R)->Option R
 | [],[],[],K=>K true
 | t::ts,x::xs,y::a,K=>jK P c t x y λb=>dN P c ts xs a λr=>K (b && r)
 | _,_,_,_=>none
def oP{R:Type}(P:Program)(op:BinOp)(t ty:TypeId)(c:Option Bool)(x y:T)(K:T->Option R):Option R:=
 match op with
 | .shl | .shr=>match pw P t,pw P ty with
  | some k,some a=>pV op k a c x y K
  | _,_=>none
 | .eql | .neq=>none
 | op=>match P.underlying t with
  | some (.int k)=>oN op k c x y K
  | some .string=>p4 op c x y K
  | _=>none
def nN{R:Type}(P:Program)(c:Option Bool)(t:TypeId)(x y:AV)(K:Bool->Option R):Option R:=
 match x,y with
 | .t x, .t y=>cond (xm P t) (aa c x.bh λa=>aa c y.bh λb=>K (a.toList==b.toList)) (jK P c t x y K)
 | .agg xs, .agg d=>cond (P.eqGuardType P.depth t || !bI P t) none <| (dJ xs).bind λxs=>(dJ d).bind λd=>(eL P 8 t).bind λts=>dN P c ts xs d K
 | _,_=>none
def p9{R:Type}(P:Program)(op:UnOp)(t:TypeId)(c:Option Bool)(x:T)(K:T->Option R):Option R:=
 match op,P.underlying t with
 | .neg,some (.int k)=>aa c (x.int? k) λa=>K (.int k (k.wrap (0 - a)))
 | .xor,some (.int k)=>aa c (x.int? k) λa=>
   K (.int k (k.wrap (BitVec.ofInt k.bits (if k.signed then -1 else k.max) ^^^ BitVec.ofInt k.bits a).toNat))
 | .not,some .bool=>aa c x.bool? λa=>K (.bool (!a))
 | _,_=>none
open Go
def eD{R:Type}(k:Ck)(c:Option Bool)(x:T)(K:T->Option R):Option R:=
 match k with
 | .i k=>aa c (x.int? k) λn=>K (.int k n)
 | .b=>aa c x.bool? λb=>K (.bool b)
 | .s=>aa c x.bh λs=>K (.str s)
 | .l sz=>aa c (x.ak sz) λp=>K (.ab sz p.1 p.2)
 | .x=>K x
def ef{R:Type}(c:Option Bool):List Ck->List T->(List T->Option R)->Option R
 | [],xs,K=>K xs
 | _::_,[],K=>K []
 | k::ks,x::xs,K=>eD k c x λy=>ef c ks xs λa=>K (y::a)
def jG(P:Program)(t:TypeId):Ck:=
 match P.underlying t with
 | some (.int k)=> .i k
 | some .bool=> .b
 | some .string=> .s
 | some (.slice e)=> .l (P.cellsOf e)
 | _=> .x
def sV(P:Program):Nat->TypeId->List Ck
 | 0,_=> []
 | n+1,t=>match P.underlying t with
  | some (.struct a)=>a.toList.flatMap λf=>sV P n f.type
  | some (.array m e)=>(List.replicate m (sV P n e)).flatten
  | _=> [jG P t]
def qp(P:Program)(t:TypeId):List Ck:=
 if(sV P 8 t).length=P.cellsOf t then sV P 8 t else List.replicate (P.cellsOf t) .x
inductive ch where
 | f (k:Ck)
 | t (k:Ck)
 | own (sz:Nat)
 | ref (k off:Nat)
 | same (k:Nat)
 | rows (sz col rsz:Nat)
 | mp (ag:Bool) (ks:List Ck) (vk:Ck)
 | new (l:List ch)
 | no
 | agg (l:List ch)
 deriving Inhabited
inductive iC where
 | box (l:List ch)
 | sl (sz:Nat)
 | mp (ag:Bool) (ks:List Ck) (vk:Ck)
 | dead
 deriving Inhabited
structure yO where
 res:List ch
 outs:List iC
 deriving Inhabited
structure cC where
 live:FuncId->Nat->Option (List (Nat×Option Nat))
 join:FuncId->Nat->Option (List (Nat×Option Nat))
 sig:FuncId->Option yO
 gu:FuncId->Option (List Bool):=λ_=>none
 deep:FuncId->Bool:=λ_=>false
 vJ:FuncId->Nat->yO:=λ_ _=>⟨[],[]⟩
 app:Option Nat->Bool:=λ_=>false
 wr:FuncId->Bool:=λ_=>false
 st:Option Nat->Bool:=λ_=>false
 Ev:Option Nat->TypeId->Bool:=λ_ _=>true
 sx:Option Nat->Bool:=λ_=>false
 ld:Option Nat->Bool:=λ_=>false
 vN:Option Nat->Bool:=λ_=>false
 oS:Option Nat->TypeId->Bool:=λ_ _=>false
 tY:Option Nat->TypeId->Bool:=λ_ _=>false
 tX:Option Nat->TypeId->Bool:=λ_ _=>false
 jM:Option Nat->TypeId->Nat:=λ_ _=>0
 ext:FuncId->List AV->List ad->Option (List T):=λ_ _ _=>none
inductive Key where
 | call (f:FuncId)
 | node (f:FuncId) (todo:List Item) (live:List (Nat×Option Nat)) (m:Nat×Nat)
abbrev aq:=Key->List AV->List ad->Option (List T)
def kN:Nat:=4294967296
mutual
def AV.ids:AV->List Id
 | .top=> []
 | .t _=> []
 | .kc vs=>cf vs
 | .agg vs=>cf vs
 | .ref i _=> [i]
 | .el i _ _ _=> [i]
 | .own i=> [i]
 | .part i _ _ _=> [i]
 | .row i _=> [i]
 | .rel i _ _ _ _=> [i]
 | .fn _ a b=>cf a++cf b
def cf:List AV->List Id
 | []=> []
 | v::r=>v.ids++cf r
end
mutual
def AV.rn(m:List Id):AV->AV
 | .top=> .top
 | .t x=> .t x
 | .kc vs=> .kc (iW m vs)
 | .agg vs=> .agg (iW m vs)
 | .ref i o=> .ref (.c (m.idxOf i)) o
 | .el i sz k o=> .el (.c (m.idxOf i)) sz k o
 | .own i=> .own (.c (m.idxOf i))
 | .part i sz o n=> .part (.c (m.idxOf i)) sz o n
 | .row i n=> .row (.c (m.idxOf i)) n
 | .rel i sz n k o=> .rel (.c (m.idxOf i)) sz n k o
 | .fn f a b=> .fn f (iW m a) (iW m b)
def iW(m:List Id):List AV->List AV
 | []=> []
 | v::r=>v.rn m::iW m r
end
def fQ(m:List Id):Option ad->ad
 | some (.box cs)=> .box (iW m cs)
 | some (.arr cs)=> .arr (iW m cs)
 | some b=>b
 | none=> .dead
def eA(h:Id->Option ad):Nat->List Id->List Id->Option (List Id)
 | 0,_,_=>none
 | _+1,[],seen=>some seen
 | n+1,i::todo,seen=>
  cond (seen.contains i) (eA h n todo seen)
   (match h i with
    | some (.box cs)=>eA h n (todo++cf cs) (seen++ [i])
    | some (.arr cs)=>eA h n (todo++cf cs) (seen++ [i])
    | some _=>eA h n todo (seen++ [i])
    | none=>none)
def kY:Nat->List AV->Option (List AV)
 | 0,_=>some []
 | _+1,[]=>none
 | n+1,c::r=>(kY n r).bind λl=>some (c::l)
def ct{α:Type}(off:Nat)(new a:List α):List α:=a.take off++new++a.drop (off+new.length)
def cA(n:Nat):List Row->Option (Bool×List (List T))
 | []=>none
 | e::r=>if e.n=n then e.own else cA n r
def cR(n:Nat)(p:Option (Bool×List (List T))):List Row->List Row
 | []=> []
 | e::r=>if e.n=n then{e with own:=p}::r else e::cR n p r
def jT{R:Type}(h:Id->Option ad)(c:Option Bool)(i:Id)(n:Nat)(K:Nat->Bool->List (List T)->Option R):Option R:=
 match h i with
 | some (.rows _ _ _ rsz _ es)=>aa c (cA n es) λp=>K rsz p.1 p.2
 | _=>none
def jn{R:Type}(P:Program)(t:TypeId)(c:Option Bool)(cs:List T)(K:AV->Option R):Option R:=
 cond (bI P t) (mZ c (P.cellsOf t) cs λl=>ef c (qp P t) l λl=>K (.agg (l.map .t))) (aa c cs.head? λx=>eD (jG P t) c x λx=>K (.t x))
def kO{R:Type}(P:Program)(t:TypeId)(cs:List AV)(K:AV->Option R):Option R:=
 cond (bI P t) ((kY (P.cellsOf t) cs).bind λl=>K (.agg l)) (cs.head?.bind K)
def pA{R:Type}(P:Program)(t:TypeId)(c:Option Bool)(i:Id)(sz col off:Nat)(e:Row)(K:AV->Option R):Option R:=
 cond (bI P t)
  (if off=0/\P.cellsOf t=sz then mZ c sz e.cs λl=>ef c ((qp P t).set col .x) l λl=>K (.agg ((l.map .t).set col (.row i e.n))) else none)
  (if off=col then K (.row i e.n) else aa c (e.cs.drop off).head? λx=>eD (jG P t) c x λx=>K (.t x))
def fG{R:Type}(P:Program)(s:St)(c:Option Bool)(t:TypeId)(a:AV)(K:AV->Option R):Option R:=
 cond (cb P t) (match a with
 | .ref i off=>match s.h i with
  | some (.box cs)=>kO P t (cs.drop off) K
  | some (.eE l)=>jn P t c (l.drop off) K
  | _=>none
 | .el i sz k off=>match s.h i with
  | some (.sl _ b _ xs)=>if b=sz then aa c xs[k]? λcs=>jn P t c (cs.drop off) K else none
  | some (.rows _ b col _ _ es)=>if b=sz then aa c es[k]? λe=>pA P t c i sz col off e K else none
  | _=>none
 | .rel i sz n k off=>jT s.h c i n λrsz _ xs=>if rsz=sz then aa c xs[k]? λcs=>jn P t c (cs.drop off) K else none
 | .t x=>aa c x.oe λcs=>jn P t c cs K
 | _=>none) none
def fB(v:AV):List AV:=
 match v with
 | .agg vs=>vs
 | .fn f [] []=> [.t (.cB f)]
 | v=> [v]
def nG:AV->Bool
 | .agg _ | .kc _ | .top=>false
 | _=>true
def gh(k off:Nat)(l:List T)(xs:List (List T)):Option (List (List T)):=
 match xs[k]? with
 | some cs=>if off+l.length<=cs.length then some (xs.set k (ct off l cs)) else none
 | none=>none
def hI{R:Type}(P:Program)(s:St)(t:TypeId)(a v:AV)(K:aB->Option R):Option R:=
 cond (cb P t) (match a with
 | .ref i off=>match s.h i with
  | some (.box cs)=>
   if(fB v).length=P.cellsOf t/\(fB v).all nG/\off+ (fB v).length<=cs.length then K [(i, .box (ct off (fB v) cs))] else none
  | _=>none
 | .el i sz k off=>match s.h i with
  | some (.sl false d b xs)=>(jw s.h v).bind λl=>
    if d=sz/\l.length=P.cellsOf t/\v.ids.contains i=false then
     aa none (gh k off l xs) λm=>K ((i, .sl false sz b m)::fF s.h v) else none
  | some (.rows b d col rsz f es)=>match v with
   | .own j=>match s.h j with
    | some (.sl false g o xs)=>
     if d=sz/\off=col/\g=rsz/\P.cellsOf t=1/\bI P t=false then
      aa none es[k]? λe=>K [(j, .dead),(i, .rows b sz col rsz (f+1) (es.set k ⟨f,e.cs,some (o,xs)⟩))] else none
    | _=>none
   | _=>none
  | _=>none
 | .rel i sz n k off=>match s.h i with
  | some (.rows b d col rsz f es)=>aa none (cA n es) λp=>(jw s.h v).bind λl=>
    if rsz=sz/\l.length=P.cellsOf t/\v.ids.contains i=false then
     aa none (gh k off l p.2) λm=>K ((i, .rows b d col rsz f (cR n (some (p.1,m)) es))::fF s.h v) else none
  | _=>none
 | _=>none) none
def qY:List (Nat×List AV)->List AV->Option (List AV)
 | [],z=>some z
 | (off,l)::r,z=>if off+l.length<=z.length then qY r (ct off l z) else none
def rG(P:Program)(t:TypeId)(f:Nat):Option (Nat×TypeId):=
 match qI P t f with
 | some p=>some p
 | none=>match sQ P t with
  | some (_,u)=>some (f * P.cellsOf u,u)
  | none=>none
def mU(P:Program)(t:TypeId)(ev:Operand->AV):List (Nat×Operand)->Option (List (Nat×List AV))
 | []=>some []
 | (f,o)::r=>(rG P t f).bind λp=>
   if(fB (ev o)).length=P.cellsOf p.2/\(fB (ev o)).all nG then(mU P t ev r).bind λq=>some ((p.1,fB (ev o))::q) else none
def sT(P:Program)(t:TypeId)(ev:Operand->AV)(a:List (Nat×Operand)):Option AV:=
 if oc P t then
 (gG P t).bind λz=>(mU P t ev a).bind λl=>(qY l (z.map .t)).bind λcs=>some (.agg cs)
 else none
def gv(P:Program)(h:Id->Option ad)(e:TypeId)(ev:Operand->AV):Nat->List (Nat×Operand)->Option (List (List T)×aB)
 | _,[]=>some ([],[])
 | n,(k,o)::r=>(jw h (ev o)).bind λl=>if k=n/\l.length=P.cellsOf e then
    (gv P h e ev (n+1) r).bind λq=>some (l::q.1,fF h (ev o)++q.2)
  else none
def iQ{R:Type}(c:Option Bool)(i:Int)(n:Nat)(K:Option R):Option R:=aa c (if 0<=i/\i < n then some () else none) λ_=>K
def iv{R:Type}(P:Program)(s:St)(c:Option Bool)(t:TypeId)(x:AV)(i:Int)(K:AV->Option R):Option R:=
 match lE P t with
 | some e=>match x with
  | .own j=>match s.h j with
   | some (.sl _ sz _ xs)=>if sz=P.cellsOf e then iQ c i xs.length (K (.el j sz i.toNat 0)) else none
   | some (.rows _ sz _ _ _ es)=>if sz=P.cellsOf e then iQ c i es.length (K (.el j sz i.toNat 0)) else none
   | _=>none
  | .row j n=>jT s.h c j n λrsz _ xs=>if rsz=P.cellsOf e then iQ c i xs.length (K (.rel j rsz n i.toNat 0)) else none
  | .part j sz off n=>match s.h j with
   | some (.sl _ a _ _)=>if sz=P.cellsOf e/\a=sz then iQ c i n (K (.el j sz (off+i.toNat) 0)) else none
   | _=>none
  | .t y=>aa c (y.ak (P.cellsOf e)) λp=>iQ c i p.2.length (aa c p.2[i.toNat]? λcs=>K (.t (.ptr cs)))
  | _=>none
 | none=>match sQ P t with
  | some (n,e)=>iQ c i n (match x with
   | .ref j off=>K (.ref j (off+i.toNat * P.cellsOf e))
   | .el j sz k off=>K (.el j sz k (off+i.toNat * P.cellsOf e))
   | .t y=>aa c y.oe λcs=>K (.t (.ptr (cs.drop (i.toNat * P.cellsOf e))))
   | _=>none)
  | none=>none
def ph{R:Type}(P:Program)(c:Option Bool)(t:TypeId)(x:AV)(f:Nat)(K:AV->Option R):Option R:=
 match qI P t f with
 | some (off,u)=>if P.cellsOf u=0 then none else
  match x with
  | .ref j o=>K (.ref j (o+off))
  | .el j sz k o=>K (.el j sz k (o+off))
  | .rel j sz n k o=>K (.rel j sz n k (o+off))
  | .t y=>aa c y.oe λcs=>K (.t (.ptr (cs.drop off)))
  | _=>none
 | none=>none
def pg{R:Type}(P:Program)(t:TypeId)(x:AV)(f:Nat)(K:AV->Option R):Option R:=
 match qI P t f with
 | some (off,u)=>match x with
  | .agg vs=>kO P u (vs.drop off) K
  | _=>none
 | none=>none
def lO{R:Type}(P:Program)(s:St)(c:Option Bool)(t:TypeId)(x:AV)(K:AV->Option R):Option R:=
 match P.underlying t with
 | some .string=>match x with
  | .t y=>aa c y.bh λb=>K (.t (.int .i64 b.size))
  | _=>none
 | some (.array n _)=>K (.t (.int .i64 n))
 | some (.slice e)=>match x with
  | .own j=>match s.h j with
   | some (.sl _ _ _ xs)=>K (.t (.int .i64 xs.length))
   | some (.rows _ _ _ _ _ es)=>K (.t (.int .i64 es.length))
   | _=>none
  | .row j n=>jT s.h c j n λ_ _ xs=>K (.t (.int .i64 xs.length))
  | .part _ _ _ n=>K (.t (.int .i64 n))
  | .t y=>aa c (y.ak (P.cellsOf e)) λp=>K (.t (.int .i64 p.2.length))
  | _=>none
 | _=>none
def gS{R:Type}(s:St)(c:Option Bool)(g:Option Gs)(o:Option Operand)(K:Option Int->Option R):Option R:=
 match o with
 | none=>K none
 | some o=>(s.get g o).t?.bind λx=>aa c (anyInt x) λn=>K (some n)
where
 anyInt:T->Option Int
  | .int _ n=>some n
  | _=>none
def eO(b a n:Int):Option Unit:=if 0<=b/\b<=a/\a<=n then some () else none
def sub(a b:Int)(xs:List (List T)):List (List T):=(xs.drop a.toNat).take (b.toNat - a.toNat)
def vl(b a m:Int):Option Unit:=if b=0/\a=0/\m=0 then some () else none
def tR:T->Bool
 | .ae true=>true
 | .ab _ true []=>true
 | _=>false
def l6{R:Type}(P:Program)(s:St)(c:Option Bool)(t:TypeId)(x:AV)(a d f:Option Int)(K:AV->Option R):Option R:=
 match P.underlying t with
 | some .string=>match x,f with
  | .t y,none=>aa c y.bh λb=>
    aa c (eO (a.getD 0) (d.getD b.size) b.size) λ_=>K (.t (.str (b.extract (a.getD 0).toNat (d.getD b.size).toNat)))
  | _,_=>none
 | some (.slice e)=>match f with
  | none=>match x with
   | .own j=>match s.h j with
    | some (.sl _ sz _ xs)=>if sz=P.cellsOf e/\cb P e=true then
      aa c (eO (a.getD 0) (d.getD xs.length) xs.length) λ_=>
      K (.part j sz (a.getD 0).toNat ((d.getD xs.length).toNat - (a.getD 0).toNat)) else none
    | _=>none
   | .part j sz off n=>match s.h j with
    | some (.sl _ g _ _)=>if sz=P.cellsOf e/\g=sz/\cb P e=true then
      aa c (eO (a.getD 0) (d.getD n) n) λ_=>
      K (.part j sz (off+ (a.getD 0).toNat) ((d.getD n).toNat - (a.getD 0).toNat)) else none
    | _=>none
   | .t y=>if cb P e=true then aa c (y.ak (P.cellsOf e)) λp=>
     aa c (eO (a.getD 0) (d.getD p.2.length) p.2.length) λ_=>
     K (.t (.ab (P.cellsOf e) p.1 (sub (a.getD 0) (d.getD p.2.length) p.2))) else none
   | _=>none
  | some m=>match x with
   | .t y=>if cb P e=true then aa c (y.ak (P.cellsOf e)) λp=>aa c (vl (a.getD 0) (d.getD 1) m) λ_=>K (.t (.ae p.1)) else none
   | .own j=>match s.h j with
    | some (.sl _ _ b _)=>if cb P e=false then none else aa c (vl (a.getD 0) (d.getD 1) m) λ_=>K (.t (.ae b))
    | _=>none
   | _=>none
 | _=>none
def kQ(n m:Int):Option Unit:=if 0<=n/\n<=m/\m<=kN then some () else none
def kr{R:Type}(P:Program)(s:St)(t:TypeId)(sz:Nat)(a:List T)(y:AV)(K:List (List T)->Option R):Option R:=
 match P.underlying t with
 | some (.slice _)=>(dr s.h y).bind λx=>aa none (x.ak sz) λp=>K p.2
 | some .string=>if sz=1 then y.t?.bind λx=>aa none x.bh λb=>K (b.data.toList.map λu=> [.int .u8 u.toNat]) else none
 | some (.int _)=>y.t?.bind λx=>aa none (x.int? .i64) λn=>aa none (kQ n n) λ_=>K (List.replicate n.toNat a)
 | _=>none
def mz(a n:Nat):Prop:=n<=kN\/(0 < a/\n * a<=140737488355328)
instance (bs n:Nat):Decidable (mz bs n):=inferInstanceAs (Decidable (_\/_))
def bt(a n:Nat):Option Unit:=if mz a n then some () else none
def CX:T->Option Bool
 | .ae b=>some b
 | .ab _ b xs=>cond (b && xs.isEmpty) (some true) none
 | _=>none
def yd(h:Id->Option ad):AV->Option (Id×Nat×Nat×Nat×Nat×List Row)
 | .own i=>match h i with
  | some (.rows _ sz col rsz a es)=>some (i,sz,col,rsz,a,es)
  | _=>none
 | _=>none
def xL(h:Id->Option ad):AV->Option (Id×List AV)
 | .own j=>match h j with
  | some (.arr cs)=>some (j,cs)
  | _=>none
 | _=>none
def nD{R:Type}(P:Program)(s:St)(d:Nat)(e:TypeId)(i:Id)(sz col rsz f:Nat)(es:List Row)(j:Id)(cs:List AV)(K:AV->aB->Option R):Option R:=
 if sz=P.cellsOf e/\cs.length=sz/\col < sz/\i≠j then
  (dJ (cs.set col (.t .ao))).bind λl=>match cs[col]? with
   | some (.own o)=>match s.h o with
    | some (.sl false m u xs)=>if m=rsz then
      aa none (bt (P.bytesOf e) (es.length+1)) λ_=>
      K (.own (.s d 0)) [(i, .dead),(j, .dead),(o, .dead),(.s d 0, .rows false sz col rsz (f+1) (es++ [⟨f,l,some (u,xs)⟩]))] else none
    | _=>none
   | some (.row a n)=>match s.h a with
    | some (.rows v r k b q g)=>if b=rsz/\a≠i then
      aa none (cA n g) λp=>aa none (bt (P.bytesOf e) (es.length+1)) λ_=>
      K (.own (.s d 0)) [(i, .dead),(j, .dead),(a, .rows v r k b q (cR n none g)),(.s d 0, .rows false sz col rsz (f+1) (es++ [⟨f,l,some p⟩]))] else none
    | _=>none
   | _=>none
 else none
def jf{R:Type}(P:Program)(s:St)(d:Nat)(rw:Bool)(t ty:TypeId)(x y:AV)(K:AV->aB->Option R):Option R:=
 (lE P t).bind λe=>(gG P e).bind λk=>
 if P.bytesOf e<=8192/\k.length=P.cellsOf e then
 match cond rw (yd s.h x) none,cond rw (xL s.h y) none with
 | some (i,sz,col,rsz,l,es),some (j,cs)=>match P.underlying ty with
  | some (.slice _)=>nD P s d e i sz col rsz l es j cs K
  | _=>none
 | _,_=>
 kr P s ty (P.cellsOf e) k y λa=>
 match x with
 | .own i=>match s.h i with
  | some (.sl false f b xs)=>if f=P.cellsOf e then
    aa none (bt (P.bytesOf e) (xs.length+a.length)) λ_=>
    K (.own (.s d 0)) [(.s d 0, .sl false (P.cellsOf e) (b && a.isEmpty) (xs++a)),(i, .dead)] else none
  | _=>none
 | .part i g off n=>match s.h i with
  | some (.sl false f b xs)=>if f=P.cellsOf e/\g=P.cellsOf e then
    aa none (bt (P.bytesOf e) (n+a.length)) λ_=>
    K (.own (.s d 0)) [(.s d 0, .sl false (P.cellsOf e) (b && a.isEmpty) ((xs.drop off).take n++a)),(i, .dead)] else none
  | _=>none
 | .t z=>(CX z).bind λb=>aa none (bt (P.bytesOf e) a.length) λ_=>
    K (.own (.s d 0)) [(.s d 0, .sl false (P.cellsOf e) (b && a.isEmpty) a)]
 | _=>none
 else none
def n6(n:Nat):List Row:=(List.range n).map λk=>⟨k,[.ao],some (true,[])⟩
def pC{R:Type}(P:Program)(d:Nat)(t:TypeId)(jM:Nat)(n m:T)(K:AV->aB->Option R):Option R:=
 (lE P t).bind λe=>(gG P e).bind λa=>
 aa none (n.int? .i64) λn=>aa none (m.int? .i64) λm=>
 if P.bytesOf e<=8192/\a.length=P.cellsOf e then
 aa none (kQ n m) λ_=>
  cond (jM==2) (match P.underlying e,a with
   | some (.slice u),[.ae true]=>if P.cellsOf e=1 then K (.own (.s d 0)) [(.s d 0, .rows false 1 0 (P.cellsOf u) n.toNat (n6 n.toNat))] else none
   | _,_=>none)
   (K (.own (.s d 0)) [(.s d 0, .sl false (P.cellsOf e) false (List.replicate n.toNat a))])
 else none
def mm(d:Bool)(a b:Int):Int:=cond d (if b > a then b else a) (if b < a then b else a)
def mL{R:Type}(k:IntKind)(c:Option Bool)(d:Bool):Int->List T->(T->Option R)->Option R
 | a,[],K=>K (.int k a)
 | a,y::r,K=>aa c (y.int? k) λb=>mL k c d (mm d a b) r K
def oU{R:Type}(P:Program)(c:Option Bool)(src a:TypeId)(x:T)(K:T->Option R):Option R:=
 match P.underlying src,P.underlying a with
 | some (.int k),some (.int d)=>aa c (x.int? k) λn=>K (.int d (d.wrap n))
 | some .string,some .string=>aa c x.bh λb=>K (.str b)
 | _,_=>none
def bytesOf:List (List T)->Option (List UInt8)
 | []=>some []
 | cs::r=>cs.head?.bind λx=>(x.int? .u8).bind λn=>(bytesOf r).bind λl=>some (UInt8.ofNat n.toNat::l)
def kU:Ck->Bool
 | .i _ | .b | .s=>true
 | _=>false
def pE(P:Program)(t:TypeId):Option (TypeId×TypeId):=
 match P.underlying t with
 | some (.map k e)=>cond (cb P k && cb P e) (some (k,e)) none
 | _=>none
def yM(P:Program)(t:TypeId):Option T:=
 match P.info? t with
 | some i=>match i.zero with
  | some v=>mO v
  | none=>none
 | none=>none
def jm(P:Program)(k:TypeId):Option (Bool×List Ck):=
 match P.underlying k with
 | some (.int i)=>some (false,[.i i])
 | some .string=>some (false,[.s])
 | some (.array n e)=>match P.underlying e with
  | some (.int i)=>if P.cellsOf e=1/\n<=8 then some (true,List.replicate n (.i i)) else none
  | _=>none
 | _=>none
def mH{R:Type}(P:Program)(k:TypeId)(c:Option Bool)(v:AV)(K:Bool->List Ck->List T->Option R):Option R:=
 (jm P k).bind λq=>match q.1,v with
  | false, .t x=>ef c q.2 [x] λcs=>K false q.2 cs
  | true, .agg vs=>(dJ vs).bind λl=>if l.length=q.2.length then ef c q.2 l λcs=>K true q.2 cs else none
  | _,_=>none
def lP{R:Type}(P:Program)(s:St)(c:Option Bool)(t:TypeId)(x key:AV)(ok:Bool)(K:AV->Option R):Option R:=
 (pE P t).bind λq=>(yM P q.2).bind λz=>mH P q.1 c key λag ks cs=>match x with
  | .own i=>match s.h i with
   | some (.mp a b vk es)=>if a=ag/\b=ks/\jG P q.2=vk/\kU vk=true/\bI P q.2=false then
     eD vk c ((fE cs es).getD z) λv=>K (cond ok (.kc [.t v, .t (.bool (fE cs es).isSome)]) (.t v)) else none
   | _=>none
  | _=>none
def pD{R:Type}(P:Program)(d:Nat)(t:TypeId)(K:AV->aB->Option R):Option R:=
 (pE P t).bind λq=>(jm P q.1).bind λp=>if kU (jG P q.2)=true then K (.own (.s d 0)) [(.s d 0, .mp p.1 p.2 (jG P q.2) [])] else K (.t .any) [(.s d 0, .dead)]
def lV{R:Type}(P:Program)(s:St)(t:TypeId)(x key v:AV)(K:aB->Option R):Option R:=
 (pE P t).bind λq=>mH P q.1 none key λag ks cs=>match x with
  | .own i=>match s.h i with
   | some (.mp a b vk es)=>if a=ag/\b=ks/\jG P q.2=vk/\kU vk=true then
     v.t?.bind λv=>eD vk none v λv=>K [(i, .mp ag ks vk (gB cs v es))] else none
   | _=>none
  | _=>none
def jI(key:List T):List (List T×T)->List (List T×T)
 | []=> []
 | p::r=>cond (dL key p.1) r (p::jI key r)
def lC{R:Type}(P:Program)(s:St)(t:TypeId)(x key:AV)(K:aB->Option R):Option R:=
 (pE P t).bind λq=>mH P q.1 none key λag ks cs=>match x with
  | .own i=>match s.h i with
   | some (.mp a b vk es)=>if a=ag/\b=ks then K [(i, .mp ag ks vk (jI cs es))] else none
   | _=>none
  | _=>none
def iH(a b:Bool)(h:Id->Option ad):AV->Option (T×aB)
 | .ref i off=>cond a (match h i with
  | some (.box cs)=>(cond b (rV h (cs.drop off)) (dJ (cs.drop off))).bind λl=>some (.ptr l,[])
  | some (.eE l)=>some (.ptr (l.drop off),[])
  | _=>none) ((dr h (.ref i off)).bind λx=>some (x,fN h (.ref i off)))
 | v=>(dr h v).bind λx=>some (x,cond a [] (fN h v))
def ku(b a:Bool)(h:Id->Option ad):List AV->Option (List T×aB)
 | []=>some ([],[])
 | v::r=>(iH b a h v).bind λp=>(ku b a h r).bind λq=>some (p.1::q.1,p.2++q.2)
def jB(e d:Bool)(h:Id->Option ad):AV->Option (AV×aB)
 | .fn f a b=>(ku e d h a).bind λx=>(ku e d h b).bind λy=>some (.fn f (x.1.map .t) (y.1.map .t),x.2++y.2)
 | .agg vs=>(ku e d h vs).bind λx=>some (.agg (x.1.map .t),x.2)
 | v=>(iH e d h v).bind λp=>some (.t p.1,p.2)
def jC(b a:Bool)(h:Id->Option ad):List AV->Option (List AV×aB)
 | []=>some ([],[])
 | v::r=>(jB b a h v).bind λp=>(jC b a h r).bind λq=>some (p.1::q.1,p.2++q.2)
def tF(P:Program):Nat->TypeId->Bool
 | 0,_=>false
 | n+1,t=>match P.underlying t with
  | some (.int _) | some .bool | some .string=>true
  | some (.struct a)=>a.toList.all λf=>tF P n f.type
  | some (.array _ e)=>tF P n e
  | _=>false
def pQ(e:Row):T:=match e.own with
 | some p=> .ab 0 p.1 p.2
 | none=> .ao
def bg(b:Bool)(es:List Row):T:= .ab 2 b (es.map λe=> [.ptr e.cs,pQ e])
def nI:Nat->List (List T)->Option (List Row)
 | _,[]=>some []
 | n,[.ptr cs, .ab _ b xs]::r=>(nI (n+1) r).bind λl=>some (⟨n,cs,some (b,xs)⟩::l)
 | _,_=>none
def aP:T->Option (Bool×List Row)
 | .ab _ b xs=>(nI 0 xs).bind λl=>some (b,l)
 | _=>none
def bc(es:List Row):Bool:=es.all λe=>e.own.isSome
def Cf:ch->Bool
 | .rows _ _ _=>true
 | _=>false
def aC(es:List (List T×T)):T:= .ab 2 false (es.map λp=> [.ptr p.1,p.2])
def qC:List (List T)->Option (List (List T×T))
 | []=>some []
 | [.ptr k,v]::r=>(qC r).bind λl=>some ((k,v)::l)
 | _=>none
def aN:T->Option (List (List T×T))
 | .ab _ _ xs=>qC xs
 | _=>none
def kB{R:Type}(ids:List Id)(d:Nat)(c:Option Bool)(j:Nat)(r:ch)(x:T)(K:AV->aB->Nat->Option R):Option R:=
 match r with
 | .f k=>eD k c x λx=>K (.t x) [] j
 | .t k=>eD k c x λx=>K (.t x) [] j
 | .own sz=>match c with
  | none=>aa none (x.ak sz) λp=>K (.own (.s d j)) [(.s d j, .sl false sz p.1 p.2)] (j+1)
  | some _=>none
 | .ref k off=>match ids[k]? with
  | some i=>K (.ref i off) [] j
  | none=>none
 | .same k=>match ids[k]? with
  | some i=>K (.own i) [] j
  | none=>none
 | .rows sz col rsz=>match c with
  | none=>aa none (aP x) λp=>K (.own (.s d j)) [(.s d j, .rows p.1 sz col rsz p.2.length p.2)] (j+1)
  | some _=>none
 | .mp ag ks vk=>match c with
  | none=>aa none (aN x) λes=>K (.own (.s d j)) [(.s d j, .mp ag ks vk es)] (j+1)
  | some _=>none
 | .no=>K .top [] j
 | .agg _=>none
 | .new _=>none
def iL{R:Type}(ids:List Id)(d:Nat)(c:Option Bool):Nat->List ch->List T->(List AV->aB->Nat->Option R)->Option R
 | j,[],_,K=>K [] [] j
 | j,r::rs,xs,K=>aa c xs.head? λx=>kB ids d c j r x λv u j=>iL ids d c j rs xs.tail λvs us j=>K (v::vs) (u++us) j
def ch.size:ch->Nat
 | .agg l=>l.length
 | .new l=>l.length
 | _=>1
def dF{R:Type}(ids:List Id)(d:Nat)(c:Option Bool):Nat->List ch->List T->(List AV->aB->Nat->Option R)->Option R
 | j,[],_,K=>K [] [] j
 | j,r::rs,xs,K=>match r with
  | .agg l=>iL ids d c j l xs λv u j=>dF ids d c j rs (xs.drop l.length) λvs us j=>K (AV.agg v::vs) (u++us) j
  | .new l=>match c with
   | none=>iL ids d c j l xs λv u j=>dF ids d c (j+1) rs (xs.drop l.length) λvs us a=>K (AV.ref (.s d j) 0::vs) (u++ [(.s d j, .box v)] ++us) a
   | some _=>none
  | r=>aa c xs.head? λx=>kB ids d c j r x λv u j=>dF ids d c j rs xs.tail λvs us j=>K (v::vs) (u++us) j
def kV:List ch->Nat
 | []=>0
 | r::rs=>r.size+kV rs
def fe{R:Type}(all:List Id)(d:Nat):Nat->List Id->List iC->List T->(aB->Option R)->Option R
 | j,i::a, .box l::r,xs,K=>iL all d none j l xs λv u j=>fe all d j a r (xs.drop l.length) λq=>K (u++ (i, .box v)::q)
 | j,i::a, .sl sz::r,xs,K=>aa none (xs.head?.bind (T.ak sz)) λp=>fe all d j a r xs.tail λq=>K ((i, .sl false sz p.1 p.2)::q)
 | j,i::a, .mp ag ks vk::r,xs,K=>aa none (xs.head?.bind aN) λes=>fe all d j a r xs.tail λq=>K ((i, .mp ag ks vk es)::q)
 | j,_::a, .dead::r,xs,K=>fe all d j a r xs K
 | _,[],[],_,K=>K []
 | _,_,_,_,_=>none
def jR:List AV->AV
 | [v]=>v
 | vs=> .kc vs
def F3(P:Program)(t:TypeId):ch:=cond (bI P t) (.agg ((qp P t).map λk=>cond (tF P 8 t) (.f k) (.t k))) (cond (tF P 8 t) (.f (jG P t)) (.t (jG P t)))
def pk:ch->Bool
 | .f _=>true
 | .agg l=>l.all λr=>match r with
  | .f _=>true
  | _=>false
 | _=>false
def cZ(P:Program)(A:cC)(f:FuncId)(n:Nat)(fn:Func):List ch:=
 match A.gu f with
 | some _=>(A.vJ f n).res
 | none=>match A.sig f with
  | some a=>a.res
  | none=>fn.resultTypes.toList.map (F3 P)
def fP(A:cC)(f:FuncId)(n:Nat):List iC:=
 match A.gu f with
 | some _=>(A.vJ f n).outs
 | none=> []
def KP:AV->Bool
 | .own _=>true
 | .part _ _ _ _=>true
 | _=>false
def fM:Option ad->Nat
 | some (.box cs)=>cs.length+1000 * (cs.filter KP).length
 | _=>0
def cD(c:Option Bool)(m:Option (List T)):Option (List T):=
 match c with
 | none=>m
 | some b=>cond b m (some [])
def kZ{R:Type}(P:Program)(c:Option Bool)(t:TypeId)(v:AV)(K:AV->Option R):Option R:=
 match v with
 | .t x=>eD (jG P t) c x λy=>K (.t y)
 | .agg vs=>match dJ vs with
  | some l=>ef c (qp P t) l λl=>K (.agg (l.map .t))
  | none=>K (.agg vs)
 | v=>K v
def hJ{R:Type}(P:Program)(c:Option Bool):List TypeId->List AV->(List AV->Option R)->Option R
 | [],vs,K=>K vs
 | _::_,[],K=>K []
 | t::ts,v::vs,K=>kZ P c t v λu=>hJ P c ts vs λus=>K (u::us)
def vK:List Bool->List AV->List Id
 | b::a,v::vs=>cond b v.ids [] ++vK a vs
 | _,_=> []
def qt(h:Id->Option ad)(dH:List Id)(b:Bool)(v:AV):Option (AV×aB):=
 cond (b || (!v.ids.isEmpty && v.ids.all dH.contains)) (some (v,[])) (jB false false h v)
def kv(h:Id->Option ad)(dH:List Id):List Bool->List AV->Option (List AV×aB)
 | _,[]=>some ([],[])
 | a,v::r=>(qt h dH (a.headD false) v).bind λp=>(kv h dH a.tail r).bind λq=>some (p.1::q.1,p.2++q.2)
def K0(sz col rsz:Nat):Nat:=100000+1000 * sz+100 * col+rsz
def pO(h:Id->Option ad)(new i:Id)(k sz col rsz:Nat):Option aB:=
 match h i with
 | some (.box cs)=>match cs[k]? with
  | some (.own _)=>some []
  | some (.t (.ae b))=>cond (h new).isNone (some [(new, .rows b sz col rsz 0 []),(i, .box (cs.set k (.own new)))]) none
  | some (.t (.ab _ true []))=>cond (h new).isNone (some [(new, .rows true sz col rsz 0 []),(i, .box (cs.set k (.own new)))]) none
  | _=>none
 | _=>none
def mS(h:Id->Option ad)(new i:Id)(k sz:Nat):Option aB:=
 cond (Nat.ble 100000 sz) (pO h new i k (sz % 100000 / 1000) (sz % 1000 / 100) (sz % 100)) <|
 match h i with
 | some (.box cs)=>match cs[k]? with
  | some (.own _)=>some []
  | some (.t (.ae b))=>cond (h new).isNone (some [(new, .sl false sz b []),(i, .box (cs.set k (.own new)))]) none
  | some (.t (.ab _ true []))=>cond (h new).isNone (some [(new, .sl false sz true []),(i, .box (cs.set k (.own new)))]) none
  | some (.part j d 0 n)=>match h j with
   | some (.sl false a b xs)=>if a=sz/\d=sz/\j≠i then cond (h new).isNone (some [(j, .dead),(new, .sl false sz b (xs.take n)),(i, .box (cs.set k (.own new)))]) none else none
   | _=>none
  | _=>none
 | _=>none
def iS(nm:Nat):Nat->(Id->Option ad)->List (Id×Nat×Nat)->Option aB
 | _,_,[]=>some []
 | j,h,(i,k,sz)::r=>(mS h (.s nm j) i k sz).bind λus=>(iS nm (j+1) (aK h us) r).bind λvs=>some (us++vs)
def nJ:List Id->List Id->List Id
 | [],_=> []
 | i::r,seen=>cond (seen.contains i) (nJ r seen) (i::nJ r (i::seen))
def lY(i:Id):Nat->List ch->List (Id×Nat×Nat)
 | _,[]=> []
 | k, .own sz::r=>(i,k,sz)::lY i (k+1) r
 | k, .rows sz col rsz::r=>(i,k,K0 sz col rsz)::lY i (k+1) r
 | k,_::r=>lY i (k+1) r
def lZ:List Id->List iC->List (Id×Nat×Nat)
 | i::a, .box l::r=>lY i 0 l++lZ a r
 | _::a,_::r=>lZ a r
 | _,_=> []
def iK(l:List Id):aB:=l.map λi=>(i, .dead)
def uv(d:Nat)(l:List Id):Bool:=l.all λi=>match i with
 | .s a _=> !(a==d)
 | .c _=>true
 | .g _ _=>false
def fA{R:Type}(P:Program)(A:cC)(O:aq)(s:St)(d:Nat)(c:Option Bool)(f:FuncId)(args:List AV)(K:AV->aB->Option R):Option R:=
 match P.funcs[f]? with
 | none=>none
 | some fn=>
  match A.gu f with
  | none=>(jC ((cZ P A f 0 fn).all pk) (A.deep f) s.h args).bind λp=>
   hJ P c fn.params.toList p.1 λq=>aa none (cD c (O (.call f) q [])) λxs=>dF [] d c 0 (cZ P A f 0 fn) xs λvs u _=>K (jR vs) (p.2++u)
  | some a=>match c with
   | some _=>none
   | none=>(kv s.h (vK a args) a args).bind λp=>
    (iS (2000000+d) 0 (aK s.h p.2) (lZ (nJ (cf p.1) []) (fP A f (fM ((cf p.1).head?.bind (aK s.h p.2)))))).bind λus=>
    (eA (aK (aK s.h p.2) us) 1000 (cf p.1) []).bind λseen=>
    cond (uv d seen && Nat.beq (fM (seen.map λi=>fQ seen (aK (aK s.h p.2) us i)).head?) (fM ((cf p.1).head?.bind (aK s.h p.2)))) (hJ P none fn.params.toList (iW seen p.1) λq=>
     aa none (O (.call f) q (seen.map λi=>fQ seen (aK (aK s.h p.2) us i))) λxs=>
     dF seen d none 0 (cZ P A f (fM ((cf p.1).head?.bind (aK s.h p.2))) fn) xs λvs u j=>
     fe seen d j seen (fP A f (fM ((cf p.1).head?.bind (aK s.h p.2)))) (xs.drop (kV (cZ P A f (fM ((cf p.1).head?.bind (aK s.h p.2))) fn))) λq=>
     K (jR vs) (p.2++us++iK seen++u++q)) none
def gF:List AV->Option (List AV×Id×Nat×List AV)
 | []=>none
 | .row i n::r=>some ([],i,n,r)
 | v::r=>(gF r).bind λq=>some (v::q.1,q.2.1,q.2.2.1,q.2.2.2)
def pF(n:Nat):List Row->Option Unit
 | []=>none
 | e::r=>if e.n=n then(match e.own with | none=>some () | some _=>none) else pF n r
def qv{R:Type}(h:Id->Option ad)(i new:Id)(n rsz:Nat)(K:aB->Option R):Option R:=
 match h i,h new with
 | some (.rows b sz col d f es),some (.sl false a e xs)=>if d=rsz/\a=rsz then
   aa none (pF n es) λ_=>K [(i, .rows b sz col rsz f (cR n (some (e,xs)) es)),(new, .dead)] else none
 | _,_=>none
def Cz:Operand->Bool
 | .func _=>false
 | _=>true
def iq{R:Type}(fO:Bool)(P:Program)(A:cC)(O:aq)(s:St)(d:Nat)(c:Option Bool)(f:FuncId)(args:List AV)(K:AV->aB->Option R):Option R:=
 match cond fO (gF args) none with
 | none=>fA P A O s d c f args K
 | some (g,i,n,j)=>match c,s.h i with
  | none,some (.rows b sz col rsz a es)=>aa none (cA n es) λp=>
    cond (s.h (.s (2500000+d) 0)).isNone
     (fA P A O {t:=s.t,h:=aK s.h [(i, .rows b sz col rsz a (cR n none es)),(.s (2500000+d) 0, .sl false rsz p.1 p.2)]} d none f (g++ .own (.s (2500000+d) 0)::j) λv us=>
      qv (aK s.h ([(i, .rows b sz col rsz a (cR n none es)),(.s (2500000+d) 0, .sl false rsz p.1 p.2)] ++us)) i (.s (2500000+d) 0) n rsz λe=>
       K v ([(i, .rows b sz col rsz a (cR n none es)),(.s (2500000+d) 0, .sl false rsz p.1 p.2)] ++us++e)) none
  | _,_=>none
theorem FN{R:Type}(P:Program)(A:cC)(O:aq)(s:St)(d:Nat)(c:Option Bool)(f:FuncId)(args:List AV)(K:AV->aB->Option R):iq false P A O s d c f args K=fA P A O s d c f args K:=rfl
def l0{R:Type}(P:Program)(s:St)(e:TypeId)(d:Nat)(c:Option Bool)(v:AV)(K:AV->aB->Option R):Option R:=
 match c,v with
 | none, .agg vs=>match gF vs with
  | some (a,i,n,f)=>match s.h i with
   | some (.rows b sz col rsz g es)=>aa none (cA n es) λp=>
     (dJ (a++ .t (.ab rsz p.1 p.2)::f)).bind λl=>if l.length=P.cellsOf e/\P.cellsOf e<=1000/\0 < P.cellsOf e/\(gG P e).isSome=true then
      K (.own (.s d 0)) [(i, .rows b sz col rsz g (cR n none es)),(.s d 1, .sl true rsz p.1 p.2),(.s d 0, .sl false (P.cellsOf e) false [l])] else none
   | _=>none
  | none=>none
 | _,_=>none
def tK(c:Option Bool)(b:Bool):Option Bool:=some (match c with
 | none=>b
 | some a=>a && b)
def mF{R:Type}(c:Option Bool)(v:AV)(K:Int->Option R):Option R:=
 v.t?.bind λx=>aa c (gS.anyInt x) K
def kG:AV->AV
 | .t (.cB f)=> .fn f [] []
 | v=>v
def gQ{R:Type}(P:Program)(A:cC)(O:aq)(g:Option Gs)(o:Oper)(s:St)(K:AV->aB->Option R):Option R:=
 let ev:=s.get g;let c:=g.map (·.c);let d:=o.dst.getD 0
 match o.op with
 | .move x | .assign x=>K (ev x) []
 | .pick k a b=>(ev k).t?.bind λI=>aa c I.bool? λkb=>
   (s.kI g k true a).t?.bind λx=>aa (tK c kb) x.bool? λJ=>
   (s.kI g k false b).t?.bind λy=>aa (tK c (!kb)) y.bool? λL=>K (AV.t (.bool (cond kb J L))) []
 | .alloc t=>match c with
  | some _=>none
  | none=>(gG P t).bind λl=>K (.ref (.s d 0) 0) [(.s d 0, .box (l.map .t))]
 | .box _ x=>match c with
  | some _=>none
  | none=>if(fB (ev x)).all nG then K (.ref (.s d 0) 0) [(.s d 0, .box (fB (ev x)))] else none
 | .build t j=>(sT P t ev j.toList).bind λv=>K v []
 | .buildSlice t n j=>(lE P t).bind λe=>if A.jM o.dst o.type=1 then
   (match c,j.toList,n with
   | none,[(0,x)],1=>if((fB (ev x)).length=P.cellsOf e/\(fB (ev x)).all nG=true)/\P.cellsOf e<=1000/\0 < P.cellsOf e/\(gG P e).isSome=true then K (.own (.s d 0)) [(.s d 0, .arr (fB (ev x)))] else none
   | _,_,_=>none)
   else if A.jM o.dst o.type=5 then(match j.toList,n with
   | [(0,x)],1=>l0 P s e d c (ev x) K
   | _,_=>none)
   else if j.size=n/\n<=1000/\P.cellsOf e<=1000/\0 < P.cellsOf e/\(gG P e).isSome=true then
   if n=0/\A.app o.dst=true then K (.t (.ae false)) [] else
   (gv P s.h e ev 0 j.toList).bind λq=>
   match c with
   | some _=>K (.t (.ab (P.cellsOf e) false q.1)) q.2
   | none=>K (.own (.s d 0)) ((.s d 0, .sl false (P.cellsOf e) false q.1)::q.2)
   else none
 | .load t a=>fG P s c t (ev a) λv=>K v []
 | .store t a x=>match c with
  | some _=>none
  | none=>hI P s t (ev a) (ev x) λu=>K .top u
 | .nilCheck x=>match ev x with
  | .ref i k=>K (.ref i k) []
  | .el i sz k o=>K (.el i sz k o) []
  | .rel i sz n k o=>K (.rel i sz n k o) []
  | .t y=>aa c y.oe λcs=>K (.t (.ptr cs)) []
  | .fn f a b=>K (.fn f a b) []
  | _=>none
 | .binOp op t x y ty=>match op,mN P t y,mN P t x with
  | .eql,true,_=>(iw P s t (ev x)).bind λb=>K (.t (.bool b)) []
  | .neq,true,_=>(iw P s t (ev x)).bind λb=>K (.t (.bool (!b))) []
  | .eql,_,true=>(iw P s t (ev y)).bind λb=>K (.t (.bool b)) []
  | .neq,_,true=>(iw P s t (ev y)).bind λb=>K (.t (.bool (!b))) []
  | .eql,_,_=>nN P c t (ev x) (ev y) λb=>K (.t (.bool b)) []
  | .neq,_,_=>nN P c t (ev x) (ev y) λb=>K (.t (.bool (!b))) []
  | op,_,_=>(ev x).t?.bind λa=>(ev y).t?.bind λb=>oP P op t ty c a b λz=>K (.t z) []
 | .unOp op t x=>(ev x).t?.bind λa=>p9 P op t c a λz=>K (.t z) []
 | .convert src B x=>match P.underlying src,P.underlying B with
  | some (.slice e),some .string=>match pw P e with
   | some .u8=>(dr s.h (ev x)).bind λy=>aa c ((y.ak 1).bind λp=>bytesOf p.2) λl=>K (.t (.str ⟨l.toArray⟩)) []
   | _=>none
  | _,_=>(ev x).t?.bind λa=>oU P c src B a λz=>K (.t z) []
 | .makeFunc (.func f) H C=>K (.fn f (H.toList.map ev) (C.toList.map ev)) []
 | .makeSlice t l m=>match c with
  | some _=>none
  | none=>(ev l).t?.bind λn=>(ev m).t?.bind λk=>pC P d t (A.jM o.dst o.type) n k K
 | .makeMap t m=>match c,m with
  | none,none=>pD P d t K
  | _,_=>none
 | .lookup t x k ok=>lP P s c t (ev x) (ev k) ok λv=>K v []
 | .mapUpdate t x k v=>match c with
  | some _=>none
  | none=>lV P s t (ev x) (ev k) (ev v) λu=>K .top u
 | .slice t x E D F=>
  gS s c g E λE=>gS s c g D λD=>gS s c g F λF=>l6 P s c t (ev x) E D F λv=>K v []
 | .fieldAddr t x f=>ph P c t (ev x) f λv=>K v []
 | .field t x f=>pg P t (ev x) f λv=>K v []
 | .indexAddr t x i=>mF c (ev i) λn=>iv P s c t (ev x) n λv=>K v []
 | .index t x i=>mF c (ev i) λn=>match P.underlying t with
  | some .string=>(ev x).t?.bind λy=>aa c y.bh λb=>iQ c n b.size
    (aa c b.data.toList[n.toNat]? λu=>K (.t (.int .u8 u.toNat)) [])
  | some (.array m e)=>match ev x with
   | .agg vs=>cond (cb P e) ((dJ vs).bind λl=>iQ c n m (jn P e c (l.drop (n.toNat * P.cellsOf e)) λz=>K z [])) none
   | _=>none
  | _=>none
 | .extract x k=>match ev x with
  | .kc vs=>(vs[k]?).bind λv=>K v []
  | _=>none
 | .call cl=>match cl.callee with
  | .builtin .len=>match cl.args.toList,cl.argTypes.toList with
   | [x],t::_=>lO P s c t (ev x) λv=>K v []
   | _,_=>none
  | .builtin .append=>match c,cl.args.toList,cl.argTypes.toList with
   | none,[x,y],[t,u]=>jf P s d (A.jM o.dst o.type==3) t u (ev x) (ev y) K
   | _,_,_=>none
  | .builtin .max=>match pw P o.type with
   | some k=>(dJ (cl.args.toList.map ev)).bind λl=>match l with
    | x::r=>aa c (x.int? k) λa=>mL k c true a r λz=>K (.t z) []
    | []=>none
   | none=>none
  | .builtin .min=>match pw P o.type with
   | some k=>(dJ (cl.args.toList.map ev)).bind λl=>match l with
    | x::r=>aa c (x.int? k) λa=>mL k c false a r λz=>K (.t z) []
    | []=>none
   | none=>none
  | .builtin .delete=>match c,cl.args.toList,cl.argTypes.toList with
   | none,[x,y],t::_=>lC P s t (ev x) (ev y) λu=>K (.kc []) u
   | _,_,_=>none
  | .builtin .cap=>match cl.args.toList,cl.argTypes.toList with
   | [x],t::_=>match P.underlying t with
    | some (.slice _)=>match ev x with
     | .t y=>cond (tR y) (K (.t (.int .i64 0)) []) none
     | _=>none
    | _=>none
   | _,_=>none
  | .value G=>match kG (ev G) with
   | .fn f a b=>iq (Cz G) P A O s d c f (a++cl.args.toList.map ev++b) K
   | _=>none
  | _=>none
 | _=>none
open Go
section
variable (P:Program) (A:cC) (O:aq)
def sY(b want:Bool):Bool:=cond want b (!b)
def gC(g:Option Gs)(b want:Bool):Bool:=
 match g with
 | none=>sY b want
 | some a=>cond a.c (sY b want) false
def cX{R:Type}(a:Array Oper)(o:Oper)(s:St)(K:Option Gs->Option R):Option R:=
 match o.guard with
 | none=>K none
 | some (j,want)=>match(a[j]?).bind (·.dst) with
  | none=>none
  | some d=>(s.t d).2.t?.bind λx=>aa ((s.t d).1.map (·.c)) x.bool? λb=>
    K (some {d:=d,want:=want,c:=gC (s.t d).1 b want})
def IT:Builtin->Bool
 | .delete=>true
 | _=>false
def aJ(o:Oper):Bool:=
 match o.op with
 | .store .. =>true
 | .mapUpdate .. =>true
 | .call cl=>match cl.callee with
  | .builtin .append=>match cl.args.toList with
   | .const (.slice none 0 0)::_=>false
   | _=> !A.app o.dst
  | .builtin b=>IT b
  | .value (.func f)=>match A.gu f with
   | some _=>true
   | none=>match P.funcs[f]? with
    | some _=>A.wr f
    | none=>true
  | .value _=> !A.vN o.dst
  | _=>true
 | .buildSlice .. =>A.jM o.dst o.type==6
 | _=>false
def Iy(o:Oper):Bool:=
 match o.op with
 | .call cl=>match cl.callee with
  | .value (.func f)=>match P.funcs[f]? with
   | some fn=>(cZ P A f 0 fn).all pk
   | none=>false
  | _=>false
 | _=>false
def eF(o:Oper):Bool:=
 match o.op with
 | .move _ | .assign _ | .pick .. | .build .. | .unOp .. | .makeFunc .. | .fieldAddr .. | .field .. | .extract .. | .nilCheck _=>true
 | .binOp _ t x y _=> !(mN P t x || mN P t y)
 | .call cl=>match cl.callee with
  | .builtin .max | .builtin .min=>true
  | _=>false
 | _=>false
def dM(o:Oper):Bool:=
 match o.op with
 | .call cl=>match cl.callee with
  | .value (.func f)=>A.deep f
  | .value _=>true
  | .builtin .append=>A.jM o.dst o.type==3
  | _=>false
 | _=>false
def lW(o:Oper):Bool:=eF P o ||
 match o.op with
 | .load .. | .index .. | .indexAddr .. | .slice .. | .binOp .. | .convert .. | .lookup .. =>true
 | .call cl=>match cl.callee with
  | .builtin .len=>true
  | .value (.func _)=> !aJ P A o && Iy P A o
  | _=>false
 | _=>false
def gU(o:Oper):Bool:=
 match o.op with
 | .alloc _ | .box .. | .makeSlice .. | .makeMap .. =>true
 | _=>false
def dP(o:Oper):Bool:=
 match o.op with
 | .call cl=>match cl.callee with
  | .value (.func f)=>(A.gu f).isSome
  | .value _=> !A.vN o.dst
  | _=>false
 | _=>false
def oT(a b:Oper):Bool:= !((aJ P A a && !(eF P b || gU b)) || (aJ P A b && !(eF P a || gU a))) && (!dM A a || lW P A b) && (!dM A b || lW P A a)
def fD:List Oper->List Nat
 | []=> []
 | o::r=>match o.dst with
  | some d=>d::fD r
  | none=>fD r
def uL(d:Array Oper):Nat->Nat->Nat
 | 0,a=>a
 | n+1,a=>match d.find? (λo=>o.dst==some a) with
  | some o=>match o.op with
   | .fieldAddr _ (.tmp b) _=>uL d n b
   | .nilCheck (.tmp b)=>uL d n b
   | .move (.tmp b)=>uL d n b
   | _=>a
  | none=>a
def pM(b:Array Oper)(a:Nat):Nat:=uL b 6 a
def ft(b:Array Oper)(o:Oper):Option Nat:=match o.guard,o.op with
 | none, .store _ (.tmp a) _=>some (pM b a)
 | none, .load _ (.tmp a)=>some (pM b a)
 | _,_=>none
def _root_.Go.Aev.cC.stM(A:cC)(a:Array Oper):Bool:=A.st ((a[0]?).bind (·.dst)) && A.Ev ((a[0]?).bind (·.dst)) (((a[0]?).map (·.type)).getD 0)
def iY(d:Array Oper)(a b:Oper):Bool:=A.stM d && (match ft d a,ft d b with
 | some k,some e=> !(k==e) && !(fD d.toList).contains k && !(fD d.toList).contains e
 | _,_=>false)
def yY(o:Oper):Bool:=o.guard.isNone && aJ P A o && match o.op with
 | .call cl=>match cl.callee with
  | .builtin .append=> !(A.jM o.dst o.type==3)
  | .value (.func f)=>(A.gu f).isNone && !A.deep f
  | _=>false
 | .buildSlice .. =>true
 | .store _ (.tmp _) _=>true
 | _=>false
def IV(o:Oper):Bool:=match o.op with
 | .store .. =>true
 | _=>false
def gY(b:Array Oper)(o:Oper):Option (Option Nat):=match o.guard,o.op with
 | none, .load _ (.tmp a)=>some (some (pM b a))
 | none, .buildSlice .. =>some none
 | _,_=>none
def gW(d:Array Oper)(a b:Oper):Bool:=A.ld ((d[0]?).bind (·.dst)) && (!aJ P A b && yY P A a && (A.stM d || !IV a)) && (match gY d b with
 | some (some k)=> !(fD d.toList).contains k
 | some none=>true
 | none=>false)
def ix(o:Oper)(k:Bool):Bool:=match o.guard,o.op with
 | none, .store t (.tmp _) _=>(match P.underlying t with
  | some (.slice _)=>k
  | some (.int _)=> !k
  | _=>false)
 | _,_=>false
def jW(d:Array Oper)(a b:Oper):Bool:=A.sx ((d[0]?).bind (·.dst)) && ix P a true && ix P b false
def ka:aB->Bool
 | [(_, .dead),(_, .rows _ _ _ rsz _ _)]=> !(rsz==1)
 | _=>false
def kb:aB->Bool
 | [(_, .sl false sz _ _)]=>sz==1
 | _=>false
def vF(o:Oper)(s:St):Bool:=match o.op with
 | .store _ _ y=>(s.get none y).ids.isEmpty
 | _=>false
def tQ(o:Oper):Bool:=match o.guard,o.op with
 | none, .indexAddr t (.tmp _) _=>(match lE P t with
  | some e=>P.cellsOf e==1
  | none=>false)
 | none, .load _ (.tmp _)=>true
 | _,_=>false
def rD(o:Oper)(s:St):Bool:=match o.op with
 | .load _ x=>(match s.get none x with
  | .ref _ _=>true
  | _=>false)
 | .indexAddr _ x _=>(match s.get none x with
  | .own _=>true
  | _=>false)
 | _=>false
def jy(d:Array Oper)(a b:Oper):Bool:=A.sx ((d[0]?).bind (·.dst)) && (ix P a true || ix P a false) && tQ P b
def mG(o:Oper):Bool:=match o.guard,o.op with
 | none, .load _ (.tmp _)=>true
 | none, .indexAddr _ (.tmp _) _=>true
 | _,_=>false
def pZ(a b:Oper):Bool:=((A.oS a.dst a.type && A.tY b.dst b.type) || A.tX b.dst b.type) && mG b
def pY(d:Array Oper)(a b:Oper):Bool:=iY A d a b || gW P A d a b || gW P A d b a || (jW P A d a b || jW P A d b a) || (jy P A d a b || jy P A d b a) || (pZ A a b || pZ A b a)
def fU(a:Array Oper):Nat->Nat->Nat->Bool
 | 0,_,_=>false
 | n+1,j,i=>match a[j]? with
  | none=>false
  | some b=>b.after.any λe=>Region.binds .any e && (e.on==i || (Nat.blt i e.on && fU a n e.on i))
def w7(a:Array Oper)(listed:Array Bool)(i:Nat):Bool:=
 match a[i]? with
 | none=>false
 | some b=>(List.range a.size).all λj=>match a[j]? with
  | none=>true
  | some d=>j==i || listed.getD j true || oT P A b d || pY P A a b d || fU a 12 j i
def tZ(b:Array Oper):Nat->Nat->Array Bool->Bool
 | 0,_,_=>true
 | n+1,k,a=>w7 P A b a k && tZ b n (k+1) (a.setIfInBounds k true)
def ID(h:Id->Option ad)(us:aB):Bool:=us.all λp=>(h p.1).isNone
def gx(d:Nat)(h:Id->Option ad)(us:aB):Bool:=us.all λp=>match p.1 with
 | .s a _=> !(a==d) || (h p.1).isNone
 | .c _=>true
 | .g _ _=>false
def dw(a:Array Oper)(d:Option Nat):Bool:=
 a.any λo=>match o.guard with
  | none=>false
  | some (j,_)=>match(a[j]?).bind (·.dst),d with
   | some e,some d=>e==d
   | _,_=>false
def oR(a:Array Oper)(o:Oper)(d:Nat):Bool:=
 (List.range a.size).all λi=>match a[i]? with
  | some b=> !(b.dst==some d) || o.after.any (λe=>Region.binds .any e && (e.on==i || fU a 12 e.on i))
  | none=>true
def mM(a:Array Oper)(g:Option Gs)(o:Oper)(s:St):Bool:=
 o.op.operands.toList.all λx=>(s.get g x).ids.all λi=>match i with
  | .s d _=>oR a o d
  | .c _=>true
  | .g _ _=>false
def jq(o:Oper)(us:aB):Bool:=us.all λp=>match p.1 with
 | .s d _=>o.dst==some d
 | .c _=>false
 | .g _ _=>false
def qc(a:Array Oper)(o:Oper)(us:aB):Bool:=us.all λp=>match p.1 with
 | .s d _=>oR a o d || o.dst==some d
 | .c _=>true
 | .g _ _=>false
def yz(a:Array Oper)(o d:Oper)(s:St)(us:aB):Bool:=match ft a o,ft a d with
 | some k,some b=>(o.op.operands.toList.all λx=>(s.get none x).ids.all λi=>decide (i∈(s.t k).2.ids)) && us.all (λp=>decide (p.1∈(s.t k).2.ids)) && us.all (λp=>decide (p.1∉(s.t b).2.ids))
 | _,_=>false
def tW(a:Array Oper)(b:Oper)(s:St)(us:aB):Bool:=match gY a b with
 | some (some k)=>us.all λp=>decide (p.1∉(s.t k).2.ids)
 | _=>true
def rm(a:Array Oper)(o:Oper)(s:St):Bool:=match gY a o with
 | some (some k)=>o.op.operands.toList.all λx=>(s.get none x).ids.all λi=>decide (i∈(s.t k).2.ids)
 | some none=>o.op.operands.toList.all λx=>(s.get none x).ids.isEmpty
 | none=>true
def iZ(a:Array Oper)(o:Oper)(s:St)(us:aB):Bool:=a.all λb=>(!(iY A a o b) || yz a o b s us) && (!(gW P A a o b) || tW a b s us) && (!(gW P A a b o) || rm a o s) && ((!(jW P A a o b) || ka us) && (!(jW P A a b o) || (kb us && vF o s))) && ((!(jy P A a o b) || ka us || kb us) && (!(jy P A a b o) || rD o s))
def qO:AV->Bool
 | .ref _ _=>true
 | .t (.int _ _)=>true
 | _=>false
def Ce:AV->Bool
 | .ref _ _=>true
 | _=>false
def oO(o:Oper)(s:St):Bool:=o.op.operands.toList.all λx=>(s.get none x).ids.isEmpty
def mJ(o:Oper)(s:St)(v:AV):Bool:=(!(A.tX o.dst o.type && mG o) || oO o s) && (!(A.tY o.dst o.type && mG o) || oO o s || (match o.op with
 | .load _ x=>Ce (s.get none x) && qO v
 | _=>false))
def qS:AV->AV->Option (Option (Int×Int))
 | .ref i o, .ref j p=>cond (decide (i=j/\o=p)) (some none) none
 | .ref _ _,_=>none
 | _, .ref _ _=>none
 | .t (.int k a), .t (.int d b)=>cond (decide (k=d)) (some (some (a,b))) none
 | .t (.int _ _),_=>none
 | _, .t (.int _ _)=>none
 | _,_=>some none
def qV{R:Type}:List AV->List AV->Option R->Option R
 | [],[],K=>K
 | c::r,c'::a,K=>match qS c c' with
  | none=>none
  | some none=>qV r a K
  | some (some p)=>aa none (if p.1=p.2 then some () else none) λ_=>qV r a K
 | _,_,_=>none
def qT:Option ad->Option ad->Option (Option (List AV×List AV))
 | some (.box cs),some (.box a)=>some (some (cs,a))
 | some (.box _),_=>none
 | _,some (.box _)=>none
 | some (.eE _),_=>none
 | _,some (.eE _)=>none
 | _,_=>some none
def qW{R:Type}(h h':Id->Option ad):aB->Option R->Option R
 | [],K=>K
 | p::us,K=>match qT (h p.1) (h' p.1) with
  | none=>none
  | some none=>qW h h' us K
  | some (some q)=>qV q.1 q.2 (qW h h' us K)
def xo{R:Type}(a:Bool)(o:Oper)(h:Id->Option ad)(us:aB)(K:Option R):Option R:=cond (a && A.oS o.dst o.type) (qW h (aK h us) us K) K
def lT(b:Bool)(nt:Nat)(a:Array Oper)(o:Oper)(g:Option Gs)(s:St)(v:AV)(us:aB):Bool:=
 (match o.dst with | some d=>decide (d < nt) | none=>true) &&
 (match g with | some g=>us.isEmpty && !(o.dst==some g.d) | none=>true) &&
 gx (o.dst.getD 0) s.h us && (!b || (mM a g o s && (aJ P A o || jq o us) && (!eF P o || us.isEmpty) && (!lW P A o || us.isEmpty) && (!aJ P A o || qc a o us) && Nat.ble nt 1000000 && iZ P A a o s us && mJ A o s v))
def ou(a:Bool)(o:Oper)(g:Option Gs):Option Gs:=
 match g with
 | some g=>cond (!a && dP A o) (some g) none
 | none=>none
def td(nt:Nat)(o:Oper)(g:Gs):Bool:=(match o.dst with | some d=>decide (d < nt) | none=>true) && !(o.dst==some g.d)
def KH(o:Oper):AV:=
 match o.op with
 | .call cl=>match cl.callee with
  | .value (.func f)=>match P.funcs[f]? with
   | some fn=>match cZ P A f 0 fn with
    | [.f .b]=> .t (.bool false)
    | [.f (.i k)]=> .t (.int k 0)
    | _=> .top
   | none=> .top
  | _=>match P.underlying o.type with
   | some .bool=> .t (.bool false)
   | some (.int k)=> .t (.int k 0)
   | _=> .top
 | _=> .top
def mR{R:Type}(b:Bool)(nt:Nat)(a:Array Oper)(o:Oper)(s:St)(K:St->Option R):Option R:=
 cX a o s λg=>match ou A b o g with
 | some d=>cond (td nt o d) (cond d.c
   (gQ P A O none o (s.pH d) λv us=>
    if lT P A b nt a o none s v us then K (s.put (dw a o.dst) o.dst (some d) v us) else none)
   (K (s.put (dw a o.dst) o.dst (some d) (KH P A o) []))) none
 | none=>gQ P A O g o s λv us=>
  xo A b o s.h us (if lT P A b nt a o g s v us then K (s.put (dw a o.dst) o.dst g v us) else none)
def rN{R:Type}(a:Bool)(nt:Nat)(b:Array Oper):List Oper->St->(St->Option R)->Option R
 | [],s,K=>K s
 | o::r,s,K=>mR P A O a nt b o s λs'=>rN a nt b r s' K
def St.clear(s:St):St:=
 {t :=λk=>match s.t k with
    | (none,v)=>(none,v)
    | (some _,_)=>(none, .top)
  h:=s.h}
def rv:List Nat->Bool
 | []=>true
 | d::r=> !r.contains d && rv r
def pr(a:Array Oper):Bool:=a.all λo=>match o.guard with
 | none=>true
 | some (j,_)=>o.after.any λe=>Region.binds .any e && e.on==j
def xW(b:Bool)(a:Array Oper):Bool:=
 !b || (Region.lexB .any a && tZ P A a a.size 0 (Array.replicate a.size false) && rv (fD a.toList) && pr a)
def region{R:Type}(nt:Nat)(a:Bool)(b:Array Oper)(s:St)(K:St->Option R):Option R:=
 cond (xW P A a b)
  (rN P A O a nt b b.toList s λs'=>K s'.clear) none
def lR(h:Id->Option ad):AV->AV
 | .own i=>match h i with
  | some (.sl true sz b xs)=> .t (.ab sz b xs)
  | _=> .own i
 | .part i sz off n=>match h i with
  | some (.sl true a b xs)=>if a=sz then .t (.ab sz b ((xs.drop off).take n)) else .part i sz off n
  | _=> .part i sz off n
 | .ref i off=>match h i with
  | some (.eE l)=> .t (.ptr (l.drop off))
  | _=> .ref i off
 | v=>v
def rq(s:St)(k:Nat×Option Nat):Option (AV×aB):=
 match s.t k.1 with
 | (some _,_)=>none
 | (none,v)=>match k.2 with
  | none=>some (lR s.h v,[])
  | some sz=>if sz=0\/sz>=999998 then some (lR s.h v,[]) else match v with
   | .own i=>match s.h i with
    | some (.sl false _ _ _)=>some (.own i,[])
    | _=>none
   | .t (.ae b)=>some (.own (.s (1000000+k.1) 0),[(.s (1000000+k.1) 0, .sl false sz b [])])
   | _=>none
def mK(s:St):List (Nat×Option Nat)->Option (List AV×aB)
 | []=>some ([],[])
 | k::r=>(rq s k).bind λp=>(mK s r).bind λq=>some (p.1::q.1,p.2++q.2)
def u5(f:FuncId)(todo:List Item)(live:List (Nat×Option Nat))(m:Nat×Nat)(s:St):Option (List T):=
 (mK s live).bind λp=>
  if ID s.h p.2 then
  let h:=aK s.h p.2
  (eA h 1000 ((List.range m.1).map Id.c++cf p.1) []).bind λseen=>
   O (.node f todo live m) (iW seen p.1) (seen.map λi=>fQ seen (h i))
  else none
def w9(h:Id->Option ad):AV->aB
 | .ref i _=>match h i with
  | some (.box cs)=>kH h cs
  | _=> []
 | _=> []
def lJ(s:St):List (Nat×Option Nat)->aB
 | []=> []
 | (k,some 0)::r=>fN s.h (s.t k).2++lJ s r
 | (k,some (n+1))::r=>cond (Nat.beq n 999998) (w9 s.h (s.t k).2) [] ++lJ s r
 | (_,none)::r=>lJ s r
def uI(s:St):List (Nat×Option Nat)->List (Id×Nat×Nat)
 | []=> []
 | (k,some n)::r=>match cond (Nat.ble 1000000 n) (s.t k).2 .top with
  | .ref i _=>(i,n / 1000000 - 1,n % 1000000)::uI s r
  | _=>uI s r
 | _::r=>uI s r
def pP(col rsz:Nat)(e:Row):List T:=e.cs.set col (match e.own with
 | some p=> .ab rsz p.1 p.2
 | none=> .ao)
def uw(h:Id->Option ad):AV->(Id->Option ad)
 | .ref i _=>match h i with
  | some (.box cs)=>aK h [(i, .box (cs.map (lR h)))]
  | _=>h
 | _=>h
def yq(h:Id->Option ad):AV->(Id->Option ad)
 | .own i=>match h i with
  | some (.rows b sz col rsz _ es)=>cond (bc es) (aK h [(i, .sl true sz b (es.map (pP col rsz)))]) h
  | _=>h
 | _=>h
def yr:(Id->Option ad)->List AV->(Id->Option ad)
 | h,[]=>h
 | h,v::r=>yr (yq h v) r
def yo(h:Id->Option ad):AV->(Id->Option ad)
 | .ref i _=>match h i with
  | some (.box cs)=>yr h cs
  | _=>h
 | _=>h
def pG(t:Nat->Option Gs×AV):(Id->Option ad)->List (Nat×Option Nat)->(Id->Option ad)
 | h,[]=>h
 | h,(k,some n)::r=>pG t (cond (Nat.beq n 999999) (uw h (t k).2) (cond (Nat.beq n 999998) (uw (yo h (t k).2) (t k).2) h)) r
 | h,(_,none)::r=>pG t h r
def jZ(f:FuncId)(todo:List Item)(live:List (Nat×Option Nat))(m:Nat×Nat)(s:St):Option (List T):=
 (iS 1900000 0 (aK s.h (lJ s live)) (uI s live)).bind λus=>
  u5 O f todo live m {t:=s.t,h:=pG s.t (aK (aK s.h (lJ s live)) us) live}
def lI(live:List (Nat×Option Nat))(bo:List AV)(blks:List ad):St:=
 {t:=λk=>(none,look live bo k)
  h:=fun
   | .c j=>blks[j]?
   | _=>none}
where
 look:List (Nat×Option Nat)->List AV->Nat->AV
 | (k,_)::ks,v::vs,j=>if j=k then v else look ks vs j
 | _,_,_=> .top
def mX:Code->Nat
 | .region id _ _=>id
 | .seq a _=>mX a
 | .block _ b=>mX b
 | .cond _ a _=>mX a
 | _=>1000000
def Da(h:Id->Option ad)(sz:Nat):AV->Option (T×Id)
 | .own i=>match h i with
  | some (.sl false a b xs)=>if a=sz then some (.ab sz b xs,i) else none
  | _=>none
 | _=>none
def iu{R:Type}(m:Nat)(h:Id->Option ad)(r:ch)(v:AV)(K:T->List Id->List Id->Option R):Option R:=
 match r with
 | .f _=>v.t?.bind λx=>aa none x.nP λ_=>K x [] []
 | .t _=>(dr h v).bind λx=>K x [] ((fN h v).map (·.1))
 | .own sz=>match v with
  | .own i=>(Da h sz (.own i)).bind λp=>K p.1 [p.2] []
  | .part i a 0 n=>match h i with
   | some (.sl false j b xs)=>if j=sz/\a=sz then K (.ab sz b (xs.take n)) [i] [] else none
   | _=>none
  | .t (.ae b)=>K (.ae b) [] []
  | .t (.ab _ true [])=>K (.ae true) [] []
  | _=>none
 | .ref k off=>match v with
  | .ref (.c e) off'=>if e=k/\off'=off/\k < m then K .ao [] [] else none
  | _=>none
 | .same k=>match v with
  | .own (.c e)=>if e=k/\k < m then K .ao [] [] else none
  | _=>none
 | .rows sz col rsz=>match v with
  | .own i=>match h i with
   | some (.rows b a d g _ es)=>if a=sz/\d=col/\g=rsz then
     aa none (if bc es=true then some () else none) λ_=>K (bg b es) [i] [] else none
   | _=>none
  | _=>none
 | .mp ag ks vk=>match v with
  | .own i=>match h i with
   | some (.mp l o q es)=>if l=ag/\o=ks/\q=vk then K (aC es) [i] [] else none
   | _=>none
  | _=>none
 | .no=>match v with
  | .ref _ _=>K .ao [] []
  | _=>none
 | .agg _=>none
 | .new _=>none
def lF{R:Type}(m:Nat)(h:Id->Option ad):List ch->List AV->(List T->List Id->List Id->Option R)->Option R
 | [],[],K=>K [] [] []
 | r::rs,v::vs,K=>iu m h r v λx a b=>lF m h rs vs λxs d e=>K (x::xs) (a++d) (b++e)
 | _,_,_=>none
def ff{R:Type}(m:Nat)(h:Id->Option ad):List ch->List AV->(List T->List Id->List Id->Option R)->Option R
 | [],[],K=>K [] [] []
 | r::rs,v::vs,K=>match r with
  | .agg l=>match v with
   | .agg cs=>lF m h l cs λxs a b=>ff m h rs vs λf d e=>K (xs++f) (a++d) (b++e)
   | _=>none
  | .new l=>match v with
   | .ref i 0=>match h i with
    | some (.box cs)=>lF m h l cs λxs a b=>ff m h rs vs λf d e=>K (xs++f) (i:: (a++d)) (b++e)
    | _=>none
   | _=>none
  | r=>iu m h r v λx a b=>ff m h rs vs λxs d e=>K (x::xs) (a++d) (b++e)
 | _,_,_=>none
def jJ{R:Type}(m:Nat)(h:Id->Option ad):Nat->List iC->(List T->List Id->List Id->Option R)->Option R
 | _,[],K=>K [] [] []
 | j, .box l::r,K=>match h (.c j) with
  | some (.box cs)=>lF m h l cs λxs a b=>jJ m h (j+1) r λf d e=>K (xs++f) (.c j:: (a++d)) (b++e)
  | _=>none
 | j, .sl sz::r,K=>match h (.c j) with
  | some (.sl false k b xs)=>if k=sz then jJ m h (j+1) r λf d e=>K (.ab sz b xs::f) (.c j::d) e else none
  | _=>none
 | j, .mp ag ks vk::r,K=>match h (.c j) with
  | some (.mp g i n es)=>if g=ag/\i=ks/\n=vk then jJ m h (j+1) r λf d e=>K (aC es::f) (.c j::d) e else none
  | _=>none
 | j, .dead::r,K=>jJ m h (j+1) r K
def pL{R:Type}(s:St):List ResultVar->(List AV->Option R)->Option R
 | [],K=>K []
 | .tmp k::r,K=>match s.t k with
   | (none,v)=>pL s r λl=>K (v::l)
   | _=>none
 | .cell k t::r,K=>match s.t k with
   | (none,v)=>fG P s none t v λv=>pL s r λl=>K (v::l)
   | _=>none
def uu:List Id->Bool
 | []=>true
 | i::r=> !r.contains i && uu r
def tE(f:FuncId)(fn:Func)(m:Nat×Nat)(s:St):Option (List T):=
 pL P s fn.results.toList λvs=>
  if m.1= (fP A f m.2).length then
  ff m.1 s.h (cZ P A f m.2 fn) vs λxs a b=>jJ m.1 s.h 0 (fP A f m.2) λg d e=>
   if uu (a++d) && (b++e).all (λi=> !(a++d).contains i) then some (xs++g) else none
  else none
def rE:List AV->List Id
 | []=> []
 | .own i::r=>i::rE r
 | _::r=>rE r
def xZ(h:Id->Option ad)(t:Nat->Option Gs×AV):List ResultVar->List Id
 | []=> []
 | .tmp k::r=>(match(t k).2 with
  | .agg vs=>rE vs
  | v=>rE [v])++xZ h t r
 | .cell k _::r=>(match(t k).2 with
  | .ref i _=>match h i with
   | some (.box cs)=>rE cs
   | _=> []
  | _=> [])++xZ h t r
def rU{R:Type}:(Id->Option ad)->List Id->(aB->Option R)->Option R
 | _,[],K=>K []
 | h,i::r,K=>match h i with
  | some (.rows b sz col rsz _ es)=>aa none (if bc es=true then some () else none) λ_=>
    rU (aK h [(i, .sl true sz b (es.map (pP col rsz)))]) r λus=>K ((i, .sl true sz b (es.map (pP col rsz)))::us)
  | _=>rU h r K
def tD(f:FuncId)(fn:Func)(m:Nat×Nat)(s:St):Option (List T):=
 cond ((cZ P A f m.2 fn).any Cf) (tE P A f fn m s)
  (rU s.h (xZ s.h s.t fn.results.toList) λus=>tE P A f fn m {t:=s.t,h:=aK s.h us})
def ev(f:FuncId)(fn:Func)(m:Nat×Nat):Nat->Bool->List Item->St->Option (List T)
 | 0,_,_,_=>none
 | n+1,d,todo,s=>match todo with
  | []=>tD P A f fn m s
  | .code c::k=>match c with
   | .skip=>ev f fn m n true k s
   | .seq a b=>ev f fn m n d (.code a:: .code b::k) s
   | .region id g e=>match cond d (A.join f id) none with
    | some live=>jZ O f (.code (.region id g e)::k) live m s
    | none=>region P A O fn.ntmps e g s λs'=>ev f fn m n true k s'
   | .cond x a b=>(s.get none x).t?.bind λy=>aa none y.bool? λt=>cond t (ev f fn m n true (.code a::k) s) (ev f fn m n true (.code b::k) s)
   | .block id b=>ev f fn m n d (.code b:: .inBlock id::k) s
   | .loop b=>match A.live f (mX b) with
    | some live=>jZ O f (.inLoop b::k) live m s
    | none=>none
   | .exit id=>match exitTo id k with
    | some i=>ev f fn m n true i s
    | none=>none
   | .ret=>tD P A f fn m s
   | _=>none
  | .inBlock _::k=>ev f fn m n true k s
  | .inLoop b::k=>match A.live f (mX b) with
    | some live=>jZ O f (.inLoop b::k) live m s
    | none=>none
  | _::_=>none
def iO:Nat:=100000
def qL(bo:List AV)(a:List ad):St:=
 {t:=λk=>(none,bo.getD k .top)
  h:=fun
   | .c j=>a[j]?
   | _=>none}
def au:aq
 | .call f,bo,a=>match A.ext f bo a with
  | some r=>some r
  | none=>match P.funcs[f]? with
  | some fn=>match fn.body with
   | some c=>if bo.length<=fn.ntmps then ev P A O f fn (a.length,fM a.head?) iO true [.code c] (qL bo a) else none
   | none=>none
  | none=>none
 | .node f todo live m,bo,a=>match P.funcs[f]? with
  | some fn=>match todo with
   | .inLoop b::k=>ev P A O f fn m iO true (.code b:: .inLoop b::k) (lI live bo a)
   | todo=>ev P A O f fn m iO false todo (lI live bo a)
  | none=>none
end
def nO(d:Bool)(r:Nat):Code->List Item->Option (List Item)
 | .seq a b,k=>match nO d r a (.code b::k) with
  | some t=>some t
  | none=>nO d r b k
 | .block id b,k=>nO d r b (.inBlock id::k)
 | .loop b,k=>if d && mX b==r then some (.inLoop b::k) else nO d r b (.inLoop b::k)
 | .cond _ a b,k=>match nO d r a k with
  | some t=>some t
  | none=>nO d r b k
 | .region id f e,k=>if !d && id==r then some (.code (.region id f e)::k) else none
 | _,_=>none
def bG(P:Program)(f:FuncId)(a:Bool)(r:Nat)(live:List (Nat×Option Nat))(m:Nat×Nat):Key:=
 .node f (match P.funcs[f]? with
  | some fn=>match fn.body with
   | some c=>(nO a r c []).getD []
   | none=> []
  | none=> []) live m
def gX(P:Program)(A:cC):Nat->aq
 | 0=>λ_ _ _=>none
 | n+1=>au P A (gX P A n)
open Classical in
noncomputable def jP(P:Program)(A:cC):aq:=λk vs a=>
 if h:∃n r,gX P A n k vs a=some r then some (Classical.choose (PL h)) else none
open Go
section
variable (w:World) (A:Nat->Prop)
mutual
def ay:T->Value->Prop
 | .int k n,v=>v= .int k n
 | .bool b,v=>v= .bool b
 | .str s,v=>v= .string s
 | .ab sz b xs,v=>(b=true/\xs= []/\v= .slice none 0 0)\/
   (b=false/\∃af off sp cap,v= .slice (some ⟨af,off,sp⟩) xs.length cap/\xs.length<=cap/\(xs= []\/(sp=none/\A af))/\bf af sz off xs)
 | .ae b,v=>(b=true/\v= .slice none 0 0)\/(b=false/\∃af off sp,v= .slice (some ⟨af,off,sp⟩) 0 0)
 | .ptr cs,v=>∃af off,v= .pointer (some ⟨af,off,none⟩)/\(cs= []\/A af)/\bd af off cs
 | .ao,v=>v= .pointer none
 | .uq,v=>v= .map none
 | .uo,v=>v= .nilFunc
 | .xG,v=>v= .nilIface
 | .cB f,v=>v= .func (.func f) #[] #[]
 | .any,v=>v.oneCell'=true/\v.cells= #[v]
def bf(af sz:Nat):Nat->List (List T)->Prop
 | _,[]=>True
 | off,cs::xs=>cs.length=sz/\bd af off cs/\bf af sz (off+sz) xs
def bd(af:Nat):Nat->List T->Prop
 | _,[]=>True
 | off,c::cs=>(∃v,w.cell? ⟨af,off,none⟩=some v/\ay c v)/\bd af (off+1) cs
end
def aU:List T->List Value->Prop
 | [],vs=>vs= []
 | c::cs,vs=>∃v r,vs=v::r/\ay w A c v/\aU cs r
end
section
variable {w w':World} {A A':Nat->Prop}
theorem lA{a:Addr}(h:w'.heap[a.block]? =w.heap[a.block]?):w'.cell? a=w.cell? a:=by simp [World.cell?,h]
mutual
theorem ay.mono(h:∀b,A b->A' b/\w'.heap[b]? =w.heap[b]?):∀(t:T) (v:Value),ay w A t v->ay w' A' t v
 | .int k n,v,a=>by simpa [ay] using a
 | .bool b,v,a=>by simpa [ay] using a
 | .str s,v,a=>by simpa [ay] using a
 | .ae b,v,a=>by simpa [ay] using a
 | .ao,v,a=>by simpa [ay] using a
 | .uq,v,a=>by simpa [ay] using a
 | .uo,v,a=>by simpa [ay] using a
 | .xG,v,a=>by simpa [ay] using a
 | .cB f,v,a=>by simpa [ay] using a
 | .any,v,a=>by simp only [ay] at a⊢;exact a
 | .ab sz b xs,v,a=>by
  simp only [ay] at a⊢;rcases a with a | ⟨j,af,off,sp,cap,g,e,d,i⟩
  .exact .inl a
  .refine .inr ⟨j,af,off,sp,cap,g,e, ?_, ?_⟩
   .rcases d with d | d
    .exact .inl d
    .exact .inr ⟨d.1,(h _ d.2).1⟩
   .rcases d with d | d
    .subst d;simp [bf]
    .exact bf.mono h af sz d.2 off xs i
 | .ptr cs,v,a=>by
  simp only [ay] at a⊢;obtain⟨af,off,g,e,d⟩:=a;refine⟨af,off,g, ?_, ?_⟩
  .rcases e with e | e
   .exact .inl e
   .exact .inr (h _ e).1
  .rcases e with e | e
   .subst e;simp [bd]
   .exact bd.mono h af e off cs d
theorem bf.mono(h:∀b,A b->A' b/\w'.heap[b]? =w.heap[b]?)(af sz:Nat)(d:A af):∀(off:Nat) (xs:List (List T)),bf w A af sz off xs->bf w' A' af sz off xs
 | _,[],_=>by simp [bf]
 | off,cs::xs,a=>by simp only [bf] at a⊢;exact⟨a.1,bd.mono h af d off cs a.2.1,bf.mono h af sz d (off+sz) xs a.2.2⟩
theorem bd.mono(h:∀b,A b->A' b/\w'.heap[b]? =w.heap[b]?)(af:Nat)(d:A af):∀(off:Nat) (cs:List T),bd w A af off cs->bd w' A' af off cs
 | _,[],_=>by simp [bd]
 | off,c::cs,e=>by simp only [bd] at e⊢;obtain⟨⟨v,f,g⟩,a⟩:=e;exact⟨⟨v,by rw [lA (w:=w) (by exact(h af d).2)];exact f,ay.mono h c v g⟩,bd.mono h af d (off+1) cs a⟩
end
theorem bd.lQ(h:∀b,A b->A' b/\w'.heap[b]? =w.heap[b]?)(af:Nat)(d:w'.heap[af]? =w.heap[af]?):∀(off:Nat) (cs:List T),bd w A af off cs->bd w' A' af off cs
 | _,[],_=>by simp [bd]
 | off,c::cs,e=>by simp only [bd] at e⊢;obtain⟨⟨v,f,g⟩,a⟩:=e;exact⟨⟨v,by rw [lA (w:=w) (by exact d)];exact f,ay.mono h c v g⟩,bd.lQ h af d (off+1) cs a⟩
theorem bf.lQ(h:∀b,A b->A' b/\w'.heap[b]? =w.heap[b]?)(af sz:Nat)(d:w'.heap[af]? =w.heap[af]?):∀(off:Nat) (xs:List (List T)),bf w A af sz off xs->bf w' A' af sz off xs
 | _,[],_=>by simp [bf]
 | off,cs::xs,a=>by simp only [bf] at a⊢;exact⟨a.1,bd.lQ h af d off cs a.2.1,bf.lQ h af sz d (off+sz) xs a.2.2⟩
theorem aU.mono(h:∀b,A b->A' b/\w'.heap[b]? =w.heap[b]?):∀(cs:List T) (vs:List Value),aU w A cs vs->aU w' A' cs vs
 | [],_,f=>f
 | c::cs,vs,⟨v,r,e,a,d⟩=>⟨v,r,e,ay.mono h c v a,aU.mono h cs r d⟩
theorem bf.get{af sz:Nat}:∀{off:Nat} {xs:List (List T)},bf w A af sz off xs->∀{k:Nat} {cs:List T},xs[k]? =some cs->cs.length=sz/\bd w A af (off+k * sz) cs
 | off,cs::xs,h,0,a,e=>by simp only [bf] at h;simp at e;subst e;exact⟨h.1,by simpa using h.2.1⟩
 | off,cs::xs,h,k+1,a,e=>by
  simp only [bf] at h;have:=bf.get h.2.2 (k:=k) (cs:=a) (by simpa using e);refine⟨this.1, ?_⟩;have b:off+ (k+1) * sz=off+sz+k * sz:=by rw [OJ];omega
  rw [b];exact this.2
theorem bd.get{af:Nat}:∀{off:Nat} {cs:List T},bd w A af off cs->∀{k:Nat} {c:T},cs[k]? =some c->∃v,w.cell? ⟨af,off+k,none⟩=some v/\ay w A c v
 | off,c::cs,h,0,c',e=>by simp only [bd] at h;simp at e;subst e;exact h.1
 | off,c::cs,h,k+1,c',e=>by
  simp only [bd] at h;have:=bd.get h.2 (k:=k) (c:=c') (by simpa using e);have a:off+1+k=off+ (k+1):=by omega
  rw [a] at this;exact this
theorem bd.drop{af:Nat}:∀{off:Nat} {cs:List T},bd w A af off cs->∀(n:Nat),bd w A af (off+n) (cs.drop n)
 | _,_,h,0=>by simpa using h
 | _,[],_,n+1=>by simp [bd]
 | off,c::cs,h,n+1=>by
  simp only [bd] at h;have:=bd.drop h.2 n;have a:off+1+n=off+ (n+1):=by omega
  rw [a] at this;simpa using this
theorem bf.drop{af sz:Nat}:∀{off:Nat} {xs:List (List T)},bf w A af sz off xs->∀(n:Nat),bf w A af sz (off+n * sz) (xs.drop n)
 | _,_,h,0=>by simpa using h
 | _,[],_,n+1=>by simp [bf]
 | off,cs::xs,h,n+1=>by
  simp only [bf] at h;have:=bf.drop h.2.2 n;have a:off+sz+n * sz=off+ (n+1) * sz:=by rw [OJ];omega
  rw [a] at this;simpa using this
theorem bf.take{af sz:Nat}:∀{off:Nat} {xs:List (List T)},bf w A af sz off xs->∀(n:Nat),bf w A af sz off (xs.take n)
 | _,_,_,0=>by simp [bf]
 | _,[],_,n+1=>by simp [bf]
 | off,cs::xs,h,n+1=>by simp only [bf] at h;simp only [Qb,bf];exact⟨h.1,h.2.1,bf.take h.2.2 n⟩
theorem bf.append{af sz:Nat}:∀{off:Nat} {xs a:List (List T)},bf w A af sz off xs->bf w A af sz (off+xs.length * sz) a->bf w A af sz off (xs++a)
 | off,[],a,_,h=>by simpa using h
 | off,cs::xs,a,h,h'=>by
  simp only [bf] at h;simp only [OL,bf];refine⟨h.1,h.2.1,bf.append h.2.2 ?_⟩;have b:off+sz+xs.length * sz=off+ (cs::xs).length * sz:=by simp [OJ];omega
  rw [b];exact h'
theorem ay.n9{t:T}{v:Value}(h:ay w A t v):v.oneCell'=true/\v.cells= #[v]:=by
 cases t <;> simp only [ay] at h
 case ab=>rcases h with⟨_,_,rfl⟩ | ⟨_,_,_,_,_,rfl,_⟩ <;> exact⟨rfl,rfl⟩
 case ae=>rcases h with⟨_,rfl⟩ | ⟨_,_,_,_,rfl⟩ <;> exact⟨rfl,rfl⟩
 case ptr=>obtain⟨_,_,rfl,_⟩:=h;exact⟨rfl,rfl⟩
 case any=>exact h
 all_goals subst h;exact⟨rfl,rfl⟩
theorem aU.length:∀{cs:List T} {vs:List Value},aU w A cs vs->vs.length=cs.length
 | [],_,h=>by simp only [aU] at h;simp [h]
 | c::cs,vs,⟨v,r,e,_,h⟩=>by subst e;simp [aU.length h]
end
section
variable (w:World) (A:Nat->Prop) (ρ:Id->Option Value)
mutual
def aj:AV->Value->Prop
 | .top,_=>True
 | .t x,v=>ay w A x v
 | .kc vs,v=>∃d:List Value,v= .tuple d.toArray/\az vs d
 | .agg vs,v=>∃d:List Value,v= .agg d.toArray/\az vs d/\∀u∈d,u.oneCell'=true/\u.cells= #[u]
 | .ref i off,v=>∃b,ρ i=some (.pointer (some ⟨b,0,none⟩))/\v= .pointer (some ⟨b,off,none⟩)
 | .el i sz k off,v=>∃b o L cap,ρ i=some (.slice (some ⟨b,o,none⟩) L cap)/\v= .pointer (some ⟨b,o+k * sz+off,none⟩)
 | .own i,v=>ρ i=some v
 | .part i sz off n,v=>∃a L cap e,ρ i=some (.slice a L cap)/\off+n<=L/\L<=cap/\v= .slice e n (cap - off)/\
   ((off=0/\e=a)\/(off=cap/\(e=none↔a=none)/\True)\/∃b o,a=some ⟨b,o,none⟩/\e=some ⟨b,o+off * sz,none⟩)
 | .row i n,v=>ρ (.g i n)=some v
 | .rel i sz n k off,v=>∃b o L cap,ρ (.g i n)=some (.slice (some ⟨b,o,none⟩) L cap)/\v= .pointer (some ⟨b,o+k * sz+off,none⟩)
 | .fn f xs m,v=>∃j l:List Value,v= .func (.func f) j.toArray l.toArray/\az xs j/\az m l
def az:List AV->List Value->Prop
 | [],vs=>vs= []
 | a::b,vs=>∃v r,vs=v::r/\aj a v/\az b r
end
end
section
variable {w w':World} {A A':Nat->Prop} {ρ ρ':Id->Option Value}
mutual
theorem aj.mono(h:∀b,A b->A' b/\w'.heap[b]? =w.heap[b]?)(g:∀i v,ρ i=some v->ρ' i=some v):∀(a:AV) (v:Value),aj w A ρ a v->aj w' A' ρ' a v
 | .top,_,_=>by simp [aj]
 | .t x,v,d=>by simp only [aj] at d⊢;exact ay.mono h x v d
 | .kc vs,v,d=>by simp only [aj] at d⊢;obtain⟨l,e,j⟩:=d;exact⟨l,e,az.mono h g vs l j⟩
 | .agg vs,v,d=>by simp only [aj] at d⊢;obtain⟨l,e,j,y⟩:=d;exact⟨l,e,az.mono h g vs l j,y⟩
 | .ref i off,v,d=>by simp only [aj] at d⊢;obtain⟨b,e,j⟩:=d;exact⟨b,g _ _ e,j⟩
 | .el i sz k off,v,d=>by simp only [aj] at d⊢;obtain⟨b,o,L,cap,e,j⟩:=d;exact⟨b,o,L,cap,g _ _ e,j⟩
 | .own i,v,d=>by simp only [aj] at d⊢;exact g _ _ d
 | .part i sz off n,v,d=>by simp only [aj] at d⊢;obtain⟨a,L,cap,q,e,j⟩:=d;exact⟨a,L,cap,q,g _ _ e,j⟩
 | .row i n,v,d=>by simp only [aj] at d⊢;exact g _ _ d
 | .rel i sz n k off,v,d=>by simp only [aj] at d⊢;obtain⟨b,o,L,cap,e,j⟩:=d;exact⟨b,o,L,cap,g _ _ e,j⟩
 | .fn f xs z,v,d=>by simp only [aj] at d⊢;obtain⟨m,p,e,r,u⟩:=d;exact⟨m,p,e,az.mono h g xs m r,az.mono h g z p u⟩
theorem az.mono(h:∀b,A b->A' b/\w'.heap[b]? =w.heap[b]?)(g:∀i v,ρ i=some v->ρ' i=some v):∀(d:List AV) (vs:List Value),az w A ρ d vs->az w' A' ρ' d vs
 | [],_,f=>by simpa [az] using f
 | a::d,vs,f=>by simp only [az] at f⊢;obtain⟨v,r,e,j,k⟩:=f;exact⟨v,r,e,aj.mono h g a v j,az.mono h g d r k⟩
end
theorem az.length:∀{b:List AV} {vs:List Value},az w A ρ b vs->vs.length=b.length
 | [],_,h=>by simp only [az] at h;simp [h]
 | a::b,vs,h=>by simp only [az] at h;obtain⟨v,r,e,_,h⟩:=h;subst e;simp [az.length h]
theorem az.get:∀{b:List AV} {vs:List Value},az w A ρ b vs->∀{k:Nat} {a:AV},b[k]? =some a->∃v,vs[k]? =some v/\aj w A ρ a v
 | a::b,vs,h,0,d,e=>by simp only [az] at h;obtain⟨v,r,rfl,f,_⟩:=h;simp at e;subst e;exact⟨v,rfl,f⟩
 | a::b,vs,h,k+1,d,e=>by simp only [az] at h;obtain⟨v,r,rfl,_,h⟩:=h;obtain⟨u,i,g⟩:=az.get h (k:=k) (a:=d) (by simpa using e);exact⟨u,by simpa using i,g⟩
theorem az.append:∀{b d:List AV} {vs us:List Value},az w A ρ b vs->az w A ρ d us->az w A ρ (b++d) (vs++us)
 | [],_,_,_,h,h'=>by simp only [az] at h;subst h;simpa using h'
 | a::b,d,vs,us,h,h'=>by simp only [az] at h;obtain⟨v,r,rfl,e,h⟩:=h;simp only [OL,az];exact⟨v,r++us,rfl,e,az.append h h'⟩
theorem az.drop:∀{b:List AV} {vs:List Value},az w A ρ b vs->∀n,az w A ρ (b.drop n) (vs.drop n)
 | _,_,h,0=>by simpa using h
 | [],vs,h,n+1=>by simp only [az] at h;subst h;simp [az]
 | a::b,vs,h,n+1=>by simp only [az] at h;obtain⟨v,r,rfl,d,h⟩:=h;simpa using az.drop h n
theorem az.take:∀{b:List AV} {vs:List Value},az w A ρ b vs->∀n,az w A ρ (b.take n) (vs.take n)
 | _,_,_,0=>by simp [az]
 | [],vs,h,n+1=>by simp only [az] at h;subst h;simp [az]
 | a::b,vs,h,n+1=>by simp only [az] at h;obtain⟨v,r,rfl,d,h⟩:=h;simp only [Qb,az];exact⟨v,r.take n,rfl,d,az.take h n⟩
theorem az.jO:∀{cs:List T} {vs:List Value},aU w A cs vs->az w A ρ (cs.map .t) vs
 | [],_,h=>by simpa [az,aU] using h
 | c::cs,vs,⟨v,r,e,a,b⟩=>by simp only [Oq,az];exact⟨v,r,e,by simpa [aj] using a,az.jO b⟩
theorem aU.jr:∀{b:List AV} {cs:List T} {vs:List Value},dJ b=some cs->az w A ρ b vs->aU w A cs vs
 | [],cs,vs,h,d=>by simp only [dJ,NL] at h;subst h;simpa [aU,az] using d
 | a::b,cs,vs,h,d=>by
  cases a <;> simp only [dJ,reduceCtorEq] at h
  case t x=>
   cases hl:dJ b with
   | none=>simp [hl] at h
   | some l=>simp only [hl,NO,NL] at h;subst h;simp only [az,aj] at d;obtain⟨v,r,e,f,g⟩:=d;exact⟨v,r,e,f,aU.jr hl g⟩
end
open Go
section
variable {R S α:Type}
theorem bN[Inhabited α](c:Option Bool)(m:Option α)(k:α->Option R)(f:R->Option S):(aa c m k).bind f=aa c m λa=>(k a).bind f:=by
 unfold aa;cases m with
 | some a=>rfl
 | none=>cases c with
  | none=>rfl
  | some b=>cases b <;> rfl
theorem aO[Inhabited α]{c:Option Bool}{m:Option α}{k:α->Option R}{r:R}(h:aa c m k=some r)(b:c=none\/c=some true):∃a,m=some a/\k a=some r:=by
 unfold aa at h;cases m with
 | some a=>exact⟨a,rfl,h⟩
 | none=>rcases b with rfl | rfl <;> simp at h
theorem jH(c:Bool)(x y:Option R)(f:R->Option S):(cond c x y).bind f=cond c (x.bind f) (y.bind f):=by cases c <;> rfl
theorem cG(c:Prop)[Decidable c](x y:Option R)(f:R->Option S):(if c then x else y).bind f=if c then x.bind f else y.bind f:=by split <;> rfl
theorem bB(f:R->Option S):(none:Option R).bind f=none:=rfl
theorem yD(c:Option Bool):∀(n:Nat) (cs:List T) (K:List T->Option R) (f:R->Option S),(mZ c n cs K).bind f=mZ c n cs λx=>(K x).bind f
 | 0,_,_,_=>rfl
 | n+1,cs,K,f=>by simp only [mZ,bN,yD c n]
theorem l9(k:Ck)(c:Option Bool)(x:T)(K:T->Option R)(f:R->Option S):(eD k c x K).bind f=eD k c x λx=>(K x).bind f:=by unfold eD;cases k <;> simp only [bN]
theorem p8(c:Option Bool):∀(ks:List Ck) (xs:List T) (K:List T->Option R) (f:R->Option S),(ef c ks xs K).bind f=ef c ks xs λx=>(K x).bind f
 | [],_,_,_=>rfl
 | _::_,[],_,_=>rfl
 | k::ks,x::xs,K,f=>by simp only [ef,l9,p8 c ks xs]
theorem Fo(op:BinOp)(k:IntKind)(c:Option Bool)(x y:T)(K:T->Option R)(f:R->Option S):(oN op k c x y K).bind f=oN op k c x y λx=>(K x).bind f:=by unfold oN;cases op <;> simp only [bN,bB]
theorem MT(op:BinOp)(k a:IntKind)(c:Option Bool)(x y:T)(K:T->Option R)(f:R->Option S):(pV op k a c x y K).bind f=pV op k a c x y λx=>(K x).bind f:=by unfold pV;cases op <;> simp only [bN,bB]
theorem Ni(op:BinOp)(c:Option Bool)(x y:T)(K:T->Option R)(f:R->Option S):(p4 op c x y K).bind f=p4 op c x y λx=>(K x).bind f:=by unfold p4;cases op <;> simp only [bN,bB]
theorem Bu(P:Program)(c:Option Bool)(t:TypeId)(x y:T)(K:Bool->Option R)(f:R->Option S):(jK P c t x y K).bind f=jK P c t x y λx=>(K x).bind f:=by unfold jK;split <;> simp only [bN,bB]
theorem Bv(P:Program)(c:Option Bool):∀(ts:List TypeId) (xs a:List T) (K:Bool->Option R) (f:R->Option S),(dN P c ts xs a K).bind f=dN P c ts xs a λx=>(K x).bind f
 | [],[],[],_,_=>rfl
 | t::ts,x::xs,y::a,K,f=>by simp only [dN,Bu,Bv P c ts xs a]
 | [],[],_::_,_,_=>rfl
 | [],_::_,_,_,_=>rfl
 | _::_,[],_,_,_=>rfl
 | _::_,_::_,[],_,_=>rfl
theorem Fv(P:Program)(op:BinOp)(t ty:TypeId)(c:Option Bool)(x y:T)(K:T->Option R)(f:R->Option S):(oP P op t ty c x y K).bind f=oP P op t ty c x y λx=>(K x).bind f:=by unfold oP;cases op <;> simp only [] <;> first | rfl | (split <;> simp only [Fo,MT,Ni,bB])
theorem Im(P:Program)(c:Option Bool)(t:TypeId)(x y:AV)(K:Bool->Option R)(f:R->Option S):(nN P c t x y K).bind f=nN P c t x y λx=>(K x).bind f:=by unfold nN;split <;> simp only [jH,bN,Bu,Bv,N5,bB]
theorem Ny(P:Program)(op:UnOp)(t:TypeId)(c:Option Bool)(x:T)(K:T->Option R)(f:R->Option S):(p9 P op t c x K).bind f=p9 P op t c x λx=>(K x).bind f:=by unfold p9;split <;> simp only [bN,bB]
theorem rr(P:Program)(t:TypeId)(c:Option Bool)(cs:List T)(K:AV->Option R)(f:R->Option S):(jn P t c cs K).bind f=jn P t c cs λx=>(K x).bind f:=by unfold jn;simp only [jH,bN,yD,l9,p8]
theorem CD(P:Program)(t:TypeId)(cs:List AV)(K:AV->Option R)(f:R->Option S):(kO P t cs K).bind f=kO P t cs λx=>(K x).bind f:=by unfold kO;simp only [jH,N5]
theorem x9(h:Id->Option ad)(c:Option Bool)(i:Id)(n:Nat)(K:Nat->Bool->List (List T)->Option R)(f:R->Option S):(jT h c i n K).bind f=jT h c i n λa b l=>(K a b l).bind f:=by unfold jT;split <;> simp only [bN,bB]
theorem I8(P:Program)(t:TypeId)(c:Option Bool)(i:Id)(sz col off:Nat)(e:Row)(K:AV->Option R)(f:R->Option S):(pA P t c i sz col off e K).bind f=pA P t c i sz col off e λx=>(K x).bind f:=by unfold pA;simp only [jH,cG,bN,yD,l9,p8,bB]
theorem I7(P:Program)(s:St)(c:Option Bool)(t:TypeId)(a:AV)(K:AV->Option R)(f:R->Option S):(fG P s c t a K).bind f=fG P s c t a λx=>(K x).bind f:=by
 unfold fG;rw [jH];congr 1;split
 .split <;> simp only [CD,rr,bB]
 .split <;> simp only [cG,bN,rr,I8,bB]
 .simp only [x9,cG,bN,rr,bB]
 .simp only [bN,rr]
 .rfl
theorem Nf(P:Program)(s:St)(t:TypeId)(a v:AV)(K:aB->Option R)(f:R->Option S):(hI P s t a v K).bind f=hI P s t a v λx=>(K x).bind f:=by
 unfold hI;rw [jH];congr 1;split
 .split <;> simp only [cG,bB]
 .split
  .simp only [N5,cG,bN,bB]
  .split
   .split <;> simp only [cG,bN,bB]
   .rfl
  .rfl
 .split <;> simp only [N5,cG,bN,bB]
 .rfl
theorem nU(c:Option Bool)(i:Int)(n:Nat)(K:Option R)(f:R->Option S):(iQ c i n K).bind f=iQ c i n (K.bind f):=by unfold iQ;simp only [bN]
theorem IP(P:Program)(s:St)(c:Option Bool)(t:TypeId)(x:AV)(i:Int)(K:AV->Option R)(f:R->Option S):(iv P s c t x i K).bind f=iv P s c t x i λx=>(K x).bind f:=by
 unfold iv;split
 .split
  .split <;> simp only [cG,nU,bB]
  .simp only [x9,cG,nU,bB]
  .split <;> simp only [cG,nU,bB]
  .simp only [bN,nU]
  .rfl
 .split
  .rw [nU];congr 1;split <;> simp only [bN,bB]
  .rfl
theorem Iw(P:Program)(c:Option Bool)(t:TypeId)(x:AV)(k:Nat)(K:AV->Option R)(f:R->Option S):(ph P c t x k K).bind f=ph P c t x k λx=>(K x).bind f:=by
 unfold ph;split
 .rw [cG];congr 1;split <;> simp only [bN,bB]
 .rfl
theorem Iu(P:Program)(t:TypeId)(x:AV)(k:Nat)(K:AV->Option R)(f:R->Option S):(pg P t x k K).bind f=pg P t x k λx=>(K x).bind f:=by
 unfold pg;split
 .split <;> simp only [CD,bB]
 .rfl
theorem I0(P:Program)(s:St)(c:Option Bool)(t:TypeId)(x:AV)(K:AV->Option R)(f:R->Option S):(lO P s c t x K).bind f=lO P s c t x λx=>(K x).bind f:=by
 unfold lO;split
 .split <;> simp only [bN,bB]
 .rfl
 .split
  .split <;> rfl
  .simp only [x9]
  .rfl
  .simp only [bN]
  .rfl
 .rfl
theorem Fz(s:St)(c:Option Bool)(g:Option Gs)(o:Option Operand)(K:Option Int->Option R)(f:R->Option S):(gS s c g o K).bind f=gS s c g o λx=>(K x).bind f:=by
 unfold gS;split
 .rfl
 .simp only [N5,bN]
theorem MY(P:Program)(s:St)(c:Option Bool)(t:TypeId)(x:AV)(b a d:Option Int)(K:AV->Option R)(f:R->Option S):(l6 P s c t x b a d K).bind f=l6 P s c t x b a d λx=>(K x).bind f:=by
 unfold l6;split
 .split <;> simp only [bN,bB]
 .split
  .split
   .split <;> simp only [cG,bN,bB]
   .split <;> simp only [cG,bN,bB]
   .simp only [cG,bN,bB]
   .rfl
  .split
   .simp only [cG,bN,bB]
   .split <;> simp only [cG,bN,bB]
   .rfl
 .rfl
theorem Fi(P:Program)(s:St)(t:TypeId)(sz:Nat)(a:List T)(y:AV)(K:List (List T)->Option R)(f:R->Option S):(kr P s t sz a y K).bind f=kr P s t sz a y λx=>(K x).bind f:=by unfold kr;split <;> simp only [N5,cG,bN,bB]
theorem Fe(P:Program)(s:St)(d:Nat)(e:TypeId)(i:Id)(sz col rsz a:Nat)(es:List Row)(j:Id)(cs:List AV)(K:AV->aB->Option R)(f:R->Option S):(nD P s d e i sz col rsz a es j cs K).bind f=nD P s d e i sz col rsz a es j cs λv u=>(K v u).bind f:=by
 unfold nD;rw [cG];congr 1;rw [N5];congr 1;funext l;split
 .split <;> simp only [cG,bN,bB]
 .split <;> simp only [cG,bN,bB]
 .rfl
theorem Fb(P:Program)(s:St)(d:Nat)(rw:Bool)(t ty:TypeId)(x y:AV)(K:AV->aB->Option R)(f:R->Option S):(jf P s d rw t ty x y K).bind f=jf P s d rw t ty x y λv u=>(K v u).bind f:=by
 unfold jf;rw [N5];congr 1;funext e;rw [N5];congr 1;funext b;rw [cG];congr 1;split
 .split <;> simp only [Fe,bB]
 .rw [Fi];congr 1;funext a;split
  .split <;> simp only [cG,bN,bB]
  .split <;> simp only [cG,bN,bB]
  .simp only [N5,bN]
  .rfl
theorem Ji(P:Program)(d:Nat)(t:TypeId)(ns:Nat)(n m:T)(K:AV->aB->Option R)(f:R->Option S):(pC P d t ns n m K).bind f=pC P d t ns n m λv u=>(K v u).bind f:=by unfold pC;rw [N5];congr 1;funext e;rw [N5];congr 1;funext a;rw [bN];congr 1;funext n;rw [bN];congr 1;funext m;rw [cG];congr 1;rw [bN];congr 1;funext _;rw [jH];congr 1;split <;> simp only [cG,bB]
theorem xr(P:Program)(k:TypeId)(c:Option Bool)(v:AV)(K:Bool->List Ck->List T->Option R)(f:R->Option S):(mH P k c v K).bind f=mH P k c v λa b l=>(K a b l).bind f:=by unfold mH;rw [N5];congr 1;funext q;split <;> simp only [p8,N5,cG,bB]
theorem Jf(P:Program)(s:St)(c:Option Bool)(t:TypeId)(x k:AV)(ok:Bool)(K:AV->Option R)(f:R->Option S):(lP P s c t x k ok K).bind f=lP P s c t x k ok λv=>(K v).bind f:=by
 unfold lP;rw [N5];congr 1;funext q;rw [N5];congr 1;funext z;rw [xr];congr 1;funext a b l;split
 .split
  .rw [cG];simp only [l9,bB]
  .rfl
 .rfl
theorem Jk(P:Program)(d:Nat)(t:TypeId)(K:AV->aB->Option R)(f:R->Option S):(pD P d t K).bind f=pD P d t λv u=>(K v u).bind f:=by unfold pD;simp only [N5,cG,bB]
theorem F5(P:Program)(s:St)(t:TypeId)(x k:AV)(K:aB->Option R)(f:R->Option S):(lC P s t x k K).bind f=lC P s t x k λu=>(K u).bind f:=by
 unfold lC;rw [N5];congr 1;funext q;rw [xr];congr 1;funext a b l;split
 .split
  .rw [cG];rfl
  .rfl
 .rfl
theorem KY(P:Program)(s:St)(t:TypeId)(x k v:AV)(K:aB->Option R)(f:R->Option S):(lV P s t x k v K).bind f=lV P s t x k v λu=>(K u).bind f:=by
 unfold lV;rw [N5];congr 1;funext q;rw [xr];congr 1;funext a b l;split
 .split
  .rw [cG];simp only [N5,l9,bB]
  .rfl
 .rfl
theorem xC(k:IntKind)(c:Option Bool)(b:Bool):∀(l:List T) (a:Int) (K:T->Option R) (f:R->Option S),(mL k c b a l K).bind f=mL k c b a l λx=>(K x).bind f
 | [],_,_,_=>rfl
 | y::r,a,K,f=>by simp only [mL,bN,xC k c b r]
theorem FW(P:Program)(c:Option Bool)(a b:TypeId)(x:T)(K:T->Option R)(f:R->Option S):(oU P c a b x K).bind f=oU P c a b x λx=>(K x).bind f:=by unfold oU;split <;> simp only [bN,bB]
theorem zy(ids:List Id)(d:Nat)(c:Option Bool)(j:Nat)(r:ch)(x:T)(K:AV->aB->Nat->Option R)(f:R->Option S):(kB ids d c j r x K).bind f=kB ids d c j r x λv u j=>(K v u j).bind f:=by
 unfold kB;split
 .exact l9 _ _ _ _ _
 .exact l9 _ _ _ _ _
 .split <;> simp only [bN,bB]
 .split <;> simp only [bB]
 .split <;> simp only [bB]
 .split <;> simp only [bN,bB]
 .split <;> simp only [bN,bB]
 .rfl
 .rfl
 .rfl
theorem s5(ids:List Id)(d:Nat)(c:Option Bool):∀(rs:List ch) (j:Nat) (xs:List T) (K:List AV->aB->Nat->Option R) (f:R->Option S),(iL ids d c j rs xs K).bind f=iL ids d c j rs xs λv u j=>(K v u j).bind f
 | [],_,_,_,_=>rfl
 | r::rs,j,xs,K,f=>by simp only [iL,bN,zy,s5 ids d c rs]
theorem nH(ids:List Id)(d:Nat)(c:Option Bool):∀(rs:List ch) (j:Nat) (xs:List T) (K:List AV->aB->Nat->Option R) (f:R->Option S),(dF ids d c j rs xs K).bind f=dF ids d c j rs xs λv u j=>(K v u j).bind f
 | [],_,_,_,_=>rfl
 | r::rs,j,xs,K,f=>by
  cases r
  case new l=>cases c <;> simp only [dF,s5,nH ids d _ rs,bB]
  all_goals simp only [dF,bN,zy,s5,nH ids d c rs]
theorem s7(all:List Id)(d:Nat):∀(rs:List iC) (a:List Id) (j:Nat) (xs:List T) (K:aB->Option R) (f:R->Option S),(fe all d j a rs xs K).bind f=fe all d j a rs xs λu=>(K u).bind f
 | [],[],_,_,_,_=>rfl
 | [],_::_,_,_,_,_=>rfl
 | r::rs,[],_,_,_,_=>by cases r <;> rfl
 | r::rs,i::a,j,xs,K,f=>by cases r <;> simp only [fe,bN,s5,s7 all d rs]
theorem Nq(P:Program)(c:Option Bool)(t:TypeId)(v:AV)(K:AV->Option R)(f:R->Option S):(kZ P c t v K).bind f=kZ P c t v λx=>(K x).bind f:=by
 unfold kZ;split
 .exact l9 _ _ _ _ _
 .split
  .exact p8 _ _ _ _ _
  .rfl
 .rfl
theorem yH(P:Program)(c:Option Bool):∀(ts:List TypeId) (vs:List AV) (K:List AV->Option R) (f:R->Option S),(hJ P c ts vs K).bind f=hJ P c ts vs λx=>(K x).bind f
 | [],_,_,_=>rfl
 | _::_,[],_,_=>rfl
 | t::ts,v::vs,K,f=>by simp only [hJ,Nq,yH P c ts vs]
theorem zl(P:Program)(A:cC)(O:aq)(s:St)(d:Nat)(c:Option Bool)(g:FuncId)(args:List AV)(K:AV->aB->Option R)(f:R->Option S):
  (fA P A O s d c g args K).bind f=fA P A O s d c g args λv u=>(K v u).bind f:=by
 unfold fA;split
 .rfl
 .split
  .simp only [N5,bN,nH,yH]
  .split
   .rfl
   .simp only [N5,jH,bB,bN,nH,s7,yH]
theorem Ft(h:Id->Option ad)(i new:Id)(n rsz:Nat)(K:aB->Option R)(f:R->Option S):(qv h i new n rsz K).bind f=qv h i new n rsz λu=>(K u).bind f:=by
 unfold qv;split
 .rw [cG];simp only [bN,bB]
 .rfl
theorem K9(P:Program)(s:St)(e:TypeId)(d:Nat)(c:Option Bool)(v:AV)(K:AV->aB->Option R)(f:R->Option S):(l0 P s e d c v K).bind f=l0 P s e d c v λv u=>(K v u).bind f:=by
 unfold l0;split
 .split
  .split
   .rw [bN];congr 1;funext p;rw [N5];congr 1;funext l;rw [cG];rfl
   .rfl
  .rfl
 .rfl
theorem FO(fO:Bool)(P:Program)(A:cC)(O:aq)(s:St)(d:Nat)(c:Option Bool)(g:FuncId)(args:List AV)(K:AV->aB->Option R)(f:R->Option S):
  (iq fO P A O s d c g args K).bind f=iq fO P A O s d c g args λv u=>(K v u).bind f:=by
 unfold iq;split
 .exact zl _ _ _ _ _ _ _ _ _ _
 .split
  .simp only [bN,jH,zl,Ft,bB]
  .rfl
theorem B9(c:Option Bool)(v:AV)(K:Int->Option R)(f:R->Option S):(mF c v K).bind f=mF c v λx=>(K x).bind f:=by unfold mF;simp only [N5,bN]
theorem vC(P:Program)(A:cC)(O:aq)(g:Option Gs)(o:Oper)(s:St)(K:AV->aB->Option R)(f:R->Option S):
  (gQ P A O g o s K).bind f=gQ P A O g o s λv u=>(K v u).bind f:=by
 unfold gQ;cases o.op <;> dsimp only
 case pick=>simp only [N5,bN]
 case alloc=>split <;> simp only [N5,bB]
 case box=>split <;> simp only [cG,bB]
 case build=>simp only [N5]
 case buildSlice=>
  rw [N5];congr 1;funext e;rw [cG];congr 1
  .split <;> simp only [cG,bB]
  rw [cG];congr 1
  .split <;> simp only [K9,bB]
  rw [cG];congr 1;rw [cG];congr 1;rw [N5];congr 1;funext q;split <;> rfl
 case load=>simp only [I7]
 case store=>split <;> simp only [Nf,bB]
 case nilCheck=>split <;> simp only [bN,bB]
 case binOp=>split <;> simp only [N5,Im,Fv]
 case unOp=>simp only [N5,Ny]
 case convert=>
  split
  .split <;> simp only [N5,bN,bB]
  .simp only [N5,FW]
 case makeFunc=>split <;> simp_all
 case makeSlice=>split <;> simp only [N5,Ji,bB]
 case makeMap=>split <;> simp only [Jk,bB]
 case lookup=>simp only [Jf]
 case mapUpdate=>split <;> simp only [KY,bB]
 case slice=>simp only [Fz,MY]
 case fieldAddr=>simp only [Iw]
 case field=>simp only [Iu]
 case indexAddr=>simp only [B9,IP]
 case index=>
  simp only [B9];congr 1;funext n;split
  .simp only [N5,bN,nU]
  .split <;> simp only [jH,N5,nU,rr,bB]
  .rfl
 case extract=>split <;> simp only [N5,bB]
 case call cl=>
  split
  .split <;> simp only [I0,bB]
  .split <;> simp only [Fb,bB]
  .split
   .rw [N5];congr 1;funext l;split <;> simp only [bN,xC,bB]
   .rfl
  .split
   .rw [N5];congr 1;funext l;split <;> simp only [bN,xC,bB]
   .rfl
  .split <;> simp only [F5,bB]
  ·(repeat' split) <;> simp only [jH,bB]
  .split <;> simp only [FO,bB]
  .rfl
 all_goals rfl
def cK(P:Program)(A:cC)(O:aq)(g:Option Gs)(o:Oper)(s:St):Option (AV×aB):=gQ P A O g o s λv u=>some (v,u)
theorem oM(P:Program)(A:cC)(O:aq)(g:Option Gs)(o:Oper)(s:St)(K:AV->aB->Option R):gQ P A O g o s K= (cK P A O g o s).bind λp=>K p.1 p.2:=by unfold cK;rw [vC];rfl
theorem B6(a:Array Oper)(o:Oper)(s:St)(K:Option Gs->Option R)(f:R->Option S):(cX a o s K).bind f=cX a o s λg=>(K g).bind f:=by
 unfold cX;split
 .rfl
 .split
  .rfl
  .simp only [N5,bN]
theorem tM(a:Array Oper)(o:Oper)(s:St)(K:Option Gs->Option R):cX a o s K= (cX a o s some).bind K:=by rw [B6];rfl
def kK:List AV->List AV->Bool
 | [],[]=>true
 | c::r,c'::a=>match qS c c' with
  | none=>false
  | some none=>kK r a
  | some (some p)=>decide (p.1=p.2) && kK r a
 | _,_=>false
theorem zt(K:Option R)(a b:Bool):cond a (cond b K none) none=cond (a && b) K none:=by cases a <;> rfl
theorem IF(p:Prop)[Decidable p](X:Option R):aa none (if p then some () else none) (λ_=>X)=cond (decide p) X none:=by by_cases h:p <;> simp [h,aa]
theorem Co(K:Option R):∀l b:List AV,qV l b K=cond (kK l b) K none
 | [],[]=>rfl
 | [],_::_=>rfl
 | _::_,[]=>rfl
 | c::r,c'::d=>by
  have a:=Co K r d;unfold qV kK;cases qS c c' with
  | none=>rfl
  | some q=>
   cases q with
   | none=>exact a
   | some p=>dsimp only;rw [a,IF,zt]
def jl(h h':Id->Option ad):aB->Bool
 | []=>true
 | p::us=>match qT (h p.1) (h' p.1) with
  | none=>false
  | some none=>jl h h' us
  | some (some q)=>kK q.1 q.2 && jl h h' us
theorem Ct(h h':Id->Option ad)(K:Option R):∀us:aB,qW h h' us K=cond (jl h h' us) K none
 | []=>rfl
 | p::us=>by
  have a:=Ct h h' K us;unfold qW jl;cases qT (h p.1) (h' p.1) with
  | none=>rfl
  | some q=>
   cases q with
   | none=>exact a
   | some q=>dsimp only;rw [Co,a,zt]
def iy(A:cC)(a:Bool)(o:Oper)(h:Id->Option ad)(us:aB):Bool:= !(a && A.oS o.dst o.type) || jl h (aK h us) us
theorem qU(A:cC)(a:Bool)(o:Oper)(h:Id->Option ad)(us:aB)(K:Option R):xo A a o h us K=cond (iy A a o h us) K none:=by unfold xo iy;rw [Ct];cases(a && A.oS o.dst o.type) <;> rfl
def eu(P:Program)(A:cC)(O:aq)(a:Bool)(nt:Nat)(b:Array Oper)(o:Oper)(s:St):Option St:=mR P A O a nt b o s some
theorem KM(P:Program)(A:cC)(O:aq)(a:Bool)(nt:Nat)(b:Array Oper)(o:Oper)(s:St)(K:St->Option R):mR P A O a nt b o s K= (eu P A O a nt b o s).bind K:=by
 unfold eu mR;rw [B6];congr 1;funext g;cases ou A a o g with
 | none=>
  dsimp only;rw [vC];congr 1;funext v u;rw [qU,qU];cases iy A a o s.h u with
  | false=>rfl
  | true=>simp only [cond_true];rw [cG];rfl
 | some d=>
  dsimp only;cases td nt o d with
  | false=>rfl
  | true=>
   cases d.c with
   | false=>rfl
   | true=>simp only [cond_true];rw [vC];congr 1;funext v u;rw [cG];rfl
def gZ(P:Program)(A:cC)(O:aq)(a:Bool)(nt:Nat)(b:Array Oper):List Oper->St->Option St
 | [],s=>some s
 | o::r,s=>(eu P A O a nt b o s).bind (gZ P A O a nt b r)
theorem x7(P:Program)(A:cC)(O:aq)(a:Bool)(nt:Nat)(b:Array Oper):∀(l:List Oper) (s:St) (K:St->Option R),rN P A O a nt b l s K= (gZ P A O a nt b l s).bind K
 | [],_,_=>rfl
 | o::r,s,K=>by simp only [rN,gZ,KM,N5];congr 1;funext s';exact x7 P A O a nt b r s' K
end
open Go
def pq(w:World):Prop:=Lib.TabIs Go.Proofs.Tryz.prog w "internal/strconv.uint64pow10" .u64 Lib.pow10Tab
def mB:Nat:=3
theorem IH:Go.Proofs.Tryz.prog.globalNamed "internal/strconv.uint64pow10" =some 0:=by kernel_rfl
theorem xd{w w':World}(a:∀b,b < mB->w'.heap[b]? =w.heap[b]?)(h:pq w):pq w':=by unfold pq Lib.TabIs World.var? at h⊢;rw [IH,NO] at h⊢;rw [a 0 (by decide)];exact h
def GlobOk(w:World):Prop:=pq w/\mB<=w.heap.size
open Go
structure Ctx where
 A0:Nat->Prop
 M:Nat->Prop
 N0:Nat
def Ctx.MO(c:Ctx)(b:Nat):Prop:=c.M b\/c.N0<=b
def AA(c:Ctx)(w:World)(O:Id->Option Nat)(b:Nat):Prop:=(c.A0 b\/c.MO b)/\b < w.heap.size/\∀i,O i≠some b
def cJ(w:World)(A:Nat->Prop)(sz:Nat)(b:Bool)(l:List (List T))(v:Value)(Q:Nat->Prop):Prop:=
 ∃a cap,v= .slice a l.length cap/\l.length<=cap/\(a=none↔b=true)/\True/\
  (cap=0\/∃af off arr t,a=some ⟨af,off,none⟩/\Q af/\w.heap[af]? =some (.cells arr t (0,0))/\off+cap * sz<=arr.size/\bf w A af sz off l)
def gL(w:World)(A:Nat->Prop)(ρ:Id->Option Value)(O:Id->Option Nat)(i:Id)(af sz col rsz base:Nat)(e:Row):Prop:=
 e.cs.length=sz/\col < sz/\(∀j x,j≠col->e.cs[j]? =some x->∃v,w.cell? ⟨af,base+j,none⟩=some v/\ay w A x v)/\
 ∃v,w.cell? ⟨af,base+col,none⟩=some v/\ρ (.g i e.n)=some v/\
  match e.own with
  | some p=>cJ w A rsz p.1 p.2 v (λb=>O (.g i e.n)=some b)
  | none=>O (.g i e.n)=none
def cv(w:World)(A:Nat->Prop)(ρ:Id->Option Value)(O:Id->Option Nat)(i:Id)(af sz col rsz:Nat):Nat->List Row->Prop
 | _,[]=>True
 | base,e::es=>gL w A ρ O i af sz col rsz base e/\cv w A ρ O i af sz col rsz (base+sz) es
def mo(ρ:Id->Option Value)(O:Id->Option Nat)(i:Id)(a:Nat)(es:List Row):Prop:=
 (es.map (·.n)).Nodup/\(∀e∈es,e.n < a)/\(∀n,a<=n->ρ (.g i n)=none)/\∀n b,O (.g i n)=some b->∃e∈es,e.n=n
def cP(w:World)(A:Nat->Prop)(ρ:Id->Option Value)(O:Id->Option Nat)(i:Id):ad->Prop
 | .box cs=>∃b arr t,ρ i=some (.pointer (some ⟨b,0,none⟩))/\O i=some b/\w.heap[b]? =some (.cells arr t (0,0))/\az w A ρ cs arr.toList/\
   (∀u∈arr.toList,u.oneCell'=true/\u.cells= #[u])
 | .sl fz sz b l=>∃v,ρ i=some v/\cJ w A sz b l v (λaf=>if fz=true then A af else O i=some af)/\(fz=true->O i=none)
 | .eE l=>∃b,ρ i=some (.pointer (some ⟨b,0,none⟩))/\O i=none/\A b/\bd w A b 0 l
 | .arr cs=>∃b arr t,ρ i=some (.slice (some ⟨b,0,none⟩) 1 1)/\O i=some b/\w.heap[b]? =some (.cells arr t (0,0))/\az w A ρ cs arr.toList/\
   (∀u∈arr.toList,u.oneCell'=true/\u.cells= #[u])
 | .mp ag ks vk es=>∃b d f,ρ i=some (.map (some b))/\O i=some b/\w.heap[b]? =some (.map d f)/\
   d.toList.map (λe=>(e.key,e.val))=es.map (λp=>(cY ag p.1,dt p.2))/\(es.all λp=>cm ks p.1 && dB vk p.2)=true
 | .rows b sz col rsz g es=>∃a cap,ρ i=some (.slice a es.length cap)/\es.length<=cap/\(a=none↔b=true)/\mo ρ O i g es/\
   (cap=0\/∃af off arr t,a=some ⟨af,off,none⟩/\O i=some af/\w.heap[af]? =some (.cells arr t (0,0))/\off+cap * sz<=arr.size/\cv w A ρ O i af sz col rsz off es)
 | .dead=>(∃v,ρ i=some v/\v.oneCell'=true/\v.cells= #[v])/\O i=none
structure HS (c:Ctx) (w:World) (h:Id->Option ad) (ρ:Id->Option Value) (O:Id->Option Nat):Prop where
 af:∀i b,h i=some b->cP w (AA c w O) ρ O i b
 cx:∀i,i.real=true->h i=none->ρ i=none/\O i=none
 dA:∀i n,h (.g i n)=none
 eM:∀i n,h i=none->ρ (.g i n)=none/\O (.g i n)=none
 gone:∀i n u,ρ (.g i n)=some u->u.oneCell'=true/\u.cells= #[u]
 inj:∀i j b,O i=some b->O j=some b->i=j
 lt:∀i b,O i=some b->b < w.heap.size
 own:∀i b,O i=some b->c.MO b
 size:c.N0<=w.heap.size
 glob:pq w/\mB<=c.N0/\∀b,b < mB->¬c.M b
structure Le (w:World) (ρ:Id->Option Value) (O:Id->Option Nat) (w':World) (ρ':Id->Option Value) (O':Id->Option Nat):Prop where
 os:w'.os=w.os
 output:w'.output=w.output
 tape:w'.tape=w.tape
 size:w.heap.size<=w'.heap.size
 dQ:∀i v,ρ i=some v->ρ' i=some v
 af:∀b,b < w.heap.size->(∀i,O i≠some b)->w'.heap[b]? =w.heap[b]?
 own:∀i b,O' i=some b->(∃j,O j=some b)\/w.heap.size<=b
section
variable {c:Ctx} {w w' w'':World} {h h':Id->Option ad} {ρ ρ' ρ'':Id->Option Value} {O O' O'':Id->Option Nat}
theorem Le.refl:Le w ρ O w ρ O:=⟨rfl,rfl,rfl,Oh _,λ_ _ h=>h,λ_ _ _=>rfl,λi b h=> .inl ⟨i,h⟩⟩
theorem Le.trans(a:Le w ρ O w' ρ' O')(b:Le w' ρ' O' w'' ρ'' O''):Le w ρ O w'' ρ'' O'' where
 os:=b.os.trans a.os
 output:=b.output.trans a.output
 tape:=b.tape.trans a.tape
 size:=OC a.size b.size
 dQ i v h:=b.dQ i v (a.dQ i v h)
 af k hk hn:=by
  rw [b.af k (OM hk a.size),a.af k hk hn];intro i hi;rcases a.own i k hi with⟨j,hj⟩ | h
  .exact hn j hj
  .omega
 own i k hi:=by
  rcases b.own i k hi with⟨j,hj⟩ | h
  .exact a.own j k hj
  .exact .inr (OC a.size h)
theorem Le.A(le:Le w ρ O w' ρ' O')(b:Nat)(a:AA c w O b):AA c w' O' b/\w'.heap[b]? =w.heap[b]?:=by
 refine⟨⟨a.1,OM a.2.1 le.size,λi d=> ?_⟩,le.af b a.2.1 a.2.2⟩;rcases le.own i b d with⟨j,e⟩ | h
 .exact a.2.2 j e
 .have:=a.2.1;omega
theorem cJ.mono{A A' Q g:Nat->Prop}{sz:Nat}{b:Bool}{l:List (List T)}{v:Value}(o:∀b,A b->A' b/\w'.heap[b]? =w.heap[b]?)
  (f:∀b,Q b->g b/\w'.heap[b]? =w.heap[b]?) (hs:cJ w A sz b l v Q):cJ w' A' sz b l v g:=by
 obtain⟨a,cap,j,k,m,n,e⟩:=hs;refine⟨a,cap,j,k,m,n, ?_⟩;rcases e with e | ⟨af,off,arr,t,i,d,e3,e4,e5⟩
 .exact .inl e
 .exact .inr ⟨af,off,arr,t,i,(f _ d).1,by rw [(f _ d).2];exact e3,e4,bf.lQ o af sz (f _ d).2 off l e5⟩
def oD(i:Id)(w:World)(ρ:Id->Option Value)(O:Id->Option Nat)(w':World)(ρ':Id->Option Value)(O':Id->Option Nat):Prop:=
 ∀n,ρ' (.g i n)=ρ (.g i n)/\O' (.g i n)=O (.g i n)/\∀b,O (.g i n)=some b->w'.heap[b]? =w.heap[b]?
theorem gL.mono{A A':Nat->Prop}{i:Id}{af sz col rsz base:Nat}{e:Row}(f:∀b,A b->A' b/\w'.heap[b]? =w.heap[b]?)(z:w'.heap[af]? =w.heap[af]?)(a:oD i w ρ O w' ρ' O')(h:gL w A ρ O i af sz col rsz base e):
  gL w' A' ρ' O' i af sz col rsz base e:=by
 obtain⟨m,o,q,v,r,t,y⟩:=h;have g:∀p,w'.cell? ⟨af,p,none⟩=w.cell? ⟨af,p,none⟩:=λp=>lA z;refine⟨m,o,λj x B C=> ?_,v,by rw [g];exact r,by rw [(a e.n).1];exact t, ?_⟩
 .obtain⟨u,l,d⟩:=q j x B C;exact⟨u,by rw [g];exact l,ay.mono f x u d⟩
 .revert y;cases e.own with
  | none=>intro h;simp only at h⊢;rw [(a e.n).2.1];exact h
  | some p=>intro d;refine cJ.mono f (λb k=> ?_) d;rw [(a e.n).2.1];exact⟨k,(a e.n).2.2 b k⟩
theorem cv.mono{A A':Nat->Prop}{i:Id}{af sz col rsz:Nat}(a:∀b,A b->A' b/\w'.heap[b]? =w.heap[b]?)(d:w'.heap[af]? =w.heap[af]?)(f:oD i w ρ O w' ρ' O'):∀{es:List Row} {base:Nat},cv w A ρ O i af sz col rsz base es->
  cv w' A' ρ' O' i af sz col rsz base es
 | [],_,_=>trivial
 | e::es,base,h=>⟨gL.mono a d f h.1,cv.mono a d f h.2⟩
theorem cJ.dH{A A' Q a:Nat->Prop}{sz:Nat}{b:Bool}{l:List (List T)}{v:Value}(d:∀b,A b->A' b/\w'.heap[b]? =w.heap[b]?)
  (e:∀b,Q b->a b/\w'.heap[b]? =w.heap[b]?) (hs:cJ w A sz b l v Q):cJ w' A' sz b l v a:=cJ.mono d e hs
theorem gL.move{A A':Nat->Prop}{i i':Id}{af blk' sz col rsz base a:Nat}{e:Row}(l:∀j,j < sz->w'.cell? ⟨blk',a+j,none⟩=w.cell? ⟨af,base+j,none⟩)(k:∀b,A b->A' b/\w'.heap[b]? =w.heap[b]?)
  (D:ρ' (.g i' e.n)=ρ (.g i e.n)) (f:O' (.g i' e.n)=O (.g i e.n)) (E:∀b,O (.g i e.n)=some b->w'.heap[b]? =w.heap[b]?) (h:gL w A ρ O i af sz col rsz base e):gL w' A' ρ' O' i' blk' sz col rsz a e:=by
 obtain⟨q,d,r,v,t,y,z⟩:=h;refine⟨q,d,λj x F o=> ?_,v,by rw [l _ d];exact t,by rw [D];exact y, ?_⟩
 .obtain⟨u,B,C⟩:=r j x F o;have:=(NQ.1 o).1;exact⟨u,by rw [l j (by omega)];exact B,ay.mono k x u C⟩
 .revert z;cases e.own with
  | none=>intro h;simp only at h⊢;rw [f];exact h
  | some p=>intro g;refine cJ.mono k (λb m=> ?_) g;rw [f];exact⟨m,E b m⟩
theorem cv.move{A A':Nat->Prop}{i i':Id}{af blk' sz col rsz:Nat}(d:∀b,A b->A' b/\w'.heap[b]? =w.heap[b]?):∀{es:List Row} {base a:Nat},
  (∀p,p < es.length * sz->w'.cell? ⟨blk',a+p,none⟩=w.cell? ⟨af,base+p,none⟩)->(∀e∈es,ρ' (.g i' e.n)=ρ (.g i e.n)/\O' (.g i' e.n)=O (.g i e.n)/\∀b,O (.g i e.n)=some b->w'.heap[b]? =w.heap[b]?)->
  cv w A ρ O i af sz col rsz base es->cv w' A' ρ' O' i' blk' sz col rsz a es
 | [],_,_,_,_,_=>trivial
 | e::es,base,a,f,k,h=>by
  have el:(e::es).length * sz=sz+es.length * sz:=by simp [OJ];omega
  obtain⟨l,m,o⟩:=k e NN;refine⟨gL.move (λj r=>f j (by omega)) d l m o h.1,cv.move d (λp t=> ?_) (λe q=>k e (NP _ q)) h.2⟩;rw [PO,PO];exact f (sz+p) (by omega)
theorem cv.append{A:Nat->Prop}{i:Id}{af sz col rsz:Nat}:∀{es a:List Row} {base:Nat},cv w A ρ O i af sz col rsz base es->cv w A ρ O i af sz col rsz (base+es.length * sz) a->cv w A ρ O i af sz col rsz base (es++a)
 | [],a,base,_,h=>by simpa using h
 | e::es,a,base,h,h'=>by
  refine⟨h.1,cv.append h.2 ?_⟩;have:base+sz+es.length * sz=base+ (e::es).length * sz:=by simp [OJ];omega
  rw [this];exact h'
theorem cv.set{A A':Nat->Prop}{i:Id}{af sz col rsz:Nat}{x:Row}(l:∀b,A b->A' b/\w'.heap[b]? =w.heap[b]?):∀{es:List Row} {base k:Nat},k < es.length->
  (∀p,base<=p->p < base+es.length * sz->¬(base+k * sz<=p/\p < base+k * sz+sz)->w'.cell? ⟨af,p,none⟩=w.cell? ⟨af,p,none⟩)->
  (∀j e,j≠k->es[j]? =some e->ρ' (.g i e.n)=ρ (.g i e.n)/\O' (.g i e.n)=O (.g i e.n)/\∀b,O (.g i e.n)=some b->w'.heap[b]? =w.heap[b]?)->
  gL w' A' ρ' O' i af sz col rsz (base+k * sz) x->cv w A ρ O i af sz col rsz base es->cv w' A' ρ' O' i af sz col rsz base (es.set k x)
 | [],_,_,f,_,_,_,_=>by simp at f
 | e::es,base,0,f,a,d,q,h=>by
  have el:(e::es).length * sz=sz+es.length * sz:=by simp [OJ];omega
  refine⟨by simpa using q,cv.move l (λp y=>a _ (by omega) (by omega) (by omega)) (λe' m=> ?_) h.2⟩;obtain⟨j,o⟩:=P2.1 m;exact d (j+1) e' (by omega) (by simpa using o)
 | e::es,base,k+1,f,a,d,q,h=>by
  have el:(e::es).length * sz=sz+es.length * sz:=by simp [OJ];omega
  have v:(k+1) * sz=sz+k * sz:=by rw [OJ];omega
  obtain⟨r,t,u⟩:=d 0 e (by omega) rfl;refine⟨gL.move (λj o=>a _ (by omega) (by omega) (by omega)) l r t u h.1,cv.set l (by simpa using f) (λp z B C=>a p (by omega) (by omega) (by omega)) (λj e' o m=>d (j+1) e' (by omega) (by simpa using m)) ?_ h.2⟩;rw [show base+sz+k * sz=base+ (k+1) * sz by omega];exact q
theorem mo.mono{i:Id}{e:Nat}{es:List Row}(d:oD i w ρ O w' ρ' O')(h:mo ρ O i e es):mo ρ' O' i e es:=
 ⟨h.1,h.2.1,λn a=>by rw [(d n).1];exact h.2.2.1 n a,λn b a=>by rw [(d n).2.1] at a;exact h.2.2.2 n b a⟩
theorem cP.mono{A A':Nat->Prop}{i:Id}(q:oD i w ρ O w' ρ' O')(j:∀b,A b->A' b/\w'.heap[b]? =w.heap[b]?)(e:∀i v,ρ i=some v->ρ' i=some v)(g:O' i=O i)
  (k:∀b,O i=some b->w'.heap[b]? =w.heap[b]?):∀{b:ad},cP w A ρ O i b->cP w' A' ρ' O' i b
 | .box cs,⟨b,arr,t,f,d,e3,e4,e5⟩=>⟨b,arr,t,e _ _ f,by rw [g];exact d,by rw [k _ d];exact e3,az.mono j e cs _ e4,e5⟩
 | .sl fz sz b l,⟨v,f,d,e3⟩=>by
  refine⟨v,e _ _ f,cJ.mono j (λb m=> ?_) d,by rw [g];exact e3⟩;cases fz
  .simp only [Od,if_false] at m⊢;exact⟨by rw [g];exact m,k _ m⟩
  .simp only [if_true] at m⊢;exact j _ m
 | .eE l,⟨b,f,d,e3,e4⟩=>⟨b,e _ _ f,by rw [g];exact d,(j b e3).1,bd.mono j b e3 0 l e4⟩
 | .arr cs,⟨b,arr,t,f,d,e3,e4,e5⟩=>⟨b,arr,t,e _ _ f,by rw [g];exact d,by rw [k _ d];exact e3,az.mono j e cs _ e4,e5⟩
 | .mp ag ks vk es,⟨b,o,n,f,d,e3,e4,e5⟩=>⟨b,o,n,e _ _ f,by rw [g];exact d,by rw [k _ d];exact e3,e4,e5⟩
 | .rows b sz col rsz z es,h=>by
  obtain⟨a,cap,f,d,e3,e4,e5⟩:=h;refine⟨a,cap,e _ _ f,d,e3,e4.mono q, ?_⟩;rcases e5 with e5 | ⟨af,off,arr,t,r,p,u,x,y⟩
  .exact .inl e5
  .exact .inr ⟨af,off,arr,t,r,by rw [g];exact p,by rw [k _ p];exact u,x,y.mono j (k _ p) q⟩
 | .dead,⟨⟨v,f,e3⟩,d⟩=>⟨⟨v,e _ _ f,e3⟩,by rw [g];exact d⟩
def GK(w:World)(ρ:Id->Option Value)(O:Id->Option Nat)(w':World)(ρ':Id->Option Value)(O':Id->Option Nat):Prop:= ∀i,oD i w ρ O w' ρ' O'
theorem GK.refl:GK w ρ O w ρ O:=λ_ _=>⟨rfl,rfl,λ_ _=>rfl⟩
theorem HS.real(hs:HS c w h ρ O){i:Id}(a:h i≠none):i.real=true:=by
 cases i with
 | g i n=>exact(a (hs.dA i n)).elim
 | _=>rfl
theorem HS.mC(hs:HS c w h ρ O)(le:Le w ρ O w' ρ' O')
  (hblk:∀i b,h' i=some b->(h i=some b/\O' i=O i/\(∀af,O i=some af->w'.heap[af]? =w.heap[af]?)/\oD i w ρ O w' ρ' O')\/cP w' (AA c w' O') ρ' O' i b)
  (hnone:∀i,i.real=true->h' i=none->ρ' i=none/\O' i=none) (hnog:∀i n,h' (.g i n)=none)
  (hgd:∀i n,h' i=none->ρ' (.g i n)=none/\O' (.g i n)=none) (hgo:∀i n u,ρ' (.g i n)=some u->u.oneCell'=true/\u.cells= #[u])
  (inj:∀i j b,O' i=some b->O' j=some b->i=j) (lt:∀i b,O' i=some b->b < w'.heap.size):HS c w' h' ρ' O' where
 af i b hb:=by
  rcases hblk i b hb with⟨h1,h2,h3,h4⟩ | h1
  .exact cP.mono h4 (λb ha=>le.A b ha) le.dQ h2 h3 (hs.af i b h1)
  .exact h1
 cx:=hnone
 dA:=hnog
 eM:=hgd
 gone:=hgo
 inj:=inj
 lt:=lt
 own i b hi:=by
  rcases le.own i b hi with⟨j,hj⟩ | h
  .exact hs.own j b hj
  .exact .inr (OC hs.size h)
 size:=OC hs.size le.size
 glob:=⟨xd (λb hb=>le.af b (OM hb (OC hs.glob.2.1 hs.size)) λi hi=>by
  rcases hs.own i b hi with h | h
  .exact hs.glob.2.2 b hb h
  .have:=hs.glob.2.1;omega) hs.glob.1,hs.glob.2⟩
theorem HS.ok(hs:HS c w h ρ O):GlobOk w:=⟨hs.glob.1,OC hs.glob.2.1 hs.size⟩
theorem HS.go(hs:HS c w h ρ O)(le:Le w ρ O w' ρ' O')(a:GK w ρ O w' ρ' O')
  (f:∀i b,h' i=some b->(h i=some b/\O' i=O i/\(∀af,O i=some af->w'.heap[af]? =w.heap[af]?))\/cP w' (AA c w' O') ρ' O' i b)
  (d:∀i,i.real=true->h' i=none->ρ' i=none/\O' i=none) (q:∀i,h' i=none->h i=none) (k:∀i n,h' (.g i n)=none)
  (inj:∀i j b,O' i=some b->O' j=some b->i=j) (lt:∀i b,O' i=some b->b < w'.heap.size):HS c w' h' ρ' O':=
 hs.mC le (λi b p=>by
  rcases f i b p with⟨e,m,o⟩ | e
  .exact .inl ⟨e,m,o,a i⟩
  .exact .inr e) d k (λi n r=>by
  have:=hs.eM i n (q i r);rw [(a i n).1,(a i n).2.1];exact this) (λi n u l=>by rw [(a i n).1] at l;exact hs.gone i n u l) inj lt
theorem HS.world(hs:HS c w h ρ O)(le:Le w ρ O w' ρ O)(dH:∀i af,O i=some af->w'.heap[af]? =w.heap[af]?):HS c w' h ρ O:=
 hs.go le (λi n=>⟨rfl,rfl,λb a=>dH _ b a⟩) (λi _ a=> .inl ⟨a,rfl,λaf h=>dH i af h⟩) hs.cx (λ_ h=>h) hs.dA hs.inj λi b h=>OM (hs.lt i b h) le.size
def aH{α:Type}(f:Id->Option α)(i:Id)(v:Option α):Id->Option α:=λj=>if j=i then v else f j
@[simp] theorem aA {α:Type} (f:Id->Option α) (i:Id) (v:Option α):aH f i v i=v:=by simp [aH]
theorem ax{α:Type}(f:Id->Option α){i j:Id}(v:Option α)(h:j≠i):aH f i v j=f j:=by simp [aH,h]
theorem du(h:Id->Option ad)(i:Id)(b:ad):aK h [(i,b)]=aH h i (some b):=rfl
theorem cN(h:Id->Option ad)(i:Id)(b:ad)(us:aB):aK h ((i,b)::us)=aK (aH h i (some b)) us:=rfl
theorem ke(h:Id->Option ad):∀(us vs:aB),aK h (us++vs)=aK (aK h us) vs
 | [],_=>rfl
 | (i,b)::us,vs=>by simp only [OL,cN];exact ke _ us vs
theorem aQ{i j:Id}{n:Nat}(a:i.real=true):Id.g j n≠i:=by rintro rfl;cases a
theorem Le.alloc(hs:HS c w h ρ O){i:Id}(hr:i.real=true)(hi:h i=none)(o:Obj)(v:Value)(ob:Option Nat)(hob:ob=none\/ob=some w.heap.size):
  Le w ρ O (w.alloc o) (aH ρ i (some v)) (aH O i ob) where
 os:=rfl
 output:=rfl
 tape:=rfl
 size:=by simp
 dQ j u hj:=by
  by_cases e:j=i
  .subst e;rw [(hs.cx _ hr hi).1] at hj;cases hj
  .rw [ax _ _ e];exact hj
 af b hb _:=Oy _ _ _ hb
 own j b hj:=by
  by_cases e:j=i
  .subst e;rw [aA] at hj;rcases hob with rfl | rfl
   .cases hj
   .cases hj;exact .inr (Oh _)
  .rw [ax _ _ e] at hj;exact .inl ⟨j,hj⟩
theorem HS.alloc(hs:HS c w h ρ O){i:Id}(l:i.real=true)(r:h i=none)(o:Obj)(v:Value)(ob:Option Nat)(g:ob=none\/ob=some w.heap.size)(b:ad)
  (m:cP (w.alloc o) (AA c (w.alloc o) (aH O i ob)) (aH ρ i (some v)) (aH O i ob) i b):
  HS c (w.alloc o) (aH h i (some b)) (aH ρ i (some v)) (aH O i ob):=by
 refine hs.go (Le.alloc hs l r o v ob g) (λj n=>⟨ax _ _ (aQ l),ax _ _ (aQ l),λb m=>Oy _ _ _ (hs.lt _ b m)⟩) (λj t a=> ?_) (λj q a=> ?_) (λj a=> ?_) (λj n=>by rw [ax _ _ (aQ l)];exact hs.dA j n) (λj k d a f=> ?_) (λj d a=> ?_)
 .by_cases e:j=i
  .subst e;rw [aA] at a;cases a;exact .inr m
  .rw [ax _ _ e] at a;exact .inl ⟨a,ax _ _ e,λaf p=>Oy _ _ _ (hs.lt j af p)⟩
 .by_cases e:j=i
  .subst e;rw [aA] at a;cases a
  .rw [ax _ _ e] at a;rw [ax _ _ e,ax _ _ e];exact hs.cx j q a
 .by_cases e:j=i
  .subst e;rw [aA] at a;cases a
  .rw [ax _ _ e] at a;exact a
 .by_cases e:j=i <;> by_cases e':k=i
  .rw [e,e']
  .exfalso;rw [ax _ _ e'] at f;subst e;rw [aA] at a;rcases g with rfl | rfl
   .cases a
   .cases a;exact Pa _ (hs.lt _ _ f)
  .exfalso;rw [ax _ _ e] at a;subst e';rw [aA] at f;rcases g with rfl | rfl
   .cases f
   .cases f;exact Pa _ (hs.lt _ _ a)
  .rw [ax _ _ e] at a;rw [ax _ _ e'] at f;exact hs.inj j k d a f
 .by_cases e:j=i
  .subst e;rw [aA] at a;rcases g with rfl | rfl
   .cases a
   .cases a;simp
  .rw [ax _ _ e] at a;have:=hs.lt j d a;simp;omega
theorem Le.release{i:Id}:Le w ρ O w ρ (aH O i none) where
 os:=rfl
 output:=rfl
 tape:=rfl
 size:=Oh _
 dQ _ _ h:=h
 af _ _ _:=rfl
 own j b hj:=by
  by_cases e:j=i
  .subst e;rw [aA] at hj;cases hj
  .rw [ax _ _ e] at hj;exact .inl ⟨j,hj⟩
theorem HS.release(hs:HS c w h ρ O){i:Id}(l:i.real=true)(b:ad)(m:cP w (AA c w (aH O i none)) ρ (aH O i none) i b):HS c w (aH h i (some b)) ρ (aH O i none):=by
 refine hs.go Le.release (λj n=>⟨rfl,ax _ _ (aQ l),λ_ _=>rfl⟩) (λj o a=> ?_) (λj g a=> ?_) (λj a=> ?_) (λj n=>by rw [ax _ _ (aQ l)];exact hs.dA j n) (λj k d a f=> ?_) (λj d a=> ?_)
 .by_cases e:j=i
  .subst e;rw [aA] at a;cases a;exact .inr m
  .rw [ax _ _ e] at a;exact .inl ⟨a,ax _ _ e,λ_ _=>rfl⟩
 .by_cases e:j=i
  .subst e;rw [aA] at a;cases a
  .rw [ax _ _ e] at a⊢;exact hs.cx j g a
 .by_cases e:j=i
  .subst e;rw [aA] at a;cases a
  .rw [ax _ _ e] at a;exact a
 .by_cases e:j=i
  .subst e;rw [aA] at a;cases a
  .by_cases e':k=i
   .subst e';rw [aA] at f;cases f
   .rw [ax _ _ e] at a;rw [ax _ _ e'] at f;exact hs.inj j k d a f
 .by_cases e:j=i
  .subst e;rw [aA] at a;cases a
  .rw [ax _ _ e] at a;exact hs.lt j d a
theorem HS.freeze(hs:HS c w h ρ O){i:Id}{sz:Nat}{b:Bool}{l:List (List T)}(f:h i=some (.sl false sz b l)):
  HS c w (aH h i (some (.sl true sz b l))) ρ (aH O i none):=by
 refine hs.release (hs.real (by rw [f];simp)) _ ?_;obtain⟨v,g,k,e3⟩:=hs.af i _ f;refine⟨v,g, ?_,λ_=>by simp⟩;simp only [if_true];have m:∀b,AA c w O b->AA c w (aH O i none) b/\w.heap[b]? =w.heap[b]?:=λb n=>(Le.release (ρ:=ρ) (i:=i)).A b n;refine cJ.mono m (λaf d=> ?_) k;simp only [Od,if_false] at d;refine⟨⟨.inr (hs.own i af d),hs.lt i af d,λj a=> ?_⟩,rfl⟩;by_cases e:j=i
 .subst e;rw [aA] at a;cases a
 .rw [ax _ _ e] at a;exact e (hs.inj j i af a d)
theorem HS.IC(hs:HS c w h ρ O){i:Id}{cs:List AV}{l:List T}(f:h i=some (.box cs))(hl:dJ cs=some l):
  HS c w (aH h i (some (.eE l))) ρ (aH O i none):=by
 refine hs.release (hs.real (by rw [f];simp)) _ ?_;obtain⟨b,arr,t,k,d,e3,e4,e5⟩:=hs.af i _ f;have o:∀b,AA c w O b->AA c w (aH O i none) b/\w.heap[b]? =w.heap[b]?:=λb q=>(Le.release (ρ:=ρ) (i:=i)).A b q;have y:AA c w (aH O i none) b:=⟨.inr (hs.own i b d),hs.lt i b d,λj a=>by
  by_cases e:j=i
  .subst e;rw [aA] at a;cases a
  .rw [ax _ _ e] at a;exact e (hs.inj j i b a d)⟩
 refine⟨b,k,by simp,y, ?_⟩;have p:=aU.jr hl e4;have key:∀(l:List T) (vs:List Value) (off:Nat),aU w (AA c w O) l vs->(∀j v,vs[j]? =some v->w.cell? ⟨b,off+j,none⟩=some v)->bd w (AA c w (aH O i none)) b off l:=by
  intro l;induction l with
  | nil=>intro vs off _ _;simp [bd]
  | cons x l z=>rintro vs off ⟨v,r,rfl,m,n⟩ g;simp only [bd];refine⟨⟨v,by simpa using g 0 v rfl,ay.mono o x v m⟩,z r (off+1) n λj u a=> ?_⟩;have:=g (j+1) u (by simpa using a);rw [show off+1+j=off+ (j+1) by omega];exact this
 refine key l _ 0 p λj v a=> ?_;simp only [World.cell?,e3,Ov];simpa using a
theorem Le.write{b:Nat}{i:Id}(hi:O i=some b)(hos:w'.os=w.os)(ho:w'.output=w.output)(ht:w'.tape=w.tape)(hsz:w'.heap.size=w.heap.size)(hk:∀k,k≠b->w'.heap[k]? =w.heap[k]?):Le w ρ O w' ρ O where
 os:=hos
 output:=ho
 tape:=ht
 size:=Nat.le_of_eq hsz.symm
 dQ _ _ h:=h
 af k _ hn:=hk k λe=>hn i (e▸hi)
 own j b hj:= .inl ⟨j,hj⟩
theorem HS.write(hs:HS c w h ρ O){b:Nat}{i:Id}(l:O i=some b)(le:Le w ρ O w' ρ O)(o:∀k,k≠b->w'.heap[k]? =w.heap[k]?)(x:ad)
  (q:cP w' (AA c w' O) ρ O i x) (g:h i≠none):HS c w' (aH h i (some x)) ρ O:=by
 have p:=hs.real g;refine hs.go le (λj n=>⟨rfl,rfl,λd g=>o d λe=>aQ p (hs.inj _ i b (e▸g) l)⟩) (λj r a=> ?_) (λj m a=> ?_) (λj a=> ?_) (λj n=>by rw [ax _ _ (aQ p)];exact hs.dA j n) hs.inj (λj d a=>OM (hs.lt j d a) le.size)
 .by_cases e:j=i
  .subst e;rw [aA] at a;cases a;exact .inr q
  .rw [ax _ _ e] at a;exact .inl ⟨a,rfl,λaf f=>o af λe'=>e (hs.inj j i b (e'▸f) l)⟩
 .by_cases e:j=i
  .subst e;rw [aA] at a;cases a
  .rw [ax _ _ e] at a;exact hs.cx j m a
 .by_cases e:j=i
  .subst e;rw [aA] at a;cases a
  .rw [ax _ _ e] at a;exact a
end
def SS(w:World)(A:Nat->Prop)(ρ:Id->Option Value)(s:Nat->Option Gs×AV)(tmps:Array Value):Prop:=
 ∀k,match s k with
  | (none,v)=>aj w A ρ v (tmps.getD k undef)
  | (some g,v)=>(tmps.getD g.d undef= .bool g.want/\g.c=true/\aj w A ρ v (tmps.getD k undef))\/(tmps.getD g.d undef≠ .bool g.want/\g.c=false/\tmps.getD k undef=undef)
section
variable {c:Ctx} {w w':World} {ρ ρ':Id->Option Value} {A A':Nat->Prop} {s:Nat->Option Gs×AV} {tmps:Array Value}
theorem SS.mono(e:∀b,A b->A' b/\w'.heap[b]? =w.heap[b]?)(a:∀i v,ρ i=some v->ρ' i=some v)(hs:SS w A ρ s tmps):SS w' A' ρ' s tmps:=by
 intro k;have:=hs k;revert this;split
 .intro this;exact aj.mono e a _ _ this
 .intro this;rcases this with⟨d,f,g⟩ | d
  .exact .inl ⟨d,f,aj.mono e a _ _ g⟩
  .exact .inr d
def je(tmps:Array Value):Option Gs->Prop
 | none=>True
 | some g=>tmps.getD g.d undef= .bool g.want/\g.c=true
theorem je.cond{g:Option Gs}(h:je tmps g):g.map (·.c)=none\/g.map (·.c)=some true:=by
 cases g with
 | none=>exact .inl rfl
 | some g=>exact .inr (by simp [h.2])
theorem K3(v:Value):aj w A ρ (vO v) v:=by
 have one:∀(u:Value) (x:T),mO u=some x->ay w A x u:=by
  intro u x e;cases u <;> simp only [mO,NL,reduceCtorEq] at e
  case slice a l i=>split at e <;> simp_all;subst e;simp [ay]
  case pointer a=>split at e <;> simp_all;subst e;simp [ay]
  case map a=>split at e <;> simp_all;subst e;simp [ay]
  all_goals (subst e;simp [ay])
 have all:∀(us:List Value) (l:List T),jN us=some l->aU w A l us:=by
  intro us;induction us with
  | nil=>intro l e;simp only [jN,NL] at e;subst e;rfl
  | cons u us f=>
   intro l e;simp only [jN] at e;cases b:mO u with
   | none=>simp [b] at e
   | some x=>
    cases d:jN us with
    | none=>simp [b,d] at e
    | some g=>simp only [b,d,NO,NL] at e;subst e;exact⟨u,us,rfl,one u x b,f g d⟩
 unfold vO;split
 .rename_i cs;split
  .rename_i l e;simp only [aj];have:=all cs.toList l e;refine⟨cs.toList,by simp,az.jO this, ?_⟩;have key:∀(l:List T) (us:List Value),aU w A l us->∀u∈us,u.oneCell'=true/\u.cells= #[u]:=by
    intro l;induction l with
    | nil=>intro us hu;simp only [aU] at hu;subst hu;simp
    | cons x l f=>
     intro us ⟨v,r,e,b,d⟩ u hu;subst e;rcases N2.1 hu with rfl | hu
     .exact b.n9
     .exact f r d u hu
   exact key l _ this
  .simp [aj]
 .split
  .rename_i x e;simp only [aj];exact one _ x e
  .simp [aj]
theorem SS.get{a:Act}{h:Id->Option ad}(hs:SS w A ρ s a.tmps){g:Option Gs}(m:je a.tmps g)(x:Operand):aj w A ρ (St.get ⟨s,h⟩ g x) (a.eval x):=by
 cases x with
 | tmp k=>
  simp only [St.get,Act.eval];have:=hs k;split at this
  .rename_i v e;simp only [e,jv,cond_true];exact this
  .rename_i d v e;simp only [e];cases g with
   | none=>simp [jv,aj]
   | some i=>
    by_cases b:jv (some d) (some i)=true
    .simp only [b,cond_true];simp only [jv,NT,beq_iff_eq] at b;rcases this with⟨_,_,l⟩ | ⟨j,_⟩
     .exact l
     .exfalso;apply j;rw [b.1,b.2];exact m.1
    .simp only [Ps] at b;simp [b,aj]
 | const v=>exact K3 v
 | func f=>simp only [St.get,Act.eval,aj];exact⟨[],[],rfl,by simp [az],by simp [az]⟩
 | global g=>simp [St.get,aj]
theorem SS.kI{a:Act}{h:Id->Option ad}(hs:SS w A ρ s a.tmps){g:Option Gs}(l:je a.tmps g)(cs x:Operand)(want:Bool)(i:a.eval cs= .bool want):
  aj w A ρ (St.kI ⟨s,h⟩ g cs want x) (a.eval x):=by
 unfold St.kI;split
 .rename_i d k;simp only [Act.eval] at i⊢;have:=hs k;split
  .rename_i f v e;simp only [e] at this;by_cases b:(f.d==d && f.want==want)=true
   .simp only [b,Pb,cond_true];simp only [NT,beq_iff_eq] at b;rcases this with⟨_,_,n⟩ | ⟨m,_⟩
    .exact n
    .exfalso;apply m;rw [b.1,b.2];exact i
   .simp only [Ps] at b;simp only [b,Om];have j:=SS.get (h:=h) hs l (.tmp k);simp only [St.get,e,Act.eval] at j;exact j
  .rename_i v e;simp only [e] at this;exact this
 .exact SS.get hs l _
end
end Go.Aev
