import Derived.WalkKit
import Derived.Test.YtcjplcpngagalaaDoorChecked
import Derived.Lib.ItoaNum
import Derived.Lib.LaidTab
set_option linter.all false
namespace Go.Aev
open Go
abbrev Qy:=@Option.some.injEq
abbrev Qz:=@Option.bind_eq_some_iff
abbrev QA:=@List.mem_cons_self
abbrev QB:=@List.mem_cons_of_mem
abbrev QC:=@List.getElem?_eq_some_iff
abbrev QD:=@Option.bind_some
abbrev QE:=@Bool.not_true
abbrev QF:=@Bool.and_eq_true
abbrev QG:=@Bool.not_false
abbrev QH:=@List.mem_of_getElem?
abbrev QI:=@List.getD_eq_getElem?_getD
abbrev QJ:=@List.length_cons
abbrev QK:=@List.getElem?_eq_getElem
abbrev QL:=@List.mem_singleton
abbrev QM:=@List.length_singleton
abbrev QN:=@List.mem_cons
abbrev QO:=@Result.andThen_ok
abbrev QP:=@List.mem_append_right
abbrev QQ:=@List.mem_append_left
abbrev QR:=@List.mem_append
abbrev QS:=@Option.bind_assoc
abbrev QT:=@List.getElem?_append_left
abbrev QU:=@List.all_eq_true
abbrev QV:=@Nat.le_refl
abbrev QW:=@List.length_nil
abbrev QX:=@List.append_nil
abbrev QY:=@Sem.run_bind
abbrev QZ:=@ByteArray.size_append
abbrev Q6:=@List.append_assoc
abbrev Q7:=@List.length_eq_zero_iff
abbrev Q8:=@Int.toNat_natCast
abbrev Q9:=@Bool.false_eq_true
abbrev Ra:=@Array.length_toList
abbrev Rb:=@List.mem_map
abbrev Rc:=@List.map_cons
abbrev Rd:=@Array.mem_of_getElem?
abbrev Re:=@Int.natCast_zero
abbrev Rf:=@List.singleton_append
abbrev Rg:=@List.getElem?_append_right
abbrev Rh:=@Nat.zero_add
abbrev Ri:=@Bool.false_or
abbrev Rj:=@Sem.run_pure
abbrev Rk:=@Prod.mk.injEq
abbrev Rl:=@Int.lt_irrefl
abbrev Rm:=@List.any_eq_false
abbrev Rn:=@Go.RowKit.Below.heap_alloc
abbrev Ro:=@List.length_append
abbrev Rp:=@Array.all_eq_true_iff_forall_mem
abbrev Rq:=@Bool.or_eq_true
abbrev Rr:=@List.length_map
abbrev Rs:=@List.cons_append
abbrev Rt:=@Nat.le_trans
abbrev Ru:=@Array.getElem?_toList
abbrev Rv:=@Bool.not_eq_true'
abbrev Rw:=@List.length_take
abbrev Rx:=@Nat.mul_le_mul_right
abbrev Ry:=@Nat.succ_mul
abbrev Rz:=@List.map_nil
abbrev RA:=@Addr.mk.injEq
abbrev RB:=@Bool.true_and
abbrev RC:=@Nat.lt_of_lt_of_le
abbrev RD:=@Bool.or_eq_false_iff
abbrev RE:=@List.getElem?_cons_zero
abbrev RF:=@Value.slice.injEq
abbrev RG:=@List.map_congr_left
abbrev RH:=@List.cons.injEq
abbrev RI:=@List.getElem?_map
abbrev RJ:=@List.getElem?_of_mem
abbrev RK:=@List.head?_cons
abbrev RL:=@Nat.zero_le
abbrev RM:=@List.length_drop
abbrev RN:=@List.nodup_cons
abbrev RO:=@List.nil_append
abbrev RP:=@Bool.false_and
abbrev RQ:=@List.any_cons
abbrev RR:=@List.not_mem_nil
abbrev RS:=@List.replicate_succ
abbrev RT:=@List.getElem?_set
abbrev RU:=@List.size_toArray
abbrev RV:=@List.ext_getElem?
abbrev RX:=@List.all_cons
abbrev RY:=@Array.getD_eq_getD_getElem?
abbrev RZ:=@List.getElem?_cons_succ
abbrev R0:=@Nat.lt_irrefl
abbrev R1:=@Bool.and_true
abbrev R2:=@Option.map_eq_some_iff
abbrev R4:=@Bool.and_false
abbrev R5:=@List.nodup_append
abbrev R6:=@Value.pointer.injEq
abbrev R7:=@List.getElem?_eq_none
abbrev R8:=@List.length_replicate
abbrev R9:=@Bool.true_or
abbrev Sa:=@Option.isSome_iff_exists
abbrev Sb:=@List.isEmpty_iff
abbrev Sc:=@Nat.sub_self
abbrev Sd:=@List.flatten_cons
abbrev Se:=@Option.map_some
abbrev Sf:=@MapKept.run_getObj_map
abbrev Sg:=@List.getElem?_set_self
abbrev Sh:=@Array.ext'
abbrev Si:=@Bool.not_eq_true
abbrev Sj:=@Option.getD_some
abbrev Sk:=@List.prefix_refl
abbrev Sl:=@List.any_eq_true
abbrev Sm:=@Array.getElem?_eq_getElem
abbrev Sn:=@List.mem_or_eq_of_mem_set
abbrev So:=@Nat.add_mul
abbrev Sp:=@List.mem_of_mem_take
abbrev Sq:=@List.getElem?_mapIdx
abbrev Sr:=@List.take_append_of_le_length
abbrev Ss:=@List.tail_cons
abbrev Su:=@List.getElem_mem
abbrev Sv:=@List.drop_eq_nil_of_le
abbrev Sw:=@List.length_eq_one_iff
abbrev Sx:=@Bool.not_eq_false'
abbrev Sy:=@List.getElem?_take
abbrev Sz:=@List.getElem?_drop
abbrev SB:=@Classical.choose_spec
abbrev SC:=@List.getElem?_toArray
abbrev SD:=@List.map_append
abbrev SE:=@List.length_set
abbrev SF:=@Nat.add_assoc
abbrev SG:=@List.take_add_one
abbrev SH:=@List.drop_eq_getElem_cons
abbrev SI:=@List.mem_of_mem_drop
abbrev SJ:=@Option.isNone_iff_eq_none
abbrev SK:=@Nat.add_zero
abbrev SL:=@List.set_cons_succ
abbrev SM:=@Array.any_eq_true'
abbrev SN:=@MapKept.run_setObj_map
abbrev SO:=@List.mem_iff_getElem?
abbrev SP:=@Iff.rfl
abbrev SQ:=@List.map_map
abbrev SR:=@Array.toList_extract
abbrev SU:=@List.range'_succ
abbrev SV:=@Nat.mod_eq_of_lt
abbrev SW:=@Nat.lt_succ_self
abbrev SX:=@Nat.le_add_right
abbrev SY:=@List.getElem?_set_ne
abbrev SZ:=@Option.ne_none_iff_exists'
abbrev S0:=@Array.getElem?_eq_some_iff
abbrev S1:=@List.take_succ_cons
abbrev S2:=@List.extract_eq_take_drop
abbrev S3:=@Classical.byContradiction
abbrev S4:=@List.set_cons_zero
abbrev S5:=@List.prefix_append
abbrev S6:=@List.mem_filterMap
abbrev S7:=@List.getElem?_take_of_lt
abbrev S8:=@UInt8.toNat_ofNat'
abbrev S9:=@List.drop_drop
abbrev Ta:=@List.nodup_nil
abbrev Tb:=@Int.eq_ofNat_of_zero_le
abbrev Tc:=@Array.size_append
abbrev Td:=@List.take_of_length_le
abbrev Te:=@Array.toList_map
abbrev Tf:=@List.take_length
abbrev Tg:=@Eq.trans
abbrev Th:=@Ne.symm
abbrev Ti:=@Array.getElem?_setIfInBounds_ne
abbrev Tj:=@List.range_eq_range'
abbrev Tk:=@Int.mul_le_mul_of_nonneg_right
abbrev Tl:=@Nat.lt_or_ge
abbrev Tm:=@Option.map_none
abbrev Tn:=@Classical.em
abbrev To:=@Bool.or_true
abbrev Tp:=@BitVec.ofInt_natCast
abbrev Tq:=@List.pairwise_append
abbrev Ts:=@Int.mul_le_mul_of_nonneg_left
abbrev Tt:=@List.mem_range
abbrev Tu:=@List.drop_zero
abbrev Tv:=@Option.isNone_none
abbrev Tw:=@BitVec.toNat_ofNat
abbrev Tx:=@List.isEmpty_cons
abbrev Tz:=@Option.getD_none
abbrev TA:=@List.map_set
abbrev TB:=@List.idxOf_lt_length_iff
abbrev TC:=@List.eq_of_mem_replicate
abbrev TD:=@Nat.not_le_of_lt
abbrev TE:=@List.isEmpty_nil
abbrev TF:=@List.flatMap_nil
abbrev TG:=@List.any_map
abbrev TH:=@List.foldl_cons
abbrev TI:=@List.take_zero
abbrev TJ:=@List.mapM_cons
abbrev TK:=@Nat.mul_le_mul
abbrev TL:=@List.drop_left
abbrev TM:=@Nat.mod_lt
abbrev TN:=@Nat.not_lt
inductive T where
 | int (k:IntKind) (n:Int)
 | bool (b:Bool)
 | str (s:ByteArray)
 | ab (sz:Nat) (isNil:Bool) (xs:List (List T))
 | ae (isNil:Bool)
 | ptr (cs:List T)
 | ao
 | vC
 | vB
 | y7
 | cz (f:FuncId)
 | any
 deriving Inhabited
inductive Id where
 | c (n:Nat)
 | s (d:Nat) (j:Nat)
 | g (i:Id) (n:Nat)
 deriving DecidableEq,Inhabited
def Id.real:Id->Bool
 | .g _ _=>false
 | _=>true
inductive AV where
 | top
 | t (x:T)
 | lj (vs:List AV)
 | agg (vs:List AV)
 | ref (i:Id) (off:Nat)
 | el (i:Id) (sz k off:Nat)
 | own (i:Id)
 | part (i:Id) (sz off len:Nat)
 | row (i:Id) (n:Nat)
 | rel (i:Id) (sz n k off:Nat)
 | fn (f:FuncId) (fst caps:List AV)
 deriving Inhabited
inductive Ck where
 | i (k:IntKind)
 | b
 | s
 | l (sz:Nat)
 | x
 deriving Inhabited,DecidableEq
structure Row where
 n:Nat
 cs:List T
 own:Option (Bool×List (List T))
 deriving Inhabited
inductive ad where
 | box (cs:List AV)
 | sl (fz:Bool) (sz:Nat) (isNil:Bool) (xs:List (List T))
 | cO (cs:List T)
 | arr (cs:List AV)
 | mp (ag:Bool) (ks:List Ck) (vk:Ck) (es:List (List T×T))
 | rows (b:Bool) (sz col rsz nx:Nat) (es:List Row)
 | dead
 deriving Inhabited
def T.int?(k:IntKind):T->Option Int
 | .int a n=>if a=k then some n else none
 | _=>none
def T.bool?:T->Option Bool
 | .bool b=>some b
 | _=>none
def T.bc:T->Option ByteArray
 | .str s=>some s
 | _=>none
def T.pg:T->Option (List T)
 | .ptr cs=>some cs
 | _=>none
def T.an(sz:Nat):T->Option (Bool×List (List T))
 | .ab a b xs=>if a=sz then some (b,xs) else none
 | .ae b=>some (b,[])
 | _=>none
def dx:T->Value
 | .int k n=> .int k n
 | .bool b=> .bool b
 | .str s=> .string s
 | _=> .nilIface
def cZ(ag:Bool)(cs:List T):Value:=cond ag (.agg (cs.map dx).toArray) ((cs.map dx).headD .nilIface)
def dH:Ck->T->Bool
 | .i k, .int a _=>decide (a=k)
 | .b, .bool _=>true
 | .s, .str _=>true
 | _,_=>false
def cb:List Ck->List T->Bool
 | [],[]=>true
 | k::ks,x::xs=>dH k x && cb ks xs
 | _,_=>false
def me:T->T->Bool
 | .int _ a, .int _ b=>a==b
 | .bool a, .bool b=>a==b
 | .str a, .str b=>a==b
 | _,_=>false
def dV:List T->List T->Bool
 | [],[]=>true
 | x::xs,y::a=>me x y && dV xs a
 | _,_=>false
def fU(key:List T):List (List T×T)->Option T
 | []=>none
 | (k,v)::r=>cond (dV key k) (some v) (fU key r)
def hJ(key:List T)(v:T):List (List T×T)->List (List T×T)
 | []=> [(key,v)]
 | (k,u)::r=>cond (dV key k) ((key,v)::r) ((k,u)::hJ key v r)
def T.oR:T->Option Unit
 | .int _ _=>some ()
 | .bool _=>some ()
 | .str _=>some ()
 | _=>none
def gd{α:Type}[Inhabited α](c:Option Bool)(m:Option α):Option α:=
 match m with
 | some a=>some a
 | none=>match c with
  | none=>none
  | some b=>cond b none (some default)
def aa{α R:Type}[Inhabited α](c:Option Bool)(m:Option α)(k:α->Option R):Option R:=
 match m with
 | some a=>k a
 | none=>match c with
  | none=>none
  | some b=>cond b none (k default)
def nU{R:Type}(c:Option Bool):Nat->List T->(List T->Option R)->Option R
 | 0,_,K=>K []
 | n+1,cs,K=>aa c cs.head? λx=>nU c n cs.tail λl=>K (x::l)
def nJ:Value->Option T
 | .int k i=>some (.int k i)
 | .bool b=>some (.bool b)
 | .string s=>some (.str s)
 | .slice none 0 0=>some (.ae true)
 | .pointer none=>some .ao
 | .map none=>some .vC
 | .nilFunc=>some .vB
 | .nilIface=>some .y7
 | _=>none
def kQ:List Value->Option (List T)
 | []=>some []
 | v::r=>(nJ v).bind λx=>(kQ r).bind λl=>some (x::l)
def bD(P:Program)(t:TypeId):Bool:=
 match P.underlying t with
 | some (.struct _) | some (.array _ _)=>true
 | _=>false
def qz(P:Program)(t:TypeId):Option IntKind:=
 match P.underlying t with
 | some (.int k)=>some k
 | _=>none
def bX(P:Program)(t:TypeId):Bool:=(P.underlying t).isSome
def r7(P:Program)(t:TypeId)(f:Nat):Option (Nat×TypeId):=
 match P.underlying t with
 | some (.struct a)=>match a[f]? with
  | some x=>cond (bX P x.type) (some (x.offset,x.type)) none
  | none=>none
 | _=>none
def mb(P:Program)(t:TypeId):Option TypeId:=
 match P.underlying t with
 | some (.slice e)=>cond (bX P e) (some e) none
 | _=>none
def tX(P:Program)(t:TypeId):Option (Nat×TypeId):=
 match P.underlying t with
 | some (.array n e)=>cond (bX P e) (some (n,e)) none
 | _=>none
def pe(P:Program)(t:TypeId):Bool:=
 match P.underlying t with
 | some (.struct a)=>a.toList.all λf=>bX P f.type
 | some (.array _ e)=>bX P e
 | _=>false
def yC(P:Program)(t:TypeId):Bool:=
 match P.underlying t with
 | some .string=>true
 | _=>false
def hZ(P:Program)(t:TypeId):Option (List T):=
 match P.info? t with
 | some i=>match i.zero with
  | some v=>kQ v.cells.toList
  | none=>none
 | none=>none
structure Gs where
 d:Nat
 want:Bool
 c:Bool
structure St where
 t:Nat->Option Gs×AV
 h:Id->Option ad
abbrev aB:=List (Id×ad)
def aJ(h:Id->Option ad):aB->Id->Option ad
 | []=>h
 | (i,b)::us=>aJ (λj=>if j=i then some b else h j) us
def lG(d:Nat):Option Gs×AV->Option Gs×AV
 | (some g,v)=>cond (g.d==d) (none, .top) (some g,v)
 | (none,v)=>(none,v)
def St.put(s:St)(a:Bool)(d:Option Nat)(g:Option Gs)(v:AV)(us:aB):St:=
 {t :=match d with
    | some d=>λk=>if k=d then(g,v) else cond a (lG d (s.t k)) (s.t k)
    | none=>s.t
  h:=aJ s.h us}
def xp(v:Value):AV:=
 match v with
 | .agg cs=>match kQ cs.toList with
  | some l=> .agg (l.map .t)
  | none=> .top
 | v=>match nJ v with
  | some x=> .t x
  | none=> .top
def ko:Option Gs->Option Gs->Bool
 | none,_=>true
 | some a,some b=>a.d==b.d && a.want==b.want
 | some _,none=>false
def St.qL(s:St)(g:Gs):St:={s with t:=λk=>cond (ko (s.t k).1 (some g)) (none,(s.t k).2) (s.t k)}
def St.get(s:St)(g:Option Gs):Operand->AV
 | .tmp k=>match s.t k with
  | (a,v)=>cond (ko a g) v .top
 | .const v=>xp v
 | .func f=> .fn f [] []
 | .global _=> .top
def St.lL(s:St)(g:Option Gs)(cs:Operand)(want:Bool)(o:Operand):AV:=
 match cs,o with
 | .tmp d, .tmp k=>match s.t k with
  | (some a,v)=>cond ((a.d==d && a.want==want) || ko (some a) g) v .top
  | (none,v)=>v
 | _,o=>s.get g o
def AV.t?:AV->Option T
 | .t x=>some x
 | _=>none
def dR:List AV->Option (List T)
 | []=>some []
 | .t x::r=>(dR r).bind λl=>some (x::l)
 | _::_=>none
def dv(h:Id->Option ad):AV->Option T
 | .t x=>some x
 | .own i=>match h i with
  | some (.sl _ sz b xs)=>some (.ab sz b xs)
  | _=>none
 | .part i sz off len=>match h i with
  | some (.sl _ a b xs)=>if a=sz then some (.ab sz b ((xs.drop off).take len)) else none
  | _=>none
 | .ref i off=>match h i with
  | some (.box cs)=>(dR cs).bind λl=>some (.ptr (l.drop off))
  | some (.cO l)=>some (.ptr (l.drop off))
  | _=>none
 | _=>none
def kr(h:Id->Option ad):List AV->Option (List T)
 | []=>some []
 | v::r=>(dv h v).bind λx=>(kr h r).bind λl=>some (x::l)
def zS(h:Id->Option ad):AV->Option T
 | .own i=>match h i with
  | some (.sl _ sz b xs)=>some (.ab sz b xs)
  | some (.rows ..)=>some .any
  | some (.mp ..)=>some .any
  | _=>none
 | v=>dv h v
def th(h:Id->Option ad):List AV->Option (List T)
 | []=>some []
 | v::r=>(zS h v).bind λx=>(th h r).bind λl=>some (x::l)
def kq(h:Id->Option ad):AV->Option (List T)
 | .agg vs=>kr h vs
 | v=>(dv h v).bind λx=>some [x]
def gv(h:Id->Option ad):AV->aB
 | .own i=>match h i with
  | some (.sl false sz b xs)=> [(i, .sl true sz b xs)]
  | _=> []
 | .part i _ _ _=>match h i with
  | some (.sl false sz b xs)=> [(i, .sl true sz b xs)]
  | _=> []
 | .ref i _=>match h i with
  | some (.box cs)=>match dR cs with
   | some l=> [(i, .cO l)]
   | none=> []
  | _=> []
 | _=> []
def lK(h:Id->Option ad):List AV->aB
 | []=> []
 | v::r=>gv h v++lK h r
def fV(h:Id->Option ad):AV->aB
 | .agg vs=>lK h vs
 | v=>gv h v
def pP{R:Type}(op:BinOp)(k:IntKind)(c:Option Bool)(x y:T)(K:T->Option R):Option R:=
 aa c (x.int? k) λa=>aa c (y.int? k) λb=>
  match op with
  | .add=>K (.int k (k.wrap (a+b)))
  | .sub=>K (.int k (k.wrap (a - b)))
  | .mul=>K (.int k (k.wrap (a * b)))
  | .quo=>aa c (if b=0 then none else some ()) λ_=>K (.int k (k.wrap (a.tdiv b)))
  | .rem=>aa c (if b=0 then none else some ()) λ_=>K (.int k (a.tmod b))
  | .and=>K (.int k (k.wrap (BitVec.ofInt k.bits a &&& BitVec.ofInt k.bits b).toNat))
  | .or=>K (.int k (k.wrap (BitVec.ofInt k.bits a ||| BitVec.ofInt k.bits b).toNat))
  | .xor=>K (.int k (k.wrap (BitVec.ofInt k.bits a ^^^ BitVec.ofInt k.bits b).toNat))
  | .andNot=>K (.int k (k.wrap (BitVec.ofInt k.bits a &&& ~~~(BitVec.ofInt k.bits b)).toNat))
  | .lss=>K (.bool (decide (a < b)))
  | .leq=>K (.bool (decide (a<=b)))
  | .gtr=>K (.bool (decide (a > b)))
  | .geq=>K (.bool (decide (a>=b)))
  | _=>none
def qY{R:Type}(op:BinOp)(k ky:IntKind)(c:Option Bool)(x y:T)(K:T->Option R):Option R:=
 aa c (x.int? k) λa=>aa c (y.int? ky) λb=>
  aa c (if b < 0 then none else some ()) λ_=>
  match op with
  | .shl=>K (.int k (k.wrap (a * 2 ^ (min b.toNat k.bits))))
  | .shr=>K (.int k (a.fdiv (2 ^ (min b.toNat k.bits))))
  | _=>none
def rr{R:Type}(op:BinOp)(c:Option Bool)(x y:T)(K:T->Option R):Option R:=
 aa c x.bc λa=>aa c y.bc λb=>
  match op with
  | .add=>aa c (if a.size+b.size<=4294967296 then some () else none) λ_=>K (.str (a++b))
  | .lss=>K (.bool (Op.bytesLess a.toList b.toList))
  | .leq=>K (.bool (Op.bytesLess a.toList b.toList || a.toList==b.toList))
  | .gtr=>K (.bool (!(Op.bytesLess a.toList b.toList || a.toList==b.toList)))
  | .geq=>K (.bool (!(Op.bytesLess a.toList b.toList)))
  | _=>none
def qv(P:Program)(go:TypeId->Option (List TypeId)):List Field->Nat->Option (List TypeId)
 | [],_=>some []
 | f ::r,off=>if f.offset=off/\f.name≠ "_" then
     (go f.type).bind λl=>if P.cellsOf f.type=l.length/\0 < l.length then(qv P go r (off+l.length)).bind λq=>some (l++q) else none
  else none
def fk(P:Program):Nat->TypeId->Option (List TypeId)
 | 0,_=>none
 | n+1,t=>match P.underlying t with
  | some (.int _) | some .bool | some .string=>some [t]
  | some (.struct a)=>if P.stoodInHeld t then none else qv P (fk P n) a.toList 0
  | some (.array m e)=>(fk P n e).bind λl=>if P.cellsOf e=l.length then some (List.replicate m l).flatten else none
  | _=>none
def iX(P:Program)(s:St)(t:TypeId)(x:AV):Option Bool:=
 match P.underlying t with
 | some (.slice _)=>match x with
  | .t (.ab _ b _)=>some b
  | .t (.ae b)=>some b
  | .own i=>match s.h i with
   | some (.sl _ _ b _)=>some b
   | _=>none
  | _=>none
 | some (.pointer _)=>match x with
  | .t (.ptr _)=>some false
  | .t .ao=>some true
  | .ref _ _=>some false
  | .el _ _ _ _=>some false
  | _=>none
 | some (.func ..)=>match x with
  | .t .vB=>some true
  | .fn _ _ _=>some false
  | _=>none
 | some (.map ..)=>match x with
  | .t .vC=>some true
  | _=>none
 | _=>none
def nI(P:Program)(t:TypeId)(o:Operand):Bool:=
 match P.underlying t,o with
 | some (.slice _), .const (.slice none 0 0)=>true
 | some (.pointer _), .const (.pointer none)=>true
 | some (.func ..), .const .nilFunc=>true
 | some (.map ..), .const (.map none)=>true
 | _,_=>false
def kJ{R:Type}(P:Program)(c:Option Bool)(t:TypeId)(x y:T)(K:Bool->Option R):Option R:=
 match P.underlying t with
 | some (.int k)=>aa c (x.int? k) λa=>aa c (y.int? k) λb=>K (a==b)
 | some .bool=>aa c x.bool? λa=>aa c y.bool? λb=>K (a==b)
 | some .string=>aa c x.bc λa=>aa c y.bc λb=>K (a==b)
 | _=>none
def et{R:Type}(P:Program)(c:Option Bool):List TypeId->List T->List T->(Bool->Option R)->Option R
 | [],[],[],K=>K true
 | t::ts,x::xs,y::a,K=>kJ P c t x y λb=>et P c ts xs a λr=>K (b && r)
 | _,_,_,_=>none
def pR{R:Type}(P:Program)(op:BinOp)(t ty:TypeId)(c:Option Bool)(x y:T)(K:T->Option R):Option R:=
 match op with
 | .shl | .shr=>match qz P t,qz P ty with
  | some k,some ky=>qY op k ky c x y K
  | _,_=>none
 | .eql | .neq=>none
 | op=>match P.underlying t with
  | some (.int k)=>pP op k c x y K
  | some .string=>rr op c x y K
  | _=>none
def oN{R:Type}(P:Program)(c:Option Bool)(t:TypeId)(x y:AV)(K:Bool->Option R):Option R:=
 match x,y with
 | .t x, .t y=>cond (yC P t) (aa c x.bc λa=>aa c y.bc λb=>K (a.toList==b.toList)) (kJ P c t x y K)
 | .agg xs, .agg d=>cond (P.eqGuardType P.depth t || !bD P t) none <| (dR xs).bind λxs=>(dR d).bind λd=>(fk P 8 t).bind λts=>et P c ts xs d K
 | _,_=>none
def rz{R:Type}(P:Program)(op:UnOp)(t:TypeId)(c:Option Bool)(x:T)(K:T->Option R):Option R:=
 match op,P.underlying t with
 | .neg,some (.int k)=>aa c (x.int? k) λa=>K (.int k (k.wrap (0 - a)))
 | .xor,some (.int k)=>aa c (x.int? k) λa=>
   K (.int k (k.wrap (BitVec.ofInt k.bits (if k.signed then -1 else k.max) ^^^ BitVec.ofInt k.bits a).toNat))
 | .not,some .bool=>aa c x.bool? λa=>K (.bool (!a))
 | _,_=>none
open Go
def eT{R:Type}(k:Ck)(c:Option Bool)(x:T)(K:T->Option R):Option R:=
 match k with
 | .i k=>aa c (x.int? k) λn=>K (.int k n)
 | .b=>aa c x.bool? λb=>K (.bool b)
 | .s=>aa c x.bc λs=>K (.str s)
 | .l sz=>aa c (x.an sz) λp=>K (.ab sz p.1 p.2)
 | .x=>K x
def eM{R:Type}(c:Option Bool):List Ck->List T->(List T->Option R)->Option R
 | [],xs,K=>K xs
 | _::_,[],K=>K []
 | k::ks,x::xs,K=>eT k c x λy=>eM c ks xs λa=>K (y::a)
def kD(P:Program)(t:TypeId):Ck:=
 match P.underlying t with
 | some (.int k)=> .i k
 | some .bool=> .b
 | some .string=> .s
 | some (.slice e)=> .l (P.cellsOf e)
 | _=> .x
def ue(P:Program):Nat->TypeId->List Ck
 | 0,_=> []
 | n+1,t=>match P.underlying t with
  | some (.struct a)=>a.toList.flatMap λf=>ue P n f.type
  | some (.array m e)=>(List.replicate m (ue P n e)).flatten
  | _=> [kD P t]
def rL(P:Program)(t:TypeId):List Ck:=
 if(ue P 8 t).length=P.cellsOf t then ue P 8 t else List.replicate (P.cellsOf t) .x
inductive ca where
 | f (k:Ck)
 | t (k:Ck)
 | own (sz:Nat)
 | ref (k off:Nat)
 | same (k:Nat)
 | rows (sz col rsz:Nat)
 | mp (ag:Bool) (ks:List Ck) (vk:Ck)
 | new (l:List ca)
 | no
 | agg (l:List ca)
 deriving Inhabited
inductive jg where
 | box (l:List ca)
 | sl (sz:Nat)
 | mp (ag:Bool) (ks:List Ck) (vk:Ck)
 | dead
 deriving Inhabited
structure Ao where
 res:List ca
 outs:List jg
 deriving Inhabited
structure cA where
 live:FuncId->Nat->Option (List (Nat×Option Nat))
 join:FuncId->Nat->Option (List (Nat×Option Nat))
 sig:FuncId->Option Ao
 gS:FuncId->Option (List Bool):=λ_=>none
 deep:FuncId->Bool:=λ_=>false
 xe:FuncId->Nat->Ao:=λ_ _=>⟨[],[]⟩
 app:Option Nat->Bool:=λ_=>false
 wr:FuncId->Bool:=λ_=>false
 st:Option Nat->Bool:=λ_=>false
 GC:Option Nat->TypeId->Bool:=λ_ _=>true
 sx:Option Nat->Bool:=λ_=>false
 ld:Option Nat->Bool:=λ_=>false
 xo:Option Nat->Bool:=λ_=>false
 pU:Option Nat->TypeId->Bool:=λ_ _=>false
 vp:Option Nat->TypeId->Bool:=λ_ _=>false
 vo:Option Nat->TypeId->Bool:=λ_ _=>false
 kP:Option Nat->TypeId->Nat:=λ_ _=>0
 ext:FuncId->List AV->List ad->Option (List T):=λ_ _ _=>none
inductive Key where
 | call (f:FuncId)
 | node (f:FuncId) (todo:List Item) (live:List (Nat×Option Nat)) (m:Nat×Nat)
abbrev aq:=Key->List AV->List ad->Option (List T)
def lP:Nat:=4294967296
mutual
def AV.ids:AV->List Id
 | .top=> []
 | .t _=> []
 | .lj vs=>bY vs
 | .agg vs=>bY vs
 | .ref i _=> [i]
 | .el i _ _ _=> [i]
 | .own i=> [i]
 | .part i _ _ _=> [i]
 | .row i _=> [i]
 | .rel i _ _ _ _=> [i]
 | .fn _ a b=>bY a++bY b
def bY:List AV->List Id
 | []=> []
 | v::r=>v.ids++bY r
end
mutual
def AV.rn(m:List Id):AV->AV
 | .top=> .top
 | .t x=> .t x
 | .lj vs=> .lj (jE m vs)
 | .agg vs=> .agg (jE m vs)
 | .ref i o=> .ref (.c (m.idxOf i)) o
 | .el i sz k o=> .el (.c (m.idxOf i)) sz k o
 | .own i=> .own (.c (m.idxOf i))
 | .part i sz o n=> .part (.c (m.idxOf i)) sz o n
 | .row i n=> .row (.c (m.idxOf i)) n
 | .rel i sz n k o=> .rel (.c (m.idxOf i)) sz n k o
 | .fn f a b=> .fn f (jE m a) (jE m b)
def jE(m:List Id):List AV->List AV
 | []=> []
 | v::r=>v.rn m::jE m r
end
def gF(m:List Id):Option ad->ad
 | some (.box cs)=> .box (jE m cs)
 | some (.arr cs)=> .arr (jE m cs)
 | some b=>b
 | none=> .dead
def eS(h:Id->Option ad):Nat->List Id->List Id->Option (List Id)
 | 0,_,_=>none
 | _+1,[],seen=>some seen
 | n+1,i::todo,seen=>
  cond (seen.contains i) (eS h n todo seen)
   (match h i with
    | some (.box cs)=>eS h n (todo++bY cs) (seen++ [i])
    | some (.arr cs)=>eS h n (todo++bY cs) (seen++ [i])
    | some _=>eS h n todo (seen++ [i])
    | none=>none)
def lY:Nat->List AV->Option (List AV)
 | 0,_=>some []
 | _+1,[]=>none
 | n+1,c::r=>(lY n r).bind λl=>some (c::l)
def cm{α:Type}(off:Nat)(new a:List α):List α:=a.take off++new++a.drop (off+new.length)
def cy(n:Nat):List Row->Option (Bool×List (List T))
 | []=>none
 | e::r=>if e.n=n then e.own else cy n r
def cU(n:Nat)(p:Option (Bool×List (List T))):List Row->List Row
 | []=> []
 | e::r=>if e.n=n then{e with own:=p}::r else e::cU n p r
def kZ{R:Type}(h:Id->Option ad)(c:Option Bool)(i:Id)(n:Nat)(K:Nat->Bool->List (List T)->Option R):Option R:=
 match h i with
 | some (.rows _ _ _ rsz _ es)=>aa c (cy n es) λp=>K rsz p.1 p.2
 | _=>none
def jX{R:Type}(P:Program)(t:TypeId)(c:Option Bool)(cs:List T)(K:AV->Option R):Option R:=
 cond (bD P t) (nU c (P.cellsOf t) cs λl=>eM c (rL P t) l λl=>K (.agg (l.map .t))) (aa c cs.head? λx=>eT (kD P t) c x λx=>K (.t x))
def lQ{R:Type}(P:Program)(t:TypeId)(cs:List AV)(K:AV->Option R):Option R:=
 cond (bD P t) ((lY (P.cellsOf t) cs).bind λl=>K (.agg l)) (cs.head?.bind K)
def qD{R:Type}(P:Program)(t:TypeId)(c:Option Bool)(i:Id)(sz col off:Nat)(e:Row)(K:AV->Option R):Option R:=
 cond (bD P t)
  (if off=0/\P.cellsOf t=sz then nU c sz e.cs λl=>eM c ((rL P t).set col .x) l λl=>K (.agg ((l.map .t).set col (.row i e.n))) else none)
  (if off=col then K (.row i e.n) else aa c (e.cs.drop off).head? λx=>eT (kD P t) c x λx=>K (.t x))
def fY{R:Type}(P:Program)(s:St)(c:Option Bool)(t:TypeId)(a:AV)(K:AV->Option R):Option R:=
 cond (bX P t) (match a with
 | .ref i off=>match s.h i with
  | some (.box cs)=>lQ P t (cs.drop off) K
  | some (.cO l)=>jX P t c (l.drop off) K
  | _=>none
 | .el i sz k off=>match s.h i with
  | some (.sl _ b _ xs)=>if b=sz then aa c xs[k]? λcs=>jX P t c (cs.drop off) K else none
  | some (.rows _ b col _ _ es)=>if b=sz then aa c es[k]? λe=>qD P t c i sz col off e K else none
  | _=>none
 | .rel i sz n k off=>kZ s.h c i n λrsz _ xs=>if rsz=sz then aa c xs[k]? λcs=>jX P t c (cs.drop off) K else none
 | .t x=>aa c x.pg λcs=>jX P t c cs K
 | _=>none) none
def fS(v:AV):List AV:=
 match v with
 | .agg vs=>vs
 | .fn f [] []=> [.t (.cz f)]
 | v=> [v]
def oG:AV->Bool
 | .agg _ | .lj _ | .top=>false
 | _=>true
def gL(k off:Nat)(l:List T)(xs:List (List T)):Option (List (List T)):=
 match xs[k]? with
 | some cs=>if off+l.length<=cs.length then some (xs.set k (cm off l cs)) else none
 | none=>none
def iH{R:Type}(P:Program)(s:St)(t:TypeId)(a v:AV)(K:aB->Option R):Option R:=
 cond (bX P t) (match a with
 | .ref i off=>match s.h i with
  | some (.box cs)=>
   if(fS v).length=P.cellsOf t/\(fS v).all oG/\off+ (fS v).length<=cs.length then K [(i, .box (cm off (fS v) cs))] else none
  | _=>none
 | .el i sz k off=>match s.h i with
  | some (.sl false d b xs)=>(kq s.h v).bind λl=>
    if d=sz/\l.length=P.cellsOf t/\v.ids.contains i=false then
     aa none (gL k off l xs) λm=>K ((i, .sl false sz b m)::fV s.h v) else none
  | some (.rows b d col rsz f es)=>match v with
   | .own j=>match s.h j with
    | some (.sl false g o xs)=>
     if d=sz/\off=col/\g=rsz/\P.cellsOf t=1/\bD P t=false then
      aa none es[k]? λe=>K [(j, .dead),(i, .rows b sz col rsz (f+1) (es.set k ⟨f,e.cs,some (o,xs)⟩))] else none
    | _=>none
   | _=>none
  | _=>none
 | .rel i sz n k off=>match s.h i with
  | some (.rows b d col rsz f es)=>aa none (cy n es) λp=>(kq s.h v).bind λl=>
    if rsz=sz/\l.length=P.cellsOf t/\v.ids.contains i=false then
     aa none (gL k off l p.2) λm=>K ((i, .rows b d col rsz f (cU n (some (p.1,m)) es))::fV s.h v) else none
  | _=>none
 | _=>none) none
def sA:List (Nat×List AV)->List AV->Option (List AV)
 | [],z=>some z
 | (off,l)::r,z=>if off+l.length<=z.length then sA r (cm off l z) else none
def sU(P:Program)(t:TypeId)(f:Nat):Option (Nat×TypeId):=
 match r7 P t f with
 | some p=>some p
 | none=>match tX P t with
  | some (_,u)=>some (f * P.cellsOf u,u)
  | none=>none
def nN(P:Program)(t:TypeId)(ev:Operand->AV):List (Nat×Operand)->Option (List (Nat×List AV))
 | []=>some []
 | (f,o)::r=>(sU P t f).bind λp=>
   if(fS (ev o)).length=P.cellsOf p.2/\(fS (ev o)).all oG then(nN P t ev r).bind λq=>some ((p.1,fS (ev o))::q) else none
def uc(P:Program)(t:TypeId)(ev:Operand->AV)(a:List (Nat×Operand)):Option AV:=
 if pe P t then
 (hZ P t).bind λz=>(nN P t ev a).bind λl=>(sA l (z.map .t)).bind λcs=>some (.agg cs)
 else none
def gU(P:Program)(h:Id->Option ad)(e:TypeId)(ev:Operand->AV):Nat->List (Nat×Operand)->Option (List (List T)×aB)
 | _,[]=>some ([],[])
 | n,(k,o)::r=>(kq h (ev o)).bind λl=>if k=n/\l.length=P.cellsOf e then
    (gU P h e ev (n+1) r).bind λq=>some (l::q.1,fV h (ev o)++q.2)
  else none
def jw{R:Type}(c:Option Bool)(i:Int)(n:Nat)(K:Option R):Option R:=aa c (if 0<=i/\i < n then some () else none) λ_=>K
def iW{R:Type}(P:Program)(s:St)(c:Option Bool)(t:TypeId)(x:AV)(i:Int)(K:AV->Option R):Option R:=
 match mb P t with
 | some e=>match x with
  | .own j=>match s.h j with
   | some (.sl _ sz _ xs)=>if sz=P.cellsOf e then jw c i xs.length (K (.el j sz i.toNat 0)) else none
   | some (.rows _ sz _ _ _ es)=>if sz=P.cellsOf e then jw c i es.length (K (.el j sz i.toNat 0)) else none
   | _=>none
  | .row j n=>kZ s.h c j n λrsz _ xs=>if rsz=P.cellsOf e then jw c i xs.length (K (.rel j rsz n i.toNat 0)) else none
  | .part j sz off n=>match s.h j with
   | some (.sl _ a _ _)=>if sz=P.cellsOf e/\a=sz then jw c i n (K (.el j sz (off+i.toNat) 0)) else none
   | _=>none
  | .t y=>aa c (y.an (P.cellsOf e)) λp=>jw c i p.2.length (aa c p.2[i.toNat]? λcs=>K (.t (.ptr cs)))
  | _=>none
 | none=>match tX P t with
  | some (n,e)=>jw c i n (match x with
   | .ref j off=>K (.ref j (off+i.toNat * P.cellsOf e))
   | .el j sz k off=>K (.el j sz k (off+i.toNat * P.cellsOf e))
   | .t y=>aa c y.pg λcs=>K (.t (.ptr (cs.drop (i.toNat * P.cellsOf e))))
   | _=>none)
  | none=>none
def qq{R:Type}(P:Program)(c:Option Bool)(t:TypeId)(x:AV)(f:Nat)(K:AV->Option R):Option R:=
 match r7 P t f with
 | some (off,u)=>if P.cellsOf u=0 then none else
  match x with
  | .ref j o=>K (.ref j (o+off))
  | .el j sz k o=>K (.el j sz k (o+off))
  | .rel j sz n k o=>K (.rel j sz n k (o+off))
  | .t y=>aa c y.pg λcs=>K (.t (.ptr (cs.drop off)))
  | _=>none
 | none=>none
def qp{R:Type}(P:Program)(t:TypeId)(x:AV)(f:Nat)(K:AV->Option R):Option R:=
 match r7 P t f with
 | some (off,u)=>match x with
  | .agg vs=>lQ P u (vs.drop off) K
  | _=>none
 | none=>none
def mo{R:Type}(P:Program)(s:St)(c:Option Bool)(t:TypeId)(x:AV)(K:AV->Option R):Option R:=
 match P.underlying t with
 | some .string=>match x with
  | .t y=>aa c y.bc λb=>K (.t (.int .i64 b.size))
  | _=>none
 | some (.array n _)=>K (.t (.int .i64 n))
 | some (.slice e)=>match x with
  | .own j=>match s.h j with
   | some (.sl _ _ _ xs)=>K (.t (.int .i64 xs.length))
   | some (.rows _ _ _ _ _ es)=>K (.t (.int .i64 es.length))
   | _=>none
  | .row j n=>kZ s.h c j n λ_ _ xs=>K (.t (.int .i64 xs.length))
  | .part _ _ _ n=>K (.t (.int .i64 n))
  | .t y=>aa c (y.an (P.cellsOf e)) λp=>K (.t (.int .i64 p.2.length))
  | _=>none
 | _=>none
def iu{R:Type}(s:St)(c:Option Bool)(g:Option Gs)(o:Option Operand)(K:Option Int->Option R):Option R:=
 match o with
 | none=>K none
 | some o=>(s.get g o).t?.bind λx=>aa c (anyInt x) λn=>K (some n)
where
 anyInt:T->Option Int
  | .int _ n=>some n
  | _=>none
def fp(b a n:Int):Option Unit:=if 0<=b/\b<=a/\a<=n then some () else none
def sub(a b:Int)(xs:List (List T)):List (List T):=(xs.drop a.toNat).take (b.toNat - a.toNat)
def wJ(b a m:Int):Option Unit:=if b=0/\a=0/\m=0 then some () else none
def ve:T->Bool
 | .ae true=>true
 | .ab _ true []=>true
 | _=>false
def mI{R:Type}(P:Program)(s:St)(c:Option Bool)(t:TypeId)(x:AV)(a d f:Option Int)(K:AV->Option R):Option R:=
 match P.underlying t with
 | some .string=>match x,f with
  | .t y,none=>aa c y.bc λb=>
    aa c (fp (a.getD 0) (d.getD b.size) b.size) λ_=>K (.t (.str (b.extract (a.getD 0).toNat (d.getD b.size).toNat)))
  | _,_=>none
 | some (.slice e)=>match f with
  | none=>match x with
   | .own j=>match s.h j with
    | some (.sl _ sz _ xs)=>if sz=P.cellsOf e/\bX P e=true then
      aa c (fp (a.getD 0) (d.getD xs.length) xs.length) λ_=>
      K (.part j sz (a.getD 0).toNat ((d.getD xs.length).toNat - (a.getD 0).toNat)) else none
    | _=>none
   | .part j sz off n=>match s.h j with
    | some (.sl _ g _ _)=>if sz=P.cellsOf e/\g=sz/\bX P e=true then
      aa c (fp (a.getD 0) (d.getD n) n) λ_=>
      K (.part j sz (off+ (a.getD 0).toNat) ((d.getD n).toNat - (a.getD 0).toNat)) else none
    | _=>none
   | .t y=>if bX P e=true then aa c (y.an (P.cellsOf e)) λp=>
     aa c (fp (a.getD 0) (d.getD p.2.length) p.2.length) λ_=>
     K (.t (.ab (P.cellsOf e) p.1 (sub (a.getD 0) (d.getD p.2.length) p.2))) else none
   | _=>none
  | some m=>match x with
   | .t y=>if bX P e=true then aa c (y.an (P.cellsOf e)) λp=>aa c (wJ (a.getD 0) (d.getD 1) m) λ_=>K (.t (.ae p.1)) else none
   | .own j=>match s.h j with
    | some (.sl _ _ b _)=>if bX P e=false then none else aa c (wJ (a.getD 0) (d.getD 1) m) λ_=>K (.t (.ae b))
    | _=>none
   | _=>none
 | _=>none
def lR(n m:Int):Option Unit:=if 0<=n/\n<=m/\m<=lP then some () else none
def lB{R:Type}(P:Program)(s:St)(t:TypeId)(sz:Nat)(a:List T)(y:AV)(K:List (List T)->Option R):Option R:=
 match P.underlying t with
 | some (.slice _)=>(dv s.h y).bind λx=>aa none (x.an sz) λp=>K p.2
 | some .string=>if sz=1 then y.t?.bind λx=>aa none x.bc λb=>K (b.data.toList.map λu=> [.int .u8 u.toNat]) else none
 | some (.int _)=>y.t?.bind λx=>aa none (x.int? .i64) λn=>aa none (lR n n) λ_=>K (List.replicate n.toNat a)
 | _=>none
def np(a n:Nat):Prop:=n<=lP\/(0 < a/\n * a<=140737488355328)
instance (bs n:Nat):Decidable (np bs n):=inferInstanceAs (Decidable (_\/_))
def bp(a n:Nat):Option Unit:=if np a n then some () else none
def EO:T->Option Bool
 | .ae b=>some b
 | .ab _ b xs=>cond (b && xs.isEmpty) (some true) none
 | _=>none
def zD(h:Id->Option ad):AV->Option (Id×Nat×Nat×Nat×Nat×List Row)
 | .own i=>match h i with
  | some (.rows _ sz col rsz a es)=>some (i,sz,col,rsz,a,es)
  | _=>none
 | _=>none
def zf(h:Id->Option ad):AV->Option (Id×List AV)
 | .own j=>match h j with
  | some (.arr cs)=>some (j,cs)
  | _=>none
 | _=>none
def oB{R:Type}(P:Program)(s:St)(d:Nat)(e:TypeId)(i:Id)(sz col rsz f:Nat)(es:List Row)(j:Id)(cs:List AV)(K:AV->aB->Option R):Option R:=
 if sz=P.cellsOf e/\cs.length=sz/\col < sz/\i≠j then
  (dR (cs.set col (.t .ao))).bind λl=>match cs[col]? with
   | some (.own o)=>match s.h o with
    | some (.sl false m u xs)=>if m=rsz then
      aa none (bp (P.bytesOf e) (es.length+1)) λ_=>
      K (.own (.s d 0)) [(i, .dead),(j, .dead),(o, .dead),(.s d 0, .rows false sz col rsz (f+1) (es++ [⟨f,l,some (u,xs)⟩]))] else none
    | _=>none
   | some (.row a n)=>match s.h a with
    | some (.rows v r k b q g)=>if b=rsz/\a≠i then
      aa none (cy n g) λp=>aa none (bp (P.bytesOf e) (es.length+1)) λ_=>
      K (.own (.s d 0)) [(i, .dead),(j, .dead),(a, .rows v r k b q (cU n none g)),(.s d 0, .rows false sz col rsz (f+1) (es++ [⟨f,l,some p⟩]))] else none
    | _=>none
   | _=>none
 else none
def jQ{R:Type}(P:Program)(s:St)(d:Nat)(rw:Bool)(t ty:TypeId)(x y:AV)(K:AV->aB->Option R):Option R:=
 (mb P t).bind λe=>(hZ P e).bind λk=>
 if P.bytesOf e<=8192/\k.length=P.cellsOf e then
 match cond rw (zD s.h x) none,cond rw (zf s.h y) none with
 | some (i,sz,col,rsz,l,es),some (j,cs)=>match P.underlying ty with
  | some (.slice _)=>oB P s d e i sz col rsz l es j cs K
  | _=>none
 | _,_=>
 lB P s ty (P.cellsOf e) k y λa=>
 match x with
 | .own i=>match s.h i with
  | some (.sl false f b xs)=>if f=P.cellsOf e then
    aa none (bp (P.bytesOf e) (xs.length+a.length)) λ_=>
    K (.own (.s d 0)) [(.s d 0, .sl false (P.cellsOf e) (b && a.isEmpty) (xs++a)),(i, .dead)] else none
  | _=>none
 | .part i g off n=>match s.h i with
  | some (.sl false f b xs)=>if f=P.cellsOf e/\g=P.cellsOf e then
    aa none (bp (P.bytesOf e) (n+a.length)) λ_=>
    K (.own (.s d 0)) [(.s d 0, .sl false (P.cellsOf e) (b && a.isEmpty) ((xs.drop off).take n++a)),(i, .dead)] else none
  | _=>none
 | .t z=>(EO z).bind λb=>aa none (bp (P.bytesOf e) a.length) λ_=>
    K (.own (.s d 0)) [(.s d 0, .sl false (P.cellsOf e) (b && a.isEmpty) a)]
 | _=>none
 else none
def o6(n:Nat):List Row:=(List.range n).map λk=>⟨k,[.ao],some (true,[])⟩
def qE{R:Type}(P:Program)(d:Nat)(t:TypeId)(kP:Nat)(n m:T)(K:AV->aB->Option R):Option R:=
 (mb P t).bind λe=>(hZ P e).bind λa=>
 aa none (n.int? .i64) λn=>aa none (m.int? .i64) λm=>
 if P.bytesOf e<=8192/\a.length=P.cellsOf e then
 aa none (lR n m) λ_=>
  cond (kP==2) (match P.underlying e,a with
   | some (.slice u),[.ae true]=>if P.cellsOf e=1 then K (.own (.s d 0)) [(.s d 0, .rows false 1 0 (P.cellsOf u) n.toNat (o6 n.toNat))] else none
   | _,_=>none)
   (K (.own (.s d 0)) [(.s d 0, .sl false (P.cellsOf e) false (List.replicate n.toNat a))])
 else none
def mm(d:Bool)(a b:Int):Int:=cond d (if b > a then b else a) (if b < a then b else a)
def nG{R:Type}(k:IntKind)(c:Option Bool)(d:Bool):Int->List T->(T->Option R)->Option R
 | a,[],K=>K (.int k a)
 | a,y::r,K=>aa c (y.int? k) λb=>nG k c d (mm d a b) r K
def pW{R:Type}(P:Program)(c:Option Bool)(src a:TypeId)(x:T)(K:T->Option R):Option R:=
 match P.underlying src,P.underlying a with
 | some (.int k),some (.int d)=>aa c (x.int? k) λn=>K (.int d (d.wrap n))
 | some .string,some .string=>aa c x.bc λb=>K (.str b)
 | _,_=>none
def bytesOf:List (List T)->Option (List UInt8)
 | []=>some []
 | cs::r=>cs.head?.bind λx=>(x.int? .u8).bind λn=>(bytesOf r).bind λl=>some (UInt8.ofNat n.toNat::l)
def lV:Ck->Bool
 | .i _ | .b | .s=>true
 | _=>false
def qG(P:Program)(t:TypeId):Option (TypeId×TypeId):=
 match P.underlying t with
 | some (.map k e)=>cond (bX P k && bX P e) (some (k,e)) none
 | _=>none
def Ak(P:Program)(t:TypeId):Option T:=
 match P.info? t with
 | some i=>match i.zero with
  | some v=>nJ v
  | none=>none
 | none=>none
def jW(P:Program)(k:TypeId):Option (Bool×List Ck):=
 match P.underlying k with
 | some (.int i)=>some (false,[.i i])
 | some .string=>some (false,[.s])
 | some (.array n e)=>match P.underlying e with
  | some (.int i)=>if P.cellsOf e=1/\n<=8 then some (true,List.replicate n (.i i)) else none
  | _=>none
 | _=>none
def nC{R:Type}(P:Program)(k:TypeId)(c:Option Bool)(v:AV)(K:Bool->List Ck->List T->Option R):Option R:=
 (jW P k).bind λq=>match q.1,v with
  | false, .t x=>eM c q.2 [x] λcs=>K false q.2 cs
  | true, .agg vs=>(dR vs).bind λl=>if l.length=q.2.length then eM c q.2 l λcs=>K true q.2 cs else none
  | _,_=>none
def mq{R:Type}(P:Program)(s:St)(c:Option Bool)(t:TypeId)(x key:AV)(ok:Bool)(K:AV->Option R):Option R:=
 (qG P t).bind λq=>(Ak P q.2).bind λz=>nC P q.1 c key λag ks cs=>match x with
  | .own i=>match s.h i with
   | some (.mp a b vk es)=>if a=ag/\b=ks/\kD P q.2=vk/\lV vk=true/\bD P q.2=false then
     eT vk c ((fU cs es).getD z) λv=>K (cond ok (.lj [.t v, .t (.bool (fU cs es).isSome)]) (.t v)) else none
   | _=>none
  | _=>none
def qF{R:Type}(P:Program)(d:Nat)(t:TypeId)(K:AV->aB->Option R):Option R:=
 (qG P t).bind λq=>(jW P q.1).bind λp=>if lV (kD P q.2)=true then K (.own (.s d 0)) [(.s d 0, .mp p.1 p.2 (kD P q.2) [])] else K (.t .any) [(.s d 0, .dead)]
def mA{R:Type}(P:Program)(s:St)(t:TypeId)(x key v:AV)(K:aB->Option R):Option R:=
 (qG P t).bind λq=>nC P q.1 none key λag ks cs=>match x with
  | .own i=>match s.h i with
   | some (.mp a b vk es)=>if a=ag/\b=ks/\kD P q.2=vk/\lV vk=true then
     v.t?.bind λv=>eT vk none v λv=>K [(i, .mp ag ks vk (hJ cs v es))] else none
   | _=>none
  | _=>none
def kG(key:List T):List (List T×T)->List (List T×T)
 | []=> []
 | p::r=>cond (dV key p.1) r (p::kG key r)
def ma{R:Type}(P:Program)(s:St)(t:TypeId)(x key:AV)(K:aB->Option R):Option R:=
 (qG P t).bind λq=>nC P q.1 none key λag ks cs=>match x with
  | .own i=>match s.h i with
   | some (.mp a b vk es)=>if a=ag/\b=ks then K [(i, .mp ag ks vk (kG cs es))] else none
   | _=>none
  | _=>none
def jm(a b:Bool)(h:Id->Option ad):AV->Option (T×aB)
 | .ref i off=>cond a (match h i with
  | some (.box cs)=>(cond b (th h (cs.drop off)) (dR (cs.drop off))).bind λl=>some (.ptr l,[])
  | some (.cO l)=>some (.ptr (l.drop off),[])
  | _=>none) ((dv h (.ref i off)).bind λx=>some (x,gv h (.ref i off)))
 | v=>(dv h v).bind λx=>some (x,cond a [] (gv h v))
def lC(b a:Bool)(h:Id->Option ad):List AV->Option (List T×aB)
 | []=>some ([],[])
 | v::r=>(jm b a h v).bind λp=>(lC b a h r).bind λq=>some (p.1::q.1,p.2++q.2)
def kA(e d:Bool)(h:Id->Option ad):AV->Option (AV×aB)
 | .fn f a b=>(lC e d h a).bind λx=>(lC e d h b).bind λy=>some (.fn f (x.1.map .t) (y.1.map .t),x.2++y.2)
 | .agg vs=>(lC e d h vs).bind λx=>some (.agg (x.1.map .t),x.2)
 | v=>(jm e d h v).bind λp=>some (.t p.1,p.2)
def kB(b a:Bool)(h:Id->Option ad):List AV->Option (List AV×aB)
 | []=>some ([],[])
 | v::r=>(kA b a h v).bind λp=>(kB b a h r).bind λq=>some (p.1::q.1,p.2++q.2)
def uP(P:Program):Nat->TypeId->Bool
 | 0,_=>false
 | n+1,t=>match P.underlying t with
  | some (.int _) | some .bool | some .string=>true
  | some (.struct a)=>a.toList.all λf=>uP P n f.type
  | some (.array _ e)=>uP P n e
  | _=>false
def qS(e:Row):T:=match e.own with
 | some p=> .ab 0 p.1 p.2
 | none=> .ao
def be(b:Bool)(es:List Row):T:= .ab 2 b (es.map λe=> [.ptr e.cs,qS e])
def oI:Nat->List (List T)->Option (List Row)
 | _,[]=>some []
 | n,[.ptr cs, .ab _ b xs]::r=>(oI (n+1) r).bind λl=>some (⟨n,cs,some (b,xs)⟩::l)
 | _,_=>none
def aN:T->Option (Bool×List Row)
 | .ab _ b xs=>(oI 0 xs).bind λl=>some (b,l)
 | _=>none
def aX(es:List Row):Bool:=es.all λe=>e.own.isSome
def DQ:ca->Bool
 | .rows _ _ _=>true
 | _=>false
def aH(es:List (List T×T)):T:= .ab 2 false (es.map λp=> [.ptr p.1,p.2])
def rV:List (List T)->Option (List (List T×T))
 | []=>some []
 | [.ptr k,v]::r=>(rV r).bind λl=>some ((k,v)::l)
 | _=>none
def aL:T->Option (List (List T×T))
 | .ab _ _ xs=>rV xs
 | _=>none
def lF{R:Type}(ids:List Id)(d:Nat)(c:Option Bool)(j:Nat)(r:ca)(x:T)(K:AV->aB->Nat->Option R):Option R:=
 match r with
 | .f k=>eT k c x λx=>K (.t x) [] j
 | .t k=>eT k c x λx=>K (.t x) [] j
 | .own sz=>match c with
  | none=>aa none (x.an sz) λp=>K (.own (.s d j)) [(.s d j, .sl false sz p.1 p.2)] (j+1)
  | some _=>none
 | .ref k off=>match ids[k]? with
  | some i=>K (.ref i off) [] j
  | none=>none
 | .same k=>match ids[k]? with
  | some i=>K (.own i) [] j
  | none=>none
 | .rows sz col rsz=>match c with
  | none=>aa none (aN x) λp=>K (.own (.s d j)) [(.s d j, .rows p.1 sz col rsz p.2.length p.2)] (j+1)
  | some _=>none
 | .mp ag ks vk=>match c with
  | none=>aa none (aL x) λes=>K (.own (.s d j)) [(.s d j, .mp ag ks vk es)] (j+1)
  | some _=>none
 | .no=>K .top [] j
 | .agg _=>none
 | .new _=>none
def jr{R:Type}(ids:List Id)(d:Nat)(c:Option Bool):Nat->List ca->List T->(List AV->aB->Nat->Option R)->Option R
 | j,[],_,K=>K [] [] j
 | j,r::rs,xs,K=>aa c xs.head? λx=>lF ids d c j r x λv u j=>jr ids d c j rs xs.tail λvs us j=>K (v::vs) (u++us) j
def ca.size:ca->Nat
 | .agg l=>l.length
 | .new l=>l.length
 | _=>1
def dJ{R:Type}(ids:List Id)(d:Nat)(c:Option Bool):Nat->List ca->List T->(List AV->aB->Nat->Option R)->Option R
 | j,[],_,K=>K [] [] j
 | j,r::rs,xs,K=>match r with
  | .agg l=>jr ids d c j l xs λv u j=>dJ ids d c j rs (xs.drop l.length) λvs us j=>K (AV.agg v::vs) (u++us) j
  | .new l=>match c with
   | none=>jr ids d c j l xs λv u j=>dJ ids d c (j+1) rs (xs.drop l.length) λvs us a=>K (AV.ref (.s d j) 0::vs) (u++ [(.s d j, .box v)] ++us) a
   | some _=>none
  | r=>aa c xs.head? λx=>lF ids d c j r x λv u j=>dJ ids d c j rs xs.tail λvs us j=>K (v::vs) (u++us) j
def lW:List ca->Nat
 | []=>0
 | r::rs=>r.size+lW rs
def fH{R:Type}(all:List Id)(d:Nat):Nat->List Id->List jg->List T->(aB->Option R)->Option R
 | j,i::a, .box l::r,xs,K=>jr all d none j l xs λv u j=>fH all d j a r (xs.drop l.length) λq=>K (u++ (i, .box v)::q)
 | j,i::a, .sl sz::r,xs,K=>aa none (xs.head?.bind (T.an sz)) λp=>fH all d j a r xs.tail λq=>K ((i, .sl false sz p.1 p.2)::q)
 | j,i::a, .mp ag ks vk::r,xs,K=>aa none (xs.head?.bind aL) λes=>fH all d j a r xs.tail λq=>K ((i, .mp ag ks vk es)::q)
 | j,_::a, .dead::r,xs,K=>fH all d j a r xs K
 | _,[],[],_,K=>K []
 | _,_,_,_,_=>none
def kV:List AV->AV
 | [v]=>v
 | vs=> .lj vs
def Ih(P:Program)(t:TypeId):ca:=cond (bD P t) (.agg ((rL P t).map λk=>cond (uP P 8 t) (.f k) (.t k))) (cond (uP P 8 t) (.f (kD P t)) (.t (kD P t)))
def qu:ca->Bool
 | .f _=>true
 | .agg l=>l.all λr=>match r with
  | .f _=>true
  | _=>false
 | _=>false
def de(P:Program)(A:cA)(f:FuncId)(n:Nat)(fn:Func):List ca:=
 match A.gS f with
 | some _=>(A.xe f n).res
 | none=>match A.sig f with
  | some a=>a.res
  | none=>fn.resultTypes.toList.map (Ih P)
def gA(A:cA)(f:FuncId)(n:Nat):List jg:=
 match A.gS f with
 | some _=>(A.xe f n).outs
 | none=> []
def NC:AV->Bool
 | .own _=>true
 | .part _ _ _ _=>true
 | _=>false
def gu:Option ad->Nat
 | some (.box cs)=>cs.length+1000 * (cs.filter NC).length
 | _=>0
def dE(c:Option Bool)(m:Option (List T)):Option (List T):=
 match c with
 | none=>m
 | some b=>cond b m (some [])
def lZ{R:Type}(P:Program)(c:Option Bool)(t:TypeId)(v:AV)(K:AV->Option R):Option R:=
 match v with
 | .t x=>eT (kD P t) c x λy=>K (.t y)
 | .agg vs=>match dR vs with
  | some l=>eM c (rL P t) l λl=>K (.agg (l.map .t))
  | none=>K (.agg vs)
 | v=>K v
def iJ{R:Type}(P:Program)(c:Option Bool):List TypeId->List AV->(List AV->Option R)->Option R
 | [],vs,K=>K vs
 | _::_,[],K=>K []
 | t::ts,v::vs,K=>lZ P c t v λu=>iJ P c ts vs λus=>K (u::us)
def xf:List Bool->List AV->List Id
 | b::a,v::vs=>cond b v.ids [] ++xf a vs
 | _,_=> []
def rO(h:Id->Option ad)(dL:List Id)(b:Bool)(v:AV):Option (AV×aB):=
 cond (b || (!v.ids.isEmpty && v.ids.all dL.contains)) (some (v,[])) (kA false false h v)
def lD(h:Id->Option ad)(dL:List Id):List Bool->List AV->Option (List AV×aB)
 | _,[]=>some ([],[])
 | a,v::r=>(rO h dL (a.headD false) v).bind λp=>(lD h dL a.tail r).bind λq=>some (p.1::q.1,p.2++q.2)
def NR(sz col rsz:Nat):Nat:=100000+1000 * sz+100 * col+rsz
def qQ(h:Id->Option ad)(new i:Id)(k sz col rsz:Nat):Option aB:=
 match h i with
 | some (.box cs)=>match cs[k]? with
  | some (.own _)=>some []
  | some (.t (.ae b))=>cond (h new).isNone (some [(new, .rows b sz col rsz 0 []),(i, .box (cs.set k (.own new)))]) none
  | some (.t (.ab _ true []))=>cond (h new).isNone (some [(new, .rows true sz col rsz 0 []),(i, .box (cs.set k (.own new)))]) none
  | _=>none
 | _=>none
def nM(h:Id->Option ad)(new i:Id)(k sz:Nat):Option aB:=
 cond (Nat.ble 100000 sz) (qQ h new i k (sz % 100000 / 1000) (sz % 1000 / 100) (sz % 100)) <|
 match h i with
 | some (.box cs)=>match cs[k]? with
  | some (.own _)=>some []
  | some (.t (.ae b))=>cond (h new).isNone (some [(new, .sl false sz b []),(i, .box (cs.set k (.own new)))]) none
  | some (.t (.ab _ true []))=>cond (h new).isNone (some [(new, .sl false sz true []),(i, .box (cs.set k (.own new)))]) none
  | some (.part j d 0 n)=>match h j with
   | some (.sl false a b xs)=>if a=sz/\d=sz/\j≠i then cond (h new).isNone (some [(j, .dead),(new, .sl false sz b (xs.take n)),(i, .box (cs.set k (.own new)))]) none else none
   | _=>none
  | _=>none
 | _=>none
def jA(nm:Nat):Nat->(Id->Option ad)->List (Id×Nat×Nat)->Option aB
 | _,_,[]=>some []
 | j,h,(i,k,sz)::r=>(nM h (.s nm j) i k sz).bind λus=>(jA nm (j+1) (aJ h us) r).bind λvs=>some (us++vs)
def oJ:List Id->List Id->List Id
 | [],_=> []
 | i::r,seen=>cond (seen.contains i) (oJ r seen) (i::oJ r (i::seen))
def mD(i:Id):Nat->List ca->List (Id×Nat×Nat)
 | _,[]=> []
 | k, .own sz::r=>(i,k,sz)::mD i (k+1) r
 | k, .rows sz col rsz::r=>(i,k,NR sz col rsz)::mD i (k+1) r
 | k,_::r=>mD i (k+1) r
def mE:List Id->List jg->List (Id×Nat×Nat)
 | i::a, .box l::r=>mD i 0 l++mE a r
 | _::a,_::r=>mE a r
 | _,_=> []
def jq(l:List Id):aB:=l.map λi=>(i, .dead)
def vE(d:Nat)(l:List Id):Bool:=l.all λi=>match i with
 | .s a _=> !(a==d)
 | .c _=>true
 | .g _ _=>false
def fR{R:Type}(P:Program)(A:cA)(O:aq)(s:St)(d:Nat)(c:Option Bool)(f:FuncId)(args:List AV)(K:AV->aB->Option R):Option R:=
 match P.funcs[f]? with
 | none=>none
 | some fn=>
  match A.gS f with
  | none=>(kB ((de P A f 0 fn).all qu) (A.deep f) s.h args).bind λp=>
   iJ P c fn.params.toList p.1 λq=>aa none (dE c (O (.call f) q [])) λxs=>dJ [] d c 0 (de P A f 0 fn) xs λvs u _=>K (kV vs) (p.2++u)
  | some a=>match c with
   | some _=>none
   | none=>(lD s.h (xf a args) a args).bind λp=>
    (jA (2000000+d) 0 (aJ s.h p.2) (mE (oJ (bY p.1) []) (gA A f (gu ((bY p.1).head?.bind (aJ s.h p.2)))))).bind λus=>
    (eS (aJ (aJ s.h p.2) us) 1000 (bY p.1) []).bind λseen=>
    cond (vE d seen && Nat.beq (gu (seen.map λi=>gF seen (aJ (aJ s.h p.2) us i)).head?) (gu ((bY p.1).head?.bind (aJ s.h p.2)))) (iJ P none fn.params.toList (jE seen p.1) λq=>
     aa none (O (.call f) q (seen.map λi=>gF seen (aJ (aJ s.h p.2) us i))) λxs=>
     dJ seen d none 0 (de P A f (gu ((bY p.1).head?.bind (aJ s.h p.2))) fn) xs λvs u j=>
     fH seen d j seen (gA A f (gu ((bY p.1).head?.bind (aJ s.h p.2)))) (xs.drop (lW (de P A f (gu ((bY p.1).head?.bind (aJ s.h p.2))) fn))) λq=>
     K (kV vs) (p.2++us++jq seen++u++q)) none
def hY:List AV->Option (List AV×Id×Nat×List AV)
 | []=>none
 | .row i n::r=>some ([],i,n,r)
 | v::r=>(hY r).bind λq=>some (v::q.1,q.2.1,q.2.2.1,q.2.2.2)
def qI(n:Nat):List Row->Option Unit
 | []=>none
 | e::r=>if e.n=n then(match e.own with | none=>some () | some _=>none) else qI n r
def rQ{R:Type}(h:Id->Option ad)(i new:Id)(n rsz:Nat)(K:aB->Option R):Option R:=
 match h i,h new with
 | some (.rows b sz col d f es),some (.sl false a e xs)=>if d=rsz/\a=rsz then
   aa none (qI n es) λ_=>K [(i, .rows b sz col rsz f (cU n (some (e,xs)) es)),(new, .dead)] else none
 | _,_=>none
def Eg:Operand->Bool
 | .func _=>false
 | _=>true
def iS{R:Type}(gy:Bool)(P:Program)(A:cA)(O:aq)(s:St)(d:Nat)(c:Option Bool)(f:FuncId)(args:List AV)(K:AV->aB->Option R):Option R:=
 match cond gy (hY args) none with
 | none=>fR P A O s d c f args K
 | some (g,i,n,j)=>match c,s.h i with
  | none,some (.rows b sz col rsz a es)=>aa none (cy n es) λp=>
    cond (s.h (.s (2500000+d) 0)).isNone
     (fR P A O {t:=s.t,h:=aJ s.h [(i, .rows b sz col rsz a (cU n none es)),(.s (2500000+d) 0, .sl false rsz p.1 p.2)]} d none f (g++ .own (.s (2500000+d) 0)::j) λv us=>
      rQ (aJ s.h ([(i, .rows b sz col rsz a (cU n none es)),(.s (2500000+d) 0, .sl false rsz p.1 p.2)] ++us)) i (.s (2500000+d) 0) n rsz λe=>
       K v ([(i, .rows b sz col rsz a (cU n none es)),(.s (2500000+d) 0, .sl false rsz p.1 p.2)] ++us++e)) none
  | _,_=>none
theorem HX{R:Type}(P:Program)(A:cA)(O:aq)(s:St)(d:Nat)(c:Option Bool)(f:FuncId)(args:List AV)(K:AV->aB->Option R):iS false P A O s d c f args K=fR P A O s d c f args K:=rfl
def mF{R:Type}(P:Program)(s:St)(e:TypeId)(d:Nat)(c:Option Bool)(v:AV)(K:AV->aB->Option R):Option R:=
 match c,v with
 | none, .agg vs=>match hY vs with
  | some (a,i,n,f)=>match s.h i with
   | some (.rows b sz col rsz g es)=>aa none (cy n es) λp=>
     (dR (a++ .t (.ab rsz p.1 p.2)::f)).bind λl=>if l.length=P.cellsOf e/\P.cellsOf e<=1000/\0 < P.cellsOf e/\(hZ P e).isSome=true then
      K (.own (.s d 0)) [(i, .rows b sz col rsz g (cU n none es)),(.s d 1, .sl true rsz p.1 p.2),(.s d 0, .sl false (P.cellsOf e) false [l])] else none
   | _=>none
  | none=>none
 | _,_=>none
def uV(c:Option Bool)(b:Bool):Option Bool:=some (match c with
 | none=>b
 | some a=>a && b)
def nz{R:Type}(c:Option Bool)(v:AV)(K:Int->Option R):Option R:=
 v.t?.bind λx=>aa c (iu.anyInt x) K
def lJ:AV->AV
 | .t (.cz f)=> .fn f [] []
 | v=>v
def iq{R:Type}(P:Program)(A:cA)(O:aq)(g:Option Gs)(o:Oper)(s:St)(K:AV->aB->Option R):Option R:=
 let ev:=s.get g;let c:=g.map (·.c);let d:=o.dst.getD 0
 match o.op with
 | .move x | .assign x=>K (ev x) []
 | .pick k a b=>(ev k).t?.bind λI=>aa c I.bool? λkb=>
   (s.lL g k true a).t?.bind λx=>aa (uV c kb) x.bool? λJ=>
   (s.lL g k false b).t?.bind λy=>aa (uV c (!kb)) y.bool? λL=>K (AV.t (.bool (cond kb J L))) []
 | .alloc t=>match c with
  | some _=>none
  | none=>(hZ P t).bind λl=>K (.ref (.s d 0) 0) [(.s d 0, .box (l.map .t))]
 | .box _ x=>match c with
  | some _=>none
  | none=>if(fS (ev x)).all oG then K (.ref (.s d 0) 0) [(.s d 0, .box (fS (ev x)))] else none
 | .build t j=>(uc P t ev j.toList).bind λv=>K v []
 | .buildSlice t n j=>(mb P t).bind λe=>if A.kP o.dst o.type=1 then
   (match c,j.toList,n with
   | none,[(0,x)],1=>if((fS (ev x)).length=P.cellsOf e/\(fS (ev x)).all oG=true)/\P.cellsOf e<=1000/\0 < P.cellsOf e/\(hZ P e).isSome=true then K (.own (.s d 0)) [(.s d 0, .arr (fS (ev x)))] else none
   | _,_,_=>none)
   else if A.kP o.dst o.type=5 then(match j.toList,n with
   | [(0,x)],1=>mF P s e d c (ev x) K
   | _,_=>none)
   else if j.size=n/\n<=1000/\P.cellsOf e<=1000/\0 < P.cellsOf e/\(hZ P e).isSome=true then
   if n=0/\A.app o.dst=true then K (.t (.ae false)) [] else
   (gU P s.h e ev 0 j.toList).bind λq=>
   match c with
   | some _=>K (.t (.ab (P.cellsOf e) false q.1)) q.2
   | none=>K (.own (.s d 0)) ((.s d 0, .sl false (P.cellsOf e) false q.1)::q.2)
   else none
 | .load t a=>fY P s c t (ev a) λv=>K v []
 | .store t a x=>match c with
  | some _=>none
  | none=>iH P s t (ev a) (ev x) λu=>K .top u
 | .nilCheck x=>match ev x with
  | .ref i k=>K (.ref i k) []
  | .el i sz k o=>K (.el i sz k o) []
  | .rel i sz n k o=>K (.rel i sz n k o) []
  | .t y=>aa c y.pg λcs=>K (.t (.ptr cs)) []
  | .fn f a b=>K (.fn f a b) []
  | _=>none
 | .binOp op t x y ty=>match op,nI P t y,nI P t x with
  | .eql,true,_=>(iX P s t (ev x)).bind λb=>K (.t (.bool b)) []
  | .neq,true,_=>(iX P s t (ev x)).bind λb=>K (.t (.bool (!b))) []
  | .eql,_,true=>(iX P s t (ev y)).bind λb=>K (.t (.bool b)) []
  | .neq,_,true=>(iX P s t (ev y)).bind λb=>K (.t (.bool (!b))) []
  | .eql,_,_=>oN P c t (ev x) (ev y) λb=>K (.t (.bool b)) []
  | .neq,_,_=>oN P c t (ev x) (ev y) λb=>K (.t (.bool (!b))) []
  | op,_,_=>(ev x).t?.bind λa=>(ev y).t?.bind λb=>pR P op t ty c a b λz=>K (.t z) []
 | .unOp op t x=>(ev x).t?.bind λa=>rz P op t c a λz=>K (.t z) []
 | .convert src B x=>match P.underlying src,P.underlying B with
  | some (.slice e),some .string=>match qz P e with
   | some .u8=>(dv s.h (ev x)).bind λy=>aa c ((y.an 1).bind λp=>bytesOf p.2) λl=>K (.t (.str ⟨l.toArray⟩)) []
   | _=>none
  | _,_=>(ev x).t?.bind λa=>pW P c src B a λz=>K (.t z) []
 | .makeFunc (.func f) H C=>K (.fn f (H.toList.map ev) (C.toList.map ev)) []
 | .makeSlice t l m=>match c with
  | some _=>none
  | none=>(ev l).t?.bind λn=>(ev m).t?.bind λk=>qE P d t (A.kP o.dst o.type) n k K
 | .makeMap t m=>match c,m with
  | none,none=>qF P d t K
  | _,_=>none
 | .lookup t x k ok=>mq P s c t (ev x) (ev k) ok λv=>K v []
 | .mapUpdate t x k v=>match c with
  | some _=>none
  | none=>mA P s t (ev x) (ev k) (ev v) λu=>K .top u
 | .slice t x E D F=>
  iu s c g E λE=>iu s c g D λD=>iu s c g F λF=>mI P s c t (ev x) E D F λv=>K v []
 | .fieldAddr t x f=>qq P c t (ev x) f λv=>K v []
 | .field t x f=>qp P t (ev x) f λv=>K v []
 | .indexAddr t x i=>nz c (ev i) λn=>iW P s c t (ev x) n λv=>K v []
 | .index t x i=>nz c (ev i) λn=>match P.underlying t with
  | some .string=>(ev x).t?.bind λy=>aa c y.bc λb=>jw c n b.size
    (aa c b.data.toList[n.toNat]? λu=>K (.t (.int .u8 u.toNat)) [])
  | some (.array m e)=>match ev x with
   | .agg vs=>cond (bX P e) ((dR vs).bind λl=>jw c n m (jX P e c (l.drop (n.toNat * P.cellsOf e)) λz=>K z [])) none
   | _=>none
  | _=>none
 | .extract x k=>match ev x with
  | .lj vs=>(vs[k]?).bind λv=>K v []
  | _=>none
 | .call cl=>match cl.callee with
  | .builtin .len=>match cl.args.toList,cl.argTypes.toList with
   | [x],t::_=>mo P s c t (ev x) λv=>K v []
   | _,_=>none
  | .builtin .append=>match c,cl.args.toList,cl.argTypes.toList with
   | none,[x,y],[t,u]=>jQ P s d (A.kP o.dst o.type==3) t u (ev x) (ev y) K
   | _,_,_=>none
  | .builtin .max=>match qz P o.type with
   | some k=>(dR (cl.args.toList.map ev)).bind λl=>match l with
    | x::r=>aa c (x.int? k) λa=>nG k c true a r λz=>K (.t z) []
    | []=>none
   | none=>none
  | .builtin .min=>match qz P o.type with
   | some k=>(dR (cl.args.toList.map ev)).bind λl=>match l with
    | x::r=>aa c (x.int? k) λa=>nG k c false a r λz=>K (.t z) []
    | []=>none
   | none=>none
  | .builtin .delete=>match c,cl.args.toList,cl.argTypes.toList with
   | none,[x,y],t::_=>ma P s t (ev x) (ev y) λu=>K (.lj []) u
   | _,_,_=>none
  | .builtin .cap=>match cl.args.toList,cl.argTypes.toList with
   | [x],t::_=>match P.underlying t with
    | some (.slice _)=>match ev x with
     | .t y=>cond (ve y) (K (.t (.int .i64 0)) []) none
     | _=>none
    | _=>none
   | _,_=>none
  | .value G=>match lJ (ev G) with
   | .fn f a b=>iS (Eg G) P A O s d c f (a++cl.args.toList.map ev++b) K
   | _=>none
  | _=>none
 | _=>none
open Go
section
variable (P:Program) (A:cA) (O:aq)
def ug(b want:Bool):Bool:=cond want b (!b)
def gC(g:Option Gs)(b want:Bool):Bool:=
 match g with
 | none=>ug b want
 | some a=>cond a.c (ug b want) false
def cX{R:Type}(a:Array Oper)(o:Oper)(s:St)(K:Option Gs->Option R):Option R:=
 match o.guard with
 | none=>K none
 | some (j,want)=>match(a[j]?).bind (·.dst) with
  | none=>none
  | some d=>(s.t d).2.t?.bind λx=>aa ((s.t d).1.map (·.c)) x.bool? λb=>
    K (some {d:=d,want:=want,c:=gC (s.t d).1 b want})
def K7:Builtin->Bool
 | .delete=>true
 | _=>false
def aE(o:Oper):Bool:=
 match o.op with
 | .store .. =>true
 | .mapUpdate .. =>true
 | .call cl=>match cl.callee with
  | .builtin .append=>match cl.args.toList with
   | .const (.slice none 0 0)::_=>false
   | _=> !A.app o.dst
  | .builtin b=>K7 b
  | .value (.func f)=>match A.gS f with
   | some _=>true
   | none=>match P.funcs[f]? with
    | some _=>A.wr f
    | none=>true
  | .value _=> !A.xo o.dst
  | _=>true
 | .buildSlice .. =>A.kP o.dst o.type==6
 | _=>false
def KI(o:Oper):Bool:=
 match o.op with
 | .call cl=>match cl.callee with
  | .value (.func f)=>match P.funcs[f]? with
   | some fn=>(de P A f 0 fn).all qu
   | none=>false
  | _=>false
 | _=>false
def eX(o:Oper):Bool:=
 match o.op with
 | .move _ | .assign _ | .pick .. | .build .. | .unOp .. | .makeFunc .. | .fieldAddr .. | .field .. | .extract .. | .nilCheck _=>true
 | .binOp _ t x y _=> !(nI P t x || nI P t y)
 | .call cl=>match cl.callee with
  | .builtin .max | .builtin .min=>true
  | _=>false
 | _=>false
def dW(o:Oper):Bool:=
 match o.op with
 | .call cl=>match cl.callee with
  | .value (.func f)=>A.deep f
  | .value _=>true
  | .builtin .append=>A.kP o.dst o.type==3
  | _=>false
 | _=>false
def mB(o:Oper):Bool:=eX P o ||
 match o.op with
 | .load .. | .index .. | .indexAddr .. | .slice .. | .binOp .. | .convert .. | .lookup .. =>true
 | .call cl=>match cl.callee with
  | .builtin .len=>true
  | .value (.func _)=> !aE P A o && KI P A o
  | _=>false
 | _=>false
def ix(o:Oper):Bool:=
 match o.op with
 | .alloc _ | .box .. | .makeSlice .. | .makeMap .. =>true
 | _=>false
def eu(o:Oper):Bool:=
 match o.op with
 | .call cl=>match cl.callee with
  | .value (.func f)=>(A.gS f).isSome
  | .value _=> !A.xo o.dst
  | _=>false
 | _=>false
def pV(a b:Oper):Bool:= !((aE P A a && !(eX P b || ix b)) || (aE P A b && !(eX P a || ix a))) && (!dW A a || mB P A b) && (!dW A b || mB P A a)
def fT:List Oper->List Nat
 | []=> []
 | o::r=>match o.dst with
  | some d=>d::fT r
  | none=>fT r
def vU(d:Array Oper):Nat->Nat->Nat
 | 0,a=>a
 | n+1,a=>match d.find? (λo=>o.dst==some a) with
  | some o=>match o.op with
   | .fieldAddr _ (.tmp b) _=>vU d n b
   | .nilCheck (.tmp b)=>vU d n b
   | .move (.tmp b)=>vU d n b
   | _=>a
  | none=>a
def qP(b:Array Oper)(a:Nat):Nat:=vU b 6 a
def fN(b:Array Oper)(o:Oper):Option Nat:=match o.guard,o.op with
 | none, .store _ (.tmp a) _=>some (qP b a)
 | none, .load _ (.tmp a)=>some (qP b a)
 | _,_=>none
def _root_.Go.Aev.cA.stM(A:cA)(a:Array Oper):Bool:=A.st ((a[0]?).bind (·.dst)) && A.GC ((a[0]?).bind (·.dst)) (((a[0]?).map (·.type)).getD 0)
def jG(d:Array Oper)(a b:Oper):Bool:=A.stM d && (match fN d a,fN d b with
 | some k,some e=> !(k==e) && !(fT d.toList).contains k && !(fT d.toList).contains e
 | _,_=>false)
def AH(o:Oper):Bool:=o.guard.isNone && aE P A o && match o.op with
 | .call cl=>match cl.callee with
  | .builtin .append=> !(A.kP o.dst o.type==3)
  | .value (.func f)=>(A.gS f).isNone && !A.deep f
  | _=>false
 | .buildSlice .. =>true
 | .store _ (.tmp _) _=>true
 | _=>false
def La(o:Oper):Bool:=match o.op with
 | .store .. =>true
 | _=>false
def iB(b:Array Oper)(o:Oper):Option (Option Nat):=match o.guard,o.op with
 | none, .load _ (.tmp a)=>some (some (qP b a))
 | none, .buildSlice .. =>some none
 | _,_=>none
def iz(d:Array Oper)(a b:Oper):Bool:=A.ld ((d[0]?).bind (·.dst)) && (!aE P A b && AH P A a && (A.stM d || !La a)) && (match iB d b with
 | some (some k)=> !(fT d.toList).contains k
 | some none=>true
 | none=>false)
def iY(o:Oper)(k:Bool):Bool:=match o.guard,o.op with
 | none, .store t (.tmp _) _=>(match P.underlying t with
  | some (.slice _)=>k
  | some (.int _)=> !k
  | _=>false)
 | _,_=>false
def lb(d:Array Oper)(a b:Oper):Bool:=A.sx ((d[0]?).bind (·.dst)) && iY P a true && iY P b false
def ka:aB->Bool
 | [(_, .dead),(_, .rows _ _ _ rsz _ _)]=> !(rsz==1)
 | _=>false
def kb:aB->Bool
 | [(_, .sl false sz _ _)]=>sz==1
 | _=>false
def wY(o:Oper)(s:St):Bool:=match o.op with
 | .store _ _ y=>(s.get none y).ids.isEmpty
 | _=>false
def vd(o:Oper):Bool:=match o.guard,o.op with
 | none, .indexAddr t (.tmp _) _=>(match mb P t with
  | some e=>P.cellsOf e==1
  | none=>false)
 | none, .load _ (.tmp _)=>true
 | _,_=>false
def sR(o:Oper)(s:St):Bool:=match o.op with
 | .load _ x=>(match s.get none x with
  | .ref _ _=>true
  | _=>false)
 | .indexAddr _ x _=>(match s.get none x with
  | .own _=>true
  | _=>false)
 | _=>false
def ku(d:Array Oper)(a b:Oper):Bool:=A.sx ((d[0]?).bind (·.dst)) && (iY P a true || iY P a false) && vd P b
def nA(o:Oper):Bool:=match o.guard,o.op with
 | none, .load _ (.tmp _)=>true
 | none, .indexAddr _ (.tmp _) _=>true
 | _,_=>false
def rq(a b:Oper):Bool:=((A.pU a.dst a.type && A.vp b.dst b.type) || A.vo b.dst b.type) && nA b
def rp(d:Array Oper)(a b:Oper):Bool:=jG A d a b || iz P A d a b || iz P A d b a || (lb P A d a b || lb P A d b a) || (ku P A d a b || ku P A d b a) || (rq A a b || rq A b a)
def gH(a:Array Oper):Nat->Nat->Nat->Bool
 | 0,_,_=>false
 | n+1,j,i=>match a[j]? with
  | none=>false
  | some b=>b.after.any λe=>Region.binds .any e && (e.on==i || (Nat.blt i e.on && gH a n e.on i))
def yn(a:Array Oper)(listed:Array Bool)(i:Nat):Bool:=
 match a[i]? with
 | none=>false
 | some b=>(List.range a.size).all λj=>match a[j]? with
  | none=>true
  | some d=>j==i || listed.getD j true || pV P A b d || rp P A a b d || gH a 12 j i
def vq(b:Array Oper):Nat->Nat->Array Bool->Bool
 | 0,_,_=>true
 | n+1,k,a=>yn P A b a k && vq b n (k+1) (a.setIfInBounds k true)
def KN(h:Id->Option ad)(us:aB):Bool:=us.all λp=>(h p.1).isNone
def gW(d:Nat)(h:Id->Option ad)(us:aB):Bool:=us.all λp=>match p.1 with
 | .s a _=> !(a==d) || (h p.1).isNone
 | .c _=>true
 | .g _ _=>false
def dz(a:Array Oper)(d:Option Nat):Bool:=
 a.any λo=>match o.guard with
  | none=>false
  | some (j,_)=>match(a[j]?).bind (·.dst),d with
   | some e,some d=>e==d
   | _,_=>false
def pT(a:Array Oper)(o:Oper)(d:Nat):Bool:=
 (List.range a.size).all λi=>match a[i]? with
  | some b=> !(b.dst==some d) || o.after.any (λe=>Region.binds .any e && (e.on==i || gH a 12 e.on i))
  | none=>true
def nH(a:Array Oper)(g:Option Gs)(o:Oper)(s:St):Bool:=
 o.op.operands.toList.all λx=>(s.get g x).ids.all λi=>match i with
  | .s d _=>pT a o d
  | .c _=>true
  | .g _ _=>false
def jZ(o:Oper)(us:aB):Bool:=us.all λp=>match p.1 with
 | .s d _=>o.dst==some d
 | .c _=>false
 | .g _ _=>false
def rA(a:Array Oper)(o:Oper)(us:aB):Bool:=us.all λp=>match p.1 with
 | .s d _=>pT a o d || o.dst==some d
 | .c _=>true
 | .g _ _=>false
def zX(a:Array Oper)(o d:Oper)(s:St)(us:aB):Bool:=match fN a o,fN a d with
 | some k,some b=>(o.op.operands.toList.all λx=>(s.get none x).ids.all λi=>decide (i∈(s.t k).2.ids)) && us.all (λp=>decide (p.1∈(s.t k).2.ids)) && us.all (λp=>decide (p.1∉(s.t b).2.ids))
 | _,_=>false
def vl(a:Array Oper)(b:Oper)(s:St)(us:aB):Bool:=match iB a b with
 | some (some k)=>us.all λp=>decide (p.1∉(s.t k).2.ids)
 | _=>true
def sC(a:Array Oper)(o:Oper)(s:St):Bool:=match iB a o with
 | some (some k)=>o.op.operands.toList.all λx=>(s.get none x).ids.all λi=>decide (i∈(s.t k).2.ids)
 | some none=>o.op.operands.toList.all λx=>(s.get none x).ids.isEmpty
 | none=>true
def jH(a:Array Oper)(o:Oper)(s:St)(us:aB):Bool:=a.all λb=>(!(jG A a o b) || zX a o b s us) && (!(iz P A a o b) || vl a b s us) && (!(iz P A a b o) || sC a o s) && ((!(lb P A a o b) || ka us) && (!(lb P A a b o) || (kb us && wY o s))) && ((!(ku P A a o b) || ka us || kb us) && (!(ku P A a b o) || sR o s))
def sd:AV->Bool
 | .ref _ _=>true
 | .t (.int _ _)=>true
 | _=>false
def DO:AV->Bool
 | .ref _ _=>true
 | _=>false
def pQ(o:Oper)(s:St):Bool:=o.op.operands.toList.all λx=>(s.get none x).ids.isEmpty
def nD(o:Oper)(s:St)(v:AV):Bool:=(!(A.vo o.dst o.type && nA o) || pQ o s) && (!(A.vp o.dst o.type && nA o) || pQ o s || (match o.op with
 | .load _ x=>DO (s.get none x) && sd v
 | _=>false))
def sf:AV->AV->Option (Option (Int×Int))
 | .ref i o, .ref j p=>cond (decide (i=j/\o=p)) (some none) none
 | .ref _ _,_=>none
 | _, .ref _ _=>none
 | .t (.int k a), .t (.int d b)=>cond (decide (k=d)) (some (some (a,b))) none
 | .t (.int _ _),_=>none
 | _, .t (.int _ _)=>none
 | _,_=>some none
def sr{R:Type}:List AV->List AV->Option R->Option R
 | [],[],K=>K
 | c::r,c'::a,K=>match sf c c' with
  | none=>none
  | some none=>sr r a K
  | some (some p)=>aa none (if p.1=p.2 then some () else none) λ_=>sr r a K
 | _,_,_=>none
def sn:Option ad->Option ad->Option (Option (List AV×List AV))
 | some (.box cs),some (.box a)=>some (some (cs,a))
 | some (.box _),_=>none
 | _,some (.box _)=>none
 | some (.cO _),_=>none
 | _,some (.cO _)=>none
 | _,_=>some none
def su{R:Type}(h h':Id->Option ad):aB->Option R->Option R
 | [],K=>K
 | p::us,K=>match sn (h p.1) (h' p.1) with
  | none=>none
  | some none=>su h h' us K
  | some (some q)=>sr q.1 q.2 (su h h' us K)
def yE{R:Type}(a:Bool)(o:Oper)(h:Id->Option ad)(us:aB)(K:Option R):Option R:=cond (a && A.pU o.dst o.type) (su h (aJ h us) us K) K
def my(b:Bool)(nt:Nat)(a:Array Oper)(o:Oper)(g:Option Gs)(s:St)(v:AV)(us:aB):Bool:=
 (match o.dst with | some d=>decide (d < nt) | none=>true) &&
 (match g with | some g=>us.isEmpty && !(o.dst==some g.d) | none=>true) &&
 gW (o.dst.getD 0) s.h us && (!b || (nH a g o s && (aE P A o || jZ o us) && (!eX P o || us.isEmpty) && (!mB P A o || us.isEmpty) && (!aE P A o || rA a o us) && Nat.ble nt 1000000 && jH P A a o s us && nD A o s v))
def po(a:Bool)(o:Oper)(g:Option Gs):Option Gs:=
 match g with
 | some g=>cond (!a && eu A o) (some g) none
 | none=>none
def uw(nt:Nat)(o:Oper)(g:Gs):Bool:=(match o.dst with | some d=>decide (d < nt) | none=>true) && !(o.dst==some g.d)
def Nn(o:Oper):AV:=
 match o.op with
 | .call cl=>match cl.callee with
  | .value (.func f)=>match P.funcs[f]? with
   | some fn=>match de P A f 0 fn with
    | [.f .b]=> .t (.bool false)
    | [.f (.i k)]=> .t (.int k 0)
    | _=> .top
   | none=> .top
  | _=>match P.underlying o.type with
   | some .bool=> .t (.bool false)
   | some (.int k)=> .t (.int k 0)
   | _=> .top
 | _=> .top
def nL{R:Type}(b:Bool)(nt:Nat)(a:Array Oper)(o:Oper)(s:St)(K:St->Option R):Option R:=
 cX a o s λg=>match po A b o g with
 | some d=>cond (uw nt o d) (cond d.c
   (iq P A O none o (s.qL d) λv us=>
    if my P A b nt a o none s v us then K (s.put (dz a o.dst) o.dst (some d) v us) else none)
   (K (s.put (dz a o.dst) o.dst (some d) (Nn P A o) []))) none
 | none=>iq P A O g o s λv us=>
  yE A b o s.h us (if my P A b nt a o g s v us then K (s.put (dz a o.dst) o.dst g v us) else none)
def s5{R:Type}(a:Bool)(nt:Nat)(b:Array Oper):List Oper->St->(St->Option R)->Option R
 | [],s,K=>K s
 | o::r,s,K=>nL P A O a nt b o s λs'=>s5 a nt b r s' K
def St.clear(s:St):St:=
 {t :=λk=>match s.t k with
    | (none,v)=>(none,v)
    | (some _,_)=>(none, .top)
  h:=s.h}
def sJ:List Nat->Bool
 | []=>true
 | d::r=> !r.contains d && sJ r
def qy(a:Array Oper):Bool:=a.all λo=>match o.guard with
 | none=>true
 | some (j,_)=>o.after.any λe=>Region.binds .any e && e.on==j
def zr(b:Bool)(a:Array Oper):Bool:=
 !b || (Region.lexB .any a && vq P A a a.size 0 (Array.replicate a.size false) && sJ (fT a.toList) && qy a)
def region{R:Type}(nt:Nat)(a:Bool)(b:Array Oper)(s:St)(K:St->Option R):Option R:=
 cond (zr P A a b)
  (s5 P A O a nt b b.toList s λs'=>K s'.clear) none
def mv(h:Id->Option ad):AV->AV
 | .own i=>match h i with
  | some (.sl true sz b xs)=> .t (.ab sz b xs)
  | _=> .own i
 | .part i sz off n=>match h i with
  | some (.sl true a b xs)=>if a=sz then .t (.ab sz b ((xs.drop off).take n)) else .part i sz off n
  | _=> .part i sz off n
 | .ref i off=>match h i with
  | some (.cO l)=> .t (.ptr (l.drop off))
  | _=> .ref i off
 | v=>v
def sE(s:St)(k:Nat×Option Nat):Option (AV×aB):=
 match s.t k.1 with
 | (some _,_)=>none
 | (none,v)=>match k.2 with
  | none=>some (mv s.h v,[])
  | some sz=>if sz=0\/sz>=999998 then some (mv s.h v,[]) else match v with
   | .own i=>match s.h i with
    | some (.sl false _ _ _)=>some (.own i,[])
    | _=>none
   | .t (.ae b)=>some (.own (.s (1000000+k.1) 0),[(.s (1000000+k.1) 0, .sl false sz b [])])
   | _=>none
def nF(s:St):List (Nat×Option Nat)->Option (List AV×aB)
 | []=>some ([],[])
 | k::r=>(sE s k).bind λp=>(nF s r).bind λq=>some (p.1::q.1,p.2++q.2)
def wC(f:FuncId)(todo:List Item)(live:List (Nat×Option Nat))(m:Nat×Nat)(s:St):Option (List T):=
 (nF s live).bind λp=>
  if KN s.h p.2 then
  let h:=aJ s.h p.2
  (eS h 1000 ((List.range m.1).map Id.c++bY p.1) []).bind λseen=>
   O (.node f todo live m) (jE seen p.1) (seen.map λi=>gF seen (h i))
  else none
def yp(h:Id->Option ad):AV->aB
 | .ref i _=>match h i with
  | some (.box cs)=>lK h cs
  | _=> []
 | _=> []
def mg(s:St):List (Nat×Option Nat)->aB
 | []=> []
 | (k,some 0)::r=>gv s.h (s.t k).2++mg s r
 | (k,some (n+1))::r=>cond (Nat.beq n 999998) (yp s.h (s.t k).2) [] ++mg s r
 | (_,none)::r=>mg s r
def vR(s:St):List (Nat×Option Nat)->List (Id×Nat×Nat)
 | []=> []
 | (k,some n)::r=>match cond (Nat.ble 1000000 n) (s.t k).2 .top with
  | .ref i _=>(i,n / 1000000 - 1,n % 1000000)::vR s r
  | _=>vR s r
 | _::r=>vR s r
def qR(col rsz:Nat)(e:Row):List T:=e.cs.set col (match e.own with
 | some p=> .ab rsz p.1 p.2
 | none=> .ao)
def vF(h:Id->Option ad):AV->(Id->Option ad)
 | .ref i _=>match h i with
  | some (.box cs)=>aJ h [(i, .box (cs.map (mv h)))]
  | _=>h
 | _=>h
def zP(h:Id->Option ad):AV->(Id->Option ad)
 | .own i=>match h i with
  | some (.rows b sz col rsz _ es)=>cond (aX es) (aJ h [(i, .sl true sz b (es.map (qR col rsz)))]) h
  | _=>h
 | _=>h
def zQ:(Id->Option ad)->List AV->(Id->Option ad)
 | h,[]=>h
 | h,v::r=>zQ (zP h v) r
def zN(h:Id->Option ad):AV->(Id->Option ad)
 | .ref i _=>match h i with
  | some (.box cs)=>zQ h cs
  | _=>h
 | _=>h
def qJ(t:Nat->Option Gs×AV):(Id->Option ad)->List (Nat×Option Nat)->(Id->Option ad)
 | h,[]=>h
 | h,(k,some n)::r=>qJ t (cond (Nat.beq n 999999) (vF h (t k).2) (cond (Nat.beq n 999998) (vF (zN h (t k).2) (t k).2) h)) r
 | h,(_,none)::r=>qJ t h r
def lh(f:FuncId)(todo:List Item)(live:List (Nat×Option Nat))(m:Nat×Nat)(s:St):Option (List T):=
 (jA 1900000 0 (aJ s.h (mg s live)) (vR s live)).bind λus=>
  wC O f todo live m {t:=s.t,h:=qJ s.t (aJ (aJ s.h (mg s live)) us) live}
def mf(live:List (Nat×Option Nat))(bn:List AV)(blks:List ad):St:=
 {t:=λk=>(none,look live bn k)
  h:=fun
   | .c j=>blks[j]?
   | _=>none}
where
 look:List (Nat×Option Nat)->List AV->Nat->AV
 | (k,_)::ks,v::vs,j=>if j=k then v else look ks vs j
 | _,_,_=> .top
def nR:Code->Nat
 | .region id _ _=>id
 | .seq a _=>nR a
 | .block _ b=>nR b
 | .cond _ a _=>nR a
 | _=>1000000
def Fb(h:Id->Option ad)(sz:Nat):AV->Option (T×Id)
 | .own i=>match h i with
  | some (.sl false a b xs)=>if a=sz then some (.ab sz b xs,i) else none
  | _=>none
 | _=>none
def iV{R:Type}(m:Nat)(h:Id->Option ad)(r:ca)(v:AV)(K:T->List Id->List Id->Option R):Option R:=
 match r with
 | .f _=>v.t?.bind λx=>aa none x.oR λ_=>K x [] []
 | .t _=>(dv h v).bind λx=>K x [] ((gv h v).map (·.1))
 | .own sz=>match v with
  | .own i=>(Fb h sz (.own i)).bind λp=>K p.1 [p.2] []
  | .part i a 0 n=>match h i with
   | some (.sl false j b xs)=>if j=sz/\a=sz then K (.ab sz b (xs.take n)) [i] [] else none
   | _=>none
  | .t (.ae b)=>K (.ae b) [] []
  | .t (.ab _ true [])=>K (.ae true) [] []
  | _=>none
 | .ref k off=>match v with
  | .ref (.c e) off'=>if e=k/\off'=off/\k < m then K .ao [] [] else none
  | _=>none
 | .same k=>match v with
  | .own (.c e)=>if e=k/\k < m then K .ao [] [] else none
  | _=>none
 | .rows sz col rsz=>match v with
  | .own i=>match h i with
   | some (.rows b a d g _ es)=>if a=sz/\d=col/\g=rsz then
     aa none (if aX es=true then some () else none) λ_=>K (be b es) [i] [] else none
   | _=>none
  | _=>none
 | .mp ag ks vk=>match v with
  | .own i=>match h i with
   | some (.mp l o q es)=>if l=ag/\o=ks/\q=vk then K (aH es) [i] [] else none
   | _=>none
  | _=>none
 | .no=>match v with
  | .ref _ _=>K .ao [] []
  | _=>none
 | .agg _=>none
 | .new _=>none
def mc{R:Type}(m:Nat)(h:Id->Option ad):List ca->List AV->(List T->List Id->List Id->Option R)->Option R
 | [],[],K=>K [] [] []
 | r::rs,v::vs,K=>iV m h r v λx a b=>mc m h rs vs λxs d e=>K (x::xs) (a++d) (b++e)
 | _,_,_=>none
def fJ{R:Type}(m:Nat)(h:Id->Option ad):List ca->List AV->(List T->List Id->List Id->Option R)->Option R
 | [],[],K=>K [] [] []
 | r::rs,v::vs,K=>match r with
  | .agg l=>match v with
   | .agg cs=>mc m h l cs λxs a b=>fJ m h rs vs λf d e=>K (xs++f) (a++d) (b++e)
   | _=>none
  | .new l=>match v with
   | .ref i 0=>match h i with
    | some (.box cs)=>mc m h l cs λxs a b=>fJ m h rs vs λf d e=>K (xs++f) (i:: (a++d)) (b++e)
    | _=>none
   | _=>none
  | r=>iV m h r v λx a b=>fJ m h rs vs λxs d e=>K (x::xs) (a++d) (b++e)
 | _,_,_=>none
def kI{R:Type}(m:Nat)(h:Id->Option ad):Nat->List jg->(List T->List Id->List Id->Option R)->Option R
 | _,[],K=>K [] [] []
 | j, .box l::r,K=>match h (.c j) with
  | some (.box cs)=>mc m h l cs λxs a b=>kI m h (j+1) r λf d e=>K (xs++f) (.c j:: (a++d)) (b++e)
  | _=>none
 | j, .sl sz::r,K=>match h (.c j) with
  | some (.sl false k b xs)=>if k=sz then kI m h (j+1) r λf d e=>K (.ab sz b xs::f) (.c j::d) e else none
  | _=>none
 | j, .mp ag ks vk::r,K=>match h (.c j) with
  | some (.mp g i n es)=>if g=ag/\i=ks/\n=vk then kI m h (j+1) r λf d e=>K (aH es::f) (.c j::d) e else none
  | _=>none
 | j, .dead::r,K=>kI m h (j+1) r K
def qO{R:Type}(s:St):List ResultVar->(List AV->Option R)->Option R
 | [],K=>K []
 | .tmp k::r,K=>match s.t k with
   | (none,v)=>qO s r λl=>K (v::l)
   | _=>none
 | .cell k t::r,K=>match s.t k with
   | (none,v)=>fY P s none t v λv=>qO s r λl=>K (v::l)
   | _=>none
def vD:List Id->Bool
 | []=>true
 | i::r=> !r.contains i && vD r
def uO(f:FuncId)(fn:Func)(m:Nat×Nat)(s:St):Option (List T):=
 qO P s fn.results.toList λvs=>
  if m.1= (gA A f m.2).length then
  fJ m.1 s.h (de P A f m.2 fn) vs λxs a b=>kI m.1 s.h 0 (gA A f m.2) λg d e=>
   if vD (a++d) && (b++e).all (λi=> !(a++d).contains i) then some (xs++g) else none
  else none
def sS:List AV->List Id
 | []=> []
 | .own i::r=>i::sS r
 | _::r=>sS r
def zw(h:Id->Option ad)(t:Nat->Option Gs×AV):List ResultVar->List Id
 | []=> []
 | .tmp k::r=>(match(t k).2 with
  | .agg vs=>sS vs
  | v=>sS [v])++zw h t r
 | .cell k _::r=>(match(t k).2 with
  | .ref i _=>match h i with
   | some (.box cs)=>sS cs
   | _=> []
  | _=> [])++zw h t r
def tg{R:Type}:(Id->Option ad)->List Id->(aB->Option R)->Option R
 | _,[],K=>K []
 | h,i::r,K=>match h i with
  | some (.rows b sz col rsz _ es)=>aa none (if aX es=true then some () else none) λ_=>
    tg (aJ h [(i, .sl true sz b (es.map (qR col rsz)))]) r λus=>K ((i, .sl true sz b (es.map (qR col rsz)))::us)
  | _=>tg h r K
def uN(f:FuncId)(fn:Func)(m:Nat×Nat)(s:St):Option (List T):=
 cond ((de P A f m.2 fn).any DQ) (uO P A f fn m s)
  (tg s.h (zw s.h s.t fn.results.toList) λus=>uO P A f fn m {t:=s.t,h:=aJ s.h us})
def ev(f:FuncId)(fn:Func)(m:Nat×Nat):Nat->Bool->List Item->St->Option (List T)
 | 0,_,_,_=>none
 | n+1,d,todo,s=>match todo with
  | []=>uN P A f fn m s
  | .code c::k=>match c with
   | .skip=>ev f fn m n true k s
   | .seq a b=>ev f fn m n d (.code a:: .code b::k) s
   | .region id g e=>match cond d (A.join f id) none with
    | some live=>lh O f (.code (.region id g e)::k) live m s
    | none=>region P A O fn.ntmps e g s λs'=>ev f fn m n true k s'
   | .cond x a b=>(s.get none x).t?.bind λy=>aa none y.bool? λt=>cond t (ev f fn m n true (.code a::k) s) (ev f fn m n true (.code b::k) s)
   | .block id b=>ev f fn m n d (.code b:: .inBlock id::k) s
   | .loop b=>match A.live f (nR b) with
    | some live=>lh O f (.inLoop b::k) live m s
    | none=>none
   | .exit id=>match exitTo id k with
    | some i=>ev f fn m n true i s
    | none=>none
   | .ret=>uN P A f fn m s
   | _=>none
  | .inBlock _::k=>ev f fn m n true k s
  | .inLoop b::k=>match A.live f (nR b) with
    | some live=>lh O f (.inLoop b::k) live m s
    | none=>none
  | _::_=>none
def ju:Nat:=100000
def sa(bn:List AV)(a:List ad):St:=
 {t:=λk=>(none,bn.getD k .top)
  h:=fun
   | .c j=>a[j]?
   | _=>none}
def ax:aq
 | .call f,bn,a=>match A.ext f bn a with
  | some r=>some r
  | none=>match P.funcs[f]? with
  | some fn=>match fn.body with
   | some c=>if bn.length<=fn.ntmps then ev P A O f fn (a.length,gu a.head?) ju true [.code c] (sa bn a) else none
   | none=>none
  | none=>none
 | .node f todo live m,bn,a=>match P.funcs[f]? with
  | some fn=>match todo with
   | .inLoop b::k=>ev P A O f fn m ju true (.code b:: .inLoop b::k) (mf live bn a)
   | todo=>ev P A O f fn m ju false todo (mf live bn a)
  | none=>none
end
def oQ(d:Bool)(r:Nat):Code->List Item->Option (List Item)
 | .seq a b,k=>match oQ d r a (.code b::k) with
  | some t=>some t
  | none=>oQ d r b k
 | .block id b,k=>oQ d r b (.inBlock id::k)
 | .loop b,k=>if d && nR b==r then some (.inLoop b::k) else oQ d r b (.inLoop b::k)
 | .cond _ a b,k=>match oQ d r a k with
  | some t=>some t
  | none=>oQ d r b k
 | .region id f e,k=>if !d && id==r then some (.code (.region id f e)::k) else none
 | _,_=>none
def bG(P:Program)(f:FuncId)(a:Bool)(r:Nat)(live:List (Nat×Option Nat))(m:Nat×Nat):Key:=
 .node f (match P.funcs[f]? with
  | some fn=>match fn.body with
   | some c=>(oQ a r c []).getD []
   | none=> []
  | none=> []) live m
def iA(P:Program)(A:cA):Nat->aq
 | 0=>λ_ _ _=>none
 | n+1=>ax P A (iA P A n)
open Classical in
noncomputable def kS(P:Program)(A:cA):aq:=λk vs a=>
 if h:∃n r,iA P A n k vs a=some r then some (Classical.choose (SB h)) else none
open Go
section
variable (w:World) (A:Nat->Prop)
mutual
def ay:T->Value->Prop
 | .int k n,v=>v= .int k n
 | .bool b,v=>v= .bool b
 | .str s,v=>v= .string s
 | .ab sz b xs,v=>(b=true/\xs= []/\v= .slice none 0 0)\/
   (b=false/\∃af off sp cap,v= .slice (some ⟨af,off,sp⟩) xs.length cap/\xs.length<=cap/\(xs= []\/(sp=none/\A af))/\bd af sz off xs)
 | .ae b,v=>(b=true/\v= .slice none 0 0)\/(b=false/\∃af off sp,v= .slice (some ⟨af,off,sp⟩) 0 0)
 | .ptr cs,v=>∃af off,v= .pointer (some ⟨af,off,none⟩)/\(cs= []\/A af)/\aZ af off cs
 | .ao,v=>v= .pointer none
 | .vC,v=>v= .map none
 | .vB,v=>v= .nilFunc
 | .y7,v=>v= .nilIface
 | .cz f,v=>v= .func (.func f) #[] #[]
 | .any,v=>v.oneCell'=true/\v.cells= #[v]
def bd(af sz:Nat):Nat->List (List T)->Prop
 | _,[]=>True
 | off,cs::xs=>cs.length=sz/\aZ af off cs/\bd af sz (off+sz) xs
def aZ(af:Nat):Nat->List T->Prop
 | _,[]=>True
 | off,c::cs=>(∃v,w.cell? ⟨af,off,none⟩=some v/\ay c v)/\aZ af (off+1) cs
end
def aS:List T->List Value->Prop
 | [],vs=>vs= []
 | c::cs,vs=>∃v r,vs=v::r/\ay w A c v/\aS cs r
end
section
variable {w w':World} {A A':Nat->Prop}
theorem l9{a:Addr}(h:w'.heap[a.block]? =w.heap[a.block]?):w'.cell? a=w.cell? a:=by simp [World.cell?,h]
mutual
theorem ay.mono(h:∀b,A b->A' b/\w'.heap[b]? =w.heap[b]?):∀(t:T) (v:Value),ay w A t v->ay w' A' t v
 | .int k n,v,a=>by simpa [ay] using a
 | .bool b,v,a=>by simpa [ay] using a
 | .str s,v,a=>by simpa [ay] using a
 | .ae b,v,a=>by simpa [ay] using a
 | .ao,v,a=>by simpa [ay] using a
 | .vC,v,a=>by simpa [ay] using a
 | .vB,v,a=>by simpa [ay] using a
 | .y7,v,a=>by simpa [ay] using a
 | .cz f,v,a=>by simpa [ay] using a
 | .any,v,a=>by simp only [ay] at a⊢;exact a
 | .ab sz b xs,v,a=>by
  simp only [ay] at a⊢;rcases a with a | ⟨j,af,off,sp,cap,g,e,d,i⟩
  .exact .inl a
  .refine .inr ⟨j,af,off,sp,cap,g,e, ?_, ?_⟩
   .rcases d with d | d
    .exact .inl d
    .exact .inr ⟨d.1,(h _ d.2).1⟩
   .rcases d with d | d
    .subst d;simp [bd]
    .exact bd.mono h af sz d.2 off xs i
 | .ptr cs,v,a=>by
  simp only [ay] at a⊢;obtain⟨af,off,g,e,d⟩:=a;refine⟨af,off,g, ?_, ?_⟩
  .rcases e with e | e
   .exact .inl e
   .exact .inr (h _ e).1
  .rcases e with e | e
   .subst e;simp [aZ]
   .exact aZ.mono h af e off cs d
theorem bd.mono(h:∀b,A b->A' b/\w'.heap[b]? =w.heap[b]?)(af sz:Nat)(d:A af):∀(off:Nat) (xs:List (List T)),bd w A af sz off xs->bd w' A' af sz off xs
 | _,[],_=>by simp [bd]
 | off,cs::xs,a=>by simp only [bd] at a⊢;exact⟨a.1,aZ.mono h af d off cs a.2.1,bd.mono h af sz d (off+sz) xs a.2.2⟩
theorem aZ.mono(h:∀b,A b->A' b/\w'.heap[b]? =w.heap[b]?)(af:Nat)(d:A af):∀(off:Nat) (cs:List T),aZ w A af off cs->aZ w' A' af off cs
 | _,[],_=>by simp [aZ]
 | off,c::cs,e=>by simp only [aZ] at e⊢;obtain⟨⟨v,f,g⟩,a⟩:=e;exact⟨⟨v,by rw [l9 (w:=w) (by exact(h af d).2)];exact f,ay.mono h c v g⟩,aZ.mono h af d (off+1) cs a⟩
end
theorem aZ.mr(h:∀b,A b->A' b/\w'.heap[b]? =w.heap[b]?)(af:Nat)(d:w'.heap[af]? =w.heap[af]?):∀(off:Nat) (cs:List T),aZ w A af off cs->aZ w' A' af off cs
 | _,[],_=>by simp [aZ]
 | off,c::cs,e=>by simp only [aZ] at e⊢;obtain⟨⟨v,f,g⟩,a⟩:=e;exact⟨⟨v,by rw [l9 (w:=w) (by exact d)];exact f,ay.mono h c v g⟩,aZ.mr h af d (off+1) cs a⟩
theorem bd.mr(h:∀b,A b->A' b/\w'.heap[b]? =w.heap[b]?)(af sz:Nat)(d:w'.heap[af]? =w.heap[af]?):∀(off:Nat) (xs:List (List T)),bd w A af sz off xs->bd w' A' af sz off xs
 | _,[],_=>by simp [bd]
 | off,cs::xs,a=>by simp only [bd] at a⊢;exact⟨a.1,aZ.mr h af d off cs a.2.1,bd.mr h af sz d (off+sz) xs a.2.2⟩
theorem aS.mono(h:∀b,A b->A' b/\w'.heap[b]? =w.heap[b]?):∀(cs:List T) (vs:List Value),aS w A cs vs->aS w' A' cs vs
 | [],_,f=>f
 | c::cs,vs,⟨v,r,e,a,d⟩=>⟨v,r,e,ay.mono h c v a,aS.mono h cs r d⟩
theorem bd.get{af sz:Nat}:∀{off:Nat} {xs:List (List T)},bd w A af sz off xs->∀{k:Nat} {cs:List T},xs[k]? =some cs->cs.length=sz/\aZ w A af (off+k * sz) cs
 | off,cs::xs,h,0,a,e=>by simp only [bd] at h;simp at e;subst e;exact⟨h.1,by simpa using h.2.1⟩
 | off,cs::xs,h,k+1,a,e=>by
  simp only [bd] at h;have:=bd.get h.2.2 (k:=k) (cs:=a) (by simpa using e);refine⟨this.1, ?_⟩;have b:off+ (k+1) * sz=off+sz+k * sz:=by rw [Ry];omega
  rw [b];exact this.2
theorem aZ.get{af:Nat}:∀{off:Nat} {cs:List T},aZ w A af off cs->∀{k:Nat} {c:T},cs[k]? =some c->∃v,w.cell? ⟨af,off+k,none⟩=some v/\ay w A c v
 | off,c::cs,h,0,c',e=>by simp only [aZ] at h;simp at e;subst e;exact h.1
 | off,c::cs,h,k+1,c',e=>by
  simp only [aZ] at h;have:=aZ.get h.2 (k:=k) (c:=c') (by simpa using e);have a:off+1+k=off+ (k+1):=by omega
  rw [a] at this;exact this
theorem aZ.drop{af:Nat}:∀{off:Nat} {cs:List T},aZ w A af off cs->∀(n:Nat),aZ w A af (off+n) (cs.drop n)
 | _,_,h,0=>by simpa using h
 | _,[],_,n+1=>by simp [aZ]
 | off,c::cs,h,n+1=>by
  simp only [aZ] at h;have:=aZ.drop h.2 n;have a:off+1+n=off+ (n+1):=by omega
  rw [a] at this;simpa using this
theorem bd.drop{af sz:Nat}:∀{off:Nat} {xs:List (List T)},bd w A af sz off xs->∀(n:Nat),bd w A af sz (off+n * sz) (xs.drop n)
 | _,_,h,0=>by simpa using h
 | _,[],_,n+1=>by simp [bd]
 | off,cs::xs,h,n+1=>by
  simp only [bd] at h;have:=bd.drop h.2.2 n;have a:off+sz+n * sz=off+ (n+1) * sz:=by rw [Ry];omega
  rw [a] at this;simpa using this
theorem bd.take{af sz:Nat}:∀{off:Nat} {xs:List (List T)},bd w A af sz off xs->∀(n:Nat),bd w A af sz off (xs.take n)
 | _,_,_,0=>by simp [bd]
 | _,[],_,n+1=>by simp [bd]
 | off,cs::xs,h,n+1=>by simp only [bd] at h;simp only [S1,bd];exact⟨h.1,h.2.1,bd.take h.2.2 n⟩
theorem bd.append{af sz:Nat}:∀{off:Nat} {xs a:List (List T)},bd w A af sz off xs->bd w A af sz (off+xs.length * sz) a->bd w A af sz off (xs++a)
 | off,[],a,_,h=>by simpa using h
 | off,cs::xs,a,h,h'=>by
  simp only [bd] at h;simp only [Rs,bd];refine⟨h.1,h.2.1,bd.append h.2.2 ?_⟩;have b:off+sz+xs.length * sz=off+ (cs::xs).length * sz:=by simp [Ry];omega
  rw [b];exact h'
theorem ay.pc{t:T}{v:Value}(h:ay w A t v):v.oneCell'=true/\v.cells= #[v]:=by
 cases t <;> simp only [ay] at h
 case ab=>rcases h with⟨_,_,rfl⟩ | ⟨_,_,_,_,_,rfl,_⟩ <;> exact⟨rfl,rfl⟩
 case ae=>rcases h with⟨_,rfl⟩ | ⟨_,_,_,_,rfl⟩ <;> exact⟨rfl,rfl⟩
 case ptr=>obtain⟨_,_,rfl,_⟩:=h;exact⟨rfl,rfl⟩
 case any=>exact h
 all_goals subst h;exact⟨rfl,rfl⟩
theorem aS.length:∀{cs:List T} {vs:List Value},aS w A cs vs->vs.length=cs.length
 | [],_,h=>by simp only [aS] at h;simp [h]
 | c::cs,vs,⟨v,r,e,_,h⟩=>by subst e;simp [aS.length h]
end
section
variable (w:World) (A:Nat->Prop) (ρ:Id->Option Value)
mutual
def ai:AV->Value->Prop
 | .top,_=>True
 | .t x,v=>ay w A x v
 | .lj vs,v=>∃d:List Value,v= .tuple d.toArray/\az vs d
 | .agg vs,v=>∃d:List Value,v= .agg d.toArray/\az vs d/\∀u∈d,u.oneCell'=true/\u.cells= #[u]
 | .ref i off,v=>∃b,ρ i=some (.pointer (some ⟨b,0,none⟩))/\v= .pointer (some ⟨b,off,none⟩)
 | .el i sz k off,v=>∃b o L cap,ρ i=some (.slice (some ⟨b,o,none⟩) L cap)/\v= .pointer (some ⟨b,o+k * sz+off,none⟩)
 | .own i,v=>ρ i=some v
 | .part i sz off n,v=>∃a L cap e,ρ i=some (.slice a L cap)/\off+n<=L/\L<=cap/\v= .slice e n (cap - off)/\
   ((off=0/\e=a)\/(off=cap/\(e=none↔a=none)/\True)\/∃b o,a=some ⟨b,o,none⟩/\e=some ⟨b,o+off * sz,none⟩)
 | .row i n,v=>ρ (.g i n)=some v
 | .rel i sz n k off,v=>∃b o L cap,ρ (.g i n)=some (.slice (some ⟨b,o,none⟩) L cap)/\v= .pointer (some ⟨b,o+k * sz+off,none⟩)
 | .fn f xs m,v=>∃j l:List Value,v= .func (.func f) j.toArray l.toArray/\az xs j/\az m l
def az:List AV->List Value->Prop
 | [],vs=>vs= []
 | a::b,vs=>∃v r,vs=v::r/\ai a v/\az b r
end
end
section
variable {w w':World} {A A':Nat->Prop} {ρ ρ':Id->Option Value}
mutual
theorem ai.mono(h:∀b,A b->A' b/\w'.heap[b]? =w.heap[b]?)(g:∀i v,ρ i=some v->ρ' i=some v):∀(a:AV) (v:Value),ai w A ρ a v->ai w' A' ρ' a v
 | .top,_,_=>by simp [ai]
 | .t x,v,d=>by simp only [ai] at d⊢;exact ay.mono h x v d
 | .lj vs,v,d=>by simp only [ai] at d⊢;obtain⟨l,e,j⟩:=d;exact⟨l,e,az.mono h g vs l j⟩
 | .agg vs,v,d=>by simp only [ai] at d⊢;obtain⟨l,e,j,y⟩:=d;exact⟨l,e,az.mono h g vs l j,y⟩
 | .ref i off,v,d=>by simp only [ai] at d⊢;obtain⟨b,e,j⟩:=d;exact⟨b,g _ _ e,j⟩
 | .el i sz k off,v,d=>by simp only [ai] at d⊢;obtain⟨b,o,L,cap,e,j⟩:=d;exact⟨b,o,L,cap,g _ _ e,j⟩
 | .own i,v,d=>by simp only [ai] at d⊢;exact g _ _ d
 | .part i sz off n,v,d=>by simp only [ai] at d⊢;obtain⟨a,L,cap,q,e,j⟩:=d;exact⟨a,L,cap,q,g _ _ e,j⟩
 | .row i n,v,d=>by simp only [ai] at d⊢;exact g _ _ d
 | .rel i sz n k off,v,d=>by simp only [ai] at d⊢;obtain⟨b,o,L,cap,e,j⟩:=d;exact⟨b,o,L,cap,g _ _ e,j⟩
 | .fn f xs z,v,d=>by simp only [ai] at d⊢;obtain⟨m,p,e,r,u⟩:=d;exact⟨m,p,e,az.mono h g xs m r,az.mono h g z p u⟩
theorem az.mono(h:∀b,A b->A' b/\w'.heap[b]? =w.heap[b]?)(g:∀i v,ρ i=some v->ρ' i=some v):∀(d:List AV) (vs:List Value),az w A ρ d vs->az w' A' ρ' d vs
 | [],_,f=>by simpa [az] using f
 | a::d,vs,f=>by simp only [az] at f⊢;obtain⟨v,r,e,j,k⟩:=f;exact⟨v,r,e,ai.mono h g a v j,az.mono h g d r k⟩
end
theorem az.length:∀{b:List AV} {vs:List Value},az w A ρ b vs->vs.length=b.length
 | [],_,h=>by simp only [az] at h;simp [h]
 | a::b,vs,h=>by simp only [az] at h;obtain⟨v,r,e,_,h⟩:=h;subst e;simp [az.length h]
theorem az.get:∀{b:List AV} {vs:List Value},az w A ρ b vs->∀{k:Nat} {a:AV},b[k]? =some a->∃v,vs[k]? =some v/\ai w A ρ a v
 | a::b,vs,h,0,d,e=>by simp only [az] at h;obtain⟨v,r,rfl,f,_⟩:=h;simp at e;subst e;exact⟨v,rfl,f⟩
 | a::b,vs,h,k+1,d,e=>by simp only [az] at h;obtain⟨v,r,rfl,_,h⟩:=h;obtain⟨u,i,g⟩:=az.get h (k:=k) (a:=d) (by simpa using e);exact⟨u,by simpa using i,g⟩
theorem az.append:∀{b d:List AV} {vs us:List Value},az w A ρ b vs->az w A ρ d us->az w A ρ (b++d) (vs++us)
 | [],_,_,_,h,h'=>by simp only [az] at h;subst h;simpa using h'
 | a::b,d,vs,us,h,h'=>by simp only [az] at h;obtain⟨v,r,rfl,e,h⟩:=h;simp only [Rs,az];exact⟨v,r++us,rfl,e,az.append h h'⟩
theorem az.drop:∀{b:List AV} {vs:List Value},az w A ρ b vs->∀n,az w A ρ (b.drop n) (vs.drop n)
 | _,_,h,0=>by simpa using h
 | [],vs,h,n+1=>by simp only [az] at h;subst h;simp [az]
 | a::b,vs,h,n+1=>by simp only [az] at h;obtain⟨v,r,rfl,d,h⟩:=h;simpa using az.drop h n
theorem az.take:∀{b:List AV} {vs:List Value},az w A ρ b vs->∀n,az w A ρ (b.take n) (vs.take n)
 | _,_,_,0=>by simp [az]
 | [],vs,h,n+1=>by simp only [az] at h;subst h;simp [az]
 | a::b,vs,h,n+1=>by simp only [az] at h;obtain⟨v,r,rfl,d,h⟩:=h;simp only [S1,az];exact⟨v,r.take n,rfl,d,az.take h n⟩
theorem az.kR:∀{cs:List T} {vs:List Value},aS w A cs vs->az w A ρ (cs.map .t) vs
 | [],_,h=>by simpa [az,aS] using h
 | c::cs,vs,⟨v,r,e,a,b⟩=>by simp only [Rc,az];exact⟨v,r,e,by simpa [ai] using a,az.kR b⟩
theorem aS.kc:∀{b:List AV} {cs:List T} {vs:List Value},dR b=some cs->az w A ρ b vs->aS w A cs vs
 | [],cs,vs,h,d=>by simp only [dR,Qy] at h;subst h;simpa [aS,az] using d
 | a::b,cs,vs,h,d=>by
  cases a <;> simp only [dR,reduceCtorEq] at h
  case t x=>
   cases hl:dR b with
   | none=>simp [hl] at h
   | some l=>simp only [hl,QD,Qy] at h;subst h;simp only [az,ai] at d;obtain⟨v,r,e,f,g⟩:=d;exact⟨v,r,e,f,aS.kc hl g⟩
end
open Go
section
variable {R S α:Type}
theorem bI[Inhabited α](c:Option Bool)(m:Option α)(k:α->Option R)(f:R->Option S):(aa c m k).bind f=aa c m λa=>(k a).bind f:=by
 unfold aa;cases m with
 | some a=>rfl
 | none=>cases c with
  | none=>rfl
  | some b=>cases b <;> rfl
theorem aM[Inhabited α]{c:Option Bool}{m:Option α}{k:α->Option R}{r:R}(h:aa c m k=some r)(b:c=none\/c=some true):∃a,m=some a/\k a=some r:=by
 unfold aa at h;cases m with
 | some a=>exact⟨a,rfl,h⟩
 | none=>rcases b with rfl | rfl <;> simp at h
theorem kF(c:Bool)(x y:Option R)(f:R->Option S):(cond c x y).bind f=cond c (x.bind f) (y.bind f):=by cases c <;> rfl
theorem cG(c:Prop)[Decidable c](x y:Option R)(f:R->Option S):(if c then x else y).bind f=if c then x.bind f else y.bind f:=by split <;> rfl
theorem bz(f:R->Option S):(none:Option R).bind f=none:=rfl
theorem z8(c:Option Bool):∀(n:Nat) (cs:List T) (K:List T->Option R) (f:R->Option S),(nU c n cs K).bind f=nU c n cs λx=>(K x).bind f
 | 0,_,_,_=>rfl
 | n+1,cs,K,f=>by simp only [nU,bI,z8 c n]
theorem mJ(k:Ck)(c:Option Bool)(x:T)(K:T->Option R)(f:R->Option S):(eT k c x K).bind f=eT k c x λx=>(K x).bind f:=by unfold eT;cases k <;> simp only [bI]
theorem ry(c:Option Bool):∀(ks:List Ck) (xs:List T) (K:List T->Option R) (f:R->Option S),(eM c ks xs K).bind f=eM c ks xs λx=>(K x).bind f
 | [],_,_,_=>rfl
 | _::_,[],_,_=>rfl
 | k::ks,x::xs,K,f=>by simp only [eM,mJ,ry c ks xs]
theorem Ht(op:BinOp)(k:IntKind)(c:Option Bool)(x y:T)(K:T->Option R)(f:R->Option S):(pP op k c x y K).bind f=pP op k c x y λx=>(K x).bind f:=by unfold pP;cases op <;> simp only [bI,bz]
theorem PJ(op:BinOp)(k ky:IntKind)(c:Option Bool)(x y:T)(K:T->Option R)(f:R->Option S):(qY op k ky c x y K).bind f=qY op k ky c x y λx=>(K x).bind f:=by unfold qY;cases op <;> simp only [bI,bz]
theorem P5(op:BinOp)(c:Option Bool)(x y:T)(K:T->Option R)(f:R->Option S):(rr op c x y K).bind f=rr op c x y λx=>(K x).bind f:=by unfold rr;cases op <;> simp only [bI,bz]
theorem CY(P:Program)(c:Option Bool)(t:TypeId)(x y:T)(K:Bool->Option R)(f:R->Option S):(kJ P c t x y K).bind f=kJ P c t x y λx=>(K x).bind f:=by unfold kJ;split <;> simp only [bI,bz]
theorem CZ(P:Program)(c:Option Bool):∀(ts:List TypeId) (xs a:List T) (K:Bool->Option R) (f:R->Option S),(et P c ts xs a K).bind f=et P c ts xs a λx=>(K x).bind f
 | [],[],[],_,_=>rfl
 | t::ts,x::xs,y::a,K,f=>by simp only [et,CY,CZ P c ts xs a]
 | [],[],_::_,_,_=>rfl
 | [],_::_,_,_,_=>rfl
 | _::_,[],_,_,_=>rfl
 | _::_,_::_,[],_,_=>rfl
theorem HC(P:Program)(op:BinOp)(t ty:TypeId)(c:Option Bool)(x y:T)(K:T->Option R)(f:R->Option S):(pR P op t ty c x y K).bind f=pR P op t ty c x y λx=>(K x).bind f:=by unfold pR;cases op <;> simp only [] <;> first | rfl | (split <;> simp only [Ht,PJ,P5,bz])
theorem Kw(P:Program)(c:Option Bool)(t:TypeId)(x y:AV)(K:Bool->Option R)(f:R->Option S):(oN P c t x y K).bind f=oN P c t x y λx=>(K x).bind f:=by unfold oN;split <;> simp only [kF,bI,CY,CZ,QS,bz]
theorem Qm(P:Program)(op:UnOp)(t:TypeId)(c:Option Bool)(x:T)(K:T->Option R)(f:R->Option S):(rz P op t c x K).bind f=rz P op t c x λx=>(K x).bind f:=by unfold rz;split <;> simp only [bI,bz]
theorem sF(P:Program)(t:TypeId)(c:Option Bool)(cs:List T)(K:AV->Option R)(f:R->Option S):(jX P t c cs K).bind f=jX P t c cs λx=>(K x).bind f:=by unfold jX;simp only [kF,bI,z8,mJ,ry]
theorem Em(P:Program)(t:TypeId)(cs:List AV)(K:AV->Option R)(f:R->Option S):(lQ P t cs K).bind f=lQ P t cs λx=>(K x).bind f:=by unfold lQ;simp only [kF,QS]
theorem zB(h:Id->Option ad)(c:Option Bool)(i:Id)(n:Nat)(K:Nat->Bool->List (List T)->Option R)(f:R->Option S):(kZ h c i n K).bind f=kZ h c i n λa b l=>(K a b l).bind f:=by unfold kZ;split <;> simp only [bI,bz]
theorem Lr(P:Program)(t:TypeId)(c:Option Bool)(i:Id)(sz col off:Nat)(e:Row)(K:AV->Option R)(f:R->Option S):(qD P t c i sz col off e K).bind f=qD P t c i sz col off e λx=>(K x).bind f:=by unfold qD;simp only [kF,cG,bI,z8,mJ,ry,bz]
theorem Lq(P:Program)(s:St)(c:Option Bool)(t:TypeId)(a:AV)(K:AV->Option R)(f:R->Option S):(fY P s c t a K).bind f=fY P s c t a λx=>(K x).bind f:=by
 unfold fY;rw [kF];congr 1;split
 .split <;> simp only [Em,sF,bz]
 .split <;> simp only [cG,bI,sF,Lr,bz]
 .simp only [zB,cG,bI,sF,bz]
 .simp only [bI,sF]
 .rfl
theorem P2(P:Program)(s:St)(t:TypeId)(a v:AV)(K:aB->Option R)(f:R->Option S):(iH P s t a v K).bind f=iH P s t a v λx=>(K x).bind f:=by
 unfold iH;rw [kF];congr 1;split
 .split <;> simp only [cG,bz]
 .split
  .simp only [QS,cG,bI,bz]
  .split
   .split <;> simp only [cG,bI,bz]
   .rfl
  .rfl
 .split <;> simp only [QS,cG,bI,bz]
 .rfl
theorem oW(c:Option Bool)(i:Int)(n:Nat)(K:Option R)(f:R->Option S):(jw c i n K).bind f=jw c i n (K.bind f):=by unfold jw;simp only [bI]
theorem K4(P:Program)(s:St)(c:Option Bool)(t:TypeId)(x:AV)(i:Int)(K:AV->Option R)(f:R->Option S):(iW P s c t x i K).bind f=iW P s c t x i λx=>(K x).bind f:=by
 unfold iW;split
 .split
  .split <;> simp only [cG,oW,bz]
  .simp only [zB,cG,oW,bz]
  .split <;> simp only [cG,oW,bz]
  .simp only [bI,oW]
  .rfl
 .split
  .rw [oW];congr 1;split <;> simp only [bI,bz]
  .rfl
theorem KG(P:Program)(c:Option Bool)(t:TypeId)(x:AV)(k:Nat)(K:AV->Option R)(f:R->Option S):(qq P c t x k K).bind f=qq P c t x k λx=>(K x).bind f:=by
 unfold qq;split
 .rw [cG];congr 1;split <;> simp only [bI,bz]
 .rfl
theorem KE(P:Program)(t:TypeId)(x:AV)(k:Nat)(K:AV->Option R)(f:R->Option S):(qp P t x k K).bind f=qp P t x k λx=>(K x).bind f:=by
 unfold qp;split
 .split <;> simp only [Em,bz]
 .rfl
theorem Li(P:Program)(s:St)(c:Option Bool)(t:TypeId)(x:AV)(K:AV->Option R)(f:R->Option S):(mo P s c t x K).bind f=mo P s c t x λx=>(K x).bind f:=by
 unfold mo;split
 .split <;> simp only [bI,bz]
 .rfl
 .split
  .split <;> rfl
  .simp only [zB]
  .rfl
  .simp only [bI]
  .rfl
 .rfl
theorem HJ(s:St)(c:Option Bool)(g:Option Gs)(o:Option Operand)(K:Option Int->Option R)(f:R->Option S):(iu s c g o K).bind f=iu s c g o λx=>(K x).bind f:=by
 unfold iu;split
 .rfl
 .simp only [QS,bI]
theorem PO(P:Program)(s:St)(c:Option Bool)(t:TypeId)(x:AV)(b a d:Option Int)(K:AV->Option R)(f:R->Option S):(mI P s c t x b a d K).bind f=mI P s c t x b a d λx=>(K x).bind f:=by
 unfold mI;split
 .split <;> simp only [bI,bz]
 .split
  .split
   .split <;> simp only [cG,bI,bz]
   .split <;> simp only [cG,bI,bz]
   .simp only [cG,bI,bz]
   .rfl
  .split
   .simp only [cG,bI,bz]
   .split <;> simp only [cG,bI,bz]
   .rfl
 .rfl
theorem Ho(P:Program)(s:St)(t:TypeId)(sz:Nat)(a:List T)(y:AV)(K:List (List T)->Option R)(f:R->Option S):(lB P s t sz a y K).bind f=lB P s t sz a y λx=>(K x).bind f:=by unfold lB;split <;> simp only [QS,cG,bI,bz]
theorem Hk(P:Program)(s:St)(d:Nat)(e:TypeId)(i:Id)(sz col rsz a:Nat)(es:List Row)(j:Id)(cs:List AV)(K:AV->aB->Option R)(f:R->Option S):(oB P s d e i sz col rsz a es j cs K).bind f=oB P s d e i sz col rsz a es j cs λv u=>(K v u).bind f:=by
 unfold oB;rw [cG];congr 1;rw [QS];congr 1;funext l;split
 .split <;> simp only [cG,bI,bz]
 .split <;> simp only [cG,bI,bz]
 .rfl
theorem Hi(P:Program)(s:St)(d:Nat)(rw:Bool)(t ty:TypeId)(x y:AV)(K:AV->aB->Option R)(f:R->Option S):(jQ P s d rw t ty x y K).bind f=jQ P s d rw t ty x y λv u=>(K v u).bind f:=by
 unfold jQ;rw [QS];congr 1;funext e;rw [QS];congr 1;funext b;rw [cG];congr 1;split
 .split <;> simp only [Hk,bz]
 .rw [Ho];congr 1;funext a;split
  .split <;> simp only [cG,bI,bz]
  .split <;> simp only [cG,bI,bz]
  .simp only [QS,bI]
  .rfl
theorem LB(P:Program)(d:Nat)(t:TypeId)(ns:Nat)(n m:T)(K:AV->aB->Option R)(f:R->Option S):(qE P d t ns n m K).bind f=qE P d t ns n m λv u=>(K v u).bind f:=by unfold qE;rw [QS];congr 1;funext e;rw [QS];congr 1;funext a;rw [bI];congr 1;funext n;rw [bI];congr 1;funext m;rw [cG];congr 1;rw [bI];congr 1;funext _;rw [kF];congr 1;split <;> simp only [cG,bz]
theorem yI(P:Program)(k:TypeId)(c:Option Bool)(v:AV)(K:Bool->List Ck->List T->Option R)(f:R->Option S):(nC P k c v K).bind f=nC P k c v λa b l=>(K a b l).bind f:=by unfold nC;rw [QS];congr 1;funext q;split <;> simp only [ry,QS,cG,bz]
theorem Ly(P:Program)(s:St)(c:Option Bool)(t:TypeId)(x k:AV)(ok:Bool)(K:AV->Option R)(f:R->Option S):(mq P s c t x k ok K).bind f=mq P s c t x k ok λv=>(K v).bind f:=by
 unfold mq;rw [QS];congr 1;funext q;rw [QS];congr 1;funext z;rw [yI];congr 1;funext a b l;split
 .split
  .rw [cG];simp only [mJ,bz]
  .rfl
 .rfl
theorem LD(P:Program)(d:Nat)(t:TypeId)(K:AV->aB->Option R)(f:R->Option S):(qF P d t K).bind f=qF P d t λv u=>(K v u).bind f:=by unfold qF;simp only [QS,cG]
theorem Ij(P:Program)(s:St)(t:TypeId)(x k:AV)(K:aB->Option R)(f:R->Option S):(ma P s t x k K).bind f=ma P s t x k λu=>(K u).bind f:=by
 unfold ma;rw [QS];congr 1;funext q;rw [yI];congr 1;funext a b l;split
 .split
  .rw [cG];rfl
  .rfl
 .rfl
theorem NP(P:Program)(s:St)(t:TypeId)(x k v:AV)(K:aB->Option R)(f:R->Option S):(mA P s t x k v K).bind f=mA P s t x k v λu=>(K u).bind f:=by
 unfold mA;rw [QS];congr 1;funext q;rw [yI];congr 1;funext a b l;split
 .split
  .rw [cG];simp only [QS,mJ,bz]
  .rfl
 .rfl
theorem yX(k:IntKind)(c:Option Bool)(b:Bool):∀(l:List T) (a:Int) (K:T->Option R) (f:R->Option S),(nG k c b a l K).bind f=nG k c b a l λx=>(K x).bind f
 | [],_,_,_=>rfl
 | y::r,a,K,f=>by simp only [nG,bI,yX k c b r]
theorem H7(P:Program)(c:Option Bool)(a b:TypeId)(x:T)(K:T->Option R)(f:R->Option S):(pW P c a b x K).bind f=pW P c a b x λx=>(K x).bind f:=by unfold pW;split <;> simp only [bI,bz]
theorem Bk(ids:List Id)(d:Nat)(c:Option Bool)(j:Nat)(r:ca)(x:T)(K:AV->aB->Nat->Option R)(f:R->Option S):(lF ids d c j r x K).bind f=lF ids d c j r x λv u j=>(K v u j).bind f:=by
 unfold lF;split
 .exact mJ _ _ _ _ _
 .exact mJ _ _ _ _ _
 .split <;> simp only [bI,bz]
 .split <;> simp only [bz]
 .split <;> simp only [bz]
 .split <;> simp only [bI,bz]
 .split <;> simp only [bI,bz]
 .rfl
 .rfl
 .rfl
theorem um(ids:List Id)(d:Nat)(c:Option Bool):∀(rs:List ca) (j:Nat) (xs:List T) (K:List AV->aB->Nat->Option R) (f:R->Option S),(jr ids d c j rs xs K).bind f=jr ids d c j rs xs λv u j=>(K v u j).bind f
 | [],_,_,_,_=>rfl
 | r::rs,j,xs,K,f=>by simp only [jr,bI,Bk,um ids d c rs]
theorem oH(ids:List Id)(d:Nat)(c:Option Bool):∀(rs:List ca) (j:Nat) (xs:List T) (K:List AV->aB->Nat->Option R) (f:R->Option S),(dJ ids d c j rs xs K).bind f=dJ ids d c j rs xs λv u j=>(K v u j).bind f
 | [],_,_,_,_=>rfl
 | r::rs,j,xs,K,f=>by
  cases r
  case new l=>cases c <;> simp only [dJ,um,oH ids d _ rs,bz]
  all_goals simp only [dJ,bI,Bk,um,oH ids d c rs]
theorem uq(all:List Id)(d:Nat):∀(rs:List jg) (a:List Id) (j:Nat) (xs:List T) (K:aB->Option R) (f:R->Option S),(fH all d j a rs xs K).bind f=fH all d j a rs xs λu=>(K u).bind f
 | [],[],_,_,_,_=>rfl
 | [],_::_,_,_,_,_=>rfl
 | r::rs,[],_,_,_,_=>by cases r <;> rfl
 | r::rs,i::a,j,xs,K,f=>by cases r <;> simp only [fH,bI,um,uq all d rs]
theorem Qe(P:Program)(c:Option Bool)(t:TypeId)(v:AV)(K:AV->Option R)(f:R->Option S):(lZ P c t v K).bind f=lZ P c t v λx=>(K x).bind f:=by
 unfold lZ;split
 .exact mJ _ _ _ _ _
 .split
  .exact ry _ _ _ _ _
  .rfl
 .rfl
theorem Ac(P:Program)(c:Option Bool):∀(ts:List TypeId) (vs:List AV) (K:List AV->Option R) (f:R->Option S),(iJ P c ts vs K).bind f=iJ P c ts vs λx=>(K x).bind f
 | [],_,_,_=>rfl
 | _::_,[],_,_=>rfl
 | t::ts,v::vs,K,f=>by simp only [iJ,Qe,Ac P c ts vs]
theorem A6(P:Program)(A:cA)(O:aq)(s:St)(d:Nat)(c:Option Bool)(g:FuncId)(args:List AV)(K:AV->aB->Option R)(f:R->Option S):
  (fR P A O s d c g args K).bind f=fR P A O s d c g args λv u=>(K v u).bind f:=by
 unfold fR;split
 .rfl
 .split
  .simp only [QS,bI,oH,Ac]
  .split
   .rfl
   .simp only [QS,kF,bz,bI,oH,uq,Ac]
theorem HA(h:Id->Option ad)(i new:Id)(n rsz:Nat)(K:aB->Option R)(f:R->Option S):(rQ h i new n rsz K).bind f=rQ h i new n rsz λu=>(K u).bind f:=by
 unfold rQ;split
 .rw [cG];simp only [bI,bz]
 .rfl
theorem N2(P:Program)(s:St)(e:TypeId)(d:Nat)(c:Option Bool)(v:AV)(K:AV->aB->Option R)(f:R->Option S):(mF P s e d c v K).bind f=mF P s e d c v λv u=>(K v u).bind f:=by
 unfold mF;split
 .split
  .split
   .rw [bI];congr 1;funext p;rw [QS];congr 1;funext l;rw [cG];rfl
   .rfl
  .rfl
 .rfl
theorem HY(gy:Bool)(P:Program)(A:cA)(O:aq)(s:St)(d:Nat)(c:Option Bool)(g:FuncId)(args:List AV)(K:AV->aB->Option R)(f:R->Option S):
  (iS gy P A O s d c g args K).bind f=iS gy P A O s d c g args λv u=>(K v u).bind f:=by
 unfold iS;split
 .exact A6 _ _ _ _ _ _ _ _ _ _
 .split
  .simp only [bI,kF,A6,HA,bz]
  .rfl
theorem DI(c:Option Bool)(v:AV)(K:Int->Option R)(f:R->Option S):(nz c v K).bind f=nz c v λx=>(K x).bind f:=by unfold nz;simp only [QS,bI]
theorem wU(P:Program)(A:cA)(O:aq)(g:Option Gs)(o:Oper)(s:St)(K:AV->aB->Option R)(f:R->Option S):
  (iq P A O g o s K).bind f=iq P A O g o s λv u=>(K v u).bind f:=by
 unfold iq;cases o.op <;> dsimp only
 case pick=>simp only [QS,bI]
 case alloc=>split <;> simp only [QS,bz]
 case box=>split <;> simp only [cG,bz]
 case build=>simp only [QS]
 case buildSlice=>
  rw [QS];congr 1;funext e;rw [cG];congr 1
  .split <;> simp only [cG,bz]
  rw [cG];congr 1
  .split <;> simp only [N2,bz]
  rw [cG];congr 1;rw [cG];congr 1;rw [QS];congr 1;funext q;split <;> rfl
 case load=>simp only [Lq]
 case store=>split <;> simp only [P2,bz]
 case nilCheck=>split <;> simp only [bI,bz]
 case binOp=>split <;> simp only [QS,Kw,HC]
 case unOp=>simp only [QS,Qm]
 case convert=>
  split
  .split <;> simp only [QS,bI,bz]
  .simp only [QS,H7]
 case makeFunc=>split <;> simp_all
 case makeSlice=>split <;> simp only [QS,LB,bz]
 case makeMap=>split <;> simp only [LD,bz]
 case lookup=>simp only [Ly]
 case mapUpdate=>split <;> simp only [NP,bz]
 case slice=>simp only [HJ,PO]
 case fieldAddr=>simp only [KG]
 case field=>simp only [KE]
 case indexAddr=>simp only [DI,K4]
 case index=>
  simp only [DI];congr 1;funext n;split
  .simp only [QS,bI,oW]
  .split <;> simp only [kF,QS,oW,sF,bz]
  .rfl
 case extract=>split <;> simp only [QS,bz]
 case call cl=>
  split
  .split <;> simp only [Li,bz]
  .split <;> simp only [Hi,bz]
  .split
   .rw [QS];congr 1;funext l;split <;> simp only [bI,yX,bz]
   .rfl
  .split
   .rw [QS];congr 1;funext l;split <;> simp only [bI,yX,bz]
   .rfl
  .split <;> simp only [Ij,bz]
  ·(repeat' split) <;> simp only [kF,bz]
  .split <;> simp only [HY,bz]
  .rfl
 all_goals rfl
def cK(P:Program)(A:cA)(O:aq)(g:Option Gs)(o:Oper)(s:St):Option (AV×aB):=iq P A O g o s λv u=>some (v,u)
theorem pO(P:Program)(A:cA)(O:aq)(g:Option Gs)(o:Oper)(s:St)(K:AV->aB->Option R):iq P A O g o s K= (cK P A O g o s).bind λp=>K p.1 p.2:=by unfold cK;rw [wU];rfl
theorem DD(a:Array Oper)(o:Oper)(s:St)(K:Option Gs->Option R)(f:R->Option S):(cX a o s K).bind f=cX a o s λg=>(K g).bind f:=by
 unfold cX;split
 .rfl
 .split
  .rfl
  .simp only [QS,bI]
theorem uX(a:Array Oper)(o:Oper)(s:St)(K:Option Gs->Option R):cX a o s K= (cX a o s some).bind K:=by rw [DD];rfl
def lN:List AV->List AV->Bool
 | [],[]=>true
 | c::r,c'::a=>match sf c c' with
  | none=>false
  | some none=>lN r a
  | some (some p)=>decide (p.1=p.2) && lN r a
 | _,_=>false
theorem Bf(K:Option R)(a b:Bool):cond a (cond b K none) none=cond (a && b) K none:=by cases a <;> rfl
theorem KP(p:Prop)[Decidable p](X:Option R):aa none (if p then some () else none) (λ_=>X)=cond (decide p) X none:=by by_cases h:p <;> simp [h,aa]
theorem D4(K:Option R):∀l b:List AV,sr l b K=cond (lN l b) K none
 | [],[]=>rfl
 | [],_::_=>rfl
 | _::_,[]=>rfl
 | c::r,c'::d=>by
  have a:=D4 K r d;unfold sr lN;cases sf c c' with
  | none=>rfl
  | some q=>
   cases q with
   | none=>exact a
   | some p=>dsimp only;rw [a,KP,Bf]
def jV(h h':Id->Option ad):aB->Bool
 | []=>true
 | p::us=>match sn (h p.1) (h' p.1) with
  | none=>false
  | some none=>jV h h' us
  | some (some q)=>lN q.1 q.2 && jV h h' us
theorem D9(h h':Id->Option ad)(K:Option R):∀us:aB,su h h' us K=cond (jV h h' us) K none
 | []=>rfl
 | p::us=>by
  have a:=D9 h h' K us;unfold su jV;cases sn (h p.1) (h' p.1) with
  | none=>rfl
  | some q=>
   cases q with
   | none=>exact a
   | some q=>dsimp only;rw [D4,a,Bf]
def iZ(A:cA)(a:Bool)(o:Oper)(h:Id->Option ad)(us:aB):Bool:= !(a && A.pU o.dst o.type) || jV h (aJ h us) us
theorem sq(A:cA)(a:Bool)(o:Oper)(h:Id->Option ad)(us:aB)(K:Option R):yE A a o h us K=cond (iZ A a o h us) K none:=by unfold yE iZ;rw [D9];cases(a && A.pU o.dst o.type) <;> rfl
def eR(P:Program)(A:cA)(O:aq)(a:Bool)(nt:Nat)(b:Array Oper)(o:Oper)(s:St):Option St:=nL P A O a nt b o s some
theorem Ny(P:Program)(A:cA)(O:aq)(a:Bool)(nt:Nat)(b:Array Oper)(o:Oper)(s:St)(K:St->Option R):nL P A O a nt b o s K= (eR P A O a nt b o s).bind K:=by
 unfold eR nL;rw [DD];congr 1;funext g;cases po A a o g with
 | none=>
  dsimp only;rw [wU];congr 1;funext v u;rw [sq,sq];cases iZ A a o s.h u with
  | false=>rfl
  | true=>simp only [cond_true];rw [cG];rfl
 | some d=>
  dsimp only;cases uw nt o d with
  | false=>rfl
  | true=>
   cases d.c with
   | false=>rfl
   | true=>simp only [cond_true];rw [wU];congr 1;funext v u;rw [cG];rfl
def iC(P:Program)(A:cA)(O:aq)(a:Bool)(nt:Nat)(b:Array Oper):List Oper->St->Option St
 | [],s=>some s
 | o::r,s=>(eR P A O a nt b o s).bind (iC P A O a nt b r)
theorem zz(P:Program)(A:cA)(O:aq)(a:Bool)(nt:Nat)(b:Array Oper):∀(l:List Oper) (s:St) (K:St->Option R),s5 P A O a nt b l s K= (iC P A O a nt b l s).bind K
 | [],_,_=>rfl
 | o::r,s,K=>by simp only [s5,iC,Ny,QS];congr 1;funext s';exact zz P A O a nt b r s' K
end
open Go
def qx(w:World):Prop:=Lib.TabIs Go.Proofs.Tryd.prog w "internal/strconv.uint64pow10" .u64 Lib.pow10Tab
def nr:Nat:=3
theorem KS:Go.Proofs.Tryd.prog.globalNamed "internal/strconv.uint64pow10" =some 0:=by kernel_rfl
theorem yr{w w':World}(a:∀b,b < nr->w'.heap[b]? =w.heap[b]?)(h:qx w):qx w':=by unfold qx Lib.TabIs World.var? at h⊢;rw [KS,QD] at h⊢;rw [a 0 (by decide)];exact h
def GlobOk(w:World):Prop:=qx w/\nr<=w.heap.size
open Go
structure Ctx where
 A0:Nat->Prop
 M:Nat->Prop
 N0:Nat
def Ctx.MO(c:Ctx)(b:Nat):Prop:=c.M b\/c.N0<=b
def AA(c:Ctx)(w:World)(O:Id->Option Nat)(b:Nat):Prop:=(c.A0 b\/c.MO b)/\b < w.heap.size/\∀i,O i≠some b
def cI(w:World)(A:Nat->Prop)(sz:Nat)(b:Bool)(l:List (List T))(v:Value)(Q:Nat->Prop):Prop:=
 ∃a cap,v= .slice a l.length cap/\l.length<=cap/\(a=none↔b=true)/\True/\
  (cap=0\/∃af off arr t,a=some ⟨af,off,none⟩/\Q af/\w.heap[af]? =some (.cells arr t (0,0))/\off+cap * sz<=arr.size/\bd w A af sz off l)
def il(w:World)(A:Nat->Prop)(ρ:Id->Option Value)(O:Id->Option Nat)(i:Id)(af sz col rsz base:Nat)(e:Row):Prop:=
 e.cs.length=sz/\col < sz/\(∀j x,j≠col->e.cs[j]? =some x->∃v,w.cell? ⟨af,base+j,none⟩=some v/\ay w A x v)/\
 ∃v,w.cell? ⟨af,base+col,none⟩=some v/\ρ (.g i e.n)=some v/\
  match e.own with
  | some p=>cI w A rsz p.1 p.2 v (λb=>O (.g i e.n)=some b)
  | none=>O (.g i e.n)=none
def cq(w:World)(A:Nat->Prop)(ρ:Id->Option Value)(O:Id->Option Nat)(i:Id)(af sz col rsz:Nat):Nat->List Row->Prop
 | _,[]=>True
 | base,e::es=>il w A ρ O i af sz col rsz base e/\cq w A ρ O i af sz col rsz (base+sz) es
def mW(ρ:Id->Option Value)(O:Id->Option Nat)(i:Id)(a:Nat)(es:List Row):Prop:=
 (es.map (·.n)).Nodup/\(∀e∈es,e.n < a)/\(∀n,a<=n->ρ (.g i n)=none)/\∀n b,O (.g i n)=some b->∃e∈es,e.n=n
def cP(w:World)(A:Nat->Prop)(ρ:Id->Option Value)(O:Id->Option Nat)(i:Id):ad->Prop
 | .box cs=>∃b arr t,ρ i=some (.pointer (some ⟨b,0,none⟩))/\O i=some b/\w.heap[b]? =some (.cells arr t (0,0))/\az w A ρ cs arr.toList/\
   (∀u∈arr.toList,u.oneCell'=true/\u.cells= #[u])
 | .sl fz sz b l=>∃v,ρ i=some v/\cI w A sz b l v (λaf=>if fz=true then A af else O i=some af)/\(fz=true->O i=none)
 | .cO l=>∃b,ρ i=some (.pointer (some ⟨b,0,none⟩))/\O i=none/\A b/\aZ w A b 0 l
 | .arr cs=>∃b arr t,ρ i=some (.slice (some ⟨b,0,none⟩) 1 1)/\O i=some b/\w.heap[b]? =some (.cells arr t (0,0))/\az w A ρ cs arr.toList/\
   (∀u∈arr.toList,u.oneCell'=true/\u.cells= #[u])
 | .mp ag ks vk es=>∃b d f,ρ i=some (.map (some b))/\O i=some b/\w.heap[b]? =some (.map d f)/\
   d.toList.map (λe=>(e.key,e.val))=es.map (λp=>(cZ ag p.1,dx p.2))/\(es.all λp=>cb ks p.1 && dH vk p.2)=true
 | .rows b sz col rsz g es=>∃a cap,ρ i=some (.slice a es.length cap)/\es.length<=cap/\(a=none↔b=true)/\mW ρ O i g es/\
   (cap=0\/∃af off arr t,a=some ⟨af,off,none⟩/\O i=some af/\w.heap[af]? =some (.cells arr t (0,0))/\off+cap * sz<=arr.size/\cq w A ρ O i af sz col rsz off es)
 | .dead=>(∃v,ρ i=some v/\v.oneCell'=true/\v.cells= #[v])/\O i=none
structure HS (c:Ctx) (w:World) (h:Id->Option ad) (ρ:Id->Option Value) (O:Id->Option Nat):Prop where
 af:∀i b,h i=some b->cP w (AA c w O) ρ O i b
 cw:∀i,i.real=true->h i=none->ρ i=none/\O i=none
 dG:∀i n,h (.g i n)=none
 fm:∀i n,h i=none->ρ (.g i n)=none/\O (.g i n)=none
 gone:∀i n u,ρ (.g i n)=some u->u.oneCell'=true/\u.cells= #[u]
 inj:∀i j b,O i=some b->O j=some b->i=j
 lt:∀i b,O i=some b->b < w.heap.size
 own:∀i b,O i=some b->c.MO b
 size:c.N0<=w.heap.size
 glob:qx w/\nr<=c.N0/\∀b,b < nr->¬c.M b
structure Le (w:World) (ρ:Id->Option Value) (O:Id->Option Nat) (w':World) (ρ':Id->Option Value) (O':Id->Option Nat):Prop where
 os:w'.os=w.os
 output:w'.output=w.output
 tape:w'.tape=w.tape
 size:w.heap.size<=w'.heap.size
 eD:∀i v,ρ i=some v->ρ' i=some v
 af:∀b,b < w.heap.size->(∀i,O i≠some b)->w'.heap[b]? =w.heap[b]?
 own:∀i b,O' i=some b->(∃j,O j=some b)\/w.heap.size<=b
section
variable {c:Ctx} {w w' w'':World} {h h':Id->Option ad} {ρ ρ' ρ'':Id->Option Value} {O O' O'':Id->Option Nat}
theorem Le.refl:Le w ρ O w ρ O:=⟨rfl,rfl,rfl,QV _,λ_ _ h=>h,λ_ _ _=>rfl,λi b h=> .inl ⟨i,h⟩⟩
theorem Le.trans(a:Le w ρ O w' ρ' O')(b:Le w' ρ' O' w'' ρ'' O''):Le w ρ O w'' ρ'' O'' where
 os:=b.os.trans a.os
 output:=b.output.trans a.output
 tape:=b.tape.trans a.tape
 size:=Rt a.size b.size
 eD i v h:=b.eD i v (a.eD i v h)
 af k hk hn:=by
  rw [b.af k (RC hk a.size),a.af k hk hn];intro i hi;rcases a.own i k hi with⟨j,hj⟩ | h
  .exact hn j hj
  .omega
 own i k hi:=by
  rcases b.own i k hi with⟨j,hj⟩ | h
  .exact a.own j k hj
  .exact .inr (Rt a.size h)
theorem Le.A(le:Le w ρ O w' ρ' O')(b:Nat)(a:AA c w O b):AA c w' O' b/\w'.heap[b]? =w.heap[b]?:=by
 refine⟨⟨a.1,RC a.2.1 le.size,λi d=> ?_⟩,le.af b a.2.1 a.2.2⟩;rcases le.own i b d with⟨j,e⟩ | h
 .exact a.2.2 j e
 .have:=a.2.1;omega
theorem cI.mono{A A' Q g:Nat->Prop}{sz:Nat}{b:Bool}{l:List (List T)}{v:Value}(q:∀b,A b->A' b/\w'.heap[b]? =w.heap[b]?)
  (f:∀b,Q b->g b/\w'.heap[b]? =w.heap[b]?) (hs:cI w A sz b l v Q):cI w' A' sz b l v g:=by
 obtain⟨a,cap,m,n,o,p,e⟩:=hs;refine⟨a,cap,m,n,o,p, ?_⟩;rcases e with e | ⟨af,off,arr,t,i,d,e3,j,k⟩
 .exact .inl e
 .exact .inr ⟨af,off,arr,t,i,(f _ d).1,by rw [(f _ d).2];exact e3,j,bd.mr q af sz (f _ d).2 off l k⟩
def pC(i:Id)(w:World)(ρ:Id->Option Value)(O:Id->Option Nat)(w':World)(ρ':Id->Option Value)(O':Id->Option Nat):Prop:=
 ∀n,ρ' (.g i n)=ρ (.g i n)/\O' (.g i n)=O (.g i n)/\∀b,O (.g i n)=some b->w'.heap[b]? =w.heap[b]?
theorem il.mono{A A':Nat->Prop}{i:Id}{af sz col rsz base:Nat}{e:Row}(f:∀b,A b->A' b/\w'.heap[b]? =w.heap[b]?)(z:w'.heap[af]? =w.heap[af]?)(a:pC i w ρ O w' ρ' O')(h:il w A ρ O i af sz col rsz base e):
  il w' A' ρ' O' i af sz col rsz base e:=by
 obtain⟨m,o,q,v,r,t,y⟩:=h;have g:∀p,w'.cell? ⟨af,p,none⟩=w.cell? ⟨af,p,none⟩:=λp=>l9 z;refine⟨m,o,λj x B C=> ?_,v,by rw [g];exact r,by rw [(a e.n).1];exact t, ?_⟩
 .obtain⟨u,l,d⟩:=q j x B C;exact⟨u,by rw [g];exact l,ay.mono f x u d⟩
 .revert y;cases e.own with
  | none=>intro h;simp only at h⊢;rw [(a e.n).2.1];exact h
  | some p=>intro d;refine cI.mono f (λb k=> ?_) d;rw [(a e.n).2.1];exact⟨k,(a e.n).2.2 b k⟩
theorem cq.mono{A A':Nat->Prop}{i:Id}{af sz col rsz:Nat}(a:∀b,A b->A' b/\w'.heap[b]? =w.heap[b]?)(d:w'.heap[af]? =w.heap[af]?)(f:pC i w ρ O w' ρ' O'):∀{es:List Row} {base:Nat},cq w A ρ O i af sz col rsz base es->
  cq w' A' ρ' O' i af sz col rsz base es
 | [],_,_=>trivial
 | e::es,base,h=>⟨il.mono a d f h.1,cq.mono a d f h.2⟩
theorem cI.dL{A A' Q a:Nat->Prop}{sz:Nat}{b:Bool}{l:List (List T)}{v:Value}(d:∀b,A b->A' b/\w'.heap[b]? =w.heap[b]?)
  (e:∀b,Q b->a b/\w'.heap[b]? =w.heap[b]?) (hs:cI w A sz b l v Q):cI w' A' sz b l v a:=cI.mono d e hs
theorem il.move{A A':Nat->Prop}{i i':Id}{af blk' sz col rsz base a:Nat}{e:Row}(l:∀j,j < sz->w'.cell? ⟨blk',a+j,none⟩=w.cell? ⟨af,base+j,none⟩)(k:∀b,A b->A' b/\w'.heap[b]? =w.heap[b]?)
  (C:ρ' (.g i' e.n)=ρ (.g i e.n)) (f:O' (.g i' e.n)=O (.g i e.n)) (D:∀b,O (.g i e.n)=some b->w'.heap[b]? =w.heap[b]?) (h:il w A ρ O i af sz col rsz base e):il w' A' ρ' O' i' blk' sz col rsz a e:=by
 obtain⟨q,d,r,v,a4,t,y⟩:=h;refine⟨q,d,λj x E o=> ?_,v,by rw [l _ d];exact a4,by rw [C];exact t, ?_⟩
 .obtain⟨u,z,B⟩:=r j x E o;have:=(QC.1 o).1;exact⟨u,by rw [l j (by omega)];exact z,ay.mono k x u B⟩
 .revert y;cases e.own with
  | none=>intro h;simp only at h⊢;rw [f];exact h
  | some p=>intro g;refine cI.mono k (λb m=> ?_) g;rw [f];exact⟨m,D b m⟩
theorem cq.move{A A':Nat->Prop}{i i':Id}{af blk' sz col rsz:Nat}(d:∀b,A b->A' b/\w'.heap[b]? =w.heap[b]?):∀{es:List Row} {base a:Nat},
  (∀p,p < es.length * sz->w'.cell? ⟨blk',a+p,none⟩=w.cell? ⟨af,base+p,none⟩)->(∀e∈es,ρ' (.g i' e.n)=ρ (.g i e.n)/\O' (.g i' e.n)=O (.g i e.n)/\∀b,O (.g i e.n)=some b->w'.heap[b]? =w.heap[b]?)->
  cq w A ρ O i af sz col rsz base es->cq w' A' ρ' O' i' blk' sz col rsz a es
 | [],_,_,_,_,_=>trivial
 | e::es,base,a,f,k,h=>by
  have el:(e::es).length * sz=sz+es.length * sz:=by simp [Ry];omega
  obtain⟨l,m,o⟩:=k e QA;refine⟨il.move (λj r=>f j (by omega)) d l m o h.1,cq.move d (λp t=> ?_) (λe q=>k e (QB _ q)) h.2⟩;rw [SF,SF];exact f (sz+p) (by omega)
theorem cq.append{A:Nat->Prop}{i:Id}{af sz col rsz:Nat}:∀{es a:List Row} {base:Nat},cq w A ρ O i af sz col rsz base es->cq w A ρ O i af sz col rsz (base+es.length * sz) a->cq w A ρ O i af sz col rsz base (es++a)
 | [],a,base,_,h=>by simpa using h
 | e::es,a,base,h,h'=>by
  refine⟨h.1,cq.append h.2 ?_⟩;have:base+sz+es.length * sz=base+ (e::es).length * sz:=by simp [Ry];omega
  rw [this];exact h'
theorem cq.set{A A':Nat->Prop}{i:Id}{af sz col rsz:Nat}{x:Row}(l:∀b,A b->A' b/\w'.heap[b]? =w.heap[b]?):∀{es:List Row} {base k:Nat},k < es.length->
  (∀p,base<=p->p < base+es.length * sz->¬(base+k * sz<=p/\p < base+k * sz+sz)->w'.cell? ⟨af,p,none⟩=w.cell? ⟨af,p,none⟩)->
  (∀j e,j≠k->es[j]? =some e->ρ' (.g i e.n)=ρ (.g i e.n)/\O' (.g i e.n)=O (.g i e.n)/\∀b,O (.g i e.n)=some b->w'.heap[b]? =w.heap[b]?)->
  il w' A' ρ' O' i af sz col rsz (base+k * sz) x->cq w A ρ O i af sz col rsz base es->cq w' A' ρ' O' i af sz col rsz base (es.set k x)
 | [],_,_,f,_,_,_,_=>by simp at f
 | e::es,base,0,f,a,d,q,h=>by
  have el:(e::es).length * sz=sz+es.length * sz:=by simp [Ry];omega
  refine⟨by simpa using q,cq.move l (λp y=>a _ (by omega) (by omega) (by omega)) (λe' m=> ?_) h.2⟩;obtain⟨j,o⟩:=SO.1 m;exact d (j+1) e' (by omega) (by simpa using o)
 | e::es,base,k+1,f,a,d,q,h=>by
  have el:(e::es).length * sz=sz+es.length * sz:=by simp [Ry];omega
  have v:(k+1) * sz=sz+k * sz:=by rw [Ry];omega
  obtain⟨r,t,u⟩:=d 0 e (by omega) rfl;refine⟨il.move (λj o=>a _ (by omega) (by omega) (by omega)) l r t u h.1,cq.set l (by simpa using f) (λp z B C=>a p (by omega) (by omega) (by omega)) (λj e' o m=>d (j+1) e' (by omega) (by simpa using m)) ?_ h.2⟩;rw [show base+sz+k * sz=base+ (k+1) * sz by omega];exact q
theorem mW.mono{i:Id}{e:Nat}{es:List Row}(d:pC i w ρ O w' ρ' O')(h:mW ρ O i e es):mW ρ' O' i e es:=
 ⟨h.1,h.2.1,λn a=>by rw [(d n).1];exact h.2.2.1 n a,λn b a=>by rw [(d n).2.1] at a;exact h.2.2.2 n b a⟩
theorem cP.mono{A A':Nat->Prop}{i:Id}(u:pC i w ρ O w' ρ' O')(m:∀b,A b->A' b/\w'.heap[b]? =w.heap[b]?)(e:∀i v,ρ i=some v->ρ' i=some v)(k:O' i=O i)
  (n:∀b,O i=some b->w'.heap[b]? =w.heap[b]?):∀{b:ad},cP w A ρ O i b->cP w' A' ρ' O' i b
 | .box cs,⟨b,arr,t,f,d,e3,g,j⟩=>⟨b,arr,t,e _ _ f,by rw [k];exact d,by rw [n _ d];exact e3,az.mono m e cs _ g,j⟩
 | .sl fz sz b l,⟨v,f,d,e3⟩=>by
  refine⟨v,e _ _ f,cI.mono m (λb o=> ?_) d,by rw [k];exact e3⟩;cases fz
  .simp only [Q9,if_false] at o⊢;exact⟨by rw [k];exact o,n _ o⟩
  .simp only [if_true] at o⊢;exact m _ o
 | .cO l,⟨b,f,d,e3,g⟩=>⟨b,e _ _ f,by rw [k];exact d,(m b e3).1,aZ.mono m b e3 0 l g⟩
 | .arr cs,⟨b,arr,t,f,d,e3,g,j⟩=>⟨b,arr,t,e _ _ f,by rw [k];exact d,by rw [n _ d];exact e3,az.mono m e cs _ g,j⟩
 | .mp ag ks vk es,⟨b,q,p,f,d,e3,g,j⟩=>⟨b,q,p,e _ _ f,by rw [k];exact d,by rw [n _ d];exact e3,g,j⟩
 | .rows b sz col rsz C es,h=>by
  obtain⟨a,cap,f,d,e3,g,j⟩:=h;refine⟨a,cap,e _ _ f,d,e3,g.mono u, ?_⟩;rcases j with j | ⟨af,off,arr,t,x,r,y,z,B⟩
  .exact .inl j
  .exact .inr ⟨af,off,arr,t,x,by rw [k];exact r,by rw [n _ r];exact y,z,B.mono m (n _ r) u⟩
 | .dead,⟨⟨v,f,e3⟩,d⟩=>⟨⟨v,e _ _ f,e3⟩,by rw [k];exact d⟩
def GK(w:World)(ρ:Id->Option Value)(O:Id->Option Nat)(w':World)(ρ':Id->Option Value)(O':Id->Option Nat):Prop:= ∀i,pC i w ρ O w' ρ' O'
theorem GK.refl:GK w ρ O w ρ O:=λ_ _=>⟨rfl,rfl,λ_ _=>rfl⟩
theorem HS.real(hs:HS c w h ρ O){i:Id}(a:h i≠none):i.real=true:=by
 cases i with
 | g i n=>exact(a (hs.dG i n)).elim
 | _=>rfl
theorem HS.nv(hs:HS c w h ρ O)(le:Le w ρ O w' ρ' O')
  (hblk:∀i b,h' i=some b->(h i=some b/\O' i=O i/\(∀af,O i=some af->w'.heap[af]? =w.heap[af]?)/\pC i w ρ O w' ρ' O')\/cP w' (AA c w' O') ρ' O' i b)
  (hnone:∀i,i.real=true->h' i=none->ρ' i=none/\O' i=none) (hnog:∀i n,h' (.g i n)=none)
  (hgd:∀i n,h' i=none->ρ' (.g i n)=none/\O' (.g i n)=none) (hgo:∀i n u,ρ' (.g i n)=some u->u.oneCell'=true/\u.cells= #[u])
  (inj:∀i j b,O' i=some b->O' j=some b->i=j) (lt:∀i b,O' i=some b->b < w'.heap.size):HS c w' h' ρ' O' where
 af i b hb:=by
  rcases hblk i b hb with⟨h1,h2,h3,h4⟩ | h1
  .exact cP.mono h4 (λb ha=>le.A b ha) le.eD h2 h3 (hs.af i b h1)
  .exact h1
 cw:=hnone
 dG:=hnog
 fm:=hgd
 gone:=hgo
 inj:=inj
 lt:=lt
 own i b hi:=by
  rcases le.own i b hi with⟨j,hj⟩ | h
  .exact hs.own j b hj
  .exact .inr (Rt hs.size h)
 size:=Rt hs.size le.size
 glob:=⟨yr (λb hb=>le.af b (RC hb (Rt hs.glob.2.1 hs.size)) λi hi=>by
  rcases hs.own i b hi with h | h
  .exact hs.glob.2.2 b hb h
  .have:=hs.glob.2.1;omega) hs.glob.1,hs.glob.2⟩
theorem HS.ok(hs:HS c w h ρ O):GlobOk w:=⟨hs.glob.1,Rt hs.glob.2.1 hs.size⟩
theorem HS.go(hs:HS c w h ρ O)(le:Le w ρ O w' ρ' O')(a:GK w ρ O w' ρ' O')
  (f:∀i b,h' i=some b->(h i=some b/\O' i=O i/\(∀af,O i=some af->w'.heap[af]? =w.heap[af]?))\/cP w' (AA c w' O') ρ' O' i b)
  (d:∀i,i.real=true->h' i=none->ρ' i=none/\O' i=none) (q:∀i,h' i=none->h i=none) (k:∀i n,h' (.g i n)=none)
  (inj:∀i j b,O' i=some b->O' j=some b->i=j) (lt:∀i b,O' i=some b->b < w'.heap.size):HS c w' h' ρ' O':=
 hs.nv le (λi b p=>by
  rcases f i b p with⟨e,m,o⟩ | e
  .exact .inl ⟨e,m,o,a i⟩
  .exact .inr e) d k (λi n r=>by
  have:=hs.fm i n (q i r);rw [(a i n).1,(a i n).2.1];exact this) (λi n u l=>by rw [(a i n).1] at l;exact hs.gone i n u l) inj lt
theorem HS.world(hs:HS c w h ρ O)(le:Le w ρ O w' ρ O)(dL:∀i af,O i=some af->w'.heap[af]? =w.heap[af]?):HS c w' h ρ O:=
 hs.go le (λi n=>⟨rfl,rfl,λb a=>dL _ b a⟩) (λi _ a=> .inl ⟨a,rfl,λaf h=>dL i af h⟩) hs.cw (λ_ h=>h) hs.dG hs.inj λi b h=>RC (hs.lt i b h) le.size
def aG{α:Type}(f:Id->Option α)(i:Id)(v:Option α):Id->Option α:=λj=>if j=i then v else f j
@[simp] theorem aA {α:Type} (f:Id->Option α) (i:Id) (v:Option α):aG f i v i=v:=by simp [aG]
theorem au{α:Type}(f:Id->Option α){i j:Id}(v:Option α)(h:j≠i):aG f i v j=f j:=by simp [aG,h]
theorem dy(h:Id->Option ad)(i:Id)(b:ad):aJ h [(i,b)]=aG h i (some b):=rfl
theorem cM(h:Id->Option ad)(i:Id)(b:ad)(us:aB):aJ h ((i,b)::us)=aJ (aG h i (some b)) us:=rfl
theorem lr(h:Id->Option ad):∀(us vs:aB),aJ h (us++vs)=aJ (aJ h us) vs
 | [],_=>rfl
 | (i,b)::us,vs=>by simp only [Rs,cM];exact lr _ us vs
theorem aO{i j:Id}{n:Nat}(a:i.real=true):Id.g j n≠i:=by rintro rfl;cases a
theorem Le.alloc(hs:HS c w h ρ O){i:Id}(hr:i.real=true)(hi:h i=none)(o:Obj)(v:Value)(ob:Option Nat)(hob:ob=none\/ob=some w.heap.size):
  Le w ρ O (w.alloc o) (aG ρ i (some v)) (aG O i ob) where
 os:=rfl
 output:=rfl
 tape:=rfl
 size:=by simp
 eD j u hj:=by
  by_cases e:j=i
  .subst e;rw [(hs.cw _ hr hi).1] at hj;cases hj
  .rw [au _ _ e];exact hj
 af b hb _:=Rn _ _ _ hb
 own j b hj:=by
  by_cases e:j=i
  .subst e;rw [aA] at hj;rcases hob with rfl | rfl
   .cases hj
   .cases hj;exact .inr (QV _)
  .rw [au _ _ e] at hj;exact .inl ⟨j,hj⟩
theorem HS.alloc(hs:HS c w h ρ O){i:Id}(l:i.real=true)(r:h i=none)(o:Obj)(v:Value)(ob:Option Nat)(g:ob=none\/ob=some w.heap.size)(b:ad)
  (m:cP (w.alloc o) (AA c (w.alloc o) (aG O i ob)) (aG ρ i (some v)) (aG O i ob) i b):
  HS c (w.alloc o) (aG h i (some b)) (aG ρ i (some v)) (aG O i ob):=by
 refine hs.go (Le.alloc hs l r o v ob g) (λj n=>⟨au _ _ (aO l),au _ _ (aO l),λb m=>Rn _ _ _ (hs.lt _ b m)⟩) (λj t a=> ?_) (λj q a=> ?_) (λj a=> ?_) (λj n=>by rw [au _ _ (aO l)];exact hs.dG j n) (λj k d a f=> ?_) (λj d a=> ?_)
 .by_cases e:j=i
  .subst e;rw [aA] at a;cases a;exact .inr m
  .rw [au _ _ e] at a;exact .inl ⟨a,au _ _ e,λaf p=>Rn _ _ _ (hs.lt j af p)⟩
 .by_cases e:j=i
  .subst e;rw [aA] at a;cases a
  .rw [au _ _ e] at a;rw [au _ _ e,au _ _ e];exact hs.cw j q a
 .by_cases e:j=i
  .subst e;rw [aA] at a;cases a
  .rw [au _ _ e] at a;exact a
 .by_cases e:j=i <;> by_cases e':k=i
  .rw [e,e']
  .exfalso;rw [au _ _ e'] at f;subst e;rw [aA] at a;rcases g with rfl | rfl
   .cases a
   .cases a;exact R0 _ (hs.lt _ _ f)
  .exfalso;rw [au _ _ e] at a;subst e';rw [aA] at f;rcases g with rfl | rfl
   .cases f
   .cases f;exact R0 _ (hs.lt _ _ a)
  .rw [au _ _ e] at a;rw [au _ _ e'] at f;exact hs.inj j k d a f
 .by_cases e:j=i
  .subst e;rw [aA] at a;rcases g with rfl | rfl
   .cases a
   .cases a;simp
  .rw [au _ _ e] at a;have:=hs.lt j d a;simp;omega
theorem Le.release{i:Id}:Le w ρ O w ρ (aG O i none) where
 os:=rfl
 output:=rfl
 tape:=rfl
 size:=QV _
 eD _ _ h:=h
 af _ _ _:=rfl
 own j b hj:=by
  by_cases e:j=i
  .subst e;rw [aA] at hj;cases hj
  .rw [au _ _ e] at hj;exact .inl ⟨j,hj⟩
theorem HS.release(hs:HS c w h ρ O){i:Id}(l:i.real=true)(b:ad)(m:cP w (AA c w (aG O i none)) ρ (aG O i none) i b):HS c w (aG h i (some b)) ρ (aG O i none):=by
 refine hs.go Le.release (λj n=>⟨rfl,au _ _ (aO l),λ_ _=>rfl⟩) (λj o a=> ?_) (λj g a=> ?_) (λj a=> ?_) (λj n=>by rw [au _ _ (aO l)];exact hs.dG j n) (λj k d a f=> ?_) (λj d a=> ?_)
 .by_cases e:j=i
  .subst e;rw [aA] at a;cases a;exact .inr m
  .rw [au _ _ e] at a;exact .inl ⟨a,au _ _ e,λ_ _=>rfl⟩
 .by_cases e:j=i
  .subst e;rw [aA] at a;cases a
  .rw [au _ _ e] at a⊢;exact hs.cw j g a
 .by_cases e:j=i
  .subst e;rw [aA] at a;cases a
  .rw [au _ _ e] at a;exact a
 .by_cases e:j=i
  .subst e;rw [aA] at a;cases a
  .by_cases e':k=i
   .subst e';rw [aA] at f;cases f
   .rw [au _ _ e] at a;rw [au _ _ e'] at f;exact hs.inj j k d a f
 .by_cases e:j=i
  .subst e;rw [aA] at a;cases a
  .rw [au _ _ e] at a;exact hs.lt j d a
theorem HS.freeze(hs:HS c w h ρ O){i:Id}{sz:Nat}{b:Bool}{l:List (List T)}(f:h i=some (.sl false sz b l)):
  HS c w (aG h i (some (.sl true sz b l))) ρ (aG O i none):=by
 refine hs.release (hs.real (by rw [f];simp)) _ ?_;obtain⟨v,g,k,e3⟩:=hs.af i _ f;refine⟨v,g, ?_,λ_=>by simp⟩;simp only [if_true];have m:∀b,AA c w O b->AA c w (aG O i none) b/\w.heap[b]? =w.heap[b]?:=λb n=>(Le.release (ρ:=ρ) (i:=i)).A b n;refine cI.mono m (λaf d=> ?_) k;simp only [Q9,if_false] at d;refine⟨⟨.inr (hs.own i af d),hs.lt i af d,λj a=> ?_⟩,rfl⟩;by_cases e:j=i
 .subst e;rw [aA] at a;cases a
 .rw [au _ _ e] at a;exact e (hs.inj j i af a d)
theorem HS.KM(hs:HS c w h ρ O){i:Id}{cs:List AV}{l:List T}(f:h i=some (.box cs))(hl:dR cs=some l):
  HS c w (aG h i (some (.cO l))) ρ (aG O i none):=by
 refine hs.release (hs.real (by rw [f];simp)) _ ?_;obtain⟨b,arr,t,k,d,e3,m,C⟩:=hs.af i _ f;have p:∀b,AA c w O b->AA c w (aG O i none) b/\w.heap[b]? =w.heap[b]?:=λb y=>(Le.release (ρ:=ρ) (i:=i)).A b y;have z:AA c w (aG O i none) b:=⟨.inr (hs.own i b d),hs.lt i b d,λj a=>by
  by_cases e:j=i
  .subst e;rw [aA] at a;cases a
  .rw [au _ _ e] at a;exact e (hs.inj j i b a d)⟩
 refine⟨b,k,by simp,z, ?_⟩;have q:=aS.kc hl m;have key:∀(l:List T) (vs:List Value) (off:Nat),aS w (AA c w O) l vs->(∀j v,vs[j]? =some v->w.cell? ⟨b,off+j,none⟩=some v)->aZ w (AA c w (aG O i none)) b off l:=by
  intro l;induction l with
  | nil=>intro vs off _ _;simp [aZ]
  | cons x l B=>rintro vs off ⟨v,r,rfl,n,o⟩ g;simp only [aZ];refine⟨⟨v,by simpa using g 0 v rfl,ay.mono p x v n⟩,B r (off+1) o λj u a=> ?_⟩;have:=g (j+1) u (by simpa using a);rw [show off+1+j=off+ (j+1) by omega];exact this
 refine key l _ 0 q λj v a=> ?_;simp only [World.cell?,e3,Rh];simpa using a
theorem Le.write{b:Nat}{i:Id}(hi:O i=some b)(hos:w'.os=w.os)(ho:w'.output=w.output)(ht:w'.tape=w.tape)(hsz:w'.heap.size=w.heap.size)(hk:∀k,k≠b->w'.heap[k]? =w.heap[k]?):Le w ρ O w' ρ O where
 os:=hos
 output:=ho
 tape:=ht
 size:=Nat.le_of_eq hsz.symm
 eD _ _ h:=h
 af k _ hn:=hk k λe=>hn i (e▸hi)
 own j b hj:= .inl ⟨j,hj⟩
theorem HS.write(hs:HS c w h ρ O){b:Nat}{i:Id}(l:O i=some b)(le:Le w ρ O w' ρ O)(o:∀k,k≠b->w'.heap[k]? =w.heap[k]?)(x:ad)
  (q:cP w' (AA c w' O) ρ O i x) (g:h i≠none):HS c w' (aG h i (some x)) ρ O:=by
 have p:=hs.real g;refine hs.go le (λj n=>⟨rfl,rfl,λd g=>o d λe=>aO p (hs.inj _ i b (e▸g) l)⟩) (λj r a=> ?_) (λj m a=> ?_) (λj a=> ?_) (λj n=>by rw [au _ _ (aO p)];exact hs.dG j n) hs.inj (λj d a=>RC (hs.lt j d a) le.size)
 .by_cases e:j=i
  .subst e;rw [aA] at a;cases a;exact .inr q
  .rw [au _ _ e] at a;exact .inl ⟨a,rfl,λaf f=>o af λe'=>e (hs.inj j i b (e'▸f) l)⟩
 .by_cases e:j=i
  .subst e;rw [aA] at a;cases a
  .rw [au _ _ e] at a;exact hs.cw j m a
 .by_cases e:j=i
  .subst e;rw [aA] at a;cases a
  .rw [au _ _ e] at a;exact a
end
def SS(w:World)(A:Nat->Prop)(ρ:Id->Option Value)(s:Nat->Option Gs×AV)(tmps:Array Value):Prop:=
 ∀k,match s k with
  | (none,v)=>ai w A ρ v (tmps.getD k undef)
  | (some g,v)=>(tmps.getD g.d undef= .bool g.want/\g.c=true/\ai w A ρ v (tmps.getD k undef))\/(tmps.getD g.d undef≠ .bool g.want/\g.c=false/\tmps.getD k undef=undef)
section
variable {c:Ctx} {w w':World} {ρ ρ':Id->Option Value} {A A':Nat->Prop} {s:Nat->Option Gs×AV} {tmps:Array Value}
theorem SS.mono(e:∀b,A b->A' b/\w'.heap[b]? =w.heap[b]?)(a:∀i v,ρ i=some v->ρ' i=some v)(hs:SS w A ρ s tmps):SS w' A' ρ' s tmps:=by
 intro k;have:=hs k;revert this;split
 .intro this;exact ai.mono e a _ _ this
 .intro this;rcases this with⟨d,f,g⟩ | d
  .exact .inl ⟨d,f,ai.mono e a _ _ g⟩
  .exact .inr d
def jO(tmps:Array Value):Option Gs->Prop
 | none=>True
 | some g=>tmps.getD g.d undef= .bool g.want/\g.c=true
theorem jO.cond{g:Option Gs}(h:jO tmps g):g.map (·.c)=none\/g.map (·.c)=some true:=by
 cases g with
 | none=>exact .inl rfl
 | some g=>exact .inr (by simp [h.2])
theorem NU(v:Value):ai w A ρ (xp v) v:=by
 have one:∀(u:Value) (x:T),nJ u=some x->ay w A x u:=by
  intro u x e;cases u <;> simp only [nJ,Qy,reduceCtorEq] at e
  case slice a l i=>split at e <;> simp_all;subst e;simp [ay]
  case pointer a=>split at e <;> simp_all;subst e;simp [ay]
  case map a=>split at e <;> simp_all;subst e;simp [ay]
  all_goals (subst e;simp [ay])
 have all:∀(us:List Value) (l:List T),kQ us=some l->aS w A l us:=by
  intro us;induction us with
  | nil=>intro l e;simp only [kQ,Qy] at e;subst e;rfl
  | cons u us f=>
   intro l e;simp only [kQ] at e;cases b:nJ u with
   | none=>simp [b] at e
   | some x=>
    cases d:kQ us with
    | none=>simp [b,d] at e
    | some g=>simp only [b,d,QD,Qy] at e;subst e;exact⟨u,us,rfl,one u x b,f g d⟩
 unfold xp;split
 .rename_i cs;split
  .rename_i l e;simp only [ai];have:=all cs.toList l e;refine⟨cs.toList,by simp,az.kR this, ?_⟩;have key:∀(l:List T) (us:List Value),aS w A l us->∀u∈us,u.oneCell'=true/\u.cells= #[u]:=by
    intro l;induction l with
    | nil=>intro us hu;simp only [aS] at hu;subst hu;simp
    | cons x l f=>
     intro us ⟨v,r,e,b,d⟩ u hu;subst e;rcases QN.1 hu with rfl | hu
     .exact b.pc
     .exact f r d u hu
   exact key l _ this
  .simp [ai]
 .split
  .rename_i x e;simp only [ai];exact one _ x e
  .simp [ai]
theorem SS.get{a:Act}{h:Id->Option ad}(hs:SS w A ρ s a.tmps){g:Option Gs}(m:jO a.tmps g)(x:Operand):ai w A ρ (St.get ⟨s,h⟩ g x) (a.eval x):=by
 cases x with
 | tmp k=>
  simp only [St.get,Act.eval];have:=hs k;split at this
  .rename_i v e;simp only [e,ko,cond_true];exact this
  .rename_i d v e;simp only [e];cases g with
   | none=>simp [ko,ai]
   | some i=>
    by_cases b:ko (some d) (some i)=true
    .simp only [b,cond_true];simp only [ko,QF,beq_iff_eq] at b;rcases this with⟨_,_,l⟩ | ⟨j,_⟩
     .exact l
     .exfalso;apply j;rw [b.1,b.2];exact m.1
    .simp only [Si] at b;simp [b,ai]
 | const v=>exact NU v
 | func f=>simp only [St.get,Act.eval,ai];exact⟨[],[],rfl,by simp [az],by simp [az]⟩
 | global g=>simp [St.get,ai]
theorem SS.lL{a:Act}{h:Id->Option ad}(hs:SS w A ρ s a.tmps){g:Option Gs}(l:jO a.tmps g)(cs x:Operand)(want:Bool)(i:a.eval cs= .bool want):
  ai w A ρ (St.lL ⟨s,h⟩ g cs want x) (a.eval x):=by
 unfold St.lL;split
 .rename_i d k;simp only [Act.eval] at i⊢;have:=hs k;split
  .rename_i f v e;simp only [e] at this;by_cases b:(f.d==d && f.want==want)=true
   .simp only [b,R9,cond_true];simp only [QF,beq_iff_eq] at b;rcases this with⟨_,_,n⟩ | ⟨m,_⟩
    .exact n
    .exfalso;apply m;rw [b.1,b.2];exact i
   .simp only [Si] at b;simp only [b,Ri];have j:=SS.get (h:=h) hs l (.tmp k);simp only [St.get,e,Act.eval] at j;exact j
  .rename_i v e;simp only [e] at this;exact this
 .exact SS.get hs l _
end
end Go.Aev
