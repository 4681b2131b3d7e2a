import Derived.WalkKit
import Derived.Test.YtcffabneepdohaaGreatDoorChecked
import Derived.Lib.ItoaNum
import Derived.Lib.LaidTab
set_option linter.all false
namespace Go.Aev
open Go
abbrev W5:=@Option.some.injEq
abbrev W6:=@Option.bind_eq_some_iff
abbrev W7:=@List.mem_cons_self
abbrev W8:=@List.mem_cons_of_mem
abbrev W9:=@List.getElem?_eq_some_iff
abbrev Xa:=@List.getD_eq_getElem?_getD
abbrev Xb:=@Option.bind_some
abbrev Xc:=@Bool.not_true
abbrev Xd:=@List.getElem?_eq_getElem
abbrev Xe:=@Bool.not_false
abbrev Xf:=@Bool.and_eq_true
abbrev Xg:=@List.mem_of_getElem?
abbrev Xh:=@List.length_singleton
abbrev Xi:=@List.mem_singleton
abbrev Xj:=@List.length_cons
abbrev Xk:=@List.getElem?_append_left
abbrev Xl:=@List.mem_cons
abbrev Xm:=@Result.andThen_ok
abbrev Xn:=@List.mem_append_right
abbrev Xo:=@List.mem_append
abbrev Xp:=@List.mem_append_left
abbrev Xq:=@List.map_cons
abbrev Xr:=@Nat.le_refl
abbrev Xs:=@List.getElem?_append_right
abbrev Xt:=@Option.bind_assoc
abbrev Xu:=@List.length_nil
abbrev Xv:=@Int.toNat_natCast
abbrev Xw:=@List.all_eq_true
abbrev Xx:=@Sem.run_bind
abbrev Xy:=@ByteArray.size_append
abbrev Xz:=@List.length_eq_zero_iff
abbrev XA:=@List.append_nil
abbrev XB:=@List.mem_map
abbrev XC:=@List.append_assoc
abbrev XD:=@Bool.false_eq_true
abbrev XE:=@Array.length_toList
abbrev XF:=@Nat.zero_add
abbrev XG:=@Bool.false_or
abbrev XH:=@Array.mem_of_getElem?
abbrev XI:=@List.map_congr_left
abbrev XJ:=@List.any_eq_false
abbrev XK:=@List.length_append
abbrev XL:=@List.singleton_append
abbrev XM:=@List.getElem?_cons_zero
abbrev XN:=@Int.natCast_zero
abbrev XO:=@Sem.run_pure
abbrev XP:=@Prod.mk.injEq
abbrev XQ:=@List.length_map
abbrev XR:=@Bool.true_and
abbrev XS:=@Int.lt_irrefl
abbrev XT:=@Bool.or_eq_true
abbrev XU:=@List.getElem?_map
abbrev XV:=@Go.RowKit.Below.heap_alloc
abbrev XW:=@List.length_take
abbrev XX:=@Array.all_eq_true_iff_forall_mem
abbrev XY:=@List.map_nil
abbrev XZ:=@Nat.zero_le
abbrev X0:=@Bool.or_eq_false_iff
abbrev X1:=@List.getElem?_of_mem
abbrev X2:=@Nat.le_trans
abbrev X3:=@Bool.false_and
abbrev X4:=@Bool.and_false
abbrev X5:=@Nat.lt_of_lt_of_le
abbrev X6:=@Bool.not_eq_true'
abbrev X7:=@List.cons_append
abbrev X8:=@Array.getElem?_toList
abbrev X9:=@List.any_cons
abbrev Ya:=@Nat.mul_le_mul_right
abbrev Yb:=@Nat.succ_mul
abbrev Yc:=@Nat.sub_self
abbrev Yd:=@Addr.mk.injEq
abbrev Ye:=@List.prefix_refl
abbrev Yf:=@List.nil_append
abbrev Yg:=@Value.slice.injEq
abbrev Yh:=@List.cons.injEq
abbrev Yi:=@List.length_drop
abbrev Yj:=@List.not_mem_nil
abbrev Yk:=@Bool.and_true
abbrev Yl:=@List.head?_cons
abbrev Ym:=@List.getD_cons_succ
abbrev Yn:=@List.getElem?_cons_succ
abbrev Yo:=@Option.map_eq_some_iff
abbrev Yp:=@List.all_cons
abbrev Yq:=@List.nodup_cons
abbrev Yr:=@List.map_map
abbrev Ys:=@List.length_replicate
abbrev Yt:=@List.isEmpty_iff
abbrev Yu:=@List.take_append_of_le_length
abbrev Yv:=@List.replicate_succ
abbrev Yw:=@List.getD_cons_zero
abbrev Yx:=@List.getElem?_set
abbrev Yy:=@List.size_toArray
abbrev Yz:=@List.ext_getElem?
abbrev YA:=@List.getElem?_eq_none
abbrev YB:=@List.getElem?_take
abbrev YC:=@Array.getD_eq_getD_getElem?
abbrev YD:=@Nat.lt_irrefl
abbrev YE:=@Bool.true_or
abbrev YF:=@List.length_eq_one_iff
abbrev YG:=@List.getElem?_set_self
abbrev YH:=@List.nodup_append
abbrev YI:=@Value.pointer.injEq
abbrev YJ:=@Option.map_some
abbrev YK:=@Bool.not_eq_true
abbrev YL:=@Option.isSome_iff_exists
abbrev YM:=@Option.getD_some
abbrev YN:=@List.getElem?_take_of_lt
abbrev YO:=@List.flatten_cons
abbrev YP:=@List.take_add_one
abbrev YQ:=@MapKept.run_getObj_map
abbrev YR:=@Array.ext'
abbrev YS:=@List.any_eq_true
abbrev YT:=@List.getElem?_drop
abbrev YU:=@Array.getElem?_eq_getElem
abbrev YV:=@List.mem_or_eq_of_mem_set
abbrev YW:=@Nat.add_mul
abbrev YX:=@List.mem_of_mem_take
abbrev YY:=@List.map_append
abbrev YZ:=@List.length_set
abbrev Y0:=@List.getElem?_mapIdx
abbrev Y1:=@List.getElem?_set_ne
abbrev Y2:=@Nat.pow_le_pow_right
abbrev Y3:=@List.range'_succ
abbrev Y4:=@List.tail_cons
abbrev Y5:=@List.getElem_mem
abbrev Y6:=@List.take_of_length_le
abbrev Y7:=@List.drop_eq_nil_of_le
abbrev Y8:=@Bool.not_eq_false'
abbrev Y9:=@Nat.add_zero
abbrev Za:=@Nat.lt_or_ge
abbrev Zb:=@List.prefix_append
abbrev Zc:=@Classical.choose_spec
abbrev Zd:=@List.getElem?_toArray
abbrev Ze:=@Nat.add_assoc
abbrev Zf:=@List.drop_eq_getElem_cons
abbrev Zg:=@List.mem_of_mem_drop
abbrev Zh:=@Option.isNone_iff_eq_none
abbrev Zi:=@Nat.eq_of_testBit_eq
abbrev Zj:=@Classical.byContradiction
abbrev Zk:=@Nat.mod_eq_of_lt
abbrev Zl:=@List.take_length
abbrev Zm:=@Int.eq_ofNat_of_zero_le
abbrev Zn:=@List.set_cons_succ
abbrev Zo:=@List.foldl_cons
abbrev Zp:=@Array.any_eq_true'
abbrev Zq:=@MapKept.run_setObj_map
abbrev Zr:=@List.mem_iff_getElem?
abbrev Zs:=@Iff.rfl
abbrev Zt:=@Classical.em
abbrev Zu:=@Array.toList_extract
abbrev Zv:=@Nat.lt_succ_self
abbrev Zw:=@Nat.le_add_right
abbrev Zx:=@Eq.trans
abbrev Zy:=@List.pairwise_append
abbrev Zz:=@Option.ne_none_iff_exists'
abbrev ZA:=@Array.getElem?_eq_some_iff
abbrev ZB:=@List.take_succ_cons
abbrev ZC:=@List.extract_eq_take_drop
abbrev ZD:=@List.set_cons_zero
abbrev ZE:=@List.mem_filterMap
abbrev ZF:=@Bool.or_true
abbrev ZG:=@UInt8.toNat_ofNat'
abbrev ZH:=@Int.natCast_nonneg
abbrev ZI:=@BitVec.toNat_ofNat
abbrev ZJ:=@List.drop_drop
abbrev ZK:=@List.nodup_nil
abbrev ZL:=@List.pairwise_singleton
abbrev ZM:=@Nat.add_sub_cancel_left
abbrev ZN:=@Array.size_append
abbrev ZO:=@List.isEmpty_cons
abbrev ZP:=@Int.emod_eq_of_lt
abbrev ZQ:=@List.zipWith_cons_cons
abbrev ZR:=@Bool.or_false
abbrev ZS:=@Array.toList_map
abbrev ZT:=@List.isEmpty_nil
abbrev ZU:=@Ne.symm
abbrev ZV:=@List.take_append_drop
abbrev ZW:=@Array.getElem?_setIfInBounds_ne
abbrev ZX:=@List.range_eq_range'
abbrev ZY:=@Int.mul_le_mul_of_nonneg_right
abbrev ZZ:=@Option.map_none
abbrev Z0:=@BitVec.ofInt_natCast
abbrev Z1:=@Int.mul_le_mul_of_nonneg_left
abbrev Z2:=@List.take_zero
abbrev Z3:=@List.mem_range
abbrev Z4:=@List.drop_zero
abbrev Z5:=@Nat.mul_add
abbrev Z6:=@Option.isNone_none
abbrev Z7:=@List.pairwise_cons
abbrev Z8:=@Bool.and_self
abbrev Z9:=@Nat.mul_assoc
abbrev aaa:=@Int.add_mul_emod_self_left
abbrev aab:=@Nat.lt_trichotomy
abbrev aac:=@List.pairwise_iff_getElem
abbrev aad:=@Option.getD_none
abbrev aae:=@List.map_set
abbrev aaf:=@List.idxOf_lt_length_iff
abbrev aag:=@List.eq_of_mem_replicate
abbrev aah:=@Nat.not_le_of_lt
abbrev aai:=@Bool.not_not
abbrev aaj:=@List.any_nil
abbrev aak:=@List.flatMap_nil
abbrev aal:=@List.take_append_getElem
abbrev aam:=@Nat.pow_succ
abbrev aan:=@Nat.mul_comm
abbrev aao:=@Int.natCast_add
abbrev aap:=@Bool.decide_and
abbrev aaq:=@List.mapM_cons
abbrev aar:=@Nat.mul_le_mul
abbrev aas:=@List.drop_left
abbrev aat:=@Nat.mod_lt
abbrev aau:=@Nat.not_lt
inductive T where
 | int (k:IntKind) (n:Int)
 | bool (b:Bool)
 | str (s:ByteArray)
 | aa (sz:Nat) (isNil:Bool) (xs:List (List T))
 | aC (isNil:Bool)
 | ptr (cs:List T)
 | ax
 | zw
 | zu
 | CS
 | cV (f:FuncId)
 | any
 deriving Inhabited
inductive Id where
 | c (n:Nat)
 | s (d:Nat) (j:Nat)
 | g (i:Id) (n:Nat)
 deriving DecidableEq,Inhabited
def Id.real:Id->Bool
 | .g _ _=>false
 | _=>true
inductive AV where
 | top
 | t (x:T)
 | nn (vs:List AV)
 | agg (vs:List AV)
 | ref (i:Id) (off:Nat)
 | el (i:Id) (sz k off:Nat)
 | own (i:Id)
 | part (i:Id) (sz off len:Nat)
 | row (i:Id) (n:Nat)
 | rel (i:Id) (sz n k off:Nat)
 | fn (f:FuncId) (fst caps:List AV)
 deriving Inhabited
inductive Ck where
 | i (k:IntKind)
 | b
 | s
 | l (sz:Nat)
 | x
 deriving Inhabited,DecidableEq
structure Row where
 n:Nat
 cs:List T
 own:Option (Bool×List (List T))
 deriving Inhabited
inductive ad where
 | box (cs:List AV)
 | sl (fz:Bool) (sz:Nat) (isNil:Bool) (xs:List (List T))
 | gf (cs:List T)
 | arr (cs:List AV)
 | mp (ag:Bool) (ks:List Ck) (vk:Ck) (es:List (List T×T))
 | rows (b:Bool) (sz col rsz nx:Nat) (es:List Row)
 | dead
 deriving Inhabited
def T.int?(k:IntKind):T->Option Int
 | .int a n=>if a=k then some n else none
 | _=>none
def T.bool?:T->Option Bool
 | .bool b=>some b
 | _=>none
def T.dY:T->Option ByteArray
 | .str s=>some s
 | _=>none
def T.sL:T->Option (List T)
 | .ptr cs=>some cs
 | _=>none
def T.aQ(sz:Nat):T->Option (Bool×List (List T))
 | .aa a b xs=>if a=sz then some (b,xs) else none
 | .aC b=>some (b,[])
 | _=>none
def eF:T->Value
 | .int k n=> .int k n
 | .bool b=> .bool b
 | .str s=> .string s
 | _=> .nilIface
def dP(ag:Bool)(cs:List T):Value:=cond ag (.agg (cs.map eF).toArray) ((cs.map eF).headD .nilIface)
def eQ:Ck->T->Bool
 | .i k, .int a _=>decide (a=k)
 | .b, .bool _=>true
 | .s, .str _=>true
 | _,_=>false
def cI:List Ck->List T->Bool
 | [],[]=>true
 | k::ks,x::xs=>eQ k x && cI ks xs
 | _,_=>false
def oJ:T->T->Bool
 | .int _ a, .int _ b=>a==b
 | .bool a, .bool b=>a==b
 | .str a, .str b=>a==b
 | _,_=>false
def fi:List T->List T->Bool
 | [],[]=>true
 | x::xs,y::a=>oJ x y && fi xs a
 | _,_=>false
def iw(key:List T):List (List T×T)->Option T
 | []=>none
 | (k,v)::r=>cond (fi key k) (some v) (iw key r)
def jt(key:List T)(v:T):List (List T×T)->List (List T×T)
 | []=> [(key,v)]
 | (k,u)::r=>cond (fi key k) ((key,v)::r) ((k,u)::jt key v r)
def T.rX:T->Option Unit
 | .int _ _=>some ()
 | .bool _=>some ()
 | .str _=>some ()
 | _=>none
def gd{α:Type}[Inhabited α](c:Option Bool)(m:Option α):Option α:=
 match m with
 | some a=>some a
 | none=>match c with
  | none=>none
  | some b=>cond b none (some default)
def ab{α R:Type}[Inhabited α](c:Option Bool)(m:Option α)(k:α->Option R):Option R:=
 match m with
 | some a=>k a
 | none=>match c with
  | none=>none
  | some b=>cond b none (k default)
def qS{R:Type}(c:Option Bool):Nat->List T->(List T->Option R)->Option R
 | 0,_,K=>K []
 | n+1,cs,K=>ab c cs.head? λx=>qS c n cs.tail λl=>K (x::l)
def qH:Value->Option T
 | .int k i=>some (.int k i)
 | .bool b=>some (.bool b)
 | .string s=>some (.str s)
 | .slice none 0 0=>some (.aC true)
 | .pointer none=>some .ax
 | .map none=>some .zw
 | .nilFunc=>some .zu
 | .nilIface=>some .CS
 | _=>none
def mO:List Value->Option (List T)
 | []=>some []
 | v::r=>(qH v).bind λx=>(mO r).bind λl=>some (x::l)
def ca(P:Program)(t:TypeId):Bool:=
 match P.underlying t with
 | some (.struct _) | some (.array _ _)=>true
 | _=>false
def ue(P:Program)(t:TypeId):Option IntKind:=
 match P.underlying t with
 | some (.int k)=>some k
 | _=>none
def cB(P:Program)(t:TypeId):Bool:=(P.underlying t).isSome
def vW(P:Program)(t:TypeId)(f:Nat):Option (Nat×TypeId):=
 match P.underlying t with
 | some (.struct a)=>match a[f]? with
  | some x=>cond (cB P x.type) (some (x.offset,x.type)) none
  | none=>none
 | _=>none
def oF(P:Program)(t:TypeId):Option TypeId:=
 match P.underlying t with
 | some (.slice e)=>cond (cB P e) (some e) none
 | _=>none
def x6(P:Program)(t:TypeId):Option (Nat×TypeId):=
 match P.underlying t with
 | some (.array n e)=>cond (cB P e) (some (n,e)) none
 | _=>none
def sI(P:Program)(t:TypeId):Bool:=
 match P.underlying t with
 | some (.struct a)=>a.toList.all λf=>cB P f.type
 | some (.array _ e)=>cB P e
 | _=>false
def Cg(P:Program)(t:TypeId):Bool:=
 match P.underlying t with
 | some .string=>true
 | _=>false
def jx(P:Program)(t:TypeId):Option (List T):=
 match P.info? t with
 | some i=>match i.zero with
  | some v=>mO v.cells.toList
  | none=>none
 | none=>none
structure Gs where
 d:Nat
 want:Bool
 c:Bool
structure St where
 t:Nat->Option Gs×AV
 h:Id->Option ad
abbrev aK:=List (Id×ad)
def aR(h:Id->Option ad):aK->Id->Option ad
 | []=>h
 | (i,b)::us=>aR (λj=>if j=i then some b else h j) us
def nK(d:Nat):Option Gs×AV->Option Gs×AV
 | (some g,v)=>cond (g.d==d) (none, .top) (some g,v)
 | (none,v)=>(none,v)
def St.put(s:St)(a:Bool)(d:Option Nat)(g:Option Gs)(v:AV)(us:aK):St:=
 {t :=match d with
    | some d=>λk=>if k=d then(g,v) else cond a (nK d (s.t k)) (s.t k)
    | none=>s.t
  h:=aR s.h us}
def Bh(v:Value):AV:=
 match v with
 | .agg cs=>match mO cs.toList with
  | some l=> .agg (l.map .t)
  | none=> .top
 | v=>match qH v with
  | some x=> .t x
  | none=> .top
def mn:Option Gs->Option Gs->Bool
 | none,_=>true
 | some a,some b=>a.d==b.d && a.want==b.want
 | some _,none=>false
def St.uw(s:St)(g:Gs):St:={s with t:=λk=>cond (mn (s.t k).1 (some g)) (none,(s.t k).2) (s.t k)}
def St.get(s:St)(g:Option Gs):Operand->AV
 | .tmp k=>match s.t k with
  | (a,v)=>cond (mn a g) v .top
 | .const v=>Bh v
 | .func f=> .fn f [] []
 | .global _=> .top
def St.nP(s:St)(g:Option Gs)(cs:Operand)(want:Bool)(o:Operand):AV:=
 match cs,o with
 | .tmp d, .tmp k=>match s.t k with
  | (some a,v)=>cond ((a.d==d && a.want==want) || mn (some a) g) v .top
  | (none,v)=>v
 | _,o=>s.get g o
def AV.t?:AV->Option T
 | .t x=>some x
 | _=>none
def ff:List AV->Option (List T)
 | []=>some []
 | .t x::r=>(ff r).bind λl=>some (x::l)
 | _::_=>none
def eD(h:Id->Option ad):AV->Option T
 | .t x=>some x
 | .own i=>match h i with
  | some (.sl _ sz b xs)=>some (.aa sz b xs)
  | _=>none
 | .part i sz off len=>match h i with
  | some (.sl _ a b xs)=>if a=sz then some (.aa sz b ((xs.drop off).take len)) else none
  | _=>none
 | .ref i off=>match h i with
  | some (.box cs)=>(ff cs).bind λl=>some (.ptr (l.drop off))
  | some (.gf l)=>some (.ptr (l.drop off))
  | _=>none
 | _=>none
def mq(h:Id->Option ad):List AV->Option (List T)
 | []=>some []
 | v::r=>(eD h v).bind λx=>(mq h r).bind λl=>some (x::l)
def DE(h:Id->Option ad):AV->Option T
 | .own i=>match h i with
  | some (.sl _ sz b xs)=>some (.aa sz b xs)
  | some (.rows ..)=>some .any
  | some (.mp ..)=>some .any
  | _=>none
 | v=>eD h v
def xn(h:Id->Option ad):List AV->Option (List T)
 | []=>some []
 | v::r=>(DE h v).bind λx=>(xn h r).bind λl=>some (x::l)
def mo(h:Id->Option ad):AV->Option (List T)
 | .agg vs=>mq h vs
 | v=>(eD h v).bind λx=>some [x]
def iL(h:Id->Option ad):AV->aK
 | .own i=>match h i with
  | some (.sl false sz b xs)=> [(i, .sl true sz b xs)]
  | _=> []
 | .part i _ _ _=>match h i with
  | some (.sl false sz b xs)=> [(i, .sl true sz b xs)]
  | _=> []
 | .ref i _=>match h i with
  | some (.box cs)=>match ff cs with
   | some l=> [(i, .gf l)]
   | none=> []
  | _=> []
 | _=> []
def nO(h:Id->Option ad):List AV->aK
 | []=> []
 | v::r=>iL h v++nO h r
def ix(h:Id->Option ad):AV->aK
 | .agg vs=>nO h vs
 | v=>iL h v
def tm{R:Type}(op:BinOp)(k:IntKind)(c:Option Bool)(x y:T)(K:T->Option R):Option R:=
 ab c (x.int? k) λa=>ab c (y.int? k) λb=>
  match op with
  | .add=>K (.int k (k.wrap (a+b)))
  | .sub=>K (.int k (k.wrap (a - b)))
  | .mul=>K (.int k (k.wrap (a * b)))
  | .quo=>ab c (if b=0 then none else some ()) λ_=>K (.int k (k.wrap (a.tdiv b)))
  | .rem=>ab c (if b=0 then none else some ()) λ_=>K (.int k (a.tmod b))
  | .and=>K (.int k (k.wrap (BitVec.ofInt k.bits a &&& BitVec.ofInt k.bits b).toNat))
  | .or=>K (.int k (k.wrap (BitVec.ofInt k.bits a ||| BitVec.ofInt k.bits b).toNat))
  | .xor=>K (.int k (k.wrap (BitVec.ofInt k.bits a ^^^ BitVec.ofInt k.bits b).toNat))
  | .andNot=>K (.int k (k.wrap (BitVec.ofInt k.bits a &&& ~~~(BitVec.ofInt k.bits b)).toNat))
  | .lss=>K (.bool (decide (a < b)))
  | .leq=>K (.bool (decide (a<=b)))
  | .gtr=>K (.bool (decide (a > b)))
  | .geq=>K (.bool (decide (a>=b)))
  | _=>none
def uK{R:Type}(op:BinOp)(k ky:IntKind)(c:Option Bool)(x y:T)(K:T->Option R):Option R:=
 ab c (x.int? k) λa=>ab c (y.int? ky) λb=>
  ab c (if b < 0 then none else some ()) λ_=>
  match op with
  | .shl=>K (.int k (k.wrap (a * 2 ^ (min b.toNat k.bits))))
  | .shr=>K (.int k (a.fdiv (2 ^ (min b.toNat k.bits))))
  | _=>none
def uP{R:Type}(op:BinOp)(c:Option Bool)(x y:T)(K:T->Option R):Option R:=
 ab c x.dY λa=>ab c y.dY λb=>
  match op with
  | .add=>ab c (if a.size+b.size<=4294967296 then some () else none) λ_=>K (.str (a++b))
  | .lss=>K (.bool (Op.bytesLess a.toList b.toList))
  | .leq=>K (.bool (Op.bytesLess a.toList b.toList || a.toList==b.toList))
  | .gtr=>K (.bool (!(Op.bytesLess a.toList b.toList || a.toList==b.toList)))
  | .geq=>K (.bool (!(Op.bytesLess a.toList b.toList)))
  | _=>none
def tX(P:Program)(go:TypeId->Option (List TypeId)):List Field->Nat->Option (List TypeId)
 | [],_=>some []
 | f ::r,off=>if f.offset=off/\f.name≠ "_" then
     (go f.type).bind λl=>if P.cellsOf f.type=l.length/\0 < l.length then(tX P go r (off+l.length)).bind λq=>some (l++q) else none
  else none
def gF(P:Program):Nat->TypeId->Option (List TypeId)
 | 0,_=>none
 | n+1,t=>match P.underlying t with
  | some (.int _) | some .bool | some .string=>some [t]
  | some (.struct a)=>if P.stoodInHeld t then none else tX P (gF P n) a.toList 0
  | some (.array m e)=>(gF P n e).bind λl=>if P.cellsOf e=l.length then some (List.replicate m l).flatten else none
  | _=>none
def kF(P:Program)(s:St)(t:TypeId)(x:AV):Option Bool:=
 match P.underlying t with
 | some (.slice _)=>match x with
  | .t (.aa _ b _)=>some b
  | .t (.aC b)=>some b
  | .own i=>match s.h i with
   | some (.sl _ _ b _)=>some b
   | _=>none
  | _=>none
 | some (.pointer _)=>match x with
  | .t (.ptr _)=>some false
  | .t .ax=>some true
  | .ref _ _=>some false
  | .el _ _ _ _=>some false
  | _=>none
 | some (.func ..)=>match x with
  | .t .zu=>some true
  | .fn _ _ _=>some false
  | _=>none
 | some (.map ..)=>match x with
  | .t .zw=>some true
  | _=>none
 | _=>none
def qE(P:Program)(t:TypeId)(o:Operand):Bool:=
 match P.underlying t,o with
 | some (.slice _), .const (.slice none 0 0)=>true
 | some (.pointer _), .const (.pointer none)=>true
 | some (.func ..), .const .nilFunc=>true
 | some (.map ..), .const (.map none)=>true
 | _,_=>false
def mI{R:Type}(P:Program)(c:Option Bool)(t:TypeId)(x y:T)(K:Bool->Option R):Option R:=
 match P.underlying t with
 | some (.int k)=>ab c (x.int? k) λa=>ab c (y.int? k) λb=>K (a==b)
 | some .bool=>ab c x.bool? λa=>ab c y.bool? λb=>K (a==b)
 | some .string=>ab c x.dY λa=>ab c y.dY λb=>K (a==b)
 | _=>none
def fp{R:Type}(P:Program)(c:Option Bool):List TypeId->List T->List T->(Bool->Option R)->Option R
 | [],[],[],K=>K true
 | t::ts,x::xs,y::a,K=>mI P c t x y λb=>fp P c ts xs a λr=>K (b && r)
 | _,_,_,_=>none
def tp{R:Type}(P:Program)(op:BinOp)(t ty:TypeId)(c:Option Bool)(x y:T)(K:T->Option R):Option R:=
 match op with
 | .shl | .shr=>match ue P t,ue P ty with
  | some k,some ky=>uK op k ky c x y K
  | _,_=>none
 | .eql | .neq=>none
 | op=>match P.underlying t with
  | some (.int k)=>tm op k c x y K
  | some .string=>uP op c x y K
  | _=>none
def rV{R:Type}(P:Program)(c:Option Bool)(t:TypeId)(x y:AV)(K:Bool->Option R):Option R:=
 match x,y with
 | .t x, .t y=>cond (Cg P t) (ab c x.dY λa=>ab c y.dY λb=>K (a.toList==b.toList)) (mI P c t x y K)
 | .agg xs, .agg d=>cond (P.eqGuardType P.depth t || !ca P t) none <| (ff xs).bind λxs=>(ff d).bind λd=>(gF P 8 t).bind λts=>fp P c ts xs d K
 | _,_=>none
def uT{R:Type}(P:Program)(op:UnOp)(t:TypeId)(c:Option Bool)(x:T)(K:T->Option R):Option R:=
 match op,P.underlying t with
 | .neg,some (.int k)=>ab c (x.int? k) λa=>K (.int k (k.wrap (0 - a)))
 | .xor,some (.int k)=>ab c (x.int? k) λa=>
   K (.int k (k.wrap (BitVec.ofInt k.bits (if k.signed then -1 else k.max) ^^^ BitVec.ofInt k.bits a).toNat))
 | .not,some .bool=>ab c x.bool? λa=>K (.bool (!a))
 | _,_=>none
open Go
def fX{R:Type}(k:Ck)(c:Option Bool)(x:T)(K:T->Option R):Option R:=
 match k with
 | .i k=>ab c (x.int? k) λn=>K (.int k n)
 | .b=>ab c x.bool? λb=>K (.bool b)
 | .s=>ab c x.dY λs=>K (.str s)
 | .l sz=>ab c (x.aQ sz) λp=>K (.aa sz p.1 p.2)
 | .x=>K x
def fJ{R:Type}(c:Option Bool):List Ck->List T->(List T->Option R)->Option R
 | [],xs,K=>K xs
 | _::_,[],K=>K []
 | k::ks,x::xs,K=>fX k c x λy=>fJ c ks xs λa=>K (y::a)
def mD(P:Program)(t:TypeId):Ck:=
 match P.underlying t with
 | some (.int k)=> .i k
 | some .bool=> .b
 | some .string=> .s
 | some (.slice e)=> .l (P.cellsOf e)
 | _=> .x
def yc(P:Program):Nat->TypeId->List Ck
 | 0,_=> []
 | n+1,t=>match P.underlying t with
  | some (.struct a)=>a.toList.flatMap λf=>yc P n f.type
  | some (.array m e)=>(List.replicate m (yc P n e)).flatten
  | _=> [mD P t]
def vr(P:Program)(t:TypeId):List Ck:=
 if(yc P 8 t).length=P.cellsOf t then yc P 8 t else List.replicate (P.cellsOf t) .x
inductive cH where
 | f (k:Ck)
 | t (k:Ck)
 | own (sz:Nat)
 | ref (k off:Nat)
 | same (k:Nat)
 | rows (sz col rsz:Nat)
 | mp (ag:Bool) (ks:List Ck) (vk:Ck)
 | new (l:List cH)
 | no
 | agg (l:List cH)
 deriving Inhabited
inductive kO where
 | box (l:List cH)
 | sl (sz:Nat)
 | mp (ag:Bool) (ks:List Ck) (vk:Ck)
 | dead
 deriving Inhabited
structure El where
 res:List cH
 outs:List kO
 deriving Inhabited
structure cW where
 live:FuncId->Nat->Option (List (Nat×Option Nat))
 join:FuncId->Nat->Option (List (Nat×Option Nat))
 sig:FuncId->Option El
 jm:FuncId->Option (List Bool):=λ_=>none
 deep:FuncId->Bool:=λ_=>false
 A9:FuncId->Nat->El:=λ_ _=>⟨[],[]⟩
 app:Option Nat->Bool:=λ_=>false
 wr:FuncId->Bool:=λ_=>false
 st:Option Nat->Bool:=λ_=>false
 KY:Option Nat->TypeId->Bool:=λ_ _=>true
 sx:Option Nat->Bool:=λ_=>false
 ld:Option Nat->Bool:=λ_=>false
 Bg:Option Nat->Bool:=λ_=>false
 tz:Option Nat->TypeId->Bool:=λ_ _=>false
 zg:Option Nat->TypeId->Bool:=λ_ _=>false
 zf:Option Nat->TypeId->Bool:=λ_ _=>false
 mN:Option Nat->TypeId->Nat:=λ_ _=>0
 ext:FuncId->List AV->List ad->Option (List T):=λ_ _ _=>none
inductive Key where
 | call (f:FuncId)
 | node (f:FuncId) (todo:List Item) (live:List (Nat×Option Nat)) (m:Nat×Nat)
abbrev aq:=Key->List AV->List ad->Option (List T)
def nU:Nat:=4294967296
mutual
def AV.ids:AV->List Id
 | .top=> []
 | .t _=> []
 | .nn vs=>cC vs
 | .agg vs=>cC vs
 | .ref i _=> [i]
 | .el i _ _ _=> [i]
 | .own i=> [i]
 | .part i _ _ _=> [i]
 | .row i _=> [i]
 | .rel i _ _ _ _=> [i]
 | .fn _ a b=>cC a++cC b
def cC:List AV->List Id
 | []=> []
 | v::r=>v.ids++cC r
end
mutual
def AV.rn(m:List Id):AV->AV
 | .top=> .top
 | .t x=> .t x
 | .nn vs=> .nn (lL m vs)
 | .agg vs=> .agg (lL m vs)
 | .ref i o=> .ref (.c (m.idxOf i)) o
 | .el i sz k o=> .el (.c (m.idxOf i)) sz k o
 | .own i=> .own (.c (m.idxOf i))
 | .part i sz o n=> .part (.c (m.idxOf i)) sz o n
 | .row i n=> .row (.c (m.idxOf i)) n
 | .rel i sz n k o=> .rel (.c (m.idxOf i)) sz n k o
 | .fn f a b=> .fn f (lL m a) (lL m b)
def lL(m:List Id):List AV->List AV
 | []=> []
 | v::r=>v.rn m::lL m r
end
def iQ(m:List Id):Option ad->ad
 | some (.box cs)=> .box (lL m cs)
 | some (.arr cs)=> .arr (lL m cs)
 | some b=>b
 | none=> .dead
def fV(h:Id->Option ad):Nat->List Id->List Id->Option (List Id)
 | 0,_,_=>none
 | _+1,[],seen=>some seen
 | n+1,i::todo,seen=>
  cond (seen.contains i) (fV h n todo seen)
   (match h i with
    | some (.box cs)=>fV h n (todo++cC cs) (seen++ [i])
    | some (.arr cs)=>fV h n (todo++cC cs) (seen++ [i])
    | some _=>fV h n todo (seen++ [i])
    | none=>none)
def od:Nat->List AV->Option (List AV)
 | 0,_=>some []
 | _+1,[]=>none
 | n+1,c::r=>(od n r).bind λl=>some (c::l)
def cK{α:Type}(off:Nat)(new a:List α):List α:=a.take off++new++a.drop (off+new.length)
def cU(n:Nat):List Row->Option (Bool×List (List T))
 | []=>none
 | e::r=>if e.n=n then e.own else cU n r
def dG(n:Nat)(p:Option (Bool×List (List T))):List Row->List Row
 | []=> []
 | e::r=>if e.n=n then{e with own:=p}::r else e::dG n p r
def mY{R:Type}(h:Id->Option ad)(c:Option Bool)(i:Id)(n:Nat)(K:Nat->Bool->List (List T)->Option R):Option R:=
 match h i with
 | some (.rows _ _ _ rsz _ es)=>ab c (cU n es) λp=>K rsz p.1 p.2
 | _=>none
def me{R:Type}(P:Program)(t:TypeId)(c:Option Bool)(cs:List T)(K:AV->Option R):Option R:=
 cond (ca P t) (qS c (P.cellsOf t) cs λl=>fJ c (vr P t) l λl=>K (.agg (l.map .t))) (ab c cs.head? λx=>fX (mD P t) c x λx=>K (.t x))
def nW{R:Type}(P:Program)(t:TypeId)(cs:List AV)(K:AV->Option R):Option R:=
 cond (ca P t) ((od (P.cellsOf t) cs).bind λl=>K (.agg l)) (cs.head?.bind K)
def ug{R:Type}(P:Program)(t:TypeId)(c:Option Bool)(i:Id)(sz col off:Nat)(e:Row)(K:AV->Option R):Option R:=
 cond (ca P t)
  (if off=0/\P.cellsOf t=sz then qS c sz e.cs λl=>fJ c ((vr P t).set col .x) l λl=>K (.agg ((l.map .t).set col (.row i e.n))) else none)
  (if off=col then K (.row i e.n) else ab c (e.cs.drop off).head? λx=>fX (mD P t) c x λx=>K (.t x))
def iz{R:Type}(P:Program)(s:St)(c:Option Bool)(t:TypeId)(a:AV)(K:AV->Option R):Option R:=
 cond (cB P t) (match a with
 | .ref i off=>match s.h i with
  | some (.box cs)=>nW P t (cs.drop off) K
  | some (.gf l)=>me P t c (l.drop off) K
  | _=>none
 | .el i sz k off=>match s.h i with
  | some (.sl _ b _ xs)=>if b=sz then ab c xs[k]? λcs=>me P t c (cs.drop off) K else none
  | some (.rows _ b col _ _ es)=>if b=sz then ab c es[k]? λe=>ug P t c i sz col off e K else none
  | _=>none
 | .rel i sz n k off=>mY s.h c i n λrsz _ xs=>if rsz=sz then ab c xs[k]? λcs=>me P t c (cs.drop off) K else none
 | .t x=>ab c x.sL λcs=>me P t c cs K
 | _=>none) none
def iq(v:AV):List AV:=
 match v with
 | .agg vs=>vs
 | .fn f [] []=> [.t (.cV f)]
 | v=> [v]
def rL:AV->Bool
 | .agg _ | .nn _ | .top=>false
 | _=>true
def jd(k off:Nat)(l:List T)(xs:List (List T)):Option (List (List T)):=
 match xs[k]? with
 | some cs=>if off+l.length<=cs.length then some (xs.set k (cK off l cs)) else none
 | none=>none
def jW{R:Type}(P:Program)(s:St)(t:TypeId)(a v:AV)(K:aK->Option R):Option R:=
 cond (cB P t) (match a with
 | .ref i off=>match s.h i with
  | some (.box cs)=>
   if(iq v).length=P.cellsOf t/\(iq v).all rL/\off+ (iq v).length<=cs.length then K [(i, .box (cK off (iq v) cs))] else none
  | _=>none
 | .el i sz k off=>match s.h i with
  | some (.sl false d b xs)=>(mo s.h v).bind λl=>
    if d=sz/\l.length=P.cellsOf t/\v.ids.contains i=false then
     ab none (jd k off l xs) λm=>K ((i, .sl false sz b m)::ix s.h v) else none
  | some (.rows b d col rsz f es)=>match v with
   | .own j=>match s.h j with
    | some (.sl false g b' xs)=>
     if d=sz/\off=col/\g=rsz/\P.cellsOf t=1/\ca P t=false then
      ab none es[k]? λe=>K [(j, .dead),(i, .rows b sz col rsz (f+1) (es.set k ⟨f,e.cs,some (b',xs)⟩))] else none
    | _=>none
   | _=>none
  | _=>none
 | .rel i sz n k off=>match s.h i with
  | some (.rows b d col rsz f es)=>ab none (cU n es) λp=>(mo s.h v).bind λl=>
    if rsz=sz/\l.length=P.cellsOf t/\v.ids.contains i=false then
     ab none (jd k off l p.2) λm=>K ((i, .rows b d col rsz f (dG n (some (p.1,m)) es))::ix s.h v) else none
  | _=>none
 | _=>none) none
def wB:List (Nat×List AV)->List AV->Option (List AV)
 | [],z=>some z
 | (off,l)::r,z=>if off+l.length<=z.length then wB r (cK off l z) else none
def wX(P:Program)(t:TypeId)(f:Nat):Option (Nat×TypeId):=
 match vW P t f with
 | some p=>some p
 | none=>match x6 P t with
  | some (_,u)=>some (f * P.cellsOf u,u)
  | none=>none
def qM(P:Program)(t:TypeId)(ev:Operand->AV):List (Nat×Operand)->Option (List (Nat×List AV))
 | []=>some []
 | (f,o)::r=>(wX P t f).bind λp=>
   if(iq (ev o)).length=P.cellsOf p.2/\(iq (ev o)).all rL then(qM P t ev r).bind λq=>some ((p.1,iq (ev o))::q) else none
def x9(P:Program)(t:TypeId)(ev:Operand->AV)(a:List (Nat×Operand)):Option AV:=
 if sI P t then
 (jx P t).bind λz=>(qM P t ev a).bind λl=>(wB l (z.map .t)).bind λcs=>some (.agg cs)
 else none
def jn(P:Program)(h:Id->Option ad)(e:TypeId)(ev:Operand->AV):Nat->List (Nat×Operand)->Option (List (List T)×aK)
 | _,[]=>some ([],[])
 | n,(k,o)::r=>(mo h (ev o)).bind λl=>if k=n/\l.length=P.cellsOf e then
    (jn P h e ev (n+1) r).bind λq=>some (l::q.1,ix h (ev o)++q.2)
  else none
def lF{R:Type}(c:Option Bool)(i:Int)(n:Nat)(K:Option R):Option R:=ab c (if 0<=i/\i < n then some () else none) λ_=>K
def kE{R:Type}(P:Program)(s:St)(c:Option Bool)(t:TypeId)(x:AV)(i:Int)(K:AV->Option R):Option R:=
 match oF P t with
 | some e=>match x with
  | .own j=>match s.h j with
   | some (.sl _ sz _ xs)=>if sz=P.cellsOf e then lF c i xs.length (K (.el j sz i.toNat 0)) else none
   | some (.rows _ sz _ _ _ es)=>if sz=P.cellsOf e then lF c i es.length (K (.el j sz i.toNat 0)) else none
   | _=>none
  | .row j n=>mY s.h c j n λrsz _ xs=>if rsz=P.cellsOf e then lF c i xs.length (K (.rel j rsz n i.toNat 0)) else none
  | .part j sz off n=>match s.h j with
   | some (.sl _ a _ _)=>if sz=P.cellsOf e/\a=sz then lF c i n (K (.el j sz (off+i.toNat) 0)) else none
   | _=>none
  | .t y=>ab c (y.aQ (P.cellsOf e)) λp=>lF c i p.2.length (ab c p.2[i.toNat]? λcs=>K (.t (.ptr cs)))
  | _=>none
 | none=>match x6 P t with
  | some (n,e)=>lF c i n (match x with
   | .ref j off=>K (.ref j (off+i.toNat * P.cellsOf e))
   | .el j sz k off=>K (.el j sz k (off+i.toNat * P.cellsOf e))
   | .t y=>ab c y.sL λcs=>K (.t (.ptr (cs.drop (i.toNat * P.cellsOf e))))
   | _=>none)
  | none=>none
def tU{R:Type}(P:Program)(c:Option Bool)(t:TypeId)(x:AV)(f:Nat)(K:AV->Option R):Option R:=
 match vW P t f with
 | some (off,u)=>if P.cellsOf u=0 then none else
  match x with
  | .ref j o=>K (.ref j (o+off))
  | .el j sz k o=>K (.el j sz k (o+off))
  | .rel j sz n k o=>K (.rel j sz n k (o+off))
  | .t y=>ab c y.sL λcs=>K (.t (.ptr (cs.drop off)))
  | _=>none
 | none=>none
def tT{R:Type}(P:Program)(t:TypeId)(x:AV)(f:Nat)(K:AV->Option R):Option R:=
 match vW P t f with
 | some (off,u)=>match x with
  | .agg vs=>nW P u (vs.drop off) K
  | _=>none
 | none=>none
def oR{R:Type}(P:Program)(s:St)(c:Option Bool)(t:TypeId)(x:AV)(K:AV->Option R):Option R:=
 match P.underlying t with
 | some .string=>match x with
  | .t y=>ab c y.dY λb=>K (.t (.int .i64 b.size))
  | _=>none
 | some (.array n _)=>K (.t (.int .i64 n))
 | some (.slice e)=>match x with
  | .own j=>match s.h j with
   | some (.sl _ _ _ xs)=>K (.t (.int .i64 xs.length))
   | some (.rows _ _ _ _ _ es)=>K (.t (.int .i64 es.length))
   | _=>none
  | .row j n=>mY s.h c j n λ_ _ xs=>K (.t (.int .i64 xs.length))
  | .part _ _ _ n=>K (.t (.int .i64 n))
  | .t y=>ab c (y.aQ (P.cellsOf e)) λp=>K (.t (.int .i64 p.2.length))
  | _=>none
 | _=>none
def jJ{R:Type}(s:St)(c:Option Bool)(g:Option Gs)(o:Option Operand)(K:Option Int->Option R):Option R:=
 match o with
 | none=>K none
 | some o=>(s.get g o).t?.bind λx=>ab c (anyInt x) λn=>K (some n)
where
 anyInt:T->Option Int
  | .int _ n=>some n
  | _=>none
def gH(b a n:Int):Option Unit:=if 0<=b/\b<=a/\a<=n then some () else none
def sub(a b:Int)(xs:List (List T)):List (List T):=(xs.drop a.toNat).take (b.toNat - a.toNat)
def Aw(b a m:Int):Option Unit:=if b=0/\a=0/\m=0 then some () else none
def y8:T->Bool
 | .aC true=>true
 | .aa _ true []=>true
 | _=>false
def pn{R:Type}(P:Program)(s:St)(c:Option Bool)(t:TypeId)(x:AV)(a d f:Option Int)(K:AV->Option R):Option R:=
 match P.underlying t with
 | some .string=>match x,f with
  | .t y,none=>ab c y.dY λb=>
    ab c (gH (a.getD 0) (d.getD b.size) b.size) λ_=>K (.t (.str (b.extract (a.getD 0).toNat (d.getD b.size).toNat)))
  | _,_=>none
 | some (.slice e)=>match f with
  | none=>match x with
   | .own j=>match s.h j with
    | some (.sl _ sz _ xs)=>if sz=P.cellsOf e/\cB P e=true then
      ab c (gH (a.getD 0) (d.getD xs.length) xs.length) λ_=>
      K (.part j sz (a.getD 0).toNat ((d.getD xs.length).toNat - (a.getD 0).toNat)) else none
    | _=>none
   | .part j sz off n=>match s.h j with
    | some (.sl _ g _ _)=>if sz=P.cellsOf e/\g=sz/\cB P e=true then
      ab c (gH (a.getD 0) (d.getD n) n) λ_=>
      K (.part j sz (off+ (a.getD 0).toNat) ((d.getD n).toNat - (a.getD 0).toNat)) else none
    | _=>none
   | .t y=>if cB P e=true then ab c (y.aQ (P.cellsOf e)) λp=>
     ab c (gH (a.getD 0) (d.getD p.2.length) p.2.length) λ_=>
     K (.t (.aa (P.cellsOf e) p.1 (sub (a.getD 0) (d.getD p.2.length) p.2))) else none
   | _=>none
  | some m=>match x with
   | .t y=>if cB P e=true then ab c (y.aQ (P.cellsOf e)) λp=>ab c (Aw (a.getD 0) (d.getD 1) m) λ_=>K (.t (.aC p.1)) else none
   | .own j=>match s.h j with
    | some (.sl _ _ b _)=>if cB P e=false then none else ab c (Aw (a.getD 0) (d.getD 1) m) λ_=>K (.t (.aC b))
    | _=>none
   | _=>none
 | _=>none
def nY(n m:Int):Option Unit:=if 0<=n/\n<=m/\m<=nU then some () else none
def nv{R:Type}(P:Program)(s:St)(t:TypeId)(sz:Nat)(a:List T)(y:AV)(K:List (List T)->Option R):Option R:=
 match P.underlying t with
 | some (.slice _)=>(eD s.h y).bind λx=>ab none (x.aQ sz) λp=>K p.2
 | some .string=>if sz=1 then y.t?.bind λx=>ab none x.dY λb=>K (b.data.toList.map λu=> [.int .u8 u.toNat]) else none
 | some (.int _)=>y.t?.bind λx=>ab none (x.int? .i64) λn=>ab none (nY n n) λ_=>K (List.replicate n.toNat a)
 | _=>none
def qn(a n:Nat):Prop:=n<=nU\/(0 < a/\n * a<=140737488355328)
instance (bs n:Nat):Decidable (qn bs n):=inferInstanceAs (Decidable (_\/_))
def bH(a n:Nat):Option Unit:=if qn a n then some () else none
def I7:T->Option Bool
 | .aC b=>some b
 | .aa _ b xs=>cond (b && xs.isEmpty) (some true) none
 | _=>none
def Dm(h:Id->Option ad):AV->Option (Id×Nat×Nat×Nat×Nat×List Row)
 | .own i=>match h i with
  | some (.rows _ sz col rsz a es)=>some (i,sz,col,rsz,a,es)
  | _=>none
 | _=>none
def CZ(h:Id->Option ad):AV->Option (Id×List AV)
 | .own j=>match h j with
  | some (.arr cs)=>some (j,cs)
  | _=>none
 | _=>none
def rI{R:Type}(P:Program)(s:St)(d:Nat)(e:TypeId)(i:Id)(sz col rsz f:Nat)(es:List Row)(j:Id)(cs:List AV)(K:AV->aK->Option R):Option R:=
 if sz=P.cellsOf e/\cs.length=sz/\col < sz/\i≠j then
  (ff (cs.set col (.t .ax))).bind λl=>match cs[col]? with
   | some (.own o)=>match s.h o with
    | some (.sl false m b' xs)=>if m=rsz then
      ab none (bH (P.bytesOf e) (es.length+1)) λ_=>
      K (.own (.s d 0)) [(i, .dead),(j, .dead),(o, .dead),(.s d 0, .rows false sz col rsz (f+1) (es++ [⟨f,l,some (b',xs)⟩]))] else none
    | _=>none
   | some (.row a n)=>match s.h a with
    | some (.rows u r k b q g)=>if b=rsz/\a≠i then
      ab none (cU n g) λp=>ab none (bH (P.bytesOf e) (es.length+1)) λ_=>
      K (.own (.s d 0)) [(i, .dead),(j, .dead),(a, .rows u r k b q (dG n none g)),(.s d 0, .rows false sz col rsz (f+1) (es++ [⟨f,l,some p⟩]))] else none
    | _=>none
   | _=>none
 else none
def lZ{R:Type}(P:Program)(s:St)(d:Nat)(rw:Bool)(t ty:TypeId)(x y:AV)(K:AV->aK->Option R):Option R:=
 (oF P t).bind λe=>(jx P e).bind λk=>
 if P.bytesOf e<=8192/\k.length=P.cellsOf e then
 match cond rw (Dm s.h x) none,cond rw (CZ s.h y) none with
 | some (i,sz,col,rsz,l,es),some (j,cs)=>match P.underlying ty with
  | some (.slice _)=>rI P s d e i sz col rsz l es j cs K
  | _=>none
 | _,_=>
 nv P s ty (P.cellsOf e) k y λa=>
 match x with
 | .own i=>match s.h i with
  | some (.sl false f b xs)=>if f=P.cellsOf e then
    ab none (bH (P.bytesOf e) (xs.length+a.length)) λ_=>
    K (.own (.s d 0)) [(.s d 0, .sl false (P.cellsOf e) (b && a.isEmpty) (xs++a)),(i, .dead)] else none
  | _=>none
 | .part i g off n=>match s.h i with
  | some (.sl false f b xs)=>if f=P.cellsOf e/\g=P.cellsOf e then
    ab none (bH (P.bytesOf e) (n+a.length)) λ_=>
    K (.own (.s d 0)) [(.s d 0, .sl false (P.cellsOf e) (b && a.isEmpty) ((xs.drop off).take n++a)),(i, .dead)] else none
  | _=>none
 | .t z=>(I7 z).bind λb=>ab none (bH (P.bytesOf e) a.length) λ_=>
    K (.own (.s d 0)) [(.s d 0, .sl false (P.cellsOf e) (b && a.isEmpty) a)]
 | _=>none
 else none
def sB(n:Nat):List Row:=(List.range n).map λk=>⟨k,[.ax],some (true,[])⟩
def uk{R:Type}(P:Program)(d:Nat)(t:TypeId)(mN:Nat)(n m:T)(K:AV->aK->Option R):Option R:=
 (oF P t).bind λe=>(jx P e).bind λa=>
 ab none (n.int? .i64) λn=>ab none (m.int? .i64) λm=>
 if P.bytesOf e<=8192/\a.length=P.cellsOf e then
 ab none (nY n m) λ_=>
  cond (mN==2) (match P.underlying e,a with
   | some (.slice u),[.aC true]=>if P.cellsOf e=1 then K (.own (.s d 0)) [(.s d 0, .rows false 1 0 (P.cellsOf u) n.toNat (sB n.toNat))] else none
   | _,_=>none)
   (K (.own (.s d 0)) [(.s d 0, .sl false (P.cellsOf e) false (List.replicate n.toNat a))])
 else none
def mm(d:Bool)(a b:Int):Int:=cond d (if b > a then b else a) (if b < a then b else a)
def qC{R:Type}(k:IntKind)(c:Option Bool)(d:Bool):Int->List T->(T->Option R)->Option R
 | a,[],K=>K (.int k a)
 | a,y::r,K=>ab c (y.int? k) λb=>qC k c d (mm d a b) r K
def tB{R:Type}(P:Program)(c:Option Bool)(src a:TypeId)(x:T)(K:T->Option R):Option R:=
 match P.underlying src,P.underlying a with
 | some (.int k),some (.int d)=>ab c (x.int? k) λn=>K (.int d (d.wrap n))
 | some .string,some .string=>ab c x.dY λb=>K (.str b)
 | _,_=>none
def bytesOf:List (List T)->Option (List UInt8)
 | []=>some []
 | cs::r=>cs.head?.bind λx=>(x.int? .u8).bind λn=>(bytesOf r).bind λl=>some (UInt8.ofNat n.toNat::l)
def n9:Ck->Bool
 | .i _ | .b | .s=>true
 | _=>false
def uo(P:Program)(t:TypeId):Option (TypeId×TypeId):=
 match P.underlying t with
 | some (.map k e)=>cond (cB P k && cB P e) (some (k,e)) none
 | _=>none
def Eh(P:Program)(t:TypeId):Option T:=
 match P.info? t with
 | some i=>match i.zero with
  | some v=>qH v
  | none=>none
 | none=>none
def mb(P:Program)(k:TypeId):Option (Bool×List Ck):=
 match P.underlying k with
 | some (.int i)=>some (false,[.i i])
 | some .string=>some (false,[.s])
 | some (.array n e)=>match P.underlying e with
  | some (.int i)=>if P.cellsOf e=1/\n<=8 then some (true,List.replicate n (.i i)) else none
  | _=>none
 | _=>none
def qx{R:Type}(P:Program)(k:TypeId)(c:Option Bool)(v:AV)(K:Bool->List Ck->List T->Option R):Option R:=
 (mb P k).bind λq=>match q.1,v with
  | false, .t x=>fJ c q.2 [x] λcs=>K false q.2 cs
  | true, .agg vs=>(ff vs).bind λl=>if l.length=q.2.length then fJ c q.2 l λcs=>K true q.2 cs else none
  | _,_=>none
def oS{R:Type}(P:Program)(s:St)(c:Option Bool)(t:TypeId)(x key:AV)(ok:Bool)(K:AV->Option R):Option R:=
 (uo P t).bind λq=>(Eh P q.2).bind λz=>qx P q.1 c key λag ks cs=>match x with
  | .own i=>match s.h i with
   | some (.mp a b vk es)=>if a=ag/\b=ks/\mD P q.2=vk/\n9 vk=true/\ca P q.2=false then
     fX vk c ((iw cs es).getD z) λv=>K (cond ok (.nn [.t v, .t (.bool (iw cs es).isSome)]) (.t v)) else none
   | _=>none
  | _=>none
def um{R:Type}(P:Program)(d:Nat)(t:TypeId)(K:AV->aK->Option R):Option R:=
 (uo P t).bind λq=>(mb P q.1).bind λp=>if n9 (mD P q.2)=true then K (.own (.s d 0)) [(.s d 0, .mp p.1 p.2 (mD P q.2) [])] else K (.t .any) [(.s d 0, .dead)]
def o7{R:Type}(P:Program)(s:St)(t:TypeId)(x key v:AV)(K:aK->Option R):Option R:=
 (uo P t).bind λq=>qx P q.1 none key λag ks cs=>match x with
  | .own i=>match s.h i with
   | some (.mp a b vk es)=>if a=ag/\b=ks/\mD P q.2=vk/\n9 vk=true then
     v.t?.bind λv=>fX vk none v λv=>K [(i, .mp ag ks vk (jt cs v es))] else none
   | _=>none
  | _=>none
def mG(key:List T):List (List T×T)->List (List T×T)
 | []=> []
 | p::r=>cond (fi key p.1) r (p::mG key r)
def oE{R:Type}(P:Program)(s:St)(t:TypeId)(x key:AV)(K:aK->Option R):Option R:=
 (uo P t).bind λq=>qx P q.1 none key λag ks cs=>match x with
  | .own i=>match s.h i with
   | some (.mp a b vk es)=>if a=ag/\b=ks then K [(i, .mp ag ks vk (mG cs es))] else none
   | _=>none
  | _=>none
def kW(a b:Bool)(h:Id->Option ad):AV->Option (T×aK)
 | .ref i off=>cond a (match h i with
  | some (.box cs)=>(cond b (xn h (cs.drop off)) (ff (cs.drop off))).bind λl=>some (.ptr l,[])
  | some (.gf l)=>some (.ptr (l.drop off),[])
  | _=>none) ((eD h (.ref i off)).bind λx=>some (x,iL h (.ref i off)))
 | v=>(eD h v).bind λx=>some (x,cond a [] (iL h v))
def nw(b a:Bool)(h:Id->Option ad):List AV->Option (List T×aK)
 | []=>some ([],[])
 | v::r=>(kW b a h v).bind λp=>(nw b a h r).bind λq=>some (p.1::q.1,p.2++q.2)
def my(e d:Bool)(h:Id->Option ad):AV->Option (AV×aK)
 | .fn f a b=>(nw e d h a).bind λx=>(nw e d h b).bind λy=>some (.fn f (x.1.map .t) (y.1.map .t),x.2++y.2)
 | .agg vs=>(nw e d h vs).bind λx=>some (.agg (x.1.map .t),x.2)
 | v=>(kW e d h v).bind λp=>some (.t p.1,p.2)
def mz(b a:Bool)(h:Id->Option ad):List AV->Option (List AV×aK)
 | []=>some ([],[])
 | v::r=>(my b a h v).bind λp=>(mz b a h r).bind λq=>some (p.1::q.1,p.2++q.2)
def yP(P:Program):Nat->TypeId->Bool
 | 0,_=>false
 | n+1,t=>match P.underlying t with
  | some (.int _) | some .bool | some .string=>true
  | some (.struct a)=>a.toList.all λf=>yP P n f.type
  | some (.array _ e)=>yP P n e
  | _=>false
def uE(e:Row):T:=match e.own with
 | some p=> .aa 0 p.1 p.2
 | none=> .ax
def bz(b:Bool)(es:List Row):T:= .aa 2 b (es.map λe=> [.ptr e.cs,uE e])
def rQ:Nat->List (List T)->Option (List Row)
 | _,[]=>some []
 | n,[.ptr cs, .aa _ b xs]::r=>(rQ (n+1) r).bind λl=>some (⟨n,cs,some (b,xs)⟩::l)
 | _,_=>none
def kB:T->Option (Bool×List Row)
 | .aa _ b xs=>(rQ 0 xs).bind λl=>some (b,l)
 | _=>none
def bh(es:List Row):Bool:=es.all λe=>e.own.isSome
def HW:cH->Bool
 | .rows _ _ _=>true
 | _=>false
def aO(es:List (List T×T)):T:= .aa 2 false (es.map λp=> [.ptr p.1,p.2])
def vM:List (List T)->Option (List (List T×T))
 | []=>some []
 | [.ptr k,v]::r=>(vM r).bind λl=>some ((k,v)::l)
 | _=>none
def jL:T->Option (List (List T×T))
 | .aa _ _ xs=>vM xs
 | _=>none
def nI{R:Type}(ids:List Id)(d:Nat)(c:Option Bool)(j:Nat)(r:cH)(x:T)(K:AV->aK->Nat->Option R):Option R:=
 match r with
 | .f k=>fX k c x λx=>K (.t x) [] j
 | .t k=>fX k c x λx=>K (.t x) [] j
 | .own sz=>match c with
  | none=>ab none (x.aQ sz) λp=>K (.own (.s d j)) [(.s d j, .sl false sz p.1 p.2)] (j+1)
  | some _=>none
 | .ref k off=>match ids[k]? with
  | some i=>K (.ref i off) [] j
  | none=>none
 | .same k=>match ids[k]? with
  | some i=>K (.own i) [] j
  | none=>none
 | .rows sz col rsz=>match c with
  | none=>ab none (kB x) λp=>K (.own (.s d j)) [(.s d j, .rows p.1 sz col rsz p.2.length p.2)] (j+1)
  | some _=>none
 | .mp ag ks vk=>match c with
  | none=>ab none (jL x) λes=>K (.own (.s d j)) [(.s d j, .mp ag ks vk es)] (j+1)
  | some _=>none
 | .no=>K .top [] j
 | .agg _=>none
 | .new _=>none
def lB{R:Type}(ids:List Id)(d:Nat)(c:Option Bool):Nat->List cH->List T->(List AV->aK->Nat->Option R)->Option R
 | j,[],_,K=>K [] [] j
 | j,r::rs,xs,K=>ab c xs.head? λx=>nI ids d c j r x λv u j=>lB ids d c j rs xs.tail λvs us j=>K (v::vs) (u++us) j
def cH.size:cH->Nat
 | .agg l=>l.length
 | .new l=>l.length
 | _=>1
def eT{R:Type}(ids:List Id)(d:Nat)(c:Option Bool):Nat->List cH->List T->(List AV->aK->Nat->Option R)->Option R
 | j,[],_,K=>K [] [] j
 | j,r::rs,xs,K=>match r with
  | .agg l=>lB ids d c j l xs λv u j=>eT ids d c j rs (xs.drop l.length) λvs us j=>K (AV.agg v::vs) (u++us) j
  | .new l=>match c with
   | none=>lB ids d c j l xs λv u j=>eT ids d c (j+1) rs (xs.drop l.length) λvs us a=>K (AV.ref (.s d j) 0::vs) (u++ [(.s d j, .box v)] ++us) a
   | some _=>none
  | r=>ab c xs.head? λx=>nI ids d c j r x λv u j=>eT ids d c j rs xs.tail λvs us j=>K (v::vs) (u++us) j
def oa:List cH->Nat
 | []=>0
 | r::rs=>r.size+oa rs
def gX{R:Type}(all:List Id)(d:Nat):Nat->List Id->List kO->List T->(aK->Option R)->Option R
 | j,i::a, .box l::r,xs,K=>lB all d none j l xs λv u j=>gX all d j a r (xs.drop l.length) λq=>K (u++ (i, .box v)::q)
 | j,i::a, .sl sz::r,xs,K=>ab none (xs.head?.bind (T.aQ sz)) λp=>gX all d j a r xs.tail λq=>K ((i, .sl false sz p.1 p.2)::q)
 | j,i::a, .mp ag ks vk::r,xs,K=>ab none (xs.head?.bind jL) λes=>gX all d j a r xs.tail λq=>K ((i, .mp ag ks vk es)::q)
 | j,_::a, .dead::r,xs,K=>gX all d j a r xs K
 | _,[],[],_,K=>K []
 | _,_,_,_,_=>none
def mV:List AV->AV
 | [v]=>v
 | vs=> .nn vs
def Nl(P:Program)(t:TypeId):cH:=cond (ca P t) (.agg ((vr P t).map λk=>cond (yP P 8 t) (.f k) (.t k))) (cond (yP P 8 t) (.f (mD P t)) (.t (mD P t)))
def tW:cH->Bool
 | .f _=>true
 | .agg l=>l.all λr=>match r with
  | .f _=>true
  | _=>false
 | _=>false
def dQ(P:Program)(A:cW)(f:FuncId)(n:Nat)(fn:Func):List cH:=
 match A.jm f with
 | some _=>(A.A9 f n).res
 | none=>match A.sig f with
  | some a=>a.res
  | none=>fn.resultTypes.toList.map (Nl P)
def iP(A:cW)(f:FuncId)(n:Nat):List kO:=
 match A.jm f with
 | some _=>(A.A9 f n).outs
 | none=> []
def SO:AV->Bool
 | .own _=>true
 | .part _ _ _ _=>true
 | _=>false
def iJ:Option ad->Nat
 | some (.box cs)=>cs.length+1000 * (cs.filter SO).length
 | _=>0
def fA(c:Option Bool)(m:Option (List T)):Option (List T):=
 match c with
 | none=>m
 | some b=>cond b m (some [])
def oe{R:Type}(P:Program)(c:Option Bool)(t:TypeId)(v:AV)(K:AV->Option R):Option R:=
 match v with
 | .t x=>fX (mD P t) c x λy=>K (.t y)
 | .agg vs=>match ff vs with
  | some l=>fJ c (vr P t) l λl=>K (.agg (l.map .t))
  | none=>K (.agg vs)
 | v=>K v
def jY{R:Type}(P:Program)(c:Option Bool):List TypeId->List AV->(List AV->Option R)->Option R
 | [],vs,K=>K vs
 | _::_,[],K=>K []
 | t::ts,v::vs,K=>oe P c t v λu=>jY P c ts vs λus=>K (u::us)
def Ba:List Bool->List AV->List Id
 | b::a,v::vs=>cond b v.ids [] ++Ba a vs
 | _,_=> []
def vw(h:Id->Option ad)(eV:List Id)(b:Bool)(v:AV):Option (AV×aK):=
 cond (b || (!v.ids.isEmpty && v.ids.all eV.contains)) (some (v,[])) (my false false h v)
def ny(h:Id->Option ad)(eV:List Id):List Bool->List AV->Option (List AV×aK)
 | _,[]=>some ([],[])
 | a,v::r=>(vw h eV (a.headD false) v).bind λp=>(ny h eV a.tail r).bind λq=>some (p.1::q.1,p.2++q.2)
def S8(sz col rsz:Nat):Nat:=100000+1000 * sz+100 * col+rsz
def uC(h:Id->Option ad)(new i:Id)(k sz col rsz:Nat):Option aK:=
 match h i with
 | some (.box cs)=>match cs[k]? with
  | some (.own _)=>some []
  | some (.t (.aC b))=>cond (h new).isNone (some [(new, .rows b sz col rsz 0 []),(i, .box (cs.set k (.own new)))]) none
  | some (.t (.aa _ true []))=>cond (h new).isNone (some [(new, .rows true sz col rsz 0 []),(i, .box (cs.set k (.own new)))]) none
  | _=>none
 | _=>none
def qL(h:Id->Option ad)(new i:Id)(k sz:Nat):Option aK:=
 cond (Nat.ble 100000 sz) (uC h new i k (sz % 100000 / 1000) (sz % 1000 / 100) (sz % 100)) <|
 match h i with
 | some (.box cs)=>match cs[k]? with
  | some (.own _)=>some []
  | some (.t (.aC b))=>cond (h new).isNone (some [(new, .sl false sz b []),(i, .box (cs.set k (.own new)))]) none
  | some (.t (.aa _ true []))=>cond (h new).isNone (some [(new, .sl false sz true []),(i, .box (cs.set k (.own new)))]) none
  | some (.part j d 0 n)=>match h j with
   | some (.sl false a b xs)=>if a=sz/\d=sz/\j≠i then cond (h new).isNone (some [(j, .dead),(new, .sl false sz b (xs.take n)),(i, .box (cs.set k (.own new)))]) none else none
   | _=>none
  | _=>none
 | _=>none
def lH(nm:Nat):Nat->(Id->Option ad)->List (Id×Nat×Nat)->Option aK
 | _,_,[]=>some []
 | j,h,(i,k,sz)::r=>(qL h (.s nm j) i k sz).bind λus=>(lH nm (j+1) (aR h us) r).bind λvs=>some (us++vs)
def rR:List Id->List Id->List Id
 | [],_=> []
 | i::r,seen=>cond (seen.contains i) (rR r seen) (i::rR r (i::seen))
def pd(i:Id):Nat->List cH->List (Id×Nat×Nat)
 | _,[]=> []
 | k, .own sz::r=>(i,k,sz)::pd i (k+1) r
 | k, .rows sz col rsz::r=>(i,k,S8 sz col rsz)::pd i (k+1) r
 | k,_::r=>pd i (k+1) r
def pe:List Id->List kO->List (Id×Nat×Nat)
 | i::a, .box l::r=>pd i 0 l++pe a r
 | _::a,_::r=>pe a r
 | _,_=> []
def lA(l:List Id):aK:=l.map λi=>(i, .dead)
def zy(d:Nat)(l:List Id):Bool:=l.all λi=>match i with
 | .s a _=> !(a==d)
 | .c _=>true
 | .g _ _=>false
def im{R:Type}(P:Program)(A:cW)(O:aq)(s:St)(d:Nat)(c:Option Bool)(f:FuncId)(args:List AV)(K:AV->aK->Option R):Option R:=
 match P.funcs[f]? with
 | none=>none
 | some fn=>
  match A.jm f with
  | none=>(mz ((dQ P A f 0 fn).all tW) (A.deep f) s.h args).bind λp=>
   jY P c fn.params.toList p.1 λq=>ab none (fA c (O (.call f) q [])) λxs=>eT [] d c 0 (dQ P A f 0 fn) xs λvs u _=>K (mV vs) (p.2++u)
  | some a=>match c with
   | some _=>none
   | none=>(ny s.h (Ba a args) a args).bind λp=>
    (lH (2000000+d) 0 (aR s.h p.2) (pe (rR (cC p.1) []) (iP A f (iJ ((cC p.1).head?.bind (aR s.h p.2)))))).bind λus=>
    (fV (aR (aR s.h p.2) us) 1000 (cC p.1) []).bind λseen=>
    cond (zy d seen && Nat.beq (iJ (seen.map λi=>iQ seen (aR (aR s.h p.2) us i)).head?) (iJ ((cC p.1).head?.bind (aR s.h p.2)))) (jY P none fn.params.toList (lL seen p.1) λq=>
     ab none (O (.call f) q (seen.map λi=>iQ seen (aR (aR s.h p.2) us i))) λxs=>
     eT seen d none 0 (dQ P A f (iJ ((cC p.1).head?.bind (aR s.h p.2))) fn) xs λvs u j=>
     gX seen d j seen (iP A f (iJ ((cC p.1).head?.bind (aR s.h p.2)))) (xs.drop (oa (dQ P A f (iJ ((cC p.1).head?.bind (aR s.h p.2))) fn))) λq=>
     K (mV vs) (p.2++us++lA seen++u++q)) none
def ju:List AV->Option (List AV×Id×Nat×List AV)
 | []=>none
 | .row i n::r=>some ([],i,n,r)
 | v::r=>(ju r).bind λq=>some (v::q.1,q.2.1,q.2.2.1,q.2.2.2)
def uq(n:Nat):List Row->Option Unit
 | []=>none
 | e::r=>if e.n=n then(match e.own with | none=>some () | some _=>none) else uq n r
def vB{R:Type}(h:Id->Option ad)(i new:Id)(n rsz:Nat)(K:aK->Option R):Option R:=
 match h i,h new with
 | some (.rows b sz col d e es),some (.sl false a b' xs)=>if d=rsz/\a=rsz then
   ab none (uq n es) λ_=>K [(i, .rows b sz col rsz e (dG n (some (b',xs)) es)),(new, .dead)] else none
 | _,_=>none
def Ix:Operand->Bool
 | .func _=>false
 | _=>true
def kx{R:Type}(iO:Bool)(P:Program)(A:cW)(O:aq)(s:St)(d:Nat)(c:Option Bool)(f:FuncId)(args:List AV)(K:AV->aK->Option R):Option R:=
 match cond iO (ju args) none with
 | none=>im P A O s d c f args K
 | some (g,i,n,j)=>match c,s.h i with
  | none,some (.rows b sz col rsz a es)=>ab none (cU n es) λp=>
    cond (s.h (.s (2500000+d) 0)).isNone
     (im P A O {t:=s.t,h:=aR s.h [(i, .rows b sz col rsz a (dG n none es)),(.s (2500000+d) 0, .sl false rsz p.1 p.2)]} d none f (g++ .own (.s (2500000+d) 0)::j) λv us=>
      vB (aR s.h ([(i, .rows b sz col rsz a (dG n none es)),(.s (2500000+d) 0, .sl false rsz p.1 p.2)] ++us)) i (.s (2500000+d) 0) n rsz λe=>
       K v ([(i, .rows b sz col rsz a (dG n none es)),(.s (2500000+d) 0, .sl false rsz p.1 p.2)] ++us++e)) none
  | _,_=>none
theorem M3{R:Type}(P:Program)(A:cW)(O:aq)(s:St)(d:Nat)(c:Option Bool)(f:FuncId)(args:List AV)(K:AV->aK->Option R):kx false P A O s d c f args K=im P A O s d c f args K:=rfl
def pf{R:Type}(P:Program)(s:St)(e:TypeId)(d:Nat)(c:Option Bool)(v:AV)(K:AV->aK->Option R):Option R:=
 match c,v with
 | none, .agg vs=>match ju vs with
  | some (a,i,n,f)=>match s.h i with
   | some (.rows b sz col rsz g es)=>ab none (cU n es) λp=>
     (ff (a++ .t (.aa rsz p.1 p.2)::f)).bind λl=>if l.length=P.cellsOf e/\P.cellsOf e<=1000/\0 < P.cellsOf e/\(jx P e).isSome=true then
      K (.own (.s d 0)) [(i, .rows b sz col rsz g (dG n none es)),(.s d 1, .sl true rsz p.1 p.2),(.s d 0, .sl false (P.cellsOf e) false [l])] else none
   | _=>none
  | none=>none
 | _,_=>none
def yX(c:Option Bool)(b:Bool):Option Bool:=some (match c with
 | none=>b
 | some a=>a && b)
def qu{R:Type}(c:Option Bool)(v:AV)(K:Int->Option R):Option R:=
 v.t?.bind λx=>ab c (jJ.anyInt x) K
def nN:AV->AV
 | .t (.cV f)=> .fn f [] []
 | v=>v
def jF{R:Type}(P:Program)(A:cW)(O:aq)(g:Option Gs)(o:Oper)(s:St)(K:AV->aK->Option R):Option R:=
 let ev:=s.get g;let c:=g.map (·.c);let d:=o.dst.getD 0
 match o.op with
 | .move x | .assign x=>K (ev x) []
 | .pick k a b=>(ev k).t?.bind λI=>ab c I.bool? λkb=>
   (s.nP g k true a).t?.bind λx=>ab (yX c kb) x.bool? λJ=>
   (s.nP g k false b).t?.bind λy=>ab (yX c (!kb)) y.bool? λL=>K (AV.t (.bool (cond kb J L))) []
 | .alloc t=>match c with
  | some _=>none
  | none=>(jx P t).bind λl=>K (.ref (.s d 0) 0) [(.s d 0, .box (l.map .t))]
 | .box _ x=>match c with
  | some _=>none
  | none=>if(iq (ev x)).all rL then K (.ref (.s d 0) 0) [(.s d 0, .box (iq (ev x)))] else none
 | .build t j=>(x9 P t ev j.toList).bind λv=>K v []
 | .buildSlice t n j=>(oF P t).bind λe=>if A.mN o.dst o.type=1 then
   (match c,j.toList,n with
   | none,[(0,x)],1=>if((iq (ev x)).length=P.cellsOf e/\(iq (ev x)).all rL=true)/\P.cellsOf e<=1000/\0 < P.cellsOf e/\(jx P e).isSome=true then K (.own (.s d 0)) [(.s d 0, .arr (iq (ev x)))] else none
   | _,_,_=>none)
   else if A.mN o.dst o.type=5 then(match j.toList,n with
   | [(0,x)],1=>pf P s e d c (ev x) K
   | _,_=>none)
   else if j.size=n/\n<=1000/\P.cellsOf e<=1000/\0 < P.cellsOf e/\(jx P e).isSome=true then
   if n=0/\A.app o.dst=true then K (.t (.aC false)) [] else
   (jn P s.h e ev 0 j.toList).bind λq=>
   match c with
   | some _=>K (.t (.aa (P.cellsOf e) false q.1)) q.2
   | none=>K (.own (.s d 0)) ((.s d 0, .sl false (P.cellsOf e) false q.1)::q.2)
   else none
 | .load t a=>iz P s c t (ev a) λv=>K v []
 | .store t a x=>match c with
  | some _=>none
  | none=>jW P s t (ev a) (ev x) λu=>K .top u
 | .nilCheck x=>match ev x with
  | .ref i k=>K (.ref i k) []
  | .el i sz k o=>K (.el i sz k o) []
  | .rel i sz n k o=>K (.rel i sz n k o) []
  | .t y=>ab c y.sL λcs=>K (.t (.ptr cs)) []
  | .fn f a b=>K (.fn f a b) []
  | _=>none
 | .binOp op t x y ty=>match op,qE P t y,qE P t x with
  | .eql,true,_=>(kF P s t (ev x)).bind λb=>K (.t (.bool b)) []
  | .neq,true,_=>(kF P s t (ev x)).bind λb=>K (.t (.bool (!b))) []
  | .eql,_,true=>(kF P s t (ev y)).bind λb=>K (.t (.bool b)) []
  | .neq,_,true=>(kF P s t (ev y)).bind λb=>K (.t (.bool (!b))) []
  | .eql,_,_=>rV P c t (ev x) (ev y) λb=>K (.t (.bool b)) []
  | .neq,_,_=>rV P c t (ev x) (ev y) λb=>K (.t (.bool (!b))) []
  | op,_,_=>(ev x).t?.bind λa=>(ev y).t?.bind λb=>tp P op t ty c a b λz=>K (.t z) []
 | .unOp op t x=>(ev x).t?.bind λa=>uT P op t c a λz=>K (.t z) []
 | .convert src B x=>match P.underlying src,P.underlying B with
  | some (.slice e),some .string=>match ue P e with
   | some .u8=>(eD s.h (ev x)).bind λy=>ab c ((y.aQ 1).bind λp=>bytesOf p.2) λl=>K (.t (.str ⟨l.toArray⟩)) []
   | _=>none
  | _,_=>(ev x).t?.bind λa=>tB P c src B a λz=>K (.t z) []
 | .makeFunc (.func f) H C=>K (.fn f (H.toList.map ev) (C.toList.map ev)) []
 | .makeSlice t l m=>match c with
  | some _=>none
  | none=>(ev l).t?.bind λn=>(ev m).t?.bind λk=>uk P d t (A.mN o.dst o.type) n k K
 | .makeMap t m=>match c,m with
  | none,none=>um P d t K
  | _,_=>none
 | .lookup t x k ok=>oS P s c t (ev x) (ev k) ok λv=>K v []
 | .mapUpdate t x k v=>match c with
  | some _=>none
  | none=>o7 P s t (ev x) (ev k) (ev v) λu=>K .top u
 | .slice t x E D F=>
  jJ s c g E λE=>jJ s c g D λD=>jJ s c g F λF=>pn P s c t (ev x) E D F λv=>K v []
 | .fieldAddr t x f=>tU P c t (ev x) f λv=>K v []
 | .field t x f=>tT P t (ev x) f λv=>K v []
 | .indexAddr t x i=>qu c (ev i) λn=>kE P s c t (ev x) n λv=>K v []
 | .index t x i=>qu c (ev i) λn=>match P.underlying t with
  | some .string=>(ev x).t?.bind λy=>ab c y.dY λb=>lF c n b.size
    (ab c b.data.toList[n.toNat]? λu=>K (.t (.int .u8 u.toNat)) [])
  | some (.array m e)=>match ev x with
   | .agg vs=>cond (cB P e) ((ff vs).bind λl=>lF c n m (me P e c (l.drop (n.toNat * P.cellsOf e)) λz=>K z [])) none
   | _=>none
  | _=>none
 | .extract x k=>match ev x with
  | .nn vs=>(vs[k]?).bind λv=>K v []
  | _=>none
 | .call cl=>match cl.callee with
  | .builtin .len=>match cl.args.toList,cl.argTypes.toList with
   | [x],t::_=>oR P s c t (ev x) λv=>K v []
   | _,_=>none
  | .builtin .append=>match c,cl.args.toList,cl.argTypes.toList with
   | none,[x,y],[t,u]=>lZ P s d (A.mN o.dst o.type==3) t u (ev x) (ev y) K
   | _,_,_=>none
  | .builtin .max=>match ue P o.type with
   | some k=>(ff (cl.args.toList.map ev)).bind λl=>match l with
    | x::r=>ab c (x.int? k) λa=>qC k c true a r λz=>K (.t z) []
    | []=>none
   | none=>none
  | .builtin .min=>match ue P o.type with
   | some k=>(ff (cl.args.toList.map ev)).bind λl=>match l with
    | x::r=>ab c (x.int? k) λa=>qC k c false a r λz=>K (.t z) []
    | []=>none
   | none=>none
  | .builtin .delete=>match c,cl.args.toList,cl.argTypes.toList with
   | none,[x,y],t::_=>oE P s t (ev x) (ev y) λu=>K (.nn []) u
   | _,_,_=>none
  | .builtin .cap=>match cl.args.toList,cl.argTypes.toList with
   | [x],t::_=>match P.underlying t with
    | some (.slice _)=>match ev x with
     | .t y=>cond (y8 y) (K (.t (.int .i64 0)) []) none
     | _=>none
    | _=>none
   | _,_=>none
  | .value G=>match nN (ev G) with
   | .fn f a b=>kx (Ix G) P A O s d c f (a++cl.args.toList.map ev++b) K
   | _=>none
  | _=>none
 | _=>none
open Go
section
variable (P:Program) (A:cW) (O:aq)
def yf(b want:Bool):Bool:=cond want b (!b)
def gC(g:Option Gs)(b want:Bool):Bool:=
 match g with
 | none=>yf b want
 | some g0=>cond g0.c (yf b want) false
def dN{R:Type}(a:Array Oper)(o:Oper)(s:St)(K:Option Gs->Option R):Option R:=
 match o.guard with
 | none=>K none
 | some (j,want)=>match(a[j]?).bind (·.dst) with
  | none=>none
  | some d=>(s.t d).2.t?.bind λx=>ab ((s.t d).1.map (·.c)) x.bool? λb=>
    K (some {d:=d,want:=want,c:=gC (s.t d).1 b want})
def Qo:Builtin->Bool
 | .delete=>true
 | _=>false
def aG(o:Oper):Bool:=
 match o.op with
 | .store .. =>true
 | .mapUpdate .. =>true
 | .call cl=>match cl.callee with
  | .builtin .append=>match cl.args.toList with
   | .const (.slice none 0 0)::_=>false
   | _=> !A.app o.dst
  | .builtin b=>Qo b
  | .value (.func f)=>match A.jm f with
   | some _=>true
   | none=>match P.funcs[f]? with
    | some _=>A.wr f
    | none=>true
  | .value _=> !A.Bg o.dst
  | _=>true
 | .buildSlice .. =>A.mN o.dst o.type==6
 | _=>false
def P2(o:Oper):Bool:=
 match o.op with
 | .call cl=>match cl.callee with
  | .value (.func f)=>match P.funcs[f]? with
   | some fn=>(dQ P A f 0 fn).all tW
   | none=>false
  | _=>false
 | _=>false
def gh(o:Oper):Bool:=
 match o.op with
 | .move _ | .assign _ | .pick .. | .build .. | .unOp .. | .makeFunc .. | .fieldAddr .. | .field .. | .extract .. | .nilCheck _=>true
 | .binOp _ t x y _=> !(qE P t x || qE P t y)
 | .call cl=>match cl.callee with
  | .builtin .max | .builtin .min=>true
  | _=>false
 | _=>false
def fj(o:Oper):Bool:=
 match o.op with
 | .call cl=>match cl.callee with
  | .value (.func f)=>A.deep f
  | .value _=>true
  | .builtin .append=>A.mN o.dst o.type==3
  | _=>false
 | _=>false
def o9(o:Oper):Bool:=gh P o ||
 match o.op with
 | .load .. | .index .. | .indexAddr .. | .slice .. | .binOp .. | .convert .. | .lookup .. =>true
 | .call cl=>match cl.callee with
  | .builtin .len=>true
  | .value (.func _)=> !aG P A o && P2 P A o
  | _=>false
 | _=>false
def jO(o:Oper):Bool:=
 match o.op with
 | .alloc _ | .box .. | .makeSlice .. | .makeMap .. =>true
 | _=>false
def fq(o:Oper):Bool:=
 match o.op with
 | .call cl=>match cl.callee with
  | .value (.func f)=>(A.jm f).isSome
  | .value _=> !A.Bg o.dst
  | _=>false
 | _=>false
def tA(a b:Oper):Bool:= !((aG P A a && !(gh P b || jO b)) || (aG P A b && !(gh P a || jO a))) && (!fj A a || o9 P A b) && (!fj A b || o9 P A a)
def iu:List Oper->List Nat
 | []=> []
 | o::r=>match o.dst with
  | some d=>d::iu r
  | none=>iu r
def zQ(d:Array Oper):Nat->Nat->Nat
 | 0,a=>a
 | n+1,a=>match d.find? (λo=>o.dst==some a) with
  | some o=>match o.op with
   | .fieldAddr _ (.tmp b) _=>zQ d n b
   | .nilCheck (.tmp b)=>zQ d n b
   | .move (.tmp b)=>zQ d n b
   | _=>a
  | none=>a
def uB(b:Array Oper)(a:Nat):Nat:=zQ b 6 a
def hJ(b:Array Oper)(o:Oper):Option Nat:=match o.guard,o.op with
 | none, .store _ (.tmp a) _=>some (uB b a)
 | none, .load _ (.tmp a)=>some (uB b a)
 | _,_=>none
def _root_.Go.Aev.cW.stM(A:cW)(a:Array Oper):Bool:=A.st ((a[0]?).bind (·.dst)) && A.KY ((a[0]?).bind (·.dst)) (((a[0]?).map (·.type)).getD 0)
def lN(d:Array Oper)(a b:Oper):Bool:=A.stM d && (match hJ d a,hJ d b with
 | some k,some e=> !(k==e) && !(iu d.toList).contains k && !(iu d.toList).contains e
 | _,_=>false)
def EA(o:Oper):Bool:=o.guard.isNone && aG P A o && match o.op with
 | .call cl=>match cl.callee with
  | .builtin .append=> !(A.mN o.dst o.type==3)
  | .value (.func f)=>(A.jm f).isNone && !A.deep f
  | _=>false
 | .buildSlice .. =>true
 | .store _ (.tmp _) _=>true
 | _=>false
def Qr(o:Oper):Bool:=match o.op with
 | .store .. =>true
 | _=>false
def jS(b:Array Oper)(o:Oper):Option (Option Nat):=match o.guard,o.op with
 | none, .load _ (.tmp a)=>some (some (uB b a))
 | none, .buildSlice .. =>some none
 | _,_=>none
def jQ(d:Array Oper)(a b:Oper):Bool:=A.ld ((d[0]?).bind (·.dst)) && (!aG P A b && EA P A a && (A.stM d || !Qr a)) && (match jS d b with
 | some (some k)=> !(iu d.toList).contains k
 | some none=>true
 | none=>false)
def kG(o:Oper)(k:Bool):Bool:=match o.guard,o.op with
 | none, .store t (.tmp _) _=>(match P.underlying t with
  | some (.slice _)=>k
  | some (.int _)=> !k
  | _=>false)
 | _,_=>false
def nc(d:Array Oper)(a b:Oper):Bool:=A.sx ((d[0]?).bind (·.dst)) && kG P a true && kG P b false
def ka:aK->Bool
 | [(_, .dead),(_, .rows _ _ _ rsz _ _)]=> !(rsz==1)
 | _=>false
def kb:aK->Bool
 | [(_, .sl false sz _ _)]=>sz==1
 | _=>false
def AS(o:Oper)(s:St):Bool:=match o.op with
 | .store _ _ y=>(s.get none y).ids.isEmpty
 | _=>false
def y7(o:Oper):Bool:=match o.guard,o.op with
 | none, .indexAddr t (.tmp _) _=>(match oF P t with
  | some e=>P.cellsOf e==1
  | none=>false)
 | none, .load _ (.tmp _)=>true
 | _,_=>false
def wU(o:Oper)(s:St):Bool:=match o.op with
 | .load _ x=>(match s.get none x with
  | .ref _ _=>true
  | _=>false)
 | .indexAddr _ x _=>(match s.get none x with
  | .own _=>true
  | _=>false)
 | _=>false
def mr(d:Array Oper)(a b:Oper):Bool:=A.sx ((d[0]?).bind (·.dst)) && (kG P a true || kG P a false) && y7 P b
def qv(o:Oper):Bool:=match o.guard,o.op with
 | none, .load _ (.tmp _)=>true
 | none, .indexAddr _ (.tmp _) _=>true
 | _,_=>false
def uO(a b:Oper):Bool:=((A.tz a.dst a.type && A.zg b.dst b.type) || A.zf b.dst b.type) && qv b
def uN(d:Array Oper)(a b:Oper):Bool:=lN A d a b || jQ P A d a b || jQ P A d b a || (nc P A d a b || nc P A d b a) || (mr P A d a b || mr P A d b a) || (uO A a b || uO A b a)
def iV(a:Array Oper):Nat->Nat->Nat->Bool
 | 0,_,_=>false
 | n+1,j,i=>match a[j]? with
  | none=>false
  | some b=>b.after.any λe=>Region.binds .any e && (e.on==i || (Nat.blt i e.on && iV a n e.on i))
def B3(a:Array Oper)(listed:Array Bool)(i:Nat):Bool:=
 match a[i]? with
 | none=>false
 | some b=>(List.range a.size).all λj=>match a[j]? with
  | none=>true
  | some d=>j==i || listed.getD j true || tA P A b d || uN P A a b d || iV a 12 j i
def zi(b:Array Oper):Nat->Nat->Array Bool->Bool
 | 0,_,_=>true
 | n+1,k,a=>B3 P A b a k && zi b n (k+1) (a.setIfInBounds k true)
def P9(h:Id->Option ad)(us:aK):Bool:=us.all λp=>(h p.1).isNone
def jr(d:Nat)(h:Id->Option ad)(us:aK):Bool:=us.all λp=>match p.1 with
 | .s a _=> !(a==d) || (h p.1).isNone
 | .c _=>true
 | .g _ _=>false
def eH(a:Array Oper)(d:Option Nat):Bool:=
 a.any λo=>match o.guard with
  | none=>false
  | some (j,_)=>match(a[j]?).bind (·.dst),d with
   | some e,some d=>e==d
   | _,_=>false
def tu(a:Array Oper)(o:Oper)(d:Nat):Bool:=
 (List.range a.size).all λi=>match a[i]? with
  | some b=> !(b.dst==some d) || o.after.any (λe=>Region.binds .any e && (e.on==i || iV a 12 e.on i))
  | none=>true
def qD(a:Array Oper)(g:Option Gs)(o:Oper)(s:St):Bool:=
 o.op.operands.toList.all λx=>(s.get g x).ids.all λi=>match i with
  | .s d _=>tu a o d
  | .c _=>true
  | .g _ _=>false
def mf(o:Oper)(us:aK):Bool:=us.all λp=>match p.1 with
 | .s d _=>o.dst==some d
 | .c _=>false
 | .g _ _=>false
def uU(a:Array Oper)(o:Oper)(us:aK):Bool:=us.all λp=>match p.1 with
 | .s d _=>tu a o d || o.dst==some d
 | .c _=>true
 | .g _ _=>false
def DK(a:Array Oper)(o d:Oper)(s:St)(us:aK):Bool:=match hJ a o,hJ a d with
 | some k,some b=>(o.op.operands.toList.all λx=>(s.get none x).ids.all λi=>decide (i∈(s.t k).2.ids)) && us.all (λp=>decide (p.1∈(s.t k).2.ids)) && us.all (λp=>decide (p.1∉(s.t b).2.ids))
 | _,_=>false
def ze(a:Array Oper)(b:Oper)(s:St)(us:aK):Bool:=match jS a b with
 | some (some k)=>us.all λp=>decide (p.1∉(s.t k).2.ids)
 | _=>true
def wD(a:Array Oper)(o:Oper)(s:St):Bool:=match jS a o with
 | some (some k)=>o.op.operands.toList.all λx=>(s.get none x).ids.all λi=>decide (i∈(s.t k).2.ids)
 | some none=>o.op.operands.toList.all λx=>(s.get none x).ids.isEmpty
 | none=>true
def lO(a:Array Oper)(o:Oper)(s:St)(us:aK):Bool:=a.all λb=>(!(lN A a o b) || DK a o b s us) && (!(jQ P A a o b) || ze a b s us) && (!(jQ P A a b o) || wD a o s) && ((!(nc P A a o b) || ka us) && (!(nc P A a b o) || (kb us && AS o s))) && ((!(mr P A a o b) || ka us || kb us) && (!(mr P A a b o) || wU o s))
def wh:AV->Bool
 | .ref _ _=>true
 | .t (.int _ _)=>true
 | _=>false
def HV:AV->Bool
 | .ref _ _=>true
 | _=>false
def tn(o:Oper)(s:St):Bool:=o.op.operands.toList.all λx=>(s.get none x).ids.isEmpty
def qz(o:Oper)(s:St)(v:AV):Bool:=(!(A.zf o.dst o.type && qv o) || tn o s) && (!(A.zg o.dst o.type && qv o) || tn o s || (match o.op with
 | .load _ x=>HV (s.get none x) && wh v
 | _=>false))
def wm:AV->AV->Option (Option (Int×Int))
 | .ref i o, .ref j p=>cond (decide (i=j/\o=p)) (some none) none
 | .ref _ _,_=>none
 | _, .ref _ _=>none
 | .t (.int k a), .t (.int d b)=>cond (decide (k=d)) (some (some (a,b))) none
 | .t (.int _ _),_=>none
 | _, .t (.int _ _)=>none
 | _,_=>some none
def wu{R:Type}:List AV->List AV->Option R->Option R
 | [],[],K=>K
 | c::r,c'::a,K=>match wm c c' with
  | none=>none
  | some none=>wu r a K
  | some (some p)=>ab none (if p.1=p.2 then some () else none) λ_=>wu r a K
 | _,_,_=>none
def wo:Option ad->Option ad->Option (Option (List AV×List AV))
 | some (.box cs),some (.box a)=>some (some (cs,a))
 | some (.box _),_=>none
 | _,some (.box _)=>none
 | some (.gf _),_=>none
 | _,some (.gf _)=>none
 | _,_=>some none
def wz{R:Type}(h h':Id->Option ad):aK->Option R->Option R
 | [],K=>K
 | p::us,K=>match wo (h p.1) (h' p.1) with
  | none=>none
  | some none=>wz h h' us K
  | some (some q)=>wu q.1 q.2 (wz h h' us K)
def Co{R:Type}(a:Bool)(o:Oper)(h:Id->Option ad)(us:aK)(K:Option R):Option R:=cond (a && A.tz o.dst o.type) (wz h (aR h us) us K) K
def oZ(b:Bool)(nt:Nat)(a:Array Oper)(o:Oper)(g:Option Gs)(s:St)(v:AV)(us:aK):Bool:=
 (match o.dst with | some d=>decide (d < nt) | none=>true) &&
 (match g with | some g=>us.isEmpty && !(o.dst==some g.d) | none=>true) &&
 jr (o.dst.getD 0) s.h us && (!b || (qD a g o s && (aG P A o || mf o us) && (!gh P o || us.isEmpty) && (!o9 P A o || us.isEmpty) && (!aG P A o || uU a o us) && Nat.ble nt 1000000 && lO P A a o s us && qz A o s v))
def sR(a:Bool)(o:Oper)(g:Option Gs):Option Gs:=
 match g with
 | some g=>cond (!a && fq A o) (some g) none
 | none=>none
def yx(nt:Nat)(o:Oper)(g:Gs):Bool:=(match o.dst with | some d=>decide (d < nt) | none=>true) && !(o.dst==some g.d)
def Sz(o:Oper):AV:=
 match o.op with
 | .call cl=>match cl.callee with
  | .value (.func f)=>match P.funcs[f]? with
   | some fn=>match dQ P A f 0 fn with
    | [.f .b]=> .t (.bool false)
    | [.f (.i k)]=> .t (.int k 0)
    | _=> .top
   | none=> .top
  | _=>match P.underlying o.type with
   | some .bool=> .t (.bool false)
   | some (.int k)=> .t (.int k 0)
   | _=> .top
 | _=> .top
def qK{R:Type}(b:Bool)(nt:Nat)(a:Array Oper)(o:Oper)(s:St)(K:St->Option R):Option R:=
 dN a o s λg=>match sR A b o g with
 | some d=>cond (yx nt o d) (cond d.c
   (jF P A O none o (s.uw d) λv us=>
    if oZ P A b nt a o none s v us then K (s.put (eH a o.dst) o.dst (some d) v us) else none)
   (K (s.put (eH a o.dst) o.dst (some d) (Sz P A o) []))) none
 | none=>jF P A O g o s λv us=>
  Co A b o s.h us (if oZ P A b nt a o g s v us then K (s.put (eH a o.dst) o.dst g v us) else none)
def xd{R:Type}(a:Bool)(nt:Nat)(b:Array Oper):List Oper->St->(St->Option R)->Option R
 | [],s,K=>K s
 | o::r,s,K=>qK P A O a nt b o s λs'=>xd a nt b r s' K
def St.clear(s:St):St:=
 {t :=λk=>match s.t k with
    | (none,v)=>(none,v)
    | (some _,_)=>(none, .top)
  h:=s.h}
def wL:List Nat->Bool
 | []=>true
 | d::r=> !r.contains d && wL r
def ud(a:Array Oper):Bool:=a.all λo=>match o.guard with
 | none=>true
 | some (j,_)=>o.after.any λe=>Region.binds .any e && e.on==j
def Db(b:Bool)(a:Array Oper):Bool:=
 !b || (Region.lexB .any a && zi P A a a.size 0 (Array.replicate a.size false) && wL (iu a.toList) && ud a)
def region{R:Type}(nt:Nat)(a:Bool)(b:Array Oper)(s:St)(K:St->Option R):Option R:=
 cond (Db P A a b)
  (xd P A O a nt b b.toList s λs'=>K s'.clear) none
def oX(h:Id->Option ad):AV->AV
 | .own i=>match h i with
  | some (.sl true sz b xs)=> .t (.aa sz b xs)
  | _=> .own i
 | .part i sz off n=>match h i with
  | some (.sl true a b xs)=>if a=sz then .t (.aa sz b ((xs.drop off).take n)) else .part i sz off n
  | _=> .part i sz off n
 | .ref i off=>match h i with
  | some (.gf l)=> .t (.ptr (l.drop off))
  | _=> .ref i off
 | v=>v
def wF(s:St)(k:Nat×Option Nat):Option (AV×aK):=
 match s.t k.1 with
 | (some _,_)=>none
 | (none,v)=>match k.2 with
  | none=>some (oX s.h v,[])
  | some sz=>if sz=0\/sz>=999998 then some (oX s.h v,[]) else match v with
   | .own i=>match s.h i with
    | some (.sl false _ _ _)=>some (.own i,[])
    | _=>none
   | .t (.aC b)=>some (.own (.s (1000000+k.1) 0),[(.s (1000000+k.1) 0, .sl false sz b [])])
   | _=>none
def qB(s:St):List (Nat×Option Nat)->Option (List AV×aK)
 | []=>some ([],[])
 | k::r=>(wF s k).bind λp=>(qB s r).bind λq=>some (p.1::q.1,p.2++q.2)
def Am(f:FuncId)(todo:List Item)(live:List (Nat×Option Nat))(m:Nat×Nat)(s:St):Option (List T):=
 (qB s live).bind λp=>
  if P9 s.h p.2 then
  let h:=aR s.h p.2
  (fV h 1000 ((List.range m.1).map Id.c++cC p.1) []).bind λseen=>
   O (.node f todo live m) (lL seen p.1) (seen.map λi=>iQ seen (h i))
  else none
def B5(h:Id->Option ad):AV->aK
 | .ref i _=>match h i with
  | some (.box cs)=>nO h cs
  | _=> []
 | _=> []
def oL(s:St):List (Nat×Option Nat)->aK
 | []=> []
 | (k,some 0)::r=>iL s.h (s.t k).2++oL s r
 | (k,some (n+1))::r=>cond (Nat.beq n 999998) (B5 s.h (s.t k).2) [] ++oL s r
 | (_,none)::r=>oL s r
def zN(s:St):List (Nat×Option Nat)->List (Id×Nat×Nat)
 | []=> []
 | (k,some n)::r=>match cond (Nat.ble 1000000 n) (s.t k).2 .top with
  | .ref i _=>(i,n / 1000000 - 1,n % 1000000)::zN s r
  | _=>zN s r
 | _::r=>zN s r
def uD(col rsz:Nat)(e:Row):List T:=e.cs.set col (match e.own with
 | some p=> .aa rsz p.1 p.2
 | none=> .ax)
def zz(h:Id->Option ad):AV->(Id->Option ad)
 | .ref i _=>match h i with
  | some (.box cs)=>aR h [(i, .box (cs.map (oX h)))]
  | _=>h
 | _=>h
def DA(h:Id->Option ad):AV->(Id->Option ad)
 | .own i=>match h i with
  | some (.rows b sz col rsz _ es)=>cond (bh es) (aR h [(i, .sl true sz b (es.map (uD col rsz)))]) h
  | _=>h
 | _=>h
def DB:(Id->Option ad)->List AV->(Id->Option ad)
 | h,[]=>h
 | h,v::r=>DB (DA h v) r
def Dy(h:Id->Option ad):AV->(Id->Option ad)
 | .ref i _=>match h i with
  | some (.box cs)=>DB h cs
  | _=>h
 | _=>h
def ur(t:Nat->Option Gs×AV):(Id->Option ad)->List (Nat×Option Nat)->(Id->Option ad)
 | h,[]=>h
 | h,(k,some n)::r=>ur t (cond (Nat.beq n 999999) (zz h (t k).2) (cond (Nat.beq n 999998) (zz (Dy h (t k).2) (t k).2) h)) r
 | h,(_,none)::r=>ur t h r
def nh(f:FuncId)(todo:List Item)(live:List (Nat×Option Nat))(m:Nat×Nat)(s:St):Option (List T):=
 (lH 1900000 0 (aR s.h (oL s live)) (zN s live)).bind λus=>
  Am O f todo live m {t:=s.t,h:=ur s.t (aR (aR s.h (oL s live)) us) live}
def oK(live:List (Nat×Option Nat))(bE:List AV)(blks:List ad):St:=
 {t:=λk=>(none,look live bE k)
  h:=fun
   | .c j=>blks[j]?
   | _=>none}
where
 look:List (Nat×Option Nat)->List AV->Nat->AV
 | (k,_)::ks,v::vs,j=>if j=k then v else look ks vs j
 | _,_,_=> .top
def qP:Code->Nat
 | .region id _ _=>id
 | .seq a _=>qP a
 | .block _ b=>qP b
 | .cond _ a _=>qP a
 | _=>1000000
def Ju(h:Id->Option ad)(sz:Nat):AV->Option (T×Id)
 | .own i=>match h i with
  | some (.sl false a b xs)=>if a=sz then some (.aa sz b xs,i) else none
  | _=>none
 | _=>none
def kD{R:Type}(m:Nat)(h:Id->Option ad)(r:cH)(v:AV)(K:T->List Id->List Id->Option R):Option R:=
 match r with
 | .f _=>v.t?.bind λx=>ab none x.rX λ_=>K x [] []
 | .t _=>(eD h v).bind λx=>K x [] ((iL h v).map (·.1))
 | .own sz=>match v with
  | .own i=>(Ju h sz (.own i)).bind λp=>K p.1 [p.2] []
  | .part i a 0 n=>match h i with
   | some (.sl false j b xs)=>if j=sz/\a=sz then K (.aa sz b (xs.take n)) [i] [] else none
   | _=>none
  | .t (.aC b)=>K (.aC b) [] []
  | .t (.aa _ true [])=>K (.aC true) [] []
  | _=>none
 | .ref k off=>match v with
  | .ref (.c e) off'=>if e=k/\off'=off/\k < m then K .ax [] [] else none
  | _=>none
 | .same k=>match v with
  | .own (.c e)=>if e=k/\k < m then K .ax [] [] else none
  | _=>none
 | .rows sz col rsz=>match v with
  | .own i=>match h i with
   | some (.rows b a d g _ es)=>if a=sz/\d=col/\g=rsz then
     ab none (if bh es=true then some () else none) λ_=>K (bz b es) [i] [] else none
   | _=>none
  | _=>none
 | .mp ag ks vk=>match v with
  | .own i=>match h i with
   | some (.mp l o q es)=>if l=ag/\o=ks/\q=vk then K (aO es) [i] [] else none
   | _=>none
  | _=>none
 | .no=>match v with
  | .ref _ _=>K .ax [] []
  | _=>none
 | .agg _=>none
 | .new _=>none
def oG{R:Type}(m:Nat)(h:Id->Option ad):List cH->List AV->(List T->List Id->List Id->Option R)->Option R
 | [],[],K=>K [] [] []
 | r::rs,v::vs,K=>kD m h r v λx a b=>oG m h rs vs λxs d b'=>K (x::xs) (a++d) (b++b')
 | _,_,_=>none
def cS{R:Type}(m:Nat)(h:Id->Option ad):List cH->List AV->(List T->List Id->List Id->Option R)->Option R
 | [],[],K=>K [] [] []
 | r::rs,v::vs,K=>match r with
  | .agg l=>match v with
   | .agg cs=>oG m h l cs λxs a b=>cS m h rs vs λe d b'=>K (xs++e) (a++d) (b++b')
   | _=>none
  | .new l=>match v with
   | .ref i 0=>match h i with
    | some (.box cs)=>oG m h l cs λxs a b=>cS m h rs vs λe d b'=>K (xs++e) (i:: (a++d)) (b++b')
    | _=>none
   | _=>none
  | r=>kD m h r v λx a b=>cS m h rs vs λxs d b'=>K (x::xs) (a++d) (b++b')
 | _,_,_=>none
def mH{R:Type}(m:Nat)(h:Id->Option ad):Nat->List kO->(List T->List Id->List Id->Option R)->Option R
 | _,[],K=>K [] [] []
 | j, .box l::r,K=>match h (.c j) with
  | some (.box cs)=>oG m h l cs λxs a b=>mH m h (j+1) r λe d b'=>K (xs++e) (.c j:: (a++d)) (b++b')
  | _=>none
 | j, .sl sz::r,K=>match h (.c j) with
  | some (.sl false i b xs)=>if i=sz then mH m h (j+1) r λe d b'=>K (.aa sz b xs::e) (.c j::d) b' else none
  | _=>none
 | j, .mp ag ks vk::r,K=>match h (.c j) with
  | some (.mp f g k es)=>if f=ag/\g=ks/\k=vk then mH m h (j+1) r λe d b'=>K (aO es::e) (.c j::d) b' else none
  | _=>none
 | j, .dead::r,K=>mH m h (j+1) r K
def uA{R:Type}(s:St):List ResultVar->(List AV->Option R)->Option R
 | [],K=>K []
 | .tmp k::r,K=>match s.t k with
   | (none,v)=>uA s r λl=>K (v::l)
   | _=>none
 | .cell k t::r,K=>match s.t k with
   | (none,v)=>iz P s none t v λv=>uA s r λl=>K (v::l)
   | _=>none
def zx:List Id->Bool
 | []=>true
 | i::r=> !r.contains i && zx r
def yO(f:FuncId)(fn:Func)(m:Nat×Nat)(s:St):Option (List T):=
 uA P s fn.results.toList λvs=>
  if m.1= (iP A f m.2).length then
  cS m.1 s.h (dQ P A f m.2 fn) vs λxs a b=>mH m.1 s.h 0 (iP A f m.2) λe d b'=>
   if zx (a++d) && (b++b').all (λi=> !(a++d).contains i) then some (xs++e) else none
  else none
def wV:List AV->List Id
 | []=> []
 | .own i::r=>i::wV r
 | _::r=>wV r
def Df(h:Id->Option ad)(t:Nat->Option Gs×AV):List ResultVar->List Id
 | []=> []
 | .tmp k::r=>(match(t k).2 with
  | .agg vs=>wV vs
  | v=>wV [v])++Df h t r
 | .cell k _::r=>(match(t k).2 with
  | .ref i _=>match h i with
   | some (.box cs)=>wV cs
   | _=> []
  | _=> [])++Df h t r
def xl{R:Type}:(Id->Option ad)->List Id->(aK->Option R)->Option R
 | _,[],K=>K []
 | h,i::r,K=>match h i with
  | some (.rows b sz col rsz _ es)=>ab none (if bh es=true then some () else none) λ_=>
    xl (aR h [(i, .sl true sz b (es.map (uD col rsz)))]) r λus=>K ((i, .sl true sz b (es.map (uD col rsz)))::us)
  | _=>xl h r K
def yN(f:FuncId)(fn:Func)(m:Nat×Nat)(s:St):Option (List T):=
 cond ((dQ P A f m.2 fn).any HW) (yO P A f fn m s)
  (xl s.h (Df s.h s.t fn.results.toList) λus=>yO P A f fn m {t:=s.t,h:=aR s.h us})
def ev(f:FuncId)(fn:Func)(m:Nat×Nat):Nat->Bool->List Item->St->Option (List T)
 | 0,_,_,_=>none
 | n+1,d,todo,s=>match todo with
  | []=>yN P A f fn m s
  | .code c::k=>match c with
   | .skip=>ev f fn m n true k s
   | .seq a b=>ev f fn m n d (.code a:: .code b::k) s
   | .region id g e=>match cond d (A.join f id) none with
    | some live=>nh O f (.code (.region id g e)::k) live m s
    | none=>region P A O fn.ntmps e g s λs'=>ev f fn m n true k s'
   | .cond x a b=>(s.get none x).t?.bind λy=>ab none y.bool? λt=>cond t (ev f fn m n true (.code a::k) s) (ev f fn m n true (.code b::k) s)
   | .block id b=>ev f fn m n d (.code b:: .inBlock id::k) s
   | .loop b=>match A.live f (qP b) with
    | some live=>nh O f (.inLoop b::k) live m s
    | none=>none
   | .exit id=>match exitTo id k with
    | some i=>ev f fn m n true i s
    | none=>none
   | .ret=>yN P A f fn m s
   | _=>none
  | .inBlock _::k=>ev f fn m n true k s
  | .inLoop b::k=>match A.live f (qP b) with
    | some live=>nh O f (.inLoop b::k) live m s
    | none=>none
  | _::_=>none
def lD:Nat:=100000
def vZ(bE:List AV)(a:List ad):St:=
 {t:=λk=>(none,bE.getD k .top)
  h:=fun
   | .c j=>a[j]?
   | _=>none}
def au:aq
 | .call f,bE,a=>match A.ext f bE a with
  | some r=>some r
  | none=>match P.funcs[f]? with
  | some fn=>match fn.body with
   | some c=>if bE.length<=fn.ntmps then ev P A O f fn (a.length,iJ a.head?) lD true [.code c] (vZ bE a) else none
   | none=>none
  | none=>none
 | .node f todo live m,bE,a=>match P.funcs[f]? with
  | some fn=>match todo with
   | .inLoop b::k=>ev P A O f fn m lD true (.code b:: .inLoop b::k) (oK live bE a)
   | todo=>ev P A O f fn m lD false todo (oK live bE a)
  | none=>none
end
def rW(d:Bool)(r:Nat):Code->List Item->Option (List Item)
 | .seq a b,k=>match rW d r a (.code b::k) with
  | some t=>some t
  | none=>rW d r b k
 | .block id b,k=>rW d r b (.inBlock id::k)
 | .loop b,k=>if d && qP b==r then some (.inLoop b::k) else rW d r b (.inLoop b::k)
 | .cond _ a b,k=>match rW d r a k with
  | some t=>some t
  | none=>rW d r b k
 | .region id f e,k=>if !d && id==r then some (.code (.region id f e)::k) else none
 | _,_=>none
def bY(P:Program)(f:FuncId)(a:Bool)(r:Nat)(live:List (Nat×Option Nat))(m:Nat×Nat):Key:=
 .node f (match P.funcs[f]? with
  | some fn=>match fn.body with
   | some c=>(rW a r c []).getD []
   | none=> []
  | none=> []) live m
def jR(P:Program)(A:cW):Nat->aq
 | 0=>λ_ _ _=>none
 | n+1=>au P A (jR P A n)
open Classical in
noncomputable def mR(P:Program)(A:cW):aq:=λk vs a=>
 if h:∃n r,jR P A n k vs a=some r then some (Classical.choose (Zc h)) else none
open Go
section
variable (w:World) (A:Nat->Prop)
mutual
def az:T->Value->Prop
 | .int k n,v=>v= .int k n
 | .bool b,v=>v= .bool b
 | .str s,v=>v= .string s
 | .aa sz b xs,v=>(b=true/\xs= []/\v= .slice none 0 0)\/
   (b=false/\∃ah off sp cap,v= .slice (some ⟨ah,off,sp⟩) xs.length cap/\xs.length<=cap/\(xs= []\/(sp=none/\A ah))/\bx ah sz off xs)
 | .aC b,v=>(b=true/\v= .slice none 0 0)\/(b=false/\∃ah off sp,v= .slice (some ⟨ah,off,sp⟩) 0 0)
 | .ptr cs,v=>∃ah off,v= .pointer (some ⟨ah,off,none⟩)/\(cs= []\/A ah)/\bn ah off cs
 | .ax,v=>v= .pointer none
 | .zw,v=>v= .map none
 | .zu,v=>v= .nilFunc
 | .CS,v=>v= .nilIface
 | .cV f,v=>v= .func (.func f) #[] #[]
 | .any,v=>v.oneCell'=true/\v.cells= #[v]
def bx(ah sz:Nat):Nat->List (List T)->Prop
 | _,[]=>True
 | off,cs::xs=>cs.length=sz/\bn ah off cs/\bx ah sz (off+sz) xs
def bn(ah:Nat):Nat->List T->Prop
 | _,[]=>True
 | off,c::cs=>(∃v,w.cell? ⟨ah,off,none⟩=some v/\az c v)/\bn ah (off+1) cs
end
def ba:List T->List Value->Prop
 | [],vs=>vs= []
 | c::cs,vs=>∃v r,vs=v::r/\az w A c v/\ba cs r
end
section
variable {w w':World} {A A':Nat->Prop}
theorem oD{a:Addr}(h:w'.heap[a.block]? =w.heap[a.block]?):w'.cell? a=w.cell? a:=by simp [World.cell?,h]
mutual
theorem az.mono(h:∀b,A b->A' b/\w'.heap[b]? =w.heap[b]?):∀(t:T) (v:Value),az w A t v->az w' A' t v
 | .int k n,v,a=>by simpa [az] using a
 | .bool b,v,a=>by simpa [az] using a
 | .str s,v,a=>by simpa [az] using a
 | .aC b,v,a=>by simpa [az] using a
 | .ax,v,a=>by simpa [az] using a
 | .zw,v,a=>by simpa [az] using a
 | .zu,v,a=>by simpa [az] using a
 | .CS,v,a=>by simpa [az] using a
 | .cV f,v,a=>by simpa [az] using a
 | .any,v,a=>by simp only [az] at a⊢;exact a
 | .aa sz b xs,v,a=>by
  simp only [az] at a⊢;rcases a with a | ⟨j,ah,off,sp,cap,g,e,d,i⟩
  .exact .inl a
  .refine .inr ⟨j,ah,off,sp,cap,g,e, ?_, ?_⟩
   .rcases d with d | d
    .exact .inl d
    .exact .inr ⟨d.1,(h _ d.2).1⟩
   .rcases d with d | d
    .subst d;simp [bx]
    .exact bx.mono h ah sz d.2 off xs i
 | .ptr cs,v,a=>by
  simp only [az] at a⊢;obtain⟨ah,off,g,e,d⟩:=a;refine⟨ah,off,g, ?_, ?_⟩
  .rcases e with e | e
   .exact .inl e
   .exact .inr (h _ e).1
  .rcases e with e | e
   .subst e;simp [bn]
   .exact bn.mono h ah e off cs d
theorem bx.mono(h:∀b,A b->A' b/\w'.heap[b]? =w.heap[b]?)(ah sz:Nat)(d:A ah):∀(off:Nat) (xs:List (List T)),bx w A ah sz off xs->bx w' A' ah sz off xs
 | _,[],_=>by simp [bx]
 | off,cs::xs,a=>by simp only [bx] at a⊢;exact⟨a.1,bn.mono h ah d off cs a.2.1,bx.mono h ah sz d (off+sz) xs a.2.2⟩
theorem bn.mono(h:∀b,A b->A' b/\w'.heap[b]? =w.heap[b]?)(ah:Nat)(d:A ah):∀(off:Nat) (cs:List T),bn w A ah off cs->bn w' A' ah off cs
 | _,[],_=>by simp [bn]
 | off,c::cs,e=>by simp only [bn] at e⊢;obtain⟨⟨v,f,g⟩,a⟩:=e;exact⟨⟨v,by rw [oD (w:=w) (by exact(h ah d).2)];exact f,az.mono h c v g⟩,bn.mono h ah d (off+1) cs a⟩
end
theorem bn.oU(h:∀b,A b->A' b/\w'.heap[b]? =w.heap[b]?)(ah:Nat)(d:w'.heap[ah]? =w.heap[ah]?):∀(off:Nat) (cs:List T),bn w A ah off cs->bn w' A' ah off cs
 | _,[],_=>by simp [bn]
 | off,c::cs,e=>by simp only [bn] at e⊢;obtain⟨⟨v,f,g⟩,a⟩:=e;exact⟨⟨v,by rw [oD (w:=w) (by exact d)];exact f,az.mono h c v g⟩,bn.oU h ah d (off+1) cs a⟩
theorem bx.oU(h:∀b,A b->A' b/\w'.heap[b]? =w.heap[b]?)(ah sz:Nat)(d:w'.heap[ah]? =w.heap[ah]?):∀(off:Nat) (xs:List (List T)),bx w A ah sz off xs->bx w' A' ah sz off xs
 | _,[],_=>by simp [bx]
 | off,cs::xs,a=>by simp only [bx] at a⊢;exact⟨a.1,bn.oU h ah d off cs a.2.1,bx.oU h ah sz d (off+sz) xs a.2.2⟩
theorem ba.mono(h:∀b,A b->A' b/\w'.heap[b]? =w.heap[b]?):∀(cs:List T) (vs:List Value),ba w A cs vs->ba w' A' cs vs
 | [],_,f=>f
 | c::cs,vs,⟨v,r,e,a,d⟩=>⟨v,r,e,az.mono h c v a,ba.mono h cs r d⟩
theorem bx.get{ah sz:Nat}:∀{off:Nat} {xs:List (List T)},bx w A ah sz off xs->∀{k:Nat} {cs:List T},xs[k]? =some cs->cs.length=sz/\bn w A ah (off+k * sz) cs
 | off,cs::xs,h,0,a,e=>by simp only [bx] at h;simp at e;subst e;exact⟨h.1,by simpa using h.2.1⟩
 | off,cs::xs,h,k+1,a,e=>by
  simp only [bx] at h;have:=bx.get h.2.2 (k:=k) (cs:=a) (by simpa using e);refine⟨this.1, ?_⟩;have b:off+ (k+1) * sz=off+sz+k * sz:=by rw [Yb];omega
  rw [b];exact this.2
theorem bn.get{ah:Nat}:∀{off:Nat} {cs:List T},bn w A ah off cs->∀{k:Nat} {c:T},cs[k]? =some c->∃v,w.cell? ⟨ah,off+k,none⟩=some v/\az w A c v
 | off,c::cs,h,0,c',e=>by simp only [bn] at h;simp at e;subst e;exact h.1
 | off,c::cs,h,k+1,c',e=>by
  simp only [bn] at h;have:=bn.get h.2 (k:=k) (c:=c') (by simpa using e);have a:off+1+k=off+ (k+1):=by omega
  rw [a] at this;exact this
theorem bn.drop{ah:Nat}:∀{off:Nat} {cs:List T},bn w A ah off cs->∀(n:Nat),bn w A ah (off+n) (cs.drop n)
 | _,_,h,0=>by simpa using h
 | _,[],_,n+1=>by simp [bn]
 | off,c::cs,h,n+1=>by
  simp only [bn] at h;have:=bn.drop h.2 n;have a:off+1+n=off+ (n+1):=by omega
  rw [a] at this;simpa using this
theorem bx.drop{ah sz:Nat}:∀{off:Nat} {xs:List (List T)},bx w A ah sz off xs->∀(n:Nat),bx w A ah sz (off+n * sz) (xs.drop n)
 | _,_,h,0=>by simpa using h
 | _,[],_,n+1=>by simp [bx]
 | off,cs::xs,h,n+1=>by
  simp only [bx] at h;have:=bx.drop h.2.2 n;have a:off+sz+n * sz=off+ (n+1) * sz:=by rw [Yb];omega
  rw [a] at this;simpa using this
theorem bx.take{ah sz:Nat}:∀{off:Nat} {xs:List (List T)},bx w A ah sz off xs->∀(n:Nat),bx w A ah sz off (xs.take n)
 | _,_,_,0=>by simp [bx]
 | _,[],_,n+1=>by simp [bx]
 | off,cs::xs,h,n+1=>by simp only [bx] at h;simp only [ZB,bx];exact⟨h.1,h.2.1,bx.take h.2.2 n⟩
theorem bx.append{ah sz:Nat}:∀{off:Nat} {xs a:List (List T)},bx w A ah sz off xs->bx w A ah sz (off+xs.length * sz) a->bx w A ah sz off (xs++a)
 | off,[],a,_,h=>by simpa using h
 | off,cs::xs,a,h,h'=>by
  simp only [bx] at h;simp only [X7,bx];refine⟨h.1,h.2.1,bx.append h.2.2 ?_⟩;have b:off+sz+xs.length * sz=off+ (cs::xs).length * sz:=by simp [Yb];omega
  rw [b];exact h'
theorem az.sE{t:T}{v:Value}(h:az w A t v):v.oneCell'=true/\v.cells= #[v]:=by
 cases t <;> simp only [az] at h
 case aa=>rcases h with⟨_,_,rfl⟩ | ⟨_,_,_,_,_,rfl,_⟩ <;> exact⟨rfl,rfl⟩
 case aC=>rcases h with⟨_,rfl⟩ | ⟨_,_,_,_,rfl⟩ <;> exact⟨rfl,rfl⟩
 case ptr=>obtain⟨_,_,rfl,_⟩:=h;exact⟨rfl,rfl⟩
 case any=>exact h
 all_goals subst h;exact⟨rfl,rfl⟩
theorem ba.length:∀{cs:List T} {vs:List Value},ba w A cs vs->vs.length=cs.length
 | [],_,h=>by simp only [ba] at h;simp [h]
 | c::cs,vs,⟨v,r,e,_,h⟩=>by subst e;simp [ba.length h]
end
section
variable (w:World) (A:Nat->Prop) (ρ:Id->Option Value)
mutual
def an:AV->Value->Prop
 | .top,_=>True
 | .t x,v=>az w A x v
 | .nn vs,v=>∃d:List Value,v= .tuple d.toArray/\aD vs d
 | .agg vs,v=>∃d:List Value,v= .agg d.toArray/\aD vs d/\∀u∈d,u.oneCell'=true/\u.cells= #[u]
 | .ref i off,v=>∃b,ρ i=some (.pointer (some ⟨b,0,none⟩))/\v= .pointer (some ⟨b,off,none⟩)
 | .el i sz k off,v=>∃b o L cap,ρ i=some (.slice (some ⟨b,o,none⟩) L cap)/\v= .pointer (some ⟨b,o+k * sz+off,none⟩)
 | .own i,v=>ρ i=some v
 | .part i sz off n,v=>∃a L cap e,ρ i=some (.slice a L cap)/\off+n<=L/\L<=cap/\v= .slice e n (cap - off)/\
   ((off=0/\e=a)\/(off=cap/\(e=none↔a=none)/\True)\/∃b o,a=some ⟨b,o,none⟩/\e=some ⟨b,o+off * sz,none⟩)
 | .row i n,v=>ρ (.g i n)=some v
 | .rel i sz n k off,v=>∃b o L cap,ρ (.g i n)=some (.slice (some ⟨b,o,none⟩) L cap)/\v= .pointer (some ⟨b,o+k * sz+off,none⟩)
 | .fn f xs m,v=>∃j l:List Value,v= .func (.func f) j.toArray l.toArray/\aD xs j/\aD m l
def aD:List AV->List Value->Prop
 | [],vs=>vs= []
 | a::b,vs=>∃v r,vs=v::r/\an a v/\aD b r
end
end
section
variable {w w':World} {A A':Nat->Prop} {ρ ρ':Id->Option Value}
mutual
theorem an.mono(h:∀b,A b->A' b/\w'.heap[b]? =w.heap[b]?)(g:∀i v,ρ i=some v->ρ' i=some v):∀(a:AV) (v:Value),an w A ρ a v->an w' A' ρ' a v
 | .top,_,_=>by simp [an]
 | .t x,v,d=>by simp only [an] at d⊢;exact az.mono h x v d
 | .nn vs,v,d=>by simp only [an] at d⊢;obtain⟨l,e,j⟩:=d;exact⟨l,e,aD.mono h g vs l j⟩
 | .agg vs,v,d=>by simp only [an] at d⊢;obtain⟨l,e,j,y⟩:=d;exact⟨l,e,aD.mono h g vs l j,y⟩
 | .ref i off,v,d=>by simp only [an] at d⊢;obtain⟨b,e,j⟩:=d;exact⟨b,g _ _ e,j⟩
 | .el i sz k off,v,d=>by simp only [an] at d⊢;obtain⟨b,o,L,cap,e,j⟩:=d;exact⟨b,o,L,cap,g _ _ e,j⟩
 | .own i,v,d=>by simp only [an] at d⊢;exact g _ _ d
 | .part i sz off n,v,d=>by simp only [an] at d⊢;obtain⟨a,L,cap,q,e,j⟩:=d;exact⟨a,L,cap,q,g _ _ e,j⟩
 | .row i n,v,d=>by simp only [an] at d⊢;exact g _ _ d
 | .rel i sz n k off,v,d=>by simp only [an] at d⊢;obtain⟨b,o,L,cap,e,j⟩:=d;exact⟨b,o,L,cap,g _ _ e,j⟩
 | .fn f xs z,v,d=>by simp only [an] at d⊢;obtain⟨m,p,e,r,u⟩:=d;exact⟨m,p,e,aD.mono h g xs m r,aD.mono h g z p u⟩
theorem aD.mono(h:∀b,A b->A' b/\w'.heap[b]? =w.heap[b]?)(g:∀i v,ρ i=some v->ρ' i=some v):∀(d:List AV) (vs:List Value),aD w A ρ d vs->aD w' A' ρ' d vs
 | [],_,f=>by simpa [aD] using f
 | a::d,vs,f=>by simp only [aD] at f⊢;obtain⟨v,r,e,j,k⟩:=f;exact⟨v,r,e,an.mono h g a v j,aD.mono h g d r k⟩
end
theorem aD.length:∀{b:List AV} {vs:List Value},aD w A ρ b vs->vs.length=b.length
 | [],_,h=>by simp only [aD] at h;simp [h]
 | a::b,vs,h=>by simp only [aD] at h;obtain⟨v,r,e,_,h⟩:=h;subst e;simp [aD.length h]
theorem aD.get:∀{b:List AV} {vs:List Value},aD w A ρ b vs->∀{k:Nat} {a:AV},b[k]? =some a->∃v,vs[k]? =some v/\an w A ρ a v
 | a::b,vs,h,0,d,e=>by simp only [aD] at h;obtain⟨v,r,rfl,f,_⟩:=h;simp at e;subst e;exact⟨v,rfl,f⟩
 | a::b,vs,h,k+1,d,e=>by simp only [aD] at h;obtain⟨v,r,rfl,_,h⟩:=h;obtain⟨u,i,g⟩:=aD.get h (k:=k) (a:=d) (by simpa using e);exact⟨u,by simpa using i,g⟩
theorem aD.append:∀{b d:List AV} {vs us:List Value},aD w A ρ b vs->aD w A ρ d us->aD w A ρ (b++d) (vs++us)
 | [],_,_,_,h,h'=>by simp only [aD] at h;subst h;simpa using h'
 | a::b,d,vs,us,h,h'=>by simp only [aD] at h;obtain⟨v,r,rfl,e,h⟩:=h;simp only [X7,aD];exact⟨v,r++us,rfl,e,aD.append h h'⟩
theorem aD.drop:∀{b:List AV} {vs:List Value},aD w A ρ b vs->∀n,aD w A ρ (b.drop n) (vs.drop n)
 | _,_,h,0=>by simpa using h
 | [],vs,h,n+1=>by simp only [aD] at h;subst h;simp [aD]
 | a::b,vs,h,n+1=>by simp only [aD] at h;obtain⟨v,r,rfl,d,h⟩:=h;simpa using aD.drop h n
theorem aD.take:∀{b:List AV} {vs:List Value},aD w A ρ b vs->∀n,aD w A ρ (b.take n) (vs.take n)
 | _,_,_,0=>by simp [aD]
 | [],vs,h,n+1=>by simp only [aD] at h;subst h;simp [aD]
 | a::b,vs,h,n+1=>by simp only [aD] at h;obtain⟨v,r,rfl,d,h⟩:=h;simp only [ZB,aD];exact⟨v,r.take n,rfl,d,aD.take h n⟩
theorem aD.mP:∀{cs:List T} {vs:List Value},ba w A cs vs->aD w A ρ (cs.map .t) vs
 | [],_,h=>by simpa [aD,ba] using h
 | c::cs,vs,⟨v,r,e,a,b⟩=>by simp only [Xq,aD];exact⟨v,r,e,by simpa [an] using a,aD.mP b⟩
theorem ba.mg:∀{b:List AV} {cs:List T} {vs:List Value},ff b=some cs->aD w A ρ b vs->ba w A cs vs
 | [],cs,vs,h,d=>by simp only [ff,W5] at h;subst h;simpa [ba,aD] using d
 | a::b,cs,vs,h,d=>by
  cases a <;> simp only [ff,reduceCtorEq] at h
  case t x=>
   cases hl:ff b with
   | none=>simp [hl] at h
   | some l=>simp only [hl,Xb,W5] at h;subst h;simp only [aD,an] at d;obtain⟨v,r,e,f,g⟩:=d;exact⟨v,r,e,f,ba.mg hl g⟩
end
open Go
section
variable {R S α:Type}
theorem cb[Inhabited α](c:Option Bool)(m:Option α)(k:α->Option R)(f:R->Option S):(ab c m k).bind f=ab c m λa=>(k a).bind f:=by
 unfold ab;cases m with
 | some a=>rfl
 | none=>cases c with
  | none=>rfl
  | some b=>cases b <;> rfl
theorem aW[Inhabited α]{c:Option Bool}{m:Option α}{k:α->Option R}{r:R}(h:ab c m k=some r)(b:c=none\/c=some true):∃a,m=some a/\k a=some r:=by
 unfold ab at h;cases m with
 | some a=>exact⟨a,rfl,h⟩
 | none=>rcases b with rfl | rfl <;> simp at h
theorem mF(c:Bool)(x y:Option R)(f:R->Option S):(cond c x y).bind f=cond c (x.bind f) (y.bind f):=by cases c <;> rfl
theorem dh(c:Prop)[Decidable c](x y:Option R)(f:R->Option S):(if c then x else y).bind f=if c then x.bind f else y.bind f:=by split <;> rfl
theorem bU(f:R->Option S):(none:Option R).bind f=none:=rfl
theorem DR(c:Option Bool):∀(n:Nat) (cs:List T) (K:List T->Option R) (f:R->Option S),(qS c n cs K).bind f=qS c n cs λx=>(K x).bind f
 | 0,_,_,_=>rfl
 | n+1,cs,K,f=>by simp only [qS,cb,DR c n]
theorem px(k:Ck)(c:Option Bool)(x:T)(K:T->Option R)(f:R->Option S):(fX k c x K).bind f=fX k c x λx=>(K x).bind f:=by unfold fX;cases k <;> simp only [cb]
theorem uS(c:Option Bool):∀(ks:List Ck) (xs:List T) (K:List T->Option R) (f:R->Option S),(fJ c ks xs K).bind f=fJ c ks xs λx=>(K x).bind f
 | [],_,_,_=>rfl
 | _::_,[],_,_=>rfl
 | k::ks,x::xs,K,f=>by simp only [fJ,px,uS c ks xs]
theorem Mt(op:BinOp)(k:IntKind)(c:Option Bool)(x y:T)(K:T->Option R)(f:R->Option S):(tm op k c x y K).bind f=tm op k c x y λx=>(K x).bind f:=by unfold tm;cases op <;> simp only [cb,bU]
theorem UW(op:BinOp)(k ky:IntKind)(c:Option Bool)(x y:T)(K:T->Option R)(f:R->Option S):(uK op k ky c x y K).bind f=uK op k ky c x y λx=>(K x).bind f:=by unfold uK;cases op <;> simp only [cb,bU]
theorem Vk(op:BinOp)(c:Option Bool)(x y:T)(K:T->Option R)(f:R->Option S):(uP op c x y K).bind f=uP op c x y λx=>(K x).bind f:=by unfold uP;cases op <;> simp only [cb,bU]
theorem G5(P:Program)(c:Option Bool)(t:TypeId)(x y:T)(K:Bool->Option R)(f:R->Option S):(mI P c t x y K).bind f=mI P c t x y λx=>(K x).bind f:=by unfold mI;split <;> simp only [cb,bU]
theorem G6(P:Program)(c:Option Bool):∀(ts:List TypeId) (xs a:List T) (K:Bool->Option R) (f:R->Option S),(fp P c ts xs a K).bind f=fp P c ts xs a λx=>(K x).bind f
 | [],[],[],_,_=>rfl
 | t::ts,x::xs,y::a,K,f=>by simp only [fp,G5,G6 P c ts xs a]
 | [],[],_::_,_,_=>rfl
 | [],_::_,_,_,_=>rfl
 | _::_,[],_,_,_=>rfl
 | _::_,_::_,[],_,_=>rfl
theorem MC(P:Program)(op:BinOp)(t ty:TypeId)(c:Option Bool)(x y:T)(K:T->Option R)(f:R->Option S):(tp P op t ty c x y K).bind f=tp P op t ty c x y λx=>(K x).bind f:=by unfold tp;cases op <;> simp only [] <;> first | rfl | (split <;> simp only [Mt,UW,Vk,bU])
theorem PL(P:Program)(c:Option Bool)(t:TypeId)(x y:AV)(K:Bool->Option R)(f:R->Option S):(rV P c t x y K).bind f=rV P c t x y λx=>(K x).bind f:=by unfold rV;split <;> simp only [mF,cb,G5,G6,Xt,bU]
theorem VH(P:Program)(op:UnOp)(t:TypeId)(c:Option Bool)(x:T)(K:T->Option R)(f:R->Option S):(uT P op t c x K).bind f=uT P op t c x λx=>(K x).bind f:=by unfold uT;split <;> simp only [cb,bU]
theorem wG(P:Program)(t:TypeId)(c:Option Bool)(cs:List T)(K:AV->Option R)(f:R->Option S):(me P t c cs K).bind f=me P t c cs λx=>(K x).bind f:=by unfold me;simp only [mF,cb,DR,px,uS]
theorem IE(P:Program)(t:TypeId)(cs:List AV)(K:AV->Option R)(f:R->Option S):(nW P t cs K).bind f=nW P t cs λx=>(K x).bind f:=by unfold nW;simp only [mF,Xt]
theorem Dk(h:Id->Option ad)(c:Option Bool)(i:Id)(n:Nat)(K:Nat->Bool->List (List T)->Option R)(f:R->Option S):(mY h c i n K).bind f=mY h c i n λa b l=>(K a b l).bind f:=by unfold mY;split <;> simp only [cb,bU]
theorem QI(P:Program)(t:TypeId)(c:Option Bool)(i:Id)(sz col off:Nat)(e:Row)(K:AV->Option R)(f:R->Option S):(ug P t c i sz col off e K).bind f=ug P t c i sz col off e λx=>(K x).bind f:=by unfold ug;simp only [mF,dh,cb,DR,px,uS,bU]
theorem QH(P:Program)(s:St)(c:Option Bool)(t:TypeId)(a:AV)(K:AV->Option R)(f:R->Option S):(iz P s c t a K).bind f=iz P s c t a λx=>(K x).bind f:=by
 unfold iz;rw [mF];congr 1;split
 .split <;> simp only [IE,wG,bU]
 .split <;> simp only [dh,cb,wG,QI,bU]
 .simp only [Dk,dh,cb,wG,bU]
 .simp only [cb,wG]
 .rfl
theorem Vh(P:Program)(s:St)(t:TypeId)(a v:AV)(K:aK->Option R)(f:R->Option S):(jW P s t a v K).bind f=jW P s t a v λx=>(K x).bind f:=by
 unfold jW;rw [mF];congr 1;split
 .split <;> simp only [dh,bU]
 .split
  .simp only [Xt,dh,cb,bU]
  .split
   .split <;> simp only [dh,cb,bU]
   .rfl
  .rfl
 .split <;> simp only [Xt,dh,cb,bU]
 .rfl
theorem r9(c:Option Bool)(i:Int)(n:Nat)(K:Option R)(f:R->Option S):(lF c i n K).bind f=lF c i n (K.bind f):=by unfold lF;simp only [cb]
theorem Ql(P:Program)(s:St)(c:Option Bool)(t:TypeId)(x:AV)(i:Int)(K:AV->Option R)(f:R->Option S):(kE P s c t x i K).bind f=kE P s c t x i λx=>(K x).bind f:=by
 unfold kE;split
 .split
  .split <;> simp only [dh,r9,bU]
  .simp only [Dk,dh,r9,bU]
  .split <;> simp only [dh,r9,bU]
  .simp only [cb,r9]
  .rfl
 .split
  .rw [r9];congr 1;split <;> simp only [cb,bU]
  .rfl
theorem P0(P:Program)(c:Option Bool)(t:TypeId)(x:AV)(k:Nat)(K:AV->Option R)(f:R->Option S):(tU P c t x k K).bind f=tU P c t x k λx=>(K x).bind f:=by
 unfold tU;split
 .rw [dh];congr 1;split <;> simp only [cb,bU]
 .rfl
theorem PY(P:Program)(t:TypeId)(x:AV)(k:Nat)(K:AV->Option R)(f:R->Option S):(tT P t x k K).bind f=tT P t x k λx=>(K x).bind f:=by
 unfold tT;split
 .split <;> simp only [IE,bU]
 .rfl
theorem Qw(P:Program)(s:St)(c:Option Bool)(t:TypeId)(x:AV)(K:AV->Option R)(f:R->Option S):(oR P s c t x K).bind f=oR P s c t x λx=>(K x).bind f:=by
 unfold oR;split
 .split <;> simp only [cb,bU]
 .rfl
 .split
  .split <;> rfl
  .simp only [Dk]
  .rfl
  .simp only [cb]
  .rfl
 .rfl
theorem MP(s:St)(c:Option Bool)(g:Option Gs)(o:Option Operand)(K:Option Int->Option R)(f:R->Option S):(jJ s c g o K).bind f=jJ s c g o λx=>(K x).bind f:=by
 unfold jJ;split
 .rfl
 .simp only [Xt,cb]
theorem U1(P:Program)(s:St)(c:Option Bool)(t:TypeId)(x:AV)(b a d:Option Int)(K:AV->Option R)(f:R->Option S):(pn P s c t x b a d K).bind f=pn P s c t x b a d λx=>(K x).bind f:=by
 unfold pn;split
 .split <;> simp only [cb,bU]
 .split
  .split
   .split <;> simp only [dh,cb,bU]
   .split <;> simp only [dh,cb,bU]
   .simp only [dh,cb,bU]
   .rfl
  .split
   .simp only [dh,cb,bU]
   .split <;> simp only [dh,cb,bU]
   .rfl
 .rfl
theorem Mo(P:Program)(s:St)(t:TypeId)(sz:Nat)(a:List T)(y:AV)(K:List (List T)->Option R)(f:R->Option S):(nv P s t sz a y K).bind f=nv P s t sz a y λx=>(K x).bind f:=by unfold nv;split <;> simp only [Xt,dh,cb,bU]
theorem Mj(P:Program)(s:St)(d:Nat)(e:TypeId)(i:Id)(sz col rsz a:Nat)(es:List Row)(j:Id)(cs:List AV)(K:AV->aK->Option R)(f:R->Option S):(rI P s d e i sz col rsz a es j cs K).bind f=rI P s d e i sz col rsz a es j cs λv u=>(K v u).bind f:=by
 unfold rI;rw [dh];congr 1;rw [Xt];congr 1;funext l;split
 .split <;> simp only [dh,cb,bU]
 .split <;> simp only [dh,cb,bU]
 .rfl
theorem Mh(P:Program)(s:St)(d:Nat)(rw:Bool)(t ty:TypeId)(x y:AV)(K:AV->aK->Option R)(f:R->Option S):(lZ P s d rw t ty x y K).bind f=lZ P s d rw t ty x y λv u=>(K v u).bind f:=by
 unfold lZ;rw [Xt];congr 1;funext e;rw [Xt];congr 1;funext b;rw [dh];congr 1;split
 .split <;> simp only [Mj,bU]
 .rw [Mo];congr 1;funext a;split
  .split <;> simp only [dh,cb,bU]
  .split <;> simp only [dh,cb,bU]
  .simp only [Xt,cb]
  .rfl
theorem QS(P:Program)(d:Nat)(t:TypeId)(ns:Nat)(n m:T)(K:AV->aK->Option R)(f:R->Option S):(uk P d t ns n m K).bind f=uk P d t ns n m λv u=>(K v u).bind f:=by unfold uk;rw [Xt];congr 1;funext e;rw [Xt];congr 1;funext a;rw [cb];congr 1;funext n;rw [cb];congr 1;funext m;rw [dh];congr 1;rw [cb];congr 1;funext _;rw [mF];congr 1;split <;> simp only [dh,bU]
theorem Ct(P:Program)(k:TypeId)(c:Option Bool)(v:AV)(K:Bool->List Ck->List T->Option R)(f:R->Option S):(qx P k c v K).bind f=qx P k c v λa b l=>(K a b l).bind f:=by unfold qx;rw [Xt];congr 1;funext q;split <;> simp only [uS,Xt,dh,bU]
theorem QP(P:Program)(s:St)(c:Option Bool)(t:TypeId)(x k:AV)(ok:Bool)(K:AV->Option R)(f:R->Option S):(oS P s c t x k ok K).bind f=oS P s c t x k ok λv=>(K v).bind f:=by
 unfold oS;rw [Xt];congr 1;funext q;rw [Xt];congr 1;funext z;rw [Ct];congr 1;funext a b l;split
 .split
  .rw [dh];simp only [px,bU]
  .rfl
 .rfl
theorem QU(P:Program)(d:Nat)(t:TypeId)(K:AV->aK->Option R)(f:R->Option S):(um P d t K).bind f=um P d t λv u=>(K v u).bind f:=by unfold um;simp only [Xt,dh,bU]
theorem Np(P:Program)(s:St)(t:TypeId)(x k:AV)(K:aK->Option R)(f:R->Option S):(oE P s t x k K).bind f=oE P s t x k λu=>(K u).bind f:=by
 unfold oE;rw [Xt];congr 1;funext q;rw [Ct];congr 1;funext a b l;split
 .split
  .rw [dh];rfl
  .rfl
 .rfl
theorem S5(P:Program)(s:St)(t:TypeId)(x k v:AV)(K:aK->Option R)(f:R->Option S):(o7 P s t x k v K).bind f=o7 P s t x k v λu=>(K u).bind f:=by
 unfold o7;rw [Xt];congr 1;funext q;rw [Ct];congr 1;funext a b l;split
 .split
  .rw [dh];simp only [Xt,px,bU]
  .rfl
 .rfl
theorem CM(k:IntKind)(c:Option Bool)(b:Bool):∀(l:List T) (a:Int) (K:T->Option R) (f:R->Option S),(qC k c b a l K).bind f=qC k c b a l λx=>(K x).bind f
 | [],_,_,_=>rfl
 | y::r,a,K,f=>by simp only [qC,cb,CM k c b r]
theorem Nc(P:Program)(c:Option Bool)(a b:TypeId)(x:T)(K:T->Option R)(f:R->Option S):(tB P c a b x K).bind f=tB P c a b x λx=>(K x).bind f:=by unfold tB;split <;> simp only [cb,bU]
theorem Fq(ids:List Id)(d:Nat)(c:Option Bool)(j:Nat)(r:cH)(x:T)(K:AV->aK->Nat->Option R)(f:R->Option S):(nI ids d c j r x K).bind f=nI ids d c j r x λv u j=>(K v u j).bind f:=by
 unfold nI;split
 .exact px _ _ _ _ _
 .exact px _ _ _ _ _
 .split <;> simp only [cb,bU]
 .split <;> simp only [bU]
 .split <;> simp only [bU]
 .split <;> simp only [cb,bU]
 .split <;> simp only [cb,bU]
 .rfl
 .rfl
 .rfl
theorem yu(ids:List Id)(d:Nat)(c:Option Bool):∀(rs:List cH) (j:Nat) (xs:List T) (K:List AV->aK->Nat->Option R) (f:R->Option S),(lB ids d c j rs xs K).bind f=lB ids d c j rs xs λv u j=>(K v u j).bind f
 | [],_,_,_,_=>rfl
 | r::rs,j,xs,K,f=>by simp only [lB,cb,Fq,yu ids d c rs]
theorem rP(ids:List Id)(d:Nat)(c:Option Bool):∀(rs:List cH) (j:Nat) (xs:List T) (K:List AV->aK->Nat->Option R) (f:R->Option S),(eT ids d c j rs xs K).bind f=eT ids d c j rs xs λv u j=>(K v u j).bind f
 | [],_,_,_,_=>rfl
 | r::rs,j,xs,K,f=>by
  cases r
  case new l=>cases c <;> simp only [eT,yu,rP ids d _ rs,bU]
  all_goals simp only [eT,cb,Fq,yu,rP ids d c rs]
theorem yw(all:List Id)(d:Nat):∀(rs:List kO) (a:List Id) (j:Nat) (xs:List T) (K:aK->Option R) (f:R->Option S),(gX all d j a rs xs K).bind f=gX all d j a rs xs λu=>(K u).bind f
 | [],[],_,_,_,_=>rfl
 | [],_::_,_,_,_,_=>rfl
 | r::rs,[],_,_,_,_=>by cases r <;> rfl
 | r::rs,i::a,j,xs,K,f=>by cases r <;> simp only [gX,cb,yu,yw all d rs]
theorem Vx(P:Program)(c:Option Bool)(t:TypeId)(v:AV)(K:AV->Option R)(f:R->Option S):(oe P c t v K).bind f=oe P c t v λx=>(K x).bind f:=by
 unfold oe;split
 .exact px _ _ _ _ _
 .split
  .exact uS _ _ _ _ _
  .rfl
 .rfl
theorem DX(P:Program)(c:Option Bool):∀(ts:List TypeId) (vs:List AV) (K:List AV->Option R) (f:R->Option S),(jY P c ts vs K).bind f=jY P c ts vs λx=>(K x).bind f
 | [],_,_,_=>rfl
 | _::_,[],_,_=>rfl
 | t::ts,v::vs,K,f=>by simp only [jY,Vx,DX P c ts vs]
theorem E7(P:Program)(A:cW)(O:aq)(s:St)(d:Nat)(c:Option Bool)(g:FuncId)(args:List AV)(K:AV->aK->Option R)(f:R->Option S):
  (im P A O s d c g args K).bind f=im P A O s d c g args λv u=>(K v u).bind f:=by
 unfold im;split
 .rfl
 .split
  .simp only [Xt,cb,rP,DX]
  .split
   .rfl
   .simp only [Xt,mF,bU,cb,rP,yw,DX]
theorem MA(h:Id->Option ad)(i new:Id)(n rsz:Nat)(K:aK->Option R)(f:R->Option S):(vB h i new n rsz K).bind f=vB h i new n rsz λu=>(K u).bind f:=by
 unfold vB;split
 .rw [dh];simp only [cb,bU]
 .rfl
theorem Th(P:Program)(s:St)(e:TypeId)(d:Nat)(c:Option Bool)(v:AV)(K:AV->aK->Option R)(f:R->Option S):(pf P s e d c v K).bind f=pf P s e d c v λv u=>(K v u).bind f:=by
 unfold pf;split
 .split
  .split
   .rw [cb];congr 1;funext p;rw [Xt];congr 1;funext l;rw [dh];rfl
   .rfl
  .rfl
 .rfl
theorem M4(iO:Bool)(P:Program)(A:cW)(O:aq)(s:St)(d:Nat)(c:Option Bool)(g:FuncId)(args:List AV)(K:AV->aK->Option R)(f:R->Option S):
  (kx iO P A O s d c g args K).bind f=kx iO P A O s d c g args λv u=>(K v u).bind f:=by
 unfold kx;split
 .exact E7 _ _ _ _ _ _ _ _ _ _
 .split
  .simp only [cb,mF,E7,MA,bU]
  .rfl
theorem HO(c:Option Bool)(v:AV)(K:Int->Option R)(f:R->Option S):(qu c v K).bind f=qu c v λx=>(K x).bind f:=by unfold qu;simp only [Xt,cb]
theorem AP(P:Program)(A:cW)(O:aq)(g:Option Gs)(o:Oper)(s:St)(K:AV->aK->Option R)(f:R->Option S):
  (jF P A O g o s K).bind f=jF P A O g o s λv u=>(K v u).bind f:=by
 unfold jF;cases o.op <;> dsimp only
 case pick=>simp only [Xt,cb]
 case alloc=>split <;> simp only [Xt,bU]
 case box=>split <;> simp only [dh,bU]
 case build=>simp only [Xt]
 case buildSlice=>
  rw [Xt];congr 1;funext e;rw [dh];congr 1
  .split <;> simp only [dh,bU]
  rw [dh];congr 1
  .split <;> simp only [Th,bU]
  rw [dh];congr 1;rw [dh];congr 1;rw [Xt];congr 1;funext q;split <;> rfl
 case load=>simp only [QH]
 case store=>split <;> simp only [Vh,bU]
 case nilCheck=>split <;> simp only [cb,bU]
 case binOp=>split <;> simp only [Xt,PL,MC]
 case unOp=>simp only [Xt,VH]
 case convert=>
  split
  .split <;> simp only [Xt,cb,bU]
  .simp only [Xt,Nc]
 case makeFunc=>split <;> simp_all
 case makeSlice=>split <;> simp only [Xt,QS,bU]
 case makeMap=>split <;> simp only [QU,bU]
 case lookup=>simp only [QP]
 case mapUpdate=>split <;> simp only [S5,bU]
 case slice=>simp only [MP,U1]
 case fieldAddr=>simp only [P0]
 case field=>simp only [PY]
 case indexAddr=>simp only [HO,Ql]
 case index=>
  simp only [HO];congr 1;funext n;split
  .simp only [Xt,cb,r9]
  .split <;> simp only [mF,Xt,r9,wG,bU]
  .rfl
 case extract=>split <;> simp only [Xt,bU]
 case call cl=>
  split
  .split <;> simp only [Qw,bU]
  .split <;> simp only [Mh,bU]
  .split
   .rw [Xt];congr 1;funext l;split <;> simp only [cb,CM,bU]
   .rfl
  .split
   .rw [Xt];congr 1;funext l;split <;> simp only [cb,CM,bU]
   .rfl
  .split <;> simp only [Np,bU]
  ·(repeat' split) <;> simp only [mF,bU]
  .split <;> simp only [M4,bU]
  .rfl
 all_goals rfl
def dt(P:Program)(A:cW)(O:aq)(g:Option Gs)(o:Oper)(s:St):Option (AV×aK):=jF P A O g o s λv u=>some (v,u)
theorem th(P:Program)(A:cW)(O:aq)(g:Option Gs)(o:Oper)(s:St)(K:AV->aK->Option R):jF P A O g o s K= (dt P A O g o s).bind λp=>K p.1 p.2:=by unfold dt;rw [AP];rfl
theorem HJ(a:Array Oper)(o:Oper)(s:St)(K:Option Gs->Option R)(f:R->Option S):(dN a o s K).bind f=dN a o s λg=>(K g).bind f:=by
 unfold dN;split
 .rfl
 .split
  .rfl
  .simp only [Xt,cb]
theorem yZ(a:Array Oper)(o:Oper)(s:St)(K:Option Gs->Option R):dN a o s K= (dN a o s some).bind K:=by rw [HJ];rfl
def nT:List AV->List AV->Bool
 | [],[]=>true
 | c::r,c'::a=>match wm c c' with
  | none=>false
  | some none=>nT r a
  | some (some p)=>decide (p.1=p.2) && nT r a
 | _,_=>false
theorem Fi(K:Option R)(a b:Bool):cond a (cond b K none) none=cond (a && b) K none:=by cases a <;> rfl
theorem Qb(p:Prop)[Decidable p](X:Option R):ab none (if p then some () else none) (λ_=>X)=cond (decide p) X none:=by by_cases h:p <;> simp [h,ab]
theorem Ie(K:Option R):∀l l':List AV,wu l l' K=cond (nT l l') K none
 | [],[]=>rfl
 | [],_::_=>rfl
 | _::_,[]=>rfl
 | c::r,c'::b=>by
  have a:=Ie K r b;unfold wu nT;cases wm c c' with
  | none=>rfl
  | some q=>
   cases q with
   | none=>exact a
   | some p=>dsimp only;rw [a,Qb,Fi]
def ma(h h':Id->Option ad):aK->Bool
 | []=>true
 | p::us=>match wo (h p.1) (h' p.1) with
  | none=>false
  | some none=>ma h h' us
  | some (some q)=>nT q.1 q.2 && ma h h' us
theorem Ij(h h':Id->Option ad)(K:Option R):∀us:aK,wz h h' us K=cond (ma h h' us) K none
 | []=>rfl
 | p::us=>by
  have a:=Ij h h' K us;unfold wz ma;cases wo (h p.1) (h' p.1) with
  | none=>rfl
  | some q=>
   cases q with
   | none=>exact a
   | some q=>dsimp only;rw [Ie,a,Fi]
def kH(A:cW)(a:Bool)(o:Oper)(h:Id->Option ad)(us:aK):Bool:= !(a && A.tz o.dst o.type) || ma h (aR h us) us
theorem wq(A:cW)(a:Bool)(o:Oper)(h:Id->Option ad)(us:aK)(K:Option R):Co A a o h us K=cond (kH A a o h us) K none:=by unfold Co kH;rw [Ij];cases(a && A.tz o.dst o.type) <;> rfl
def fU(P:Program)(A:cW)(O:aq)(a:Bool)(nt:Nat)(b:Array Oper)(o:Oper)(s:St):Option St:=qK P A O a nt b o s some
theorem SJ(P:Program)(A:cW)(O:aq)(a:Bool)(nt:Nat)(b:Array Oper)(o:Oper)(s:St)(K:St->Option R):qK P A O a nt b o s K= (fU P A O a nt b o s).bind K:=by
 unfold fU qK;rw [HJ];congr 1;funext g;cases sR A a o g with
 | none=>
  dsimp only;rw [AP];congr 1;funext v u;rw [wq,wq];cases kH A a o s.h u with
  | false=>rfl
  | true=>simp only [cond_true];rw [dh];rfl
 | some d=>
  dsimp only;cases yx nt o d with
  | false=>rfl
  | true=>
   cases d.c with
   | false=>rfl
   | true=>simp only [cond_true];rw [AP];congr 1;funext v u;rw [dh];rfl
def jT(P:Program)(A:cW)(O:aq)(a:Bool)(nt:Nat)(b:Array Oper):List Oper->St->Option St
 | [],s=>some s
 | o::r,s=>(fU P A O a nt b o s).bind (jT P A O a nt b r)
theorem Di(P:Program)(A:cW)(O:aq)(a:Bool)(nt:Nat)(b:Array Oper):∀(l:List Oper) (s:St) (K:St->Option R),xd P A O a nt b l s K= (jT P A O a nt b l s).bind K
 | [],_,_=>rfl
 | o::r,s,K=>by simp only [xd,jT,SJ,Xt];congr 1;funext s';exact Di P A O a nt b r s' K
end
open Go
def tZ(w:World):Prop:=Lib.TabIs Go.Proofs.Tryz.prog w "internal/strconv.uint64pow10" .u64 Lib.pow10Tab
def qo:Nat:=3
theorem Qe:Go.Proofs.Tryz.prog.globalNamed "internal/strconv.uint64pow10" =some 0:=by kernel_rfl
theorem B7{w w':World}(a:∀b,b < qo->w'.heap[b]? =w.heap[b]?)(h:tZ w):tZ w':=by unfold tZ Lib.TabIs World.var? at h⊢;rw [Qe,Xb] at h⊢;rw [a 0 (by decide)];exact h
def GlobOk(w:World):Prop:=tZ w/\qo<=w.heap.size
open Go
structure Ctx where
 A0:Nat->Prop
 M:Nat->Prop
 N0:Nat
def Ctx.MO(c:Ctx)(b:Nat):Prop:=c.M b\/c.N0<=b
def AA(c:Ctx)(w:World)(O:Id->Option Nat)(b:Nat):Prop:=(c.A0 b\/c.MO b)/\b < w.heap.size/\∀i,O i≠some b
def dr(w:World)(A:Nat->Prop)(sz:Nat)(b:Bool)(l:List (List T))(v:Value)(Q:Nat->Prop):Prop:=
 ∃a cap,v= .slice a l.length cap/\l.length<=cap/\(a=none↔b=true)/\True/\
  (cap=0\/∃ah off arr t,a=some ⟨ah,off,none⟩/\Q ah/\w.heap[ah]? =some (.cells arr t (0,0))/\off+cap * sz<=arr.size/\bx w A ah sz off l)
def jD(w:World)(A:Nat->Prop)(ρ:Id->Option Value)(O:Id->Option Nat)(i:Id)(ah sz col rsz base:Nat)(e:Row):Prop:=
 e.cs.length=sz/\col < sz/\(∀j x,j≠col->e.cs[j]? =some x->∃v,w.cell? ⟨ah,base+j,none⟩=some v/\az w A x v)/\
 ∃v,w.cell? ⟨ah,base+col,none⟩=some v/\ρ (.g i e.n)=some v/\
  match e.own with
  | some p=>dr w A rsz p.1 p.2 v (λb=>O (.g i e.n)=some b)
  | none=>O (.g i e.n)=none
def cL(w:World)(A:Nat->Prop)(ρ:Id->Option Value)(O:Id->Option Nat)(i:Id)(ah sz col rsz:Nat):Nat->List Row->Prop
 | _,[]=>True
 | base,e::es=>jD w A ρ O i ah sz col rsz base e/\cL w A ρ O i ah sz col rsz (base+sz) es
def pU(ρ:Id->Option Value)(O:Id->Option Nat)(i:Id)(a:Nat)(es:List Row):Prop:=
 (es.map (·.n)).Nodup/\(∀e∈es,e.n < a)/\(∀n,a<=n->ρ (.g i n)=none)/\∀n b,O (.g i n)=some b->∃e∈es,e.n=n
def dF(w:World)(A:Nat->Prop)(ρ:Id->Option Value)(O:Id->Option Nat)(i:Id):ad->Prop
 | .box cs=>∃b arr t,ρ i=some (.pointer (some ⟨b,0,none⟩))/\O i=some b/\w.heap[b]? =some (.cells arr t (0,0))/\aD w A ρ cs arr.toList/\
   (∀u∈arr.toList,u.oneCell'=true/\u.cells= #[u])
 | .sl fz sz b l=>∃v,ρ i=some v/\dr w A sz b l v (λah=>if fz=true then A ah else O i=some ah)/\(fz=true->O i=none)
 | .gf l=>∃b,ρ i=some (.pointer (some ⟨b,0,none⟩))/\O i=none/\A b/\bn w A b 0 l
 | .arr cs=>∃b arr t,ρ i=some (.slice (some ⟨b,0,none⟩) 1 1)/\O i=some b/\w.heap[b]? =some (.cells arr t (0,0))/\aD w A ρ cs arr.toList/\
   (∀u∈arr.toList,u.oneCell'=true/\u.cells= #[u])
 | .mp ag ks vk es=>∃b d f,ρ i=some (.map (some b))/\O i=some b/\w.heap[b]? =some (.map d f)/\
   d.toList.map (λe=>(e.key,e.val))=es.map (λp=>(dP ag p.1,eF p.2))/\(es.all λp=>cI ks p.1 && eQ vk p.2)=true
 | .rows b sz col rsz g es=>∃a cap,ρ i=some (.slice a es.length cap)/\es.length<=cap/\(a=none↔b=true)/\pU ρ O i g es/\
   (cap=0\/∃ah off arr t,a=some ⟨ah,off,none⟩/\O i=some ah/\w.heap[ah]? =some (.cells arr t (0,0))/\off+cap * sz<=arr.size/\cL w A ρ O i ah sz col rsz off es)
 | .dead=>(∃v,ρ i=some v/\v.oneCell'=true/\v.cells= #[v])/\O i=none
structure HS (c:Ctx) (w:World) (h:Id->Option ad) (ρ:Id->Option Value) (O:Id->Option Nat):Prop where
 ah:∀i b,h i=some b->dF w (AA c w O) ρ O i b
 cO:∀i,i.real=true->h i=none->ρ i=none/\O i=none
 eP:∀i n,h (.g i n)=none
 gG:∀i n,h i=none->ρ (.g i n)=none/\O (.g i n)=none
 gone:∀i n u,ρ (.g i n)=some u->u.oneCell'=true/\u.cells= #[u]
 inj:∀i j b,O i=some b->O j=some b->i=j
 lt:∀i b,O i=some b->b < w.heap.size
 own:∀i b,O i=some b->c.MO b
 size:c.N0<=w.heap.size
 glob:tZ w/\qo<=c.N0/\∀b,b < qo->¬c.M b
structure Le (w:World) (ρ:Id->Option Value) (O:Id->Option Nat) (w':World) (ρ':Id->Option Value) (O':Id->Option Nat):Prop where
 os:w'.os=w.os
 output:w'.output=w.output
 tape:w'.tape=w.tape
 size:w.heap.size<=w'.heap.size
 fu:∀i v,ρ i=some v->ρ' i=some v
 ah:∀b,b < w.heap.size->(∀i,O i≠some b)->w'.heap[b]? =w.heap[b]?
 own:∀i b,O' i=some b->(∃j,O j=some b)\/w.heap.size<=b
section
variable {c:Ctx} {w w' w'':World} {h h':Id->Option ad} {ρ ρ' ρ'':Id->Option Value} {O O' O'':Id->Option Nat}
theorem Le.refl:Le w ρ O w ρ O:=⟨rfl,rfl,rfl,Xr _,λ_ _ h=>h,λ_ _ _=>rfl,λi b h=> .inl ⟨i,h⟩⟩
theorem Le.trans(a:Le w ρ O w' ρ' O')(b:Le w' ρ' O' w'' ρ'' O''):Le w ρ O w'' ρ'' O'' where
 os:=b.os.trans a.os
 output:=b.output.trans a.output
 tape:=b.tape.trans a.tape
 size:=X2 a.size b.size
 fu i v h:=b.fu i v (a.fu i v h)
 ah k hk hn:=by
  rw [b.ah k (X5 hk a.size),a.ah k hk hn];intro i hi;rcases a.own i k hi with⟨j,hj⟩ | h
  .exact hn j hj
  .omega
 own i k hi:=by
  rcases b.own i k hi with⟨j,hj⟩ | h
  .exact a.own j k hj
  .exact .inr (X2 a.size h)
theorem Le.A(le:Le w ρ O w' ρ' O')(b:Nat)(a:AA c w O b):AA c w' O' b/\w'.heap[b]? =w.heap[b]?:=by
 refine⟨⟨a.1,X5 a.2.1 le.size,λi d=> ?_⟩,le.ah b a.2.1 a.2.2⟩;rcases le.own i b d with⟨j,e⟩ | h
 .exact a.2.2 j e
 .have:=a.2.1;omega
theorem dr.mono{A A' Q g:Nat->Prop}{sz:Nat}{b:Bool}{l:List (List T)}{v:Value}(q:∀b,A b->A' b/\w'.heap[b]? =w.heap[b]?)
  (f:∀b,Q b->g b/\w'.heap[b]? =w.heap[b]?) (hs:dr w A sz b l v Q):dr w' A' sz b l v g:=by
 obtain⟨a,cap,m,n,o,p,e⟩:=hs;refine⟨a,cap,m,n,o,p, ?_⟩;rcases e with e | ⟨ah,off,arr,t,i,d,e3,j,k⟩
 .exact .inl e
 .exact .inr ⟨ah,off,arr,t,i,(f _ d).1,by rw [(f _ d).2];exact e3,j,bx.oU q ah sz (f _ d).2 off l k⟩
def sX(i:Id)(w:World)(ρ:Id->Option Value)(O:Id->Option Nat)(w':World)(ρ':Id->Option Value)(O':Id->Option Nat):Prop:=
 ∀n,ρ' (.g i n)=ρ (.g i n)/\O' (.g i n)=O (.g i n)/\∀b,O (.g i n)=some b->w'.heap[b]? =w.heap[b]?
theorem jD.mono{A A':Nat->Prop}{i:Id}{ah sz col rsz base:Nat}{e:Row}(f:∀b,A b->A' b/\w'.heap[b]? =w.heap[b]?)(y:w'.heap[ah]? =w.heap[ah]?)(a:sX i w ρ O w' ρ' O')(h:jD w A ρ O i ah sz col rsz base e):
  jD w' A' ρ' O' i ah sz col rsz base e:=by
 obtain⟨l,m,o,v,q,r,t⟩:=h;have g:∀p,w'.cell? ⟨ah,p,none⟩=w.cell? ⟨ah,p,none⟩:=λp=>oD y;refine⟨l,m,λj x z B=> ?_,v,by rw [g];exact q,by rw [(a e.n).1];exact r, ?_⟩
 .obtain⟨u,g1,d⟩:=o j x z B;exact⟨u,by rw [g];exact g1,az.mono f x u d⟩
 .revert t;cases e.own with
  | none=>intro h;simp only at h⊢;rw [(a e.n).2.1];exact h
  | some p=>intro d;refine dr.mono f (λb k=> ?_) d;rw [(a e.n).2.1];exact⟨k,(a e.n).2.2 b k⟩
theorem cL.mono{A A':Nat->Prop}{i:Id}{ah sz col rsz:Nat}(a:∀b,A b->A' b/\w'.heap[b]? =w.heap[b]?)(d:w'.heap[ah]? =w.heap[ah]?)(f:sX i w ρ O w' ρ' O'):∀{es:List Row} {base:Nat},cL w A ρ O i ah sz col rsz base es->
  cL w' A' ρ' O' i ah sz col rsz base es
 | [],_,_=>trivial
 | e::es,base,h=>⟨jD.mono a d f h.1,cL.mono a d f h.2⟩
theorem dr.eV{A A' Q a:Nat->Prop}{sz:Nat}{b:Bool}{l:List (List T)}{v:Value}(d:∀b,A b->A' b/\w'.heap[b]? =w.heap[b]?)
  (e:∀b,Q b->a b/\w'.heap[b]? =w.heap[b]?) (hs:dr w A sz b l v Q):dr w' A' sz b l v a:=dr.mono d e hs
theorem jD.move{A A':Nat->Prop}{i i':Id}{ah blk' sz col rsz base a:Nat}{e:Row}(l:∀j,j < sz->w'.cell? ⟨blk',a+j,none⟩=w.cell? ⟨ah,base+j,none⟩)(k:∀b,A b->A' b/\w'.heap[b]? =w.heap[b]?)
  (B:ρ' (.g i' e.n)=ρ (.g i e.n)) (f:O' (.g i' e.n)=O (.g i e.n)) (C:∀b,O (.g i e.n)=some b->w'.heap[b]? =w.heap[b]?) (h:jD w A ρ O i ah sz col rsz base e):jD w' A' ρ' O' i' blk' sz col rsz a e:=by
 obtain⟨q,d,r,v,a4,t,y⟩:=h;refine⟨q,d,λj x D o=> ?_,v,by rw [l _ d];exact a4,by rw [B];exact t, ?_⟩
 .obtain⟨u,g1,z⟩:=r j x D o;have:=(W9.1 o).1;exact⟨u,by rw [l j (by omega)];exact g1,az.mono k x u z⟩
 .revert y;cases e.own with
  | none=>intro h;simp only at h⊢;rw [f];exact h
  | some p=>intro g;refine dr.mono k (λb m=> ?_) g;rw [f];exact⟨m,C b m⟩
theorem cL.move{A A':Nat->Prop}{i i':Id}{ah blk' sz col rsz:Nat}(d:∀b,A b->A' b/\w'.heap[b]? =w.heap[b]?):∀{es:List Row} {base a:Nat},
  (∀p,p < es.length * sz->w'.cell? ⟨blk',a+p,none⟩=w.cell? ⟨ah,base+p,none⟩)->(∀e∈es,ρ' (.g i' e.n)=ρ (.g i e.n)/\O' (.g i' e.n)=O (.g i e.n)/\∀b,O (.g i e.n)=some b->w'.heap[b]? =w.heap[b]?)->
  cL w A ρ O i ah sz col rsz base es->cL w' A' ρ' O' i' blk' sz col rsz a es
 | [],_,_,_,_,_=>trivial
 | e::es,base,a,f,k,h=>by
  have el:(e::es).length * sz=sz+es.length * sz:=by simp [Yb];omega
  obtain⟨l,m,o⟩:=k e W7;refine⟨jD.move (λj r=>f j (by omega)) d l m o h.1,cL.move d (λp t=> ?_) (λe q=>k e (W8 _ q)) h.2⟩;rw [Ze,Ze];exact f (sz+p) (by omega)
theorem cL.append{A:Nat->Prop}{i:Id}{ah sz col rsz:Nat}:∀{es a:List Row} {base:Nat},cL w A ρ O i ah sz col rsz base es->cL w A ρ O i ah sz col rsz (base+es.length * sz) a->cL w A ρ O i ah sz col rsz base (es++a)
 | [],a,base,_,h=>by simpa using h
 | e::es,a,base,h,h'=>by
  refine⟨h.1,cL.append h.2 ?_⟩;have:base+sz+es.length * sz=base+ (e::es).length * sz:=by simp [Yb];omega
  rw [this];exact h'
theorem cL.set{A A':Nat->Prop}{i:Id}{ah sz col rsz:Nat}{x:Row}(l:∀b,A b->A' b/\w'.heap[b]? =w.heap[b]?):∀{es:List Row} {base k:Nat},k < es.length->
  (∀p,base<=p->p < base+es.length * sz->¬(base+k * sz<=p/\p < base+k * sz+sz)->w'.cell? ⟨ah,p,none⟩=w.cell? ⟨ah,p,none⟩)->
  (∀j e,j≠k->es[j]? =some e->ρ' (.g i e.n)=ρ (.g i e.n)/\O' (.g i e.n)=O (.g i e.n)/\∀b,O (.g i e.n)=some b->w'.heap[b]? =w.heap[b]?)->
  jD w' A' ρ' O' i ah sz col rsz (base+k * sz) x->cL w A ρ O i ah sz col rsz base es->cL w' A' ρ' O' i ah sz col rsz base (es.set k x)
 | [],_,_,f,_,_,_,_=>by simp at f
 | e::es,base,0,f,a,d,q,h=>by
  have el:(e::es).length * sz=sz+es.length * sz:=by simp [Yb];omega
  refine⟨by simpa using q,cL.move l (λp y=>a _ (by omega) (by omega) (by omega)) (λe' m=> ?_) h.2⟩;obtain⟨j,o⟩:=Zr.1 m;exact d (j+1) e' (by omega) (by simpa using o)
 | e::es,base,k+1,f,a,d,q,h=>by
  have el:(e::es).length * sz=sz+es.length * sz:=by simp [Yb];omega
  have v:(k+1) * sz=sz+k * sz:=by rw [Yb];omega
  obtain⟨r,t,u⟩:=d 0 e (by omega) rfl;refine⟨jD.move (λj o=>a _ (by omega) (by omega) (by omega)) l r t u h.1,cL.set l (by simpa using f) (λp z B C=>a p (by omega) (by omega) (by omega)) (λj e' o m=>d (j+1) e' (by omega) (by simpa using m)) ?_ h.2⟩;rw [show base+sz+k * sz=base+ (k+1) * sz by omega];exact q
theorem pU.mono{i:Id}{e:Nat}{es:List Row}(d:sX i w ρ O w' ρ' O')(h:pU ρ O i e es):pU ρ' O' i e es:=
 ⟨h.1,h.2.1,λn a=>by rw [(d n).1];exact h.2.2.1 n a,λn b a=>by rw [(d n).2.1] at a;exact h.2.2.2 n b a⟩
theorem dF.mono{A A':Nat->Prop}{i:Id}(u:sX i w ρ O w' ρ' O')(m:∀b,A b->A' b/\w'.heap[b]? =w.heap[b]?)(e:∀i v,ρ i=some v->ρ' i=some v)(k:O' i=O i)
  (n:∀b,O i=some b->w'.heap[b]? =w.heap[b]?):∀{b:ad},dF w A ρ O i b->dF w' A' ρ' O' i b
 | .box cs,⟨b,arr,t,f,d,e3,g,j⟩=>⟨b,arr,t,e _ _ f,by rw [k];exact d,by rw [n _ d];exact e3,aD.mono m e cs _ g,j⟩
 | .sl fz sz b l,⟨v,f,d,e3⟩=>by
  refine⟨v,e _ _ f,dr.mono m (λb o=> ?_) d,by rw [k];exact e3⟩;cases fz
  .simp only [XD,if_false] at o⊢;exact⟨by rw [k];exact o,n _ o⟩
  .simp only [if_true] at o⊢;exact m _ o
 | .gf l,⟨b,f,d,e3,g⟩=>⟨b,e _ _ f,by rw [k];exact d,(m b e3).1,bn.mono m b e3 0 l g⟩
 | .arr cs,⟨b,arr,t,f,d,e3,g,j⟩=>⟨b,arr,t,e _ _ f,by rw [k];exact d,by rw [n _ d];exact e3,aD.mono m e cs _ g,j⟩
 | .mp ag ks vk es,⟨b,q,p,f,d,e3,g,j⟩=>⟨b,q,p,e _ _ f,by rw [k];exact d,by rw [n _ d];exact e3,g,j⟩
 | .rows b sz col rsz C es,h=>by
  obtain⟨a,cap,f,d,e3,g,j⟩:=h;refine⟨a,cap,e _ _ f,d,e3,g.mono u, ?_⟩;rcases j with j | ⟨ah,off,arr,t,x,r,y,z,B⟩
  .exact .inl j
  .exact .inr ⟨ah,off,arr,t,x,by rw [k];exact r,by rw [n _ r];exact y,z,B.mono m (n _ r) u⟩
 | .dead,⟨⟨v,f,e3⟩,d⟩=>⟨⟨v,e _ _ f,e3⟩,by rw [k];exact d⟩
def GK(w:World)(ρ:Id->Option Value)(O:Id->Option Nat)(w':World)(ρ':Id->Option Value)(O':Id->Option Nat):Prop:= ∀i,sX i w ρ O w' ρ' O'
theorem GK.refl:GK w ρ O w ρ O:=λ_ _=>⟨rfl,rfl,λ_ _=>rfl⟩
theorem HS.real(hs:HS c w h ρ O){i:Id}(a:h i≠none):i.real=true:=by
 cases i with
 | g i n=>exact(a (hs.eP i n)).elim
 | _=>rfl
theorem HS.qp(hs:HS c w h ρ O)(le:Le w ρ O w' ρ' O')
  (hblk:∀i b,h' i=some b->(h i=some b/\O' i=O i/\(∀ah,O i=some ah->w'.heap[ah]? =w.heap[ah]?)/\sX i w ρ O w' ρ' O')\/dF w' (AA c w' O') ρ' O' i b)
  (hnone:∀i,i.real=true->h' i=none->ρ' i=none/\O' i=none) (hnog:∀i n,h' (.g i n)=none)
  (hgd:∀i n,h' i=none->ρ' (.g i n)=none/\O' (.g i n)=none) (hgo:∀i n u,ρ' (.g i n)=some u->u.oneCell'=true/\u.cells= #[u])
  (inj:∀i j b,O' i=some b->O' j=some b->i=j) (lt:∀i b,O' i=some b->b < w'.heap.size):HS c w' h' ρ' O' where
 ah i b hb:=by
  rcases hblk i b hb with⟨h1,h2,h3,h4⟩ | h1
  .exact dF.mono h4 (λb ha=>le.A b ha) le.fu h2 h3 (hs.ah i b h1)
  .exact h1
 cO:=hnone
 eP:=hnog
 gG:=hgd
 gone:=hgo
 inj:=inj
 lt:=lt
 own i b hi:=by
  rcases le.own i b hi with⟨j,hj⟩ | h
  .exact hs.own j b hj
  .exact .inr (X2 hs.size h)
 size:=X2 hs.size le.size
 glob:=⟨B7 (λb hb=>le.ah b (X5 hb (X2 hs.glob.2.1 hs.size)) λi hi=>by
  rcases hs.own i b hi with h | h
  .exact hs.glob.2.2 b hb h
  .have:=hs.glob.2.1;omega) hs.glob.1,hs.glob.2⟩
theorem HS.ok(hs:HS c w h ρ O):GlobOk w:=⟨hs.glob.1,X2 hs.glob.2.1 hs.size⟩
theorem HS.go(hs:HS c w h ρ O)(le:Le w ρ O w' ρ' O')(a:GK w ρ O w' ρ' O')
  (f:∀i b,h' i=some b->(h i=some b/\O' i=O i/\(∀ah,O i=some ah->w'.heap[ah]? =w.heap[ah]?))\/dF w' (AA c w' O') ρ' O' i b)
  (d:∀i,i.real=true->h' i=none->ρ' i=none/\O' i=none) (q:∀i,h' i=none->h i=none) (k:∀i n,h' (.g i n)=none)
  (inj:∀i j b,O' i=some b->O' j=some b->i=j) (lt:∀i b,O' i=some b->b < w'.heap.size):HS c w' h' ρ' O':=
 hs.qp le (λi b p=>by
  rcases f i b p with⟨e,m,o⟩ | e
  .exact .inl ⟨e,m,o,a i⟩
  .exact .inr e) d k (λi n r=>by
  have:=hs.gG i n (q i r);rw [(a i n).1,(a i n).2.1];exact this) (λi n u l=>by rw [(a i n).1] at l;exact hs.gone i n u l) inj lt
theorem HS.world(hs:HS c w h ρ O)(le:Le w ρ O w' ρ O)(eV:∀i ah,O i=some ah->w'.heap[ah]? =w.heap[ah]?):HS c w' h ρ O:=
 hs.go le (λi n=>⟨rfl,rfl,λb a=>eV _ b a⟩) (λi _ a=> .inl ⟨a,rfl,λah h=>eV i ah h⟩) hs.cO (λ_ h=>h) hs.eP hs.inj λi b h=>X5 (hs.lt i b h) le.size
def aN{α:Type}(f:Id->Option α)(i:Id)(v:Option α):Id->Option α:=λj=>if j=i then v else f j
@[simp] theorem aH {α:Type} (f:Id->Option α) (i:Id) (v:Option α):aN f i v i=v:=by simp [aN]
theorem ay{α:Type}(f:Id->Option α){i j:Id}(v:Option α)(h:j≠i):aN f i v j=f j:=by simp [aN,h]
theorem eG(h:Id->Option ad)(i:Id)(b:ad):aR h [(i,b)]=aN h i (some b):=rfl
theorem dx(h:Id->Option ad)(i:Id)(b:ad)(us:aK):aR h ((i,b)::us)=aR (aN h i (some b)) us:=rfl
theorem np(h:Id->Option ad):∀(us vs:aK),aR h (us++vs)=aR (aR h us) vs
 | [],_=>rfl
 | (i,b)::us,vs=>by simp only [X7,dx];exact np _ us vs
theorem aY{i j:Id}{n:Nat}(a:i.real=true):Id.g j n≠i:=by rintro rfl;cases a
theorem Le.alloc(hs:HS c w h ρ O){i:Id}(hr:i.real=true)(hi:h i=none)(o:Obj)(v:Value)(ob:Option Nat)(hob:ob=none\/ob=some w.heap.size):
  Le w ρ O (w.alloc o) (aN ρ i (some v)) (aN O i ob) where
 os:=rfl
 output:=rfl
 tape:=rfl
 size:=by simp
 fu j u hj:=by
  by_cases e:j=i
  .subst e;rw [(hs.cO _ hr hi).1] at hj;cases hj
  .rw [ay _ _ e];exact hj
 ah b hb _:=XV _ _ _ hb
 own j b hj:=by
  by_cases e:j=i
  .subst e;rw [aH] at hj;rcases hob with rfl | rfl
   .cases hj
   .cases hj;exact .inr (Xr _)
  .rw [ay _ _ e] at hj;exact .inl ⟨j,hj⟩
theorem HS.alloc(hs:HS c w h ρ O){i:Id}(l:i.real=true)(r:h i=none)(o:Obj)(v:Value)(ob:Option Nat)(g:ob=none\/ob=some w.heap.size)(b:ad)
  (m:dF (w.alloc o) (AA c (w.alloc o) (aN O i ob)) (aN ρ i (some v)) (aN O i ob) i b):
  HS c (w.alloc o) (aN h i (some b)) (aN ρ i (some v)) (aN O i ob):=by
 refine hs.go (Le.alloc hs l r o v ob g) (λj n=>⟨ay _ _ (aY l),ay _ _ (aY l),λb m=>XV _ _ _ (hs.lt _ b m)⟩) (λj b' a=> ?_) (λj q a=> ?_) (λj a=> ?_) (λj n=>by rw [ay _ _ (aY l)];exact hs.eP j n) (λj k d a f=> ?_) (λj d a=> ?_)
 .by_cases e:j=i
  .subst e;rw [aH] at a;cases a;exact .inr m
  .rw [ay _ _ e] at a;exact .inl ⟨a,ay _ _ e,λah p=>XV _ _ _ (hs.lt j ah p)⟩
 .by_cases e:j=i
  .subst e;rw [aH] at a;cases a
  .rw [ay _ _ e] at a;rw [ay _ _ e,ay _ _ e];exact hs.cO j q a
 .by_cases e:j=i
  .subst e;rw [aH] at a;cases a
  .rw [ay _ _ e] at a;exact a
 .by_cases e:j=i <;> by_cases e':k=i
  .rw [e,e']
  .exfalso;rw [ay _ _ e'] at f;subst e;rw [aH] at a;rcases g with rfl | rfl
   .cases a
   .cases a;exact YD _ (hs.lt _ _ f)
  .exfalso;rw [ay _ _ e] at a;subst e';rw [aH] at f;rcases g with rfl | rfl
   .cases f
   .cases f;exact YD _ (hs.lt _ _ a)
  .rw [ay _ _ e] at a;rw [ay _ _ e'] at f;exact hs.inj j k d a f
 .by_cases e:j=i
  .subst e;rw [aH] at a;rcases g with rfl | rfl
   .cases a
   .cases a;simp
  .rw [ay _ _ e] at a;have:=hs.lt j d a;simp;omega
theorem Le.release{i:Id}:Le w ρ O w ρ (aN O i none) where
 os:=rfl
 output:=rfl
 tape:=rfl
 size:=Xr _
 fu _ _ h:=h
 ah _ _ _:=rfl
 own j b hj:=by
  by_cases e:j=i
  .subst e;rw [aH] at hj;cases hj
  .rw [ay _ _ e] at hj;exact .inl ⟨j,hj⟩
theorem HS.release(hs:HS c w h ρ O){i:Id}(l:i.real=true)(b:ad)(m:dF w (AA c w (aN O i none)) ρ (aN O i none) i b):HS c w (aN h i (some b)) ρ (aN O i none):=by
 refine hs.go Le.release (λj n=>⟨rfl,ay _ _ (aY l),λ_ _=>rfl⟩) (λj b' a=> ?_) (λj g a=> ?_) (λj a=> ?_) (λj n=>by rw [ay _ _ (aY l)];exact hs.eP j n) (λj k d a f=> ?_) (λj d a=> ?_)
 .by_cases e:j=i
  .subst e;rw [aH] at a;cases a;exact .inr m
  .rw [ay _ _ e] at a;exact .inl ⟨a,ay _ _ e,λ_ _=>rfl⟩
 .by_cases e:j=i
  .subst e;rw [aH] at a;cases a
  .rw [ay _ _ e] at a⊢;exact hs.cO j g a
 .by_cases e:j=i
  .subst e;rw [aH] at a;cases a
  .rw [ay _ _ e] at a;exact a
 .by_cases e:j=i
  .subst e;rw [aH] at a;cases a
  .by_cases e':k=i
   .subst e';rw [aH] at f;cases f
   .rw [ay _ _ e] at a;rw [ay _ _ e'] at f;exact hs.inj j k d a f
 .by_cases e:j=i
  .subst e;rw [aH] at a;cases a
  .rw [ay _ _ e] at a;exact hs.lt j d a
theorem HS.freeze(hs:HS c w h ρ O){i:Id}{sz:Nat}{b:Bool}{l:List (List T)}(f:h i=some (.sl false sz b l)):
  HS c w (aN h i (some (.sl true sz b l))) ρ (aN O i none):=by
 refine hs.release (hs.real (by rw [f];simp)) _ ?_;obtain⟨v,g,k,e3⟩:=hs.ah i _ f;refine⟨v,g, ?_,λ_=>by simp⟩;simp only [if_true];have m:∀b,AA c w O b->AA c w (aN O i none) b/\w.heap[b]? =w.heap[b]?:=λb n=>(Le.release (ρ:=ρ) (i:=i)).A b n;refine dr.mono m (λah d=> ?_) k;simp only [XD,if_false] at d;refine⟨⟨.inr (hs.own i ah d),hs.lt i ah d,λj a=> ?_⟩,rfl⟩;by_cases e:j=i
 .subst e;rw [aH] at a;cases a
 .rw [ay _ _ e] at a;exact e (hs.inj j i ah a d)
theorem HS.P8(hs:HS c w h ρ O){i:Id}{cs:List AV}{l:List T}(f:h i=some (.box cs))(hl:ff cs=some l):
  HS c w (aN h i (some (.gf l))) ρ (aN O i none):=by
 refine hs.release (hs.real (by rw [f];simp)) _ ?_;obtain⟨b,arr,t,k,d,e3,m,C⟩:=hs.ah i _ f;have p:∀b,AA c w O b->AA c w (aN O i none) b/\w.heap[b]? =w.heap[b]?:=λb y=>(Le.release (ρ:=ρ) (i:=i)).A b y;have z:AA c w (aN O i none) b:=⟨.inr (hs.own i b d),hs.lt i b d,λj a=>by
  by_cases e:j=i
  .subst e;rw [aH] at a;cases a
  .rw [ay _ _ e] at a;exact e (hs.inj j i b a d)⟩
 refine⟨b,k,by simp,z, ?_⟩;have q:=ba.mg hl m;have key:∀(l:List T) (vs:List Value) (off:Nat),ba w (AA c w O) l vs->(∀j v,vs[j]? =some v->w.cell? ⟨b,off+j,none⟩=some v)->bn w (AA c w (aN O i none)) b off l:=by
  intro l;induction l with
  | nil=>intro vs off _ _;simp [bn]
  | cons x l B=>rintro vs off ⟨v,r,rfl,n,o⟩ g;simp only [bn];refine⟨⟨v,by simpa using g 0 v rfl,az.mono p x v n⟩,B r (off+1) o λj u a=> ?_⟩;have:=g (j+1) u (by simpa using a);rw [show off+1+j=off+ (j+1) by omega];exact this
 refine key l _ 0 q λj v a=> ?_;simp only [World.cell?,e3,XF];simpa using a
theorem Le.write{b:Nat}{i:Id}(hi:O i=some b)(hos:w'.os=w.os)(ho:w'.output=w.output)(ht:w'.tape=w.tape)(hsz:w'.heap.size=w.heap.size)(hk:∀k,k≠b->w'.heap[k]? =w.heap[k]?):Le w ρ O w' ρ O where
 os:=hos
 output:=ho
 tape:=ht
 size:=Nat.le_of_eq hsz.symm
 fu _ _ h:=h
 ah k _ hn:=hk k λe=>hn i (e▸hi)
 own j b hj:= .inl ⟨j,hj⟩
theorem HS.write(hs:HS c w h ρ O){b:Nat}{i:Id}(l:O i=some b)(le:Le w ρ O w' ρ O)(o:∀k,k≠b->w'.heap[k]? =w.heap[k]?)(x:ad)
  (q:dF w' (AA c w' O) ρ O i x) (g:h i≠none):HS c w' (aN h i (some x)) ρ O:=by
 have p:=hs.real g;refine hs.go le (λj n=>⟨rfl,rfl,λd g=>o d λe=>aY p (hs.inj _ i b (e▸g) l)⟩) (λj b' a=> ?_) (λj m a=> ?_) (λj a=> ?_) (λj n=>by rw [ay _ _ (aY p)];exact hs.eP j n) hs.inj (λj d a=>X5 (hs.lt j d a) le.size)
 .by_cases e:j=i
  .subst e;rw [aH] at a;cases a;exact .inr q
  .rw [ay _ _ e] at a;exact .inl ⟨a,rfl,λah f=>o ah λe'=>e (hs.inj j i b (e'▸f) l)⟩
 .by_cases e:j=i
  .subst e;rw [aH] at a;cases a
  .rw [ay _ _ e] at a;exact hs.cO j m a
 .by_cases e:j=i
  .subst e;rw [aH] at a;cases a
  .rw [ay _ _ e] at a;exact a
end
def SS(w:World)(A:Nat->Prop)(ρ:Id->Option Value)(s:Nat->Option Gs×AV)(tmps:Array Value):Prop:=
 ∀k,match s k with
  | (none,v)=>an w A ρ v (tmps.getD k undef)
  | (some g,v)=>(tmps.getD g.d undef= .bool g.want/\g.c=true/\an w A ρ v (tmps.getD k undef))\/(tmps.getD g.d undef≠ .bool g.want/\g.c=false/\tmps.getD k undef=undef)
section
variable {c:Ctx} {w w':World} {ρ ρ':Id->Option Value} {A A':Nat->Prop} {s:Nat->Option Gs×AV} {tmps:Array Value}
theorem SS.mono(e:∀b,A b->A' b/\w'.heap[b]? =w.heap[b]?)(a:∀i v,ρ i=some v->ρ' i=some v)(hs:SS w A ρ s tmps):SS w' A' ρ' s tmps:=by
 intro k;have:=hs k;revert this;split
 .intro this;exact an.mono e a _ _ this
 .intro this;rcases this with⟨d,f,g⟩ | d
  .exact .inl ⟨d,f,an.mono e a _ _ g⟩
  .exact .inr d
def lY(tmps:Array Value):Option Gs->Prop
 | none=>True
 | some g=>tmps.getD g.d undef= .bool g.want/\g.c=true
theorem lY.cond{g:Option Gs}(h:lY tmps g):g.map (·.c)=none\/g.map (·.c)=some true:=by
 cases g with
 | none=>exact .inl rfl
 | some g=>exact .inr (by simp [h.2])
theorem Tb(v:Value):an w A ρ (Bh v) v:=by
 have one:∀(u:Value) (x:T),qH u=some x->az w A x u:=by
  intro u x e;cases u <;> simp only [qH,W5,reduceCtorEq] at e
  case slice a l g=>split at e <;> simp_all;subst e;simp [az]
  case pointer a=>split at e <;> simp_all;subst e;simp [az]
  case map a=>split at e <;> simp_all;subst e;simp [az]
  all_goals (subst e;simp [az])
 have all:∀(us:List Value) (l:List T),mO us=some l->ba w A l us:=by
  intro us;induction us with
  | nil=>intro l e;simp only [mO,W5] at e;subst e;rfl
  | cons u us f=>
   intro l e;simp only [mO] at e;cases b:qH u with
   | none=>simp [b] at e
   | some x=>
    cases d:mO us with
    | none=>simp [b,d] at e
    | some l'=>simp only [b,d,Xb,W5] at e;subst e;exact⟨u,us,rfl,one u x b,f l' d⟩
 unfold Bh;split
 .rename_i cs;split
  .rename_i l e;simp only [an];have:=all cs.toList l e;refine⟨cs.toList,by simp,aD.mP this, ?_⟩;have key:∀(l:List T) (us:List Value),ba w A l us->∀u∈us,u.oneCell'=true/\u.cells= #[u]:=by
    intro l;induction l with
    | nil=>intro us hu;simp only [ba] at hu;subst hu;simp
    | cons x l f=>
     intro us ⟨v,r,e,b,d⟩ u hu;subst e;rcases Xl.1 hu with rfl | hu
     .exact b.sE
     .exact f r d u hu
   exact key l _ this
  .simp [an]
 .split
  .rename_i x e;simp only [an];exact one _ x e
  .simp [an]
theorem SS.get{a:Act}{h:Id->Option ad}(hs:SS w A ρ s a.tmps){g:Option Gs}(l:lY a.tmps g)(x:Operand):an w A ρ (St.get ⟨s,h⟩ g x) (a.eval x):=by
 cases x with
 | tmp k=>
  simp only [St.get,Act.eval];have:=hs k;split at this
  .rename_i v e;simp only [e,mn,cond_true];exact this
  .rename_i d v e;simp only [e];cases g with
   | none=>simp [mn,an]
   | some g0=>
    by_cases b:mn (some d) (some g0)=true
    .simp only [b,cond_true];simp only [mn,Xf,beq_iff_eq] at b;rcases this with⟨_,_,j⟩ | ⟨i,_⟩
     .exact j
     .exfalso;apply i;rw [b.1,b.2];exact l.1
    .simp only [YK] at b;simp [b,an]
 | const v=>exact Tb v
 | func f=>simp only [St.get,Act.eval,an];exact⟨[],[],rfl,by simp [aD],by simp [aD]⟩
 | global g=>simp [St.get,an]
theorem SS.nP{a:Act}{h:Id->Option ad}(hs:SS w A ρ s a.tmps){g:Option Gs}(l:lY a.tmps g)(cs x:Operand)(want:Bool)(i:a.eval cs= .bool want):
  an w A ρ (St.nP ⟨s,h⟩ g cs want x) (a.eval x):=by
 unfold St.nP;split
 .rename_i d k;simp only [Act.eval] at i⊢;have:=hs k;split
  .rename_i f v e;simp only [e] at this;by_cases b:(f.d==d && f.want==want)=true
   .simp only [b,YE,cond_true];simp only [Xf,beq_iff_eq] at b;rcases this with⟨_,_,n⟩ | ⟨m,_⟩
    .exact n
    .exfalso;apply m;rw [b.1,b.2];exact i
   .simp only [YK] at b;simp only [b,XG];have j:=SS.get (h:=h) hs l (.tmp k);simp only [St.get,e,Act.eval] at j;exact j
  .rename_i v e;simp only [e] at this;exact this
 .exact SS.get hs l _
end
end Go.Aev
