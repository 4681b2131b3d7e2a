import Derived.WalkKit
import Derived.Test.YtcffabneepdohaaGreatDoorChecked
import Derived.Lib.ItoaNum
import Derived.Lib.LaidTab
set_option linter.all false
namespace Go.Aev
open Go
abbrev Wj:=@Option.some.injEq
abbrev Wk:=@Option.bind_eq_some_iff
abbrev Wl:=@List.mem_cons_self
abbrev Wm:=@List.getElem?_eq_some_iff
abbrev Wn:=@List.mem_cons_of_mem
abbrev Wp:=@List.getD_eq_getElem?_getD
abbrev Wq:=@Option.bind_some
abbrev Ws:=@Bool.not_true
abbrev Wu:=@Bool.not_false
abbrev Wv:=@List.getElem?_eq_getElem
abbrev Ww:=@Bool.and_eq_true
abbrev Wx:=@List.mem_of_getElem?
abbrev Wy:=@List.length_singleton
abbrev Wz:=@List.length_cons
abbrev WA:=@List.mem_singleton
abbrev WB:=@List.getElem?_append_left
abbrev WC:=@List.mem_cons
abbrev WD:=@Result.andThen_ok
abbrev WE:=@List.mem_append_right
abbrev WH:=@Nat.le_refl
abbrev WI:=@List.mem_append_left
abbrev WJ:=@List.getElem?_append_right
abbrev WK:=@List.mem_append
abbrev WL:=@List.map_cons
abbrev WM:=@Option.bind_assoc
abbrev WN:=@List.length_nil
abbrev WO:=@List.all_eq_true
abbrev WQ:=@List.append_nil
abbrev WR:=@Sem.run_bind
abbrev WS:=@ByteArray.size_append
abbrev WT:=@List.length_eq_zero_iff
abbrev WU:=@List.mem_map
abbrev WV:=@List.append_assoc
abbrev WW:=@Int.toNat_natCast
abbrev WX:=@Bool.false_eq_true
abbrev WY:=@Array.length_toList
abbrev WZ:=@Nat.zero_add
abbrev W2:=@Array.mem_of_getElem?
abbrev W3:=@Int.natCast_zero
abbrev W4:=@Bool.false_or
abbrev W5:=@List.singleton_append
abbrev W6:=@List.length_map
abbrev W7:=@List.getElem?_cons_zero
abbrev W8:=@List.map_congr_left
abbrev W9:=@Sem.run_pure
abbrev Xa:=@Prod.mk.injEq
abbrev Xb:=@Int.lt_irrefl
abbrev Xc:=@List.length_append
abbrev Xd:=@List.any_eq_false
abbrev Xe:=@Bool.true_and
abbrev Xf:=@Bool.or_eq_true
abbrev Xg:=@Go.RowKit.Below.heap_alloc
abbrev Xh:=@List.getElem?_map
abbrev Xi:=@Array.all_eq_true_iff_forall_mem
abbrev Xj:=@List.map_nil
abbrev Xk:=@List.length_take
abbrev Xl:=@Nat.le_trans
abbrev Xm:=@Bool.false_and
abbrev Xn:=@Bool.and_false
abbrev Xo:=@Bool.not_eq_true'
abbrev Xp:=@List.cons_append
abbrev Xq:=@Bool.or_eq_false_iff
abbrev Xr:=@Nat.zero_le
abbrev Xs:=@Array.getElem?_toList
abbrev Xt:=@Nat.lt_of_lt_of_le
abbrev Xu:=@Nat.mul_le_mul_right
abbrev Xv:=@List.getElem?_of_mem
abbrev Xw:=@Nat.succ_mul
abbrev Xx:=@Nat.sub_self
abbrev Xy:=@Addr.mk.injEq
abbrev Xz:=@List.any_cons
abbrev XA:=@List.prefix_refl
abbrev XB:=@List.nil_append
abbrev XC:=@Value.slice.injEq
abbrev XD:=@List.cons.injEq
abbrev XE:=@List.not_mem_nil
abbrev XF:=@Bool.and_true
abbrev XG:=@List.getD_cons_succ
abbrev XH:=@List.getElem?_cons_succ
abbrev XI:=@List.all_cons
abbrev XJ:=@List.nodup_cons
abbrev XK:=@List.length_drop
abbrev XL:=@List.length_replicate
abbrev XM:=@List.head?_cons
abbrev XN:=@List.isEmpty_iff
abbrev XO:=@Classical.byContradiction
abbrev XP:=@List.take_append_of_le_length
abbrev XQ:=@List.replicate_succ
abbrev XR:=@List.getD_cons_zero
abbrev XS:=@List.getElem?_set
abbrev XT:=@List.size_toArray
abbrev XU:=@List.ext_getElem?
abbrev XV:=@List.getElem?_eq_none
abbrev XW:=@List.map_map
abbrev XX:=@Array.getD_eq_getD_getElem?
abbrev XY:=@Nat.lt_irrefl
abbrev XZ:=@Bool.true_or
abbrev X0:=@List.length_eq_one_iff
abbrev X1:=@List.getElem?_set_self
abbrev X2:=@List.nodup_append
abbrev X3:=@Value.pointer.injEq
abbrev X4:=@Option.map_some
abbrev X5:=@Option.isSome_iff_exists
abbrev X6:=@Option.getD_some
abbrev X7:=@List.getElem?_take_of_lt
abbrev X8:=@List.flatten_cons
abbrev X9:=@List.take_add_one
abbrev Ya:=@MapKept.run_getObj_map
abbrev Yb:=@Array.ext'
abbrev Yc:=@Array.getElem?_eq_getElem
abbrev Yd:=@List.mem_or_eq_of_mem_set
abbrev Ye:=@Nat.add_mul
abbrev Yf:=@List.map_append
abbrev Yg:=@List.length_set
abbrev Yh:=@List.getElem?_mapIdx
abbrev Yi:=@List.getElem?_set_ne
abbrev Yj:=@Bool.not_eq_true
abbrev Yk:=@List.range'_succ
abbrev Yl:=@List.any_eq_true
abbrev Ym:=@Option.map_eq_some_iff
abbrev Yn:=@List.take_of_length_le
abbrev Yo:=@List.drop_eq_nil_of_le
abbrev Yp:=@Bool.not_eq_false'
abbrev Yq:=@List.getElem?_take
abbrev Yr:=@Nat.add_zero
abbrev Ys:=@Nat.lt_or_ge
abbrev Yt:=@List.prefix_append
abbrev Yu:=@Classical.choose_spec
abbrev Yv:=@List.getElem?_toArray
abbrev Yw:=@Nat.add_assoc
abbrev Yx:=@List.drop_eq_getElem_cons
abbrev Yy:=@List.mem_of_mem_take
abbrev Yz:=@Option.isNone_iff_eq_none
abbrev YA:=@Nat.eq_of_testBit_eq
abbrev YB:=@Nat.pow_le_pow_right
abbrev YC:=@List.take_length
abbrev YD:=@List.getElem_mem
abbrev YE:=@Int.eq_ofNat_of_zero_le
abbrev YF:=@List.getElem?_drop
abbrev YG:=@List.set_cons_succ
abbrev YH:=@List.foldl_cons
abbrev YI:=@Array.any_eq_true'
abbrev YJ:=@MapKept.run_setObj_map
abbrev YK:=@List.mem_iff_getElem?
abbrev YL:=@Iff.rfl
abbrev YM:=@List.tail_cons
abbrev YN:=@Classical.em
abbrev YO:=@Array.toList_extract
abbrev YP:=@List.mem_of_mem_drop
abbrev YQ:=@Nat.lt_succ_self
abbrev YR:=@Nat.le_add_right
abbrev YS:=@Eq.trans
abbrev YT:=@Option.ne_none_iff_exists'
abbrev YU:=@Array.getElem?_eq_some_iff
abbrev YV:=@List.take_succ_cons
abbrev YW:=@List.extract_eq_take_drop
abbrev YX:=@List.set_cons_zero
abbrev YY:=@List.mem_filterMap
abbrev YZ:=@Bool.or_true
abbrev Y0:=@UInt8.toNat_ofNat'
abbrev Y1:=@Int.natCast_nonneg
abbrev Y2:=@List.nodup_nil
abbrev Y3:=@Array.size_append
abbrev Y4:=@List.isEmpty_cons
abbrev Y5:=@Int.emod_eq_of_lt
abbrev Y6:=@List.zipWith_cons_cons
abbrev Y7:=@Bool.or_false
abbrev Y8:=@Array.toList_map
abbrev Y9:=@List.isEmpty_nil
abbrev Za:=@Ne.symm
abbrev Zb:=@List.take_append_drop
abbrev Zc:=@Array.getElem?_setIfInBounds_ne
abbrev Zd:=@List.range_eq_range'
abbrev Ze:=@Int.mul_le_mul_of_nonneg_right
abbrev Zf:=@Option.map_none
abbrev Zg:=@List.pairwise_append
abbrev Zh:=@Int.mul_le_mul_of_nonneg_left
abbrev Zi:=@List.drop_drop
abbrev Zj:=@List.mem_range
abbrev Zk:=@Option.isNone_none
abbrev Zl:=@Bool.and_self
abbrev Zm:=@Int.add_mul_emod_self_left
abbrev Zn:=@Nat.lt_trichotomy
abbrev Zo:=@Nat.mod_lt
abbrev Zp:=@List.pairwise_iff_getElem
abbrev Zq:=@Option.getD_none
abbrev Zr:=@List.map_set
abbrev Zs:=@Nat.mod_eq_of_lt
abbrev Zt:=@List.idxOf_lt_length_iff
abbrev Zu:=@List.eq_of_mem_replicate
abbrev Zv:=@Nat.not_le_of_lt
abbrev Zw:=@Bool.not_not
abbrev Zx:=@List.any_nil
abbrev Zy:=@List.flatMap_nil
abbrev Zz:=@List.take_append_getElem
abbrev ZA:=@BitVec.toNat_and
abbrev ZB:=@List.any_map
abbrev ZC:=@Bool.decide_and
abbrev ZD:=@Nat.mul_add
abbrev ZE:=@List.take_zero
abbrev ZF:=@List.mapM_cons
abbrev ZG:=@Nat.mul_le_mul
abbrev ZH:=@List.drop_left
abbrev ZI:=@Nat.not_lt
inductive T where
 | int (k:IntKind) (n:Int)
 | bool (b:Bool)
 | str (s:ByteArray)
 | ad (sz:Nat) (isNil:Bool) (xs:List (List T))
 | aB (isNil:Bool)
 | ptr (cs:List T)
 | ax
 | y5
 | y0
 | Cr
 | cQ (f:FuncId)
 | any
 deriving Inhabited
inductive Id where
 | c (n:Nat)
 | s (d:Nat) (j:Nat)
 | g (i:Id) (n:Nat)
 deriving DecidableEq,Inhabited
def Id.real:Id->Bool
 | .g _ _=>false
 | _=>true
inductive AV where
 | top
 | t (x:T)
 | np (vs:List AV)
 | agg (vs:List AV)
 | ref (i:Id) (off:Nat)
 | el (i:Id) (sz k off:Nat)
 | own (i:Id)
 | part (i:Id) (sz off len:Nat)
 | row (i:Id) (n:Nat)
 | rel (i:Id) (sz n k off:Nat)
 | fn (f:FuncId) (fst caps:List AV)
 deriving Inhabited
inductive Ck where
 | i (k:IntKind)
 | b
 | s
 | l (sz:Nat)
 | x
 deriving Inhabited,DecidableEq
structure Row where
 n:Nat
 cs:List T
 own:Option (Bool×List (List T))
 deriving Inhabited
inductive aa where
 | box (cs:List AV)
 | sl (fz:Bool) (sz:Nat) (isNil:Bool) (xs:List (List T))
 | dy (cs:List T)
 | arr (cs:List AV)
 | mp (ag:Bool) (ks:List Ck) (vk:Ck) (es:List (List T×T))
 | rows (b:Bool) (sz col rsz nx:Nat) (es:List Row)
 | dead
 deriving Inhabited
def T.int?(k:IntKind):T->Option Int
 | .int a n=>if a=k then some n else none
 | _=>none
def T.bool?:T->Option Bool
 | .bool b=>some b
 | _=>none
def T.dU:T->Option ByteArray
 | .str s=>some s
 | _=>none
def T.sf:T->Option (List T)
 | .ptr cs=>some cs
 | _=>none
def T.aQ(sz:Nat):T->Option (Bool×List (List T))
 | .ad a b xs=>if a=sz then some (b,xs) else none
 | .aB b=>some (b,[])
 | _=>none
def eA:T->Value
 | .int k n=> .int k n
 | .bool b=> .bool b
 | .str s=> .string s
 | _=> .nilIface
def dM(ag:Bool)(cs:List T):Value:=cond ag (.agg (cs.map eA).toArray) ((cs.map eA).headD .nilIface)
def eL:Ck->T->Bool
 | .i k, .int a _=>decide (a=k)
 | .b, .bool _=>true
 | .s, .str _=>true
 | _,_=>false
def cF:List Ck->List T->Bool
 | [],[]=>true
 | k::ks,x::xs=>eL k x && cF ks xs
 | _,_=>false
def oB:T->T->Bool
 | .int _ a, .int _ b=>a==b
 | .bool a, .bool b=>a==b
 | .str a, .str b=>a==b
 | _,_=>false
def eZ:List T->List T->Bool
 | [],[]=>true
 | x::xs,y::a=>oB x y && eZ xs a
 | _,_=>false
def iv(key:List T):List (List T×T)->Option T
 | []=>none
 | (k,v)::r=>cond (eZ key k) (some v) (iv key r)
def jr(key:List T)(v:T):List (List T×T)->List (List T×T)
 | []=> [(key,v)]
 | (k,u)::r=>cond (eZ key k) ((key,v)::r) ((k,u)::jr key v r)
def T.rF:T->Option Unit
 | .int _ _=>some ()
 | .bool _=>some ()
 | .str _=>some ()
 | _=>none
def gd{α:Type}[Inhabited α](c:Option Bool)(m:Option α):Option α:=
 match m with
 | some a=>some a
 | none=>match c with
  | none=>none
  | some b=>cond b none (some default)
def ab{α R:Type}[Inhabited α](c:Option Bool)(m:Option α)(k:α->Option R):Option R:=
 match m with
 | some a=>k a
 | none=>match c with
  | none=>none
  | some b=>cond b none (k default)
def qA{R:Type}(c:Option Bool):Nat->List T->(List T->Option R)->Option R
 | 0,_,K=>K []
 | n+1,cs,K=>ab c cs.head? λx=>qA c n cs.tail λl=>K (x::l)
def qo:Value->Option T
 | .int k i=>some (.int k i)
 | .bool b=>some (.bool b)
 | .string s=>some (.str s)
 | .slice none 0 0=>some (.aB true)
 | .pointer none=>some .ax
 | .map none=>some .y5
 | .nilFunc=>some .y0
 | .nilIface=>some .Cr
 | _=>none
def mQ:List Value->Option (List T)
 | []=>some []
 | v::r=>(qo v).bind λx=>(mQ r).bind λl=>some (x::l)
def bW(P:Program)(t:TypeId):Bool:=
 match P.underlying t with
 | some (.struct _) | some (.array _ _)=>true
 | _=>false
def tN(P:Program)(t:TypeId):Option IntKind:=
 match P.underlying t with
 | some (.int k)=>some k
 | _=>none
def cx(P:Program)(t:TypeId):Bool:=(P.underlying t).isSome
def vH(P:Program)(t:TypeId)(f:Nat):Option (Nat×TypeId):=
 match P.underlying t with
 | some (.struct a)=>match a[f]? with
  | some x=>cond (cx P x.type) (some (x.offset,x.type)) none
  | none=>none
 | _=>none
def ou(P:Program)(t:TypeId):Option TypeId:=
 match P.underlying t with
 | some (.slice e)=>cond (cx P e) (some e) none
 | _=>none
def xJ(P:Program)(t:TypeId):Option (Nat×TypeId):=
 match P.underlying t with
 | some (.array n e)=>cond (cx P e) (some (n,e)) none
 | _=>none
def sc(P:Program)(t:TypeId):Bool:=
 match P.underlying t with
 | some (.struct a)=>a.toList.all λf=>cx P f.type
 | some (.array _ e)=>cx P e
 | _=>false
def BT(P:Program)(t:TypeId):Bool:=
 match P.underlying t with
 | some .string=>true
 | _=>false
def jv(P:Program)(t:TypeId):Option (List T):=
 match P.info? t with
 | some i=>match i.zero with
  | some v=>mQ v.cells.toList
  | none=>none
 | none=>none
structure Gs where
 d:Nat
 want:Bool
 c:Bool
structure St where
 t:Nat->Option Gs×AV
 h:Id->Option aa
abbrev aH:=List (Id×aa)
def aP(h:Id->Option aa):aH->Id->Option aa
 | []=>h
 | (i,b)::us=>aP (λj=>if j=i then some b else h j) us
def nG(d:Nat):Option Gs×AV->Option Gs×AV
 | (some g,v)=>cond (g.d==d) (none, .top) (some g,v)
 | (none,v)=>(none,v)
def St.put(s:St)(a:Bool)(d:Option Nat)(g:Option Gs)(v:AV)(us:aH):St:=
 {t :=match d with
    | some d=>λk=>if k=d then(g,v) else cond a (nG d (s.t k)) (s.t k)
    | none=>s.t
  h:=aP s.h us}
def AK(v:Value):AV:=
 match v with
 | .agg cs=>match mQ cs.toList with
  | some l=> .agg (l.map .t)
  | none=> .top
 | v=>match qo v with
  | some x=> .t x
  | none=> .top
def mo:Option Gs->Option Gs->Bool
 | none,_=>true
 | some a,some b=>a.d==b.d && a.want==b.want
 | some _,none=>false
def St.tY(s:St)(g:Gs):St:={s with t:=λk=>cond (mo (s.t k).1 (some g)) (none,(s.t k).2) (s.t k)}
def St.get(s:St)(g:Option Gs):Operand->AV
 | .tmp k=>match s.t k with
  | (a,v)=>cond (mo a g) v .top
 | .const v=>AK v
 | .func f=> .fn f [] []
 | .global _=> .top
def St.nL(s:St)(g:Option Gs)(cs:Operand)(want:Bool)(o:Operand):AV:=
 match cs,o with
 | .tmp d, .tmp k=>match s.t k with
  | (some a,v)=>cond ((a.d==d && a.want==want) || mo (some a) g) v .top
  | (none,v)=>v
 | _,o=>s.get g o
def AV.t?:AV->Option T
 | .t x=>some x
 | _=>none
def eV:List AV->Option (List T)
 | []=>some []
 | .t x::r=>(eV r).bind λl=>some (x::l)
 | _::_=>none
def ei(h:Id->Option aa):AV->Option T
 | .t x=>some x
 | .own i=>match h i with
  | some (.sl _ sz b xs)=>some (.ad sz b xs)
  | _=>none
 | .part i sz off len=>match h i with
  | some (.sl _ a b xs)=>if a=sz then some (.ad sz b ((xs.drop off).take len)) else none
  | _=>none
 | .ref i off=>match h i with
  | some (.box cs)=>(eV cs).bind λl=>some (.ptr (l.drop off))
  | some (.dy l)=>some (.ptr (l.drop off))
  | _=>none
 | _=>none
def mr(h:Id->Option aa):List AV->Option (List T)
 | []=>some []
 | v::r=>(ei h v).bind λx=>(mr h r).bind λl=>some (x::l)
def Db(h:Id->Option aa):AV->Option T
 | .own i=>match h i with
  | some (.sl _ sz b xs)=>some (.ad sz b xs)
  | some (.rows ..)=>some .any
  | some (.mp ..)=>some .any
  | _=>none
 | v=>ei h v
def wX(h:Id->Option aa):List AV->Option (List T)
 | []=>some []
 | v::r=>(Db h v).bind λx=>(wX h r).bind λl=>some (x::l)
def mq(h:Id->Option aa):AV->Option (List T)
 | .agg vs=>mr h vs
 | v=>(ei h v).bind λx=>some [x]
def iH(h:Id->Option aa):AV->aH
 | .own i=>match h i with
  | some (.sl false sz b xs)=> [(i, .sl true sz b xs)]
  | _=> []
 | .part i _ _ _=>match h i with
  | some (.sl false sz b xs)=> [(i, .sl true sz b xs)]
  | _=> []
 | .ref i _=>match h i with
  | some (.box cs)=>match eV cs with
   | some l=> [(i, .dy l)]
   | none=> []
  | _=> []
 | _=> []
def nK(h:Id->Option aa):List AV->aH
 | []=> []
 | v::r=>iH h v++nK h r
def iw(h:Id->Option aa):AV->aH
 | .agg vs=>nK h vs
 | v=>iH h v
def sT{R:Type}(op:BinOp)(k:IntKind)(c:Option Bool)(x y:T)(K:T->Option R):Option R:=
 ab c (x.int? k) λa=>ab c (y.int? k) λb=>
  match op with
  | .add=>K (.int k (k.wrap (a+b)))
  | .sub=>K (.int k (k.wrap (a - b)))
  | .mul=>K (.int k (k.wrap (a * b)))
  | .quo=>ab c (if b=0 then none else some ()) λ_=>K (.int k (k.wrap (a.tdiv b)))
  | .rem=>ab c (if b=0 then none else some ()) λ_=>K (.int k (a.tmod b))
  | .and=>K (.int k (k.wrap (BitVec.ofInt k.bits a &&& BitVec.ofInt k.bits b).toNat))
  | .or=>K (.int k (k.wrap (BitVec.ofInt k.bits a ||| BitVec.ofInt k.bits b).toNat))
  | .xor=>K (.int k (k.wrap (BitVec.ofInt k.bits a ^^^ BitVec.ofInt k.bits b).toNat))
  | .andNot=>K (.int k (k.wrap (BitVec.ofInt k.bits a &&& ~~~(BitVec.ofInt k.bits b)).toNat))
  | .lss=>K (.bool (decide (a < b)))
  | .leq=>K (.bool (decide (a<=b)))
  | .gtr=>K (.bool (decide (a > b)))
  | .geq=>K (.bool (decide (a>=b)))
  | _=>none
def uw{R:Type}(op:BinOp)(k ky:IntKind)(c:Option Bool)(x y:T)(K:T->Option R):Option R:=
 ab c (x.int? k) λa=>ab c (y.int? ky) λb=>
  ab c (if b < 0 then none else some ()) λ_=>
  match op with
  | .shl=>K (.int k (k.wrap (a * 2 ^ (min b.toNat k.bits))))
  | .shr=>K (.int k (a.fdiv (2 ^ (min b.toNat k.bits))))
  | _=>none
def uB{R:Type}(op:BinOp)(c:Option Bool)(x y:T)(K:T->Option R):Option R:=
 ab c x.dU λa=>ab c y.dU λb=>
  match op with
  | .add=>ab c (if a.size+b.size<=4294967296 then some () else none) λ_=>K (.str (a++b))
  | .lss=>K (.bool (Op.bytesLess a.toList b.toList))
  | .leq=>K (.bool (Op.bytesLess a.toList b.toList || a.toList==b.toList))
  | .gtr=>K (.bool (!(Op.bytesLess a.toList b.toList || a.toList==b.toList)))
  | .geq=>K (.bool (!(Op.bytesLess a.toList b.toList)))
  | _=>none
def tI(P:Program)(go:TypeId->Option (List TypeId)):List Field->Nat->Option (List TypeId)
 | [],_=>some []
 | f ::r,off=>if f.offset=off/\f.name≠ "_" then
     (go f.type).bind λl=>if P.cellsOf f.type=l.length/\0 < l.length then(tI P go r (off+l.length)).bind λq=>some (l++q) else none
  else none
def gB(P:Program):Nat->TypeId->Option (List TypeId)
 | 0,_=>none
 | n+1,t=>match P.underlying t with
  | some (.int _) | some .bool | some .string=>some [t]
  | some (.struct a)=>if P.stoodInHeld t then none else tI P (gB P n) a.toList 0
  | some (.array m e)=>(gB P n e).bind λl=>if P.cellsOf e=l.length then some (List.replicate m l).flatten else none
  | _=>none
def kH(P:Program)(s:St)(t:TypeId)(x:AV):Option Bool:=
 match P.underlying t with
 | some (.slice _)=>match x with
  | .t (.ad _ b _)=>some b
  | .t (.aB b)=>some b
  | .own i=>match s.h i with
   | some (.sl _ _ b _)=>some b
   | _=>none
  | _=>none
 | some (.pointer _)=>match x with
  | .t (.ptr _)=>some false
  | .t .ax=>some true
  | .ref _ _=>some false
  | .el _ _ _ _=>some false
  | _=>none
 | some (.func ..)=>match x with
  | .t .y0=>some true
  | .fn _ _ _=>some false
  | _=>none
 | some (.map ..)=>match x with
  | .t .y5=>some true
  | _=>none
 | _=>none
def ql(P:Program)(t:TypeId)(o:Operand):Bool:=
 match P.underlying t,o with
 | some (.slice _), .const (.slice none 0 0)=>true
 | some (.pointer _), .const (.pointer none)=>true
 | some (.func ..), .const .nilFunc=>true
 | some (.map ..), .const (.map none)=>true
 | _,_=>false
def mI{R:Type}(P:Program)(c:Option Bool)(t:TypeId)(x y:T)(K:Bool->Option R):Option R:=
 match P.underlying t with
 | some (.int k)=>ab c (x.int? k) λa=>ab c (y.int? k) λb=>K (a==b)
 | some .bool=>ab c x.bool? λa=>ab c y.bool? λb=>K (a==b)
 | some .string=>ab c x.dU λa=>ab c y.dU λb=>K (a==b)
 | _=>none
def fm{R:Type}(P:Program)(c:Option Bool):List TypeId->List T->List T->(Bool->Option R)->Option R
 | [],[],[],K=>K true
 | t::ts,x::xs,y::a,K=>mI P c t x y λb=>fm P c ts xs a λr=>K (b && r)
 | _,_,_,_=>none
def sV{R:Type}(P:Program)(op:BinOp)(t ty:TypeId)(c:Option Bool)(x y:T)(K:T->Option R):Option R:=
 match op with
 | .shl | .shr=>match tN P t,tN P ty with
  | some k,some ky=>uw op k ky c x y K
  | _,_=>none
 | .eql | .neq=>none
 | op=>match P.underlying t with
  | some (.int k)=>sT op k c x y K
  | some .string=>uB op c x y K
  | _=>none
def rD{R:Type}(P:Program)(c:Option Bool)(t:TypeId)(x y:AV)(K:Bool->Option R):Option R:=
 match x,y with
 | .t x, .t y=>cond (BT P t) (ab c x.dU λa=>ab c y.dU λb=>K (a.toList==b.toList)) (mI P c t x y K)
 | .agg xs, .agg d=>cond (P.eqGuardType P.depth t || !bW P t) none <| (eV xs).bind λxs=>(eV d).bind λd=>(gB P 8 t).bind λts=>fm P c ts xs d K
 | _,_=>none
def uG{R:Type}(P:Program)(op:UnOp)(t:TypeId)(c:Option Bool)(x:T)(K:T->Option R):Option R:=
 match op,P.underlying t with
 | .neg,some (.int k)=>ab c (x.int? k) λa=>K (.int k (k.wrap (0 - a)))
 | .xor,some (.int k)=>ab c (x.int? k) λa=>
   K (.int k (k.wrap (BitVec.ofInt k.bits (if k.signed then -1 else k.max) ^^^ BitVec.ofInt k.bits a).toNat))
 | .not,some .bool=>ab c x.bool? λa=>K (.bool (!a))
 | _,_=>none
open Go
def fX{R:Type}(k:Ck)(c:Option Bool)(x:T)(K:T->Option R):Option R:=
 match k with
 | .i k=>ab c (x.int? k) λn=>K (.int k n)
 | .b=>ab c x.bool? λb=>K (.bool b)
 | .s=>ab c x.dU λs=>K (.str s)
 | .l sz=>ab c (x.aQ sz) λp=>K (.ad sz p.1 p.2)
 | .x=>K x
def fM{R:Type}(c:Option Bool):List Ck->List T->(List T->Option R)->Option R
 | [],xs,K=>K xs
 | _::_,[],K=>K []
 | k::ks,x::xs,K=>fX k c x λy=>fM c ks xs λa=>K (y::a)
def mD(P:Program)(t:TypeId):Ck:=
 match P.underlying t with
 | some (.int k)=> .i k
 | some .bool=> .b
 | some .string=> .s
 | some (.slice e)=> .l (P.cellsOf e)
 | _=> .x
def xP(P:Program):Nat->TypeId->List Ck
 | 0,_=> []
 | n+1,t=>match P.underlying t with
  | some (.struct a)=>a.toList.flatMap λf=>xP P n f.type
  | some (.array m e)=>(List.replicate m (xP P n e)).flatten
  | _=> [mD P t]
def uT(P:Program)(t:TypeId):List Ck:=
 if(xP P 8 t).length=P.cellsOf t then xP P 8 t else List.replicate (P.cellsOf t) .x
inductive cD where
 | f (k:Ck)
 | t (k:Ck)
 | own (sz:Nat)
 | ref (k off:Nat)
 | same (k:Nat)
 | rows (sz col rsz:Nat)
 | mp (ag:Bool) (ks:List Ck) (vk:Ck)
 | new (l:List cD)
 | no
 | agg (l:List cD)
 deriving Inhabited
inductive kQ where
 | box (l:List cD)
 | sl (sz:Nat)
 | mp (ag:Bool) (ks:List Ck) (vk:Ck)
 | dead
 deriving Inhabited
structure DU where
 res:List cD
 outs:List kQ
 deriving Inhabited
structure cR where
 live:FuncId->Nat->Option (List (Nat×Option Nat))
 join:FuncId->Nat->Option (List (Nat×Option Nat))
 sig:FuncId->Option DU
 ji:FuncId->Option (List Bool):=λ_=>none
 deep:FuncId->Bool:=λ_=>false
 Az:FuncId->Nat->DU:=λ_ _=>⟨[],[]⟩
 app:Option Nat->Bool:=λ_=>false
 wr:FuncId->Bool:=λ_=>false
 st:Option Nat->Bool:=λ_=>false
 Ks:Option Nat->TypeId->Bool:=λ_ _=>true
 sx:Option Nat->Bool:=λ_=>false
 ld:Option Nat->Bool:=λ_=>false
 AJ:Option Nat->Bool:=λ_=>false
 s6:Option Nat->TypeId->Bool:=λ_ _=>false
 yQ:Option Nat->TypeId->Bool:=λ_ _=>false
 yP:Option Nat->TypeId->Bool:=λ_ _=>false
 mP:Option Nat->TypeId->Nat:=λ_ _=>0
 ext:FuncId->List AV->List aa->Option (List T):=λ_ _ _=>none
inductive Key where
 | call (f:FuncId)
 | node (f:FuncId) (todo:List Item) (live:List (Nat×Option Nat)) (m:Nat×Nat)
abbrev aq:=Key->List AV->List aa->Option (List T)
def nQ:Nat:=4294967296
mutual
def AV.ids:AV->List Id
 | .top=> []
 | .t _=> []
 | .np vs=>cy vs
 | .agg vs=>cy vs
 | .ref i _=> [i]
 | .el i _ _ _=> [i]
 | .own i=> [i]
 | .part i _ _ _=> [i]
 | .row i _=> [i]
 | .rel i _ _ _ _=> [i]
 | .fn _ a b=>cy a++cy b
def cy:List AV->List Id
 | []=> []
 | v::r=>v.ids++cy r
end
mutual
def AV.rn(m:List Id):AV->AV
 | .top=> .top
 | .t x=> .t x
 | .np vs=> .np (lO m vs)
 | .agg vs=> .agg (lO m vs)
 | .ref i o=> .ref (.c (m.idxOf i)) o
 | .el i sz k o=> .el (.c (m.idxOf i)) sz k o
 | .own i=> .own (.c (m.idxOf i))
 | .part i sz o n=> .part (.c (m.idxOf i)) sz o n
 | .row i n=> .row (.c (m.idxOf i)) n
 | .rel i sz n k o=> .rel (.c (m.idxOf i)) sz n k o
 | .fn f a b=> .fn f (lO m a) (lO m b)
def lO(m:List Id):List AV->List AV
 | []=> []
 | v::r=>v.rn m::lO m r
end
def iN(m:List Id):Option aa->aa
 | some (.box cs)=> .box (lO m cs)
 | some (.arr cs)=> .arr (lO m cs)
 | some b=>b
 | none=> .dead
def fW(h:Id->Option aa):Nat->List Id->List Id->Option (List Id)
 | 0,_,_=>none
 | _+1,[],seen=>some seen
 | n+1,i::todo,seen=>
  cond (seen.contains i) (fW h n todo seen)
   (match h i with
    | some (.box cs)=>fW h n (todo++cy cs) (seen++ [i])
    | some (.arr cs)=>fW h n (todo++cy cs) (seen++ [i])
    | some _=>fW h n todo (seen++ [i])
    | none=>none)
def n6:Nat->List AV->Option (List AV)
 | 0,_=>some []
 | _+1,[]=>none
 | n+1,c::r=>(n6 n r).bind λl=>some (c::l)
def cH{α:Type}(off:Nat)(new a:List α):List α:=a.take off++new++a.drop (off+new.length)
def cP(n:Nat):List Row->Option (Bool×List (List T))
 | []=>none
 | e::r=>if e.n=n then e.own else cP n r
def dG(n:Nat)(p:Option (Bool×List (List T))):List Row->List Row
 | []=> []
 | e::r=>if e.n=n then{e with own:=p}::r else e::dG n p r
def na{R:Type}(h:Id->Option aa)(c:Option Bool)(i:Id)(n:Nat)(K:Nat->Bool->List (List T)->Option R):Option R:=
 match h i with
 | some (.rows _ _ _ rsz _ es)=>ab c (cP n es) λp=>K rsz p.1 p.2
 | _=>none
def mf{R:Type}(P:Program)(t:TypeId)(c:Option Bool)(cs:List T)(K:AV->Option R):Option R:=
 cond (bW P t) (qA c (P.cellsOf t) cs λl=>fM c (uT P t) l λl=>K (.agg (l.map .t))) (ab c cs.head? λx=>fX (mD P t) c x λx=>K (.t x))
def nR{R:Type}(P:Program)(t:TypeId)(cs:List AV)(K:AV->Option R):Option R:=
 cond (bW P t) ((n6 (P.cellsOf t) cs).bind λl=>K (.agg l)) (cs.head?.bind K)
def tP{R:Type}(P:Program)(t:TypeId)(c:Option Bool)(i:Id)(sz col off:Nat)(e:Row)(K:AV->Option R):Option R:=
 cond (bW P t)
  (if off=0/\P.cellsOf t=sz then qA c sz e.cs λl=>fM c ((uT P t).set col .x) l λl=>K (.agg ((l.map .t).set col (.row i e.n))) else none)
  (if off=col then K (.row i e.n) else ab c (e.cs.drop off).head? λx=>fX (mD P t) c x λx=>K (.t x))
def ix{R:Type}(P:Program)(s:St)(c:Option Bool)(t:TypeId)(a:AV)(K:AV->Option R):Option R:=
 cond (cx P t) (match a with
 | .ref i off=>match s.h i with
  | some (.box cs)=>nR P t (cs.drop off) K
  | some (.dy l)=>mf P t c (l.drop off) K
  | _=>none
 | .el i sz k off=>match s.h i with
  | some (.sl _ b _ xs)=>if b=sz then ab c xs[k]? λcs=>mf P t c (cs.drop off) K else none
  | some (.rows _ b col _ _ es)=>if b=sz then ab c es[k]? λe=>tP P t c i sz col off e K else none
  | _=>none
 | .rel i sz n k off=>na s.h c i n λrsz _ xs=>if rsz=sz then ab c xs[k]? λcs=>mf P t c (cs.drop off) K else none
 | .t x=>ab c x.sf λcs=>mf P t c cs K
 | _=>none) none
def iq(v:AV):List AV:=
 match v with
 | .agg vs=>vs
 | .fn f [] []=> [.t (.cQ f)]
 | v=> [v]
def rp:AV->Bool
 | .agg _ | .np _ | .top=>false
 | _=>true
def iZ(k off:Nat)(l:List T)(xs:List (List T)):Option (List (List T)):=
 match xs[k]? with
 | some cs=>if off+l.length<=cs.length then some (xs.set k (cH off l cs)) else none
 | none=>none
def jU{R:Type}(P:Program)(s:St)(t:TypeId)(a v:AV)(K:aH->Option R):Option R:=
 cond (cx P t) (match a with
 | .ref i off=>match s.h i with
  | some (.box cs)=>
   if(iq v).length=P.cellsOf t/\(iq v).all rp/\off+ (iq v).length<=cs.length then K [(i, .box (cH off (iq v) cs))] else none
  | _=>none
 | .el i sz k off=>match s.h i with
  | some (.sl false d b xs)=>(mq s.h v).bind λl=>
    if d=sz/\l.length=P.cellsOf t/\v.ids.contains i=false then
     ab none (iZ k off l xs) λm=>K ((i, .sl false sz b m)::iw s.h v) else none
  | some (.rows b d col rsz f es)=>match v with
   | .own j=>match s.h j with
    | some (.sl false g b' xs)=>
     if d=sz/\off=col/\g=rsz/\P.cellsOf t=1/\bW P t=false then
      ab none es[k]? λe=>K [(j, .dead),(i, .rows b sz col rsz (f+1) (es.set k ⟨f,e.cs,some (b',xs)⟩))] else none
    | _=>none
   | _=>none
  | _=>none
 | .rel i sz n k off=>match s.h i with
  | some (.rows b d col rsz f es)=>ab none (cP n es) λp=>(mq s.h v).bind λl=>
    if rsz=sz/\l.length=P.cellsOf t/\v.ids.contains i=false then
     ab none (iZ k off l p.2) λm=>K ((i, .rows b d col rsz f (dG n (some (p.1,m)) es))::iw s.h v) else none
  | _=>none
 | _=>none) none
def vU:List (Nat×List AV)->List AV->Option (List AV)
 | [],z=>some z
 | (off,l)::r,z=>if off+l.length<=z.length then vU r (cH off l z) else none
def wH(P:Program)(t:TypeId)(f:Nat):Option (Nat×TypeId):=
 match vH P t f with
 | some p=>some p
 | none=>match xJ P t with
  | some (_,u)=>some (f * P.cellsOf u,u)
  | none=>none
def qv(P:Program)(t:TypeId)(ev:Operand->AV):List (Nat×Operand)->Option (List (Nat×List AV))
 | []=>some []
 | (f,o)::r=>(wH P t f).bind λp=>
   if(iq (ev o)).length=P.cellsOf p.2/\(iq (ev o)).all rp then(qv P t ev r).bind λq=>some ((p.1,iq (ev o))::q) else none
def xO(P:Program)(t:TypeId)(ev:Operand->AV)(a:List (Nat×Operand)):Option AV:=
 if sc P t then
 (jv P t).bind λz=>(qv P t ev a).bind λl=>(vU l (z.map .t)).bind λcs=>some (.agg cs)
 else none
def jl(P:Program)(h:Id->Option aa)(e:TypeId)(ev:Operand->AV):Nat->List (Nat×Operand)->Option (List (List T)×aH)
 | _,[]=>some ([],[])
 | n,(k,o)::r=>(mq h (ev o)).bind λl=>if k=n/\l.length=P.cellsOf e then
    (jl P h e ev (n+1) r).bind λq=>some (l::q.1,iw h (ev o)++q.2)
  else none
def lI{R:Type}(c:Option Bool)(i:Int)(n:Nat)(K:Option R):Option R:=ab c (if 0<=i/\i < n then some () else none) λ_=>K
def kG{R:Type}(P:Program)(s:St)(c:Option Bool)(t:TypeId)(x:AV)(i:Int)(K:AV->Option R):Option R:=
 match ou P t with
 | some e=>match x with
  | .own j=>match s.h j with
   | some (.sl _ sz _ xs)=>if sz=P.cellsOf e then lI c i xs.length (K (.el j sz i.toNat 0)) else none
   | some (.rows _ sz _ _ _ es)=>if sz=P.cellsOf e then lI c i es.length (K (.el j sz i.toNat 0)) else none
   | _=>none
  | .row j n=>na s.h c j n λrsz _ xs=>if rsz=P.cellsOf e then lI c i xs.length (K (.rel j rsz n i.toNat 0)) else none
  | .part j sz off n=>match s.h j with
   | some (.sl _ a _ _)=>if sz=P.cellsOf e/\a=sz then lI c i n (K (.el j sz (off+i.toNat) 0)) else none
   | _=>none
  | .t y=>ab c (y.aQ (P.cellsOf e)) λp=>lI c i p.2.length (ab c p.2[i.toNat]? λcs=>K (.t (.ptr cs)))
  | _=>none
 | none=>match xJ P t with
  | some (n,e)=>lI c i n (match x with
   | .ref j off=>K (.ref j (off+i.toNat * P.cellsOf e))
   | .el j sz k off=>K (.el j sz k (off+i.toNat * P.cellsOf e))
   | .t y=>ab c y.sf λcs=>K (.t (.ptr (cs.drop (i.toNat * P.cellsOf e))))
   | _=>none)
  | none=>none
def tF{R:Type}(P:Program)(c:Option Bool)(t:TypeId)(x:AV)(f:Nat)(K:AV->Option R):Option R:=
 match vH P t f with
 | some (off,u)=>if P.cellsOf u=0 then none else
  match x with
  | .ref j o=>K (.ref j (o+off))
  | .el j sz k o=>K (.el j sz k (o+off))
  | .rel j sz n k o=>K (.rel j sz n k (o+off))
  | .t y=>ab c y.sf λcs=>K (.t (.ptr (cs.drop off)))
  | _=>none
 | none=>none
def tE{R:Type}(P:Program)(t:TypeId)(x:AV)(f:Nat)(K:AV->Option R):Option R:=
 match vH P t f with
 | some (off,u)=>match x with
  | .agg vs=>nR P u (vs.drop off) K
  | _=>none
 | none=>none
def oI{R:Type}(P:Program)(s:St)(c:Option Bool)(t:TypeId)(x:AV)(K:AV->Option R):Option R:=
 match P.underlying t with
 | some .string=>match x with
  | .t y=>ab c y.dU λb=>K (.t (.int .i64 b.size))
  | _=>none
 | some (.array n _)=>K (.t (.int .i64 n))
 | some (.slice e)=>match x with
  | .own j=>match s.h j with
   | some (.sl _ _ _ xs)=>K (.t (.int .i64 xs.length))
   | some (.rows _ _ _ _ _ es)=>K (.t (.int .i64 es.length))
   | _=>none
  | .row j n=>na s.h c j n λ_ _ xs=>K (.t (.int .i64 xs.length))
  | .part _ _ _ n=>K (.t (.int .i64 n))
  | .t y=>ab c (y.aQ (P.cellsOf e)) λp=>K (.t (.int .i64 p.2.length))
  | _=>none
 | _=>none
def jH{R:Type}(s:St)(c:Option Bool)(g:Option Gs)(o:Option Operand)(K:Option Int->Option R):Option R:=
 match o with
 | none=>K none
 | some o=>(s.get g o).t?.bind λx=>ab c (anyInt x) λn=>K (some n)
where
 anyInt:T->Option Int
  | .int _ n=>some n
  | _=>none
def iI(b a n:Int):Option Unit:=if 0<=b/\b<=a/\a<=n then some () else none
def sub(a b:Int)(xs:List (List T)):List (List T):=(xs.drop a.toNat).take (b.toNat - a.toNat)
def zX(b a m:Int):Option Unit:=if b=0/\a=0/\m=0 then some () else none
def yL:T->Bool
 | .aB true=>true
 | .ad _ true []=>true
 | _=>false
def o7{R:Type}(P:Program)(s:St)(c:Option Bool)(t:TypeId)(x:AV)(a d f:Option Int)(K:AV->Option R):Option R:=
 match P.underlying t with
 | some .string=>match x,f with
  | .t y,none=>ab c y.dU λb=>
    ab c (iI (a.getD 0) (d.getD b.size) b.size) λ_=>K (.t (.str (b.extract (a.getD 0).toNat (d.getD b.size).toNat)))
  | _,_=>none
 | some (.slice e)=>match f with
  | none=>match x with
   | .own j=>match s.h j with
    | some (.sl _ sz _ xs)=>if sz=P.cellsOf e/\cx P e=true then
      ab c (iI (a.getD 0) (d.getD xs.length) xs.length) λ_=>
      K (.part j sz (a.getD 0).toNat ((d.getD xs.length).toNat - (a.getD 0).toNat)) else none
    | _=>none
   | .part j sz off n=>match s.h j with
    | some (.sl _ g _ _)=>if sz=P.cellsOf e/\g=sz/\cx P e=true then
      ab c (iI (a.getD 0) (d.getD n) n) λ_=>
      K (.part j sz (off+ (a.getD 0).toNat) ((d.getD n).toNat - (a.getD 0).toNat)) else none
    | _=>none
   | .t y=>if cx P e=true then ab c (y.aQ (P.cellsOf e)) λp=>
     ab c (iI (a.getD 0) (d.getD p.2.length) p.2.length) λ_=>
     K (.t (.ad (P.cellsOf e) p.1 (sub (a.getD 0) (d.getD p.2.length) p.2))) else none
   | _=>none
  | some m=>match x with
   | .t y=>if cx P e=true then ab c (y.aQ (P.cellsOf e)) λp=>ab c (zX (a.getD 0) (d.getD 1) m) λ_=>K (.t (.aB p.1)) else none
   | .own j=>match s.h j with
    | some (.sl _ _ b _)=>if cx P e=false then none else ab c (zX (a.getD 0) (d.getD 1) m) λ_=>K (.t (.aB b))
    | _=>none
   | _=>none
 | _=>none
def nT(n m:Int):Option Unit:=if 0<=n/\n<=m/\m<=nQ then some () else none
def nv{R:Type}(P:Program)(s:St)(t:TypeId)(sz:Nat)(a:List T)(y:AV)(K:List (List T)->Option R):Option R:=
 match P.underlying t with
 | some (.slice _)=>(ei s.h y).bind λx=>ab none (x.aQ sz) λp=>K p.2
 | some .string=>if sz=1 then y.t?.bind λx=>ab none x.dU λb=>K (b.data.toList.map λu=> [.int .u8 u.toNat]) else none
 | some (.int _)=>y.t?.bind λx=>ab none (x.int? .i64) λn=>ab none (nT n n) λ_=>K (List.replicate n.toNat a)
 | _=>none
def pV(a n:Nat):Prop:=n<=nQ\/(0 < a/\n * a<=140737488355328)
instance (bs n:Nat):Decidable (pV bs n):=inferInstanceAs (Decidable (_\/_))
def bA(a n:Nat):Option Unit:=if pV a n then some () else none
def IB:T->Option Bool
 | .aB b=>some b
 | .ad _ b xs=>cond (b && xs.isEmpty) (some true) none
 | _=>none
def CV(h:Id->Option aa):AV->Option (Id×Nat×Nat×Nat×Nat×List Row)
 | .own i=>match h i with
  | some (.rows _ sz col rsz a es)=>some (i,sz,col,rsz,a,es)
  | _=>none
 | _=>none
def Cz(h:Id->Option aa):AV->Option (Id×List AV)
 | .own j=>match h j with
  | some (.arr cs)=>some (j,cs)
  | _=>none
 | _=>none
def qX{R:Type}(P:Program)(s:St)(d:Nat)(e:TypeId)(i:Id)(sz col rsz f:Nat)(es:List Row)(j:Id)(cs:List AV)(K:AV->aH->Option R):Option R:=
 if sz=P.cellsOf e/\cs.length=sz/\col < sz/\i≠j then
  (eV (cs.set col (.t .ax))).bind λl=>match cs[col]? with
   | some (.own o)=>match s.h o with
    | some (.sl false m b' xs)=>if m=rsz then
      ab none (bA (P.bytesOf e) (es.length+1)) λ_=>
      K (.own (.s d 0)) [(i, .dead),(j, .dead),(o, .dead),(.s d 0, .rows false sz col rsz (f+1) (es++ [⟨f,l,some (b',xs)⟩]))] else none
    | _=>none
   | some (.row a n)=>match s.h a with
    | some (.rows u r k b q g)=>if b=rsz/\a≠i then
      ab none (cP n g) λp=>ab none (bA (P.bytesOf e) (es.length+1)) λ_=>
      K (.own (.s d 0)) [(i, .dead),(j, .dead),(a, .rows u r k b q (dG n none g)),(.s d 0, .rows false sz col rsz (f+1) (es++ [⟨f,l,some p⟩]))] else none
    | _=>none
   | _=>none
 else none
def l4{R:Type}(P:Program)(s:St)(d:Nat)(rw:Bool)(t ty:TypeId)(x y:AV)(K:AV->aH->Option R):Option R:=
 (ou P t).bind λe=>(jv P e).bind λk=>
 if P.bytesOf e<=8192/\k.length=P.cellsOf e then
 match cond rw (CV s.h x) none,cond rw (Cz s.h y) none with
 | some (i,sz,col,rsz,l,es),some (j,cs)=>match P.underlying ty with
  | some (.slice _)=>qX P s d e i sz col rsz l es j cs K
  | _=>none
 | _,_=>
 nv P s ty (P.cellsOf e) k y λa=>
 match x with
 | .own i=>match s.h i with
  | some (.sl false f b xs)=>if f=P.cellsOf e then
    ab none (bA (P.bytesOf e) (xs.length+a.length)) λ_=>
    K (.own (.s d 0)) [(.s d 0, .sl false (P.cellsOf e) (b && a.isEmpty) (xs++a)),(i, .dead)] else none
  | _=>none
 | .part i g off n=>match s.h i with
  | some (.sl false f b xs)=>if f=P.cellsOf e/\g=P.cellsOf e then
    ab none (bA (P.bytesOf e) (n+a.length)) λ_=>
    K (.own (.s d 0)) [(.s d 0, .sl false (P.cellsOf e) (b && a.isEmpty) ((xs.drop off).take n++a)),(i, .dead)] else none
  | _=>none
 | .t z=>(IB z).bind λb=>ab none (bA (P.bytesOf e) a.length) λ_=>
    K (.own (.s d 0)) [(.s d 0, .sl false (P.cellsOf e) (b && a.isEmpty) a)]
 | _=>none
 else none
def rX(n:Nat):List Row:=(List.range n).map λk=>⟨k,[.ax],some (true,[])⟩
def tR{R:Type}(P:Program)(d:Nat)(t:TypeId)(mP:Nat)(n m:T)(K:AV->aH->Option R):Option R:=
 (ou P t).bind λe=>(jv P e).bind λa=>
 ab none (n.int? .i64) λn=>ab none (m.int? .i64) λm=>
 if P.bytesOf e<=8192/\a.length=P.cellsOf e then
 ab none (nT n m) λ_=>
  cond (mP==2) (match P.underlying e,a with
   | some (.slice u),[.aB true]=>if P.cellsOf e=1 then K (.own (.s d 0)) [(.s d 0, .rows false 1 0 (P.cellsOf u) n.toNat (rX n.toNat))] else none
   | _,_=>none)
   (K (.own (.s d 0)) [(.s d 0, .sl false (P.cellsOf e) false (List.replicate n.toNat a))])
 else none
def mm(d:Bool)(a b:Int):Int:=cond d (if b > a then b else a) (if b < a then b else a)
def qh{R:Type}(k:IntKind)(c:Option Bool)(d:Bool):Int->List T->(T->Option R)->Option R
 | a,[],K=>K (.int k a)
 | a,y::r,K=>ab c (y.int? k) λb=>qh k c d (mm d a b) r K
def tc{R:Type}(P:Program)(c:Option Bool)(src a:TypeId)(x:T)(K:T->Option R):Option R:=
 match P.underlying src,P.underlying a with
 | some (.int k),some (.int d)=>ab c (x.int? k) λn=>K (.int d (d.wrap n))
 | some .string,some .string=>ab c x.dU λb=>K (.str b)
 | _,_=>none
def bytesOf:List (List T)->Option (List UInt8)
 | []=>some []
 | cs::r=>cs.head?.bind λx=>(x.int? .u8).bind λn=>(bytesOf r).bind λl=>some (UInt8.ofNat n.toNat::l)
def nY:Ck->Bool
 | .i _ | .b | .s=>true
 | _=>false
def tT(P:Program)(t:TypeId):Option (TypeId×TypeId):=
 match P.underlying t with
 | some (.map k e)=>cond (cx P k && cx P e) (some (k,e)) none
 | _=>none
def DO(P:Program)(t:TypeId):Option T:=
 match P.info? t with
 | some i=>match i.zero with
  | some v=>qo v
  | none=>none
 | none=>none
def mc(P:Program)(k:TypeId):Option (Bool×List Ck):=
 match P.underlying k with
 | some (.int i)=>some (false,[.i i])
 | some .string=>some (false,[.s])
 | some (.array n e)=>match P.underlying e with
  | some (.int i)=>if P.cellsOf e=1/\n<=8 then some (true,List.replicate n (.i i)) else none
  | _=>none
 | _=>none
def qc{R:Type}(P:Program)(k:TypeId)(c:Option Bool)(v:AV)(K:Bool->List Ck->List T->Option R):Option R:=
 (mc P k).bind λq=>match q.1,v with
  | false, .t x=>fM c q.2 [x] λcs=>K false q.2 cs
  | true, .agg vs=>(eV vs).bind λl=>if l.length=q.2.length then fM c q.2 l λcs=>K true q.2 cs else none
  | _,_=>none
def oJ{R:Type}(P:Program)(s:St)(c:Option Bool)(t:TypeId)(x key:AV)(ok:Bool)(K:AV->Option R):Option R:=
 (tT P t).bind λq=>(DO P q.2).bind λz=>qc P q.1 c key λag ks cs=>match x with
  | .own i=>match s.h i with
   | some (.mp a b vk es)=>if a=ag/\b=ks/\mD P q.2=vk/\nY vk=true/\bW P q.2=false then
     fX vk c ((iv cs es).getD z) λv=>K (cond ok (.np [.t v, .t (.bool (iv cs es).isSome)]) (.t v)) else none
   | _=>none
  | _=>none
def tS{R:Type}(P:Program)(d:Nat)(t:TypeId)(K:AV->aH->Option R):Option R:=
 (tT P t).bind λq=>(mc P q.1).bind λp=>if nY (mD P q.2)=true then K (.own (.s d 0)) [(.s d 0, .mp p.1 p.2 (mD P q.2) [])] else K (.t .any) [(.s d 0, .dead)]
def oQ{R:Type}(P:Program)(s:St)(t:TypeId)(x key v:AV)(K:aH->Option R):Option R:=
 (tT P t).bind λq=>qc P q.1 none key λag ks cs=>match x with
  | .own i=>match s.h i with
   | some (.mp a b vk es)=>if a=ag/\b=ks/\mD P q.2=vk/\nY vk=true then
     v.t?.bind λv=>fX vk none v λv=>K [(i, .mp ag ks vk (jr cs v es))] else none
   | _=>none
  | _=>none
def mG(key:List T):List (List T×T)->List (List T×T)
 | []=> []
 | p::r=>cond (eZ key p.1) r (p::mG key r)
def ot{R:Type}(P:Program)(s:St)(t:TypeId)(x key:AV)(K:aH->Option R):Option R:=
 (tT P t).bind λq=>qc P q.1 none key λag ks cs=>match x with
  | .own i=>match s.h i with
   | some (.mp a b vk es)=>if a=ag/\b=ks then K [(i, .mp ag ks vk (mG cs es))] else none
   | _=>none
  | _=>none
def lf(a b:Bool)(h:Id->Option aa):AV->Option (T×aH)
 | .ref i off=>cond a (match h i with
  | some (.box cs)=>(cond b (wX h (cs.drop off)) (eV (cs.drop off))).bind λl=>some (.ptr l,[])
  | some (.dy l)=>some (.ptr (l.drop off),[])
  | _=>none) ((ei h (.ref i off)).bind λx=>some (x,iH h (.ref i off)))
 | v=>(ei h v).bind λx=>some (x,cond a [] (iH h v))
def nw(b a:Bool)(h:Id->Option aa):List AV->Option (List T×aH)
 | []=>some ([],[])
 | v::r=>(lf b a h v).bind λp=>(nw b a h r).bind λq=>some (p.1::q.1,p.2++q.2)
def mz(e d:Bool)(h:Id->Option aa):AV->Option (AV×aH)
 | .fn f a b=>(nw e d h a).bind λx=>(nw e d h b).bind λy=>some (.fn f (x.1.map .t) (y.1.map .t),x.2++y.2)
 | .agg vs=>(nw e d h vs).bind λx=>some (.agg (x.1.map .t),x.2)
 | v=>(lf e d h v).bind λp=>some (.t p.1,p.2)
def mA(b a:Bool)(h:Id->Option aa):List AV->Option (List AV×aH)
 | []=>some ([],[])
 | v::r=>(mz b a h v).bind λp=>(mA b a h r).bind λq=>some (p.1::q.1,p.2++q.2)
def yw(P:Program):Nat->TypeId->Bool
 | 0,_=>false
 | n+1,t=>match P.underlying t with
  | some (.int _) | some .bool | some .string=>true
  | some (.struct a)=>a.toList.all λf=>yw P n f.type
  | some (.array _ e)=>yw P n e
  | _=>false
def uk(e:Row):T:=match e.own with
 | some p=> .ad 0 p.1 p.2
 | none=> .ax
def bu(b:Bool)(es:List Row):T:= .ad 2 b (es.map λe=> [.ptr e.cs,uk e])
def ry:Nat->List (List T)->Option (List Row)
 | _,[]=>some []
 | n,[.ptr cs, .ad _ b xs]::r=>(ry (n+1) r).bind λl=>some (⟨n,cs,some (b,xs)⟩::l)
 | _,_=>none
def kC:T->Option (Bool×List Row)
 | .ad _ b xs=>(ry 0 xs).bind λl=>some (b,l)
 | _=>none
def bf(es:List Row):Bool:=es.all λe=>e.own.isSome
def Ht:cD->Bool
 | .rows _ _ _=>true
 | _=>false
def aM(es:List (List T×T)):T:= .ad 2 false (es.map λp=> [.ptr p.1,p.2])
def vt:List (List T)->Option (List (List T×T))
 | []=>some []
 | [.ptr k,v]::r=>(vt r).bind λl=>some ((k,v)::l)
 | _=>none
def jJ:T->Option (List (List T×T))
 | .ad _ _ xs=>vt xs
 | _=>none
def nD{R:Type}(ids:List Id)(d:Nat)(c:Option Bool)(j:Nat)(r:cD)(x:T)(K:AV->aH->Nat->Option R):Option R:=
 match r with
 | .f k=>fX k c x λx=>K (.t x) [] j
 | .t k=>fX k c x λx=>K (.t x) [] j
 | .own sz=>match c with
  | none=>ab none (x.aQ sz) λp=>K (.own (.s d j)) [(.s d j, .sl false sz p.1 p.2)] (j+1)
  | some _=>none
 | .ref k off=>match ids[k]? with
  | some i=>K (.ref i off) [] j
  | none=>none
 | .same k=>match ids[k]? with
  | some i=>K (.own i) [] j
  | none=>none
 | .rows sz col rsz=>match c with
  | none=>ab none (kC x) λp=>K (.own (.s d j)) [(.s d j, .rows p.1 sz col rsz p.2.length p.2)] (j+1)
  | some _=>none
 | .mp ag ks vk=>match c with
  | none=>ab none (jJ x) λes=>K (.own (.s d j)) [(.s d j, .mp ag ks vk es)] (j+1)
  | some _=>none
 | .no=>K .top [] j
 | .agg _=>none
 | .new _=>none
def lD{R:Type}(ids:List Id)(d:Nat)(c:Option Bool):Nat->List cD->List T->(List AV->aH->Nat->Option R)->Option R
 | j,[],_,K=>K [] [] j
 | j,r::rs,xs,K=>ab c xs.head? λx=>nD ids d c j r x λv u j=>lD ids d c j rs xs.tail λvs us j=>K (v::vs) (u++us) j
def cD.size:cD->Nat
 | .agg l=>l.length
 | .new l=>l.length
 | _=>1
def eO{R:Type}(ids:List Id)(d:Nat)(c:Option Bool):Nat->List cD->List T->(List AV->aH->Nat->Option R)->Option R
 | j,[],_,K=>K [] [] j
 | j,r::rs,xs,K=>match r with
  | .agg l=>lD ids d c j l xs λv u j=>eO ids d c j rs (xs.drop l.length) λvs us j=>K (AV.agg v::vs) (u++us) j
  | .new l=>match c with
   | none=>lD ids d c j l xs λv u j=>eO ids d c (j+1) rs (xs.drop l.length) λvs us a=>K (AV.ref (.s d j) 0::vs) (u++ [(.s d j, .box v)] ++us) a
   | some _=>none
  | r=>ab c xs.head? λx=>nD ids d c j r x λv u j=>eO ids d c j rs xs.tail λvs us j=>K (v::vs) (u++us) j
def nZ:List cD->Nat
 | []=>0
 | r::rs=>r.size+nZ rs
def gV{R:Type}(all:List Id)(d:Nat):Nat->List Id->List kQ->List T->(aH->Option R)->Option R
 | j,i::a, .box l::r,xs,K=>lD all d none j l xs λv u j=>gV all d j a r (xs.drop l.length) λq=>K (u++ (i, .box v)::q)
 | j,i::a, .sl sz::r,xs,K=>ab none (xs.head?.bind (T.aQ sz)) λp=>gV all d j a r xs.tail λq=>K ((i, .sl false sz p.1 p.2)::q)
 | j,i::a, .mp ag ks vk::r,xs,K=>ab none (xs.head?.bind jJ) λes=>gV all d j a r xs.tail λq=>K ((i, .mp ag ks vk es)::q)
 | j,_::a, .dead::r,xs,K=>gV all d j a r xs K
 | _,[],[],_,K=>K []
 | _,_,_,_,_=>none
def mX:List AV->AV
 | [v]=>v
 | vs=> .np vs
def MD(P:Program)(t:TypeId):cD:=cond (bW P t) (.agg ((uT P t).map λk=>cond (yw P 8 t) (.f k) (.t k))) (cond (yw P 8 t) (.f (mD P t)) (.t (mD P t)))
def tH:cD->Bool
 | .f _=>true
 | .agg l=>l.all λr=>match r with
  | .f _=>true
  | _=>false
 | _=>false
def dN(P:Program)(A:cR)(f:FuncId)(n:Nat)(fn:Func):List cD:=
 match A.ji f with
 | some _=>(A.Az f n).res
 | none=>match A.sig f with
  | some a=>a.res
  | none=>fn.resultTypes.toList.map (MD P)
def iM(A:cR)(f:FuncId)(n:Nat):List kQ:=
 match A.ji f with
 | some _=>(A.Az f n).outs
 | none=> []
def Sc:AV->Bool
 | .own _=>true
 | .part _ _ _ _=>true
 | _=>false
def iF:Option aa->Nat
 | some (.box cs)=>cs.length+1000 * (cs.filter Sc).length
 | _=>0
def fy(c:Option Bool)(m:Option (List T)):Option (List T):=
 match c with
 | none=>m
 | some b=>cond b m (some [])
def n7{R:Type}(P:Program)(c:Option Bool)(t:TypeId)(v:AV)(K:AV->Option R):Option R:=
 match v with
 | .t x=>fX (mD P t) c x λy=>K (.t y)
 | .agg vs=>match eV vs with
  | some l=>fM c (uT P t) l λl=>K (.agg (l.map .t))
  | none=>K (.agg vs)
 | v=>K v
def jW{R:Type}(P:Program)(c:Option Bool):List TypeId->List AV->(List AV->Option R)->Option R
 | [],vs,K=>K vs
 | _::_,[],K=>K []
 | t::ts,v::vs,K=>n7 P c t v λu=>jW P c ts vs λus=>K (u::us)
def AB:List Bool->List AV->List Id
 | b::a,v::vs=>cond b v.ids [] ++AB a vs
 | _,_=> []
def uY(h:Id->Option aa)(eQ:List Id)(b:Bool)(v:AV):Option (AV×aH):=
 cond (b || (!v.ids.isEmpty && v.ids.all eQ.contains)) (some (v,[])) (mz false false h v)
def ny(h:Id->Option aa)(eQ:List Id):List Bool->List AV->Option (List AV×aH)
 | _,[]=>some ([],[])
 | a,v::r=>(uY h eQ (a.headD false) v).bind λp=>(ny h eQ a.tail r).bind λq=>some (p.1::q.1,p.2++q.2)
def Su(sz col rsz:Nat):Nat:=100000+1000 * sz+100 * col+rsz
def ug(h:Id->Option aa)(new i:Id)(k sz col rsz:Nat):Option aH:=
 match h i with
 | some (.box cs)=>match cs[k]? with
  | some (.own _)=>some []
  | some (.t (.aB b))=>cond (h new).isNone (some [(new, .rows b sz col rsz 0 []),(i, .box (cs.set k (.own new)))]) none
  | some (.t (.ad _ true []))=>cond (h new).isNone (some [(new, .rows true sz col rsz 0 []),(i, .box (cs.set k (.own new)))]) none
  | _=>none
 | _=>none
def qu(h:Id->Option aa)(new i:Id)(k sz:Nat):Option aH:=
 cond (Nat.ble 100000 sz) (ug h new i k (sz % 100000 / 1000) (sz % 1000 / 100) (sz % 100)) <|
 match h i with
 | some (.box cs)=>match cs[k]? with
  | some (.own _)=>some []
  | some (.t (.aB b))=>cond (h new).isNone (some [(new, .sl false sz b []),(i, .box (cs.set k (.own new)))]) none
  | some (.t (.ad _ true []))=>cond (h new).isNone (some [(new, .sl false sz true []),(i, .box (cs.set k (.own new)))]) none
  | some (.part j d 0 n)=>match h j with
   | some (.sl false a b xs)=>if a=sz/\d=sz/\j≠i then cond (h new).isNone (some [(j, .dead),(new, .sl false sz b (xs.take n)),(i, .box (cs.set k (.own new)))]) none else none
   | _=>none
  | _=>none
 | _=>none
def lK(nm:Nat):Nat->(Id->Option aa)->List (Id×Nat×Nat)->Option aH
 | _,_,[]=>some []
 | j,h,(i,k,sz)::r=>(qu h (.s nm j) i k sz).bind λus=>(lK nm (j+1) (aP h us) r).bind λvs=>some (us++vs)
def rz:List Id->List Id->List Id
 | [],_=> []
 | i::r,seen=>cond (seen.contains i) (rz r seen) (i::rz r (i::seen))
def oU(i:Id):Nat->List cD->List (Id×Nat×Nat)
 | _,[]=> []
 | k, .own sz::r=>(i,k,sz)::oU i (k+1) r
 | k, .rows sz col rsz::r=>(i,k,Su sz col rsz)::oU i (k+1) r
 | k,_::r=>oU i (k+1) r
def oV:List Id->List kQ->List (Id×Nat×Nat)
 | i::a, .box l::r=>oU i 0 l++oV a r
 | _::a,_::r=>oV a r
 | _,_=> []
def lC(l:List Id):aH:=l.map λi=>(i, .dead)
def y7(d:Nat)(l:List Id):Bool:=l.all λi=>match i with
 | .s a _=> !(a==d)
 | .c _=>true
 | .g _ _=>false
def il{R:Type}(P:Program)(A:cR)(O:aq)(s:St)(d:Nat)(c:Option Bool)(f:FuncId)(args:List AV)(K:AV->aH->Option R):Option R:=
 match P.funcs[f]? with
 | none=>none
 | some fn=>
  match A.ji f with
  | none=>(mA ((dN P A f 0 fn).all tH) (A.deep f) s.h args).bind λp=>
   jW P c fn.params.toList p.1 λq=>ab none (fy c (O (.call f) q [])) λxs=>eO [] d c 0 (dN P A f 0 fn) xs λvs u _=>K (mX vs) (p.2++u)
  | some a=>match c with
   | some _=>none
   | none=>(ny s.h (AB a args) a args).bind λp=>
    (lK (2000000+d) 0 (aP s.h p.2) (oV (rz (cy p.1) []) (iM A f (iF ((cy p.1).head?.bind (aP s.h p.2)))))).bind λus=>
    (fW (aP (aP s.h p.2) us) 1000 (cy p.1) []).bind λseen=>
    cond (y7 d seen && Nat.beq (iF (seen.map λi=>iN seen (aP (aP s.h p.2) us i)).head?) (iF ((cy p.1).head?.bind (aP s.h p.2)))) (jW P none fn.params.toList (lO seen p.1) λq=>
     ab none (O (.call f) q (seen.map λi=>iN seen (aP (aP s.h p.2) us i))) λxs=>
     eO seen d none 0 (dN P A f (iF ((cy p.1).head?.bind (aP s.h p.2))) fn) xs λvs u j=>
     gV seen d j seen (iM A f (iF ((cy p.1).head?.bind (aP s.h p.2)))) (xs.drop (nZ (dN P A f (iF ((cy p.1).head?.bind (aP s.h p.2))) fn))) λq=>
     K (mX vs) (p.2++us++lC seen++u++q)) none
def js:List AV->Option (List AV×Id×Nat×List AV)
 | []=>none
 | .row i n::r=>some ([],i,n,r)
 | v::r=>(js r).bind λq=>some (v::q.1,q.2.1,q.2.2.1,q.2.2.2)
def tU(n:Nat):List Row->Option Unit
 | []=>none
 | e::r=>if e.n=n then(match e.own with | none=>some () | some _=>none) else tU n r
def uZ{R:Type}(h:Id->Option aa)(i new:Id)(n rsz:Nat)(K:aH->Option R):Option R:=
 match h i,h new with
 | some (.rows b sz col d e es),some (.sl false a b' xs)=>if d=rsz/\a=rsz then
   ab none (tU n es) λ_=>K [(i, .rows b sz col rsz e (dG n (some (b',xs)) es)),(new, .dead)] else none
 | _,_=>none
def HW:Operand->Bool
 | .func _=>false
 | _=>true
def kz{R:Type}(iL:Bool)(P:Program)(A:cR)(O:aq)(s:St)(d:Nat)(c:Option Bool)(f:FuncId)(args:List AV)(K:AV->aH->Option R):Option R:=
 match cond iL (js args) none with
 | none=>il P A O s d c f args K
 | some (g,i,n,j)=>match c,s.h i with
  | none,some (.rows b sz col rsz a es)=>ab none (cP n es) λp=>
    cond (s.h (.s (2500000+d) 0)).isNone
     (il P A O {t:=s.t,h:=aP s.h [(i, .rows b sz col rsz a (dG n none es)),(.s (2500000+d) 0, .sl false rsz p.1 p.2)]} d none f (g++ .own (.s (2500000+d) 0)::j) λv us=>
      uZ (aP s.h ([(i, .rows b sz col rsz a (dG n none es)),(.s (2500000+d) 0, .sl false rsz p.1 p.2)] ++us)) i (.s (2500000+d) 0) n rsz λe=>
       K v ([(i, .rows b sz col rsz a (dG n none es)),(.s (2500000+d) 0, .sl false rsz p.1 p.2)] ++us++e)) none
  | _,_=>none
theorem Mn{R:Type}(P:Program)(A:cR)(O:aq)(s:St)(d:Nat)(c:Option Bool)(f:FuncId)(args:List AV)(K:AV->aH->Option R):kz false P A O s d c f args K=il P A O s d c f args K:=rfl
def oW{R:Type}(P:Program)(s:St)(e:TypeId)(d:Nat)(c:Option Bool)(v:AV)(K:AV->aH->Option R):Option R:=
 match c,v with
 | none, .agg vs=>match js vs with
  | some (a,i,n,f)=>match s.h i with
   | some (.rows b sz col rsz g es)=>ab none (cP n es) λp=>
     (eV (a++ .t (.ad rsz p.1 p.2)::f)).bind λl=>if l.length=P.cellsOf e/\P.cellsOf e<=1000/\0 < P.cellsOf e/\(jv P e).isSome=true then
      K (.own (.s d 0)) [(i, .rows b sz col rsz g (dG n none es)),(.s d 1, .sl true rsz p.1 p.2),(.s d 0, .sl false (P.cellsOf e) false [l])] else none
   | _=>none
  | none=>none
 | _,_=>none
def yE(c:Option Bool)(b:Bool):Option Bool:=some (match c with
 | none=>b
 | some a=>a && b)
def p7{R:Type}(c:Option Bool)(v:AV)(K:Int->Option R):Option R:=
 v.t?.bind λx=>ab c (jH.anyInt x) K
def nJ:AV->AV
 | .t (.cQ f)=> .fn f [] []
 | v=>v
def jD{R:Type}(P:Program)(A:cR)(O:aq)(g:Option Gs)(o:Oper)(s:St)(K:AV->aH->Option R):Option R:=
 let ev:=s.get g;let c:=g.map (·.c);let d:=o.dst.getD 0
 match o.op with
 | .move x | .assign x=>K (ev x) []
 | .pick k a b=>(ev k).t?.bind λI=>ab c I.bool? λkb=>
   (s.nL g k true a).t?.bind λx=>ab (yE c kb) x.bool? λJ=>
   (s.nL g k false b).t?.bind λy=>ab (yE c (!kb)) y.bool? λL=>K (AV.t (.bool (cond kb J L))) []
 | .alloc t=>match c with
  | some _=>none
  | none=>(jv P t).bind λl=>K (.ref (.s d 0) 0) [(.s d 0, .box (l.map .t))]
 | .box _ x=>match c with
  | some _=>none
  | none=>if(iq (ev x)).all rp then K (.ref (.s d 0) 0) [(.s d 0, .box (iq (ev x)))] else none
 | .build t j=>(xO P t ev j.toList).bind λv=>K v []
 | .buildSlice t n j=>(ou P t).bind λe=>if A.mP o.dst o.type=1 then
   (match c,j.toList,n with
   | none,[(0,x)],1=>if((iq (ev x)).length=P.cellsOf e/\(iq (ev x)).all rp=true)/\P.cellsOf e<=1000/\0 < P.cellsOf e/\(jv P e).isSome=true then K (.own (.s d 0)) [(.s d 0, .arr (iq (ev x)))] else none
   | _,_,_=>none)
   else if A.mP o.dst o.type=5 then(match j.toList,n with
   | [(0,x)],1=>oW P s e d c (ev x) K
   | _,_=>none)
   else if j.size=n/\n<=1000/\P.cellsOf e<=1000/\0 < P.cellsOf e/\(jv P e).isSome=true then
   if n=0/\A.app o.dst=true then K (.t (.aB false)) [] else
   (jl P s.h e ev 0 j.toList).bind λq=>
   match c with
   | some _=>K (.t (.ad (P.cellsOf e) false q.1)) q.2
   | none=>K (.own (.s d 0)) ((.s d 0, .sl false (P.cellsOf e) false q.1)::q.2)
   else none
 | .load t a=>ix P s c t (ev a) λv=>K v []
 | .store t a x=>match c with
  | some _=>none
  | none=>jU P s t (ev a) (ev x) λu=>K .top u
 | .nilCheck x=>match ev x with
  | .ref i k=>K (.ref i k) []
  | .el i sz k o=>K (.el i sz k o) []
  | .rel i sz n k o=>K (.rel i sz n k o) []
  | .t y=>ab c y.sf λcs=>K (.t (.ptr cs)) []
  | .fn f a b=>K (.fn f a b) []
  | _=>none
 | .binOp op t x y ty=>match op,ql P t y,ql P t x with
  | .eql,true,_=>(kH P s t (ev x)).bind λb=>K (.t (.bool b)) []
  | .neq,true,_=>(kH P s t (ev x)).bind λb=>K (.t (.bool (!b))) []
  | .eql,_,true=>(kH P s t (ev y)).bind λb=>K (.t (.bool b)) []
  | .neq,_,true=>(kH P s t (ev y)).bind λb=>K (.t (.bool (!b))) []
  | .eql,_,_=>rD P c t (ev x) (ev y) λb=>K (.t (.bool b)) []
  | .neq,_,_=>rD P c t (ev x) (ev y) λb=>K (.t (.bool (!b))) []
  | op,_,_=>(ev x).t?.bind λa=>(ev y).t?.bind λb=>sV P op t ty c a b λz=>K (.t z) []
 | .unOp op t x=>(ev x).t?.bind λa=>uG P op t c a λz=>K (.t z) []
 | .convert src B x=>match P.underlying src,P.underlying B with
  | some (.slice e),some .string=>match tN P e with
   | some .u8=>(ei s.h (ev x)).bind λy=>ab c ((y.aQ 1).bind λp=>bytesOf p.2) λl=>K (.t (.str ⟨l.toArray⟩)) []
   | _=>none
  | _,_=>(ev x).t?.bind λa=>tc P c src B a λz=>K (.t z) []
 | .makeFunc (.func f) H C=>K (.fn f (H.toList.map ev) (C.toList.map ev)) []
 | .makeSlice t l m=>match c with
  | some _=>none
  | none=>(ev l).t?.bind λn=>(ev m).t?.bind λk=>tR P d t (A.mP o.dst o.type) n k K
 | .makeMap t m=>match c,m with
  | none,none=>tS P d t K
  | _,_=>none
 | .lookup t x k ok=>oJ P s c t (ev x) (ev k) ok λv=>K v []
 | .mapUpdate t x k v=>match c with
  | some _=>none
  | none=>oQ P s t (ev x) (ev k) (ev v) λu=>K .top u
 | .slice t x E D F=>
  jH s c g E λE=>jH s c g D λD=>jH s c g F λF=>o7 P s c t (ev x) E D F λv=>K v []
 | .fieldAddr t x f=>tF P c t (ev x) f λv=>K v []
 | .field t x f=>tE P t (ev x) f λv=>K v []
 | .indexAddr t x i=>p7 c (ev i) λn=>kG P s c t (ev x) n λv=>K v []
 | .index t x i=>p7 c (ev i) λn=>match P.underlying t with
  | some .string=>(ev x).t?.bind λy=>ab c y.dU λb=>lI c n b.size
    (ab c b.data.toList[n.toNat]? λu=>K (.t (.int .u8 u.toNat)) [])
  | some (.array m e)=>match ev x with
   | .agg vs=>cond (cx P e) ((eV vs).bind λl=>lI c n m (mf P e c (l.drop (n.toNat * P.cellsOf e)) λz=>K z [])) none
   | _=>none
  | _=>none
 | .extract x k=>match ev x with
  | .np vs=>(vs[k]?).bind λv=>K v []
  | _=>none
 | .call cl=>match cl.callee with
  | .builtin .len=>match cl.args.toList,cl.argTypes.toList with
   | [x],t::_=>oI P s c t (ev x) λv=>K v []
   | _,_=>none
  | .builtin .append=>match c,cl.args.toList,cl.argTypes.toList with
   | none,[x,y],[t,u]=>l4 P s d (A.mP o.dst o.type==3) t u (ev x) (ev y) K
   | _,_,_=>none
  | .builtin .max=>match tN P o.type with
   | some k=>(eV (cl.args.toList.map ev)).bind λl=>match l with
    | x::r=>ab c (x.int? k) λa=>qh k c true a r λz=>K (.t z) []
    | []=>none
   | none=>none
  | .builtin .min=>match tN P o.type with
   | some k=>(eV (cl.args.toList.map ev)).bind λl=>match l with
    | x::r=>ab c (x.int? k) λa=>qh k c false a r λz=>K (.t z) []
    | []=>none
   | none=>none
  | .builtin .delete=>match c,cl.args.toList,cl.argTypes.toList with
   | none,[x,y],t::_=>ot P s t (ev x) (ev y) λu=>K (.np []) u
   | _,_,_=>none
  | .builtin .cap=>match cl.args.toList,cl.argTypes.toList with
   | [x],t::_=>match P.underlying t with
    | some (.slice _)=>match ev x with
     | .t y=>cond (yL y) (K (.t (.int .i64 0)) []) none
     | _=>none
    | _=>none
   | _,_=>none
  | .value G=>match nJ (ev G) with
   | .fn f a b=>kz (HW G) P A O s d c f (a++cl.args.toList.map ev++b) K
   | _=>none
  | _=>none
 | _=>none
open Go
section
variable (P:Program) (A:cR) (O:aq)
def xS(b want:Bool):Bool:=cond want b (!b)
def gC(g:Option Gs)(b want:Bool):Bool:=
 match g with
 | none=>xS b want
 | some g0=>cond g0.c (xS b want) false
def dL{R:Type}(a:Array Oper)(o:Oper)(s:St)(K:Option Gs->Option R):Option R:=
 match o.guard with
 | none=>K none
 | some (j,want)=>match(a[j]?).bind (·.dst) with
  | none=>none
  | some d=>(s.t d).2.t?.bind λx=>ab ((s.t d).1.map (·.c)) x.bool? λb=>
    K (some {d:=d,want:=want,c:=gC (s.t d).1 b want})
def PJ:Builtin->Bool
 | .delete=>true
 | _=>false
def aE(o:Oper):Bool:=
 match o.op with
 | .store .. =>true
 | .mapUpdate .. =>true
 | .call cl=>match cl.callee with
  | .builtin .append=>match cl.args.toList with
   | .const (.slice none 0 0)::_=>false
   | _=> !A.app o.dst
  | .builtin b=>PJ b
  | .value (.func f)=>match A.ji f with
   | some _=>true
   | none=>match P.funcs[f]? with
    | some _=>A.wr f
    | none=>true
  | .value _=> !A.AJ o.dst
  | _=>true
 | .buildSlice .. =>A.mP o.dst o.type==6
 | _=>false
def Pk(o:Oper):Bool:=
 match o.op with
 | .call cl=>match cl.callee with
  | .value (.func f)=>match P.funcs[f]? with
   | some fn=>(dN P A f 0 fn).all tH
   | none=>false
  | _=>false
 | _=>false
def gh(o:Oper):Bool:=
 match o.op with
 | .move _ | .assign _ | .pick .. | .build .. | .unOp .. | .makeFunc .. | .fieldAddr .. | .field .. | .extract .. | .nilCheck _=>true
 | .binOp _ t x y _=> !(ql P t x || ql P t y)
 | .call cl=>match cl.callee with
  | .builtin .max | .builtin .min=>true
  | _=>false
 | _=>false
def fc(o:Oper):Bool:=
 match o.op with
 | .call cl=>match cl.callee with
  | .value (.func f)=>A.deep f
  | .value _=>true
  | .builtin .append=>A.mP o.dst o.type==3
  | _=>false
 | _=>false
def oS(o:Oper):Bool:=gh P o ||
 match o.op with
 | .load .. | .index .. | .indexAddr .. | .slice .. | .binOp .. | .convert .. | .lookup .. =>true
 | .call cl=>match cl.callee with
  | .builtin .len=>true
  | .value (.func _)=> !aE P A o && Pk P A o
  | _=>false
 | _=>false
def jM(o:Oper):Bool:=
 match o.op with
 | .alloc _ | .box .. | .makeSlice .. | .makeMap .. =>true
 | _=>false
def fp(o:Oper):Bool:=
 match o.op with
 | .call cl=>match cl.callee with
  | .value (.func f)=>(A.ji f).isSome
  | .value _=> !A.AJ o.dst
  | _=>false
 | _=>false
def s7(a b:Oper):Bool:= !((aE P A a && !(gh P b || jM b)) || (aE P A b && !(gh P a || jM a))) && (!fc A a || oS P A b) && (!fc A b || oS P A a)
def iu:List Oper->List Nat
 | []=> []
 | o::r=>match o.dst with
  | some d=>d::iu r
  | none=>iu r
def zp(d:Array Oper):Nat->Nat->Nat
 | 0,a=>a
 | n+1,a=>match d.find? (λo=>o.dst==some a) with
  | some o=>match o.op with
   | .fieldAddr _ (.tmp b) _=>zp d n b
   | .nilCheck (.tmp b)=>zp d n b
   | .move (.tmp b)=>zp d n b
   | _=>a
  | none=>a
def uf(b:Array Oper)(a:Nat):Nat:=zp b 6 a
def hI(b:Array Oper)(o:Oper):Option Nat:=match o.guard,o.op with
 | none, .store _ (.tmp a) _=>some (uf b a)
 | none, .load _ (.tmp a)=>some (uf b a)
 | _,_=>none
def _root_.Go.Aev.cR.stM(A:cR)(a:Array Oper):Bool:=A.st ((a[0]?).bind (·.dst)) && A.Ks ((a[0]?).bind (·.dst)) (((a[0]?).map (·.type)).getD 0)
def lQ(d:Array Oper)(a b:Oper):Bool:=A.stM d && (match hI d a,hI d b with
 | some k,some e=> !(k==e) && !(iu d.toList).contains k && !(iu d.toList).contains e
 | _,_=>false)
def D9(o:Oper):Bool:=o.guard.isNone && aE P A o && match o.op with
 | .call cl=>match cl.callee with
  | .builtin .append=> !(A.mP o.dst o.type==3)
  | .value (.func f)=>(A.ji f).isNone && !A.deep f
  | _=>false
 | .buildSlice .. =>true
 | .store _ (.tmp _) _=>true
 | _=>false
def PN(o:Oper):Bool:=match o.op with
 | .store .. =>true
 | _=>false
def jQ(b:Array Oper)(o:Oper):Option (Option Nat):=match o.guard,o.op with
 | none, .load _ (.tmp a)=>some (some (uf b a))
 | none, .buildSlice .. =>some none
 | _,_=>none
def jO(d:Array Oper)(a b:Oper):Bool:=A.ld ((d[0]?).bind (·.dst)) && (!aE P A b && D9 P A a && (A.stM d || !PN a)) && (match jQ d b with
 | some (some k)=> !(iu d.toList).contains k
 | some none=>true
 | none=>false)
def kI(o:Oper)(k:Bool):Bool:=match o.guard,o.op with
 | none, .store t (.tmp _) _=>(match P.underlying t with
  | some (.slice _)=>k
  | some (.int _)=> !k
  | _=>false)
 | _,_=>false
def nf(d:Array Oper)(a b:Oper):Bool:=A.sx ((d[0]?).bind (·.dst)) && kI P a true && kI P b false
def ka:aH->Bool
 | [(_, .dead),(_, .rows _ _ _ rsz _ _)]=> !(rsz==1)
 | _=>false
def kb:aH->Bool
 | [(_, .sl false sz _ _)]=>sz==1
 | _=>false
def Aq(o:Oper)(s:St):Bool:=match o.op with
 | .store _ _ y=>(s.get none y).ids.isEmpty
 | _=>false
def yK(o:Oper):Bool:=match o.guard,o.op with
 | none, .indexAddr t (.tmp _) _=>(match ou P t with
  | some e=>P.cellsOf e==1
  | none=>false)
 | none, .load _ (.tmp _)=>true
 | _,_=>false
def wE(o:Oper)(s:St):Bool:=match o.op with
 | .load _ x=>(match s.get none x with
  | .ref _ _=>true
  | _=>false)
 | .indexAddr _ x _=>(match s.get none x with
  | .own _=>true
  | _=>false)
 | _=>false
def mu(d:Array Oper)(a b:Oper):Bool:=A.sx ((d[0]?).bind (·.dst)) && (kI P a true || kI P a false) && yK P b
def p8(o:Oper):Bool:=match o.guard,o.op with
 | none, .load _ (.tmp _)=>true
 | none, .indexAddr _ (.tmp _) _=>true
 | _,_=>false
def uA(a b:Oper):Bool:=((A.s6 a.dst a.type && A.yQ b.dst b.type) || A.yP b.dst b.type) && p8 b
def uz(d:Array Oper)(a b:Oper):Bool:=lQ A d a b || jO P A d a b || jO P A d b a || (nf P A d a b || nf P A d b a) || (mu P A d a b || mu P A d b a) || (uA A a b || uA A b a)
def iT(a:Array Oper):Nat->Nat->Nat->Bool
 | 0,_,_=>false
 | n+1,j,i=>match a[j]? with
  | none=>false
  | some b=>b.after.any λe=>Region.binds .any e && (e.on==i || (Nat.blt i e.on && iT a n e.on i))
def BF(a:Array Oper)(listed:Array Bool)(i:Nat):Bool:=
 match a[i]? with
 | none=>false
 | some b=>(List.range a.size).all λj=>match a[j]? with
  | none=>true
  | some d=>j==i || listed.getD j true || s7 P A b d || uz P A a b d || iT a 12 j i
def yS(b:Array Oper):Nat->Nat->Array Bool->Bool
 | 0,_,_=>true
 | n+1,k,a=>BF P A b a k && yS b n (k+1) (a.setIfInBounds k true)
def Ps(h:Id->Option aa)(us:aH):Bool:=us.all λp=>(h p.1).isNone
def jn(d:Nat)(h:Id->Option aa)(us:aH):Bool:=us.all λp=>match p.1 with
 | .s a _=> !(a==d) || (h p.1).isNone
 | .c _=>true
 | .g _ _=>false
def eD(a:Array Oper)(d:Option Nat):Bool:=
 a.any λo=>match o.guard with
  | none=>false
  | some (j,_)=>match(a[j]?).bind (·.dst),d with
   | some e,some d=>e==d
   | _,_=>false
def sY(a:Array Oper)(o:Oper)(d:Nat):Bool:=
 (List.range a.size).all λi=>match a[i]? with
  | some b=> !(b.dst==some d) || o.after.any (λe=>Region.binds .any e && (e.on==i || iT a 12 e.on i))
  | none=>true
def qk(a:Array Oper)(g:Option Gs)(o:Oper)(s:St):Bool:=
 o.op.operands.toList.all λx=>(s.get g x).ids.all λi=>match i with
  | .s d _=>sY a o d
  | .c _=>true
  | .g _ _=>false
def mg(o:Oper)(us:aH):Bool:=us.all λp=>match p.1 with
 | .s d _=>o.dst==some d
 | .c _=>false
 | .g _ _=>false
def uH(a:Array Oper)(o:Oper)(us:aH):Bool:=us.all λp=>match p.1 with
 | .s d _=>sY a o d || o.dst==some d
 | .c _=>true
 | .g _ _=>false
def Dh(a:Array Oper)(o d:Oper)(s:St)(us:aH):Bool:=match hI a o,hI a d with
 | some k,some b=>(o.op.operands.toList.all λx=>(s.get none x).ids.all λi=>decide (i∈(s.t k).2.ids)) && us.all (λp=>decide (p.1∈(s.t k).2.ids)) && us.all (λp=>decide (p.1∉(s.t b).2.ids))
 | _,_=>false
def yO(a:Array Oper)(b:Oper)(s:St)(us:aH):Bool:=match jQ a b with
 | some (some k)=>us.all λp=>decide (p.1∉(s.t k).2.ids)
 | _=>true
def vW(a:Array Oper)(o:Oper)(s:St):Bool:=match jQ a o with
 | some (some k)=>o.op.operands.toList.all λx=>(s.get none x).ids.all λi=>decide (i∈(s.t k).2.ids)
 | some none=>o.op.operands.toList.all λx=>(s.get none x).ids.isEmpty
 | none=>true
def lR(a:Array Oper)(o:Oper)(s:St)(us:aH):Bool:=a.all λb=>(!(lQ A a o b) || Dh a o b s us) && (!(jO P A a o b) || yO a b s us) && (!(jO P A a b o) || vW a o s) && ((!(nf P A a o b) || ka us) && (!(nf P A a b o) || (kb us && Aq o s))) && ((!(mu P A a o b) || ka us || kb us) && (!(mu P A a b o) || wE o s))
def vN:AV->Bool
 | .ref _ _=>true
 | .t (.int _ _)=>true
 | _=>false
def Hs:AV->Bool
 | .ref _ _=>true
 | _=>false
def sU(o:Oper)(s:St):Bool:=o.op.operands.toList.all λx=>(s.get none x).ids.isEmpty
def qe(o:Oper)(s:St)(v:AV):Bool:=(!(A.yP o.dst o.type && p8 o) || sU o s) && (!(A.yQ o.dst o.type && p8 o) || sU o s || (match o.op with
 | .load _ x=>Hs (s.get none x) && vN v
 | _=>false))
def vO:AV->AV->Option (Option (Int×Int))
 | .ref i o, .ref j p=>cond (decide (i=j/\o=p)) (some none) none
 | .ref _ _,_=>none
 | _, .ref _ _=>none
 | .t (.int k a), .t (.int d b)=>cond (decide (k=d)) (some (some (a,b))) none
 | .t (.int _ _),_=>none
 | _, .t (.int _ _)=>none
 | _,_=>some none
def vR{R:Type}:List AV->List AV->Option R->Option R
 | [],[],K=>K
 | c::r,c'::a,K=>match vO c c' with
  | none=>none
  | some none=>vR r a K
  | some (some p)=>ab none (if p.1=p.2 then some () else none) λ_=>vR r a K
 | _,_,_=>none
def vP:Option aa->Option aa->Option (Option (List AV×List AV))
 | some (.box cs),some (.box a)=>some (some (cs,a))
 | some (.box _),_=>none
 | _,some (.box _)=>none
 | some (.dy _),_=>none
 | _,some (.dy _)=>none
 | _,_=>some none
def vS{R:Type}(h h':Id->Option aa):aH->Option R->Option R
 | [],K=>K
 | p::us,K=>match vP (h p.1) (h' p.1) with
  | none=>none
  | some none=>vS h h' us K
  | some (some q)=>vR q.1 q.2 (vS h h' us K)
def BX{R:Type}(a:Bool)(o:Oper)(h:Id->Option aa)(us:aH)(K:Option R):Option R:=cond (a && A.s6 o.dst o.type) (vS h (aP h us) us K) K
def oO(b:Bool)(nt:Nat)(a:Array Oper)(o:Oper)(g:Option Gs)(s:St)(v:AV)(us:aH):Bool:=
 (match o.dst with | some d=>decide (d < nt) | none=>true) &&
 (match g with | some g=>us.isEmpty && !(o.dst==some g.d) | none=>true) &&
 jn (o.dst.getD 0) s.h us && (!b || (qk a g o s && (aE P A o || mg o us) && (!gh P o || us.isEmpty) && (!oS P A o || us.isEmpty) && (!aE P A o || uH a o us) && Nat.ble nt 1000000 && lR P A a o s us && qe A o s v))
def sB(a:Bool)(o:Oper)(g:Option Gs):Option Gs:=
 match g with
 | some g=>cond (!a && fp A o) (some g) none
 | none=>none
def ye(nt:Nat)(o:Oper)(g:Gs):Bool:=(match o.dst with | some d=>decide (d < nt) | none=>true) && !(o.dst==some g.d)
def RX(o:Oper):AV:=
 match o.op with
 | .call cl=>match cl.callee with
  | .value (.func f)=>match P.funcs[f]? with
   | some fn=>match dN P A f 0 fn with
    | [.f .b]=> .t (.bool false)
    | [.f (.i k)]=> .t (.int k 0)
    | _=> .top
   | none=> .top
  | _=>match P.underlying o.type with
   | some .bool=> .t (.bool false)
   | some (.int k)=> .t (.int k 0)
   | _=> .top
 | _=> .top
def qt{R:Type}(b:Bool)(nt:Nat)(a:Array Oper)(o:Oper)(s:St)(K:St->Option R):Option R:=
 dL a o s λg=>match sB A b o g with
 | some d=>cond (ye nt o d) (cond d.c
   (jD P A O none o (s.tY d) λv us=>
    if oO P A b nt a o none s v us then K (s.put (eD a o.dst) o.dst (some d) v us) else none)
   (K (s.put (eD a o.dst) o.dst (some d) (RX P A o) []))) none
 | none=>jD P A O g o s λv us=>
  BX A b o s.h us (if oO P A b nt a o g s v us then K (s.put (eD a o.dst) o.dst g v us) else none)
def wP{R:Type}(a:Bool)(nt:Nat)(b:Array Oper):List Oper->St->(St->Option R)->Option R
 | [],s,K=>K s
 | o::r,s,K=>qt P A O a nt b o s λs'=>wP a nt b r s' K
def St.clear(s:St):St:=
 {t :=λk=>match s.t k with
    | (none,v)=>(none,v)
    | (some _,_)=>(none, .top)
  h:=s.h}
def wm:List Nat->Bool
 | []=>true
 | d::r=> !r.contains d && wm r
def tM(a:Array Oper):Bool:=a.all λo=>match o.guard with
 | none=>true
 | some (j,_)=>o.after.any λe=>Region.binds .any e && e.on==j
def CL(b:Bool)(a:Array Oper):Bool:=
 !b || (Region.lexB .any a && yS P A a a.size 0 (Array.replicate a.size false) && wm (iu a.toList) && tM a)
def region{R:Type}(nt:Nat)(a:Bool)(b:Array Oper)(s:St)(K:St->Option R):Option R:=
 cond (CL P A a b)
  (wP P A O a nt b b.toList s λs'=>K s'.clear) none
def oN(h:Id->Option aa):AV->AV
 | .own i=>match h i with
  | some (.sl true sz b xs)=> .t (.ad sz b xs)
  | _=> .own i
 | .part i sz off n=>match h i with
  | some (.sl true a b xs)=>if a=sz then .t (.ad sz b ((xs.drop off).take n)) else .part i sz off n
  | _=> .part i sz off n
 | .ref i off=>match h i with
  | some (.dy l)=> .t (.ptr (l.drop off))
  | _=> .ref i off
 | v=>v
def vY(s:St)(k:Nat×Option Nat):Option (AV×aH):=
 match s.t k.1 with
 | (some _,_)=>none
 | (none,v)=>match k.2 with
  | none=>some (oN s.h v,[])
  | some sz=>if sz=0\/sz>=999998 then some (oN s.h v,[]) else match v with
   | .own i=>match s.h i with
    | some (.sl false _ _ _)=>some (.own i,[])
    | _=>none
   | .t (.aB b)=>some (.own (.s (1000000+k.1) 0),[(.s (1000000+k.1) 0, .sl false sz b [])])
   | _=>none
def qg(s:St):List (Nat×Option Nat)->Option (List AV×aH)
 | []=>some ([],[])
 | k::r=>(vY s k).bind λp=>(qg s r).bind λq=>some (p.1::q.1,p.2++q.2)
def zO(f:FuncId)(todo:List Item)(live:List (Nat×Option Nat))(m:Nat×Nat)(s:St):Option (List T):=
 (qg s live).bind λp=>
  if Ps s.h p.2 then
  let h:=aP s.h p.2
  (fW h 1000 ((List.range m.1).map Id.c++cy p.1) []).bind λseen=>
   O (.node f todo live m) (lO seen p.1) (seen.map λi=>iN seen (h i))
  else none
def BH(h:Id->Option aa):AV->aH
 | .ref i _=>match h i with
  | some (.box cs)=>nK h cs
  | _=> []
 | _=> []
def oD(s:St):List (Nat×Option Nat)->aH
 | []=> []
 | (k,some 0)::r=>iH s.h (s.t k).2++oD s r
 | (k,some (n+1))::r=>cond (Nat.beq n 999998) (BH s.h (s.t k).2) [] ++oD s r
 | (_,none)::r=>oD s r
def zm(s:St):List (Nat×Option Nat)->List (Id×Nat×Nat)
 | []=> []
 | (k,some n)::r=>match cond (Nat.ble 1000000 n) (s.t k).2 .top with
  | .ref i _=>(i,n / 1000000 - 1,n % 1000000)::zm s r
  | _=>zm s r
 | _::r=>zm s r
def uh(col rsz:Nat)(e:Row):List T:=e.cs.set col (match e.own with
 | some p=> .ad rsz p.1 p.2
 | none=> .ax)
def y8(h:Id->Option aa):AV->(Id->Option aa)
 | .ref i _=>match h i with
  | some (.box cs)=>aP h [(i, .box (cs.map (oN h)))]
  | _=>h
 | _=>h
def C7(h:Id->Option aa):AV->(Id->Option aa)
 | .own i=>match h i with
  | some (.rows b sz col rsz _ es)=>cond (bf es) (aP h [(i, .sl true sz b (es.map (uh col rsz)))]) h
  | _=>h
 | _=>h
def C8:(Id->Option aa)->List AV->(Id->Option aa)
 | h,[]=>h
 | h,v::r=>C8 (C7 h v) r
def C5(h:Id->Option aa):AV->(Id->Option aa)
 | .ref i _=>match h i with
  | some (.box cs)=>C8 h cs
  | _=>h
 | _=>h
def tV(t:Nat->Option Gs×AV):(Id->Option aa)->List (Nat×Option Nat)->(Id->Option aa)
 | h,[]=>h
 | h,(k,some n)::r=>tV t (cond (Nat.beq n 999999) (y8 h (t k).2) (cond (Nat.beq n 999998) (y8 (C5 h (t k).2) (t k).2) h)) r
 | h,(_,none)::r=>tV t h r
def nn(f:FuncId)(todo:List Item)(live:List (Nat×Option Nat))(m:Nat×Nat)(s:St):Option (List T):=
 (lK 1900000 0 (aP s.h (oD s live)) (zm s live)).bind λus=>
  zO O f todo live m {t:=s.t,h:=tV s.t (aP (aP s.h (oD s live)) us) live}
def oC(live:List (Nat×Option Nat))(bC:List AV)(blks:List aa):St:=
 {t:=λk=>(none,look live bC k)
  h:=fun
   | .c j=>blks[j]?
   | _=>none}
where
 look:List (Nat×Option Nat)->List AV->Nat->AV
 | (k,_)::ks,v::vs,j=>if j=k then v else look ks vs j
 | _,_,_=> .top
def qy:Code->Nat
 | .region id _ _=>id
 | .seq a _=>qy a
 | .block _ b=>qy b
 | .cond _ a _=>qy a
 | _=>1000000
def IY(h:Id->Option aa)(sz:Nat):AV->Option (T×Id)
 | .own i=>match h i with
  | some (.sl false a b xs)=>if a=sz then some (.ad sz b xs,i) else none
  | _=>none
 | _=>none
def kE{R:Type}(m:Nat)(h:Id->Option aa)(r:cD)(v:AV)(K:T->List Id->List Id->Option R):Option R:=
 match r with
 | .f _=>v.t?.bind λx=>ab none x.rF λ_=>K x [] []
 | .t _=>(ei h v).bind λx=>K x [] ((iH h v).map (·.1))
 | .own sz=>match v with
  | .own i=>(IY h sz (.own i)).bind λp=>K p.1 [p.2] []
  | .part i a 0 n=>match h i with
   | some (.sl false j b xs)=>if j=sz/\a=sz then K (.ad sz b (xs.take n)) [i] [] else none
   | _=>none
  | .t (.aB b)=>K (.aB b) [] []
  | .t (.ad _ true [])=>K (.aB true) [] []
  | _=>none
 | .ref k off=>match v with
  | .ref (.c e) off'=>if e=k/\off'=off/\k < m then K .ax [] [] else none
  | _=>none
 | .same k=>match v with
  | .own (.c e)=>if e=k/\k < m then K .ax [] [] else none
  | _=>none
 | .rows sz col rsz=>match v with
  | .own i=>match h i with
   | some (.rows b a d g _ es)=>if a=sz/\d=col/\g=rsz then
     ab none (if bf es=true then some () else none) λ_=>K (bu b es) [i] [] else none
   | _=>none
  | _=>none
 | .mp ag ks vk=>match v with
  | .own i=>match h i with
   | some (.mp l o q es)=>if l=ag/\o=ks/\q=vk then K (aM es) [i] [] else none
   | _=>none
  | _=>none
 | .no=>match v with
  | .ref _ _=>K .ax [] []
  | _=>none
 | .agg _=>none
 | .new _=>none
def ov{R:Type}(m:Nat)(h:Id->Option aa):List cD->List AV->(List T->List Id->List Id->Option R)->Option R
 | [],[],K=>K [] [] []
 | r::rs,v::vs,K=>kE m h r v λx a b=>ov m h rs vs λxs d b'=>K (x::xs) (a++d) (b++b')
 | _,_,_=>none
def cO{R:Type}(m:Nat)(h:Id->Option aa):List cD->List AV->(List T->List Id->List Id->Option R)->Option R
 | [],[],K=>K [] [] []
 | r::rs,v::vs,K=>match r with
  | .agg l=>match v with
   | .agg cs=>ov m h l cs λxs a b=>cO m h rs vs λe d b'=>K (xs++e) (a++d) (b++b')
   | _=>none
  | .new l=>match v with
   | .ref i 0=>match h i with
    | some (.box cs)=>ov m h l cs λxs a b=>cO m h rs vs λe d b'=>K (xs++e) (i:: (a++d)) (b++b')
    | _=>none
   | _=>none
  | r=>kE m h r v λx a b=>cO m h rs vs λxs d b'=>K (x::xs) (a++d) (b++b')
 | _,_,_=>none
def mH{R:Type}(m:Nat)(h:Id->Option aa):Nat->List kQ->(List T->List Id->List Id->Option R)->Option R
 | _,[],K=>K [] [] []
 | j, .box l::r,K=>match h (.c j) with
  | some (.box cs)=>ov m h l cs λxs a b=>mH m h (j+1) r λe d b'=>K (xs++e) (.c j:: (a++d)) (b++b')
  | _=>none
 | j, .sl sz::r,K=>match h (.c j) with
  | some (.sl false i b xs)=>if i=sz then mH m h (j+1) r λe d b'=>K (.ad sz b xs::e) (.c j::d) b' else none
  | _=>none
 | j, .mp ag ks vk::r,K=>match h (.c j) with
  | some (.mp f g k es)=>if f=ag/\g=ks/\k=vk then mH m h (j+1) r λe d b'=>K (aM es::e) (.c j::d) b' else none
  | _=>none
 | j, .dead::r,K=>mH m h (j+1) r K
def ue{R:Type}(s:St):List ResultVar->(List AV->Option R)->Option R
 | [],K=>K []
 | .tmp k::r,K=>match s.t k with
   | (none,v)=>ue s r λl=>K (v::l)
   | _=>none
 | .cell k t::r,K=>match s.t k with
   | (none,v)=>ix P s none t v λv=>ue s r λl=>K (v::l)
   | _=>none
def y6:List Id->Bool
 | []=>true
 | i::r=> !r.contains i && y6 r
def yv(f:FuncId)(fn:Func)(m:Nat×Nat)(s:St):Option (List T):=
 ue P s fn.results.toList λvs=>
  if m.1= (iM A f m.2).length then
  cO m.1 s.h (dN P A f m.2 fn) vs λxs a b=>mH m.1 s.h 0 (iM A f m.2) λe d b'=>
   if y6 (a++d) && (b++b').all (λi=> !(a++d).contains i) then some (xs++e) else none
  else none
def wF:List AV->List Id
 | []=> []
 | .own i::r=>i::wF r
 | _::r=>wF r
def CO(h:Id->Option aa)(t:Nat->Option Gs×AV):List ResultVar->List Id
 | []=> []
 | .tmp k::r=>(match(t k).2 with
  | .agg vs=>wF vs
  | v=>wF [v])++CO h t r
 | .cell k _::r=>(match(t k).2 with
  | .ref i _=>match h i with
   | some (.box cs)=>wF cs
   | _=> []
  | _=> [])++CO h t r
def wV{R:Type}:(Id->Option aa)->List Id->(aH->Option R)->Option R
 | _,[],K=>K []
 | h,i::r,K=>match h i with
  | some (.rows b sz col rsz _ es)=>ab none (if bf es=true then some () else none) λ_=>
    wV (aP h [(i, .sl true sz b (es.map (uh col rsz)))]) r λus=>K ((i, .sl true sz b (es.map (uh col rsz)))::us)
  | _=>wV h r K
def yu(f:FuncId)(fn:Func)(m:Nat×Nat)(s:St):Option (List T):=
 cond ((dN P A f m.2 fn).any Ht) (yv P A f fn m s)
  (wV s.h (CO s.h s.t fn.results.toList) λus=>yv P A f fn m {t:=s.t,h:=aP s.h us})
def ev(f:FuncId)(fn:Func)(m:Nat×Nat):Nat->Bool->List Item->St->Option (List T)
 | 0,_,_,_=>none
 | n+1,d,todo,s=>match todo with
  | []=>yu P A f fn m s
  | .code c::k=>match c with
   | .skip=>ev f fn m n true k s
   | .seq a b=>ev f fn m n d (.code a:: .code b::k) s
   | .region id g e=>match cond d (A.join f id) none with
    | some live=>nn O f (.code (.region id g e)::k) live m s
    | none=>region P A O fn.ntmps e g s λs'=>ev f fn m n true k s'
   | .cond x a b=>(s.get none x).t?.bind λy=>ab none y.bool? λt=>cond t (ev f fn m n true (.code a::k) s) (ev f fn m n true (.code b::k) s)
   | .block id b=>ev f fn m n d (.code b:: .inBlock id::k) s
   | .loop b=>match A.live f (qy b) with
    | some live=>nn O f (.inLoop b::k) live m s
    | none=>none
   | .exit id=>match exitTo id k with
    | some i=>ev f fn m n true i s
    | none=>none
   | .ret=>yu P A f fn m s
   | _=>none
  | .inBlock _::k=>ev f fn m n true k s
  | .inLoop b::k=>match A.live f (qy b) with
    | some live=>nn O f (.inLoop b::k) live m s
    | none=>none
  | _::_=>none
def lG:Nat:=100000
def vK(bC:List AV)(a:List aa):St:=
 {t:=λk=>(none,bC.getD k .top)
  h:=fun
   | .c j=>a[j]?
   | _=>none}
def au:aq
 | .call f,bC,a=>match A.ext f bC a with
  | some r=>some r
  | none=>match P.funcs[f]? with
  | some fn=>match fn.body with
   | some c=>if bC.length<=fn.ntmps then ev P A O f fn (a.length,iF a.head?) lG true [.code c] (vK bC a) else none
   | none=>none
  | none=>none
 | .node f todo live m,bC,a=>match P.funcs[f]? with
  | some fn=>match todo with
   | .inLoop b::k=>ev P A O f fn m lG true (.code b:: .inLoop b::k) (oC live bC a)
   | todo=>ev P A O f fn m lG false todo (oC live bC a)
  | none=>none
end
def rE(d:Bool)(r:Nat):Code->List Item->Option (List Item)
 | .seq a b,k=>match rE d r a (.code b::k) with
  | some t=>some t
  | none=>rE d r b k
 | .block id b,k=>rE d r b (.inBlock id::k)
 | .loop b,k=>if d && qy b==r then some (.inLoop b::k) else rE d r b (.inLoop b::k)
 | .cond _ a b,k=>match rE d r a k with
  | some t=>some t
  | none=>rE d r b k
 | .region id f e,k=>if !d && id==r then some (.code (.region id f e)::k) else none
 | _,_=>none
def bX(P:Program)(f:FuncId)(a:Bool)(r:Nat)(live:List (Nat×Option Nat))(m:Nat×Nat):Key:=
 .node f (match P.funcs[f]? with
  | some fn=>match fn.body with
   | some c=>(rE a r c []).getD []
   | none=> []
  | none=> []) live m
def jP(P:Program)(A:cR):Nat->aq
 | 0=>λ_ _ _=>none
 | n+1=>au P A (jP P A n)
open Classical in
noncomputable def mU(P:Program)(A:cR):aq:=λk vs a=>
 if h:∃n r,jP P A n k vs a=some r then some (Classical.choose (Yu h)) else none
open Go
section
variable (w:World) (A:Nat->Prop)
mutual
def az:T->Value->Prop
 | .int k n,v=>v= .int k n
 | .bool b,v=>v= .bool b
 | .str s,v=>v= .string s
 | .ad sz b xs,v=>(b=true/\xs= []/\v= .slice none 0 0)\/
   (b=false/\∃ah off sp cap,v= .slice (some ⟨ah,off,sp⟩) xs.length cap/\xs.length<=cap/\(xs= []\/(sp=none/\A ah))/\bq ah sz off xs)
 | .aB b,v=>(b=true/\v= .slice none 0 0)\/(b=false/\∃ah off sp,v= .slice (some ⟨ah,off,sp⟩) 0 0)
 | .ptr cs,v=>∃ah off,v= .pointer (some ⟨ah,off,none⟩)/\(cs= []\/A ah)/\bh ah off cs
 | .ax,v=>v= .pointer none
 | .y5,v=>v= .map none
 | .y0,v=>v= .nilFunc
 | .Cr,v=>v= .nilIface
 | .cQ f,v=>v= .func (.func f) #[] #[]
 | .any,v=>v.oneCell'=true/\v.cells= #[v]
def bq(ah sz:Nat):Nat->List (List T)->Prop
 | _,[]=>True
 | off,cs::xs=>cs.length=sz/\bh ah off cs/\bq ah sz (off+sz) xs
def bh(ah:Nat):Nat->List T->Prop
 | _,[]=>True
 | off,c::cs=>(∃v,w.cell? ⟨ah,off,none⟩=some v/\az c v)/\bh ah (off+1) cs
end
def aY:List T->List Value->Prop
 | [],vs=>vs= []
 | c::cs,vs=>∃v r,vs=v::r/\az w A c v/\aY cs r
end
section
variable {w w':World} {A A':Nat->Prop}
theorem oq{a:Addr}(h:w'.heap[a.block]? =w.heap[a.block]?):w'.cell? a=w.cell? a:=by simp [World.cell?,h]
mutual
theorem az.mono(h:∀b,A b->A' b/\w'.heap[b]? =w.heap[b]?):∀(t:T) (v:Value),az w A t v->az w' A' t v
 | .int k n,v,a=>by simpa [az] using a
 | .bool b,v,a=>by simpa [az] using a
 | .str s,v,a=>by simpa [az] using a
 | .aB b,v,a=>by simpa [az] using a
 | .ax,v,a=>by simpa [az] using a
 | .y5,v,a=>by simpa [az] using a
 | .y0,v,a=>by simpa [az] using a
 | .Cr,v,a=>by simpa [az] using a
 | .cQ f,v,a=>by simpa [az] using a
 | .any,v,a=>by simp only [az] at a⊢;exact a
 | .ad sz b xs,v,a=>by
  simp only [az] at a⊢;rcases a with a | ⟨j,ah,off,sp,cap,g,e,d,i⟩
  .exact .inl a
  .refine .inr ⟨j,ah,off,sp,cap,g,e, ?_, ?_⟩
   .rcases d with d | d
    .exact .inl d
    .exact .inr ⟨d.1,(h _ d.2).1⟩
   .rcases d with d | d
    .subst d;simp [bq]
    .exact bq.mono h ah sz d.2 off xs i
 | .ptr cs,v,a=>by
  simp only [az] at a⊢;obtain⟨ah,off,g,e,d⟩:=a;refine⟨ah,off,g, ?_, ?_⟩
  .rcases e with e | e
   .exact .inl e
   .exact .inr (h _ e).1
  .rcases e with e | e
   .subst e;simp [bh]
   .exact bh.mono h ah e off cs d
theorem bq.mono(h:∀b,A b->A' b/\w'.heap[b]? =w.heap[b]?)(ah sz:Nat)(d:A ah):∀(off:Nat) (xs:List (List T)),bq w A ah sz off xs->bq w' A' ah sz off xs
 | _,[],_=>by simp [bq]
 | off,cs::xs,a=>by simp only [bq] at a⊢;exact⟨a.1,bh.mono h ah d off cs a.2.1,bq.mono h ah sz d (off+sz) xs a.2.2⟩
theorem bh.mono(h:∀b,A b->A' b/\w'.heap[b]? =w.heap[b]?)(ah:Nat)(d:A ah):∀(off:Nat) (cs:List T),bh w A ah off cs->bh w' A' ah off cs
 | _,[],_=>by simp [bh]
 | off,c::cs,e=>by simp only [bh] at e⊢;obtain⟨⟨v,f,g⟩,a⟩:=e;exact⟨⟨v,by rw [oq (w:=w) (by exact(h ah d).2)];exact f,az.mono h c v g⟩,bh.mono h ah d (off+1) cs a⟩
end
theorem bh.oK(h:∀b,A b->A' b/\w'.heap[b]? =w.heap[b]?)(ah:Nat)(d:w'.heap[ah]? =w.heap[ah]?):∀(off:Nat) (cs:List T),bh w A ah off cs->bh w' A' ah off cs
 | _,[],_=>by simp [bh]
 | off,c::cs,e=>by simp only [bh] at e⊢;obtain⟨⟨v,f,g⟩,a⟩:=e;exact⟨⟨v,by rw [oq (w:=w) (by exact d)];exact f,az.mono h c v g⟩,bh.oK h ah d (off+1) cs a⟩
theorem bq.oK(h:∀b,A b->A' b/\w'.heap[b]? =w.heap[b]?)(ah sz:Nat)(d:w'.heap[ah]? =w.heap[ah]?):∀(off:Nat) (xs:List (List T)),bq w A ah sz off xs->bq w' A' ah sz off xs
 | _,[],_=>by simp [bq]
 | off,cs::xs,a=>by simp only [bq] at a⊢;exact⟨a.1,bh.oK h ah d off cs a.2.1,bq.oK h ah sz d (off+sz) xs a.2.2⟩
theorem aY.mono(h:∀b,A b->A' b/\w'.heap[b]? =w.heap[b]?):∀(cs:List T) (vs:List Value),aY w A cs vs->aY w' A' cs vs
 | [],_,f=>f
 | c::cs,vs,⟨v,r,e,a,d⟩=>⟨v,r,e,az.mono h c v a,aY.mono h cs r d⟩
theorem bq.get{ah sz:Nat}:∀{off:Nat} {xs:List (List T)},bq w A ah sz off xs->∀{k:Nat} {cs:List T},xs[k]? =some cs->cs.length=sz/\bh w A ah (off+k * sz) cs
 | off,cs::xs,h,0,a,e=>by simp only [bq] at h;simp at e;subst e;exact⟨h.1,by simpa using h.2.1⟩
 | off,cs::xs,h,k+1,a,e=>by
  simp only [bq] at h;have:=bq.get h.2.2 (k:=k) (cs:=a) (by simpa using e);refine⟨this.1, ?_⟩;have b:off+ (k+1) * sz=off+sz+k * sz:=by rw [Xw];omega
  rw [b];exact this.2
theorem bh.get{ah:Nat}:∀{off:Nat} {cs:List T},bh w A ah off cs->∀{k:Nat} {c:T},cs[k]? =some c->∃v,w.cell? ⟨ah,off+k,none⟩=some v/\az w A c v
 | off,c::cs,h,0,c',e=>by simp only [bh] at h;simp at e;subst e;exact h.1
 | off,c::cs,h,k+1,c',e=>by
  simp only [bh] at h;have:=bh.get h.2 (k:=k) (c:=c') (by simpa using e);have a:off+1+k=off+ (k+1):=by omega
  rw [a] at this;exact this
theorem bh.drop{ah:Nat}:∀{off:Nat} {cs:List T},bh w A ah off cs->∀(n:Nat),bh w A ah (off+n) (cs.drop n)
 | _,_,h,0=>by simpa using h
 | _,[],_,n+1=>by simp [bh]
 | off,c::cs,h,n+1=>by
  simp only [bh] at h;have:=bh.drop h.2 n;have a:off+1+n=off+ (n+1):=by omega
  rw [a] at this;simpa using this
theorem bq.drop{ah sz:Nat}:∀{off:Nat} {xs:List (List T)},bq w A ah sz off xs->∀(n:Nat),bq w A ah sz (off+n * sz) (xs.drop n)
 | _,_,h,0=>by simpa using h
 | _,[],_,n+1=>by simp [bq]
 | off,cs::xs,h,n+1=>by
  simp only [bq] at h;have:=bq.drop h.2.2 n;have a:off+sz+n * sz=off+ (n+1) * sz:=by rw [Xw];omega
  rw [a] at this;simpa using this
theorem bq.take{ah sz:Nat}:∀{off:Nat} {xs:List (List T)},bq w A ah sz off xs->∀(n:Nat),bq w A ah sz off (xs.take n)
 | _,_,_,0=>by simp [bq]
 | _,[],_,n+1=>by simp [bq]
 | off,cs::xs,h,n+1=>by simp only [bq] at h;simp only [YV,bq];exact⟨h.1,h.2.1,bq.take h.2.2 n⟩
theorem bq.append{ah sz:Nat}:∀{off:Nat} {xs a:List (List T)},bq w A ah sz off xs->bq w A ah sz (off+xs.length * sz) a->bq w A ah sz off (xs++a)
 | off,[],a,_,h=>by simpa using h
 | off,cs::xs,a,h,h'=>by
  simp only [bq] at h;simp only [Xp,bq];refine⟨h.1,h.2.1,bq.append h.2.2 ?_⟩;have b:off+sz+xs.length * sz=off+ (cs::xs).length * sz:=by simp [Xw];omega
  rw [b];exact h'
theorem az.r6{t:T}{v:Value}(h:az w A t v):v.oneCell'=true/\v.cells= #[v]:=by
 cases t <;> simp only [az] at h
 case ad=>rcases h with⟨_,_,rfl⟩ | ⟨_,_,_,_,_,rfl,_⟩ <;> exact⟨rfl,rfl⟩
 case aB=>rcases h with⟨_,rfl⟩ | ⟨_,_,_,_,rfl⟩ <;> exact⟨rfl,rfl⟩
 case ptr=>obtain⟨_,_,rfl,_⟩:=h;exact⟨rfl,rfl⟩
 case any=>exact h
 all_goals subst h;exact⟨rfl,rfl⟩
theorem aY.length:∀{cs:List T} {vs:List Value},aY w A cs vs->vs.length=cs.length
 | [],_,h=>by simp only [aY] at h;simp [h]
 | c::cs,vs,⟨v,r,e,_,h⟩=>by subst e;simp [aY.length h]
end
section
variable (w:World) (A:Nat->Prop) (ρ:Id->Option Value)
mutual
def ao:AV->Value->Prop
 | .top,_=>True
 | .t x,v=>az w A x v
 | .np vs,v=>∃d:List Value,v= .tuple d.toArray/\aC vs d
 | .agg vs,v=>∃d:List Value,v= .agg d.toArray/\aC vs d/\∀u∈d,u.oneCell'=true/\u.cells= #[u]
 | .ref i off,v=>∃b,ρ i=some (.pointer (some ⟨b,0,none⟩))/\v= .pointer (some ⟨b,off,none⟩)
 | .el i sz k off,v=>∃b o L cap,ρ i=some (.slice (some ⟨b,o,none⟩) L cap)/\v= .pointer (some ⟨b,o+k * sz+off,none⟩)
 | .own i,v=>ρ i=some v
 | .part i sz off n,v=>∃a L cap e,ρ i=some (.slice a L cap)/\off+n<=L/\L<=cap/\v= .slice e n (cap - off)/\
   ((off=0/\e=a)\/(off=cap/\(e=none↔a=none)/\True)\/∃b o,a=some ⟨b,o,none⟩/\e=some ⟨b,o+off * sz,none⟩)
 | .row i n,v=>ρ (.g i n)=some v
 | .rel i sz n k off,v=>∃b o L cap,ρ (.g i n)=some (.slice (some ⟨b,o,none⟩) L cap)/\v= .pointer (some ⟨b,o+k * sz+off,none⟩)
 | .fn f xs m,v=>∃j l:List Value,v= .func (.func f) j.toArray l.toArray/\aC xs j/\aC m l
def aC:List AV->List Value->Prop
 | [],vs=>vs= []
 | a::b,vs=>∃v r,vs=v::r/\ao a v/\aC b r
end
end
section
variable {w w':World} {A A':Nat->Prop} {ρ ρ':Id->Option Value}
mutual
theorem ao.mono(h:∀b,A b->A' b/\w'.heap[b]? =w.heap[b]?)(g:∀i v,ρ i=some v->ρ' i=some v):∀(a:AV) (v:Value),ao w A ρ a v->ao w' A' ρ' a v
 | .top,_,_=>by simp [ao]
 | .t x,v,d=>by simp only [ao] at d⊢;exact az.mono h x v d
 | .np vs,v,d=>by simp only [ao] at d⊢;obtain⟨l,e,j⟩:=d;exact⟨l,e,aC.mono h g vs l j⟩
 | .agg vs,v,d=>by simp only [ao] at d⊢;obtain⟨l,e,j,y⟩:=d;exact⟨l,e,aC.mono h g vs l j,y⟩
 | .ref i off,v,d=>by simp only [ao] at d⊢;obtain⟨b,e,j⟩:=d;exact⟨b,g _ _ e,j⟩
 | .el i sz k off,v,d=>by simp only [ao] at d⊢;obtain⟨b,o,L,cap,e,j⟩:=d;exact⟨b,o,L,cap,g _ _ e,j⟩
 | .own i,v,d=>by simp only [ao] at d⊢;exact g _ _ d
 | .part i sz off n,v,d=>by simp only [ao] at d⊢;obtain⟨a,L,cap,q,e,j⟩:=d;exact⟨a,L,cap,q,g _ _ e,j⟩
 | .row i n,v,d=>by simp only [ao] at d⊢;exact g _ _ d
 | .rel i sz n k off,v,d=>by simp only [ao] at d⊢;obtain⟨b,o,L,cap,e,j⟩:=d;exact⟨b,o,L,cap,g _ _ e,j⟩
 | .fn f xs z,v,d=>by simp only [ao] at d⊢;obtain⟨m,p,e,r,u⟩:=d;exact⟨m,p,e,aC.mono h g xs m r,aC.mono h g z p u⟩
theorem aC.mono(h:∀b,A b->A' b/\w'.heap[b]? =w.heap[b]?)(g:∀i v,ρ i=some v->ρ' i=some v):∀(d:List AV) (vs:List Value),aC w A ρ d vs->aC w' A' ρ' d vs
 | [],_,f=>by simpa [aC] using f
 | a::d,vs,f=>by simp only [aC] at f⊢;obtain⟨v,r,e,j,k⟩:=f;exact⟨v,r,e,ao.mono h g a v j,aC.mono h g d r k⟩
end
theorem aC.length:∀{b:List AV} {vs:List Value},aC w A ρ b vs->vs.length=b.length
 | [],_,h=>by simp only [aC] at h;simp [h]
 | a::b,vs,h=>by simp only [aC] at h;obtain⟨v,r,e,_,h⟩:=h;subst e;simp [aC.length h]
theorem aC.get:∀{b:List AV} {vs:List Value},aC w A ρ b vs->∀{k:Nat} {a:AV},b[k]? =some a->∃v,vs[k]? =some v/\ao w A ρ a v
 | a::b,vs,h,0,d,e=>by simp only [aC] at h;obtain⟨v,r,rfl,f,_⟩:=h;simp at e;subst e;exact⟨v,rfl,f⟩
 | a::b,vs,h,k+1,d,e=>by simp only [aC] at h;obtain⟨v,r,rfl,_,h⟩:=h;obtain⟨u,i,g⟩:=aC.get h (k:=k) (a:=d) (by simpa using e);exact⟨u,by simpa using i,g⟩
theorem aC.append:∀{b d:List AV} {vs us:List Value},aC w A ρ b vs->aC w A ρ d us->aC w A ρ (b++d) (vs++us)
 | [],_,_,_,h,h'=>by simp only [aC] at h;subst h;simpa using h'
 | a::b,d,vs,us,h,h'=>by simp only [aC] at h;obtain⟨v,r,rfl,e,h⟩:=h;simp only [Xp,aC];exact⟨v,r++us,rfl,e,aC.append h h'⟩
theorem aC.drop:∀{b:List AV} {vs:List Value},aC w A ρ b vs->∀n,aC w A ρ (b.drop n) (vs.drop n)
 | _,_,h,0=>by simpa using h
 | [],vs,h,n+1=>by simp only [aC] at h;subst h;simp [aC]
 | a::b,vs,h,n+1=>by simp only [aC] at h;obtain⟨v,r,rfl,d,h⟩:=h;simpa using aC.drop h n
theorem aC.take:∀{b:List AV} {vs:List Value},aC w A ρ b vs->∀n,aC w A ρ (b.take n) (vs.take n)
 | _,_,_,0=>by simp [aC]
 | [],vs,h,n+1=>by simp only [aC] at h;subst h;simp [aC]
 | a::b,vs,h,n+1=>by simp only [aC] at h;obtain⟨v,r,rfl,d,h⟩:=h;simp only [YV,aC];exact⟨v,r.take n,rfl,d,aC.take h n⟩
theorem aC.mR:∀{cs:List T} {vs:List Value},aY w A cs vs->aC w A ρ (cs.map .t) vs
 | [],_,h=>by simpa [aC,aY] using h
 | c::cs,vs,⟨v,r,e,a,b⟩=>by simp only [WL,aC];exact⟨v,r,e,by simpa [ao] using a,aC.mR b⟩
theorem aY.mh:∀{b:List AV} {cs:List T} {vs:List Value},eV b=some cs->aC w A ρ b vs->aY w A cs vs
 | [],cs,vs,h,d=>by simp only [eV,Wj] at h;subst h;simpa [aY,aC] using d
 | a::b,cs,vs,h,d=>by
  cases a <;> simp only [eV,reduceCtorEq] at h
  case t x=>
   cases hl:eV b with
   | none=>simp [hl] at h
   | some l=>simp only [hl,Wq,Wj] at h;subst h;simp only [aC,ao] at d;obtain⟨v,r,e,f,g⟩:=d;exact⟨v,r,e,f,aY.mh hl g⟩
end
open Go
section
variable {R S α:Type}
theorem bY[Inhabited α](c:Option Bool)(m:Option α)(k:α->Option R)(f:R->Option S):(ab c m k).bind f=ab c m λa=>(k a).bind f:=by
 unfold ab;cases m with
 | some a=>rfl
 | none=>cases c with
  | none=>rfl
  | some b=>cases b <;> rfl
theorem aS[Inhabited α]{c:Option Bool}{m:Option α}{k:α->Option R}{r:R}(h:ab c m k=some r)(b:c=none\/c=some true):∃a,m=some a/\k a=some r:=by
 unfold ab at h;cases m with
 | some a=>exact⟨a,rfl,h⟩
 | none=>rcases b with rfl | rfl <;> simp at h
theorem mF(c:Bool)(x y:Option R)(f:R->Option S):(cond c x y).bind f=cond c (x.bind f) (y.bind f):=by cases c <;> rfl
theorem dc(c:Prop)[Decidable c](x y:Option R)(f:R->Option S):(if c then x else y).bind f=if c then x.bind f else y.bind f:=by split <;> rfl
theorem bS(f:R->Option S):(none:Option R).bind f=none:=rfl
theorem Dn(c:Option Bool):∀(n:Nat) (cs:List T) (K:List T->Option R) (f:R->Option S),(qA c n cs K).bind f=qA c n cs λx=>(K x).bind f
 | 0,_,_,_=>rfl
 | n+1,cs,K,f=>by simp only [qA,bY,Dn c n]
theorem o9(k:Ck)(c:Option Bool)(x:T)(K:T->Option R)(f:R->Option S):(fX k c x K).bind f=fX k c x λx=>(K x).bind f:=by unfold fX;cases k <;> simp only [bY]
theorem uF(c:Option Bool):∀(ks:List Ck) (xs:List T) (K:List T->Option R) (f:R->Option S),(fM c ks xs K).bind f=fM c ks xs λx=>(K x).bind f
 | [],_,_,_=>rfl
 | _::_,[],_,_=>rfl
 | k::ks,x::xs,K,f=>by simp only [fM,o9,uF c ks xs]
theorem LJ(op:BinOp)(k:IntKind)(c:Option Bool)(x y:T)(K:T->Option R)(f:R->Option S):(sT op k c x y K).bind f=sT op k c x y λx=>(K x).bind f:=by unfold sT;cases op <;> simp only [bY,bS]
theorem Ug(op:BinOp)(k ky:IntKind)(c:Option Bool)(x y:T)(K:T->Option R)(f:R->Option S):(uw op k ky c x y K).bind f=uw op k ky c x y λx=>(K x).bind f:=by unfold uw;cases op <;> simp only [bY,bS]
theorem UE(op:BinOp)(c:Option Bool)(x y:T)(K:T->Option R)(f:R->Option S):(uB op c x y K).bind f=uB op c x y λx=>(K x).bind f:=by unfold uB;cases op <;> simp only [bY,bS]
theorem Gz(P:Program)(c:Option Bool)(t:TypeId)(x y:T)(K:Bool->Option R)(f:R->Option S):(mI P c t x y K).bind f=mI P c t x y λx=>(K x).bind f:=by unfold mI;split <;> simp only [bY,bS]
theorem GA(P:Program)(c:Option Bool):∀(ts:List TypeId) (xs a:List T) (K:Bool->Option R) (f:R->Option S),(fm P c ts xs a K).bind f=fm P c ts xs a λx=>(K x).bind f
 | [],[],[],_,_=>rfl
 | t::ts,x::xs,y::a,K,f=>by simp only [fm,Gz,GA P c ts xs a]
 | [],[],_::_,_,_=>rfl
 | [],_::_,_,_,_=>rfl
 | _::_,[],_,_,_=>rfl
 | _::_,_::_,[],_,_=>rfl
theorem LS(P:Program)(op:BinOp)(t ty:TypeId)(c:Option Bool)(x y:T)(K:T->Option R)(f:R->Option S):(sV P op t ty c x y K).bind f=sV P op t ty c x y λx=>(K x).bind f:=by unfold sV;cases op <;> simp only [] <;> first | rfl | (split <;> simp only [LJ,Ug,UE,bS])
theorem OZ(P:Program)(c:Option Bool)(t:TypeId)(x y:AV)(K:Bool->Option R)(f:R->Option S):(rD P c t x y K).bind f=rD P c t x y λx=>(K x).bind f:=by unfold rD;split <;> simp only [mF,bY,Gz,GA,WM,bS]
theorem UY(P:Program)(op:UnOp)(t:TypeId)(c:Option Bool)(x:T)(K:T->Option R)(f:R->Option S):(uG P op t c x K).bind f=uG P op t c x λx=>(K x).bind f:=by unfold uG;split <;> simp only [bY,bS]
theorem vZ(P:Program)(t:TypeId)(c:Option Bool)(cs:List T)(K:AV->Option R)(f:R->Option S):(mf P t c cs K).bind f=mf P t c cs λx=>(K x).bind f:=by unfold mf;simp only [mF,bY,Dn,o9,uF]
theorem H5(P:Program)(t:TypeId)(cs:List AV)(K:AV->Option R)(f:R->Option S):(nR P t cs K).bind f=nR P t cs λx=>(K x).bind f:=by unfold nR;simp only [mF,WM]
theorem CT(h:Id->Option aa)(c:Option Bool)(i:Id)(n:Nat)(K:Nat->Bool->List (List T)->Option R)(f:R->Option S):(na h c i n K).bind f=na h c i n λa b l=>(K a b l).bind f:=by unfold na;split <;> simp only [bY,bS]
theorem P8(P:Program)(t:TypeId)(c:Option Bool)(i:Id)(sz col off:Nat)(e:Row)(K:AV->Option R)(f:R->Option S):(tP P t c i sz col off e K).bind f=tP P t c i sz col off e λx=>(K x).bind f:=by unfold tP;simp only [mF,dc,bY,Dn,o9,uF,bS]
theorem P7(P:Program)(s:St)(c:Option Bool)(t:TypeId)(a:AV)(K:AV->Option R)(f:R->Option S):(ix P s c t a K).bind f=ix P s c t a λx=>(K x).bind f:=by
 unfold ix;rw [mF];congr 1;split
 .split <;> simp only [H5,vZ,bS]
 .split <;> simp only [dc,bY,vZ,P8,bS]
 .simp only [CT,dc,bY,vZ,bS]
 .simp only [bY,vZ]
 .rfl
theorem UB(P:Program)(s:St)(t:TypeId)(a v:AV)(K:aH->Option R)(f:R->Option S):(jU P s t a v K).bind f=jU P s t a v λx=>(K x).bind f:=by
 unfold jU;rw [mF];congr 1;split
 .split <;> simp only [dc,bS]
 .split
  .simp only [WM,dc,bY,bS]
  .split
   .split <;> simp only [dc,bY,bS]
   .rfl
  .rfl
 .split <;> simp only [WM,dc,bY,bS]
 .rfl
theorem rL(c:Option Bool)(i:Int)(n:Nat)(K:Option R)(f:R->Option S):(lI c i n K).bind f=lI c i n (K.bind f):=by unfold lI;simp only [bY]
theorem PE(P:Program)(s:St)(c:Option Bool)(t:TypeId)(x:AV)(i:Int)(K:AV->Option R)(f:R->Option S):(kG P s c t x i K).bind f=kG P s c t x i λx=>(K x).bind f:=by
 unfold kG;split
 .split
  .split <;> simp only [dc,rL,bS]
  .simp only [CT,dc,rL,bS]
  .split <;> simp only [dc,rL,bS]
  .simp only [bY,rL]
  .rfl
 .split
  .rw [rL];congr 1;split <;> simp only [bY,bS]
  .rfl
theorem Ph(P:Program)(c:Option Bool)(t:TypeId)(x:AV)(k:Nat)(K:AV->Option R)(f:R->Option S):(tF P c t x k K).bind f=tF P c t x k λx=>(K x).bind f:=by
 unfold tF;split
 .rw [dc];congr 1;split <;> simp only [bY,bS]
 .rfl
theorem Pf(P:Program)(t:TypeId)(x:AV)(k:Nat)(K:AV->Option R)(f:R->Option S):(tE P t x k K).bind f=tE P t x k λx=>(K x).bind f:=by
 unfold tE;split
 .split <;> simp only [H5,bS]
 .rfl
theorem PV(P:Program)(s:St)(c:Option Bool)(t:TypeId)(x:AV)(K:AV->Option R)(f:R->Option S):(oI P s c t x K).bind f=oI P s c t x λx=>(K x).bind f:=by
 unfold oI;split
 .split <;> simp only [bY,bS]
 .rfl
 .split
  .split <;> rfl
  .simp only [CT]
  .rfl
  .simp only [bY]
  .rfl
 .rfl
theorem L8(s:St)(c:Option Bool)(g:Option Gs)(o:Option Operand)(K:Option Int->Option R)(f:R->Option S):(jH s c g o K).bind f=jH s c g o λx=>(K x).bind f:=by
 unfold jH;split
 .rfl
 .simp only [WM,bY]
theorem Ul(P:Program)(s:St)(c:Option Bool)(t:TypeId)(x:AV)(b a d:Option Int)(K:AV->Option R)(f:R->Option S):(o7 P s c t x b a d K).bind f=o7 P s c t x b a d λx=>(K x).bind f:=by
 unfold o7;split
 .split <;> simp only [bY,bS]
 .split
  .split
   .split <;> simp only [dc,bY,bS]
   .split <;> simp only [dc,bY,bS]
   .simp only [dc,bY,bS]
   .rfl
  .split
   .simp only [dc,bY,bS]
   .split <;> simp only [dc,bY,bS]
   .rfl
 .rfl
theorem LD(P:Program)(s:St)(t:TypeId)(sz:Nat)(a:List T)(y:AV)(K:List (List T)->Option R)(f:R->Option S):(nv P s t sz a y K).bind f=nv P s t sz a y λx=>(K x).bind f:=by unfold nv;split <;> simp only [WM,dc,bY,bS]
theorem Lz(P:Program)(s:St)(d:Nat)(e:TypeId)(i:Id)(sz col rsz a:Nat)(es:List Row)(j:Id)(cs:List AV)(K:AV->aH->Option R)(f:R->Option S):(qX P s d e i sz col rsz a es j cs K).bind f=qX P s d e i sz col rsz a es j cs λv u=>(K v u).bind f:=by
 unfold qX;rw [dc];congr 1;rw [WM];congr 1;funext l;split
 .split <;> simp only [dc,bY,bS]
 .split <;> simp only [dc,bY,bS]
 .rfl
theorem Lx(P:Program)(s:St)(d:Nat)(rw:Bool)(t ty:TypeId)(x y:AV)(K:AV->aH->Option R)(f:R->Option S):(l4 P s d rw t ty x y K).bind f=l4 P s d rw t ty x y λv u=>(K v u).bind f:=by
 unfold l4;rw [WM];congr 1;funext e;rw [WM];congr 1;funext b;rw [dc];congr 1;split
 .split <;> simp only [Lz,bS]
 .rw [LD];congr 1;funext a;split
  .split <;> simp only [dc,bY,bS]
  .split <;> simp only [dc,bY,bS]
  .simp only [WM,bY]
  .rfl
theorem Qi(P:Program)(d:Nat)(t:TypeId)(ns:Nat)(n m:T)(K:AV->aH->Option R)(f:R->Option S):(tR P d t ns n m K).bind f=tR P d t ns n m λv u=>(K v u).bind f:=by unfold tR;rw [WM];congr 1;funext e;rw [WM];congr 1;funext a;rw [bY];congr 1;funext n;rw [bY];congr 1;funext m;rw [dc];congr 1;rw [bY];congr 1;funext _;rw [mF];congr 1;split <;> simp only [dc,bS]
theorem B2(P:Program)(k:TypeId)(c:Option Bool)(v:AV)(K:Bool->List Ck->List T->Option R)(f:R->Option S):(qc P k c v K).bind f=qc P k c v λa b l=>(K a b l).bind f:=by unfold qc;rw [WM];congr 1;funext q;split <;> simp only [uF,WM,dc,bS]
theorem Qf(P:Program)(s:St)(c:Option Bool)(t:TypeId)(x k:AV)(ok:Bool)(K:AV->Option R)(f:R->Option S):(oJ P s c t x k ok K).bind f=oJ P s c t x k ok λv=>(K v).bind f:=by
 unfold oJ;rw [WM];congr 1;funext q;rw [WM];congr 1;funext z;rw [B2];congr 1;funext a b l;split
 .split
  .rw [dc];simp only [o9,bS]
  .rfl
 .rfl
theorem Qk(P:Program)(d:Nat)(t:TypeId)(K:AV->aH->Option R)(f:R->Option S):(tS P d t K).bind f=tS P d t λv u=>(K v u).bind f:=by unfold tS;simp only [WM,dc,bS]
theorem MH(P:Program)(s:St)(t:TypeId)(x k:AV)(K:aH->Option R)(f:R->Option S):(ot P s t x k K).bind f=ot P s t x k λu=>(K u).bind f:=by
 unfold ot;rw [WM];congr 1;funext q;rw [B2];congr 1;funext a b l;split
 .split
  .rw [dc];rfl
  .rfl
 .rfl
theorem Sq(P:Program)(s:St)(t:TypeId)(x k v:AV)(K:aH->Option R)(f:R->Option S):(oQ P s t x k v K).bind f=oQ P s t x k v λu=>(K u).bind f:=by
 unfold oQ;rw [WM];congr 1;funext q;rw [B2];congr 1;funext a b l;split
 .split
  .rw [dc];simp only [WM,o9,bS]
  .rfl
 .rfl
theorem Cl(k:IntKind)(c:Option Bool)(b:Bool):∀(l:List T) (a:Int) (K:T->Option R) (f:R->Option S),(qh k c b a l K).bind f=qh k c b a l λx=>(K x).bind f
 | [],_,_,_=>rfl
 | y::r,a,K,f=>by simp only [qh,bY,Cl k c b r]
theorem Mw(P:Program)(c:Option Bool)(a b:TypeId)(x:T)(K:T->Option R)(f:R->Option S):(tc P c a b x K).bind f=tc P c a b x λx=>(K x).bind f:=by unfold tc;split <;> simp only [bY,bS]
theorem EW(ids:List Id)(d:Nat)(c:Option Bool)(j:Nat)(r:cD)(x:T)(K:AV->aH->Nat->Option R)(f:R->Option S):(nD ids d c j r x K).bind f=nD ids d c j r x λv u j=>(K v u j).bind f:=by
 unfold nD;split
 .exact o9 _ _ _ _ _
 .exact o9 _ _ _ _ _
 .split <;> simp only [bY,bS]
 .split <;> simp only [bS]
 .split <;> simp only [bS]
 .split <;> simp only [bY,bS]
 .split <;> simp only [bY,bS]
 .rfl
 .rfl
 .rfl
theorem x9(ids:List Id)(d:Nat)(c:Option Bool):∀(rs:List cD) (j:Nat) (xs:List T) (K:List AV->aH->Nat->Option R) (f:R->Option S),(lD ids d c j rs xs K).bind f=lD ids d c j rs xs λv u j=>(K v u j).bind f
 | [],_,_,_,_=>rfl
 | r::rs,j,xs,K,f=>by simp only [lD,bY,EW,x9 ids d c rs]
theorem rv(ids:List Id)(d:Nat)(c:Option Bool):∀(rs:List cD) (j:Nat) (xs:List T) (K:List AV->aH->Nat->Option R) (f:R->Option S),(eO ids d c j rs xs K).bind f=eO ids d c j rs xs λv u j=>(K v u j).bind f
 | [],_,_,_,_=>rfl
 | r::rs,j,xs,K,f=>by
  cases r
  case new l=>cases c <;> simp only [eO,x9,rv ids d _ rs,bS]
  all_goals simp only [eO,bY,EW,x9,rv ids d c rs]
theorem yd(all:List Id)(d:Nat):∀(rs:List kQ) (a:List Id) (j:Nat) (xs:List T) (K:aH->Option R) (f:R->Option S),(gV all d j a rs xs K).bind f=gV all d j a rs xs λu=>(K u).bind f
 | [],[],_,_,_,_=>rfl
 | [],_::_,_,_,_,_=>rfl
 | r::rs,[],_,_,_,_=>by cases r <;> rfl
 | r::rs,i::a,j,xs,K,f=>by cases r <;> simp only [gV,bY,x9,yd all d rs]
theorem UP(P:Program)(c:Option Bool)(t:TypeId)(v:AV)(K:AV->Option R)(f:R->Option S):(n7 P c t v K).bind f=n7 P c t v λx=>(K x).bind f:=by
 unfold n7;split
 .exact o9 _ _ _ _ _
 .split
  .exact uF _ _ _ _ _
  .rfl
 .rfl
theorem Dv(P:Program)(c:Option Bool):∀(ts:List TypeId) (vs:List AV) (K:List AV->Option R) (f:R->Option S),(jW P c ts vs K).bind f=jW P c ts vs λx=>(K x).bind f
 | [],_,_,_=>rfl
 | _::_,[],_,_=>rfl
 | t::ts,v::vs,K,f=>by simp only [jW,UP,Dv P c ts vs]
theorem EB(P:Program)(A:cR)(O:aq)(s:St)(d:Nat)(c:Option Bool)(g:FuncId)(args:List AV)(K:AV->aH->Option R)(f:R->Option S):
  (il P A O s d c g args K).bind f=il P A O s d c g args λv u=>(K v u).bind f:=by
 unfold il;split
 .rfl
 .split
  .simp only [WM,bY,rv,Dv]
  .split
   .rfl
   .simp only [WM,mF,bS,bY,rv,yd,Dv]
theorem LQ(h:Id->Option aa)(i new:Id)(n rsz:Nat)(K:aH->Option R)(f:R->Option S):(uZ h i new n rsz K).bind f=uZ h i new n rsz λu=>(K u).bind f:=by
 unfold uZ;split
 .rw [dc];simp only [bY,bS]
 .rfl
theorem SE(P:Program)(s:St)(e:TypeId)(d:Nat)(c:Option Bool)(v:AV)(K:AV->aH->Option R)(f:R->Option S):(oW P s e d c v K).bind f=oW P s e d c v λv u=>(K v u).bind f:=by
 unfold oW;split
 .split
  .split
   .rw [bY];congr 1;funext p;rw [WM];congr 1;funext l;rw [dc];rfl
   .rfl
  .rfl
 .rfl
theorem Mo(iL:Bool)(P:Program)(A:cR)(O:aq)(s:St)(d:Nat)(c:Option Bool)(g:FuncId)(args:List AV)(K:AV->aH->Option R)(f:R->Option S):
  (kz iL P A O s d c g args K).bind f=kz iL P A O s d c g args λv u=>(K v u).bind f:=by
 unfold kz;split
 .exact EB _ _ _ _ _ _ _ _ _ _
 .split
  .simp only [bY,mF,EB,LQ,bS]
  .rfl
theorem Hm(c:Option Bool)(v:AV)(K:Int->Option R)(f:R->Option S):(p7 c v K).bind f=p7 c v λx=>(K x).bind f:=by unfold p7;simp only [WM,bY]
theorem Am(P:Program)(A:cR)(O:aq)(g:Option Gs)(o:Oper)(s:St)(K:AV->aH->Option R)(f:R->Option S):
  (jD P A O g o s K).bind f=jD P A O g o s λv u=>(K v u).bind f:=by
 unfold jD;cases o.op <;> dsimp only
 case pick=>simp only [WM,bY]
 case alloc=>split <;> simp only [WM,bS]
 case box=>split <;> simp only [dc,bS]
 case build=>simp only [WM]
 case buildSlice=>
  rw [WM];congr 1;funext e;rw [dc];congr 1
  .split <;> simp only [dc,bS]
  rw [dc];congr 1
  .split <;> simp only [SE,bS]
  rw [dc];congr 1;rw [dc];congr 1;rw [WM];congr 1;funext q;split <;> rfl
 case load=>simp only [P7]
 case store=>split <;> simp only [UB,bS]
 case nilCheck=>split <;> simp only [bY,bS]
 case binOp=>split <;> simp only [WM,OZ,LS]
 case unOp=>simp only [WM,UY]
 case convert=>
  split
  .split <;> simp only [WM,bY,bS]
  .simp only [WM,Mw]
 case makeFunc=>split <;> simp_all
 case makeSlice=>split <;> simp only [WM,Qi,bS]
 case makeMap=>split <;> simp only [Qk,bS]
 case lookup=>simp only [Qf]
 case mapUpdate=>split <;> simp only [Sq,bS]
 case slice=>simp only [L8,Ul]
 case fieldAddr=>simp only [Ph]
 case field=>simp only [Pf]
 case indexAddr=>simp only [Hm,PE]
 case index=>
  simp only [Hm];congr 1;funext n;split
  .simp only [WM,bY,rL]
  .split <;> simp only [mF,WM,rL,vZ,bS]
  .rfl
 case extract=>split <;> simp only [WM,bS]
 case call cl=>
  split
  .split <;> simp only [PV,bS]
  .split <;> simp only [Lx,bS]
  .split
   .rw [WM];congr 1;funext l;split <;> simp only [bY,Cl,bS]
   .rfl
  .split
   .rw [WM];congr 1;funext l;split <;> simp only [bY,Cl,bS]
   .rfl
  .split <;> simp only [MH,bS]
  ·(repeat' split) <;> simp only [mF,bS]
  .split <;> simp only [Mo,bS]
  .rfl
 all_goals rfl
def dq(P:Program)(A:cR)(O:aq)(g:Option Gs)(o:Oper)(s:St):Option (AV×aH):=jD P A O g o s λv u=>some (v,u)
theorem sS(P:Program)(A:cR)(O:aq)(g:Option Gs)(o:Oper)(s:St)(K:AV->aH->Option R):jD P A O g o s K= (dq P A O g o s).bind λp=>K p.1 p.2:=by unfold dq;rw [Am];rfl
theorem Hh(a:Array Oper)(o:Oper)(s:St)(K:Option Gs->Option R)(f:R->Option S):(dL a o s K).bind f=dL a o s λg=>(K g).bind f:=by
 unfold dL;split
 .rfl
 .split
  .rfl
  .simp only [WM,bY]
theorem yG(a:Array Oper)(o:Oper)(s:St)(K:Option Gs->Option R):dL a o s K= (dL a o s some).bind K:=by rw [Hh];rfl
def nP:List AV->List AV->Bool
 | [],[]=>true
 | c::r,c'::a=>match vO c c' with
  | none=>false
  | some none=>nP r a
  | some (some p)=>decide (p.1=p.2) && nP r a
 | _,_=>false
theorem EN(K:Option R)(a b:Bool):cond a (cond b K none) none=cond (a && b) K none:=by cases a <;> rfl
theorem Pu(p:Prop)[Decidable p](X:Option R):ab none (if p then some () else none) (λ_=>X)=cond (decide p) X none:=by by_cases h:p <;> simp [h,ab]
theorem HD(K:Option R):∀l l':List AV,vR l l' K=cond (nP l l') K none
 | [],[]=>rfl
 | [],_::_=>rfl
 | _::_,[]=>rfl
 | c::r,c'::b=>by
  have a:=HD K r b;unfold vR nP;cases vO c c' with
  | none=>rfl
  | some q=>
   cases q with
   | none=>exact a
   | some p=>dsimp only;rw [a,Pu,EN]
def mb(h h':Id->Option aa):aH->Bool
 | []=>true
 | p::us=>match vP (h p.1) (h' p.1) with
  | none=>false
  | some none=>mb h h' us
  | some (some q)=>nP q.1 q.2 && mb h h' us
theorem HI(h h':Id->Option aa)(K:Option R):∀us:aH,vS h h' us K=cond (mb h h' us) K none
 | []=>rfl
 | p::us=>by
  have a:=HI h h' K us;unfold vS mb;cases vP (h p.1) (h' p.1) with
  | none=>rfl
  | some q=>
   cases q with
   | none=>exact a
   | some q=>dsimp only;rw [HD,a,EN]
def kJ(A:cR)(a:Bool)(o:Oper)(h:Id->Option aa)(us:aH):Bool:= !(a && A.s6 o.dst o.type) || mb h (aP h us) us
theorem vQ(A:cR)(a:Bool)(o:Oper)(h:Id->Option aa)(us:aH)(K:Option R):BX A a o h us K=cond (kJ A a o h us) K none:=by unfold BX kJ;rw [HI];cases(a && A.s6 o.dst o.type) <;> rfl
def fV(P:Program)(A:cR)(O:aq)(a:Bool)(nt:Nat)(b:Array Oper)(o:Oper)(s:St):Option St:=qt P A O a nt b o s some
theorem R7(P:Program)(A:cR)(O:aq)(a:Bool)(nt:Nat)(b:Array Oper)(o:Oper)(s:St)(K:St->Option R):qt P A O a nt b o s K= (fV P A O a nt b o s).bind K:=by
 unfold fV qt;rw [Hh];congr 1;funext g;cases sB A a o g with
 | none=>
  dsimp only;rw [Am];congr 1;funext v u;rw [vQ,vQ];cases kJ A a o s.h u with
  | false=>rfl
  | true=>simp only [cond_true];rw [dc];rfl
 | some d=>
  dsimp only;cases ye nt o d with
  | false=>rfl
  | true=>
   cases d.c with
   | false=>rfl
   | true=>simp only [cond_true];rw [Am];congr 1;funext v u;rw [dc];rfl
def jR(P:Program)(A:cR)(O:aq)(a:Bool)(nt:Nat)(b:Array Oper):List Oper->St->Option St
 | [],s=>some s
 | o::r,s=>(fV P A O a nt b o s).bind (jR P A O a nt b r)
theorem CR(P:Program)(A:cR)(O:aq)(a:Bool)(nt:Nat)(b:Array Oper):∀(l:List Oper) (s:St) (K:St->Option R),wP P A O a nt b l s K= (jR P A O a nt b l s).bind K
 | [],_,_=>rfl
 | o::r,s,K=>by simp only [wP,jR,R7,WM];congr 1;funext s';exact CR P A O a nt b r s' K
end
open Go
def tK(w:World):Prop:=Lib.TabIs Go.Proofs.Tryz.prog w "internal/strconv.uint64pow10" .u64 Lib.pow10Tab
def pW:Nat:=3
theorem Px:Go.Proofs.Tryz.prog.globalNamed "internal/strconv.uint64pow10" =some 0:=by kernel_rfl
theorem BJ{w w':World}(a:∀b,b < pW->w'.heap[b]? =w.heap[b]?)(h:tK w):tK w':=by unfold tK Lib.TabIs World.var? at h⊢;rw [Px,Wq] at h⊢;rw [a 0 (by decide)];exact h
def GlobOk(w:World):Prop:=tK w/\pW<=w.heap.size
open Go
structure Ctx where
 A0:Nat->Prop
 M:Nat->Prop
 N0:Nat
def Ctx.MO(c:Ctx)(b:Nat):Prop:=c.M b\/c.N0<=b
def AA(c:Ctx)(w:World)(O:Id->Option Nat)(b:Nat):Prop:=(c.A0 b\/c.MO b)/\b < w.heap.size/\∀i,O i≠some b
def dm(w:World)(A:Nat->Prop)(sz:Nat)(b:Bool)(l:List (List T))(v:Value)(Q:Nat->Prop):Prop:=
 ∃a cap,v= .slice a l.length cap/\l.length<=cap/\(a=none↔b=true)/\True/\
  (cap=0\/∃ah off arr t,a=some ⟨ah,off,none⟩/\Q ah/\w.heap[ah]? =some (.cells arr t (0,0))/\off+cap * sz<=arr.size/\bq w A ah sz off l)
def jB(w:World)(A:Nat->Prop)(ρ:Id->Option Value)(O:Id->Option Nat)(i:Id)(ah sz col rsz base:Nat)(e:Row):Prop:=
 e.cs.length=sz/\col < sz/\(∀j x,j≠col->e.cs[j]? =some x->∃v,w.cell? ⟨ah,base+j,none⟩=some v/\az w A x v)/\
 ∃v,w.cell? ⟨ah,base+col,none⟩=some v/\ρ (.g i e.n)=some v/\
  match e.own with
  | some p=>dm w A rsz p.1 p.2 v (λb=>O (.g i e.n)=some b)
  | none=>O (.g i e.n)=none
def cI(w:World)(A:Nat->Prop)(ρ:Id->Option Value)(O:Id->Option Nat)(i:Id)(ah sz col rsz:Nat):Nat->List Row->Prop
 | _,[]=>True
 | base,e::es=>jB w A ρ O i ah sz col rsz base e/\cI w A ρ O i ah sz col rsz (base+sz) es
def pC(ρ:Id->Option Value)(O:Id->Option Nat)(i:Id)(a:Nat)(es:List Row):Prop:=
 (es.map (·.n)).Nodup/\(∀e∈es,e.n < a)/\(∀n,a<=n->ρ (.g i n)=none)/\∀n b,O (.g i n)=some b->∃e∈es,e.n=n
def dD(w:World)(A:Nat->Prop)(ρ:Id->Option Value)(O:Id->Option Nat)(i:Id):aa->Prop
 | .box cs=>∃b arr t,ρ i=some (.pointer (some ⟨b,0,none⟩))/\O i=some b/\w.heap[b]? =some (.cells arr t (0,0))/\aC w A ρ cs arr.toList/\
   (∀u∈arr.toList,u.oneCell'=true/\u.cells= #[u])
 | .sl fz sz b l=>∃v,ρ i=some v/\dm w A sz b l v (λah=>if fz=true then A ah else O i=some ah)/\(fz=true->O i=none)
 | .dy l=>∃b,ρ i=some (.pointer (some ⟨b,0,none⟩))/\O i=none/\A b/\bh w A b 0 l
 | .arr cs=>∃b arr t,ρ i=some (.slice (some ⟨b,0,none⟩) 1 1)/\O i=some b/\w.heap[b]? =some (.cells arr t (0,0))/\aC w A ρ cs arr.toList/\
   (∀u∈arr.toList,u.oneCell'=true/\u.cells= #[u])
 | .mp ag ks vk es=>∃b d f,ρ i=some (.map (some b))/\O i=some b/\w.heap[b]? =some (.map d f)/\
   d.toList.map (λe=>(e.key,e.val))=es.map (λp=>(dM ag p.1,eA p.2))/\(es.all λp=>cF ks p.1 && eL vk p.2)=true
 | .rows b sz col rsz g es=>∃a cap,ρ i=some (.slice a es.length cap)/\es.length<=cap/\(a=none↔b=true)/\pC ρ O i g es/\
   (cap=0\/∃ah off arr t,a=some ⟨ah,off,none⟩/\O i=some ah/\w.heap[ah]? =some (.cells arr t (0,0))/\off+cap * sz<=arr.size/\cI w A ρ O i ah sz col rsz off es)
 | .dead=>(∃v,ρ i=some v/\v.oneCell'=true/\v.cells= #[v])/\O i=none
structure HS (c:Ctx) (w:World) (h:Id->Option aa) (ρ:Id->Option Value) (O:Id->Option Nat):Prop where
 ah:∀i b,h i=some b->dD w (AA c w O) ρ O i b
 cK:∀i,i.real=true->h i=none->ρ i=none/\O i=none
 eK:∀i n,h (.g i n)=none
 gF:∀i n,h i=none->ρ (.g i n)=none/\O (.g i n)=none
 gone:∀i n u,ρ (.g i n)=some u->u.oneCell'=true/\u.cells= #[u]
 inj:∀i j b,O i=some b->O j=some b->i=j
 lt:∀i b,O i=some b->b < w.heap.size
 own:∀i b,O i=some b->c.MO b
 size:c.N0<=w.heap.size
 glob:tK w/\pW<=c.N0/\∀b,b < pW->¬c.M b
structure Le (w:World) (ρ:Id->Option Value) (O:Id->Option Nat) (w':World) (ρ':Id->Option Value) (O':Id->Option Nat):Prop where
 os:w'.os=w.os
 output:w'.output=w.output
 tape:w'.tape=w.tape
 size:w.heap.size<=w'.heap.size
 fq:∀i v,ρ i=some v->ρ' i=some v
 ah:∀b,b < w.heap.size->(∀i,O i≠some b)->w'.heap[b]? =w.heap[b]?
 own:∀i b,O' i=some b->(∃j,O j=some b)\/w.heap.size<=b
section
variable {c:Ctx} {w w' w'':World} {h h':Id->Option aa} {ρ ρ' ρ'':Id->Option Value} {O O' O'':Id->Option Nat}
theorem Le.refl:Le w ρ O w ρ O:=⟨rfl,rfl,rfl,WH _,λ_ _ h=>h,λ_ _ _=>rfl,λi b h=> .inl ⟨i,h⟩⟩
theorem Le.trans(a:Le w ρ O w' ρ' O')(b:Le w' ρ' O' w'' ρ'' O''):Le w ρ O w'' ρ'' O'' where
 os:=b.os.trans a.os
 output:=b.output.trans a.output
 tape:=b.tape.trans a.tape
 size:=Xl a.size b.size
 fq i v h:=b.fq i v (a.fq i v h)
 ah k hk hn:=by
  rw [b.ah k (Xt hk a.size),a.ah k hk hn];intro i hi;rcases a.own i k hi with⟨j,hj⟩ | h
  .exact hn j hj
  .omega
 own i k hi:=by
  rcases b.own i k hi with⟨j,hj⟩ | h
  .exact a.own j k hj
  .exact .inr (Xl a.size h)
theorem Le.A(le:Le w ρ O w' ρ' O')(b:Nat)(a:AA c w O b):AA c w' O' b/\w'.heap[b]? =w.heap[b]?:=by
 refine⟨⟨a.1,Xt a.2.1 le.size,λi d=> ?_⟩,le.ah b a.2.1 a.2.2⟩;rcases le.own i b d with⟨j,e⟩ | h
 .exact a.2.2 j e
 .have:=a.2.1;omega
theorem dm.mono{A A' Q g:Nat->Prop}{sz:Nat}{b:Bool}{l:List (List T)}{v:Value}(q:∀b,A b->A' b/\w'.heap[b]? =w.heap[b]?)
  (f:∀b,Q b->g b/\w'.heap[b]? =w.heap[b]?) (hs:dm w A sz b l v Q):dm w' A' sz b l v g:=by
 obtain⟨a,cap,m,n,o,p,e⟩:=hs;refine⟨a,cap,m,n,o,p, ?_⟩;rcases e with e | ⟨ah,off,arr,t,i,d,e3,j,k⟩
 .exact .inl e
 .exact .inr ⟨ah,off,arr,t,i,(f _ d).1,by rw [(f _ d).2];exact e3,j,bq.oK q ah sz (f _ d).2 off l k⟩
def sH(i:Id)(w:World)(ρ:Id->Option Value)(O:Id->Option Nat)(w':World)(ρ':Id->Option Value)(O':Id->Option Nat):Prop:=
 ∀n,ρ' (.g i n)=ρ (.g i n)/\O' (.g i n)=O (.g i n)/\∀b,O (.g i n)=some b->w'.heap[b]? =w.heap[b]?
theorem jB.mono{A A':Nat->Prop}{i:Id}{ah sz col rsz base:Nat}{e:Row}(f:∀b,A b->A' b/\w'.heap[b]? =w.heap[b]?)(y:w'.heap[ah]? =w.heap[ah]?)(a:sH i w ρ O w' ρ' O')(h:jB w A ρ O i ah sz col rsz base e):
  jB w' A' ρ' O' i ah sz col rsz base e:=by
 obtain⟨l,m,o,v,q,r,t⟩:=h;have g:∀p,w'.cell? ⟨ah,p,none⟩=w.cell? ⟨ah,p,none⟩:=λp=>oq y;refine⟨l,m,λj x z B=> ?_,v,by rw [g];exact q,by rw [(a e.n).1];exact r, ?_⟩
 .obtain⟨u,g1,d⟩:=o j x z B;exact⟨u,by rw [g];exact g1,az.mono f x u d⟩
 .revert t;cases e.own with
  | none=>intro h;simp only at h⊢;rw [(a e.n).2.1];exact h
  | some p=>intro d;refine dm.mono f (λb k=> ?_) d;rw [(a e.n).2.1];exact⟨k,(a e.n).2.2 b k⟩
theorem cI.mono{A A':Nat->Prop}{i:Id}{ah sz col rsz:Nat}(a:∀b,A b->A' b/\w'.heap[b]? =w.heap[b]?)(d:w'.heap[ah]? =w.heap[ah]?)(f:sH i w ρ O w' ρ' O'):∀{es:List Row} {base:Nat},cI w A ρ O i ah sz col rsz base es->
  cI w' A' ρ' O' i ah sz col rsz base es
 | [],_,_=>trivial
 | e::es,base,h=>⟨jB.mono a d f h.1,cI.mono a d f h.2⟩
theorem dm.eQ{A A' Q a:Nat->Prop}{sz:Nat}{b:Bool}{l:List (List T)}{v:Value}(d:∀b,A b->A' b/\w'.heap[b]? =w.heap[b]?)
  (e:∀b,Q b->a b/\w'.heap[b]? =w.heap[b]?) (hs:dm w A sz b l v Q):dm w' A' sz b l v a:=dm.mono d e hs
theorem jB.move{A A':Nat->Prop}{i i':Id}{ah blk' sz col rsz base a:Nat}{e:Row}(l:∀j,j < sz->w'.cell? ⟨blk',a+j,none⟩=w.cell? ⟨ah,base+j,none⟩)(k:∀b,A b->A' b/\w'.heap[b]? =w.heap[b]?)
  (B:ρ' (.g i' e.n)=ρ (.g i e.n)) (f:O' (.g i' e.n)=O (.g i e.n)) (C:∀b,O (.g i e.n)=some b->w'.heap[b]? =w.heap[b]?) (h:jB w A ρ O i ah sz col rsz base e):jB w' A' ρ' O' i' blk' sz col rsz a e:=by
 obtain⟨q,d,r,v,a4,t,y⟩:=h;refine⟨q,d,λj x D o=> ?_,v,by rw [l _ d];exact a4,by rw [B];exact t, ?_⟩
 .obtain⟨u,g1,z⟩:=r j x D o;have:=(Wm.1 o).1;exact⟨u,by rw [l j (by omega)];exact g1,az.mono k x u z⟩
 .revert y;cases e.own with
  | none=>intro h;simp only at h⊢;rw [f];exact h
  | some p=>intro g;refine dm.mono k (λb m=> ?_) g;rw [f];exact⟨m,C b m⟩
theorem cI.move{A A':Nat->Prop}{i i':Id}{ah blk' sz col rsz:Nat}(d:∀b,A b->A' b/\w'.heap[b]? =w.heap[b]?):∀{es:List Row} {base a:Nat},
  (∀p,p < es.length * sz->w'.cell? ⟨blk',a+p,none⟩=w.cell? ⟨ah,base+p,none⟩)->(∀e∈es,ρ' (.g i' e.n)=ρ (.g i e.n)/\O' (.g i' e.n)=O (.g i e.n)/\∀b,O (.g i e.n)=some b->w'.heap[b]? =w.heap[b]?)->
  cI w A ρ O i ah sz col rsz base es->cI w' A' ρ' O' i' blk' sz col rsz a es
 | [],_,_,_,_,_=>trivial
 | e::es,base,a,f,k,h=>by
  have el:(e::es).length * sz=sz+es.length * sz:=by simp [Xw];omega
  obtain⟨l,m,o⟩:=k e Wl;refine⟨jB.move (λj r=>f j (by omega)) d l m o h.1,cI.move d (λp t=> ?_) (λe q=>k e (Wn _ q)) h.2⟩;rw [Yw,Yw];exact f (sz+p) (by omega)
theorem cI.append{A:Nat->Prop}{i:Id}{ah sz col rsz:Nat}:∀{es a:List Row} {base:Nat},cI w A ρ O i ah sz col rsz base es->cI w A ρ O i ah sz col rsz (base+es.length * sz) a->cI w A ρ O i ah sz col rsz base (es++a)
 | [],a,base,_,h=>by simpa using h
 | e::es,a,base,h,h'=>by
  refine⟨h.1,cI.append h.2 ?_⟩;have:base+sz+es.length * sz=base+ (e::es).length * sz:=by simp [Xw];omega
  rw [this];exact h'
theorem cI.set{A A':Nat->Prop}{i:Id}{ah sz col rsz:Nat}{x:Row}(l:∀b,A b->A' b/\w'.heap[b]? =w.heap[b]?):∀{es:List Row} {base k:Nat},k < es.length->
  (∀p,base<=p->p < base+es.length * sz->¬(base+k * sz<=p/\p < base+k * sz+sz)->w'.cell? ⟨ah,p,none⟩=w.cell? ⟨ah,p,none⟩)->
  (∀j e,j≠k->es[j]? =some e->ρ' (.g i e.n)=ρ (.g i e.n)/\O' (.g i e.n)=O (.g i e.n)/\∀b,O (.g i e.n)=some b->w'.heap[b]? =w.heap[b]?)->
  jB w' A' ρ' O' i ah sz col rsz (base+k * sz) x->cI w A ρ O i ah sz col rsz base es->cI w' A' ρ' O' i ah sz col rsz base (es.set k x)
 | [],_,_,f,_,_,_,_=>by simp at f
 | e::es,base,0,f,a,d,q,h=>by
  have el:(e::es).length * sz=sz+es.length * sz:=by simp [Xw];omega
  refine⟨by simpa using q,cI.move l (λp y=>a _ (by omega) (by omega) (by omega)) (λe' m=> ?_) h.2⟩;obtain⟨j,o⟩:=YK.1 m;exact d (j+1) e' (by omega) (by simpa using o)
 | e::es,base,k+1,f,a,d,q,h=>by
  have el:(e::es).length * sz=sz+es.length * sz:=by simp [Xw];omega
  have v:(k+1) * sz=sz+k * sz:=by rw [Xw];omega
  obtain⟨r,t,u⟩:=d 0 e (by omega) rfl;refine⟨jB.move (λj o=>a _ (by omega) (by omega) (by omega)) l r t u h.1,cI.set l (by simpa using f) (λp z B C=>a p (by omega) (by omega) (by omega)) (λj e' o m=>d (j+1) e' (by omega) (by simpa using m)) ?_ h.2⟩;rw [show base+sz+k * sz=base+ (k+1) * sz by omega];exact q
theorem pC.mono{i:Id}{e:Nat}{es:List Row}(d:sH i w ρ O w' ρ' O')(h:pC ρ O i e es):pC ρ' O' i e es:=
 ⟨h.1,h.2.1,λn a=>by rw [(d n).1];exact h.2.2.1 n a,λn b a=>by rw [(d n).2.1] at a;exact h.2.2.2 n b a⟩
theorem dD.mono{A A':Nat->Prop}{i:Id}(u:sH i w ρ O w' ρ' O')(m:∀b,A b->A' b/\w'.heap[b]? =w.heap[b]?)(e:∀i v,ρ i=some v->ρ' i=some v)(k:O' i=O i)
  (n:∀b,O i=some b->w'.heap[b]? =w.heap[b]?):∀{b:aa},dD w A ρ O i b->dD w' A' ρ' O' i b
 | .box cs,⟨b,arr,t,f,d,e3,g,j⟩=>⟨b,arr,t,e _ _ f,by rw [k];exact d,by rw [n _ d];exact e3,aC.mono m e cs _ g,j⟩
 | .sl fz sz b l,⟨v,f,d,e3⟩=>by
  refine⟨v,e _ _ f,dm.mono m (λb o=> ?_) d,by rw [k];exact e3⟩;cases fz
  .simp only [WX,if_false] at o⊢;exact⟨by rw [k];exact o,n _ o⟩
  .simp only [if_true] at o⊢;exact m _ o
 | .dy l,⟨b,f,d,e3,g⟩=>⟨b,e _ _ f,by rw [k];exact d,(m b e3).1,bh.mono m b e3 0 l g⟩
 | .arr cs,⟨b,arr,t,f,d,e3,g,j⟩=>⟨b,arr,t,e _ _ f,by rw [k];exact d,by rw [n _ d];exact e3,aC.mono m e cs _ g,j⟩
 | .mp ag ks vk es,⟨b,q,p,f,d,e3,g,j⟩=>⟨b,q,p,e _ _ f,by rw [k];exact d,by rw [n _ d];exact e3,g,j⟩
 | .rows b sz col rsz C es,h=>by
  obtain⟨a,cap,f,d,e3,g,j⟩:=h;refine⟨a,cap,e _ _ f,d,e3,g.mono u, ?_⟩;rcases j with j | ⟨ah,off,arr,t,x,r,y,z,B⟩
  .exact .inl j
  .exact .inr ⟨ah,off,arr,t,x,by rw [k];exact r,by rw [n _ r];exact y,z,B.mono m (n _ r) u⟩
 | .dead,⟨⟨v,f,e3⟩,d⟩=>⟨⟨v,e _ _ f,e3⟩,by rw [k];exact d⟩
def GK(w:World)(ρ:Id->Option Value)(O:Id->Option Nat)(w':World)(ρ':Id->Option Value)(O':Id->Option Nat):Prop:= ∀i,sH i w ρ O w' ρ' O'
theorem GK.refl:GK w ρ O w ρ O:=λ_ _=>⟨rfl,rfl,λ_ _=>rfl⟩
theorem HS.real(hs:HS c w h ρ O){i:Id}(a:h i≠none):i.real=true:=by
 cases i with
 | g i n=>exact(a (hs.eK i n)).elim
 | _=>rfl
theorem HS.pX(hs:HS c w h ρ O)(le:Le w ρ O w' ρ' O')
  (hblk:∀i b,h' i=some b->(h i=some b/\O' i=O i/\(∀ah,O i=some ah->w'.heap[ah]? =w.heap[ah]?)/\sH i w ρ O w' ρ' O')\/dD w' (AA c w' O') ρ' O' i b)
  (hnone:∀i,i.real=true->h' i=none->ρ' i=none/\O' i=none) (hnog:∀i n,h' (.g i n)=none)
  (hgd:∀i n,h' i=none->ρ' (.g i n)=none/\O' (.g i n)=none) (hgo:∀i n u,ρ' (.g i n)=some u->u.oneCell'=true/\u.cells= #[u])
  (inj:∀i j b,O' i=some b->O' j=some b->i=j) (lt:∀i b,O' i=some b->b < w'.heap.size):HS c w' h' ρ' O' where
 ah i b hb:=by
  rcases hblk i b hb with⟨h1,h2,h3,h4⟩ | h1
  .exact dD.mono h4 (λb ha=>le.A b ha) le.fq h2 h3 (hs.ah i b h1)
  .exact h1
 cK:=hnone
 eK:=hnog
 gF:=hgd
 gone:=hgo
 inj:=inj
 lt:=lt
 own i b hi:=by
  rcases le.own i b hi with⟨j,hj⟩ | h
  .exact hs.own j b hj
  .exact .inr (Xl hs.size h)
 size:=Xl hs.size le.size
 glob:=⟨BJ (λb hb=>le.ah b (Xt hb (Xl hs.glob.2.1 hs.size)) λi hi=>by
  rcases hs.own i b hi with h | h
  .exact hs.glob.2.2 b hb h
  .have:=hs.glob.2.1;omega) hs.glob.1,hs.glob.2⟩
theorem HS.ok(hs:HS c w h ρ O):GlobOk w:=⟨hs.glob.1,Xl hs.glob.2.1 hs.size⟩
theorem HS.go(hs:HS c w h ρ O)(le:Le w ρ O w' ρ' O')(a:GK w ρ O w' ρ' O')
  (f:∀i b,h' i=some b->(h i=some b/\O' i=O i/\(∀ah,O i=some ah->w'.heap[ah]? =w.heap[ah]?))\/dD w' (AA c w' O') ρ' O' i b)
  (d:∀i,i.real=true->h' i=none->ρ' i=none/\O' i=none) (q:∀i,h' i=none->h i=none) (k:∀i n,h' (.g i n)=none)
  (inj:∀i j b,O' i=some b->O' j=some b->i=j) (lt:∀i b,O' i=some b->b < w'.heap.size):HS c w' h' ρ' O':=
 hs.pX le (λi b p=>by
  rcases f i b p with⟨e,m,o⟩ | e
  .exact .inl ⟨e,m,o,a i⟩
  .exact .inr e) d k (λi n r=>by
  have:=hs.gF i n (q i r);rw [(a i n).1,(a i n).2.1];exact this) (λi n u l=>by rw [(a i n).1] at l;exact hs.gone i n u l) inj lt
theorem HS.world(hs:HS c w h ρ O)(le:Le w ρ O w' ρ O)(eQ:∀i ah,O i=some ah->w'.heap[ah]? =w.heap[ah]?):HS c w' h ρ O:=
 hs.go le (λi n=>⟨rfl,rfl,λb a=>eQ _ b a⟩) (λi _ a=> .inl ⟨a,rfl,λah h=>eQ i ah h⟩) hs.cK (λ_ h=>h) hs.eK hs.inj λi b h=>Xt (hs.lt i b h) le.size
def aK{α:Type}(f:Id->Option α)(i:Id)(v:Option α):Id->Option α:=λj=>if j=i then v else f j
@[simp] theorem aF {α:Type} (f:Id->Option α) (i:Id) (v:Option α):aK f i v i=v:=by simp [aK]
theorem ay{α:Type}(f:Id->Option α){i j:Id}(v:Option α)(h:j≠i):aK f i v j=f j:=by simp [aK,h]
theorem eC(h:Id->Option aa)(i:Id)(b:aa):aP h [(i,b)]=aK h i (some b):=rfl
theorem du(h:Id->Option aa)(i:Id)(b:aa)(us:aH):aP h ((i,b)::us)=aP (aK h i (some b)) us:=rfl
theorem nq(h:Id->Option aa):∀(us vs:aH),aP h (us++vs)=aP (aP h us) vs
 | [],_=>rfl
 | (i,b)::us,vs=>by simp only [Xp,du];exact nq _ us vs
theorem aU{i j:Id}{n:Nat}(a:i.real=true):Id.g j n≠i:=by rintro rfl;cases a
theorem Le.alloc(hs:HS c w h ρ O){i:Id}(hr:i.real=true)(hi:h i=none)(o:Obj)(v:Value)(ob:Option Nat)(hob:ob=none\/ob=some w.heap.size):
  Le w ρ O (w.alloc o) (aK ρ i (some v)) (aK O i ob) where
 os:=rfl
 output:=rfl
 tape:=rfl
 size:=by simp
 fq j u hj:=by
  by_cases e:j=i
  .subst e;rw [(hs.cK _ hr hi).1] at hj;cases hj
  .rw [ay _ _ e];exact hj
 ah b hb _:=Xg _ _ _ hb
 own j b hj:=by
  by_cases e:j=i
  .subst e;rw [aF] at hj;rcases hob with rfl | rfl
   .cases hj
   .cases hj;exact .inr (WH _)
  .rw [ay _ _ e] at hj;exact .inl ⟨j,hj⟩
theorem HS.alloc(hs:HS c w h ρ O){i:Id}(l:i.real=true)(r:h i=none)(o:Obj)(v:Value)(ob:Option Nat)(g:ob=none\/ob=some w.heap.size)(b:aa)
  (m:dD (w.alloc o) (AA c (w.alloc o) (aK O i ob)) (aK ρ i (some v)) (aK O i ob) i b):
  HS c (w.alloc o) (aK h i (some b)) (aK ρ i (some v)) (aK O i ob):=by
 refine hs.go (Le.alloc hs l r o v ob g) (λj n=>⟨ay _ _ (aU l),ay _ _ (aU l),λb m=>Xg _ _ _ (hs.lt _ b m)⟩) (λj b' a=> ?_) (λj q a=> ?_) (λj a=> ?_) (λj n=>by rw [ay _ _ (aU l)];exact hs.eK j n) (λj k d a f=> ?_) (λj d a=> ?_)
 .by_cases e:j=i
  .subst e;rw [aF] at a;cases a;exact .inr m
  .rw [ay _ _ e] at a;exact .inl ⟨a,ay _ _ e,λah p=>Xg _ _ _ (hs.lt j ah p)⟩
 .by_cases e:j=i
  .subst e;rw [aF] at a;cases a
  .rw [ay _ _ e] at a;rw [ay _ _ e,ay _ _ e];exact hs.cK j q a
 .by_cases e:j=i
  .subst e;rw [aF] at a;cases a
  .rw [ay _ _ e] at a;exact a
 .by_cases e:j=i <;> by_cases e':k=i
  .rw [e,e']
  .exfalso;rw [ay _ _ e'] at f;subst e;rw [aF] at a;rcases g with rfl | rfl
   .cases a
   .cases a;exact XY _ (hs.lt _ _ f)
  .exfalso;rw [ay _ _ e] at a;subst e';rw [aF] at f;rcases g with rfl | rfl
   .cases f
   .cases f;exact XY _ (hs.lt _ _ a)
  .rw [ay _ _ e] at a;rw [ay _ _ e'] at f;exact hs.inj j k d a f
 .by_cases e:j=i
  .subst e;rw [aF] at a;rcases g with rfl | rfl
   .cases a
   .cases a;simp
  .rw [ay _ _ e] at a;have:=hs.lt j d a;simp;omega
theorem Le.release{i:Id}:Le w ρ O w ρ (aK O i none) where
 os:=rfl
 output:=rfl
 tape:=rfl
 size:=WH _
 fq _ _ h:=h
 ah _ _ _:=rfl
 own j b hj:=by
  by_cases e:j=i
  .subst e;rw [aF] at hj;cases hj
  .rw [ay _ _ e] at hj;exact .inl ⟨j,hj⟩
theorem HS.release(hs:HS c w h ρ O){i:Id}(l:i.real=true)(b:aa)(m:dD w (AA c w (aK O i none)) ρ (aK O i none) i b):HS c w (aK h i (some b)) ρ (aK O i none):=by
 refine hs.go Le.release (λj n=>⟨rfl,ay _ _ (aU l),λ_ _=>rfl⟩) (λj b' a=> ?_) (λj g a=> ?_) (λj a=> ?_) (λj n=>by rw [ay _ _ (aU l)];exact hs.eK j n) (λj k d a f=> ?_) (λj d a=> ?_)
 .by_cases e:j=i
  .subst e;rw [aF] at a;cases a;exact .inr m
  .rw [ay _ _ e] at a;exact .inl ⟨a,ay _ _ e,λ_ _=>rfl⟩
 .by_cases e:j=i
  .subst e;rw [aF] at a;cases a
  .rw [ay _ _ e] at a⊢;exact hs.cK j g a
 .by_cases e:j=i
  .subst e;rw [aF] at a;cases a
  .rw [ay _ _ e] at a;exact a
 .by_cases e:j=i
  .subst e;rw [aF] at a;cases a
  .by_cases e':k=i
   .subst e';rw [aF] at f;cases f
   .rw [ay _ _ e] at a;rw [ay _ _ e'] at f;exact hs.inj j k d a f
 .by_cases e:j=i
  .subst e;rw [aF] at a;cases a
  .rw [ay _ _ e] at a;exact hs.lt j d a
theorem HS.freeze(hs:HS c w h ρ O){i:Id}{sz:Nat}{b:Bool}{l:List (List T)}(f:h i=some (.sl false sz b l)):
  HS c w (aK h i (some (.sl true sz b l))) ρ (aK O i none):=by
 refine hs.release (hs.real (by rw [f];simp)) _ ?_;obtain⟨v,g,k,e3⟩:=hs.ah i _ f;refine⟨v,g, ?_,λ_=>by simp⟩;simp only [if_true];have m:∀b,AA c w O b->AA c w (aK O i none) b/\w.heap[b]? =w.heap[b]?:=λb n=>(Le.release (ρ:=ρ) (i:=i)).A b n;refine dm.mono m (λah d=> ?_) k;simp only [WX,if_false] at d;refine⟨⟨.inr (hs.own i ah d),hs.lt i ah d,λj a=> ?_⟩,rfl⟩;by_cases e:j=i
 .subst e;rw [aF] at a;cases a
 .rw [ay _ _ e] at a;exact e (hs.inj j i ah a d)
theorem HS.Pr(hs:HS c w h ρ O){i:Id}{cs:List AV}{l:List T}(f:h i=some (.box cs))(hl:eV cs=some l):
  HS c w (aK h i (some (.dy l))) ρ (aK O i none):=by
 refine hs.release (hs.real (by rw [f];simp)) _ ?_;obtain⟨b,arr,t,k,d,e3,m,C⟩:=hs.ah i _ f;have p:∀b,AA c w O b->AA c w (aK O i none) b/\w.heap[b]? =w.heap[b]?:=λb y=>(Le.release (ρ:=ρ) (i:=i)).A b y;have z:AA c w (aK O i none) b:=⟨.inr (hs.own i b d),hs.lt i b d,λj a=>by
  by_cases e:j=i
  .subst e;rw [aF] at a;cases a
  .rw [ay _ _ e] at a;exact e (hs.inj j i b a d)⟩
 refine⟨b,k,by simp,z, ?_⟩;have q:=aY.mh hl m;have key:∀(l:List T) (vs:List Value) (off:Nat),aY w (AA c w O) l vs->(∀j v,vs[j]? =some v->w.cell? ⟨b,off+j,none⟩=some v)->bh w (AA c w (aK O i none)) b off l:=by
  intro l;induction l with
  | nil=>intro vs off _ _;simp [bh]
  | cons x l B=>rintro vs off ⟨v,r,rfl,n,o⟩ g;simp only [bh];refine⟨⟨v,by simpa using g 0 v rfl,az.mono p x v n⟩,B r (off+1) o λj u a=> ?_⟩;have:=g (j+1) u (by simpa using a);rw [show off+1+j=off+ (j+1) by omega];exact this
 refine key l _ 0 q λj v a=> ?_;simp only [World.cell?,e3,WZ];simpa using a
theorem Le.write{b:Nat}{i:Id}(hi:O i=some b)(hos:w'.os=w.os)(ho:w'.output=w.output)(ht:w'.tape=w.tape)(hsz:w'.heap.size=w.heap.size)(hk:∀k,k≠b->w'.heap[k]? =w.heap[k]?):Le w ρ O w' ρ O where
 os:=hos
 output:=ho
 tape:=ht
 size:=Nat.le_of_eq hsz.symm
 fq _ _ h:=h
 ah k _ hn:=hk k λe=>hn i (e▸hi)
 own j b hj:= .inl ⟨j,hj⟩
theorem HS.write(hs:HS c w h ρ O){b:Nat}{i:Id}(l:O i=some b)(le:Le w ρ O w' ρ O)(o:∀k,k≠b->w'.heap[k]? =w.heap[k]?)(x:aa)
  (q:dD w' (AA c w' O) ρ O i x) (g:h i≠none):HS c w' (aK h i (some x)) ρ O:=by
 have p:=hs.real g;refine hs.go le (λj n=>⟨rfl,rfl,λd g=>o d λe=>aU p (hs.inj _ i b (e▸g) l)⟩) (λj b' a=> ?_) (λj m a=> ?_) (λj a=> ?_) (λj n=>by rw [ay _ _ (aU p)];exact hs.eK j n) hs.inj (λj d a=>Xt (hs.lt j d a) le.size)
 .by_cases e:j=i
  .subst e;rw [aF] at a;cases a;exact .inr q
  .rw [ay _ _ e] at a;exact .inl ⟨a,rfl,λah f=>o ah λe'=>e (hs.inj j i b (e'▸f) l)⟩
 .by_cases e:j=i
  .subst e;rw [aF] at a;cases a
  .rw [ay _ _ e] at a;exact hs.cK j m a
 .by_cases e:j=i
  .subst e;rw [aF] at a;cases a
  .rw [ay _ _ e] at a;exact a
end
def SS(w:World)(A:Nat->Prop)(ρ:Id->Option Value)(s:Nat->Option Gs×AV)(tmps:Array Value):Prop:=
 ∀k,match s k with
  | (none,v)=>ao w A ρ v (tmps.getD k undef)
  | (some g,v)=>(tmps.getD g.d undef= .bool g.want/\g.c=true/\ao w A ρ v (tmps.getD k undef))\/(tmps.getD g.d undef≠ .bool g.want/\g.c=false/\tmps.getD k undef=undef)
section
variable {c:Ctx} {w w':World} {ρ ρ':Id->Option Value} {A A':Nat->Prop} {s:Nat->Option Gs×AV} {tmps:Array Value}
theorem SS.mono(e:∀b,A b->A' b/\w'.heap[b]? =w.heap[b]?)(a:∀i v,ρ i=some v->ρ' i=some v)(hs:SS w A ρ s tmps):SS w' A' ρ' s tmps:=by
 intro k;have:=hs k;revert this;split
 .intro this;exact ao.mono e a _ _ this
 .intro this;rcases this with⟨d,f,g⟩ | d
  .exact .inl ⟨d,f,ao.mono e a _ _ g⟩
  .exact .inr d
def l0(tmps:Array Value):Option Gs->Prop
 | none=>True
 | some g=>tmps.getD g.d undef= .bool g.want/\g.c=true
theorem l0.cond{g:Option Gs}(h:l0 tmps g):g.map (·.c)=none\/g.map (·.c)=some true:=by
 cases g with
 | none=>exact .inl rfl
 | some g=>exact .inr (by simp [h.2])
theorem Sx(v:Value):ao w A ρ (AK v) v:=by
 have one:∀(u:Value) (x:T),qo u=some x->az w A x u:=by
  intro u x e;cases u <;> simp only [qo,Wj,reduceCtorEq] at e
  case slice a l g=>split at e <;> simp_all;subst e;simp [az]
  case pointer a=>split at e <;> simp_all;subst e;simp [az]
  case map a=>split at e <;> simp_all;subst e;simp [az]
  all_goals (subst e;simp [az])
 have all:∀(us:List Value) (l:List T),mQ us=some l->aY w A l us:=by
  intro us;induction us with
  | nil=>intro l e;simp only [mQ,Wj] at e;subst e;rfl
  | cons u us f=>
   intro l e;simp only [mQ] at e;cases b:qo u with
   | none=>simp [b] at e
   | some x=>
    cases d:mQ us with
    | none=>simp [b,d] at e
    | some l'=>simp only [b,d,Wq,Wj] at e;subst e;exact⟨u,us,rfl,one u x b,f l' d⟩
 unfold AK;split
 .rename_i cs;split
  .rename_i l e;simp only [ao];have:=all cs.toList l e;refine⟨cs.toList,by simp,aC.mR this, ?_⟩;have key:∀(l:List T) (us:List Value),aY w A l us->∀u∈us,u.oneCell'=true/\u.cells= #[u]:=by
    intro l;induction l with
    | nil=>intro us hu;simp only [aY] at hu;subst hu;simp
    | cons x l f=>
     intro us ⟨v,r,e,b,d⟩ u hu;subst e;rcases WC.1 hu with rfl | hu
     .exact b.r6
     .exact f r d u hu
   exact key l _ this
  .simp [ao]
 .split
  .rename_i x e;simp only [ao];exact one _ x e
  .simp [ao]
theorem SS.get{a:Act}{h:Id->Option aa}(hs:SS w A ρ s a.tmps){g:Option Gs}(l:l0 a.tmps g)(x:Operand):ao w A ρ (St.get ⟨s,h⟩ g x) (a.eval x):=by
 cases x with
 | tmp k=>
  simp only [St.get,Act.eval];have:=hs k;split at this
  .rename_i v e;simp only [e,mo,cond_true];exact this
  .rename_i d v e;simp only [e];cases g with
   | none=>simp [mo,ao]
   | some g0=>
    by_cases b:mo (some d) (some g0)=true
    .simp only [b,cond_true];simp only [mo,Ww,beq_iff_eq] at b;rcases this with⟨_,_,j⟩ | ⟨i,_⟩
     .exact j
     .exfalso;apply i;rw [b.1,b.2];exact l.1
    .simp only [Yj] at b;simp [b,ao]
 | const v=>exact Sx v
 | func f=>simp only [St.get,Act.eval,ao];exact⟨[],[],rfl,by simp [aC],by simp [aC]⟩
 | global g=>simp [St.get,ao]
theorem SS.nL{a:Act}{h:Id->Option aa}(hs:SS w A ρ s a.tmps){g:Option Gs}(l:l0 a.tmps g)(cs x:Operand)(want:Bool)(i:a.eval cs= .bool want):
  ao w A ρ (St.nL ⟨s,h⟩ g cs want x) (a.eval x):=by
 unfold St.nL;split
 .rename_i d k;simp only [Act.eval] at i⊢;have:=hs k;split
  .rename_i f v e;simp only [e] at this;by_cases b:(f.d==d && f.want==want)=true
   .simp only [b,XZ,cond_true];simp only [Ww,beq_iff_eq] at b;rcases this with⟨_,_,n⟩ | ⟨m,_⟩
    .exact n
    .exfalso;apply m;rw [b.1,b.2];exact i
   .simp only [Yj] at b;simp only [b,W4];have j:=SS.get (h:=h) hs l (.tmp k);simp only [St.get,e,Act.eval] at j;exact j
  .rename_i v e;simp only [e] at this;exact this
 .exact SS.get hs l _
end
end Go.Aev
