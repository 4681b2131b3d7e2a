import Derived.WalkKit
set_option linter.all false
namespace Go.Aev
open Go
abbrev U5:=@Option.some.injEq
abbrev U6:=@Option.bind_eq_some_iff
abbrev U7:=@List.getD_eq_getElem?_getD
abbrev U8:=@List.mem_of_getElem?
abbrev U9:=@List.mem_cons_self
abbrev Va:=@List.mem_cons_of_mem
abbrev Vb:=@List.getElem?_eq_getElem
abbrev Vc:=@List.cons_append
abbrev Vd:=@Bool.and_eq_true
abbrev Ve:=@List.nil_append
abbrev Vf:=@Option.bind_some
abbrev Vg:=@Int.mul_le_mul_of_nonneg_left
abbrev Vh:=@List.getElem?_eq_some_iff
abbrev Vi:=@Result.andThen_ok
abbrev Vj:=@List.mem_singleton
abbrev Vk:=@List.mem_cons
abbrev Vm:=@List.mem_append_right
abbrev Vn:=@Bool.not_true
abbrev Vo:=@List.mem_append_left
abbrev Vp:=@Bool.not_false
abbrev Vq:=@List.length_eq_zero_iff
abbrev Vr:=@List.mem_append
abbrev Vs:=@Nat.le_refl
abbrev Vt:=@List.all_eq_true
abbrev Vu:=@Int.mul_comm
abbrev Vv:=@Option.bind_assoc
abbrev Vw:=@List.length_cons
abbrev Vx:=@Option.getD_some
abbrev Vy:=@Sem.run_bind
abbrev Vz:=@Int.mul_le_mul_of_nonneg_right
abbrev VA:=@Int.toNat_natCast
abbrev VD:=@Bool.false_eq_true
abbrev VE:=@Int.natAbs_natCast
abbrev VF:=@Int.mul_add
abbrev VG:=@Array.length_toList
abbrev VH:=@Array.mem_of_getElem?
abbrev VI:=@List.append_assoc
abbrev VJ:=@List.mem_map
abbrev VK:=@Sem.run_pure
abbrev VL:=@List.length_nil
abbrev VM:=@Nat.zero_add
abbrev VN:=@List.map_cons
abbrev VO:=@Nat.add_sub_cancel_left
abbrev VP:=@Int.natAbs_mul
abbrev VQ:=@Int.mul_assoc
abbrev VR:=@List.mem_or_eq_of_mem_set
abbrev VS:=@List.getElem?_map
abbrev VT:=@Int.mul_left_comm
abbrev VU:=@Nat.le_trans
abbrev VW:=@Go.RowKit.Below.heap_alloc
abbrev VX:=@List.replicate_succ
abbrev VY:=@Array.all_eq_true_iff_forall_mem
abbrev VZ:=@Option.getD_none
abbrev V5:=@Option.some.inj
abbrev V6:=@List.length_set
abbrev V7:=@List.length_take
abbrev V8:=@List.getElem?_eq_none
abbrev V9:=@List.append_nil
abbrev Wa:=@Bool.true_and
abbrev Wb:=@Int.fdiv_eq_ediv_of_nonneg
abbrev Wc:=@Int.tdiv_eq_ediv_of_nonneg
abbrev We:=@List.take_of_length_le
abbrev Wf:=@Bool.decide_or
abbrev Wg:=@Int.mul_nonneg
abbrev Wh:=@Int.sign_eq_one_of_pos
abbrev Wi:=@Int.emod_lt_of_pos
abbrev Wj:=@Nat.mul_le_mul_right
abbrev Wk:=@Prod.mk.injEq
abbrev Wl:=@Array.getElem?_toList
abbrev Wm:=@Bool.false_and
abbrev Wn:=@Nat.succ_mul
abbrev Wo:=@List.getElem?_append_right
abbrev Wp:=@Int.tmod_eq_emod_of_nonneg
abbrev Wq:=@Addr.mk.injEq
abbrev Wr:=@List.length_append
abbrev Ws:=@Nat.sub_zero
abbrev Wu:=@Int.le_of_lt
abbrev Wv:=@Int.sign_eq_neg_one_of_neg
abbrev Ww:=@Int.one_mul
abbrev Wx:=@Int.mul_ediv_add_emod
abbrev Wy:=@Int.lt_or_le
abbrev Wz:=@Bool.false_or
abbrev WA:=@List.nodup_cons
abbrev WB:=@List.length_map
abbrev WC:=@Bool.or_eq_true
abbrev WD:=@Bool.decide_and
abbrev WE:=@List.getElem?_set
abbrev WG:=@Value.slice.injEq
abbrev WH:=@List.getElem?_append_left
abbrev WJ:=@Int.emod_nonneg
abbrev WK:=@List.all_cons
abbrev WL:=@Bool.not_eq_true'
abbrev WM:=@Rat.div_def
abbrev WN:=@List.eq_of_mem_replicate
abbrev WO:=@Int.ediv_nonneg
abbrev WQ:=@Rat.zero_mul
abbrev WS:=@List.head?_cons
abbrev WT:=@Rat.mul_zero
abbrev WU:=@List.getElem_of_mem
abbrev WV:=@List.replicate_zero
abbrev WW:=@List.size_toArray
abbrev WX:=@Int.eq_ofNat_of_zero_le
abbrev WY:=@Nat.lt_of_lt_of_le
abbrev WZ:=@List.mem_of_mem_take
abbrev W0:=@List.map_append
abbrev W1:=@Rat.num_divInt_den
abbrev W2:=@List.getElem_mem
abbrev W3:=@Int.ediv_lt_iff_lt_mul
abbrev W4:=@List.drop_eq_getElem_cons
abbrev W5:=@List.nodup_append
abbrev W6:=@Int.lt_trichotomy
abbrev W7:=@List.length_replicate
abbrev W8:=@Int.add_zero
abbrev W9:=@Array.getD_eq_getD_getElem?
abbrev Xa:=@List.getElem?_replicate
abbrev Xb:=@List.length_drop
abbrev Xc:=@Nat.lt_succ_self
abbrev Xd:=@Int.pow_succ
abbrev Xe:=@Value.pointer.injEq
abbrev Xf:=@List.map_congr_left
abbrev Xg:=@Option.map_some
abbrev Xh:=@List.cons.injEq
abbrev Xi:=@Decidable.byContradiction
abbrev Xj:=@Option.isSome_iff_exists
abbrev Xk:=@Nat.lt_or_ge
abbrev Xl:=@Int.add_mul
abbrev Xm:=@List.mem_of_mem_drop
abbrev Xn:=@List.getElem?_cons_zero
abbrev Xo:=@List.getElem?_cons_succ
abbrev Xp:=@Int.tdiv_eq_ediv_of_dvd
abbrev Xq:=@List.flatten_cons
abbrev Xr:=@Int.mul_lt_mul_of_pos_right
abbrev Xs:=@MapKept.run_getObj_map
abbrev Xt:=@Int.mul_zero
abbrev Xu:=@Nat.not_lt
abbrev Xv:=@List.take_length
abbrev Xw:=@List.mem_range
abbrev Xx:=@Array.getElem?_eq_getElem
abbrev Xy:=@List.pairwise_iff_getElem
abbrev Xz:=@Array.ext'
abbrev XA:=@List.map_nil
abbrev XB:=@Nat.pow_le_pow_right
abbrev XC:=@Int.natCast_mul
abbrev XD:=@List.ext_getElem?
abbrev XE:=@List.take_add_one
abbrev XF:=@Nat.lt_irrefl
abbrev XG:=@List.length_pos_iff
abbrev XH:=@List.range'_succ
abbrev XI:=@List.take_zero
abbrev XJ:=@Nat.le_of_not_lt
abbrev XK:=@Option.map_eq_some_iff
abbrev XL:=@Nat.add_mul
abbrev XM:=@Rat.le_refl
abbrev XN:=@List.getElem?_take
abbrev XO:=@List.getElem_range
abbrev XP:=@List.getElem?_drop
abbrev XQ:=@Nat.sub_self
abbrev XR:=@Classical.choose_spec
abbrev XS:=@List.getElem?_toArray
abbrev XT:=@Nat.add_assoc
abbrev XU:=@Bool.and_true
abbrev XV:=@List.extract_eq_take_drop
abbrev XW:=@List.range_eq_range'
abbrev XX:=@Option.isNone_iff_eq_none
abbrev XY:=@BitVec.ofInt_natCast
abbrev XZ:=@Int.pow_add
abbrev X0:=@Rat.num_nonneg
abbrev X1:=@Nat.add_zero
abbrev X2:=@List.map_set
abbrev X3:=@Nat.mod_eq_of_lt
abbrev X4:=@List.map_map
abbrev X5:=@Nat.le_add_right
abbrev X6:=@Rat.zero_add
abbrev X7:=@List.getElem_map
abbrev X8:=@List.replicate_append_replicate
abbrev X9:=@List.set_cons_succ
abbrev Ya:=@Array.any_eq_true'
abbrev Yb:=@BitVec.toNat_ofNat
abbrev Yc:=@MapKept.run_setObj_map
abbrev Yd:=@Int.mul_one
abbrev Ye:=@Nat.zero_le
abbrev Yf:=@List.take_append_of_le_length
abbrev Yg:=@List.mem_iff_getElem?
abbrev Yh:=@List.tail_cons
abbrev Yi:=@List.drop_zero
abbrev Yj:=@List.take_append_drop
abbrev Yk:=@Int.ediv_lt_of_lt_mul
abbrev Yl:=@Int.pow_zero
abbrev Ym:=@Array.toList_extract
abbrev Yn:=@Bool.or_eq_false_iff
abbrev Yo:=@Nat.mod_lt
abbrev Yp:=@List.replicate_succ'
abbrev Yq:=@Int.ediv_emod_unique
abbrev Yr:=@List.getElem?_set_ne
abbrev Ys:=@Prod.ext
abbrev Yt:=@Option.ne_none_iff_exists'
abbrev Yu:=@Array.getElem?_eq_some_iff
abbrev Yv:=@Int.lt_of_mul_lt_mul_right
abbrev Yw:=@Nat.mul_one
abbrev Yx:=@Int.le_refl
abbrev Yy:=@List.take_succ_cons
abbrev Yz:=@List.getElem?_range
abbrev YA:=@Int.neg_ediv_of_dvd
abbrev YB:=@Option.map_none
abbrev YC:=@Int.sign_eq_zero_iff_zero
abbrev YD:=@Classical.byContradiction
abbrev YE:=@List.mem_filterMap
abbrev YF:=@Nat.gcd_comm
abbrev YG:=@Rat.add_zero
abbrev YH:=@Rat.mul_inv_cancel
abbrev YI:=@Nat.mul_le_mul
abbrev YJ:=@List.nodup_nil
abbrev YK:=@Bool.and_false
abbrev YL:=@Array.size_append
abbrev YM:=@List.length_range
abbrev YN:=@List.drop_eq_nil_of_le
abbrev YO:=@Int.neg_mul
abbrev YP:=@Int.ediv_eq_zero_of_lt
abbrev YQ:=@Int.sub_mul
abbrev YR:=@Nat.mul_add
abbrev YS:=@List.isEmpty_iff
abbrev YT:=@List.not_mem_nil
abbrev YU:=@Int.ediv_le_self
abbrev YV:=@Array.getElem?_setIfInBounds_ne
abbrev YW:=@List.all_nil
abbrev YX:=@Nat.add_comm
abbrev YY:=@Int.zero_add
abbrev YZ:=@Int.ediv_mul_le
abbrev Za:=@Int.natAbs_tdiv
abbrev Zb:=@Nat.div_le_self
abbrev Zc:=@Rat.num_eq_zero
abbrev Zd:=@List.range_succ
abbrev Ze:=@List.drop_drop
abbrev Zf:=@Iff.rfl
abbrev Zg:=@Ne.symm
abbrev Zh:=@Int.natAbs_neg
abbrev Zi:=@Rat.mul_nonneg
abbrev Zj:=@Rat.one_mul
abbrev Zk:=@List.set_cons_zero
abbrev Zl:=@List.prefix_append
abbrev Zm:=@Option.isNone_none
abbrev Zn:=@Option.isSome_none
abbrev Zo:=@Option.isSome_some
abbrev Zp:=@Int.sub_eq_add_neg
abbrev Zq:=@Nat.two_pow_add_eq_or_of_lt
abbrev Zr:=@Rat.sub_eq_add_neg
abbrev Zs:=@Nat.one_le_two_pow
abbrev Zt:=@List.drop_nil
abbrev Zu:=@List.take_nil
abbrev Zv:=@Int.emod_eq_of_lt
abbrev Zw:=@Int.mul_neg_of_pos_of_neg
abbrev Zx:=@Bool.not_eq_true
abbrev Zy:=@Bool.true_or
abbrev Zz:=@List.idxOf_lt_length_iff
abbrev ZA:=@Nat.not_le_of_lt
abbrev ZB:=@Array.toList_map
abbrev ZC:=@Int.neg_nonneg_of_nonpos
abbrev ZD:=@Int.gcd_dvd_natAbs_right
abbrev ZE:=@Int.mul_ediv_cancel_left
abbrev ZF:=@Rat.le_of_lt
abbrev ZG:=@Eq.trans
abbrev ZH:=@Nat.min_eq_left
abbrev ZI:=@Bool.eq_iff_iff
abbrev ZJ:=@Int.mul_sub
abbrev ZK:=@Rat.mul_one
abbrev ZL:=@Bool.and_assoc
abbrev ZM:=@List.mapM_cons
abbrev ZN:=@List.drop_left
abbrev ZO:=@Rat.not_lt
inductive T where
 | int (k:IntKind) (n:Int)
 | bool (b:Bool)
 | str (s:ByteArray)
 | aa (sz:Nat) (isNil:Bool) (xs:List (List T))
 | aJ (isNil:Bool)
 | ptr (cs:List T)
 | ax
 | Ab
 | Aa
 | DE
 | any
 deriving Inhabited
inductive Id where
 | c (n:Nat)
 | s (d:Nat) (j:Nat)
 | g (i:Id) (n:Nat)
 deriving DecidableEq,Inhabited
def Id.real:Id->Bool
 | .g _ _=>false
 | _=>true
inductive AV where
 | top
 | t (x:T)
 | mC (vs:List AV)
 | agg (vs:List AV)
 | ref (i:Id) (off:Nat)
 | el (i:Id) (sz k off:Nat)
 | own (i:Id)
 | part (i:Id) (sz off len:Nat)
 | row (i:Id) (n:Nat)
 | rel (i:Id) (sz n k off:Nat)
 | fn (f:FuncId) (fst caps:List AV)
 deriving Inhabited
inductive Ck where
 | i (k:IntKind)
 | b
 | s
 | l (sz:Nat)
 | x
 deriving Inhabited,DecidableEq
structure Row where
 n:Nat
 cs:List T
 own:Option (Bool×List (List T))
 deriving Inhabited
inductive ab where
 | box (cs:List AV)
 | sl (fz:Bool) (sz:Nat) (isNil:Bool) (xs:List (List T))
 | iZ (cs:List T)
 | arr (cs:List AV)
 | mp (ag:Bool) (ks:List Ck) (vk:Ck) (es:List (List T×T))
 | rows (b:Bool) (sz aD rsz nx:Nat) (es:List Row)
 | dead
 deriving Inhabited
def T.int?(k:IntKind):T->Option Int
 | .int a n=>if a=k then some n else none
 | _=>none
def T.bool?:T->Option Bool
 | .bool b=>some b
 | _=>none
def T.bD:T->Option ByteArray
 | .str s=>some s
 | _=>none
def T.qI:T->Option (List T)
 | .ptr cs=>some cs
 | _=>none
def T.aU(sz:Nat):T->Option (Bool×List (List T))
 | .aa a b xs=>if a=sz then some (b,xs) else none
 | .aJ b=>some (b,[])
 | _=>none
def dQ:T->Value
 | .int k n=> .int k n
 | .bool b=> .bool b
 | .str s=> .string s
 | _=> .nilIface
def dr(ag:Bool)(cs:List T):Value:=cond ag (.agg (cs.map dQ).toArray) ((cs.map dQ).headD .nilIface)
def eD:Ck->T->Bool
 | .i k, .int a _=>decide (a=k)
 | .b, .bool _=>true
 | .s, .str _=>true
 | _,_=>false
def cd:List Ck->List T->Bool
 | [],[]=>true
 | k::ks,x::xs=>eD k x && cd ks xs
 | _,_=>false
def nG:T->T->Bool
 | .int _ a, .int _ b=>a==b
 | .bool a, .bool b=>a==b
 | .str a, .str b=>a==b
 | _,_=>false
def eL:List T->List T->Bool
 | [],[]=>true
 | x::xs,y::a=>nG x y && eL xs a
 | _,_=>false
def fK(key:List T):List (List T×T)->Option T
 | []=>none
 | (k,v)::r=>cond (eL key k) (some v) (fK key r)
def ig(key:List T)(v:T):List (List T×T)->List (List T×T)
 | []=> [(key,v)]
 | (k,u)::r=>cond (eL key k) ((key,v)::r) ((k,u)::ig key v r)
def T.qg:T->Option Unit
 | .int _ _=>some ()
 | .bool _=>some ()
 | .str _=>some ()
 | _=>none
def gd{α:Type}[Inhabited α](c:Option Bool)(m:Option α):Option α:=
 match m with
 | some a=>some a
 | none=>match c with
  | none=>none
  | some b=>cond b none (some default)
def ae{α R:Type}[Inhabited α](c:Option Bool)(m:Option α)(k:α->Option R):Option R:=
 match m with
 | some a=>k a
 | none=>match c with
  | none=>none
  | some b=>cond b none (k default)
def pB{R:Type}(c:Option Bool):Nat->List T->(List T->Option R)->Option R
 | 0,_,K=>K []
 | n+1,cs,K=>ae c cs.head? λx=>pB c n cs.tail λl=>K (x::l)
def o9:Value->Option T
 | .int k i=>some (.int k i)
 | .bool b=>some (.bool b)
 | .string s=>some (.str s)
 | .slice none 0 0=>some (.aJ true)
 | .pointer none=>some .ax
 | .map none=>some .Ab
 | .nilFunc=>some .Aa
 | .nilIface=>some .DE
 | _=>none
def mf:List Value->Option (List T)
 | []=>some []
 | v::r=>(o9 v).bind λx=>(mf r).bind λl=>some (x::l)
def bw(P:Program)(t:TypeId):Bool:=
 match P.underlying t with
 | some (.struct _) | some (.array _ _)=>true
 | _=>false
def sJ(P:Program)(t:TypeId):Option IntKind:=
 match P.underlying t with
 | some (.int k)=>some k
 | _=>none
def bV(P:Program)(t:TypeId):Bool:=(P.underlying t).isSome
def uX(P:Program)(t:TypeId)(f:Nat):Option (Nat×TypeId):=
 match P.underlying t with
 | some (.struct a)=>match a[f]? with
  | some x=>cond (bV P x.type) (some (x.offset,x.type)) none
  | none=>none
 | _=>none
def nE(P:Program)(t:TypeId):Option TypeId:=
 match P.underlying t with
 | some (.slice e)=>cond (bV P e) (some e) none
 | _=>none
def yz(P:Program)(t:TypeId):Option (Nat×TypeId):=
 match P.underlying t with
 | some (.array n e)=>cond (bV P e) (some (n,e)) none
 | _=>none
def qH(P:Program)(t:TypeId):Bool:=
 match P.underlying t with
 | some (.struct a)=>a.toList.all λf=>bV P f.type
 | some (.array _ e)=>bV P e
 | _=>false
def C8(P:Program)(t:TypeId):Bool:=
 match P.underlying t with
 | some .string=>true
 | _=>false
def jX(P:Program)(t:TypeId):Option (List T):=
 match P.info? t with
 | some i=>match i.zero with
  | some v=>mf v.cells.toList
  | none=>none
 | none=>none
structure Gs where
 d:Nat
 want:Bool
 c:Bool
structure St where
 t:Nat->Option Gs×AV
 h:Id->Option ab
abbrev aH:=List (Id×ab)
def aK(h:Id->Option ab):aH->Id->Option ab
 | []=>h
 | (i,b)::us=>aK (λj=>if j=i then some b else h j) us
def mN(d:Nat):Option Gs×AV->Option Gs×AV
 | (some g,v)=>cond (g.d==d) (none, .top) (some g,v)
 | (none,v)=>(none,v)
def St.put(s:St)(a:Bool)(d:Option Nat)(g:Option Gs)(v:AV)(us:aH):St:=
 {t :=match d with
    | some d=>λk=>if k=d then(g,v) else cond a (mN d (s.t k)) (s.t k)
    | none=>s.t
  h:=aK s.h us}
def B3(v:Value):AV:=
 match v with
 | .agg cs=>match mf cs.toList with
  | some l=> .agg (l.map .t)
  | none=> .top
 | v=>match o9 v with
  | some x=> .t x
  | none=> .top
def lE:Option Gs->Option Gs->Bool
 | none,_=>true
 | some a,some b=>a.d==b.d && a.want==b.want
 | some _,none=>false
def St.sS(s:St)(g:Gs):St:={s with t:=λk=>cond (lE (s.t k).1 (some g)) (none,(s.t k).2) (s.t k)}
def St.get(s:St)(g:Option Gs):Operand->AV
 | .tmp k=>match s.t k with
  | (a,v)=>cond (lE a g) v .top
 | .const v=>B3 v
 | .func f=> .fn f [] []
 | .global _=> .top
def St.mP(s:St)(g:Option Gs)(cs:Operand)(want:Bool)(o:Operand):AV:=
 match cs,o with
 | .tmp d, .tmp k=>match s.t k with
  | (some a,v)=>cond ((a.d==d && a.want==want) || lE (some a) g) v .top
  | (none,v)=>v
 | _,o=>s.get g o
def AV.t?:AV->Option T
 | .t x=>some x
 | _=>none
def fp:List AV->Option (List T)
 | []=>some []
 | .t x::r=>(fp r).bind λl=>some (x::l)
 | _::_=>none
def dP(h:Id->Option ab):AV->Option T
 | .t x=>some x
 | .own i=>match h i with
  | some (.sl _ sz b xs)=>some (.aa sz b xs)
  | _=>none
 | .part i sz off len=>match h i with
  | some (.sl _ a b xs)=>if a=sz then some (.aa sz b ((xs.drop off).take len)) else none
  | _=>none
 | .ref i off=>match h i with
  | some (.box cs)=>(fp cs).bind λl=>some (.ptr (l.drop off))
  | some (.iZ l)=>some (.ptr (l.drop off))
  | _=>none
 | _=>none
def lH(h:Id->Option ab):List AV->Option (List T)
 | []=>some []
 | v::r=>(dP h v).bind λx=>(lH h r).bind λl=>some (x::l)
def Ew(h:Id->Option ab):AV->Option T
 | .own i=>match h i with
  | some (.sl _ sz b xs)=>some (.aa sz b xs)
  | some (.rows ..)=>some .any
  | some (.mp ..)=>some .any
  | _=>none
 | v=>dP h v
def wD(h:Id->Option ab):List AV->Option (List T)
 | []=>some []
 | v::r=>(Ew h v).bind λx=>(wD h r).bind λl=>some (x::l)
def lG(h:Id->Option ab):AV->Option (List T)
 | .agg vs=>lH h vs
 | v=>(dP h v).bind λx=>some [x]
def iy(h:Id->Option ab):AV->aH
 | .own i=>match h i with
  | some (.sl false sz b xs)=> [(i, .sl true sz b xs)]
  | _=> []
 | .part i _ _ _=>match h i with
  | some (.sl false sz b xs)=> [(i, .sl true sz b xs)]
  | _=> []
 | .ref i _=>match h i with
  | some (.box cs)=>match fp cs with
   | some l=> [(i, .iZ l)]
   | none=> []
  | _=> []
 | _=> []
def nI(h:Id->Option ab):List AV->aH
 | []=> []
 | v::r=>iy h v++nI h r
def hJ(h:Id->Option ab):AV->aH
 | .agg vs=>nI h vs
 | v=>iy h v
def rN{R:Type}(op:BinOp)(k:IntKind)(c:Option Bool)(x y:T)(K:T->Option R):Option R:=
 ae c (x.int? k) λa=>ae c (y.int? k) λb=>
  match op with
  | .add=>K (.int k (k.wrap (a+b)))
  | .sub=>K (.int k (k.wrap (a - b)))
  | .mul=>K (.int k (k.wrap (a * b)))
  | .quo=>ae c (if b=0 then none else some ()) λ_=>K (.int k (k.wrap (a.tdiv b)))
  | .rem=>ae c (if b=0 then none else some ()) λ_=>K (.int k (a.tmod b))
  | .and=>K (.int k (k.wrap (BitVec.ofInt k.bits a &&& BitVec.ofInt k.bits b).toNat))
  | .or=>K (.int k (k.wrap (BitVec.ofInt k.bits a ||| BitVec.ofInt k.bits b).toNat))
  | .xor=>K (.int k (k.wrap (BitVec.ofInt k.bits a ^^^ BitVec.ofInt k.bits b).toNat))
  | .andNot=>K (.int k (k.wrap (BitVec.ofInt k.bits a &&& ~~~(BitVec.ofInt k.bits b)).toNat))
  | .lss=>K (.bool (decide (a < b)))
  | .leq=>K (.bool (decide (a<=b)))
  | .gtr=>K (.bool (decide (a > b)))
  | .geq=>K (.bool (decide (a>=b)))
  | _=>none
def te{R:Type}(op:BinOp)(k ky:IntKind)(c:Option Bool)(x y:T)(K:T->Option R):Option R:=
 ae c (x.int? k) λa=>ae c (y.int? ky) λb=>
  ae c (if b < 0 then none else some ()) λ_=>
  match op with
  | .shl=>K (.int k (k.wrap (a * 2 ^ (min b.toNat k.bits))))
  | .shr=>K (.int k (a.fdiv (2 ^ (min b.toNat k.bits))))
  | _=>none
def tn{R:Type}(op:BinOp)(c:Option Bool)(x y:T)(K:T->Option R):Option R:=
 ae c x.bD λa=>ae c y.bD λb=>
  match op with
  | .add=>ae c (if a.size+b.size<=4294967296 then some () else none) λ_=>K (.str (a++b))
  | .lss=>K (.bool (Op.bytesLess a.toList b.toList))
  | .leq=>K (.bool (Op.bytesLess a.toList b.toList || a.toList==b.toList))
  | .gtr=>K (.bool (!(Op.bytesLess a.toList b.toList || a.toList==b.toList)))
  | .geq=>K (.bool (!(Op.bytesLess a.toList b.toList)))
  | _=>none
def sD(P:Program)(go:TypeId->Option (List TypeId)):List Field->Nat->Option (List TypeId)
 | [],_=>some []
 | f ::r,off=>if f.offset=off/\f.name≠ "_" then
     (go f.type).bind λl=>if P.cellsOf f.type=l.length/\0 < l.length then(sD P go r (off+l.length)).bind λq=>some (l++q) else none
  else none
def fX(P:Program):Nat->TypeId->Option (List TypeId)
 | 0,_=>none
 | n+1,t=>match P.underlying t with
  | some (.int _) | some .bool | some .string=>some [t]
  | some (.struct a)=>if P.stoodInHeld t then none else sD P (fX P n) a.toList 0
  | some (.array m e)=>(fX P n e).bind λl=>if P.cellsOf e=l.length then some (List.replicate m l).flatten else none
  | _=>none
def jS(P:Program)(s:St)(t:TypeId)(x:AV):Option Bool:=
 match P.underlying t with
 | some (.slice _)=>match x with
  | .t (.aa _ b _)=>some b
  | .t (.aJ b)=>some b
  | .own i=>match s.h i with
   | some (.sl _ _ b _)=>some b
   | _=>none
  | _=>none
 | some (.pointer _)=>match x with
  | .t (.ptr _)=>some false
  | .t .ax=>some true
  | .ref _ _=>some false
  | .el _ _ _ _=>some false
  | _=>none
 | some (.func ..)=>match x with
  | .t .Aa=>some true
  | .fn _ _ _=>some false
  | _=>none
 | some (.map ..)=>match x with
  | .t .Ab=>some true
  | _=>none
 | _=>none
def o8(P:Program)(t:TypeId)(o:Operand):Bool:=
 match P.underlying t,o with
 | some (.slice _), .const (.slice none 0 0)=>true
 | some (.pointer _), .const (.pointer none)=>true
 | some (.func ..), .const .nilFunc=>true
 | some (.map ..), .const (.map none)=>true
 | _,_=>false
def l0{R:Type}(P:Program)(c:Option Bool)(t:TypeId)(x y:T)(K:Bool->Option R):Option R:=
 match P.underlying t with
 | some (.int k)=>ae c (x.int? k) λa=>ae c (y.int? k) λb=>K (a==b)
 | some .bool=>ae c x.bool? λa=>ae c y.bool? λb=>K (a==b)
 | some .string=>ae c x.bD λa=>ae c y.bD λb=>K (a==b)
 | _=>none
def eW{R:Type}(P:Program)(c:Option Bool):List TypeId->List T->List T->(Bool->Option R)->Option R
 | [],[],[],K=>K true
 | t::ts,x::xs,y::a,K=>l0 P c t x y λb=>eW P c ts xs a λr=>K (b && r)
 | _,_,_,_=>none
def rO{R:Type}(P:Program)(op:BinOp)(t ty:TypeId)(c:Option Bool)(x y:T)(K:T->Option R):Option R:=
 match op with
 | .shl | .shr=>match sJ P t,sJ P ty with
  | some k,some ky=>te op k ky c x y K
  | _,_=>none
 | .eql | .neq=>none
 | op=>match P.underlying t with
  | some (.int k)=>rN op k c x y K
  | some .string=>tn op c x y K
  | _=>none
def qe{R:Type}(P:Program)(c:Option Bool)(t:TypeId)(x y:AV)(K:Bool->Option R):Option R:=
 match x,y with
 | .t x, .t y=>cond (C8 P t) (ae c x.bD λa=>ae c y.bD λb=>K (a.toList==b.toList)) (l0 P c t x y K)
 | .agg xs, .agg d=>cond (P.eqGuardType P.depth t || !bw P t) none <| (fp xs).bind λxs=>(fp d).bind λd=>(fX P 8 t).bind λts=>eW P c ts xs d K
 | _,_=>none
def tE{R:Type}(P:Program)(op:UnOp)(t:TypeId)(c:Option Bool)(x:T)(K:T->Option R):Option R:=
 match op,P.underlying t with
 | .neg,some (.int k)=>ae c (x.int? k) λa=>K (.int k (k.wrap (0 - a)))
 | .xor,some (.int k)=>ae c (x.int? k) λa=>
   K (.int k (k.wrap (BitVec.ofInt k.bits (if k.signed then -1 else k.max) ^^^ BitVec.ofInt k.bits a).toNat))
 | .not,some .bool=>ae c x.bool? λa=>K (.bool (!a))
 | _,_=>none
open Go
def fG{R:Type}(k:Ck)(c:Option Bool)(x:T)(K:T->Option R):Option R:=
 match k with
 | .i k=>ae c (x.int? k) λn=>K (.int k n)
 | .b=>ae c x.bool? λb=>K (.bool b)
 | .s=>ae c x.bD λs=>K (.str s)
 | .l sz=>ae c (x.aU sz) λp=>K (.aa sz p.1 p.2)
 | .x=>K x
def fk{R:Type}(c:Option Bool):List Ck->List T->(List T->Option R)->Option R
 | [],xs,K=>K xs
 | _::_,[],K=>K []
 | k::ks,x::xs,K=>fG k c x λy=>fk c ks xs λa=>K (y::a)
def lW(P:Program)(t:TypeId):Ck:=
 match P.underlying t with
 | some (.int k)=> .i k
 | some .bool=> .b
 | some .string=> .s
 | some (.slice e)=> .l (P.cellsOf e)
 | _=> .x
def yE(P:Program):Nat->TypeId->List Ck
 | 0,_=> []
 | n+1,t=>match P.underlying t with
  | some (.struct a)=>a.toList.flatMap λf=>yE P n f.type
  | some (.array m e)=>(List.replicate m (yE P n e)).flatten
  | _=> [lW P t]
def uv(P:Program)(t:TypeId):List Ck:=
 if(yE P 8 t).length=P.cellsOf t then yE P 8 t else List.replicate (P.cellsOf t) .x
inductive bY where
 | f (k:Ck)
 | t (k:Ck)
 | own (sz:Nat)
 | ref (k off:Nat)
 | same (k:Nat)
 | rows (sz aD rsz:Nat)
 | mp (ag:Bool) (ks:List Ck) (vk:Ck)
 | new (l:List bY)
 | no
 | agg (l:List bY)
 deriving Inhabited
inductive jY where
 | box (l:List bY)
 | sl (sz:Nat)
 | mp (ag:Bool) (ks:List Ck) (vk:Ck)
 | dead
 deriving Inhabited
structure E7 where
 res:List bY
 outs:List jY
 deriving Inhabited
structure cP where
 live:FuncId->Nat->Option (List (Nat×Option Nat))
 join:FuncId->Nat->Option (List (Nat×Option Nat))
 sig:FuncId->Option E7
 iT:FuncId->Option (List Bool):=λ_=>none
 deep:FuncId->Bool:=λ_=>false
 BT:FuncId->Nat->E7:=λ_ _=>⟨[],[]⟩
 app:Option Nat->Bool:=λ_=>false
 wr:FuncId->Bool:=λ_=>false
 st:Option Nat->Bool:=λ_=>false
 sx:Option Nat->Bool:=λ_=>false
 ld:Option Nat->Bool:=λ_=>false
 nR:Option Nat->TypeId->Nat:=λ_ _=>0
 ext:FuncId->List AV->List ab->Option (List T):=λ_ _ _=>none
inductive Key where
 | call (f:FuncId)
 | node (f:FuncId) (todo:List Item) (live:List (Nat×Option Nat)) (m:Nat×Nat)
abbrev ar:=Key->List AV->List ab->Option (List T)
def du:Nat:=4294967296
mutual
def AV.ids:AV->List Id
 | .top=> []
 | .t _=> []
 | .mC vs=>b9 vs
 | .agg vs=>b9 vs
 | .ref i _=> [i]
 | .el i _ _ _=> [i]
 | .own i=> [i]
 | .part i _ _ _=> [i]
 | .row i _=> [i]
 | .rel i _ _ _ _=> [i]
 | .fn _ a b=>b9 a++b9 b
def b9:List AV->List Id
 | []=> []
 | v::r=>v.ids++b9 r
end
mutual
def AV.rn(m:List Id):AV->AV
 | .top=> .top
 | .t x=> .t x
 | .mC vs=> .mC (kJ m vs)
 | .agg vs=> .agg (kJ m vs)
 | .ref i o=> .ref (.c (m.idxOf i)) o
 | .el i sz k o=> .el (.c (m.idxOf i)) sz k o
 | .own i=> .own (.c (m.idxOf i))
 | .part i sz o n=> .part (.c (m.idxOf i)) sz o n
 | .row i n=> .row (.c (m.idxOf i)) n
 | .rel i sz n k o=> .rel (.c (m.idxOf i)) sz n k o
 | .fn f a b=> .fn f (kJ m a) (kJ m b)
def kJ(m:List Id):List AV->List AV
 | []=> []
 | v::r=>v.rn m::kJ m r
end
def iB(m:List Id):Option ab->ab
 | some (.box cs)=> .box (kJ m cs)
 | some (.arr cs)=> .arr (kJ m cs)
 | some b=>b
 | none=> .dead
def fC(h:Id->Option ab):Nat->List Id->List Id->Option (List Id)
 | 0,_,_=>none
 | _+1,[],seen=>some seen
 | n+1,i::todo,seen=>
  cond (seen.contains i) (fC h n todo seen)
   (match h i with
    | some (.box cs)=>fC h n (todo++b9 cs) (seen++ [i])
    | some (.arr cs)=>fC h n (todo++b9 cs) (seen++ [i])
    | some _=>fC h n todo (seen++ [i])
    | none=>none)
def oo:Nat->List AV->Option (List AV)
 | 0,_=>some []
 | _+1,[]=>none
 | n+1,c::r=>(oo n r).bind λl=>some (c::l)
def cg{α:Type}(off:Nat)(new a:List α):List α:=a.take off++new++a.drop (off+new.length)
def bC(n:Nat):List Row->Option (Bool×List (List T))
 | []=>none
 | e::r=>if e.n=n then e.own else bC n r
def dO(n:Nat)(p:Option (Bool×List (List T))):List Row->List Row
 | []=> []
 | e::r=>if e.n=n then{e with own:=p}::r else e::dO n p r
def mq{R:Type}(h:Id->Option ab)(c:Option Bool)(i:Id)(n:Nat)(K:Nat->Bool->List (List T)->Option R):Option R:=
 match h i with
 | some (.rows _ _ _ rsz _ es)=>ae c (bC n es) λp=>K rsz p.1 p.2
 | _=>none
def lh{R:Type}(P:Program)(t:TypeId)(c:Option Bool)(cs:List T)(K:AV->Option R):Option R:=
 cond (bw P t) (pB c (P.cellsOf t) cs λl=>fk c (uv P t) l λl=>K (.agg (l.map .t))) (ae c cs.head? λx=>fG (lW P t) c x λx=>K (.t x))
def nN{R:Type}(P:Program)(t:TypeId)(cs:List AV)(K:AV->Option R):Option R:=
 cond (bw P t) ((oo (P.cellsOf t) cs).bind λl=>K (.agg l)) (cs.head?.bind K)
def sK{R:Type}(P:Program)(t:TypeId)(c:Option Bool)(i:Id)(sz aD off:Nat)(e:Row)(K:AV->Option R):Option R:=
 cond (bw P t)
  (if off=0/\P.cellsOf t=sz then pB c sz e.cs λl=>fk c ((uv P t).set aD .x) l λl=>K (.agg ((l.map .t).set aD (.row i e.n))) else none)
  (if off=aD then K (.row i e.n) else ae c (e.cs.drop off).head? λx=>fG (lW P t) c x λx=>K (.t x))
def kF{R:Type}(P:Program)(s:St)(c:Option Bool)(t:TypeId)(a:AV)(K:AV->Option R):Option R:=
 cond (bV P t) (match a with
 | .ref i off=>match s.h i with
  | some (.box cs)=>nN P t (cs.drop off) K
  | some (.iZ l)=>lh P t c (l.drop off) K
  | _=>none
 | .el i sz k off=>match s.h i with
  | some (.sl _ b _ xs)=>if b=sz then ae c xs[k]? λcs=>lh P t c (cs.drop off) K else none
  | some (.rows _ b aD _ _ es)=>if b=sz then ae c es[k]? λe=>sK P t c i sz aD off e K else none
  | _=>none
 | .rel i sz n k off=>mq s.h c i n λrsz _ xs=>if rsz=sz then ae c xs[k]? λcs=>lh P t c (cs.drop off) K else none
 | .t x=>ae c x.qI λcs=>lh P t c cs K
 | _=>none) none
def iw(v:AV):List AV:=
 match v with
 | .agg vs=>vs
 | v=> [v]
def pW:AV->Bool
 | .agg _ | .mC _ | .top=>false
 | _=>true
def bp(k off:Nat)(l:List T)(xs:List (List T)):Option (List (List T)):=
 match xs[k]? with
 | some cs=>if off+l.length<=cs.length then some (xs.set k (cg off l cs)) else none
 | none=>none
def jB{R:Type}(P:Program)(s:St)(t:TypeId)(a v:AV)(K:aH->Option R):Option R:=
 cond (bV P t) (match a with
 | .ref i off=>match s.h i with
  | some (.box cs)=>
   if(iw v).length=P.cellsOf t/\(iw v).all pW/\off+ (iw v).length<=cs.length then K [(i, .box (cg off (iw v) cs))] else none
  | _=>none
 | .el i sz k off=>match s.h i with
  | some (.sl false d b xs)=>(lG s.h v).bind λl=>
    if d=sz/\l.length=P.cellsOf t/\v.ids.contains i=false then
     ae none (bp k off l xs) λg=>K ((i, .sl false sz b g)::hJ s.h v) else none
  | some (.rows b d aD rsz nx es)=>match v with
   | .own j=>match s.h j with
    | some (.sl false f m xs)=>
     if d=sz/\off=aD/\f=rsz/\P.cellsOf t=1/\bw P t=false then
      ae none es[k]? λe=>K [(j, .dead),(i, .rows b sz aD rsz (nx+1) (es.set k ⟨nx,e.cs,some (m,xs)⟩))] else none
    | _=>none
   | _=>none
  | _=>none
 | .rel i sz n k off=>match s.h i with
  | some (.rows b d aD rsz nx es)=>ae none (bC n es) λp=>(lG s.h v).bind λl=>
    if rsz=sz/\l.length=P.cellsOf t/\v.ids.contains i=false then
     ae none (bp k off l p.2) λg=>K ((i, .rows b d aD rsz nx (dO n (some (p.1,g)) es))::hJ s.h v) else none
  | _=>none
 | _=>none) none
def vq:List (Nat×List AV)->List AV->Option (List AV)
 | [],z=>some z
 | (off,l)::r,z=>if off+l.length<=z.length then vq r (cg off l z) else none
def vP(P:Program)(t:TypeId)(f:Nat):Option (Nat×TypeId):=
 match uX P t f with
 | some p=>some p
 | none=>match yz P t with
  | some (_,u)=>some (f * P.cellsOf u,u)
  | none=>none
def pf(P:Program)(t:TypeId)(ev:Operand->AV):List (Nat×Operand)->Option (List (Nat×List AV))
 | []=>some []
 | (f,o)::r=>(vP P t f).bind λp=>
   if(iw (ev o)).length=P.cellsOf p.2/\(iw (ev o)).all pW then(pf P t ev r).bind λq=>some ((p.1,iw (ev o))::q) else none
def yB(P:Program)(t:TypeId)(ev:Operand->AV)(a:List (Nat×Operand)):Option AV:=
 if qH P t then
 (jX P t).bind λz=>(pf P t ev a).bind λl=>(vq l (z.map .t)).bind λcs=>some (.agg cs)
 else none
def iY(P:Program)(h:Id->Option ab)(e:TypeId)(ev:Operand->AV):Nat->List (Nat×Operand)->Option (List (List T)×aH)
 | _,[]=>some ([],[])
 | n,(k,o)::r=>(lG h (ev o)).bind λl=>if k=n/\l.length=P.cellsOf e then
    (iY P h e ev (n+1) r).bind λq=>some (l::q.1,hJ h (ev o)++q.2)
  else none
def kC{R:Type}(c:Option Bool)(i:Int)(n:Nat)(K:Option R):Option R:=ae c (if 0<=i/\i < n then some () else none) λ_=>K
def jR{R:Type}(P:Program)(s:St)(c:Option Bool)(t:TypeId)(x:AV)(i:Int)(K:AV->Option R):Option R:=
 match nE P t with
 | some e=>match x with
  | .own j=>match s.h j with
   | some (.sl _ sz _ xs)=>if sz=P.cellsOf e then kC c i xs.length (K (.el j sz i.toNat 0)) else none
   | some (.rows _ sz _ _ _ es)=>if sz=P.cellsOf e then kC c i es.length (K (.el j sz i.toNat 0)) else none
   | _=>none
  | .row j n=>mq s.h c j n λrsz _ xs=>if rsz=P.cellsOf e then kC c i xs.length (K (.rel j rsz n i.toNat 0)) else none
  | .part j sz off n=>match s.h j with
   | some (.sl _ a _ _)=>if sz=P.cellsOf e/\a=sz then kC c i n (K (.el j sz (off+i.toNat) 0)) else none
   | _=>none
  | .t y=>ae c (y.aU (P.cellsOf e)) λp=>kC c i p.2.length (ae c p.2[i.toNat]? λcs=>K (.t (.ptr cs)))
  | _=>none
 | none=>match yz P t with
  | some (n,e)=>kC c i n (match x with
   | .ref j off=>K (.ref j (off+i.toNat * P.cellsOf e))
   | .el j sz k off=>K (.el j sz k (off+i.toNat * P.cellsOf e))
   | .t y=>ae c y.qI λcs=>K (.t (.ptr (cs.drop (i.toNat * P.cellsOf e))))
   | _=>none)
  | none=>none
def sv{R:Type}(P:Program)(c:Option Bool)(t:TypeId)(x:AV)(f:Nat)(K:AV->Option R):Option R:=
 match uX P t f with
 | some (off,u)=>if P.cellsOf u=0 then none else
  match x with
  | .ref j o=>K (.ref j (o+off))
  | .el j sz k o=>K (.el j sz k (o+off))
  | .rel j sz n k o=>K (.rel j sz n k (o+off))
  | .t y=>ae c y.qI λcs=>K (.t (.ptr (cs.drop off)))
  | _=>none
 | none=>none
def su{R:Type}(P:Program)(t:TypeId)(x:AV)(f:Nat)(K:AV->Option R):Option R:=
 match uX P t f with
 | some (off,u)=>match x with
  | .agg vs=>nN P u (vs.drop off) K
  | _=>none
 | none=>none
def nM{R:Type}(P:Program)(s:St)(c:Option Bool)(t:TypeId)(x:AV)(K:AV->Option R):Option R:=
 match P.underlying t with
 | some .string=>match x with
  | .t y=>ae c y.bD λb=>K (.t (.int .i64 b.size))
  | _=>none
 | some (.array n _)=>K (.t (.int .i64 n))
 | some (.slice e)=>match x with
  | .own j=>match s.h j with
   | some (.sl _ _ _ xs)=>K (.t (.int .i64 xs.length))
   | some (.rows _ _ _ _ _ es)=>K (.t (.int .i64 es.length))
   | _=>none
  | .row j n=>mq s.h c j n λ_ _ xs=>K (.t (.int .i64 xs.length))
  | .part _ _ _ n=>K (.t (.int .i64 n))
  | .t y=>ae c (y.aU (P.cellsOf e)) λp=>K (.t (.int .i64 p.2.length))
  | _=>none
 | _=>none
def jk{R:Type}(s:St)(c:Option Bool)(g:Option Gs)(o:Option Operand)(K:Option Int->Option R):Option R:=
 match o with
 | none=>K none
 | some o=>(s.get g o).t?.bind λx=>ae c (anyInt x) λn=>K (some n)
where
 anyInt:T->Option Int
  | .int _ n=>some n
  | _=>none
def bO(a hi n:Int):Option Unit:=if 0<=a/\a<=hi/\hi<=n then some () else none
def sub(a hi:Int)(xs:List (List T)):List (List T):=(xs.drop a.toNat).take (hi.toNat - a.toNat)
def A3(a hi m:Int):Option Unit:=if a=0/\hi=0/\m=0 then some () else none
def zO:T->Bool
 | .aJ true=>true
 | .aa _ true []=>true
 | _=>false
def oc{R:Type}(P:Program)(s:St)(c:Option Bool)(t:TypeId)(x:AV)(a hi d:Option Int)(K:AV->Option R):Option R:=
 match P.underlying t with
 | some .string=>match x,d with
  | .t y,none=>ae c y.bD λb=>
    ae c (bO (a.getD 0) (hi.getD b.size) b.size) λ_=>K (.t (.str (b.extract (a.getD 0).toNat (hi.getD b.size).toNat)))
  | _,_=>none
 | some (.slice e)=>match d with
  | none=>match x with
   | .own j=>match s.h j with
    | some (.sl _ sz _ xs)=>if sz=P.cellsOf e/\bV P e=true then
      ae c (bO (a.getD 0) (hi.getD xs.length) xs.length) λ_=>
      K (.part j sz (a.getD 0).toNat ((hi.getD xs.length).toNat - (a.getD 0).toNat)) else none
    | _=>none
   | .part j sz off n=>match s.h j with
    | some (.sl _ f _ _)=>if sz=P.cellsOf e/\f=sz/\bV P e=true then
      ae c (bO (a.getD 0) (hi.getD n) n) λ_=>
      K (.part j sz (off+ (a.getD 0).toNat) ((hi.getD n).toNat - (a.getD 0).toNat)) else none
    | _=>none
   | .t y=>if bV P e=true then ae c (y.aU (P.cellsOf e)) λp=>
     ae c (bO (a.getD 0) (hi.getD p.2.length) p.2.length) λ_=>
     K (.t (.aa (P.cellsOf e) p.1 (sub (a.getD 0) (hi.getD p.2.length) p.2))) else none
   | _=>none
  | some m=>match x with
   | .t y=>if bV P e=true then ae c (y.aU (P.cellsOf e)) λp=>ae c (A3 (a.getD 0) (hi.getD 1) m) λ_=>K (.t (.aJ p.1)) else none
   | .own j=>match s.h j with
    | some (.sl _ _ b _)=>if bV P e=false then none else ae c (A3 (a.getD 0) (hi.getD 1) m) λ_=>K (.t (.aJ b))
    | _=>none
   | _=>none
 | _=>none
def bu(n m:Int):Option Unit:=if 0<=n/\n<=m/\m<=du then some () else none
def mI{R:Type}(P:Program)(s:St)(t:TypeId)(sz:Nat)(a:List T)(y:AV)(K:List (List T)->Option R):Option R:=
 match P.underlying t with
 | some (.slice _)=>(dP s.h y).bind λx=>ae none (x.aU sz) λp=>K p.2
 | some .string=>if sz=1 then y.t?.bind λx=>ae none x.bD λb=>K (b.data.toList.map λu=> [.int .u8 u.toNat]) else none
 | some (.int _)=>y.t?.bind λx=>ae none (x.int? .i64) λn=>ae none (bu n n) λ_=>K (List.replicate n.toNat a)
 | _=>none
def oS(bs n:Nat):Prop:=n<=du\/(0 < bs/\n * bs<=140737488355328)
instance (bs n:Nat):Decidable (oS bs n):=inferInstanceAs (Decidable (_\/_))
def bM(bs n:Nat):Option Unit:=if oS bs n then some () else none
def JB:T->Option Bool
 | .aJ b=>some b
 | .aa _ b xs=>cond (b && xs.isEmpty) (some true) none
 | _=>none
def Ef(h:Id->Option ab):AV->Option (Id×Nat×Nat×Nat×Nat×List Row)
 | .own i=>match h i with
  | some (.rows _ sz aD rsz nx es)=>some (i,sz,aD,rsz,nx,es)
  | _=>none
 | _=>none
def DK(h:Id->Option ab):AV->Option (Id×List AV)
 | .own j=>match h j with
  | some (.arr cs)=>some (j,cs)
  | _=>none
 | _=>none
def pT{R:Type}(P:Program)(s:St)(d:Nat)(e:TypeId)(i:Id)(sz aD rsz nx:Nat)(es:List Row)(j:Id)(cs:List AV)(K:AV->aH->Option R):Option R:=
 if sz=P.cellsOf e/\cs.length=sz/\aD < sz/\i≠j then
  (fp (cs.set aD (.t .ax))).bind λl=>match cs[aD]? with
   | some (.own m)=>match s.h m with
    | some (.sl false k r xs)=>if k=rsz then
      ae none (bM (P.bytesOf e) (es.length+1)) λ_=>
      K (.own (.s d 0)) [(i, .dead),(j, .dead),(m, .dead),(.s d 0, .rows false sz aD rsz (nx+1) (es++ [⟨nx,l,some (r,xs)⟩]))] else none
    | _=>none
   | some (.row a n)=>match s.h a with
    | some (.rows u q g b o f)=>if b=rsz/\a≠i then
      ae none (bC n f) λp=>ae none (bM (P.bytesOf e) (es.length+1)) λ_=>
      K (.own (.s d 0)) [(i, .dead),(j, .dead),(a, .rows u q g b o (dO n none f)),(.s d 0, .rows false sz aD rsz (nx+1) (es++ [⟨nx,l,some p⟩]))] else none
    | _=>none
   | _=>none
 else none
def kS{R:Type}(P:Program)(s:St)(d:Nat)(rw:Bool)(t ty:TypeId)(x y:AV)(K:AV->aH->Option R):Option R:=
 (nE P t).bind λe=>(jX P e).bind λk=>
 if P.bytesOf e<=8192/\k.length=P.cellsOf e then
 match cond rw (Ef s.h x) none,cond rw (DK s.h y) none with
 | some (i,sz,aD,rsz,nx,es),some (j,cs)=>match P.underlying ty with
  | some (.slice _)=>pT P s d e i sz aD rsz nx es j cs K
  | _=>none
 | _,_=>
 mI P s ty (P.cellsOf e) k y λa=>
 match x with
 | .own i=>match s.h i with
  | some (.sl false f b xs)=>if f=P.cellsOf e then
    ae none (bM (P.bytesOf e) (xs.length+a.length)) λ_=>
    K (.own (.s d 0)) [(.s d 0, .sl false (P.cellsOf e) (b && a.isEmpty) (xs++a)),(i, .dead)] else none
  | _=>none
 | .part i g off n=>match s.h i with
  | some (.sl false f b xs)=>if f=P.cellsOf e/\g=P.cellsOf e then
    ae none (bM (P.bytesOf e) (n+a.length)) λ_=>
    K (.own (.s d 0)) [(.s d 0, .sl false (P.cellsOf e) (b && a.isEmpty) ((xs.drop off).take n++a)),(i, .dead)] else none
  | _=>none
 | .t z=>(JB z).bind λb=>ae none (bM (P.bytesOf e) a.length) λ_=>
    K (.own (.s d 0)) [(.s d 0, .sl false (P.cellsOf e) (b && a.isEmpty) a)]
 | _=>none
 else none
def qD(n:Nat):List Row:=(List.range n).map λk=>⟨k,[.ax],some (true,[])⟩
def sL{R:Type}(P:Program)(d:Nat)(t:TypeId)(nR:Nat)(n m:T)(K:AV->aH->Option R):Option R:=
 (nE P t).bind λe=>(jX P e).bind λa=>
 ae none (n.int? .i64) λn=>ae none (m.int? .i64) λm=>
 if P.bytesOf e<=8192/\a.length=P.cellsOf e then
 ae none (bu n m) λ_=>
  cond (nR==2) (match P.underlying e,a with
   | some (.slice u),[.aJ true]=>if P.cellsOf e=1 then K (.own (.s d 0)) [(.s d 0, .rows false 1 0 (P.cellsOf u) n.toNat (qD n.toNat))] else none
   | _,_=>none)
   (K (.own (.s d 0)) [(.s d 0, .sl false (P.cellsOf e) false (List.replicate n.toNat a))])
 else none
def mm(d:Bool)(a b:Int):Int:=cond d (if b > a then b else a) (if b < a then b else a)
def o5{R:Type}(k:IntKind)(c:Option Bool)(d:Bool):Int->List T->(T->Option R)->Option R
 | a,[],K=>K (.int k a)
 | a,y::r,K=>ae c (y.int? k) λb=>o5 k c d (mm d a b) r K
def rS{R:Type}(P:Program)(c:Option Bool)(src a:TypeId)(x:T)(K:T->Option R):Option R:=
 match P.underlying src,P.underlying a with
 | some (.int k),some (.int d)=>ae c (x.int? k) λn=>K (.int d (d.wrap n))
 | some .string,some .string=>ae c x.bD λb=>K (.str b)
 | _,_=>none
def bytesOf:List (List T)->Option (List UInt8)
 | []=>some []
 | cs::r=>cs.head?.bind λx=>(x.int? .u8).bind λn=>(bytesOf r).bind λl=>some (UInt8.ofNat n.toNat::l)
def m5:Ck->Bool
 | .i _ | .b | .s=>true
 | _=>false
def sN(P:Program)(t:TypeId):Option (TypeId×TypeId):=
 match P.underlying t with
 | some (.map k e)=>cond (bV P k && bV P e) (some (k,e)) none
 | _=>none
def ET(P:Program)(t:TypeId):Option T:=
 match P.info? t with
 | some i=>match i.zero with
  | some v=>o9 v
  | none=>none
 | none=>none
def lf(P:Program)(k:TypeId):Option (Bool×List Ck):=
 match P.underlying k with
 | some (.int i)=>some (false,[.i i])
 | some .string=>some (false,[.s])
 | some (.array n e)=>match P.underlying e with
  | some (.int i)=>if P.cellsOf e=1/\n<=8 then some (true,List.replicate n (.i i)) else none
  | _=>none
 | _=>none
def oZ{R:Type}(P:Program)(k:TypeId)(c:Option Bool)(v:AV)(K:Bool->List Ck->List T->Option R):Option R:=
 (lf P k).bind λq=>match q.1,v with
  | false, .t x=>fk c q.2 [x] λcs=>K false q.2 cs
  | true, .agg vs=>(fp vs).bind λl=>if l.length=q.2.length then fk c q.2 l λcs=>K true q.2 cs else none
  | _,_=>none
def nO{R:Type}(P:Program)(s:St)(c:Option Bool)(t:TypeId)(x key:AV)(ok:Bool)(K:AV->Option R):Option R:=
 (sN P t).bind λq=>(ET P q.2).bind λz=>oZ P q.1 c key λag ks cs=>match x with
  | .own i=>match s.h i with
   | some (.mp a b vk es)=>if a=ag/\b=ks/\lW P q.2=vk/\m5 vk=true/\bw P q.2=false then
     fG vk c ((fK cs es).getD z) λv=>K (cond ok (.mC [.t v, .t (.bool (fK cs es).isSome)]) (.t v)) else none
   | _=>none
  | _=>none
def sM{R:Type}(P:Program)(d:Nat)(t:TypeId)(K:AV->aH->Option R):Option R:=
 (sN P t).bind λq=>(lf P q.1).bind λp=>if m5 (lW P q.2)=true then K (.own (.s d 0)) [(.s d 0, .mp p.1 p.2 (lW P q.2) [])] else none
def nU{R:Type}(P:Program)(s:St)(t:TypeId)(x key v:AV)(K:aH->Option R):Option R:=
 (sN P t).bind λq=>oZ P q.1 none key λag ks cs=>match x with
  | .own i=>match s.h i with
   | some (.mp a b vk es)=>if a=ag/\b=ks/\lW P q.2=vk/\m5 vk=true then
     v.t?.bind λv=>fG vk none v λv=>K [(i, .mp ag ks vk (ig cs v es))] else none
   | _=>none
  | _=>none
def jo(key:List T):List (List T×T)->List (List T×T)
 | []=> []
 | p::r=>cond (eL key p.1) r (p::jo key r)
def nB{R:Type}(P:Program)(s:St)(t:TypeId)(x key:AV)(K:aH->Option R):Option R:=
 (sN P t).bind λq=>oZ P q.1 none key λag ks cs=>match x with
  | .own i=>match s.h i with
   | some (.mp a b vk es)=>if a=ag/\b=ks then K [(i, .mp ag ks vk (jo cs es))] else none
   | _=>none
  | _=>none
def ke(fl a:Bool)(h:Id->Option ab):AV->Option (T×aH)
 | .ref i off=>cond fl (match h i with
  | some (.box cs)=>(cond a (wD h (cs.drop off)) (fp (cs.drop off))).bind λl=>some (.ptr l,[])
  | some (.iZ l)=>some (.ptr (l.drop off),[])
  | _=>none) ((dP h (.ref i off)).bind λx=>some (x,iy h (.ref i off)))
 | v=>(dP h v).bind λx=>some (x,cond fl [] (iy h v))
def mJ(fl a:Bool)(h:Id->Option ab):List AV->Option (List T×aH)
 | []=>some ([],[])
 | v::r=>(ke fl a h v).bind λp=>(mJ fl a h r).bind λq=>some (p.1::q.1,p.2++q.2)
def lS(fl d:Bool)(h:Id->Option ab):AV->Option (AV×aH)
 | .fn f a b=>(mJ fl d h a).bind λx=>(mJ fl d h b).bind λy=>some (.fn f (x.1.map .t) (y.1.map .t),x.2++y.2)
 | .agg vs=>(mJ fl d h vs).bind λx=>some (.agg (x.1.map .t),x.2)
 | v=>(ke fl d h v).bind λp=>some (.t p.1,p.2)
def lT(fl a:Bool)(h:Id->Option ab):List AV->Option (List AV×aH)
 | []=>some ([],[])
 | v::r=>(lS fl a h v).bind λp=>(lT fl a h r).bind λq=>some (p.1::q.1,p.2++q.2)
def zx(P:Program):Nat->TypeId->Bool
 | 0,_=>false
 | n+1,t=>match P.underlying t with
  | some (.int _) | some .bool | some .string=>true
  | some (.struct a)=>a.toList.all λf=>zx P n f.type
  | some (.array _ e)=>zx P n e
  | _=>false
def pr(e:Row):T:=match e.own with
 | some p=> .aa 0 p.1 p.2
 | none=> .ax
def bN(b:Bool)(es:List Row):T:= .aa 2 b (es.map λe=> [.ptr e.cs,pr e])
def rU:Nat->List (List T)->Option (List Row)
 | _,[]=>some []
 | n,[.ptr cs, .aa _ b xs]::r=>(rU (n+1) r).bind λl=>some (⟨n,cs,some (b,xs)⟩::l)
 | _,_=>none
def kU:T->Option (Bool×List Row)
 | .aa _ b xs=>(rU 0 xs).bind λl=>some (b,l)
 | _=>none
def bP(es:List Row):Bool:=es.all λe=>e.own.isSome
def IH:bY->Bool
 | .rows _ _ _=>true
 | _=>false
def bS(es:List (List T×T)):T:= .aa 2 false (es.map λp=> [.ptr p.1,p.2])
def Ca:List (List T)->Option (List (List T×T))
 | []=>some []
 | [.ptr k,v]::r=>(Ca r).bind λl=>some ((k,v)::l)
 | _=>none
def iW:T->Option (List (List T×T))
 | .aa _ _ xs=>Ca xs
 | _=>none
def mM{R:Type}(ids:List Id)(d:Nat)(c:Option Bool)(j:Nat)(r:bY)(x:T)(K:AV->aH->Nat->Option R):Option R:=
 match r with
 | .f k=>fG k c x λx=>K (.t x) [] j
 | .t k=>fG k c x λx=>K (.t x) [] j
 | .own sz=>match c with
  | none=>ae none (x.aU sz) λp=>K (.own (.s d j)) [(.s d j, .sl false sz p.1 p.2)] (j+1)
  | some _=>none
 | .ref k off=>match ids[k]? with
  | some i=>K (.ref i off) [] j
  | none=>none
 | .same k=>match ids[k]? with
  | some i=>K (.own i) [] j
  | none=>none
 | .rows sz aD rsz=>match c with
  | none=>ae none (kU x) λp=>K (.own (.s d j)) [(.s d j, .rows p.1 sz aD rsz p.2.length p.2)] (j+1)
  | some _=>none
 | .mp ag ks vk=>match c with
  | none=>ae none (iW x) λes=>K (.own (.s d j)) [(.s d j, .mp ag ks vk es)] (j+1)
  | some _=>none
 | .no=>K .top [] j
 | .agg _=>none
 | .new _=>none
def kx{R:Type}(ids:List Id)(d:Nat)(c:Option Bool):Nat->List bY->List T->(List AV->aH->Nat->Option R)->Option R
 | j,[],_,K=>K [] [] j
 | j,r::a,xs,K=>ae c xs.head? λx=>mM ids d c j r x λv u j=>kx ids d c j a xs.tail λvs us j=>K (v::vs) (u++us) j
def bY.size:bY->Nat
 | .agg l=>l.length
 | .new l=>l.length
 | _=>1
def eJ{R:Type}(ids:List Id)(d:Nat)(c:Option Bool):Nat->List bY->List T->(List AV->aH->Nat->Option R)->Option R
 | j,[],_,K=>K [] [] j
 | j,r::a,xs,K=>match r with
  | .agg l=>kx ids d c j l xs λv u j=>eJ ids d c j a (xs.drop l.length) λvs us j=>K (AV.agg v::vs) (u++us) j
  | .new l=>match c with
   | none=>kx ids d c j l xs λv u j=>eJ ids d c (j+1) a (xs.drop l.length) λvs us b=>K (AV.ref (.s d j) 0::vs) (u++ [(.s d j, .box v)] ++us) b
   | some _=>none
  | r=>ae c xs.head? λx=>mM ids d c j r x λv u j=>eJ ids d c j a xs.tail λvs us j=>K (v::vs) (u++us) j
def m6:List bY->Nat
 | []=>0
 | r::a=>r.size+m6 a
def gG{R:Type}(all:List Id)(d:Nat):Nat->List Id->List jY->List T->(aH->Option R)->Option R
 | j,i::a, .box l::r,xs,K=>kx all d none j l xs λv u j=>gG all d j a r (xs.drop l.length) λq=>K (u++ (i, .box v)::q)
 | j,i::a, .sl sz::r,xs,K=>ae none (xs.head?.bind (T.aU sz)) λp=>gG all d j a r xs.tail λq=>K ((i, .sl false sz p.1 p.2)::q)
 | j,i::a, .mp ag ks vk::r,xs,K=>ae none (xs.head?.bind iW) λes=>gG all d j a r xs.tail λq=>K ((i, .mp ag ks vk es)::q)
 | j,_::a, .dead::r,xs,K=>gG all d j a r xs K
 | _,[],[],_,K=>K []
 | _,_,_,_,_=>none
def mo:List AV->AV
 | [v]=>v
 | vs=> .mC vs
def Nb(P:Program)(t:TypeId):bY:=cond (bw P t) (.agg ((uv P t).map λk=>cond (zx P 8 t) (.f k) (.t k))) (cond (zx P 8 t) (.f (lW P t)) (.t (lW P t)))
def sA:bY->Bool
 | .f _=>true
 | .agg l=>l.all λr=>match r with
  | .f _=>true
  | _=>false
 | _=>false
def dE(P:Program)(A:cP)(f:FuncId)(n:Nat)(fn:Func):List bY:=
 match A.iT f with
 | some _=>(A.BT f n).res
 | none=>match A.sig f with
  | some sg=>sg.res
  | none=>fn.resultTypes.toList.map (Nb P)
def iA(A:cP)(f:FuncId)(n:Nat):List jY:=
 match A.iT f with
 | some _=>(A.BT f n).outs
 | none=> []
def RM:AV->Bool
 | .own _=>true
 | .part _ _ _ _=>true
 | _=>false
def iG:Option ab->Nat
 | some (.box cs)=>cs.length+1000 * (cs.filter RM).length
 | _=>0
def bR(c:Option Bool)(m:Option (List T)):Option (List T):=
 match c with
 | none=>m
 | some b=>cond b m (some [])
def na{R:Type}(P:Program)(c:Option Bool)(t:TypeId)(v:AV)(K:AV->Option R):Option R:=
 match v with
 | .t x=>fG (lW P t) c x λy=>K (.t y)
 | .agg vs=>match fp vs with
  | some l=>fk c (uv P t) l λl=>K (.agg (l.map .t))
  | none=>K (.agg vs)
 | v=>K v
def jD{R:Type}(P:Program)(c:Option Bool):List TypeId->List AV->(List AV->Option R)->Option R
 | [],vs,K=>K vs
 | _::_,[],K=>K []
 | t::ts,v::vs,K=>na P c t v λu=>jD P c ts vs λus=>K (u::us)
def BV:List Bool->List AV->List Id
 | b::fl,v::vs=>cond b v.ids [] ++BV fl vs
 | _,_=> []
def uy(h:Id->Option ab)(fZ:List Id)(b:Bool)(v:AV):Option (AV×aH):=
 cond (b || (!v.ids.isEmpty && v.ids.all fZ.contains)) (some (v,[])) (lS false false h v)
def mK(h:Id->Option ab)(fZ:List Id):List Bool->List AV->Option (List AV×aH)
 | _,[]=>some ([],[])
 | fl,v::r=>(uy h fZ (fl.headD false) v).bind λp=>(mK h fZ fl.tail r).bind λq=>some (p.1::q.1,p.2++q.2)
def R9(sz aD rsz:Nat):Nat:=100000+1000 * sz+100 * aD+rsz
def s9(h:Id->Option ab)(new i:Id)(k sz aD rsz:Nat):Option aH:=
 match h i with
 | some (.box cs)=>match cs[k]? with
  | some (.own _)=>some []
  | some (.t (.aJ b))=>cond (h new).isNone (some [(new, .rows b sz aD rsz 0 []),(i, .box (cs.set k (.own new)))]) none
  | some (.t (.aa _ true []))=>cond (h new).isNone (some [(new, .rows true sz aD rsz 0 []),(i, .box (cs.set k (.own new)))]) none
  | _=>none
 | _=>none
def pe(h:Id->Option ab)(new i:Id)(k sz:Nat):Option aH:=
 cond (Nat.ble 100000 sz) (s9 h new i k (sz % 100000 / 1000) (sz % 1000 / 100) (sz % 100)) <|
 match h i with
 | some (.box cs)=>match cs[k]? with
  | some (.own _)=>some []
  | some (.t (.aJ b))=>cond (h new).isNone (some [(new, .sl false sz b []),(i, .box (cs.set k (.own new)))]) none
  | some (.t (.aa _ true []))=>cond (h new).isNone (some [(new, .sl false sz true []),(i, .box (cs.set k (.own new)))]) none
  | some (.part j d 0 n)=>match h j with
   | some (.sl false a b xs)=>if a=sz/\d=sz/\j≠i then cond (h new).isNone (some [(j, .dead),(new, .sl false sz b (xs.take n)),(i, .box (cs.set k (.own new)))]) none else none
   | _=>none
  | _=>none
 | _=>none
def kG(a:Nat):Nat->(Id->Option ab)->List (Id×Nat×Nat)->Option aH
 | _,_,[]=>some []
 | j,h,(i,k,sz)::r=>(pe h (.s a j) i k sz).bind λus=>(kG a (j+1) (aK h us) r).bind λvs=>some (us++vs)
def p4:List Id->List Id->List Id
 | [],_=> []
 | i::r,seen=>cond (seen.contains i) (p4 r seen) (i::p4 r (i::seen))
def nZ(i:Id):Nat->List bY->List (Id×Nat×Nat)
 | _,[]=> []
 | k, .own sz::r=>(i,k,sz)::nZ i (k+1) r
 | k, .rows sz aD rsz::r=>(i,k,R9 sz aD rsz)::nZ i (k+1) r
 | k,_::r=>nZ i (k+1) r
def n6:List Id->List jY->List (Id×Nat×Nat)
 | i::a, .box l::r=>nZ i 0 l++n6 a r
 | _::a,_::r=>n6 a r
 | _,_=> []
def kr(l:List Id):aH:=l.map λi=>(i, .dead)
def Ae(d:Nat)(l:List Id):Bool:=l.all λi=>match i with
 | .s a _=> !(a==d)
 | .c _=>true
 | .g _ _=>false
def hF{R:Type}(P:Program)(A:cP)(O:ar)(s:St)(d:Nat)(c:Option Bool)(f:FuncId)(args:List AV)(K:AV->aH->Option R):Option R:=
 match P.funcs[f]? with
 | none=>none
 | some fn=>
  match A.iT f with
  | none=>(lT ((dE P A f 0 fn).all sA) (A.deep f) s.h args).bind λp=>
   jD P c fn.params.toList p.1 λq=>ae none (bR c (O (.call f) q [])) λxs=>eJ [] d c 0 (dE P A f 0 fn) xs λvs u _=>K (mo vs) (p.2++u)
  | some fl=>match c with
   | some _=>none
   | none=>(mK s.h (BV fl args) fl args).bind λp=>
    (kG (2000000+d) 0 (aK s.h p.2) (n6 (p4 (b9 p.1) []) (iA A f (iG ((b9 p.1).head?.bind (aK s.h p.2)))))).bind λus=>
    (fC (aK (aK s.h p.2) us) 1000 (b9 p.1) []).bind λseen=>
    cond (Ae d seen && Nat.beq (iG (seen.map λi=>iB seen (aK (aK s.h p.2) us i)).head?) (iG ((b9 p.1).head?.bind (aK s.h p.2)))) (jD P none fn.params.toList (kJ seen p.1) λq=>
     ae none (O (.call f) q (seen.map λi=>iB seen (aK (aK s.h p.2) us i))) λxs=>
     eJ seen d none 0 (dE P A f (iG ((b9 p.1).head?.bind (aK s.h p.2))) fn) xs λvs u j=>
     gG seen d j seen (iA A f (iG ((b9 p.1).head?.bind (aK s.h p.2)))) (xs.drop (m6 (dE P A f (iG ((b9 p.1).head?.bind (aK s.h p.2))) fn))) λq=>
     K (mo vs) (p.2++us++kr seen++u++q)) none
def n7:List AV->Option (List AV×Id×Nat×List AV)
 | []=>none
 | .row i n::r=>some ([],i,n,r)
 | v::r=>(n7 r).bind λq=>some (v::q.1,q.2.1,q.2.2.1,q.2.2.2)
def mb(n:Nat):List Row->Option Unit
 | []=>none
 | e::r=>if e.n=n then(match e.own with | none=>some () | some _=>none) else mb n r
def uz{R:Type}(h:Id->Option ab)(i new:Id)(n rsz:Nat)(K:aH->Option R):Option R:=
 match h i,h new with
 | some (.rows b sz aD d nx es),some (.sl false a e xs)=>if d=rsz/\a=rsz then
   ae none (mb n es) λ_=>K [(i, .rows b sz aD rsz nx (dO n (some (e,xs)) es)),(new, .dead)] else none
 | _,_=>none
def IS:Operand->Bool
 | .func _=>false
 | _=>true
def jL{R:Type}(iK:Bool)(P:Program)(A:cP)(O:ar)(s:St)(d:Nat)(c:Option Bool)(f:FuncId)(args:List AV)(K:AV->aH->Option R):Option R:=
 match cond iK (n7 args) none with
 | none=>hF P A O s d c f args K
 | some (e,i,n,g)=>match c,s.h i with
  | none,some (.rows b sz aD rsz nx es)=>ae none (bC n es) λp=>
    cond (s.h (.s (2500000+d) 0)).isNone
     (hF P A O {t:=s.t,h:=aK s.h [(i, .rows b sz aD rsz nx (dO n none es)),(.s (2500000+d) 0, .sl false rsz p.1 p.2)]} d none f (e++ .own (.s (2500000+d) 0)::g) λv us=>
      uz (aK s.h ([(i, .rows b sz aD rsz nx (dO n none es)),(.s (2500000+d) 0, .sl false rsz p.1 p.2)] ++us)) i (.s (2500000+d) 0) n rsz λa=>
       K v ([(i, .rows b sz aD rsz nx (dO n none es)),(.s (2500000+d) 0, .sl false rsz p.1 p.2)] ++us++a)) none
  | _,_=>none
theorem ME{R:Type}(P:Program)(A:cP)(O:ar)(s:St)(d:Nat)(c:Option Bool)(f:FuncId)(args:List AV)(K:AV->aH->Option R):jL false P A O s d c f args K=hF P A O s d c f args K:=rfl
def zF(c:Option Bool)(b:Bool):Option Bool:=some (match c with
 | none=>b
 | some a=>a && b)
def oY{R:Type}(c:Option Bool)(v:AV)(K:Int->Option R):Option R:=
 v.t?.bind λx=>ae c (jk.anyInt x) K
def jK{R:Type}(P:Program)(A:cP)(O:ar)(g:Option Gs)(o:Oper)(s:St)(K:AV->aH->Option R):Option R:=
 let ev:=s.get g;let c:=g.map (·.c);let d:=o.dst.getD 0
 match o.op with
 | .move x | .assign x=>K (ev x) []
 | .pick k a b=>(ev k).t?.bind λI=>ae c I.bool? λkb=>
   (s.mP g k true a).t?.bind λx=>ae (zF c kb) x.bool? λJ=>
   (s.mP g k false b).t?.bind λy=>ae (zF c (!kb)) y.bool? λL=>K (AV.t (.bool (cond kb J L))) []
 | .alloc t=>match c with
  | some _=>none
  | none=>(jX P t).bind λl=>K (.ref (.s d 0) 0) [(.s d 0, .box (l.map .t))]
 | .box _ x=>match c with
  | some _=>none
  | none=>if(iw (ev x)).all pW then K (.ref (.s d 0) 0) [(.s d 0, .box (iw (ev x)))] else none
 | .build t B=>(yB P t ev B.toList).bind λv=>K v []
 | .buildSlice t n B=>(nE P t).bind λe=>if A.nR o.dst o.type=1 then
   (match c,B.toList,n with
   | none,[(0,x)],1=>if((iw (ev x)).length=P.cellsOf e/\(iw (ev x)).all pW=true)/\P.cellsOf e<=1000/\0 < P.cellsOf e/\(jX P e).isSome=true then K (.own (.s d 0)) [(.s d 0, .arr (iw (ev x)))] else none
   | _,_,_=>none)
   else if B.size=n/\n<=1000/\P.cellsOf e<=1000/\0 < P.cellsOf e/\(jX P e).isSome=true then
   if n=0/\A.app o.dst=true then K (.t (.aJ false)) [] else
   (iY P s.h e ev 0 B.toList).bind λq=>
   match c with
   | some _=>K (.t (.aa (P.cellsOf e) false q.1)) q.2
   | none=>K (.own (.s d 0)) ((.s d 0, .sl false (P.cellsOf e) false q.1)::q.2)
   else none
 | .load t a=>kF P s c t (ev a) λv=>K v []
 | .store t a x=>match c with
  | some _=>none
  | none=>jB P s t (ev a) (ev x) λu=>K .top u
 | .nilCheck x=>match ev x with
  | .ref i k=>K (.ref i k) []
  | .el i sz k o=>K (.el i sz k o) []
  | .rel i sz n k o=>K (.rel i sz n k o) []
  | .t y=>ae c y.qI λcs=>K (.t (.ptr cs)) []
  | .fn f a b=>K (.fn f a b) []
  | _=>none
 | .binOp op t x y ty=>match op,o8 P t y,o8 P t x with
  | .eql,true,_=>(jS P s t (ev x)).bind λb=>K (.t (.bool b)) []
  | .neq,true,_=>(jS P s t (ev x)).bind λb=>K (.t (.bool (!b))) []
  | .eql,_,true=>(jS P s t (ev y)).bind λb=>K (.t (.bool b)) []
  | .neq,_,true=>(jS P s t (ev y)).bind λb=>K (.t (.bool (!b))) []
  | .eql,_,_=>qe P c t (ev x) (ev y) λb=>K (.t (.bool b)) []
  | .neq,_,_=>qe P c t (ev x) (ev y) λb=>K (.t (.bool (!b))) []
  | op,_,_=>(ev x).t?.bind λa=>(ev y).t?.bind λb=>rO P op t ty c a b λz=>K (.t z) []
 | .unOp op t x=>(ev x).t?.bind λa=>tE P op t c a λz=>K (.t z) []
 | .convert src C x=>match P.underlying src,P.underlying C with
  | some (.slice e),some .string=>match sJ P e with
   | some .u8=>(dP s.h (ev x)).bind λy=>ae c ((y.aU 1).bind λp=>bytesOf p.2) λl=>K (.t (.str ⟨l.toArray⟩)) []
   | _=>none
  | _,_=>(ev x).t?.bind λa=>rS P c src C a λz=>K (.t z) []
 | .makeFunc (.func f) H D=>K (.fn f (H.toList.map ev) (D.toList.map ev)) []
 | .makeSlice t l m=>match c with
  | some _=>none
  | none=>(ev l).t?.bind λn=>(ev m).t?.bind λk=>sL P d t (A.nR o.dst o.type) n k K
 | .makeMap t m=>match c,m with
  | none,none=>sM P d t K
  | _,_=>none
 | .lookup t x k ok=>nO P s c t (ev x) (ev k) ok λv=>K v []
 | .mapUpdate t x k v=>match c with
  | some _=>none
  | none=>nU P s t (ev x) (ev k) (ev v) λu=>K .top u
 | .slice t x E hi F=>
  jk s c g E λE=>jk s c g hi λhi=>jk s c g F λF=>oc P s c t (ev x) E hi F λv=>K v []
 | .fieldAddr t x f=>sv P c t (ev x) f λv=>K v []
 | .field t x f=>su P t (ev x) f λv=>K v []
 | .indexAddr t x i=>oY c (ev i) λn=>jR P s c t (ev x) n λv=>K v []
 | .index t x i=>oY c (ev i) λn=>match P.underlying t with
  | some .string=>(ev x).t?.bind λy=>ae c y.bD λb=>kC c n b.size
    (ae c b.data.toList[n.toNat]? λu=>K (.t (.int .u8 u.toNat)) [])
  | some (.array m e)=>match ev x with
   | .agg vs=>cond (bV P e) ((fp vs).bind λl=>kC c n m (lh P e c (l.drop (n.toNat * P.cellsOf e)) λz=>K z [])) none
   | _=>none
  | _=>none
 | .extract x k=>match ev x with
  | .mC vs=>(vs[k]?).bind λv=>K v []
  | _=>none
 | .call j=>match j.callee with
  | .builtin .len=>match j.args.toList,j.argTypes.toList with
   | [x],t::_=>nM P s c t (ev x) λv=>K v []
   | _,_=>none
  | .builtin .append=>match c,j.args.toList,j.argTypes.toList with
   | none,[x,y],[t,u]=>kS P s d (A.nR o.dst o.type==3) t u (ev x) (ev y) K
   | _,_,_=>none
  | .builtin .max=>match sJ P o.type with
   | some k=>(fp (j.args.toList.map ev)).bind λl=>match l with
    | x::r=>ae c (x.int? k) λa=>o5 k c true a r λz=>K (.t z) []
    | []=>none
   | none=>none
  | .builtin .min=>match sJ P o.type with
   | some k=>(fp (j.args.toList.map ev)).bind λl=>match l with
    | x::r=>ae c (x.int? k) λa=>o5 k c false a r λz=>K (.t z) []
    | []=>none
   | none=>none
  | .builtin .delete=>match c,j.args.toList,j.argTypes.toList with
   | none,[x,y],t::_=>nB P s t (ev x) (ev y) λu=>K (.mC []) u
   | _,_,_=>none
  | .builtin .cap=>match j.args.toList,j.argTypes.toList with
   | [x],t::_=>match P.underlying t with
    | some (.slice _)=>match ev x with
     | .t y=>cond (zO y) (K (.t (.int .i64 0)) []) none
     | _=>none
    | _=>none
   | _,_=>none
  | .value G=>match ev G with
   | .fn f a b=>jL (IS G) P A O s d c f (a++j.args.toList.map ev++b) K
   | _=>none
  | _=>none
 | _=>none
open Go
section
variable (P:Program) (A:cP) (O:ar)
def yJ(b want:Bool):Bool:=cond want b (!b)
def gC(g:Option Gs)(b want:Bool):Bool:=
 match g with
 | none=>yJ b want
 | some a=>cond a.c (yJ b want) false
def dL{R:Type}(a:Array Oper)(o:Oper)(s:St)(K:Option Gs->Option R):Option R:=
 match o.guard with
 | none=>K none
 | some (j,want)=>match(a[j]?).bind (·.dst) with
  | none=>none
  | some d=>(s.t d).2.t?.bind λx=>ae ((s.t d).1.map (·.c)) x.bool? λb=>
    K (some {d:=d,want:=want,c:=gC (s.t d).1 b want})
def Qh:Builtin->Bool
 | .delete=>true
 | _=>false
def gJ(o:Oper):Bool:=
 match o.op with
 | .store .. =>true
 | .mapUpdate .. =>true
 | .call a=>match a.callee with
  | .builtin .append=>match a.args.toList with
   | .const (.slice none 0 0)::_=>false
   | _=> !A.app o.dst
  | .builtin b=>Qh b
  | .value (.func f)=>match A.iT f with
   | some _=>true
   | none=>match P.funcs[f]? with
    | some _=>A.wr f
    | none=>true
  | _=>true
 | _=>false
def PR(o:Oper):Bool:=
 match o.op with
 | .call a=>match a.callee with
  | .value (.func f)=>match P.funcs[f]? with
   | some fn=>(dE P A f 0 fn).all sA
   | none=>false
  | _=>false
 | _=>false
def gI(o:Oper):Bool:=
 match o.op with
 | .move _ | .assign _ | .pick .. | .build .. | .unOp .. | .makeFunc .. | .fieldAddr .. | .field .. | .extract .. | .nilCheck _=>true
 | .binOp _ t x y _=> !(o8 P t x || o8 P t y)
 | .call a=>match a.callee with
  | .builtin .max | .builtin .min=>true
  | _=>false
 | _=>false
def fv(o:Oper):Bool:=
 match o.op with
 | .call a=>match a.callee with
  | .value (.func f)=>A.deep f
  | .value _=>true
  | .builtin .append=>A.nR o.dst o.type==3
  | _=>false
 | _=>false
def sU(o:Oper):Bool:=gI P o ||
 match o.op with
 | .load .. | .index .. | .indexAddr .. | .slice .. | .binOp .. | .convert .. | .lookup .. =>true
 | .call a=>match a.callee with
  | .builtin .len=>true
  | .value (.func _)=> !gJ P A o && PR P A o
  | _=>false
 | _=>false
def jt(o:Oper):Bool:=
 match o.op with
 | .alloc _ | .box .. | .makeSlice .. | .makeMap .. =>true
 | _=>false
def fL(o:Oper):Bool:=
 match o.op with
 | .call a=>match a.callee with
  | .value (.func f)=>(A.iT f).isSome
  | .value _=>true
  | _=>false
 | _=>false
def rR(a b:Oper):Bool:= !((gJ P A a && !(gI P b || jt b)) || (gJ P A b && !(gI P a || jt a))) && (!fv A a || sU P A b) && (!fv A b || sU P A a)
def hI:List Oper->List Nat
 | []=> []
 | o::r=>match o.dst with
  | some d=>d::hI r
  | none=>hI r
def sZ(d:Array Oper)(a:Nat):Nat:=match d.find? (λo=>o.dst==some a) with
 | some o=>match o.op with
  | .fieldAddr _ (.tmp b) _=>b
  | _=>a
 | none=>a
def gT(b:Array Oper)(o:Oper):Option Nat:=match o.guard,o.op with
 | none, .store _ (.tmp a) _=>some (sZ b a)
 | none, .load _ (.tmp a)=>some (sZ b a)
 | _,_=>none
def lI(d:Array Oper)(a b:Oper):Bool:=A.st ((d[0]?).bind (·.dst)) && (match gT d a,gT d b with
 | some k,some e=> !(k==e) && !(hI d.toList).contains k && !(hI d.toList).contains e
 | _,_=>false)
def Fi(o:Oper):Bool:=o.guard.isNone && gJ P A o && match o.op with
 | .call a=>match a.callee with
  | .builtin .append=> !(A.nR o.dst o.type==3)
  | .value (.func f)=>(A.iT f).isNone && !A.deep f
  | _=>false
 | _=>false
def kK(b:Array Oper)(o:Oper):Option (Option Nat):=match o.guard,o.op with
 | none, .load _ (.tmp a)=>some (some (sZ b a))
 | none, .buildSlice .. =>some none
 | _,_=>none
def kD(d:Array Oper)(a b:Oper):Bool:=A.ld ((d[0]?).bind (·.dst)) && Fi P A a && (match kK d b with
 | some (some k)=> !(hI d.toList).contains k
 | some none=>true
 | none=>false)
def jT(o:Oper)(k:Bool):Bool:=match o.guard,o.op with
 | none, .store t (.tmp _) _=>(match P.underlying t with
  | some (.slice _)=>k
  | some (.int _)=> !k
  | _=>false)
 | _,_=>false
def mz(d:Array Oper)(a b:Oper):Bool:=A.sx ((d[0]?).bind (·.dst)) && jT P a true && jT P b false
def ka:aH->Bool
 | [(_, .dead),(_, .rows _ _ _ rsz _ _)]=> !(rsz==1)
 | _=>false
def kb:aH->Bool
 | [(_, .sl false sz _ _)]=>sz==1
 | _=>false
def BO(o:Oper)(s:St):Bool:=match o.op with
 | .store _ _ y=>(s.get none y).ids.isEmpty
 | _=>false
def zN(o:Oper):Bool:=match o.guard,o.op with
 | none, .indexAddr t (.tmp _) _=>(match nE P t with
  | some e=>P.cellsOf e==1
  | none=>false)
 | none, .load _ (.tmp _)=>true
 | _,_=>false
def vN(o:Oper)(s:St):Bool:=match o.op with
 | .load _ x=>(match s.get none x with
  | .ref _ _=>true
  | _=>false)
 | .indexAddr _ x _=>(match s.get none x with
  | .own _=>true
  | _=>false)
 | _=>false
def lJ(d:Array Oper)(a b:Oper):Bool:=A.sx ((d[0]?).bind (·.dst)) && (jT P a true || jT P a false) && zN P b
def th(d:Array Oper)(a b:Oper):Bool:=lI A d a b || kD P A d a b || kD P A d b a || (mz P A d a b || mz P A d b a) || (lJ P A d a b || lJ P A d b a)
def iF(a:Array Oper):Nat->Nat->Nat->Bool
 | 0,_,_=>false
 | n+1,j,i=>match a[j]? with
  | none=>false
  | some b=>b.after.any λe=>Region.binds .any e && (e.on==i || (Nat.blt i e.on && iF a n e.on i))
def CW(a:Array Oper)(b:Array Bool)(i:Nat):Bool:=
 match a[i]? with
 | none=>false
 | some d=>(List.range a.size).all λj=>match a[j]? with
  | none=>true
  | some e=>j==i || b.getD j true || rR P A d e || th P A a d e || iF a 12 j i
def zV(b:Array Oper):Nat->Nat->Array Bool->Bool
 | 0,_,_=>true
 | n+1,k,a=>CW P A b a k && zV b n (k+1) (a.setIfInBounds k true)
def PX(h:Id->Option ab)(us:aH):Bool:=us.all λp=>(h p.1).isNone
def jr(d:Nat)(h:Id->Option ab)(us:aH):Bool:=us.all λp=>match p.1 with
 | .s a _=> !(a==d) || (h p.1).isNone
 | .c _=>true
 | .g _ _=>false
def eH(a:Array Oper)(d:Option Nat):Bool:=
 a.any λo=>match o.guard with
  | none=>false
  | some (j,_)=>match(a[j]?).bind (·.dst),d with
   | some e,some d=>e==d
   | _,_=>false
def rP(a:Array Oper)(o:Oper)(d:Nat):Bool:=
 (List.range a.size).all λi=>match a[i]? with
  | some b=> !(b.dst==some d) || o.after.any (λe=>Region.binds .any e && (e.on==i || iF a 12 e.on i))
  | none=>true
def o6(a:Array Oper)(g:Option Gs)(o:Oper)(s:St):Bool:=
 o.op.operands.toList.all λx=>(s.get g x).ids.all λi=>match i with
  | .s d _=>rP a o d
  | .c _=>true
  | .g _ _=>false
def lr(o:Oper)(us:aH):Bool:=us.all λp=>match p.1 with
 | .s d _=>o.dst==some d
 | .c _=>false
 | .g _ _=>false
def tF(a:Array Oper)(o:Oper)(us:aH):Bool:=us.all λp=>match p.1 with
 | .s d _=>rP a o d || o.dst==some d
 | .c _=>true
 | .g _ _=>false
def EA(a:Array Oper)(o d:Oper)(s:St)(us:aH):Bool:=match gT a o,gT a d with
 | some k,some b=>(o.op.operands.toList.all λx=>(s.get none x).ids.all λi=>decide (i∈(s.t k).2.ids)) && us.all (λp=>decide (p.1∈(s.t k).2.ids)) && us.all (λp=>decide (p.1∉(s.t b).2.ids))
 | _,_=>false
def zQ(a:Array Oper)(b:Oper)(s:St)(us:aH):Bool:=match kK a b with
 | some (some k)=>us.all λp=>decide (p.1∉(s.t k).2.ids)
 | _=>true
def vu(a:Array Oper)(o:Oper)(s:St):Bool:=match kK a o with
 | some (some k)=>o.op.operands.toList.all λx=>(s.get none x).ids.all λi=>decide (i∈(s.t k).2.ids)
 | some none=>o.op.operands.toList.all λx=>(s.get none x).ids.isEmpty
 | none=>true
def kN(a:Array Oper)(o:Oper)(s:St)(us:aH):Bool:=a.all λb=>(!(lI A a o b) || EA a o b s us) && (!(kD P A a o b) || zQ a b s us) && (!(kD P A a b o) || vu a o s) && ((!(mz P A a o b) || ka us) && (!(mz P A a b o) || (kb us && BO o s))) && ((!(lJ P A a o b) || ka us || kb us) && (!(lJ P A a b o) || vN o s))
def pc(b:Bool)(nt:Nat)(a:Array Oper)(o:Oper)(g:Option Gs)(s:St)(us:aH):Bool:=
 (match o.dst with | some d=>decide (d < nt) | none=>true) &&
 (match g with | some g=>us.isEmpty && !(o.dst==some g.d) | none=>true) &&
 jr (o.dst.getD 0) s.h us && (!b || (o6 a g o s && (gJ P A o || lr o us) && (!gI P o || us.isEmpty) && (!sU P A o || us.isEmpty) && (!gJ P A o || tF a o us) && Nat.ble nt 1000000 && kN P A a o s us))
def qS(a:Bool)(o:Oper)(g:Option Gs):Option Gs:=
 match g with
 | some g=>cond (!a && fL A o) (some g) none
 | none=>none
def yT(nt:Nat)(o:Oper)(g:Gs):Bool:=(match o.dst with | some d=>decide (d < nt) | none=>true) && !(o.dst==some g.d)
def Rw(o:Oper):AV:=
 match o.op with
 | .call a=>match a.callee with
  | .value (.func f)=>match P.funcs[f]? with
   | some fn=>match dE P A f 0 fn with
    | [.f .b]=> .t (.bool false)
    | [.f (.i k)]=> .t (.int k 0)
    | _=> .top
   | none=> .top
  | _=>match P.underlying o.type with
   | some .bool=> .t (.bool false)
   | some (.int k)=> .t (.int k 0)
   | _=> .top
 | _=> .top
def pd{R:Type}(b:Bool)(nt:Nat)(a:Array Oper)(o:Oper)(s:St)(K:St->Option R):Option R:=
 dL a o s λg=>match qS A b o g with
 | some d=>cond (yT nt o d) (cond d.c
   (jK P A O none o (s.sS d) λv us=>
    if pc P A b nt a o none s us then K (s.put (eH a o.dst) o.dst (some d) v us) else none)
   (K (s.put (eH a o.dst) o.dst (some d) (Rw P A o) []))) none
 | none=>jK P A O g o s λv us=>
  if pc P A b nt a o g s us then K (s.put (eH a o.dst) o.dst g v us) else none
def vZ{R:Type}(a:Bool)(nt:Nat)(b:Array Oper):List Oper->St->(St->Option R)->Option R
 | [],s,K=>K s
 | o::r,s,K=>pd P A O a nt b o s λs'=>vZ a nt b r s' K
def St.clear(s:St):St:=
 {t :=λk=>match s.t k with
    | (none,v)=>(none,v)
    | (some _,_)=>(none, .top)
  h:=s.h}
def vI:List Nat->Bool
 | []=>true
 | d::r=> !r.contains d && vI r
def sH(a:Array Oper):Bool:=a.all λo=>match o.guard with
 | none=>true
 | some (j,_)=>o.after.any λe=>Region.binds .any e && e.on==j
def DY(b:Bool)(a:Array Oper):Bool:=
 !b || (Region.lexB .any a && zV P A a a.size 0 (Array.replicate a.size false) && vI (hI a.toList) && sH a)
def region{R:Type}(nt:Nat)(a:Bool)(b:Array Oper)(s:St)(K:St->Option R):Option R:=
 cond (DY P A a b)
  (vZ P A O a nt b b.toList s λs'=>K s'.clear) none
def sR(h:Id->Option ab):AV->AV
 | .own i=>match h i with
  | some (.sl true sz b xs)=> .t (.aa sz b xs)
  | _=> .own i
 | .part i sz off n=>match h i with
  | some (.sl true a b xs)=>if a=sz then .t (.aa sz b ((xs.drop off).take n)) else .part i sz off n
  | _=> .part i sz off n
 | .ref i off=>match h i with
  | some (.iZ l)=> .t (.ptr (l.drop off))
  | _=> .ref i off
 | v=>v
def vw(s:St)(k:Nat×Option Nat):Option (AV×aH):=
 match s.t k.1 with
 | (some _,_)=>none
 | (none,v)=>match k.2 with
  | none=>some (sR s.h v,[])
  | some sz=>if sz=0\/sz>=1000000 then some (sR s.h v,[]) else match v with
   | .own i=>match s.h i with
    | some (.sl false _ _ _)=>some (.own i,[])
    | _=>none
   | .t (.aJ b)=>some (.own (.s (1000000+k.1) 0),[(.s (1000000+k.1) 0, .sl false sz b [])])
   | _=>none
def o4(s:St):List (Nat×Option Nat)->Option (List AV×aH)
 | []=>some ([],[])
 | k::r=>(vw s k).bind λp=>(o4 s r).bind λq=>some (p.1::q.1,p.2++q.2)
def AK(f:FuncId)(todo:List Item)(live:List (Nat×Option Nat))(m:Nat×Nat)(s:St):Option (List T):=
 (o4 s live).bind λp=>
  if PX s.h p.2 then
  let h:=aK s.h p.2
  (fC h 1000 ((List.range m.1).map Id.c++b9 p.1) []).bind λseen=>
   O (.node f todo live m) (kJ seen p.1) (seen.map λi=>iB seen (h i))
  else none
def oT(s:St):List (Nat×Option Nat)->aH
 | []=> []
 | (k,some 0)::r=>iy s.h (s.t k).2++oT s r
 | _::r=>oT s r
def Ar(s:St):List (Nat×Option Nat)->List (Id×Nat×Nat)
 | []=> []
 | (k,some n)::r=>match cond (Nat.ble 1000000 n) (s.t k).2 .top with
  | .ref i _=>(i,n / 1000000 - 1,n % 1000000)::Ar s r
  | _=>Ar s r
 | _::r=>Ar s r
def mB(f:FuncId)(todo:List Item)(live:List (Nat×Option Nat))(m:Nat×Nat)(s:St):Option (List T):=
 (kG 1900000 0 (aK s.h (oT s live)) (Ar s live)).bind λus=>
  AK O f todo live m {t:=s.t,h:=aK (aK s.h (oT s live)) us}
def nH(live:List (Nat×Option Nat))(bg:List AV)(blks:List ab):St:=
 {t:=λk=>(none,look live bg k)
  h:=fun
   | .c j=>blks[j]?
   | _=>none}
where
 look:List (Nat×Option Nat)->List AV->Nat->AV
 | (k,_)::ks,v::vs,j=>if j=k then v else look ks vs j
 | _,_,_=> .top
def po:Code->Nat
 | .region id _ _=>id
 | .seq a _=>po a
 | .block _ b=>po b
 | .cond _ a _=>po a
 | _=>1000000
def JS(h:Id->Option ab)(sz:Nat):AV->Option (T×Id)
 | .own i=>match h i with
  | some (.sl false a b xs)=>if a=sz then some (.aa sz b xs,i) else none
  | _=>none
 | _=>none
def jP{R:Type}(m:Nat)(h:Id->Option ab)(r:bY)(v:AV)(K:T->List Id->List Id->Option R):Option R:=
 match r with
 | .f _=>v.t?.bind λx=>ae none x.qg λ_=>K x [] []
 | .t _=>(dP h v).bind λx=>K x [] ((iy h v).map (·.1))
 | .own sz=>match v with
  | .own i=>(JS h sz (.own i)).bind λp=>K p.1 [p.2] []
  | .part i a 0 n=>match h i with
   | some (.sl false j b xs)=>if j=sz/\a=sz then K (.aa sz b (xs.take n)) [i] [] else none
   | _=>none
  | .t (.aJ b)=>K (.aJ b) [] []
  | .t (.aa _ true [])=>K (.aJ true) [] []
  | _=>none
 | .ref k off=>match v with
  | .ref (.c e) off'=>if e=k/\off'=off/\k < m then K .ax [] [] else none
  | _=>none
 | .same k=>match v with
  | .own (.c e)=>if e=k/\k < m then K .ax [] [] else none
  | _=>none
 | .rows sz aD rsz=>match v with
  | .own i=>match h i with
   | some (.rows b a d g _ es)=>if a=sz/\d=aD/\g=rsz then
     ae none (if bP es=true then some () else none) λ_=>K (bN b es) [i] [] else none
   | _=>none
  | _=>none
 | .mp ag ks vk=>match v with
  | .own i=>match h i with
   | some (.mp l o q es)=>if l=ag/\o=ks/\q=vk then K (bS es) [i] [] else none
   | _=>none
  | _=>none
 | .no=>match v with
  | .ref _ _=>K .ax [] []
  | _=>none
 | .agg _=>none
 | .new _=>none
def nF{R:Type}(m:Nat)(h:Id->Option ab):List bY->List AV->(List T->List Id->List Id->Option R)->Option R
 | [],[],K=>K [] [] []
 | r::f,v::vs,K=>jP m h r v λx a b=>nF m h f vs λxs d e=>K (x::xs) (a++d) (b++e)
 | _,_,_=>none
def bZ{R:Type}(m:Nat)(h:Id->Option ab):List bY->List AV->(List T->List Id->List Id->Option R)->Option R
 | [],[],K=>K [] [] []
 | r::f,v::vs,K=>match r with
  | .agg l=>match v with
   | .agg cs=>nF m h l cs λxs a b=>bZ m h f vs λg d e=>K (xs++g) (a++d) (b++e)
   | _=>none
  | .new l=>match v with
   | .ref i 0=>match h i with
    | some (.box cs)=>nF m h l cs λxs a b=>bZ m h f vs λg d e=>K (xs++g) (i:: (a++d)) (b++e)
    | _=>none
   | _=>none
  | r=>jP m h r v λx a b=>bZ m h f vs λxs d e=>K (x::xs) (a++d) (b++e)
 | _,_,_=>none
def lZ{R:Type}(m:Nat)(h:Id->Option ab):Nat->List jY->(List T->List Id->List Id->Option R)->Option R
 | _,[],K=>K [] [] []
 | j, .box l::r,K=>match h (.c j) with
  | some (.box cs)=>nF m h l cs λxs a b=>lZ m h (j+1) r λf d e=>K (xs++f) (.c j:: (a++d)) (b++e)
  | _=>none
 | j, .sl sz::r,K=>match h (.c j) with
  | some (.sl false k b xs)=>if k=sz then lZ m h (j+1) r λf d e=>K (.aa sz b xs::f) (.c j::d) e else none
  | _=>none
 | j, .mp ag ks vk::r,K=>match h (.c j) with
  | some (.mp g i n es)=>if g=ag/\i=ks/\n=vk then lZ m h (j+1) r λf d e=>K (bS es::f) (.c j::d) e else none
  | _=>none
 | j, .dead::r,K=>lZ m h (j+1) r K
def sY{R:Type}(s:St):List ResultVar->(List AV->Option R)->Option R
 | [],K=>K []
 | .tmp k::r,K=>match s.t k with
   | (none,v)=>sY s r λl=>K (v::l)
   | _=>none
 | .cell k t::r,K=>match s.t k with
   | (none,v)=>kF P s none t v λv=>sY s r λl=>K (v::l)
   | _=>none
def Ac:List Id->Bool
 | []=>true
 | i::r=> !r.contains i && Ac r
def zu(f:FuncId)(fn:Func)(m:Nat×Nat)(s:St):Option (List T):=
 sY P s fn.results.toList λvs=>
  if m.1= (iA A f m.2).length then
  bZ m.1 s.h (dE P A f m.2 fn) vs λxs a b=>lZ m.1 s.h 0 (iA A f m.2) λg d e=>
   if Ac (a++d) && (b++e).all (λi=> !(a++d).contains i) then some (xs++g) else none
  else none
def wc(aD rsz:Nat)(e:Row):List T:=e.cs.set aD (match e.own with
 | some p=> .aa rsz p.1 p.2
 | none=> .ax)
def vO:List AV->List Id
 | []=> []
 | .own i::r=>i::vO r
 | _::r=>vO r
def D4(h:Id->Option ab)(t:Nat->Option Gs×AV):List ResultVar->List Id
 | []=> []
 | .tmp k::r=>(match(t k).2 with
  | .agg vs=>vO vs
  | v=>vO [v])++D4 h t r
 | .cell k _::r=>(match(t k).2 with
  | .ref i _=>match h i with
   | some (.box cs)=>vO cs
   | _=> []
  | _=> [])++D4 h t r
def wA{R:Type}:(Id->Option ab)->List Id->(aH->Option R)->Option R
 | _,[],K=>K []
 | h,i::r,K=>match h i with
  | some (.rows b sz aD rsz _ es)=>ae none (if bP es=true then some () else none) λ_=>
    wA (aK h [(i, .sl true sz b (es.map (wc aD rsz)))]) r λus=>K ((i, .sl true sz b (es.map (wc aD rsz)))::us)
  | _=>wA h r K
def zt(f:FuncId)(fn:Func)(m:Nat×Nat)(s:St):Option (List T):=
 cond ((dE P A f m.2 fn).any IH) (zu P A f fn m s)
  (wA s.h (D4 s.h s.t fn.results.toList) λus=>zu P A f fn m {t:=s.t,h:=aK s.h us})
def ev(f:FuncId)(fn:Func)(m:Nat×Nat):Nat->Bool->List Item->St->Option (List T)
 | 0,_,_,_=>none
 | n+1,d,todo,s=>match todo with
  | []=>zt P A f fn m s
  | .code c::k=>match c with
   | .skip=>ev f fn m n true k s
   | .seq a b=>ev f fn m n d (.code a:: .code b::k) s
   | .region id g e=>match cond d (A.join f id) none with
    | some live=>mB O f (.code (.region id g e)::k) live m s
    | none=>region P A O fn.ntmps e g s λs'=>ev f fn m n true k s'
   | .cond x a b=>(s.get none x).t?.bind λy=>ae none y.bool? λt=>cond t (ev f fn m n true (.code a::k) s) (ev f fn m n true (.code b::k) s)
   | .block id b=>ev f fn m n d (.code b:: .inBlock id::k) s
   | .loop b=>match A.live f (po b) with
    | some live=>mB O f (.inLoop b::k) live m s
    | none=>none
   | .exit id=>match exitTo id k with
    | some i=>ev f fn m n true i s
    | none=>none
   | .ret=>zt P A f fn m s
   | _=>none
  | .inBlock _::k=>ev f fn m n true k s
  | .inLoop b::k=>match A.live f (po b) with
    | some live=>mB O f (.inLoop b::k) live m s
    | none=>none
  | _::_=>none
def kA:Nat:=100000
def u4(bg:List AV)(a:List ab):St:=
 {t:=λk=>(none,bg.getD k .top)
  h:=fun
   | .c j=>a[j]?
   | _=>none}
def aw:ar
 | .call f,bg,a=>match A.ext f bg a with
  | some r=>some r
  | none=>match P.funcs[f]? with
  | some fn=>match fn.body with
   | some c=>if bg.length<=fn.ntmps then ev P A O f fn (a.length,iG a.head?) kA true [.code c] (u4 bg a) else none
   | none=>none
  | none=>none
 | .node f todo live m,bg,a=>match P.funcs[f]? with
  | some fn=>match todo with
   | .inLoop b::k=>ev P A O f fn m kA true (.code b:: .inLoop b::k) (nH live bg a)
   | todo=>ev P A O f fn m kA false todo (nH live bg a)
  | none=>none
end
def qf(d:Bool)(r:Nat):Code->List Item->Option (List Item)
 | .seq a b,k=>match qf d r a (.code b::k) with
  | some t=>some t
  | none=>qf d r b k
 | .block id b,k=>qf d r b (.inBlock id::k)
 | .loop b,k=>if d && po b==r then some (.inLoop b::k) else qf d r b (.inLoop b::k)
 | .cond _ a b,k=>match qf d r a k with
  | some t=>some t
  | none=>qf d r b k
 | .region id f e,k=>if !d && id==r then some (.code (.region id f e)::k) else none
 | _,_=>none
def aQ(P:Program)(f:FuncId)(a:Bool)(r:Nat)(live:List (Nat×Option Nat))(m:Nat×Nat):Key:=
 .node f (match P.funcs[f]? with
  | some fn=>match fn.body with
   | some c=>(qf a r c []).getD []
   | none=> []
  | none=> []) live m
def ju(P:Program)(A:cP):Nat->ar
 | 0=>λ_ _ _=>none
 | n+1=>aw P A (ju P A n)
open Classical in
noncomputable def mV(P:Program)(A:cP):ar:=λk vs bs=>
 if h:∃n r,ju P A n k vs bs=some r then some (Classical.choose (XR h)) else none
open Go
section
variable (w:World) (A:Nat->Prop)
mutual
def aA:T->Value->Prop
 | .int k n,v=>v= .int k n
 | .bool b,v=>v= .bool b
 | .str s,v=>v= .string s
 | .aa sz b xs,v=>(b=true/\xs= []/\v= .slice none 0 0)\/
   (b=false/\∃af off a cap,v= .slice (some ⟨af,off,a⟩) xs.length cap/\xs.length<=cap/\(xs= []\/(a=none/\A af))/\aY af sz off xs)
 | .aJ b,v=>(b=true/\v= .slice none 0 0)\/(b=false/\∃af off a,v= .slice (some ⟨af,off,a⟩) 0 0)
 | .ptr cs,v=>∃af off,v= .pointer (some ⟨af,off,none⟩)/\(cs= []\/A af)/\aV af off cs
 | .ax,v=>v= .pointer none
 | .Ab,v=>v= .map none
 | .Aa,v=>v= .nilFunc
 | .DE,v=>v= .nilIface
 | .any,v=>v.oneCell'=true/\v.cells= #[v]
def aY(af sz:Nat):Nat->List (List T)->Prop
 | _,[]=>True
 | off,cs::xs=>cs.length=sz/\aV af off cs/\aY af sz (off+sz) xs
def aV(af:Nat):Nat->List T->Prop
 | _,[]=>True
 | off,c::cs=>(∃v,w.cell? ⟨af,off,none⟩=some v/\aA c v)/\aV af (off+1) cs
end
def aT:List T->List Value->Prop
 | [],vs=>vs= []
 | c::cs,vs=>∃v r,vs=v::r/\aA w A c v/\aT cs r
end
section
variable {w w':World} {A A':Nat->Prop}
theorem ny{a:Addr}(h:w'.heap[a.block]? =w.heap[a.block]?):w'.cell? a=w.cell? a:=by simp [World.cell?,h]
mutual
theorem aA.mono(h:∀b,A b->A' b/\w'.heap[b]? =w.heap[b]?):∀(t:T) (v:Value),aA w A t v->aA w' A' t v
 | .int k n,v,hv=>by simpa [aA] using hv
 | .bool b,v,hv=>by simpa [aA] using hv
 | .str s,v,hv=>by simpa [aA] using hv
 | .aJ b,v,hv=>by simpa [aA] using hv
 | .ax,v,hv=>by simpa [aA] using hv
 | .Ab,v,hv=>by simpa [aA] using hv
 | .Aa,v,hv=>by simpa [aA] using hv
 | .DE,v,hv=>by simpa [aA] using hv
 | .any,v,hv=>by simp only [aA] at hv⊢;exact hv
 | .aa sz b xs,v,hv=>by
  simp only [aA] at hv⊢;rcases hv with hv | ⟨hb,af,off,f,cap,h1,d,a,e⟩
  .exact .inl hv
  .refine .inr ⟨hb,af,off,f,cap,h1,d, ?_, ?_⟩
   .rcases a with a | a
    .exact .inl a
    .exact .inr ⟨a.1,(h _ a.2).1⟩
   .rcases a with a | a
    .subst a;simp [aY]
    .exact aY.mono h af sz a.2 off xs e
 | .ptr cs,v,hv=>by
  simp only [aA] at hv⊢;obtain⟨af,off,h1,d,a⟩:=hv;refine⟨af,off,h1, ?_, ?_⟩
  .rcases d with d | d
   .exact .inl d
   .exact .inr (h _ d).1
  .rcases d with d | d
   .subst d;simp [aV]
   .exact aV.mono h af d off cs a
theorem aY.mono(h:∀b,A b->A' b/\w'.heap[b]? =w.heap[b]?)(af sz:Nat)(hb:A af):∀(off:Nat) (xs:List (List T)),aY w A af sz off xs->aY w' A' af sz off xs
 | _,[],_=>by simp [aY]
 | off,cs::xs,hv=>by simp only [aY] at hv⊢;exact⟨hv.1,aV.mono h af hb off cs hv.2.1,aY.mono h af sz hb (off+sz) xs hv.2.2⟩
theorem aV.mono(h:∀b,A b->A' b/\w'.heap[b]? =w.heap[b]?)(af:Nat)(hb:A af):∀(off:Nat) (cs:List T),aV w A af off cs->aV w' A' af off cs
 | _,[],_=>by simp [aV]
 | off,c::cs,hv=>by simp only [aV] at hv⊢;obtain⟨⟨v,d,e⟩,a⟩:=hv;exact⟨⟨v,by rw [ny (w:=w) (by exact(h af hb).2)];exact d,aA.mono h c v e⟩,aV.mono h af hb (off+1) cs a⟩
end
theorem aV.nP(h:∀b,A b->A' b/\w'.heap[b]? =w.heap[b]?)(af:Nat)(hb:w'.heap[af]? =w.heap[af]?):∀(off:Nat) (cs:List T),aV w A af off cs->aV w' A' af off cs
 | _,[],_=>by simp [aV]
 | off,c::cs,hv=>by simp only [aV] at hv⊢;obtain⟨⟨v,d,e⟩,a⟩:=hv;exact⟨⟨v,by rw [ny (w:=w) (by exact hb)];exact d,aA.mono h c v e⟩,aV.nP h af hb (off+1) cs a⟩
theorem aY.nP(h:∀b,A b->A' b/\w'.heap[b]? =w.heap[b]?)(af sz:Nat)(hb:w'.heap[af]? =w.heap[af]?):∀(off:Nat) (xs:List (List T)),aY w A af sz off xs->aY w' A' af sz off xs
 | _,[],_=>by simp [aY]
 | off,cs::xs,hv=>by simp only [aY] at hv⊢;exact⟨hv.1,aV.nP h af hb off cs hv.2.1,aY.nP h af sz hb (off+sz) xs hv.2.2⟩
theorem aT.mono(h:∀b,A b->A' b/\w'.heap[b]? =w.heap[b]?):∀(cs:List T) (vs:List Value),aT w A cs vs->aT w' A' cs vs
 | [],_,hv=>hv
 | c::cs,vs,⟨v,r,e,h1,a⟩=>⟨v,r,e,aA.mono h c v h1,aT.mono h cs r a⟩
theorem aY.get{af sz:Nat}:∀{off:Nat} {xs:List (List T)},aY w A af sz off xs->∀{k:Nat} {cs:List T},xs[k]? =some cs->cs.length=sz/\aV w A af (off+k * sz) cs
 | off,cs::xs,h,0,a,e=>by simp only [aY] at h;simp at e;subst e;exact⟨h.1,by simpa using h.2.1⟩
 | off,cs::xs,h,k+1,a,e=>by
  simp only [aY] at h;have:=aY.get h.2.2 (k:=k) (cs:=a) (by simpa using e);refine⟨this.1, ?_⟩;have b:off+ (k+1) * sz=off+sz+k * sz:=by rw [Wn];omega
  rw [b];exact this.2
theorem aV.get{af:Nat}:∀{off:Nat} {cs:List T},aV w A af off cs->∀{k:Nat} {c:T},cs[k]? =some c->∃v,w.cell? ⟨af,off+k,none⟩=some v/\aA w A c v
 | off,c::cs,h,0,c',e=>by simp only [aV] at h;simp at e;subst e;exact h.1
 | off,c::cs,h,k+1,c',e=>by
  simp only [aV] at h;have:=aV.get h.2 (k:=k) (c:=c') (by simpa using e);have a:off+1+k=off+ (k+1):=by omega
  rw [a] at this;exact this
theorem aV.drop{af:Nat}:∀{off:Nat} {cs:List T},aV w A af off cs->∀(n:Nat),aV w A af (off+n) (cs.drop n)
 | _,_,h,0=>by simpa using h
 | _,[],_,n+1=>by simp [aV]
 | off,c::cs,h,n+1=>by
  simp only [aV] at h;have:=aV.drop h.2 n;have a:off+1+n=off+ (n+1):=by omega
  rw [a] at this;simpa using this
theorem aY.drop{af sz:Nat}:∀{off:Nat} {xs:List (List T)},aY w A af sz off xs->∀(n:Nat),aY w A af sz (off+n * sz) (xs.drop n)
 | _,_,h,0=>by simpa using h
 | _,[],_,n+1=>by simp [aY]
 | off,cs::xs,h,n+1=>by
  simp only [aY] at h;have:=aY.drop h.2.2 n;have a:off+sz+n * sz=off+ (n+1) * sz:=by rw [Wn];omega
  rw [a] at this;simpa using this
theorem aY.take{af sz:Nat}:∀{off:Nat} {xs:List (List T)},aY w A af sz off xs->∀(n:Nat),aY w A af sz off (xs.take n)
 | _,_,_,0=>by simp [aY]
 | _,[],_,n+1=>by simp [aY]
 | off,cs::xs,h,n+1=>by simp only [aY] at h;simp only [Yy,aY];exact⟨h.1,h.2.1,aY.take h.2.2 n⟩
theorem aY.append{af sz:Nat}:∀{off:Nat} {xs a:List (List T)},aY w A af sz off xs->aY w A af sz (off+xs.length * sz) a->aY w A af sz off (xs++a)
 | off,[],a,_,h=>by simpa using h
 | off,cs::xs,a,h,h'=>by
  simp only [aY] at h;simp only [Vc,aY];refine⟨h.1,h.2.1,aY.append h.2.2 ?_⟩;have b:off+sz+xs.length * sz=off+ (cs::xs).length * sz:=by simp [Wn];omega
  rw [b];exact h'
theorem aA.qE{t:T}{v:Value}(h:aA w A t v):v.oneCell'=true/\v.cells= #[v]:=by
 cases t <;> simp only [aA] at h
 case aa=>rcases h with⟨_,_,rfl⟩ | ⟨_,_,_,_,_,rfl,_⟩ <;> exact⟨rfl,rfl⟩
 case aJ=>rcases h with⟨_,rfl⟩ | ⟨_,_,_,_,rfl⟩ <;> exact⟨rfl,rfl⟩
 case ptr=>obtain⟨_,_,rfl,_⟩:=h;exact⟨rfl,rfl⟩
 case any=>exact h
 all_goals subst h;exact⟨rfl,rfl⟩
theorem aT.length:∀{cs:List T} {vs:List Value},aT w A cs vs->vs.length=cs.length
 | [],_,h=>by simp only [aT] at h;simp [h]
 | c::cs,vs,⟨v,r,e,_,h⟩=>by subst e;simp [aT.length h]
end
section
variable (w:World) (A:Nat->Prop) (ρ:Id->Option Value)
mutual
def ao:AV->Value->Prop
 | .top,_=>True
 | .t x,v=>aA w A x v
 | .mC vs,v=>∃d:List Value,v= .tuple d.toArray/\aC vs d
 | .agg vs,v=>∃d:List Value,v= .agg d.toArray/\aC vs d/\∀u∈d,u.oneCell'=true/\u.cells= #[u]
 | .ref i off,v=>∃b,ρ i=some (.pointer (some ⟨b,0,none⟩))/\v= .pointer (some ⟨b,off,none⟩)
 | .el i sz k off,v=>∃b o L cap,ρ i=some (.slice (some ⟨b,o,none⟩) L cap)/\v= .pointer (some ⟨b,o+k * sz+off,none⟩)
 | .own i,v=>ρ i=some v
 | .part i sz off n,v=>∃a L cap e,ρ i=some (.slice a L cap)/\off+n<=L/\L<=cap/\v= .slice e n (cap - off)/\
   ((off=0/\e=a)\/(off=cap/\(e=none↔a=none)/\True)\/∃b o,a=some ⟨b,o,none⟩/\e=some ⟨b,o+off * sz,none⟩)
 | .row i n,v=>ρ (.g i n)=some v
 | .rel i sz n k off,v=>∃b o L cap,ρ (.g i n)=some (.slice (some ⟨b,o,none⟩) L cap)/\v= .pointer (some ⟨b,o+k * sz+off,none⟩)
 | .fn f xs l,v=>∃j y':List Value,v= .func (.func f) j.toArray y'.toArray/\aC xs j/\aC l y'
def aC:List AV->List Value->Prop
 | [],vs=>vs= []
 | a::as,vs=>∃v r,vs=v::r/\ao a v/\aC as r
end
end
section
variable {w w':World} {A A':Nat->Prop} {ρ ρ':Id->Option Value}
mutual
theorem ao.mono(h:∀b,A b->A' b/\w'.heap[b]? =w.heap[b]?)(d:∀i v,ρ i=some v->ρ' i=some v):∀(a:AV) (v:Value),ao w A ρ a v->ao w' A' ρ' a v
 | .top,_,_=>by simp [ao]
 | .t x,v,hv=>by simp only [ao] at hv⊢;exact aA.mono h x v hv
 | .mC vs,v,hv=>by simp only [ao] at hv⊢;obtain⟨j,e,g⟩:=hv;exact⟨j,e,aC.mono h d vs j g⟩
 | .agg vs,v,hv=>by simp only [ao] at hv⊢;obtain⟨j,e,g,q⟩:=hv;exact⟨j,e,aC.mono h d vs j g,q⟩
 | .ref i off,v,hv=>by simp only [ao] at hv⊢;obtain⟨b,e,g⟩:=hv;exact⟨b,d _ _ e,g⟩
 | .el i sz k off,v,hv=>by simp only [ao] at hv⊢;obtain⟨b,o,L,cap,e,g⟩:=hv;exact⟨b,o,L,cap,d _ _ e,g⟩
 | .own i,v,hv=>by simp only [ao] at hv⊢;exact d _ _ hv
 | .part i sz off n,v,hv=>by simp only [ao] at hv⊢;obtain⟨a,L,cap,m,e,g⟩:=hv;exact⟨a,L,cap,m,d _ _ e,g⟩
 | .row i n,v,hv=>by simp only [ao] at hv⊢;exact d _ _ hv
 | .rel i sz n k off,v,hv=>by simp only [ao] at hv⊢;obtain⟨b,o,L,cap,e,g⟩:=hv;exact⟨b,o,L,cap,d _ _ e,g⟩
 | .fn f xs r,v,hv=>by simp only [ao] at hv⊢;obtain⟨l,y',e,h1,p⟩:=hv;exact⟨l,y',e,aC.mono h d xs l h1,aC.mono h d r y' p⟩
theorem aC.mono(h:∀b,A b->A' b/\w'.heap[b]? =w.heap[b]?)(d:∀i v,ρ i=some v->ρ' i=some v):∀(as:List AV) (vs:List Value),aC w A ρ as vs->aC w' A' ρ' as vs
 | [],_,hv=>by simpa [aC] using hv
 | a::as,vs,hv=>by simp only [aC] at hv⊢;obtain⟨v,r,e,h1,f⟩:=hv;exact⟨v,r,e,ao.mono h d a v h1,aC.mono h d as r f⟩
end
theorem aC.length:∀{as:List AV} {vs:List Value},aC w A ρ as vs->vs.length=as.length
 | [],_,h=>by simp only [aC] at h;simp [h]
 | a::as,vs,h=>by simp only [aC] at h;obtain⟨v,r,e,_,h⟩:=h;subst e;simp [aC.length h]
theorem aC.get:∀{as:List AV} {vs:List Value},aC w A ρ as vs->∀{k:Nat} {a:AV},as[k]? =some a->∃v,vs[k]? =some v/\ao w A ρ a v
 | a::as,vs,h,0,b,e=>by simp only [aC] at h;obtain⟨v,r,rfl,h1,_⟩:=h;simp at e;subst e;exact⟨v,rfl,h1⟩
 | a::as,vs,h,k+1,b,e=>by simp only [aC] at h;obtain⟨v,r,rfl,_,h⟩:=h;obtain⟨u,f,d⟩:=aC.get h (k:=k) (a:=b) (by simpa using e);exact⟨u,by simpa using f,d⟩
theorem aC.append:∀{as bs:List AV} {vs us:List Value},aC w A ρ as vs->aC w A ρ bs us->aC w A ρ (as++bs) (vs++us)
 | [],_,_,_,h,h'=>by simp only [aC] at h;subst h;simpa using h'
 | a::as,bs,vs,us,h,h'=>by simp only [aC] at h;obtain⟨v,r,rfl,h1,h⟩:=h;simp only [Vc,aC];exact⟨v,r++us,rfl,h1,aC.append h h'⟩
theorem aC.drop:∀{as:List AV} {vs:List Value},aC w A ρ as vs->∀n,aC w A ρ (as.drop n) (vs.drop n)
 | _,_,h,0=>by simpa using h
 | [],vs,h,n+1=>by simp only [aC] at h;subst h;simp [aC]
 | a::as,vs,h,n+1=>by simp only [aC] at h;obtain⟨v,r,rfl,h1,h⟩:=h;simpa using aC.drop h n
theorem aC.take:∀{as:List AV} {vs:List Value},aC w A ρ as vs->∀n,aC w A ρ (as.take n) (vs.take n)
 | _,_,_,0=>by simp [aC]
 | [],vs,h,n+1=>by simp only [aC] at h;subst h;simp [aC]
 | a::as,vs,h,n+1=>by simp only [aC] at h;obtain⟨v,r,rfl,h1,h⟩:=h;simp only [Yy,aC];exact⟨v,r.take n,rfl,h1,aC.take h n⟩
theorem aC.mj:∀{cs:List T} {vs:List Value},aT w A cs vs->aC w A ρ (cs.map .t) vs
 | [],_,h=>by simpa [aC,aT] using h
 | c::cs,vs,⟨v,r,e,h1,a⟩=>by simp only [VN,aC];exact⟨v,r,e,by simpa [ao] using h1,aC.mj a⟩
theorem aT.mh:∀{as:List AV} {cs:List T} {vs:List Value},fp as=some cs->aC w A ρ as vs->aT w A cs vs
 | [],cs,vs,h,hv=>by simp only [fp,U5] at h;subst h;simpa [aT,aC] using hv
 | a::as,cs,vs,h,hv=>by
  cases a <;> simp only [fp,reduceCtorEq] at h
  case t x=>
   cases b:fp as with
   | none=>simp [b] at h
   | some l=>simp only [b,Vf,U5] at h;subst h;simp only [aC,ao] at hv;obtain⟨v,r,e,h1,d⟩:=hv;exact⟨v,r,e,h1,aT.mh b d⟩
end
open Go
section
variable {R S α:Type}
theorem bG[Inhabited α](c:Option Bool)(m:Option α)(k:α->Option R)(f:R->Option S):(ae c m k).bind f=ae c m λa=>(k a).bind f:=by
 unfold ae;cases m with
 | some a=>rfl
 | none=>cases c with
  | none=>rfl
  | some b=>cases b <;> rfl
theorem aO[Inhabited α]{c:Option Bool}{m:Option α}{k:α->Option R}{r:R}(h:ae c m k=some r)(b:c=none\/c=some true):∃a,m=some a/\k a=some r:=by
 unfold ae at h;cases m with
 | some a=>exact⟨a,rfl,h⟩
 | none=>rcases b with rfl | rfl <;> simp at h
theorem lY(c:Bool)(x y:Option R)(f:R->Option S):(cond c x y).bind f=cond c (x.bind f) (y.bind f):=by cases c <;> rfl
theorem cT(c:Prop)[Decidable c](x y:Option R)(f:R->Option S):(if c then x else y).bind f=if c then x.bind f else y.bind f:=by split <;> rfl
theorem bt(f:R->Option S):(none:Option R).bind f=none:=rfl
theorem EG(c:Option Bool):∀(n:Nat) (cs:List T) (K:List T->Option R) (f:R->Option S),(pB c n cs K).bind f=pB c n cs λx=>(K x).bind f
 | 0,_,_,_=>rfl
 | n+1,cs,K,f=>by simp only [pB,bG,EG c n]
theorem ot(k:Ck)(c:Option Bool)(x:T)(K:T->Option R)(f:R->Option S):(fG k c x K).bind f=fG k c x λx=>(K x).bind f:=by unfold fG;cases k <;> simp only [bG]
theorem tA(c:Option Bool):∀(ks:List Ck) (xs:List T) (K:List T->Option R) (f:R->Option S),(fk c ks xs K).bind f=fk c ks xs λx=>(K x).bind f
 | [],_,_,_=>rfl
 | _::_,[],_,_=>rfl
 | k::ks,x::xs,K,f=>by simp only [fk,ot,tA c ks xs]
theorem Mj(op:BinOp)(k:IntKind)(c:Option Bool)(x y:T)(K:T->Option R)(f:R->Option S):(rN op k c x y K).bind f=rN op k c x y λx=>(K x).bind f:=by unfold rN;cases op <;> simp only [bG,bt]
theorem Tj(op:BinOp)(k ky:IntKind)(c:Option Bool)(x y:T)(K:T->Option R)(f:R->Option S):(te op k ky c x y K).bind f=te op k ky c x y λx=>(K x).bind f:=by unfold te;cases op <;> simp only [bG,bt]
theorem TE(op:BinOp)(c:Option Bool)(x y:T)(K:T->Option R)(f:R->Option S):(tn op c x y K).bind f=tn op c x y λx=>(K x).bind f:=by unfold tn;cases op <;> simp only [bG,bt]
theorem HL(P:Program)(c:Option Bool)(t:TypeId)(x y:T)(K:Bool->Option R)(f:R->Option S):(l0 P c t x y K).bind f=l0 P c t x y λx=>(K x).bind f:=by unfold l0;split <;> simp only [bG,bt]
theorem HM(P:Program)(c:Option Bool):∀(ts:List TypeId) (xs a:List T) (K:Bool->Option R) (f:R->Option S),(eW P c ts xs a K).bind f=eW P c ts xs a λx=>(K x).bind f
 | [],[],[],_,_=>rfl
 | t::ts,x::xs,y::a,K,f=>by simp only [eW,HL,HM P c ts xs a]
 | [],[],_::_,_,_=>rfl
 | [],_::_,_,_,_=>rfl
 | _::_,[],_,_,_=>rfl
 | _::_,_::_,[],_,_=>rfl
theorem Mq(P:Program)(op:BinOp)(t ty:TypeId)(c:Option Bool)(x y:T)(K:T->Option R)(f:R->Option S):(rO P op t ty c x y K).bind f=rO P op t ty c x y λx=>(K x).bind f:=by unfold rO;cases op <;> simp only [] <;> first | rfl | (split <;> simp only [Mj,Tj,TE,bt])
theorem Px(P:Program)(c:Option Bool)(t:TypeId)(x y:AV)(K:Bool->Option R)(f:R->Option S):(qe P c t x y K).bind f=qe P c t x y λx=>(K x).bind f:=by unfold qe;split <;> simp only [lY,bG,HL,HM,Vv,bt]
theorem UI(P:Program)(op:UnOp)(t:TypeId)(c:Option Bool)(x:T)(K:T->Option R)(f:R->Option S):(tE P op t c x K).bind f=tE P op t c x λx=>(K x).bind f:=by unfold tE;split <;> simp only [bG,bt]
theorem vE(P:Program)(t:TypeId)(c:Option Bool)(cs:List T)(K:AV->Option R)(f:R->Option S):(lh P t c cs K).bind f=lh P t c cs λx=>(K x).bind f:=by unfold lh;simp only [lY,bG,EG,ot,tA]
theorem IY(P:Program)(t:TypeId)(cs:List AV)(K:AV->Option R)(f:R->Option S):(nN P t cs K).bind f=nN P t cs λx=>(K x).bind f:=by unfold nN;simp only [lY,Vv]
theorem Ed(h:Id->Option ab)(c:Option Bool)(i:Id)(n:Nat)(K:Nat->Bool->List (List T)->Option R)(f:R->Option S):(mq h c i n K).bind f=mq h c i n λa b l=>(K a b l).bind f:=by unfold mq;split <;> simp only [bG,bt]
theorem Qv(P:Program)(t:TypeId)(c:Option Bool)(i:Id)(sz aD off:Nat)(e:Row)(K:AV->Option R)(f:R->Option S):(sK P t c i sz aD off e K).bind f=sK P t c i sz aD off e λx=>(K x).bind f:=by unfold sK;simp only [lY,cT,bG,EG,ot,tA,bt]
theorem Qu(P:Program)(s:St)(c:Option Bool)(t:TypeId)(a:AV)(K:AV->Option R)(f:R->Option S):(kF P s c t a K).bind f=kF P s c t a λx=>(K x).bind f:=by
 unfold kF;rw [lY];congr 1;split
 .split <;> simp only [IY,vE,bt]
 .split <;> simp only [cT,bG,vE,Qv,bt]
 .simp only [Ed,cT,bG,vE,bt]
 .simp only [bG,vE]
 .rfl
theorem TB(P:Program)(s:St)(t:TypeId)(a v:AV)(K:aH->Option R)(f:R->Option S):(jB P s t a v K).bind f=jB P s t a v λx=>(K x).bind f:=by
 unfold jB;rw [lY];congr 1;split
 .split <;> simp only [cT,bt]
 .split
  .simp only [Vv,cT,bG,bt]
  .split
   .split <;> simp only [cT,bG,bt]
   .rfl
  .rfl
 .split <;> simp only [Vv,cT,bG,bt]
 .rfl
theorem qo(c:Option Bool)(i:Int)(n:Nat)(K:Option R)(f:R->Option S):(kC c i n K).bind f=kC c i n (K.bind f):=by unfold kC;simp only [bG]
theorem Qd(P:Program)(s:St)(c:Option Bool)(t:TypeId)(x:AV)(i:Int)(K:AV->Option R)(f:R->Option S):(jR P s c t x i K).bind f=jR P s c t x i λx=>(K x).bind f:=by
 unfold jR;split
 .split
  .split <;> simp only [cT,qo,bt]
  .simp only [Ed,cT,qo,bt]
  .split <;> simp only [cT,qo,bt]
  .simp only [bG,qo]
  .rfl
 .split
  .rw [qo];congr 1;split <;> simp only [bG,bt]
  .rfl
theorem PO(P:Program)(c:Option Bool)(t:TypeId)(x:AV)(k:Nat)(K:AV->Option R)(f:R->Option S):(sv P c t x k K).bind f=sv P c t x k λx=>(K x).bind f:=by
 unfold sv;split
 .rw [cT];congr 1;split <;> simp only [bG,bt]
 .rfl
theorem PM(P:Program)(t:TypeId)(x:AV)(k:Nat)(K:AV->Option R)(f:R->Option S):(su P t x k K).bind f=su P t x k λx=>(K x).bind f:=by
 unfold su;split
 .split <;> simp only [IY,bt]
 .rfl
theorem Qp(P:Program)(s:St)(c:Option Bool)(t:TypeId)(x:AV)(K:AV->Option R)(f:R->Option S):(nM P s c t x K).bind f=nM P s c t x λx=>(K x).bind f:=by
 unfold nM;split
 .split <;> simp only [bG,bt]
 .rfl
 .split
  .split <;> rfl
  .simp only [Ed]
  .rfl
  .simp only [bG]
  .rfl
 .rfl
theorem Mu(s:St)(c:Option Bool)(g:Option Gs)(o:Option Operand)(K:Option Int->Option R)(f:R->Option S):(jk s c g o K).bind f=jk s c g o λx=>(K x).bind f:=by
 unfold jk;split
 .rfl
 .simp only [Vv,bG]
theorem Tp(P:Program)(s:St)(c:Option Bool)(t:TypeId)(x:AV)(a hi b:Option Int)(K:AV->Option R)(f:R->Option S):(oc P s c t x a hi b K).bind f=oc P s c t x a hi b λx=>(K x).bind f:=by
 unfold oc;split
 .split <;> simp only [bG,bt]
 .split
  .split
   .split <;> simp only [cT,bG,bt]
   .split <;> simp only [cT,bG,bt]
   .simp only [cT,bG,bt]
   .rfl
  .split
   .simp only [cT,bG,bt]
   .split <;> simp only [cT,bG,bt]
   .rfl
 .rfl
theorem Me(P:Program)(s:St)(t:TypeId)(sz:Nat)(a:List T)(y:AV)(K:List (List T)->Option R)(f:R->Option S):(mI P s t sz a y K).bind f=mI P s t sz a y λx=>(K x).bind f:=by unfold mI;split <;> simp only [Vv,cT,bG,bt]
theorem Ma(P:Program)(s:St)(d:Nat)(e:TypeId)(i:Id)(sz aD rsz nx:Nat)(es:List Row)(j:Id)(cs:List AV)(K:AV->aH->Option R)(f:R->Option S):(pT P s d e i sz aD rsz nx es j cs K).bind f=pT P s d e i sz aD rsz nx es j cs λv u=>(K v u).bind f:=by
 unfold pT;rw [cT];congr 1;rw [Vv];congr 1;funext l;split
 .split <;> simp only [cT,bG,bt]
 .split <;> simp only [cT,bG,bt]
 .rfl
theorem L7(P:Program)(s:St)(d:Nat)(rw:Bool)(t ty:TypeId)(x y:AV)(K:AV->aH->Option R)(f:R->Option S):(kS P s d rw t ty x y K).bind f=kS P s d rw t ty x y λv u=>(K v u).bind f:=by
 unfold kS;rw [Vv];congr 1;funext e;rw [Vv];congr 1;funext b;rw [cT];congr 1;split
 .split <;> simp only [Ma,bt]
 .rw [Me];congr 1;funext a;split
  .split <;> simp only [cT,bG,bt]
  .split <;> simp only [cT,bG,bt]
  .simp only [Vv,bG]
  .rfl
theorem QJ(P:Program)(d:Nat)(t:TypeId)(a:Nat)(n m:T)(K:AV->aH->Option R)(f:R->Option S):(sL P d t a n m K).bind f=sL P d t a n m λv u=>(K v u).bind f:=by unfold sL;rw [Vv];congr 1;funext e;rw [Vv];congr 1;funext b;rw [bG];congr 1;funext n;rw [bG];congr 1;funext m;rw [cT];congr 1;rw [bG];congr 1;funext _;rw [lY];congr 1;split <;> simp only [cT,bt]
theorem Da(P:Program)(k:TypeId)(c:Option Bool)(v:AV)(K:Bool->List Ck->List T->Option R)(f:R->Option S):(oZ P k c v K).bind f=oZ P k c v λa b l=>(K a b l).bind f:=by unfold oZ;rw [Vv];congr 1;funext q;split <;> simp only [tA,Vv,cT,bt]
theorem QD(P:Program)(s:St)(c:Option Bool)(t:TypeId)(x k:AV)(ok:Bool)(K:AV->Option R)(f:R->Option S):(nO P s c t x k ok K).bind f=nO P s c t x k ok λv=>(K v).bind f:=by
 unfold nO;rw [Vv];congr 1;funext q;rw [Vv];congr 1;funext z;rw [Da];congr 1;funext a b l;split
 .split
  .rw [cT];simp only [ot,bt]
  .rfl
 .rfl
theorem QL(P:Program)(d:Nat)(t:TypeId)(K:AV->aH->Option R)(f:R->Option S):(sM P d t K).bind f=sM P d t λv u=>(K v u).bind f:=by unfold sM;simp only [Vv,cT,bt]
theorem Nd(P:Program)(s:St)(t:TypeId)(x k:AV)(K:aH->Option R)(f:R->Option S):(nB P s t x k K).bind f=nB P s t x k λu=>(K u).bind f:=by
 unfold nB;rw [Vv];congr 1;funext q;rw [Da];congr 1;funext a b l;split
 .split
  .rw [cT];rfl
  .rfl
 .rfl
theorem RY(P:Program)(s:St)(t:TypeId)(x k v:AV)(K:aH->Option R)(f:R->Option S):(nU P s t x k v K).bind f=nU P s t x k v λu=>(K u).bind f:=by
 unfold nU;rw [Vv];congr 1;funext q;rw [Da];congr 1;funext a b l;split
 .split
  .rw [cT];simp only [Vv,ot,bt]
  .rfl
 .rfl
theorem Dm(k:IntKind)(c:Option Bool)(b:Bool):∀(l:List T) (a:Int) (K:T->Option R) (f:R->Option S),(o5 k c b a l K).bind f=o5 k c b a l λx=>(K x).bind f
 | [],_,_,_=>rfl
 | y::r,a,K,f=>by simp only [o5,bG,Dm k c b r]
theorem MR(P:Program)(c:Option Bool)(a b:TypeId)(x:T)(K:T->Option R)(f:R->Option S):(rS P c a b x K).bind f=rS P c a b x λx=>(K x).bind f:=by unfold rS;split <;> simp only [bG,bt]
theorem F1(ids:List Id)(d:Nat)(c:Option Bool)(j:Nat)(r:bY)(x:T)(K:AV->aH->Nat->Option R)(f:R->Option S):(mM ids d c j r x K).bind f=mM ids d c j r x λv u j=>(K v u j).bind f:=by
 unfold mM;split
 .exact ot _ _ _ _ _
 .exact ot _ _ _ _ _
 .split <;> simp only [bG,bt]
 .split <;> simp only [bt]
 .split <;> simp only [bt]
 .split <;> simp only [bG,bt]
 .split <;> simp only [bG,bt]
 .rfl
 .rfl
 .rfl
theorem yO(ids:List Id)(d:Nat)(c:Option Bool):∀(a:List bY) (j:Nat) (xs:List T) (K:List AV->aH->Nat->Option R) (f:R->Option S),(kx ids d c j a xs K).bind f=kx ids d c j a xs λv u j=>(K v u j).bind f
 | [],_,_,_,_=>rfl
 | r::a,j,xs,K,f=>by simp only [kx,bG,F1,yO ids d c a]
theorem pZ(ids:List Id)(d:Nat)(c:Option Bool):∀(a:List bY) (j:Nat) (xs:List T) (K:List AV->aH->Nat->Option R) (f:R->Option S),(eJ ids d c j a xs K).bind f=eJ ids d c j a xs λv u j=>(K v u j).bind f
 | [],_,_,_,_=>rfl
 | r::a,j,xs,K,f=>by
  cases r
  case new l=>cases c <;> simp only [eJ,yO,pZ ids d _ a,bt]
  all_goals simp only [eJ,bG,F1,yO,pZ ids d c a]
theorem yQ(all:List Id)(d:Nat):∀(a:List jY) (b:List Id) (j:Nat) (xs:List T) (K:aH->Option R) (f:R->Option S),(gG all d j b a xs K).bind f=gG all d j b a xs λu=>(K u).bind f
 | [],[],_,_,_,_=>rfl
 | [],_::_,_,_,_,_=>rfl
 | r::a,[],_,_,_,_=>by cases r <;> rfl
 | r::a,i::b,j,xs,K,f=>by cases r <;> simp only [gG,bG,yO,yQ all d a]
theorem TR(P:Program)(c:Option Bool)(t:TypeId)(v:AV)(K:AV->Option R)(f:R->Option S):(na P c t v K).bind f=na P c t v λx=>(K x).bind f:=by
 unfold na;split
 .exact ot _ _ _ _ _
 .split
  .exact tA _ _ _ _ _
  .rfl
 .rfl
theorem EK(P:Program)(c:Option Bool):∀(ts:List TypeId) (vs:List AV) (K:List AV->Option R) (f:R->Option S),(jD P c ts vs K).bind f=jD P c ts vs λx=>(K x).bind f
 | [],_,_,_=>rfl
 | _::_,[],_,_=>rfl
 | t::ts,v::vs,K,f=>by simp only [jD,TR,EK P c ts vs]
theorem FK(P:Program)(A:cP)(O:ar)(s:St)(d:Nat)(c:Option Bool)(g:FuncId)(args:List AV)(K:AV->aH->Option R)(f:R->Option S):
  (hF P A O s d c g args K).bind f=hF P A O s d c g args λv u=>(K v u).bind f:=by
 unfold hF;split
 .rfl
 .split
  .simp only [Vv,bG,pZ,EK]
  .split
   .rfl
   .simp only [Vv,lY,bt,bG,pZ,yQ,EK]
theorem Ml(h:Id->Option ab)(i new:Id)(n rsz:Nat)(K:aH->Option R)(f:R->Option S):(uz h i new n rsz K).bind f=uz h i new n rsz λu=>(K u).bind f:=by
 unfold uz;split
 .rw [cT];simp only [bG,bt]
 .rfl
theorem MF(iK:Bool)(P:Program)(A:cP)(O:ar)(s:St)(d:Nat)(c:Option Bool)(g:FuncId)(args:List AV)(K:AV->aH->Option R)(f:R->Option S):
  (jL iK P A O s d c g args K).bind f=jL iK P A O s d c g args λv u=>(K v u).bind f:=by
 unfold jL;split
 .exact FK _ _ _ _ _ _ _ _ _ _
 .split
  .simp only [bG,lY,FK,Ml,bt]
  .rfl
theorem ID(c:Option Bool)(v:AV)(K:Int->Option R)(f:R->Option S):(oY c v K).bind f=oY c v λx=>(K x).bind f:=by unfold oY;simp only [Vv,bG]
theorem BJ(P:Program)(A:cP)(O:ar)(g:Option Gs)(o:Oper)(s:St)(K:AV->aH->Option R)(f:R->Option S):
  (jK P A O g o s K).bind f=jK P A O g o s λv u=>(K v u).bind f:=by
 unfold jK;cases o.op <;> dsimp only
 case pick=>simp only [Vv,bG]
 case alloc=>split <;> simp only [Vv,bt]
 case box=>split <;> simp only [cT,bt]
 case build=>simp only [Vv]
 case buildSlice=>
  rw [Vv];congr 1;funext e;rw [cT];congr 1
  .split <;> simp only [cT,bt]
  rw [cT];congr 1;rw [cT];congr 1;rw [Vv];congr 1;funext q;split <;> rfl
 case load=>simp only [Qu]
 case store=>split <;> simp only [TB,bt]
 case nilCheck=>split <;> simp only [bG,bt]
 case binOp=>split <;> simp only [Vv,Px,Mq]
 case unOp=>simp only [Vv,UI]
 case convert=>
  split
  .split <;> simp only [Vv,bG,bt]
  .simp only [Vv,MR]
 case makeFunc=>split <;> simp_all
 case makeSlice=>split <;> simp only [Vv,QJ,bt]
 case makeMap=>split <;> simp only [QL,bt]
 case lookup=>simp only [QD]
 case mapUpdate=>split <;> simp only [RY,bt]
 case slice=>simp only [Mu,Tp]
 case fieldAddr=>simp only [PO]
 case field=>simp only [PM]
 case indexAddr=>simp only [ID,Qd]
 case index=>
  simp only [ID];congr 1;funext n;split
  .simp only [Vv,bG,qo]
  .split <;> simp only [lY,Vv,qo,vE,bt]
  .rfl
 case extract=>split <;> simp only [Vv,bt]
 case call a=>
  split
  .split <;> simp only [Qp,bt]
  .split <;> simp only [L7,bt]
  .split
   .rw [Vv];congr 1;funext l;split <;> simp only [bG,Dm,bt]
   .rfl
  .split
   .rw [Vv];congr 1;funext l;split <;> simp only [bG,Dm,bt]
   .rfl
  .split <;> simp only [Nd,bt]
  ·(repeat' split) <;> simp only [lY,bt]
  .split <;> simp only [MF,bt]
  .rfl
 all_goals rfl
def dI(P:Program)(A:cP)(O:ar)(g:Option Gs)(o:Oper)(s:St):Option (AV×aH):=jK P A O g o s λv u=>some (v,u)
theorem rM(P:Program)(A:cP)(O:ar)(g:Option Gs)(o:Oper)(s:St)(K:AV->aH->Option R):jK P A O g o s K= (dI P A O g o s).bind λp=>K p.1 p.2:=by unfold dI;rw [BJ];rfl
theorem Iw(a:Array Oper)(o:Oper)(s:St)(K:Option Gs->Option R)(f:R->Option S):(dL a o s K).bind f=dL a o s λg=>(K g).bind f:=by
 unfold dL;split
 .rfl
 .split
  .rfl
  .simp only [Vv,bG]
theorem zI(a:Array Oper)(o:Oper)(s:St)(K:Option Gs->Option R):dL a o s K= (dL a o s some).bind K:=by rw [Iw];rfl
def fA(P:Program)(A:cP)(O:ar)(a:Bool)(nt:Nat)(b:Array Oper)(o:Oper)(s:St):Option St:=pd P A O a nt b o s some
theorem RG(P:Program)(A:cP)(O:ar)(a:Bool)(nt:Nat)(b:Array Oper)(o:Oper)(s:St)(K:St->Option R):pd P A O a nt b o s K= (fA P A O a nt b o s).bind K:=by
 unfold fA pd;rw [Iw];congr 1;funext g;cases qS A a o g with
 | none=>dsimp only;rw [BJ];congr 1;funext v u;rw [cT];rfl
 | some d=>
  dsimp only;cases yT nt o d with
  | false=>rfl
  | true=>
   cases d.c with
   | false=>rfl
   | true=>simp only [cond_true];rw [BJ];congr 1;funext v u;rw [cT];rfl
def jx(P:Program)(A:cP)(O:ar)(a:Bool)(nt:Nat)(b:Array Oper):List Oper->St->Option St
 | [],s=>some s
 | o::r,s=>(fA P A O a nt b o s).bind (jx P A O a nt b r)
theorem Ea(P:Program)(A:cP)(O:ar)(a:Bool)(nt:Nat)(b:Array Oper):∀(l:List Oper) (s:St) (K:St->Option R),vZ P A O a nt b l s K= (jx P A O a nt b l s).bind K
 | [],_,_=>rfl
 | o::r,s,K=>by simp only [vZ,jx,RG,Vv];congr 1;funext s';exact Ea P A O a nt b r s' K
end
open Go
structure Ctx where
 A0:Nat->Prop
 M:Nat->Prop
 N0:Nat
def Ctx.MO(c:Ctx)(b:Nat):Prop:=c.M b\/c.N0<=b
def AA(c:Ctx)(w:World)(O:Id->Option Nat)(b:Nat):Prop:=(c.A0 b\/c.MO b)/\b < w.heap.size/\∀i,O i≠some b
def cU(w:World)(A:Nat->Prop)(sz:Nat)(b:Bool)(l:List (List T))(v:Value)(Q:Nat->Prop):Prop:=
 ∃a cap,v= .slice a l.length cap/\l.length<=cap/\(a=none↔b=true)/\True/\
  (cap=0\/∃af off arr t,a=some ⟨af,off,none⟩/\Q af/\w.heap[af]? =some (.cells arr t (0,0))/\off+cap * sz<=arr.size/\aY w A af sz off l)
def je(w:World)(A:Nat->Prop)(ρ:Id->Option Value)(O:Id->Option Nat)(i:Id)(af sz aD rsz base:Nat)(e:Row):Prop:=
 e.cs.length=sz/\aD < sz/\(∀j x,j≠aD->e.cs[j]? =some x->∃v,w.cell? ⟨af,base+j,none⟩=some v/\aA w A x v)/\
 ∃v,w.cell? ⟨af,base+aD,none⟩=some v/\ρ (.g i e.n)=some v/\
  match e.own with
  | some p=>cU w A rsz p.1 p.2 v (λb=>O (.g i e.n)=some b)
  | none=>O (.g i e.n)=none
def cw(w:World)(A:Nat->Prop)(ρ:Id->Option Value)(O:Id->Option Nat)(i:Id)(af sz aD rsz:Nat):Nat->List Row->Prop
 | _,[]=>True
 | base,e::es=>je w A ρ O i af sz aD rsz base e/\cw w A ρ O i af sz aD rsz (base+sz) es
def oK(ρ:Id->Option Value)(O:Id->Option Nat)(i:Id)(nx:Nat)(es:List Row):Prop:=
 (es.map (·.n)).Nodup/\(∀e∈es,e.n < nx)/\(∀n,nx<=n->ρ (.g i n)=none)/\∀n b,O (.g i n)=some b->∃e∈es,e.n=n
def cZ(w:World)(A:Nat->Prop)(ρ:Id->Option Value)(O:Id->Option Nat)(i:Id):ab->Prop
 | .box cs=>∃b arr t,ρ i=some (.pointer (some ⟨b,0,none⟩))/\O i=some b/\w.heap[b]? =some (.cells arr t (0,0))/\aC w A ρ cs arr.toList/\
   (∀u∈arr.toList,u.oneCell'=true/\u.cells= #[u])
 | .sl g sz b l=>∃v,ρ i=some v/\cU w A sz b l v (λaf=>if g=true then A af else O i=some af)/\(g=true->O i=none)
 | .iZ l=>∃b,ρ i=some (.pointer (some ⟨b,0,none⟩))/\O i=none/\A b/\aV w A b 0 l
 | .arr cs=>∃b arr t,ρ i=some (.slice (some ⟨b,0,none⟩) 1 1)/\O i=some b/\w.heap[b]? =some (.cells arr t (0,0))/\aC w A ρ cs arr.toList/\
   (∀u∈arr.toList,u.oneCell'=true/\u.cells= #[u])
 | .mp ag ks vk es=>∃b d f,ρ i=some (.map (some b))/\O i=some b/\w.heap[b]? =some (.map d f)/\
   d.toList.map (λe=>(e.key,e.val))=es.map (λp=>(dr ag p.1,dQ p.2))/\(es.all λp=>cd ks p.1 && eD vk p.2)=true
 | .rows b sz aD rsz nx es=>∃a cap,ρ i=some (.slice a es.length cap)/\es.length<=cap/\(a=none↔b=true)/\oK ρ O i nx es/\
   (cap=0\/∃af off arr t,a=some ⟨af,off,none⟩/\O i=some af/\w.heap[af]? =some (.cells arr t (0,0))/\off+cap * sz<=arr.size/\cw w A ρ O i af sz aD rsz off es)
 | .dead=>(∃v,ρ i=some v/\v.oneCell'=true/\v.cells= #[v])/\O i=none
structure HS (c:Ctx) (w:World) (h:Id->Option ab) (ρ:Id->Option Value) (O:Id->Option Nat):Prop where
 af:∀i b,h i=some b->cZ w (AA c w O) ρ O i b
 cG:∀i,i.real=true->h i=none->ρ i=none/\O i=none
 eO:∀i n,h (.g i n)=none
 fY:∀i n,h i=none->ρ (.g i n)=none/\O (.g i n)=none
 gone:∀i n u,ρ (.g i n)=some u->u.oneCell'=true/\u.cells= #[u]
 inj:∀i j b,O i=some b->O j=some b->i=j
 lt:∀i b,O i=some b->b < w.heap.size
 own:∀i b,O i=some b->c.MO b
 size:c.N0<=w.heap.size
structure Le (w:World) (ρ:Id->Option Value) (O:Id->Option Nat) (w':World) (ρ':Id->Option Value) (O':Id->Option Nat):Prop where
 os:w'.os=w.os
 output:w'.output=w.output
 tape:w'.tape=w.tape
 size:w.heap.size<=w'.heap.size
 fb:∀i v,ρ i=some v->ρ' i=some v
 af:∀b,b < w.heap.size->(∀i,O i≠some b)->w'.heap[b]? =w.heap[b]?
 own:∀i b,O' i=some b->(∃j,O j=some b)\/w.heap.size<=b
section
variable {c:Ctx} {w w' w'':World} {h h':Id->Option ab} {ρ ρ' ρ'':Id->Option Value} {O O' O'':Id->Option Nat}
theorem Le.refl:Le w ρ O w ρ O:=⟨rfl,rfl,rfl,Vs _,λ_ _ h=>h,λ_ _ _=>rfl,λi b h=> .inl ⟨i,h⟩⟩
theorem Le.trans(a:Le w ρ O w' ρ' O')(b:Le w' ρ' O' w'' ρ'' O''):Le w ρ O w'' ρ'' O'' where
 os:=b.os.trans a.os
 output:=b.output.trans a.output
 tape:=b.tape.trans a.tape
 size:=VU a.size b.size
 fb i v h:=b.fb i v (a.fb i v h)
 af k hk hn:=by
  rw [b.af k (WY hk a.size),a.af k hk hn];intro i hi;rcases a.own i k hi with⟨j,hj⟩ | h
  .exact hn j hj
  .omega
 own i k hi:=by
  rcases b.own i k hi with⟨j,hj⟩ | h
  .exact a.own j k hj
  .exact .inr (VU a.size h)
theorem Le.A(le:Le w ρ O w' ρ' O')(b:Nat)(a:AA c w O b):AA c w' O' b/\w'.heap[b]? =w.heap[b]?:=by
 refine⟨⟨a.1,WY a.2.1 le.size,λi hi=> ?_⟩,le.af b a.2.1 a.2.2⟩;rcases le.own i b hi with⟨j,d⟩ | h
 .exact a.2.2 j d
 .have:=a.2.1;omega
theorem cU.mono{A A' Q f:Nat->Prop}{sz:Nat}{b:Bool}{l:List (List T)}{v:Value}(o:∀b,A b->A' b/\w'.heap[b]? =w.heap[b]?)
  (e:∀b,Q b->f b/\w'.heap[b]? =w.heap[b]?) (hs:cU w A sz b l v Q):cU w' A' sz b l v f:=by
 obtain⟨a,cap,h1,k,m,n,d⟩:=hs;refine⟨a,cap,h1,k,m,n, ?_⟩;rcases d with d | ⟨af,off,arr,t,g,e2,e3,i,j⟩
 .exact .inl d
 .exact .inr ⟨af,off,arr,t,g,(e _ e2).1,by rw [(e _ e2).2];exact e3,i,aY.nP o af sz (e _ e2).2 off l j⟩
def rv(i:Id)(w:World)(ρ:Id->Option Value)(O:Id->Option Nat)(w':World)(ρ':Id->Option Value)(O':Id->Option Nat):Prop:=
 ∀n,ρ' (.g i n)=ρ (.g i n)/\O' (.g i n)=O (.g i n)/\∀b,O (.g i n)=some b->w'.heap[b]? =w.heap[b]?
theorem je.mono{A A':Nat->Prop}{i:Id}{af sz aD rsz base:Nat}{e:Row}(f:∀b,A b->A' b/\w'.heap[b]? =w.heap[b]?)(hb:w'.heap[af]? =w.heap[af]?)(a:rv i w ρ O w' ρ' O')(h:je w A ρ O i af sz aD rsz base e):
  je w' A' ρ' O' i af sz aD rsz base e:=by
 obtain⟨h1,m,o,v,q,r,t⟩:=h;have g:∀p,w'.cell? ⟨af,p,none⟩=w.cell? ⟨af,p,none⟩:=λp=>ny hb;refine⟨h1,m,λj x y z=> ?_,v,by rw [g];exact q,by rw [(a e.n).1];exact r, ?_⟩
 .obtain⟨u,l,d⟩:=o j x y z;exact⟨u,by rw [g];exact l,aA.mono f x u d⟩
 .revert t;cases e.own with
  | none=>intro h;simp only at h⊢;rw [(a e.n).2.1];exact h
  | some p=>intro d;refine cU.mono f (λb k=> ?_) d;rw [(a e.n).2.1];exact⟨k,(a e.n).2.2 b k⟩
theorem cw.mono{A A':Nat->Prop}{i:Id}{af sz aD rsz:Nat}(a:∀b,A b->A' b/\w'.heap[b]? =w.heap[b]?)(hb:w'.heap[af]? =w.heap[af]?)(d:rv i w ρ O w' ρ' O'):∀{es:List Row} {base:Nat},cw w A ρ O i af sz aD rsz base es->
  cw w' A' ρ' O' i af sz aD rsz base es
 | [],_,_=>trivial
 | e::es,base,h=>⟨je.mono a hb d h.1,cw.mono a hb d h.2⟩
theorem cU.fZ{A A' Q a:Nat->Prop}{sz:Nat}{b:Bool}{l:List (List T)}{v:Value}(d:∀b,A b->A' b/\w'.heap[b]? =w.heap[b]?)
  (e:∀b,Q b->a b/\w'.heap[b]? =w.heap[b]?) (hs:cU w A sz b l v Q):cU w' A' sz b l v a:=cU.mono d e hs
theorem je.move{A A':Nat->Prop}{i i':Id}{af blk' sz aD rsz base a:Nat}{e:Row}(l:∀j,j < sz->w'.cell? ⟨blk',a+j,none⟩=w.cell? ⟨af,base+j,none⟩)(k:∀b,A b->A' b/\w'.heap[b]? =w.heap[b]?)
  (h1:ρ' (.g i' e.n)=ρ (.g i e.n)) (f:O' (.g i' e.n)=O (.g i e.n)) (D:∀b,O (.g i e.n)=some b->w'.heap[b]? =w.heap[b]?) (h:je w A ρ O i af sz aD rsz base e):je w' A' ρ' O' i' blk' sz aD rsz a e:=by
 obtain⟨q,d,r,v,t,y,z⟩:=h;refine⟨q,d,λj x E o=> ?_,v,by rw [l _ d];exact t,by rw [h1];exact y, ?_⟩
 .obtain⟨u,B,C⟩:=r j x E o;have:=(Vh.1 o).1;exact⟨u,by rw [l j (by omega)];exact B,aA.mono k x u C⟩
 .revert z;cases e.own with
  | none=>intro h;simp only at h⊢;rw [f];exact h
  | some p=>intro g;refine cU.mono k (λb m=> ?_) g;rw [f];exact⟨m,D b m⟩
theorem cw.move{A A':Nat->Prop}{i i':Id}{af blk' sz aD rsz:Nat}(d:∀b,A b->A' b/\w'.heap[b]? =w.heap[b]?):∀{es:List Row} {base a:Nat},
  (∀p,p < es.length * sz->w'.cell? ⟨blk',a+p,none⟩=w.cell? ⟨af,base+p,none⟩)->(∀e∈es,ρ' (.g i' e.n)=ρ (.g i e.n)/\O' (.g i' e.n)=O (.g i e.n)/\∀b,O (.g i e.n)=some b->w'.heap[b]? =w.heap[b]?)->
  cw w A ρ O i af sz aD rsz base es->cw w' A' ρ' O' i' blk' sz aD rsz a es
 | [],_,_,_,_,_=>trivial
 | e::es,base,a,f,k,h=>by
  have el:(e::es).length * sz=sz+es.length * sz:=by simp [Wn];omega
  obtain⟨h1,l,m⟩:=k e U9;refine⟨je.move (λj q=>f j (by omega)) d h1 l m h.1,cw.move d (λp r=> ?_) (λe o=>k e (Va _ o)) h.2⟩;rw [XT,XT];exact f (sz+p) (by omega)
theorem cw.append{A:Nat->Prop}{i:Id}{af sz aD rsz:Nat}:∀{es a:List Row} {base:Nat},cw w A ρ O i af sz aD rsz base es->cw w A ρ O i af sz aD rsz (base+es.length * sz) a->cw w A ρ O i af sz aD rsz base (es++a)
 | [],a,base,_,h=>by simpa using h
 | e::es,a,base,h,h'=>by
  refine⟨h.1,cw.append h.2 ?_⟩;have:base+sz+es.length * sz=base+ (e::es).length * sz:=by simp [Wn];omega
  rw [this];exact h'
theorem cw.set{A A':Nat->Prop}{i:Id}{af sz aD rsz:Nat}{x:Row}(l:∀b,A b->A' b/\w'.heap[b]? =w.heap[b]?):∀{es:List Row} {base k:Nat},k < es.length->
  (∀p,base<=p->p < base+es.length * sz->¬(base+k * sz<=p/\p < base+k * sz+sz)->w'.cell? ⟨af,p,none⟩=w.cell? ⟨af,p,none⟩)->
  (∀j e,j≠k->es[j]? =some e->ρ' (.g i e.n)=ρ (.g i e.n)/\O' (.g i e.n)=O (.g i e.n)/\∀b,O (.g i e.n)=some b->w'.heap[b]? =w.heap[b]?)->
  je w' A' ρ' O' i af sz aD rsz (base+k * sz) x->cw w A ρ O i af sz aD rsz base es->cw w' A' ρ' O' i af sz aD rsz base (es.set k x)
 | [],_,_,f,_,_,_,_=>by simp at f
 | e::es,base,0,f,a,d,q,h=>by
  have el:(e::es).length * sz=sz+es.length * sz:=by simp [Wn];omega
  refine⟨by simpa using q,cw.move l (λp u=>a _ (by omega) (by omega) (by omega)) (λe' m=> ?_) h.2⟩;obtain⟨j,o⟩:=Yg.1 m;exact d (j+1) e' (by omega) (by simpa using o)
 | e::es,base,k+1,f,a,d,q,h=>by
  have el:(e::es).length * sz=sz+es.length * sz:=by simp [Wn];omega
  have e2:(k+1) * sz=sz+k * sz:=by rw [Wn];omega
  obtain⟨h1,r,t⟩:=d 0 e (by omega) rfl;refine⟨je.move (λj o=>a _ (by omega) (by omega) (by omega)) l h1 r t h.1,cw.set l (by simpa using f) (λp v y z=>a p (by omega) (by omega) (by omega)) (λj e' o m=>d (j+1) e' (by omega) (by simpa using m)) ?_ h.2⟩;rw [show base+sz+k * sz=base+ (k+1) * sz by omega];exact q
theorem oK.mono{i:Id}{nx:Nat}{es:List Row}(d:rv i w ρ O w' ρ' O')(h:oK ρ O i nx es):oK ρ' O' i nx es:=
 ⟨h.1,h.2.1,λn a=>by rw [(d n).1];exact h.2.2.1 n a,λn b a=>by rw [(d n).2.1] at a;exact h.2.2.2 n b a⟩
theorem cZ.mono{A A':Nat->Prop}{i:Id}(q:rv i w ρ O w' ρ' O')(k:∀b,A b->A' b/\w'.heap[b]? =w.heap[b]?)(d:∀i v,ρ i=some v->ρ' i=some v)(j:O' i=O i)
  (hb:∀b,O i=some b->w'.heap[b]? =w.heap[b]?):∀{b:ab},cZ w A ρ O i b->cZ w' A' ρ' O' i b
 | .box cs,⟨b,arr,t,e,e2,e3,f,g⟩=>⟨b,arr,t,d _ _ e,by rw [j];exact e2,by rw [hb _ e2];exact e3,aC.mono k d cs _ f,g⟩
 | .sl r sz b l,⟨v,e,e2,e3⟩=>by
  refine⟨v,d _ _ e,cU.mono k (λb m=> ?_) e2,by rw [j];exact e3⟩;cases r
  .simp only [VD,if_false] at m⊢;exact⟨by rw [j];exact m,hb _ m⟩
  .simp only [if_true] at m⊢;exact k _ m
 | .iZ l,⟨b,e,e2,e3,f⟩=>⟨b,d _ _ e,by rw [j];exact e2,(k b e3).1,aV.mono k b e3 0 l f⟩
 | .arr cs,⟨b,arr,t,e,e2,e3,f,g⟩=>⟨b,arr,t,d _ _ e,by rw [j];exact e2,by rw [hb _ e2];exact e3,aC.mono k d cs _ f,g⟩
 | .mp ag ks vk es,⟨b,o,n,e,e2,e3,f,g⟩=>⟨b,o,n,d _ _ e,by rw [j];exact e2,by rw [hb _ e2];exact e3,f,g⟩
 | .rows b sz aD rsz nx es,h=>by
  obtain⟨a,cap,e,e2,e3,f,g⟩:=h;refine⟨a,cap,d _ _ e,e2,e3,f.mono q, ?_⟩;rcases g with g | ⟨af,off,arr,t,q1,p,u,x,y⟩
  .exact .inl g
  .exact .inr ⟨af,off,arr,t,q1,by rw [j];exact p,by rw [hb _ p];exact u,x,y.mono k (hb _ p) q⟩
 | .dead,⟨⟨v,e,e3⟩,e2⟩=>⟨⟨v,d _ _ e,e3⟩,by rw [j];exact e2⟩
def GK(w:World)(ρ:Id->Option Value)(O:Id->Option Nat)(w':World)(ρ':Id->Option Value)(O':Id->Option Nat):Prop:= ∀i,rv i w ρ O w' ρ' O'
theorem GK.refl:GK w ρ O w ρ O:=λ_ _=>⟨rfl,rfl,λ_ _=>rfl⟩
theorem HS.real(hs:HS c w h ρ O){i:Id}(hi:h i≠none):i.real=true:=by
 cases i with
 | g i n=>exact(hi (hs.eO i n)).elim
 | _=>rfl
theorem HS.oU(hs:HS c w h ρ O)(le:Le w ρ O w' ρ' O')
  (hblk:∀i b,h' i=some b->(h i=some b/\O' i=O i/\(∀af,O i=some af->w'.heap[af]? =w.heap[af]?)/\rv i w ρ O w' ρ' O')\/cZ w' (AA c w' O') ρ' O' i b)
  (hnone:∀i,i.real=true->h' i=none->ρ' i=none/\O' i=none) (hnog:∀i n,h' (.g i n)=none)
  (hgd:∀i n,h' i=none->ρ' (.g i n)=none/\O' (.g i n)=none) (hgo:∀i n u,ρ' (.g i n)=some u->u.oneCell'=true/\u.cells= #[u])
  (inj:∀i j b,O' i=some b->O' j=some b->i=j) (lt:∀i b,O' i=some b->b < w'.heap.size):HS c w' h' ρ' O' where
 af i b hb:=by
  rcases hblk i b hb with⟨h1,h2,h3,h4⟩ | h1
  .exact cZ.mono h4 (λb ha=>le.A b ha) le.fb h2 h3 (hs.af i b h1)
  .exact h1
 cG:=hnone
 eO:=hnog
 fY:=hgd
 gone:=hgo
 inj:=inj
 lt:=lt
 own i b hi:=by
  rcases le.own i b hi with⟨j,hj⟩ | h
  .exact hs.own j b hj
  .exact .inr (VU hs.size h)
 size:=VU hs.size le.size
theorem HS.go(hs:HS c w h ρ O)(le:Le w ρ O w' ρ' O')(a:GK w ρ O w' ρ' O')
  (e:∀i b,h' i=some b->(h i=some b/\O' i=O i/\(∀af,O i=some af->w'.heap[af]? =w.heap[af]?))\/cZ w' (AA c w' O') ρ' O' i b)
  (d:∀i,i.real=true->h' i=none->ρ' i=none/\O' i=none) (o:∀i,h' i=none->h i=none) (f:∀i n,h' (.g i n)=none)
  (inj:∀i j b,O' i=some b->O' j=some b->i=j) (lt:∀i b,O' i=some b->b < w'.heap.size):HS c w' h' ρ' O':=
 hs.oU le (λi b hb=>by
  rcases e i b hb with⟨h1,l,m⟩ | h1
  .exact .inl ⟨h1,l,m,a i⟩
  .exact .inr h1) d f (λi n hi=>by
  have:=hs.fY i n (o i hi);rw [(a i n).1,(a i n).2.1];exact this) (λi n u k=>by rw [(a i n).1] at k;exact hs.gone i n u k) inj lt
theorem HS.world(hs:HS c w h ρ O)(le:Le w ρ O w' ρ O)(fZ:∀i af,O i=some af->w'.heap[af]? =w.heap[af]?):HS c w' h ρ O:=
 hs.go le (λi n=>⟨rfl,rfl,λb hb=>fZ _ b hb⟩) (λi _ hb=> .inl ⟨hb,rfl,λaf h=>fZ i af h⟩) hs.cG (λ_ h=>h) hs.eO hs.inj λi b h=>WY (hs.lt i b h) le.size
def aE{α:Type}(f:Id->Option α)(i:Id)(v:Option α):Id->Option α:=λj=>if j=i then v else f j
@[simp] theorem aF {α:Type} (f:Id->Option α) (i:Id) (v:Option α):aE f i v i=v:=by simp [aE]
theorem au{α:Type}(f:Id->Option α){i j:Id}(v:Option α)(h:j≠i):aE f i v j=f j:=by simp [aE,h]
theorem eX(h:Id->Option ab)(i:Id)(b:ab):aK h [(i,b)]=aE h i (some b):=rfl
theorem dA(h:Id->Option ab)(i:Id)(b:ab)(us:aH):aK h ((i,b)::us)=aK (aE h i (some b)) us:=rfl
theorem mD(h:Id->Option ab):∀(us vs:aH),aK h (us++vs)=aK (aK h us) vs
 | [],_=>rfl
 | (i,b)::us,vs=>by simp only [Vc,dA];exact mD _ us vs
theorem aR{i j:Id}{n:Nat}(a:i.real=true):Id.g j n≠i:=by rintro rfl;cases a
theorem Le.alloc(hs:HS c w h ρ O){i:Id}(hr:i.real=true)(hi:h i=none)(o:Obj)(v:Value)(ob:Option Nat)(hob:ob=none\/ob=some w.heap.size):
  Le w ρ O (w.alloc o) (aE ρ i (some v)) (aE O i ob) where
 os:=rfl
 output:=rfl
 tape:=rfl
 size:=by simp
 fb j u hj:=by
  by_cases e:j=i
  .subst e;rw [(hs.cG _ hr hi).1] at hj;cases hj
  .rw [au _ _ e];exact hj
 af b hb _:=VW _ _ _ hb
 own j b hj:=by
  by_cases e:j=i
  .subst e;rw [aF] at hj;rcases hob with rfl | rfl
   .cases hj
   .cases hj;exact .inr (Vs _)
  .rw [au _ _ e] at hj;exact .inl ⟨j,hj⟩
theorem HS.alloc(hs:HS c w h ρ O){i:Id}(l:i.real=true)(hi:h i=none)(o:Obj)(v:Value)(ob:Option Nat)(g:ob=none\/ob=some w.heap.size)(b:ab)
  (hb:cZ (w.alloc o) (AA c (w.alloc o) (aE O i ob)) (aE ρ i (some v)) (aE O i ob) i b):
  HS c (w.alloc o) (aE h i (some b)) (aE ρ i (some v)) (aE O i ob):=by
 refine hs.go (Le.alloc hs l hi o v ob g) (λj n=>⟨au _ _ (aR l),au _ _ (aR l),λb hb=>VW _ _ _ (hs.lt _ b hb)⟩) (λj q a=> ?_) (λj p a=> ?_) (λj a=> ?_) (λj n=>by rw [au _ _ (aR l)];exact hs.eO j n) (λj k d a f=> ?_) (λj d a=> ?_)
 .by_cases e:j=i
  .subst e;rw [aF] at a;cases a;exact .inr hb
  .rw [au _ _ e] at a;exact .inl ⟨a,au _ _ e,λaf m=>VW _ _ _ (hs.lt j af m)⟩
 .by_cases e:j=i
  .subst e;rw [aF] at a;cases a
  .rw [au _ _ e] at a;rw [au _ _ e,au _ _ e];exact hs.cG j p a
 .by_cases e:j=i
  .subst e;rw [aF] at a;cases a
  .rw [au _ _ e] at a;exact a
 .by_cases e:j=i <;> by_cases e':k=i
  .rw [e,e']
  .exfalso;rw [au _ _ e'] at f;subst e;rw [aF] at a;rcases g with rfl | rfl
   .cases a
   .cases a;exact XF _ (hs.lt _ _ f)
  .exfalso;rw [au _ _ e] at a;subst e';rw [aF] at f;rcases g with rfl | rfl
   .cases f
   .cases f;exact XF _ (hs.lt _ _ a)
  .rw [au _ _ e] at a;rw [au _ _ e'] at f;exact hs.inj j k d a f
 .by_cases e:j=i
  .subst e;rw [aF] at a;rcases g with rfl | rfl
   .cases a
   .cases a;simp
  .rw [au _ _ e] at a;have:=hs.lt j d a;simp;omega
theorem Le.release{i:Id}:Le w ρ O w ρ (aE O i none) where
 os:=rfl
 output:=rfl
 tape:=rfl
 size:=Vs _
 fb _ _ h:=h
 af _ _ _:=rfl
 own j b hj:=by
  by_cases e:j=i
  .subst e;rw [aF] at hj;cases hj
  .rw [au _ _ e] at hj;exact .inl ⟨j,hj⟩
theorem HS.release(hs:HS c w h ρ O){i:Id}(l:i.real=true)(b:ab)(hb:cZ w (AA c w (aE O i none)) ρ (aE O i none) i b):HS c w (aE h i (some b)) ρ (aE O i none):=by
 refine hs.go Le.release (λj n=>⟨rfl,au _ _ (aR l),λ_ _=>rfl⟩) (λj m a=> ?_) (λj g a=> ?_) (λj a=> ?_) (λj n=>by rw [au _ _ (aR l)];exact hs.eO j n) (λj k d a f=> ?_) (λj d a=> ?_)
 .by_cases e:j=i
  .subst e;rw [aF] at a;cases a;exact .inr hb
  .rw [au _ _ e] at a;exact .inl ⟨a,au _ _ e,λ_ _=>rfl⟩
 .by_cases e:j=i
  .subst e;rw [aF] at a;cases a
  .rw [au _ _ e] at a⊢;exact hs.cG j g a
 .by_cases e:j=i
  .subst e;rw [aF] at a;cases a
  .rw [au _ _ e] at a;exact a
 .by_cases e:j=i
  .subst e;rw [aF] at a;cases a
  .by_cases e':k=i
   .subst e';rw [aF] at f;cases f
   .rw [au _ _ e] at a;rw [au _ _ e'] at f;exact hs.inj j k d a f
 .by_cases e:j=i
  .subst e;rw [aF] at a;cases a
  .rw [au _ _ e] at a;exact hs.lt j d a
theorem HS.freeze(hs:HS c w h ρ O){i:Id}{sz:Nat}{b:Bool}{l:List (List T)}(hi:h i=some (.sl false sz b l)):
  HS c w (aE h i (some (.sl true sz b l))) ρ (aE O i none):=by
 refine hs.release (hs.real (by rw [hi];simp)) _ ?_;obtain⟨v,f,e2,e3⟩:=hs.af i _ hi;refine⟨v,f, ?_,λ_=>by simp⟩;simp only [if_true];have g:∀b,AA c w O b->AA c w (aE O i none) b/\w.heap[b]? =w.heap[b]?:=λb k=>(Le.release (ρ:=ρ) (i:=i)).A b k;refine cU.mono g (λaf d=> ?_) e2;simp only [VD,if_false] at d;refine⟨⟨.inr (hs.own i af d),hs.lt i af d,λj a=> ?_⟩,rfl⟩;by_cases e:j=i
 .subst e;rw [aF] at a;cases a
 .rw [au _ _ e] at a;exact e (hs.inj j i af a d)
theorem HS.PW(hs:HS c w h ρ O){i:Id}{cs:List AV}{l:List T}(hi:h i=some (.box cs))(o:fp cs=some l):
  HS c w (aE h i (some (.iZ l))) ρ (aE O i none):=by
 refine hs.release (hs.real (by rw [hi];simp)) _ ?_;obtain⟨b,arr,t,d,e2,e3,f,q⟩:=hs.af i _ hi;have k:∀b,AA c w O b->AA c w (aE O i none) b/\w.heap[b]? =w.heap[b]?:=λb n=>(Le.release (ρ:=ρ) (i:=i)).A b n;have hb:AA c w (aE O i none) b:=⟨.inr (hs.own i b e2),hs.lt i b e2,λj a=>by
  by_cases e:j=i
  .subst e;rw [aF] at a;cases a
  .rw [au _ _ e] at a;exact e (hs.inj j i b a e2)⟩
 refine⟨b,d,by simp,hb, ?_⟩;have m:=aT.mh o f;have key:∀(l:List T) (vs:List Value) (off:Nat),aT w (AA c w O) l vs->(∀j v,vs[j]? =some v->w.cell? ⟨b,off+j,none⟩=some v)->aV w (AA c w (aE O i none)) b off l:=by
  intro l;induction l with
  | nil=>intro vs off _ _;simp [aV]
  | cons x l p=>rintro vs off ⟨v,r,rfl,h1,g⟩ hv;simp only [aV];refine⟨⟨v,by simpa using hv 0 v rfl,aA.mono k x v h1⟩,p r (off+1) g λj u a=> ?_⟩;have:=hv (j+1) u (by simpa using a);rw [show off+1+j=off+ (j+1) by omega];exact this
 refine key l _ 0 m λj v a=> ?_;simp only [World.cell?,e3,VM];simpa using a
theorem Le.write{b:Nat}{i:Id}(hi:O i=some b)(hos:w'.os=w.os)(ho:w'.output=w.output)(ht:w'.tape=w.tape)(hsz:w'.heap.size=w.heap.size)(hk:∀k,k≠b->w'.heap[k]? =w.heap[k]?):Le w ρ O w' ρ O where
 os:=hos
 output:=ho
 tape:=ht
 size:=Nat.le_of_eq hsz.symm
 fb _ _ h:=h
 af k _ hn:=hk k λe=>hn i (e▸hi)
 own j b hj:= .inl ⟨j,hj⟩
theorem HS.write(hs:HS c w h ρ O){b:Nat}{i:Id}(hi:O i=some b)(le:Le w ρ O w' ρ O)(m:∀k,k≠b->w'.heap[k]? =w.heap[k]?)(x:ab)
  (p:cZ w' (AA c w' O) ρ O i x) (g:h i≠none):HS c w' (aE h i (some x)) ρ O:=by
 have o:=hs.real g;refine hs.go le (λj n=>⟨rfl,rfl,λd g=>m d λe=>aR o (hs.inj _ i b (e▸g) hi)⟩) (λj q a=> ?_) (λj l a=> ?_) (λj a=> ?_) (λj n=>by rw [au _ _ (aR o)];exact hs.eO j n) hs.inj (λj d a=>WY (hs.lt j d a) le.size)
 .by_cases e:j=i
  .subst e;rw [aF] at a;cases a;exact .inr p
  .rw [au _ _ e] at a;exact .inl ⟨a,rfl,λaf f=>m af λe'=>e (hs.inj j i b (e'▸f) hi)⟩
 .by_cases e:j=i
  .subst e;rw [aF] at a;cases a
  .rw [au _ _ e] at a;exact hs.cG j l a
 .by_cases e:j=i
  .subst e;rw [aF] at a;cases a
  .rw [au _ _ e] at a;exact a
end
def SS(w:World)(A:Nat->Prop)(ρ:Id->Option Value)(s:Nat->Option Gs×AV)(tmps:Array Value):Prop:=
 ∀k,match s k with
  | (none,v)=>ao w A ρ v (tmps.getD k undef)
  | (some g,v)=>(tmps.getD g.d undef= .bool g.want/\g.c=true/\ao w A ρ v (tmps.getD k undef))\/(tmps.getD g.d undef≠ .bool g.want/\g.c=false/\tmps.getD k undef=undef)
section
variable {c:Ctx} {w w':World} {ρ ρ':Id->Option Value} {A A':Nat->Prop} {s:Nat->Option Gs×AV} {tmps:Array Value}
theorem SS.mono(d:∀b,A b->A' b/\w'.heap[b]? =w.heap[b]?)(a:∀i v,ρ i=some v->ρ' i=some v)(hs:SS w A ρ s tmps):SS w' A' ρ' s tmps:=by
 intro k;have:=hs k;revert this;split
 .intro this;exact ao.mono d a _ _ this
 .intro this;rcases this with⟨h1,e,f⟩ | h1
  .exact .inl ⟨h1,e,ao.mono d a _ _ f⟩
  .exact .inr h1
def kQ(tmps:Array Value):Option Gs->Prop
 | none=>True
 | some g=>tmps.getD g.d undef= .bool g.want/\g.c=true
theorem kQ.cond{g:Option Gs}(h:kQ tmps g):g.map (·.c)=none\/g.map (·.c)=some true:=by
 cases g with
 | none=>exact .inl rfl
 | some g=>exact .inr (by simp [h.2])
theorem Sh(v:Value):ao w A ρ (B3 v) v:=by
 have one:∀(u:Value) (x:T),o9 u=some x->aA w A x u:=by
  intro u x e;cases u <;> simp only [o9,U5,reduceCtorEq] at e
  case slice a l g=>split at e <;> simp_all;subst e;simp [aA]
  case pointer a=>split at e <;> simp_all;subst e;simp [aA]
  case map a=>split at e <;> simp_all;subst e;simp [aA]
  all_goals (subst e;simp [aA])
 have all:∀(us:List Value) (l:List T),mf us=some l->aT w A l us:=by
  intro us;induction us with
  | nil=>intro l e;simp only [mf,U5] at e;subst e;rfl
  | cons u us d=>
   intro l e;simp only [mf] at e;cases h1:o9 u with
   | none=>simp [h1] at e
   | some x=>
    cases b:mf us with
    | none=>simp [h1,b] at e
    | some f=>simp only [h1,b,Vf,U5] at e;subst e;exact⟨u,us,rfl,one u x h1,d f b⟩
 unfold B3;split
 .rename_i cs;split
  .rename_i l e;simp only [ao];have:=all cs.toList l e;refine⟨cs.toList,by simp,aC.mj this, ?_⟩;have key:∀(l:List T) (us:List Value),aT w A l us->∀u∈us,u.oneCell'=true/\u.cells= #[u]:=by
    intro l;induction l with
    | nil=>intro us hu;simp only [aT] at hu;subst hu;simp
    | cons x l d=>
     intro us ⟨v,r,e,h1,b⟩ u hu;subst e;rcases Vk.1 hu with rfl | hu
     .exact h1.qE
     .exact d r b u hu
   exact key l _ this
  .simp [ao]
 .split
  .rename_i x e;simp only [ao];exact one _ x e
  .simp [ao]
theorem SS.get{a:Act}{h:Id->Option ab}(hs:SS w A ρ s a.tmps){g:Option Gs}(l:kQ a.tmps g)(x:Operand):ao w A ρ (St.get ⟨s,h⟩ g x) (a.eval x):=by
 cases x with
 | tmp k=>
  simp only [St.get,Act.eval];have:=hs k;split at this
  .rename_i v e;simp only [e,lE,cond_true];exact this
  .rename_i d v e;simp only [e];cases g with
   | none=>simp [lE,ao]
   | some i=>
    by_cases b:lE (some d) (some i)=true
    .simp only [b,cond_true];simp only [lE,Vd,beq_iff_eq] at b;rcases this with⟨_,_,j⟩ | ⟨h1,_⟩
     .exact j
     .exfalso;apply h1;rw [b.1,b.2];exact l.1
    .simp only [Zx] at b;simp [b,ao]
 | const v=>exact Sh v
 | func f=>simp only [St.get,Act.eval,ao];exact⟨[],[],rfl,by simp [aC],by simp [aC]⟩
 | global g=>simp [St.get,ao]
theorem SS.mP{a:Act}{h:Id->Option ab}(hs:SS w A ρ s a.tmps){g:Option Gs}(j:kQ a.tmps g)(cs x:Operand)(want:Bool)(f:a.eval cs= .bool want):
  ao w A ρ (St.mP ⟨s,h⟩ g cs want x) (a.eval x):=by
 unfold St.mP;split
 .rename_i d k;simp only [Act.eval] at f⊢;have:=hs k;split
  .rename_i b v e;simp only [e] at this;by_cases h1:(b.d==d && b.want==want)=true
   .simp only [h1,Zy,cond_true];simp only [Vd,beq_iff_eq] at h1;rcases this with⟨_,_,m⟩ | ⟨l,_⟩
    .exact m
    .exfalso;apply l;rw [h1.1,h1.2];exact f
   .simp only [Zx] at h1;simp only [h1,Wz];have i:=SS.get (h:=h) hs j (.tmp k);simp only [St.get,e,Act.eval] at i;exact i
  .rename_i v e;simp only [e] at this;exact this
 .exact SS.get hs j _
end
end Go.Aev
