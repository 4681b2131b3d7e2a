import Derived.WalkKit
set_option linter.all false
namespace Go.Aev
open Go
abbrev U7:=@Option.some.injEq
abbrev U8:=@Option.bind_eq_some_iff
abbrev U9:=@List.getD_eq_getElem?_getD
abbrev Va:=@List.mem_of_getElem?
abbrev Vb:=@List.mem_cons_self
abbrev Vc:=@List.mem_cons_of_mem
abbrev Vd:=@List.getElem?_eq_getElem
abbrev Ve:=@Bool.and_eq_true
abbrev Vf:=@List.cons_append
abbrev Vg:=@List.nil_append
abbrev Vh:=@Int.mul_le_mul_of_nonneg_left
abbrev Vi:=@List.getElem?_eq_some_iff
abbrev Vj:=@Option.bind_some
abbrev Vk:=@List.mem_singleton
abbrev Vm:=@Result.andThen_ok
abbrev Vn:=@List.mem_append_left
abbrev Vo:=@List.mem_cons
abbrev Vp:=@List.mem_append_right
abbrev Vq:=@Nat.le_refl
abbrev Vr:=@List.mem_append
abbrev Vs:=@Bool.not_true
abbrev Vt:=@List.length_eq_zero_iff
abbrev Vu:=@List.all_eq_true
abbrev Vv:=@Bool.not_false
abbrev Vw:=@Int.mul_comm
abbrev Vx:=@Option.bind_assoc
abbrev Vy:=@List.length_cons
abbrev Vz:=@Sem.run_bind
abbrev VA:=@Int.mul_le_mul_of_nonneg_right
abbrev VD:=@Option.getD_some
abbrev VE:=@Int.toNat_natCast
abbrev VF:=@Bool.false_eq_true
abbrev VG:=@Int.mul_add
abbrev VH:=@Array.length_toList
abbrev VI:=@Array.mem_of_getElem?
abbrev VJ:=@List.append_assoc
abbrev VK:=@List.mem_map
abbrev VL:=@Nat.add_sub_cancel_left
abbrev VM:=@List.mem_or_eq_of_mem_set
abbrev VN:=@Int.natAbs_natCast
abbrev VO:=@Nat.le_trans
abbrev VP:=@Nat.zero_add
abbrev VQ:=@Sem.run_pure
abbrev VR:=@Option.some.inj
abbrev VS:=@List.length_nil
abbrev VT:=@Int.mul_assoc
abbrev VU:=@Int.mul_left_comm
abbrev VW:=@Go.RowKit.Below.heap_alloc
abbrev VX:=@List.replicate_succ
abbrev VY:=@Array.all_eq_true_iff_forall_mem
abbrev VZ:=@List.getElem?_map
abbrev V5:=@Nat.mul_le_mul_right
abbrev V6:=@List.map_cons
abbrev V7:=@Option.getD_none
abbrev V8:=@Rat.zero_mul
abbrev V9:=@List.take_of_length_le
abbrev Wa:=@List.length_set
abbrev Wb:=@List.length_take
abbrev Wc:=@List.getElem?_eq_none
abbrev We:=@List.append_nil
abbrev Wf:=@Int.fdiv_eq_ediv_of_nonneg
abbrev Wg:=@Int.tdiv_eq_ediv_of_nonneg
abbrev Wh:=@Int.mul_nonneg
abbrev Wi:=@Int.natAbs_mul
abbrev Wj:=@Int.emod_lt_of_pos
abbrev Wk:=@Prod.mk.injEq
abbrev Wl:=@Array.getElem?_toList
abbrev Wm:=@Nat.succ_mul
abbrev Wn:=@List.getElem?_append_right
abbrev Wo:=@Int.tmod_eq_emod_of_nonneg
abbrev Wp:=@Int.sign_eq_one_of_pos
abbrev Wq:=@Nat.sub_zero
abbrev Wr:=@Addr.mk.injEq
abbrev Ws:=@List.length_append
abbrev Wu:=@Int.le_of_lt
abbrev Wv:=@Rat.div_def
abbrev Ww:=@Int.one_mul
abbrev Wx:=@Int.mul_ediv_add_emod
abbrev Wy:=@Int.lt_or_le
abbrev Wz:=@Rat.mul_zero
abbrev WA:=@Bool.false_or
abbrev WB:=@List.getElem_of_mem
abbrev WC:=@List.nodup_cons
abbrev WD:=@List.eq_of_mem_replicate
abbrev WE:=@List.getElem?_set
abbrev WG:=@Value.slice.injEq
abbrev WH:=@Int.sign_eq_neg_one_of_neg
abbrev WJ:=@List.getElem?_append_left
abbrev WK:=@Bool.or_eq_true
abbrev WL:=@Int.emod_nonneg
abbrev WM:=@Bool.not_eq_true'
abbrev WN:=@Bool.decide_or
abbrev WO:=@Int.ediv_nonneg
abbrev WQ:=@Rat.le_refl
abbrev WS:=@Bool.true_and
abbrev WT:=@List.getElem_mem
abbrev WU:=@List.head?_cons
abbrev WV:=@List.all_cons
abbrev WW:=@List.replicate_zero
abbrev WX:=@List.size_toArray
abbrev WY:=@Int.eq_ofNat_of_zero_le
abbrev WZ:=@Bool.false_and
abbrev W0:=@Nat.lt_of_lt_of_le
abbrev W1:=@List.mem_of_mem_drop
abbrev W2:=@List.map_append
abbrev W3:=@Bool.decide_and
abbrev W4:=@Int.ediv_lt_iff_lt_mul
abbrev W5:=@List.drop_eq_getElem_cons
abbrev W6:=@List.nodup_append
abbrev W7:=@List.length_replicate
abbrev W8:=@Int.add_zero
abbrev W9:=@List.length_map
abbrev Xa:=@Array.getD_eq_getD_getElem?
abbrev Xb:=@Rat.num_divInt_den
abbrev Xc:=@List.getElem?_replicate
abbrev Xd:=@List.length_drop
abbrev Xe:=@List.mem_of_mem_take
abbrev Xf:=@Nat.lt_succ_self
abbrev Xg:=@Nat.le_of_not_lt
abbrev Xh:=@Int.pow_succ
abbrev Xi:=@List.mem_range
abbrev Xj:=@Int.lt_trichotomy
abbrev Xk:=@Value.pointer.injEq
abbrev Xl:=@List.map_congr_left
abbrev Xm:=@Option.map_some
abbrev Xn:=@List.cons.injEq
abbrev Xo:=@Classical.byContradiction
abbrev Xp:=@Decidable.byContradiction
abbrev Xq:=@Option.isSome_iff_exists
abbrev Xr:=@Nat.lt_or_ge
abbrev Xs:=@Int.add_mul
abbrev Xt:=@Nat.pow_le_pow_right
abbrev Xu:=@List.getElem?_cons_zero
abbrev Xv:=@List.getElem?_cons_succ
abbrev Xw:=@Int.tdiv_eq_ediv_of_dvd
abbrev Xx:=@List.flatten_cons
abbrev Xy:=@Int.mul_lt_mul_of_pos_right
abbrev Xz:=@List.drop_eq_nil_of_le
abbrev XA:=@MapKept.run_getObj_map
abbrev XB:=@Int.mul_zero
abbrev XC:=@Nat.not_lt
abbrev XD:=@Nat.mod_eq_of_lt
abbrev XE:=@List.take_length
abbrev XF:=@List.getElem_range
abbrev XG:=@Array.getElem?_eq_getElem
abbrev XH:=@List.pairwise_iff_getElem
abbrev XI:=@Nat.add_mul
abbrev XJ:=@Array.ext'
abbrev XK:=@Int.natCast_mul
abbrev XL:=@List.ext_getElem?
abbrev XM:=@List.take_add_one
abbrev XN:=@Nat.lt_irrefl
abbrev XO:=@List.length_pos_iff
abbrev XP:=@Nat.le_add_right
abbrev XQ:=@Rat.mul_nonneg
abbrev XR:=@List.getElem_map
abbrev XS:=@Option.map_eq_some_iff
abbrev XT:=@List.getElem?_take
abbrev XU:=@List.getElem?_drop
abbrev XV:=@List.map_map
abbrev XW:=@Nat.sub_self
abbrev XX:=@Classical.choose_spec
abbrev XY:=@List.getElem?_toArray
abbrev XZ:=@Nat.add_assoc
abbrev X0:=@List.length_range
abbrev X1:=@List.extract_eq_take_drop
abbrev X2:=@Option.isNone_iff_eq_none
abbrev X3:=@BitVec.ofInt_natCast
abbrev X4:=@Int.pow_add
abbrev X5:=@List.take_zero
abbrev X6:=@List.range'_succ
abbrev X7:=@Nat.add_zero
abbrev X8:=@List.map_set
abbrev X9:=@List.map_nil
abbrev Ya:=@List.replicate_append_replicate
abbrev Yb:=@Bool.and_true
abbrev Yc:=@List.set_cons_succ
abbrev Yd:=@Array.any_eq_true'
abbrev Ye:=@BitVec.toNat_ofNat
abbrev Yf:=@Rat.mul_inv_cancel
abbrev Yg:=@MapKept.run_setObj_map
abbrev Yh:=@Int.le_refl
abbrev Yi:=@Int.mul_one
abbrev Yj:=@Prod.ext
abbrev Yk:=@Nat.zero_le
abbrev Yl:=@List.take_append_of_le_length
abbrev Ym:=@List.mem_iff_getElem?
abbrev Yn:=@List.tail_cons
abbrev Yo:=@List.drop_zero
abbrev Yp:=@List.take_append_drop
abbrev Yq:=@Int.ediv_lt_of_lt_mul
abbrev Yr:=@Int.pow_zero
abbrev Ys:=@Rat.add_zero
abbrev Yt:=@Rat.le_of_lt
abbrev Yu:=@Array.toList_extract
abbrev Yv:=@List.range_eq_range'
abbrev Yw:=@Nat.mod_lt
abbrev Yx:=@List.replicate_succ'
abbrev Yy:=@Int.ediv_emod_unique
abbrev Yz:=@List.getElem?_set_ne
abbrev YA:=@Option.ne_none_iff_exists'
abbrev YB:=@Array.getElem?_eq_some_iff
abbrev YC:=@Int.lt_of_mul_lt_mul_right
abbrev YD:=@Nat.mul_one
abbrev YE:=@List.take_succ_cons
abbrev YF:=@List.getElem?_range
abbrev YG:=@Int.neg_ediv_of_dvd
abbrev YH:=@Option.map_none
abbrev YI:=@Int.sign_eq_zero_iff_zero
abbrev YJ:=@List.mem_filterMap
abbrev YK:=@Nat.gcd_comm
abbrev YL:=@Nat.mul_le_mul
abbrev YM:=@List.nodup_nil
abbrev YN:=@Bool.and_false
abbrev YO:=@Rat.num_nonneg
abbrev YP:=@Array.size_append
abbrev YQ:=@Rat.divInt_eq_div
abbrev YR:=@Int.neg_mul
abbrev YS:=@Int.ediv_eq_zero_of_lt
abbrev YT:=@Int.sub_mul
abbrev YU:=@Nat.mul_add
abbrev YV:=@List.isEmpty_iff
abbrev YW:=@List.not_mem_nil
abbrev YX:=@Int.ediv_le_self
abbrev YY:=@Array.getElem?_setIfInBounds_ne
abbrev YZ:=@Bool.or_eq_false_iff
abbrev Za:=@Nat.add_comm
abbrev Zb:=@Int.zero_add
abbrev Zc:=@Int.ediv_mul_le
abbrev Zd:=@Int.natAbs_tdiv
abbrev Ze:=@Nat.div_le_self
abbrev Zf:=@Rat.num_eq_zero
abbrev Zg:=@Rat.not_lt
abbrev Zh:=@Rat.zero_add
abbrev Zi:=@Rat.mul_comm
abbrev Zj:=@List.range_succ
abbrev Zk:=@Rat.mul_le_mul_of_nonneg_left
abbrev Zl:=@List.drop_drop
abbrev Zm:=@Iff.rfl
abbrev Zn:=@Ne.symm
abbrev Zo:=@Int.natAbs_neg
abbrev Zp:=@Rat.one_mul
abbrev Zq:=@List.set_cons_zero
abbrev Zr:=@List.prefix_append
abbrev Zs:=@Option.isNone_none
abbrev Zt:=@Option.isSome_none
abbrev Zu:=@Option.isSome_some
abbrev Zv:=@Int.sub_eq_add_neg
abbrev Zw:=@Nat.two_pow_add_eq_or_of_lt
abbrev Zx:=@Rat.sub_eq_add_neg
abbrev Zy:=@Nat.one_le_two_pow
abbrev Zz:=@List.drop_nil
abbrev ZA:=@List.take_nil
abbrev ZB:=@Nat.mul_add_mod_self_right
abbrev ZC:=@Int.emod_eq_of_lt
abbrev ZD:=@Int.mul_neg_of_pos_of_neg
abbrev ZE:=@Bool.not_eq_true
abbrev ZF:=@Bool.true_or
abbrev ZG:=@List.all_nil
abbrev ZH:=@List.idxOf_lt_length_iff
abbrev ZI:=@Nat.not_le_of_lt
abbrev ZJ:=@Array.toList_map
abbrev ZK:=@Int.neg_nonneg_of_nonpos
abbrev ZL:=@Int.mul_ediv_cancel_left
abbrev ZM:=@List.ext_getElem
abbrev ZN:=@Eq.trans
abbrev ZO:=@Nat.min_eq_left
abbrev ZP:=@Rat.intCast_mul
abbrev ZQ:=@Rat.mul_eq_zero
abbrev ZR:=@Int.mul_sub
abbrev ZS:=@Rat.mul_one
abbrev ZT:=@List.mapM_cons
abbrev ZU:=@List.drop_left
inductive T where
 | int (k:IntKind) (n:Int)
 | bool (b:Bool)
 | str (s:ByteArray)
 | aa (sz:Nat) (isNil:Bool) (xs:List (List T))
 | aK (isNil:Bool)
 | ptr (cs:List T)
 | aw
 | zJ
 | zI
 | Dr
 | any
 deriving Inhabited
inductive Id where
 | c (n:Nat)
 | s (d:Nat) (j:Nat)
 | g (i:Id) (n:Nat)
 deriving DecidableEq,Inhabited
def Id.real:Id->Bool
 | .g _ _=>false
 | _=>true
inductive AV where
 | top
 | t (x:T)
 | mD (vs:List AV)
 | agg (vs:List AV)
 | ref (i:Id) (off:Nat)
 | el (i:Id) (sz k off:Nat)
 | own (i:Id)
 | part (i:Id) (sz off len:Nat)
 | row (i:Id) (n:Nat)
 | rel (i:Id) (sz n k off:Nat)
 | fn (f:FuncId) (fst caps:List AV)
 deriving Inhabited
inductive Ck where
 | i (k:IntKind)
 | b
 | s
 | l (sz:Nat)
 | x
 deriving Inhabited,DecidableEq
structure Row where
 n:Nat
 cs:List T
 own:Option (Bool×List (List T))
 deriving Inhabited
inductive ab where
 | box (cs:List AV)
 | sl (fz:Bool) (sz:Nat) (isNil:Bool) (xs:List (List T))
 | iW (cs:List T)
 | arr (cs:List AV)
 | mp (ag:Bool) (ks:List Ck) (vk:Ck) (es:List (List T×T))
 | rows (b:Bool) (sz aD rsz nx:Nat) (es:List Row)
 | dead
 deriving Inhabited
def T.int?(k:IntKind):T->Option Int
 | .int a n=>if a=k then some n else none
 | _=>none
def T.bool?:T->Option Bool
 | .bool b=>some b
 | _=>none
def T.bC:T->Option ByteArray
 | .str s=>some s
 | _=>none
def T.qY:T->Option (List T)
 | .ptr cs=>some cs
 | _=>none
def T.aQ(sz:Nat):T->Option (Bool×List (List T))
 | .aa a b xs=>if a=sz then some (b,xs) else none
 | .aK b=>some (b,[])
 | _=>none
def dL:T->Value
 | .int k n=> .int k n
 | .bool b=> .bool b
 | .str s=> .string s
 | _=> .nilIface
def dr(ag:Bool)(cs:List T):Value:=cond ag (.agg (cs.map dL).toArray) ((cs.map dL).headD .nilIface)
def ef:Ck->T->Bool
 | .i k, .int a _=>decide (a=k)
 | .b, .bool _=>true
 | .s, .str _=>true
 | _,_=>false
def b9:List Ck->List T->Bool
 | [],[]=>true
 | k::ks,x::xs=>ef k x && b9 ks xs
 | _,_=>false
def nG:T->T->Bool
 | .int _ a, .int _ b=>a==b
 | .bool a, .bool b=>a==b
 | .str a, .str b=>a==b
 | _,_=>false
def eE:List T->List T->Bool
 | [],[]=>true
 | x::xs,y::a=>nG x y && eE xs a
 | _,_=>false
def fB(key:List T):List (List T×T)->Option T
 | []=>none
 | (k,v)::r=>cond (eE key k) (some v) (fB key r)
def hI(key:List T)(v:T):List (List T×T)->List (List T×T)
 | []=> [(key,v)]
 | (k,u)::r=>cond (eE key k) ((key,v)::r) ((k,u)::hI key v r)
def T.qG:T->Option Unit
 | .int _ _=>some ()
 | .bool _=>some ()
 | .str _=>some ()
 | _=>none
def gd{α:Type}[Inhabited α](c:Option Bool)(m:Option α):Option α:=
 match m with
 | some a=>some a
 | none=>match c with
  | none=>none
  | some b=>cond b none (some default)
def ae{α R:Type}[Inhabited α](c:Option Bool)(m:Option α)(k:α->Option R):Option R:=
 match m with
 | some a=>k a
 | none=>match c with
  | none=>none
  | some b=>cond b none (k default)
def pN{R:Type}(c:Option Bool):Nat->List T->(List T->Option R)->Option R
 | 0,_,K=>K []
 | n+1,cs,K=>ae c cs.head? λx=>pN c n cs.tail λl=>K (x::l)
def pn:Value->Option T
 | .int k i=>some (.int k i)
 | .bool b=>some (.bool b)
 | .string s=>some (.str s)
 | .slice none 0 0=>some (.aK true)
 | .pointer none=>some .aw
 | .map none=>some .zJ
 | .nilFunc=>some .zI
 | .nilIface=>some .Dr
 | _=>none
def mh:List Value->Option (List T)
 | []=>some []
 | v::r=>(pn v).bind λx=>(mh r).bind λl=>some (x::l)
def bp(P:Program)(t:TypeId):Bool:=
 match P.underlying t with
 | some (.struct _) | some (.array _ _)=>true
 | _=>false
def sS(P:Program)(t:TypeId):Option IntKind:=
 match P.underlying t with
 | some (.int k)=>some k
 | _=>none
def bV(P:Program)(t:TypeId):Bool:=(P.underlying t).isSome
def u4(P:Program)(t:TypeId)(f:Nat):Option (Nat×TypeId):=
 match P.underlying t with
 | some (.struct a)=>match a[f]? with
  | some x=>cond (bV P x.type) (some (x.offset,x.type)) none
  | none=>none
 | _=>none
def nD(P:Program)(t:TypeId):Option TypeId:=
 match P.underlying t with
 | some (.slice e)=>cond (bV P e) (some e) none
 | _=>none
def yg(P:Program)(t:TypeId):Option (Nat×TypeId):=
 match P.underlying t with
 | some (.array n e)=>cond (bV P e) (some (n,e)) none
 | _=>none
def qX(P:Program)(t:TypeId):Bool:=
 match P.underlying t with
 | some (.struct a)=>a.toList.all λf=>bV P f.type
 | some (.array _ e)=>bV P e
 | _=>false
def CV(P:Program)(t:TypeId):Bool:=
 match P.underlying t with
 | some .string=>true
 | _=>false
def jU(P:Program)(t:TypeId):Option (List T):=
 match P.info? t with
 | some i=>match i.zero with
  | some v=>mh v.cells.toList
  | none=>none
 | none=>none
structure Gs where
 d:Nat
 want:Bool
 c:Bool
structure St where
 t:Nat->Option Gs×AV
 h:Id->Option ab
abbrev aH:=List (Id×ab)
def aL(h:Id->Option ab):aH->Id->Option ab
 | []=>h
 | (i,b)::us=>aL (λj=>if j=i then some b else h j) us
def mQ(d:Nat):Option Gs×AV->Option Gs×AV
 | (some g,v)=>cond (g.d==d) (none, .top) (some g,v)
 | (none,v)=>(none,v)
def St.put(s:St)(a:Bool)(d:Option Nat)(g:Option Gs)(v:AV)(us:aH):St:=
 {t :=match d with
    | some d=>λk=>if k=d then(g,v) else cond a (mQ d (s.t k)) (s.t k)
    | none=>s.t
  h:=aL s.h us}
def BP(v:Value):AV:=
 match v with
 | .agg cs=>match mh cs.toList with
  | some l=> .agg (l.map .t)
  | none=> .top
 | v=>match pn v with
  | some x=> .t x
  | none=> .top
def lD:Option Gs->Option Gs->Bool
 | none,_=>true
 | some a,some b=>a.d==b.d && a.want==b.want
 | some _,none=>false
def St.td(s:St)(g:Gs):St:={s with t:=λk=>cond (lD (s.t k).1 (some g)) (none,(s.t k).2) (s.t k)}
def St.get(s:St)(g:Option Gs):Operand->AV
 | .tmp k=>match s.t k with
  | (a,v)=>cond (lD a g) v .top
 | .const v=>BP v
 | .func f=> .fn f [] []
 | .global _=> .top
def St.mS(s:St)(g:Option Gs)(cs:Operand)(want:Bool)(o:Operand):AV:=
 match cs,o with
 | .tmp d, .tmp k=>match s.t k with
  | (some a,v)=>cond ((a.d==d && a.want==want) || lD (some a) g) v .top
  | (none,v)=>v
 | _,o=>s.get g o
def AV.t?:AV->Option T
 | .t x=>some x
 | _=>none
def ff:List AV->Option (List T)
 | []=>some []
 | .t x::r=>(ff r).bind λl=>some (x::l)
 | _::_=>none
def dK(h:Id->Option ab):AV->Option T
 | .t x=>some x
 | .own i=>match h i with
  | some (.sl _ sz b xs)=>some (.aa sz b xs)
  | _=>none
 | .part i sz off len=>match h i with
  | some (.sl _ a b xs)=>if a=sz then some (.aa sz b ((xs.drop off).take len)) else none
  | _=>none
 | .ref i off=>match h i with
  | some (.box cs)=>(ff cs).bind λl=>some (.ptr (l.drop off))
  | some (.iW l)=>some (.ptr (l.drop off))
  | _=>none
 | _=>none
def lI(h:Id->Option ab):List AV->Option (List T)
 | []=>some []
 | v::r=>(dK h v).bind λx=>(lI h r).bind λl=>some (x::l)
def Ep(h:Id->Option ab):AV->Option T
 | .own i=>match h i with
  | some (.sl _ sz b xs)=>some (.aa sz b xs)
  | some (.rows ..)=>some .any
  | some (.mp ..)=>some .any
  | _=>none
 | v=>dK h v
def wF(h:Id->Option ab):List AV->Option (List T)
 | []=>some []
 | v::r=>(Ep h v).bind λx=>(wF h r).bind λl=>some (x::l)
def lH(h:Id->Option ab):AV->Option (List T)
 | .agg vs=>lI h vs
 | v=>(dK h v).bind λx=>some [x]
def ik(h:Id->Option ab):AV->aH
 | .own i=>match h i with
  | some (.sl false sz b xs)=> [(i, .sl true sz b xs)]
  | _=> []
 | .part i _ _ _=>match h i with
  | some (.sl false sz b xs)=> [(i, .sl true sz b xs)]
  | _=> []
 | .ref i _=>match h i with
  | some (.box cs)=>match ff cs with
   | some l=> [(i, .iW l)]
   | none=> []
  | _=> []
 | _=> []
def nI(h:Id->Option ab):List AV->aH
 | []=> []
 | v::r=>ik h v++nI h r
def gY(h:Id->Option ab):AV->aH
 | .agg vs=>nI h vs
 | v=>ik h v
def r8{R:Type}(op:BinOp)(k:IntKind)(c:Option Bool)(x y:T)(K:T->Option R):Option R:=
 ae c (x.int? k) λa=>ae c (y.int? k) λb=>
  match op with
  | .add=>K (.int k (k.wrap (a+b)))
  | .sub=>K (.int k (k.wrap (a - b)))
  | .mul=>K (.int k (k.wrap (a * b)))
  | .quo=>ae c (if b=0 then none else some ()) λ_=>K (.int k (k.wrap (a.tdiv b)))
  | .rem=>ae c (if b=0 then none else some ()) λ_=>K (.int k (a.tmod b))
  | .and=>K (.int k (k.wrap (BitVec.ofInt k.bits a &&& BitVec.ofInt k.bits b).toNat))
  | .or=>K (.int k (k.wrap (BitVec.ofInt k.bits a ||| BitVec.ofInt k.bits b).toNat))
  | .xor=>K (.int k (k.wrap (BitVec.ofInt k.bits a ^^^ BitVec.ofInt k.bits b).toNat))
  | .andNot=>K (.int k (k.wrap (BitVec.ofInt k.bits a &&& ~~~(BitVec.ofInt k.bits b)).toNat))
  | .lss=>K (.bool (decide (a < b)))
  | .leq=>K (.bool (decide (a<=b)))
  | .gtr=>K (.bool (decide (a > b)))
  | .geq=>K (.bool (decide (a>=b)))
  | _=>none
def tC{R:Type}(op:BinOp)(k ky:IntKind)(c:Option Bool)(x y:T)(K:T->Option R):Option R:=
 ae c (x.int? k) λa=>ae c (y.int? ky) λb=>
  ae c (if b < 0 then none else some ()) λ_=>
  match op with
  | .shl=>K (.int k (k.wrap (a * 2 ^ (min b.toNat k.bits))))
  | .shr=>K (.int k (a.fdiv (2 ^ (min b.toNat k.bits))))
  | _=>none
def tF{R:Type}(op:BinOp)(c:Option Bool)(x y:T)(K:T->Option R):Option R:=
 ae c x.bC λa=>ae c y.bC λb=>
  match op with
  | .add=>ae c (if a.size+b.size<=4294967296 then some () else none) λ_=>K (.str (a++b))
  | .lss=>K (.bool (Op.bytesLess a.toList b.toList))
  | .leq=>K (.bool (Op.bytesLess a.toList b.toList || a.toList==b.toList))
  | .gtr=>K (.bool (!(Op.bytesLess a.toList b.toList || a.toList==b.toList)))
  | .geq=>K (.bool (!(Op.bytesLess a.toList b.toList)))
  | _=>none
def sP(P:Program)(go:TypeId->Option (List TypeId)):List Field->Nat->Option (List TypeId)
 | [],_=>some []
 | f ::r,off=>if f.offset=off/\f.name≠ "_" then
     (go f.type).bind λl=>if P.cellsOf f.type=l.length/\0 < l.length then(sP P go r (off+l.length)).bind λq=>some (l++q) else none
  else none
def fM(P:Program):Nat->TypeId->Option (List TypeId)
 | 0,_=>none
 | n+1,t=>match P.underlying t with
  | some (.int _) | some .bool | some .string=>some [t]
  | some (.struct a)=>if P.stoodInHeld t then none else sP P (fM P n) a.toList 0
  | some (.array m e)=>(fM P n e).bind λl=>if P.cellsOf e=l.length then some (List.replicate m l).flatten else none
  | _=>none
def jP(P:Program)(s:St)(t:TypeId)(x:AV):Option Bool:=
 match P.underlying t with
 | some (.slice _)=>match x with
  | .t (.aa _ b _)=>some b
  | .t (.aK b)=>some b
  | .own i=>match s.h i with
   | some (.sl _ _ b _)=>some b
   | _=>none
  | _=>none
 | some (.pointer _)=>match x with
  | .t (.ptr _)=>some false
  | .t .aw=>some true
  | .ref _ _=>some false
  | .el _ _ _ _=>some false
  | _=>none
 | some (.func ..)=>match x with
  | .t .zI=>some true
  | .fn _ _ _=>some false
  | _=>none
 | some (.map ..)=>match x with
  | .t .zJ=>some true
  | _=>none
 | _=>none
def pk(P:Program)(t:TypeId)(o:Operand):Bool:=
 match P.underlying t,o with
 | some (.slice _), .const (.slice none 0 0)=>true
 | some (.pointer _), .const (.pointer none)=>true
 | some (.func ..), .const .nilFunc=>true
 | some (.map ..), .const (.map none)=>true
 | _,_=>false
def lZ{R:Type}(P:Program)(c:Option Bool)(t:TypeId)(x y:T)(K:Bool->Option R):Option R:=
 match P.underlying t with
 | some (.int k)=>ae c (x.int? k) λa=>ae c (y.int? k) λb=>K (a==b)
 | some .bool=>ae c x.bool? λa=>ae c y.bool? λb=>K (a==b)
 | some .string=>ae c x.bC λa=>ae c y.bC λb=>K (a==b)
 | _=>none
def eN{R:Type}(P:Program)(c:Option Bool):List TypeId->List T->List T->(Bool->Option R)->Option R
 | [],[],[],K=>K true
 | t::ts,x::xs,y::a,K=>lZ P c t x y λb=>eN P c ts xs a λr=>K (b && r)
 | _,_,_,_=>none
def r9{R:Type}(P:Program)(op:BinOp)(t ty:TypeId)(c:Option Bool)(x y:T)(K:T->Option R):Option R:=
 match op with
 | .shl | .shr=>match sS P t,sS P ty with
  | some k,some ky=>tC op k ky c x y K
  | _,_=>none
 | .eql | .neq=>none
 | op=>match P.underlying t with
  | some (.int k)=>r8 op k c x y K
  | some .string=>tF op c x y K
  | _=>none
def qD{R:Type}(P:Program)(c:Option Bool)(t:TypeId)(x y:AV)(K:Bool->Option R):Option R:=
 match x,y with
 | .t x, .t y=>cond (CV P t) (ae c x.bC λa=>ae c y.bC λb=>K (a.toList==b.toList)) (lZ P c t x y K)
 | .agg xs, .agg d=>cond (P.eqGuardType P.depth t || !bp P t) none <| (ff xs).bind λxs=>(ff d).bind λd=>(fM P 8 t).bind λts=>eN P c ts xs d K
 | _,_=>none
def tQ{R:Type}(P:Program)(op:UnOp)(t:TypeId)(c:Option Bool)(x:T)(K:T->Option R):Option R:=
 match op,P.underlying t with
 | .neg,some (.int k)=>ae c (x.int? k) λa=>K (.int k (k.wrap (0 - a)))
 | .xor,some (.int k)=>ae c (x.int? k) λa=>
   K (.int k (k.wrap (BitVec.ofInt k.bits (if k.signed then -1 else k.max) ^^^ BitVec.ofInt k.bits a).toNat))
 | .not,some .bool=>ae c x.bool? λa=>K (.bool (!a))
 | _,_=>none
open Go
def ft{R:Type}(k:Ck)(c:Option Bool)(x:T)(K:T->Option R):Option R:=
 match k with
 | .i k=>ae c (x.int? k) λn=>K (.int k n)
 | .b=>ae c x.bool? λb=>K (.bool b)
 | .s=>ae c x.bC λs=>K (.str s)
 | .l sz=>ae c (x.aQ sz) λp=>K (.aa sz p.1 p.2)
 | .x=>K x
def fc{R:Type}(c:Option Bool):List Ck->List T->(List T->Option R)->Option R
 | [],xs,K=>K xs
 | _::_,[],K=>K []
 | k::ks,x::xs,K=>ft k c x λy=>fc c ks xs λa=>K (y::a)
def lW(P:Program)(t:TypeId):Ck:=
 match P.underlying t with
 | some (.int k)=> .i k
 | some .bool=> .b
 | some .string=> .s
 | some (.slice e)=> .l (P.cellsOf e)
 | _=> .x
def yn(P:Program):Nat->TypeId->List Ck
 | 0,_=> []
 | n+1,t=>match P.underlying t with
  | some (.struct a)=>a.toList.flatMap λf=>yn P n f.type
  | some (.array m e)=>(List.replicate m (yn P n e)).flatten
  | _=> [lW P t]
def uE(P:Program)(t:TypeId):List Ck:=
 if(yn P 8 t).length=P.cellsOf t then yn P 8 t else List.replicate (P.cellsOf t) .x
inductive bX where
 | f (k:Ck)
 | t (k:Ck)
 | own (sz:Nat)
 | ref (k off:Nat)
 | same (k:Nat)
 | rows (sz aD rsz:Nat)
 | mp (ag:Bool) (ks:List Ck) (vk:Ck)
 | new (l:List bX)
 | no
 | agg (l:List bX)
 deriving Inhabited
inductive jV where
 | box (l:List bX)
 | sl (sz:Nat)
 | mp (ag:Bool) (ks:List Ck) (vk:Ck)
 | dead
 deriving Inhabited
structure E3 where
 res:List bX
 outs:List jV
 deriving Inhabited
structure cM where
 live:FuncId->Nat->Option (List (Nat×Option Nat))
 join:FuncId->Nat->Option (List (Nat×Option Nat))
 sig:FuncId->Option E3
 iP:FuncId->Option (List Bool):=λ_=>none
 deep:FuncId->Bool:=λ_=>false
 BG:FuncId->Nat->E3:=λ_ _=>⟨[],[]⟩
 app:Option Nat->Bool:=λ_=>false
 wr:FuncId->Bool:=λ_=>false
 st:Option Nat->Bool:=λ_=>false
 sx:Option Nat->Bool:=λ_=>false
 ld:Option Nat->Bool:=λ_=>false
 nS:Option Nat->TypeId->Nat:=λ_ _=>0
 ext:FuncId->List AV->List ab->Option (List T):=λ_ _ _=>none
inductive Key where
 | call (f:FuncId)
 | node (f:FuncId) (todo:List Item) (live:List (Nat×Option Nat)) (m:Nat×Nat)
abbrev au:=Key->List AV->List ab->Option (List T)
def dY:Nat:=4294967296
mutual
def AV.ids:AV->List Id
 | .top=> []
 | .t _=> []
 | .mD vs=>b8 vs
 | .agg vs=>b8 vs
 | .ref i _=> [i]
 | .el i _ _ _=> [i]
 | .own i=> [i]
 | .part i _ _ _=> [i]
 | .row i _=> [i]
 | .rel i _ _ _ _=> [i]
 | .fn _ a b=>b8 a++b8 b
def b8:List AV->List Id
 | []=> []
 | v::r=>v.ids++b8 r
end
mutual
def AV.rn(m:List Id):AV->AV
 | .top=> .top
 | .t x=> .t x
 | .mD vs=> .mD (kG m vs)
 | .agg vs=> .agg (kG m vs)
 | .ref i o=> .ref (.c (m.idxOf i)) o
 | .el i sz k o=> .el (.c (m.idxOf i)) sz k o
 | .own i=> .own (.c (m.idxOf i))
 | .part i sz o n=> .part (.c (m.idxOf i)) sz o n
 | .row i n=> .row (.c (m.idxOf i)) n
 | .rel i sz n k o=> .rel (.c (m.idxOf i)) sz n k o
 | .fn f a b=> .fn f (kG m a) (kG m b)
def kG(m:List Id):List AV->List AV
 | []=> []
 | v::r=>v.rn m::kG m r
end
def ir(m:List Id):Option ab->ab
 | some (.box cs)=> .box (kG m cs)
 | some (.arr cs)=> .arr (kG m cs)
 | some b=>b
 | none=> .dead
def fm(h:Id->Option ab):Nat->List Id->List Id->Option (List Id)
 | 0,_,_=>none
 | _+1,[],seen=>some seen
 | n+1,i::todo,seen=>
  cond (seen.contains i) (fm h n todo seen)
   (match h i with
    | some (.box cs)=>fm h n (todo++b8 cs) (seen++ [i])
    | some (.arr cs)=>fm h n (todo++b8 cs) (seen++ [i])
    | some _=>fm h n todo (seen++ [i])
    | none=>none)
def oo:Nat->List AV->Option (List AV)
 | 0,_=>some []
 | _+1,[]=>none
 | n+1,c::r=>(oo n r).bind λl=>some (c::l)
def cd{α:Type}(off:Nat)(new a:List α):List α:=a.take off++new++a.drop (off+new.length)
def bA(n:Nat):List Row->Option (Bool×List (List T))
 | []=>none
 | e::r=>if e.n=n then e.own else bA n r
def dJ(n:Nat)(p:Option (Bool×List (List T))):List Row->List Row
 | []=> []
 | e::r=>if e.n=n then{e with own:=p}::r else e::dJ n p r
def my{R:Type}(h:Id->Option ab)(c:Option Bool)(i:Id)(n:Nat)(K:Nat->Bool->List (List T)->Option R):Option R:=
 match h i with
 | some (.rows _ _ _ rsz _ es)=>ae c (bA n es) λp=>K rsz p.1 p.2
 | _=>none
def lh{R:Type}(P:Program)(t:TypeId)(c:Option Bool)(cs:List T)(K:AV->Option R):Option R:=
 cond (bp P t) (pN c (P.cellsOf t) cs λl=>fc c (uE P t) l λl=>K (.agg (l.map .t))) (ae c cs.head? λx=>ft (lW P t) c x λx=>K (.t x))
def nM{R:Type}(P:Program)(t:TypeId)(cs:List AV)(K:AV->Option R):Option R:=
 cond (bp P t) ((oo (P.cellsOf t) cs).bind λl=>K (.agg l)) (cs.head?.bind K)
def sU{R:Type}(P:Program)(t:TypeId)(c:Option Bool)(i:Id)(sz aD off:Nat)(e:Row)(K:AV->Option R):Option R:=
 cond (bp P t)
  (if off=0/\P.cellsOf t=sz then pN c sz e.cs λl=>fc c ((uE P t).set aD .x) l λl=>K (.agg ((l.map .t).set aD (.row i e.n))) else none)
  (if off=aD then K (.row i e.n) else ae c (e.cs.drop off).head? λx=>ft (lW P t) c x λx=>K (.t x))
def kA{R:Type}(P:Program)(s:St)(c:Option Bool)(t:TypeId)(a:AV)(K:AV->Option R):Option R:=
 cond (bV P t) (match a with
 | .ref i off=>match s.h i with
  | some (.box cs)=>nM P t (cs.drop off) K
  | some (.iW l)=>lh P t c (l.drop off) K
  | _=>none
 | .el i sz k off=>match s.h i with
  | some (.sl _ b _ xs)=>if b=sz then ae c xs[k]? λcs=>lh P t c (cs.drop off) K else none
  | some (.rows _ b aD _ _ es)=>if b=sz then ae c es[k]? λe=>sU P t c i sz aD off e K else none
  | _=>none
 | .rel i sz n k off=>my s.h c i n λrsz _ xs=>if rsz=sz then ae c xs[k]? λcs=>lh P t c (cs.drop off) K else none
 | .t x=>ae c x.qY λcs=>lh P t c cs K
 | _=>none) none
def ic(v:AV):List AV:=
 match v with
 | .agg vs=>vs
 | v=> [v]
def qn:AV->Bool
 | .agg _ | .mD _ | .top=>false
 | _=>true
def bo(k off:Nat)(l:List T)(xs:List (List T)):Option (List (List T)):=
 match xs[k]? with
 | some cs=>if off+l.length<=cs.length then some (xs.set k (cd off l cs)) else none
 | none=>none
def jz{R:Type}(P:Program)(s:St)(t:TypeId)(a v:AV)(K:aH->Option R):Option R:=
 cond (bV P t) (match a with
 | .ref i off=>match s.h i with
  | some (.box cs)=>
   if(ic v).length=P.cellsOf t/\(ic v).all qn/\off+ (ic v).length<=cs.length then K [(i, .box (cd off (ic v) cs))] else none
  | _=>none
 | .el i sz k off=>match s.h i with
  | some (.sl false d b xs)=>(lH s.h v).bind λl=>
    if d=sz/\l.length=P.cellsOf t/\v.ids.contains i=false then
     ae none (bo k off l xs) λg=>K ((i, .sl false sz b g)::gY s.h v) else none
  | some (.rows b d aD rsz nx es)=>match v with
   | .own j=>match s.h j with
    | some (.sl false f m xs)=>
     if d=sz/\off=aD/\f=rsz/\P.cellsOf t=1/\bp P t=false then
      ae none es[k]? λe=>K [(j, .dead),(i, .rows b sz aD rsz (nx+1) (es.set k ⟨nx,e.cs,some (m,xs)⟩))] else none
    | _=>none
   | _=>none
  | _=>none
 | .rel i sz n k off=>match s.h i with
  | some (.rows b d aD rsz nx es)=>ae none (bA n es) λp=>(lH s.h v).bind λl=>
    if rsz=sz/\l.length=P.cellsOf t/\v.ids.contains i=false then
     ae none (bo k off l p.2) λg=>K ((i, .rows b d aD rsz nx (dJ n (some (p.1,g)) es))::gY s.h v) else none
  | _=>none
 | _=>none) none
def vA:List (Nat×List AV)->List AV->Option (List AV)
 | [],z=>some z
 | (off,l)::r,z=>if off+l.length<=z.length then vA r (cd off l z) else none
def vQ(P:Program)(t:TypeId)(f:Nat):Option (Nat×TypeId):=
 match u4 P t f with
 | some p=>some p
 | none=>match yg P t with
  | some (_,u)=>some (f * P.cellsOf u,u)
  | none=>none
def py(P:Program)(t:TypeId)(ev:Operand->AV):List (Nat×Operand)->Option (List (Nat×List AV))
 | []=>some []
 | (f,o)::r=>(vQ P t f).bind λp=>
   if(ic (ev o)).length=P.cellsOf p.2/\(ic (ev o)).all qn then(py P t ev r).bind λq=>some ((p.1,ic (ev o))::q) else none
def yk(P:Program)(t:TypeId)(ev:Operand->AV)(a:List (Nat×Operand)):Option AV:=
 if qX P t then
 (jU P t).bind λz=>(py P t ev a).bind λl=>(vA l (z.map .t)).bind λcs=>some (.agg cs)
 else none
def iU(P:Program)(h:Id->Option ab)(e:TypeId)(ev:Operand->AV):Nat->List (Nat×Operand)->Option (List (List T)×aH)
 | _,[]=>some ([],[])
 | n,(k,o)::r=>(lH h (ev o)).bind λl=>if k=n/\l.length=P.cellsOf e then
    (iU P h e ev (n+1) r).bind λq=>some (l::q.1,gY h (ev o)++q.2)
  else none
def kx{R:Type}(c:Option Bool)(i:Int)(n:Nat)(K:Option R):Option R:=ae c (if 0<=i/\i < n then some () else none) λ_=>K
def jO{R:Type}(P:Program)(s:St)(c:Option Bool)(t:TypeId)(x:AV)(i:Int)(K:AV->Option R):Option R:=
 match nD P t with
 | some e=>match x with
  | .own j=>match s.h j with
   | some (.sl _ sz _ xs)=>if sz=P.cellsOf e then kx c i xs.length (K (.el j sz i.toNat 0)) else none
   | some (.rows _ sz _ _ _ es)=>if sz=P.cellsOf e then kx c i es.length (K (.el j sz i.toNat 0)) else none
   | _=>none
  | .row j n=>my s.h c j n λrsz _ xs=>if rsz=P.cellsOf e then kx c i xs.length (K (.rel j rsz n i.toNat 0)) else none
  | .part j sz off n=>match s.h j with
   | some (.sl _ a _ _)=>if sz=P.cellsOf e/\a=sz then kx c i n (K (.el j sz (off+i.toNat) 0)) else none
   | _=>none
  | .t y=>ae c (y.aQ (P.cellsOf e)) λp=>kx c i p.2.length (ae c p.2[i.toNat]? λcs=>K (.t (.ptr cs)))
  | _=>none
 | none=>match yg P t with
  | some (n,e)=>kx c i n (match x with
   | .ref j off=>K (.ref j (off+i.toNat * P.cellsOf e))
   | .el j sz k off=>K (.el j sz k (off+i.toNat * P.cellsOf e))
   | .t y=>ae c y.qY λcs=>K (.t (.ptr (cs.drop (i.toNat * P.cellsOf e))))
   | _=>none)
  | none=>none
def sL{R:Type}(P:Program)(c:Option Bool)(t:TypeId)(x:AV)(f:Nat)(K:AV->Option R):Option R:=
 match u4 P t f with
 | some (off,u)=>if P.cellsOf u=0 then none else
  match x with
  | .ref j o=>K (.ref j (o+off))
  | .el j sz k o=>K (.el j sz k (o+off))
  | .rel j sz n k o=>K (.rel j sz n k (o+off))
  | .t y=>ae c y.qY λcs=>K (.t (.ptr (cs.drop off)))
  | _=>none
 | none=>none
def sK{R:Type}(P:Program)(t:TypeId)(x:AV)(f:Nat)(K:AV->Option R):Option R:=
 match u4 P t f with
 | some (off,u)=>match x with
  | .agg vs=>nM P u (vs.drop off) K
  | _=>none
 | none=>none
def nL{R:Type}(P:Program)(s:St)(c:Option Bool)(t:TypeId)(x:AV)(K:AV->Option R):Option R:=
 match P.underlying t with
 | some .string=>match x with
  | .t y=>ae c y.bC λb=>K (.t (.int .i64 b.size))
  | _=>none
 | some (.array n _)=>K (.t (.int .i64 n))
 | some (.slice e)=>match x with
  | .own j=>match s.h j with
   | some (.sl _ _ _ xs)=>K (.t (.int .i64 xs.length))
   | some (.rows _ _ _ _ _ es)=>K (.t (.int .i64 es.length))
   | _=>none
  | .row j n=>my s.h c j n λ_ _ xs=>K (.t (.int .i64 xs.length))
  | .part _ _ _ n=>K (.t (.int .i64 n))
  | .t y=>ae c (y.aQ (P.cellsOf e)) λp=>K (.t (.int .i64 p.2.length))
  | _=>none
 | _=>none
def jg{R:Type}(s:St)(c:Option Bool)(g:Option Gs)(o:Option Operand)(K:Option Int->Option R):Option R:=
 match o with
 | none=>K none
 | some o=>(s.get g o).t?.bind λx=>ae c (anyInt x) λn=>K (some n)
where
 anyInt:T->Option Int
  | .int _ n=>some n
  | _=>none
def bQ(a hi n:Int):Option Unit:=if 0<=a/\a<=hi/\hi<=n then some () else none
def sub(a hi:Int)(xs:List (List T)):List (List T):=(xs.drop a.toNat).take (hi.toNat - a.toNat)
def AG(a hi m:Int):Option Unit:=if a=0/\hi=0/\m=0 then some () else none
def zr:T->Bool
 | .aK true=>true
 | .aa _ true []=>true
 | _=>false
def oc{R:Type}(P:Program)(s:St)(c:Option Bool)(t:TypeId)(x:AV)(a hi d:Option Int)(K:AV->Option R):Option R:=
 match P.underlying t with
 | some .string=>match x,d with
  | .t y,none=>ae c y.bC λb=>
    ae c (bQ (a.getD 0) (hi.getD b.size) b.size) λ_=>K (.t (.str (b.extract (a.getD 0).toNat (hi.getD b.size).toNat)))
  | _,_=>none
 | some (.slice e)=>match d with
  | none=>match x with
   | .own j=>match s.h j with
    | some (.sl _ sz _ xs)=>if sz=P.cellsOf e/\bV P e=true then
      ae c (bQ (a.getD 0) (hi.getD xs.length) xs.length) λ_=>
      K (.part j sz (a.getD 0).toNat ((hi.getD xs.length).toNat - (a.getD 0).toNat)) else none
    | _=>none
   | .part j sz off n=>match s.h j with
    | some (.sl _ f _ _)=>if sz=P.cellsOf e/\f=sz/\bV P e=true then
      ae c (bQ (a.getD 0) (hi.getD n) n) λ_=>
      K (.part j sz (off+ (a.getD 0).toNat) ((hi.getD n).toNat - (a.getD 0).toNat)) else none
    | _=>none
   | .t y=>if bV P e=true then ae c (y.aQ (P.cellsOf e)) λp=>
     ae c (bQ (a.getD 0) (hi.getD p.2.length) p.2.length) λ_=>
     K (.t (.aa (P.cellsOf e) p.1 (sub (a.getD 0) (hi.getD p.2.length) p.2))) else none
   | _=>none
  | some m=>match x with
   | .t y=>if bV P e=true then ae c (y.aQ (P.cellsOf e)) λp=>ae c (AG (a.getD 0) (hi.getD 1) m) λ_=>K (.t (.aK p.1)) else none
   | .own j=>match s.h j with
    | some (.sl _ _ b _)=>if bV P e=false then none else ae c (AG (a.getD 0) (hi.getD 1) m) λ_=>K (.t (.aK b))
    | _=>none
   | _=>none
 | _=>none
def br(n m:Int):Option Unit:=if 0<=n/\n<=m/\m<=dY then some () else none
def mK{R:Type}(P:Program)(s:St)(t:TypeId)(sz:Nat)(a:List T)(y:AV)(K:List (List T)->Option R):Option R:=
 match P.underlying t with
 | some (.slice _)=>(dK s.h y).bind λx=>ae none (x.aQ sz) λp=>K p.2
 | some .string=>if sz=1 then y.t?.bind λx=>ae none x.bC λb=>K (b.data.toList.map λu=> [.int .u8 u.toNat]) else none
 | some (.int _)=>y.t?.bind λx=>ae none (x.int? .i64) λn=>ae none (br n n) λ_=>K (List.replicate n.toNat a)
 | _=>none
def o4(bs n:Nat):Prop:=n<=dY\/(0 < bs/\n * bs<=140737488355328)
instance (bs n:Nat):Decidable (o4 bs n):=inferInstanceAs (Decidable (_\/_))
def bu(bs n:Nat):Option Unit:=if o4 bs n then some () else none
def JF:T->Option Bool
 | .aK b=>some b
 | .aa _ b xs=>cond (b && xs.isEmpty) (some true) none
 | _=>none
def D5(h:Id->Option ab):AV->Option (Id×Nat×Nat×Nat×Nat×List Row)
 | .own i=>match h i with
  | some (.rows _ sz aD rsz nx es)=>some (i,sz,aD,rsz,nx,es)
  | _=>none
 | _=>none
def Dy(h:Id->Option ab):AV->Option (Id×List AV)
 | .own j=>match h j with
  | some (.arr cs)=>some (j,cs)
  | _=>none
 | _=>none
def qf{R:Type}(P:Program)(s:St)(d:Nat)(e:TypeId)(i:Id)(sz aD rsz nx:Nat)(es:List Row)(j:Id)(cs:List AV)(K:AV->aH->Option R):Option R:=
 if sz=P.cellsOf e/\cs.length=sz/\aD < sz/\i≠j then
  (ff (cs.set aD (.t .aw))).bind λl=>match cs[aD]? with
   | some (.own m)=>match s.h m with
    | some (.sl false k r xs)=>if k=rsz then
      ae none (bu (P.bytesOf e) (es.length+1)) λ_=>
      K (.own (.s d 0)) [(i, .dead),(j, .dead),(m, .dead),(.s d 0, .rows false sz aD rsz (nx+1) (es++ [⟨nx,l,some (r,xs)⟩]))] else none
    | _=>none
   | some (.row a n)=>match s.h a with
    | some (.rows u q g b o f)=>if b=rsz/\a≠i then
      ae none (bA n f) λp=>ae none (bu (P.bytesOf e) (es.length+1)) λ_=>
      K (.own (.s d 0)) [(i, .dead),(j, .dead),(a, .rows u q g b o (dJ n none f)),(.s d 0, .rows false sz aD rsz (nx+1) (es++ [⟨nx,l,some p⟩]))] else none
    | _=>none
   | _=>none
 else none
def kT{R:Type}(P:Program)(s:St)(d:Nat)(rw:Bool)(t ty:TypeId)(x y:AV)(K:AV->aH->Option R):Option R:=
 (nD P t).bind λe=>(jU P e).bind λk=>
 if P.bytesOf e<=8192/\k.length=P.cellsOf e then
 match cond rw (D5 s.h x) none,cond rw (Dy s.h y) none with
 | some (i,sz,aD,rsz,nx,es),some (j,cs)=>match P.underlying ty with
  | some (.slice _)=>qf P s d e i sz aD rsz nx es j cs K
  | _=>none
 | _,_=>
 mK P s ty (P.cellsOf e) k y λa=>
 match x with
 | .own i=>match s.h i with
  | some (.sl false f b xs)=>if f=P.cellsOf e then
    ae none (bu (P.bytesOf e) (xs.length+a.length)) λ_=>
    K (.own (.s d 0)) [(.s d 0, .sl false (P.cellsOf e) (b && a.isEmpty) (xs++a)),(i, .dead)] else none
  | _=>none
 | .part i g off n=>match s.h i with
  | some (.sl false f b xs)=>if f=P.cellsOf e/\g=P.cellsOf e then
    ae none (bu (P.bytesOf e) (n+a.length)) λ_=>
    K (.own (.s d 0)) [(.s d 0, .sl false (P.cellsOf e) (b && a.isEmpty) ((xs.drop off).take n++a)),(i, .dead)] else none
  | _=>none
 | .t z=>(JF z).bind λb=>ae none (bu (P.bytesOf e) a.length) λ_=>
    K (.own (.s d 0)) [(.s d 0, .sl false (P.cellsOf e) (b && a.isEmpty) a)]
 | _=>none
 else none
def qS(n:Nat):List Row:=(List.range n).map λk=>⟨k,[.aw],some (true,[])⟩
def sV{R:Type}(P:Program)(d:Nat)(t:TypeId)(nS:Nat)(n m:T)(K:AV->aH->Option R):Option R:=
 (nD P t).bind λe=>(jU P e).bind λa=>
 ae none (n.int? .i64) λn=>ae none (m.int? .i64) λm=>
 if P.bytesOf e<=8192/\a.length=P.cellsOf e then
 ae none (br n m) λ_=>
  cond (nS==2) (match P.underlying e,a with
   | some (.slice u),[.aK true]=>if P.cellsOf e=1 then K (.own (.s d 0)) [(.s d 0, .rows false 1 0 (P.cellsOf u) n.toNat (qS n.toNat))] else none
   | _,_=>none)
   (K (.own (.s d 0)) [(.s d 0, .sl false (P.cellsOf e) false (List.replicate n.toNat a))])
 else none
def mm(d:Bool)(a b:Int):Int:=cond d (if b > a then b else a) (if b < a then b else a)
def pe{R:Type}(k:IntKind)(c:Option Bool)(d:Bool):Int->List T->(T->Option R)->Option R
 | a,[],K=>K (.int k a)
 | a,y::r,K=>ae c (y.int? k) λb=>pe k c d (mm d a b) r K
def su{R:Type}(P:Program)(c:Option Bool)(src a:TypeId)(x:T)(K:T->Option R):Option R:=
 match P.underlying src,P.underlying a with
 | some (.int k),some (.int d)=>ae c (x.int? k) λn=>K (.int d (d.wrap n))
 | some .string,some .string=>ae c x.bC λb=>K (.str b)
 | _,_=>none
def bytesOf:List (List T)->Option (List UInt8)
 | []=>some []
 | cs::r=>cs.head?.bind λx=>(x.int? .u8).bind λn=>(bytesOf r).bind λl=>some (UInt8.ofNat n.toNat::l)
def m5:Ck->Bool
 | .i _ | .b | .s=>true
 | _=>false
def sX(P:Program)(t:TypeId):Option (TypeId×TypeId):=
 match P.underlying t with
 | some (.map k e)=>cond (bV P k && bV P e) (some (k,e)) none
 | _=>none
def EL(P:Program)(t:TypeId):Option T:=
 match P.info? t with
 | some i=>match i.zero with
  | some v=>pn v
  | none=>none
 | none=>none
def lf(P:Program)(k:TypeId):Option (Bool×List Ck):=
 match P.underlying k with
 | some (.int i)=>some (false,[.i i])
 | some .string=>some (false,[.s])
 | some (.array n e)=>match P.underlying e with
  | some (.int i)=>if P.cellsOf e=1/\n<=8 then some (true,List.replicate n (.i i)) else none
  | _=>none
 | _=>none
def pb{R:Type}(P:Program)(k:TypeId)(c:Option Bool)(v:AV)(K:Bool->List Ck->List T->Option R):Option R:=
 (lf P k).bind λq=>match q.1,v with
  | false, .t x=>fc c q.2 [x] λcs=>K false q.2 cs
  | true, .agg vs=>(ff vs).bind λl=>if l.length=q.2.length then fc c q.2 l λcs=>K true q.2 cs else none
  | _,_=>none
def nN{R:Type}(P:Program)(s:St)(c:Option Bool)(t:TypeId)(x key:AV)(ok:Bool)(K:AV->Option R):Option R:=
 (sX P t).bind λq=>(EL P q.2).bind λz=>pb P q.1 c key λag ks cs=>match x with
  | .own i=>match s.h i with
   | some (.mp a b vk es)=>if a=ag/\b=ks/\lW P q.2=vk/\m5 vk=true/\bp P q.2=false then
     ft vk c ((fB cs es).getD z) λv=>K (cond ok (.mD [.t v, .t (.bool (fB cs es).isSome)]) (.t v)) else none
   | _=>none
  | _=>none
def sW{R:Type}(P:Program)(d:Nat)(t:TypeId)(K:AV->aH->Option R):Option R:=
 (sX P t).bind λq=>(lf P q.1).bind λp=>if m5 (lW P q.2)=true then K (.own (.s d 0)) [(.s d 0, .mp p.1 p.2 (lW P q.2) [])] else none
def nW{R:Type}(P:Program)(s:St)(t:TypeId)(x key v:AV)(K:aH->Option R):Option R:=
 (sX P t).bind λq=>pb P q.1 none key λag ks cs=>match x with
  | .own i=>match s.h i with
   | some (.mp a b vk es)=>if a=ag/\b=ks/\lW P q.2=vk/\m5 vk=true then
     v.t?.bind λv=>ft vk none v λv=>K [(i, .mp ag ks vk (hI cs v es))] else none
   | _=>none
  | _=>none
def jn(key:List T):List (List T×T)->List (List T×T)
 | []=> []
 | p::r=>cond (eE key p.1) r (p::jn key r)
def nA{R:Type}(P:Program)(s:St)(t:TypeId)(x key:AV)(K:aH->Option R):Option R:=
 (sX P t).bind λq=>pb P q.1 none key λag ks cs=>match x with
  | .own i=>match s.h i with
   | some (.mp a b vk es)=>if a=ag/\b=ks then K [(i, .mp ag ks vk (jn cs es))] else none
   | _=>none
  | _=>none
def jY(fl a:Bool)(h:Id->Option ab):AV->Option (T×aH)
 | .ref i off=>cond fl (match h i with
  | some (.box cs)=>(cond a (wF h (cs.drop off)) (ff (cs.drop off))).bind λl=>some (.ptr l,[])
  | some (.iW l)=>some (.ptr (l.drop off),[])
  | _=>none) ((dK h (.ref i off)).bind λx=>some (x,ik h (.ref i off)))
 | v=>(dK h v).bind λx=>some (x,cond fl [] (ik h v))
def mL(fl a:Bool)(h:Id->Option ab):List AV->Option (List T×aH)
 | []=>some ([],[])
 | v::r=>(jY fl a h v).bind λp=>(mL fl a h r).bind λq=>some (p.1::q.1,p.2++q.2)
def lS(fl d:Bool)(h:Id->Option ab):AV->Option (AV×aH)
 | .fn f a b=>(mL fl d h a).bind λx=>(mL fl d h b).bind λy=>some (.fn f (x.1.map .t) (y.1.map .t),x.2++y.2)
 | .agg vs=>(mL fl d h vs).bind λx=>some (.agg (x.1.map .t),x.2)
 | v=>(jY fl d h v).bind λp=>some (.t p.1,p.2)
def lT(fl a:Bool)(h:Id->Option ab):List AV->Option (List AV×aH)
 | []=>some ([],[])
 | v::r=>(lS fl a h v).bind λp=>(lT fl a h r).bind λq=>some (p.1::q.1,p.2++q.2)
def zd(P:Program):Nat->TypeId->Bool
 | 0,_=>false
 | n+1,t=>match P.underlying t with
  | some (.int _) | some .bool | some .string=>true
  | some (.struct a)=>a.toList.all λf=>zd P n f.type
  | some (.array _ e)=>zd P n e
  | _=>false
def pG(e:Row):T:=match e.own with
 | some p=> .aa 0 p.1 p.2
 | none=> .aw
def bO(b:Bool)(es:List Row):T:= .aa 2 b (es.map λe=> [.ptr e.cs,pG e])
def sw:Nat->List (List T)->Option (List Row)
 | _,[]=>some []
 | n,[.ptr cs, .aa _ b xs]::r=>(sw (n+1) r).bind λl=>some (⟨n,cs,some (b,xs)⟩::l)
 | _,_=>none
def kV:T->Option (Bool×List Row)
 | .aa _ b xs=>(sw 0 xs).bind λl=>some (b,l)
 | _=>none
def bP(es:List Row):Bool:=es.all λe=>e.own.isSome
def II:bX->Bool
 | .rows _ _ _=>true
 | _=>false
def bT(es:List (List T×T)):T:= .aa 2 false (es.map λp=> [.ptr p.1,p.2])
def BS:List (List T)->Option (List (List T×T))
 | []=>some []
 | [.ptr k,v]::r=>(BS r).bind λl=>some ((k,v)::l)
 | _=>none
def iS:T->Option (List (List T×T))
 | .aa _ _ xs=>BS xs
 | _=>none
def mP{R:Type}(ids:List Id)(d:Nat)(c:Option Bool)(j:Nat)(r:bX)(x:T)(K:AV->aH->Nat->Option R):Option R:=
 match r with
 | .f k=>ft k c x λx=>K (.t x) [] j
 | .t k=>ft k c x λx=>K (.t x) [] j
 | .own sz=>match c with
  | none=>ae none (x.aQ sz) λp=>K (.own (.s d j)) [(.s d j, .sl false sz p.1 p.2)] (j+1)
  | some _=>none
 | .ref k off=>match ids[k]? with
  | some i=>K (.ref i off) [] j
  | none=>none
 | .same k=>match ids[k]? with
  | some i=>K (.own i) [] j
  | none=>none
 | .rows sz aD rsz=>match c with
  | none=>ae none (kV x) λp=>K (.own (.s d j)) [(.s d j, .rows p.1 sz aD rsz p.2.length p.2)] (j+1)
  | some _=>none
 | .mp ag ks vk=>match c with
  | none=>ae none (iS x) λes=>K (.own (.s d j)) [(.s d j, .mp ag ks vk es)] (j+1)
  | some _=>none
 | .no=>K .top [] j
 | .agg _=>none
 | .new _=>none
def kj{R:Type}(ids:List Id)(d:Nat)(c:Option Bool):Nat->List bX->List T->(List AV->aH->Nat->Option R)->Option R
 | j,[],_,K=>K [] [] j
 | j,r::a,xs,K=>ae c xs.head? λx=>mP ids d c j r x λv u j=>kj ids d c j a xs.tail λvs us j=>K (v::vs) (u++us) j
def bX.size:bX->Nat
 | .agg l=>l.length
 | .new l=>l.length
 | _=>1
def eC{R:Type}(ids:List Id)(d:Nat)(c:Option Bool):Nat->List bX->List T->(List AV->aH->Nat->Option R)->Option R
 | j,[],_,K=>K [] [] j
 | j,r::a,xs,K=>match r with
  | .agg l=>kj ids d c j l xs λv u j=>eC ids d c j a (xs.drop l.length) λvs us j=>K (AV.agg v::vs) (u++us) j
  | .new l=>match c with
   | none=>kj ids d c j l xs λv u j=>eC ids d c (j+1) a (xs.drop l.length) λvs us b=>K (AV.ref (.s d j) 0::vs) (u++ [(.s d j, .box v)] ++us) b
   | some _=>none
  | r=>ae c xs.head? λx=>mP ids d c j r x λv u j=>eC ids d c j a xs.tail λvs us j=>K (v::vs) (u++us) j
def m6:List bX->Nat
 | []=>0
 | r::a=>r.size+m6 a
def gz{R:Type}(all:List Id)(d:Nat):Nat->List Id->List jV->List T->(aH->Option R)->Option R
 | j,i::a, .box l::r,xs,K=>kj all d none j l xs λv u j=>gz all d j a r (xs.drop l.length) λq=>K (u++ (i, .box v)::q)
 | j,i::a, .sl sz::r,xs,K=>ae none (xs.head?.bind (T.aQ sz)) λp=>gz all d j a r xs.tail λq=>K ((i, .sl false sz p.1 p.2)::q)
 | j,i::a, .mp ag ks vk::r,xs,K=>ae none (xs.head?.bind iS) λes=>gz all d j a r xs.tail λq=>K ((i, .mp ag ks vk es)::q)
 | j,_::a, .dead::r,xs,K=>gz all d j a r xs K
 | _,[],[],_,K=>K []
 | _,_,_,_,_=>none
def mw:List AV->AV
 | [v]=>v
 | vs=> .mD vs
def Nf(P:Program)(t:TypeId):bX:=cond (bp P t) (.agg ((uE P t).map λk=>cond (zd P 8 t) (.f k) (.t k))) (cond (zd P 8 t) (.f (lW P t)) (.t (lW P t)))
def sN:bX->Bool
 | .f _=>true
 | .agg l=>l.all λr=>match r with
  | .f _=>true
  | _=>false
 | _=>false
def dC(P:Program)(A:cM)(f:FuncId)(n:Nat)(fn:Func):List bX:=
 match A.iP f with
 | some _=>(A.BG f n).res
 | none=>match A.sig f with
  | some sg=>sg.res
  | none=>fn.resultTypes.toList.map (Nf P)
def iq(A:cM)(f:FuncId)(n:Nat):List jV:=
 match A.iP f with
 | some _=>(A.BG f n).outs
 | none=> []
def RS:AV->Bool
 | .own _=>true
 | .part _ _ _ _=>true
 | _=>false
def iA:Option ab->Nat
 | some (.box cs)=>cs.length+1000 * (cs.filter RS).length
 | _=>0
def bG(c:Option Bool)(m:Option (List T)):Option (List T):=
 match c with
 | none=>m
 | some b=>cond b m (some [])
def nh{R:Type}(P:Program)(c:Option Bool)(t:TypeId)(v:AV)(K:AV->Option R):Option R:=
 match v with
 | .t x=>ft (lW P t) c x λy=>K (.t y)
 | .agg vs=>match ff vs with
  | some l=>fc c (uE P t) l λl=>K (.agg (l.map .t))
  | none=>K (.agg vs)
 | v=>K v
def jB{R:Type}(P:Program)(c:Option Bool):List TypeId->List AV->(List AV->Option R)->Option R
 | [],vs,K=>K vs
 | _::_,[],K=>K []
 | t::ts,v::vs,K=>nh P c t v λu=>jB P c ts vs λus=>K (u::us)
def BI:List Bool->List AV->List Id
 | b::fl,v::vs=>cond b v.ids [] ++BI fl vs
 | _,_=> []
def uH(h:Id->Option ab)(fS:List Id)(b:Bool)(v:AV):Option (AV×aH):=
 cond (b || (!v.ids.isEmpty && v.ids.all fS.contains)) (some (v,[])) (lS false false h v)
def mM(h:Id->Option ab)(fS:List Id):List Bool->List AV->Option (List AV×aH)
 | _,[]=>some ([],[])
 | fl,v::r=>(uH h fS (fl.headD false) v).bind λp=>(mM h fS fl.tail r).bind λq=>some (p.1::q.1,p.2++q.2)
def Se(sz aD rsz:Nat):Nat:=100000+1000 * sz+100 * aD+rsz
def tw(h:Id->Option ab)(new i:Id)(k sz aD rsz:Nat):Option aH:=
 match h i with
 | some (.box cs)=>match cs[k]? with
  | some (.own _)=>some []
  | some (.t (.aK b))=>cond (h new).isNone (some [(new, .rows b sz aD rsz 0 []),(i, .box (cs.set k (.own new)))]) none
  | some (.t (.aa _ true []))=>cond (h new).isNone (some [(new, .rows true sz aD rsz 0 []),(i, .box (cs.set k (.own new)))]) none
  | _=>none
 | _=>none
def px(h:Id->Option ab)(new i:Id)(k sz:Nat):Option aH:=
 cond (Nat.ble 100000 sz) (tw h new i k (sz % 100000 / 1000) (sz % 1000 / 100) (sz % 100)) <|
 match h i with
 | some (.box cs)=>match cs[k]? with
  | some (.own _)=>some []
  | some (.t (.aK b))=>cond (h new).isNone (some [(new, .sl false sz b []),(i, .box (cs.set k (.own new)))]) none
  | some (.t (.aa _ true []))=>cond (h new).isNone (some [(new, .sl false sz true []),(i, .box (cs.set k (.own new)))]) none
  | some (.part j d 0 n)=>match h j with
   | some (.sl false a b xs)=>if a=sz/\d=sz/\j≠i then cond (h new).isNone (some [(j, .dead),(new, .sl false sz b (xs.take n)),(i, .box (cs.set k (.own new)))]) none else none
   | _=>none
  | _=>none
 | _=>none
def kD(a:Nat):Nat->(Id->Option ab)->List (Id×Nat×Nat)->Option aH
 | _,_,[]=>some []
 | j,h,(i,k,sz)::r=>(px h (.s a j) i k sz).bind λus=>(kD a (j+1) (aL h us) r).bind λvs=>some (us++vs)
def qq:List Id->List Id->List Id
 | [],_=> []
 | i::r,seen=>cond (seen.contains i) (qq r seen) (i::qq r (i::seen))
def nZ(i:Id):Nat->List bX->List (Id×Nat×Nat)
 | _,[]=> []
 | k, .own sz::r=>(i,k,sz)::nZ i (k+1) r
 | k, .rows sz aD rsz::r=>(i,k,Se sz aD rsz)::nZ i (k+1) r
 | k,_::r=>nZ i (k+1) r
def n6:List Id->List jV->List (Id×Nat×Nat)
 | i::a, .box l::r=>nZ i 0 l++n6 a r
 | _::a,_::r=>n6 a r
 | _,_=> []
def kg(l:List Id):aH:=l.map λi=>(i, .dead)
def zL(d:Nat)(l:List Id):Bool:=l.all λi=>match i with
 | .s a _=> !(a==d)
 | .c _=>true
 | .g _ _=>false
def gV{R:Type}(P:Program)(A:cM)(O:au)(s:St)(d:Nat)(c:Option Bool)(f:FuncId)(args:List AV)(K:AV->aH->Option R):Option R:=
 match P.funcs[f]? with
 | none=>none
 | some fn=>
  match A.iP f with
  | none=>(lT ((dC P A f 0 fn).all sN) (A.deep f) s.h args).bind λp=>
   jB P c fn.params.toList p.1 λq=>ae none (bG c (O (.call f) q [])) λxs=>eC [] d c 0 (dC P A f 0 fn) xs λvs u _=>K (mw vs) (p.2++u)
  | some fl=>match c with
   | some _=>none
   | none=>(mM s.h (BI fl args) fl args).bind λp=>
    (kD (2000000+d) 0 (aL s.h p.2) (n6 (qq (b8 p.1) []) (iq A f (iA ((b8 p.1).head?.bind (aL s.h p.2)))))).bind λus=>
    (fm (aL (aL s.h p.2) us) 1000 (b8 p.1) []).bind λseen=>
    cond (zL d seen && Nat.beq (iA (seen.map λi=>ir seen (aL (aL s.h p.2) us i)).head?) (iA ((b8 p.1).head?.bind (aL s.h p.2)))) (jB P none fn.params.toList (kG seen p.1) λq=>
     ae none (O (.call f) q (seen.map λi=>ir seen (aL (aL s.h p.2) us i))) λxs=>
     eC seen d none 0 (dC P A f (iA ((b8 p.1).head?.bind (aL s.h p.2))) fn) xs λvs u j=>
     gz seen d j seen (iq A f (iA ((b8 p.1).head?.bind (aL s.h p.2)))) (xs.drop (m6 (dC P A f (iA ((b8 p.1).head?.bind (aL s.h p.2))) fn))) λq=>
     K (mw vs) (p.2++us++kg seen++u++q)) none
def n7:List AV->Option (List AV×Id×Nat×List AV)
 | []=>none
 | .row i n::r=>some ([],i,n,r)
 | v::r=>(n7 r).bind λq=>some (v::q.1,q.2.1,q.2.2.1,q.2.2.2)
def mf(n:Nat):List Row->Option Unit
 | []=>none
 | e::r=>if e.n=n then(match e.own with | none=>some () | some _=>none) else mf n r
def uI{R:Type}(h:Id->Option ab)(i new:Id)(n rsz:Nat)(K:aH->Option R):Option R:=
 match h i,h new with
 | some (.rows b sz aD d nx es),some (.sl false a e xs)=>if d=rsz/\a=rsz then
   ae none (mf n es) λ_=>K [(i, .rows b sz aD rsz nx (dJ n (some (e,xs)) es)),(new, .dead)] else none
 | _,_=>none
def IU:Operand->Bool
 | .func _=>false
 | _=>true
def jJ{R:Type}(iE:Bool)(P:Program)(A:cM)(O:au)(s:St)(d:Nat)(c:Option Bool)(f:FuncId)(args:List AV)(K:AV->aH->Option R):Option R:=
 match cond iE (n7 args) none with
 | none=>gV P A O s d c f args K
 | some (e,i,n,g)=>match c,s.h i with
  | none,some (.rows b sz aD rsz nx es)=>ae none (bA n es) λp=>
    cond (s.h (.s (2500000+d) 0)).isNone
     (gV P A O {t:=s.t,h:=aL s.h [(i, .rows b sz aD rsz nx (dJ n none es)),(.s (2500000+d) 0, .sl false rsz p.1 p.2)]} d none f (e++ .own (.s (2500000+d) 0)::g) λv us=>
      uI (aL s.h ([(i, .rows b sz aD rsz nx (dJ n none es)),(.s (2500000+d) 0, .sl false rsz p.1 p.2)] ++us)) i (.s (2500000+d) 0) n rsz λa=>
       K v ([(i, .rows b sz aD rsz nx (dJ n none es)),(.s (2500000+d) 0, .sl false rsz p.1 p.2)] ++us++a)) none
  | _,_=>none
theorem MV{R:Type}(P:Program)(A:cM)(O:au)(s:St)(d:Nat)(c:Option Bool)(f:FuncId)(args:List AV)(K:AV->aH->Option R):jJ false P A O s d c f args K=gV P A O s d c f args K:=rfl
def zj(c:Option Bool)(b:Bool):Option Bool:=some (match c with
 | none=>b
 | some a=>a && b)
def pa{R:Type}(c:Option Bool)(v:AV)(K:Int->Option R):Option R:=
 v.t?.bind λx=>ae c (jg.anyInt x) K
def jI{R:Type}(P:Program)(A:cM)(O:au)(g:Option Gs)(o:Oper)(s:St)(K:AV->aH->Option R):Option R:=
 let ev:=s.get g;let c:=g.map (·.c);let d:=o.dst.getD 0
 match o.op with
 | .move x | .assign x=>K (ev x) []
 | .pick k a b=>(ev k).t?.bind λI=>ae c I.bool? λkb=>
   (s.mS g k true a).t?.bind λx=>ae (zj c kb) x.bool? λJ=>
   (s.mS g k false b).t?.bind λy=>ae (zj c (!kb)) y.bool? λL=>K (AV.t (.bool (cond kb J L))) []
 | .alloc t=>match c with
  | some _=>none
  | none=>(jU P t).bind λl=>K (.ref (.s d 0) 0) [(.s d 0, .box (l.map .t))]
 | .box _ x=>match c with
  | some _=>none
  | none=>if(ic (ev x)).all qn then K (.ref (.s d 0) 0) [(.s d 0, .box (ic (ev x)))] else none
 | .build t B=>(yk P t ev B.toList).bind λv=>K v []
 | .buildSlice t n B=>(nD P t).bind λe=>if A.nS o.dst o.type=1 then
   (match c,B.toList,n with
   | none,[(0,x)],1=>if((ic (ev x)).length=P.cellsOf e/\(ic (ev x)).all qn=true)/\P.cellsOf e<=1000/\0 < P.cellsOf e/\(jU P e).isSome=true then K (.own (.s d 0)) [(.s d 0, .arr (ic (ev x)))] else none
   | _,_,_=>none)
   else if B.size=n/\n<=1000/\P.cellsOf e<=1000/\0 < P.cellsOf e/\(jU P e).isSome=true then
   if n=0/\A.app o.dst=true then K (.t (.aK false)) [] else
   (iU P s.h e ev 0 B.toList).bind λq=>
   match c with
   | some _=>K (.t (.aa (P.cellsOf e) false q.1)) q.2
   | none=>K (.own (.s d 0)) ((.s d 0, .sl false (P.cellsOf e) false q.1)::q.2)
   else none
 | .load t a=>kA P s c t (ev a) λv=>K v []
 | .store t a x=>match c with
  | some _=>none
  | none=>jz P s t (ev a) (ev x) λu=>K .top u
 | .nilCheck x=>match ev x with
  | .ref i k=>K (.ref i k) []
  | .el i sz k o=>K (.el i sz k o) []
  | .rel i sz n k o=>K (.rel i sz n k o) []
  | .t y=>ae c y.qY λcs=>K (.t (.ptr cs)) []
  | .fn f a b=>K (.fn f a b) []
  | _=>none
 | .binOp op t x y ty=>match op,pk P t y,pk P t x with
  | .eql,true,_=>(jP P s t (ev x)).bind λb=>K (.t (.bool b)) []
  | .neq,true,_=>(jP P s t (ev x)).bind λb=>K (.t (.bool (!b))) []
  | .eql,_,true=>(jP P s t (ev y)).bind λb=>K (.t (.bool b)) []
  | .neq,_,true=>(jP P s t (ev y)).bind λb=>K (.t (.bool (!b))) []
  | .eql,_,_=>qD P c t (ev x) (ev y) λb=>K (.t (.bool b)) []
  | .neq,_,_=>qD P c t (ev x) (ev y) λb=>K (.t (.bool (!b))) []
  | op,_,_=>(ev x).t?.bind λa=>(ev y).t?.bind λb=>r9 P op t ty c a b λz=>K (.t z) []
 | .unOp op t x=>(ev x).t?.bind λa=>tQ P op t c a λz=>K (.t z) []
 | .convert src C x=>match P.underlying src,P.underlying C with
  | some (.slice e),some .string=>match sS P e with
   | some .u8=>(dK s.h (ev x)).bind λy=>ae c ((y.aQ 1).bind λp=>bytesOf p.2) λl=>K (.t (.str ⟨l.toArray⟩)) []
   | _=>none
  | _,_=>(ev x).t?.bind λa=>su P c src C a λz=>K (.t z) []
 | .makeFunc (.func f) H D=>K (.fn f (H.toList.map ev) (D.toList.map ev)) []
 | .makeSlice t l m=>match c with
  | some _=>none
  | none=>(ev l).t?.bind λn=>(ev m).t?.bind λk=>sV P d t (A.nS o.dst o.type) n k K
 | .makeMap t m=>match c,m with
  | none,none=>sW P d t K
  | _,_=>none
 | .lookup t x k ok=>nN P s c t (ev x) (ev k) ok λv=>K v []
 | .mapUpdate t x k v=>match c with
  | some _=>none
  | none=>nW P s t (ev x) (ev k) (ev v) λu=>K .top u
 | .slice t x E hi F=>
  jg s c g E λE=>jg s c g hi λhi=>jg s c g F λF=>oc P s c t (ev x) E hi F λv=>K v []
 | .fieldAddr t x f=>sL P c t (ev x) f λv=>K v []
 | .field t x f=>sK P t (ev x) f λv=>K v []
 | .indexAddr t x i=>pa c (ev i) λn=>jO P s c t (ev x) n λv=>K v []
 | .index t x i=>pa c (ev i) λn=>match P.underlying t with
  | some .string=>(ev x).t?.bind λy=>ae c y.bC λb=>kx c n b.size
    (ae c b.data.toList[n.toNat]? λu=>K (.t (.int .u8 u.toNat)) [])
  | some (.array m e)=>match ev x with
   | .agg vs=>cond (bV P e) ((ff vs).bind λl=>kx c n m (lh P e c (l.drop (n.toNat * P.cellsOf e)) λz=>K z [])) none
   | _=>none
  | _=>none
 | .extract x k=>match ev x with
  | .mD vs=>(vs[k]?).bind λv=>K v []
  | _=>none
 | .call j=>match j.callee with
  | .builtin .len=>match j.args.toList,j.argTypes.toList with
   | [x],t::_=>nL P s c t (ev x) λv=>K v []
   | _,_=>none
  | .builtin .append=>match c,j.args.toList,j.argTypes.toList with
   | none,[x,y],[t,u]=>kT P s d (A.nS o.dst o.type==3) t u (ev x) (ev y) K
   | _,_,_=>none
  | .builtin .max=>match sS P o.type with
   | some k=>(ff (j.args.toList.map ev)).bind λl=>match l with
    | x::r=>ae c (x.int? k) λa=>pe k c true a r λz=>K (.t z) []
    | []=>none
   | none=>none
  | .builtin .min=>match sS P o.type with
   | some k=>(ff (j.args.toList.map ev)).bind λl=>match l with
    | x::r=>ae c (x.int? k) λa=>pe k c false a r λz=>K (.t z) []
    | []=>none
   | none=>none
  | .builtin .delete=>match c,j.args.toList,j.argTypes.toList with
   | none,[x,y],t::_=>nA P s t (ev x) (ev y) λu=>K (.mD []) u
   | _,_,_=>none
  | .builtin .cap=>match j.args.toList,j.argTypes.toList with
   | [x],t::_=>match P.underlying t with
    | some (.slice _)=>match ev x with
     | .t y=>cond (zr y) (K (.t (.int .i64 0)) []) none
     | _=>none
    | _=>none
   | _,_=>none
  | .value G=>match ev G with
   | .fn f a b=>jJ (IU G) P A O s d c f (a++j.args.toList.map ev++b) K
   | _=>none
  | _=>none
 | _=>none
open Go
section
variable (P:Program) (A:cM) (O:au)
def yw(b want:Bool):Bool:=cond want b (!b)
def gC(g:Option Gs)(b want:Bool):Bool:=
 match g with
 | none=>yw b want
 | some a=>cond a.c (yw b want) false
def dI{R:Type}(a:Array Oper)(o:Oper)(s:St)(K:Option Gs->Option R):Option R:=
 match o.guard with
 | none=>K none
 | some (j,want)=>match(a[j]?).bind (·.dst) with
  | none=>none
  | some d=>(s.t d).2.t?.bind λx=>ae ((s.t d).1.map (·.c)) x.bool? λb=>
    K (some {d:=d,want:=want,c:=gC (s.t d).1 b want})
def Qm:Builtin->Bool
 | .delete=>true
 | _=>false
def gD(o:Oper):Bool:=
 match o.op with
 | .store .. =>true
 | .mapUpdate .. =>true
 | .call a=>match a.callee with
  | .builtin .append=>match a.args.toList with
   | .const (.slice none 0 0)::_=>false
   | _=> !A.app o.dst
  | .builtin b=>Qm b
  | .value (.func f)=>match A.iP f with
   | some _=>true
   | none=>match P.funcs[f]? with
    | some _=>A.wr f
    | none=>true
  | _=>true
 | _=>false
def PL(o:Oper):Bool:=
 match o.op with
 | .call a=>match a.callee with
  | .value (.func f)=>match P.funcs[f]? with
   | some fn=>(dC P A f 0 fn).all sN
   | none=>false
  | _=>false
 | _=>false
def gB(o:Oper):Bool:=
 match o.op with
 | .move _ | .assign _ | .pick .. | .build .. | .unOp .. | .makeFunc .. | .fieldAddr .. | .field .. | .extract .. | .nilCheck _=>true
 | .binOp _ t x y _=> !(pk P t x || pk P t y)
 | .call a=>match a.callee with
  | .builtin .max | .builtin .min=>true
  | _=>false
 | _=>false
def fh(o:Oper):Bool:=
 match o.op with
 | .call a=>match a.callee with
  | .value (.func f)=>A.deep f
  | .value _=>true
  | .builtin .append=>A.nS o.dst o.type==3
  | _=>false
 | _=>false
def te(o:Oper):Bool:=gB P o ||
 match o.op with
 | .load .. | .index .. | .indexAddr .. | .slice .. | .binOp .. | .convert .. | .lookup .. =>true
 | .call a=>match a.callee with
  | .builtin .len=>true
  | .value (.func _)=> !gD P A o && PL P A o
  | _=>false
 | _=>false
def js(o:Oper):Bool:=
 match o.op with
 | .alloc _ | .box .. | .makeSlice .. | .makeMap .. =>true
 | _=>false
def fD(o:Oper):Bool:=
 match o.op with
 | .call a=>match a.callee with
  | .value (.func f)=>(A.iP f).isSome
  | .value _=>true
  | _=>false
 | _=>false
def sf(a b:Oper):Bool:= !((gD P A a && !(gB P b || js b)) || (gD P A b && !(gB P a || js a))) && (!fh A a || te P A b) && (!fh A b || te P A a)
def gW:List Oper->List Nat
 | []=> []
 | o::r=>match o.dst with
  | some d=>d::gW r
  | none=>gW r
def tu(d:Array Oper)(a:Nat):Nat:=match d.find? (λo=>o.dst==some a) with
 | some o=>match o.op with
  | .fieldAddr _ (.tmp b) _=>b
  | _=>a
 | none=>a
def gO(b:Array Oper)(o:Oper):Option Nat:=match o.guard,o.op with
 | none, .store _ (.tmp a) _=>some (tu b a)
 | none, .load _ (.tmp a)=>some (tu b a)
 | _,_=>none
def lJ(d:Array Oper)(a b:Oper):Bool:=A.st ((d[0]?).bind (·.dst)) && (match gO d a,gO d b with
 | some k,some e=> !(k==e) && !(gW d.toList).contains k && !(gW d.toList).contains e
 | _,_=>false)
def Ff(o:Oper):Bool:=o.guard.isNone && gD P A o && match o.op with
 | .call a=>match a.callee with
  | .builtin .append=> !(A.nS o.dst o.type==3)
  | .value (.func f)=>(A.iP f).isNone && !A.deep f
  | _=>false
 | _=>false
def kH(b:Array Oper)(o:Oper):Option (Option Nat):=match o.guard,o.op with
 | none, .load _ (.tmp a)=>some (some (tu b a))
 | none, .buildSlice .. =>some none
 | _,_=>none
def kz(d:Array Oper)(a b:Oper):Bool:=A.ld ((d[0]?).bind (·.dst)) && Ff P A a && (match kH d b with
 | some (some k)=> !(gW d.toList).contains k
 | some none=>true
 | none=>false)
def jQ(o:Oper)(k:Bool):Bool:=match o.guard,o.op with
 | none, .store t (.tmp _) _=>(match P.underlying t with
  | some (.slice _)=>k
  | some (.int _)=> !k
  | _=>false)
 | _,_=>false
def mA(d:Array Oper)(a b:Oper):Bool:=A.sx ((d[0]?).bind (·.dst)) && jQ P a true && jQ P b false
def ka:aH->Bool
 | [(_, .dead),(_, .rows _ _ _ rsz _ _)]=> !(rsz==1)
 | _=>false
def kb:aH->Bool
 | [(_, .sl false sz _ _)]=>sz==1
 | _=>false
def Bz(o:Oper)(s:St):Bool:=match o.op with
 | .store _ _ y=>(s.get none y).ids.isEmpty
 | _=>false
def zq(o:Oper):Bool:=match o.guard,o.op with
 | none, .indexAddr t (.tmp _) _=>(match nD P t with
  | some e=>P.cellsOf e==1
  | none=>false)
 | none, .load _ (.tmp _)=>true
 | _,_=>false
def vO(o:Oper)(s:St):Bool:=match o.op with
 | .load _ x=>(match s.get none x with
  | .ref _ _=>true
  | _=>false)
 | .indexAddr _ x _=>(match s.get none x with
  | .own _=>true
  | _=>false)
 | _=>false
def lK(d:Array Oper)(a b:Oper):Bool:=A.sx ((d[0]?).bind (·.dst)) && (jQ P a true || jQ P a false) && zq P b
def tE(d:Array Oper)(a b:Oper):Bool:=lJ A d a b || kz P A d a b || kz P A d b a || (mA P A d a b || mA P A d b a) || (lK P A d a b || lK P A d b a)
def iy(a:Array Oper):Nat->Nat->Nat->Bool
 | 0,_,_=>false
 | n+1,j,i=>match a[j]? with
  | none=>false
  | some b=>b.after.any λe=>Region.binds .any e && (e.on==i || (Nat.blt i e.on && iy a n e.on i))
def CC(a:Array Oper)(b:Array Bool)(i:Nat):Bool:=
 match a[i]? with
 | none=>false
 | some d=>(List.range a.size).all λj=>match a[j]? with
  | none=>true
  | some e=>j==i || b.getD j true || sf P A d e || tE P A a d e || iy a 12 j i
def zz(b:Array Oper):Nat->Nat->Array Bool->Bool
 | 0,_,_=>true
 | n+1,k,a=>CC P A b a k && zz b n (k+1) (a.setIfInBounds k true)
def PV(h:Id->Option ab)(us:aH):Bool:=us.all λp=>(h p.1).isNone
def jq(d:Nat)(h:Id->Option ab)(us:aH):Bool:=us.all λp=>match p.1 with
 | .s a _=> !(a==d) || (h p.1).isNone
 | .c _=>true
 | .g _ _=>false
def eB(a:Array Oper)(d:Option Nat):Bool:=
 a.any λo=>match o.guard with
  | none=>false
  | some (j,_)=>match(a[j]?).bind (·.dst),d with
   | some e,some d=>e==d
   | _,_=>false
def sc(a:Array Oper)(o:Oper)(d:Nat):Bool:=
 (List.range a.size).all λi=>match a[i]? with
  | some b=> !(b.dst==some d) || o.after.any (λe=>Region.binds .any e && (e.on==i || iy a 12 e.on i))
  | none=>true
def ph(a:Array Oper)(g:Option Gs)(o:Oper)(s:St):Bool:=
 o.op.operands.toList.all λx=>(s.get g x).ids.all λi=>match i with
  | .s d _=>sc a o d
  | .c _=>true
  | .g _ _=>false
def lr(o:Oper)(us:aH):Bool:=us.all λp=>match p.1 with
 | .s d _=>o.dst==some d
 | .c _=>false
 | .g _ _=>false
def tR(a:Array Oper)(o:Oper)(us:aH):Bool:=us.all λp=>match p.1 with
 | .s d _=>sc a o d || o.dst==some d
 | .c _=>true
 | .g _ _=>false
def Eu(a:Array Oper)(o d:Oper)(s:St)(us:aH):Bool:=match gO a o,gO a d with
 | some k,some b=>(o.op.operands.toList.all λx=>(s.get none x).ids.all λi=>decide (i∈(s.t k).2.ids)) && us.all (λp=>decide (p.1∈(s.t k).2.ids)) && us.all (λp=>decide (p.1∉(s.t b).2.ids))
 | _,_=>false
def zu(a:Array Oper)(b:Oper)(s:St)(us:aH):Bool:=match kH a b with
 | some (some k)=>us.all λp=>decide (p.1∉(s.t k).2.ids)
 | _=>true
def vC(a:Array Oper)(o:Oper)(s:St):Bool:=match kH a o with
 | some (some k)=>o.op.operands.toList.all λx=>(s.get none x).ids.all λi=>decide (i∈(s.t k).2.ids)
 | some none=>o.op.operands.toList.all λx=>(s.get none x).ids.isEmpty
 | none=>true
def kJ(a:Array Oper)(o:Oper)(s:St)(us:aH):Bool:=a.all λb=>(!(lJ A a o b) || Eu a o b s us) && (!(kz P A a o b) || zu a b s us) && (!(kz P A a b o) || vC a o s) && ((!(mA P A a o b) || ka us) && (!(mA P A a b o) || (kb us && Bz o s))) && ((!(lK P A a o b) || ka us || kb us) && (!(lK P A a b o) || vO o s))
def pr(b:Bool)(nt:Nat)(a:Array Oper)(o:Oper)(g:Option Gs)(s:St)(us:aH):Bool:=
 (match o.dst with | some d=>decide (d < nt) | none=>true) &&
 (match g with | some g=>us.isEmpty && !(o.dst==some g.d) | none=>true) &&
 jq (o.dst.getD 0) s.h us && (!b || (ph a g o s && (gD P A o || lr o us) && (!gB P o || us.isEmpty) && (!te P A o || us.isEmpty) && (!gD P A o || tR a o us) && Nat.ble nt 1000000 && kJ P A a o s us))
def rv(a:Bool)(o:Oper)(g:Option Gs):Option Gs:=
 match g with
 | some g=>cond (!a && fD A o) (some g) none
 | none=>none
def yI(nt:Nat)(o:Oper)(g:Gs):Bool:=(match o.dst with | some d=>decide (d < nt) | none=>true) && !(o.dst==some g.d)
def RC(o:Oper):AV:=
 match o.op with
 | .call a=>match a.callee with
  | .value (.func f)=>match P.funcs[f]? with
   | some fn=>match dC P A f 0 fn with
    | [.f .b]=> .t (.bool false)
    | [.f (.i k)]=> .t (.int k 0)
    | _=> .top
   | none=> .top
  | _=>match P.underlying o.type with
   | some .bool=> .t (.bool false)
   | some (.int k)=> .t (.int k 0)
   | _=> .top
 | _=> .top
def pw{R:Type}(b:Bool)(nt:Nat)(a:Array Oper)(o:Oper)(s:St)(K:St->Option R):Option R:=
 dI a o s λg=>match rv A b o g with
 | some d=>cond (yI nt o d) (cond d.c
   (jI P A O none o (s.td d) λv us=>
    if pr P A b nt a o none s us then K (s.put (eB a o.dst) o.dst (some d) v us) else none)
   (K (s.put (eB a o.dst) o.dst (some d) (RC P A o) []))) none
 | none=>jI P A O g o s λv us=>
  if pr P A b nt a o g s us then K (s.put (eB a o.dst) o.dst g v us) else none
def we{R:Type}(a:Bool)(nt:Nat)(b:Array Oper):List Oper->St->(St->Option R)->Option R
 | [],s,K=>K s
 | o::r,s,K=>pw P A O a nt b o s λs'=>we a nt b r s' K
def St.clear(s:St):St:=
 {t :=λk=>match s.t k with
    | (none,v)=>(none,v)
    | (some _,_)=>(none, .top)
  h:=s.h}
def vK:List Nat->Bool
 | []=>true
 | d::r=> !r.contains d && vK r
def sR(a:Array Oper):Bool:=a.all λo=>match o.guard with
 | none=>true
 | some (j,_)=>o.after.any λe=>Region.binds .any e && e.on==j
def DO(b:Bool)(a:Array Oper):Bool:=
 !b || (Region.lexB .any a && zz P A a a.size 0 (Array.replicate a.size false) && vK (gW a.toList) && sR a)
def region{R:Type}(nt:Nat)(a:Bool)(b:Array Oper)(s:St)(K:St->Option R):Option R:=
 cond (DO P A a b)
  (we P A O a nt b b.toList s λs'=>K s'.clear) none
def s9(h:Id->Option ab):AV->AV
 | .own i=>match h i with
  | some (.sl true sz b xs)=> .t (.aa sz b xs)
  | _=> .own i
 | .part i sz off n=>match h i with
  | some (.sl true a b xs)=>if a=sz then .t (.aa sz b ((xs.drop off).take n)) else .part i sz off n
  | _=> .part i sz off n
 | .ref i off=>match h i with
  | some (.iW l)=> .t (.ptr (l.drop off))
  | _=> .ref i off
 | v=>v
def vD(s:St)(k:Nat×Option Nat):Option (AV×aH):=
 match s.t k.1 with
 | (some _,_)=>none
 | (none,v)=>match k.2 with
  | none=>some (s9 s.h v,[])
  | some sz=>if sz=0\/sz>=1000000 then some (s9 s.h v,[]) else match v with
   | .own i=>match s.h i with
    | some (.sl false _ _ _)=>some (.own i,[])
    | _=>none
   | .t (.aK b)=>some (.own (.s (1000000+k.1) 0),[(.s (1000000+k.1) 0, .sl false sz b [])])
   | _=>none
def pc(s:St):List (Nat×Option Nat)->Option (List AV×aH)
 | []=>some ([],[])
 | k::r=>(vD s k).bind λp=>(pc s r).bind λq=>some (p.1::q.1,p.2++q.2)
def Al(f:FuncId)(todo:List Item)(live:List (Nat×Option Nat))(m:Nat×Nat)(s:St):Option (List T):=
 (pc s live).bind λp=>
  if PV s.h p.2 then
  let h:=aL s.h p.2
  (fm h 1000 ((List.range m.1).map Id.c++b8 p.1) []).bind λseen=>
   O (.node f todo live m) (kG seen p.1) (seen.map λi=>ir seen (h i))
  else none
def o5(s:St):List (Nat×Option Nat)->aH
 | []=> []
 | (k,some 0)::r=>ik s.h (s.t k).2++o5 s r
 | _::r=>o5 s r
def zX(s:St):List (Nat×Option Nat)->List (Id×Nat×Nat)
 | []=> []
 | (k,some n)::r=>match cond (Nat.ble 1000000 n) (s.t k).2 .top with
  | .ref i _=>(i,n / 1000000 - 1,n % 1000000)::zX s r
  | _=>zX s r
 | _::r=>zX s r
def mC(f:FuncId)(todo:List Item)(live:List (Nat×Option Nat))(m:Nat×Nat)(s:St):Option (List T):=
 (kD 1900000 0 (aL s.h (o5 s live)) (zX s live)).bind λus=>
  Al O f todo live m {t:=s.t,h:=aL (aL s.h (o5 s live)) us}
def nH(live:List (Nat×Option Nat))(bg:List AV)(blks:List ab):St:=
 {t:=λk=>(none,look live bg k)
  h:=fun
   | .c j=>blks[j]?
   | _=>none}
where
 look:List (Nat×Option Nat)->List AV->Nat->AV
 | (k,_)::ks,v::vs,j=>if j=k then v else look ks vs j
 | _,_,_=> .top
def pE:Code->Nat
 | .region id _ _=>id
 | .seq a _=>pE a
 | .block _ b=>pE b
 | .cond _ a _=>pE a
 | _=>1000000
def J2(h:Id->Option ab)(sz:Nat):AV->Option (T×Id)
 | .own i=>match h i with
  | some (.sl false a b xs)=>if a=sz then some (.aa sz b xs,i) else none
  | _=>none
 | _=>none
def jM{R:Type}(m:Nat)(h:Id->Option ab)(r:bX)(v:AV)(K:T->List Id->List Id->Option R):Option R:=
 match r with
 | .f _=>v.t?.bind λx=>ae none x.qG λ_=>K x [] []
 | .t _=>(dK h v).bind λx=>K x [] ((ik h v).map (·.1))
 | .own sz=>match v with
  | .own i=>(J2 h sz (.own i)).bind λp=>K p.1 [p.2] []
  | .part i a 0 n=>match h i with
   | some (.sl false j b xs)=>if j=sz/\a=sz then K (.aa sz b (xs.take n)) [i] [] else none
   | _=>none
  | .t (.aK b)=>K (.aK b) [] []
  | .t (.aa _ true [])=>K (.aK true) [] []
  | _=>none
 | .ref k off=>match v with
  | .ref (.c e) off'=>if e=k/\off'=off/\k < m then K .aw [] [] else none
  | _=>none
 | .same k=>match v with
  | .own (.c e)=>if e=k/\k < m then K .aw [] [] else none
  | _=>none
 | .rows sz aD rsz=>match v with
  | .own i=>match h i with
   | some (.rows b a d g _ es)=>if a=sz/\d=aD/\g=rsz then
     ae none (if bP es=true then some () else none) λ_=>K (bO b es) [i] [] else none
   | _=>none
  | _=>none
 | .mp ag ks vk=>match v with
  | .own i=>match h i with
   | some (.mp l o q es)=>if l=ag/\o=ks/\q=vk then K (bT es) [i] [] else none
   | _=>none
  | _=>none
 | .no=>match v with
  | .ref _ _=>K .aw [] []
  | _=>none
 | .agg _=>none
 | .new _=>none
def nE{R:Type}(m:Nat)(h:Id->Option ab):List bX->List AV->(List T->List Id->List Id->Option R)->Option R
 | [],[],K=>K [] [] []
 | r::f,v::vs,K=>jM m h r v λx a b=>nE m h f vs λxs d e=>K (x::xs) (a++d) (b++e)
 | _,_,_=>none
def bZ{R:Type}(m:Nat)(h:Id->Option ab):List bX->List AV->(List T->List Id->List Id->Option R)->Option R
 | [],[],K=>K [] [] []
 | r::f,v::vs,K=>match r with
  | .agg l=>match v with
   | .agg cs=>nE m h l cs λxs a b=>bZ m h f vs λg d e=>K (xs++g) (a++d) (b++e)
   | _=>none
  | .new l=>match v with
   | .ref i 0=>match h i with
    | some (.box cs)=>nE m h l cs λxs a b=>bZ m h f vs λg d e=>K (xs++g) (i:: (a++d)) (b++e)
    | _=>none
   | _=>none
  | r=>jM m h r v λx a b=>bZ m h f vs λxs d e=>K (x::xs) (a++d) (b++e)
 | _,_,_=>none
def lY{R:Type}(m:Nat)(h:Id->Option ab):Nat->List jV->(List T->List Id->List Id->Option R)->Option R
 | _,[],K=>K [] [] []
 | j, .box l::r,K=>match h (.c j) with
  | some (.box cs)=>nE m h l cs λxs a b=>lY m h (j+1) r λf d e=>K (xs++f) (.c j:: (a++d)) (b++e)
  | _=>none
 | j, .sl sz::r,K=>match h (.c j) with
  | some (.sl false k b xs)=>if k=sz then lY m h (j+1) r λf d e=>K (.aa sz b xs::f) (.c j::d) e else none
  | _=>none
 | j, .mp ag ks vk::r,K=>match h (.c j) with
  | some (.mp g i n es)=>if g=ag/\i=ks/\n=vk then lY m h (j+1) r λf d e=>K (bT es::f) (.c j::d) e else none
  | _=>none
 | j, .dead::r,K=>lY m h (j+1) r K
def tq{R:Type}(s:St):List ResultVar->(List AV->Option R)->Option R
 | [],K=>K []
 | .tmp k::r,K=>match s.t k with
   | (none,v)=>tq s r λl=>K (v::l)
   | _=>none
 | .cell k t::r,K=>match s.t k with
   | (none,v)=>kA P s none t v λv=>tq s r λl=>K (v::l)
   | _=>none
def zK:List Id->Bool
 | []=>true
 | i::r=> !r.contains i && zK r
def za(f:FuncId)(fn:Func)(m:Nat×Nat)(s:St):Option (List T):=
 tq P s fn.results.toList λvs=>
  if m.1= (iq A f m.2).length then
  bZ m.1 s.h (dC P A f m.2 fn) vs λxs a b=>lY m.1 s.h 0 (iq A f m.2) λg d e=>
   if zK (a++d) && (b++e).all (λi=> !(a++d).contains i) then some (xs++g) else none
  else none
def wg(aD rsz:Nat)(e:Row):List T:=e.cs.set aD (match e.own with
 | some p=> .aa rsz p.1 p.2
 | none=> .aw)
def vP:List AV->List Id
 | []=> []
 | .own i::r=>i::vP r
 | _::r=>vP r
def DS(h:Id->Option ab)(t:Nat->Option Gs×AV):List ResultVar->List Id
 | []=> []
 | .tmp k::r=>(match(t k).2 with
  | .agg vs=>vP vs
  | v=>vP [v])++DS h t r
 | .cell k _::r=>(match(t k).2 with
  | .ref i _=>match h i with
   | some (.box cs)=>vP cs
   | _=> []
  | _=> [])++DS h t r
def wA{R:Type}:(Id->Option ab)->List Id->(aH->Option R)->Option R
 | _,[],K=>K []
 | h,i::r,K=>match h i with
  | some (.rows b sz aD rsz _ es)=>ae none (if bP es=true then some () else none) λ_=>
    wA (aL h [(i, .sl true sz b (es.map (wg aD rsz)))]) r λus=>K ((i, .sl true sz b (es.map (wg aD rsz)))::us)
  | _=>wA h r K
def y9(f:FuncId)(fn:Func)(m:Nat×Nat)(s:St):Option (List T):=
 cond ((dC P A f m.2 fn).any II) (za P A f fn m s)
  (wA s.h (DS s.h s.t fn.results.toList) λus=>za P A f fn m {t:=s.t,h:=aL s.h us})
def ev(f:FuncId)(fn:Func)(m:Nat×Nat):Nat->Bool->List Item->St->Option (List T)
 | 0,_,_,_=>none
 | n+1,d,todo,s=>match todo with
  | []=>y9 P A f fn m s
  | .code c::k=>match c with
   | .skip=>ev f fn m n true k s
   | .seq a b=>ev f fn m n d (.code a:: .code b::k) s
   | .region id g e=>match cond d (A.join f id) none with
    | some live=>mC O f (.code (.region id g e)::k) live m s
    | none=>region P A O fn.ntmps e g s λs'=>ev f fn m n true k s'
   | .cond x a b=>(s.get none x).t?.bind λy=>ae none y.bool? λt=>cond t (ev f fn m n true (.code a::k) s) (ev f fn m n true (.code b::k) s)
   | .block id b=>ev f fn m n d (.code b:: .inBlock id::k) s
   | .loop b=>match A.live f (pE b) with
    | some live=>mC O f (.inLoop b::k) live m s
    | none=>none
   | .exit id=>match exitTo id k with
    | some i=>ev f fn m n true i s
    | none=>none
   | .ret=>y9 P A f fn m s
   | _=>none
  | .inBlock _::k=>ev f fn m n true k s
  | .inLoop b::k=>match A.live f (pE b) with
    | some live=>mC O f (.inLoop b::k) live m s
    | none=>none
  | _::_=>none
def ko:Nat:=100000
def ve(bg:List AV)(a:List ab):St:=
 {t:=λk=>(none,bg.getD k .top)
  h:=fun
   | .c j=>a[j]?
   | _=>none}
def az:au
 | .call f,bg,a=>match A.ext f bg a with
  | some r=>some r
  | none=>match P.funcs[f]? with
  | some fn=>match fn.body with
   | some c=>if bg.length<=fn.ntmps then ev P A O f fn (a.length,iA a.head?) ko true [.code c] (ve bg a) else none
   | none=>none
  | none=>none
 | .node f todo live m,bg,a=>match P.funcs[f]? with
  | some fn=>match todo with
   | .inLoop b::k=>ev P A O f fn m ko true (.code b:: .inLoop b::k) (nH live bg a)
   | todo=>ev P A O f fn m ko false todo (nH live bg a)
  | none=>none
end
def qE(d:Bool)(r:Nat):Code->List Item->Option (List Item)
 | .seq a b,k=>match qE d r a (.code b::k) with
  | some t=>some t
  | none=>qE d r b k
 | .block id b,k=>qE d r b (.inBlock id::k)
 | .loop b,k=>if d && pE b==r then some (.inLoop b::k) else qE d r b (.inLoop b::k)
 | .cond _ a b,k=>match qE d r a k with
  | some t=>some t
  | none=>qE d r b k
 | .region id f e,k=>if !d && id==r then some (.code (.region id f e)::k) else none
 | _,_=>none
def aT(P:Program)(f:FuncId)(a:Bool)(r:Nat)(live:List (Nat×Option Nat))(m:Nat×Nat):Key:=
 .node f (match P.funcs[f]? with
  | some fn=>match fn.body with
   | some c=>(qE a r c []).getD []
   | none=> []
  | none=> []) live m
def jt(P:Program)(A:cM):Nat->au
 | 0=>λ_ _ _=>none
 | n+1=>az P A (jt P A n)
open Classical in
noncomputable def mW(P:Program)(A:cM):au:=λk vs bs=>
 if h:∃n r,jt P A n k vs bs=some r then some (Classical.choose (XX h)) else none
open Go
section
variable (w:World) (A:Nat->Prop)
mutual
def aB:T->Value->Prop
 | .int k n,v=>v= .int k n
 | .bool b,v=>v= .bool b
 | .str s,v=>v= .string s
 | .aa sz b xs,v=>(b=true/\xs= []/\v= .slice none 0 0)\/
   (b=false/\∃ah off a cap,v= .slice (some ⟨ah,off,a⟩) xs.length cap/\xs.length<=cap/\(xs= []\/(a=none/\A ah))/\aZ ah sz off xs)
 | .aK b,v=>(b=true/\v= .slice none 0 0)\/(b=false/\∃ah off a,v= .slice (some ⟨ah,off,a⟩) 0 0)
 | .ptr cs,v=>∃ah off,v= .pointer (some ⟨ah,off,none⟩)/\(cs= []\/A ah)/\aX ah off cs
 | .aw,v=>v= .pointer none
 | .zJ,v=>v= .map none
 | .zI,v=>v= .nilFunc
 | .Dr,v=>v= .nilIface
 | .any,v=>v.oneCell'=true/\v.cells= #[v]
def aZ(ah sz:Nat):Nat->List (List T)->Prop
 | _,[]=>True
 | off,cs::xs=>cs.length=sz/\aX ah off cs/\aZ ah sz (off+sz) xs
def aX(ah:Nat):Nat->List T->Prop
 | _,[]=>True
 | off,c::cs=>(∃v,w.cell? ⟨ah,off,none⟩=some v/\aB c v)/\aX ah (off+1) cs
end
def aR:List T->List Value->Prop
 | [],vs=>vs= []
 | c::cs,vs=>∃v r,vs=v::r/\aB w A c v/\aR cs r
end
section
variable {w w':World} {A A':Nat->Prop}
theorem nu{a:Addr}(h:w'.heap[a.block]? =w.heap[a.block]?):w'.cell? a=w.cell? a:=by simp [World.cell?,h]
mutual
theorem aB.mono(h:∀b,A b->A' b/\w'.heap[b]? =w.heap[b]?):∀(t:T) (v:Value),aB w A t v->aB w' A' t v
 | .int k n,v,hv=>by simpa [aB] using hv
 | .bool b,v,hv=>by simpa [aB] using hv
 | .str s,v,hv=>by simpa [aB] using hv
 | .aK b,v,hv=>by simpa [aB] using hv
 | .aw,v,hv=>by simpa [aB] using hv
 | .zJ,v,hv=>by simpa [aB] using hv
 | .zI,v,hv=>by simpa [aB] using hv
 | .Dr,v,hv=>by simpa [aB] using hv
 | .any,v,hv=>by simp only [aB] at hv⊢;exact hv
 | .aa sz b xs,v,hv=>by
  simp only [aB] at hv⊢;rcases hv with hv | ⟨hb,ah,off,f,cap,h1,d,a,e⟩
  .exact .inl hv
  .refine .inr ⟨hb,ah,off,f,cap,h1,d, ?_, ?_⟩
   .rcases a with a | a
    .exact .inl a
    .exact .inr ⟨a.1,(h _ a.2).1⟩
   .rcases a with a | a
    .subst a;simp [aZ]
    .exact aZ.mono h ah sz a.2 off xs e
 | .ptr cs,v,hv=>by
  simp only [aB] at hv⊢;obtain⟨ah,off,h1,d,a⟩:=hv;refine⟨ah,off,h1, ?_, ?_⟩
  .rcases d with d | d
   .exact .inl d
   .exact .inr (h _ d).1
  .rcases d with d | d
   .subst d;simp [aX]
   .exact aX.mono h ah d off cs a
theorem aZ.mono(h:∀b,A b->A' b/\w'.heap[b]? =w.heap[b]?)(ah sz:Nat)(hb:A ah):∀(off:Nat) (xs:List (List T)),aZ w A ah sz off xs->aZ w' A' ah sz off xs
 | _,[],_=>by simp [aZ]
 | off,cs::xs,hv=>by simp only [aZ] at hv⊢;exact⟨hv.1,aX.mono h ah hb off cs hv.2.1,aZ.mono h ah sz hb (off+sz) xs hv.2.2⟩
theorem aX.mono(h:∀b,A b->A' b/\w'.heap[b]? =w.heap[b]?)(ah:Nat)(hb:A ah):∀(off:Nat) (cs:List T),aX w A ah off cs->aX w' A' ah off cs
 | _,[],_=>by simp [aX]
 | off,c::cs,hv=>by simp only [aX] at hv⊢;obtain⟨⟨v,d,e⟩,a⟩:=hv;exact⟨⟨v,by rw [nu (w:=w) (by exact(h ah hb).2)];exact d,aB.mono h c v e⟩,aX.mono h ah hb (off+1) cs a⟩
end
theorem aX.nO(h:∀b,A b->A' b/\w'.heap[b]? =w.heap[b]?)(ah:Nat)(hb:w'.heap[ah]? =w.heap[ah]?):∀(off:Nat) (cs:List T),aX w A ah off cs->aX w' A' ah off cs
 | _,[],_=>by simp [aX]
 | off,c::cs,hv=>by simp only [aX] at hv⊢;obtain⟨⟨v,d,e⟩,a⟩:=hv;exact⟨⟨v,by rw [nu (w:=w) (by exact hb)];exact d,aB.mono h c v e⟩,aX.nO h ah hb (off+1) cs a⟩
theorem aZ.nO(h:∀b,A b->A' b/\w'.heap[b]? =w.heap[b]?)(ah sz:Nat)(hb:w'.heap[ah]? =w.heap[ah]?):∀(off:Nat) (xs:List (List T)),aZ w A ah sz off xs->aZ w' A' ah sz off xs
 | _,[],_=>by simp [aZ]
 | off,cs::xs,hv=>by simp only [aZ] at hv⊢;exact⟨hv.1,aX.nO h ah hb off cs hv.2.1,aZ.nO h ah sz hb (off+sz) xs hv.2.2⟩
theorem aR.mono(h:∀b,A b->A' b/\w'.heap[b]? =w.heap[b]?):∀(cs:List T) (vs:List Value),aR w A cs vs->aR w' A' cs vs
 | [],_,hv=>hv
 | c::cs,vs,⟨v,r,e,h1,a⟩=>⟨v,r,e,aB.mono h c v h1,aR.mono h cs r a⟩
theorem aZ.get{ah sz:Nat}:∀{off:Nat} {xs:List (List T)},aZ w A ah sz off xs->∀{k:Nat} {cs:List T},xs[k]? =some cs->cs.length=sz/\aX w A ah (off+k * sz) cs
 | off,cs::xs,h,0,a,e=>by simp only [aZ] at h;simp at e;subst e;exact⟨h.1,by simpa using h.2.1⟩
 | off,cs::xs,h,k+1,a,e=>by
  simp only [aZ] at h;have:=aZ.get h.2.2 (k:=k) (cs:=a) (by simpa using e);refine⟨this.1, ?_⟩;have b:off+ (k+1) * sz=off+sz+k * sz:=by rw [Wm];omega
  rw [b];exact this.2
theorem aX.get{ah:Nat}:∀{off:Nat} {cs:List T},aX w A ah off cs->∀{k:Nat} {c:T},cs[k]? =some c->∃v,w.cell? ⟨ah,off+k,none⟩=some v/\aB w A c v
 | off,c::cs,h,0,c',e=>by simp only [aX] at h;simp at e;subst e;exact h.1
 | off,c::cs,h,k+1,c',e=>by
  simp only [aX] at h;have:=aX.get h.2 (k:=k) (c:=c') (by simpa using e);have a:off+1+k=off+ (k+1):=by omega
  rw [a] at this;exact this
theorem aX.drop{ah:Nat}:∀{off:Nat} {cs:List T},aX w A ah off cs->∀(n:Nat),aX w A ah (off+n) (cs.drop n)
 | _,_,h,0=>by simpa using h
 | _,[],_,n+1=>by simp [aX]
 | off,c::cs,h,n+1=>by
  simp only [aX] at h;have:=aX.drop h.2 n;have a:off+1+n=off+ (n+1):=by omega
  rw [a] at this;simpa using this
theorem aZ.drop{ah sz:Nat}:∀{off:Nat} {xs:List (List T)},aZ w A ah sz off xs->∀(n:Nat),aZ w A ah sz (off+n * sz) (xs.drop n)
 | _,_,h,0=>by simpa using h
 | _,[],_,n+1=>by simp [aZ]
 | off,cs::xs,h,n+1=>by
  simp only [aZ] at h;have:=aZ.drop h.2.2 n;have a:off+sz+n * sz=off+ (n+1) * sz:=by rw [Wm];omega
  rw [a] at this;simpa using this
theorem aZ.take{ah sz:Nat}:∀{off:Nat} {xs:List (List T)},aZ w A ah sz off xs->∀(n:Nat),aZ w A ah sz off (xs.take n)
 | _,_,_,0=>by simp [aZ]
 | _,[],_,n+1=>by simp [aZ]
 | off,cs::xs,h,n+1=>by simp only [aZ] at h;simp only [YE,aZ];exact⟨h.1,h.2.1,aZ.take h.2.2 n⟩
theorem aZ.append{ah sz:Nat}:∀{off:Nat} {xs a:List (List T)},aZ w A ah sz off xs->aZ w A ah sz (off+xs.length * sz) a->aZ w A ah sz off (xs++a)
 | off,[],a,_,h=>by simpa using h
 | off,cs::xs,a,h,h'=>by
  simp only [aZ] at h;simp only [Vf,aZ];refine⟨h.1,h.2.1,aZ.append h.2.2 ?_⟩;have b:off+sz+xs.length * sz=off+ (cs::xs).length * sz:=by simp [Wm];omega
  rw [b];exact h'
theorem aB.qT{t:T}{v:Value}(h:aB w A t v):v.oneCell'=true/\v.cells= #[v]:=by
 cases t <;> simp only [aB] at h
 case aa=>rcases h with⟨_,_,rfl⟩ | ⟨_,_,_,_,_,rfl,_⟩ <;> exact⟨rfl,rfl⟩
 case aK=>rcases h with⟨_,rfl⟩ | ⟨_,_,_,_,rfl⟩ <;> exact⟨rfl,rfl⟩
 case ptr=>obtain⟨_,_,rfl,_⟩:=h;exact⟨rfl,rfl⟩
 case any=>exact h
 all_goals subst h;exact⟨rfl,rfl⟩
theorem aR.length:∀{cs:List T} {vs:List Value},aR w A cs vs->vs.length=cs.length
 | [],_,h=>by simp only [aR] at h;simp [h]
 | c::cs,vs,⟨v,r,e,_,h⟩=>by subst e;simp [aR.length h]
end
section
variable (w:World) (A:Nat->Prop) (ρ:Id->Option Value)
mutual
def an:AV->Value->Prop
 | .top,_=>True
 | .t x,v=>aB w A x v
 | .mD vs,v=>∃d:List Value,v= .tuple d.toArray/\aC vs d
 | .agg vs,v=>∃d:List Value,v= .agg d.toArray/\aC vs d/\∀u∈d,u.oneCell'=true/\u.cells= #[u]
 | .ref i off,v=>∃b,ρ i=some (.pointer (some ⟨b,0,none⟩))/\v= .pointer (some ⟨b,off,none⟩)
 | .el i sz k off,v=>∃b o L cap,ρ i=some (.slice (some ⟨b,o,none⟩) L cap)/\v= .pointer (some ⟨b,o+k * sz+off,none⟩)
 | .own i,v=>ρ i=some v
 | .part i sz off n,v=>∃a L cap e,ρ i=some (.slice a L cap)/\off+n<=L/\L<=cap/\v= .slice e n (cap - off)/\
   ((off=0/\e=a)\/(off=cap/\(e=none↔a=none)/\True)\/∃b o,a=some ⟨b,o,none⟩/\e=some ⟨b,o+off * sz,none⟩)
 | .row i n,v=>ρ (.g i n)=some v
 | .rel i sz n k off,v=>∃b o L cap,ρ (.g i n)=some (.slice (some ⟨b,o,none⟩) L cap)/\v= .pointer (some ⟨b,o+k * sz+off,none⟩)
 | .fn f xs l,v=>∃j y':List Value,v= .func (.func f) j.toArray y'.toArray/\aC xs j/\aC l y'
def aC:List AV->List Value->Prop
 | [],vs=>vs= []
 | a::as,vs=>∃v r,vs=v::r/\an a v/\aC as r
end
end
section
variable {w w':World} {A A':Nat->Prop} {ρ ρ':Id->Option Value}
mutual
theorem an.mono(h:∀b,A b->A' b/\w'.heap[b]? =w.heap[b]?)(d:∀i v,ρ i=some v->ρ' i=some v):∀(a:AV) (v:Value),an w A ρ a v->an w' A' ρ' a v
 | .top,_,_=>by simp [an]
 | .t x,v,hv=>by simp only [an] at hv⊢;exact aB.mono h x v hv
 | .mD vs,v,hv=>by simp only [an] at hv⊢;obtain⟨j,e,g⟩:=hv;exact⟨j,e,aC.mono h d vs j g⟩
 | .agg vs,v,hv=>by simp only [an] at hv⊢;obtain⟨j,e,g,q⟩:=hv;exact⟨j,e,aC.mono h d vs j g,q⟩
 | .ref i off,v,hv=>by simp only [an] at hv⊢;obtain⟨b,e,g⟩:=hv;exact⟨b,d _ _ e,g⟩
 | .el i sz k off,v,hv=>by simp only [an] at hv⊢;obtain⟨b,o,L,cap,e,g⟩:=hv;exact⟨b,o,L,cap,d _ _ e,g⟩
 | .own i,v,hv=>by simp only [an] at hv⊢;exact d _ _ hv
 | .part i sz off n,v,hv=>by simp only [an] at hv⊢;obtain⟨a,L,cap,m,e,g⟩:=hv;exact⟨a,L,cap,m,d _ _ e,g⟩
 | .row i n,v,hv=>by simp only [an] at hv⊢;exact d _ _ hv
 | .rel i sz n k off,v,hv=>by simp only [an] at hv⊢;obtain⟨b,o,L,cap,e,g⟩:=hv;exact⟨b,o,L,cap,d _ _ e,g⟩
 | .fn f xs r,v,hv=>by simp only [an] at hv⊢;obtain⟨l,y',e,h1,p⟩:=hv;exact⟨l,y',e,aC.mono h d xs l h1,aC.mono h d r y' p⟩
theorem aC.mono(h:∀b,A b->A' b/\w'.heap[b]? =w.heap[b]?)(d:∀i v,ρ i=some v->ρ' i=some v):∀(as:List AV) (vs:List Value),aC w A ρ as vs->aC w' A' ρ' as vs
 | [],_,hv=>by simpa [aC] using hv
 | a::as,vs,hv=>by simp only [aC] at hv⊢;obtain⟨v,r,e,h1,f⟩:=hv;exact⟨v,r,e,an.mono h d a v h1,aC.mono h d as r f⟩
end
theorem aC.length:∀{as:List AV} {vs:List Value},aC w A ρ as vs->vs.length=as.length
 | [],_,h=>by simp only [aC] at h;simp [h]
 | a::as,vs,h=>by simp only [aC] at h;obtain⟨v,r,e,_,h⟩:=h;subst e;simp [aC.length h]
theorem aC.get:∀{as:List AV} {vs:List Value},aC w A ρ as vs->∀{k:Nat} {a:AV},as[k]? =some a->∃v,vs[k]? =some v/\an w A ρ a v
 | a::as,vs,h,0,b,e=>by simp only [aC] at h;obtain⟨v,r,rfl,h1,_⟩:=h;simp at e;subst e;exact⟨v,rfl,h1⟩
 | a::as,vs,h,k+1,b,e=>by simp only [aC] at h;obtain⟨v,r,rfl,_,h⟩:=h;obtain⟨u,f,d⟩:=aC.get h (k:=k) (a:=b) (by simpa using e);exact⟨u,by simpa using f,d⟩
theorem aC.append:∀{as bs:List AV} {vs us:List Value},aC w A ρ as vs->aC w A ρ bs us->aC w A ρ (as++bs) (vs++us)
 | [],_,_,_,h,h'=>by simp only [aC] at h;subst h;simpa using h'
 | a::as,bs,vs,us,h,h'=>by simp only [aC] at h;obtain⟨v,r,rfl,h1,h⟩:=h;simp only [Vf,aC];exact⟨v,r++us,rfl,h1,aC.append h h'⟩
theorem aC.drop:∀{as:List AV} {vs:List Value},aC w A ρ as vs->∀n,aC w A ρ (as.drop n) (vs.drop n)
 | _,_,h,0=>by simpa using h
 | [],vs,h,n+1=>by simp only [aC] at h;subst h;simp [aC]
 | a::as,vs,h,n+1=>by simp only [aC] at h;obtain⟨v,r,rfl,h1,h⟩:=h;simpa using aC.drop h n
theorem aC.take:∀{as:List AV} {vs:List Value},aC w A ρ as vs->∀n,aC w A ρ (as.take n) (vs.take n)
 | _,_,_,0=>by simp [aC]
 | [],vs,h,n+1=>by simp only [aC] at h;subst h;simp [aC]
 | a::as,vs,h,n+1=>by simp only [aC] at h;obtain⟨v,r,rfl,h1,h⟩:=h;simp only [YE,aC];exact⟨v,r.take n,rfl,h1,aC.take h n⟩
theorem aC.mn:∀{cs:List T} {vs:List Value},aR w A cs vs->aC w A ρ (cs.map .t) vs
 | [],_,h=>by simpa [aC,aR] using h
 | c::cs,vs,⟨v,r,e,h1,a⟩=>by simp only [V6,aC];exact⟨v,r,e,by simpa [an] using h1,aC.mn a⟩
theorem aR.mj:∀{as:List AV} {cs:List T} {vs:List Value},ff as=some cs->aC w A ρ as vs->aR w A cs vs
 | [],cs,vs,h,hv=>by simp only [ff,U7] at h;subst h;simpa [aR,aC] using hv
 | a::as,cs,vs,h,hv=>by
  cases a <;> simp only [ff,reduceCtorEq] at h
  case t x=>
   cases b:ff as with
   | none=>simp [b] at h
   | some l=>simp only [b,Vj,U7] at h;subst h;simp only [aC,an] at hv;obtain⟨v,r,e,h1,d⟩:=hv;exact⟨v,r,e,h1,aR.mj b d⟩
end
open Go
section
variable {R S α:Type}
theorem bF[Inhabited α](c:Option Bool)(m:Option α)(k:α->Option R)(f:R->Option S):(ae c m k).bind f=ae c m λa=>(k a).bind f:=by
 unfold ae;cases m with
 | some a=>rfl
 | none=>cases c with
  | none=>rfl
  | some b=>cases b <;> rfl
theorem aO[Inhabited α]{c:Option Bool}{m:Option α}{k:α->Option R}{r:R}(h:ae c m k=some r)(b:c=none\/c=some true):∃a,m=some a/\k a=some r:=by
 unfold ae at h;cases m with
 | some a=>exact⟨a,rfl,h⟩
 | none=>rcases b with rfl | rfl <;> simp at h
theorem lX(c:Bool)(x y:Option R)(f:R->Option S):(cond c x y).bind f=cond c (x.bind f) (y.bind f):=by cases c <;> rfl
theorem cR(c:Prop)[Decidable c](x y:Option R)(f:R->Option S):(if c then x else y).bind f=if c then x.bind f else y.bind f:=by split <;> rfl
theorem bq(f:R->Option S):(none:Option R).bind f=none:=rfl
theorem Ez(c:Option Bool):∀(n:Nat) (cs:List T) (K:List T->Option R) (f:R->Option S),(pN c n cs K).bind f=pN c n cs λx=>(K x).bind f
 | 0,_,_,_=>rfl
 | n+1,cs,K,f=>by simp only [pN,bF,Ez c n]
theorem ot(k:Ck)(c:Option Bool)(x:T)(K:T->Option R)(f:R->Option S):(ft k c x K).bind f=ft k c x λx=>(K x).bind f:=by unfold ft;cases k <;> simp only [bF]
theorem tM(c:Option Bool):∀(ks:List Ck) (xs:List T) (K:List T->Option R) (f:R->Option S),(fc c ks xs K).bind f=fc c ks xs λx=>(K x).bind f
 | [],_,_,_=>rfl
 | _::_,[],_,_=>rfl
 | k::ks,x::xs,K,f=>by simp only [fc,ot,tM c ks xs]
theorem Mx(op:BinOp)(k:IntKind)(c:Option Bool)(x y:T)(K:T->Option R)(f:R->Option S):(r8 op k c x y K).bind f=r8 op k c x y λx=>(K x).bind f:=by unfold r8;cases op <;> simp only [bF,bq]
theorem Tn(op:BinOp)(k ky:IntKind)(c:Option Bool)(x y:T)(K:T->Option R)(f:R->Option S):(tC op k ky c x y K).bind f=tC op k ky c x y λx=>(K x).bind f:=by unfold tC;cases op <;> simp only [bF,bq]
theorem TI(op:BinOp)(c:Option Bool)(x y:T)(K:T->Option R)(f:R->Option S):(tF op c x y K).bind f=tF op c x y λx=>(K x).bind f:=by unfold tF;cases op <;> simp only [bF,bq]
theorem HR(P:Program)(c:Option Bool)(t:TypeId)(x y:T)(K:Bool->Option R)(f:R->Option S):(lZ P c t x y K).bind f=lZ P c t x y λx=>(K x).bind f:=by unfold lZ;split <;> simp only [bF,bq]
theorem HT(P:Program)(c:Option Bool):∀(ts:List TypeId) (xs a:List T) (K:Bool->Option R) (f:R->Option S),(eN P c ts xs a K).bind f=eN P c ts xs a λx=>(K x).bind f
 | [],[],[],_,_=>rfl
 | t::ts,x::xs,y::a,K,f=>by simp only [eN,HR,HT P c ts xs a]
 | [],[],_::_,_,_=>rfl
 | [],_::_,_,_,_=>rfl
 | _::_,[],_,_,_=>rfl
 | _::_,_::_,[],_,_=>rfl
theorem MF(P:Program)(op:BinOp)(t ty:TypeId)(c:Option Bool)(x y:T)(K:T->Option R)(f:R->Option S):(r9 P op t ty c x y K).bind f=r9 P op t ty c x y λx=>(K x).bind f:=by unfold r9;cases op <;> simp only [] <;> first | rfl | (split <;> simp only [Mx,Tn,TI,bq])
theorem Pq(P:Program)(c:Option Bool)(t:TypeId)(x y:AV)(K:Bool->Option R)(f:R->Option S):(qD P c t x y K).bind f=qD P c t x y λx=>(K x).bind f:=by unfold qD;split <;> simp only [lX,bF,HR,HT,Vx,bq]
theorem UK(P:Program)(op:UnOp)(t:TypeId)(c:Option Bool)(x:T)(K:T->Option R)(f:R->Option S):(tQ P op t c x K).bind f=tQ P op t c x λx=>(K x).bind f:=by unfold tQ;split <;> simp only [bF,bq]
theorem vH(P:Program)(t:TypeId)(c:Option Bool)(cs:List T)(K:AV->Option R)(f:R->Option S):(lh P t c cs K).bind f=lh P t c cs λx=>(K x).bind f:=by unfold lh;simp only [lX,bF,Ez,ot,tM]
theorem I0(P:Program)(t:TypeId)(cs:List AV)(K:AV->Option R)(f:R->Option S):(nM P t cs K).bind f=nM P t cs λx=>(K x).bind f:=by unfold nM;simp only [lX,Vx]
theorem D3(h:Id->Option ab)(c:Option Bool)(i:Id)(n:Nat)(K:Nat->Bool->List (List T)->Option R)(f:R->Option S):(my h c i n K).bind f=my h c i n λa b l=>(K a b l).bind f:=by unfold my;split <;> simp only [bF,bq]
theorem QD(P:Program)(t:TypeId)(c:Option Bool)(i:Id)(sz aD off:Nat)(e:Row)(K:AV->Option R)(f:R->Option S):(sU P t c i sz aD off e K).bind f=sU P t c i sz aD off e λx=>(K x).bind f:=by unfold sU;simp only [lX,cR,bF,Ez,ot,tM,bq]
theorem QC(P:Program)(s:St)(c:Option Bool)(t:TypeId)(a:AV)(K:AV->Option R)(f:R->Option S):(kA P s c t a K).bind f=kA P s c t a λx=>(K x).bind f:=by
 unfold kA;rw [lX];congr 1;split
 .split <;> simp only [I0,vH,bq]
 .split <;> simp only [cR,bF,vH,QD,bq]
 .simp only [D3,cR,bF,vH,bq]
 .simp only [bF,vH]
 .rfl
theorem TF(P:Program)(s:St)(t:TypeId)(a v:AV)(K:aH->Option R)(f:R->Option S):(jz P s t a v K).bind f=jz P s t a v λx=>(K x).bind f:=by
 unfold jz;rw [lX];congr 1;split
 .split <;> simp only [cR,bq]
 .split
  .simp only [Vx,cR,bF,bq]
  .split
   .split <;> simp only [cR,bF,bq]
   .rfl
  .rfl
 .split <;> simp only [Vx,cR,bF,bq]
 .rfl
theorem qM(c:Option Bool)(i:Int)(n:Nat)(K:Option R)(f:R->Option S):(kx c i n K).bind f=kx c i n (K.bind f):=by unfold kx;simp only [bF]
theorem Qh(P:Program)(s:St)(c:Option Bool)(t:TypeId)(x:AV)(i:Int)(K:AV->Option R)(f:R->Option S):(jO P s c t x i K).bind f=jO P s c t x i λx=>(K x).bind f:=by
 unfold jO;split
 .split
  .split <;> simp only [cR,qM,bq]
  .simp only [D3,cR,qM,bq]
  .split <;> simp only [cR,qM,bq]
  .simp only [bF,qM]
  .rfl
 .split
  .rw [qM];congr 1;split <;> simp only [bF,bq]
  .rfl
theorem PJ(P:Program)(c:Option Bool)(t:TypeId)(x:AV)(k:Nat)(K:AV->Option R)(f:R->Option S):(sL P c t x k K).bind f=sL P c t x k λx=>(K x).bind f:=by
 unfold sL;split
 .rw [cR];congr 1;split <;> simp only [bF,bq]
 .rfl
theorem PH(P:Program)(t:TypeId)(x:AV)(k:Nat)(K:AV->Option R)(f:R->Option S):(sK P t x k K).bind f=sK P t x k λx=>(K x).bind f:=by
 unfold sK;split
 .split <;> simp only [I0,bq]
 .rfl
theorem Qw(P:Program)(s:St)(c:Option Bool)(t:TypeId)(x:AV)(K:AV->Option R)(f:R->Option S):(nL P s c t x K).bind f=nL P s c t x λx=>(K x).bind f:=by
 unfold nL;split
 .split <;> simp only [bF,bq]
 .rfl
 .split
  .split <;> rfl
  .simp only [D3]
  .rfl
  .simp only [bF]
  .rfl
 .rfl
theorem ML(s:St)(c:Option Bool)(g:Option Gs)(o:Option Operand)(K:Option Int->Option R)(f:R->Option S):(jg s c g o K).bind f=jg s c g o λx=>(K x).bind f:=by
 unfold jg;split
 .rfl
 .simp only [Vx,bF]
theorem Ts(P:Program)(s:St)(c:Option Bool)(t:TypeId)(x:AV)(a hi b:Option Int)(K:AV->Option R)(f:R->Option S):(oc P s c t x a hi b K).bind f=oc P s c t x a hi b λx=>(K x).bind f:=by
 unfold oc;split
 .split <;> simp only [bF,bq]
 .split
  .split
   .split <;> simp only [cR,bF,bq]
   .split <;> simp only [cR,bF,bq]
   .simp only [cR,bF,bq]
   .rfl
  .split
   .simp only [cR,bF,bq]
   .split <;> simp only [cR,bF,bq]
   .rfl
 .rfl
theorem Mr(P:Program)(s:St)(t:TypeId)(sz:Nat)(a:List T)(y:AV)(K:List (List T)->Option R)(f:R->Option S):(mK P s t sz a y K).bind f=mK P s t sz a y λx=>(K x).bind f:=by unfold mK;split <;> simp only [Vx,cR,bF,bq]
theorem Mn(P:Program)(s:St)(d:Nat)(e:TypeId)(i:Id)(sz aD rsz nx:Nat)(es:List Row)(j:Id)(cs:List AV)(K:AV->aH->Option R)(f:R->Option S):(qf P s d e i sz aD rsz nx es j cs K).bind f=qf P s d e i sz aD rsz nx es j cs λv u=>(K v u).bind f:=by
 unfold qf;rw [cR];congr 1;rw [Vx];congr 1;funext l;split
 .split <;> simp only [cR,bF,bq]
 .split <;> simp only [cR,bF,bq]
 .rfl
theorem Ml(P:Program)(s:St)(d:Nat)(rw:Bool)(t ty:TypeId)(x y:AV)(K:AV->aH->Option R)(f:R->Option S):(kT P s d rw t ty x y K).bind f=kT P s d rw t ty x y λv u=>(K v u).bind f:=by
 unfold kT;rw [Vx];congr 1;funext e;rw [Vx];congr 1;funext b;rw [cR];congr 1;split
 .split <;> simp only [Mn,bq]
 .rw [Mr];congr 1;funext a;split
  .split <;> simp only [cR,bF,bq]
  .split <;> simp only [cR,bF,bq]
  .simp only [Vx,bF]
  .rfl
theorem QS(P:Program)(d:Nat)(t:TypeId)(a:Nat)(n m:T)(K:AV->aH->Option R)(f:R->Option S):(sV P d t a n m K).bind f=sV P d t a n m λv u=>(K v u).bind f:=by unfold sV;rw [Vx];congr 1;funext e;rw [Vx];congr 1;funext b;rw [bF];congr 1;funext n;rw [bF];congr 1;funext m;rw [cR];congr 1;rw [bF];congr 1;funext _;rw [lX];congr 1;split <;> simp only [cR,bq]
theorem CX(P:Program)(k:TypeId)(c:Option Bool)(v:AV)(K:Bool->List Ck->List T->Option R)(f:R->Option S):(pb P k c v K).bind f=pb P k c v λa b l=>(K a b l).bind f:=by unfold pb;rw [Vx];congr 1;funext q;split <;> simp only [tM,Vx,cR,bq]
theorem QK(P:Program)(s:St)(c:Option Bool)(t:TypeId)(x k:AV)(ok:Bool)(K:AV->Option R)(f:R->Option S):(nN P s c t x k ok K).bind f=nN P s c t x k ok λv=>(K v).bind f:=by
 unfold nN;rw [Vx];congr 1;funext q;rw [Vx];congr 1;funext z;rw [CX];congr 1;funext a b l;split
 .split
  .rw [cR];simp only [ot,bq]
  .rfl
 .rfl
theorem QU(P:Program)(d:Nat)(t:TypeId)(K:AV->aH->Option R)(f:R->Option S):(sW P d t K).bind f=sW P d t λv u=>(K v u).bind f:=by unfold sW;simp only [Vx,cR,bq]
theorem Nh(P:Program)(s:St)(t:TypeId)(x k:AV)(K:aH->Option R)(f:R->Option S):(nA P s t x k K).bind f=nA P s t x k λu=>(K u).bind f:=by
 unfold nA;rw [Vx];congr 1;funext q;rw [CX];congr 1;funext a b l;split
 .split
  .rw [cR];rfl
  .rfl
 .rfl
theorem R5(P:Program)(s:St)(t:TypeId)(x k v:AV)(K:aH->Option R)(f:R->Option S):(nW P s t x k v K).bind f=nW P s t x k v λu=>(K u).bind f:=by
 unfold nW;rw [Vx];congr 1;funext q;rw [CX];congr 1;funext a b l;split
 .split
  .rw [cR];simp only [Vx,ot,bq]
  .rfl
 .rfl
theorem C8(k:IntKind)(c:Option Bool)(b:Bool):∀(l:List T) (a:Int) (K:T->Option R) (f:R->Option S),(pe k c b a l K).bind f=pe k c b a l λx=>(K x).bind f
 | [],_,_,_=>rfl
 | y::r,a,K,f=>by simp only [pe,bF,C8 k c b r]
theorem M9(P:Program)(c:Option Bool)(a b:TypeId)(x:T)(K:T->Option R)(f:R->Option S):(su P c a b x K).bind f=su P c a b x λx=>(K x).bind f:=by unfold su;split <;> simp only [bF,bq]
theorem F3(ids:List Id)(d:Nat)(c:Option Bool)(j:Nat)(r:bX)(x:T)(K:AV->aH->Nat->Option R)(f:R->Option S):(mP ids d c j r x K).bind f=mP ids d c j r x λv u j=>(K v u j).bind f:=by
 unfold mP;split
 .exact ot _ _ _ _ _
 .exact ot _ _ _ _ _
 .split <;> simp only [bF,bq]
 .split <;> simp only [bq]
 .split <;> simp only [bq]
 .split <;> simp only [bF,bq]
 .split <;> simp only [bF,bq]
 .rfl
 .rfl
 .rfl
theorem yB(ids:List Id)(d:Nat)(c:Option Bool):∀(a:List bX) (j:Nat) (xs:List T) (K:List AV->aH->Nat->Option R) (f:R->Option S),(kj ids d c j a xs K).bind f=kj ids d c j a xs λv u j=>(K v u j).bind f
 | [],_,_,_,_=>rfl
 | r::a,j,xs,K,f=>by simp only [kj,bF,F3,yB ids d c a]
theorem qp(ids:List Id)(d:Nat)(c:Option Bool):∀(a:List bX) (j:Nat) (xs:List T) (K:List AV->aH->Nat->Option R) (f:R->Option S),(eC ids d c j a xs K).bind f=eC ids d c j a xs λv u j=>(K v u j).bind f
 | [],_,_,_,_=>rfl
 | r::a,j,xs,K,f=>by
  cases r
  case new l=>cases c <;> simp only [eC,yB,qp ids d _ a,bq]
  all_goals simp only [eC,bF,F3,yB,qp ids d c a]
theorem yD(all:List Id)(d:Nat):∀(a:List jV) (b:List Id) (j:Nat) (xs:List T) (K:aH->Option R) (f:R->Option S),(gz all d j b a xs K).bind f=gz all d j b a xs λu=>(K u).bind f
 | [],[],_,_,_,_=>rfl
 | [],_::_,_,_,_,_=>rfl
 | r::a,[],_,_,_,_=>by cases r <;> rfl
 | r::a,i::b,j,xs,K,f=>by cases r <;> simp only [gz,bF,yB,yD all d a]
theorem TX(P:Program)(c:Option Bool)(t:TypeId)(v:AV)(K:AV->Option R)(f:R->Option S):(nh P c t v K).bind f=nh P c t v λx=>(K x).bind f:=by
 unfold nh;split
 .exact ot _ _ _ _ _
 .split
  .exact tM _ _ _ _ _
  .rfl
 .rfl
theorem EC(P:Program)(c:Option Bool):∀(ts:List TypeId) (vs:List AV) (K:List AV->Option R) (f:R->Option S),(jB P c ts vs K).bind f=jB P c ts vs λx=>(K x).bind f
 | [],_,_,_=>rfl
 | _::_,[],_,_=>rfl
 | t::ts,v::vs,K,f=>by simp only [jB,TX,EC P c ts vs]
theorem FH(P:Program)(A:cM)(O:au)(s:St)(d:Nat)(c:Option Bool)(g:FuncId)(args:List AV)(K:AV->aH->Option R)(f:R->Option S):
  (gV P A O s d c g args K).bind f=gV P A O s d c g args λv u=>(K v u).bind f:=by
 unfold gV;split
 .rfl
 .split
  .simp only [Vx,bF,qp,EC]
  .split
   .rfl
   .simp only [Vx,lX,bq,bF,qp,yD,EC]
theorem Mz(h:Id->Option ab)(i new:Id)(n rsz:Nat)(K:aH->Option R)(f:R->Option S):(uI h i new n rsz K).bind f=uI h i new n rsz λu=>(K u).bind f:=by
 unfold uI;split
 .rw [cR];simp only [bF,bq]
 .rfl
theorem MW(iE:Bool)(P:Program)(A:cM)(O:au)(s:St)(d:Nat)(c:Option Bool)(g:FuncId)(args:List AV)(K:AV->aH->Option R)(f:R->Option S):
  (jJ iE P A O s d c g args K).bind f=jJ iE P A O s d c g args λv u=>(K v u).bind f:=by
 unfold jJ;split
 .exact FH _ _ _ _ _ _ _ _ _ _
 .split
  .simp only [bF,lX,FH,Mz,bq]
  .rfl
theorem IF(c:Option Bool)(v:AV)(K:Int->Option R)(f:R->Option S):(pa c v K).bind f=pa c v λx=>(K x).bind f:=by unfold pa;simp only [Vx,bF]
theorem Bt(P:Program)(A:cM)(O:au)(g:Option Gs)(o:Oper)(s:St)(K:AV->aH->Option R)(f:R->Option S):
  (jI P A O g o s K).bind f=jI P A O g o s λv u=>(K v u).bind f:=by
 unfold jI;cases o.op <;> dsimp only
 case pick=>simp only [Vx,bF]
 case alloc=>split <;> simp only [Vx,bq]
 case box=>split <;> simp only [cR,bq]
 case build=>simp only [Vx]
 case buildSlice=>
  rw [Vx];congr 1;funext e;rw [cR];congr 1
  .split <;> simp only [cR,bq]
  rw [cR];congr 1;rw [cR];congr 1;rw [Vx];congr 1;funext q;split <;> rfl
 case load=>simp only [QC]
 case store=>split <;> simp only [TF,bq]
 case nilCheck=>split <;> simp only [bF,bq]
 case binOp=>split <;> simp only [Vx,Pq,MF]
 case unOp=>simp only [Vx,UK]
 case convert=>
  split
  .split <;> simp only [Vx,bF,bq]
  .simp only [Vx,M9]
 case makeFunc=>split <;> simp_all
 case makeSlice=>split <;> simp only [Vx,QS,bq]
 case makeMap=>split <;> simp only [QU,bq]
 case lookup=>simp only [QK]
 case mapUpdate=>split <;> simp only [R5,bq]
 case slice=>simp only [ML,Ts]
 case fieldAddr=>simp only [PJ]
 case field=>simp only [PH]
 case indexAddr=>simp only [IF,Qh]
 case index=>
  simp only [IF];congr 1;funext n;split
  .simp only [Vx,bF,qM]
  .split <;> simp only [lX,Vx,qM,vH,bq]
  .rfl
 case extract=>split <;> simp only [Vx,bq]
 case call a=>
  split
  .split <;> simp only [Qw,bq]
  .split <;> simp only [Ml,bq]
  .split
   .rw [Vx];congr 1;funext l;split <;> simp only [bF,C8,bq]
   .rfl
  .split
   .rw [Vx];congr 1;funext l;split <;> simp only [bF,C8,bq]
   .rfl
  .split <;> simp only [Nh,bq]
  ·(repeat' split) <;> simp only [lX,bq]
  .split <;> simp only [MW,bq]
  .rfl
 all_goals rfl
def dG(P:Program)(A:cM)(O:au)(g:Option Gs)(o:Oper)(s:St):Option (AV×aH):=jI P A O g o s λv u=>some (v,u)
theorem r7(P:Program)(A:cM)(O:au)(g:Option Gs)(o:Oper)(s:St)(K:AV->aH->Option R):jI P A O g o s K= (dG P A O g o s).bind λp=>K p.1 p.2:=by unfold dG;rw [Bt];rfl
theorem Iz(a:Array Oper)(o:Oper)(s:St)(K:Option Gs->Option R)(f:R->Option S):(dI a o s K).bind f=dI a o s λg=>(K g).bind f:=by
 unfold dI;split
 .rfl
 .split
  .rfl
  .simp only [Vx,bF]
theorem zm(a:Array Oper)(o:Oper)(s:St)(K:Option Gs->Option R):dI a o s K= (dI a o s some).bind K:=by rw [Iz];rfl
def fj(P:Program)(A:cM)(O:au)(a:Bool)(nt:Nat)(b:Array Oper)(o:Oper)(s:St):Option St:=pw P A O a nt b o s some
theorem RM(P:Program)(A:cM)(O:au)(a:Bool)(nt:Nat)(b:Array Oper)(o:Oper)(s:St)(K:St->Option R):pw P A O a nt b o s K= (fj P A O a nt b o s).bind K:=by
 unfold fj pw;rw [Iz];congr 1;funext g;cases rv A a o g with
 | none=>dsimp only;rw [Bt];congr 1;funext v u;rw [cR];rfl
 | some d=>
  dsimp only;cases yI nt o d with
  | false=>rfl
  | true=>
   cases d.c with
   | false=>rfl
   | true=>simp only [cond_true];rw [Bt];congr 1;funext v u;rw [cR];rfl
def jv(P:Program)(A:cM)(O:au)(a:Bool)(nt:Nat)(b:Array Oper):List Oper->St->Option St
 | [],s=>some s
 | o::r,s=>(fj P A O a nt b o s).bind (jv P A O a nt b r)
theorem DY(P:Program)(A:cM)(O:au)(a:Bool)(nt:Nat)(b:Array Oper):∀(l:List Oper) (s:St) (K:St->Option R),we P A O a nt b l s K= (jv P A O a nt b l s).bind K
 | [],_,_=>rfl
 | o::r,s,K=>by simp only [we,jv,RM,Vx];congr 1;funext s';exact DY P A O a nt b r s' K
end
open Go
structure Ctx where
 A0:Nat->Prop
 M:Nat->Prop
 N0:Nat
def Ctx.MO(c:Ctx)(b:Nat):Prop:=c.M b\/c.N0<=b
def AA(c:Ctx)(w:World)(O:Id->Option Nat)(b:Nat):Prop:=(c.A0 b\/c.MO b)/\b < w.heap.size/\∀i,O i≠some b
def cT(w:World)(A:Nat->Prop)(sz:Nat)(b:Bool)(l:List (List T))(v:Value)(Q:Nat->Prop):Prop:=
 ∃a cap,v= .slice a l.length cap/\l.length<=cap/\(a=none↔b=true)/\True/\
  (cap=0\/∃ah off arr t,a=some ⟨ah,off,none⟩/\Q ah/\w.heap[ah]? =some (.cells arr t (0,0))/\off+cap * sz<=arr.size/\aZ w A ah sz off l)
def jb(w:World)(A:Nat->Prop)(ρ:Id->Option Value)(O:Id->Option Nat)(i:Id)(ah sz aD rsz base:Nat)(e:Row):Prop:=
 e.cs.length=sz/\aD < sz/\(∀j x,j≠aD->e.cs[j]? =some x->∃v,w.cell? ⟨ah,base+j,none⟩=some v/\aB w A x v)/\
 ∃v,w.cell? ⟨ah,base+aD,none⟩=some v/\ρ (.g i e.n)=some v/\
  match e.own with
  | some p=>cT w A rsz p.1 p.2 v (λb=>O (.g i e.n)=some b)
  | none=>O (.g i e.n)=none
def cr(w:World)(A:Nat->Prop)(ρ:Id->Option Value)(O:Id->Option Nat)(i:Id)(ah sz aD rsz:Nat):Nat->List Row->Prop
 | _,[]=>True
 | base,e::es=>jb w A ρ O i ah sz aD rsz base e/\cr w A ρ O i ah sz aD rsz (base+sz) es
def oN(ρ:Id->Option Value)(O:Id->Option Nat)(i:Id)(nx:Nat)(es:List Row):Prop:=
 (es.map (·.n)).Nodup/\(∀e∈es,e.n < nx)/\(∀n,nx<=n->ρ (.g i n)=none)/\∀n b,O (.g i n)=some b->∃e∈es,e.n=n
def de(w:World)(A:Nat->Prop)(ρ:Id->Option Value)(O:Id->Option Nat)(i:Id):ab->Prop
 | .box cs=>∃b arr t,ρ i=some (.pointer (some ⟨b,0,none⟩))/\O i=some b/\w.heap[b]? =some (.cells arr t (0,0))/\aC w A ρ cs arr.toList/\
   (∀u∈arr.toList,u.oneCell'=true/\u.cells= #[u])
 | .sl g sz b l=>∃v,ρ i=some v/\cT w A sz b l v (λah=>if g=true then A ah else O i=some ah)/\(g=true->O i=none)
 | .iW l=>∃b,ρ i=some (.pointer (some ⟨b,0,none⟩))/\O i=none/\A b/\aX w A b 0 l
 | .arr cs=>∃b arr t,ρ i=some (.slice (some ⟨b,0,none⟩) 1 1)/\O i=some b/\w.heap[b]? =some (.cells arr t (0,0))/\aC w A ρ cs arr.toList/\
   (∀u∈arr.toList,u.oneCell'=true/\u.cells= #[u])
 | .mp ag ks vk es=>∃b d f,ρ i=some (.map (some b))/\O i=some b/\w.heap[b]? =some (.map d f)/\
   d.toList.map (λe=>(e.key,e.val))=es.map (λp=>(dr ag p.1,dL p.2))/\(es.all λp=>b9 ks p.1 && ef vk p.2)=true
 | .rows b sz aD rsz nx es=>∃a cap,ρ i=some (.slice a es.length cap)/\es.length<=cap/\(a=none↔b=true)/\oN ρ O i nx es/\
   (cap=0\/∃ah off arr t,a=some ⟨ah,off,none⟩/\O i=some ah/\w.heap[ah]? =some (.cells arr t (0,0))/\off+cap * sz<=arr.size/\cr w A ρ O i ah sz aD rsz off es)
 | .dead=>(∃v,ρ i=some v/\v.oneCell'=true/\v.cells= #[v])/\O i=none
structure HS (c:Ctx) (w:World) (h:Id->Option ab) (ρ:Id->Option Value) (O:Id->Option Nat):Prop where
 ah:∀i b,h i=some b->de w (AA c w O) ρ O i b
 cC:∀i,i.real=true->h i=none->ρ i=none/\O i=none
 eH:∀i n,h (.g i n)=none
 fO:∀i n,h i=none->ρ (.g i n)=none/\O (.g i n)=none
 gone:∀i n u,ρ (.g i n)=some u->u.oneCell'=true/\u.cells= #[u]
 inj:∀i j b,O i=some b->O j=some b->i=j
 lt:∀i b,O i=some b->b < w.heap.size
 own:∀i b,O i=some b->c.MO b
 size:c.N0<=w.heap.size
structure Le (w:World) (ρ:Id->Option Value) (O:Id->Option Nat) (w':World) (ρ':Id->Option Value) (O':Id->Option Nat):Prop where
 os:w'.os=w.os
 output:w'.output=w.output
 tape:w'.tape=w.tape
 size:w.heap.size<=w'.heap.size
 eU:∀i v,ρ i=some v->ρ' i=some v
 ah:∀b,b < w.heap.size->(∀i,O i≠some b)->w'.heap[b]? =w.heap[b]?
 own:∀i b,O' i=some b->(∃j,O j=some b)\/w.heap.size<=b
section
variable {c:Ctx} {w w' w'':World} {h h':Id->Option ab} {ρ ρ' ρ'':Id->Option Value} {O O' O'':Id->Option Nat}
theorem Le.refl:Le w ρ O w ρ O:=⟨rfl,rfl,rfl,Vq _,λ_ _ h=>h,λ_ _ _=>rfl,λi b h=> .inl ⟨i,h⟩⟩
theorem Le.trans(a:Le w ρ O w' ρ' O')(b:Le w' ρ' O' w'' ρ'' O''):Le w ρ O w'' ρ'' O'' where
 os:=b.os.trans a.os
 output:=b.output.trans a.output
 tape:=b.tape.trans a.tape
 size:=VO a.size b.size
 eU i v h:=b.eU i v (a.eU i v h)
 ah k hk hn:=by
  rw [b.ah k (W0 hk a.size),a.ah k hk hn];intro i hi;rcases a.own i k hi with⟨j,hj⟩ | h
  .exact hn j hj
  .omega
 own i k hi:=by
  rcases b.own i k hi with⟨j,hj⟩ | h
  .exact a.own j k hj
  .exact .inr (VO a.size h)
theorem Le.A(le:Le w ρ O w' ρ' O')(b:Nat)(a:AA c w O b):AA c w' O' b/\w'.heap[b]? =w.heap[b]?:=by
 refine⟨⟨a.1,W0 a.2.1 le.size,λi hi=> ?_⟩,le.ah b a.2.1 a.2.2⟩;rcases le.own i b hi with⟨j,d⟩ | h
 .exact a.2.2 j d
 .have:=a.2.1;omega
theorem cT.mono{A A' Q f:Nat->Prop}{sz:Nat}{b:Bool}{l:List (List T)}{v:Value}(o:∀b,A b->A' b/\w'.heap[b]? =w.heap[b]?)
  (e:∀b,Q b->f b/\w'.heap[b]? =w.heap[b]?) (hs:cT w A sz b l v Q):cT w' A' sz b l v f:=by
 obtain⟨a,cap,h1,k,m,n,d⟩:=hs;refine⟨a,cap,h1,k,m,n, ?_⟩;rcases d with d | ⟨ah,off,arr,t,g,e2,e3,i,j⟩
 .exact .inl d
 .exact .inr ⟨ah,off,arr,t,g,(e _ e2).1,by rw [(e _ e2).2];exact e3,i,aZ.nO o ah sz (e _ e2).2 off l j⟩
def rM(i:Id)(w:World)(ρ:Id->Option Value)(O:Id->Option Nat)(w':World)(ρ':Id->Option Value)(O':Id->Option Nat):Prop:=
 ∀n,ρ' (.g i n)=ρ (.g i n)/\O' (.g i n)=O (.g i n)/\∀b,O (.g i n)=some b->w'.heap[b]? =w.heap[b]?
theorem jb.mono{A A':Nat->Prop}{i:Id}{ah sz aD rsz base:Nat}{e:Row}(f:∀b,A b->A' b/\w'.heap[b]? =w.heap[b]?)(hb:w'.heap[ah]? =w.heap[ah]?)(a:rM i w ρ O w' ρ' O')(h:jb w A ρ O i ah sz aD rsz base e):
  jb w' A' ρ' O' i ah sz aD rsz base e:=by
 obtain⟨h1,m,o,v,q,r,t⟩:=h;have g:∀p,w'.cell? ⟨ah,p,none⟩=w.cell? ⟨ah,p,none⟩:=λp=>nu hb;refine⟨h1,m,λj x y z=> ?_,v,by rw [g];exact q,by rw [(a e.n).1];exact r, ?_⟩
 .obtain⟨u,l,d⟩:=o j x y z;exact⟨u,by rw [g];exact l,aB.mono f x u d⟩
 .revert t;cases e.own with
  | none=>intro h;simp only at h⊢;rw [(a e.n).2.1];exact h
  | some p=>intro d;refine cT.mono f (λb k=> ?_) d;rw [(a e.n).2.1];exact⟨k,(a e.n).2.2 b k⟩
theorem cr.mono{A A':Nat->Prop}{i:Id}{ah sz aD rsz:Nat}(a:∀b,A b->A' b/\w'.heap[b]? =w.heap[b]?)(hb:w'.heap[ah]? =w.heap[ah]?)(d:rM i w ρ O w' ρ' O'):∀{es:List Row} {base:Nat},cr w A ρ O i ah sz aD rsz base es->
  cr w' A' ρ' O' i ah sz aD rsz base es
 | [],_,_=>trivial
 | e::es,base,h=>⟨jb.mono a hb d h.1,cr.mono a hb d h.2⟩
theorem cT.fS{A A' Q a:Nat->Prop}{sz:Nat}{b:Bool}{l:List (List T)}{v:Value}(d:∀b,A b->A' b/\w'.heap[b]? =w.heap[b]?)
  (e:∀b,Q b->a b/\w'.heap[b]? =w.heap[b]?) (hs:cT w A sz b l v Q):cT w' A' sz b l v a:=cT.mono d e hs
theorem jb.move{A A':Nat->Prop}{i i':Id}{ah blk' sz aD rsz base a:Nat}{e:Row}(l:∀j,j < sz->w'.cell? ⟨blk',a+j,none⟩=w.cell? ⟨ah,base+j,none⟩)(k:∀b,A b->A' b/\w'.heap[b]? =w.heap[b]?)
  (h1:ρ' (.g i' e.n)=ρ (.g i e.n)) (f:O' (.g i' e.n)=O (.g i e.n)) (D:∀b,O (.g i e.n)=some b->w'.heap[b]? =w.heap[b]?) (h:jb w A ρ O i ah sz aD rsz base e):jb w' A' ρ' O' i' blk' sz aD rsz a e:=by
 obtain⟨q,d,r,v,t,y,z⟩:=h;refine⟨q,d,λj x E o=> ?_,v,by rw [l _ d];exact t,by rw [h1];exact y, ?_⟩
 .obtain⟨u,B,C⟩:=r j x E o;have:=(Vi.1 o).1;exact⟨u,by rw [l j (by omega)];exact B,aB.mono k x u C⟩
 .revert z;cases e.own with
  | none=>intro h;simp only at h⊢;rw [f];exact h
  | some p=>intro g;refine cT.mono k (λb m=> ?_) g;rw [f];exact⟨m,D b m⟩
theorem cr.move{A A':Nat->Prop}{i i':Id}{ah blk' sz aD rsz:Nat}(d:∀b,A b->A' b/\w'.heap[b]? =w.heap[b]?):∀{es:List Row} {base a:Nat},
  (∀p,p < es.length * sz->w'.cell? ⟨blk',a+p,none⟩=w.cell? ⟨ah,base+p,none⟩)->(∀e∈es,ρ' (.g i' e.n)=ρ (.g i e.n)/\O' (.g i' e.n)=O (.g i e.n)/\∀b,O (.g i e.n)=some b->w'.heap[b]? =w.heap[b]?)->
  cr w A ρ O i ah sz aD rsz base es->cr w' A' ρ' O' i' blk' sz aD rsz a es
 | [],_,_,_,_,_=>trivial
 | e::es,base,a,f,k,h=>by
  have el:(e::es).length * sz=sz+es.length * sz:=by simp [Wm];omega
  obtain⟨h1,l,m⟩:=k e Vb;refine⟨jb.move (λj q=>f j (by omega)) d h1 l m h.1,cr.move d (λp r=> ?_) (λe o=>k e (Vc _ o)) h.2⟩;rw [XZ,XZ];exact f (sz+p) (by omega)
theorem cr.append{A:Nat->Prop}{i:Id}{ah sz aD rsz:Nat}:∀{es a:List Row} {base:Nat},cr w A ρ O i ah sz aD rsz base es->cr w A ρ O i ah sz aD rsz (base+es.length * sz) a->cr w A ρ O i ah sz aD rsz base (es++a)
 | [],a,base,_,h=>by simpa using h
 | e::es,a,base,h,h'=>by
  refine⟨h.1,cr.append h.2 ?_⟩;have:base+sz+es.length * sz=base+ (e::es).length * sz:=by simp [Wm];omega
  rw [this];exact h'
theorem cr.set{A A':Nat->Prop}{i:Id}{ah sz aD rsz:Nat}{x:Row}(l:∀b,A b->A' b/\w'.heap[b]? =w.heap[b]?):∀{es:List Row} {base k:Nat},k < es.length->
  (∀p,base<=p->p < base+es.length * sz->¬(base+k * sz<=p/\p < base+k * sz+sz)->w'.cell? ⟨ah,p,none⟩=w.cell? ⟨ah,p,none⟩)->
  (∀j e,j≠k->es[j]? =some e->ρ' (.g i e.n)=ρ (.g i e.n)/\O' (.g i e.n)=O (.g i e.n)/\∀b,O (.g i e.n)=some b->w'.heap[b]? =w.heap[b]?)->
  jb w' A' ρ' O' i ah sz aD rsz (base+k * sz) x->cr w A ρ O i ah sz aD rsz base es->cr w' A' ρ' O' i ah sz aD rsz base (es.set k x)
 | [],_,_,f,_,_,_,_=>by simp at f
 | e::es,base,0,f,a,d,q,h=>by
  have el:(e::es).length * sz=sz+es.length * sz:=by simp [Wm];omega
  refine⟨by simpa using q,cr.move l (λp u=>a _ (by omega) (by omega) (by omega)) (λe' m=> ?_) h.2⟩;obtain⟨j,o⟩:=Ym.1 m;exact d (j+1) e' (by omega) (by simpa using o)
 | e::es,base,k+1,f,a,d,q,h=>by
  have el:(e::es).length * sz=sz+es.length * sz:=by simp [Wm];omega
  have e2:(k+1) * sz=sz+k * sz:=by rw [Wm];omega
  obtain⟨h1,r,t⟩:=d 0 e (by omega) rfl;refine⟨jb.move (λj o=>a _ (by omega) (by omega) (by omega)) l h1 r t h.1,cr.set l (by simpa using f) (λp v y z=>a p (by omega) (by omega) (by omega)) (λj e' o m=>d (j+1) e' (by omega) (by simpa using m)) ?_ h.2⟩;rw [show base+sz+k * sz=base+ (k+1) * sz by omega];exact q
theorem oN.mono{i:Id}{nx:Nat}{es:List Row}(d:rM i w ρ O w' ρ' O')(h:oN ρ O i nx es):oN ρ' O' i nx es:=
 ⟨h.1,h.2.1,λn a=>by rw [(d n).1];exact h.2.2.1 n a,λn b a=>by rw [(d n).2.1] at a;exact h.2.2.2 n b a⟩
theorem de.mono{A A':Nat->Prop}{i:Id}(q:rM i w ρ O w' ρ' O')(k:∀b,A b->A' b/\w'.heap[b]? =w.heap[b]?)(d:∀i v,ρ i=some v->ρ' i=some v)(j:O' i=O i)
  (hb:∀b,O i=some b->w'.heap[b]? =w.heap[b]?):∀{b:ab},de w A ρ O i b->de w' A' ρ' O' i b
 | .box cs,⟨b,arr,t,e,e2,e3,f,g⟩=>⟨b,arr,t,d _ _ e,by rw [j];exact e2,by rw [hb _ e2];exact e3,aC.mono k d cs _ f,g⟩
 | .sl r sz b l,⟨v,e,e2,e3⟩=>by
  refine⟨v,d _ _ e,cT.mono k (λb m=> ?_) e2,by rw [j];exact e3⟩;cases r
  .simp only [VF,if_false] at m⊢;exact⟨by rw [j];exact m,hb _ m⟩
  .simp only [if_true] at m⊢;exact k _ m
 | .iW l,⟨b,e,e2,e3,f⟩=>⟨b,d _ _ e,by rw [j];exact e2,(k b e3).1,aX.mono k b e3 0 l f⟩
 | .arr cs,⟨b,arr,t,e,e2,e3,f,g⟩=>⟨b,arr,t,d _ _ e,by rw [j];exact e2,by rw [hb _ e2];exact e3,aC.mono k d cs _ f,g⟩
 | .mp ag ks vk es,⟨b,o,n,e,e2,e3,f,g⟩=>⟨b,o,n,d _ _ e,by rw [j];exact e2,by rw [hb _ e2];exact e3,f,g⟩
 | .rows b sz aD rsz nx es,h=>by
  obtain⟨a,cap,e,e2,e3,f,g⟩:=h;refine⟨a,cap,d _ _ e,e2,e3,f.mono q, ?_⟩;rcases g with g | ⟨ah,off,arr,t,q1,p,u,x,y⟩
  .exact .inl g
  .exact .inr ⟨ah,off,arr,t,q1,by rw [j];exact p,by rw [hb _ p];exact u,x,y.mono k (hb _ p) q⟩
 | .dead,⟨⟨v,e,e3⟩,e2⟩=>⟨⟨v,d _ _ e,e3⟩,by rw [j];exact e2⟩
def GK(w:World)(ρ:Id->Option Value)(O:Id->Option Nat)(w':World)(ρ':Id->Option Value)(O':Id->Option Nat):Prop:= ∀i,rM i w ρ O w' ρ' O'
theorem GK.refl:GK w ρ O w ρ O:=λ_ _=>⟨rfl,rfl,λ_ _=>rfl⟩
theorem HS.real(hs:HS c w h ρ O){i:Id}(hi:h i≠none):i.real=true:=by
 cases i with
 | g i n=>exact(hi (hs.eH i n)).elim
 | _=>rfl
theorem HS.o7(hs:HS c w h ρ O)(le:Le w ρ O w' ρ' O')
  (hblk:∀i b,h' i=some b->(h i=some b/\O' i=O i/\(∀ah,O i=some ah->w'.heap[ah]? =w.heap[ah]?)/\rM i w ρ O w' ρ' O')\/de w' (AA c w' O') ρ' O' i b)
  (hnone:∀i,i.real=true->h' i=none->ρ' i=none/\O' i=none) (hnog:∀i n,h' (.g i n)=none)
  (hgd:∀i n,h' i=none->ρ' (.g i n)=none/\O' (.g i n)=none) (hgo:∀i n u,ρ' (.g i n)=some u->u.oneCell'=true/\u.cells= #[u])
  (inj:∀i j b,O' i=some b->O' j=some b->i=j) (lt:∀i b,O' i=some b->b < w'.heap.size):HS c w' h' ρ' O' where
 ah i b hb:=by
  rcases hblk i b hb with⟨h1,h2,h3,h4⟩ | h1
  .exact de.mono h4 (λb ha=>le.A b ha) le.eU h2 h3 (hs.ah i b h1)
  .exact h1
 cC:=hnone
 eH:=hnog
 fO:=hgd
 gone:=hgo
 inj:=inj
 lt:=lt
 own i b hi:=by
  rcases le.own i b hi with⟨j,hj⟩ | h
  .exact hs.own j b hj
  .exact .inr (VO hs.size h)
 size:=VO hs.size le.size
theorem HS.go(hs:HS c w h ρ O)(le:Le w ρ O w' ρ' O')(a:GK w ρ O w' ρ' O')
  (e:∀i b,h' i=some b->(h i=some b/\O' i=O i/\(∀ah,O i=some ah->w'.heap[ah]? =w.heap[ah]?))\/de w' (AA c w' O') ρ' O' i b)
  (d:∀i,i.real=true->h' i=none->ρ' i=none/\O' i=none) (o:∀i,h' i=none->h i=none) (f:∀i n,h' (.g i n)=none)
  (inj:∀i j b,O' i=some b->O' j=some b->i=j) (lt:∀i b,O' i=some b->b < w'.heap.size):HS c w' h' ρ' O':=
 hs.o7 le (λi b hb=>by
  rcases e i b hb with⟨h1,l,m⟩ | h1
  .exact .inl ⟨h1,l,m,a i⟩
  .exact .inr h1) d f (λi n hi=>by
  have:=hs.fO i n (o i hi);rw [(a i n).1,(a i n).2.1];exact this) (λi n u k=>by rw [(a i n).1] at k;exact hs.gone i n u k) inj lt
theorem HS.world(hs:HS c w h ρ O)(le:Le w ρ O w' ρ O)(fS:∀i ah,O i=some ah->w'.heap[ah]? =w.heap[ah]?):HS c w' h ρ O:=
 hs.go le (λi n=>⟨rfl,rfl,λb hb=>fS _ b hb⟩) (λi _ hb=> .inl ⟨hb,rfl,λah h=>fS i ah h⟩) hs.cC (λ_ h=>h) hs.eH hs.inj λi b h=>W0 (hs.lt i b h) le.size
def aE{α:Type}(f:Id->Option α)(i:Id)(v:Option α):Id->Option α:=λj=>if j=i then v else f j
@[simp] theorem aF {α:Type} (f:Id->Option α) (i:Id) (v:Option α):aE f i v i=v:=by simp [aE]
theorem ar{α:Type}(f:Id->Option α){i j:Id}(v:Option α)(h:j≠i):aE f i v j=f j:=by simp [aE,h]
theorem eP(h:Id->Option ab)(i:Id)(b:ab):aL h [(i,b)]=aE h i (some b):=rfl
theorem dA(h:Id->Option ab)(i:Id)(b:ab)(us:aH):aL h ((i,b)::us)=aL (aE h i (some b)) us:=rfl
theorem mE(h:Id->Option ab):∀(us vs:aH),aL h (us++vs)=aL (aL h us) vs
 | [],_=>rfl
 | (i,b)::us,vs=>by simp only [Vf,dA];exact mE _ us vs
theorem aP{i j:Id}{n:Nat}(a:i.real=true):Id.g j n≠i:=by rintro rfl;cases a
theorem Le.alloc(hs:HS c w h ρ O){i:Id}(hr:i.real=true)(hi:h i=none)(o:Obj)(v:Value)(ob:Option Nat)(hob:ob=none\/ob=some w.heap.size):
  Le w ρ O (w.alloc o) (aE ρ i (some v)) (aE O i ob) where
 os:=rfl
 output:=rfl
 tape:=rfl
 size:=by simp
 eU j u hj:=by
  by_cases e:j=i
  .subst e;rw [(hs.cC _ hr hi).1] at hj;cases hj
  .rw [ar _ _ e];exact hj
 ah b hb _:=VW _ _ _ hb
 own j b hj:=by
  by_cases e:j=i
  .subst e;rw [aF] at hj;rcases hob with rfl | rfl
   .cases hj
   .cases hj;exact .inr (Vq _)
  .rw [ar _ _ e] at hj;exact .inl ⟨j,hj⟩
theorem HS.alloc(hs:HS c w h ρ O){i:Id}(l:i.real=true)(hi:h i=none)(o:Obj)(v:Value)(ob:Option Nat)(g:ob=none\/ob=some w.heap.size)(b:ab)
  (hb:de (w.alloc o) (AA c (w.alloc o) (aE O i ob)) (aE ρ i (some v)) (aE O i ob) i b):
  HS c (w.alloc o) (aE h i (some b)) (aE ρ i (some v)) (aE O i ob):=by
 refine hs.go (Le.alloc hs l hi o v ob g) (λj n=>⟨ar _ _ (aP l),ar _ _ (aP l),λb hb=>VW _ _ _ (hs.lt _ b hb)⟩) (λj q a=> ?_) (λj p a=> ?_) (λj a=> ?_) (λj n=>by rw [ar _ _ (aP l)];exact hs.eH j n) (λj k d a f=> ?_) (λj d a=> ?_)
 .by_cases e:j=i
  .subst e;rw [aF] at a;cases a;exact .inr hb
  .rw [ar _ _ e] at a;exact .inl ⟨a,ar _ _ e,λah m=>VW _ _ _ (hs.lt j ah m)⟩
 .by_cases e:j=i
  .subst e;rw [aF] at a;cases a
  .rw [ar _ _ e] at a;rw [ar _ _ e,ar _ _ e];exact hs.cC j p a
 .by_cases e:j=i
  .subst e;rw [aF] at a;cases a
  .rw [ar _ _ e] at a;exact a
 .by_cases e:j=i <;> by_cases e':k=i
  .rw [e,e']
  .exfalso;rw [ar _ _ e'] at f;subst e;rw [aF] at a;rcases g with rfl | rfl
   .cases a
   .cases a;exact XN _ (hs.lt _ _ f)
  .exfalso;rw [ar _ _ e] at a;subst e';rw [aF] at f;rcases g with rfl | rfl
   .cases f
   .cases f;exact XN _ (hs.lt _ _ a)
  .rw [ar _ _ e] at a;rw [ar _ _ e'] at f;exact hs.inj j k d a f
 .by_cases e:j=i
  .subst e;rw [aF] at a;rcases g with rfl | rfl
   .cases a
   .cases a;simp
  .rw [ar _ _ e] at a;have:=hs.lt j d a;simp;omega
theorem Le.release{i:Id}:Le w ρ O w ρ (aE O i none) where
 os:=rfl
 output:=rfl
 tape:=rfl
 size:=Vq _
 eU _ _ h:=h
 ah _ _ _:=rfl
 own j b hj:=by
  by_cases e:j=i
  .subst e;rw [aF] at hj;cases hj
  .rw [ar _ _ e] at hj;exact .inl ⟨j,hj⟩
theorem HS.release(hs:HS c w h ρ O){i:Id}(l:i.real=true)(b:ab)(hb:de w (AA c w (aE O i none)) ρ (aE O i none) i b):HS c w (aE h i (some b)) ρ (aE O i none):=by
 refine hs.go Le.release (λj n=>⟨rfl,ar _ _ (aP l),λ_ _=>rfl⟩) (λj m a=> ?_) (λj g a=> ?_) (λj a=> ?_) (λj n=>by rw [ar _ _ (aP l)];exact hs.eH j n) (λj k d a f=> ?_) (λj d a=> ?_)
 .by_cases e:j=i
  .subst e;rw [aF] at a;cases a;exact .inr hb
  .rw [ar _ _ e] at a;exact .inl ⟨a,ar _ _ e,λ_ _=>rfl⟩
 .by_cases e:j=i
  .subst e;rw [aF] at a;cases a
  .rw [ar _ _ e] at a⊢;exact hs.cC j g a
 .by_cases e:j=i
  .subst e;rw [aF] at a;cases a
  .rw [ar _ _ e] at a;exact a
 .by_cases e:j=i
  .subst e;rw [aF] at a;cases a
  .by_cases e':k=i
   .subst e';rw [aF] at f;cases f
   .rw [ar _ _ e] at a;rw [ar _ _ e'] at f;exact hs.inj j k d a f
 .by_cases e:j=i
  .subst e;rw [aF] at a;cases a
  .rw [ar _ _ e] at a;exact hs.lt j d a
theorem HS.freeze(hs:HS c w h ρ O){i:Id}{sz:Nat}{b:Bool}{l:List (List T)}(hi:h i=some (.sl false sz b l)):
  HS c w (aE h i (some (.sl true sz b l))) ρ (aE O i none):=by
 refine hs.release (hs.real (by rw [hi];simp)) _ ?_;obtain⟨v,f,e2,e3⟩:=hs.ah i _ hi;refine⟨v,f, ?_,λ_=>by simp⟩;simp only [if_true];have g:∀b,AA c w O b->AA c w (aE O i none) b/\w.heap[b]? =w.heap[b]?:=λb k=>(Le.release (ρ:=ρ) (i:=i)).A b k;refine cT.mono g (λah d=> ?_) e2;simp only [VF,if_false] at d;refine⟨⟨.inr (hs.own i ah d),hs.lt i ah d,λj a=> ?_⟩,rfl⟩;by_cases e:j=i
 .subst e;rw [aF] at a;cases a
 .rw [ar _ _ e] at a;exact e (hs.inj j i ah a d)
theorem HS.PU(hs:HS c w h ρ O){i:Id}{cs:List AV}{l:List T}(hi:h i=some (.box cs))(o:ff cs=some l):
  HS c w (aE h i (some (.iW l))) ρ (aE O i none):=by
 refine hs.release (hs.real (by rw [hi];simp)) _ ?_;obtain⟨b,arr,t,d,e2,e3,f,q⟩:=hs.ah i _ hi;have k:∀b,AA c w O b->AA c w (aE O i none) b/\w.heap[b]? =w.heap[b]?:=λb n=>(Le.release (ρ:=ρ) (i:=i)).A b n;have hb:AA c w (aE O i none) b:=⟨.inr (hs.own i b e2),hs.lt i b e2,λj a=>by
  by_cases e:j=i
  .subst e;rw [aF] at a;cases a
  .rw [ar _ _ e] at a;exact e (hs.inj j i b a e2)⟩
 refine⟨b,d,by simp,hb, ?_⟩;have m:=aR.mj o f;have key:∀(l:List T) (vs:List Value) (off:Nat),aR w (AA c w O) l vs->(∀j v,vs[j]? =some v->w.cell? ⟨b,off+j,none⟩=some v)->aX w (AA c w (aE O i none)) b off l:=by
  intro l;induction l with
  | nil=>intro vs off _ _;simp [aX]
  | cons x l p=>rintro vs off ⟨v,r,rfl,h1,g⟩ hv;simp only [aX];refine⟨⟨v,by simpa using hv 0 v rfl,aB.mono k x v h1⟩,p r (off+1) g λj u a=> ?_⟩;have:=hv (j+1) u (by simpa using a);rw [show off+1+j=off+ (j+1) by omega];exact this
 refine key l _ 0 m λj v a=> ?_;simp only [World.cell?,e3,VP];simpa using a
theorem Le.write{b:Nat}{i:Id}(hi:O i=some b)(hos:w'.os=w.os)(ho:w'.output=w.output)(ht:w'.tape=w.tape)(hsz:w'.heap.size=w.heap.size)(hk:∀k,k≠b->w'.heap[k]? =w.heap[k]?):Le w ρ O w' ρ O where
 os:=hos
 output:=ho
 tape:=ht
 size:=Nat.le_of_eq hsz.symm
 eU _ _ h:=h
 ah k _ hn:=hk k λe=>hn i (e▸hi)
 own j b hj:= .inl ⟨j,hj⟩
theorem HS.write(hs:HS c w h ρ O){b:Nat}{i:Id}(hi:O i=some b)(le:Le w ρ O w' ρ O)(m:∀k,k≠b->w'.heap[k]? =w.heap[k]?)(x:ab)
  (p:de w' (AA c w' O) ρ O i x) (g:h i≠none):HS c w' (aE h i (some x)) ρ O:=by
 have o:=hs.real g;refine hs.go le (λj n=>⟨rfl,rfl,λd g=>m d λe=>aP o (hs.inj _ i b (e▸g) hi)⟩) (λj q a=> ?_) (λj l a=> ?_) (λj a=> ?_) (λj n=>by rw [ar _ _ (aP o)];exact hs.eH j n) hs.inj (λj d a=>W0 (hs.lt j d a) le.size)
 .by_cases e:j=i
  .subst e;rw [aF] at a;cases a;exact .inr p
  .rw [ar _ _ e] at a;exact .inl ⟨a,rfl,λah f=>m ah λe'=>e (hs.inj j i b (e'▸f) hi)⟩
 .by_cases e:j=i
  .subst e;rw [aF] at a;cases a
  .rw [ar _ _ e] at a;exact hs.cC j l a
 .by_cases e:j=i
  .subst e;rw [aF] at a;cases a
  .rw [ar _ _ e] at a;exact a
end
def SS(w:World)(A:Nat->Prop)(ρ:Id->Option Value)(s:Nat->Option Gs×AV)(tmps:Array Value):Prop:=
 ∀k,match s k with
  | (none,v)=>an w A ρ v (tmps.getD k undef)
  | (some g,v)=>(tmps.getD g.d undef= .bool g.want/\g.c=true/\an w A ρ v (tmps.getD k undef))\/(tmps.getD g.d undef≠ .bool g.want/\g.c=false/\tmps.getD k undef=undef)
section
variable {c:Ctx} {w w':World} {ρ ρ':Id->Option Value} {A A':Nat->Prop} {s:Nat->Option Gs×AV} {tmps:Array Value}
theorem SS.mono(d:∀b,A b->A' b/\w'.heap[b]? =w.heap[b]?)(a:∀i v,ρ i=some v->ρ' i=some v)(hs:SS w A ρ s tmps):SS w' A' ρ' s tmps:=by
 intro k;have:=hs k;revert this;split
 .intro this;exact an.mono d a _ _ this
 .intro this;rcases this with⟨h1,e,f⟩ | h1
  .exact .inl ⟨h1,e,an.mono d a _ _ f⟩
  .exact .inr h1
def kP(tmps:Array Value):Option Gs->Prop
 | none=>True
 | some g=>tmps.getD g.d undef= .bool g.want/\g.c=true
theorem kP.cond{g:Option Gs}(h:kP tmps g):g.map (·.c)=none\/g.map (·.c)=some true:=by
 cases g with
 | none=>exact .inl rfl
 | some g=>exact .inr (by simp [h.2])
theorem Sn(v:Value):an w A ρ (BP v) v:=by
 have one:∀(u:Value) (x:T),pn u=some x->aB w A x u:=by
  intro u x e;cases u <;> simp only [pn,U7,reduceCtorEq] at e
  case slice a l g=>split at e <;> simp_all;subst e;simp [aB]
  case pointer a=>split at e <;> simp_all;subst e;simp [aB]
  case map a=>split at e <;> simp_all;subst e;simp [aB]
  all_goals (subst e;simp [aB])
 have all:∀(us:List Value) (l:List T),mh us=some l->aR w A l us:=by
  intro us;induction us with
  | nil=>intro l e;simp only [mh,U7] at e;subst e;rfl
  | cons u us d=>
   intro l e;simp only [mh] at e;cases h1:pn u with
   | none=>simp [h1] at e
   | some x=>
    cases b:mh us with
    | none=>simp [h1,b] at e
    | some f=>simp only [h1,b,Vj,U7] at e;subst e;exact⟨u,us,rfl,one u x h1,d f b⟩
 unfold BP;split
 .rename_i cs;split
  .rename_i l e;simp only [an];have:=all cs.toList l e;refine⟨cs.toList,by simp,aC.mn this, ?_⟩;have key:∀(l:List T) (us:List Value),aR w A l us->∀u∈us,u.oneCell'=true/\u.cells= #[u]:=by
    intro l;induction l with
    | nil=>intro us hu;simp only [aR] at hu;subst hu;simp
    | cons x l d=>
     intro us ⟨v,r,e,h1,b⟩ u hu;subst e;rcases Vo.1 hu with rfl | hu
     .exact h1.qT
     .exact d r b u hu
   exact key l _ this
  .simp [an]
 .split
  .rename_i x e;simp only [an];exact one _ x e
  .simp [an]
theorem SS.get{a:Act}{h:Id->Option ab}(hs:SS w A ρ s a.tmps){g:Option Gs}(l:kP a.tmps g)(x:Operand):an w A ρ (St.get ⟨s,h⟩ g x) (a.eval x):=by
 cases x with
 | tmp k=>
  simp only [St.get,Act.eval];have:=hs k;split at this
  .rename_i v e;simp only [e,lD,cond_true];exact this
  .rename_i d v e;simp only [e];cases g with
   | none=>simp [lD,an]
   | some i=>
    by_cases b:lD (some d) (some i)=true
    .simp only [b,cond_true];simp only [lD,Ve,beq_iff_eq] at b;rcases this with⟨_,_,j⟩ | ⟨h1,_⟩
     .exact j
     .exfalso;apply h1;rw [b.1,b.2];exact l.1
    .simp only [ZE] at b;simp [b,an]
 | const v=>exact Sn v
 | func f=>simp only [St.get,Act.eval,an];exact⟨[],[],rfl,by simp [aC],by simp [aC]⟩
 | global g=>simp [St.get,an]
theorem SS.mS{a:Act}{h:Id->Option ab}(hs:SS w A ρ s a.tmps){g:Option Gs}(j:kP a.tmps g)(cs x:Operand)(want:Bool)(f:a.eval cs= .bool want):
  an w A ρ (St.mS ⟨s,h⟩ g cs want x) (a.eval x):=by
 unfold St.mS;split
 .rename_i d k;simp only [Act.eval] at f⊢;have:=hs k;split
  .rename_i b v e;simp only [e] at this;by_cases h1:(b.d==d && b.want==want)=true
   .simp only [h1,ZF,cond_true];simp only [Ve,beq_iff_eq] at h1;rcases this with⟨_,_,m⟩ | ⟨l,_⟩
    .exact m
    .exfalso;apply l;rw [h1.1,h1.2];exact f
   .simp only [ZE] at h1;simp only [h1,WA];have i:=SS.get (h:=h) hs j (.tmp k);simp only [St.get,e,Act.eval] at i;exact i
  .rename_i v e;simp only [e] at this;exact this
 .exact SS.get hs j _
end
end Go.Aev
