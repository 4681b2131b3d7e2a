import Derived.WalkKit
set_option linter.all false
namespace Go.Aev
open Go
abbrev Uh:=@Option.some.injEq
abbrev Ui:=@Option.bind_eq_some_iff
abbrev Uj:=@List.mem_of_getElem?
abbrev Uk:=@List.mem_cons_self
abbrev Ul:=@List.getD_eq_getElem?_getD
abbrev Um:=@List.mem_cons_of_mem
abbrev Un:=@Bool.and_eq_true
abbrev Uo:=@List.cons_append
abbrev Up:=@List.getElem?_eq_getElem
abbrev Uq:=@List.nil_append
abbrev Ur:=@Int.mul_le_mul_of_nonneg_left
abbrev Us:=@List.getElem?_eq_some_iff
abbrev Ut:=@Option.bind_some
abbrev Uu:=@Result.andThen_ok
abbrev Uv:=@List.mem_singleton
abbrev Uw:=@List.mem_cons
abbrev Ux:=@List.mem_append_right
abbrev Uy:=@List.mem_append_left
abbrev Uz:=@Bool.not_true
abbrev UA:=@List.length_eq_zero_iff
abbrev UB:=@List.mem_append
abbrev UC:=@Nat.le_refl
abbrev UD:=@List.all_eq_true
abbrev UE:=@Bool.not_false
abbrev UF:=@Int.mul_comm
abbrev UG:=@Option.bind_assoc
abbrev UH:=@List.length_cons
abbrev UI:=@Sem.run_bind
abbrev UJ:=@Int.mul_le_mul_of_nonneg_right
abbrev UK:=@Option.getD_some
abbrev UL:=@Int.toNat_natCast
abbrev UM:=@Bool.false_eq_true
abbrev UN:=@Int.natAbs_natCast
abbrev UO:=@Int.mul_add
abbrev UP:=@Array.length_toList
abbrev UQ:=@Array.mem_of_getElem?
abbrev UR:=@List.append_assoc
abbrev US:=@Sem.run_pure
abbrev UT:=@List.mem_map
abbrev UW:=@Nat.zero_add
abbrev UX:=@List.length_nil
abbrev UY:=@Nat.le_trans
abbrev UZ:=@Int.natAbs_mul
abbrev U0:=@Int.mul_assoc
abbrev U1:=@List.mem_or_eq_of_mem_set
abbrev U3:=@Int.mul_left_comm
abbrev U4:=@Nat.add_sub_cancel_left
abbrev U5:=@List.map_cons
abbrev U6:=@Go.RowKit.Below.heap_alloc
abbrev U7:=@List.replicate_succ
abbrev U8:=@Array.all_eq_true_iff_forall_mem
abbrev U9:=@List.getElem?_map
abbrev Va:=@Option.getD_none
abbrev Vb:=@Option.some.inj
abbrev Vc:=@List.length_set
abbrev Vd:=@List.length_take
abbrev Ve:=@List.append_nil
abbrev Vf:=@Int.fdiv_eq_ediv_of_nonneg
abbrev Vg:=@Int.tdiv_eq_ediv_of_nonneg
abbrev Vh:=@List.take_of_length_le
abbrev Vi:=@Int.mul_nonneg
abbrev Vj:=@Int.sign_eq_one_of_pos
abbrev Vk:=@Int.emod_lt_of_pos
abbrev Vm:=@Nat.mul_le_mul_right
abbrev Vn:=@Prod.mk.injEq
abbrev Vo:=@Array.getElem?_toList
abbrev Vp:=@Nat.succ_mul
abbrev Vq:=@List.getElem?_append_right
abbrev Vr:=@Int.tmod_eq_emod_of_nonneg
abbrev Vs:=@Bool.decide_or
abbrev Vt:=@Addr.mk.injEq
abbrev Vu:=@List.length_append
abbrev Vv:=@Nat.sub_zero
abbrev Vw:=@Int.le_of_lt
abbrev Vx:=@Int.sign_eq_neg_one_of_neg
abbrev Vy:=@Int.one_mul
abbrev Vz:=@Int.mul_ediv_add_emod
abbrev VA:=@Int.lt_or_le
abbrev VD:=@Bool.false_or
abbrev VE:=@List.nodup_cons
abbrev VF:=@Bool.decide_and
abbrev VG:=@List.getElem?_set
abbrev VH:=@Value.slice.injEq
abbrev VI:=@List.getElem?_eq_none
abbrev VJ:=@List.getElem?_append_left
abbrev VK:=@Bool.or_eq_true
abbrev VL:=@Int.emod_nonneg
abbrev VM:=@Bool.not_eq_true'
abbrev VN:=@Rat.div_def
abbrev VO:=@List.eq_of_mem_replicate
abbrev VP:=@Int.ediv_nonneg
abbrev VQ:=@Rat.zero_mul
abbrev VR:=@List.drop_eq_getElem_cons
abbrev VS:=@Bool.false_and
abbrev VT:=@List.head?_cons
abbrev VU:=@Bool.true_and
abbrev VW:=@List.replicate_zero
abbrev VX:=@List.size_toArray
abbrev VY:=@Int.eq_ofNat_of_zero_le
abbrev VZ:=@List.all_cons
abbrev V5:=@Nat.lt_of_lt_of_le
abbrev V6:=@List.cons.injEq
abbrev V7:=@Rat.num_divInt_den
abbrev V8:=@Rat.mul_zero
abbrev V9:=@Int.ediv_lt_iff_lt_mul
abbrev Wa:=@List.getElem_of_mem
abbrev Wb:=@List.nodup_append
abbrev Wc:=@Int.lt_trichotomy
abbrev We:=@List.length_replicate
abbrev Wf:=@Int.add_zero
abbrev Wg:=@List.map_append
abbrev Wh:=@Array.getD_eq_getD_getElem?
abbrev Wi:=@List.getElem?_replicate
abbrev Wj:=@List.length_drop
abbrev Wk:=@List.mem_of_mem_take
abbrev Wl:=@Nat.lt_succ_self
abbrev Wm:=@Int.pow_succ
abbrev Wn:=@Value.pointer.injEq
abbrev Wo:=@List.map_congr_left
abbrev Wp:=@Option.map_some
abbrev Wq:=@Decidable.byContradiction
abbrev Wr:=@Option.isSome_iff_exists
abbrev Ws:=@Nat.lt_or_ge
abbrev Wu:=@List.getElem_mem
abbrev Wv:=@Int.add_mul
abbrev Ww:=@List.mem_of_mem_drop
abbrev Wx:=@List.mem_range
abbrev Wy:=@List.getElem?_cons_zero
abbrev Wz:=@List.getElem?_cons_succ
abbrev WA:=@Int.tdiv_eq_ediv_of_dvd
abbrev WB:=@List.flatten_cons
abbrev WC:=@List.length_map
abbrev WD:=@Int.mul_lt_mul_of_pos_right
abbrev WE:=@List.drop_eq_nil_of_le
abbrev WG:=@MapKept.run_getObj_map
abbrev WH:=@Int.mul_zero
abbrev WJ:=@Nat.not_lt
abbrev WK:=@List.take_length
abbrev WL:=@Array.getElem?_eq_getElem
abbrev WM:=@List.pairwise_iff_getElem
abbrev WN:=@Rat.le_refl
abbrev WO:=@Array.ext'
abbrev WQ:=@Nat.pow_le_pow_right
abbrev WS:=@Int.natCast_mul
abbrev WT:=@List.ext_getElem?
abbrev WU:=@Nat.lt_irrefl
abbrev WV:=@List.length_pos_iff
abbrev WW:=@Nat.le_of_not_lt
abbrev WX:=@Option.map_eq_some_iff
abbrev WY:=@Nat.add_mul
abbrev WZ:=@List.getElem?_take
abbrev W0:=@List.getElem_range
abbrev W1:=@List.getElem?_drop
abbrev W2:=@Nat.sub_self
abbrev W3:=@Classical.choose_spec
abbrev W4:=@List.getElem?_toArray
abbrev W5:=@Nat.add_assoc
abbrev W6:=@List.take_add_one
abbrev W7:=@List.extract_eq_take_drop
abbrev W8:=@Option.isNone_iff_eq_none
abbrev W9:=@BitVec.ofInt_natCast
abbrev Xa:=@Int.pow_add
abbrev Xb:=@List.take_zero
abbrev Xc:=@List.range'_succ
abbrev Xd:=@Nat.add_zero
abbrev Xe:=@List.map_set
abbrev Xf:=@List.map_nil
abbrev Xg:=@Nat.mod_eq_of_lt
abbrev Xh:=@List.map_map
abbrev Xi:=@Nat.le_add_right
abbrev Xj:=@List.getElem_map
abbrev Xk:=@List.replicate_append_replicate
abbrev Xl:=@Bool.and_true
abbrev Xm:=@List.set_cons_succ
abbrev Xn:=@Array.any_eq_true'
abbrev Xo:=@BitVec.toNat_ofNat
abbrev Xp:=@MapKept.run_setObj_map
abbrev Xq:=@Int.mul_one
abbrev Xr:=@Nat.zero_le
abbrev Xs:=@List.take_append_of_le_length
abbrev Xt:=@List.mem_iff_getElem?
abbrev Xu:=@List.tail_cons
abbrev Xv:=@List.drop_zero
abbrev Xw:=@List.take_append_drop
abbrev Xx:=@Int.ediv_lt_of_lt_mul
abbrev Xy:=@Int.pow_zero
abbrev Xz:=@Rat.num_nonneg
abbrev XA:=@Rat.zero_add
abbrev XB:=@Array.toList_extract
abbrev XC:=@List.range_eq_range'
abbrev XD:=@Nat.mod_lt
abbrev XE:=@List.replicate_succ'
abbrev XF:=@Int.ediv_emod_unique
abbrev XG:=@List.getElem?_set_ne
abbrev XH:=@Prod.ext
abbrev XI:=@Option.ne_none_iff_exists'
abbrev XJ:=@Array.getElem?_eq_some_iff
abbrev XK:=@Int.lt_of_mul_lt_mul_right
abbrev XL:=@Nat.mul_one
abbrev XM:=@Int.le_refl
abbrev XN:=@List.take_succ_cons
abbrev XO:=@List.getElem?_range
abbrev XP:=@Int.neg_ediv_of_dvd
abbrev XQ:=@Option.map_none
abbrev XR:=@Int.sign_eq_zero_iff_zero
abbrev XS:=@Classical.byContradiction
abbrev XT:=@List.mem_filterMap
abbrev XU:=@Nat.gcd_comm
abbrev XV:=@Rat.add_zero
abbrev XW:=@Rat.mul_inv_cancel
abbrev XX:=@Nat.mul_le_mul
abbrev XY:=@List.nodup_nil
abbrev XZ:=@Bool.and_false
abbrev X0:=@Array.size_append
abbrev X1:=@List.length_range
abbrev X2:=@Int.neg_mul
abbrev X3:=@Int.ediv_eq_zero_of_lt
abbrev X4:=@Int.sub_mul
abbrev X5:=@Nat.mul_add
abbrev X6:=@List.isEmpty_iff
abbrev X7:=@List.not_mem_nil
abbrev X8:=@Int.ediv_le_self
abbrev X9:=@Array.getElem?_setIfInBounds_ne
abbrev Ya:=@Bool.or_eq_false_iff
abbrev Yb:=@Nat.add_comm
abbrev Yc:=@Int.zero_add
abbrev Yd:=@Int.ediv_mul_le
abbrev Ye:=@Int.natAbs_tdiv
abbrev Yf:=@Nat.div_le_self
abbrev Yg:=@Rat.num_eq_zero
abbrev Yh:=@Rat.mul_comm
abbrev Yi:=@List.range_succ
abbrev Yj:=@List.drop_drop
abbrev Yk:=@Iff.rfl
abbrev Yl:=@Ne.symm
abbrev Ym:=@Int.natAbs_neg
abbrev Yn:=@Rat.mul_nonneg
abbrev Yo:=@Rat.one_mul
abbrev Yp:=@List.set_cons_zero
abbrev Yq:=@List.prefix_append
abbrev Yr:=@Option.isNone_none
abbrev Ys:=@Option.isSome_none
abbrev Yt:=@Option.isSome_some
abbrev Yu:=@Int.sub_eq_add_neg
abbrev Yv:=@Nat.two_pow_add_eq_or_of_lt
abbrev Yw:=@Rat.sub_eq_add_neg
abbrev Yx:=@Nat.one_le_two_pow
abbrev Yy:=@List.drop_nil
abbrev Yz:=@List.take_nil
abbrev YA:=@Int.emod_eq_of_lt
abbrev YB:=@Int.mul_neg_of_pos_of_neg
abbrev YC:=@Bool.not_eq_true
abbrev YD:=@Bool.true_or
abbrev YE:=@List.idxOf_lt_length_iff
abbrev YF:=@Nat.not_le_of_lt
abbrev YG:=@Array.toList_map
abbrev YH:=@Int.neg_nonneg_of_nonpos
abbrev YI:=@Int.gcd_dvd_natAbs_right
abbrev YJ:=@Int.mul_ediv_cancel_left
abbrev YK:=@Rat.le_of_lt
abbrev YL:=@Nat.min_eq_left
abbrev YM:=@Int.mul_sub
abbrev YN:=@Rat.mul_one
abbrev YO:=@List.mapM_cons
abbrev YP:=@List.drop_left
abbrev YQ:=@Rat.not_lt
inductive T where
 | int (k:IntKind) (n:Int)
 | bool (b:Bool)
 | str (s:ByteArray)
 | aa (sz:Nat) (isNil:Bool) (xs:List (List T))
 | aJ (isNil:Bool)
 | ptr (cs:List T)
 | aw
 | zq
 | zp
 | CS
 | any
 deriving Inhabited
inductive Id where
 | c (n:Nat)
 | s (d:Nat) (j:Nat)
 | g (i:Id) (n:Nat)
 deriving DecidableEq,Inhabited
def Id.real:Id->Bool
 | .g _ _=>false
 | _=>true
inductive AV where
 | top
 | t (x:T)
 | mu (vs:List AV)
 | agg (vs:List AV)
 | ref (i:Id) (off:Nat)
 | el (i:Id) (sz k off:Nat)
 | own (i:Id)
 | part (i:Id) (sz off len:Nat)
 | row (i:Id) (n:Nat)
 | rel (i:Id) (sz n k off:Nat)
 | fn (f:FuncId) (fst caps:List AV)
 deriving Inhabited
inductive Ck where
 | i (k:IntKind)
 | b
 | s
 | l (sz:Nat)
 | x
 deriving Inhabited,DecidableEq
structure Row where
 n:Nat
 cs:List T
 own:Option (Bool×List (List T))
 deriving Inhabited
inductive ab where
 | box (cs:List AV)
 | sl (fz:Bool) (sz:Nat) (isNil:Bool) (xs:List (List T))
 | iR (cs:List T)
 | arr (cs:List AV)
 | mp (ag:Bool) (ks:List Ck) (vk:Ck) (es:List (List T×T))
 | rows (b:Bool) (sz aD rsz nx:Nat) (es:List Row)
 | dead
 deriving Inhabited
def T.int?(k:IntKind):T->Option Int
 | .int a n=>if a=k then some n else none
 | _=>none
def T.bool?:T->Option Bool
 | .bool b=>some b
 | _=>none
def T.bC:T->Option ByteArray
 | .str s=>some s
 | _=>none
def T.qy:T->Option (List T)
 | .ptr cs=>some cs
 | _=>none
def T.aT(sz:Nat):T->Option (Bool×List (List T))
 | .aa a b xs=>if a=sz then some (b,xs) else none
 | .aJ b=>some (b,[])
 | _=>none
def dI:T->Value
 | .int k n=> .int k n
 | .bool b=> .bool b
 | .str s=> .string s
 | _=> .nilIface
def cY(ag:Bool)(cs:List T):Value:=cond ag (.agg (cs.map dI).toArray) ((cs.map dI).headD .nilIface)
def dQ:Ck->T->Bool
 | .i k, .int a _=>decide (a=k)
 | .b, .bool _=>true
 | .s, .str _=>true
 | _,_=>false
def bY:List Ck->List T->Bool
 | [],[]=>true
 | k::ks,x::xs=>dQ k x && bY ks xs
 | _,_=>false
def nq:T->T->Bool
 | .int _ a, .int _ b=>a==b
 | .bool a, .bool b=>a==b
 | .str a, .str b=>a==b
 | _,_=>false
def ei:List T->List T->Bool
 | [],[]=>true
 | x::xs,y::a=>nq x y && ei xs a
 | _,_=>false
def fy(key:List T):List (List T×T)->Option T
 | []=>none
 | (k,v)::r=>cond (ei key k) (some v) (fy key r)
def gY(key:List T)(v:T):List (List T×T)->List (List T×T)
 | []=> [(key,v)]
 | (k,u)::r=>cond (ei key k) ((key,v)::r) ((k,u)::gY key v r)
def T.pX:T->Option Unit
 | .int _ _=>some ()
 | .bool _=>some ()
 | .str _=>some ()
 | _=>none
def gd{α:Type}[Inhabited α](c:Option Bool)(m:Option α):Option α:=
 match m with
 | some a=>some a
 | none=>match c with
  | none=>none
  | some b=>cond b none (some default)
def ae{α R:Type}[Inhabited α](c:Option Bool)(m:Option α)(k:α->Option R):Option R:=
 match m with
 | some a=>k a
 | none=>match c with
  | none=>none
  | some b=>cond b none (k default)
def pr{R:Type}(c:Option Bool):Nat->List T->(List T->Option R)->Option R
 | 0,_,K=>K []
 | n+1,cs,K=>ae c cs.head? λx=>pr c n cs.tail λl=>K (x::l)
def oY:Value->Option T
 | .int k i=>some (.int k i)
 | .bool b=>some (.bool b)
 | .string s=>some (.str s)
 | .slice none 0 0=>some (.aJ true)
 | .pointer none=>some .aw
 | .map none=>some .zq
 | .nilFunc=>some .zp
 | .nilIface=>some .CS
 | _=>none
def l0:List Value->Option (List T)
 | []=>some []
 | v::r=>(oY v).bind λx=>(l0 r).bind λl=>some (x::l)
def bh(P:Program)(t:TypeId):Bool:=
 match P.underlying t with
 | some (.struct _) | some (.array _ _)=>true
 | _=>false
def su(P:Program)(t:TypeId):Option IntKind:=
 match P.underlying t with
 | some (.int k)=>some k
 | _=>none
def bR(P:Program)(t:TypeId):Bool:=(P.underlying t).isSome
def uE(P:Program)(t:TypeId)(f:Nat):Option (Nat×TypeId):=
 match P.underlying t with
 | some (.struct a)=>match a[f]? with
  | some x=>cond (bR P x.type) (some (x.offset,x.type)) none
  | none=>none
 | _=>none
def nk(P:Program)(t:TypeId):Option TypeId:=
 match P.underlying t with
 | some (.slice e)=>cond (bR P e) (some e) none
 | _=>none
def xN(P:Program)(t:TypeId):Option (Nat×TypeId):=
 match P.underlying t with
 | some (.array n e)=>cond (bR P e) (some (n,e)) none
 | _=>none
def qq(P:Program)(t:TypeId):Bool:=
 match P.underlying t with
 | some (.struct a)=>a.toList.all λf=>bR P f.type
 | some (.array _ e)=>bR P e
 | _=>false
def Cq(P:Program)(t:TypeId):Bool:=
 match P.underlying t with
 | some .string=>true
 | _=>false
def jT(P:Program)(t:TypeId):Option (List T):=
 match P.info? t with
 | some i=>match i.zero with
  | some v=>l0 v.cells.toList
  | none=>none
 | none=>none
structure Gs where
 d:Nat
 want:Bool
 c:Bool
structure St where
 t:Nat->Option Gs×AV
 h:Id->Option ab
abbrev aH:=List (Id×ab)
def aK(h:Id->Option ab):aH->Id->Option ab
 | []=>h
 | (i,b)::us=>aK (λj=>if j=i then some b else h j) us
def mI(d:Nat):Option Gs×AV->Option Gs×AV
 | (some g,v)=>cond (g.d==d) (none, .top) (some g,v)
 | (none,v)=>(none,v)
def St.put(s:St)(a:Bool)(d:Option Nat)(g:Option Gs)(v:AV)(us:aH):St:=
 {t :=match d with
    | some d=>λk=>if k=d then(g,v) else cond a (mI d (s.t k)) (s.t k)
    | none=>s.t
  h:=aK s.h us}
def Bn(v:Value):AV:=
 match v with
 | .agg cs=>match l0 cs.toList with
  | some l=> .agg (l.map .t)
  | none=> .top
 | v=>match oY v with
  | some x=> .t x
  | none=> .top
def lB:Option Gs->Option Gs->Bool
 | none,_=>true
 | some a,some b=>a.d==b.d && a.want==b.want
 | some _,none=>false
def St.sI(s:St)(g:Gs):St:={s with t:=λk=>cond (lB (s.t k).1 (some g)) (none,(s.t k).2) (s.t k)}
def St.get(s:St)(g:Option Gs):Operand->AV
 | .tmp k=>match s.t k with
  | (a,v)=>cond (lB a g) v .top
 | .const v=>Bn v
 | .func f=> .fn f [] []
 | .global _=> .top
def St.mJ(s:St)(g:Option Gs)(cs:Operand)(want:Bool)(o:Operand):AV:=
 match cs,o with
 | .tmp d, .tmp k=>match s.t k with
  | (some a,v)=>cond ((a.d==d && a.want==want) || lB (some a) g) v .top
  | (none,v)=>v
 | _,o=>s.get g o
def AV.t?:AV->Option T
 | .t x=>some x
 | _=>none
def eZ:List AV->Option (List T)
 | []=>some []
 | .t x::r=>(eZ r).bind λl=>some (x::l)
 | _::_=>none
def dH(h:Id->Option ab):AV->Option T
 | .t x=>some x
 | .own i=>match h i with
  | some (.sl _ sz b xs)=>some (.aa sz b xs)
  | _=>none
 | .part i sz off len=>match h i with
  | some (.sl _ a b xs)=>if a=sz then some (.aa sz b ((xs.drop off).take len)) else none
  | _=>none
 | .ref i off=>match h i with
  | some (.box cs)=>(eZ cs).bind λl=>some (.ptr (l.drop off))
  | some (.iR l)=>some (.ptr (l.drop off))
  | _=>none
 | _=>none
def lD(h:Id->Option ab):List AV->Option (List T)
 | []=>some []
 | v::r=>(dH h v).bind λx=>(lD h r).bind λl=>some (x::l)
def DI(h:Id->Option ab):AV->Option T
 | .own i=>match h i with
  | some (.sl _ sz b xs)=>some (.aa sz b xs)
  | some (.rows ..)=>some .any
  | some (.mp ..)=>some .any
  | _=>none
 | v=>dH h v
def vP(h:Id->Option ab):List AV->Option (List T)
 | []=>some []
 | v::r=>(DI h v).bind λx=>(vP h r).bind λl=>some (x::l)
def lC(h:Id->Option ab):AV->Option (List T)
 | .agg vs=>lD h vs
 | v=>(dH h v).bind λx=>some [x]
def ij(h:Id->Option ab):AV->aH
 | .own i=>match h i with
  | some (.sl false sz b xs)=> [(i, .sl true sz b xs)]
  | _=> []
 | .part i _ _ _=>match h i with
  | some (.sl false sz b xs)=> [(i, .sl true sz b xs)]
  | _=> []
 | .ref i _=>match h i with
  | some (.box cs)=>match eZ cs with
   | some l=> [(i, .iR l)]
   | none=> []
  | _=> []
 | _=> []
def nu(h:Id->Option ab):List AV->aH
 | []=> []
 | v::r=>ij h v++nu h r
def gT(h:Id->Option ab):AV->aH
 | .agg vs=>nu h vs
 | v=>ij h v
def rD{R:Type}(op:BinOp)(k:IntKind)(c:Option Bool)(x y:T)(K:T->Option R):Option R:=
 ae c (x.int? k) λa=>ae c (y.int? k) λb=>
  match op with
  | .add=>K (.int k (k.wrap (a+b)))
  | .sub=>K (.int k (k.wrap (a - b)))
  | .mul=>K (.int k (k.wrap (a * b)))
  | .quo=>ae c (if b=0 then none else some ()) λ_=>K (.int k (k.wrap (a.tdiv b)))
  | .rem=>ae c (if b=0 then none else some ()) λ_=>K (.int k (a.tmod b))
  | .and=>K (.int k (k.wrap (BitVec.ofInt k.bits a &&& BitVec.ofInt k.bits b).toNat))
  | .or=>K (.int k (k.wrap (BitVec.ofInt k.bits a ||| BitVec.ofInt k.bits b).toNat))
  | .xor=>K (.int k (k.wrap (BitVec.ofInt k.bits a ^^^ BitVec.ofInt k.bits b).toNat))
  | .andNot=>K (.int k (k.wrap (BitVec.ofInt k.bits a &&& ~~~(BitVec.ofInt k.bits b)).toNat))
  | .lss=>K (.bool (decide (a < b)))
  | .leq=>K (.bool (decide (a<=b)))
  | .gtr=>K (.bool (decide (a > b)))
  | .geq=>K (.bool (decide (a>=b)))
  | _=>none
def sS{R:Type}(op:BinOp)(k ky:IntKind)(c:Option Bool)(x y:T)(K:T->Option R):Option R:=
 ae c (x.int? k) λa=>ae c (y.int? ky) λb=>
  ae c (if b < 0 then none else some ()) λ_=>
  match op with
  | .shl=>K (.int k (k.wrap (a * 2 ^ (min b.toNat k.bits))))
  | .shr=>K (.int k (a.fdiv (2 ^ (min b.toNat k.bits))))
  | _=>none
def sV{R:Type}(op:BinOp)(c:Option Bool)(x y:T)(K:T->Option R):Option R:=
 ae c x.bC λa=>ae c y.bC λb=>
  match op with
  | .add=>ae c (if a.size+b.size<=4294967296 then some () else none) λ_=>K (.str (a++b))
  | .lss=>K (.bool (Op.bytesLess a.toList b.toList))
  | .leq=>K (.bool (Op.bytesLess a.toList b.toList || a.toList==b.toList))
  | .gtr=>K (.bool (!(Op.bytesLess a.toList b.toList || a.toList==b.toList)))
  | .geq=>K (.bool (!(Op.bytesLess a.toList b.toList)))
  | _=>none
def r9(P:Program)(go:TypeId->Option (List TypeId)):List Field->Nat->Option (List TypeId)
 | [],_=>some []
 | f ::r,off=>if f.offset=off/\f.name≠ "_" then
     (go f.type).bind λl=>if P.cellsOf f.type=l.length/\0 < l.length then(r9 P go r (off+l.length)).bind λq=>some (l++q) else none
  else none
def fF(P:Program):Nat->TypeId->Option (List TypeId)
 | 0,_=>none
 | n+1,t=>match P.underlying t with
  | some (.int _) | some .bool | some .string=>some [t]
  | some (.struct a)=>if P.stoodInHeld t then none else r9 P (fF P n) a.toList 0
  | some (.array m e)=>(fF P n e).bind λl=>if P.cellsOf e=l.length then some (List.replicate m l).flatten else none
  | _=>none
def jN(P:Program)(s:St)(t:TypeId)(x:AV):Option Bool:=
 match P.underlying t with
 | some (.slice _)=>match x with
  | .t (.aa _ b _)=>some b
  | .t (.aJ b)=>some b
  | .own i=>match s.h i with
   | some (.sl _ _ b _)=>some b
   | _=>none
  | _=>none
 | some (.pointer _)=>match x with
  | .t (.ptr _)=>some false
  | .t .aw=>some true
  | .ref _ _=>some false
  | .el _ _ _ _=>some false
  | _=>none
 | some (.func ..)=>match x with
  | .t .zp=>some true
  | .fn _ _ _=>some false
  | _=>none
 | some (.map ..)=>match x with
  | .t .zq=>some true
  | _=>none
 | _=>none
def oX(P:Program)(t:TypeId)(o:Operand):Bool:=
 match P.underlying t,o with
 | some (.slice _), .const (.slice none 0 0)=>true
 | some (.pointer _), .const (.pointer none)=>true
 | some (.func ..), .const .nilFunc=>true
 | some (.map ..), .const (.map none)=>true
 | _,_=>false
def lV{R:Type}(P:Program)(c:Option Bool)(t:TypeId)(x y:T)(K:Bool->Option R):Option R:=
 match P.underlying t with
 | some (.int k)=>ae c (x.int? k) λa=>ae c (y.int? k) λb=>K (a==b)
 | some .bool=>ae c x.bool? λa=>ae c y.bool? λb=>K (a==b)
 | some .string=>ae c x.bC λa=>ae c y.bC λb=>K (a==b)
 | _=>none
def eH{R:Type}(P:Program)(c:Option Bool):List TypeId->List T->List T->(Bool->Option R)->Option R
 | [],[],[],K=>K true
 | t::ts,x::xs,y::a,K=>lV P c t x y λb=>eH P c ts xs a λr=>K (b && r)
 | _,_,_,_=>none
def rE{R:Type}(P:Program)(op:BinOp)(t ty:TypeId)(c:Option Bool)(x y:T)(K:T->Option R):Option R:=
 match op with
 | .shl | .shr=>match su P t,su P ty with
  | some k,some ky=>sS op k ky c x y K
  | _,_=>none
 | .eql | .neq=>none
 | op=>match P.underlying t with
  | some (.int k)=>rD op k c x y K
  | some .string=>sV op c x y K
  | _=>none
def pV{R:Type}(P:Program)(c:Option Bool)(t:TypeId)(x y:AV)(K:Bool->Option R):Option R:=
 match x,y with
 | .t x, .t y=>cond (Cq P t) (ae c x.bC λa=>ae c y.bC λb=>K (a.toList==b.toList)) (lV P c t x y K)
 | .agg xs, .agg d=>cond (P.eqGuardType P.depth t || !bh P t) none <| (eZ xs).bind λxs=>(eZ d).bind λd=>(fF P 8 t).bind λts=>eH P c ts xs d K
 | _,_=>none
def th{R:Type}(P:Program)(op:UnOp)(t:TypeId)(c:Option Bool)(x:T)(K:T->Option R):Option R:=
 match op,P.underlying t with
 | .neg,some (.int k)=>ae c (x.int? k) λa=>K (.int k (k.wrap (0 - a)))
 | .xor,some (.int k)=>ae c (x.int? k) λa=>
   K (.int k (k.wrap (BitVec.ofInt k.bits (if k.signed then -1 else k.max) ^^^ BitVec.ofInt k.bits a).toNat))
 | .not,some .bool=>ae c x.bool? λa=>K (.bool (!a))
 | _,_=>none
open Go
def fm{R:Type}(k:Ck)(c:Option Bool)(x:T)(K:T->Option R):Option R:=
 match k with
 | .i k=>ae c (x.int? k) λn=>K (.int k n)
 | .b=>ae c x.bool? λb=>K (.bool b)
 | .s=>ae c x.bC λs=>K (.str s)
 | .l sz=>ae c (x.aT sz) λp=>K (.aa sz p.1 p.2)
 | .x=>K x
def eY{R:Type}(c:Option Bool):List Ck->List T->(List T->Option R)->Option R
 | [],xs,K=>K xs
 | _::_,[],K=>K []
 | k::ks,x::xs,K=>fm k c x λy=>eY c ks xs λa=>K (y::a)
def lS(P:Program)(t:TypeId):Ck:=
 match P.underlying t with
 | some (.int k)=> .i k
 | some .bool=> .b
 | some .string=> .s
 | some (.slice e)=> .l (P.cellsOf e)
 | _=> .x
def xS(P:Program):Nat->TypeId->List Ck
 | 0,_=> []
 | n+1,t=>match P.underlying t with
  | some (.struct a)=>a.toList.flatMap λf=>xS P n f.type
  | some (.array m e)=>(List.replicate m (xS P n e)).flatten
  | _=> [lS P t]
def tY(P:Program)(t:TypeId):List Ck:=
 if(xS P 8 t).length=P.cellsOf t then xS P 8 t else List.replicate (P.cellsOf t) .x
inductive bU where
 | f (k:Ck)
 | t (k:Ck)
 | own (sz:Nat)
 | ref (k off:Nat)
 | same (k:Nat)
 | rows (sz aD rsz:Nat)
 | mp (ag:Bool) (ks:List Ck) (vk:Ck)
 | new (l:List bU)
 | no
 | agg (l:List bU)
 deriving Inhabited
inductive jU where
 | box (l:List bU)
 | sl (sz:Nat)
 | mp (ag:Bool) (ks:List Ck) (vk:Ck)
 | dead
 deriving Inhabited
structure Em where
 res:List bU
 outs:List jU
 deriving Inhabited
structure cJ where
 live:FuncId->Nat->Option (List (Nat×Option Nat))
 join:FuncId->Nat->Option (List (Nat×Option Nat))
 sig:FuncId->Option Em
 iK:FuncId->Option (List Bool):=λ_=>none
 deep:FuncId->Bool:=λ_=>false
 Bf:FuncId->Nat->Em:=λ_ _=>⟨[],[]⟩
 app:Option Nat->Bool:=λ_=>false
 wr:FuncId->Bool:=λ_=>false
 st:Option Nat->Bool:=λ_=>false
 sx:Option Nat->Bool:=λ_=>false
 ld:Option Nat->Bool:=λ_=>false
 nG:Option Nat->TypeId->Nat:=λ_ _=>0
 ext:FuncId->List AV->List ab->Option (List T):=λ_ _ _=>none
inductive Key where
 | call (f:FuncId)
 | node (f:FuncId) (todo:List Item) (live:List (Nat×Option Nat)) (m:Nat×Nat)
abbrev au:=Key->List AV->List ab->Option (List T)
def cZ:Nat:=4294967296
mutual
def AV.ids:AV->List Id
 | .top=> []
 | .t _=> []
 | .mu vs=>bX vs
 | .agg vs=>bX vs
 | .ref i _=> [i]
 | .el i _ _ _=> [i]
 | .own i=> [i]
 | .part i _ _ _=> [i]
 | .row i _=> [i]
 | .rel i _ _ _ _=> [i]
 | .fn _ a b=>bX a++bX b
def bX:List AV->List Id
 | []=> []
 | v::r=>v.ids++bX r
end
mutual
def AV.rn(m:List Id):AV->AV
 | .top=> .top
 | .t x=> .t x
 | .mu vs=> .mu (kE m vs)
 | .agg vs=> .agg (kE m vs)
 | .ref i o=> .ref (.c (m.idxOf i)) o
 | .el i sz k o=> .el (.c (m.idxOf i)) sz k o
 | .own i=> .own (.c (m.idxOf i))
 | .part i sz o n=> .part (.c (m.idxOf i)) sz o n
 | .row i n=> .row (.c (m.idxOf i)) n
 | .rel i sz n k o=> .rel (.c (m.idxOf i)) sz n k o
 | .fn f a b=> .fn f (kE m a) (kE m b)
def kE(m:List Id):List AV->List AV
 | []=> []
 | v::r=>v.rn m::kE m r
end
def iq(m:List Id):Option ab->ab
 | some (.box cs)=> .box (kE m cs)
 | some (.arr cs)=> .arr (kE m cs)
 | some b=>b
 | none=> .dead
def fh(h:Id->Option ab):Nat->List Id->List Id->Option (List Id)
 | 0,_,_=>none
 | _+1,[],seen=>some seen
 | n+1,i::todo,seen=>
  cond (seen.contains i) (fh h n todo seen)
   (match h i with
    | some (.box cs)=>fh h n (todo++bX cs) (seen++ [i])
    | some (.arr cs)=>fh h n (todo++bX cs) (seen++ [i])
    | some _=>fh h n todo (seen++ [i])
    | none=>none)
def nZ:Nat->List AV->Option (List AV)
 | 0,_=>some []
 | _+1,[]=>none
 | n+1,c::r=>(nZ n r).bind λl=>some (c::l)
def bZ{α:Type}(off:Nat)(new a:List α):List α:=a.take off++new++a.drop (off+new.length)
def bB(n:Nat):List Row->Option (Bool×List (List T))
 | []=>none
 | e::r=>if e.n=n then e.own else bB n r
def dG(n:Nat)(p:Option (Bool×List (List T))):List Row->List Row
 | []=> []
 | e::r=>if e.n=n then{e with own:=p}::r else e::dG n p r
def mh{R:Type}(h:Id->Option ab)(c:Option Bool)(i:Id)(n:Nat)(K:Nat->Bool->List (List T)->Option R):Option R:=
 match h i with
 | some (.rows _ _ _ rsz _ es)=>ae c (bB n es) λp=>K rsz p.1 p.2
 | _=>none
def kZ{R:Type}(P:Program)(t:TypeId)(c:Option Bool)(cs:List T)(K:AV->Option R):Option R:=
 cond (bh P t) (pr c (P.cellsOf t) cs λl=>eY c (tY P t) l λl=>K (.agg (l.map .t))) (ae c cs.head? λx=>fm (lS P t) c x λx=>K (.t x))
def nB{R:Type}(P:Program)(t:TypeId)(cs:List AV)(K:AV->Option R):Option R:=
 cond (bh P t) ((nZ (P.cellsOf t) cs).bind λl=>K (.agg l)) (cs.head?.bind K)
def sv{R:Type}(P:Program)(t:TypeId)(c:Option Bool)(i:Id)(sz aD off:Nat)(e:Row)(K:AV->Option R):Option R:=
 cond (bh P t)
  (if off=0/\P.cellsOf t=sz then pr c sz e.cs λl=>eY c ((tY P t).set aD .x) l λl=>K (.agg ((l.map .t).set aD (.row i e.n))) else none)
  (if off=aD then K (.row i e.n) else ae c (e.cs.drop off).head? λx=>fm (lS P t) c x λx=>K (.t x))
def kA{R:Type}(P:Program)(s:St)(c:Option Bool)(t:TypeId)(a:AV)(K:AV->Option R):Option R:=
 cond (bR P t) (match a with
 | .ref i off=>match s.h i with
  | some (.box cs)=>nB P t (cs.drop off) K
  | some (.iR l)=>kZ P t c (l.drop off) K
  | _=>none
 | .el i sz k off=>match s.h i with
  | some (.sl _ b _ xs)=>if b=sz then ae c xs[k]? λcs=>kZ P t c (cs.drop off) K else none
  | some (.rows _ b aD _ _ es)=>if b=sz then ae c es[k]? λe=>sv P t c i sz aD off e K else none
  | _=>none
 | .rel i sz n k off=>mh s.h c i n λrsz _ xs=>if rsz=sz then ae c xs[k]? λcs=>kZ P t c (cs.drop off) K else none
 | .t x=>ae c x.qy λcs=>kZ P t c cs K
 | _=>none) none
def hZ(v:AV):List AV:=
 match v with
 | .agg vs=>vs
 | v=> [v]
def pN:AV->Bool
 | .agg _ | .mu _ | .top=>false
 | _=>true
def bm(k off:Nat)(l:List T)(xs:List (List T)):Option (List (List T)):=
 match xs[k]? with
 | some cs=>if off+l.length<=cs.length then some (xs.set k (bZ off l cs)) else none
 | none=>none
def jx{R:Type}(P:Program)(s:St)(t:TypeId)(a v:AV)(K:aH->Option R):Option R:=
 cond (bR P t) (match a with
 | .ref i off=>match s.h i with
  | some (.box cs)=>
   if(hZ v).length=P.cellsOf t/\(hZ v).all pN/\off+ (hZ v).length<=cs.length then K [(i, .box (bZ off (hZ v) cs))] else none
  | _=>none
 | .el i sz k off=>match s.h i with
  | some (.sl false d b xs)=>(lC s.h v).bind λl=>
    if d=sz/\l.length=P.cellsOf t/\v.ids.contains i=false then
     ae none (bm k off l xs) λg=>K ((i, .sl false sz b g)::gT s.h v) else none
  | some (.rows b d aD rsz nx es)=>match v with
   | .own j=>match s.h j with
    | some (.sl false f m xs)=>
     if d=sz/\off=aD/\f=rsz/\P.cellsOf t=1/\bh P t=false then
      ae none es[k]? λe=>K [(j, .dead),(i, .rows b sz aD rsz (nx+1) (es.set k ⟨nx,e.cs,some (m,xs)⟩))] else none
    | _=>none
   | _=>none
  | _=>none
 | .rel i sz n k off=>match s.h i with
  | some (.rows b d aD rsz nx es)=>ae none (bB n es) λp=>(lC s.h v).bind λl=>
    if rsz=sz/\l.length=P.cellsOf t/\v.ids.contains i=false then
     ae none (bm k off l p.2) λg=>K ((i, .rows b d aD rsz nx (dG n (some (p.1,g)) es))::gT s.h v) else none
  | _=>none
 | _=>none) none
def uO:List (Nat×List AV)->List AV->Option (List AV)
 | [],z=>some z
 | (off,l)::r,z=>if off+l.length<=z.length then uO r (bZ off l z) else none
def vl(P:Program)(t:TypeId)(f:Nat):Option (Nat×TypeId):=
 match uE P t f with
 | some p=>some p
 | none=>match xN P t with
  | some (_,u)=>some (f * P.cellsOf u,u)
  | none=>none
def o8(P:Program)(t:TypeId)(ev:Operand->AV):List (Nat×Operand)->Option (List (Nat×List AV))
 | []=>some []
 | (f,o)::r=>(vl P t f).bind λp=>
   if(hZ (ev o)).length=P.cellsOf p.2/\(hZ (ev o)).all pN then(o8 P t ev r).bind λq=>some ((p.1,hZ (ev o))::q) else none
def xP(P:Program)(t:TypeId)(ev:Operand->AV)(a:List (Nat×Operand)):Option AV:=
 if qq P t then
 (jT P t).bind λz=>(o8 P t ev a).bind λl=>(uO l (z.map .t)).bind λcs=>some (.agg cs)
 else none
def iQ(P:Program)(h:Id->Option ab)(e:TypeId)(ev:Operand->AV):Nat->List (Nat×Operand)->Option (List (List T)×aH)
 | _,[]=>some ([],[])
 | n,(k,o)::r=>(lC h (ev o)).bind λl=>if k=n/\l.length=P.cellsOf e then
    (iQ P h e ev (n+1) r).bind λq=>some (l::q.1,gT h (ev o)++q.2)
  else none
def kr{R:Type}(c:Option Bool)(i:Int)(n:Nat)(K:Option R):Option R:=ae c (if 0<=i/\i < n then some () else none) λ_=>K
def jM{R:Type}(P:Program)(s:St)(c:Option Bool)(t:TypeId)(x:AV)(i:Int)(K:AV->Option R):Option R:=
 match nk P t with
 | some e=>match x with
  | .own j=>match s.h j with
   | some (.sl _ sz _ xs)=>if sz=P.cellsOf e then kr c i xs.length (K (.el j sz i.toNat 0)) else none
   | some (.rows _ sz _ _ _ es)=>if sz=P.cellsOf e then kr c i es.length (K (.el j sz i.toNat 0)) else none
   | _=>none
  | .row j n=>mh s.h c j n λrsz _ xs=>if rsz=P.cellsOf e then kr c i xs.length (K (.rel j rsz n i.toNat 0)) else none
  | .part j sz off n=>match s.h j with
   | some (.sl _ a _ _)=>if sz=P.cellsOf e/\a=sz then kr c i n (K (.el j sz (off+i.toNat) 0)) else none
   | _=>none
  | .t y=>ae c (y.aT (P.cellsOf e)) λp=>kr c i p.2.length (ae c p.2[i.toNat]? λcs=>K (.t (.ptr cs)))
  | _=>none
 | none=>match xN P t with
  | some (n,e)=>kr c i n (match x with
   | .ref j off=>K (.ref j (off+i.toNat * P.cellsOf e))
   | .el j sz k off=>K (.el j sz k (off+i.toNat * P.cellsOf e))
   | .t y=>ae c y.qy λcs=>K (.t (.ptr (cs.drop (i.toNat * P.cellsOf e))))
   | _=>none)
  | none=>none
def rZ{R:Type}(P:Program)(c:Option Bool)(t:TypeId)(x:AV)(f:Nat)(K:AV->Option R):Option R:=
 match uE P t f with
 | some (off,u)=>if P.cellsOf u=0 then none else
  match x with
  | .ref j o=>K (.ref j (o+off))
  | .el j sz k o=>K (.el j sz k (o+off))
  | .rel j sz n k o=>K (.rel j sz n k (o+off))
  | .t y=>ae c y.qy λcs=>K (.t (.ptr (cs.drop off)))
  | _=>none
 | none=>none
def rY{R:Type}(P:Program)(t:TypeId)(x:AV)(f:Nat)(K:AV->Option R):Option R:=
 match uE P t f with
 | some (off,u)=>match x with
  | .agg vs=>nB P u (vs.drop off) K
  | _=>none
 | none=>none
def nA{R:Type}(P:Program)(s:St)(c:Option Bool)(t:TypeId)(x:AV)(K:AV->Option R):Option R:=
 match P.underlying t with
 | some .string=>match x with
  | .t y=>ae c y.bC λb=>K (.t (.int .i64 b.size))
  | _=>none
 | some (.array n _)=>K (.t (.int .i64 n))
 | some (.slice e)=>match x with
  | .own j=>match s.h j with
   | some (.sl _ _ _ xs)=>K (.t (.int .i64 xs.length))
   | some (.rows _ _ _ _ _ es)=>K (.t (.int .i64 es.length))
   | _=>none
  | .row j n=>mh s.h c j n λ_ _ xs=>K (.t (.int .i64 xs.length))
  | .part _ _ _ n=>K (.t (.int .i64 n))
  | .t y=>ae c (y.aT (P.cellsOf e)) λp=>K (.t (.int .i64 p.2.length))
  | _=>none
 | _=>none
def jb{R:Type}(s:St)(c:Option Bool)(g:Option Gs)(o:Option Operand)(K:Option Int->Option R):Option R:=
 match o with
 | none=>K none
 | some o=>(s.get g o).t?.bind λx=>ae c (anyInt x) λn=>K (some n)
where
 anyInt:T->Option Int
  | .int _ n=>some n
  | _=>none
def bO(a hi n:Int):Option Unit:=if 0<=a/\a<=hi/\hi<=n then some () else none
def sub(a hi:Int)(xs:List (List T)):List (List T):=(xs.drop a.toNat).take (hi.toNat - a.toNat)
def Ai(a hi m:Int):Option Unit:=if a=0/\hi=0/\m=0 then some () else none
def y6:T->Bool
 | .aJ true=>true
 | .aa _ true []=>true
 | _=>false
def nU{R:Type}(P:Program)(s:St)(c:Option Bool)(t:TypeId)(x:AV)(a hi d:Option Int)(K:AV->Option R):Option R:=
 match P.underlying t with
 | some .string=>match x,d with
  | .t y,none=>ae c y.bC λb=>
    ae c (bO (a.getD 0) (hi.getD b.size) b.size) λ_=>K (.t (.str (b.extract (a.getD 0).toNat (hi.getD b.size).toNat)))
  | _,_=>none
 | some (.slice e)=>match d with
  | none=>match x with
   | .own j=>match s.h j with
    | some (.sl _ sz _ xs)=>if sz=P.cellsOf e/\bR P e=true then
      ae c (bO (a.getD 0) (hi.getD xs.length) xs.length) λ_=>
      K (.part j sz (a.getD 0).toNat ((hi.getD xs.length).toNat - (a.getD 0).toNat)) else none
    | _=>none
   | .part j sz off n=>match s.h j with
    | some (.sl _ f _ _)=>if sz=P.cellsOf e/\f=sz/\bR P e=true then
      ae c (bO (a.getD 0) (hi.getD n) n) λ_=>
      K (.part j sz (off+ (a.getD 0).toNat) ((hi.getD n).toNat - (a.getD 0).toNat)) else none
    | _=>none
   | .t y=>if bR P e=true then ae c (y.aT (P.cellsOf e)) λp=>
     ae c (bO (a.getD 0) (hi.getD p.2.length) p.2.length) λ_=>
     K (.t (.aa (P.cellsOf e) p.1 (sub (a.getD 0) (hi.getD p.2.length) p.2))) else none
   | _=>none
  | some m=>match x with
   | .t y=>if bR P e=true then ae c (y.aT (P.cellsOf e)) λp=>ae c (Ai (a.getD 0) (hi.getD 1) m) λ_=>K (.t (.aJ p.1)) else none
   | .own j=>match s.h j with
    | some (.sl _ _ b _)=>if bR P e=false then none else ae c (Ai (a.getD 0) (hi.getD 1) m) λ_=>K (.t (.aJ b))
    | _=>none
   | _=>none
 | _=>none
def br(n m:Int):Option Unit:=if 0<=n/\n<=m/\m<=cZ then some () else none
def mD{R:Type}(P:Program)(s:St)(t:TypeId)(sz:Nat)(a:List T)(y:AV)(K:List (List T)->Option R):Option R:=
 match P.underlying t with
 | some (.slice _)=>(dH s.h y).bind λx=>ae none (x.aT sz) λp=>K p.2
 | some .string=>if sz=1 then y.t?.bind λx=>ae none x.bC λb=>K (b.data.toList.map λu=> [.int .u8 u.toNat]) else none
 | some (.int _)=>y.t?.bind λx=>ae none (x.int? .i64) λn=>ae none (br n n) λ_=>K (List.replicate n.toNat a)
 | _=>none
def oL(bs n:Nat):Prop:=n<=cZ\/(0 < bs/\n * bs<=140737488355328)
instance (bs n:Nat):Decidable (oL bs n):=inferInstanceAs (Decidable (_\/_))
def bL(bs n:Nat):Option Unit:=if oL bs n then some () else none
def IP:T->Option Bool
 | .aJ b=>some b
 | .aa _ b xs=>cond (b && xs.isEmpty) (some true) none
 | _=>none
def Ds(h:Id->Option ab):AV->Option (Id×Nat×Nat×Nat×Nat×List Row)
 | .own i=>match h i with
  | some (.rows _ sz aD rsz nx es)=>some (i,sz,aD,rsz,nx,es)
  | _=>none
 | _=>none
def CY(h:Id->Option ab):AV->Option (Id×List AV)
 | .own j=>match h j with
  | some (.arr cs)=>some (j,cs)
  | _=>none
 | _=>none
def pK{R:Type}(P:Program)(s:St)(d:Nat)(e:TypeId)(i:Id)(sz aD rsz nx:Nat)(es:List Row)(j:Id)(cs:List AV)(K:AV->aH->Option R):Option R:=
 if sz=P.cellsOf e/\cs.length=sz/\aD < sz/\i≠j then
  (eZ (cs.set aD (.t .aw))).bind λl=>match cs[aD]? with
   | some (.own m)=>match s.h m with
    | some (.sl false k r xs)=>if k=rsz then
      ae none (bL (P.bytesOf e) (es.length+1)) λ_=>
      K (.own (.s d 0)) [(i, .dead),(j, .dead),(m, .dead),(.s d 0, .rows false sz aD rsz (nx+1) (es++ [⟨nx,l,some (r,xs)⟩]))] else none
    | _=>none
   | some (.row a n)=>match s.h a with
    | some (.rows u q g b o f)=>if b=rsz/\a≠i then
      ae none (bB n f) λp=>ae none (bL (P.bytesOf e) (es.length+1)) λ_=>
      K (.own (.s d 0)) [(i, .dead),(j, .dead),(a, .rows u q g b o (dG n none f)),(.s d 0, .rows false sz aD rsz (nx+1) (es++ [⟨nx,l,some p⟩]))] else none
    | _=>none
   | _=>none
 else none
def kO{R:Type}(P:Program)(s:St)(d:Nat)(rw:Bool)(t ty:TypeId)(x y:AV)(K:AV->aH->Option R):Option R:=
 (nk P t).bind λe=>(jT P e).bind λk=>
 if P.bytesOf e<=8192/\k.length=P.cellsOf e then
 match cond rw (Ds s.h x) none,cond rw (CY s.h y) none with
 | some (i,sz,aD,rsz,nx,es),some (j,cs)=>match P.underlying ty with
  | some (.slice _)=>pK P s d e i sz aD rsz nx es j cs K
  | _=>none
 | _,_=>
 mD P s ty (P.cellsOf e) k y λa=>
 match x with
 | .own i=>match s.h i with
  | some (.sl false f b xs)=>if f=P.cellsOf e then
    ae none (bL (P.bytesOf e) (xs.length+a.length)) λ_=>
    K (.own (.s d 0)) [(.s d 0, .sl false (P.cellsOf e) (b && a.isEmpty) (xs++a)),(i, .dead)] else none
  | _=>none
 | .part i g off n=>match s.h i with
  | some (.sl false f b xs)=>if f=P.cellsOf e/\g=P.cellsOf e then
    ae none (bL (P.bytesOf e) (n+a.length)) λ_=>
    K (.own (.s d 0)) [(.s d 0, .sl false (P.cellsOf e) (b && a.isEmpty) ((xs.drop off).take n++a)),(i, .dead)] else none
  | _=>none
 | .t z=>(IP z).bind λb=>ae none (bL (P.bytesOf e) a.length) λ_=>
    K (.own (.s d 0)) [(.s d 0, .sl false (P.cellsOf e) (b && a.isEmpty) a)]
 | _=>none
 else none
def qm(n:Nat):List Row:=(List.range n).map λk=>⟨k,[.aw],some (true,[])⟩
def sw{R:Type}(P:Program)(d:Nat)(t:TypeId)(nG:Nat)(n m:T)(K:AV->aH->Option R):Option R:=
 (nk P t).bind λe=>(jT P e).bind λa=>
 ae none (n.int? .i64) λn=>ae none (m.int? .i64) λm=>
 if P.bytesOf e<=8192/\a.length=P.cellsOf e then
 ae none (br n m) λ_=>
  cond (nG==2) (match P.underlying e,a with
   | some (.slice u),[.aJ true]=>if P.cellsOf e=1 then K (.own (.s d 0)) [(.s d 0, .rows false 1 0 (P.cellsOf u) n.toNat (qm n.toNat))] else none
   | _,_=>none)
   (K (.own (.s d 0)) [(.s d 0, .sl false (P.cellsOf e) false (List.replicate n.toNat a))])
 else none
def mm(d:Bool)(a b:Int):Int:=cond d (if b > a then b else a) (if b < a then b else a)
def oU{R:Type}(k:IntKind)(c:Option Bool)(d:Bool):Int->List T->(T->Option R)->Option R
 | a,[],K=>K (.int k a)
 | a,y::r,K=>ae c (y.int? k) λb=>oU k c d (mm d a b) r K
def rI{R:Type}(P:Program)(c:Option Bool)(src a:TypeId)(x:T)(K:T->Option R):Option R:=
 match P.underlying src,P.underlying a with
 | some (.int k),some (.int d)=>ae c (x.int? k) λn=>K (.int d (d.wrap n))
 | some .string,some .string=>ae c x.bC λb=>K (.str b)
 | _,_=>none
def bytesOf:List (List T)->Option (List UInt8)
 | []=>some []
 | cs::r=>cs.head?.bind λx=>(x.int? .u8).bind λn=>(bytesOf r).bind λl=>some (UInt8.ofNat n.toNat::l)
def mR:Ck->Bool
 | .i _ | .b | .s=>true
 | _=>false
def sB(P:Program)(t:TypeId):Option (TypeId×TypeId):=
 match P.underlying t with
 | some (.map k e)=>cond (bR P k && bR P e) (some (k,e)) none
 | _=>none
def D5(P:Program)(t:TypeId):Option T:=
 match P.info? t with
 | some i=>match i.zero with
  | some v=>oY v
  | none=>none
 | none=>none
def kY(P:Program)(k:TypeId):Option (Bool×List Ck):=
 match P.underlying k with
 | some (.int i)=>some (false,[.i i])
 | some .string=>some (false,[.s])
 | some (.array n e)=>match P.underlying e with
  | some (.int i)=>if P.cellsOf e=1/\n<=8 then some (true,List.replicate n (.i i)) else none
  | _=>none
 | _=>none
def oS{R:Type}(P:Program)(k:TypeId)(c:Option Bool)(v:AV)(K:Bool->List Ck->List T->Option R):Option R:=
 (kY P k).bind λq=>match q.1,v with
  | false, .t x=>eY c q.2 [x] λcs=>K false q.2 cs
  | true, .agg vs=>(eZ vs).bind λl=>if l.length=q.2.length then eY c q.2 l λcs=>K true q.2 cs else none
  | _,_=>none
def nC{R:Type}(P:Program)(s:St)(c:Option Bool)(t:TypeId)(x key:AV)(ok:Bool)(K:AV->Option R):Option R:=
 (sB P t).bind λq=>(D5 P q.2).bind λz=>oS P q.1 c key λag ks cs=>match x with
  | .own i=>match s.h i with
   | some (.mp a b vk es)=>if a=ag/\b=ks/\lS P q.2=vk/\mR vk=true/\bh P q.2=false then
     fm vk c ((fy cs es).getD z) λv=>K (cond ok (.mu [.t v, .t (.bool (fy cs es).isSome)]) (.t v)) else none
   | _=>none
  | _=>none
def sA{R:Type}(P:Program)(d:Nat)(t:TypeId)(K:AV->aH->Option R):Option R:=
 (sB P t).bind λq=>(kY P q.1).bind λp=>if mR (lS P q.2)=true then K (.own (.s d 0)) [(.s d 0, .mp p.1 p.2 (lS P q.2) [])] else none
def nK{R:Type}(P:Program)(s:St)(t:TypeId)(x key v:AV)(K:aH->Option R):Option R:=
 (sB P t).bind λq=>oS P q.1 none key λag ks cs=>match x with
  | .own i=>match s.h i with
   | some (.mp a b vk es)=>if a=ag/\b=ks/\lS P q.2=vk/\mR vk=true then
     v.t?.bind λv=>fm vk none v λv=>K [(i, .mp ag ks vk (gY cs v es))] else none
   | _=>none
  | _=>none
def jf(key:List T):List (List T×T)->List (List T×T)
 | []=> []
 | p::r=>cond (ei key p.1) r (p::jf key r)
def na{R:Type}(P:Program)(s:St)(t:TypeId)(x key:AV)(K:aH->Option R):Option R:=
 (sB P t).bind λq=>oS P q.1 none key λag ks cs=>match x with
  | .own i=>match s.h i with
   | some (.mp a b vk es)=>if a=ag/\b=ks then K [(i, .mp ag ks vk (jf cs es))] else none
   | _=>none
  | _=>none
def jW(fl a:Bool)(h:Id->Option ab):AV->Option (T×aH)
 | .ref i off=>cond fl (match h i with
  | some (.box cs)=>(cond a (vP h (cs.drop off)) (eZ (cs.drop off))).bind λl=>some (.ptr l,[])
  | some (.iR l)=>some (.ptr (l.drop off),[])
  | _=>none) ((dH h (.ref i off)).bind λx=>some (x,ij h (.ref i off)))
 | v=>(dH h v).bind λx=>some (x,cond fl [] (ij h v))
def mE(fl a:Bool)(h:Id->Option ab):List AV->Option (List T×aH)
 | []=>some ([],[])
 | v::r=>(jW fl a h v).bind λp=>(mE fl a h r).bind λq=>some (p.1::q.1,p.2++q.2)
def lO(fl d:Bool)(h:Id->Option ab):AV->Option (AV×aH)
 | .fn f a b=>(mE fl d h a).bind λx=>(mE fl d h b).bind λy=>some (.fn f (x.1.map .t) (y.1.map .t),x.2++y.2)
 | .agg vs=>(mE fl d h vs).bind λx=>some (.agg (x.1.map .t),x.2)
 | v=>(jW fl d h v).bind λp=>some (.t p.1,p.2)
def lP(fl a:Bool)(h:Id->Option ab):List AV->Option (List AV×aH)
 | []=>some ([],[])
 | v::r=>(lO fl a h v).bind λp=>(lP fl a h r).bind λq=>some (p.1::q.1,p.2++q.2)
def yM(P:Program):Nat->TypeId->Bool
 | 0,_=>false
 | n+1,t=>match P.underlying t with
  | some (.int _) | some .bool | some .string=>true
  | some (.struct a)=>a.toList.all λf=>yM P n f.type
  | some (.array _ e)=>yM P n e
  | _=>false
def ph(e:Row):T:=match e.own with
 | some p=> .aa 0 p.1 p.2
 | none=> .aw
def bK(b:Bool)(es:List Row):T:= .aa 2 b (es.map λe=> [.ptr e.cs,ph e])
def rK:Nat->List (List T)->Option (List Row)
 | _,[]=>some []
 | n,[.ptr cs, .aa _ b xs]::r=>(rK (n+1) r).bind λl=>some (⟨n,cs,some (b,xs)⟩::l)
 | _,_=>none
def kR:T->Option (Bool×List Row)
 | .aa _ b xs=>(rK 0 xs).bind λl=>some (b,l)
 | _=>none
def bN(es:List Row):Bool:=es.all λe=>e.own.isSome
def H3:bU->Bool
 | .rows _ _ _=>true
 | _=>false
def bQ(es:List (List T×T)):T:= .aa 2 false (es.map λp=> [.ptr p.1,p.2])
def Bq:List (List T)->Option (List (List T×T))
 | []=>some []
 | [.ptr k,v]::r=>(Bq r).bind λl=>some ((k,v)::l)
 | _=>none
def iO:T->Option (List (List T×T))
 | .aa _ _ xs=>Bq xs
 | _=>none
def mH{R:Type}(ids:List Id)(d:Nat)(c:Option Bool)(j:Nat)(r:bU)(x:T)(K:AV->aH->Nat->Option R):Option R:=
 match r with
 | .f k=>fm k c x λx=>K (.t x) [] j
 | .t k=>fm k c x λx=>K (.t x) [] j
 | .own sz=>match c with
  | none=>ae none (x.aT sz) λp=>K (.own (.s d j)) [(.s d j, .sl false sz p.1 p.2)] (j+1)
  | some _=>none
 | .ref k off=>match ids[k]? with
  | some i=>K (.ref i off) [] j
  | none=>none
 | .same k=>match ids[k]? with
  | some i=>K (.own i) [] j
  | none=>none
 | .rows sz aD rsz=>match c with
  | none=>ae none (kR x) λp=>K (.own (.s d j)) [(.s d j, .rows p.1 sz aD rsz p.2.length p.2)] (j+1)
  | some _=>none
 | .mp ag ks vk=>match c with
  | none=>ae none (iO x) λes=>K (.own (.s d j)) [(.s d j, .mp ag ks vk es)] (j+1)
  | some _=>none
 | .no=>K .top [] j
 | .agg _=>none
 | .new _=>none
def kg{R:Type}(ids:List Id)(d:Nat)(c:Option Bool):Nat->List bU->List T->(List AV->aH->Nat->Option R)->Option R
 | j,[],_,K=>K [] [] j
 | j,r::a,xs,K=>ae c xs.head? λx=>mH ids d c j r x λv u j=>kg ids d c j a xs.tail λvs us j=>K (v::vs) (u++us) j
def bU.size:bU->Nat
 | .agg l=>l.length
 | .new l=>l.length
 | _=>1
def ee{R:Type}(ids:List Id)(d:Nat)(c:Option Bool):Nat->List bU->List T->(List AV->aH->Nat->Option R)->Option R
 | j,[],_,K=>K [] [] j
 | j,r::a,xs,K=>match r with
  | .agg l=>kg ids d c j l xs λv u j=>ee ids d c j a (xs.drop l.length) λvs us j=>K (AV.agg v::vs) (u++us) j
  | .new l=>match c with
   | none=>kg ids d c j l xs λv u j=>ee ids d c (j+1) a (xs.drop l.length) λvs us b=>K (AV.ref (.s d j) 0::vs) (u++ [(.s d j, .box v)] ++us) b
   | some _=>none
  | r=>ae c xs.head? λx=>mH ids d c j r x λv u j=>ee ids d c j a xs.tail λvs us j=>K (v::vs) (u++us) j
def mS:List bU->Nat
 | []=>0
 | r::a=>r.size+mS a
def gv{R:Type}(all:List Id)(d:Nat):Nat->List Id->List jU->List T->(aH->Option R)->Option R
 | j,i::a, .box l::r,xs,K=>kg all d none j l xs λv u j=>gv all d j a r (xs.drop l.length) λq=>K (u++ (i, .box v)::q)
 | j,i::a, .sl sz::r,xs,K=>ae none (xs.head?.bind (T.aT sz)) λp=>gv all d j a r xs.tail λq=>K ((i, .sl false sz p.1 p.2)::q)
 | j,i::a, .mp ag ks vk::r,xs,K=>ae none (xs.head?.bind iO) λes=>gv all d j a r xs.tail λq=>K ((i, .mp ag ks vk es)::q)
 | j,_::a, .dead::r,xs,K=>gv all d j a r xs K
 | _,[],[],_,K=>K []
 | _,_,_,_,_=>none
def mf:List AV->AV
 | [v]=>v
 | vs=> .mu vs
def Mm(P:Program)(t:TypeId):bU:=cond (bh P t) (.agg ((tY P t).map λk=>cond (yM P 8 t) (.f k) (.t k))) (cond (yM P 8 t) (.f (lS P t)) (.t (lS P t)))
def r7:bU->Bool
 | .f _=>true
 | .agg l=>l.all λr=>match r with
  | .f _=>true
  | _=>false
 | _=>false
def dr(P:Program)(A:cJ)(f:FuncId)(n:Nat)(fn:Func):List bU:=
 match A.iK f with
 | some _=>(A.Bf f n).res
 | none=>match A.sig f with
  | some sg=>sg.res
  | none=>fn.resultTypes.toList.map (Mm P)
def im(A:cJ)(f:FuncId)(n:Nat):List jU:=
 match A.iK f with
 | some _=>(A.Bf f n).outs
 | none=> []
def QZ:AV->Bool
 | .own _=>true
 | .part _ _ _ _=>true
 | _=>false
def iy:Option ab->Nat
 | some (.box cs)=>cs.length+1000 * (cs.filter QZ).length
 | _=>0
def bV(c:Option Bool)(m:Option (List T)):Option (List T):=
 match c with
 | none=>m
 | some b=>cond b m (some [])
def mY{R:Type}(P:Program)(c:Option Bool)(t:TypeId)(v:AV)(K:AV->Option R):Option R:=
 match v with
 | .t x=>fm (lS P t) c x λy=>K (.t y)
 | .agg vs=>match eZ vs with
  | some l=>eY c (tY P t) l λl=>K (.agg (l.map .t))
  | none=>K (.agg vs)
 | v=>K v
def jz{R:Type}(P:Program)(c:Option Bool):List TypeId->List AV->(List AV->Option R)->Option R
 | [],vs,K=>K vs
 | _::_,[],K=>K []
 | t::ts,v::vs,K=>mY P c t v λu=>jz P c ts vs λus=>K (u::us)
def Bh:List Bool->List AV->List Id
 | b::fl,v::vs=>cond b v.ids [] ++Bh fl vs
 | _,_=> []
def uc(h:Id->Option ab)(fI:List Id)(b:Bool)(v:AV):Option (AV×aH):=
 cond (b || (!v.ids.isEmpty && v.ids.all fI.contains)) (some (v,[])) (lO false false h v)
def mF(h:Id->Option ab)(fI:List Id):List Bool->List AV->Option (List AV×aH)
 | _,[]=>some ([],[])
 | fl,v::r=>(uc h fI (fl.headD false) v).bind λp=>(mF h fI fl.tail r).bind λq=>some (p.1::q.1,p.2++q.2)
def Rr(sz aD rsz:Nat):Nat:=100000+1000 * sz+100 * aD+rsz
def sP(h:Id->Option ab)(new i:Id)(k sz aD rsz:Nat):Option aH:=
 match h i with
 | some (.box cs)=>match cs[k]? with
  | some (.own _)=>some []
  | some (.t (.aJ b))=>cond (h new).isNone (some [(new, .rows b sz aD rsz 0 []),(i, .box (cs.set k (.own new)))]) none
  | some (.t (.aa _ true []))=>cond (h new).isNone (some [(new, .rows true sz aD rsz 0 []),(i, .box (cs.set k (.own new)))]) none
  | _=>none
 | _=>none
def o7(h:Id->Option ab)(new i:Id)(k sz:Nat):Option aH:=
 cond (Nat.ble 100000 sz) (sP h new i k (sz % 100000 / 1000) (sz % 1000 / 100) (sz % 100)) <|
 match h i with
 | some (.box cs)=>match cs[k]? with
  | some (.own _)=>some []
  | some (.t (.aJ b))=>cond (h new).isNone (some [(new, .sl false sz b []),(i, .box (cs.set k (.own new)))]) none
  | some (.t (.aa _ true []))=>cond (h new).isNone (some [(new, .sl false sz true []),(i, .box (cs.set k (.own new)))]) none
  | some (.part j d 0 n)=>match h j with
   | some (.sl false a b xs)=>if a=sz/\d=sz/\j≠i then cond (h new).isNone (some [(j, .dead),(new, .sl false sz b (xs.take n)),(i, .box (cs.set k (.own new)))]) none else none
   | _=>none
  | _=>none
 | _=>none
def kB(a:Nat):Nat->(Id->Option ab)->List (Id×Nat×Nat)->Option aH
 | _,_,[]=>some []
 | j,h,(i,k,sz)::r=>(o7 h (.s a j) i k sz).bind λus=>(kB a (j+1) (aK h us) r).bind λvs=>some (us++vs)
def pR:List Id->List Id->List Id
 | [],_=> []
 | i::r,seen=>cond (seen.contains i) (pR r seen) (i::pR r (i::seen))
def nO(i:Id):Nat->List bU->List (Id×Nat×Nat)
 | _,[]=> []
 | k, .own sz::r=>(i,k,sz)::nO i (k+1) r
 | k, .rows sz aD rsz::r=>(i,k,Rr sz aD rsz)::nO i (k+1) r
 | k,_::r=>nO i (k+1) r
def nP:List Id->List jU->List (Id×Nat×Nat)
 | i::a, .box l::r=>nO i 0 l++nP a r
 | _::a,_::r=>nP a r
 | _,_=> []
def kf(l:List Id):aH:=l.map λi=>(i, .dead)
def zt(d:Nat)(l:List Id):Bool:=l.all λi=>match i with
 | .s a _=> !(a==d)
 | .c _=>true
 | .g _ _=>false
def gP{R:Type}(P:Program)(A:cJ)(O:au)(s:St)(d:Nat)(c:Option Bool)(f:FuncId)(args:List AV)(K:AV->aH->Option R):Option R:=
 match P.funcs[f]? with
 | none=>none
 | some fn=>
  match A.iK f with
  | none=>(lP ((dr P A f 0 fn).all r7) (A.deep f) s.h args).bind λp=>
   jz P c fn.params.toList p.1 λq=>ae none (bV c (O (.call f) q [])) λxs=>ee [] d c 0 (dr P A f 0 fn) xs λvs u _=>K (mf vs) (p.2++u)
  | some fl=>match c with
   | some _=>none
   | none=>(mF s.h (Bh fl args) fl args).bind λp=>
    (kB (2000000+d) 0 (aK s.h p.2) (nP (pR (bX p.1) []) (im A f (iy ((bX p.1).head?.bind (aK s.h p.2)))))).bind λus=>
    (fh (aK (aK s.h p.2) us) 1000 (bX p.1) []).bind λseen=>
    cond (zt d seen && Nat.beq (iy (seen.map λi=>iq seen (aK (aK s.h p.2) us i)).head?) (iy ((bX p.1).head?.bind (aK s.h p.2)))) (jz P none fn.params.toList (kE seen p.1) λq=>
     ae none (O (.call f) q (seen.map λi=>iq seen (aK (aK s.h p.2) us i))) λxs=>
     ee seen d none 0 (dr P A f (iy ((bX p.1).head?.bind (aK s.h p.2))) fn) xs λvs u j=>
     gv seen d j seen (im A f (iy ((bX p.1).head?.bind (aK s.h p.2)))) (xs.drop (mS (dr P A f (iy ((bX p.1).head?.bind (aK s.h p.2))) fn))) λq=>
     K (mf vs) (p.2++us++kf seen++u++q)) none
def nQ:List AV->Option (List AV×Id×Nat×List AV)
 | []=>none
 | .row i n::r=>some ([],i,n,r)
 | v::r=>(nQ r).bind λq=>some (v::q.1,q.2.1,q.2.2.1,q.2.2.2)
def lZ(n:Nat):List Row->Option Unit
 | []=>none
 | e::r=>if e.n=n then(match e.own with | none=>some () | some _=>none) else lZ n r
def ue{R:Type}(h:Id->Option ab)(i new:Id)(n rsz:Nat)(K:aH->Option R):Option R:=
 match h i,h new with
 | some (.rows b sz aD d nx es),some (.sl false a e xs)=>if d=rsz/\a=rsz then
   ae none (lZ n es) λ_=>K [(i, .rows b sz aD rsz nx (dG n (some (e,xs)) es)),(new, .dead)] else none
 | _,_=>none
def Ic:Operand->Bool
 | .func _=>false
 | _=>true
def jH{R:Type}(iC:Bool)(P:Program)(A:cJ)(O:au)(s:St)(d:Nat)(c:Option Bool)(f:FuncId)(args:List AV)(K:AV->aH->Option R):Option R:=
 match cond iC (nQ args) none with
 | none=>gP P A O s d c f args K
 | some (e,i,n,g)=>match c,s.h i with
  | none,some (.rows b sz aD rsz nx es)=>ae none (bB n es) λp=>
    cond (s.h (.s (2500000+d) 0)).isNone
     (gP P A O {t:=s.t,h:=aK s.h [(i, .rows b sz aD rsz nx (dG n none es)),(.s (2500000+d) 0, .sl false rsz p.1 p.2)]} d none f (e++ .own (.s (2500000+d) 0)::g) λv us=>
      ue (aK s.h ([(i, .rows b sz aD rsz nx (dG n none es)),(.s (2500000+d) 0, .sl false rsz p.1 p.2)] ++us)) i (.s (2500000+d) 0) n rsz λa=>
       K v ([(i, .rows b sz aD rsz nx (dG n none es)),(.s (2500000+d) 0, .sl false rsz p.1 p.2)] ++us++a)) none
  | _,_=>none
theorem L3{R:Type}(P:Program)(A:cJ)(O:au)(s:St)(d:Nat)(c:Option Bool)(f:FuncId)(args:List AV)(K:AV->aH->Option R):jH false P A O s d c f args K=gP P A O s d c f args K:=rfl
def yU(c:Option Bool)(b:Bool):Option Bool:=some (match c with
 | none=>b
 | some a=>a && b)
def oR{R:Type}(c:Option Bool)(v:AV)(K:Int->Option R):Option R:=
 v.t?.bind λx=>ae c (jb.anyInt x) K
def jG{R:Type}(P:Program)(A:cJ)(O:au)(g:Option Gs)(o:Oper)(s:St)(K:AV->aH->Option R):Option R:=
 let ev:=s.get g;let c:=g.map (·.c);let d:=o.dst.getD 0
 match o.op with
 | .move x | .assign x=>K (ev x) []
 | .pick k a b=>(ev k).t?.bind λI=>ae c I.bool? λkb=>
   (s.mJ g k true a).t?.bind λx=>ae (yU c kb) x.bool? λJ=>
   (s.mJ g k false b).t?.bind λy=>ae (yU c (!kb)) y.bool? λL=>K (AV.t (.bool (cond kb J L))) []
 | .alloc t=>match c with
  | some _=>none
  | none=>(jT P t).bind λl=>K (.ref (.s d 0) 0) [(.s d 0, .box (l.map .t))]
 | .box _ x=>match c with
  | some _=>none
  | none=>if(hZ (ev x)).all pN then K (.ref (.s d 0) 0) [(.s d 0, .box (hZ (ev x)))] else none
 | .build t B=>(xP P t ev B.toList).bind λv=>K v []
 | .buildSlice t n B=>(nk P t).bind λe=>if A.nG o.dst o.type=1 then
   (match c,B.toList,n with
   | none,[(0,x)],1=>if((hZ (ev x)).length=P.cellsOf e/\(hZ (ev x)).all pN=true)/\P.cellsOf e<=1000/\0 < P.cellsOf e/\(jT P e).isSome=true then K (.own (.s d 0)) [(.s d 0, .arr (hZ (ev x)))] else none
   | _,_,_=>none)
   else if B.size=n/\n<=1000/\P.cellsOf e<=1000/\0 < P.cellsOf e/\(jT P e).isSome=true then
   if n=0/\A.app o.dst=true then K (.t (.aJ false)) [] else
   (iQ P s.h e ev 0 B.toList).bind λq=>
   match c with
   | some _=>K (.t (.aa (P.cellsOf e) false q.1)) q.2
   | none=>K (.own (.s d 0)) ((.s d 0, .sl false (P.cellsOf e) false q.1)::q.2)
   else none
 | .load t a=>kA P s c t (ev a) λv=>K v []
 | .store t a x=>match c with
  | some _=>none
  | none=>jx P s t (ev a) (ev x) λu=>K .top u
 | .nilCheck x=>match ev x with
  | .ref i k=>K (.ref i k) []
  | .el i sz k o=>K (.el i sz k o) []
  | .rel i sz n k o=>K (.rel i sz n k o) []
  | .t y=>ae c y.qy λcs=>K (.t (.ptr cs)) []
  | .fn f a b=>K (.fn f a b) []
  | _=>none
 | .binOp op t x y ty=>match op,oX P t y,oX P t x with
  | .eql,true,_=>(jN P s t (ev x)).bind λb=>K (.t (.bool b)) []
  | .neq,true,_=>(jN P s t (ev x)).bind λb=>K (.t (.bool (!b))) []
  | .eql,_,true=>(jN P s t (ev y)).bind λb=>K (.t (.bool b)) []
  | .neq,_,true=>(jN P s t (ev y)).bind λb=>K (.t (.bool (!b))) []
  | .eql,_,_=>pV P c t (ev x) (ev y) λb=>K (.t (.bool b)) []
  | .neq,_,_=>pV P c t (ev x) (ev y) λb=>K (.t (.bool (!b))) []
  | op,_,_=>(ev x).t?.bind λa=>(ev y).t?.bind λb=>rE P op t ty c a b λz=>K (.t z) []
 | .unOp op t x=>(ev x).t?.bind λa=>th P op t c a λz=>K (.t z) []
 | .convert src C x=>match P.underlying src,P.underlying C with
  | some (.slice e),some .string=>match su P e with
   | some .u8=>(dH s.h (ev x)).bind λy=>ae c ((y.aT 1).bind λp=>bytesOf p.2) λl=>K (.t (.str ⟨l.toArray⟩)) []
   | _=>none
  | _,_=>(ev x).t?.bind λa=>rI P c src C a λz=>K (.t z) []
 | .makeFunc (.func f) H D=>K (.fn f (H.toList.map ev) (D.toList.map ev)) []
 | .makeSlice t l m=>match c with
  | some _=>none
  | none=>(ev l).t?.bind λn=>(ev m).t?.bind λk=>sw P d t (A.nG o.dst o.type) n k K
 | .makeMap t m=>match c,m with
  | none,none=>sA P d t K
  | _,_=>none
 | .lookup t x k ok=>nC P s c t (ev x) (ev k) ok λv=>K v []
 | .mapUpdate t x k v=>match c with
  | some _=>none
  | none=>nK P s t (ev x) (ev k) (ev v) λu=>K .top u
 | .slice t x E hi F=>
  jb s c g E λE=>jb s c g hi λhi=>jb s c g F λF=>nU P s c t (ev x) E hi F λv=>K v []
 | .fieldAddr t x f=>rZ P c t (ev x) f λv=>K v []
 | .field t x f=>rY P t (ev x) f λv=>K v []
 | .indexAddr t x i=>oR c (ev i) λn=>jM P s c t (ev x) n λv=>K v []
 | .index t x i=>oR c (ev i) λn=>match P.underlying t with
  | some .string=>(ev x).t?.bind λy=>ae c y.bC λb=>kr c n b.size
    (ae c b.data.toList[n.toNat]? λu=>K (.t (.int .u8 u.toNat)) [])
  | some (.array m e)=>match ev x with
   | .agg vs=>cond (bR P e) ((eZ vs).bind λl=>kr c n m (kZ P e c (l.drop (n.toNat * P.cellsOf e)) λz=>K z [])) none
   | _=>none
  | _=>none
 | .extract x k=>match ev x with
  | .mu vs=>(vs[k]?).bind λv=>K v []
  | _=>none
 | .call j=>match j.callee with
  | .builtin .len=>match j.args.toList,j.argTypes.toList with
   | [x],t::_=>nA P s c t (ev x) λv=>K v []
   | _,_=>none
  | .builtin .append=>match c,j.args.toList,j.argTypes.toList with
   | none,[x,y],[t,u]=>kO P s d (A.nG o.dst o.type==3) t u (ev x) (ev y) K
   | _,_,_=>none
  | .builtin .max=>match su P o.type with
   | some k=>(eZ (j.args.toList.map ev)).bind λl=>match l with
    | x::r=>ae c (x.int? k) λa=>oU k c true a r λz=>K (.t z) []
    | []=>none
   | none=>none
  | .builtin .min=>match su P o.type with
   | some k=>(eZ (j.args.toList.map ev)).bind λl=>match l with
    | x::r=>ae c (x.int? k) λa=>oU k c false a r λz=>K (.t z) []
    | []=>none
   | none=>none
  | .builtin .delete=>match c,j.args.toList,j.argTypes.toList with
   | none,[x,y],t::_=>na P s t (ev x) (ev y) λu=>K (.mu []) u
   | _,_,_=>none
  | .builtin .cap=>match j.args.toList,j.argTypes.toList with
   | [x],t::_=>match P.underlying t with
    | some (.slice _)=>match ev x with
     | .t y=>cond (y6 y) (K (.t (.int .i64 0)) []) none
     | _=>none
    | _=>none
   | _,_=>none
  | .value G=>match ev G with
   | .fn f a b=>jH (Ic G) P A O s d c f (a++j.args.toList.map ev++b) K
   | _=>none
  | _=>none
 | _=>none
open Go
section
variable (P:Program) (A:cJ) (O:au)
def xZ(b want:Bool):Bool:=cond want b (!b)
def gC(g:Option Gs)(b want:Bool):Bool:=
 match g with
 | none=>xZ b want
 | some a=>cond a.c (xZ b want) false
def dE{R:Type}(a:Array Oper)(o:Oper)(s:St)(K:Option Gs->Option R):Option R:=
 match o.guard with
 | none=>K none
 | some (j,want)=>match(a[j]?).bind (·.dst) with
  | none=>none
  | some d=>(s.t d).2.t?.bind λx=>ae ((s.t d).1.map (·.c)) x.bool? λb=>
    K (some {d:=d,want:=want,c:=gC (s.t d).1 b want})
def PA:Builtin->Bool
 | .delete=>true
 | _=>false
def gy(o:Oper):Bool:=
 match o.op with
 | .store .. =>true
 | .mapUpdate .. =>true
 | .call a=>match a.callee with
  | .builtin .append=>match a.args.toList with
   | .const (.slice none 0 0)::_=>false
   | _=> !A.app o.dst
  | .builtin b=>PA b
  | .value (.func f)=>match A.iK f with
   | some _=>true
   | none=>match P.funcs[f]? with
    | some _=>A.wr f
    | none=>true
  | _=>true
 | _=>false
def OT(o:Oper):Bool:=
 match o.op with
 | .call a=>match a.callee with
  | .value (.func f)=>match P.funcs[f]? with
   | some fn=>(dr P A f 0 fn).all r7
   | none=>false
  | _=>false
 | _=>false
def gx(o:Oper):Bool:=
 match o.op with
 | .move _ | .assign _ | .pick .. | .build .. | .unOp .. | .makeFunc .. | .fieldAddr .. | .field .. | .extract .. | .nilCheck _=>true
 | .binOp _ t x y _=> !(oX P t x || oX P t y)
 | .call a=>match a.callee with
  | .builtin .max | .builtin .min=>true
  | _=>false
 | _=>false
def fa(o:Oper):Bool:=
 match o.op with
 | .call a=>match a.callee with
  | .value (.func f)=>A.deep f
  | .value _=>true
  | .builtin .append=>A.nG o.dst o.type==3
  | _=>false
 | _=>false
def sJ(o:Oper):Bool:=gx P o ||
 match o.op with
 | .load .. | .index .. | .indexAddr .. | .slice .. | .binOp .. | .convert .. | .lookup .. =>true
 | .call a=>match a.callee with
  | .builtin .len=>true
  | .value (.func _)=> !gy P A o && OT P A o
  | _=>false
 | _=>false
def jk(o:Oper):Bool:=
 match o.op with
 | .alloc _ | .box .. | .makeSlice .. | .makeMap .. =>true
 | _=>false
def fA(o:Oper):Bool:=
 match o.op with
 | .call a=>match a.callee with
  | .value (.func f)=>(A.iK f).isSome
  | .value _=>true
  | _=>false
 | _=>false
def rH(a b:Oper):Bool:= !((gy P A a && !(gx P b || jk b)) || (gy P A b && !(gx P a || jk a))) && (!fa A a || sJ P A b) && (!fa A b || sJ P A a)
def gQ:List Oper->List Nat
 | []=> []
 | o::r=>match o.dst with
  | some d=>d::gQ r
  | none=>gQ r
def sO(d:Array Oper)(a:Nat):Nat:=match d.find? (λo=>o.dst==some a) with
 | some o=>match o.op with
  | .fieldAddr _ (.tmp b) _=>b
  | _=>a
 | none=>a
def gI(b:Array Oper)(o:Oper):Option Nat:=match o.guard,o.op with
 | none, .store _ (.tmp a) _=>some (sO b a)
 | none, .load _ (.tmp a)=>some (sO b a)
 | _,_=>none
def lE(d:Array Oper)(a b:Oper):Bool:=A.st ((d[0]?).bind (·.dst)) && (match gI d a,gI d b with
 | some k,some e=> !(k==e) && !(gQ d.toList).contains k && !(gQ d.toList).contains e
 | _,_=>false)
def Ey(o:Oper):Bool:=o.guard.isNone && gy P A o && match o.op with
 | .call a=>match a.callee with
  | .builtin .append=> !(A.nG o.dst o.type==3)
  | .value (.func f)=>(A.iK f).isNone && !A.deep f
  | _=>false
 | _=>false
def kF(b:Array Oper)(o:Oper):Option (Option Nat):=match o.guard,o.op with
 | none, .load _ (.tmp a)=>some (some (sO b a))
 | none, .buildSlice .. =>some none
 | _,_=>none
def kx(d:Array Oper)(a b:Oper):Bool:=A.ld ((d[0]?).bind (·.dst)) && Ey P A a && (match kF d b with
 | some (some k)=> !(gQ d.toList).contains k
 | some none=>true
 | none=>false)
def jO(o:Oper)(k:Bool):Bool:=match o.guard,o.op with
 | none, .store t (.tmp _) _=>(match P.underlying t with
  | some (.slice _)=>k
  | some (.int _)=> !k
  | _=>false)
 | _,_=>false
def mn(d:Array Oper)(a b:Oper):Bool:=A.sx ((d[0]?).bind (·.dst)) && jO P a true && jO P b false
def ka:aH->Bool
 | [(_, .dead),(_, .rows _ _ _ rsz _ _)]=> !(rsz==1)
 | _=>false
def kb:aH->Bool
 | [(_, .sl false sz _ _)]=>sz==1
 | _=>false
def A9(o:Oper)(s:St):Bool:=match o.op with
 | .store _ _ y=>(s.get none y).ids.isEmpty
 | _=>false
def y5(o:Oper):Bool:=match o.guard,o.op with
 | none, .indexAddr t (.tmp _) _=>(match nk P t with
  | some e=>P.cellsOf e==1
  | none=>false)
 | none, .load _ (.tmp _)=>true
 | _,_=>false
def vg(o:Oper)(s:St):Bool:=match o.op with
 | .load _ x=>(match s.get none x with
  | .ref _ _=>true
  | _=>false)
 | .indexAddr _ x _=>(match s.get none x with
  | .own _=>true
  | _=>false)
 | _=>false
def lG(d:Array Oper)(a b:Oper):Bool:=A.sx ((d[0]?).bind (·.dst)) && (jO P a true || jO P a false) && y5 P b
def sU(d:Array Oper)(a b:Oper):Bool:=lE A d a b || kx P A d a b || kx P A d b a || (mn P A d a b || mn P A d b a) || (lG P A d a b || lG P A d b a)
def iw(a:Array Oper):Nat->Nat->Nat->Bool
 | 0,_,_=>false
 | n+1,j,i=>match a[j]? with
  | none=>false
  | some b=>b.after.any λe=>Region.binds .any e && (e.on==i || (Nat.blt i e.on && iw a n e.on i))
def Cc(a:Array Oper)(b:Array Bool)(i:Nat):Bool:=
 match a[i]? with
 | none=>false
 | some d=>(List.range a.size).all λj=>match a[j]? with
  | none=>true
  | some e=>j==i || b.getD j true || rH P A d e || sU P A a d e || iw a 12 j i
def zg(b:Array Oper):Nat->Nat->Array Bool->Bool
 | 0,_,_=>true
 | n+1,k,a=>Cc P A b a k && zg b n (k+1) (a.setIfInBounds k true)
def O9(h:Id->Option ab)(us:aH):Bool:=us.all λp=>(h p.1).isNone
def jh(d:Nat)(h:Id->Option ab)(us:aH):Bool:=us.all λp=>match p.1 with
 | .s a _=> !(a==d) || (h p.1).isNone
 | .c _=>true
 | .g _ _=>false
def dY(a:Array Oper)(d:Option Nat):Bool:=
 a.any λo=>match o.guard with
  | none=>false
  | some (j,_)=>match(a[j]?).bind (·.dst),d with
   | some e,some d=>e==d
   | _,_=>false
def rF(a:Array Oper)(o:Oper)(d:Nat):Bool:=
 (List.range a.size).all λi=>match a[i]? with
  | some b=> !(b.dst==some d) || o.after.any (λe=>Region.binds .any e && (e.on==i || iw a 12 e.on i))
  | none=>true
def oV(a:Array Oper)(g:Option Gs)(o:Oper)(s:St):Bool:=
 o.op.operands.toList.all λx=>(s.get g x).ids.all λi=>match i with
  | .s d _=>rF a o d
  | .c _=>true
  | .g _ _=>false
def lj(o:Oper)(us:aH):Bool:=us.all λp=>match p.1 with
 | .s d _=>o.dst==some d
 | .c _=>false
 | .g _ _=>false
def tn(a:Array Oper)(o:Oper)(us:aH):Bool:=us.all λp=>match p.1 with
 | .s d _=>rF a o d || o.dst==some d
 | .c _=>true
 | .g _ _=>false
def DM(a:Array Oper)(o d:Oper)(s:St)(us:aH):Bool:=match gI a o,gI a d with
 | some k,some b=>(o.op.operands.toList.all λx=>(s.get none x).ids.all λi=>decide (i∈(s.t k).2.ids)) && us.all (λp=>decide (p.1∈(s.t k).2.ids)) && us.all (λp=>decide (p.1∉(s.t b).2.ids))
 | _,_=>false
def y8(a:Array Oper)(b:Oper)(s:St)(us:aH):Bool:=match kF a b with
 | some (some k)=>us.all λp=>decide (p.1∉(s.t k).2.ids)
 | _=>true
def uQ(a:Array Oper)(o:Oper)(s:St):Bool:=match kF a o with
 | some (some k)=>o.op.operands.toList.all λx=>(s.get none x).ids.all λi=>decide (i∈(s.t k).2.ids)
 | some none=>o.op.operands.toList.all λx=>(s.get none x).ids.isEmpty
 | none=>true
def kJ(a:Array Oper)(o:Oper)(s:St)(us:aH):Bool:=a.all λb=>(!(lE A a o b) || DM a o b s us) && (!(kx P A a o b) || y8 a b s us) && (!(kx P A a b o) || uQ a o s) && ((!(mn P A a o b) || ka us) && (!(mn P A a b o) || (kb us && A9 o s))) && ((!(lG P A a o b) || ka us || kb us) && (!(lG P A a b o) || vg o s))
def o5(b:Bool)(nt:Nat)(a:Array Oper)(o:Oper)(g:Option Gs)(s:St)(us:aH):Bool:=
 (match o.dst with | some d=>decide (d < nt) | none=>true) &&
 (match g with | some g=>us.isEmpty && !(o.dst==some g.d) | none=>true) &&
 jh (o.dst.getD 0) s.h us && (!b || (oV a g o s && (gy P A o || lj o us) && (!gx P o || us.isEmpty) && (!sJ P A o || us.isEmpty) && (!gy P A o || tn a o us) && Nat.ble nt 1000000 && kJ P A a o s us))
def qH(a:Bool)(o:Oper)(g:Option Gs):Option Gs:=
 match g with
 | some g=>cond (!a && fA A o) (some g) none
 | none=>none
def yh(nt:Nat)(o:Oper)(g:Gs):Bool:=(match o.dst with | some d=>decide (d < nt) | none=>true) && !(o.dst==some g.d)
def QH(o:Oper):AV:=
 match o.op with
 | .call a=>match a.callee with
  | .value (.func f)=>match P.funcs[f]? with
   | some fn=>match dr P A f 0 fn with
    | [.f .b]=> .t (.bool false)
    | [.f (.i k)]=> .t (.int k 0)
    | _=> .top
   | none=> .top
  | _=>match P.underlying o.type with
   | some .bool=> .t (.bool false)
   | some (.int k)=> .t (.int k 0)
   | _=> .top
 | _=> .top
def o6{R:Type}(b:Bool)(nt:Nat)(a:Array Oper)(o:Oper)(s:St)(K:St->Option R):Option R:=
 dE a o s λg=>match qH A b o g with
 | some d=>cond (yh nt o d) (cond d.c
   (jG P A O none o (s.sI d) λv us=>
    if o5 P A b nt a o none s us then K (s.put (dY a o.dst) o.dst (some d) v us) else none)
   (K (s.put (dY a o.dst) o.dst (some d) (QH P A o) []))) none
 | none=>jG P A O g o s λv us=>
  if o5 P A b nt a o g s us then K (s.put (dY a o.dst) o.dst g v us) else none
def vE{R:Type}(a:Bool)(nt:Nat)(b:Array Oper):List Oper->St->(St->Option R)->Option R
 | [],s,K=>K s
 | o::r,s,K=>o6 P A O a nt b o s λs'=>vE a nt b r s' K
def St.clear(s:St):St:=
 {t :=λk=>match s.t k with
    | (none,v)=>(none,v)
    | (some _,_)=>(none, .top)
  h:=s.h}
def uZ:List Nat->Bool
 | []=>true
 | d::r=> !r.contains d && uZ r
def sf(a:Array Oper):Bool:=a.all λo=>match o.guard with
 | none=>true
 | some (j,_)=>o.after.any λe=>Region.binds .any e && e.on==j
def Db(b:Bool)(a:Array Oper):Bool:=
 !b || (Region.lexB .any a && zg P A a a.size 0 (Array.replicate a.size false) && uZ (gQ a.toList) && sf a)
def region{R:Type}(nt:Nat)(a:Bool)(b:Array Oper)(s:St)(K:St->Option R):Option R:=
 cond (Db P A a b)
  (vE P A O a nt b b.toList s λs'=>K s'.clear) none
def sH(h:Id->Option ab):AV->AV
 | .own i=>match h i with
  | some (.sl true sz b xs)=> .t (.aa sz b xs)
  | _=> .own i
 | .part i sz off n=>match h i with
  | some (.sl true a b xs)=>if a=sz then .t (.aa sz b ((xs.drop off).take n)) else .part i sz off n
  | _=> .part i sz off n
 | .ref i off=>match h i with
  | some (.iR l)=> .t (.ptr (l.drop off))
  | _=> .ref i off
 | v=>v
def uR(s:St)(k:Nat×Option Nat):Option (AV×aH):=
 match s.t k.1 with
 | (some _,_)=>none
 | (none,v)=>match k.2 with
  | none=>some (sH s.h v,[])
  | some sz=>if sz=0\/sz>=1000000 then some (sH s.h v,[]) else match v with
   | .own i=>match s.h i with
    | some (.sl false _ _ _)=>some (.own i,[])
    | _=>none
   | .t (.aJ b)=>some (.own (.s (1000000+k.1) 0),[(.s (1000000+k.1) 0, .sl false sz b [])])
   | _=>none
def oT(s:St):List (Nat×Option Nat)->Option (List AV×aH)
 | []=>some ([],[])
 | k::r=>(uR s k).bind λp=>(oT s r).bind λq=>some (p.1::q.1,p.2++q.2)
def zV(f:FuncId)(todo:List Item)(live:List (Nat×Option Nat))(m:Nat×Nat)(s:St):Option (List T):=
 (oT s live).bind λp=>
  if O9 s.h p.2 then
  let h:=aK s.h p.2
  (fh h 1000 ((List.range m.1).map Id.c++bX p.1) []).bind λseen=>
   O (.node f todo live m) (kE seen p.1) (seen.map λi=>iq seen (h i))
  else none
def oM(s:St):List (Nat×Option Nat)->aH
 | []=> []
 | (k,some 0)::r=>ij s.h (s.t k).2++oM s r
 | _::r=>oM s r
def zG(s:St):List (Nat×Option Nat)->List (Id×Nat×Nat)
 | []=> []
 | (k,some n)::r=>match cond (Nat.ble 1000000 n) (s.t k).2 .top with
  | .ref i _=>(i,n / 1000000 - 1,n % 1000000)::zG s r
  | _=>zG s r
 | _::r=>zG s r
def mq(f:FuncId)(todo:List Item)(live:List (Nat×Option Nat))(m:Nat×Nat)(s:St):Option (List T):=
 (kB 1900000 0 (aK s.h (oM s live)) (zG s live)).bind λus=>
  zV O f todo live m {t:=s.t,h:=aK (aK s.h (oM s live)) us}
def nr(live:List (Nat×Option Nat))(be:List AV)(blks:List ab):St:=
 {t:=λk=>(none,look live be k)
  h:=fun
   | .c j=>blks[j]?
   | _=>none}
where
 look:List (Nat×Option Nat)->List AV->Nat->AV
 | (k,_)::ks,v::vs,j=>if j=k then v else look ks vs j
 | _,_,_=> .top
def pf:Code->Nat
 | .region id _ _=>id
 | .seq a _=>pf a
 | .block _ b=>pf b
 | .cond _ a _=>pf a
 | _=>1000000
def I7(h:Id->Option ab)(sz:Nat):AV->Option (T×Id)
 | .own i=>match h i with
  | some (.sl false a b xs)=>if a=sz then some (.aa sz b xs,i) else none
  | _=>none
 | _=>none
def jK{R:Type}(m:Nat)(h:Id->Option ab)(r:bU)(v:AV)(K:T->List Id->List Id->Option R):Option R:=
 match r with
 | .f _=>v.t?.bind λx=>ae none x.pX λ_=>K x [] []
 | .t _=>(dH h v).bind λx=>K x [] ((ij h v).map (·.1))
 | .own sz=>match v with
  | .own i=>(I7 h sz (.own i)).bind λp=>K p.1 [p.2] []
  | .part i a 0 n=>match h i with
   | some (.sl false j b xs)=>if j=sz/\a=sz then K (.aa sz b (xs.take n)) [i] [] else none
   | _=>none
  | .t (.aJ b)=>K (.aJ b) [] []
  | .t (.aa _ true [])=>K (.aJ true) [] []
  | _=>none
 | .ref k off=>match v with
  | .ref (.c e) off'=>if e=k/\off'=off/\k < m then K .aw [] [] else none
  | _=>none
 | .same k=>match v with
  | .own (.c e)=>if e=k/\k < m then K .aw [] [] else none
  | _=>none
 | .rows sz aD rsz=>match v with
  | .own i=>match h i with
   | some (.rows b a d g _ es)=>if a=sz/\d=aD/\g=rsz then
     ae none (if bN es=true then some () else none) λ_=>K (bK b es) [i] [] else none
   | _=>none
  | _=>none
 | .mp ag ks vk=>match v with
  | .own i=>match h i with
   | some (.mp l o q es)=>if l=ag/\o=ks/\q=vk then K (bQ es) [i] [] else none
   | _=>none
  | _=>none
 | .no=>match v with
  | .ref _ _=>K .aw [] []
  | _=>none
 | .agg _=>none
 | .new _=>none
def nn{R:Type}(m:Nat)(h:Id->Option ab):List bU->List AV->(List T->List Id->List Id->Option R)->Option R
 | [],[],K=>K [] [] []
 | r::f,v::vs,K=>jK m h r v λx a b=>nn m h f vs λxs d e=>K (x::xs) (a++d) (b++e)
 | _,_,_=>none
def bW{R:Type}(m:Nat)(h:Id->Option ab):List bU->List AV->(List T->List Id->List Id->Option R)->Option R
 | [],[],K=>K [] [] []
 | r::f,v::vs,K=>match r with
  | .agg l=>match v with
   | .agg cs=>nn m h l cs λxs a b=>bW m h f vs λg d e=>K (xs++g) (a++d) (b++e)
   | _=>none
  | .new l=>match v with
   | .ref i 0=>match h i with
    | some (.box cs)=>nn m h l cs λxs a b=>bW m h f vs λg d e=>K (xs++g) (i:: (a++d)) (b++e)
    | _=>none
   | _=>none
  | r=>jK m h r v λx a b=>bW m h f vs λxs d e=>K (x::xs) (a++d) (b++e)
 | _,_,_=>none
def lU{R:Type}(m:Nat)(h:Id->Option ab):Nat->List jU->(List T->List Id->List Id->Option R)->Option R
 | _,[],K=>K [] [] []
 | j, .box l::r,K=>match h (.c j) with
  | some (.box cs)=>nn m h l cs λxs a b=>lU m h (j+1) r λf d e=>K (xs++f) (.c j:: (a++d)) (b++e)
  | _=>none
 | j, .sl sz::r,K=>match h (.c j) with
  | some (.sl false k b xs)=>if k=sz then lU m h (j+1) r λf d e=>K (.aa sz b xs::f) (.c j::d) e else none
  | _=>none
 | j, .mp ag ks vk::r,K=>match h (.c j) with
  | some (.mp g i n es)=>if g=ag/\i=ks/\n=vk then lU m h (j+1) r λf d e=>K (bQ es::f) (.c j::d) e else none
  | _=>none
 | j, .dead::r,K=>lU m h (j+1) r K
def sN{R:Type}(s:St):List ResultVar->(List AV->Option R)->Option R
 | [],K=>K []
 | .tmp k::r,K=>match s.t k with
   | (none,v)=>sN s r λl=>K (v::l)
   | _=>none
 | .cell k t::r,K=>match s.t k with
   | (none,v)=>kA P s none t v λv=>sN s r λl=>K (v::l)
   | _=>none
def zr:List Id->Bool
 | []=>true
 | i::r=> !r.contains i && zr r
def yK(f:FuncId)(fn:Func)(m:Nat×Nat)(s:St):Option (List T):=
 sN P s fn.results.toList λvs=>
  if m.1= (im A f m.2).length then
  bW m.1 s.h (dr P A f m.2 fn) vs λxs a b=>lU m.1 s.h 0 (im A f m.2) λg d e=>
   if zr (a++d) && (b++e).all (λi=> !(a++d).contains i) then some (xs++g) else none
  else none
def vF(aD rsz:Nat)(e:Row):List T:=e.cs.set aD (match e.own with
 | some p=> .aa rsz p.1 p.2
 | none=> .aw)
def vh:List AV->List Id
 | []=> []
 | .own i::r=>i::vh r
 | _::r=>vh r
def Df(h:Id->Option ab)(t:Nat->Option Gs×AV):List ResultVar->List Id
 | []=> []
 | .tmp k::r=>(match(t k).2 with
  | .agg vs=>vh vs
  | v=>vh [v])++Df h t r
 | .cell k _::r=>(match(t k).2 with
  | .ref i _=>match h i with
   | some (.box cs)=>vh cs
   | _=> []
  | _=> [])++Df h t r
def vN{R:Type}:(Id->Option ab)->List Id->(aH->Option R)->Option R
 | _,[],K=>K []
 | h,i::r,K=>match h i with
  | some (.rows b sz aD rsz _ es)=>ae none (if bN es=true then some () else none) λ_=>
    vN (aK h [(i, .sl true sz b (es.map (vF aD rsz)))]) r λus=>K ((i, .sl true sz b (es.map (vF aD rsz)))::us)
  | _=>vN h r K
def yJ(f:FuncId)(fn:Func)(m:Nat×Nat)(s:St):Option (List T):=
 cond ((dr P A f m.2 fn).any H3) (yK P A f fn m s)
  (vN s.h (Df s.h s.t fn.results.toList) λus=>yK P A f fn m {t:=s.t,h:=aK s.h us})
def ev(f:FuncId)(fn:Func)(m:Nat×Nat):Nat->Bool->List Item->St->Option (List T)
 | 0,_,_,_=>none
 | n+1,d,todo,s=>match todo with
  | []=>yJ P A f fn m s
  | .code c::k=>match c with
   | .skip=>ev f fn m n true k s
   | .seq a b=>ev f fn m n d (.code a:: .code b::k) s
   | .region id g e=>match cond d (A.join f id) none with
    | some live=>mq O f (.code (.region id g e)::k) live m s
    | none=>region P A O fn.ntmps e g s λs'=>ev f fn m n true k s'
   | .cond x a b=>(s.get none x).t?.bind λy=>ae none y.bool? λt=>cond t (ev f fn m n true (.code a::k) s) (ev f fn m n true (.code b::k) s)
   | .block id b=>ev f fn m n d (.code b:: .inBlock id::k) s
   | .loop b=>match A.live f (pf b) with
    | some live=>mq O f (.inLoop b::k) live m s
    | none=>none
   | .exit id=>match exitTo id k with
    | some i=>ev f fn m n true i s
    | none=>none
   | .ret=>yJ P A f fn m s
   | _=>none
  | .inBlock _::k=>ev f fn m n true k s
  | .inLoop b::k=>match A.live f (pf b) with
    | some live=>mq O f (.inLoop b::k) live m s
    | none=>none
  | _::_=>none
def kk:Nat:=100000
def uG(be:List AV)(a:List ab):St:=
 {t:=λk=>(none,be.getD k .top)
  h:=fun
   | .c j=>a[j]?
   | _=>none}
def ay:au
 | .call f,be,a=>match A.ext f be a with
  | some r=>some r
  | none=>match P.funcs[f]? with
  | some fn=>match fn.body with
   | some c=>if be.length<=fn.ntmps then ev P A O f fn (a.length,iy a.head?) kk true [.code c] (uG be a) else none
   | none=>none
  | none=>none
 | .node f todo live m,be,a=>match P.funcs[f]? with
  | some fn=>match todo with
   | .inLoop b::k=>ev P A O f fn m kk true (.code b:: .inLoop b::k) (nr live be a)
   | todo=>ev P A O f fn m kk false todo (nr live be a)
  | none=>none
end
def pW(d:Bool)(r:Nat):Code->List Item->Option (List Item)
 | .seq a b,k=>match pW d r a (.code b::k) with
  | some t=>some t
  | none=>pW d r b k
 | .block id b,k=>pW d r b (.inBlock id::k)
 | .loop b,k=>if d && pf b==r then some (.inLoop b::k) else pW d r b (.inLoop b::k)
 | .cond _ a b,k=>match pW d r a k with
  | some t=>some t
  | none=>pW d r b k
 | .region id f e,k=>if !d && id==r then some (.code (.region id f e)::k) else none
 | _,_=>none
def aS(P:Program)(f:FuncId)(a:Bool)(r:Nat)(live:List (Nat×Option Nat))(m:Nat×Nat):Key:=
 .node f (match P.funcs[f]? with
  | some fn=>match fn.body with
   | some c=>(pW a r c []).getD []
   | none=> []
  | none=> []) live m
def jn(P:Program)(A:cJ):Nat->au
 | 0=>λ_ _ _=>none
 | n+1=>ay P A (jn P A n)
open Classical in
noncomputable def mN(P:Program)(A:cJ):au:=λk vs bs=>
 if h:∃n r,jn P A n k vs bs=some r then some (Classical.choose (W3 h)) else none
open Go
section
variable (w:World) (A:Nat->Prop)
mutual
def aA:T->Value->Prop
 | .int k n,v=>v= .int k n
 | .bool b,v=>v= .bool b
 | .str s,v=>v= .string s
 | .aa sz b xs,v=>(b=true/\xs= []/\v= .slice none 0 0)\/
   (b=false/\∃af off a cap,v= .slice (some ⟨af,off,a⟩) xs.length cap/\xs.length<=cap/\(xs= []\/(a=none/\A af))/\aX af sz off xs)
 | .aJ b,v=>(b=true/\v= .slice none 0 0)\/(b=false/\∃af off a,v= .slice (some ⟨af,off,a⟩) 0 0)
 | .ptr cs,v=>∃af off,v= .pointer (some ⟨af,off,none⟩)/\(cs= []\/A af)/\aU af off cs
 | .aw,v=>v= .pointer none
 | .zq,v=>v= .map none
 | .zp,v=>v= .nilFunc
 | .CS,v=>v= .nilIface
 | .any,v=>v.oneCell'=true/\v.cells= #[v]
def aX(af sz:Nat):Nat->List (List T)->Prop
 | _,[]=>True
 | off,cs::xs=>cs.length=sz/\aU af off cs/\aX af sz (off+sz) xs
def aU(af:Nat):Nat->List T->Prop
 | _,[]=>True
 | off,c::cs=>(∃v,w.cell? ⟨af,off,none⟩=some v/\aA c v)/\aU af (off+1) cs
end
def aQ:List T->List Value->Prop
 | [],vs=>vs= []
 | c::cs,vs=>∃v r,vs=v::r/\aA w A c v/\aQ cs r
end
section
variable {w w':World} {A A':Nat->Prop}
theorem m9{a:Addr}(h:w'.heap[a.block]? =w.heap[a.block]?):w'.cell? a=w.cell? a:=by simp [World.cell?,h]
mutual
theorem aA.mono(h:∀b,A b->A' b/\w'.heap[b]? =w.heap[b]?):∀(t:T) (v:Value),aA w A t v->aA w' A' t v
 | .int k n,v,hv=>by simpa [aA] using hv
 | .bool b,v,hv=>by simpa [aA] using hv
 | .str s,v,hv=>by simpa [aA] using hv
 | .aJ b,v,hv=>by simpa [aA] using hv
 | .aw,v,hv=>by simpa [aA] using hv
 | .zq,v,hv=>by simpa [aA] using hv
 | .zp,v,hv=>by simpa [aA] using hv
 | .CS,v,hv=>by simpa [aA] using hv
 | .any,v,hv=>by simp only [aA] at hv⊢;exact hv
 | .aa sz b xs,v,hv=>by
  simp only [aA] at hv⊢;rcases hv with hv | ⟨hb,af,off,f,cap,h1,d,a,e⟩
  .exact .inl hv
  .refine .inr ⟨hb,af,off,f,cap,h1,d, ?_, ?_⟩
   .rcases a with a | a
    .exact .inl a
    .exact .inr ⟨a.1,(h _ a.2).1⟩
   .rcases a with a | a
    .subst a;simp [aX]
    .exact aX.mono h af sz a.2 off xs e
 | .ptr cs,v,hv=>by
  simp only [aA] at hv⊢;obtain⟨af,off,h1,d,a⟩:=hv;refine⟨af,off,h1, ?_, ?_⟩
  .rcases d with d | d
   .exact .inl d
   .exact .inr (h _ d).1
  .rcases d with d | d
   .subst d;simp [aU]
   .exact aU.mono h af d off cs a
theorem aX.mono(h:∀b,A b->A' b/\w'.heap[b]? =w.heap[b]?)(af sz:Nat)(hb:A af):∀(off:Nat) (xs:List (List T)),aX w A af sz off xs->aX w' A' af sz off xs
 | _,[],_=>by simp [aX]
 | off,cs::xs,hv=>by simp only [aX] at hv⊢;exact⟨hv.1,aU.mono h af hb off cs hv.2.1,aX.mono h af sz hb (off+sz) xs hv.2.2⟩
theorem aU.mono(h:∀b,A b->A' b/\w'.heap[b]? =w.heap[b]?)(af:Nat)(hb:A af):∀(off:Nat) (cs:List T),aU w A af off cs->aU w' A' af off cs
 | _,[],_=>by simp [aU]
 | off,c::cs,hv=>by simp only [aU] at hv⊢;obtain⟨⟨v,d,e⟩,a⟩:=hv;exact⟨⟨v,by rw [m9 (w:=w) (by exact(h af hb).2)];exact d,aA.mono h c v e⟩,aU.mono h af hb (off+1) cs a⟩
end
theorem aU.nE(h:∀b,A b->A' b/\w'.heap[b]? =w.heap[b]?)(af:Nat)(hb:w'.heap[af]? =w.heap[af]?):∀(off:Nat) (cs:List T),aU w A af off cs->aU w' A' af off cs
 | _,[],_=>by simp [aU]
 | off,c::cs,hv=>by simp only [aU] at hv⊢;obtain⟨⟨v,d,e⟩,a⟩:=hv;exact⟨⟨v,by rw [m9 (w:=w) (by exact hb)];exact d,aA.mono h c v e⟩,aU.nE h af hb (off+1) cs a⟩
theorem aX.nE(h:∀b,A b->A' b/\w'.heap[b]? =w.heap[b]?)(af sz:Nat)(hb:w'.heap[af]? =w.heap[af]?):∀(off:Nat) (xs:List (List T)),aX w A af sz off xs->aX w' A' af sz off xs
 | _,[],_=>by simp [aX]
 | off,cs::xs,hv=>by simp only [aX] at hv⊢;exact⟨hv.1,aU.nE h af hb off cs hv.2.1,aX.nE h af sz hb (off+sz) xs hv.2.2⟩
theorem aQ.mono(h:∀b,A b->A' b/\w'.heap[b]? =w.heap[b]?):∀(cs:List T) (vs:List Value),aQ w A cs vs->aQ w' A' cs vs
 | [],_,hv=>hv
 | c::cs,vs,⟨v,r,e,h1,a⟩=>⟨v,r,e,aA.mono h c v h1,aQ.mono h cs r a⟩
theorem aX.get{af sz:Nat}:∀{off:Nat} {xs:List (List T)},aX w A af sz off xs->∀{k:Nat} {cs:List T},xs[k]? =some cs->cs.length=sz/\aU w A af (off+k * sz) cs
 | off,cs::xs,h,0,a,e=>by simp only [aX] at h;simp at e;subst e;exact⟨h.1,by simpa using h.2.1⟩
 | off,cs::xs,h,k+1,a,e=>by
  simp only [aX] at h;have:=aX.get h.2.2 (k:=k) (cs:=a) (by simpa using e);refine⟨this.1, ?_⟩;have b:off+ (k+1) * sz=off+sz+k * sz:=by rw [Vp];omega
  rw [b];exact this.2
theorem aU.get{af:Nat}:∀{off:Nat} {cs:List T},aU w A af off cs->∀{k:Nat} {c:T},cs[k]? =some c->∃v,w.cell? ⟨af,off+k,none⟩=some v/\aA w A c v
 | off,c::cs,h,0,c',e=>by simp only [aU] at h;simp at e;subst e;exact h.1
 | off,c::cs,h,k+1,c',e=>by
  simp only [aU] at h;have:=aU.get h.2 (k:=k) (c:=c') (by simpa using e);have a:off+1+k=off+ (k+1):=by omega
  rw [a] at this;exact this
theorem aU.drop{af:Nat}:∀{off:Nat} {cs:List T},aU w A af off cs->∀(n:Nat),aU w A af (off+n) (cs.drop n)
 | _,_,h,0=>by simpa using h
 | _,[],_,n+1=>by simp [aU]
 | off,c::cs,h,n+1=>by
  simp only [aU] at h;have:=aU.drop h.2 n;have a:off+1+n=off+ (n+1):=by omega
  rw [a] at this;simpa using this
theorem aX.drop{af sz:Nat}:∀{off:Nat} {xs:List (List T)},aX w A af sz off xs->∀(n:Nat),aX w A af sz (off+n * sz) (xs.drop n)
 | _,_,h,0=>by simpa using h
 | _,[],_,n+1=>by simp [aX]
 | off,cs::xs,h,n+1=>by
  simp only [aX] at h;have:=aX.drop h.2.2 n;have a:off+sz+n * sz=off+ (n+1) * sz:=by rw [Vp];omega
  rw [a] at this;simpa using this
theorem aX.take{af sz:Nat}:∀{off:Nat} {xs:List (List T)},aX w A af sz off xs->∀(n:Nat),aX w A af sz off (xs.take n)
 | _,_,_,0=>by simp [aX]
 | _,[],_,n+1=>by simp [aX]
 | off,cs::xs,h,n+1=>by simp only [aX] at h;simp only [XN,aX];exact⟨h.1,h.2.1,aX.take h.2.2 n⟩
theorem aX.append{af sz:Nat}:∀{off:Nat} {xs a:List (List T)},aX w A af sz off xs->aX w A af sz (off+xs.length * sz) a->aX w A af sz off (xs++a)
 | off,[],a,_,h=>by simpa using h
 | off,cs::xs,a,h,h'=>by
  simp only [aX] at h;simp only [Uo,aX];refine⟨h.1,h.2.1,aX.append h.2.2 ?_⟩;have b:off+sz+xs.length * sz=off+ (cs::xs).length * sz:=by simp [Vp];omega
  rw [b];exact h'
theorem aA.qn{t:T}{v:Value}(h:aA w A t v):v.oneCell'=true/\v.cells= #[v]:=by
 cases t <;> simp only [aA] at h
 case aa=>rcases h with⟨_,_,rfl⟩ | ⟨_,_,_,_,_,rfl,_⟩ <;> exact⟨rfl,rfl⟩
 case aJ=>rcases h with⟨_,rfl⟩ | ⟨_,_,_,_,rfl⟩ <;> exact⟨rfl,rfl⟩
 case ptr=>obtain⟨_,_,rfl,_⟩:=h;exact⟨rfl,rfl⟩
 case any=>exact h
 all_goals subst h;exact⟨rfl,rfl⟩
theorem aQ.length:∀{cs:List T} {vs:List Value},aQ w A cs vs->vs.length=cs.length
 | [],_,h=>by simp only [aQ] at h;simp [h]
 | c::cs,vs,⟨v,r,e,_,h⟩=>by subst e;simp [aQ.length h]
end
section
variable (w:World) (A:Nat->Prop) (ρ:Id->Option Value)
mutual
def ao:AV->Value->Prop
 | .top,_=>True
 | .t x,v=>aA w A x v
 | .mu vs,v=>∃d:List Value,v= .tuple d.toArray/\aC vs d
 | .agg vs,v=>∃d:List Value,v= .agg d.toArray/\aC vs d/\∀u∈d,u.oneCell'=true/\u.cells= #[u]
 | .ref i off,v=>∃b,ρ i=some (.pointer (some ⟨b,0,none⟩))/\v= .pointer (some ⟨b,off,none⟩)
 | .el i sz k off,v=>∃b o L cap,ρ i=some (.slice (some ⟨b,o,none⟩) L cap)/\v= .pointer (some ⟨b,o+k * sz+off,none⟩)
 | .own i,v=>ρ i=some v
 | .part i sz off n,v=>∃a L cap e,ρ i=some (.slice a L cap)/\off+n<=L/\L<=cap/\v= .slice e n (cap - off)/\
   ((off=0/\e=a)\/(off=cap/\(e=none↔a=none)/\True)\/∃b o,a=some ⟨b,o,none⟩/\e=some ⟨b,o+off * sz,none⟩)
 | .row i n,v=>ρ (.g i n)=some v
 | .rel i sz n k off,v=>∃b o L cap,ρ (.g i n)=some (.slice (some ⟨b,o,none⟩) L cap)/\v= .pointer (some ⟨b,o+k * sz+off,none⟩)
 | .fn f xs l,v=>∃j y':List Value,v= .func (.func f) j.toArray y'.toArray/\aC xs j/\aC l y'
def aC:List AV->List Value->Prop
 | [],vs=>vs= []
 | a::as,vs=>∃v r,vs=v::r/\ao a v/\aC as r
end
end
section
variable {w w':World} {A A':Nat->Prop} {ρ ρ':Id->Option Value}
mutual
theorem ao.mono(h:∀b,A b->A' b/\w'.heap[b]? =w.heap[b]?)(d:∀i v,ρ i=some v->ρ' i=some v):∀(a:AV) (v:Value),ao w A ρ a v->ao w' A' ρ' a v
 | .top,_,_=>by simp [ao]
 | .t x,v,hv=>by simp only [ao] at hv⊢;exact aA.mono h x v hv
 | .mu vs,v,hv=>by simp only [ao] at hv⊢;obtain⟨j,e,g⟩:=hv;exact⟨j,e,aC.mono h d vs j g⟩
 | .agg vs,v,hv=>by simp only [ao] at hv⊢;obtain⟨j,e,g,q⟩:=hv;exact⟨j,e,aC.mono h d vs j g,q⟩
 | .ref i off,v,hv=>by simp only [ao] at hv⊢;obtain⟨b,e,g⟩:=hv;exact⟨b,d _ _ e,g⟩
 | .el i sz k off,v,hv=>by simp only [ao] at hv⊢;obtain⟨b,o,L,cap,e,g⟩:=hv;exact⟨b,o,L,cap,d _ _ e,g⟩
 | .own i,v,hv=>by simp only [ao] at hv⊢;exact d _ _ hv
 | .part i sz off n,v,hv=>by simp only [ao] at hv⊢;obtain⟨a,L,cap,m,e,g⟩:=hv;exact⟨a,L,cap,m,d _ _ e,g⟩
 | .row i n,v,hv=>by simp only [ao] at hv⊢;exact d _ _ hv
 | .rel i sz n k off,v,hv=>by simp only [ao] at hv⊢;obtain⟨b,o,L,cap,e,g⟩:=hv;exact⟨b,o,L,cap,d _ _ e,g⟩
 | .fn f xs r,v,hv=>by simp only [ao] at hv⊢;obtain⟨l,y',e,h1,p⟩:=hv;exact⟨l,y',e,aC.mono h d xs l h1,aC.mono h d r y' p⟩
theorem aC.mono(h:∀b,A b->A' b/\w'.heap[b]? =w.heap[b]?)(d:∀i v,ρ i=some v->ρ' i=some v):∀(as:List AV) (vs:List Value),aC w A ρ as vs->aC w' A' ρ' as vs
 | [],_,hv=>by simpa [aC] using hv
 | a::as,vs,hv=>by simp only [aC] at hv⊢;obtain⟨v,r,e,h1,f⟩:=hv;exact⟨v,r,e,ao.mono h d a v h1,aC.mono h d as r f⟩
end
theorem aC.length:∀{as:List AV} {vs:List Value},aC w A ρ as vs->vs.length=as.length
 | [],_,h=>by simp only [aC] at h;simp [h]
 | a::as,vs,h=>by simp only [aC] at h;obtain⟨v,r,e,_,h⟩:=h;subst e;simp [aC.length h]
theorem aC.get:∀{as:List AV} {vs:List Value},aC w A ρ as vs->∀{k:Nat} {a:AV},as[k]? =some a->∃v,vs[k]? =some v/\ao w A ρ a v
 | a::as,vs,h,0,b,e=>by simp only [aC] at h;obtain⟨v,r,rfl,h1,_⟩:=h;simp at e;subst e;exact⟨v,rfl,h1⟩
 | a::as,vs,h,k+1,b,e=>by simp only [aC] at h;obtain⟨v,r,rfl,_,h⟩:=h;obtain⟨u,f,d⟩:=aC.get h (k:=k) (a:=b) (by simpa using e);exact⟨u,by simpa using f,d⟩
theorem aC.append:∀{as bs:List AV} {vs us:List Value},aC w A ρ as vs->aC w A ρ bs us->aC w A ρ (as++bs) (vs++us)
 | [],_,_,_,h,h'=>by simp only [aC] at h;subst h;simpa using h'
 | a::as,bs,vs,us,h,h'=>by simp only [aC] at h;obtain⟨v,r,rfl,h1,h⟩:=h;simp only [Uo,aC];exact⟨v,r++us,rfl,h1,aC.append h h'⟩
theorem aC.drop:∀{as:List AV} {vs:List Value},aC w A ρ as vs->∀n,aC w A ρ (as.drop n) (vs.drop n)
 | _,_,h,0=>by simpa using h
 | [],vs,h,n+1=>by simp only [aC] at h;subst h;simp [aC]
 | a::as,vs,h,n+1=>by simp only [aC] at h;obtain⟨v,r,rfl,h1,h⟩:=h;simpa using aC.drop h n
theorem aC.take:∀{as:List AV} {vs:List Value},aC w A ρ as vs->∀n,aC w A ρ (as.take n) (vs.take n)
 | _,_,_,0=>by simp [aC]
 | [],vs,h,n+1=>by simp only [aC] at h;subst h;simp [aC]
 | a::as,vs,h,n+1=>by simp only [aC] at h;obtain⟨v,r,rfl,h1,h⟩:=h;simp only [XN,aC];exact⟨v,r.take n,rfl,h1,aC.take h n⟩
theorem aC.l8:∀{cs:List T} {vs:List Value},aQ w A cs vs->aC w A ρ (cs.map .t) vs
 | [],_,h=>by simpa [aC,aQ] using h
 | c::cs,vs,⟨v,r,e,h1,a⟩=>by simp only [U5,aC];exact⟨v,r,e,by simpa [ao] using h1,aC.l8 a⟩
theorem aQ.l7:∀{as:List AV} {cs:List T} {vs:List Value},eZ as=some cs->aC w A ρ as vs->aQ w A cs vs
 | [],cs,vs,h,hv=>by simp only [eZ,Uh] at h;subst h;simpa [aQ,aC] using hv
 | a::as,cs,vs,h,hv=>by
  cases a <;> simp only [eZ,reduceCtorEq] at h
  case t x=>
   cases b:eZ as with
   | none=>simp [b] at h
   | some l=>simp only [b,Ut,Uh] at h;subst h;simp only [aC,ao] at hv;obtain⟨v,r,e,h1,d⟩:=hv;exact⟨v,r,e,h1,aQ.l7 b d⟩
end
open Go
section
variable {R S α:Type}
theorem bF[Inhabited α](c:Option Bool)(m:Option α)(k:α->Option R)(f:R->Option S):(ae c m k).bind f=ae c m λa=>(k a).bind f:=by
 unfold ae;cases m with
 | some a=>rfl
 | none=>cases c with
  | none=>rfl
  | some b=>cases b <;> rfl
theorem aO[Inhabited α]{c:Option Bool}{m:Option α}{k:α->Option R}{r:R}(h:ae c m k=some r)(b:c=none\/c=some true):∃a,m=some a/\k a=some r:=by
 unfold ae at h;cases m with
 | some a=>exact⟨a,rfl,h⟩
 | none=>rcases b with rfl | rfl <;> simp at h
theorem lT(c:Bool)(x y:Option R)(f:R->Option S):(cond c x y).bind f=cond c (x.bind f) (y.bind f):=by cases c <;> rfl
theorem cO(c:Prop)[Decidable c](x y:Option R)(f:R->Option S):(if c then x else y).bind f=if c then x.bind f else y.bind f:=by split <;> rfl
theorem bp(f:R->Option S):(none:Option R).bind f=none:=rfl
theorem DR(c:Option Bool):∀(n:Nat) (cs:List T) (K:List T->Option R) (f:R->Option S),(pr c n cs K).bind f=pr c n cs λx=>(K x).bind f
 | 0,_,_,_=>rfl
 | n+1,cs,K,f=>by simp only [pr,bF,DR c n]
theorem n7(k:Ck)(c:Option Bool)(x:T)(K:T->Option R)(f:R->Option S):(fm k c x K).bind f=fm k c x λx=>(K x).bind f:=by unfold fm;cases k <;> simp only [bF]
theorem tc(c:Option Bool):∀(ks:List Ck) (xs:List T) (K:List T->Option R) (f:R->Option S),(eY c ks xs K).bind f=eY c ks xs λx=>(K x).bind f
 | [],_,_,_=>rfl
 | _::_,[],_,_=>rfl
 | k::ks,x::xs,K,f=>by simp only [eY,n7,tc c ks xs]
theorem Lx(op:BinOp)(k:IntKind)(c:Option Bool)(x y:T)(K:T->Option R)(f:R->Option S):(rD op k c x y K).bind f=rD op k c x y λx=>(K x).bind f:=by unfold rD;cases op <;> simp only [bF,bp]
theorem So(op:BinOp)(k ky:IntKind)(c:Option Bool)(x y:T)(K:T->Option R)(f:R->Option S):(sS op k ky c x y K).bind f=sS op k ky c x y λx=>(K x).bind f:=by unfold sS;cases op <;> simp only [bF,bp]
theorem SK(op:BinOp)(c:Option Bool)(x y:T)(K:T->Option R)(f:R->Option S):(sV op c x y K).bind f=sV op c x y λx=>(K x).bind f:=by unfold sV;cases op <;> simp only [bF,bp]
theorem GZ(P:Program)(c:Option Bool)(t:TypeId)(x y:T)(K:Bool->Option R)(f:R->Option S):(lV P c t x y K).bind f=lV P c t x y λx=>(K x).bind f:=by unfold lV;split <;> simp only [bF,bp]
theorem Ha(P:Program)(c:Option Bool):∀(ts:List TypeId) (xs a:List T) (K:Bool->Option R) (f:R->Option S),(eH P c ts xs a K).bind f=eH P c ts xs a λx=>(K x).bind f
 | [],[],[],_,_=>rfl
 | t::ts,x::xs,y::a,K,f=>by simp only [eH,GZ,Ha P c ts xs a]
 | [],[],_::_,_,_=>rfl
 | [],_::_,_,_,_=>rfl
 | _::_,[],_,_,_=>rfl
 | _::_,_::_,[],_,_=>rfl
theorem LG(P:Program)(op:BinOp)(t ty:TypeId)(c:Option Bool)(x y:T)(K:T->Option R)(f:R->Option S):(rE P op t ty c x y K).bind f=rE P op t ty c x y λx=>(K x).bind f:=by unfold rE;cases op <;> simp only [] <;> first | rfl | (split <;> simp only [Lx,So,SK,bp])
theorem Oy(P:Program)(c:Option Bool)(t:TypeId)(x y:AV)(K:Bool->Option R)(f:R->Option S):(pV P c t x y K).bind f=pV P c t x y λx=>(K x).bind f:=by unfold pV;split <;> simp only [lT,bF,GZ,Ha,UG,bp]
theorem TY(P:Program)(op:UnOp)(t:TypeId)(c:Option Bool)(x:T)(K:T->Option R)(f:R->Option S):(th P op t c x K).bind f=th P op t c x λx=>(K x).bind f:=by unfold th;split <;> simp only [bF,bp]
theorem uW(P:Program)(t:TypeId)(c:Option Bool)(cs:List T)(K:AV->Option R)(f:R->Option S):(kZ P t c cs K).bind f=kZ P t c cs λx=>(K x).bind f:=by unfold kZ;simp only [lT,bF,DR,n7,tc]
theorem Ij(P:Program)(t:TypeId)(cs:List AV)(K:AV->Option R)(f:R->Option S):(nB P t cs K).bind f=nB P t cs λx=>(K x).bind f:=by unfold nB;simp only [lT,UG]
theorem Dq(h:Id->Option ab)(c:Option Bool)(i:Id)(n:Nat)(K:Nat->Bool->List (List T)->Option R)(f:R->Option S):(mh h c i n K).bind f=mh h c i n λa b l=>(K a b l).bind f:=by unfold mh;split <;> simp only [bF,bp]
theorem PO(P:Program)(t:TypeId)(c:Option Bool)(i:Id)(sz aD off:Nat)(e:Row)(K:AV->Option R)(f:R->Option S):(sv P t c i sz aD off e K).bind f=sv P t c i sz aD off e λx=>(K x).bind f:=by unfold sv;simp only [lT,cO,bF,DR,n7,tc,bp]
theorem PN(P:Program)(s:St)(c:Option Bool)(t:TypeId)(a:AV)(K:AV->Option R)(f:R->Option S):(kA P s c t a K).bind f=kA P s c t a λx=>(K x).bind f:=by
 unfold kA;rw [lT];congr 1;split
 .split <;> simp only [Ij,uW,bp]
 .split <;> simp only [cO,bF,uW,PO,bp]
 .simp only [Dq,cO,bF,uW,bp]
 .simp only [bF,uW]
 .rfl
theorem SH(P:Program)(s:St)(t:TypeId)(a v:AV)(K:aH->Option R)(f:R->Option S):(jx P s t a v K).bind f=jx P s t a v λx=>(K x).bind f:=by
 unfold jx;rw [lT];congr 1;split
 .split <;> simp only [cO,bp]
 .split
  .simp only [UG,cO,bF,bp]
  .split
   .split <;> simp only [cO,bF,bp]
   .rfl
  .rfl
 .split <;> simp only [UG,cO,bF,bp]
 .rfl
theorem p5(c:Option Bool)(i:Int)(n:Nat)(K:Option R)(f:R->Option S):(kr c i n K).bind f=kr c i n (K.bind f):=by unfold kr;simp only [bF]
theorem Pv(P:Program)(s:St)(c:Option Bool)(t:TypeId)(x:AV)(i:Int)(K:AV->Option R)(f:R->Option S):(jM P s c t x i K).bind f=jM P s c t x i λx=>(K x).bind f:=by
 unfold jM;split
 .split
  .split <;> simp only [cO,p5,bp]
  .simp only [Dq,cO,p5,bp]
  .split <;> simp only [cO,p5,bp]
  .simp only [bF,p5]
  .rfl
 .split
  .rw [p5];congr 1;split <;> simp only [bF,bp]
  .rfl
theorem OR(P:Program)(c:Option Bool)(t:TypeId)(x:AV)(k:Nat)(K:AV->Option R)(f:R->Option S):(rZ P c t x k K).bind f=rZ P c t x k λx=>(K x).bind f:=by
 unfold rZ;split
 .rw [cO];congr 1;split <;> simp only [bF,bp]
 .rfl
theorem OP(P:Program)(t:TypeId)(x:AV)(k:Nat)(K:AV->Option R)(f:R->Option S):(rY P t x k K).bind f=rY P t x k λx=>(K x).bind f:=by
 unfold rY;split
 .split <;> simp only [Ij,bp]
 .rfl
theorem PI(P:Program)(s:St)(c:Option Bool)(t:TypeId)(x:AV)(K:AV->Option R)(f:R->Option S):(nA P s c t x K).bind f=nA P s c t x λx=>(K x).bind f:=by
 unfold nA;split
 .split <;> simp only [bF,bp]
 .rfl
 .split
  .split <;> rfl
  .simp only [Dq]
  .rfl
  .simp only [bF]
  .rfl
 .rfl
theorem LK(s:St)(c:Option Bool)(g:Option Gs)(o:Option Operand)(K:Option Int->Option R)(f:R->Option S):(jb s c g o K).bind f=jb s c g o λx=>(K x).bind f:=by
 unfold jb;split
 .rfl
 .simp only [UG,bF]
theorem Su(P:Program)(s:St)(c:Option Bool)(t:TypeId)(x:AV)(a hi b:Option Int)(K:AV->Option R)(f:R->Option S):(nU P s c t x a hi b K).bind f=nU P s c t x a hi b λx=>(K x).bind f:=by
 unfold nU;split
 .split <;> simp only [bF,bp]
 .split
  .split
   .split <;> simp only [cO,bF,bp]
   .split <;> simp only [cO,bF,bp]
   .simp only [cO,bF,bp]
   .rfl
  .split
   .simp only [cO,bF,bp]
   .split <;> simp only [cO,bF,bp]
   .rfl
 .rfl
theorem Lr(P:Program)(s:St)(t:TypeId)(sz:Nat)(a:List T)(y:AV)(K:List (List T)->Option R)(f:R->Option S):(mD P s t sz a y K).bind f=mD P s t sz a y λx=>(K x).bind f:=by unfold mD;split <;> simp only [UG,cO,bF,bp]
theorem Lm(P:Program)(s:St)(d:Nat)(e:TypeId)(i:Id)(sz aD rsz nx:Nat)(es:List Row)(j:Id)(cs:List AV)(K:AV->aH->Option R)(f:R->Option S):(pK P s d e i sz aD rsz nx es j cs K).bind f=pK P s d e i sz aD rsz nx es j cs λv u=>(K v u).bind f:=by
 unfold pK;rw [cO];congr 1;rw [UG];congr 1;funext l;split
 .split <;> simp only [cO,bF,bp]
 .split <;> simp only [cO,bF,bp]
 .rfl
theorem Lk(P:Program)(s:St)(d:Nat)(rw:Bool)(t ty:TypeId)(x y:AV)(K:AV->aH->Option R)(f:R->Option S):(kO P s d rw t ty x y K).bind f=kO P s d rw t ty x y λv u=>(K v u).bind f:=by
 unfold kO;rw [UG];congr 1;funext e;rw [UG];congr 1;funext b;rw [cO];congr 1;split
 .split <;> simp only [Lm,bp]
 .rw [Lr];congr 1;funext a;split
  .split <;> simp only [cO,bF,bp]
  .split <;> simp only [cO,bF,bp]
  .simp only [UG,bF]
  .rfl
theorem P2(P:Program)(d:Nat)(t:TypeId)(a:Nat)(n m:T)(K:AV->aH->Option R)(f:R->Option S):(sw P d t a n m K).bind f=sw P d t a n m λv u=>(K v u).bind f:=by unfold sw;rw [UG];congr 1;funext e;rw [UG];congr 1;funext b;rw [bF];congr 1;funext n;rw [bF];congr 1;funext m;rw [cO];congr 1;rw [bF];congr 1;funext _;rw [lT];congr 1;split <;> simp only [cO,bp]
theorem Cs(P:Program)(k:TypeId)(c:Option Bool)(v:AV)(K:Bool->List Ck->List T->Option R)(f:R->Option S):(oS P k c v K).bind f=oS P k c v λa b l=>(K a b l).bind f:=by unfold oS;rw [UG];congr 1;funext q;split <;> simp only [tc,UG,cO,bp]
theorem PW(P:Program)(s:St)(c:Option Bool)(t:TypeId)(x k:AV)(ok:Bool)(K:AV->Option R)(f:R->Option S):(nC P s c t x k ok K).bind f=nC P s c t x k ok λv=>(K v).bind f:=by
 unfold nC;rw [UG];congr 1;funext q;rw [UG];congr 1;funext z;rw [Cs];congr 1;funext a b l;split
 .split
  .rw [cO];simp only [n7,bp]
  .rfl
 .rfl
theorem P4(P:Program)(d:Nat)(t:TypeId)(K:AV->aH->Option R)(f:R->Option S):(sA P d t K).bind f=sA P d t λv u=>(K v u).bind f:=by unfold sA;simp only [UG,cO,bp]
theorem Mo(P:Program)(s:St)(t:TypeId)(x k:AV)(K:aH->Option R)(f:R->Option S):(na P s t x k K).bind f=na P s t x k λu=>(K u).bind f:=by
 unfold na;rw [UG];congr 1;funext q;rw [Cs];congr 1;funext a b l;split
 .split
  .rw [cO];rfl
  .rfl
 .rfl
theorem Rg(P:Program)(s:St)(t:TypeId)(x k v:AV)(K:aH->Option R)(f:R->Option S):(nK P s t x k v K).bind f=nK P s t x k v λu=>(K u).bind f:=by
 unfold nK;rw [UG];congr 1;funext q;rw [Cs];congr 1;funext a b l;split
 .split
  .rw [cO];simp only [UG,n7,bp]
  .rfl
 .rfl
theorem CC(k:IntKind)(c:Option Bool)(b:Bool):∀(l:List T) (a:Int) (K:T->Option R) (f:R->Option S),(oU k c b a l K).bind f=oU k c b a l λx=>(K x).bind f
 | [],_,_,_=>rfl
 | y::r,a,K,f=>by simp only [oU,bF,CC k c b r]
theorem Mg(P:Program)(c:Option Bool)(a b:TypeId)(x:T)(K:T->Option R)(f:R->Option S):(rI P c a b x K).bind f=rI P c a b x λx=>(K x).bind f:=by unfold rI;split <;> simp only [bF,bp]
theorem Fo(ids:List Id)(d:Nat)(c:Option Bool)(j:Nat)(r:bU)(x:T)(K:AV->aH->Nat->Option R)(f:R->Option S):(mH ids d c j r x K).bind f=mH ids d c j r x λv u j=>(K v u j).bind f:=by
 unfold mH;split
 .exact n7 _ _ _ _ _
 .exact n7 _ _ _ _ _
 .split <;> simp only [bF,bp]
 .split <;> simp only [bp]
 .split <;> simp only [bp]
 .split <;> simp only [bF,bp]
 .split <;> simp only [bF,bp]
 .rfl
 .rfl
 .rfl
theorem yc(ids:List Id)(d:Nat)(c:Option Bool):∀(a:List bU) (j:Nat) (xs:List T) (K:List AV->aH->Nat->Option R) (f:R->Option S),(kg ids d c j a xs K).bind f=kg ids d c j a xs λv u j=>(K v u j).bind f
 | [],_,_,_,_=>rfl
 | r::a,j,xs,K,f=>by simp only [kg,bF,Fo,yc ids d c a]
theorem pQ(ids:List Id)(d:Nat)(c:Option Bool):∀(a:List bU) (j:Nat) (xs:List T) (K:List AV->aH->Nat->Option R) (f:R->Option S),(ee ids d c j a xs K).bind f=ee ids d c j a xs λv u j=>(K v u j).bind f
 | [],_,_,_,_=>rfl
 | r::a,j,xs,K,f=>by
  cases r
  case new l=>cases c <;> simp only [ee,yc,pQ ids d _ a,bp]
  all_goals simp only [ee,bF,Fo,yc,pQ ids d c a]
theorem ye(all:List Id)(d:Nat):∀(a:List jU) (b:List Id) (j:Nat) (xs:List T) (K:aH->Option R) (f:R->Option S),(gv all d j b a xs K).bind f=gv all d j b a xs λu=>(K u).bind f
 | [],[],_,_,_,_=>rfl
 | [],_::_,_,_,_,_=>rfl
 | r::a,[],_,_,_,_=>by cases r <;> rfl
 | r::a,i::b,j,xs,K,f=>by cases r <;> simp only [gv,bF,yc,ye all d a]
theorem SY(P:Program)(c:Option Bool)(t:TypeId)(v:AV)(K:AV->Option R)(f:R->Option S):(mY P c t v K).bind f=mY P c t v λx=>(K x).bind f:=by
 unfold mY;split
 .exact n7 _ _ _ _ _
 .split
  .exact tc _ _ _ _ _
  .rfl
 .rfl
theorem DV(P:Program)(c:Option Bool):∀(ts:List TypeId) (vs:List AV) (K:List AV->Option R) (f:R->Option S),(jz P c ts vs K).bind f=jz P c ts vs λx=>(K x).bind f
 | [],_,_,_=>rfl
 | _::_,[],_,_=>rfl
 | t::ts,v::vs,K,f=>by simp only [jz,SY,DV P c ts vs]
theorem E0(P:Program)(A:cJ)(O:au)(s:St)(d:Nat)(c:Option Bool)(g:FuncId)(args:List AV)(K:AV->aH->Option R)(f:R->Option S):
  (gP P A O s d c g args K).bind f=gP P A O s d c g args λv u=>(K v u).bind f:=by
 unfold gP;split
 .rfl
 .split
  .simp only [UG,bF,pQ,DV]
  .split
   .rfl
   .simp only [UG,lT,bp,bF,pQ,ye,DV]
theorem Lz(h:Id->Option ab)(i new:Id)(n rsz:Nat)(K:aH->Option R)(f:R->Option S):(ue h i new n rsz K).bind f=ue h i new n rsz λu=>(K u).bind f:=by
 unfold ue;split
 .rw [cO];simp only [bF,bp]
 .rfl
theorem L4(iC:Bool)(P:Program)(A:cJ)(O:au)(s:St)(d:Nat)(c:Option Bool)(g:FuncId)(args:List AV)(K:AV->aH->Option R)(f:R->Option S):
  (jH iC P A O s d c g args K).bind f=jH iC P A O s d c g args λv u=>(K v u).bind f:=by
 unfold jH;split
 .exact E0 _ _ _ _ _ _ _ _ _ _
 .split
  .simp only [bF,lT,E0,Lz,bp]
  .rfl
theorem HY(c:Option Bool)(v:AV)(K:Int->Option R)(f:R->Option S):(oR c v K).bind f=oR c v λx=>(K x).bind f:=by unfold oR;simp only [UG,bF]
theorem A5(P:Program)(A:cJ)(O:au)(g:Option Gs)(o:Oper)(s:St)(K:AV->aH->Option R)(f:R->Option S):
  (jG P A O g o s K).bind f=jG P A O g o s λv u=>(K v u).bind f:=by
 unfold jG;cases o.op <;> dsimp only
 case pick=>simp only [UG,bF]
 case alloc=>split <;> simp only [UG,bp]
 case box=>split <;> simp only [cO,bp]
 case build=>simp only [UG]
 case buildSlice=>
  rw [UG];congr 1;funext e;rw [cO];congr 1
  .split <;> simp only [cO,bp]
  rw [cO];congr 1;rw [cO];congr 1;rw [UG];congr 1;funext q;split <;> rfl
 case load=>simp only [PN]
 case store=>split <;> simp only [SH,bp]
 case nilCheck=>split <;> simp only [bF,bp]
 case binOp=>split <;> simp only [UG,Oy,LG]
 case unOp=>simp only [UG,TY]
 case convert=>
  split
  .split <;> simp only [UG,bF,bp]
  .simp only [UG,Mg]
 case makeFunc=>split <;> simp_all
 case makeSlice=>split <;> simp only [UG,P2,bp]
 case makeMap=>split <;> simp only [P4,bp]
 case lookup=>simp only [PW]
 case mapUpdate=>split <;> simp only [Rg,bp]
 case slice=>simp only [LK,Su]
 case fieldAddr=>simp only [OR]
 case field=>simp only [OP]
 case indexAddr=>simp only [HY,Pv]
 case index=>
  simp only [HY];congr 1;funext n;split
  .simp only [UG,bF,p5]
  .split <;> simp only [lT,UG,p5,uW,bp]
  .rfl
 case extract=>split <;> simp only [UG,bp]
 case call a=>
  split
  .split <;> simp only [PI,bp]
  .split <;> simp only [Lk,bp]
  .split
   .rw [UG];congr 1;funext l;split <;> simp only [bF,CC,bp]
   .rfl
  .split
   .rw [UG];congr 1;funext l;split <;> simp only [bF,CC,bp]
   .rfl
  .split <;> simp only [Mo,bp]
  ·(repeat' split) <;> simp only [lT,bp]
  .split <;> simp only [L4,bp]
  .rfl
 all_goals rfl
def dA(P:Program)(A:cJ)(O:au)(g:Option Gs)(o:Oper)(s:St):Option (AV×aH):=jG P A O g o s λv u=>some (v,u)
theorem rC(P:Program)(A:cJ)(O:au)(g:Option Gs)(o:Oper)(s:St)(K:AV->aH->Option R):jG P A O g o s K= (dA P A O g o s).bind λp=>K p.1 p.2:=by unfold dA;rw [A5];rfl
theorem HR(a:Array Oper)(o:Oper)(s:St)(K:Option Gs->Option R)(f:R->Option S):(dE a o s K).bind f=dE a o s λg=>(K g).bind f:=by
 unfold dE;split
 .rfl
 .split
  .rfl
  .simp only [UG,bF]
theorem yW(a:Array Oper)(o:Oper)(s:St)(K:Option Gs->Option R):dE a o s K= (dE a o s some).bind K:=by rw [HR];rfl
def fc(P:Program)(A:cJ)(O:au)(a:Bool)(nt:Nat)(b:Array Oper)(o:Oper)(s:St):Option St:=o6 P A O a nt b o s some
theorem QT(P:Program)(A:cJ)(O:au)(a:Bool)(nt:Nat)(b:Array Oper)(o:Oper)(s:St)(K:St->Option R):o6 P A O a nt b o s K= (fc P A O a nt b o s).bind K:=by
 unfold fc o6;rw [HR];congr 1;funext g;cases qH A a o g with
 | none=>dsimp only;rw [A5];congr 1;funext v u;rw [cO];rfl
 | some d=>
  dsimp only;cases yh nt o d with
  | false=>rfl
  | true=>
   cases d.c with
   | false=>rfl
   | true=>simp only [cond_true];rw [A5];congr 1;funext v u;rw [cO];rfl
def js(P:Program)(A:cJ)(O:au)(a:Bool)(nt:Nat)(b:Array Oper):List Oper->St->Option St
 | [],s=>some s
 | o::r,s=>(fc P A O a nt b o s).bind (js P A O a nt b r)
theorem Dm(P:Program)(A:cJ)(O:au)(a:Bool)(nt:Nat)(b:Array Oper):∀(l:List Oper) (s:St) (K:St->Option R),vE P A O a nt b l s K= (js P A O a nt b l s).bind K
 | [],_,_=>rfl
 | o::r,s,K=>by simp only [vE,js,QT,UG];congr 1;funext s';exact Dm P A O a nt b r s' K
end
open Go
structure Ctx where
 A0:Nat->Prop
 M:Nat->Prop
 N0:Nat
def Ctx.MO(c:Ctx)(b:Nat):Prop:=c.M b\/c.N0<=b
def AA(c:Ctx)(w:World)(O:Id->Option Nat)(b:Nat):Prop:=(c.A0 b\/c.MO b)/\b < w.heap.size/\∀i,O i≠some b
def cP(w:World)(A:Nat->Prop)(sz:Nat)(b:Bool)(l:List (List T))(v:Value)(Q:Nat->Prop):Prop:=
 ∃a cap,v= .slice a l.length cap/\l.length<=cap/\(a=none↔b=true)/\True/\
  (cap=0\/∃af off arr t,a=some ⟨af,off,none⟩/\Q af/\w.heap[af]? =some (.cells arr t (0,0))/\off+cap * sz<=arr.size/\aX w A af sz off l)
def iW(w:World)(A:Nat->Prop)(ρ:Id->Option Value)(O:Id->Option Nat)(i:Id)(af sz aD rsz base:Nat)(e:Row):Prop:=
 e.cs.length=sz/\aD < sz/\(∀j x,j≠aD->e.cs[j]? =some x->∃v,w.cell? ⟨af,base+j,none⟩=some v/\aA w A x v)/\
 ∃v,w.cell? ⟨af,base+aD,none⟩=some v/\ρ (.g i e.n)=some v/\
  match e.own with
  | some p=>cP w A rsz p.1 p.2 v (λb=>O (.g i e.n)=some b)
  | none=>O (.g i e.n)=none
def ch(w:World)(A:Nat->Prop)(ρ:Id->Option Value)(O:Id->Option Nat)(i:Id)(af sz aD rsz:Nat):Nat->List Row->Prop
 | _,[]=>True
 | base,e::es=>iW w A ρ O i af sz aD rsz base e/\ch w A ρ O i af sz aD rsz (base+sz) es
def oC(ρ:Id->Option Value)(O:Id->Option Nat)(i:Id)(nx:Nat)(es:List Row):Prop:=
 (es.map (·.n)).Nodup/\(∀e∈es,e.n < nx)/\(∀n,nx<=n->ρ (.g i n)=none)/\∀n b,O (.g i n)=some b->∃e∈es,e.n=n
def cT(w:World)(A:Nat->Prop)(ρ:Id->Option Value)(O:Id->Option Nat)(i:Id):ab->Prop
 | .box cs=>∃b arr t,ρ i=some (.pointer (some ⟨b,0,none⟩))/\O i=some b/\w.heap[b]? =some (.cells arr t (0,0))/\aC w A ρ cs arr.toList/\
   (∀u∈arr.toList,u.oneCell'=true/\u.cells= #[u])
 | .sl g sz b l=>∃v,ρ i=some v/\cP w A sz b l v (λaf=>if g=true then A af else O i=some af)/\(g=true->O i=none)
 | .iR l=>∃b,ρ i=some (.pointer (some ⟨b,0,none⟩))/\O i=none/\A b/\aU w A b 0 l
 | .arr cs=>∃b arr t,ρ i=some (.slice (some ⟨b,0,none⟩) 1 1)/\O i=some b/\w.heap[b]? =some (.cells arr t (0,0))/\aC w A ρ cs arr.toList/\
   (∀u∈arr.toList,u.oneCell'=true/\u.cells= #[u])
 | .mp ag ks vk es=>∃b d f,ρ i=some (.map (some b))/\O i=some b/\w.heap[b]? =some (.map d f)/\
   d.toList.map (λe=>(e.key,e.val))=es.map (λp=>(cY ag p.1,dI p.2))/\(es.all λp=>bY ks p.1 && dQ vk p.2)=true
 | .rows b sz aD rsz nx es=>∃a cap,ρ i=some (.slice a es.length cap)/\es.length<=cap/\(a=none↔b=true)/\oC ρ O i nx es/\
   (cap=0\/∃af off arr t,a=some ⟨af,off,none⟩/\O i=some af/\w.heap[af]? =some (.cells arr t (0,0))/\off+cap * sz<=arr.size/\ch w A ρ O i af sz aD rsz off es)
 | .dead=>(∃v,ρ i=some v/\v.oneCell'=true/\v.cells= #[v])/\O i=none
structure HS (c:Ctx) (w:World) (h:Id->Option ab) (ρ:Id->Option Value) (O:Id->Option Nat):Prop where
 af:∀i b,h i=some b->cT w (AA c w O) ρ O i b
 cB:∀i,i.real=true->h i=none->ρ i=none/\O i=none
 ez:∀i n,h (.g i n)=none
 fG:∀i n,h i=none->ρ (.g i n)=none/\O (.g i n)=none
 gone:∀i n u,ρ (.g i n)=some u->u.oneCell'=true/\u.cells= #[u]
 inj:∀i j b,O i=some b->O j=some b->i=j
 lt:∀i b,O i=some b->b < w.heap.size
 own:∀i b,O i=some b->c.MO b
 size:c.N0<=w.heap.size
structure Le (w:World) (ρ:Id->Option Value) (O:Id->Option Nat) (w':World) (ρ':Id->Option Value) (O':Id->Option Nat):Prop where
 os:w'.os=w.os
 output:w'.output=w.output
 tape:w'.tape=w.tape
 size:w.heap.size<=w'.heap.size
 eQ:∀i v,ρ i=some v->ρ' i=some v
 af:∀b,b < w.heap.size->(∀i,O i≠some b)->w'.heap[b]? =w.heap[b]?
 own:∀i b,O' i=some b->(∃j,O j=some b)\/w.heap.size<=b
section
variable {c:Ctx} {w w' w'':World} {h h':Id->Option ab} {ρ ρ' ρ'':Id->Option Value} {O O' O'':Id->Option Nat}
theorem Le.refl:Le w ρ O w ρ O:=⟨rfl,rfl,rfl,UC _,λ_ _ h=>h,λ_ _ _=>rfl,λi b h=> .inl ⟨i,h⟩⟩
theorem Le.trans(a:Le w ρ O w' ρ' O')(b:Le w' ρ' O' w'' ρ'' O''):Le w ρ O w'' ρ'' O'' where
 os:=b.os.trans a.os
 output:=b.output.trans a.output
 tape:=b.tape.trans a.tape
 size:=UY a.size b.size
 eQ i v h:=b.eQ i v (a.eQ i v h)
 af k hk hn:=by
  rw [b.af k (V5 hk a.size),a.af k hk hn];intro i hi;rcases a.own i k hi with⟨j,hj⟩ | h
  .exact hn j hj
  .omega
 own i k hi:=by
  rcases b.own i k hi with⟨j,hj⟩ | h
  .exact a.own j k hj
  .exact .inr (UY a.size h)
theorem Le.A(le:Le w ρ O w' ρ' O')(b:Nat)(a:AA c w O b):AA c w' O' b/\w'.heap[b]? =w.heap[b]?:=by
 refine⟨⟨a.1,V5 a.2.1 le.size,λi hi=> ?_⟩,le.af b a.2.1 a.2.2⟩;rcases le.own i b hi with⟨j,d⟩ | h
 .exact a.2.2 j d
 .have:=a.2.1;omega
theorem cP.mono{A A' Q f:Nat->Prop}{sz:Nat}{b:Bool}{l:List (List T)}{v:Value}(o:∀b,A b->A' b/\w'.heap[b]? =w.heap[b]?)
  (e:∀b,Q b->f b/\w'.heap[b]? =w.heap[b]?) (hs:cP w A sz b l v Q):cP w' A' sz b l v f:=by
 obtain⟨a,cap,h1,k,m,n,d⟩:=hs;refine⟨a,cap,h1,k,m,n, ?_⟩;rcases d with d | ⟨af,off,arr,t,g,e2,e3,i,j⟩
 .exact .inl d
 .exact .inr ⟨af,off,arr,t,g,(e _ e2).1,by rw [(e _ e2).2];exact e3,i,aX.nE o af sz (e _ e2).2 off l j⟩
def qZ(i:Id)(w:World)(ρ:Id->Option Value)(O:Id->Option Nat)(w':World)(ρ':Id->Option Value)(O':Id->Option Nat):Prop:=
 ∀n,ρ' (.g i n)=ρ (.g i n)/\O' (.g i n)=O (.g i n)/\∀b,O (.g i n)=some b->w'.heap[b]? =w.heap[b]?
theorem iW.mono{A A':Nat->Prop}{i:Id}{af sz aD rsz base:Nat}{e:Row}(f:∀b,A b->A' b/\w'.heap[b]? =w.heap[b]?)(hb:w'.heap[af]? =w.heap[af]?)(a:qZ i w ρ O w' ρ' O')(h:iW w A ρ O i af sz aD rsz base e):
  iW w' A' ρ' O' i af sz aD rsz base e:=by
 obtain⟨h1,m,o,v,q,r,t⟩:=h;have g:∀p,w'.cell? ⟨af,p,none⟩=w.cell? ⟨af,p,none⟩:=λp=>m9 hb;refine⟨h1,m,λj x y z=> ?_,v,by rw [g];exact q,by rw [(a e.n).1];exact r, ?_⟩
 .obtain⟨u,l,d⟩:=o j x y z;exact⟨u,by rw [g];exact l,aA.mono f x u d⟩
 .revert t;cases e.own with
  | none=>intro h;simp only at h⊢;rw [(a e.n).2.1];exact h
  | some p=>intro d;refine cP.mono f (λb k=> ?_) d;rw [(a e.n).2.1];exact⟨k,(a e.n).2.2 b k⟩
theorem ch.mono{A A':Nat->Prop}{i:Id}{af sz aD rsz:Nat}(a:∀b,A b->A' b/\w'.heap[b]? =w.heap[b]?)(hb:w'.heap[af]? =w.heap[af]?)(d:qZ i w ρ O w' ρ' O'):∀{es:List Row} {base:Nat},ch w A ρ O i af sz aD rsz base es->
  ch w' A' ρ' O' i af sz aD rsz base es
 | [],_,_=>trivial
 | e::es,base,h=>⟨iW.mono a hb d h.1,ch.mono a hb d h.2⟩
theorem cP.fI{A A' Q a:Nat->Prop}{sz:Nat}{b:Bool}{l:List (List T)}{v:Value}(d:∀b,A b->A' b/\w'.heap[b]? =w.heap[b]?)
  (e:∀b,Q b->a b/\w'.heap[b]? =w.heap[b]?) (hs:cP w A sz b l v Q):cP w' A' sz b l v a:=cP.mono d e hs
theorem iW.move{A A':Nat->Prop}{i i':Id}{af blk' sz aD rsz base a:Nat}{e:Row}(l:∀j,j < sz->w'.cell? ⟨blk',a+j,none⟩=w.cell? ⟨af,base+j,none⟩)(k:∀b,A b->A' b/\w'.heap[b]? =w.heap[b]?)
  (h1:ρ' (.g i' e.n)=ρ (.g i e.n)) (f:O' (.g i' e.n)=O (.g i e.n)) (D:∀b,O (.g i e.n)=some b->w'.heap[b]? =w.heap[b]?) (h:iW w A ρ O i af sz aD rsz base e):iW w' A' ρ' O' i' blk' sz aD rsz a e:=by
 obtain⟨q,d,r,v,t,y,z⟩:=h;refine⟨q,d,λj x E o=> ?_,v,by rw [l _ d];exact t,by rw [h1];exact y, ?_⟩
 .obtain⟨u,B,C⟩:=r j x E o;have:=(Us.1 o).1;exact⟨u,by rw [l j (by omega)];exact B,aA.mono k x u C⟩
 .revert z;cases e.own with
  | none=>intro h;simp only at h⊢;rw [f];exact h
  | some p=>intro g;refine cP.mono k (λb m=> ?_) g;rw [f];exact⟨m,D b m⟩
theorem ch.move{A A':Nat->Prop}{i i':Id}{af blk' sz aD rsz:Nat}(d:∀b,A b->A' b/\w'.heap[b]? =w.heap[b]?):∀{es:List Row} {base a:Nat},
  (∀p,p < es.length * sz->w'.cell? ⟨blk',a+p,none⟩=w.cell? ⟨af,base+p,none⟩)->(∀e∈es,ρ' (.g i' e.n)=ρ (.g i e.n)/\O' (.g i' e.n)=O (.g i e.n)/\∀b,O (.g i e.n)=some b->w'.heap[b]? =w.heap[b]?)->
  ch w A ρ O i af sz aD rsz base es->ch w' A' ρ' O' i' blk' sz aD rsz a es
 | [],_,_,_,_,_=>trivial
 | e::es,base,a,f,k,h=>by
  have el:(e::es).length * sz=sz+es.length * sz:=by simp [Vp];omega
  obtain⟨h1,l,m⟩:=k e Uk;refine⟨iW.move (λj q=>f j (by omega)) d h1 l m h.1,ch.move d (λp r=> ?_) (λe o=>k e (Um _ o)) h.2⟩;rw [W5,W5];exact f (sz+p) (by omega)
theorem ch.append{A:Nat->Prop}{i:Id}{af sz aD rsz:Nat}:∀{es a:List Row} {base:Nat},ch w A ρ O i af sz aD rsz base es->ch w A ρ O i af sz aD rsz (base+es.length * sz) a->ch w A ρ O i af sz aD rsz base (es++a)
 | [],a,base,_,h=>by simpa using h
 | e::es,a,base,h,h'=>by
  refine⟨h.1,ch.append h.2 ?_⟩;have:base+sz+es.length * sz=base+ (e::es).length * sz:=by simp [Vp];omega
  rw [this];exact h'
theorem ch.set{A A':Nat->Prop}{i:Id}{af sz aD rsz:Nat}{x:Row}(l:∀b,A b->A' b/\w'.heap[b]? =w.heap[b]?):∀{es:List Row} {base k:Nat},k < es.length->
  (∀p,base<=p->p < base+es.length * sz->¬(base+k * sz<=p/\p < base+k * sz+sz)->w'.cell? ⟨af,p,none⟩=w.cell? ⟨af,p,none⟩)->
  (∀j e,j≠k->es[j]? =some e->ρ' (.g i e.n)=ρ (.g i e.n)/\O' (.g i e.n)=O (.g i e.n)/\∀b,O (.g i e.n)=some b->w'.heap[b]? =w.heap[b]?)->
  iW w' A' ρ' O' i af sz aD rsz (base+k * sz) x->ch w A ρ O i af sz aD rsz base es->ch w' A' ρ' O' i af sz aD rsz base (es.set k x)
 | [],_,_,f,_,_,_,_=>by simp at f
 | e::es,base,0,f,a,d,q,h=>by
  have el:(e::es).length * sz=sz+es.length * sz:=by simp [Vp];omega
  refine⟨by simpa using q,ch.move l (λp u=>a _ (by omega) (by omega) (by omega)) (λe' m=> ?_) h.2⟩;obtain⟨j,o⟩:=Xt.1 m;exact d (j+1) e' (by omega) (by simpa using o)
 | e::es,base,k+1,f,a,d,q,h=>by
  have el:(e::es).length * sz=sz+es.length * sz:=by simp [Vp];omega
  have e2:(k+1) * sz=sz+k * sz:=by rw [Vp];omega
  obtain⟨h1,r,t⟩:=d 0 e (by omega) rfl;refine⟨iW.move (λj o=>a _ (by omega) (by omega) (by omega)) l h1 r t h.1,ch.set l (by simpa using f) (λp v y z=>a p (by omega) (by omega) (by omega)) (λj e' o m=>d (j+1) e' (by omega) (by simpa using m)) ?_ h.2⟩;rw [show base+sz+k * sz=base+ (k+1) * sz by omega];exact q
theorem oC.mono{i:Id}{nx:Nat}{es:List Row}(d:qZ i w ρ O w' ρ' O')(h:oC ρ O i nx es):oC ρ' O' i nx es:=
 ⟨h.1,h.2.1,λn a=>by rw [(d n).1];exact h.2.2.1 n a,λn b a=>by rw [(d n).2.1] at a;exact h.2.2.2 n b a⟩
theorem cT.mono{A A':Nat->Prop}{i:Id}(q:qZ i w ρ O w' ρ' O')(k:∀b,A b->A' b/\w'.heap[b]? =w.heap[b]?)(d:∀i v,ρ i=some v->ρ' i=some v)(j:O' i=O i)
  (hb:∀b,O i=some b->w'.heap[b]? =w.heap[b]?):∀{b:ab},cT w A ρ O i b->cT w' A' ρ' O' i b
 | .box cs,⟨b,arr,t,e,e2,e3,f,g⟩=>⟨b,arr,t,d _ _ e,by rw [j];exact e2,by rw [hb _ e2];exact e3,aC.mono k d cs _ f,g⟩
 | .sl r sz b l,⟨v,e,e2,e3⟩=>by
  refine⟨v,d _ _ e,cP.mono k (λb m=> ?_) e2,by rw [j];exact e3⟩;cases r
  .simp only [UM,if_false] at m⊢;exact⟨by rw [j];exact m,hb _ m⟩
  .simp only [if_true] at m⊢;exact k _ m
 | .iR l,⟨b,e,e2,e3,f⟩=>⟨b,d _ _ e,by rw [j];exact e2,(k b e3).1,aU.mono k b e3 0 l f⟩
 | .arr cs,⟨b,arr,t,e,e2,e3,f,g⟩=>⟨b,arr,t,d _ _ e,by rw [j];exact e2,by rw [hb _ e2];exact e3,aC.mono k d cs _ f,g⟩
 | .mp ag ks vk es,⟨b,o,n,e,e2,e3,f,g⟩=>⟨b,o,n,d _ _ e,by rw [j];exact e2,by rw [hb _ e2];exact e3,f,g⟩
 | .rows b sz aD rsz nx es,h=>by
  obtain⟨a,cap,e,e2,e3,f,g⟩:=h;refine⟨a,cap,d _ _ e,e2,e3,f.mono q, ?_⟩;rcases g with g | ⟨af,off,arr,t,q1,p,u,x,y⟩
  .exact .inl g
  .exact .inr ⟨af,off,arr,t,q1,by rw [j];exact p,by rw [hb _ p];exact u,x,y.mono k (hb _ p) q⟩
 | .dead,⟨⟨v,e,e3⟩,e2⟩=>⟨⟨v,d _ _ e,e3⟩,by rw [j];exact e2⟩
def GK(w:World)(ρ:Id->Option Value)(O:Id->Option Nat)(w':World)(ρ':Id->Option Value)(O':Id->Option Nat):Prop:= ∀i,qZ i w ρ O w' ρ' O'
theorem GK.refl:GK w ρ O w ρ O:=λ_ _=>⟨rfl,rfl,λ_ _=>rfl⟩
theorem HS.real(hs:HS c w h ρ O){i:Id}(hi:h i≠none):i.real=true:=by
 cases i with
 | g i n=>exact(hi (hs.ez i n)).elim
 | _=>rfl
theorem HS.oN(hs:HS c w h ρ O)(le:Le w ρ O w' ρ' O')
  (hblk:∀i b,h' i=some b->(h i=some b/\O' i=O i/\(∀af,O i=some af->w'.heap[af]? =w.heap[af]?)/\qZ i w ρ O w' ρ' O')\/cT w' (AA c w' O') ρ' O' i b)
  (hnone:∀i,i.real=true->h' i=none->ρ' i=none/\O' i=none) (hnog:∀i n,h' (.g i n)=none)
  (hgd:∀i n,h' i=none->ρ' (.g i n)=none/\O' (.g i n)=none) (hgo:∀i n u,ρ' (.g i n)=some u->u.oneCell'=true/\u.cells= #[u])
  (inj:∀i j b,O' i=some b->O' j=some b->i=j) (lt:∀i b,O' i=some b->b < w'.heap.size):HS c w' h' ρ' O' where
 af i b hb:=by
  rcases hblk i b hb with⟨h1,h2,h3,h4⟩ | h1
  .exact cT.mono h4 (λb ha=>le.A b ha) le.eQ h2 h3 (hs.af i b h1)
  .exact h1
 cB:=hnone
 ez:=hnog
 fG:=hgd
 gone:=hgo
 inj:=inj
 lt:=lt
 own i b hi:=by
  rcases le.own i b hi with⟨j,hj⟩ | h
  .exact hs.own j b hj
  .exact .inr (UY hs.size h)
 size:=UY hs.size le.size
theorem HS.go(hs:HS c w h ρ O)(le:Le w ρ O w' ρ' O')(a:GK w ρ O w' ρ' O')
  (e:∀i b,h' i=some b->(h i=some b/\O' i=O i/\(∀af,O i=some af->w'.heap[af]? =w.heap[af]?))\/cT w' (AA c w' O') ρ' O' i b)
  (d:∀i,i.real=true->h' i=none->ρ' i=none/\O' i=none) (o:∀i,h' i=none->h i=none) (f:∀i n,h' (.g i n)=none)
  (inj:∀i j b,O' i=some b->O' j=some b->i=j) (lt:∀i b,O' i=some b->b < w'.heap.size):HS c w' h' ρ' O':=
 hs.oN le (λi b hb=>by
  rcases e i b hb with⟨h1,l,m⟩ | h1
  .exact .inl ⟨h1,l,m,a i⟩
  .exact .inr h1) d f (λi n hi=>by
  have:=hs.fG i n (o i hi);rw [(a i n).1,(a i n).2.1];exact this) (λi n u k=>by rw [(a i n).1] at k;exact hs.gone i n u k) inj lt
theorem HS.world(hs:HS c w h ρ O)(le:Le w ρ O w' ρ O)(fI:∀i af,O i=some af->w'.heap[af]? =w.heap[af]?):HS c w' h ρ O:=
 hs.go le (λi n=>⟨rfl,rfl,λb hb=>fI _ b hb⟩) (λi _ hb=> .inl ⟨hb,rfl,λaf h=>fI i af h⟩) hs.cB (λ_ h=>h) hs.ez hs.inj λi b h=>V5 (hs.lt i b h) le.size
def aE{α:Type}(f:Id->Option α)(i:Id)(v:Option α):Id->Option α:=λj=>if j=i then v else f j
@[simp] theorem aF {α:Type} (f:Id->Option α) (i:Id) (v:Option α):aE f i v i=v:=by simp [aE]
theorem ar{α:Type}(f:Id->Option α){i j:Id}(v:Option α)(h:j≠i):aE f i v j=f j:=by simp [aE,h]
theorem eK(h:Id->Option ab)(i:Id)(b:ab):aK h [(i,b)]=aE h i (some b):=rfl
theorem de(h:Id->Option ab)(i:Id)(b:ab)(us:aH):aK h ((i,b)::us)=aK (aE h i (some b)) us:=rfl
theorem mw(h:Id->Option ab):∀(us vs:aH),aK h (us++vs)=aK (aK h us) vs
 | [],_=>rfl
 | (i,b)::us,vs=>by simp only [Uo,de];exact mw _ us vs
theorem aP{i j:Id}{n:Nat}(a:i.real=true):Id.g j n≠i:=by rintro rfl;cases a
theorem Le.alloc(hs:HS c w h ρ O){i:Id}(hr:i.real=true)(hi:h i=none)(o:Obj)(v:Value)(ob:Option Nat)(hob:ob=none\/ob=some w.heap.size):
  Le w ρ O (w.alloc o) (aE ρ i (some v)) (aE O i ob) where
 os:=rfl
 output:=rfl
 tape:=rfl
 size:=by simp
 eQ j u hj:=by
  by_cases e:j=i
  .subst e;rw [(hs.cB _ hr hi).1] at hj;cases hj
  .rw [ar _ _ e];exact hj
 af b hb _:=U6 _ _ _ hb
 own j b hj:=by
  by_cases e:j=i
  .subst e;rw [aF] at hj;rcases hob with rfl | rfl
   .cases hj
   .cases hj;exact .inr (UC _)
  .rw [ar _ _ e] at hj;exact .inl ⟨j,hj⟩
theorem HS.alloc(hs:HS c w h ρ O){i:Id}(l:i.real=true)(hi:h i=none)(o:Obj)(v:Value)(ob:Option Nat)(g:ob=none\/ob=some w.heap.size)(b:ab)
  (hb:cT (w.alloc o) (AA c (w.alloc o) (aE O i ob)) (aE ρ i (some v)) (aE O i ob) i b):
  HS c (w.alloc o) (aE h i (some b)) (aE ρ i (some v)) (aE O i ob):=by
 refine hs.go (Le.alloc hs l hi o v ob g) (λj n=>⟨ar _ _ (aP l),ar _ _ (aP l),λb hb=>U6 _ _ _ (hs.lt _ b hb)⟩) (λj q a=> ?_) (λj p a=> ?_) (λj a=> ?_) (λj n=>by rw [ar _ _ (aP l)];exact hs.ez j n) (λj k d a f=> ?_) (λj d a=> ?_)
 .by_cases e:j=i
  .subst e;rw [aF] at a;cases a;exact .inr hb
  .rw [ar _ _ e] at a;exact .inl ⟨a,ar _ _ e,λaf m=>U6 _ _ _ (hs.lt j af m)⟩
 .by_cases e:j=i
  .subst e;rw [aF] at a;cases a
  .rw [ar _ _ e] at a;rw [ar _ _ e,ar _ _ e];exact hs.cB j p a
 .by_cases e:j=i
  .subst e;rw [aF] at a;cases a
  .rw [ar _ _ e] at a;exact a
 .by_cases e:j=i <;> by_cases e':k=i
  .rw [e,e']
  .exfalso;rw [ar _ _ e'] at f;subst e;rw [aF] at a;rcases g with rfl | rfl
   .cases a
   .cases a;exact WU _ (hs.lt _ _ f)
  .exfalso;rw [ar _ _ e] at a;subst e';rw [aF] at f;rcases g with rfl | rfl
   .cases f
   .cases f;exact WU _ (hs.lt _ _ a)
  .rw [ar _ _ e] at a;rw [ar _ _ e'] at f;exact hs.inj j k d a f
 .by_cases e:j=i
  .subst e;rw [aF] at a;rcases g with rfl | rfl
   .cases a
   .cases a;simp
  .rw [ar _ _ e] at a;have:=hs.lt j d a;simp;omega
theorem Le.release{i:Id}:Le w ρ O w ρ (aE O i none) where
 os:=rfl
 output:=rfl
 tape:=rfl
 size:=UC _
 eQ _ _ h:=h
 af _ _ _:=rfl
 own j b hj:=by
  by_cases e:j=i
  .subst e;rw [aF] at hj;cases hj
  .rw [ar _ _ e] at hj;exact .inl ⟨j,hj⟩
theorem HS.release(hs:HS c w h ρ O){i:Id}(l:i.real=true)(b:ab)(hb:cT w (AA c w (aE O i none)) ρ (aE O i none) i b):HS c w (aE h i (some b)) ρ (aE O i none):=by
 refine hs.go Le.release (λj n=>⟨rfl,ar _ _ (aP l),λ_ _=>rfl⟩) (λj m a=> ?_) (λj g a=> ?_) (λj a=> ?_) (λj n=>by rw [ar _ _ (aP l)];exact hs.ez j n) (λj k d a f=> ?_) (λj d a=> ?_)
 .by_cases e:j=i
  .subst e;rw [aF] at a;cases a;exact .inr hb
  .rw [ar _ _ e] at a;exact .inl ⟨a,ar _ _ e,λ_ _=>rfl⟩
 .by_cases e:j=i
  .subst e;rw [aF] at a;cases a
  .rw [ar _ _ e] at a⊢;exact hs.cB j g a
 .by_cases e:j=i
  .subst e;rw [aF] at a;cases a
  .rw [ar _ _ e] at a;exact a
 .by_cases e:j=i
  .subst e;rw [aF] at a;cases a
  .by_cases e':k=i
   .subst e';rw [aF] at f;cases f
   .rw [ar _ _ e] at a;rw [ar _ _ e'] at f;exact hs.inj j k d a f
 .by_cases e:j=i
  .subst e;rw [aF] at a;cases a
  .rw [ar _ _ e] at a;exact hs.lt j d a
theorem HS.freeze(hs:HS c w h ρ O){i:Id}{sz:Nat}{b:Bool}{l:List (List T)}(hi:h i=some (.sl false sz b l)):
  HS c w (aE h i (some (.sl true sz b l))) ρ (aE O i none):=by
 refine hs.release (hs.real (by rw [hi];simp)) _ ?_;obtain⟨v,f,e2,e3⟩:=hs.af i _ hi;refine⟨v,f, ?_,λ_=>by simp⟩;simp only [if_true];have g:∀b,AA c w O b->AA c w (aE O i none) b/\w.heap[b]? =w.heap[b]?:=λb k=>(Le.release (ρ:=ρ) (i:=i)).A b k;refine cP.mono g (λaf d=> ?_) e2;simp only [UM,if_false] at d;refine⟨⟨.inr (hs.own i af d),hs.lt i af d,λj a=> ?_⟩,rfl⟩;by_cases e:j=i
 .subst e;rw [aF] at a;cases a
 .rw [ar _ _ e] at a;exact e (hs.inj j i af a d)
theorem HS.O8(hs:HS c w h ρ O){i:Id}{cs:List AV}{l:List T}(hi:h i=some (.box cs))(o:eZ cs=some l):
  HS c w (aE h i (some (.iR l))) ρ (aE O i none):=by
 refine hs.release (hs.real (by rw [hi];simp)) _ ?_;obtain⟨b,arr,t,d,e2,e3,f,q⟩:=hs.af i _ hi;have k:∀b,AA c w O b->AA c w (aE O i none) b/\w.heap[b]? =w.heap[b]?:=λb n=>(Le.release (ρ:=ρ) (i:=i)).A b n;have hb:AA c w (aE O i none) b:=⟨.inr (hs.own i b e2),hs.lt i b e2,λj a=>by
  by_cases e:j=i
  .subst e;rw [aF] at a;cases a
  .rw [ar _ _ e] at a;exact e (hs.inj j i b a e2)⟩
 refine⟨b,d,by simp,hb, ?_⟩;have m:=aQ.l7 o f;have key:∀(l:List T) (vs:List Value) (off:Nat),aQ w (AA c w O) l vs->(∀j v,vs[j]? =some v->w.cell? ⟨b,off+j,none⟩=some v)->aU w (AA c w (aE O i none)) b off l:=by
  intro l;induction l with
  | nil=>intro vs off _ _;simp [aU]
  | cons x l p=>rintro vs off ⟨v,r,rfl,h1,g⟩ hv;simp only [aU];refine⟨⟨v,by simpa using hv 0 v rfl,aA.mono k x v h1⟩,p r (off+1) g λj u a=> ?_⟩;have:=hv (j+1) u (by simpa using a);rw [show off+1+j=off+ (j+1) by omega];exact this
 refine key l _ 0 m λj v a=> ?_;simp only [World.cell?,e3,UW];simpa using a
theorem Le.write{b:Nat}{i:Id}(hi:O i=some b)(hos:w'.os=w.os)(ho:w'.output=w.output)(ht:w'.tape=w.tape)(hsz:w'.heap.size=w.heap.size)(hk:∀k,k≠b->w'.heap[k]? =w.heap[k]?):Le w ρ O w' ρ O where
 os:=hos
 output:=ho
 tape:=ht
 size:=Nat.le_of_eq hsz.symm
 eQ _ _ h:=h
 af k _ hn:=hk k λe=>hn i (e▸hi)
 own j b hj:= .inl ⟨j,hj⟩
theorem HS.write(hs:HS c w h ρ O){b:Nat}{i:Id}(hi:O i=some b)(le:Le w ρ O w' ρ O)(m:∀k,k≠b->w'.heap[k]? =w.heap[k]?)(x:ab)
  (p:cT w' (AA c w' O) ρ O i x) (g:h i≠none):HS c w' (aE h i (some x)) ρ O:=by
 have o:=hs.real g;refine hs.go le (λj n=>⟨rfl,rfl,λd g=>m d λe=>aP o (hs.inj _ i b (e▸g) hi)⟩) (λj q a=> ?_) (λj l a=> ?_) (λj a=> ?_) (λj n=>by rw [ar _ _ (aP o)];exact hs.ez j n) hs.inj (λj d a=>V5 (hs.lt j d a) le.size)
 .by_cases e:j=i
  .subst e;rw [aF] at a;cases a;exact .inr p
  .rw [ar _ _ e] at a;exact .inl ⟨a,rfl,λaf f=>m af λe'=>e (hs.inj j i b (e'▸f) hi)⟩
 .by_cases e:j=i
  .subst e;rw [aF] at a;cases a
  .rw [ar _ _ e] at a;exact hs.cB j l a
 .by_cases e:j=i
  .subst e;rw [aF] at a;cases a
  .rw [ar _ _ e] at a;exact a
end
def SS(w:World)(A:Nat->Prop)(ρ:Id->Option Value)(s:Nat->Option Gs×AV)(tmps:Array Value):Prop:=
 ∀k,match s k with
  | (none,v)=>ao w A ρ v (tmps.getD k undef)
  | (some g,v)=>(tmps.getD g.d undef= .bool g.want/\g.c=true/\ao w A ρ v (tmps.getD k undef))\/(tmps.getD g.d undef≠ .bool g.want/\g.c=false/\tmps.getD k undef=undef)
section
variable {c:Ctx} {w w':World} {ρ ρ':Id->Option Value} {A A':Nat->Prop} {s:Nat->Option Gs×AV} {tmps:Array Value}
theorem SS.mono(d:∀b,A b->A' b/\w'.heap[b]? =w.heap[b]?)(a:∀i v,ρ i=some v->ρ' i=some v)(hs:SS w A ρ s tmps):SS w' A' ρ' s tmps:=by
 intro k;have:=hs k;revert this;split
 .intro this;exact ao.mono d a _ _ this
 .intro this;rcases this with⟨h1,e,f⟩ | h1
  .exact .inl ⟨h1,e,ao.mono d a _ _ f⟩
  .exact .inr h1
def kM(tmps:Array Value):Option Gs->Prop
 | none=>True
 | some g=>tmps.getD g.d undef= .bool g.want/\g.c=true
theorem kM.cond{g:Option Gs}(h:kM tmps g):g.map (·.c)=none\/g.map (·.c)=some true:=by
 cases g with
 | none=>exact .inl rfl
 | some g=>exact .inr (by simp [h.2])
theorem Rx(v:Value):ao w A ρ (Bn v) v:=by
 have one:∀(u:Value) (x:T),oY u=some x->aA w A x u:=by
  intro u x e;cases u <;> simp only [oY,Uh,reduceCtorEq] at e
  case slice a l g=>split at e <;> simp_all;subst e;simp [aA]
  case pointer a=>split at e <;> simp_all;subst e;simp [aA]
  case map a=>split at e <;> simp_all;subst e;simp [aA]
  all_goals (subst e;simp [aA])
 have all:∀(us:List Value) (l:List T),l0 us=some l->aQ w A l us:=by
  intro us;induction us with
  | nil=>intro l e;simp only [l0,Uh] at e;subst e;rfl
  | cons u us d=>
   intro l e;simp only [l0] at e;cases h1:oY u with
   | none=>simp [h1] at e
   | some x=>
    cases b:l0 us with
    | none=>simp [h1,b] at e
    | some f=>simp only [h1,b,Ut,Uh] at e;subst e;exact⟨u,us,rfl,one u x h1,d f b⟩
 unfold Bn;split
 .rename_i cs;split
  .rename_i l e;simp only [ao];have:=all cs.toList l e;refine⟨cs.toList,by simp,aC.l8 this, ?_⟩;have key:∀(l:List T) (us:List Value),aQ w A l us->∀u∈us,u.oneCell'=true/\u.cells= #[u]:=by
    intro l;induction l with
    | nil=>intro us hu;simp only [aQ] at hu;subst hu;simp
    | cons x l d=>
     intro us ⟨v,r,e,h1,b⟩ u hu;subst e;rcases Uw.1 hu with rfl | hu
     .exact h1.qn
     .exact d r b u hu
   exact key l _ this
  .simp [ao]
 .split
  .rename_i x e;simp only [ao];exact one _ x e
  .simp [ao]
theorem SS.get{a:Act}{h:Id->Option ab}(hs:SS w A ρ s a.tmps){g:Option Gs}(l:kM a.tmps g)(x:Operand):ao w A ρ (St.get ⟨s,h⟩ g x) (a.eval x):=by
 cases x with
 | tmp k=>
  simp only [St.get,Act.eval];have:=hs k;split at this
  .rename_i v e;simp only [e,lB,cond_true];exact this
  .rename_i d v e;simp only [e];cases g with
   | none=>simp [lB,ao]
   | some i=>
    by_cases b:lB (some d) (some i)=true
    .simp only [b,cond_true];simp only [lB,Un,beq_iff_eq] at b;rcases this with⟨_,_,j⟩ | ⟨h1,_⟩
     .exact j
     .exfalso;apply h1;rw [b.1,b.2];exact l.1
    .simp only [YC] at b;simp [b,ao]
 | const v=>exact Rx v
 | func f=>simp only [St.get,Act.eval,ao];exact⟨[],[],rfl,by simp [aC],by simp [aC]⟩
 | global g=>simp [St.get,ao]
theorem SS.mJ{a:Act}{h:Id->Option ab}(hs:SS w A ρ s a.tmps){g:Option Gs}(j:kM a.tmps g)(cs x:Operand)(want:Bool)(f:a.eval cs= .bool want):
  ao w A ρ (St.mJ ⟨s,h⟩ g cs want x) (a.eval x):=by
 unfold St.mJ;split
 .rename_i d k;simp only [Act.eval] at f⊢;have:=hs k;split
  .rename_i b v e;simp only [e] at this;by_cases h1:(b.d==d && b.want==want)=true
   .simp only [h1,YD,cond_true];simp only [Un,beq_iff_eq] at h1;rcases this with⟨_,_,m⟩ | ⟨l,_⟩
    .exact m
    .exfalso;apply l;rw [h1.1,h1.2];exact f
   .simp only [YC] at h1;simp only [h1,VD];have i:=SS.get (h:=h) hs j (.tmp k);simp only [St.get,e,Act.eval] at i;exact i
  .rename_i v e;simp only [e] at this;exact this
 .exact SS.get hs j _
end
end Go.Aev
