import Derived.WalkKit
set_option linter.all false
namespace Go.Aev
open Go
abbrev SR:=@Option.some.injEq
abbrev SU:=@Option.bind_eq_some_iff
abbrev SV:=@List.getD_eq_getElem?_getD
abbrev SW:=@List.mem_cons_self
abbrev SX:=@List.mem_of_getElem?
abbrev SY:=@List.mem_cons_of_mem
abbrev SZ:=@List.getElem?_eq_getElem
abbrev S0:=@Bool.and_eq_true
abbrev S7:=@List.cons_append
abbrev S8:=@List.nil_append
abbrev S9:=@Option.bind_some
abbrev Ta:=@List.getElem?_eq_some_iff
abbrev Tc:=@List.mem_singleton
abbrev Td:=@Result.andThen_ok
abbrev Te:=@List.mem_append_right
abbrev Tf:=@List.mem_append_left
abbrev Tg:=@List.mem_cons
abbrev Th:=@Bool.not_true
abbrev Ti:=@Int.mul_le_mul_of_nonneg_left
abbrev Tj:=@Bool.not_false
abbrev Tk:=@List.all_eq_true
abbrev Tl:=@Nat.le_refl
abbrev Tm:=@List.mem_append
abbrev Tn:=@Option.bind_assoc
abbrev To:=@List.length_eq_zero_iff
abbrev Tp:=@Sem.run_bind
abbrev Tq:=@Nat.add_sub_cancel_left
abbrev Tr:=@List.length_cons
abbrev Ts:=@Option.getD_some
abbrev Tu:=@Array.length_toList
abbrev Tv:=@Bool.false_eq_true
abbrev Tw:=@List.mem_map
abbrev Tx:=@Array.mem_of_getElem?
abbrev Ty:=@List.mem_or_eq_of_mem_set
abbrev Tz:=@Nat.le_trans
abbrev TA:=@Int.mul_comm
abbrev TB:=@Int.toNat_natCast
abbrev TC:=@Nat.zero_add
abbrev TD:=@Sem.run_pure
abbrev TE:=@Option.some.inj
abbrev TF:=@Int.mul_le_mul_of_nonneg_right
abbrev TG:=@Int.mul_add
abbrev TH:=@Int.natAbs_natCast
abbrev TI:=@Rat.zero_mul
abbrev TJ:=@Go.RowKit.Below.heap_alloc
abbrev TK:=@Nat.mul_le_mul_right
abbrev TM:=@List.getElem?_map
abbrev TN:=@List.append_assoc
abbrev TO:=@Array.all_eq_true_iff_forall_mem
abbrev TQ:=@List.map_cons
abbrev TR:=@Rat.div_def
abbrev TS:=@Option.getD_none
abbrev TT:=@List.length_set
abbrev TU:=@List.getElem?_eq_none
abbrev TV:=@Rat.mul_zero
abbrev TW:=@Int.mul_left_comm
abbrev TX:=@List.replicate_succ
abbrev TY:=@List.getElem_of_mem
abbrev TZ:=@Nat.sub_zero
abbrev T0:=@Prod.mk.injEq
abbrev T1:=@Array.getElem?_toList
abbrev T2:=@Nat.succ_mul
abbrev T3:=@List.length_take
abbrev T4:=@List.getElem?_append_right
abbrev T5:=@Addr.mk.injEq
abbrev T6:=@List.length_nil
abbrev T7:=@List.append_nil
abbrev T8:=@Int.natAbs_mul
abbrev T9:=@Int.mul_nonneg
abbrev Ua:=@Bool.false_or
abbrev Ub:=@Int.mul_assoc
abbrev Uc:=@Rat.le_refl
abbrev Ud:=@List.nodup_cons
abbrev Ue:=@List.getElem?_set
abbrev Uf:=@Value.slice.injEq
abbrev Ug:=@Bool.decide_or
abbrev Uh:=@List.length_append
abbrev Ui:=@Int.fdiv_eq_ediv_of_nonneg
abbrev Uj:=@List.getElem?_append_left
abbrev Uk:=@Bool.or_eq_true
abbrev Ul:=@Bool.not_eq_true'
abbrev Um:=@List.take_of_length_le
abbrev Un:=@Rat.mul_nonneg
abbrev Uo:=@Bool.true_and
abbrev Up:=@Int.sign_eq_neg_one_of_neg
abbrev Uq:=@Decidable.byContradiction
abbrev Ur:=@Int.one_mul
abbrev Us:=@Int.sign_eq_one_of_pos
abbrev Ut:=@List.head?_cons
abbrev Uu:=@List.all_cons
abbrev Uv:=@List.length_map
abbrev Uw:=@List.size_toArray
abbrev Ux:=@Nat.lt_of_lt_of_le
abbrev Uy:=@List.mem_of_mem_take
abbrev Uz:=@Int.le_of_lt
abbrev UA:=@List.getElem_mem
abbrev UB:=@List.drop_eq_getElem_cons
abbrev UC:=@List.nodup_append
abbrev UD:=@List.length_replicate
abbrev UE:=@List.eq_of_mem_replicate
abbrev UF:=@Bool.false_and
abbrev UG:=@Int.lt_or_le
abbrev UH:=@Bool.decide_and
abbrev UI:=@Array.getD_eq_getD_getElem?
abbrev UJ:=@List.getElem?_replicate
abbrev UK:=@List.length_drop
abbrev UL:=@List.mem_of_mem_drop
abbrev UM:=@Nat.lt_succ_self
abbrev UN:=@Nat.le_of_not_lt
abbrev UO:=@List.mem_range
abbrev UP:=@Value.pointer.injEq
abbrev UQ:=@List.map_congr_left
abbrev UR:=@Option.map_some
abbrev US:=@List.map_append
abbrev UT:=@List.cons.injEq
abbrev UW:=@Classical.byContradiction
abbrev UX:=@Option.isSome_iff_exists
abbrev UY:=@Nat.le_add_right
abbrev UZ:=@Int.emod_lt_of_pos
abbrev U0:=@Rat.num_divInt_den
abbrev U1:=@List.getElem?_cons_zero
abbrev U3:=@List.getElem?_cons_succ
abbrev U4:=@Int.eq_ofNat_of_zero_le
abbrev U5:=@Int.tdiv_eq_ediv_of_dvd
abbrev U6:=@List.flatten_cons
abbrev U7:=@List.take_add_one
abbrev U8:=@List.length_range
abbrev U9:=@List.drop_eq_nil_of_le
abbrev Va:=@MapKept.run_getObj_map
abbrev Vb:=@Nat.not_lt
abbrev Vc:=@Int.tdiv_eq_ediv_of_nonneg
abbrev Vd:=@Nat.mod_eq_of_lt
abbrev Ve:=@List.getElem_range
abbrev Vf:=@Int.mul_ediv_add_emod
abbrev Vg:=@Array.getElem?_eq_getElem
abbrev Vh:=@List.pairwise_iff_getElem
abbrev Vi:=@Nat.add_mul
abbrev Vj:=@Array.ext'
abbrev Vk:=@Int.ediv_nonneg
abbrev Vm:=@Nat.pow_le_pow_right
abbrev Vn:=@Int.add_zero
abbrev Vo:=@List.ext_getElem?
abbrev Vp:=@Int.lt_trichotomy
abbrev Vq:=@Nat.lt_irrefl
abbrev Vr:=@List.replicate_zero
abbrev Vs:=@List.take_zero
abbrev Vt:=@List.take_length
abbrev Vu:=@List.getElem_map
abbrev Vv:=@Option.map_eq_some_iff
abbrev Vw:=@Int.ediv_lt_iff_lt_mul
abbrev Vx:=@Nat.zero_le
abbrev Vy:=@List.getElem?_take
abbrev Vz:=@List.getElem?_drop
abbrev VA:=@List.map_nil
abbrev VD:=@List.map_map
abbrev VE:=@Int.pow_succ
abbrev VF:=@Nat.sub_self
abbrev VG:=@Rat.mul_inv_cancel
abbrev VH:=@Classical.choose_spec
abbrev VI:=@List.getElem?_toArray
abbrev VJ:=@Int.emod_nonneg
abbrev VK:=@Nat.add_assoc
abbrev VL:=@Int.tmod_eq_emod_of_nonneg
abbrev VM:=@List.extract_eq_take_drop
abbrev VN:=@Option.isNone_iff_eq_none
abbrev VO:=@BitVec.ofInt_natCast
abbrev VP:=@Int.add_mul
abbrev VQ:=@List.range'_succ
abbrev VR:=@Nat.add_zero
abbrev VS:=@List.map_set
abbrev VT:=@Int.mul_zero
abbrev VU:=@List.getElem?_range
abbrev VW:=@List.set_cons_succ
abbrev VX:=@Array.any_eq_true'
abbrev VY:=@BitVec.toNat_ofNat
abbrev VZ:=@Int.natCast_mul
abbrev V5:=@Rat.inv_mul_cancel
abbrev V6:=@Rat.mul_eq_zero
abbrev V7:=@Rat.mul_le_mul_of_nonneg_right
abbrev V8:=@MapKept.run_setObj_map
abbrev V9:=@Prod.ext
abbrev Wa:=@List.mem_iff_getElem?
abbrev Wb:=@Nat.lt_or_ge
abbrev Wc:=@List.tail_cons
abbrev We:=@List.drop_zero
abbrev Wf:=@Rat.add_zero
abbrev Wg:=@Rat.le_of_lt
abbrev Wh:=@Int.mul_lt_mul_of_pos_right
abbrev Wi:=@Array.toList_extract
abbrev Wj:=@List.range_eq_range'
abbrev Wk:=@Rat.not_lt
abbrev Wl:=@List.getElem?_set_ne
abbrev Wm:=@Bool.and_true
abbrev Wn:=@Option.ne_none_iff_exists'
abbrev Wo:=@Array.getElem?_eq_some_iff
abbrev Wp:=@Nat.mul_one
abbrev Wq:=@Int.mul_one
abbrev Wr:=@Int.pow_add
abbrev Ws:=@List.take_succ_cons
abbrev Wu:=@List.length_pos_iff
abbrev Wv:=@Int.neg_ediv_of_dvd
abbrev Ww:=@Option.map_none
abbrev Wx:=@List.mem_filterMap
abbrev Wy:=@Int.pow_zero
abbrev Wz:=@Nat.mul_le_mul
abbrev WA:=@List.nodup_nil
abbrev WB:=@Rat.num_nonneg
abbrev WC:=@Array.size_append
abbrev WD:=@Int.le_refl
abbrev WE:=@Rat.one_mul
abbrev WG:=@Nat.mul_add
abbrev WH:=@Rat.mul_one
abbrev WJ:=@List.isEmpty_iff
abbrev WK:=@List.take_append_drop
abbrev WL:=@Array.getElem?_setIfInBounds_ne
abbrev WM:=@Bool.or_eq_false_iff
abbrev WN:=@Nat.mod_lt
abbrev WO:=@Nat.add_comm
abbrev WQ:=@Rat.zero_add
abbrev WS:=@Rat.intCast_neg
abbrev WT:=@Rat.mul_comm
abbrev WU:=@List.range_succ
abbrev WV:=@Rat.mul_le_mul_of_nonneg_left
abbrev WW:=@List.drop_drop
abbrev WX:=@Iff.rfl
abbrev WY:=@Ne.symm
abbrev WZ:=@Bool.and_false
abbrev W0:=@Int.natAbs_neg
abbrev W1:=@Eq.trans
abbrev W2:=@Int.sub_mul
abbrev W3:=@List.set_cons_zero
abbrev W4:=@List.prefix_append
abbrev W5:=@Option.isNone_none
abbrev W6:=@Option.isSome_none
abbrev W7:=@Option.isSome_some
abbrev W8:=@Nat.two_pow_add_eq_or_of_lt
abbrev W9:=@Nat.one_le_two_pow
abbrev Xa:=@List.drop_nil
abbrev Xb:=@List.take_nil
abbrev Xc:=@Int.lt_of_mul_lt_mul_right
abbrev Xd:=@Nat.mul_add_mod_self_right
abbrev Xe:=@Rat.mul_assoc
abbrev Xf:=@Rat.divInt_eq_div
abbrev Xg:=@List.getElem_take
abbrev Xh:=@Int.sign_eq_zero_iff_zero
abbrev Xi:=@Bool.not_eq_true
abbrev Xj:=@Bool.true_or
abbrev Xk:=@List.all_nil
abbrev Xl:=@List.idxOf_lt_length_iff
abbrev Xm:=@Nat.not_le_of_lt
abbrev Xn:=@Array.toList_map
abbrev Xo:=@List.not_mem_nil
abbrev Xp:=@Int.neg_nonneg_of_nonpos
abbrev Xq:=@Int.mul_ediv_cancel_left
abbrev Xr:=@List.ext_getElem
abbrev Xs:=@Nat.min_eq_left
abbrev Xt:=@Rat.num_eq_zero
abbrev Xu:=@Rat.intCast_mul
abbrev Xv:=@Int.neg_mul
abbrev Xw:=@List.mapM_cons
abbrev Xx:=@List.drop_left
inductive T where
 | int (k:IntKind) (n:Int)
 | bool (b:Bool)
 | str (s:ByteArray)
 | ae (sz:Nat) (isNil:Bool) (xs:List (List T))
 | aO (isNil:Bool)
 | ptr (cs:List T)
 | aC
 | ym
 | yl
 | BU
 | any
 deriving Inhabited
inductive Id where
 | c (n:Nat)
 | s (d:Nat) (j:Nat)
 | g (i:Id) (n:Nat)
 deriving DecidableEq,Inhabited
def Id.real:Id->Bool
 | .g _ _=>false
 | _=>true
inductive AV where
 | top
 | t (x:T)
 | mb (vs:List AV)
 | agg (vs:List AV)
 | ref (i:Id) (off:Nat)
 | el (i:Id) (sz k off:Nat)
 | own (i:Id)
 | part (i:Id) (sz off len:Nat)
 | row (i:Id) (n:Nat)
 | rel (i:Id) (sz n k off:Nat)
 | fn (f:FuncId) (fst caps:List AV)
 deriving Inhabited
inductive Ck where
 | i (k:IntKind)
 | b
 | s
 | l (sz:Nat)
 | x
 deriving Inhabited,DecidableEq
structure Row where
 n:Nat
 cs:List T
 own:Option (Bool×List (List T))
 deriving Inhabited
inductive aa where
 | box (cs:List AV)
 | sl (fz:Bool) (sz:Nat) (isNil:Bool) (xs:List (List T))
 | iC (cs:List T)
 | arr (cs:List AV)
 | mp (ag:Bool) (ks:List Ck) (vk:Ck) (es:List (List T×T))
 | rows (b:Bool) (sz az rsz nx:Nat) (es:List Row)
 | dead
 deriving Inhabited
def T.int?(k:IntKind):T->Option Int
 | .int a n=>if a=k then some n else none
 | _=>none
def T.bool?:T->Option Bool
 | .bool b=>some b
 | _=>none
def T.bw:T->Option ByteArray
 | .str s=>some s
 | _=>none
def T.p7:T->Option (List T)
 | .ptr cs=>some cs
 | _=>none
def T.aP(sz:Nat):T->Option (Bool×List (List T))
 | .ae a b xs=>if a=sz then some (b,xs) else none
 | .aO b=>some (b,[])
 | _=>none
def dv:T->Value
 | .int k n=> .int k n
 | .bool b=> .bool b
 | .str s=> .string s
 | _=> .nilIface
def cW(ag:Bool)(cs:List T):Value:=cond ag (.agg (cs.map dv).toArray) ((cs.map dv).headD .nilIface)
def dI:Ck->T->Bool
 | .i k, .int a _=>decide (a=k)
 | .b, .bool _=>true
 | .s, .str _=>true
 | _,_=>false
def bR:List Ck->List T->Bool
 | [],[]=>true
 | k::ks,x::xs=>dI k x && bR ks xs
 | _,_=>false
def nh:T->T->Bool
 | .int _ a, .int _ b=>a==b
 | .bool a, .bool b=>a==b
 | .str a, .str b=>a==b
 | _,_=>false
def dQ:List T->List T->Bool
 | [],[]=>true
 | x::xs,y::a=>nh x y && dQ xs a
 | _,_=>false
def fc(key:List T):List (List T×T)->Option T
 | []=>none
 | (k,v)::r=>cond (dQ key k) (some v) (fc key r)
def gJ(key:List T)(v:T):List (List T×T)->List (List T×T)
 | []=> [(key,v)]
 | (k,u)::r=>cond (dQ key k) ((key,v)::r) ((k,u)::gJ key v r)
def T.pP:T->Option Unit
 | .int _ _=>some ()
 | .bool _=>some ()
 | .str _=>some ()
 | _=>none
def gd{α:Type}[Inhabited α](c:Option Bool)(m:Option α):Option α:=
 match m with
 | some a=>some a
 | none=>match c with
  | none=>none
  | some b=>cond b none (some default)
def ab{α R:Type}[Inhabited α](c:Option Bool)(m:Option α)(k:α->Option R):Option R:=
 match m with
 | some a=>k a
 | none=>match c with
  | none=>none
  | some b=>cond b none (k default)
def pe{R:Type}(c:Option Bool):Nat->List T->(List T->Option R)->Option R
 | 0,_,K=>K []
 | n+1,cs,K=>ab c cs.head? λx=>pe c n cs.tail λl=>K (x::l)
def oR:Value->Option T
 | .int k i=>some (.int k i)
 | .bool b=>some (.bool b)
 | .string s=>some (.str s)
 | .slice none 0 0=>some (.aO true)
 | .pointer none=>some .aC
 | .map none=>some .ym
 | .nilFunc=>some .yl
 | .nilIface=>some .BU
 | _=>none
def lS:List Value->Option (List T)
 | []=>some []
 | v::r=>(oR v).bind λx=>(lS r).bind λl=>some (x::l)
def bm(P:Program)(t:TypeId):Bool:=
 match P.underlying t with
 | some (.struct _) | some (.array _ _)=>true
 | _=>false
def rN(P:Program)(t:TypeId):Option IntKind:=
 match P.underlying t with
 | some (.int k)=>some k
 | _=>none
def bL(P:Program)(t:TypeId):Bool:=(P.underlying t).isSome
def tO(P:Program)(t:TypeId)(f:Nat):Option (Nat×TypeId):=
 match P.underlying t with
 | some (.struct a)=>match a[f]? with
  | some x=>cond (bL P x.type) (some (x.offset,x.type)) none
  | none=>none
 | _=>none
def m9(P:Program)(t:TypeId):Option TypeId:=
 match P.underlying t with
 | some (.slice e)=>cond (bL P e) (some e) none
 | _=>none
def wQ(P:Program)(t:TypeId):Option (Nat×TypeId):=
 match P.underlying t with
 | some (.array n e)=>cond (bL P e) (some (n,e)) none
 | _=>none
def p6(P:Program)(t:TypeId):Bool:=
 match P.underlying t with
 | some (.struct a)=>a.toList.all λf=>bL P f.type
 | some (.array _ e)=>bL P e
 | _=>false
def Bt(P:Program)(t:TypeId):Bool:=
 match P.underlying t with
 | some .string=>true
 | _=>false
def jF(P:Program)(t:TypeId):Option (List T):=
 match P.info? t with
 | some i=>match i.zero with
  | some v=>lS v.cells.toList
  | none=>none
 | none=>none
structure Gs where
 d:Nat
 want:Bool
 c:Bool
structure St where
 t:Nat->Option Gs×AV
 h:Id->Option aa
abbrev aH:=List (Id×aa)
def aK(h:Id->Option aa):aH->Id->Option aa
 | []=>h
 | (i,b)::us=>aK (λj=>if j=i then some b else h j) us
def my(d:Nat):Option Gs×AV->Option Gs×AV
 | (some g,v)=>cond (g.d==d) (none, .top) (some g,v)
 | (none,v)=>(none,v)
def St.put(s:St)(a:Bool)(d:Option Nat)(g:Option Gs)(v:AV)(us:aH):St:=
 {t :=match d with
    | some d=>λk=>if k=d then(g,v) else cond a (my d (s.t k)) (s.t k)
    | none=>s.t
  h:=aK s.h us}
def Ao(v:Value):AV:=
 match v with
 | .agg cs=>match lS cs.toList with
  | some l=> .agg (l.map .t)
  | none=> .top
 | v=>match oR v with
  | some x=> .t x
  | none=> .top
def kV:Option Gs->Option Gs->Bool
 | none,_=>true
 | some a,some b=>a.d==b.d && a.want==b.want
 | some _,none=>false
def St.rZ(s:St)(g:Gs):St:={s with t:=λk=>cond (kV (s.t k).1 (some g)) (none,(s.t k).2) (s.t k)}
def St.get(s:St)(g:Option Gs):Operand->AV
 | .tmp k=>match s.t k with
  | (a,v)=>cond (kV a g) v .top
 | .const v=>Ao v
 | .func f=> .fn f [] []
 | .global _=> .top
def St.mC(s:St)(g:Option Gs)(cs:Operand)(want:Bool)(o:Operand):AV:=
 match cs,o with
 | .tmp d, .tmp k=>match s.t k with
  | (some a,v)=>cond ((a.d==d && a.want==want) || kV (some a) g) v .top
  | (none,v)=>v
 | _,o=>s.get g o
def AV.t?:AV->Option T
 | .t x=>some x
 | _=>none
def eS:List AV->Option (List T)
 | []=>some []
 | .t x::r=>(eS r).bind λl=>some (x::l)
 | _::_=>none
def du(h:Id->Option aa):AV->Option T
 | .t x=>some x
 | .own i=>match h i with
  | some (.sl _ sz b xs)=>some (.ae sz b xs)
  | _=>none
 | .part i sz off len=>match h i with
  | some (.sl _ a b xs)=>if a=sz then some (.ae sz b ((xs.drop off).take len)) else none
  | _=>none
 | .ref i off=>match h i with
  | some (.box cs)=>(eS cs).bind λl=>some (.ptr (l.drop off))
  | some (.iC l)=>some (.ptr (l.drop off))
  | _=>none
 | _=>none
def kY(h:Id->Option aa):List AV->Option (List T)
 | []=>some []
 | v::r=>(du h v).bind λx=>(kY h r).bind λl=>some (x::l)
def CO(h:Id->Option aa):AV->Option T
 | .own i=>match h i with
  | some (.sl _ sz b xs)=>some (.ae sz b xs)
  | some (.rows ..)=>some .any
  | some (.mp ..)=>some .any
  | _=>none
 | v=>du h v
def uR(h:Id->Option aa):List AV->Option (List T)
 | []=>some []
 | v::r=>(CO h v).bind λx=>(uR h r).bind λl=>some (x::l)
def kX(h:Id->Option aa):AV->Option (List T)
 | .agg vs=>kY h vs
 | v=>(du h v).bind λx=>some [x]
def gQ(h:Id->Option aa):AV->aH
 | .own i=>match h i with
  | some (.sl false sz b xs)=> [(i, .sl true sz b xs)]
  | _=> []
 | .part i _ _ _=>match h i with
  | some (.sl false sz b xs)=> [(i, .sl true sz b xs)]
  | _=> []
 | .ref i _=>match h i with
  | some (.box cs)=>match eS cs with
   | some l=> [(i, .iC l)]
   | none=> []
  | _=> []
 | _=> []
def mB(h:Id->Option aa):List AV->aH
 | []=> []
 | v::r=>gQ h v++mB h r
def gG(h:Id->Option aa):AV->aH
 | .agg vs=>mB h vs
 | v=>gQ h v
def qY{R:Type}(op:BinOp)(k:IntKind)(c:Option Bool)(x y:T)(K:T->Option R):Option R:=
 ab c (x.int? k) λa=>ab c (y.int? k) λb=>
  match op with
  | .add=>K (.int k (k.wrap (a+b)))
  | .sub=>K (.int k (k.wrap (a - b)))
  | .mul=>K (.int k (k.wrap (a * b)))
  | .quo=>ab c (if b=0 then none else some ()) λ_=>K (.int k (k.wrap (a.tdiv b)))
  | .rem=>ab c (if b=0 then none else some ()) λ_=>K (.int k (a.tmod b))
  | .and=>K (.int k (k.wrap (BitVec.ofInt k.bits a &&& BitVec.ofInt k.bits b).toNat))
  | .or=>K (.int k (k.wrap (BitVec.ofInt k.bits a ||| BitVec.ofInt k.bits b).toNat))
  | .xor=>K (.int k (k.wrap (BitVec.ofInt k.bits a ^^^ BitVec.ofInt k.bits b).toNat))
  | .andNot=>K (.int k (k.wrap (BitVec.ofInt k.bits a &&& ~~~(BitVec.ofInt k.bits b)).toNat))
  | .lss=>K (.bool (decide (a < b)))
  | .leq=>K (.bool (decide (a<=b)))
  | .gtr=>K (.bool (decide (a > b)))
  | .geq=>K (.bool (decide (a>=b)))
  | _=>none
def so{R:Type}(op:BinOp)(k ky:IntKind)(c:Option Bool)(x y:T)(K:T->Option R):Option R:=
 ab c (x.int? k) λa=>ab c (y.int? ky) λb=>
  ab c (if b < 0 then none else some ()) λ_=>
  match op with
  | .shl=>K (.int k (k.wrap (a * 2 ^ (min b.toNat k.bits))))
  | .shr=>K (.int k (a.fdiv (2 ^ (min b.toNat k.bits))))
  | _=>none
def sA{R:Type}(op:BinOp)(c:Option Bool)(x y:T)(K:T->Option R):Option R:=
 ab c x.bw λa=>ab c y.bw λb=>
  match op with
  | .add=>ab c (if a.size+b.size<=4294967296 then some () else none) λ_=>K (.str (a++b))
  | .lss=>K (.bool (Op.bytesLess a.toList b.toList))
  | .leq=>K (.bool (Op.bytesLess a.toList b.toList || a.toList==b.toList))
  | .gtr=>K (.bool (!(Op.bytesLess a.toList b.toList || a.toList==b.toList)))
  | .geq=>K (.bool (!(Op.bytesLess a.toList b.toList)))
  | _=>none
def rJ(P:Program)(go:TypeId->Option (List TypeId)):List Field->Nat->Option (List TypeId)
 | [],_=>some []
 | f ::r,off=>if f.offset=off/\f.name≠ "_" then
     (go f.type).bind λl=>if P.cellsOf f.type=l.length/\0 < l.length then(rJ P go r (off+l.length)).bind λq=>some (l++q) else none
  else none
def fp(P:Program):Nat->TypeId->Option (List TypeId)
 | 0,_=>none
 | n+1,t=>match P.underlying t with
  | some (.int _) | some .bool | some .string=>some [t]
  | some (.struct a)=>if P.stoodInHeld t then none else rJ P (fp P n) a.toList 0
  | some (.array m e)=>(fp P n e).bind λl=>if P.cellsOf e=l.length then some (List.replicate m l).flatten else none
  | _=>none
def jz(P:Program)(s:St)(t:TypeId)(x:AV):Option Bool:=
 match P.underlying t with
 | some (.slice _)=>match x with
  | .t (.ae _ b _)=>some b
  | .t (.aO b)=>some b
  | .own i=>match s.h i with
   | some (.sl _ _ b _)=>some b
   | _=>none
  | _=>none
 | some (.pointer _)=>match x with
  | .t (.ptr _)=>some false
  | .t .aC=>some true
  | .ref _ _=>some false
  | .el _ _ _ _=>some false
  | _=>none
 | some (.func ..)=>match x with
  | .t .yl=>some true
  | .fn _ _ _=>some false
  | _=>none
 | some (.map ..)=>match x with
  | .t .ym=>some true
  | _=>none
 | _=>none
def oQ(P:Program)(t:TypeId)(o:Operand):Bool:=
 match P.underlying t,o with
 | some (.slice _), .const (.slice none 0 0)=>true
 | some (.pointer _), .const (.pointer none)=>true
 | some (.func ..), .const .nilFunc=>true
 | some (.map ..), .const (.map none)=>true
 | _,_=>false
def lN{R:Type}(P:Program)(c:Option Bool)(t:TypeId)(x y:T)(K:Bool->Option R):Option R:=
 match P.underlying t with
 | some (.int k)=>ab c (x.int? k) λa=>ab c (y.int? k) λb=>K (a==b)
 | some .bool=>ab c x.bool? λa=>ab c y.bool? λb=>K (a==b)
 | some .string=>ab c x.bw λa=>ab c y.bw λb=>K (a==b)
 | _=>none
def eA{R:Type}(P:Program)(c:Option Bool):List TypeId->List T->List T->(Bool->Option R)->Option R
 | [],[],[],K=>K true
 | t::ts,x::xs,y::a,K=>lN P c t x y λb=>eA P c ts xs a λr=>K (b && r)
 | _,_,_,_=>none
def qZ{R:Type}(P:Program)(op:BinOp)(t ty:TypeId)(c:Option Bool)(x y:T)(K:T->Option R):Option R:=
 match op with
 | .shl | .shr=>match rN P t,rN P ty with
  | some k,some ky=>so op k ky c x y K
  | _,_=>none
 | .eql | .neq=>none
 | op=>match P.underlying t with
  | some (.int k)=>qY op k c x y K
  | some .string=>sA op c x y K
  | _=>none
def pM{R:Type}(P:Program)(c:Option Bool)(t:TypeId)(x y:AV)(K:Bool->Option R):Option R:=
 match x,y with
 | .t x, .t y=>cond (Bt P t) (ab c x.bw λa=>ab c y.bw λb=>K (a.toList==b.toList)) (lN P c t x y K)
 | .agg xs, .agg d=>cond (P.eqGuardType P.depth t || !bm P t) none <| (eS xs).bind λxs=>(eS d).bind λd=>(fp P 8 t).bind λts=>eA P c ts xs d K
 | _,_=>none
def sI{R:Type}(P:Program)(op:UnOp)(t:TypeId)(c:Option Bool)(x:T)(K:T->Option R):Option R:=
 match op,P.underlying t with
 | .neg,some (.int k)=>ab c (x.int? k) λa=>K (.int k (k.wrap (0 - a)))
 | .xor,some (.int k)=>ab c (x.int? k) λa=>
   K (.int k (k.wrap (BitVec.ofInt k.bits (if k.signed then -1 else k.max) ^^^ BitVec.ofInt k.bits a).toNat))
 | .not,some .bool=>ab c x.bool? λa=>K (.bool (!a))
 | _,_=>none
open Go
def eZ{R:Type}(k:Ck)(c:Option Bool)(x:T)(K:T->Option R):Option R:=
 match k with
 | .i k=>ab c (x.int? k) λn=>K (.int k n)
 | .b=>ab c x.bool? λb=>K (.bool b)
 | .s=>ab c x.bw λs=>K (.str s)
 | .l sz=>ab c (x.aP sz) λp=>K (.ae sz p.1 p.2)
 | .x=>K x
def eP{R:Type}(c:Option Bool):List Ck->List T->(List T->Option R)->Option R
 | [],xs,K=>K xs
 | _::_,[],K=>K []
 | k::ks,x::xs,K=>eZ k c x λy=>eP c ks xs λa=>K (y::a)
def lI(P:Program)(t:TypeId):Ck:=
 match P.underlying t with
 | some (.int k)=> .i k
 | some .bool=> .b
 | some .string=> .s
 | some (.slice e)=> .l (P.cellsOf e)
 | _=> .x
def wW(P:Program):Nat->TypeId->List Ck
 | 0,_=> []
 | n+1,t=>match P.underlying t with
  | some (.struct a)=>a.toList.flatMap λf=>wW P n f.type
  | some (.array m e)=>(List.replicate m (wW P n e)).flatten
  | _=> [lI P t]
def tn(P:Program)(t:TypeId):List Ck:=
 if(wW P 8 t).length=P.cellsOf t then wW P 8 t else List.replicate (P.cellsOf t) .x
inductive bO where
 | f (k:Ck)
 | t (k:Ck)
 | own (sz:Nat)
 | ref (k off:Nat)
 | same (k:Nat)
 | rows (sz az rsz:Nat)
 | mp (ag:Bool) (ks:List Ck) (vk:Ck)
 | new (l:List bO)
 | no
 | agg (l:List bO)
 deriving Inhabited
inductive jG where
 | box (l:List bO)
 | sl (sz:Nat)
 | mp (ag:Bool) (ks:List Ck) (vk:Ck)
 | dead
 deriving Inhabited
structure Dw where
 res:List bO
 outs:List jG
 deriving Inhabited
structure cE where
 live:FuncId->Nat->Option (List (Nat×Option Nat))
 join:FuncId->Nat->Option (List (Nat×Option Nat))
 sig:FuncId->Option Dw
 iu:FuncId->Option (List Bool):=λ_=>none
 deep:FuncId->Bool:=λ_=>false
 Ac:FuncId->Nat->Dw:=λ_ _=>⟨[],[]⟩
 app:Option Nat->Bool:=λ_=>false
 wr:FuncId->Bool:=λ_=>false
 st:Option Nat->Bool:=λ_=>false
 sx:Option Nat->Bool:=λ_=>false
 ld:Option Nat->Bool:=λ_=>false
 nH:Option Nat->TypeId->Nat:=λ_ _=>0
 ext:FuncId->List AV->List aa->Option (List T):=λ_ _ _=>none
inductive Key where
 | call (f:FuncId)
 | node (f:FuncId) (todo:List Item) (live:List (Nat×Option Nat)) (m:Nat×Nat)
abbrev aA:=Key->List AV->List aa->Option (List T)
def gf:Nat:=4294967296
mutual
def AV.ids:AV->List Id
 | .top=> []
 | .t _=> []
 | .mb vs=>bQ vs
 | .agg vs=>bQ vs
 | .ref i _=> [i]
 | .el i _ _ _=> [i]
 | .own i=> [i]
 | .part i _ _ _=> [i]
 | .row i _=> [i]
 | .rel i _ _ _ _=> [i]
 | .fn _ a b=>bQ a++bQ b
def bQ:List AV->List Id
 | []=> []
 | v::r=>v.ids++bQ r
end
mutual
def AV.rn(m:List Id):AV->AV
 | .top=> .top
 | .t x=> .t x
 | .mb vs=> .mb (kg m vs)
 | .agg vs=> .agg (kg m vs)
 | .ref i o=> .ref (.c (m.idxOf i)) o
 | .el i sz k o=> .el (.c (m.idxOf i)) sz k o
 | .own i=> .own (.c (m.idxOf i))
 | .part i sz o n=> .part (.c (m.idxOf i)) sz o n
 | .row i n=> .row (.c (m.idxOf i)) n
 | .rel i sz n k o=> .rel (.c (m.idxOf i)) sz n k o
 | .fn f a b=> .fn f (kg m a) (kg m b)
def kg(m:List Id):List AV->List AV
 | []=> []
 | v::r=>v.rn m::kg m r
end
def gT(m:List Id):Option aa->aa
 | some (.box cs)=> .box (kg m cs)
 | some (.arr cs)=> .arr (kg m cs)
 | some b=>b
 | none=> .dead
def eY(h:Id->Option aa):Nat->List Id->List Id->Option (List Id)
 | 0,_,_=>none
 | _+1,[],seen=>some seen
 | n+1,i::todo,seen=>
  cond (seen.contains i) (eY h n todo seen)
   (match h i with
    | some (.box cs)=>eY h n (todo++bQ cs) (seen++ [i])
    | some (.arr cs)=>eY h n (todo++bQ cs) (seen++ [i])
    | some _=>eY h n todo (seen++ [i])
    | none=>none)
def nV:Nat->List AV->Option (List AV)
 | 0,_=>some []
 | _+1,[]=>none
 | n+1,c::r=>(nV n r).bind λl=>some (c::l)
def bS{α:Type}(off:Nat)(new a:List α):List α:=a.take off++new++a.drop (off+new.length)
def bt(n:Nat):List Row->Option (Bool×List (List T))
 | []=>none
 | e::r=>if e.n=n then e.own else bt n r
def dt(n:Nat)(p:Option (Bool×List (List T))):List Row->List Row
 | []=> []
 | e::r=>if e.n=n then{e with own:=p}::r else e::dt n p r
def lZ{R:Type}(h:Id->Option aa)(c:Option Bool)(i:Id)(n:Nat)(K:Nat->Bool->List (List T)->Option R):Option R:=
 match h i with
 | some (.rows _ _ _ rsz _ es)=>ab c (bt n es) λp=>K rsz p.1 p.2
 | _=>none
def kP{R:Type}(P:Program)(t:TypeId)(c:Option Bool)(cs:List T)(K:AV->Option R):Option R:=
 cond (bm P t) (pe c (P.cellsOf t) cs λl=>eP c (tn P t) l λl=>K (.agg (l.map .t))) (ab c cs.head? λx=>eZ (lI P t) c x λx=>K (.t x))
def nA{R:Type}(P:Program)(t:TypeId)(cs:List AV)(K:AV->Option R):Option R:=
 cond (bm P t) ((nV (P.cellsOf t) cs).bind λl=>K (.agg l)) (cs.head?.bind K)
def rP{R:Type}(P:Program)(t:TypeId)(c:Option Bool)(i:Id)(sz az off:Nat)(e:Row)(K:AV->Option R):Option R:=
 cond (bm P t)
  (if off=0/\P.cellsOf t=sz then pe c sz e.cs λl=>eP c ((tn P t).set az .x) l λl=>K (.agg ((l.map .t).set az (.row i e.n))) else none)
  (if off=az then K (.row i e.n) else ab c (e.cs.drop off).head? λx=>eZ (lI P t) c x λx=>K (.t x))
def jV{R:Type}(P:Program)(s:St)(c:Option Bool)(t:TypeId)(a:AV)(K:AV->Option R):Option R:=
 cond (bL P t) (match a with
 | .ref i off=>match s.h i with
  | some (.box cs)=>nA P t (cs.drop off) K
  | some (.iC l)=>kP P t c (l.drop off) K
  | _=>none
 | .el i sz k off=>match s.h i with
  | some (.sl _ b _ xs)=>if b=sz then ab c xs[k]? λcs=>kP P t c (cs.drop off) K else none
  | some (.rows _ b az _ _ es)=>if b=sz then ab c es[k]? λe=>rP P t c i sz az off e K else none
  | _=>none
 | .rel i sz n k off=>lZ s.h c i n λrsz _ xs=>if rsz=sz then ab c xs[k]? λcs=>kP P t c (cs.drop off) K else none
 | .t x=>ab c x.p7 λcs=>kP P t c cs K
 | _=>none) none
def gO(v:AV):List AV:=
 match v with
 | .agg vs=>vs
 | v=> [v]
def pF:AV->Bool
 | .agg _ | .mb _ | .top=>false
 | _=>true
def bT(k off:Nat)(l:List T)(xs:List (List T)):Option (List (List T)):=
 match xs[k]? with
 | some cs=>if off+l.length<=cs.length then some (xs.set k (bS off l cs)) else none
 | none=>none
def jh{R:Type}(P:Program)(s:St)(t:TypeId)(a v:AV)(K:aH->Option R):Option R:=
 cond (bL P t) (match a with
 | .ref i off=>match s.h i with
  | some (.box cs)=>
   if(gO v).length=P.cellsOf t/\(gO v).all pF/\off+ (gO v).length<=cs.length then K [(i, .box (bS off (gO v) cs))] else none
  | _=>none
 | .el i sz k off=>match s.h i with
  | some (.sl false d b xs)=>(kX s.h v).bind λl=>
    if d=sz/\l.length=P.cellsOf t/\v.ids.contains i=false then
     ab none (bT k off l xs) λg=>K ((i, .sl false sz b g)::gG s.h v) else none
  | some (.rows b d az rsz nx es)=>match v with
   | .own j=>match s.h j with
    | some (.sl false f m xs)=>
     if d=sz/\off=az/\f=rsz/\P.cellsOf t=1/\bm P t=false then
      ab none es[k]? λe=>K [(j, .dead),(i, .rows b sz az rsz (nx+1) (es.set k ⟨nx,e.cs,some (m,xs)⟩))] else none
    | _=>none
   | _=>none
  | _=>none
 | .rel i sz n k off=>match s.h i with
  | some (.rows b d az rsz nx es)=>ab none (bt n es) λp=>(kX s.h v).bind λl=>
    if rsz=sz/\l.length=P.cellsOf t/\v.ids.contains i=false then
     ab none (bT k off l p.2) λg=>K ((i, .rows b d az rsz nx (dt n (some (p.1,g)) es))::gG s.h v) else none
  | _=>none
 | _=>none) none
def tY:List (Nat×List AV)->List AV->Option (List AV)
 | [],z=>some z
 | (off,l)::r,z=>if off+l.length<=z.length then tY r (bS off l z) else none
def uA(P:Program)(t:TypeId)(f:Nat):Option (Nat×TypeId):=
 match tO P t f with
 | some p=>some p
 | none=>match wQ P t with
  | some (_,u)=>some (f * P.cellsOf u,u)
  | none=>none
def oY(P:Program)(t:TypeId)(ev:Operand->AV):List (Nat×Operand)->Option (List (Nat×List AV))
 | []=>some []
 | (f,o)::r=>(uA P t f).bind λp=>
   if(gO (ev o)).length=P.cellsOf p.2/\(gO (ev o)).all pF then(oY P t ev r).bind λq=>some ((p.1,gO (ev o))::q) else none
def wT(P:Program)(t:TypeId)(ev:Operand->AV)(a:List (Nat×Operand)):Option AV:=
 if p6 P t then
 (jF P t).bind λz=>(oY P t ev a).bind λl=>(tY l (z.map .t)).bind λcs=>some (.agg cs)
 else none
def iA(P:Program)(h:Id->Option aa)(e:TypeId)(ev:Operand->AV):Nat->List (Nat×Operand)->Option (List (List T)×aH)
 | _,[]=>some ([],[])
 | n,(k,o)::r=>(kX h (ev o)).bind λl=>if k=n/\l.length=P.cellsOf e then
    (iA P h e ev (n+1) r).bind λq=>some (l::q.1,gG h (ev o)++q.2)
  else none
def jT{R:Type}(c:Option Bool)(i:Int)(n:Nat)(K:Option R):Option R:=ab c (if 0<=i/\i < n then some () else none) λ_=>K
def jy{R:Type}(P:Program)(s:St)(c:Option Bool)(t:TypeId)(x:AV)(i:Int)(K:AV->Option R):Option R:=
 match m9 P t with
 | some e=>match x with
  | .own j=>match s.h j with
   | some (.sl _ sz _ xs)=>if sz=P.cellsOf e then jT c i xs.length (K (.el j sz i.toNat 0)) else none
   | some (.rows _ sz _ _ _ es)=>if sz=P.cellsOf e then jT c i es.length (K (.el j sz i.toNat 0)) else none
   | _=>none
  | .row j n=>lZ s.h c j n λrsz _ xs=>if rsz=P.cellsOf e then jT c i xs.length (K (.rel j rsz n i.toNat 0)) else none
  | .part j sz off n=>match s.h j with
   | some (.sl _ a _ _)=>if sz=P.cellsOf e/\a=sz then jT c i n (K (.el j sz (off+i.toNat) 0)) else none
   | _=>none
  | .t y=>ab c (y.aP (P.cellsOf e)) λp=>jT c i p.2.length (ab c p.2[i.toNat]? λcs=>K (.t (.ptr cs)))
  | _=>none
 | none=>match wQ P t with
  | some (n,e)=>jT c i n (match x with
   | .ref j off=>K (.ref j (off+i.toNat * P.cellsOf e))
   | .el j sz k off=>K (.el j sz k (off+i.toNat * P.cellsOf e))
   | .t y=>ab c y.p7 λcs=>K (.t (.ptr (cs.drop (i.toNat * P.cellsOf e))))
   | _=>none)
  | none=>none
def rF{R:Type}(P:Program)(c:Option Bool)(t:TypeId)(x:AV)(f:Nat)(K:AV->Option R):Option R:=
 match tO P t f with
 | some (off,u)=>if P.cellsOf u=0 then none else
  match x with
  | .ref j o=>K (.ref j (o+off))
  | .el j sz k o=>K (.el j sz k (o+off))
  | .rel j sz n k o=>K (.rel j sz n k (o+off))
  | .t y=>ab c y.p7 λcs=>K (.t (.ptr (cs.drop off)))
  | _=>none
 | none=>none
def rE{R:Type}(P:Program)(t:TypeId)(x:AV)(f:Nat)(K:AV->Option R):Option R:=
 match tO P t f with
 | some (off,u)=>match x with
  | .agg vs=>nA P u (vs.drop off) K
  | _=>none
 | none=>none
def ny{R:Type}(P:Program)(s:St)(c:Option Bool)(t:TypeId)(x:AV)(K:AV->Option R):Option R:=
 match P.underlying t with
 | some .string=>match x with
  | .t y=>ab c y.bw λb=>K (.t (.int .i64 b.size))
  | _=>none
 | some (.array n _)=>K (.t (.int .i64 n))
 | some (.slice e)=>match x with
  | .own j=>match s.h j with
   | some (.sl _ _ _ xs)=>K (.t (.int .i64 xs.length))
   | some (.rows _ _ _ _ _ es)=>K (.t (.int .i64 es.length))
   | _=>none
  | .row j n=>lZ s.h c j n λ_ _ xs=>K (.t (.int .i64 xs.length))
  | .part _ _ _ n=>K (.t (.int .i64 n))
  | .t y=>ab c (y.aP (P.cellsOf e)) λp=>K (.t (.int .i64 p.2.length))
  | _=>none
 | _=>none
def iP{R:Type}(s:St)(c:Option Bool)(g:Option Gs)(o:Option Operand)(K:Option Int->Option R):Option R:=
 match o with
 | none=>K none
 | some o=>(s.get g o).t?.bind λx=>ab c (anyInt x) λn=>K (some n)
where
 anyInt:T->Option Int
  | .int _ n=>some n
  | _=>none
def cT(a hi n:Int):Option Unit:=if 0<=a/\a<=hi/\hi<=n then some () else none
def sub(a hi:Int)(xs:List (List T)):List (List T):=(xs.drop a.toNat).take (hi.toNat - a.toNat)
def zf(a hi m:Int):Option Unit:=if a=0/\hi=0/\m=0 then some () else none
def xZ:T->Bool
 | .aO true=>true
 | .ae _ true []=>true
 | _=>false
def nR{R:Type}(P:Program)(s:St)(c:Option Bool)(t:TypeId)(x:AV)(a hi d:Option Int)(K:AV->Option R):Option R:=
 match P.underlying t with
 | some .string=>match x,d with
  | .t y,none=>ab c y.bw λb=>
    ab c (cT (a.getD 0) (hi.getD b.size) b.size) λ_=>K (.t (.str (b.extract (a.getD 0).toNat (hi.getD b.size).toNat)))
  | _,_=>none
 | some (.slice e)=>match d with
  | none=>match x with
   | .own j=>match s.h j with
    | some (.sl _ sz _ xs)=>if sz=P.cellsOf e/\bL P e=true then
      ab c (cT (a.getD 0) (hi.getD xs.length) xs.length) λ_=>
      K (.part j sz (a.getD 0).toNat ((hi.getD xs.length).toNat - (a.getD 0).toNat)) else none
    | _=>none
   | .part j sz off n=>match s.h j with
    | some (.sl _ f _ _)=>if sz=P.cellsOf e/\f=sz/\bL P e=true then
      ab c (cT (a.getD 0) (hi.getD n) n) λ_=>
      K (.part j sz (off+ (a.getD 0).toNat) ((hi.getD n).toNat - (a.getD 0).toNat)) else none
    | _=>none
   | .t y=>if bL P e=true then ab c (y.aP (P.cellsOf e)) λp=>
     ab c (cT (a.getD 0) (hi.getD p.2.length) p.2.length) λ_=>
     K (.t (.ae (P.cellsOf e) p.1 (sub (a.getD 0) (hi.getD p.2.length) p.2))) else none
   | _=>none
  | some m=>match x with
   | .t y=>if bL P e=true then ab c (y.aP (P.cellsOf e)) λp=>ab c (zf (a.getD 0) (hi.getD 1) m) λ_=>K (.t (.aO p.1)) else none
   | .own j=>match s.h j with
    | some (.sl _ _ b _)=>if bL P e=false then none else ab c (zf (a.getD 0) (hi.getD 1) m) λ_=>K (.t (.aO b))
    | _=>none
   | _=>none
 | _=>none
def cr(n m:Int):Option Unit:=if 0<=n/\n<=m/\m<=gf then some () else none
def mn{R:Type}(P:Program)(s:St)(t:TypeId)(sz:Nat)(a:List T)(y:AV)(K:List (List T)->Option R):Option R:=
 match P.underlying t with
 | some (.slice _)=>(du s.h y).bind λx=>ab none (x.aP sz) λp=>K p.2
 | some .string=>if sz=1 then y.t?.bind λx=>ab none x.bw λb=>K (b.data.toList.map λu=> [.int .u8 u.toNat]) else none
 | some (.int _)=>y.t?.bind λx=>ab none (x.int? .i64) λn=>ab none (cr n n) λ_=>K (List.replicate n.toNat a)
 | _=>none
def oD(bs n:Nat):Prop:=n<=gf\/(0 < bs/\n * bs<=140737488355328)
instance (bs n:Nat):Decidable (oD bs n):=inferInstanceAs (Decidable (_\/_))
def small(bs n:Nat):Option Unit:=if oD bs n then some () else none
def HM:T->Option Bool
 | .aO b=>some b
 | .ae _ b xs=>cond (b && xs.isEmpty) (some true) none
 | _=>none
def CA(h:Id->Option aa):AV->Option (Id×Nat×Nat×Nat×Nat×List Row)
 | .own i=>match h i with
  | some (.rows _ sz az rsz nx es)=>some (i,sz,az,rsz,nx,es)
  | _=>none
 | _=>none
def B4(h:Id->Option aa):AV->Option (Id×List AV)
 | .own j=>match h j with
  | some (.arr cs)=>some (j,cs)
  | _=>none
 | _=>none
def pD{R:Type}(P:Program)(s:St)(d:Nat)(e:TypeId)(i:Id)(sz az rsz nx:Nat)(es:List Row)(j:Id)(cs:List AV)(K:AV->aH->Option R):Option R:=
 if sz=P.cellsOf e/\cs.length=sz/\az < sz/\i≠j then
  (eS (cs.set az (.t .aC))).bind λl=>match cs[az]? with
   | some (.own m)=>match s.h m with
    | some (.sl false k r xs)=>if k=rsz then
      ab none (small (P.bytesOf e) (es.length+1)) λ_=>
      K (.own (.s d 0)) [(i, .dead),(j, .dead),(m, .dead),(.s d 0, .rows false sz az rsz (nx+1) (es++ [⟨nx,l,some (r,xs)⟩]))] else none
    | _=>none
   | some (.row a n)=>match s.h a with
    | some (.rows u q g b o f)=>if b=rsz/\a≠i then
      ab none (bt n f) λp=>ab none (small (P.bytesOf e) (es.length+1)) λ_=>
      K (.own (.s d 0)) [(i, .dead),(j, .dead),(a, .rows u q g b o (dt n none f)),(.s d 0, .rows false sz az rsz (nx+1) (es++ [⟨nx,l,some p⟩]))] else none
    | _=>none
   | _=>none
 else none
def kF{R:Type}(P:Program)(s:St)(d:Nat)(rw:Bool)(t ty:TypeId)(x y:AV)(K:AV->aH->Option R):Option R:=
 (m9 P t).bind λe=>(jF P e).bind λk=>
 if P.bytesOf e<=8192/\k.length=P.cellsOf e then
 match cond rw (CA s.h x) none,cond rw (B4 s.h y) none with
 | some (i,sz,az,rsz,nx,es),some (j,cs)=>match P.underlying ty with
  | some (.slice _)=>pD P s d e i sz az rsz nx es j cs K
  | _=>none
 | _,_=>
 mn P s ty (P.cellsOf e) k y λa=>
 match x with
 | .own i=>match s.h i with
  | some (.sl false f b xs)=>if f=P.cellsOf e then
    ab none (small (P.bytesOf e) (xs.length+a.length)) λ_=>
    K (.own (.s d 0)) [(.s d 0, .sl false (P.cellsOf e) (b && a.isEmpty) (xs++a)),(i, .dead)] else none
  | _=>none
 | .part i g off n=>match s.h i with
  | some (.sl false f b xs)=>if f=P.cellsOf e/\g=P.cellsOf e then
    ab none (small (P.bytesOf e) (n+a.length)) λ_=>
    K (.own (.s d 0)) [(.s d 0, .sl false (P.cellsOf e) (b && a.isEmpty) ((xs.drop off).take n++a)),(i, .dead)] else none
  | _=>none
 | .t z=>(HM z).bind λb=>ab none (small (P.bytesOf e) a.length) λ_=>
    K (.own (.s d 0)) [(.s d 0, .sl false (P.cellsOf e) (b && a.isEmpty) a)]
 | _=>none
 else none
def pY(n:Nat):List Row:=(List.range n).map λk=>⟨k,[.aC],some (true,[])⟩
def rR{R:Type}(P:Program)(d:Nat)(t:TypeId)(nH:Nat)(n m:T)(K:AV->aH->Option R):Option R:=
 (m9 P t).bind λe=>(jF P e).bind λa=>
 ab none (n.int? .i64) λn=>ab none (m.int? .i64) λm=>
 if P.bytesOf e<=8192/\a.length=P.cellsOf e then
 ab none (cr n m) λ_=>
  cond (nH==2) (match P.underlying e,a with
   | some (.slice u),[.aO true]=>if P.cellsOf e=1 then K (.own (.s d 0)) [(.s d 0, .rows false 1 0 (P.cellsOf u) n.toNat (pY n.toNat))] else none
   | _,_=>none)
   (K (.own (.s d 0)) [(.s d 0, .sl false (P.cellsOf e) false (List.replicate n.toNat a))])
 else none
def mm(d:Bool)(a b:Int):Int:=cond d (if b > a then b else a) (if b < a then b else a)
def oM{R:Type}(k:IntKind)(c:Option Bool)(d:Bool):Int->List T->(T->Option R)->Option R
 | a,[],K=>K (.int k a)
 | a,y::r,K=>ab c (y.int? k) λb=>oM k c d (mm d a b) r K
def rm{R:Type}(P:Program)(c:Option Bool)(src a:TypeId)(x:T)(K:T->Option R):Option R:=
 match P.underlying src,P.underlying a with
 | some (.int k),some (.int d)=>ab c (x.int? k) λn=>K (.int d (d.wrap n))
 | some .string,some .string=>ab c x.bw λb=>K (.str b)
 | _,_=>none
def bytesOf:List (List T)->Option (List UInt8)
 | []=>some []
 | cs::r=>cs.head?.bind λx=>(x.int? .u8).bind λn=>(bytesOf r).bind λl=>some (UInt8.ofNat n.toNat::l)
def mK:Ck->Bool
 | .i _ | .b | .s=>true
 | _=>false
def rT(P:Program)(t:TypeId):Option (TypeId×TypeId):=
 match P.underlying t with
 | some (.map k e)=>cond (bL P k && bL P e) (some (k,e)) none
 | _=>none
def Da(P:Program)(t:TypeId):Option T:=
 match P.info? t with
 | some i=>match i.zero with
  | some v=>oR v
  | none=>none
 | none=>none
def kO(P:Program)(k:TypeId):Option (Bool×List Ck):=
 match P.underlying k with
 | some (.int i)=>some (false,[.i i])
 | some .string=>some (false,[.s])
 | some (.array n e)=>match P.underlying e with
  | some (.int i)=>if P.cellsOf e=1/\n<=8 then some (true,List.replicate n (.i i)) else none
  | _=>none
 | _=>none
def oJ{R:Type}(P:Program)(k:TypeId)(c:Option Bool)(v:AV)(K:Bool->List Ck->List T->Option R):Option R:=
 (kO P k).bind λq=>match q.1,v with
  | false, .t x=>eP c q.2 [x] λcs=>K false q.2 cs
  | true, .agg vs=>(eS vs).bind λl=>if l.length=q.2.length then eP c q.2 l λcs=>K true q.2 cs else none
  | _,_=>none
def nB{R:Type}(P:Program)(s:St)(c:Option Bool)(t:TypeId)(x key:AV)(ok:Bool)(K:AV->Option R):Option R:=
 (rT P t).bind λq=>(Da P q.2).bind λz=>oJ P q.1 c key λag ks cs=>match x with
  | .own i=>match s.h i with
   | some (.mp a b vk es)=>if a=ag/\b=ks/\lI P q.2=vk/\mK vk=true/\bm P q.2=false then
     eZ vk c ((fc cs es).getD z) λv=>K (cond ok (.mb [.t v, .t (.bool (fc cs es).isSome)]) (.t v)) else none
   | _=>none
  | _=>none
def rS{R:Type}(P:Program)(d:Nat)(t:TypeId)(K:AV->aH->Option R):Option R:=
 (rT P t).bind λq=>(kO P q.1).bind λp=>if mK (lI P q.2)=true then K (.own (.s d 0)) [(.s d 0, .mp p.1 p.2 (lI P q.2) [])] else none
def nJ{R:Type}(P:Program)(s:St)(t:TypeId)(x key v:AV)(K:aH->Option R):Option R:=
 (rT P t).bind λq=>oJ P q.1 none key λag ks cs=>match x with
  | .own i=>match s.h i with
   | some (.mp a b vk es)=>if a=ag/\b=ks/\lI P q.2=vk/\mK vk=true then
     v.t?.bind λv=>eZ vk none v λv=>K [(i, .mp ag ks vk (gJ cs v es))] else none
   | _=>none
  | _=>none
def iT(key:List T):List (List T×T)->List (List T×T)
 | []=> []
 | p::r=>cond (dQ key p.1) r (p::iT key r)
def m6{R:Type}(P:Program)(s:St)(t:TypeId)(x key:AV)(K:aH->Option R):Option R:=
 (rT P t).bind λq=>oJ P q.1 none key λag ks cs=>match x with
  | .own i=>match s.h i with
   | some (.mp a b vk es)=>if a=ag/\b=ks then K [(i, .mp ag ks vk (iT cs es))] else none
   | _=>none
  | _=>none
def jJ(fl a:Bool)(h:Id->Option aa):AV->Option (T×aH)
 | .ref i off=>cond fl (match h i with
  | some (.box cs)=>(cond a (uR h (cs.drop off)) (eS (cs.drop off))).bind λl=>some (.ptr l,[])
  | some (.iC l)=>some (.ptr (l.drop off),[])
  | _=>none) ((du h (.ref i off)).bind λx=>some (x,gQ h (.ref i off)))
 | v=>(du h v).bind λx=>some (x,cond fl [] (gQ h v))
def mo(fl a:Bool)(h:Id->Option aa):List AV->Option (List T×aH)
 | []=>some ([],[])
 | v::r=>(jJ fl a h v).bind λp=>(mo fl a h r).bind λq=>some (p.1::q.1,p.2++q.2)
def lC(fl d:Bool)(h:Id->Option aa):AV->Option (AV×aH)
 | .fn f a b=>(mo fl d h a).bind λx=>(mo fl d h b).bind λy=>some (.fn f (x.1.map .t) (y.1.map .t),x.2++y.2)
 | .agg vs=>(mo fl d h vs).bind λx=>some (.agg (x.1.map .t),x.2)
 | v=>(jJ fl d h v).bind λp=>some (.t p.1,p.2)
def lD(fl a:Bool)(h:Id->Option aa):List AV->Option (List AV×aH)
 | []=>some ([],[])
 | v::r=>(lC fl a h v).bind λp=>(lD fl a h r).bind λq=>some (p.1::q.1,p.2++q.2)
def xL(P:Program):Nat->TypeId->Bool
 | 0,_=>false
 | n+1,t=>match P.underlying t with
  | some (.int _) | some .bool | some .string=>true
  | some (.struct a)=>a.toList.all λf=>xL P n f.type
  | some (.array _ e)=>xL P n e
  | _=>false
def o8(e:Row):T:=match e.own with
 | some p=> .ae 0 p.1 p.2
 | none=> .aC
def bI(b:Bool)(es:List Row):T:= .ae 2 b (es.map λe=> [.ptr e.cs,o8 e])
def rp:Nat->List (List T)->Option (List Row)
 | _,[]=>some []
 | n,[.ptr cs, .ae _ b xs]::r=>(rp (n+1) r).bind λl=>some (⟨n,cs,some (b,xs)⟩::l)
 | _,_=>none
def kI:T->Option (Bool×List Row)
 | .ae _ b xs=>(rp 0 xs).bind λl=>some (b,l)
 | _=>none
def bJ(es:List Row):Bool:=es.all λe=>e.own.isSome
def GR:bO->Bool
 | .rows _ _ _=>true
 | _=>false
def bK(es:List (List T×T)):T:= .ae 2 false (es.map λp=> [.ptr p.1,p.2])
def At:List (List T)->Option (List (List T×T))
 | []=>some []
 | [.ptr k,v]::r=>(At r).bind λl=>some ((k,v)::l)
 | _=>none
def iy:T->Option (List (List T×T))
 | .ae _ _ xs=>At xs
 | _=>none
def mw{R:Type}(ids:List Id)(d:Nat)(c:Option Bool)(j:Nat)(r:bO)(x:T)(K:AV->aH->Nat->Option R):Option R:=
 match r with
 | .f k=>eZ k c x λx=>K (.t x) [] j
 | .t k=>eZ k c x λx=>K (.t x) [] j
 | .own sz=>match c with
  | none=>ab none (x.aP sz) λp=>K (.own (.s d j)) [(.s d j, .sl false sz p.1 p.2)] (j+1)
  | some _=>none
 | .ref k off=>match ids[k]? with
  | some i=>K (.ref i off) [] j
  | none=>none
 | .same k=>match ids[k]? with
  | some i=>K (.own i) [] j
  | none=>none
 | .rows sz az rsz=>match c with
  | none=>ab none (kI x) λp=>K (.own (.s d j)) [(.s d j, .rows p.1 sz az rsz p.2.length p.2)] (j+1)
  | some _=>none
 | .mp ag ks vk=>match c with
  | none=>ab none (iy x) λes=>K (.own (.s d j)) [(.s d j, .mp ag ks vk es)] (j+1)
  | some _=>none
 | .no=>K .top [] j
 | .agg _=>none
 | .new _=>none
def jO{R:Type}(ids:List Id)(d:Nat)(c:Option Bool):Nat->List bO->List T->(List AV->aH->Nat->Option R)->Option R
 | j,[],_,K=>K [] [] j
 | j,r::a,xs,K=>ab c xs.head? λx=>mw ids d c j r x λv u j=>jO ids d c j a xs.tail λvs us j=>K (v::vs) (u++us) j
def bO.size:bO->Nat
 | .agg l=>l.length
 | .new l=>l.length
 | _=>1
def dO{R:Type}(ids:List Id)(d:Nat)(c:Option Bool):Nat->List bO->List T->(List AV->aH->Nat->Option R)->Option R
 | j,[],_,K=>K [] [] j
 | j,r::a,xs,K=>match r with
  | .agg l=>jO ids d c j l xs λv u j=>dO ids d c j a (xs.drop l.length) λvs us j=>K (AV.agg v::vs) (u++us) j
  | .new l=>match c with
   | none=>jO ids d c j l xs λv u j=>dO ids d c (j+1) a (xs.drop l.length) λvs us b=>K (AV.ref (.s d j) 0::vs) (u++ [(.s d j, .box v)] ++us) b
   | some _=>none
  | r=>ab c xs.head? λx=>mw ids d c j r x λv u j=>dO ids d c j a xs.tail λvs us j=>K (v::vs) (u++us) j
def mM:List bO->Nat
 | []=>0
 | r::a=>r.size+mM a
def fV{R:Type}(all:List Id)(d:Nat):Nat->List Id->List jG->List T->(aH->Option R)->Option R
 | j,i::a, .box l::r,xs,K=>jO all d none j l xs λv u j=>fV all d j a r (xs.drop l.length) λq=>K (u++ (i, .box v)::q)
 | j,i::a, .sl sz::r,xs,K=>ab none (xs.head?.bind (T.aP sz)) λp=>fV all d j a r xs.tail λq=>K ((i, .sl false sz p.1 p.2)::q)
 | j,i::a, .mp ag ks vk::r,xs,K=>ab none (xs.head?.bind iy) λes=>fV all d j a r xs.tail λq=>K ((i, .mp ag ks vk es)::q)
 | j,_::a, .dead::r,xs,K=>fV all d j a r xs K
 | _,[],[],_,K=>K []
 | _,_,_,_,_=>none
def lY:List AV->AV
 | [v]=>v
 | vs=> .mb vs
def Lk(P:Program)(t:TypeId):bO:=cond (bm P t) (.agg ((tn P t).map λk=>cond (xL P 8 t) (.f k) (.t k))) (cond (xL P 8 t) (.f (lI P t)) (.t (lI P t)))
def rH:bO->Bool
 | .f _=>true
 | .agg l=>l.all λr=>match r with
  | .f _=>true
  | _=>false
 | _=>false
def de(P:Program)(A:cE)(f:FuncId)(n:Nat)(fn:Func):List bO:=
 match A.iu f with
 | some _=>(A.Ac f n).res
 | none=>match A.sig f with
  | some sg=>sg.res
  | none=>fn.resultTypes.toList.map (Lk P)
def gS(A:cE)(f:FuncId)(n:Nat):List jG:=
 match A.iu f with
 | some _=>(A.Ac f n).outs
 | none=> []
def PA:AV->Bool
 | .own _=>true
 | .part _ _ _ _=>true
 | _=>false
def gY:Option aa->Nat
 | some (.box cs)=>cs.length+1000 * (cs.filter PA).length
 | _=>0
def cv(c:Option Bool)(m:Option (List T)):Option (List T):=
 match c with
 | none=>m
 | some b=>cond b m (some [])
def mQ{R:Type}(P:Program)(c:Option Bool)(t:TypeId)(v:AV)(K:AV->Option R):Option R:=
 match v with
 | .t x=>eZ (lI P t) c x λy=>K (.t y)
 | .agg vs=>match eS vs with
  | some l=>eP c (tn P t) l λl=>K (.agg (l.map .t))
  | none=>K (.agg vs)
 | v=>K v
def jk{R:Type}(P:Program)(c:Option Bool):List TypeId->List AV->(List AV->Option R)->Option R
 | [],vs,K=>K vs
 | _::_,[],K=>K []
 | t::ts,v::vs,K=>mQ P c t v λu=>jk P c ts vs λus=>K (u::us)
def Af:List Bool->List AV->List Id
 | b::fl,v::vs=>cond b v.ids [] ++Af fl vs
 | _,_=> []
def tu(h:Id->Option aa)(ft:List Id)(b:Bool)(v:AV):Option (AV×aH):=
 cond (b || (!v.ids.isEmpty && v.ids.all ft.contains)) (some (v,[])) (lC false false h v)
def mq(h:Id->Option aa)(ft:List Id):List Bool->List AV->Option (List AV×aH)
 | _,[]=>some ([],[])
 | fl,v::r=>(tu h ft (fl.headD false) v).bind λp=>(mq h ft fl.tail r).bind λq=>some (p.1::q.1,p.2++q.2)
def P1(sz az rsz:Nat):Nat:=100000+1000 * sz+100 * az+rsz
def sc(h:Id->Option aa)(new i:Id)(k sz az rsz:Nat):Option aH:=
 match h i with
 | some (.box cs)=>match cs[k]? with
  | some (.own _)=>some []
  | some (.t (.aO b))=>cond (h new).isNone (some [(new, .rows b sz az rsz 0 []),(i, .box (cs.set k (.own new)))]) none
  | some (.t (.ae _ true []))=>cond (h new).isNone (some [(new, .rows true sz az rsz 0 []),(i, .box (cs.set k (.own new)))]) none
  | _=>none
 | _=>none
def oX(h:Id->Option aa)(new i:Id)(k sz:Nat):Option aH:=
 cond (Nat.ble 100000 sz) (sc h new i k (sz % 100000 / 1000) (sz % 1000 / 100) (sz % 100)) <|
 match h i with
 | some (.box cs)=>match cs[k]? with
  | some (.own _)=>some []
  | some (.t (.aO b))=>cond (h new).isNone (some [(new, .sl false sz b []),(i, .box (cs.set k (.own new)))]) none
  | some (.t (.ae _ true []))=>cond (h new).isNone (some [(new, .sl false sz true []),(i, .box (cs.set k (.own new)))]) none
  | some (.part j d 0 n)=>match h j with
   | some (.sl false a b xs)=>if a=sz/\d=sz/\j≠i then cond (h new).isNone (some [(j, .dead),(new, .sl false sz b (xs.take n)),(i, .box (cs.set k (.own new)))]) none else none
   | _=>none
  | _=>none
 | _=>none
def jZ(a:Nat):Nat->(Id->Option aa)->List (Id×Nat×Nat)->Option aH
 | _,_,[]=>some []
 | j,h,(i,k,sz)::r=>(oX h (.s a j) i k sz).bind λus=>(jZ a (j+1) (aK h us) r).bind λvs=>some (us++vs)
def pH:List Id->List Id->List Id
 | [],_=> []
 | i::r,seen=>cond (seen.contains i) (pH r seen) (i::pH r (i::seen))
def nL(i:Id):Nat->List bO->List (Id×Nat×Nat)
 | _,[]=> []
 | k, .own sz::r=>(i,k,sz)::nL i (k+1) r
 | k, .rows sz az rsz::r=>(i,k,P1 sz az rsz)::nL i (k+1) r
 | k,_::r=>nL i (k+1) r
def nM:List Id->List jG->List (Id×Nat×Nat)
 | i::a, .box l::r=>nL i 0 l++nM a r
 | _::a,_::r=>nM a r
 | _,_=> []
def jN(l:List Id):aH:=l.map λi=>(i, .dead)
def yo(d:Nat)(l:List Id):Bool:=l.all λi=>match i with
 | .s a _=> !(a==d)
 | .c _=>true
 | .g _ _=>false
def gD{R:Type}(P:Program)(A:cE)(O:aA)(s:St)(d:Nat)(c:Option Bool)(f:FuncId)(args:List AV)(K:AV->aH->Option R):Option R:=
 match P.funcs[f]? with
 | none=>none
 | some fn=>
  match A.iu f with
  | none=>(lD ((de P A f 0 fn).all rH) (A.deep f) s.h args).bind λp=>
   jk P c fn.params.toList p.1 λq=>ab none (cv c (O (.call f) q [])) λxs=>dO [] d c 0 (de P A f 0 fn) xs λvs u _=>K (lY vs) (p.2++u)
  | some fl=>match c with
   | some _=>none
   | none=>(mq s.h (Af fl args) fl args).bind λp=>
    (jZ (2000000+d) 0 (aK s.h p.2) (nM (pH (bQ p.1) []) (gS A f (gY ((bQ p.1).head?.bind (aK s.h p.2)))))).bind λus=>
    (eY (aK (aK s.h p.2) us) 1000 (bQ p.1) []).bind λseen=>
    cond (yo d seen && Nat.beq (gY (seen.map λi=>gT seen (aK (aK s.h p.2) us i)).head?) (gY ((bQ p.1).head?.bind (aK s.h p.2)))) (jk P none fn.params.toList (kg seen p.1) λq=>
     ab none (O (.call f) q (seen.map λi=>gT seen (aK (aK s.h p.2) us i))) λxs=>
     dO seen d none 0 (de P A f (gY ((bQ p.1).head?.bind (aK s.h p.2))) fn) xs λvs u j=>
     fV seen d j seen (gS A f (gY ((bQ p.1).head?.bind (aK s.h p.2)))) (xs.drop (mM (de P A f (gY ((bQ p.1).head?.bind (aK s.h p.2))) fn))) λq=>
     K (lY vs) (p.2++us++jN seen++u++q)) none
def nN:List AV->Option (List AV×Id×Nat×List AV)
 | []=>none
 | .row i n::r=>some ([],i,n,r)
 | v::r=>(nN r).bind λq=>some (v::q.1,q.2.1,q.2.2.1,q.2.2.2)
def lR(n:Nat):List Row->Option Unit
 | []=>none
 | e::r=>if e.n=n then(match e.own with | none=>some () | some _=>none) else lR n r
def tw{R:Type}(h:Id->Option aa)(i new:Id)(n rsz:Nat)(K:aH->Option R):Option R:=
 match h i,h new with
 | some (.rows b sz az d nx es),some (.sl false a e xs)=>if d=rsz/\a=rsz then
   ab none (lR n es) λ_=>K [(i, .rows b sz az rsz nx (dt n (some (e,xs)) es)),(new, .dead)] else none
 | _,_=>none
def Ha:Operand->Bool
 | .func _=>false
 | _=>true
def jr{R:Type}(hI:Bool)(P:Program)(A:cE)(O:aA)(s:St)(d:Nat)(c:Option Bool)(f:FuncId)(args:List AV)(K:AV->aH->Option R):Option R:=
 match cond hI (nN args) none with
 | none=>gD P A O s d c f args K
 | some (e,i,n,g)=>match c,s.h i with
  | none,some (.rows b sz az rsz nx es)=>ab none (bt n es) λp=>
    cond (s.h (.s (2500000+d) 0)).isNone
     (gD P A O {t:=s.t,h:=aK s.h [(i, .rows b sz az rsz nx (dt n none es)),(.s (2500000+d) 0, .sl false rsz p.1 p.2)]} d none f (e++ .own (.s (2500000+d) 0)::g) λv us=>
      tw (aK s.h ([(i, .rows b sz az rsz nx (dt n none es)),(.s (2500000+d) 0, .sl false rsz p.1 p.2)] ++us)) i (.s (2500000+d) 0) n rsz λa=>
       K v ([(i, .rows b sz az rsz nx (dt n none es)),(.s (2500000+d) 0, .sl false rsz p.1 p.2)] ++us++a)) none
  | _,_=>none
theorem KV{R:Type}(P:Program)(A:cE)(O:aA)(s:St)(d:Nat)(c:Option Bool)(f:FuncId)(args:List AV)(K:AV->aH->Option R):jr false P A O s d c f args K=gD P A O s d c f args K:=rfl
def xR(c:Option Bool)(b:Bool):Option Bool:=some (match c with
 | none=>b
 | some a=>a && b)
def oI{R:Type}(c:Option Bool)(v:AV)(K:Int->Option R):Option R:=
 v.t?.bind λx=>ab c (iP.anyInt x) K
def jq{R:Type}(P:Program)(A:cE)(O:aA)(g:Option Gs)(o:Oper)(s:St)(K:AV->aH->Option R):Option R:=
 let ev:=s.get g;let c:=g.map (·.c);let d:=o.dst.getD 0
 match o.op with
 | .move x | .assign x=>K (ev x) []
 | .pick k a b=>(ev k).t?.bind λI=>ab c I.bool? λkb=>
   (s.mC g k true a).t?.bind λx=>ab (xR c kb) x.bool? λJ=>
   (s.mC g k false b).t?.bind λy=>ab (xR c (!kb)) y.bool? λL=>K (AV.t (.bool (cond kb J L))) []
 | .alloc t=>match c with
  | some _=>none
  | none=>(jF P t).bind λl=>K (.ref (.s d 0) 0) [(.s d 0, .box (l.map .t))]
 | .box _ x=>match c with
  | some _=>none
  | none=>if(gO (ev x)).all pF then K (.ref (.s d 0) 0) [(.s d 0, .box (gO (ev x)))] else none
 | .build t B=>(wT P t ev B.toList).bind λv=>K v []
 | .buildSlice t n B=>(m9 P t).bind λe=>if A.nH o.dst o.type=1 then
   (match c,B.toList,n with
   | none,[(0,x)],1=>if((gO (ev x)).length=P.cellsOf e/\(gO (ev x)).all pF=true)/\P.cellsOf e<=1000/\0 < P.cellsOf e/\(jF P e).isSome=true then K (.own (.s d 0)) [(.s d 0, .arr (gO (ev x)))] else none
   | _,_,_=>none)
   else if B.size=n/\n<=1000/\P.cellsOf e<=1000/\0 < P.cellsOf e/\(jF P e).isSome=true then
   if n=0/\A.app o.dst=true then K (.t (.aO false)) [] else
   (iA P s.h e ev 0 B.toList).bind λq=>
   match c with
   | some _=>K (.t (.ae (P.cellsOf e) false q.1)) q.2
   | none=>K (.own (.s d 0)) ((.s d 0, .sl false (P.cellsOf e) false q.1)::q.2)
   else none
 | .load t a=>jV P s c t (ev a) λv=>K v []
 | .store t a x=>match c with
  | some _=>none
  | none=>jh P s t (ev a) (ev x) λu=>K .top u
 | .nilCheck x=>match ev x with
  | .ref i k=>K (.ref i k) []
  | .el i sz k o=>K (.el i sz k o) []
  | .rel i sz n k o=>K (.rel i sz n k o) []
  | .t y=>ab c y.p7 λcs=>K (.t (.ptr cs)) []
  | .fn f a b=>K (.fn f a b) []
  | _=>none
 | .binOp op t x y ty=>match op,oQ P t y,oQ P t x with
  | .eql,true,_=>(jz P s t (ev x)).bind λb=>K (.t (.bool b)) []
  | .neq,true,_=>(jz P s t (ev x)).bind λb=>K (.t (.bool (!b))) []
  | .eql,_,true=>(jz P s t (ev y)).bind λb=>K (.t (.bool b)) []
  | .neq,_,true=>(jz P s t (ev y)).bind λb=>K (.t (.bool (!b))) []
  | .eql,_,_=>pM P c t (ev x) (ev y) λb=>K (.t (.bool b)) []
  | .neq,_,_=>pM P c t (ev x) (ev y) λb=>K (.t (.bool (!b))) []
  | op,_,_=>(ev x).t?.bind λa=>(ev y).t?.bind λb=>qZ P op t ty c a b λz=>K (.t z) []
 | .unOp op t x=>(ev x).t?.bind λa=>sI P op t c a λz=>K (.t z) []
 | .convert src C x=>match P.underlying src,P.underlying C with
  | some (.slice e),some .string=>match rN P e with
   | some .u8=>(du s.h (ev x)).bind λy=>ab c ((y.aP 1).bind λp=>bytesOf p.2) λl=>K (.t (.str ⟨l.toArray⟩)) []
   | _=>none
  | _,_=>(ev x).t?.bind λa=>rm P c src C a λz=>K (.t z) []
 | .makeFunc (.func f) H D=>K (.fn f (H.toList.map ev) (D.toList.map ev)) []
 | .makeSlice t l m=>match c with
  | some _=>none
  | none=>(ev l).t?.bind λn=>(ev m).t?.bind λk=>rR P d t (A.nH o.dst o.type) n k K
 | .makeMap t m=>match c,m with
  | none,none=>rS P d t K
  | _,_=>none
 | .lookup t x k ok=>nB P s c t (ev x) (ev k) ok λv=>K v []
 | .mapUpdate t x k v=>match c with
  | some _=>none
  | none=>nJ P s t (ev x) (ev k) (ev v) λu=>K .top u
 | .slice t x E hi F=>
  iP s c g E λE=>iP s c g hi λhi=>iP s c g F λF=>nR P s c t (ev x) E hi F λv=>K v []
 | .fieldAddr t x f=>rF P c t (ev x) f λv=>K v []
 | .field t x f=>rE P t (ev x) f λv=>K v []
 | .indexAddr t x i=>oI c (ev i) λn=>jy P s c t (ev x) n λv=>K v []
 | .index t x i=>oI c (ev i) λn=>match P.underlying t with
  | some .string=>(ev x).t?.bind λy=>ab c y.bw λb=>jT c n b.size
    (ab c b.data.toList[n.toNat]? λu=>K (.t (.int .u8 u.toNat)) [])
  | some (.array m e)=>match ev x with
   | .agg vs=>cond (bL P e) ((eS vs).bind λl=>jT c n m (kP P e c (l.drop (n.toNat * P.cellsOf e)) λz=>K z [])) none
   | _=>none
  | _=>none
 | .extract x k=>match ev x with
  | .mb vs=>(vs[k]?).bind λv=>K v []
  | _=>none
 | .call j=>match j.callee with
  | .builtin .len=>match j.args.toList,j.argTypes.toList with
   | [x],t::_=>ny P s c t (ev x) λv=>K v []
   | _,_=>none
  | .builtin .append=>match c,j.args.toList,j.argTypes.toList with
   | none,[x,y],[t,u]=>kF P s d (A.nH o.dst o.type==3) t u (ev x) (ev y) K
   | _,_,_=>none
  | .builtin .max=>match rN P o.type with
   | some k=>(eS (j.args.toList.map ev)).bind λl=>match l with
    | x::r=>ab c (x.int? k) λa=>oM k c true a r λz=>K (.t z) []
    | []=>none
   | none=>none
  | .builtin .min=>match rN P o.type with
   | some k=>(eS (j.args.toList.map ev)).bind λl=>match l with
    | x::r=>ab c (x.int? k) λa=>oM k c false a r λz=>K (.t z) []
    | []=>none
   | none=>none
  | .builtin .delete=>match c,j.args.toList,j.argTypes.toList with
   | none,[x,y],t::_=>m6 P s t (ev x) (ev y) λu=>K (.mb []) u
   | _,_,_=>none
  | .builtin .cap=>match j.args.toList,j.argTypes.toList with
   | [x],t::_=>match P.underlying t with
    | some (.slice _)=>match ev x with
     | .t y=>cond (xZ y) (K (.t (.int .i64 0)) []) none
     | _=>none
    | _=>none
   | _,_=>none
  | .value G=>match ev G with
   | .fn f a b=>jr (Ha G) P A O s d c f (a++j.args.toList.map ev++b) K
   | _=>none
  | _=>none
 | _=>none
open Go
section
variable (P:Program) (A:cE) (O:aA)
def xc(b want:Bool):Bool:=cond want b (!b)
def gC(g:Option Gs)(b want:Bool):Bool:=
 match g with
 | none=>xc b want
 | some a=>cond a.c (xc b want) false
def dr{R:Type}(a:Array Oper)(o:Oper)(s:St)(K:Option Gs->Option R):Option R:=
 match o.guard with
 | none=>K none
 | some (j,want)=>match(a[j]?).bind (·.dst) with
  | none=>none
  | some d=>(s.t d).2.t?.bind λx=>ab ((s.t d).1.map (·.c)) x.bool? λb=>
    K (some {d:=d,want:=want,c:=gC (s.t d).1 b want})
def N2:Builtin->Bool
 | .delete=>true
 | _=>false
def fZ(o:Oper):Bool:=
 match o.op with
 | .store .. =>true
 | .mapUpdate .. =>true
 | .call a=>match a.callee with
  | .builtin .append=>match a.args.toList with
   | .const (.slice none 0 0)::_=>false
   | _=> !A.app o.dst
  | .builtin b=>N2 b
  | .value (.func f)=>match A.iu f with
   | some _=>true
   | none=>match P.funcs[f]? with
    | some _=>A.wr f
    | none=>true
  | _=>true
 | _=>false
def Nw(o:Oper):Bool:=
 match o.op with
 | .call a=>match a.callee with
  | .value (.func f)=>match P.funcs[f]? with
   | some fn=>(de P A f 0 fn).all rH
   | none=>false
  | _=>false
 | _=>false
def fY(o:Oper):Bool:=
 match o.op with
 | .move _ | .assign _ | .pick .. | .build .. | .unOp .. | .makeFunc .. | .fieldAddr .. | .field .. | .extract .. | .nilCheck _=>true
 | .binOp _ t x y _=> !(oQ P t x || oQ P t y)
 | .call a=>match a.callee with
  | .builtin .max | .builtin .min=>true
  | _=>false
 | _=>false
def eU(o:Oper):Bool:=
 match o.op with
 | .call a=>match a.callee with
  | .value (.func f)=>A.deep f
  | .value _=>true
  | .builtin .append=>A.nH o.dst o.type==3
  | _=>false
 | _=>false
def r7(o:Oper):Bool:=fY P o ||
 match o.op with
 | .load .. | .index .. | .indexAddr .. | .slice .. | .binOp .. | .convert .. | .lookup .. =>true
 | .call a=>match a.callee with
  | .builtin .len=>true
  | .value (.func _)=> !fZ P A o && Nw P A o
  | _=>false
 | _=>false
def iX(o:Oper):Bool:=
 match o.op with
 | .alloc _ | .box .. | .makeSlice .. | .makeMap .. =>true
 | _=>false
def ff(o:Oper):Bool:=
 match o.op with
 | .call a=>match a.callee with
  | .value (.func f)=>(A.iu f).isSome
  | .value _=>true
  | _=>false
 | _=>false
def rl(a b:Oper):Bool:= !((fZ P A a && !(fY P b || iX b)) || (fZ P A b && !(fY P a || iX a))) && (!eU A a || r7 P A b) && (!eU A b || r7 P A a)
def gE:List Oper->List Nat
 | []=> []
 | o::r=>match o.dst with
  | some d=>d::gE r
  | none=>gE r
def sb(d:Array Oper)(a:Nat):Nat:=match d.find? (λo=>o.dst==some a) with
 | some o=>match o.op with
  | .fieldAddr _ (.tmp b) _=>b
  | _=>a
 | none=>a
def gu(b:Array Oper)(o:Oper):Option Nat:=match o.guard,o.op with
 | none, .store _ (.tmp a) _=>some (sb b a)
 | none, .load _ (.tmp a)=>some (sb b a)
 | _,_=>none
def kZ(d:Array Oper)(a b:Oper):Bool:=A.st ((d[0]?).bind (·.dst)) && (match gu d a,gu d b with
 | some k,some e=> !(k==e) && !(gE d.toList).contains k && !(gE d.toList).contains e
 | _,_=>false)
def DI(o:Oper):Bool:=o.guard.isNone && fZ P A o && match o.op with
 | .call a=>match a.callee with
  | .builtin .append=> !(A.nH o.dst o.type==3)
  | .value (.func f)=>(A.iu f).isNone && !A.deep f
  | _=>false
 | _=>false
def kj(b:Array Oper)(o:Oper):Option (Option Nat):=match o.guard,o.op with
 | none, .load _ (.tmp a)=>some (some (sb b a))
 | none, .buildSlice .. =>some none
 | _,_=>none
def jU(d:Array Oper)(a b:Oper):Bool:=A.ld ((d[0]?).bind (·.dst)) && DI P A a && (match kj d b with
 | some (some k)=> !(gE d.toList).contains k
 | some none=>true
 | none=>false)
def jA(o:Oper)(k:Bool):Bool:=match o.guard,o.op with
 | none, .store t (.tmp _) _=>(match P.underlying t with
  | some (.slice _)=>k
  | some (.int _)=> !k
  | _=>false)
 | _,_=>false
def l7(d:Array Oper)(a b:Oper):Bool:=A.sx ((d[0]?).bind (·.dst)) && jA P a true && jA P b false
def ka:aH->Bool
 | [(_, .dead),(_, .rows _ _ _ rsz _ _)]=> !(rsz==1)
 | _=>false
def kb:aH->Bool
 | [(_, .sl false sz _ _)]=>sz==1
 | _=>false
def z6(o:Oper)(s:St):Bool:=match o.op with
 | .store _ _ y=>(s.get none y).ids.isEmpty
 | _=>false
def xY(o:Oper):Bool:=match o.guard,o.op with
 | none, .indexAddr t (.tmp _) _=>(match m9 P t with
  | some e=>P.cellsOf e==1
  | none=>false)
 | none, .load _ (.tmp _)=>true
 | _,_=>false
def uy(o:Oper)(s:St):Bool:=match o.op with
 | .load _ x=>(match s.get none x with
  | .ref _ _=>true
  | _=>false)
 | .indexAddr _ x _=>(match s.get none x with
  | .own _=>true
  | _=>false)
 | _=>false
def la(d:Array Oper)(a b:Oper):Bool:=A.sx ((d[0]?).bind (·.dst)) && (jA P a true || jA P a false) && xY P b
def sw(d:Array Oper)(a b:Oper):Bool:=kZ A d a b || jU P A d a b || jU P A d b a || (l7 P A d a b || l7 P A d b a) || (la P A d a b || la P A d b a)
def gW(a:Array Oper):Nat->Nat->Nat->Bool
 | 0,_,_=>false
 | n+1,j,i=>match a[j]? with
  | none=>false
  | some b=>b.after.any λe=>Region.binds .any e && (e.on==i || (Nat.blt i e.on && gW a n e.on i))
def Bf(a:Array Oper)(b:Array Bool)(i:Nat):Bool:=
 match a[i]? with
 | none=>false
 | some d=>(List.range a.size).all λj=>match a[j]? with
  | none=>true
  | some e=>j==i || b.getD j true || rl P A d e || sw P A a d e || gW a 12 j i
def x9(b:Array Oper):Nat->Nat->Array Bool->Bool
 | 0,_,_=>true
 | n+1,k,a=>Bf P A b a k && x9 b n (k+1) (a.setIfInBounds k true)
def NH(h:Id->Option aa)(us:aH):Bool:=us.all λp=>(h p.1).isNone
def iV(d:Nat)(h:Id->Option aa)(us:aH):Bool:=us.all λp=>match p.1 with
 | .s a _=> !(a==d) || (h p.1).isNone
 | .c _=>true
 | .g _ _=>false
def dN(a:Array Oper)(d:Option Nat):Bool:=
 a.any λo=>match o.guard with
  | none=>false
  | some (j,_)=>match(a[j]?).bind (·.dst),d with
   | some e,some d=>e==d
   | _,_=>false
def re(a:Array Oper)(o:Oper)(d:Nat):Bool:=
 (List.range a.size).all λi=>match a[i]? with
  | some b=> !(b.dst==some d) || o.after.any (λe=>Region.binds .any e && (e.on==i || gW a 12 e.on i))
  | none=>true
def oP(a:Array Oper)(g:Option Gs)(o:Oper)(s:St):Bool:=
 o.op.operands.toList.all λx=>(s.get g x).ids.all λi=>match i with
  | .s d _=>re a o d
  | .c _=>true
  | .g _ _=>false
def kR(o:Oper)(us:aH):Bool:=us.all λp=>match p.1 with
 | .s d _=>o.dst==some d
 | .c _=>false
 | .g _ _=>false
def sJ(a:Array Oper)(o:Oper)(us:aH):Bool:=us.all λp=>match p.1 with
 | .s d _=>re a o d || o.dst==some d
 | .c _=>true
 | .g _ _=>false
def CS(a:Array Oper)(o d:Oper)(s:St)(us:aH):Bool:=match gu a o,gu a d with
 | some k,some b=>(o.op.operands.toList.all λx=>(s.get none x).ids.all λi=>decide (i∈(s.t k).2.ids)) && us.all (λp=>decide (p.1∈(s.t k).2.ids)) && us.all (λp=>decide (p.1∉(s.t b).2.ids))
 | _,_=>false
def x7(a:Array Oper)(b:Oper)(s:St)(us:aH):Bool:=match kj a b with
 | some (some k)=>us.all λp=>decide (p.1∉(s.t k).2.ids)
 | _=>true
def uc(a:Array Oper)(o:Oper)(s:St):Bool:=match kj a o with
 | some (some k)=>o.op.operands.toList.all λx=>(s.get none x).ids.all λi=>decide (i∈(s.t k).2.ids)
 | some none=>o.op.operands.toList.all λx=>(s.get none x).ids.isEmpty
 | none=>true
def kk(a:Array Oper)(o:Oper)(s:St)(us:aH):Bool:=a.all λb=>(!(kZ A a o b) || CS a o b s us) && (!(jU P A a o b) || x7 a b s us) && (!(jU P A a b o) || uc a o s) && ((!(l7 P A a o b) || ka us) && (!(l7 P A a b o) || (kb us && z6 o s))) && ((!(la P A a o b) || ka us || kb us) && (!(la P A a b o) || uy o s))
def oU(b:Bool)(nt:Nat)(a:Array Oper)(o:Oper)(g:Option Gs)(s:St)(us:aH):Bool:=
 (match o.dst with | some d=>decide (d < nt) | none=>true) &&
 (match g with | some g=>us.isEmpty && !(o.dst==some g.d) | none=>true) &&
 iV (o.dst.getD 0) s.h us && (!b || (oP a g o s && (fZ P A o || kR o us) && (!fY P o || us.isEmpty) && (!r7 P A o || us.isEmpty) && (!fZ P A o || sJ a o us) && Nat.ble nt 1000000 && kk P A a o s us))
def qq(a:Bool)(o:Oper)(g:Option Gs):Option Gs:=
 match g with
 | some g=>cond (!a && ff A o) (some g) none
 | none=>none
def xt(nt:Nat)(o:Oper)(g:Gs):Bool:=(match o.dst with | some d=>decide (d < nt) | none=>true) && !(o.dst==some g.d)
def Pe(o:Oper):AV:=
 match o.op with
 | .call a=>match a.callee with
  | .value (.func f)=>match P.funcs[f]? with
   | some fn=>match de P A f 0 fn with
    | [.f .b]=> .t (.bool false)
    | [.f (.i k)]=> .t (.int k 0)
    | _=> .top
   | none=> .top
  | _=>match P.underlying o.type with
   | some .bool=> .t (.bool false)
   | some (.int k)=> .t (.int k 0)
   | _=> .top
 | _=> .top
def oW{R:Type}(b:Bool)(nt:Nat)(a:Array Oper)(o:Oper)(s:St)(K:St->Option R):Option R:=
 dr a o s λg=>match qq A b o g with
 | some d=>cond (xt nt o d) (cond d.c
   (jq P A O none o (s.rZ d) λv us=>
    if oU P A b nt a o none s us then K (s.put (dN a o.dst) o.dst (some d) v us) else none)
   (K (s.put (dN a o.dst) o.dst (some d) (Pe P A o) []))) none
 | none=>jq P A O g o s λv us=>
  if oU P A b nt a o g s us then K (s.put (dN a o.dst) o.dst g v us) else none
def uI{R:Type}(a:Bool)(nt:Nat)(b:Array Oper):List Oper->St->(St->Option R)->Option R
 | [],s,K=>K s
 | o::r,s,K=>oW P A O a nt b o s λs'=>uI a nt b r s' K
def St.clear(s:St):St:=
 {t :=λk=>match s.t k with
    | (none,v)=>(none,v)
    | (some _,_)=>(none, .top)
  h:=s.h}
def uq:List Nat->Bool
 | []=>true
 | d::r=> !r.contains d && uq r
def rL(a:Array Oper):Bool:=a.all λo=>match o.guard with
 | none=>true
 | some (j,_)=>o.after.any λe=>Region.binds .any e && e.on==j
def Cm(b:Bool)(a:Array Oper):Bool:=
 !b || (Region.lexB .any a && x9 P A a a.size 0 (Array.replicate a.size false) && uq (gE a.toList) && rL a)
def region{R:Type}(nt:Nat)(a:Bool)(b:Array Oper)(s:St)(K:St->Option R):Option R:=
 cond (Cm P A a b)
  (uI P A O a nt b b.toList s λs'=>K s'.clear) none
def nG(h:Id->Option aa):AV->AV
 | .own i=>match h i with
  | some (.sl true sz b xs)=> .t (.ae sz b xs)
  | _=> .own i
 | .part i sz off n=>match h i with
  | some (.sl true a b xs)=>if a=sz then .t (.ae sz b ((xs.drop off).take n)) else .part i sz off n
  | _=> .part i sz off n
 | .ref i off=>match h i with
  | some (.iC l)=> .t (.ptr (l.drop off))
  | _=> .ref i off
 | v=>v
def ud(s:St)(k:Nat×Option Nat):Option (AV×aH):=
 match s.t k.1 with
 | (some _,_)=>none
 | (none,v)=>match k.2 with
  | none=>some (nG s.h v,[])
  | some sz=>if sz=0\/sz>=999999 then some (nG s.h v,[]) else match v with
   | .own i=>match s.h i with
    | some (.sl false _ _ _)=>some (.own i,[])
    | _=>none
   | .t (.aO b)=>some (.own (.s (1000000+k.1) 0),[(.s (1000000+k.1) 0, .sl false sz b [])])
   | _=>none
def oK(s:St):List (Nat×Option Nat)->Option (List AV×aH)
 | []=>some ([],[])
 | k::r=>(ud s k).bind λp=>(oK s r).bind λq=>some (p.1::q.1,p.2++q.2)
def yX(f:FuncId)(todo:List Item)(live:List (Nat×Option Nat))(m:Nat×Nat)(s:St):Option (List T):=
 (oK s live).bind λp=>
  if NH s.h p.2 then
  let h:=aK s.h p.2
  (eY h 1000 ((List.range m.1).map Id.c++bQ p.1) []).bind λseen=>
   O (.node f todo live m) (kg seen p.1) (seen.map λi=>gT seen (h i))
  else none
def Bh(h:Id->Option aa):AV->aH
 | .ref i _=>match h i with
  | some (.box cs)=>mB h cs
  | _=> []
 | _=> []
def nq(s:St):List (Nat×Option Nat)->aH
 | []=> []
 | (k,some 0)::r=>gQ s.h (s.t k).2++nq s r
 | (k,some (n+1))::r=>cond (Nat.beq n 999998) (Bh s.h (s.t k).2) [] ++nq s r
 | (_,none)::r=>nq s r
def yD(s:St):List (Nat×Option Nat)->List (Id×Nat×Nat)
 | []=> []
 | (k,some n)::r=>match cond (Nat.ble 1000000 n) (s.t k).2 .top with
  | .ref i _=>(i,n / 1000000 - 1,n % 1000000)::yD s r
  | _=>yD s r
 | _::r=>yD s r
def BW(h:Id->Option aa):AV->(Id->Option aa)
 | .ref i _=>match h i with
  | some (.box cs)=>aK h [(i, .box (cs.map (nG h)))]
  | _=>h
 | _=>h
def rX(t:Nat->Option Gs×AV):(Id->Option aa)->List (Nat×Option Nat)->(Id->Option aa)
 | h,[]=>h
 | h,(k,some n)::r=>rX t (cond (Nat.beq n 999999) (BW h (t k).2) h) r
 | h,(_,none)::r=>rX t h r
def l9(f:FuncId)(todo:List Item)(live:List (Nat×Option Nat))(m:Nat×Nat)(s:St):Option (List T):=
 (jZ 1900000 0 (aK s.h (nq s live)) (yD s live)).bind λus=>
  yX O f todo live m {t:=s.t,h:=rX s.t (aK (aK s.h (nq s live)) us) live}
def np(live:List (Nat×Option Nat))(bc:List AV)(blks:List aa):St:=
 {t:=λk=>(none,look live bc k)
  h:=fun
   | .c j=>blks[j]?
   | _=>none}
where
 look:List (Nat×Option Nat)->List AV->Nat->AV
 | (k,_)::ks,v::vs,j=>if j=k then v else look ks vs j
 | _,_,_=> .top
def o6:Code->Nat
 | .region id _ _=>id
 | .seq a _=>o6 a
 | .block _ b=>o6 b
 | .cond _ a _=>o6 a
 | _=>1000000
def Ib(h:Id->Option aa)(sz:Nat):AV->Option (T×Id)
 | .own i=>match h i with
  | some (.sl false a b xs)=>if a=sz then some (.ae sz b xs,i) else none
  | _=>none
 | _=>none
def jw{R:Type}(m:Nat)(h:Id->Option aa)(r:bO)(v:AV)(K:T->List Id->List Id->Option R):Option R:=
 match r with
 | .f _=>v.t?.bind λx=>ab none x.pP λ_=>K x [] []
 | .t _=>(du h v).bind λx=>K x [] ((gQ h v).map (·.1))
 | .own sz=>match v with
  | .own i=>(Ib h sz (.own i)).bind λp=>K p.1 [p.2] []
  | .part i a 0 n=>match h i with
   | some (.sl false j b xs)=>if j=sz/\a=sz then K (.ae sz b (xs.take n)) [i] [] else none
   | _=>none
  | .t (.aO b)=>K (.aO b) [] []
  | .t (.ae _ true [])=>K (.aO true) [] []
  | _=>none
 | .ref k off=>match v with
  | .ref (.c e) off'=>if e=k/\off'=off/\k < m then K .aC [] [] else none
  | _=>none
 | .same k=>match v with
  | .own (.c e)=>if e=k/\k < m then K .aC [] [] else none
  | _=>none
 | .rows sz az rsz=>match v with
  | .own i=>match h i with
   | some (.rows b a d g _ es)=>if a=sz/\d=az/\g=rsz then
     ab none (if bJ es=true then some () else none) λ_=>K (bI b es) [i] [] else none
   | _=>none
  | _=>none
 | .mp ag ks vk=>match v with
  | .own i=>match h i with
   | some (.mp l o q es)=>if l=ag/\o=ks/\q=vk then K (bK es) [i] [] else none
   | _=>none
  | _=>none
 | .no=>match v with
  | .ref _ _=>K .aC [] []
  | _=>none
 | .agg _=>none
 | .new _=>none
def na{R:Type}(m:Nat)(h:Id->Option aa):List bO->List AV->(List T->List Id->List Id->Option R)->Option R
 | [],[],K=>K [] [] []
 | r::f,v::vs,K=>jw m h r v λx a b=>na m h f vs λxs d e=>K (x::xs) (a++d) (b++e)
 | _,_,_=>none
def bP{R:Type}(m:Nat)(h:Id->Option aa):List bO->List AV->(List T->List Id->List Id->Option R)->Option R
 | [],[],K=>K [] [] []
 | r::f,v::vs,K=>match r with
  | .agg l=>match v with
   | .agg cs=>na m h l cs λxs a b=>bP m h f vs λg d e=>K (xs++g) (a++d) (b++e)
   | _=>none
  | .new l=>match v with
   | .ref i 0=>match h i with
    | some (.box cs)=>na m h l cs λxs a b=>bP m h f vs λg d e=>K (xs++g) (i:: (a++d)) (b++e)
    | _=>none
   | _=>none
  | r=>jw m h r v λx a b=>bP m h f vs λxs d e=>K (x::xs) (a++d) (b++e)
 | _,_,_=>none
def lM{R:Type}(m:Nat)(h:Id->Option aa):Nat->List jG->(List T->List Id->List Id->Option R)->Option R
 | _,[],K=>K [] [] []
 | j, .box l::r,K=>match h (.c j) with
  | some (.box cs)=>na m h l cs λxs a b=>lM m h (j+1) r λf d e=>K (xs++f) (.c j:: (a++d)) (b++e)
  | _=>none
 | j, .sl sz::r,K=>match h (.c j) with
  | some (.sl false k b xs)=>if k=sz then lM m h (j+1) r λf d e=>K (.ae sz b xs::f) (.c j::d) e else none
  | _=>none
 | j, .mp ag ks vk::r,K=>match h (.c j) with
  | some (.mp g i n es)=>if g=ag/\i=ks/\n=vk then lM m h (j+1) r λf d e=>K (bK es::f) (.c j::d) e else none
  | _=>none
 | j, .dead::r,K=>lM m h (j+1) r K
def sa{R:Type}(s:St):List ResultVar->(List AV->Option R)->Option R
 | [],K=>K []
 | .tmp k::r,K=>match s.t k with
   | (none,v)=>sa s r λl=>K (v::l)
   | _=>none
 | .cell k t::r,K=>match s.t k with
   | (none,v)=>jV P s none t v λv=>sa s r λl=>K (v::l)
   | _=>none
def yn:List Id->Bool
 | []=>true
 | i::r=> !r.contains i && yn r
def xJ(f:FuncId)(fn:Func)(m:Nat×Nat)(s:St):Option (List T):=
 sa P s fn.results.toList λvs=>
  if m.1= (gS A f m.2).length then
  bP m.1 s.h (de P A f m.2 fn) vs λxs a b=>lM m.1 s.h 0 (gS A f m.2) λg d e=>
   if yn (a++d) && (b++e).all (λi=> !(a++d).contains i) then some (xs++g) else none
  else none
def uJ(az rsz:Nat)(e:Row):List T:=e.cs.set az (match e.own with
 | some p=> .ae rsz p.1 p.2
 | none=> .aC)
def uz:List AV->List Id
 | []=> []
 | .own i::r=>i::uz r
 | _::r=>uz r
def Cp(h:Id->Option aa)(t:Nat->Option Gs×AV):List ResultVar->List Id
 | []=> []
 | .tmp k::r=>(match(t k).2 with
  | .agg vs=>uz vs
  | v=>uz [v])++Cp h t r
 | .cell k _::r=>(match(t k).2 with
  | .ref i _=>match h i with
   | some (.box cs)=>uz cs
   | _=> []
  | _=> [])++Cp h t r
def uO{R:Type}:(Id->Option aa)->List Id->(aH->Option R)->Option R
 | _,[],K=>K []
 | h,i::r,K=>match h i with
  | some (.rows b sz az rsz _ es)=>ab none (if bJ es=true then some () else none) λ_=>
    uO (aK h [(i, .sl true sz b (es.map (uJ az rsz)))]) r λus=>K ((i, .sl true sz b (es.map (uJ az rsz)))::us)
  | _=>uO h r K
def xI(f:FuncId)(fn:Func)(m:Nat×Nat)(s:St):Option (List T):=
 cond ((de P A f m.2 fn).any GR) (xJ P A f fn m s)
  (uO s.h (Cp s.h s.t fn.results.toList) λus=>xJ P A f fn m {t:=s.t,h:=aK s.h us})
def ev(f:FuncId)(fn:Func)(m:Nat×Nat):Nat->Bool->List Item->St->Option (List T)
 | 0,_,_,_=>none
 | n+1,d,todo,s=>match todo with
  | []=>xI P A f fn m s
  | .code c::k=>match c with
   | .skip=>ev f fn m n true k s
   | .seq a b=>ev f fn m n d (.code a:: .code b::k) s
   | .region id g e=>match cond d (A.join f id) none with
    | some live=>l9 O f (.code (.region id g e)::k) live m s
    | none=>region P A O fn.ntmps e g s λs'=>ev f fn m n true k s'
   | .cond x a b=>(s.get none x).t?.bind λy=>ab none y.bool? λt=>cond t (ev f fn m n true (.code a::k) s) (ev f fn m n true (.code b::k) s)
   | .block id b=>ev f fn m n d (.code b:: .inBlock id::k) s
   | .loop b=>match A.live f (o6 b) with
    | some live=>l9 O f (.inLoop b::k) live m s
    | none=>none
   | .exit id=>match exitTo id k with
    | some i=>ev f fn m n true i s
    | none=>none
   | .ret=>xI P A f fn m s
   | _=>none
  | .inBlock _::k=>ev f fn m n true k s
  | .inLoop b::k=>match A.live f (o6 b) with
    | some live=>l9 O f (.inLoop b::k) live m s
    | none=>none
  | _::_=>none
def jR:Nat:=100000
def tQ(bc:List AV)(a:List aa):St:=
 {t:=λk=>(none,bc.getD k .top)
  h:=fun
   | .c j=>a[j]?
   | _=>none}
def aE:aA
 | .call f,bc,a=>match A.ext f bc a with
  | some r=>some r
  | none=>match P.funcs[f]? with
  | some fn=>match fn.body with
   | some c=>if bc.length<=fn.ntmps then ev P A O f fn (a.length,gY a.head?) jR true [.code c] (tQ bc a) else none
   | none=>none
  | none=>none
 | .node f todo live m,bc,a=>match P.funcs[f]? with
  | some fn=>match todo with
   | .inLoop b::k=>ev P A O f fn m jR true (.code b:: .inLoop b::k) (np live bc a)
   | todo=>ev P A O f fn m jR false todo (np live bc a)
  | none=>none
end
def pN(d:Bool)(r:Nat):Code->List Item->Option (List Item)
 | .seq a b,k=>match pN d r a (.code b::k) with
  | some t=>some t
  | none=>pN d r b k
 | .block id b,k=>pN d r b (.inBlock id::k)
 | .loop b,k=>if d && o6 b==r then some (.inLoop b::k) else pN d r b (.inLoop b::k)
 | .cond _ a b,k=>match pN d r a k with
  | some t=>some t
  | none=>pN d r b k
 | .region id f e,k=>if !d && id==r then some (.code (.region id f e)::k) else none
 | _,_=>none
def aZ(P:Program)(f:FuncId)(a:Bool)(r:Nat)(live:List (Nat×Option Nat))(m:Nat×Nat):Key:=
 .node f (match P.funcs[f]? with
  | some fn=>match fn.body with
   | some c=>(pN a r c []).getD []
   | none=> []
  | none=> []) live m
def iZ(P:Program)(A:cE):Nat->aA
 | 0=>λ_ _ _=>none
 | n+1=>aE P A (iZ P A n)
open Classical in
noncomputable def mF(P:Program)(A:cE):aA:=λk vs bs=>
 if h:∃n r,iZ P A n k vs bs=some r then some (Classical.choose (VH h)) else none
open Go
section
variable (w:World) (A:Nat->Prop)
mutual
def ax:T->Value->Prop
 | .int k n,v=>v= .int k n
 | .bool b,v=>v= .bool b
 | .str s,v=>v= .string s
 | .ae sz b xs,v=>(b=true/\xs= []/\v= .slice none 0 0)\/
   (b=false/\∃ah off a cap,v= .slice (some ⟨ah,off,a⟩) xs.length cap/\xs.length<=cap/\(xs= []\/(a=none/\A ah))/\aY ah sz off xs)
 | .aO b,v=>(b=true/\v= .slice none 0 0)\/(b=false/\∃ah off a,v= .slice (some ⟨ah,off,a⟩) 0 0)
 | .ptr cs,v=>∃ah off,v= .pointer (some ⟨ah,off,none⟩)/\(cs= []\/A ah)/\aV ah off cs
 | .aC,v=>v= .pointer none
 | .ym,v=>v= .map none
 | .yl,v=>v= .nilFunc
 | .BU,v=>v= .nilIface
 | .any,v=>v.oneCell'=true/\v.cells= #[v]
def aY(ah sz:Nat):Nat->List (List T)->Prop
 | _,[]=>True
 | off,cs::xs=>cs.length=sz/\aV ah off cs/\aY ah sz (off+sz) xs
def aV(ah:Nat):Nat->List T->Prop
 | _,[]=>True
 | off,c::cs=>(∃v,w.cell? ⟨ah,off,none⟩=some v/\ax c v)/\aV ah (off+1) cs
end
def aR:List T->List Value->Prop
 | [],vs=>vs= []
 | c::cs,vs=>∃v r,vs=v::r/\ax w A c v/\aR cs r
end
section
variable {w w':World} {A A':Nat->Prop}
theorem mY{a:Addr}(h:w'.heap[a.block]? =w.heap[a.block]?):w'.cell? a=w.cell? a:=by simp [World.cell?,h]
mutual
theorem ax.mono(h:∀b,A b->A' b/\w'.heap[b]? =w.heap[b]?):∀(t:T) (v:Value),ax w A t v->ax w' A' t v
 | .int k n,v,hv=>by simpa [ax] using hv
 | .bool b,v,hv=>by simpa [ax] using hv
 | .str s,v,hv=>by simpa [ax] using hv
 | .aO b,v,hv=>by simpa [ax] using hv
 | .aC,v,hv=>by simpa [ax] using hv
 | .ym,v,hv=>by simpa [ax] using hv
 | .yl,v,hv=>by simpa [ax] using hv
 | .BU,v,hv=>by simpa [ax] using hv
 | .any,v,hv=>by simp only [ax] at hv⊢;exact hv
 | .ae sz b xs,v,hv=>by
  simp only [ax] at hv⊢;rcases hv with hv | ⟨hb,ah,off,f,cap,h1,d,a,e⟩
  .exact .inl hv
  .refine .inr ⟨hb,ah,off,f,cap,h1,d, ?_, ?_⟩
   .rcases a with a | a
    .exact .inl a
    .exact .inr ⟨a.1,(h _ a.2).1⟩
   .rcases a with a | a
    .subst a;simp [aY]
    .exact aY.mono h ah sz a.2 off xs e
 | .ptr cs,v,hv=>by
  simp only [ax] at hv⊢;obtain⟨ah,off,h1,d,a⟩:=hv;refine⟨ah,off,h1, ?_, ?_⟩
  .rcases d with d | d
   .exact .inl d
   .exact .inr (h _ d).1
  .rcases d with d | d
   .subst d;simp [aV]
   .exact aV.mono h ah d off cs a
theorem aY.mono(h:∀b,A b->A' b/\w'.heap[b]? =w.heap[b]?)(ah sz:Nat)(hb:A ah):∀(off:Nat) (xs:List (List T)),aY w A ah sz off xs->aY w' A' ah sz off xs
 | _,[],_=>by simp [aY]
 | off,cs::xs,hv=>by simp only [aY] at hv⊢;exact⟨hv.1,aV.mono h ah hb off cs hv.2.1,aY.mono h ah sz hb (off+sz) xs hv.2.2⟩
theorem aV.mono(h:∀b,A b->A' b/\w'.heap[b]? =w.heap[b]?)(ah:Nat)(hb:A ah):∀(off:Nat) (cs:List T),aV w A ah off cs->aV w' A' ah off cs
 | _,[],_=>by simp [aV]
 | off,c::cs,hv=>by simp only [aV] at hv⊢;obtain⟨⟨v,d,hr⟩,a⟩:=hv;exact⟨⟨v,by rw [mY (w:=w) (by exact(h ah hb).2)];exact d,ax.mono h c v hr⟩,aV.mono h ah hb (off+1) cs a⟩
end
theorem aV.nC(h:∀b,A b->A' b/\w'.heap[b]? =w.heap[b]?)(ah:Nat)(hb:w'.heap[ah]? =w.heap[ah]?):∀(off:Nat) (cs:List T),aV w A ah off cs->aV w' A' ah off cs
 | _,[],_=>by simp [aV]
 | off,c::cs,hv=>by simp only [aV] at hv⊢;obtain⟨⟨v,d,hr⟩,a⟩:=hv;exact⟨⟨v,by rw [mY (w:=w) (by exact hb)];exact d,ax.mono h c v hr⟩,aV.nC h ah hb (off+1) cs a⟩
theorem aY.nC(h:∀b,A b->A' b/\w'.heap[b]? =w.heap[b]?)(ah sz:Nat)(hb:w'.heap[ah]? =w.heap[ah]?):∀(off:Nat) (xs:List (List T)),aY w A ah sz off xs->aY w' A' ah sz off xs
 | _,[],_=>by simp [aY]
 | off,cs::xs,hv=>by simp only [aY] at hv⊢;exact⟨hv.1,aV.nC h ah hb off cs hv.2.1,aY.nC h ah sz hb (off+sz) xs hv.2.2⟩
theorem aR.mono(h:∀b,A b->A' b/\w'.heap[b]? =w.heap[b]?):∀(cs:List T) (vs:List Value),aR w A cs vs->aR w' A' cs vs
 | [],_,hv=>hv
 | c::cs,vs,⟨v,r,e,h1,a⟩=>⟨v,r,e,ax.mono h c v h1,aR.mono h cs r a⟩
theorem aY.get{ah sz:Nat}:∀{off:Nat} {xs:List (List T)},aY w A ah sz off xs->∀{k:Nat} {cs:List T},xs[k]? =some cs->cs.length=sz/\aV w A ah (off+k * sz) cs
 | off,cs::xs,h,0,a,e=>by simp only [aY] at h;simp at e;subst e;exact⟨h.1,by simpa using h.2.1⟩
 | off,cs::xs,h,k+1,a,e=>by
  simp only [aY] at h;have:=aY.get h.2.2 (k:=k) (cs:=a) (by simpa using e);refine⟨this.1, ?_⟩;have b:off+ (k+1) * sz=off+sz+k * sz:=by rw [T2];omega
  rw [b];exact this.2
theorem aV.get{ah:Nat}:∀{off:Nat} {cs:List T},aV w A ah off cs->∀{k:Nat} {c:T},cs[k]? =some c->∃v,w.cell? ⟨ah,off+k,none⟩=some v/\ax w A c v
 | off,c::cs,h,0,c',e=>by simp only [aV] at h;simp at e;subst e;exact h.1
 | off,c::cs,h,k+1,c',e=>by
  simp only [aV] at h;have:=aV.get h.2 (k:=k) (c:=c') (by simpa using e);have a:off+1+k=off+ (k+1):=by omega
  rw [a] at this;exact this
theorem aV.drop{ah:Nat}:∀{off:Nat} {cs:List T},aV w A ah off cs->∀(n:Nat),aV w A ah (off+n) (cs.drop n)
 | _,_,h,0=>by simpa using h
 | _,[],_,n+1=>by simp [aV]
 | off,c::cs,h,n+1=>by
  simp only [aV] at h;have:=aV.drop h.2 n;have a:off+1+n=off+ (n+1):=by omega
  rw [a] at this;simpa using this
theorem aY.drop{ah sz:Nat}:∀{off:Nat} {xs:List (List T)},aY w A ah sz off xs->∀(n:Nat),aY w A ah sz (off+n * sz) (xs.drop n)
 | _,_,h,0=>by simpa using h
 | _,[],_,n+1=>by simp [aY]
 | off,cs::xs,h,n+1=>by
  simp only [aY] at h;have:=aY.drop h.2.2 n;have a:off+sz+n * sz=off+ (n+1) * sz:=by rw [T2];omega
  rw [a] at this;simpa using this
theorem aY.take{ah sz:Nat}:∀{off:Nat} {xs:List (List T)},aY w A ah sz off xs->∀(n:Nat),aY w A ah sz off (xs.take n)
 | _,_,_,0=>by simp [aY]
 | _,[],_,n+1=>by simp [aY]
 | off,cs::xs,h,n+1=>by simp only [aY] at h;simp only [Ws,aY];exact⟨h.1,h.2.1,aY.take h.2.2 n⟩
theorem aY.append{ah sz:Nat}:∀{off:Nat} {xs a:List (List T)},aY w A ah sz off xs->aY w A ah sz (off+xs.length * sz) a->aY w A ah sz off (xs++a)
 | off,[],a,_,h=>by simpa using h
 | off,cs::xs,a,h,h'=>by
  simp only [aY] at h;simp only [S7,aY];refine⟨h.1,h.2.1,aY.append h.2.2 ?_⟩;have b:off+sz+xs.length * sz=off+ (cs::xs).length * sz:=by simp [T2];omega
  rw [b];exact h'
theorem ax.pZ{t:T}{v:Value}(h:ax w A t v):v.oneCell'=true/\v.cells= #[v]:=by
 cases t <;> simp only [ax] at h
 case ae=>rcases h with⟨_,_,rfl⟩ | ⟨_,_,_,_,_,rfl,_⟩ <;> exact⟨rfl,rfl⟩
 case aO=>rcases h with⟨_,rfl⟩ | ⟨_,_,_,_,rfl⟩ <;> exact⟨rfl,rfl⟩
 case ptr=>obtain⟨_,_,rfl,_⟩:=h;exact⟨rfl,rfl⟩
 case any=>exact h
 all_goals subst h;exact⟨rfl,rfl⟩
theorem aR.length:∀{cs:List T} {vs:List Value},aR w A cs vs->vs.length=cs.length
 | [],_,h=>by simp only [aR] at h;simp [h]
 | c::cs,vs,⟨v,r,e,_,h⟩=>by subst e;simp [aR.length h]
end
section
variable (w:World) (A:Nat->Prop) (ρ:Id->Option Value)
mutual
def al:AV->Value->Prop
 | .top,_=>True
 | .t x,v=>ax w A x v
 | .mb vs,v=>∃d:List Value,v= .tuple d.toArray/\ay vs d
 | .agg vs,v=>∃d:List Value,v= .agg d.toArray/\ay vs d/\∀u∈d,u.oneCell'=true/\u.cells= #[u]
 | .ref i off,v=>∃b,ρ i=some (.pointer (some ⟨b,0,none⟩))/\v= .pointer (some ⟨b,off,none⟩)
 | .el i sz k off,v=>∃b o L cap,ρ i=some (.slice (some ⟨b,o,none⟩) L cap)/\v= .pointer (some ⟨b,o+k * sz+off,none⟩)
 | .own i,v=>ρ i=some v
 | .part i sz off n,v=>∃a L cap e,ρ i=some (.slice a L cap)/\off+n<=L/\L<=cap/\v= .slice e n (cap - off)/\
   ((off=0/\e=a)\/(off=cap/\(e=none↔a=none)/\True)\/∃b o,a=some ⟨b,o,none⟩/\e=some ⟨b,o+off * sz,none⟩)
 | .row i n,v=>ρ (.g i n)=some v
 | .rel i sz n k off,v=>∃b o L cap,ρ (.g i n)=some (.slice (some ⟨b,o,none⟩) L cap)/\v= .pointer (some ⟨b,o+k * sz+off,none⟩)
 | .fn f xs l,v=>∃j y':List Value,v= .func (.func f) j.toArray y'.toArray/\ay xs j/\ay l y'
def ay:List AV->List Value->Prop
 | [],vs=>vs= []
 | a::as,vs=>∃v r,vs=v::r/\al a v/\ay as r
end
end
section
variable {w w':World} {A A':Nat->Prop} {ρ ρ':Id->Option Value}
mutual
theorem al.mono(h:∀b,A b->A' b/\w'.heap[b]? =w.heap[b]?)(d:∀i v,ρ i=some v->ρ' i=some v):∀(a:AV) (v:Value),al w A ρ a v->al w' A' ρ' a v
 | .top,_,_=>by simp [al]
 | .t x,v,hv=>by simp only [al] at hv⊢;exact ax.mono h x v hv
 | .mb vs,v,hv=>by simp only [al] at hv⊢;obtain⟨j,e,g⟩:=hv;exact⟨j,e,ay.mono h d vs j g⟩
 | .agg vs,v,hv=>by simp only [al] at hv⊢;obtain⟨j,e,g,q⟩:=hv;exact⟨j,e,ay.mono h d vs j g,q⟩
 | .ref i off,v,hv=>by simp only [al] at hv⊢;obtain⟨b,e,g⟩:=hv;exact⟨b,d _ _ e,g⟩
 | .el i sz k off,v,hv=>by simp only [al] at hv⊢;obtain⟨b,o,L,cap,e,g⟩:=hv;exact⟨b,o,L,cap,d _ _ e,g⟩
 | .own i,v,hv=>by simp only [al] at hv⊢;exact d _ _ hv
 | .part i sz off n,v,hv=>by simp only [al] at hv⊢;obtain⟨a,L,cap,m,e,g⟩:=hv;exact⟨a,L,cap,m,d _ _ e,g⟩
 | .row i n,v,hv=>by simp only [al] at hv⊢;exact d _ _ hv
 | .rel i sz n k off,v,hv=>by simp only [al] at hv⊢;obtain⟨b,o,L,cap,e,g⟩:=hv;exact⟨b,o,L,cap,d _ _ e,g⟩
 | .fn f xs r,v,hv=>by simp only [al] at hv⊢;obtain⟨l,y',e,h1,p⟩:=hv;exact⟨l,y',e,ay.mono h d xs l h1,ay.mono h d r y' p⟩
theorem ay.mono(h:∀b,A b->A' b/\w'.heap[b]? =w.heap[b]?)(d:∀i v,ρ i=some v->ρ' i=some v):∀(as:List AV) (vs:List Value),ay w A ρ as vs->ay w' A' ρ' as vs
 | [],_,hv=>by simpa [ay] using hv
 | a::as,vs,hv=>by simp only [ay] at hv⊢;obtain⟨v,r,e,h1,f⟩:=hv;exact⟨v,r,e,al.mono h d a v h1,ay.mono h d as r f⟩
end
theorem ay.length:∀{as:List AV} {vs:List Value},ay w A ρ as vs->vs.length=as.length
 | [],_,h=>by simp only [ay] at h;simp [h]
 | a::as,vs,h=>by simp only [ay] at h;obtain⟨v,r,e,_,h⟩:=h;subst e;simp [ay.length h]
theorem ay.get:∀{as:List AV} {vs:List Value},ay w A ρ as vs->∀{k:Nat} {a:AV},as[k]? =some a->∃v,vs[k]? =some v/\al w A ρ a v
 | a::as,vs,h,0,b,e=>by simp only [ay] at h;obtain⟨v,r,rfl,h1,_⟩:=h;simp at e;subst e;exact⟨v,rfl,h1⟩
 | a::as,vs,h,k+1,b,e=>by simp only [ay] at h;obtain⟨v,r,rfl,_,h⟩:=h;obtain⟨u,d,hr⟩:=ay.get h (k:=k) (a:=b) (by simpa using e);exact⟨u,by simpa using d,hr⟩
theorem ay.append:∀{as bs:List AV} {vs us:List Value},ay w A ρ as vs->ay w A ρ bs us->ay w A ρ (as++bs) (vs++us)
 | [],_,_,_,h,h'=>by simp only [ay] at h;subst h;simpa using h'
 | a::as,bs,vs,us,h,h'=>by simp only [ay] at h;obtain⟨v,r,rfl,h1,h⟩:=h;simp only [S7,ay];exact⟨v,r++us,rfl,h1,ay.append h h'⟩
theorem ay.drop:∀{as:List AV} {vs:List Value},ay w A ρ as vs->∀n,ay w A ρ (as.drop n) (vs.drop n)
 | _,_,h,0=>by simpa using h
 | [],vs,h,n+1=>by simp only [ay] at h;subst h;simp [ay]
 | a::as,vs,h,n+1=>by simp only [ay] at h;obtain⟨v,r,rfl,h1,h⟩:=h;simpa using ay.drop h n
theorem ay.take:∀{as:List AV} {vs:List Value},ay w A ρ as vs->∀n,ay w A ρ (as.take n) (vs.take n)
 | _,_,_,0=>by simp [ay]
 | [],vs,h,n+1=>by simp only [ay] at h;subst h;simp [ay]
 | a::as,vs,h,n+1=>by simp only [ay] at h;obtain⟨v,r,rfl,h1,h⟩:=h;simp only [Ws,ay];exact⟨v,r.take n,rfl,h1,ay.take h n⟩
theorem ay.lU:∀{cs:List T} {vs:List Value},aR w A cs vs->ay w A ρ (cs.map .t) vs
 | [],_,h=>by simpa [ay,aR] using h
 | c::cs,vs,⟨v,r,e,h1,a⟩=>by simp only [TQ,ay];exact⟨v,r,e,by simpa [al] using h1,ay.lU a⟩
theorem aR.lT:∀{as:List AV} {cs:List T} {vs:List Value},eS as=some cs->ay w A ρ as vs->aR w A cs vs
 | [],cs,vs,h,hv=>by simp only [eS,SR] at h;subst h;simpa [aR,ay] using hv
 | a::as,cs,vs,h,hv=>by
  cases a <;> simp only [eS,reduceCtorEq] at h
  case t x=>
   cases b:eS as with
   | none=>simp [b] at h
   | some l=>simp only [b,S9,SR] at h;subst h;simp only [ay,al] at hv;obtain⟨v,r,e,h1,d⟩:=hv;exact⟨v,r,e,h1,aR.lT b d⟩
end
open Go
section
variable {R S α:Type}
theorem bx[Inhabited α](c:Option Bool)(m:Option α)(k:α->Option R)(f:R->Option S):(ab c m k).bind f=ab c m λa=>(k a).bind f:=by
 unfold ab;cases m with
 | some a=>rfl
 | none=>cases c with
  | none=>rfl
  | some b=>cases b <;> rfl
theorem aL[Inhabited α]{c:Option Bool}{m:Option α}{k:α->Option R}{r:R}(h:ab c m k=some r)(b:c=none\/c=some true):∃a,m=some a/\k a=some r:=by
 unfold ab at h;cases m with
 | some a=>exact⟨a,rfl,h⟩
 | none=>rcases b with rfl | rfl <;> simp at h
theorem lJ(c:Bool)(x y:Option R)(f:R->Option S):(cond c x y).bind f=cond c (x.bind f) (y.bind f):=by cases c <;> rfl
theorem cH(c:Prop)[Decidable c](x y:Option R)(f:R->Option S):(if c then x else y).bind f=if c then x.bind f else y.bind f:=by split <;> rfl
theorem bg(f:R->Option S):(none:Option R).bind f=none:=rfl
theorem CX(c:Option Bool):∀(n:Nat) (cs:List T) (K:List T->Option R) (f:R->Option S),(pe c n cs K).bind f=pe c n cs λx=>(K x).bind f
 | 0,_,_,_=>rfl
 | n+1,cs,K,f=>by simp only [pe,bx,CX c n]
theorem nW(k:Ck)(c:Option Bool)(x:T)(K:T->Option R)(f:R->Option S):(eZ k c x K).bind f=eZ k c x λx=>(K x).bind f:=by unfold eZ;cases k <;> simp only [bx]
theorem sE(c:Option Bool):∀(ks:List Ck) (xs:List T) (K:List T->Option R) (f:R->Option S),(eP c ks xs K).bind f=eP c ks xs λx=>(K x).bind f
 | [],_,_,_=>rfl
 | _::_,[],_,_=>rfl
 | k::ks,x::xs,K,f=>by simp only [eP,nW,sE c ks xs]
theorem Ky(op:BinOp)(k:IntKind)(c:Option Bool)(x y:T)(K:T->Option R)(f:R->Option S):(qY op k c x y K).bind f=qY op k c x y λx=>(K x).bind f:=by unfold qY;cases op <;> simp only [bx,bg]
theorem QZ(op:BinOp)(k ky:IntKind)(c:Option Bool)(x y:T)(K:T->Option R)(f:R->Option S):(so op k ky c x y K).bind f=so op k ky c x y λx=>(K x).bind f:=by unfold so;cases op <;> simp only [bx,bg]
theorem Rv(op:BinOp)(c:Option Bool)(x y:T)(K:T->Option R)(f:R->Option S):(sA op c x y K).bind f=sA op c x y λx=>(K x).bind f:=by unfold sA;cases op <;> simp only [bx,bg]
theorem F1(P:Program)(c:Option Bool)(t:TypeId)(x y:T)(K:Bool->Option R)(f:R->Option S):(lN P c t x y K).bind f=lN P c t x y λx=>(K x).bind f:=by unfold lN;split <;> simp only [bx,bg]
theorem F2(P:Program)(c:Option Bool):∀(ts:List TypeId) (xs a:List T) (K:Bool->Option R) (f:R->Option S),(eA P c ts xs a K).bind f=eA P c ts xs a λx=>(K x).bind f
 | [],[],[],_,_=>rfl
 | t::ts,x::xs,y::a,K,f=>by simp only [eA,F1,F2 P c ts xs a]
 | [],[],_::_,_,_=>rfl
 | [],_::_,_,_,_=>rfl
 | _::_,[],_,_,_=>rfl
 | _::_,_::_,[],_,_=>rfl
theorem KG(P:Program)(op:BinOp)(t ty:TypeId)(c:Option Bool)(x y:T)(K:T->Option R)(f:R->Option S):(qZ P op t ty c x y K).bind f=qZ P op t ty c x y λx=>(K x).bind f:=by unfold qZ;cases op <;> simp only [] <;> first | rfl | (split <;> simp only [Ky,QZ,Rv,bg])
theorem M9(P:Program)(c:Option Bool)(t:TypeId)(x y:AV)(K:Bool->Option R)(f:R->Option S):(pM P c t x y K).bind f=pM P c t x y λx=>(K x).bind f:=by unfold pM;split <;> simp only [lJ,bx,F1,F2,Tn,bg]
theorem Sv(P:Program)(op:UnOp)(t:TypeId)(c:Option Bool)(x:T)(K:T->Option R)(f:R->Option S):(sI P op t c x K).bind f=sI P op t c x λx=>(K x).bind f:=by unfold sI;split <;> simp only [bx,bg]
theorem uh(P:Program)(t:TypeId)(c:Option Bool)(cs:List T)(K:AV->Option R)(f:R->Option S):(kP P t c cs K).bind f=kP P t c cs λx=>(K x).bind f:=by unfold kP;simp only [lJ,bx,CX,nW,sE]
theorem Hg(P:Program)(t:TypeId)(cs:List AV)(K:AV->Option R)(f:R->Option S):(nA P t cs K).bind f=nA P t cs λx=>(K x).bind f:=by unfold nA;simp only [lJ,Tn]
theorem Cy(h:Id->Option aa)(c:Option Bool)(i:Id)(n:Nat)(K:Nat->Bool->List (List T)->Option R)(f:R->Option S):(lZ h c i n K).bind f=lZ h c i n λa b l=>(K a b l).bind f:=by unfold lZ;split <;> simp only [bx,bg]
theorem Ok(P:Program)(t:TypeId)(c:Option Bool)(i:Id)(sz az off:Nat)(e:Row)(K:AV->Option R)(f:R->Option S):(rP P t c i sz az off e K).bind f=rP P t c i sz az off e λx=>(K x).bind f:=by unfold rP;simp only [lJ,cH,bx,CX,nW,sE,bg]
theorem Oj(P:Program)(s:St)(c:Option Bool)(t:TypeId)(a:AV)(K:AV->Option R)(f:R->Option S):(jV P s c t a K).bind f=jV P s c t a λx=>(K x).bind f:=by
 unfold jV;rw [lJ];congr 1;split
 .split <;> simp only [Hg,uh,bg]
 .split <;> simp only [cH,bx,uh,Ok,bg]
 .simp only [Cy,cH,bx,uh,bg]
 .simp only [bx,uh]
 .rfl
theorem Rr(P:Program)(s:St)(t:TypeId)(a v:AV)(K:aH->Option R)(f:R->Option S):(jh P s t a v K).bind f=jh P s t a v λx=>(K x).bind f:=by
 unfold jh;rw [lJ];congr 1;split
 .split <;> simp only [cH,bg]
 .split
  .simp only [Tn,cH,bx,bg]
  .split
   .split <;> simp only [cH,bx,bg]
   .rfl
  .rfl
 .split <;> simp only [Tn,cH,bx,bg]
 .rfl
theorem pT(c:Option Bool)(i:Int)(n:Nat)(K:Option R)(f:R->Option S):(jT c i n K).bind f=jT c i n (K.bind f):=by unfold jT;simp only [bx]
theorem NX(P:Program)(s:St)(c:Option Bool)(t:TypeId)(x:AV)(i:Int)(K:AV->Option R)(f:R->Option S):(jy P s c t x i K).bind f=jy P s c t x i λx=>(K x).bind f:=by
 unfold jy;split
 .split
  .split <;> simp only [cH,pT,bg]
  .simp only [Cy,cH,pT,bg]
  .split <;> simp only [cH,pT,bg]
  .simp only [bx,pT]
  .rfl
 .split
  .rw [pT];congr 1;split <;> simp only [bx,bg]
  .rfl
theorem Nt(P:Program)(c:Option Bool)(t:TypeId)(x:AV)(k:Nat)(K:AV->Option R)(f:R->Option S):(rF P c t x k K).bind f=rF P c t x k λx=>(K x).bind f:=by
 unfold rF;split
 .rw [cH];congr 1;split <;> simp only [bx,bg]
 .rfl
theorem Nr(P:Program)(t:TypeId)(x:AV)(k:Nat)(K:AV->Option R)(f:R->Option S):(rE P t x k K).bind f=rE P t x k λx=>(K x).bind f:=by
 unfold rE;split
 .split <;> simp only [Hg,bg]
 .rfl
theorem Od(P:Program)(s:St)(c:Option Bool)(t:TypeId)(x:AV)(K:AV->Option R)(f:R->Option S):(ny P s c t x K).bind f=ny P s c t x λx=>(K x).bind f:=by
 unfold ny;split
 .split <;> simp only [bx,bg]
 .rfl
 .split
  .split <;> rfl
  .simp only [Cy]
  .rfl
  .simp only [bx]
  .rfl
 .rfl
theorem KM(s:St)(c:Option Bool)(g:Option Gs)(o:Option Operand)(K:Option Int->Option R)(f:R->Option S):(iP s c g o K).bind f=iP s c g o λx=>(K x).bind f:=by
 unfold iP;split
 .rfl
 .simp only [Tn,bx]
theorem Ra(P:Program)(s:St)(c:Option Bool)(t:TypeId)(x:AV)(a hi b:Option Int)(K:AV->Option R)(f:R->Option S):(nR P s c t x a hi b K).bind f=nR P s c t x a hi b λx=>(K x).bind f:=by
 unfold nR;split
 .split <;> simp only [bx,bg]
 .split
  .split
   .split <;> simp only [cH,bx,bg]
   .split <;> simp only [cH,bx,bg]
   .simp only [cH,bx,bg]
   .rfl
  .split
   .simp only [cH,bx,bg]
   .split <;> simp only [cH,bx,bg]
   .rfl
 .rfl
theorem Kt(P:Program)(s:St)(t:TypeId)(sz:Nat)(a:List T)(y:AV)(K:List (List T)->Option R)(f:R->Option S):(mn P s t sz a y K).bind f=mn P s t sz a y λx=>(K x).bind f:=by unfold mn;split <;> simp only [Tn,cH,bx,bg]
theorem Kp(P:Program)(s:St)(d:Nat)(e:TypeId)(i:Id)(sz az rsz nx:Nat)(es:List Row)(j:Id)(cs:List AV)(K:AV->aH->Option R)(f:R->Option S):(pD P s d e i sz az rsz nx es j cs K).bind f=pD P s d e i sz az rsz nx es j cs λv u=>(K v u).bind f:=by
 unfold pD;rw [cH];congr 1;rw [Tn];congr 1;funext l;split
 .split <;> simp only [cH,bx,bg]
 .split <;> simp only [cH,bx,bg]
 .rfl
theorem Kn(P:Program)(s:St)(d:Nat)(rw:Bool)(t ty:TypeId)(x y:AV)(K:AV->aH->Option R)(f:R->Option S):(kF P s d rw t ty x y K).bind f=kF P s d rw t ty x y λv u=>(K v u).bind f:=by
 unfold kF;rw [Tn];congr 1;funext e;rw [Tn];congr 1;funext b;rw [cH];congr 1;split
 .split <;> simp only [Kp,bg]
 .rw [Kt];congr 1;funext a;split
  .split <;> simp only [cH,bx,bg]
  .split <;> simp only [cH,bx,bg]
  .simp only [Tn,bx]
  .rfl
theorem Oy(P:Program)(d:Nat)(t:TypeId)(a:Nat)(n m:T)(K:AV->aH->Option R)(f:R->Option S):(rR P d t a n m K).bind f=rR P d t a n m λv u=>(K v u).bind f:=by unfold rR;rw [Tn];congr 1;funext e;rw [Tn];congr 1;funext b;rw [bx];congr 1;funext n;rw [bx];congr 1;funext m;rw [cH];congr 1;rw [bx];congr 1;funext _;rw [lJ];congr 1;split <;> simp only [cH,bg]
theorem Bv(P:Program)(k:TypeId)(c:Option Bool)(v:AV)(K:Bool->List Ck->List T->Option R)(f:R->Option S):(oJ P k c v K).bind f=oJ P k c v λa b l=>(K a b l).bind f:=by unfold oJ;rw [Tn];congr 1;funext q;split <;> simp only [sE,Tn,cH,bg]
theorem Ou(P:Program)(s:St)(c:Option Bool)(t:TypeId)(x k:AV)(ok:Bool)(K:AV->Option R)(f:R->Option S):(nB P s c t x k ok K).bind f=nB P s c t x k ok λv=>(K v).bind f:=by
 unfold nB;rw [Tn];congr 1;funext q;rw [Tn];congr 1;funext z;rw [Bv];congr 1;funext a b l;split
 .split
  .rw [cH];simp only [nW,bg]
  .rfl
 .rfl
theorem OA(P:Program)(d:Nat)(t:TypeId)(K:AV->aH->Option R)(f:R->Option S):(rS P d t K).bind f=rS P d t λv u=>(K v u).bind f:=by unfold rS;simp only [Tn,cH,bg]
theorem Lm(P:Program)(s:St)(t:TypeId)(x k:AV)(K:aH->Option R)(f:R->Option S):(m6 P s t x k K).bind f=m6 P s t x k λu=>(K u).bind f:=by
 unfold m6;rw [Tn];congr 1;funext q;rw [Bv];congr 1;funext a b l;split
 .split
  .rw [cH];rfl
  .rfl
 .rfl
theorem PQ(P:Program)(s:St)(t:TypeId)(x k v:AV)(K:aH->Option R)(f:R->Option S):(nJ P s t x k v K).bind f=nJ P s t x k v λu=>(K u).bind f:=by
 unfold nJ;rw [Tn];congr 1;funext q;rw [Bv];congr 1;funext a b l;split
 .split
  .rw [cH];simp only [Tn,nW,bg]
  .rfl
 .rfl
theorem BJ(k:IntKind)(c:Option Bool)(b:Bool):∀(l:List T) (a:Int) (K:T->Option R) (f:R->Option S),(oM k c b a l K).bind f=oM k c b a l λx=>(K x).bind f
 | [],_,_,_=>rfl
 | y::r,a,K,f=>by simp only [oM,bx,BJ k c b r]
theorem K9(P:Program)(c:Option Bool)(a b:TypeId)(x:T)(K:T->Option R)(f:R->Option S):(rm P c a b x K).bind f=rm P c a b x λx=>(K x).bind f:=by unfold rm;split <;> simp only [bx,bg]
theorem Ew(ids:List Id)(d:Nat)(c:Option Bool)(j:Nat)(r:bO)(x:T)(K:AV->aH->Nat->Option R)(f:R->Option S):(mw ids d c j r x K).bind f=mw ids d c j r x λv u j=>(K v u j).bind f:=by
 unfold mw;split
 .exact nW _ _ _ _ _
 .exact nW _ _ _ _ _
 .split <;> simp only [bx,bg]
 .split <;> simp only [bg]
 .split <;> simp only [bg]
 .split <;> simp only [bx,bg]
 .split <;> simp only [bx,bg]
 .rfl
 .rfl
 .rfl
theorem xg(ids:List Id)(d:Nat)(c:Option Bool):∀(a:List bO) (j:Nat) (xs:List T) (K:List AV->aH->Nat->Option R) (f:R->Option S),(jO ids d c j a xs K).bind f=jO ids d c j a xs λv u j=>(K v u j).bind f
 | [],_,_,_,_=>rfl
 | r::a,j,xs,K,f=>by simp only [jO,bx,Ew,xg ids d c a]
theorem pG(ids:List Id)(d:Nat)(c:Option Bool):∀(a:List bO) (j:Nat) (xs:List T) (K:List AV->aH->Nat->Option R) (f:R->Option S),(dO ids d c j a xs K).bind f=dO ids d c j a xs λv u j=>(K v u j).bind f
 | [],_,_,_,_=>rfl
 | r::a,j,xs,K,f=>by
  cases r
  case new l=>cases c <;> simp only [dO,xg,pG ids d _ a,bg]
  all_goals simp only [dO,bx,Ew,xg,pG ids d c a]
theorem xk(all:List Id)(d:Nat):∀(a:List jG) (b:List Id) (j:Nat) (xs:List T) (K:aH->Option R) (f:R->Option S),(fV all d j b a xs K).bind f=fV all d j b a xs λu=>(K u).bind f
 | [],[],_,_,_,_=>rfl
 | [],_::_,_,_,_,_=>rfl
 | r::a,[],_,_,_,_=>by cases r <;> rfl
 | r::a,i::b,j,xs,K,f=>by cases r <;> simp only [fV,bx,xg,xk all d a]
theorem RF(P:Program)(c:Option Bool)(t:TypeId)(v:AV)(K:AV->Option R)(f:R->Option S):(mQ P c t v K).bind f=mQ P c t v λx=>(K x).bind f:=by
 unfold mQ;split
 .exact nW _ _ _ _ _
 .split
  .exact sE _ _ _ _ _
  .rfl
 .rfl
theorem C0(P:Program)(c:Option Bool):∀(ts:List TypeId) (vs:List AV) (K:List AV->Option R) (f:R->Option S),(jk P c ts vs K).bind f=jk P c ts vs λx=>(K x).bind f
 | [],_,_,_=>rfl
 | _::_,[],_,_=>rfl
 | t::ts,v::vs,K,f=>by simp only [jk,RF,C0 P c ts vs]
theorem D8(P:Program)(A:cE)(O:aA)(s:St)(d:Nat)(c:Option Bool)(g:FuncId)(args:List AV)(K:AV->aH->Option R)(f:R->Option S):
  (gD P A O s d c g args K).bind f=gD P A O s d c g args λv u=>(K v u).bind f:=by
 unfold gD;split
 .rfl
 .split
  .simp only [Tn,bx,pG,C0]
  .split
   .rfl
   .simp only [Tn,lJ,bg,bx,pG,xk,C0]
theorem KA(h:Id->Option aa)(i new:Id)(n rsz:Nat)(K:aH->Option R)(f:R->Option S):(tw h i new n rsz K).bind f=tw h i new n rsz λu=>(K u).bind f:=by
 unfold tw;split
 .rw [cH];simp only [bx,bg]
 .rfl
theorem KW(hI:Bool)(P:Program)(A:cE)(O:aA)(s:St)(d:Nat)(c:Option Bool)(g:FuncId)(args:List AV)(K:AV->aH->Option R)(f:R->Option S):
  (jr hI P A O s d c g args K).bind f=jr hI P A O s d c g args λv u=>(K v u).bind f:=by
 unfold jr;split
 .exact D8 _ _ _ _ _ _ _ _ _ _
 .split
  .simp only [bx,lJ,D8,KA,bg]
  .rfl
theorem GN(c:Option Bool)(v:AV)(K:Int->Option R)(f:R->Option S):(oI c v K).bind f=oI c v λx=>(K x).bind f:=by unfold oI;simp only [Tn,bx]
theorem zW(P:Program)(A:cE)(O:aA)(g:Option Gs)(o:Oper)(s:St)(K:AV->aH->Option R)(f:R->Option S):
  (jq P A O g o s K).bind f=jq P A O g o s λv u=>(K v u).bind f:=by
 unfold jq;cases o.op <;> dsimp only
 case pick=>simp only [Tn,bx]
 case alloc=>split <;> simp only [Tn,bg]
 case box=>split <;> simp only [cH,bg]
 case build=>simp only [Tn]
 case buildSlice=>
  rw [Tn];congr 1;funext e;rw [cH];congr 1
  .split <;> simp only [cH,bg]
  rw [cH];congr 1;rw [cH];congr 1;rw [Tn];congr 1;funext q;split <;> rfl
 case load=>simp only [Oj]
 case store=>split <;> simp only [Rr,bg]
 case nilCheck=>split <;> simp only [bx,bg]
 case binOp=>split <;> simp only [Tn,M9,KG]
 case unOp=>simp only [Tn,Sv]
 case convert=>
  split
  .split <;> simp only [Tn,bx,bg]
  .simp only [Tn,K9]
 case makeFunc=>split <;> simp_all
 case makeSlice=>split <;> simp only [Tn,Oy,bg]
 case makeMap=>split <;> simp only [OA,bg]
 case lookup=>simp only [Ou]
 case mapUpdate=>split <;> simp only [PQ,bg]
 case slice=>simp only [KM,Ra]
 case fieldAddr=>simp only [Nt]
 case field=>simp only [Nr]
 case indexAddr=>simp only [GN,NX]
 case index=>
  simp only [GN];congr 1;funext n;split
  .simp only [Tn,bx,pT]
  .split <;> simp only [lJ,Tn,pT,uh,bg]
  .rfl
 case extract=>split <;> simp only [Tn,bg]
 case call a=>
  split
  .split <;> simp only [Od,bg]
  .split <;> simp only [Kn,bg]
  .split
   .rw [Tn];congr 1;funext l;split <;> simp only [bx,BJ,bg]
   .rfl
  .split
   .rw [Tn];congr 1;funext l;split <;> simp only [bx,BJ,bg]
   .rfl
  .split <;> simp only [Lm,bg]
  ·(repeat' split) <;> simp only [lJ,bg]
  .split <;> simp only [KW,bg]
  .rfl
 all_goals rfl
def dh(P:Program)(A:cE)(O:aA)(g:Option Gs)(o:Oper)(s:St):Option (AV×aH):=jq P A O g o s λv u=>some (v,u)
theorem qX(P:Program)(A:cE)(O:aA)(g:Option Gs)(o:Oper)(s:St)(K:AV->aH->Option R):jq P A O g o s K= (dh P A O g o s).bind λp=>K p.1 p.2:=by unfold dh;rw [zW];rfl
theorem GH(a:Array Oper)(o:Oper)(s:St)(K:Option Gs->Option R)(f:R->Option S):(dr a o s K).bind f=dr a o s λg=>(K g).bind f:=by
 unfold dr;split
 .rfl
 .split
  .rfl
  .simp only [Tn,bx]
theorem xV(a:Array Oper)(o:Oper)(s:St)(K:Option Gs->Option R):dr a o s K= (dr a o s some).bind K:=by rw [GH];rfl
def eW(P:Program)(A:cE)(O:aA)(a:Bool)(nt:Nat)(b:Array Oper)(o:Oper)(s:St):Option St:=oW P A O a nt b o s some
theorem Pu(P:Program)(A:cE)(O:aA)(a:Bool)(nt:Nat)(b:Array Oper)(o:Oper)(s:St)(K:St->Option R):oW P A O a nt b o s K= (eW P A O a nt b o s).bind K:=by
 unfold eW oW;rw [GH];congr 1;funext g;cases qq A a o g with
 | none=>dsimp only;rw [zW];congr 1;funext v u;rw [cH];rfl
 | some d=>
  dsimp only;cases xt nt o d with
  | false=>rfl
  | true=>
   cases d.c with
   | false=>rfl
   | true=>simp only [cond_true];rw [zW];congr 1;funext v u;rw [cH];rfl
def jc(P:Program)(A:cE)(O:aA)(a:Bool)(nt:Nat)(b:Array Oper):List Oper->St->Option St
 | [],s=>some s
 | o::r,s=>(eW P A O a nt b o s).bind (jc P A O a nt b r)
theorem Cv(P:Program)(A:cE)(O:aA)(a:Bool)(nt:Nat)(b:Array Oper):∀(l:List Oper) (s:St) (K:St->Option R),uI P A O a nt b l s K= (jc P A O a nt b l s).bind K
 | [],_,_=>rfl
 | o::r,s,K=>by simp only [uI,jc,Pu,Tn];congr 1;funext s';exact Cv P A O a nt b r s' K
end
open Go
structure Ctx where
 A0:Nat->Prop
 M:Nat->Prop
 N0:Nat
def Ctx.MO(c:Ctx)(b:Nat):Prop:=c.M b\/c.N0<=b
def AA(c:Ctx)(w:World)(O:Id->Option Nat)(b:Nat):Prop:=(c.A0 b\/c.MO b)/\b < w.heap.size/\∀i,O i≠some b
def cK(w:World)(A:Nat->Prop)(sz:Nat)(b:Bool)(l:List (List T))(v:Value)(Q:Nat->Prop):Prop:=
 ∃a cap,v= .slice a l.length cap/\l.length<=cap/\(a=none↔b=true)/\True/\
  (cap=0\/∃ah off arr t,a=some ⟨ah,off,none⟩/\Q ah/\w.heap[ah]? =some (.cells arr t (0,0))/\off+cap * sz<=arr.size/\aY w A ah sz off l)
def iJ(w:World)(A:Nat->Prop)(ρ:Id->Option Value)(O:Id->Option Nat)(i:Id)(ah sz az rsz base:Nat)(e:Row):Prop:=
 e.cs.length=sz/\az < sz/\(∀j x,j≠az->e.cs[j]? =some x->∃v,w.cell? ⟨ah,base+j,none⟩=some v/\ax w A x v)/\
 ∃v,w.cell? ⟨ah,base+az,none⟩=some v/\ρ (.g i e.n)=some v/\
  match e.own with
  | some p=>cK w A rsz p.1 p.2 v (λb=>O (.g i e.n)=some b)
  | none=>O (.g i e.n)=none
def bZ(w:World)(A:Nat->Prop)(ρ:Id->Option Value)(O:Id->Option Nat)(i:Id)(ah sz az rsz:Nat):Nat->List Row->Prop
 | _,[]=>True
 | base,e::es=>iJ w A ρ O i ah sz az rsz base e/\bZ w A ρ O i ah sz az rsz (base+sz) es
def oo(ρ:Id->Option Value)(O:Id->Option Nat)(i:Id)(nx:Nat)(es:List Row):Prop:=
 (es.map (·.n)).Nodup/\(∀e∈es,e.n < nx)/\(∀n,nx<=n->ρ (.g i n)=none)/\∀n b,O (.g i n)=some b->∃e∈es,e.n=n
def cR(w:World)(A:Nat->Prop)(ρ:Id->Option Value)(O:Id->Option Nat)(i:Id):aa->Prop
 | .box cs=>∃b arr t,ρ i=some (.pointer (some ⟨b,0,none⟩))/\O i=some b/\w.heap[b]? =some (.cells arr t (0,0))/\ay w A ρ cs arr.toList/\
   (∀u∈arr.toList,u.oneCell'=true/\u.cells= #[u])
 | .sl g sz b l=>∃v,ρ i=some v/\cK w A sz b l v (λah=>if g=true then A ah else O i=some ah)/\(g=true->O i=none)
 | .iC l=>∃b,ρ i=some (.pointer (some ⟨b,0,none⟩))/\O i=none/\A b/\aV w A b 0 l
 | .arr cs=>∃b arr t,ρ i=some (.slice (some ⟨b,0,none⟩) 1 1)/\O i=some b/\w.heap[b]? =some (.cells arr t (0,0))/\ay w A ρ cs arr.toList/\
   (∀u∈arr.toList,u.oneCell'=true/\u.cells= #[u])
 | .mp ag ks vk es=>∃b d f,ρ i=some (.map (some b))/\O i=some b/\w.heap[b]? =some (.map d f)/\
   d.toList.map (λe=>(e.key,e.val))=es.map (λp=>(cW ag p.1,dv p.2))/\(es.all λp=>bR ks p.1 && dI vk p.2)=true
 | .rows b sz az rsz nx es=>∃a cap,ρ i=some (.slice a es.length cap)/\es.length<=cap/\(a=none↔b=true)/\oo ρ O i nx es/\
   (cap=0\/∃ah off arr t,a=some ⟨ah,off,none⟩/\O i=some ah/\w.heap[ah]? =some (.cells arr t (0,0))/\off+cap * sz<=arr.size/\bZ w A ρ O i ah sz az rsz off es)
 | .dead=>(∃v,ρ i=some v/\v.oneCell'=true/\v.cells= #[v])/\O i=none
structure HS (c:Ctx) (w:World) (h:Id->Option aa) (ρ:Id->Option Value) (O:Id->Option Nat):Prop where
 ah:∀i b,h i=some b->cR w (AA c w O) ρ O i b
 ch:∀i,i.real=true->h i=none->ρ i=none/\O i=none
 dH:∀i n,h (.g i n)=none
 fq:∀i n,h i=none->ρ (.g i n)=none/\O (.g i n)=none
 gone:∀i n u,ρ (.g i n)=some u->u.oneCell'=true/\u.cells= #[u]
 inj:∀i j b,O i=some b->O j=some b->i=j
 lt:∀i b,O i=some b->b < w.heap.size
 own:∀i b,O i=some b->c.MO b
 size:c.N0<=w.heap.size
structure Le (w:World) (ρ:Id->Option Value) (O:Id->Option Nat) (w':World) (ρ':Id->Option Value) (O':Id->Option Nat):Prop where
 os:w'.os=w.os
 output:w'.output=w.output
 tape:w'.tape=w.tape
 size:w.heap.size<=w'.heap.size
 eF:∀i v,ρ i=some v->ρ' i=some v
 ah:∀b,b < w.heap.size->(∀i,O i≠some b)->w'.heap[b]? =w.heap[b]?
 own:∀i b,O' i=some b->(∃j,O j=some b)\/w.heap.size<=b
section
variable {c:Ctx} {w w' w'':World} {h h':Id->Option aa} {ρ ρ' ρ'':Id->Option Value} {O O' O'':Id->Option Nat}
theorem Le.refl:Le w ρ O w ρ O:=⟨rfl,rfl,rfl,Tl _,λ_ _ h=>h,λ_ _ _=>rfl,λi b h=> .inl ⟨i,h⟩⟩
theorem Le.trans(a:Le w ρ O w' ρ' O')(b:Le w' ρ' O' w'' ρ'' O''):Le w ρ O w'' ρ'' O'' where
 os:=b.os.trans a.os
 output:=b.output.trans a.output
 tape:=b.tape.trans a.tape
 size:=Tz a.size b.size
 eF i v h:=b.eF i v (a.eF i v h)
 ah k hk hn:=by
  rw [b.ah k (Ux hk a.size),a.ah k hk hn];intro i hi;rcases a.own i k hi with⟨j,hj⟩ | h
  .exact hn j hj
  .omega
 own i k hi:=by
  rcases b.own i k hi with⟨j,hj⟩ | h
  .exact a.own j k hj
  .exact .inr (Tz a.size h)
theorem Le.A(le:Le w ρ O w' ρ' O')(b:Nat)(a:AA c w O b):AA c w' O' b/\w'.heap[b]? =w.heap[b]?:=by
 refine⟨⟨a.1,Ux a.2.1 le.size,λi hi=> ?_⟩,le.ah b a.2.1 a.2.2⟩;rcases le.own i b hi with⟨j,d⟩ | h
 .exact a.2.2 j d
 .have:=a.2.1;omega
theorem cK.mono{A A' Q g:Nat->Prop}{sz:Nat}{b:Bool}{l:List (List T)}{v:Value}(p:∀b,A b->A' b/\w'.heap[b]? =w.heap[b]?)
  (f:∀b,Q b->g b/\w'.heap[b]? =w.heap[b]?) (hs:cK w A sz b l v Q):cK w' A' sz b l v g:=by
 obtain⟨a,cap,h1,m,n,o,e⟩:=hs;refine⟨a,cap,h1,m,n,o, ?_⟩;rcases e with e | ⟨ah,off,arr,t,i,d,e3,j,k⟩
 .exact .inl e
 .exact .inr ⟨ah,off,arr,t,i,(f _ d).1,by rw [(f _ d).2];exact e3,j,aY.nC p ah sz (f _ d).2 off l k⟩
def qK(i:Id)(w:World)(ρ:Id->Option Value)(O:Id->Option Nat)(w':World)(ρ':Id->Option Value)(O':Id->Option Nat):Prop:=
 ∀n,ρ' (.g i n)=ρ (.g i n)/\O' (.g i n)=O (.g i n)/\∀b,O (.g i n)=some b->w'.heap[b]? =w.heap[b]?
theorem iJ.mono{A A':Nat->Prop}{i:Id}{ah sz az rsz base:Nat}{e:Row}(f:∀b,A b->A' b/\w'.heap[b]? =w.heap[b]?)(hb:w'.heap[ah]? =w.heap[ah]?)(a:qK i w ρ O w' ρ' O')(h:iJ w A ρ O i ah sz az rsz base e):
  iJ w' A' ρ' O' i ah sz az rsz base e:=by
 obtain⟨h1,m,o,v,q,r,t⟩:=h;have g:∀p,w'.cell? ⟨ah,p,none⟩=w.cell? ⟨ah,p,none⟩:=λp=>mY hb;refine⟨h1,m,λj x y z=> ?_,v,by rw [g];exact q,by rw [(a e.n).1];exact r, ?_⟩
 .obtain⟨u,l,d⟩:=o j x y z;exact⟨u,by rw [g];exact l,ax.mono f x u d⟩
 .revert t;cases e.own with
  | none=>intro h;simp only at h⊢;rw [(a e.n).2.1];exact h
  | some p=>intro d;refine cK.mono f (λb k=> ?_) d;rw [(a e.n).2.1];exact⟨k,(a e.n).2.2 b k⟩
theorem bZ.mono{A A':Nat->Prop}{i:Id}{ah sz az rsz:Nat}(a:∀b,A b->A' b/\w'.heap[b]? =w.heap[b]?)(hb:w'.heap[ah]? =w.heap[ah]?)(d:qK i w ρ O w' ρ' O'):∀{es:List Row} {base:Nat},bZ w A ρ O i ah sz az rsz base es->
  bZ w' A' ρ' O' i ah sz az rsz base es
 | [],_,_=>trivial
 | e::es,base,h=>⟨iJ.mono a hb d h.1,bZ.mono a hb d h.2⟩
theorem cK.ft{A A' Q a:Nat->Prop}{sz:Nat}{b:Bool}{l:List (List T)}{v:Value}(d:∀b,A b->A' b/\w'.heap[b]? =w.heap[b]?)
  (e:∀b,Q b->a b/\w'.heap[b]? =w.heap[b]?) (hs:cK w A sz b l v Q):cK w' A' sz b l v a:=cK.mono d e hs
theorem iJ.move{A A':Nat->Prop}{i i':Id}{ah blk' sz az rsz base a:Nat}{e:Row}(l:∀j,j < sz->w'.cell? ⟨blk',a+j,none⟩=w.cell? ⟨ah,base+j,none⟩)(k:∀b,A b->A' b/\w'.heap[b]? =w.heap[b]?)
  (h1:ρ' (.g i' e.n)=ρ (.g i e.n)) (f:O' (.g i' e.n)=O (.g i e.n)) (D:∀b,O (.g i e.n)=some b->w'.heap[b]? =w.heap[b]?) (h:iJ w A ρ O i ah sz az rsz base e):iJ w' A' ρ' O' i' blk' sz az rsz a e:=by
 obtain⟨q,d,r,v,t,y,z⟩:=h;refine⟨q,d,λj x E o=> ?_,v,by rw [l _ d];exact t,by rw [h1];exact y, ?_⟩
 .obtain⟨u,B,C⟩:=r j x E o;have:=(Ta.1 o).1;exact⟨u,by rw [l j (by omega)];exact B,ax.mono k x u C⟩
 .revert z;cases e.own with
  | none=>intro h;simp only at h⊢;rw [f];exact h
  | some p=>intro g;refine cK.mono k (λb m=> ?_) g;rw [f];exact⟨m,D b m⟩
theorem bZ.move{A A':Nat->Prop}{i i':Id}{ah blk' sz az rsz:Nat}(d:∀b,A b->A' b/\w'.heap[b]? =w.heap[b]?):∀{es:List Row} {base a:Nat},
  (∀p,p < es.length * sz->w'.cell? ⟨blk',a+p,none⟩=w.cell? ⟨ah,base+p,none⟩)->(∀e∈es,ρ' (.g i' e.n)=ρ (.g i e.n)/\O' (.g i' e.n)=O (.g i e.n)/\∀b,O (.g i e.n)=some b->w'.heap[b]? =w.heap[b]?)->
  bZ w A ρ O i ah sz az rsz base es->bZ w' A' ρ' O' i' blk' sz az rsz a es
 | [],_,_,_,_,_=>trivial
 | e::es,base,a,f,k,h=>by
  have el:(e::es).length * sz=sz+es.length * sz:=by simp [T2];omega
  obtain⟨h1,l,m⟩:=k e SW;refine⟨iJ.move (λj q=>f j (by omega)) d h1 l m h.1,bZ.move d (λp r=> ?_) (λe o=>k e (SY _ o)) h.2⟩;rw [VK,VK];exact f (sz+p) (by omega)
theorem bZ.append{A:Nat->Prop}{i:Id}{ah sz az rsz:Nat}:∀{es a:List Row} {base:Nat},bZ w A ρ O i ah sz az rsz base es->bZ w A ρ O i ah sz az rsz (base+es.length * sz) a->bZ w A ρ O i ah sz az rsz base (es++a)
 | [],a,base,_,h=>by simpa using h
 | e::es,a,base,h,h'=>by
  refine⟨h.1,bZ.append h.2 ?_⟩;have:base+sz+es.length * sz=base+ (e::es).length * sz:=by simp [T2];omega
  rw [this];exact h'
theorem bZ.set{A A':Nat->Prop}{i:Id}{ah sz az rsz:Nat}{x:Row}(m:∀b,A b->A' b/\w'.heap[b]? =w.heap[b]?):∀{es:List Row} {base k:Nat},k < es.length->
  (∀p,base<=p->p < base+es.length * sz->¬(base+k * sz<=p/\p < base+k * sz+sz)->w'.cell? ⟨ah,p,none⟩=w.cell? ⟨ah,p,none⟩)->
  (∀j e,j≠k->es[j]? =some e->ρ' (.g i e.n)=ρ (.g i e.n)/\O' (.g i e.n)=O (.g i e.n)/\∀b,O (.g i e.n)=some b->w'.heap[b]? =w.heap[b]?)->
  iJ w' A' ρ' O' i ah sz az rsz (base+k * sz) x->bZ w A ρ O i ah sz az rsz base es->bZ w' A' ρ' O' i ah sz az rsz base (es.set k x)
 | [],_,_,f,_,_,_,_=>by simp at f
 | e::es,base,0,f,a,d,r,h=>by
  have el:(e::es).length * sz=sz+es.length * sz:=by simp [T2];omega
  refine⟨by simpa using r,bZ.move m (λp y=>a _ (by omega) (by omega) (by omega)) (λl o=> ?_) h.2⟩;obtain⟨j,q⟩:=Wa.1 o;exact d (j+1) l (by omega) (by simpa using q)
 | e::es,base,k+1,f,a,d,r,h=>by
  have el:(e::es).length * sz=sz+es.length * sz:=by simp [T2];omega
  have v:(k+1) * sz=sz+k * sz:=by rw [T2];omega
  obtain⟨h1,t,u⟩:=d 0 e (by omega) rfl;refine⟨iJ.move (λj q=>a _ (by omega) (by omega) (by omega)) m h1 t u h.1,bZ.set m (by simpa using f) (λp z B C=>a p (by omega) (by omega) (by omega)) (λj l q o=>d (j+1) l (by omega) (by simpa using o)) ?_ h.2⟩;rw [show base+sz+k * sz=base+ (k+1) * sz by omega];exact r
theorem oo.mono{i:Id}{nx:Nat}{es:List Row}(d:qK i w ρ O w' ρ' O')(h:oo ρ O i nx es):oo ρ' O' i nx es:=
 ⟨h.1,h.2.1,λn a=>by rw [(d n).1];exact h.2.2.1 n a,λn b a=>by rw [(d n).2.1] at a;exact h.2.2.2 n b a⟩
theorem cR.mono{A A':Nat->Prop}{i:Id}(r:qK i w ρ O w' ρ' O')(m:∀b,A b->A' b/\w'.heap[b]? =w.heap[b]?)(e:∀i v,ρ i=some v->ρ' i=some v)(k:O' i=O i)
  (hb:∀b,O i=some b->w'.heap[b]? =w.heap[b]?):∀{b:aa},cR w A ρ O i b->cR w' A' ρ' O' i b
 | .box cs,⟨b,arr,t,f,d,e3,g,j⟩=>⟨b,arr,t,e _ _ f,by rw [k];exact d,by rw [hb _ d];exact e3,ay.mono m e cs _ g,j⟩
 | .sl u sz b l,⟨v,f,d,e3⟩=>by
  refine⟨v,e _ _ f,cK.mono m (λb n=> ?_) d,by rw [k];exact e3⟩;cases u
  .simp only [Tv,if_false] at n⊢;exact⟨by rw [k];exact n,hb _ n⟩
  .simp only [if_true] at n⊢;exact m _ n
 | .iC l,⟨b,f,d,e3,g⟩=>⟨b,e _ _ f,by rw [k];exact d,(m b e3).1,aV.mono m b e3 0 l g⟩
 | .arr cs,⟨b,arr,t,f,d,e3,g,j⟩=>⟨b,arr,t,e _ _ f,by rw [k];exact d,by rw [hb _ d];exact e3,ay.mono m e cs _ g,j⟩
 | .mp ag ks vk es,⟨b,p,o,f,d,e3,g,j⟩=>⟨b,p,o,e _ _ f,by rw [k];exact d,by rw [hb _ d];exact e3,g,j⟩
 | .rows b sz az rsz nx es,h=>by
  obtain⟨a,cap,f,d,e3,g,j⟩:=h;refine⟨a,cap,e _ _ f,d,e3,g.mono r, ?_⟩;rcases j with j | ⟨ah,off,arr,t,q1,q,x,y,z⟩
  .exact .inl j
  .exact .inr ⟨ah,off,arr,t,q1,by rw [k];exact q,by rw [hb _ q];exact x,y,z.mono m (hb _ q) r⟩
 | .dead,⟨⟨v,f,e3⟩,d⟩=>⟨⟨v,e _ _ f,e3⟩,by rw [k];exact d⟩
def GK(w:World)(ρ:Id->Option Value)(O:Id->Option Nat)(w':World)(ρ':Id->Option Value)(O':Id->Option Nat):Prop:= ∀i,qK i w ρ O w' ρ' O'
theorem GK.refl:GK w ρ O w ρ O:=λ_ _=>⟨rfl,rfl,λ_ _=>rfl⟩
theorem HS.real(hs:HS c w h ρ O){i:Id}(hi:h i≠none):i.real=true:=by
 cases i with
 | g i n=>exact(hi (hs.dH i n)).elim
 | _=>rfl
theorem HS.oF(hs:HS c w h ρ O)(le:Le w ρ O w' ρ' O')
  (hblk:∀i b,h' i=some b->(h i=some b/\O' i=O i/\(∀ah,O i=some ah->w'.heap[ah]? =w.heap[ah]?)/\qK i w ρ O w' ρ' O')\/cR w' (AA c w' O') ρ' O' i b)
  (hnone:∀i,i.real=true->h' i=none->ρ' i=none/\O' i=none) (hnog:∀i n,h' (.g i n)=none)
  (hgd:∀i n,h' i=none->ρ' (.g i n)=none/\O' (.g i n)=none) (hgo:∀i n u,ρ' (.g i n)=some u->u.oneCell'=true/\u.cells= #[u])
  (inj:∀i j b,O' i=some b->O' j=some b->i=j) (lt:∀i b,O' i=some b->b < w'.heap.size):HS c w' h' ρ' O' where
 ah i b hb:=by
  rcases hblk i b hb with⟨h1,h2,h3,h4⟩ | h1
  .exact cR.mono h4 (λb ha=>le.A b ha) le.eF h2 h3 (hs.ah i b h1)
  .exact h1
 ch:=hnone
 dH:=hnog
 fq:=hgd
 gone:=hgo
 inj:=inj
 lt:=lt
 own i b hi:=by
  rcases le.own i b hi with⟨j,hj⟩ | h
  .exact hs.own j b hj
  .exact .inr (Tz hs.size h)
 size:=Tz hs.size le.size
theorem HS.go(hs:HS c w h ρ O)(le:Le w ρ O w' ρ' O')(a:GK w ρ O w' ρ' O')
  (e:∀i b,h' i=some b->(h i=some b/\O' i=O i/\(∀ah,O i=some ah->w'.heap[ah]? =w.heap[ah]?))\/cR w' (AA c w' O') ρ' O' i b)
  (d:∀i,i.real=true->h' i=none->ρ' i=none/\O' i=none) (o:∀i,h' i=none->h i=none) (f:∀i n,h' (.g i n)=none)
  (inj:∀i j b,O' i=some b->O' j=some b->i=j) (lt:∀i b,O' i=some b->b < w'.heap.size):HS c w' h' ρ' O':=
 hs.oF le (λi b hb=>by
  rcases e i b hb with⟨h1,l,m⟩ | h1
  .exact .inl ⟨h1,l,m,a i⟩
  .exact .inr h1) d f (λi n hi=>by
  have:=hs.fq i n (o i hi);rw [(a i n).1,(a i n).2.1];exact this) (λi n u k=>by rw [(a i n).1] at k;exact hs.gone i n u k) inj lt
theorem HS.world(hs:HS c w h ρ O)(le:Le w ρ O w' ρ O)(ft:∀i ah,O i=some ah->w'.heap[ah]? =w.heap[ah]?):HS c w' h ρ O:=
 hs.go le (λi n=>⟨rfl,rfl,λb hb=>ft _ b hb⟩) (λi _ hb=> .inl ⟨hb,rfl,λah h=>ft i ah h⟩) hs.ch (λ_ h=>h) hs.dH hs.inj λi b h=>Ux (hs.lt i b h) le.size
def aB{α:Type}(f:Id->Option α)(i:Id)(v:Option α):Id->Option α:=λj=>if j=i then v else f j
@[simp] theorem aD {α:Type} (f:Id->Option α) (i:Id) (v:Option α):aB f i v i=v:=by simp [aB]
theorem ar{α:Type}(f:Id->Option α){i j:Id}(v:Option α)(h:j≠i):aB f i v j=f j:=by simp [aB,h]
theorem dZ(h:Id->Option aa)(i:Id)(b:aa):aK h [(i,b)]=aB h i (some b):=rfl
theorem cY(h:Id->Option aa)(i:Id)(b:aa)(us:aH):aK h ((i,b)::us)=aK (aB h i (some b)) us:=rfl
theorem mf(h:Id->Option aa):∀(us vs:aH),aK h (us++vs)=aK (aK h us) vs
 | [],_=>rfl
 | (i,b)::us,vs=>by simp only [S7,cY];exact mf _ us vs
theorem aM{i j:Id}{n:Nat}(hr:i.real=true):Id.g j n≠i:=by rintro rfl;cases hr
theorem Le.alloc(hs:HS c w h ρ O){i:Id}(hr:i.real=true)(hi:h i=none)(o:Obj)(v:Value)(ob:Option Nat)(hob:ob=none\/ob=some w.heap.size):
  Le w ρ O (w.alloc o) (aB ρ i (some v)) (aB O i ob) where
 os:=rfl
 output:=rfl
 tape:=rfl
 size:=by simp
 eF j u hj:=by
  by_cases e:j=i
  .subst e;rw [(hs.ch _ hr hi).1] at hj;cases hj
  .rw [ar _ _ e];exact hj
 ah b hb _:=TJ _ _ _ hb
 own j b hj:=by
  by_cases e:j=i
  .subst e;rw [aD] at hj;rcases hob with rfl | rfl
   .cases hj
   .cases hj;exact .inr (Tl _)
  .rw [ar _ _ e] at hj;exact .inl ⟨j,hj⟩
theorem HS.alloc(hs:HS c w h ρ O){i:Id}(hr:i.real=true)(hi:h i=none)(o:Obj)(v:Value)(ob:Option Nat)(g:ob=none\/ob=some w.heap.size)(b:aa)
  (hb:cR (w.alloc o) (AA c (w.alloc o) (aB O i ob)) (aB ρ i (some v)) (aB O i ob) i b):
  HS c (w.alloc o) (aB h i (some b)) (aB ρ i (some v)) (aB O i ob):=by
 refine hs.go (Le.alloc hs hr hi o v ob g) (λj n=>⟨ar _ _ (aM hr),ar _ _ (aM hr),λb hb=>TJ _ _ _ (hs.lt _ b hb)⟩) (λj q a=> ?_) (λj p a=> ?_) (λj a=> ?_) (λj n=>by rw [ar _ _ (aM hr)];exact hs.dH j n) (λj k d a f=> ?_) (λj d a=> ?_)
 .by_cases e:j=i
  .subst e;rw [aD] at a;cases a;exact .inr hb
  .rw [ar _ _ e] at a;exact .inl ⟨a,ar _ _ e,λah m=>TJ _ _ _ (hs.lt j ah m)⟩
 .by_cases e:j=i
  .subst e;rw [aD] at a;cases a
  .rw [ar _ _ e] at a;rw [ar _ _ e,ar _ _ e];exact hs.ch j p a
 .by_cases e:j=i
  .subst e;rw [aD] at a;cases a
  .rw [ar _ _ e] at a;exact a
 .by_cases e:j=i <;> by_cases l:k=i
  .rw [e,l]
  .exfalso;rw [ar _ _ l] at f;subst e;rw [aD] at a;rcases g with rfl | rfl
   .cases a
   .cases a;exact Vq _ (hs.lt _ _ f)
  .exfalso;rw [ar _ _ e] at a;subst l;rw [aD] at f;rcases g with rfl | rfl
   .cases f
   .cases f;exact Vq _ (hs.lt _ _ a)
  .rw [ar _ _ e] at a;rw [ar _ _ l] at f;exact hs.inj j k d a f
 .by_cases e:j=i
  .subst e;rw [aD] at a;rcases g with rfl | rfl
   .cases a
   .cases a;simp
  .rw [ar _ _ e] at a;have:=hs.lt j d a;simp;omega
theorem Le.release{i:Id}:Le w ρ O w ρ (aB O i none) where
 os:=rfl
 output:=rfl
 tape:=rfl
 size:=Tl _
 eF _ _ h:=h
 ah _ _ _:=rfl
 own j b hj:=by
  by_cases e:j=i
  .subst e;rw [aD] at hj;cases hj
  .rw [ar _ _ e] at hj;exact .inl ⟨j,hj⟩
theorem HS.release(hs:HS c w h ρ O){i:Id}(hr:i.real=true)(b:aa)(hb:cR w (AA c w (aB O i none)) ρ (aB O i none) i b):HS c w (aB h i (some b)) ρ (aB O i none):=by
 refine hs.go Le.release (λj n=>⟨rfl,ar _ _ (aM hr),λ_ _=>rfl⟩) (λj m a=> ?_) (λj l a=> ?_) (λj a=> ?_) (λj n=>by rw [ar _ _ (aM hr)];exact hs.dH j n) (λj k d a f=> ?_) (λj d a=> ?_)
 .by_cases e:j=i
  .subst e;rw [aD] at a;cases a;exact .inr hb
  .rw [ar _ _ e] at a;exact .inl ⟨a,ar _ _ e,λ_ _=>rfl⟩
 .by_cases e:j=i
  .subst e;rw [aD] at a;cases a
  .rw [ar _ _ e] at a⊢;exact hs.ch j l a
 .by_cases e:j=i
  .subst e;rw [aD] at a;cases a
  .rw [ar _ _ e] at a;exact a
 .by_cases e:j=i
  .subst e;rw [aD] at a;cases a
  .by_cases g:k=i
   .subst g;rw [aD] at f;cases f
   .rw [ar _ _ e] at a;rw [ar _ _ g] at f;exact hs.inj j k d a f
 .by_cases e:j=i
  .subst e;rw [aD] at a;cases a
  .rw [ar _ _ e] at a;exact hs.lt j d a
theorem HS.freeze(hs:HS c w h ρ O){i:Id}{sz:Nat}{b:Bool}{l:List (List T)}(hi:h i=some (.sl false sz b l)):
  HS c w (aB h i (some (.sl true sz b l))) ρ (aB O i none):=by
 refine hs.release (hs.real (by rw [hi];simp)) _ ?_;obtain⟨v,f,g,e3⟩:=hs.ah i _ hi;refine⟨v,f, ?_,λ_=>by simp⟩;simp only [if_true];have k:∀b,AA c w O b->AA c w (aB O i none) b/\w.heap[b]? =w.heap[b]?:=λb m=>(Le.release (ρ:=ρ) (i:=i)).A b m;refine cK.mono k (λah d=> ?_) g;simp only [Tv,if_false] at d;refine⟨⟨.inr (hs.own i ah d),hs.lt i ah d,λj a=> ?_⟩,rfl⟩;by_cases e:j=i
 .subst e;rw [aD] at a;cases a
 .rw [ar _ _ e] at a;exact e (hs.inj j i ah a d)
theorem HS.NG(hs:HS c w h ρ O){i:Id}{cs:List AV}{l:List T}(hi:h i=some (.box cs))(p:eS cs=some l):
  HS c w (aB h i (some (.iC l))) ρ (aB O i none):=by
 refine hs.release (hs.real (by rw [hi];simp)) _ ?_;obtain⟨b,arr,t,f,d,e3,g,y⟩:=hs.ah i _ hi;have m:∀b,AA c w O b->AA c w (aB O i none) b/\w.heap[b]? =w.heap[b]?:=λb o=>(Le.release (ρ:=ρ) (i:=i)).A b o;have hb:AA c w (aB O i none) b:=⟨.inr (hs.own i b d),hs.lt i b d,λj a=>by
  by_cases e:j=i
  .subst e;rw [aD] at a;cases a
  .rw [ar _ _ e] at a;exact e (hs.inj j i b a d)⟩
 refine⟨b,f,by simp,hb, ?_⟩;have n:=aR.lT p g;have key:∀(l:List T) (vs:List Value) (off:Nat),aR w (AA c w O) l vs->(∀j v,vs[j]? =some v->w.cell? ⟨b,off+j,none⟩=some v)->aV w (AA c w (aB O i none)) b off l:=by
  intro l;induction l with
  | nil=>intro vs off _ _;simp [aV]
  | cons x l q=>rintro vs off ⟨v,r,rfl,h1,k⟩ hv;simp only [aV];refine⟨⟨v,by simpa using hv 0 v rfl,ax.mono m x v h1⟩,q r (off+1) k λj u a=> ?_⟩;have:=hv (j+1) u (by simpa using a);rw [show off+1+j=off+ (j+1) by omega];exact this
 refine key l _ 0 n λj v a=> ?_;simp only [World.cell?,e3,TC];simpa using a
theorem Le.write{b:Nat}{i:Id}(hi:O i=some b)(hos:w'.os=w.os)(ho:w'.output=w.output)(ht:w'.tape=w.tape)(hsz:w'.heap.size=w.heap.size)(hk:∀k,k≠b->w'.heap[k]? =w.heap[k]?):Le w ρ O w' ρ O where
 os:=hos
 output:=ho
 tape:=ht
 size:=Nat.le_of_eq hsz.symm
 eF _ _ h:=h
 ah k _ hn:=hk k λe=>hn i (e▸hi)
 own j b hj:= .inl ⟨j,hj⟩
theorem HS.write(hs:HS c w h ρ O){b:Nat}{i:Id}(hi:O i=some b)(le:Le w ρ O w' ρ O)(m:∀k,k≠b->w'.heap[k]? =w.heap[k]?)(x:aa)
  (p:cR w' (AA c w' O) ρ O i x) (g:h i≠none):HS c w' (aB h i (some x)) ρ O:=by
 have hr:=hs.real g;refine hs.go le (λj n=>⟨rfl,rfl,λd g=>m d λe=>aM hr (hs.inj _ i b (e▸g) hi)⟩) (λj q a=> ?_) (λj l a=> ?_) (λj a=> ?_) (λj n=>by rw [ar _ _ (aM hr)];exact hs.dH j n) hs.inj (λj d a=>Ux (hs.lt j d a) le.size)
 .by_cases e:j=i
  .subst e;rw [aD] at a;cases a;exact .inr p
  .rw [ar _ _ e] at a;exact .inl ⟨a,rfl,λah f=>m ah λo=>e (hs.inj j i b (o▸f) hi)⟩
 .by_cases e:j=i
  .subst e;rw [aD] at a;cases a
  .rw [ar _ _ e] at a;exact hs.ch j l a
 .by_cases e:j=i
  .subst e;rw [aD] at a;cases a
  .rw [ar _ _ e] at a;exact a
end
def SS(w:World)(A:Nat->Prop)(ρ:Id->Option Value)(s:Nat->Option Gs×AV)(tmps:Array Value):Prop:=
 ∀k,match s k with
  | (none,v)=>al w A ρ v (tmps.getD k undef)
  | (some g,v)=>(tmps.getD g.d undef= .bool g.want/\g.c=true/\al w A ρ v (tmps.getD k undef))\/(tmps.getD g.d undef≠ .bool g.want/\g.c=false/\tmps.getD k undef=undef)
section
variable {c:Ctx} {w w':World} {ρ ρ':Id->Option Value} {A A':Nat->Prop} {s:Nat->Option Gs×AV} {tmps:Array Value}
theorem SS.mono(d:∀b,A b->A' b/\w'.heap[b]? =w.heap[b]?)(a:∀i v,ρ i=some v->ρ' i=some v)(hs:SS w A ρ s tmps):SS w' A' ρ' s tmps:=by
 intro k;have:=hs k;revert this;split
 .intro this;exact al.mono d a _ _ this
 .intro this;rcases this with⟨h1,e,f⟩ | h1
  .exact .inl ⟨h1,e,al.mono d a _ _ f⟩
  .exact .inr h1
def kC(tmps:Array Value):Option Gs->Prop
 | none=>True
 | some g=>tmps.getD g.d undef= .bool g.want/\g.c=true
theorem kC.cond{g:Option Gs}(h:kC tmps g):g.map (·.c)=none\/g.map (·.c)=some true:=by
 cases g with
 | none=>exact .inl rfl
 | some g=>exact .inr (by simp [h.2])
theorem Qb(v:Value):al w A ρ (Ao v) v:=by
 have one:∀(u:Value) (x:T),oR u=some x->ax w A x u:=by
  intro u x e;cases u <;> simp only [oR,SR,reduceCtorEq] at e
  case slice a l g=>split at e <;> simp_all;subst e;simp [ax]
  case pointer a=>split at e <;> simp_all;subst e;simp [ax]
  case map a=>split at e <;> simp_all;subst e;simp [ax]
  all_goals (subst e;simp [ax])
 have all:∀(us:List Value) (l:List T),lS us=some l->aR w A l us:=by
  intro us;induction us with
  | nil=>intro l e;simp only [lS,SR] at e;subst e;rfl
  | cons u us d=>
   intro l e;simp only [lS] at e;cases h1:oR u with
   | none=>simp [h1] at e
   | some x=>
    cases b:lS us with
    | none=>simp [h1,b] at e
    | some f=>simp only [h1,b,S9,SR] at e;subst e;exact⟨u,us,rfl,one u x h1,d f b⟩
 unfold Ao;split
 .rename_i cs;split
  .rename_i l e;simp only [al];have:=all cs.toList l e;refine⟨cs.toList,by simp,ay.lU this, ?_⟩;have key:∀(l:List T) (us:List Value),aR w A l us->∀u∈us,u.oneCell'=true/\u.cells= #[u]:=by
    intro l;induction l with
    | nil=>intro us hu;simp only [aR] at hu;subst hu;simp
    | cons x l d=>
     intro us ⟨v,r,e,h1,b⟩ u hu;subst e;rcases Tg.1 hu with rfl | hu
     .exact h1.pZ
     .exact d r b u hu
   exact key l _ this
  .simp [al]
 .split
  .rename_i x e;simp only [al];exact one _ x e
  .simp [al]
theorem SS.get{a:Act}{h:Id->Option aa}(hs:SS w A ρ s a.tmps){g:Option Gs}(hr:kC a.tmps g)(x:Operand):al w A ρ (St.get ⟨s,h⟩ g x) (a.eval x):=by
 cases x with
 | tmp k=>
  simp only [St.get,Act.eval];have:=hs k;split at this
  .rename_i v e;simp only [e,kV,cond_true];exact this
  .rename_i d v e;simp only [e];cases g with
   | none=>simp [kV,al]
   | some i=>
    by_cases b:kV (some d) (some i)=true
    .simp only [b,cond_true];simp only [kV,S0,beq_iff_eq] at b;rcases this with⟨_,_,j⟩ | ⟨h1,_⟩
     .exact j
     .exfalso;apply h1;rw [b.1,b.2];exact hr.1
    .simp only [Xi] at b;simp [b,al]
 | const v=>exact Qb v
 | func f=>simp only [St.get,Act.eval,al];exact⟨[],[],rfl,by simp [ay],by simp [ay]⟩
 | global g=>simp [St.get,al]
theorem SS.mC{a:Act}{h:Id->Option aa}(hs:SS w A ρ s a.tmps){g:Option Gs}(hr:kC a.tmps g)(cs x:Operand)(want:Bool)(f:a.eval cs= .bool want):
  al w A ρ (St.mC ⟨s,h⟩ g cs want x) (a.eval x):=by
 unfold St.mC;split
 .rename_i d k;simp only [Act.eval] at f⊢;have:=hs k;split
  .rename_i b v e;simp only [e] at this;by_cases h1:(b.d==d && b.want==want)=true
   .simp only [h1,Xj,cond_true];simp only [S0,beq_iff_eq] at h1;rcases this with⟨_,_,l⟩ | ⟨j,_⟩
    .exact l
    .exfalso;apply j;rw [h1.1,h1.2];exact f
   .simp only [Xi] at h1;simp only [h1,Ua];have i:=SS.get (h:=h) hs hr (.tmp k);simp only [St.get,e,Act.eval] at i;exact i
  .rename_i v e;simp only [e] at this;exact this
 .exact SS.get hs hr _
end
end Go.Aev
