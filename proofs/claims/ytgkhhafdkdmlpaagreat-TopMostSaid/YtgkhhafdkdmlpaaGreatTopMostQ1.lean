import Derived.WalkKit
set_option linter.all false
namespace Go.Aev
open Go
abbrev Rp:=@Option.some.injEq
abbrev Rq:=@Option.bind_eq_some_iff
abbrev Rr:=@List.getD_eq_getElem?_getD
abbrev Rs:=@List.mem_cons_self
abbrev Rt:=@List.mem_of_getElem?
abbrev Ru:=@List.mem_cons_of_mem
abbrev Rv:=@List.getElem?_eq_getElem
abbrev Rw:=@Bool.and_eq_true
abbrev Rx:=@List.cons_append
abbrev Ry:=@List.nil_append
abbrev Rz:=@List.getElem?_eq_some_iff
abbrev RA:=@Option.bind_some
abbrev RB:=@Result.andThen_ok
abbrev RC:=@List.mem_cons
abbrev RD:=@List.mem_append_left
abbrev RE:=@List.mem_append_right
abbrev RF:=@List.mem_singleton
abbrev RG:=@Int.mul_le_mul_of_nonneg_left
abbrev RH:=@Bool.not_true
abbrev RI:=@Nat.le_refl
abbrev RJ:=@Bool.not_false
abbrev RK:=@List.all_eq_true
abbrev RL:=@Option.bind_assoc
abbrev RM:=@List.mem_append
abbrev RN:=@List.length_eq_zero_iff
abbrev RO:=@Sem.run_bind
abbrev RP:=@List.length_cons
abbrev RQ:=@Option.getD_some
abbrev RR:=@Array.length_toList
abbrev RS:=@Bool.false_eq_true
abbrev RT:=@Array.mem_of_getElem?
abbrev RU:=@List.mem_map
abbrev RV:=@List.mem_or_eq_of_mem_set
abbrev RW:=@Int.mul_comm
abbrev RX:=@List.map_cons
abbrev RY:=@Nat.zero_add
abbrev R0:=@Sem.run_pure
abbrev R1:=@Option.some.inj
abbrev R2:=@Int.mul_le_mul_of_nonneg_right
abbrev R3:=@Nat.add_sub_cancel_left
abbrev R4:=@Nat.le_trans
abbrev R5:=@Int.toNat_natCast
abbrev R6:=@List.append_assoc
abbrev R7:=@Int.mul_add
abbrev R8:=@Int.natAbs_natCast
abbrev R9:=@Go.RowKit.Below.heap_alloc
abbrev Sa:=@Array.all_eq_true_iff_forall_mem
abbrev Sb:=@List.getElem?_map
abbrev Sc:=@Nat.mul_le_mul_right
abbrev Sd:=@Option.getD_none
abbrev Se:=@Rat.zero_mul
abbrev Sf:=@List.length_set
abbrev Sg:=@List.append_nil
abbrev Sh:=@List.getElem?_eq_none
abbrev Si:=@Int.mul_left_comm
abbrev Sj:=@List.replicate_succ
abbrev Sk:=@Prod.mk.injEq
abbrev Sl:=@Array.getElem?_toList
abbrev Sn:=@Nat.succ_mul
abbrev So:=@List.length_take
abbrev Sp:=@List.getElem?_append_right
abbrev Sq:=@Int.natAbs_mul
abbrev Sr:=@Nat.sub_zero
abbrev Ss:=@Addr.mk.injEq
abbrev Su:=@List.length_nil
abbrev Sv:=@Rat.div_def
abbrev Sw:=@List.length_append
abbrev Sx:=@Bool.false_or
abbrev SA:=@Int.mul_assoc
abbrev SB:=@List.nodup_cons
abbrev SC:=@List.getElem?_set
abbrev SD:=@Value.slice.injEq
abbrev SE:=@Int.fdiv_eq_ediv_of_nonneg
abbrev SF:=@List.getElem_of_mem
abbrev SG:=@Rat.mul_zero
abbrev SH:=@List.getElem?_append_left
abbrev SI:=@List.length_map
abbrev SJ:=@Bool.or_eq_true
abbrev SK:=@Int.mul_nonneg
abbrev SL:=@Bool.not_eq_true'
abbrev SM:=@List.take_of_length_le
abbrev SN:=@Rat.le_refl
abbrev SO:=@Int.sign_eq_neg_one_of_neg
abbrev SQ:=@List.getElem?_cons_zero
abbrev SR:=@List.getElem?_cons_succ
abbrev SU:=@Int.one_mul
abbrev SV:=@Int.sign_eq_one_of_pos
abbrev SW:=@List.head?_cons
abbrev SX:=@List.map_nil
abbrev SY:=@List.size_toArray
abbrev SZ:=@List.all_cons
abbrev S0:=@Bool.true_and
abbrev S7:=@Nat.lt_of_lt_of_le
abbrev S8:=@Int.le_of_lt
abbrev S9:=@List.getElem_mem
abbrev Ta:=@List.drop_eq_getElem_cons
abbrev Tc:=@List.nodup_append
abbrev Td:=@List.length_replicate
abbrev Te:=@List.eq_of_mem_replicate
abbrev Tf:=@Bool.false_and
abbrev Tg:=@Bool.decide_or
abbrev Th:=@Int.lt_or_le
abbrev Ti:=@Array.getD_eq_getD_getElem?
abbrev Tj:=@List.getElem?_replicate
abbrev Tk:=@List.length_drop
abbrev Tl:=@List.mem_of_mem_take
abbrev Tm:=@List.mem_of_mem_drop
abbrev Tn:=@Nat.lt_succ_self
abbrev To:=@Nat.le_of_not_lt
abbrev Tp:=@List.mem_range
abbrev Tq:=@Value.pointer.injEq
abbrev Tr:=@List.map_congr_left
abbrev Ts:=@Option.map_some
abbrev Tu:=@Classical.byContradiction
abbrev Tv:=@Decidable.byContradiction
abbrev Tw:=@Option.isSome_iff_exists
abbrev Tx:=@Int.emod_lt_of_pos
abbrev Ty:=@Rat.num_divInt_den
abbrev Tz:=@Int.eq_ofNat_of_zero_le
abbrev TA:=@Int.tdiv_eq_ediv_of_dvd
abbrev TB:=@List.flatten_cons
abbrev TC:=@List.map_append
abbrev TD:=@List.cons.injEq
abbrev TE:=@List.drop_eq_nil_of_le
abbrev TF:=@MapKept.run_getObj_map
abbrev TG:=@Nat.not_lt
abbrev TH:=@Int.tdiv_eq_ediv_of_nonneg
abbrev TI:=@Nat.mod_eq_of_lt
abbrev TJ:=@List.getElem_range
abbrev TK:=@Int.mul_ediv_add_emod
abbrev TM:=@Array.getElem?_eq_getElem
abbrev TN:=@List.pairwise_iff_getElem
abbrev TO:=@Nat.add_mul
abbrev TQ:=@Array.ext'
abbrev TR:=@Int.ediv_nonneg
abbrev TS:=@Nat.pow_le_pow_right
abbrev TT:=@Int.add_zero
abbrev TU:=@Nat.sub_self
abbrev TV:=@List.ext_getElem?
abbrev TW:=@Int.lt_trichotomy
abbrev TX:=@Nat.lt_irrefl
abbrev TY:=@List.replicate_zero
abbrev TZ:=@List.take_zero
abbrev T0:=@Rat.mul_nonneg
abbrev T1:=@List.getElem_map
abbrev T2:=@Option.map_eq_some_iff
abbrev T3:=@Int.ediv_lt_iff_lt_mul
abbrev T4:=@List.getElem?_take
abbrev T5:=@List.getElem?_drop
abbrev T6:=@Int.pow_succ
abbrev T7:=@Classical.choose_spec
abbrev T8:=@List.getElem?_toArray
abbrev T9:=@Bool.decide_and
abbrev Ua:=@Int.emod_nonneg
abbrev Ub:=@Int.natCast_mul
abbrev Uc:=@Nat.add_assoc
abbrev Ud:=@Int.tmod_eq_emod_of_nonneg
abbrev Ue:=@List.take_add_one
abbrev Uf:=@List.extract_eq_take_drop
abbrev Ug:=@Option.isNone_iff_eq_none
abbrev Uh:=@BitVec.ofInt_natCast
abbrev Ui:=@List.range'_succ
abbrev Uj:=@Nat.add_zero
abbrev Uk:=@List.map_set
abbrev Ul:=@List.map_map
abbrev Um:=@List.not_mem_nil
abbrev Un:=@Nat.le_add_right
abbrev Uo:=@List.take_length
abbrev Up:=@Int.mul_zero
abbrev Uq:=@Rat.le_of_lt
abbrev Ur:=@List.take_succ_cons
abbrev Us:=@Bool.and_true
abbrev Ut:=@List.set_cons_succ
abbrev Uu:=@Array.any_eq_true'
abbrev Uv:=@BitVec.toNat_ofNat
abbrev Uw:=@Rat.mul_inv_cancel
abbrev Ux:=@MapKept.run_setObj_map
abbrev Uy:=@Int.add_mul
abbrev Uz:=@Prod.ext
abbrev UA:=@Nat.zero_le
abbrev UB:=@List.length_range
abbrev UC:=@List.mem_iff_getElem?
abbrev UD:=@Nat.mul_le_mul
abbrev UE:=@Nat.lt_or_ge
abbrev UF:=@List.tail_cons
abbrev UG:=@List.drop_zero
abbrev UH:=@Rat.add_zero
abbrev UI:=@Int.mul_lt_mul_of_pos_right
abbrev UJ:=@Array.toList_extract
abbrev UK:=@List.range_eq_range'
abbrev UL:=@List.getElem?_set_ne
abbrev UM:=@Option.ne_none_iff_exists'
abbrev UN:=@Array.getElem?_eq_some_iff
abbrev UO:=@Nat.mul_one
abbrev UP:=@Int.mul_one
abbrev UQ:=@Int.pow_add
abbrev UR:=@List.getElem?_range
abbrev US:=@List.length_pos_iff
abbrev UT:=@Int.neg_ediv_of_dvd
abbrev UW:=@Option.map_none
abbrev UX:=@List.mem_filterMap
abbrev UY:=@Int.pow_zero
abbrev UZ:=@List.nodup_nil
abbrev U0:=@Bool.and_false
abbrev U1:=@Rat.num_nonneg
abbrev U3:=@Array.size_append
abbrev U4:=@Rat.divInt_eq_div
abbrev U5:=@Int.le_refl
abbrev U6:=@Nat.mul_add
abbrev U7:=@List.take_nil
abbrev U8:=@List.isEmpty_iff
abbrev U9:=@List.length_singleton
abbrev Va:=@List.take_append_drop
abbrev Vb:=@Array.getElem?_setIfInBounds_ne
abbrev Vc:=@Bool.or_eq_false_iff
abbrev Vd:=@Nat.mod_lt
abbrev Ve:=@Nat.add_comm
abbrev Vf:=@Int.natAbs_of_nonneg
abbrev Vg:=@Rat.not_lt
abbrev Vh:=@Rat.zero_add
abbrev Vi:=@Rat.mul_comm
abbrev Vj:=@List.range_succ
abbrev Vk:=@Rat.mul_le_mul_of_nonneg_right
abbrev Vm:=@Rat.mul_le_mul_of_nonneg_left
abbrev Vn:=@List.drop_drop
abbrev Vo:=@Iff.rfl
abbrev Vp:=@Ne.symm
abbrev Vq:=@Int.natAbs_neg
abbrev Vr:=@Rat.one_mul
abbrev Vs:=@List.set_cons_zero
abbrev Vt:=@List.prefix_append
abbrev Vu:=@Option.isNone_none
abbrev Vv:=@Option.isSome_none
abbrev Vw:=@Option.isSome_some
abbrev Vx:=@Nat.two_pow_add_eq_or_of_lt
abbrev Vy:=@Nat.one_le_two_pow
abbrev Vz:=@List.drop_nil
abbrev VA:=@Int.lt_of_mul_lt_mul_right
abbrev VD:=@Nat.mul_add_mod_self_right
abbrev VE:=@Int.sign_eq_zero_iff_zero
abbrev VF:=@Bool.not_eq_true
abbrev VG:=@Bool.true_or
abbrev VH:=@List.idxOf_lt_length_iff
abbrev VI:=@Nat.not_le_of_lt
abbrev VJ:=@Array.toList_map
abbrev VK:=@Int.neg_nonneg_of_nonpos
abbrev VL:=@Int.mul_ediv_cancel_left
abbrev VM:=@List.ext_getElem
abbrev VN:=@Nat.min_eq_left
abbrev VO:=@Rat.num_eq_zero
abbrev VP:=@Rat.intCast_mul
abbrev VQ:=@Rat.mul_eq_zero
abbrev VR:=@Int.sub_mul
abbrev VS:=@Int.neg_mul
abbrev VT:=@Rat.mul_one
abbrev VU:=@Bool.and_assoc
abbrev VW:=@List.mapM_cons
abbrev VX:=@List.drop_left
inductive T where
 | int (k:IntKind) (n:Int)
 | bool (b:Bool)
 | str (s:ByteArray)
 | ae (sz:Nat) (isNil:Bool) (xs:List (List T))
 | aT (isNil:Bool)
 | ptr (cs:List T)
 | aD
 | xF
 | xE
 | Bl
 | any
 deriving Inhabited
inductive Id where
 | c (n:Nat)
 | s (d:Nat) (j:Nat)
 | g (i:Id) (n:Nat)
 deriving DecidableEq,Inhabited
def Id.real:Id->Bool
 | .g _ _=>false
 | _=>true
inductive AV where
 | top
 | t (x:T)
 | lR (vs:List AV)
 | agg (vs:List AV)
 | ref (i:Id) (off:Nat)
 | el (i:Id) (sz k off:Nat)
 | own (i:Id)
 | part (i:Id) (sz off len:Nat)
 | row (i:Id) (n:Nat)
 | rel (i:Id) (sz n k off:Nat)
 | fn (f:FuncId) (fst caps:List AV)
 deriving Inhabited
inductive Ck where
 | i (k:IntKind)
 | b
 | s
 | l (sz:Nat)
 | x
 deriving Inhabited,DecidableEq
structure Row where
 n:Nat
 cs:List T
 own:Option (Bool×List (List T))
 deriving Inhabited
inductive ab where
 | box (cs:List AV)
 | sl (fz:Bool) (sz:Nat) (isNil:Bool) (xs:List (List T))
 | ir (cs:List T)
 | arr (cs:List AV)
 | mp (ag:Bool) (ks:List Ck) (vk:Ck) (es:List (List T×T))
 | rows (b:Bool) (sz az rsz nx:Nat) (es:List Row)
 | dead
 deriving Inhabited
def T.int?(k:IntKind):T->Option Int
 | .int a n=>if a=k then some n else none
 | _=>none
def T.bool?:T->Option Bool
 | .bool b=>some b
 | _=>none
def T.bx:T->Option ByteArray
 | .str s=>some s
 | _=>none
def T.pU:T->Option (List T)
 | .ptr cs=>some cs
 | _=>none
def T.aP(sz:Nat):T->Option (Bool×List (List T))
 | .ae a b xs=>if a=sz then some (b,xs) else none
 | .aT b=>some (b,[])
 | _=>none
def du:T->Value
 | .int k n=> .int k n
 | .bool b=> .bool b
 | .str s=> .string s
 | _=> .nilIface
def cV(ag:Bool)(cs:List T):Value:=cond ag (.agg (cs.map du).toArray) ((cs.map du).headD .nilIface)
def dG:Ck->T->Bool
 | .i k, .int a _=>decide (a=k)
 | .b, .bool _=>true
 | .s, .str _=>true
 | _,_=>false
def bU:List Ck->List T->Bool
 | [],[]=>true
 | k::ks,x::xs=>dG k x && bU ks xs
 | _,_=>false
def mU:T->T->Bool
 | .int _ a, .int _ b=>a==b
 | .bool a, .bool b=>a==b
 | .str a, .str b=>a==b
 | _,_=>false
def dO:List T->List T->Bool
 | [],[]=>true
 | x::xs,y::a=>mU x y && dO xs a
 | _,_=>false
def e8(key:List T):List (List T×T)->Option T
 | []=>none
 | (k,v)::r=>cond (dO key k) (some v) (e8 key r)
def gE(key:List T)(v:T):List (List T×T)->List (List T×T)
 | []=> [(key,v)]
 | (k,u)::r=>cond (dO key k) ((key,v)::r) ((k,u)::gE key v r)
def T.pH:T->Option Unit
 | .int _ _=>some ()
 | .bool _=>some ()
 | .str _=>some ()
 | _=>none
def gd{α:Type}[Inhabited α](c:Option Bool)(m:Option α):Option α:=
 match m with
 | some a=>some a
 | none=>match c with
  | none=>none
  | some b=>cond b none (some default)
def aa{α R:Type}[Inhabited α](c:Option Bool)(m:Option α)(k:α->Option R):Option R:=
 match m with
 | some a=>k a
 | none=>match c with
  | none=>none
  | some b=>cond b none (k default)
def o5{R:Type}(c:Option Bool):Nat->List T->(List T->Option R)->Option R
 | 0,_,K=>K []
 | n+1,cs,K=>aa c cs.head? λx=>o5 c n cs.tail λl=>K (x::l)
def oG:Value->Option T
 | .int k i=>some (.int k i)
 | .bool b=>some (.bool b)
 | .string s=>some (.str s)
 | .slice none 0 0=>some (.aT true)
 | .pointer none=>some .aD
 | .map none=>some .xF
 | .nilFunc=>some .xE
 | .nilIface=>some .Bl
 | _=>none
def lB:List Value->Option (List T)
 | []=>some []
 | v::r=>(oG v).bind λx=>(lB r).bind λl=>some (x::l)
def bt(P:Program)(t:TypeId):Bool:=
 match P.underlying t with
 | some (.struct _) | some (.array _ _)=>true
 | _=>false
def rz(P:Program)(t:TypeId):Option IntKind:=
 match P.underlying t with
 | some (.int k)=>some k
 | _=>none
def bN(P:Program)(t:TypeId):Bool:=(P.underlying t).isSome
def tu(P:Program)(t:TypeId)(f:Nat):Option (Nat×TypeId):=
 match P.underlying t with
 | some (.struct a)=>match a[f]? with
  | some x=>cond (bN P x.type) (some (x.offset,x.type)) none
  | none=>none
 | _=>none
def mQ(P:Program)(t:TypeId):Option TypeId:=
 match P.underlying t with
 | some (.slice e)=>cond (bN P e) (some e) none
 | _=>none
def vV(P:Program)(t:TypeId):Option (Nat×TypeId):=
 match P.underlying t with
 | some (.array n e)=>cond (bN P e) (some (n,e)) none
 | _=>none
def pT(P:Program)(t:TypeId):Bool:=
 match P.underlying t with
 | some (.struct a)=>a.toList.all λf=>bN P f.type
 | some (.array _ e)=>bN P e
 | _=>false
def AP(P:Program)(t:TypeId):Bool:=
 match P.underlying t with
 | some .string=>true
 | _=>false
def jq(P:Program)(t:TypeId):Option (List T):=
 match P.info? t with
 | some i=>match i.zero with
  | some v=>lB v.cells.toList
  | none=>none
 | none=>none
structure Gs where
 d:Nat
 want:Bool
 c:Bool
structure St where
 t:Nat->Option Gs×AV
 h:Id->Option ab
abbrev aG:=List (Id×ab)
def aJ(h:Id->Option ab):aG->Id->Option ab
 | []=>h
 | (i,b)::us=>aJ (λj=>if j=i then some b else h j) us
def l8(d:Nat):Option Gs×AV->Option Gs×AV
 | (some g,v)=>cond (g.d==d) (none, .top) (some g,v)
 | (none,v)=>(none,v)
def St.put(s:St)(a:Bool)(d:Option Nat)(g:Option Gs)(v:AV)(us:aG):St:=
 {t :=match d with
    | some d=>λk=>if k=d then(g,v) else cond a (l8 d (s.t k)) (s.t k)
    | none=>s.t
  h:=aJ s.h us}
def zL(v:Value):AV:=
 match v with
 | .agg cs=>match lB cs.toList with
  | some l=> .agg (l.map .t)
  | none=> .top
 | v=>match oG v with
  | some x=> .t x
  | none=> .top
def kE:Option Gs->Option Gs->Bool
 | none,_=>true
 | some a,some b=>a.d==b.d && a.want==b.want
 | some _,none=>false
def St.rK(s:St)(g:Gs):St:={s with t:=λk=>cond (kE (s.t k).1 (some g)) (none,(s.t k).2) (s.t k)}
def St.get(s:St)(g:Option Gs):Operand->AV
 | .tmp k=>match s.t k with
  | (a,v)=>cond (kE a g) v .top
 | .const v=>zL v
 | .func f=> .fn f [] []
 | .global _=> .top
def St.mh(s:St)(g:Option Gs)(cs:Operand)(want:Bool)(o:Operand):AV:=
 match cs,o with
 | .tmp d, .tmp k=>match s.t k with
  | (some a,v)=>cond ((a.d==d && a.want==want) || kE (some a) g) v .top
  | (none,v)=>v
 | _,o=>s.get g o
def AV.t?:AV->Option T
 | .t x=>some x
 | _=>none
def eO:List AV->Option (List T)
 | []=>some []
 | .t x::r=>(eO r).bind λl=>some (x::l)
 | _::_=>none
def dt(h:Id->Option ab):AV->Option T
 | .t x=>some x
 | .own i=>match h i with
  | some (.sl _ sz b xs)=>some (.ae sz b xs)
  | _=>none
 | .part i sz off len=>match h i with
  | some (.sl _ a b xs)=>if a=sz then some (.ae sz b ((xs.drop off).take len)) else none
  | _=>none
 | .ref i off=>match h i with
  | some (.box cs)=>(eO cs).bind λl=>some (.ptr (l.drop off))
  | some (.ir l)=>some (.ptr (l.drop off))
  | _=>none
 | _=>none
def kI(h:Id->Option ab):List AV->Option (List T)
 | []=>some []
 | v::r=>(dt h v).bind λx=>(kI h r).bind λl=>some (x::l)
def B7(h:Id->Option ab):AV->Option T
 | .own i=>match h i with
  | some (.sl _ sz b xs)=>some (.ae sz b xs)
  | some (.rows ..)=>some .any
  | some (.mp ..)=>some .any
  | _=>none
 | v=>dt h v
def uz(h:Id->Option ab):List AV->Option (List T)
 | []=>some []
 | v::r=>(B7 h v).bind λx=>(uz h r).bind λl=>some (x::l)
def kH(h:Id->Option ab):AV->Option (List T)
 | .agg vs=>kI h vs
 | v=>(dt h v).bind λx=>some [x]
def gM(h:Id->Option ab):AV->aG
 | .own i=>match h i with
  | some (.sl false sz b xs)=> [(i, .sl true sz b xs)]
  | _=> []
 | .part i _ _ _=>match h i with
  | some (.sl false sz b xs)=> [(i, .sl true sz b xs)]
  | _=> []
 | .ref i _=>match h i with
  | some (.box cs)=>match eO cs with
   | some l=> [(i, .ir l)]
   | none=> []
  | _=> []
 | _=> []
def mb(h:Id->Option ab):List AV->aG
 | []=> []
 | v::r=>gM h v++mb h r
def gz(h:Id->Option ab):AV->aG
 | .agg vs=>mb h vs
 | v=>gM h v
def qK{R:Type}(op:BinOp)(k:IntKind)(c:Option Bool)(x y:T)(K:T->Option R):Option R:=
 aa c (x.int? k) λa=>aa c (y.int? k) λb=>
  match op with
  | .add=>K (.int k (k.wrap (a+b)))
  | .sub=>K (.int k (k.wrap (a - b)))
  | .mul=>K (.int k (k.wrap (a * b)))
  | .quo=>aa c (if b=0 then none else some ()) λ_=>K (.int k (k.wrap (a.tdiv b)))
  | .rem=>aa c (if b=0 then none else some ()) λ_=>K (.int k (a.tmod b))
  | .and=>K (.int k (k.wrap (BitVec.ofInt k.bits a &&& BitVec.ofInt k.bits b).toNat))
  | .or=>K (.int k (k.wrap (BitVec.ofInt k.bits a ||| BitVec.ofInt k.bits b).toNat))
  | .xor=>K (.int k (k.wrap (BitVec.ofInt k.bits a ^^^ BitVec.ofInt k.bits b).toNat))
  | .andNot=>K (.int k (k.wrap (BitVec.ofInt k.bits a &&& ~~~(BitVec.ofInt k.bits b)).toNat))
  | .lss=>K (.bool (decide (a < b)))
  | .leq=>K (.bool (decide (a<=b)))
  | .gtr=>K (.bool (decide (a > b)))
  | .geq=>K (.bool (decide (a>=b)))
  | _=>none
def rW{R:Type}(op:BinOp)(k ky:IntKind)(c:Option Bool)(x y:T)(K:T->Option R):Option R:=
 aa c (x.int? k) λa=>aa c (y.int? ky) λb=>
  aa c (if b < 0 then none else some ()) λ_=>
  match op with
  | .shl=>K (.int k (k.wrap (a * 2 ^ (min b.toNat k.bits))))
  | .shr=>K (.int k (a.fdiv (2 ^ (min b.toNat k.bits))))
  | _=>none
def rZ{R:Type}(op:BinOp)(c:Option Bool)(x y:T)(K:T->Option R):Option R:=
 aa c x.bx λa=>aa c y.bx λb=>
  match op with
  | .add=>aa c (if a.size+b.size<=4294967296 then some () else none) λ_=>K (.str (a++b))
  | .lss=>K (.bool (Op.bytesLess a.toList b.toList))
  | .leq=>K (.bool (Op.bytesLess a.toList b.toList || a.toList==b.toList))
  | .gtr=>K (.bool (!(Op.bytesLess a.toList b.toList || a.toList==b.toList)))
  | .geq=>K (.bool (!(Op.bytesLess a.toList b.toList)))
  | _=>none
def rr(P:Program)(go:TypeId->Option (List TypeId)):List Field->Nat->Option (List TypeId)
 | [],_=>some []
 | f ::r,off=>if f.offset=off/\f.name≠ "_" then
     (go f.type).bind λl=>if P.cellsOf f.type=l.length/\0 < l.length then(rr P go r (off+l.length)).bind λq=>some (l++q) else none
  else none
def fi(P:Program):Nat->TypeId->Option (List TypeId)
 | 0,_=>none
 | n+1,t=>match P.underlying t with
  | some (.int _) | some .bool | some .string=>some [t]
  | some (.struct a)=>if P.stoodInHeld t then none else rr P (fi P n) a.toList 0
  | some (.array m e)=>(fi P n e).bind λl=>if P.cellsOf e=l.length then some (List.replicate m l).flatten else none
  | _=>none
def jl(P:Program)(s:St)(t:TypeId)(x:AV):Option Bool:=
 match P.underlying t with
 | some (.slice _)=>match x with
  | .t (.ae _ b _)=>some b
  | .t (.aT b)=>some b
  | .own i=>match s.h i with
   | some (.sl _ _ b _)=>some b
   | _=>none
  | _=>none
 | some (.pointer _)=>match x with
  | .t (.ptr _)=>some false
  | .t .aD=>some true
  | .ref _ _=>some false
  | .el _ _ _ _=>some false
  | _=>none
 | some (.func ..)=>match x with
  | .t .xE=>some true
  | .fn _ _ _=>some false
  | _=>none
 | some (.map ..)=>match x with
  | .t .xF=>some true
  | _=>none
 | _=>none
def oF(P:Program)(t:TypeId)(o:Operand):Bool:=
 match P.underlying t,o with
 | some (.slice _), .const (.slice none 0 0)=>true
 | some (.pointer _), .const (.pointer none)=>true
 | some (.func ..), .const .nilFunc=>true
 | some (.map ..), .const (.map none)=>true
 | _,_=>false
def lf{R:Type}(P:Program)(c:Option Bool)(t:TypeId)(x y:T)(K:Bool->Option R):Option R:=
 match P.underlying t with
 | some (.int k)=>aa c (x.int? k) λa=>aa c (y.int? k) λb=>K (a==b)
 | some .bool=>aa c x.bool? λa=>aa c y.bool? λb=>K (a==b)
 | some .string=>aa c x.bx λa=>aa c y.bx λb=>K (a==b)
 | _=>none
def ef{R:Type}(P:Program)(c:Option Bool):List TypeId->List T->List T->(Bool->Option R)->Option R
 | [],[],[],K=>K true
 | t::ts,x::xs,y::a,K=>lf P c t x y λb=>ef P c ts xs a λr=>K (b && r)
 | _,_,_,_=>none
def qM{R:Type}(P:Program)(op:BinOp)(t ty:TypeId)(c:Option Bool)(x y:T)(K:T->Option R):Option R:=
 match op with
 | .shl | .shr=>match rz P t,rz P ty with
  | some k,some ky=>rW op k ky c x y K
  | _,_=>none
 | .eql | .neq=>none
 | op=>match P.underlying t with
  | some (.int k)=>qK op k c x y K
  | some .string=>rZ op c x y K
  | _=>none
def pE{R:Type}(P:Program)(c:Option Bool)(t:TypeId)(x y:AV)(K:Bool->Option R):Option R:=
 match x,y with
 | .t x, .t y=>cond (AP P t) (aa c x.bx λa=>aa c y.bx λb=>K (a.toList==b.toList)) (lf P c t x y K)
 | .agg xs, .agg d=>cond (P.eqGuardType P.depth t || !bt P t) none <| (eO xs).bind λxs=>(eO d).bind λd=>(fi P 8 t).bind λts=>ef P c ts xs d K
 | _,_=>none
def sd{R:Type}(P:Program)(op:UnOp)(t:TypeId)(c:Option Bool)(x:T)(K:T->Option R):Option R:=
 match op,P.underlying t with
 | .neg,some (.int k)=>aa c (x.int? k) λa=>K (.int k (k.wrap (0 - a)))
 | .xor,some (.int k)=>aa c (x.int? k) λa=>
   K (.int k (k.wrap (BitVec.ofInt k.bits (if k.signed then -1 else k.max) ^^^ BitVec.ofInt k.bits a).toNat))
 | .not,some .bool=>aa c x.bool? λa=>K (.bool (!a))
 | _,_=>none
open Go
def eX{R:Type}(k:Ck)(c:Option Bool)(x:T)(K:T->Option R):Option R:=
 match k with
 | .i k=>aa c (x.int? k) λn=>K (.int k n)
 | .b=>aa c x.bool? λb=>K (.bool b)
 | .s=>aa c x.bx λs=>K (.str s)
 | .l sz=>aa c (x.aP sz) λp=>K (.ae sz p.1 p.2)
 | .x=>K x
def eM{R:Type}(c:Option Bool):List Ck->List T->(List T->Option R)->Option R
 | [],xs,K=>K xs
 | _::_,[],K=>K []
 | k::ks,x::xs,K=>eX k c x λy=>eM c ks xs λa=>K (y::a)
def kV(P:Program)(t:TypeId):Ck:=
 match P.underlying t with
 | some (.int k)=> .i k
 | some .bool=> .b
 | some .string=> .s
 | some (.slice e)=> .l (P.cellsOf e)
 | _=> .x
def vZ(P:Program):Nat->TypeId->List Ck
 | 0,_=> []
 | n+1,t=>match P.underlying t with
  | some (.struct a)=>a.toList.flatMap λf=>vZ P n f.type
  | some (.array m e)=>(List.replicate m (vZ P n e)).flatten
  | _=> [kV P t]
def sP(P:Program)(t:TypeId):List Ck:=
 if(vZ P 8 t).length=P.cellsOf t then vZ P 8 t else List.replicate (P.cellsOf t) .x
inductive bR where
 | f (k:Ck)
 | t (k:Ck)
 | own (sz:Nat)
 | ref (k off:Nat)
 | same (k:Nat)
 | rows (sz az rsz:Nat)
 | mp (ag:Bool) (ks:List Ck) (vk:Ck)
 | new (l:List bR)
 | no
 | agg (l:List bR)
 deriving Inhabited
inductive jr where
 | box (l:List bR)
 | sl (sz:Nat)
 | mp (ag:Bool) (ks:List Ck) (vk:Ck)
 | dead
 deriving Inhabited
structure CV where
 res:List bR
 outs:List jr
 deriving Inhabited
structure cG where
 live:FuncId->Nat->Option (List (Nat×Option Nat))
 join:FuncId->Nat->Option (List (Nat×Option Nat))
 sig:FuncId->Option CV
 ig:FuncId->Option (List Bool):=λ_=>none
 deep:FuncId->Bool:=λ_=>false
 zB:FuncId->Nat->CV:=λ_ _=>⟨[],[]⟩
 app:Option Nat->Bool:=λ_=>false
 wr:FuncId->Bool:=λ_=>false
 st:Option Nat->Bool:=λ_=>false
 sx:Option Nat->Bool:=λ_=>false
 ld:Option Nat->Bool:=λ_=>false
 nk:Option Nat->TypeId->Nat:=λ_ _=>0
 ext:FuncId->List AV->List ab->Option (List T):=λ_ _ _=>none
inductive Key where
 | call (f:FuncId)
 | node (f:FuncId) (todo:List Item) (live:List (Nat×Option Nat)) (m:Nat×Nat)
abbrev aB:=Key->List AV->List ab->Option (List T)
def fV:Nat:=4294967296
mutual
def AV.ids:AV->List Id
 | .top=> []
 | .t _=> []
 | .lR vs=>bT vs
 | .agg vs=>bT vs
 | .ref i _=> [i]
 | .el i _ _ _=> [i]
 | .own i=> [i]
 | .part i _ _ _=> [i]
 | .row i _=> [i]
 | .rel i _ _ _ _=> [i]
 | .fn _ a b=>bT a++bT b
def bT:List AV->List Id
 | []=> []
 | v::r=>v.ids++bT r
end
mutual
def AV.rn(m:List Id):AV->AV
 | .top=> .top
 | .t x=> .t x
 | .lR vs=> .lR (jN m vs)
 | .agg vs=> .agg (jN m vs)
 | .ref i o=> .ref (.c (m.idxOf i)) o
 | .el i sz k o=> .el (.c (m.idxOf i)) sz k o
 | .own i=> .own (.c (m.idxOf i))
 | .part i sz o n=> .part (.c (m.idxOf i)) sz o n
 | .row i n=> .row (.c (m.idxOf i)) n
 | .rel i sz n k o=> .rel (.c (m.idxOf i)) sz n k o
 | .fn f a b=> .fn f (jN m a) (jN m b)
def jN(m:List Id):List AV->List AV
 | []=> []
 | v::r=>v.rn m::jN m r
end
def gO(m:List Id):Option ab->ab
 | some (.box cs)=> .box (jN m cs)
 | some (.arr cs)=> .arr (jN m cs)
 | some b=>b
 | none=> .dead
def eW(h:Id->Option ab):Nat->List Id->List Id->Option (List Id)
 | 0,_,_=>none
 | _+1,[],seen=>some seen
 | n+1,i::todo,seen=>
  cond (seen.contains i) (eW h n todo seen)
   (match h i with
    | some (.box cs)=>eW h n (todo++bT cs) (seen++ [i])
    | some (.arr cs)=>eW h n (todo++bT cs) (seen++ [i])
    | some _=>eW h n todo (seen++ [i])
    | none=>none)
def nI:Nat->List AV->Option (List AV)
 | 0,_=>some []
 | _+1,[]=>none
 | n+1,c::r=>(nI n r).bind λl=>some (c::l)
def bQ{α:Type}(off:Nat)(new a:List α):List α:=a.take off++new++a.drop (off+new.length)
def br(n:Nat):List Row->Option (Bool×List (List T))
 | []=>none
 | e::r=>if e.n=n then e.own else br n r
def dr(n:Nat)(p:Option (Bool×List (List T))):List Row->List Row
 | []=> []
 | e::r=>if e.n=n then{e with own:=p}::r else e::dr n p r
def lI{R:Type}(h:Id->Option ab)(c:Option Bool)(i:Id)(n:Nat)(K:Nat->Bool->List (List T)->Option R):Option R:=
 match h i with
 | some (.rows _ _ _ rsz _ es)=>aa c (br n es) λp=>K rsz p.1 p.2
 | _=>none
def kx{R:Type}(P:Program)(t:TypeId)(c:Option Bool)(cs:List T)(K:AV->Option R):Option R:=
 cond (bt P t) (o5 c (P.cellsOf t) cs λl=>eM c (sP P t) l λl=>K (.agg (l.map .t))) (aa c cs.head? λx=>eX (kV P t) c x λx=>K (.t x))
def m6{R:Type}(P:Program)(t:TypeId)(cs:List AV)(K:AV->Option R):Option R:=
 cond (bt P t) ((nI (P.cellsOf t) cs).bind λl=>K (.agg l)) (cs.head?.bind K)
def rB{R:Type}(P:Program)(t:TypeId)(c:Option Bool)(i:Id)(sz az off:Nat)(e:Row)(K:AV->Option R):Option R:=
 cond (bt P t)
  (if off=0/\P.cellsOf t=sz then o5 c sz e.cs λl=>eM c ((sP P t).set az .x) l λl=>K (.agg ((l.map .t).set az (.row i e.n))) else none)
  (if off=az then K (.row i e.n) else aa c (e.cs.drop off).head? λx=>eX (kV P t) c x λx=>K (.t x))
def jH{R:Type}(P:Program)(s:St)(c:Option Bool)(t:TypeId)(a:AV)(K:AV->Option R):Option R:=
 cond (bN P t) (match a with
 | .ref i off=>match s.h i with
  | some (.box cs)=>m6 P t (cs.drop off) K
  | some (.ir l)=>kx P t c (l.drop off) K
  | _=>none
 | .el i sz k off=>match s.h i with
  | some (.sl _ b _ xs)=>if b=sz then aa c xs[k]? λcs=>kx P t c (cs.drop off) K else none
  | some (.rows _ b az _ _ es)=>if b=sz then aa c es[k]? λe=>rB P t c i sz az off e K else none
  | _=>none
 | .rel i sz n k off=>lI s.h c i n λrsz _ xs=>if rsz=sz then aa c xs[k]? λcs=>kx P t c (cs.drop off) K else none
 | .t x=>aa c x.pU λcs=>kx P t c cs K
 | _=>none) none
def gK(v:AV):List AV:=
 match v with
 | .agg vs=>vs
 | v=> [v]
def pw:AV->Bool
 | .agg _ | .lR _ | .top=>false
 | _=>true
def bI(k off:Nat)(l:List T)(xs:List (List T)):Option (List (List T)):=
 match xs[k]? with
 | some cs=>if off+l.length<=cs.length then some (xs.set k (bQ off l cs)) else none
 | none=>none
def iW{R:Type}(P:Program)(s:St)(t:TypeId)(a v:AV)(K:aG->Option R):Option R:=
 cond (bN P t) (match a with
 | .ref i off=>match s.h i with
  | some (.box cs)=>
   if(gK v).length=P.cellsOf t/\(gK v).all pw/\off+ (gK v).length<=cs.length then K [(i, .box (bQ off (gK v) cs))] else none
  | _=>none
 | .el i sz k off=>match s.h i with
  | some (.sl false d b xs)=>(kH s.h v).bind λl=>
    if d=sz/\l.length=P.cellsOf t/\v.ids.contains i=false then
     aa none (bI k off l xs) λg=>K ((i, .sl false sz b g)::gz s.h v) else none
  | some (.rows b d az rsz nx es)=>match v with
   | .own j=>match s.h j with
    | some (.sl false f m xs)=>
     if d=sz/\off=az/\f=rsz/\P.cellsOf t=1/\bt P t=false then
      aa none es[k]? λe=>K [(j, .dead),(i, .rows b sz az rsz (nx+1) (es.set k ⟨nx,e.cs,some (m,xs)⟩))] else none
    | _=>none
   | _=>none
  | _=>none
 | .rel i sz n k off=>match s.h i with
  | some (.rows b d az rsz nx es)=>aa none (br n es) λp=>(kH s.h v).bind λl=>
    if rsz=sz/\l.length=P.cellsOf t/\v.ids.contains i=false then
     aa none (bI k off l p.2) λg=>K ((i, .rows b d az rsz nx (dr n (some (p.1,g)) es))::gz s.h v) else none
  | _=>none
 | _=>none) none
def tF:List (Nat×List AV)->List AV->Option (List AV)
 | [],z=>some z
 | (off,l)::r,z=>if off+l.length<=z.length then tF r (bQ off l z) else none
def tZ(P:Program)(t:TypeId)(f:Nat):Option (Nat×TypeId):=
 match tu P t f with
 | some p=>some p
 | none=>match vV P t with
  | some (_,u)=>some (f * P.cellsOf u,u)
  | none=>none
def oM(P:Program)(t:TypeId)(ev:Operand->AV):List (Nat×Operand)->Option (List (Nat×List AV))
 | []=>some []
 | (f,o)::r=>(tZ P t f).bind λp=>
   if(gK (ev o)).length=P.cellsOf p.2/\(gK (ev o)).all pw then(oM P t ev r).bind λq=>some ((p.1,gK (ev o))::q) else none
def vX(P:Program)(t:TypeId)(ev:Operand->AV)(a:List (Nat×Operand)):Option AV:=
 if pT P t then
 (jq P t).bind λz=>(oM P t ev a).bind λl=>(tF l (z.map .t)).bind λcs=>some (.agg cs)
 else none
def iq(P:Program)(h:Id->Option ab)(e:TypeId)(ev:Operand->AV):Nat->List (Nat×Operand)->Option (List (List T)×aG)
 | _,[]=>some ([],[])
 | n,(k,o)::r=>(kH h (ev o)).bind λl=>if k=n/\l.length=P.cellsOf e then
    (iq P h e ev (n+1) r).bind λq=>some (l::q.1,gz h (ev o)++q.2)
  else none
def jF{R:Type}(c:Option Bool)(i:Int)(n:Nat)(K:Option R):Option R:=aa c (if 0<=i/\i < n then some () else none) λ_=>K
def jk{R:Type}(P:Program)(s:St)(c:Option Bool)(t:TypeId)(x:AV)(i:Int)(K:AV->Option R):Option R:=
 match mQ P t with
 | some e=>match x with
  | .own j=>match s.h j with
   | some (.sl _ sz _ xs)=>if sz=P.cellsOf e then jF c i xs.length (K (.el j sz i.toNat 0)) else none
   | some (.rows _ sz _ _ _ es)=>if sz=P.cellsOf e then jF c i es.length (K (.el j sz i.toNat 0)) else none
   | _=>none
  | .row j n=>lI s.h c j n λrsz _ xs=>if rsz=P.cellsOf e then jF c i xs.length (K (.rel j rsz n i.toNat 0)) else none
  | .part j sz off n=>match s.h j with
   | some (.sl _ a _ _)=>if sz=P.cellsOf e/\a=sz then jF c i n (K (.el j sz (off+i.toNat) 0)) else none
   | _=>none
  | .t y=>aa c (y.aP (P.cellsOf e)) λp=>jF c i p.2.length (aa c p.2[i.toNat]? λcs=>K (.t (.ptr cs)))
  | _=>none
 | none=>match vV P t with
  | some (n,e)=>jF c i n (match x with
   | .ref j off=>K (.ref j (off+i.toNat * P.cellsOf e))
   | .el j sz k off=>K (.el j sz k (off+i.toNat * P.cellsOf e))
   | .t y=>aa c y.pU λcs=>K (.t (.ptr (cs.drop (i.toNat * P.cellsOf e))))
   | _=>none)
  | none=>none
def rl{R:Type}(P:Program)(c:Option Bool)(t:TypeId)(x:AV)(f:Nat)(K:AV->Option R):Option R:=
 match tu P t f with
 | some (off,u)=>if P.cellsOf u=0 then none else
  match x with
  | .ref j o=>K (.ref j (o+off))
  | .el j sz k o=>K (.el j sz k (o+off))
  | .rel j sz n k o=>K (.rel j sz n k (o+off))
  | .t y=>aa c y.pU λcs=>K (.t (.ptr (cs.drop off)))
  | _=>none
 | none=>none
def rk{R:Type}(P:Program)(t:TypeId)(x:AV)(f:Nat)(K:AV->Option R):Option R:=
 match tu P t f with
 | some (off,u)=>match x with
  | .agg vs=>m6 P u (vs.drop off) K
  | _=>none
 | none=>none
def m5{R:Type}(P:Program)(s:St)(c:Option Bool)(t:TypeId)(x:AV)(K:AV->Option R):Option R:=
 match P.underlying t with
 | some .string=>match x with
  | .t y=>aa c y.bx λb=>K (.t (.int .i64 b.size))
  | _=>none
 | some (.array n _)=>K (.t (.int .i64 n))
 | some (.slice e)=>match x with
  | .own j=>match s.h j with
   | some (.sl _ _ _ xs)=>K (.t (.int .i64 xs.length))
   | some (.rows _ _ _ _ _ es)=>K (.t (.int .i64 es.length))
   | _=>none
  | .row j n=>lI s.h c j n λ_ _ xs=>K (.t (.int .i64 xs.length))
  | .part _ _ _ n=>K (.t (.int .i64 n))
  | .t y=>aa c (y.aP (P.cellsOf e)) λp=>K (.t (.int .i64 p.2.length))
  | _=>none
 | _=>none
def iE{R:Type}(s:St)(c:Option Bool)(g:Option Gs)(o:Option Operand)(K:Option Int->Option R):Option R:=
 match o with
 | none=>K none
 | some o=>(s.get g o).t?.bind λx=>aa c (anyInt x) λn=>K (some n)
where
 anyInt:T->Option Int
  | .int _ n=>some n
  | _=>none
def cZ(a hi n:Int):Option Unit:=if 0<=a/\a<=hi/\hi<=n then some () else none
def sub(a hi:Int)(xs:List (List T)):List (List T):=(xs.drop a.toNat).take (hi.toNat - a.toNat)
def yF(a hi m:Int):Option Unit:=if a=0/\hi=0/\m=0 then some () else none
def xt:T->Bool
 | .aT true=>true
 | .ae _ true []=>true
 | _=>false
def nE{R:Type}(P:Program)(s:St)(c:Option Bool)(t:TypeId)(x:AV)(a hi d:Option Int)(K:AV->Option R):Option R:=
 match P.underlying t with
 | some .string=>match x,d with
  | .t y,none=>aa c y.bx λb=>
    aa c (cZ (a.getD 0) (hi.getD b.size) b.size) λ_=>K (.t (.str (b.extract (a.getD 0).toNat (hi.getD b.size).toNat)))
  | _,_=>none
 | some (.slice e)=>match d with
  | none=>match x with
   | .own j=>match s.h j with
    | some (.sl _ sz _ xs)=>if sz=P.cellsOf e/\bN P e=true then
      aa c (cZ (a.getD 0) (hi.getD xs.length) xs.length) λ_=>
      K (.part j sz (a.getD 0).toNat ((hi.getD xs.length).toNat - (a.getD 0).toNat)) else none
    | _=>none
   | .part j sz off n=>match s.h j with
    | some (.sl _ f _ _)=>if sz=P.cellsOf e/\f=sz/\bN P e=true then
      aa c (cZ (a.getD 0) (hi.getD n) n) λ_=>
      K (.part j sz (off+ (a.getD 0).toNat) ((hi.getD n).toNat - (a.getD 0).toNat)) else none
    | _=>none
   | .t y=>if bN P e=true then aa c (y.aP (P.cellsOf e)) λp=>
     aa c (cZ (a.getD 0) (hi.getD p.2.length) p.2.length) λ_=>
     K (.t (.ae (P.cellsOf e) p.1 (sub (a.getD 0) (hi.getD p.2.length) p.2))) else none
   | _=>none
  | some m=>match x with
   | .t y=>if bN P e=true then aa c (y.aP (P.cellsOf e)) λp=>aa c (yF (a.getD 0) (hi.getD 1) m) λ_=>K (.t (.aT p.1)) else none
   | .own j=>match s.h j with
    | some (.sl _ _ b _)=>if bN P e=false then none else aa c (yF (a.getD 0) (hi.getD 1) m) λ_=>K (.t (.aT b))
    | _=>none
   | _=>none
 | _=>none
def cv(n m:Int):Option Unit:=if 0<=n/\n<=m/\m<=fV then some () else none
def lW{R:Type}(P:Program)(s:St)(t:TypeId)(sz:Nat)(a:List T)(y:AV)(K:List (List T)->Option R):Option R:=
 match P.underlying t with
 | some (.slice _)=>(dt s.h y).bind λx=>aa none (x.aP sz) λp=>K p.2
 | some .string=>if sz=1 then y.t?.bind λx=>aa none x.bx λb=>K (b.data.toList.map λu=> [.int .u8 u.toNat]) else none
 | some (.int _)=>y.t?.bind λx=>aa none (x.int? .i64) λn=>aa none (cv n n) λ_=>K (List.replicate n.toNat a)
 | _=>none
def oe(bs n:Nat):Prop:=n<=fV\/(0 < bs/\n * bs<=140737488355328)
instance (bs n:Nat):Decidable (oe bs n):=inferInstanceAs (Decidable (_\/_))
def bY(bs n:Nat):Option Unit:=if oe bs n then some () else none
def GQ:T->Option Bool
 | .aT b=>some b
 | .ae _ b xs=>cond (b && xs.isEmpty) (some true) none
 | _=>none
def BR(h:Id->Option ab):AV->Option (Id×Nat×Nat×Nat×Nat×List Row)
 | .own i=>match h i with
  | some (.rows _ sz az rsz nx es)=>some (i,sz,az,rsz,nx,es)
  | _=>none
 | _=>none
def Bq(h:Id->Option ab):AV->Option (Id×List AV)
 | .own j=>match h j with
  | some (.arr cs)=>some (j,cs)
  | _=>none
 | _=>none
def pq{R:Type}(P:Program)(s:St)(d:Nat)(e:TypeId)(i:Id)(sz az rsz nx:Nat)(es:List Row)(j:Id)(cs:List AV)(K:AV->aG->Option R):Option R:=
 if sz=P.cellsOf e/\cs.length=sz/\az < sz/\i≠j then
  (eO (cs.set az (.t .aD))).bind λl=>match cs[az]? with
   | some (.own m)=>match s.h m with
    | some (.sl false k r xs)=>if k=rsz then
      aa none (bY (P.bytesOf e) (es.length+1)) λ_=>
      K (.own (.s d 0)) [(i, .dead),(j, .dead),(m, .dead),(.s d 0, .rows false sz az rsz (nx+1) (es++ [⟨nx,l,some (r,xs)⟩]))] else none
    | _=>none
   | some (.row a n)=>match s.h a with
    | some (.rows u q g b o f)=>if b=rsz/\a≠i then
      aa none (br n f) λp=>aa none (bY (P.bytesOf e) (es.length+1)) λ_=>
      K (.own (.s d 0)) [(i, .dead),(j, .dead),(a, .rows u q g b o (dr n none f)),(.s d 0, .rows false sz az rsz (nx+1) (es++ [⟨nx,l,some p⟩]))] else none
    | _=>none
   | _=>none
 else none
def jZ{R:Type}(P:Program)(s:St)(d:Nat)(rw:Bool)(t ty:TypeId)(x y:AV)(K:AV->aG->Option R):Option R:=
 (mQ P t).bind λe=>(jq P e).bind λk=>
 if P.bytesOf e<=8192/\k.length=P.cellsOf e then
 match cond rw (BR s.h x) none,cond rw (Bq s.h y) none with
 | some (i,sz,az,rsz,nx,es),some (j,cs)=>match P.underlying ty with
  | some (.slice _)=>pq P s d e i sz az rsz nx es j cs K
  | _=>none
 | _,_=>
 lW P s ty (P.cellsOf e) k y λa=>
 match x with
 | .own i=>match s.h i with
  | some (.sl false f b xs)=>if f=P.cellsOf e then
    aa none (bY (P.bytesOf e) (xs.length+a.length)) λ_=>
    K (.own (.s d 0)) [(.s d 0, .sl false (P.cellsOf e) (b && a.isEmpty) (xs++a)),(i, .dead)] else none
  | _=>none
 | .part i g off n=>match s.h i with
  | some (.sl false f b xs)=>if f=P.cellsOf e/\g=P.cellsOf e then
    aa none (bY (P.bytesOf e) (n+a.length)) λ_=>
    K (.own (.s d 0)) [(.s d 0, .sl false (P.cellsOf e) (b && a.isEmpty) ((xs.drop off).take n++a)),(i, .dead)] else none
  | _=>none
 | .t z=>(GQ z).bind λb=>aa none (bY (P.bytesOf e) a.length) λ_=>
    K (.own (.s d 0)) [(.s d 0, .sl false (P.cellsOf e) (b && a.isEmpty) a)]
 | _=>none
 else none
def pQ(n:Nat):List Row:=(List.range n).map λk=>⟨k,[.aD],some (true,[])⟩
def rC{R:Type}(P:Program)(d:Nat)(t:TypeId)(nk:Nat)(n m:T)(K:AV->aG->Option R):Option R:=
 (mQ P t).bind λe=>(jq P e).bind λa=>
 aa none (n.int? .i64) λn=>aa none (m.int? .i64) λm=>
 if P.bytesOf e<=8192/\a.length=P.cellsOf e then
 aa none (cv n m) λ_=>
  cond (nk==2) (match P.underlying e,a with
   | some (.slice u),[.aT true]=>if P.cellsOf e=1 then K (.own (.s d 0)) [(.s d 0, .rows false 1 0 (P.cellsOf u) n.toNat (pQ n.toNat))] else none
   | _,_=>none)
   (K (.own (.s d 0)) [(.s d 0, .sl false (P.cellsOf e) false (List.replicate n.toNat a))])
 else none
def mm(d:Bool)(a b:Int):Int:=cond d (if b > a then b else a) (if b < a then b else a)
def oA{R:Type}(k:IntKind)(c:Option Bool)(d:Bool):Int->List T->(T->Option R)->Option R
 | a,[],K=>K (.int k a)
 | a,y::r,K=>aa c (y.int? k) λb=>oA k c d (mm d a b) r K
def qP{R:Type}(P:Program)(c:Option Bool)(src a:TypeId)(x:T)(K:T->Option R):Option R:=
 match P.underlying src,P.underlying a with
 | some (.int k),some (.int d)=>aa c (x.int? k) λn=>K (.int d (d.wrap n))
 | some .string,some .string=>aa c x.bx λb=>K (.str b)
 | _,_=>none
def bytesOf:List (List T)->Option (List UInt8)
 | []=>some []
 | cs::r=>cs.head?.bind λx=>(x.int? .u8).bind λn=>(bytesOf r).bind λl=>some (UInt8.ofNat n.toNat::l)
def my:Ck->Bool
 | .i _ | .b | .s=>true
 | _=>false
def rE(P:Program)(t:TypeId):Option (TypeId×TypeId):=
 match P.underlying t with
 | some (.map k e)=>cond (bN P k && bN P e) (some (k,e)) none
 | _=>none
def Ct(P:Program)(t:TypeId):Option T:=
 match P.info? t with
 | some i=>match i.zero with
  | some v=>oG v
  | none=>none
 | none=>none
def kr(P:Program)(k:TypeId):Option (Bool×List Ck):=
 match P.underlying k with
 | some (.int i)=>some (false,[.i i])
 | some .string=>some (false,[.s])
 | some (.array n e)=>match P.underlying e with
  | some (.int i)=>if P.cellsOf e=1/\n<=8 then some (true,List.replicate n (.i i)) else none
  | _=>none
 | _=>none
def ou{R:Type}(P:Program)(k:TypeId)(c:Option Bool)(v:AV)(K:Bool->List Ck->List T->Option R):Option R:=
 (kr P k).bind λq=>match q.1,v with
  | false, .t x=>eM c q.2 [x] λcs=>K false q.2 cs
  | true, .agg vs=>(eO vs).bind λl=>if l.length=q.2.length then eM c q.2 l λcs=>K true q.2 cs else none
  | _,_=>none
def m7{R:Type}(P:Program)(s:St)(c:Option Bool)(t:TypeId)(x key:AV)(ok:Bool)(K:AV->Option R):Option R:=
 (rE P t).bind λq=>(Ct P q.2).bind λz=>ou P q.1 c key λag ks cs=>match x with
  | .own i=>match s.h i with
   | some (.mp a b vk es)=>if a=ag/\b=ks/\kV P q.2=vk/\my vk=true/\bt P q.2=false then
     eX vk c ((e8 cs es).getD z) λv=>K (cond ok (.lR [.t v, .t (.bool (e8 cs es).isSome)]) (.t v)) else none
   | _=>none
  | _=>none
def rD{R:Type}(P:Program)(d:Nat)(t:TypeId)(K:AV->aG->Option R):Option R:=
 (rE P t).bind λq=>(kr P q.1).bind λp=>if my (kV P q.2)=true then K (.own (.s d 0)) [(.s d 0, .mp p.1 p.2 (kV P q.2) [])] else K (.t .any) [(.s d 0, .dead)]
def nr{R:Type}(P:Program)(s:St)(t:TypeId)(x key v:AV)(K:aG->Option R):Option R:=
 (rE P t).bind λq=>ou P q.1 none key λag ks cs=>match x with
  | .own i=>match s.h i with
   | some (.mp a b vk es)=>if a=ag/\b=ks/\kV P q.2=vk/\my vk=true then
     v.t?.bind λv=>eX vk none v λv=>K [(i, .mp ag ks vk (gE cs v es))] else none
   | _=>none
  | _=>none
def iH(key:List T):List (List T×T)->List (List T×T)
 | []=> []
 | p::r=>cond (dO key p.1) r (p::iH key r)
def mN{R:Type}(P:Program)(s:St)(t:TypeId)(x key:AV)(K:aG->Option R):Option R:=
 (rE P t).bind λq=>ou P q.1 none key λag ks cs=>match x with
  | .own i=>match s.h i with
   | some (.mp a b vk es)=>if a=ag/\b=ks then K [(i, .mp ag ks vk (iH cs es))] else none
   | _=>none
  | _=>none
def ju(fl a:Bool)(h:Id->Option ab):AV->Option (T×aG)
 | .ref i off=>cond fl (match h i with
  | some (.box cs)=>(cond a (uz h (cs.drop off)) (eO (cs.drop off))).bind λl=>some (.ptr l,[])
  | some (.ir l)=>some (.ptr (l.drop off),[])
  | _=>none) ((dt h (.ref i off)).bind λx=>some (x,gM h (.ref i off)))
 | v=>(dt h v).bind λx=>some (x,cond fl [] (gM h v))
def lX(fl a:Bool)(h:Id->Option ab):List AV->Option (List T×aG)
 | []=>some ([],[])
 | v::r=>(ju fl a h v).bind λp=>(lX fl a h r).bind λq=>some (p.1::q.1,p.2++q.2)
def kR(fl d:Bool)(h:Id->Option ab):AV->Option (AV×aG)
 | .fn f a b=>(lX fl d h a).bind λx=>(lX fl d h b).bind λy=>some (.fn f (x.1.map .t) (y.1.map .t),x.2++y.2)
 | .agg vs=>(lX fl d h vs).bind λx=>some (.agg (x.1.map .t),x.2)
 | v=>(ju fl d h v).bind λp=>some (.t p.1,p.2)
def kS(fl a:Bool)(h:Id->Option ab):List AV->Option (List AV×aG)
 | []=>some ([],[])
 | v::r=>(kR fl a h v).bind λp=>(kS fl a h r).bind λq=>some (p.1::q.1,p.2++q.2)
def w7(P:Program):Nat->TypeId->Bool
 | 0,_=>false
 | n+1,t=>match P.underlying t with
  | some (.int _) | some .bool | some .string=>true
  | some (.struct a)=>a.toList.all λf=>w7 P n f.type
  | some (.array _ e)=>w7 P n e
  | _=>false
def oU(e:Row):T:=match e.own with
 | some p=> .ae 0 p.1 p.2
 | none=> .aD
def bH(b:Bool)(es:List Row):T:= .ae 2 b (es.map λe=> [.ptr e.cs,oU e])
def qQ:Nat->List (List T)->Option (List Row)
 | _,[]=>some []
 | n,[.ptr cs, .ae _ b xs]::r=>(qQ (n+1) r).bind λl=>some (⟨n,cs,some (b,xs)⟩::l)
 | _,_=>none
def kg:T->Option (Bool×List Row)
 | .ae _ b xs=>(qQ 0 xs).bind λl=>some (b,l)
 | _=>none
def bE(es:List Row):Bool:=es.all λe=>e.own.isSome
def F2:bR->Bool
 | .rows _ _ _=>true
 | _=>false
def bK(es:List (List T×T)):T:= .ae 2 false (es.map λp=> [.ptr p.1,p.2])
def zP:List (List T)->Option (List (List T×T))
 | []=>some []
 | [.ptr k,v]::r=>(zP r).bind λl=>some ((k,v)::l)
 | _=>none
def il:T->Option (List (List T×T))
 | .ae _ _ xs=>zP xs
 | _=>none
def l7{R:Type}(ids:List Id)(d:Nat)(c:Option Bool)(j:Nat)(r:bR)(x:T)(K:AV->aG->Nat->Option R):Option R:=
 match r with
 | .f k=>eX k c x λx=>K (.t x) [] j
 | .t k=>eX k c x λx=>K (.t x) [] j
 | .own sz=>match c with
  | none=>aa none (x.aP sz) λp=>K (.own (.s d j)) [(.s d j, .sl false sz p.1 p.2)] (j+1)
  | some _=>none
 | .ref k off=>match ids[k]? with
  | some i=>K (.ref i off) [] j
  | none=>none
 | .same k=>match ids[k]? with
  | some i=>K (.own i) [] j
  | none=>none
 | .rows sz az rsz=>match c with
  | none=>aa none (kg x) λp=>K (.own (.s d j)) [(.s d j, .rows p.1 sz az rsz p.2.length p.2)] (j+1)
  | some _=>none
 | .mp ag ks vk=>match c with
  | none=>aa none (il x) λes=>K (.own (.s d j)) [(.s d j, .mp ag ks vk es)] (j+1)
  | some _=>none
 | .no=>K .top [] j
 | .agg _=>none
 | .new _=>none
def jz{R:Type}(ids:List Id)(d:Nat)(c:Option Bool):Nat->List bR->List T->(List AV->aG->Nat->Option R)->Option R
 | j,[],_,K=>K [] [] j
 | j,r::a,xs,K=>aa c xs.head? λx=>l7 ids d c j r x λv u j=>jz ids d c j a xs.tail λvs us j=>K (v::vs) (u++us) j
def bR.size:bR->Nat
 | .agg l=>l.length
 | .new l=>l.length
 | _=>1
def dL{R:Type}(ids:List Id)(d:Nat)(c:Option Bool):Nat->List bR->List T->(List AV->aG->Nat->Option R)->Option R
 | j,[],_,K=>K [] [] j
 | j,r::a,xs,K=>match r with
  | .agg l=>jz ids d c j l xs λv u j=>dL ids d c j a (xs.drop l.length) λvs us j=>K (AV.agg v::vs) (u++us) j
  | .new l=>match c with
   | none=>jz ids d c j l xs λv u j=>dL ids d c (j+1) a (xs.drop l.length) λvs us b=>K (AV.ref (.s d j) 0::vs) (u++ [(.s d j, .box v)] ++us) b
   | some _=>none
  | r=>aa c xs.head? λx=>l7 ids d c j r x λv u j=>dL ids d c j a xs.tail λvs us j=>K (v::vs) (u++us) j
def mB:List bR->Nat
 | []=>0
 | r::a=>r.size+mB a
def fR{R:Type}(all:List Id)(d:Nat):Nat->List Id->List jr->List T->(aG->Option R)->Option R
 | j,i::a, .box l::r,xs,K=>jz all d none j l xs λv u j=>fR all d j a r (xs.drop l.length) λq=>K (u++ (i, .box v)::q)
 | j,i::a, .sl sz::r,xs,K=>aa none (xs.head?.bind (T.aP sz)) λp=>fR all d j a r xs.tail λq=>K ((i, .sl false sz p.1 p.2)::q)
 | j,i::a, .mp ag ks vk::r,xs,K=>aa none (xs.head?.bind il) λes=>fR all d j a r xs.tail λq=>K ((i, .mp ag ks vk es)::q)
 | j,_::a, .dead::r,xs,K=>fR all d j a r xs K
 | _,[],[],_,K=>K []
 | _,_,_,_,_=>none
def lH:List AV->AV
 | [v]=>v
 | vs=> .lR vs
def Kk(P:Program)(t:TypeId):bR:=cond (bt P t) (.agg ((sP P t).map λk=>cond (w7 P 8 t) (.f k) (.t k))) (cond (w7 P 8 t) (.f (kV P t)) (.t (kV P t)))
def rp:bR->Bool
 | .f _=>true
 | .agg l=>l.all λr=>match r with
  | .f _=>true
  | _=>false
 | _=>false
def dc(P:Program)(A:cG)(f:FuncId)(n:Nat)(fn:Func):List bR:=
 match A.ig f with
 | some _=>(A.zB f n).res
 | none=>match A.sig f with
  | some sg=>sg.res
  | none=>fn.resultTypes.toList.map (Kk P)
def gN(A:cG)(f:FuncId)(n:Nat):List jr:=
 match A.ig f with
 | some _=>(A.zB f n).outs
 | none=> []
def Oa:AV->Bool
 | .own _=>true
 | .part _ _ _ _=>true
 | _=>false
def gU:Option ab->Nat
 | some (.box cs)=>cs.length+1000 * (cs.filter Oa).length
 | _=>0
def cB(c:Option Bool)(m:Option (List T)):Option (List T):=
 match c with
 | none=>m
 | some b=>cond b m (some [])
def mD{R:Type}(P:Program)(c:Option Bool)(t:TypeId)(v:AV)(K:AV->Option R):Option R:=
 match v with
 | .t x=>eX (kV P t) c x λy=>K (.t y)
 | .agg vs=>match eO vs with
  | some l=>eM c (sP P t) l λl=>K (.agg (l.map .t))
  | none=>K (.agg vs)
 | v=>K v
def iY{R:Type}(P:Program)(c:Option Bool):List TypeId->List AV->(List AV->Option R)->Option R
 | [],vs,K=>K vs
 | _::_,[],K=>K []
 | t::ts,v::vs,K=>mD P c t v λu=>iY P c ts vs λus=>K (u::us)
def zD:List Bool->List AV->List Id
 | b::fl,v::vs=>cond b v.ids [] ++zD fl vs
 | _,_=> []
def sS(h:Id->Option ab)(fk:List Id)(b:Bool)(v:AV):Option (AV×aG):=
 cond (b || (!v.ids.isEmpty && v.ids.all fk.contains)) (some (v,[])) (kR false false h v)
def lY(h:Id->Option ab)(fk:List Id):List Bool->List AV->Option (List AV×aG)
 | _,[]=>some ([],[])
 | fl,v::r=>(sS h fk (fl.headD false) v).bind λp=>(lY h fk fl.tail r).bind λq=>some (p.1::q.1,p.2++q.2)
def Oy(sz az rsz:Nat):Nat:=100000+1000 * sz+100 * az+rsz
def rR(h:Id->Option ab)(new i:Id)(k sz az rsz:Nat):Option aG:=
 match h i with
 | some (.box cs)=>match cs[k]? with
  | some (.own _)=>some []
  | some (.t (.aT b))=>cond (h new).isNone (some [(new, .rows b sz az rsz 0 []),(i, .box (cs.set k (.own new)))]) none
  | some (.t (.ae _ true []))=>cond (h new).isNone (some [(new, .rows true sz az rsz 0 []),(i, .box (cs.set k (.own new)))]) none
  | _=>none
 | _=>none
def oK(h:Id->Option ab)(new i:Id)(k sz:Nat):Option aG:=
 cond (Nat.ble 100000 sz) (rR h new i k (sz % 100000 / 1000) (sz % 1000 / 100) (sz % 100)) <|
 match h i with
 | some (.box cs)=>match cs[k]? with
  | some (.own _)=>some []
  | some (.t (.aT b))=>cond (h new).isNone (some [(new, .sl false sz b []),(i, .box (cs.set k (.own new)))]) none
  | some (.t (.ae _ true []))=>cond (h new).isNone (some [(new, .sl false sz true []),(i, .box (cs.set k (.own new)))]) none
  | some (.part j d 0 n)=>match h j with
   | some (.sl false a b xs)=>if a=sz/\d=sz/\j≠i then cond (h new).isNone (some [(j, .dead),(new, .sl false sz b (xs.take n)),(i, .box (cs.set k (.own new)))]) none else none
   | _=>none
  | _=>none
 | _=>none
def jK(a:Nat):Nat->(Id->Option ab)->List (Id×Nat×Nat)->Option aG
 | _,_,[]=>some []
 | j,h,(i,k,sz)::r=>(oK h (.s a j) i k sz).bind λus=>(jK a (j+1) (aJ h us) r).bind λvs=>some (us++vs)
def py:List Id->List Id->List Id
 | [],_=> []
 | i::r,seen=>cond (seen.contains i) (py r seen) (i::py r (i::seen))
def nw(i:Id):Nat->List bR->List (Id×Nat×Nat)
 | _,[]=> []
 | k, .own sz::r=>(i,k,sz)::nw i (k+1) r
 | k, .rows sz az rsz::r=>(i,k,Oy sz az rsz)::nw i (k+1) r
 | k,_::r=>nw i (k+1) r
def ny:List Id->List jr->List (Id×Nat×Nat)
 | i::a, .box l::r=>nw i 0 l++ny a r
 | _::a,_::r=>ny a r
 | _,_=> []
def jy(l:List Id):aG:=l.map λi=>(i, .dead)
def xH(d:Nat)(l:List Id):Bool:=l.all λi=>match i with
 | .s a _=> !(a==d)
 | .c _=>true
 | .g _ _=>false
def gw{R:Type}(P:Program)(A:cG)(O:aB)(s:St)(d:Nat)(c:Option Bool)(f:FuncId)(args:List AV)(K:AV->aG->Option R):Option R:=
 match P.funcs[f]? with
 | none=>none
 | some fn=>
  match A.ig f with
  | none=>(kS ((dc P A f 0 fn).all rp) (A.deep f) s.h args).bind λp=>
   iY P c fn.params.toList p.1 λq=>aa none (cB c (O (.call f) q [])) λxs=>dL [] d c 0 (dc P A f 0 fn) xs λvs u _=>K (lH vs) (p.2++u)
  | some fl=>match c with
   | some _=>none
   | none=>(lY s.h (zD fl args) fl args).bind λp=>
    (jK (2000000+d) 0 (aJ s.h p.2) (ny (py (bT p.1) []) (gN A f (gU ((bT p.1).head?.bind (aJ s.h p.2)))))).bind λus=>
    (eW (aJ (aJ s.h p.2) us) 1000 (bT p.1) []).bind λseen=>
    cond (xH d seen && Nat.beq (gU (seen.map λi=>gO seen (aJ (aJ s.h p.2) us i)).head?) (gU ((bT p.1).head?.bind (aJ s.h p.2)))) (iY P none fn.params.toList (jN seen p.1) λq=>
     aa none (O (.call f) q (seen.map λi=>gO seen (aJ (aJ s.h p.2) us i))) λxs=>
     dL seen d none 0 (dc P A f (gU ((bT p.1).head?.bind (aJ s.h p.2))) fn) xs λvs u j=>
     fR seen d j seen (gN A f (gU ((bT p.1).head?.bind (aJ s.h p.2)))) (xs.drop (mB (dc P A f (gU ((bT p.1).head?.bind (aJ s.h p.2))) fn))) λq=>
     K (lH vs) (p.2++us++jy seen++u++q)) none
def nA:List AV->Option (List AV×Id×Nat×List AV)
 | []=>none
 | .row i n::r=>some ([],i,n,r)
 | v::r=>(nA r).bind λq=>some (v::q.1,q.2.1,q.2.2.1,q.2.2.2)
def lA(n:Nat):List Row->Option Unit
 | []=>none
 | e::r=>if e.n=n then(match e.own with | none=>some () | some _=>none) else lA n r
def sT{R:Type}(h:Id->Option ab)(i new:Id)(n rsz:Nat)(K:aG->Option R):Option R:=
 match h i,h new with
 | some (.rows b sz az d nx es),some (.sl false a e xs)=>if d=rsz/\a=rsz then
   aa none (lA n es) λ_=>K [(i, .rows b sz az rsz nx (dr n (some (e,xs)) es)),(new, .dead)] else none
 | _,_=>none
def Gb:Operand->Bool
 | .func _=>false
 | _=>true
def je{R:Type}(gX:Bool)(P:Program)(A:cG)(O:aB)(s:St)(d:Nat)(c:Option Bool)(f:FuncId)(args:List AV)(K:AV->aG->Option R):Option R:=
 match cond gX (nA args) none with
 | none=>gw P A O s d c f args K
 | some (e,i,n,g)=>match c,s.h i with
  | none,some (.rows b sz az rsz nx es)=>aa none (br n es) λp=>
    cond (s.h (.s (2500000+d) 0)).isNone
     (gw P A O {t:=s.t,h:=aJ s.h [(i, .rows b sz az rsz nx (dr n none es)),(.s (2500000+d) 0, .sl false rsz p.1 p.2)]} d none f (e++ .own (.s (2500000+d) 0)::g) λv us=>
      sT (aJ s.h ([(i, .rows b sz az rsz nx (dr n none es)),(.s (2500000+d) 0, .sl false rsz p.1 p.2)] ++us)) i (.s (2500000+d) 0) n rsz λa=>
       K v ([(i, .rows b sz az rsz nx (dr n none es)),(.s (2500000+d) 0, .sl false rsz p.1 p.2)] ++us++a)) none
  | _,_=>none
theorem J1{R:Type}(P:Program)(A:cG)(O:aB)(s:St)(d:Nat)(c:Option Bool)(f:FuncId)(args:List AV)(K:AV->aG->Option R):je false P A O s d c f args K=gw P A O s d c f args K:=rfl
def xf(c:Option Bool)(b:Bool):Option Bool:=some (match c with
 | none=>b
 | some a=>a && b)
def ot{R:Type}(c:Option Bool)(v:AV)(K:Int->Option R):Option R:=
 v.t?.bind λx=>aa c (iE.anyInt x) K
def jd{R:Type}(P:Program)(A:cG)(O:aB)(g:Option Gs)(o:Oper)(s:St)(K:AV->aG->Option R):Option R:=
 let ev:=s.get g;let c:=g.map (·.c);let d:=o.dst.getD 0
 match o.op with
 | .move x | .assign x=>K (ev x) []
 | .pick k a b=>(ev k).t?.bind λI=>aa c I.bool? λkb=>
   (s.mh g k true a).t?.bind λx=>aa (xf c kb) x.bool? λJ=>
   (s.mh g k false b).t?.bind λy=>aa (xf c (!kb)) y.bool? λL=>K (AV.t (.bool (cond kb J L))) []
 | .alloc t=>match c with
  | some _=>none
  | none=>(jq P t).bind λl=>K (.ref (.s d 0) 0) [(.s d 0, .box (l.map .t))]
 | .box _ x=>match c with
  | some _=>none
  | none=>if(gK (ev x)).all pw then K (.ref (.s d 0) 0) [(.s d 0, .box (gK (ev x)))] else none
 | .build t B=>(vX P t ev B.toList).bind λv=>K v []
 | .buildSlice t n B=>(mQ P t).bind λe=>if A.nk o.dst o.type=1 then
   (match c,B.toList,n with
   | none,[(0,x)],1=>if((gK (ev x)).length=P.cellsOf e/\(gK (ev x)).all pw=true)/\P.cellsOf e<=1000/\0 < P.cellsOf e/\(jq P e).isSome=true then K (.own (.s d 0)) [(.s d 0, .arr (gK (ev x)))] else none
   | _,_,_=>none)
   else if B.size=n/\n<=1000/\P.cellsOf e<=1000/\0 < P.cellsOf e/\(jq P e).isSome=true then
   if n=0/\A.app o.dst=true then K (.t (.aT false)) [] else
   (iq P s.h e ev 0 B.toList).bind λq=>
   match c with
   | some _=>K (.t (.ae (P.cellsOf e) false q.1)) q.2
   | none=>K (.own (.s d 0)) ((.s d 0, .sl false (P.cellsOf e) false q.1)::q.2)
   else none
 | .load t a=>jH P s c t (ev a) λv=>K v []
 | .store t a x=>match c with
  | some _=>none
  | none=>iW P s t (ev a) (ev x) λu=>K .top u
 | .nilCheck x=>match ev x with
  | .ref i k=>K (.ref i k) []
  | .el i sz k o=>K (.el i sz k o) []
  | .rel i sz n k o=>K (.rel i sz n k o) []
  | .t y=>aa c y.pU λcs=>K (.t (.ptr cs)) []
  | .fn f a b=>K (.fn f a b) []
  | _=>none
 | .binOp op t x y ty=>match op,oF P t y,oF P t x with
  | .eql,true,_=>(jl P s t (ev x)).bind λb=>K (.t (.bool b)) []
  | .neq,true,_=>(jl P s t (ev x)).bind λb=>K (.t (.bool (!b))) []
  | .eql,_,true=>(jl P s t (ev y)).bind λb=>K (.t (.bool b)) []
  | .neq,_,true=>(jl P s t (ev y)).bind λb=>K (.t (.bool (!b))) []
  | .eql,_,_=>pE P c t (ev x) (ev y) λb=>K (.t (.bool b)) []
  | .neq,_,_=>pE P c t (ev x) (ev y) λb=>K (.t (.bool (!b))) []
  | op,_,_=>(ev x).t?.bind λa=>(ev y).t?.bind λb=>qM P op t ty c a b λz=>K (.t z) []
 | .unOp op t x=>(ev x).t?.bind λa=>sd P op t c a λz=>K (.t z) []
 | .convert src C x=>match P.underlying src,P.underlying C with
  | some (.slice e),some .string=>match rz P e with
   | some .u8=>(dt s.h (ev x)).bind λy=>aa c ((y.aP 1).bind λp=>bytesOf p.2) λl=>K (.t (.str ⟨l.toArray⟩)) []
   | _=>none
  | _,_=>(ev x).t?.bind λa=>qP P c src C a λz=>K (.t z) []
 | .makeFunc (.func f) H D=>K (.fn f (H.toList.map ev) (D.toList.map ev)) []
 | .makeSlice t l m=>match c with
  | some _=>none
  | none=>(ev l).t?.bind λn=>(ev m).t?.bind λk=>rC P d t (A.nk o.dst o.type) n k K
 | .makeMap t m=>match c,m with
  | none,none=>rD P d t K
  | _,_=>none
 | .lookup t x k ok=>m7 P s c t (ev x) (ev k) ok λv=>K v []
 | .mapUpdate t x k v=>match c with
  | some _=>none
  | none=>nr P s t (ev x) (ev k) (ev v) λu=>K .top u
 | .slice t x E hi F=>
  iE s c g E λE=>iE s c g hi λhi=>iE s c g F λF=>nE P s c t (ev x) E hi F λv=>K v []
 | .fieldAddr t x f=>rl P c t (ev x) f λv=>K v []
 | .field t x f=>rk P t (ev x) f λv=>K v []
 | .indexAddr t x i=>ot c (ev i) λn=>jk P s c t (ev x) n λv=>K v []
 | .index t x i=>ot c (ev i) λn=>match P.underlying t with
  | some .string=>(ev x).t?.bind λy=>aa c y.bx λb=>jF c n b.size
    (aa c b.data.toList[n.toNat]? λu=>K (.t (.int .u8 u.toNat)) [])
  | some (.array m e)=>match ev x with
   | .agg vs=>cond (bN P e) ((eO vs).bind λl=>jF c n m (kx P e c (l.drop (n.toNat * P.cellsOf e)) λz=>K z [])) none
   | _=>none
  | _=>none
 | .extract x k=>match ev x with
  | .lR vs=>(vs[k]?).bind λv=>K v []
  | _=>none
 | .call j=>match j.callee with
  | .builtin .len=>match j.args.toList,j.argTypes.toList with
   | [x],t::_=>m5 P s c t (ev x) λv=>K v []
   | _,_=>none
  | .builtin .append=>match c,j.args.toList,j.argTypes.toList with
   | none,[x,y],[t,u]=>jZ P s d (A.nk o.dst o.type==3) t u (ev x) (ev y) K
   | _,_,_=>none
  | .builtin .max=>match rz P o.type with
   | some k=>(eO (j.args.toList.map ev)).bind λl=>match l with
    | x::r=>aa c (x.int? k) λa=>oA k c true a r λz=>K (.t z) []
    | []=>none
   | none=>none
  | .builtin .min=>match rz P o.type with
   | some k=>(eO (j.args.toList.map ev)).bind λl=>match l with
    | x::r=>aa c (x.int? k) λa=>oA k c false a r λz=>K (.t z) []
    | []=>none
   | none=>none
  | .builtin .delete=>match c,j.args.toList,j.argTypes.toList with
   | none,[x,y],t::_=>mN P s t (ev x) (ev y) λu=>K (.lR []) u
   | _,_,_=>none
  | .builtin .cap=>match j.args.toList,j.argTypes.toList with
   | [x],t::_=>match P.underlying t with
    | some (.slice _)=>match ev x with
     | .t y=>cond (xt y) (K (.t (.int .i64 0)) []) none
     | _=>none
    | _=>none
   | _,_=>none
  | .value G=>match ev G with
   | .fn f a b=>je (Gb G) P A O s d c f (a++j.args.toList.map ev++b) K
   | _=>none
  | _=>none
 | _=>none
open Go
section
variable (P:Program) (A:cG) (O:aB)
def wm(b want:Bool):Bool:=cond want b (!b)
def gC(g:Option Gs)(b want:Bool):Bool:=
 match g with
 | none=>wm b want
 | some a=>cond a.c (wm b want) false
def dq{R:Type}(a:Array Oper)(o:Oper)(s:St)(K:Option Gs->Option R):Option R:=
 match o.guard with
 | none=>K none
 | some (j,want)=>match(a[j]?).bind (·.dst) with
  | none=>none
  | some d=>(s.t d).2.t?.bind λx=>aa ((s.t d).1.map (·.c)) x.bool? λb=>
    K (some {d:=d,want:=want,c:=gC (s.t d).1 b want})
def MQ:Builtin->Bool
 | .delete=>true
 | _=>false
def fU(o:Oper):Bool:=
 match o.op with
 | .store .. =>true
 | .mapUpdate .. =>true
 | .call a=>match a.callee with
  | .builtin .append=>match a.args.toList with
   | .const (.slice none 0 0)::_=>false
   | _=> !A.app o.dst
  | .builtin b=>MQ b
  | .value (.func f)=>match A.ig f with
   | some _=>true
   | none=>match P.funcs[f]? with
    | some _=>A.wr f
    | none=>true
  | _=>true
 | _=>false
def Mm(o:Oper):Bool:=
 match o.op with
 | .call a=>match a.callee with
  | .value (.func f)=>match P.funcs[f]? with
   | some fn=>(dc P A f 0 fn).all rp
   | none=>false
  | _=>false
 | _=>false
def fT(o:Oper):Bool:=
 match o.op with
 | .move _ | .assign _ | .pick .. | .build .. | .unOp .. | .makeFunc .. | .fieldAddr .. | .field .. | .extract .. | .nilCheck _=>true
 | .binOp _ t x y _=> !(oF P t x || oF P t y)
 | .call a=>match a.callee with
  | .builtin .max | .builtin .min=>true
  | _=>false
 | _=>false
def eS(o:Oper):Bool:=
 match o.op with
 | .call a=>match a.callee with
  | .value (.func f)=>A.deep f
  | .value _=>true
  | .builtin .append=>A.nk o.dst o.type==3
  | _=>false
 | _=>false
def rM(o:Oper):Bool:=fT P o ||
 match o.op with
 | .load .. | .index .. | .indexAddr .. | .slice .. | .binOp .. | .convert .. | .lookup .. =>true
 | .call a=>match a.callee with
  | .builtin .len=>true
  | .value (.func _)=> !fU P A o && Mm P A o
  | _=>false
 | _=>false
def iM(o:Oper):Bool:=
 match o.op with
 | .alloc _ | .box .. | .makeSlice .. | .makeMap .. =>true
 | _=>false
def e9(o:Oper):Bool:=
 match o.op with
 | .call a=>match a.callee with
  | .value (.func f)=>(A.ig f).isSome
  | .value _=>true
  | _=>false
 | _=>false
def qO(a b:Oper):Bool:= !((fU P A a && !(fT P b || iM b)) || (fU P A b && !(fT P a || iM a))) && (!eS A a || rM P A b) && (!eS A b || rM P A a)
def gx:List Oper->List Nat
 | []=> []
 | o::r=>match o.dst with
  | some d=>d::gx r
  | none=>gx r
def rQ(d:Array Oper)(a:Nat):Nat:=match d.find? (λo=>o.dst==some a) with
 | some o=>match o.op with
  | .fieldAddr _ (.tmp b) _=>b
  | _=>a
 | none=>a
def gh(b:Array Oper)(o:Oper):Option Nat:=match o.guard,o.op with
 | none, .store _ (.tmp a) _=>some (rQ b a)
 | none, .load _ (.tmp a)=>some (rQ b a)
 | _,_=>none
def kJ(d:Array Oper)(a b:Oper):Bool:=A.st ((d[0]?).bind (·.dst)) && (match gh d a,gh d b with
 | some k,some e=> !(k==e) && !(gx d.toList).contains k && !(gx d.toList).contains e
 | _,_=>false)
def C7(o:Oper):Bool:=o.guard.isNone && fU P A o && match o.op with
 | .call a=>match a.callee with
  | .builtin .append=> !(A.nk o.dst o.type==3)
  | .value (.func f)=>(A.ig f).isNone && !A.deep f
  | _=>false
 | _=>false
def jO(b:Array Oper)(o:Oper):Option (Option Nat):=match o.guard,o.op with
 | none, .load _ (.tmp a)=>some (some (rQ b a))
 | none, .buildSlice .. =>some none
 | _,_=>none
def jG(d:Array Oper)(a b:Oper):Bool:=A.ld ((d[0]?).bind (·.dst)) && C7 P A a && (match jO d b with
 | some (some k)=> !(gx d.toList).contains k
 | some none=>true
 | none=>false)
def jm(o:Oper)(k:Bool):Bool:=match o.guard,o.op with
 | none, .store t (.tmp _) _=>(match P.underlying t with
  | some (.slice _)=>k
  | some (.int _)=> !k
  | _=>false)
 | _,_=>false
def lL(d:Array Oper)(a b:Oper):Bool:=A.sx ((d[0]?).bind (·.dst)) && jm P a true && jm P b false
def ka:aG->Bool
 | [(_, .dead),(_, .rows _ _ _ rsz _ _)]=> !(rsz==1)
 | _=>false
def kb:aG->Bool
 | [(_, .sl false sz _ _)]=>sz==1
 | _=>false
def zu(o:Oper)(s:St):Bool:=match o.op with
 | .store _ _ y=>(s.get none y).ids.isEmpty
 | _=>false
def xp(o:Oper):Bool:=match o.guard,o.op with
 | none, .indexAddr t (.tmp _) _=>(match mQ P t with
  | some e=>P.cellsOf e==1
  | none=>false)
 | none, .load _ (.tmp _)=>true
 | _,_=>false
def tX(o:Oper)(s:St):Bool:=match o.op with
 | .load _ x=>(match s.get none x with
  | .ref _ _=>true
  | _=>false)
 | .indexAddr _ x _=>(match s.get none x with
  | .own _=>true
  | _=>false)
 | _=>false
def kK(d:Array Oper)(a b:Oper):Bool:=A.sx ((d[0]?).bind (·.dst)) && (jm P a true || jm P a false) && xp P b
def rY(d:Array Oper)(a b:Oper):Bool:=kJ A d a b || jG P A d a b || jG P A d b a || (lL P A d a b || lL P A d b a) || (kK P A d a b || kK P A d b a)
def gS(a:Array Oper):Nat->Nat->Nat->Bool
 | 0,_,_=>false
 | n+1,j,i=>match a[j]? with
  | none=>false
  | some b=>b.after.any λe=>Region.binds .any e && (e.on==i || (Nat.blt i e.on && gS a n e.on i))
def Ay(a:Array Oper)(b:Array Bool)(i:Nat):Bool:=
 match a[i]? with
 | none=>false
 | some d=>(List.range a.size).all λj=>match a[j]? with
  | none=>true
  | some e=>j==i || b.getD j true || qO P A d e || rY P A a d e || gS a 12 j i
def xw(b:Array Oper):Nat->Nat->Array Bool->Bool
 | 0,_,_=>true
 | n+1,k,a=>Ay P A b a k && xw b n (k+1) (a.setIfInBounds k true)
def Mx(h:Id->Option ab)(us:aG):Bool:=us.all λp=>(h p.1).isNone
def iK(d:Nat)(h:Id->Option ab)(us:aG):Bool:=us.all λp=>match p.1 with
 | .s a _=> !(a==d) || (h p.1).isNone
 | .c _=>true
 | .g _ _=>false
def dK(a:Array Oper)(d:Option Nat):Bool:=
 a.any λo=>match o.guard with
  | none=>false
  | some (j,_)=>match(a[j]?).bind (·.dst),d with
   | some e,some d=>e==d
   | _,_=>false
def qN(a:Array Oper)(o:Oper)(d:Nat):Bool:=
 (List.range a.size).all λi=>match a[i]? with
  | some b=> !(b.dst==some d) || o.after.any (λe=>Region.binds .any e && (e.on==i || gS a 12 e.on i))
  | none=>true
def oD(a:Array Oper)(g:Option Gs)(o:Oper)(s:St):Bool:=
 o.op.operands.toList.all λx=>(s.get g x).ids.all λi=>match i with
  | .s d _=>qN a o d
  | .c _=>true
  | .g _ _=>false
def kA(o:Oper)(us:aG):Bool:=us.all λp=>match p.1 with
 | .s d _=>o.dst==some d
 | .c _=>false
 | .g _ _=>false
def se(a:Array Oper)(o:Oper)(us:aG):Bool:=us.all λp=>match p.1 with
 | .s d _=>qN a o d || o.dst==some d
 | .c _=>true
 | .g _ _=>false
def Cb(a:Array Oper)(o d:Oper)(s:St)(us:aG):Bool:=match gh a o,gh a d with
 | some k,some b=>(o.op.operands.toList.all λx=>(s.get none x).ids.all λi=>decide (i∈(s.t k).2.ids)) && us.all (λp=>decide (p.1∈(s.t k).2.ids)) && us.all (λp=>decide (p.1∉(s.t b).2.ids))
 | _,_=>false
def xu(a:Array Oper)(b:Oper)(s:St)(us:aG):Bool:=match jO a b with
 | some (some k)=>us.all λp=>decide (p.1∉(s.t k).2.ids)
 | _=>true
def tH(a:Array Oper)(o:Oper)(s:St):Bool:=match jO a o with
 | some (some k)=>o.op.operands.toList.all λx=>(s.get none x).ids.all λi=>decide (i∈(s.t k).2.ids)
 | some none=>o.op.operands.toList.all λx=>(s.get none x).ids.isEmpty
 | none=>true
def jQ(a:Array Oper)(o:Oper)(s:St)(us:aG):Bool:=a.all λb=>(!(kJ A a o b) || Cb a o b s us) && (!(jG P A a o b) || xu a b s us) && (!(jG P A a b o) || tH a o s) && ((!(lL P A a o b) || ka us) && (!(lL P A a b o) || (kb us && zu o s))) && ((!(kK P A a o b) || ka us || kb us) && (!(kK P A a b o) || tX o s))
def oI(b:Bool)(nt:Nat)(a:Array Oper)(o:Oper)(g:Option Gs)(s:St)(us:aG):Bool:=
 (match o.dst with | some d=>decide (d < nt) | none=>true) &&
 (match g with | some g=>us.isEmpty && !(o.dst==some g.d) | none=>true) &&
 iK (o.dst.getD 0) s.h us && (!b || (oD a g o s && (fU P A o || kA o us) && (!fT P o || us.isEmpty) && (!rM P A o || us.isEmpty) && (!fU P A o || se a o us) && Nat.ble nt 1000000 && jQ P A a o s us))
def p5(a:Bool)(o:Oper)(g:Option Gs):Option Gs:=
 match g with
 | some g=>cond (!a && e9 A o) (some g) none
 | none=>none
def wG(nt:Nat)(o:Oper)(g:Gs):Bool:=(match o.dst with | some d=>decide (d < nt) | none=>true) && !(o.dst==some g.d)
def NV(o:Oper):AV:=
 match o.op with
 | .call a=>match a.callee with
  | .value (.func f)=>match P.funcs[f]? with
   | some fn=>match dc P A f 0 fn with
    | [.f .b]=> .t (.bool false)
    | [.f (.i k)]=> .t (.int k 0)
    | _=> .top
   | none=> .top
  | _=>match P.underlying o.type with
   | some .bool=> .t (.bool false)
   | some (.int k)=> .t (.int k 0)
   | _=> .top
 | _=> .top
def oJ{R:Type}(b:Bool)(nt:Nat)(a:Array Oper)(o:Oper)(s:St)(K:St->Option R):Option R:=
 dq a o s λg=>match p5 A b o g with
 | some d=>cond (wG nt o d) (cond d.c
   (jd P A O none o (s.rK d) λv us=>
    if oI P A b nt a o none s us then K (s.put (dK a o.dst) o.dst (some d) v us) else none)
   (K (s.put (dK a o.dst) o.dst (some d) (NV P A o) []))) none
 | none=>jd P A O g o s λv us=>
  if oI P A b nt a o g s us then K (s.put (dK a o.dst) o.dst g v us) else none
def um{R:Type}(a:Bool)(nt:Nat)(b:Array Oper):List Oper->St->(St->Option R)->Option R
 | [],s,K=>K s
 | o::r,s,K=>oJ P A O a nt b o s λs'=>um a nt b r s' K
def St.clear(s:St):St:=
 {t :=λk=>match s.t k with
    | (none,v)=>(none,v)
    | (some _,_)=>(none, .top)
  h:=s.h}
def tQ:List Nat->Bool
 | []=>true
 | d::r=> !r.contains d && tQ r
def rv(a:Array Oper):Bool:=a.all λo=>match o.guard with
 | none=>true
 | some (j,_)=>o.after.any λe=>Region.binds .any e && e.on==j
def BD(b:Bool)(a:Array Oper):Bool:=
 !b || (Region.lexB .any a && xw P A a a.size 0 (Array.replicate a.size false) && tQ (gx a.toList) && rv a)
def region{R:Type}(nt:Nat)(a:Bool)(b:Array Oper)(s:St)(K:St->Option R):Option R:=
 cond (BD P A a b)
  (um P A O a nt b b.toList s λs'=>K s'.clear) none
def nh(h:Id->Option ab):AV->AV
 | .own i=>match h i with
  | some (.sl true sz b xs)=> .t (.ae sz b xs)
  | _=> .own i
 | .part i sz off n=>match h i with
  | some (.sl true a b xs)=>if a=sz then .t (.ae sz b ((xs.drop off).take n)) else .part i sz off n
  | _=> .part i sz off n
 | .ref i off=>match h i with
  | some (.ir l)=> .t (.ptr (l.drop off))
  | _=> .ref i off
 | v=>v
def tI(s:St)(k:Nat×Option Nat):Option (AV×aG):=
 match s.t k.1 with
 | (some _,_)=>none
 | (none,v)=>match k.2 with
  | none=>some (nh s.h v,[])
  | some sz=>if sz=0\/sz>=999998 then some (nh s.h v,[]) else match v with
   | .own i=>match s.h i with
    | some (.sl false _ _ _)=>some (.own i,[])
    | _=>none
   | .t (.aT b)=>some (.own (.s (1000000+k.1) 0),[(.s (1000000+k.1) 0, .sl false sz b [])])
   | _=>none
def ow(s:St):List (Nat×Option Nat)->Option (List AV×aG)
 | []=>some ([],[])
 | k::r=>(tI s k).bind λp=>(ow s r).bind λq=>some (p.1::q.1,p.2++q.2)
def yt(f:FuncId)(todo:List Item)(live:List (Nat×Option Nat))(m:Nat×Nat)(s:St):Option (List T):=
 (ow s live).bind λp=>
  if Mx s.h p.2 then
  let h:=aJ s.h p.2
  (eW h 1000 ((List.range m.1).map Id.c++bT p.1) []).bind λseen=>
   O (.node f todo live m) (jN seen p.1) (seen.map λi=>gO seen (h i))
  else none
def AB(h:Id->Option ab):AV->aG
 | .ref i _=>match h i with
  | some (.box cs)=>mb h cs
  | _=> []
 | _=> []
def mX(s:St):List (Nat×Option Nat)->aG
 | []=> []
 | (k,some 0)::r=>gM s.h (s.t k).2++mX s r
 | (k,some (n+1))::r=>cond (Nat.beq n 999998) (AB s.h (s.t k).2) [] ++mX s r
 | (_,none)::r=>mX s r
def xV(s:St):List (Nat×Option Nat)->List (Id×Nat×Nat)
 | []=> []
 | (k,some n)::r=>match cond (Nat.ble 1000000 n) (s.t k).2 .top with
  | .ref i _=>(i,n / 1000000 - 1,n % 1000000)::xV s r
  | _=>xV s r
 | _::r=>xV s r
def rS(az rsz:Nat)(e:Row):List T:=e.cs.set az (match e.own with
 | some p=> .ae rsz p.1 p.2
 | none=> .aD)
def xI(h:Id->Option ab):AV->(Id->Option ab)
 | .ref i _=>match h i with
  | some (.box cs)=>aJ h [(i, .box (cs.map (nh h)))]
  | _=>h
 | _=>h
def B1(h:Id->Option ab):AV->(Id->Option ab)
 | .own i=>match h i with
  | some (.rows b sz az rsz _ es)=>cond (bE es) (aJ h [(i, .sl true sz b (es.map (rS az rsz)))]) h
  | _=>h
 | _=>h
def B2:(Id->Option ab)->List AV->(Id->Option ab)
 | h,[]=>h
 | h,v::r=>B2 (B1 h v) r
def BZ(h:Id->Option ab):AV->(Id->Option ab)
 | .ref i _=>match h i with
  | some (.box cs)=>B2 h cs
  | _=>h
 | _=>h
def rI(t:Nat->Option Gs×AV):(Id->Option ab)->List (Nat×Option Nat)->(Id->Option ab)
 | h,[]=>h
 | h,(k,some n)::r=>rI t (cond (Nat.beq n 999999) (xI h (t k).2) (cond (Nat.beq n 999998) (xI (BZ h (t k).2) (t k).2) h)) r
 | h,(_,none)::r=>rI t h r
def lO(f:FuncId)(todo:List Item)(live:List (Nat×Option Nat))(m:Nat×Nat)(s:St):Option (List T):=
 (jK 1900000 0 (aJ s.h (mX s live)) (xV s live)).bind λus=>
  yt O f todo live m {t:=s.t,h:=rI s.t (aJ (aJ s.h (mX s live)) us) live}
def mW(live:List (Nat×Option Nat))(bc:List AV)(blks:List ab):St:=
 {t:=λk=>(none,look live bc k)
  h:=fun
   | .c j=>blks[j]?
   | _=>none}
where
 look:List (Nat×Option Nat)->List AV->Nat->AV
 | (k,_)::ks,v::vs,j=>if j=k then v else look ks vs j
 | _,_,_=> .top
def oS:Code->Nat
 | .region id _ _=>id
 | .seq a _=>oS a
 | .block _ b=>oS b
 | .cond _ a _=>oS a
 | _=>1000000
def Hm(h:Id->Option ab)(sz:Nat):AV->Option (T×Id)
 | .own i=>match h i with
  | some (.sl false a b xs)=>if a=sz then some (.ae sz b xs,i) else none
  | _=>none
 | _=>none
def jh{R:Type}(m:Nat)(h:Id->Option ab)(r:bR)(v:AV)(K:T->List Id->List Id->Option R):Option R:=
 match r with
 | .f _=>v.t?.bind λx=>aa none x.pH λ_=>K x [] []
 | .t _=>(dt h v).bind λx=>K x [] ((gM h v).map (·.1))
 | .own sz=>match v with
  | .own i=>(Hm h sz (.own i)).bind λp=>K p.1 [p.2] []
  | .part i a 0 n=>match h i with
   | some (.sl false j b xs)=>if j=sz/\a=sz then K (.ae sz b (xs.take n)) [i] [] else none
   | _=>none
  | .t (.aT b)=>K (.aT b) [] []
  | .t (.ae _ true [])=>K (.aT true) [] []
  | _=>none
 | .ref k off=>match v with
  | .ref (.c e) off'=>if e=k/\off'=off/\k < m then K .aD [] [] else none
  | _=>none
 | .same k=>match v with
  | .own (.c e)=>if e=k/\k < m then K .aD [] [] else none
  | _=>none
 | .rows sz az rsz=>match v with
  | .own i=>match h i with
   | some (.rows b a d g _ es)=>if a=sz/\d=az/\g=rsz then
     aa none (if bE es=true then some () else none) λ_=>K (bH b es) [i] [] else none
   | _=>none
  | _=>none
 | .mp ag ks vk=>match v with
  | .own i=>match h i with
   | some (.mp l o q es)=>if l=ag/\o=ks/\q=vk then K (bK es) [i] [] else none
   | _=>none
  | _=>none
 | .no=>match v with
  | .ref _ _=>K .aD [] []
  | _=>none
 | .agg _=>none
 | .new _=>none
def mR{R:Type}(m:Nat)(h:Id->Option ab):List bR->List AV->(List T->List Id->List Id->Option R)->Option R
 | [],[],K=>K [] [] []
 | r::f,v::vs,K=>jh m h r v λx a b=>mR m h f vs λxs d e=>K (x::xs) (a++d) (b++e)
 | _,_,_=>none
def bS{R:Type}(m:Nat)(h:Id->Option ab):List bR->List AV->(List T->List Id->List Id->Option R)->Option R
 | [],[],K=>K [] [] []
 | r::f,v::vs,K=>match r with
  | .agg l=>match v with
   | .agg cs=>mR m h l cs λxs a b=>bS m h f vs λg d e=>K (xs++g) (a++d) (b++e)
   | _=>none
  | .new l=>match v with
   | .ref i 0=>match h i with
    | some (.box cs)=>mR m h l cs λxs a b=>bS m h f vs λg d e=>K (xs++g) (i:: (a++d)) (b++e)
    | _=>none
   | _=>none
  | r=>jh m h r v λx a b=>bS m h f vs λxs d e=>K (x::xs) (a++d) (b++e)
 | _,_,_=>none
def la{R:Type}(m:Nat)(h:Id->Option ab):Nat->List jr->(List T->List Id->List Id->Option R)->Option R
 | _,[],K=>K [] [] []
 | j, .box l::r,K=>match h (.c j) with
  | some (.box cs)=>mR m h l cs λxs a b=>la m h (j+1) r λf d e=>K (xs++f) (.c j:: (a++d)) (b++e)
  | _=>none
 | j, .sl sz::r,K=>match h (.c j) with
  | some (.sl false k b xs)=>if k=sz then la m h (j+1) r λf d e=>K (.ae sz b xs::f) (.c j::d) e else none
  | _=>none
 | j, .mp ag ks vk::r,K=>match h (.c j) with
  | some (.mp g i n es)=>if g=ag/\i=ks/\n=vk then la m h (j+1) r λf d e=>K (bK es::f) (.c j::d) e else none
  | _=>none
 | j, .dead::r,K=>la m h (j+1) r K
def rP{R:Type}(s:St):List ResultVar->(List AV->Option R)->Option R
 | [],K=>K []
 | .tmp k::r,K=>match s.t k with
   | (none,v)=>rP s r λl=>K (v::l)
   | _=>none
 | .cell k t::r,K=>match s.t k with
   | (none,v)=>jH P s none t v λv=>rP s r λl=>K (v::l)
   | _=>none
def xG:List Id->Bool
 | []=>true
 | i::r=> !r.contains i && xG r
def wY(f:FuncId)(fn:Func)(m:Nat×Nat)(s:St):Option (List T):=
 rP P s fn.results.toList λvs=>
  if m.1= (gN A f m.2).length then
  bS m.1 s.h (dc P A f m.2 fn) vs λxs a b=>la m.1 s.h 0 (gN A f m.2) λg d e=>
   if xG (a++d) && (b++e).all (λi=> !(a++d).contains i) then some (xs++g) else none
  else none
def tY:List AV->List Id
 | []=> []
 | .own i::r=>i::tY r
 | _::r=>tY r
def BG(h:Id->Option ab)(t:Nat->Option Gs×AV):List ResultVar->List Id
 | []=> []
 | .tmp k::r=>(match(t k).2 with
  | .agg vs=>tY vs
  | v=>tY [v])++BG h t r
 | .cell k _::r=>(match(t k).2 with
  | .ref i _=>match h i with
   | some (.box cs)=>tY cs
   | _=> []
  | _=> [])++BG h t r
def uu{R:Type}:(Id->Option ab)->List Id->(aG->Option R)->Option R
 | _,[],K=>K []
 | h,i::r,K=>match h i with
  | some (.rows b sz az rsz _ es)=>aa none (if bE es=true then some () else none) λ_=>
    uu (aJ h [(i, .sl true sz b (es.map (rS az rsz)))]) r λus=>K ((i, .sl true sz b (es.map (rS az rsz)))::us)
  | _=>uu h r K
def wX(f:FuncId)(fn:Func)(m:Nat×Nat)(s:St):Option (List T):=
 cond ((dc P A f m.2 fn).any F2) (wY P A f fn m s)
  (uu s.h (BG s.h s.t fn.results.toList) λus=>wY P A f fn m {t:=s.t,h:=aJ s.h us})
def ev(f:FuncId)(fn:Func)(m:Nat×Nat):Nat->Bool->List Item->St->Option (List T)
 | 0,_,_,_=>none
 | n+1,d,todo,s=>match todo with
  | []=>wX P A f fn m s
  | .code c::k=>match c with
   | .skip=>ev f fn m n true k s
   | .seq a b=>ev f fn m n d (.code a:: .code b::k) s
   | .region id g e=>match cond d (A.join f id) none with
    | some live=>lO O f (.code (.region id g e)::k) live m s
    | none=>region P A O fn.ntmps e g s λs'=>ev f fn m n true k s'
   | .cond x a b=>(s.get none x).t?.bind λy=>aa none y.bool? λt=>cond t (ev f fn m n true (.code a::k) s) (ev f fn m n true (.code b::k) s)
   | .block id b=>ev f fn m n d (.code b:: .inBlock id::k) s
   | .loop b=>match A.live f (oS b) with
    | some live=>lO O f (.inLoop b::k) live m s
    | none=>none
   | .exit id=>match exitTo id k with
    | some i=>ev f fn m n true i s
    | none=>none
   | .ret=>wX P A f fn m s
   | _=>none
  | .inBlock _::k=>ev f fn m n true k s
  | .inLoop b::k=>match A.live f (oS b) with
    | some live=>lO O f (.inLoop b::k) live m s
    | none=>none
  | _::_=>none
def jD:Nat:=100000
def tz(bc:List AV)(a:List ab):St:=
 {t:=λk=>(none,bc.getD k .top)
  h:=fun
   | .c j=>a[j]?
   | _=>none}
def aF:aB
 | .call f,bc,a=>match A.ext f bc a with
  | some r=>some r
  | none=>match P.funcs[f]? with
  | some fn=>match fn.body with
   | some c=>if bc.length<=fn.ntmps then ev P A O f fn (a.length,gU a.head?) jD true [.code c] (tz bc a) else none
   | none=>none
  | none=>none
 | .node f todo live m,bc,a=>match P.funcs[f]? with
  | some fn=>match todo with
   | .inLoop b::k=>ev P A O f fn m jD true (.code b:: .inLoop b::k) (mW live bc a)
   | todo=>ev P A O f fn m jD false todo (mW live bc a)
  | none=>none
end
def pF(d:Bool)(r:Nat):Code->List Item->Option (List Item)
 | .seq a b,k=>match pF d r a (.code b::k) with
  | some t=>some t
  | none=>pF d r b k
 | .block id b,k=>pF d r b (.inBlock id::k)
 | .loop b,k=>if d && oS b==r then some (.inLoop b::k) else pF d r b (.inLoop b::k)
 | .cond _ a b,k=>match pF d r a k with
  | some t=>some t
  | none=>pF d r b k
 | .region id f e,k=>if !d && id==r then some (.code (.region id f e)::k) else none
 | _,_=>none
def aZ(P:Program)(f:FuncId)(a:Bool)(r:Nat)(live:List (Nat×Option Nat))(m:Nat×Nat):Key:=
 .node f (match P.funcs[f]? with
  | some fn=>match fn.body with
   | some c=>(pF a r c []).getD []
   | none=> []
  | none=> []) live m
def iP(P:Program)(A:cG):Nat->aB
 | 0=>λ_ _ _=>none
 | n+1=>aF P A (iP P A n)
open Classical in
noncomputable def mn(P:Program)(A:cG):aB:=λk vs bs=>
 if h:∃n r,iP P A n k vs bs=some r then some (Classical.choose (T7 h)) else none
open Go
section
variable (w:World) (A:Nat->Prop)
mutual
def aw:T->Value->Prop
 | .int k n,v=>v= .int k n
 | .bool b,v=>v= .bool b
 | .str s,v=>v= .string s
 | .ae sz b xs,v=>(b=true/\xs= []/\v= .slice none 0 0)\/
   (b=false/\∃ah off a cap,v= .slice (some ⟨ah,off,a⟩) xs.length cap/\xs.length<=cap/\(xs= []\/(a=none/\A ah))/\aU ah sz off xs)
 | .aT b,v=>(b=true/\v= .slice none 0 0)\/(b=false/\∃ah off a,v= .slice (some ⟨ah,off,a⟩) 0 0)
 | .ptr cs,v=>∃ah off,v= .pointer (some ⟨ah,off,none⟩)/\(cs= []\/A ah)/\aS ah off cs
 | .aD,v=>v= .pointer none
 | .xF,v=>v= .map none
 | .xE,v=>v= .nilFunc
 | .Bl,v=>v= .nilIface
 | .any,v=>v.oneCell'=true/\v.cells= #[v]
def aU(ah sz:Nat):Nat->List (List T)->Prop
 | _,[]=>True
 | off,cs::xs=>cs.length=sz/\aS ah off cs/\aU ah sz (off+sz) xs
def aS(ah:Nat):Nat->List T->Prop
 | _,[]=>True
 | off,c::cs=>(∃v,w.cell? ⟨ah,off,none⟩=some v/\aw c v)/\aS ah (off+1) cs
end
def aN:List T->List Value->Prop
 | [],vs=>vs= []
 | c::cs,vs=>∃v r,vs=v::r/\aw w A c v/\aN cs r
end
section
variable {w w':World} {A A':Nat->Prop}
theorem mK{a:Addr}(h:w'.heap[a.block]? =w.heap[a.block]?):w'.cell? a=w.cell? a:=by simp [World.cell?,h]
mutual
theorem aw.mono(h:∀b,A b->A' b/\w'.heap[b]? =w.heap[b]?):∀(t:T) (v:Value),aw w A t v->aw w' A' t v
 | .int k n,v,hv=>by simpa [aw] using hv
 | .bool b,v,hv=>by simpa [aw] using hv
 | .str s,v,hv=>by simpa [aw] using hv
 | .aT b,v,hv=>by simpa [aw] using hv
 | .aD,v,hv=>by simpa [aw] using hv
 | .xF,v,hv=>by simpa [aw] using hv
 | .xE,v,hv=>by simpa [aw] using hv
 | .Bl,v,hv=>by simpa [aw] using hv
 | .any,v,hv=>by simp only [aw] at hv⊢;exact hv
 | .ae sz b xs,v,hv=>by
  simp only [aw] at hv⊢;rcases hv with hv | ⟨hb,ah,off,f,cap,h1,d,a,e⟩
  .exact .inl hv
  .refine .inr ⟨hb,ah,off,f,cap,h1,d, ?_, ?_⟩
   .rcases a with a | a
    .exact .inl a
    .exact .inr ⟨a.1,(h _ a.2).1⟩
   .rcases a with a | a
    .subst a;simp [aU]
    .exact aU.mono h ah sz a.2 off xs e
 | .ptr cs,v,hv=>by
  simp only [aw] at hv⊢;obtain⟨ah,off,h1,d,a⟩:=hv;refine⟨ah,off,h1, ?_, ?_⟩
  .rcases d with d | d
   .exact .inl d
   .exact .inr (h _ d).1
  .rcases d with d | d
   .subst d;simp [aS]
   .exact aS.mono h ah d off cs a
theorem aU.mono(h:∀b,A b->A' b/\w'.heap[b]? =w.heap[b]?)(ah sz:Nat)(hb:A ah):∀(off:Nat) (xs:List (List T)),aU w A ah sz off xs->aU w' A' ah sz off xs
 | _,[],_=>by simp [aU]
 | off,cs::xs,hv=>by simp only [aU] at hv⊢;exact⟨hv.1,aS.mono h ah hb off cs hv.2.1,aU.mono h ah sz hb (off+sz) xs hv.2.2⟩
theorem aS.mono(h:∀b,A b->A' b/\w'.heap[b]? =w.heap[b]?)(ah:Nat)(hb:A ah):∀(off:Nat) (cs:List T),aS w A ah off cs->aS w' A' ah off cs
 | _,[],_=>by simp [aS]
 | off,c::cs,hv=>by simp only [aS] at hv⊢;obtain⟨⟨v,d,e⟩,a⟩:=hv;exact⟨⟨v,by rw [mK (w:=w) (by exact(h ah hb).2)];exact d,aw.mono h c v e⟩,aS.mono h ah hb (off+1) cs a⟩
end
theorem aS.m8(h:∀b,A b->A' b/\w'.heap[b]? =w.heap[b]?)(ah:Nat)(hb:w'.heap[ah]? =w.heap[ah]?):∀(off:Nat) (cs:List T),aS w A ah off cs->aS w' A' ah off cs
 | _,[],_=>by simp [aS]
 | off,c::cs,hv=>by simp only [aS] at hv⊢;obtain⟨⟨v,d,e⟩,a⟩:=hv;exact⟨⟨v,by rw [mK (w:=w) (by exact hb)];exact d,aw.mono h c v e⟩,aS.m8 h ah hb (off+1) cs a⟩
theorem aU.m8(h:∀b,A b->A' b/\w'.heap[b]? =w.heap[b]?)(ah sz:Nat)(hb:w'.heap[ah]? =w.heap[ah]?):∀(off:Nat) (xs:List (List T)),aU w A ah sz off xs->aU w' A' ah sz off xs
 | _,[],_=>by simp [aU]
 | off,cs::xs,hv=>by simp only [aU] at hv⊢;exact⟨hv.1,aS.m8 h ah hb off cs hv.2.1,aU.m8 h ah sz hb (off+sz) xs hv.2.2⟩
theorem aN.mono(h:∀b,A b->A' b/\w'.heap[b]? =w.heap[b]?):∀(cs:List T) (vs:List Value),aN w A cs vs->aN w' A' cs vs
 | [],_,hv=>hv
 | c::cs,vs,⟨v,r,e,h1,a⟩=>⟨v,r,e,aw.mono h c v h1,aN.mono h cs r a⟩
theorem aU.get{ah sz:Nat}:∀{off:Nat} {xs:List (List T)},aU w A ah sz off xs->∀{k:Nat} {cs:List T},xs[k]? =some cs->cs.length=sz/\aS w A ah (off+k * sz) cs
 | off,cs::xs,h,0,a,e=>by simp only [aU] at h;simp at e;subst e;exact⟨h.1,by simpa using h.2.1⟩
 | off,cs::xs,h,k+1,a,e=>by
  simp only [aU] at h;have:=aU.get h.2.2 (k:=k) (cs:=a) (by simpa using e);refine⟨this.1, ?_⟩;have b:off+ (k+1) * sz=off+sz+k * sz:=by rw [Sn];omega
  rw [b];exact this.2
theorem aS.get{ah:Nat}:∀{off:Nat} {cs:List T},aS w A ah off cs->∀{k:Nat} {c:T},cs[k]? =some c->∃v,w.cell? ⟨ah,off+k,none⟩=some v/\aw w A c v
 | off,c::cs,h,0,c',e=>by simp only [aS] at h;simp at e;subst e;exact h.1
 | off,c::cs,h,k+1,c',e=>by
  simp only [aS] at h;have:=aS.get h.2 (k:=k) (c:=c') (by simpa using e);have a:off+1+k=off+ (k+1):=by omega
  rw [a] at this;exact this
theorem aS.drop{ah:Nat}:∀{off:Nat} {cs:List T},aS w A ah off cs->∀(n:Nat),aS w A ah (off+n) (cs.drop n)
 | _,_,h,0=>by simpa using h
 | _,[],_,n+1=>by simp [aS]
 | off,c::cs,h,n+1=>by
  simp only [aS] at h;have:=aS.drop h.2 n;have a:off+1+n=off+ (n+1):=by omega
  rw [a] at this;simpa using this
theorem aU.drop{ah sz:Nat}:∀{off:Nat} {xs:List (List T)},aU w A ah sz off xs->∀(n:Nat),aU w A ah sz (off+n * sz) (xs.drop n)
 | _,_,h,0=>by simpa using h
 | _,[],_,n+1=>by simp [aU]
 | off,cs::xs,h,n+1=>by
  simp only [aU] at h;have:=aU.drop h.2.2 n;have a:off+sz+n * sz=off+ (n+1) * sz:=by rw [Sn];omega
  rw [a] at this;simpa using this
theorem aU.take{ah sz:Nat}:∀{off:Nat} {xs:List (List T)},aU w A ah sz off xs->∀(n:Nat),aU w A ah sz off (xs.take n)
 | _,_,_,0=>by simp [aU]
 | _,[],_,n+1=>by simp [aU]
 | off,cs::xs,h,n+1=>by simp only [aU] at h;simp only [Ur,aU];exact⟨h.1,h.2.1,aU.take h.2.2 n⟩
theorem aU.append{ah sz:Nat}:∀{off:Nat} {xs a:List (List T)},aU w A ah sz off xs->aU w A ah sz (off+xs.length * sz) a->aU w A ah sz off (xs++a)
 | off,[],a,_,h=>by simpa using h
 | off,cs::xs,a,h,h'=>by
  simp only [aU] at h;simp only [Rx,aU];refine⟨h.1,h.2.1,aU.append h.2.2 ?_⟩;have b:off+sz+xs.length * sz=off+ (cs::xs).length * sz:=by simp [Sn];omega
  rw [b];exact h'
theorem aw.pR{t:T}{v:Value}(h:aw w A t v):v.oneCell'=true/\v.cells= #[v]:=by
 cases t <;> simp only [aw] at h
 case ae=>rcases h with⟨_,_,rfl⟩ | ⟨_,_,_,_,_,rfl,_⟩ <;> exact⟨rfl,rfl⟩
 case aT=>rcases h with⟨_,rfl⟩ | ⟨_,_,_,_,rfl⟩ <;> exact⟨rfl,rfl⟩
 case ptr=>obtain⟨_,_,rfl,_⟩:=h;exact⟨rfl,rfl⟩
 case any=>exact h
 all_goals subst h;exact⟨rfl,rfl⟩
theorem aN.length:∀{cs:List T} {vs:List Value},aN w A cs vs->vs.length=cs.length
 | [],_,h=>by simp only [aN] at h;simp [h]
 | c::cs,vs,⟨v,r,e,_,h⟩=>by subst e;simp [aN.length h]
end
section
variable (w:World) (A:Nat->Prop) (ρ:Id->Option Value)
mutual
def ak:AV->Value->Prop
 | .top,_=>True
 | .t x,v=>aw w A x v
 | .lR vs,v=>∃d:List Value,v= .tuple d.toArray/\ay vs d
 | .agg vs,v=>∃d:List Value,v= .agg d.toArray/\ay vs d/\∀u∈d,u.oneCell'=true/\u.cells= #[u]
 | .ref i off,v=>∃b,ρ i=some (.pointer (some ⟨b,0,none⟩))/\v= .pointer (some ⟨b,off,none⟩)
 | .el i sz k off,v=>∃b o L cap,ρ i=some (.slice (some ⟨b,o,none⟩) L cap)/\v= .pointer (some ⟨b,o+k * sz+off,none⟩)
 | .own i,v=>ρ i=some v
 | .part i sz off n,v=>∃a L cap e,ρ i=some (.slice a L cap)/\off+n<=L/\L<=cap/\v= .slice e n (cap - off)/\
   ((off=0/\e=a)\/(off=cap/\(e=none↔a=none)/\True)\/∃b o,a=some ⟨b,o,none⟩/\e=some ⟨b,o+off * sz,none⟩)
 | .row i n,v=>ρ (.g i n)=some v
 | .rel i sz n k off,v=>∃b o L cap,ρ (.g i n)=some (.slice (some ⟨b,o,none⟩) L cap)/\v= .pointer (some ⟨b,o+k * sz+off,none⟩)
 | .fn f xs l,v=>∃j y':List Value,v= .func (.func f) j.toArray y'.toArray/\ay xs j/\ay l y'
def ay:List AV->List Value->Prop
 | [],vs=>vs= []
 | a::as,vs=>∃v r,vs=v::r/\ak a v/\ay as r
end
end
section
variable {w w':World} {A A':Nat->Prop} {ρ ρ':Id->Option Value}
mutual
theorem ak.mono(h:∀b,A b->A' b/\w'.heap[b]? =w.heap[b]?)(d:∀i v,ρ i=some v->ρ' i=some v):∀(a:AV) (v:Value),ak w A ρ a v->ak w' A' ρ' a v
 | .top,_,_=>by simp [ak]
 | .t x,v,hv=>by simp only [ak] at hv⊢;exact aw.mono h x v hv
 | .lR vs,v,hv=>by simp only [ak] at hv⊢;obtain⟨j,e,g⟩:=hv;exact⟨j,e,ay.mono h d vs j g⟩
 | .agg vs,v,hv=>by simp only [ak] at hv⊢;obtain⟨j,e,g,q⟩:=hv;exact⟨j,e,ay.mono h d vs j g,q⟩
 | .ref i off,v,hv=>by simp only [ak] at hv⊢;obtain⟨b,e,g⟩:=hv;exact⟨b,d _ _ e,g⟩
 | .el i sz k off,v,hv=>by simp only [ak] at hv⊢;obtain⟨b,o,L,cap,e,g⟩:=hv;exact⟨b,o,L,cap,d _ _ e,g⟩
 | .own i,v,hv=>by simp only [ak] at hv⊢;exact d _ _ hv
 | .part i sz off n,v,hv=>by simp only [ak] at hv⊢;obtain⟨a,L,cap,m,e,g⟩:=hv;exact⟨a,L,cap,m,d _ _ e,g⟩
 | .row i n,v,hv=>by simp only [ak] at hv⊢;exact d _ _ hv
 | .rel i sz n k off,v,hv=>by simp only [ak] at hv⊢;obtain⟨b,o,L,cap,e,g⟩:=hv;exact⟨b,o,L,cap,d _ _ e,g⟩
 | .fn f xs r,v,hv=>by simp only [ak] at hv⊢;obtain⟨l,y',e,h1,p⟩:=hv;exact⟨l,y',e,ay.mono h d xs l h1,ay.mono h d r y' p⟩
theorem ay.mono(h:∀b,A b->A' b/\w'.heap[b]? =w.heap[b]?)(d:∀i v,ρ i=some v->ρ' i=some v):∀(as:List AV) (vs:List Value),ay w A ρ as vs->ay w' A' ρ' as vs
 | [],_,hv=>by simpa [ay] using hv
 | a::as,vs,hv=>by simp only [ay] at hv⊢;obtain⟨v,r,e,h1,f⟩:=hv;exact⟨v,r,e,ak.mono h d a v h1,ay.mono h d as r f⟩
end
theorem ay.length:∀{as:List AV} {vs:List Value},ay w A ρ as vs->vs.length=as.length
 | [],_,h=>by simp only [ay] at h;simp [h]
 | a::as,vs,h=>by simp only [ay] at h;obtain⟨v,r,e,_,h⟩:=h;subst e;simp [ay.length h]
theorem ay.get:∀{as:List AV} {vs:List Value},ay w A ρ as vs->∀{k:Nat} {a:AV},as[k]? =some a->∃v,vs[k]? =some v/\ak w A ρ a v
 | a::as,vs,h,0,b,e=>by simp only [ay] at h;obtain⟨v,r,rfl,h1,_⟩:=h;simp at e;subst e;exact⟨v,rfl,h1⟩
 | a::as,vs,h,k+1,b,e=>by simp only [ay] at h;obtain⟨v,r,rfl,_,h⟩:=h;obtain⟨u,f,d⟩:=ay.get h (k:=k) (a:=b) (by simpa using e);exact⟨u,by simpa using f,d⟩
theorem ay.append:∀{as bs:List AV} {vs us:List Value},ay w A ρ as vs->ay w A ρ bs us->ay w A ρ (as++bs) (vs++us)
 | [],_,_,_,h,h'=>by simp only [ay] at h;subst h;simpa using h'
 | a::as,bs,vs,us,h,h'=>by simp only [ay] at h;obtain⟨v,r,rfl,h1,h⟩:=h;simp only [Rx,ay];exact⟨v,r++us,rfl,h1,ay.append h h'⟩
theorem ay.drop:∀{as:List AV} {vs:List Value},ay w A ρ as vs->∀n,ay w A ρ (as.drop n) (vs.drop n)
 | _,_,h,0=>by simpa using h
 | [],vs,h,n+1=>by simp only [ay] at h;subst h;simp [ay]
 | a::as,vs,h,n+1=>by simp only [ay] at h;obtain⟨v,r,rfl,h1,h⟩:=h;simpa using ay.drop h n
theorem ay.take:∀{as:List AV} {vs:List Value},ay w A ρ as vs->∀n,ay w A ρ (as.take n) (vs.take n)
 | _,_,_,0=>by simp [ay]
 | [],vs,h,n+1=>by simp only [ay] at h;subst h;simp [ay]
 | a::as,vs,h,n+1=>by simp only [ay] at h;obtain⟨v,r,rfl,h1,h⟩:=h;simp only [Ur,ay];exact⟨v,r.take n,rfl,h1,ay.take h n⟩
theorem ay.lD:∀{cs:List T} {vs:List Value},aN w A cs vs->ay w A ρ (cs.map .t) vs
 | [],_,h=>by simpa [ay,aN] using h
 | c::cs,vs,⟨v,r,e,h1,a⟩=>by simp only [RX,ay];exact⟨v,r,e,by simpa [ak] using h1,ay.lD a⟩
theorem aN.lC:∀{as:List AV} {cs:List T} {vs:List Value},eO as=some cs->ay w A ρ as vs->aN w A cs vs
 | [],cs,vs,h,hv=>by simp only [eO,Rp] at h;subst h;simpa [aN,ay] using hv
 | a::as,cs,vs,h,hv=>by
  cases a <;> simp only [eO,reduceCtorEq] at h
  case t x=>
   cases b:eO as with
   | none=>simp [b] at h
   | some l=>simp only [b,RA,Rp] at h;subst h;simp only [ay,ak] at hv;obtain⟨v,r,e,h1,d⟩:=hv;exact⟨v,r,e,h1,aN.lC b d⟩
end
open Go
section
variable {R S α:Type}
theorem bz[Inhabited α](c:Option Bool)(m:Option α)(k:α->Option R)(f:R->Option S):(aa c m k).bind f=aa c m λa=>(k a).bind f:=by
 unfold aa;cases m with
 | some a=>rfl
 | none=>cases c with
  | none=>rfl
  | some b=>cases b <;> rfl
theorem aK[Inhabited α]{c:Option Bool}{m:Option α}{k:α->Option R}{r:R}(h:aa c m k=some r)(b:c=none\/c=some true):∃a,m=some a/\k a=some r:=by
 unfold aa at h;cases m with
 | some a=>exact⟨a,rfl,h⟩
 | none=>rcases b with rfl | rfl <;> simp at h
theorem kY(c:Bool)(x y:Option R)(f:R->Option S):(cond c x y).bind f=cond c (x.bind f) (y.bind f):=by cases c <;> rfl
theorem cK(c:Prop)[Decidable c](x y:Option R)(f:R->Option S):(if c then x else y).bind f=if c then x.bind f else y.bind f:=by split <;> rfl
theorem bh(f:R->Option S):(none:Option R).bind f=none:=rfl
theorem Cg(c:Option Bool):∀(n:Nat) (cs:List T) (K:List T->Option R) (f:R->Option S),(o5 c n cs K).bind f=o5 c n cs λx=>(K x).bind f
 | 0,_,_,_=>rfl
 | n+1,cs,K,f=>by simp only [o5,bz,Cg c n]
theorem nJ(k:Ck)(c:Option Bool)(x:T)(K:T->Option R)(f:R->Option S):(eX k c x K).bind f=eX k c x λx=>(K x).bind f:=by unfold eX;cases k <;> simp only [bz]
theorem r9(c:Option Bool):∀(ks:List Ck) (xs:List T) (K:List T->Option R) (f:R->Option S),(eM c ks xs K).bind f=eM c ks xs λx=>(K x).bind f
 | [],_,_,_=>rfl
 | _::_,[],_,_=>rfl
 | k::ks,x::xs,K,f=>by simp only [eM,nJ,r9 c ks xs]
theorem JD(op:BinOp)(k:IntKind)(c:Option Bool)(x y:T)(K:T->Option R)(f:R->Option S):(qK op k c x y K).bind f=qK op k c x y λx=>(K x).bind f:=by unfold qK;cases op <;> simp only [bz,bh]
theorem PA(op:BinOp)(k ky:IntKind)(c:Option Bool)(x y:T)(K:T->Option R)(f:R->Option S):(rW op k ky c x y K).bind f=rW op k ky c x y λx=>(K x).bind f:=by unfold rW;cases op <;> simp only [bz,bh]
theorem PW(op:BinOp)(c:Option Bool)(x y:T)(K:T->Option R)(f:R->Option S):(rZ op c x y K).bind f=rZ op c x y λx=>(K x).bind f:=by unfold rZ;cases op <;> simp only [bz,bh]
theorem Fc(P:Program)(c:Option Bool)(t:TypeId)(x y:T)(K:Bool->Option R)(f:R->Option S):(lf P c t x y K).bind f=lf P c t x y λx=>(K x).bind f:=by unfold lf;split <;> simp only [bz,bh]
theorem Fe(P:Program)(c:Option Bool):∀(ts:List TypeId) (xs a:List T) (K:Bool->Option R) (f:R->Option S),(ef P c ts xs a K).bind f=ef P c ts xs a λx=>(K x).bind f
 | [],[],[],_,_=>rfl
 | t::ts,x::xs,y::a,K,f=>by simp only [ef,Fc,Fe P c ts xs a]
 | [],[],_::_,_,_=>rfl
 | [],_::_,_,_,_=>rfl
 | _::_,[],_,_,_=>rfl
 | _::_,_::_,[],_,_=>rfl
theorem JM(P:Program)(op:BinOp)(t ty:TypeId)(c:Option Bool)(x y:T)(K:T->Option R)(f:R->Option S):(qM P op t ty c x y K).bind f=qM P op t ty c x y λx=>(K x).bind f:=by unfold qM;cases op <;> simp only [] <;> first | rfl | (split <;> simp only [JD,PA,PW,bh])
theorem Ma(P:Program)(c:Option Bool)(t:TypeId)(x y:AV)(K:Bool->Option R)(f:R->Option S):(pE P c t x y K).bind f=pE P c t x y λx=>(K x).bind f:=by unfold pE;split <;> simp only [kY,bz,Fc,Fe,RL,bh]
theorem QX(P:Program)(op:UnOp)(t:TypeId)(c:Option Bool)(x:T)(K:T->Option R)(f:R->Option S):(sd P op t c x K).bind f=sd P op t c x λx=>(K x).bind f:=by unfold sd;split <;> simp only [bz,bh]
theorem tM(P:Program)(t:TypeId)(c:Option Bool)(cs:List T)(K:AV->Option R)(f:R->Option S):(kx P t c cs K).bind f=kx P t c cs λx=>(K x).bind f:=by unfold kx;simp only [kY,bz,Cg,nJ,r9]
theorem Gh(P:Program)(t:TypeId)(cs:List AV)(K:AV->Option R)(f:R->Option S):(m6 P t cs K).bind f=m6 P t cs λx=>(K x).bind f:=by unfold m6;simp only [kY,RL]
theorem BP(h:Id->Option ab)(c:Option Bool)(i:Id)(n:Nat)(K:Nat->Bool->List (List T)->Option R)(f:R->Option S):(lI h c i n K).bind f=lI h c i n λa b l=>(K a b l).bind f:=by unfold lI;split <;> simp only [bz,bh]
theorem M8(P:Program)(t:TypeId)(c:Option Bool)(i:Id)(sz az off:Nat)(e:Row)(K:AV->Option R)(f:R->Option S):(rB P t c i sz az off e K).bind f=rB P t c i sz az off e λx=>(K x).bind f:=by unfold rB;simp only [kY,cK,bz,Cg,nJ,r9,bh]
theorem M7(P:Program)(s:St)(c:Option Bool)(t:TypeId)(a:AV)(K:AV->Option R)(f:R->Option S):(jH P s c t a K).bind f=jH P s c t a λx=>(K x).bind f:=by
 unfold jH;rw [kY];congr 1;split
 .split <;> simp only [Gh,tM,bh]
 .split <;> simp only [cK,bz,tM,M8,bh]
 .simp only [BP,cK,bz,tM,bh]
 .simp only [bz,tM]
 .rfl
theorem PT(P:Program)(s:St)(t:TypeId)(a v:AV)(K:aG->Option R)(f:R->Option S):(iW P s t a v K).bind f=iW P s t a v λx=>(K x).bind f:=by
 unfold iW;rw [kY];congr 1;split
 .split <;> simp only [cK,bh]
 .split
  .simp only [RL,cK,bz,bh]
  .split
   .split <;> simp only [cK,bz,bh]
   .rfl
  .rfl
 .split <;> simp only [RL,cK,bz,bh]
 .rfl
theorem pM(c:Option Bool)(i:Int)(n:Nat)(K:Option R)(f:R->Option S):(jF c i n K).bind f=jF c i n (K.bind f):=by unfold jF;simp only [bz]
theorem ML(P:Program)(s:St)(c:Option Bool)(t:TypeId)(x:AV)(i:Int)(K:AV->Option R)(f:R->Option S):(jk P s c t x i K).bind f=jk P s c t x i λx=>(K x).bind f:=by
 unfold jk;split
 .split
  .split <;> simp only [cK,pM,bh]
  .simp only [BP,cK,pM,bh]
  .split <;> simp only [cK,pM,bh]
  .simp only [bz,pM]
  .rfl
 .split
  .rw [pM];congr 1;split <;> simp only [bz,bh]
  .rfl
theorem Mk(P:Program)(c:Option Bool)(t:TypeId)(x:AV)(k:Nat)(K:AV->Option R)(f:R->Option S):(rl P c t x k K).bind f=rl P c t x k λx=>(K x).bind f:=by
 unfold rl;split
 .rw [cK];congr 1;split <;> simp only [bz,bh]
 .rfl
theorem Mi(P:Program)(t:TypeId)(x:AV)(k:Nat)(K:AV->Option R)(f:R->Option S):(rk P t x k K).bind f=rk P t x k λx=>(K x).bind f:=by
 unfold rk;split
 .split <;> simp only [Gh,bh]
 .rfl
theorem M0(P:Program)(s:St)(c:Option Bool)(t:TypeId)(x:AV)(K:AV->Option R)(f:R->Option S):(m5 P s c t x K).bind f=m5 P s c t x λx=>(K x).bind f:=by
 unfold m5;split
 .split <;> simp only [bz,bh]
 .rfl
 .split
  .split <;> rfl
  .simp only [BP]
  .rfl
  .simp only [bz]
  .rfl
 .rfl
theorem JS(s:St)(c:Option Bool)(g:Option Gs)(o:Option Operand)(K:Option Int->Option R)(f:R->Option S):(iE s c g o K).bind f=iE s c g o λx=>(K x).bind f:=by
 unfold iE;split
 .rfl
 .simp only [RL,bz]
theorem PG(P:Program)(s:St)(c:Option Bool)(t:TypeId)(x:AV)(a hi b:Option Int)(K:AV->Option R)(f:R->Option S):(nE P s c t x a hi b K).bind f=nE P s c t x a hi b λx=>(K x).bind f:=by
 unfold nE;split
 .split <;> simp only [bz,bh]
 .split
  .split
   .split <;> simp only [cK,bz,bh]
   .split <;> simp only [cK,bz,bh]
   .simp only [cK,bz,bh]
   .rfl
  .split
   .simp only [cK,bz,bh]
   .split <;> simp only [cK,bz,bh]
   .rfl
 .rfl
theorem Jy(P:Program)(s:St)(t:TypeId)(sz:Nat)(a:List T)(y:AV)(K:List (List T)->Option R)(f:R->Option S):(lW P s t sz a y K).bind f=lW P s t sz a y λx=>(K x).bind f:=by unfold lW;split <;> simp only [RL,cK,bz,bh]
theorem Jt(P:Program)(s:St)(d:Nat)(e:TypeId)(i:Id)(sz az rsz nx:Nat)(es:List Row)(j:Id)(cs:List AV)(K:AV->aG->Option R)(f:R->Option S):(pq P s d e i sz az rsz nx es j cs K).bind f=pq P s d e i sz az rsz nx es j cs λv u=>(K v u).bind f:=by
 unfold pq;rw [cK];congr 1;rw [RL];congr 1;funext l;split
 .split <;> simp only [cK,bz,bh]
 .split <;> simp only [cK,bz,bh]
 .rfl
theorem Jp(P:Program)(s:St)(d:Nat)(rw:Bool)(t ty:TypeId)(x y:AV)(K:AV->aG->Option R)(f:R->Option S):(jZ P s d rw t ty x y K).bind f=jZ P s d rw t ty x y λv u=>(K v u).bind f:=by
 unfold jZ;rw [RL];congr 1;funext e;rw [RL];congr 1;funext b;rw [cK];congr 1;split
 .split <;> simp only [Jt,bh]
 .rw [Jy];congr 1;funext a;split
  .split <;> simp only [cK,bz,bh]
  .split <;> simp only [cK,bz,bh]
  .simp only [RL,bz]
  .rfl
theorem Nk(P:Program)(d:Nat)(t:TypeId)(a:Nat)(n m:T)(K:AV->aG->Option R)(f:R->Option S):(rC P d t a n m K).bind f=rC P d t a n m λv u=>(K v u).bind f:=by unfold rC;rw [RL];congr 1;funext e;rw [RL];congr 1;funext b;rw [bz];congr 1;funext n;rw [bz];congr 1;funext m;rw [cK];congr 1;rw [bz];congr 1;funext _;rw [kY];congr 1;split <;> simp only [cK,bh]
theorem AR(P:Program)(k:TypeId)(c:Option Bool)(v:AV)(K:Bool->List Ck->List T->Option R)(f:R->Option S):(ou P k c v K).bind f=ou P k c v λa b l=>(K a b l).bind f:=by unfold ou;rw [RL];congr 1;funext q;split <;> simp only [r9,RL,cK,bh]
theorem Ng(P:Program)(s:St)(c:Option Bool)(t:TypeId)(x k:AV)(ok:Bool)(K:AV->Option R)(f:R->Option S):(m7 P s c t x k ok K).bind f=m7 P s c t x k ok λv=>(K v).bind f:=by
 unfold m7;rw [RL];congr 1;funext q;rw [RL];congr 1;funext z;rw [AR];congr 1;funext a b l;split
 .split
  .rw [cK];simp only [nJ,bh]
  .rfl
 .rfl
theorem Nn(P:Program)(d:Nat)(t:TypeId)(K:AV->aG->Option R)(f:R->Option S):(rD P d t K).bind f=rD P d t λv u=>(K v u).bind f:=by unfold rD;simp only [RL,cK,bh]
theorem Km(P:Program)(s:St)(t:TypeId)(x k:AV)(K:aG->Option R)(f:R->Option S):(mN P s t x k K).bind f=mN P s t x k λu=>(K u).bind f:=by
 unfold mN;rw [RL];congr 1;funext q;rw [AR];congr 1;funext a b l;split
 .split
  .rw [cK];rfl
  .rfl
 .rfl
theorem Om(P:Program)(s:St)(t:TypeId)(x k v:AV)(K:aG->Option R)(f:R->Option S):(nr P s t x k v K).bind f=nr P s t x k v λu=>(K u).bind f:=by
 unfold nr;rw [RL];congr 1;funext q;rw [AR];congr 1;funext a b l;split
 .split
  .rw [cK];simp only [RL,nJ,bh]
  .rfl
 .rfl
theorem A9(k:IntKind)(c:Option Bool)(b:Bool):∀(l:List T) (a:Int) (K:T->Option R) (f:R->Option S),(oA k c b a l K).bind f=oA k c b a l λx=>(K x).bind f
 | [],_,_,_=>rfl
 | y::r,a,K,f=>by simp only [oA,bz,A9 k c b r]
theorem Kf(P:Program)(c:Option Bool)(a b:TypeId)(x:T)(K:T->Option R)(f:R->Option S):(qP P c a b x K).bind f=qP P c a b x λx=>(K x).bind f:=by unfold qP;split <;> simp only [bz,bh]
theorem DT(ids:List Id)(d:Nat)(c:Option Bool)(j:Nat)(r:bR)(x:T)(K:AV->aG->Nat->Option R)(f:R->Option S):(l7 ids d c j r x K).bind f=l7 ids d c j r x λv u j=>(K v u j).bind f:=by
 unfold l7;split
 .exact nJ _ _ _ _ _
 .exact nJ _ _ _ _ _
 .split <;> simp only [bz,bh]
 .split <;> simp only [bh]
 .split <;> simp only [bh]
 .split <;> simp only [bz,bh]
 .split <;> simp only [bz,bh]
 .rfl
 .rfl
 .rfl
theorem wz(ids:List Id)(d:Nat)(c:Option Bool):∀(a:List bR) (j:Nat) (xs:List T) (K:List AV->aG->Nat->Option R) (f:R->Option S),(jz ids d c j a xs K).bind f=jz ids d c j a xs λv u j=>(K v u j).bind f
 | [],_,_,_,_=>rfl
 | r::a,j,xs,K,f=>by simp only [jz,bz,DT,wz ids d c a]
theorem px(ids:List Id)(d:Nat)(c:Option Bool):∀(a:List bR) (j:Nat) (xs:List T) (K:List AV->aG->Nat->Option R) (f:R->Option S),(dL ids d c j a xs K).bind f=dL ids d c j a xs λv u j=>(K v u j).bind f
 | [],_,_,_,_=>rfl
 | r::a,j,xs,K,f=>by
  cases r
  case new l=>cases c <;> simp only [dL,wz,px ids d _ a,bh]
  all_goals simp only [dL,bz,DT,wz,px ids d c a]
theorem wB(all:List Id)(d:Nat):∀(a:List jr) (b:List Id) (j:Nat) (xs:List T) (K:aG->Option R) (f:R->Option S),(fR all d j b a xs K).bind f=fR all d j b a xs λu=>(K u).bind f
 | [],[],_,_,_,_=>rfl
 | [],_::_,_,_,_,_=>rfl
 | r::a,[],_,_,_,_=>by cases r <;> rfl
 | r::a,i::b,j,xs,K,f=>by cases r <;> simp only [fR,bz,wz,wB all d a]
theorem P8(P:Program)(c:Option Bool)(t:TypeId)(v:AV)(K:AV->Option R)(f:R->Option S):(mD P c t v K).bind f=mD P c t v λx=>(K x).bind f:=by
 unfold mD;split
 .exact nJ _ _ _ _ _
 .split
  .exact r9 _ _ _ _ _
  .rfl
 .rfl
theorem Cj(P:Program)(c:Option Bool):∀(ts:List TypeId) (vs:List AV) (K:List AV->Option R) (f:R->Option S),(iY P c ts vs K).bind f=iY P c ts vs λx=>(K x).bind f
 | [],_,_,_=>rfl
 | _::_,[],_,_=>rfl
 | t::ts,v::vs,K,f=>by simp only [iY,P8,Cj P c ts vs]
theorem Dy(P:Program)(A:cG)(O:aB)(s:St)(d:Nat)(c:Option Bool)(g:FuncId)(args:List AV)(K:AV->aG->Option R)(f:R->Option S):
  (gw P A O s d c g args K).bind f=gw P A O s d c g args λv u=>(K v u).bind f:=by
 unfold gw;split
 .rfl
 .split
  .simp only [RL,bz,px,Cj]
  .split
   .rfl
   .simp only [RL,kY,bh,bz,px,wB,Cj]
theorem JF(h:Id->Option ab)(i new:Id)(n rsz:Nat)(K:aG->Option R)(f:R->Option S):(sT h i new n rsz K).bind f=sT h i new n rsz λu=>(K u).bind f:=by
 unfold sT;split
 .rw [cK];simp only [bz,bh]
 .rfl
theorem J2(gX:Bool)(P:Program)(A:cG)(O:aB)(s:St)(d:Nat)(c:Option Bool)(g:FuncId)(args:List AV)(K:AV->aG->Option R)(f:R->Option S):
  (je gX P A O s d c g args K).bind f=je gX P A O s d c g args λv u=>(K v u).bind f:=by
 unfold je;split
 .exact Dy _ _ _ _ _ _ _ _ _ _
 .split
  .simp only [bz,kY,Dy,JF,bh]
  .rfl
theorem FY(c:Option Bool)(v:AV)(K:Int->Option R)(f:R->Option S):(ot c v K).bind f=ot c v λx=>(K x).bind f:=by unfold ot;simp only [RL,bz]
theorem zo(P:Program)(A:cG)(O:aB)(g:Option Gs)(o:Oper)(s:St)(K:AV->aG->Option R)(f:R->Option S):
  (jd P A O g o s K).bind f=jd P A O g o s λv u=>(K v u).bind f:=by
 unfold jd;cases o.op <;> dsimp only
 case pick=>simp only [RL,bz]
 case alloc=>split <;> simp only [RL,bh]
 case box=>split <;> simp only [cK,bh]
 case build=>simp only [RL]
 case buildSlice=>
  rw [RL];congr 1;funext e;rw [cK];congr 1
  .split <;> simp only [cK,bh]
  rw [cK];congr 1;rw [cK];congr 1;rw [RL];congr 1;funext q;split <;> rfl
 case load=>simp only [M7]
 case store=>split <;> simp only [PT,bh]
 case nilCheck=>split <;> simp only [bz,bh]
 case binOp=>split <;> simp only [RL,Ma,JM]
 case unOp=>simp only [RL,QX]
 case convert=>
  split
  .split <;> simp only [RL,bz,bh]
  .simp only [RL,Kf]
 case makeFunc=>split <;> simp_all
 case makeSlice=>split <;> simp only [RL,Nk,bh]
 case makeMap=>split <;> simp only [Nn,bh]
 case lookup=>simp only [Ng]
 case mapUpdate=>split <;> simp only [Om,bh]
 case slice=>simp only [JS,PG]
 case fieldAddr=>simp only [Mk]
 case field=>simp only [Mi]
 case indexAddr=>simp only [FY,ML]
 case index=>
  simp only [FY];congr 1;funext n;split
  .simp only [RL,bz,pM]
  .split <;> simp only [kY,RL,pM,tM,bh]
  .rfl
 case extract=>split <;> simp only [RL,bh]
 case call a=>
  split
  .split <;> simp only [M0,bh]
  .split <;> simp only [Jp,bh]
  .split
   .rw [RL];congr 1;funext l;split <;> simp only [bz,A9,bh]
   .rfl
  .split
   .rw [RL];congr 1;funext l;split <;> simp only [bz,A9,bh]
   .rfl
  .split <;> simp only [Km,bh]
  ·(repeat' split) <;> simp only [kY,bh]
  .split <;> simp only [J2,bh]
  .rfl
 all_goals rfl
def df(P:Program)(A:cG)(O:aB)(g:Option Gs)(o:Oper)(s:St):Option (AV×aG):=jd P A O g o s λv u=>some (v,u)
theorem qJ(P:Program)(A:cG)(O:aB)(g:Option Gs)(o:Oper)(s:St)(K:AV->aG->Option R):jd P A O g o s K= (df P A O g o s).bind λp=>K p.1 p.2:=by unfold df;rw [zo];rfl
theorem FT(a:Array Oper)(o:Oper)(s:St)(K:Option Gs->Option R)(f:R->Option S):(dq a o s K).bind f=dq a o s λg=>(K g).bind f:=by
 unfold dq;split
 .rfl
 .split
  .rfl
  .simp only [RL,bz]
theorem xk(a:Array Oper)(o:Oper)(s:St)(K:Option Gs->Option R):dq a o s K= (dq a o s some).bind K:=by rw [FT];rfl
def eU(P:Program)(A:cG)(O:aB)(a:Bool)(nt:Nat)(b:Array Oper)(o:Oper)(s:St):Option St:=oJ P A O a nt b o s some
theorem N5(P:Program)(A:cG)(O:aB)(a:Bool)(nt:Nat)(b:Array Oper)(o:Oper)(s:St)(K:St->Option R):oJ P A O a nt b o s K= (eU P A O a nt b o s).bind K:=by
 unfold eU oJ;rw [FT];congr 1;funext g;cases p5 A a o g with
 | none=>dsimp only;rw [zo];congr 1;funext v u;rw [cK];rfl
 | some d=>
  dsimp only;cases wG nt o d with
  | false=>rfl
  | true=>
   cases d.c with
   | false=>rfl
   | true=>simp only [cond_true];rw [zo];congr 1;funext v u;rw [cK];rfl
def iS(P:Program)(A:cG)(O:aB)(a:Bool)(nt:Nat)(b:Array Oper):List Oper->St->Option St
 | [],s=>some s
 | o::r,s=>(eU P A O a nt b o s).bind (iS P A O a nt b r)
theorem BM(P:Program)(A:cG)(O:aB)(a:Bool)(nt:Nat)(b:Array Oper):∀(l:List Oper) (s:St) (K:St->Option R),um P A O a nt b l s K= (iS P A O a nt b l s).bind K
 | [],_,_=>rfl
 | o::r,s,K=>by simp only [um,iS,N5,RL];congr 1;funext s';exact BM P A O a nt b r s' K
end
open Go
structure Ctx where
 A0:Nat->Prop
 M:Nat->Prop
 N0:Nat
def Ctx.MO(c:Ctx)(b:Nat):Prop:=c.M b\/c.N0<=b
def AA(c:Ctx)(w:World)(O:Id->Option Nat)(b:Nat):Prop:=(c.A0 b\/c.MO b)/\b < w.heap.size/\∀i,O i≠some b
def cM(w:World)(A:Nat->Prop)(sz:Nat)(b:Bool)(l:List (List T))(v:Value)(Q:Nat->Prop):Prop:=
 ∃a cap,v= .slice a l.length cap/\l.length<=cap/\(a=none↔b=true)/\True/\
  (cap=0\/∃ah off arr t,a=some ⟨ah,off,none⟩/\Q ah/\w.heap[ah]? =some (.cells arr t (0,0))/\off+cap * sz<=arr.size/\aU w A ah sz off l)
def iz(w:World)(A:Nat->Prop)(ρ:Id->Option Value)(O:Id->Option Nat)(i:Id)(ah sz az rsz base:Nat)(e:Row):Prop:=
 e.cs.length=sz/\az < sz/\(∀j x,j≠az->e.cs[j]? =some x->∃v,w.cell? ⟨ah,base+j,none⟩=some v/\aw w A x v)/\
 ∃v,w.cell? ⟨ah,base+az,none⟩=some v/\ρ (.g i e.n)=some v/\
  match e.own with
  | some p=>cM w A rsz p.1 p.2 v (λb=>O (.g i e.n)=some b)
  | none=>O (.g i e.n)=none
def b9(w:World)(A:Nat->Prop)(ρ:Id->Option Value)(O:Id->Option Nat)(i:Id)(ah sz az rsz:Nat):Nat->List Row->Prop
 | _,[]=>True
 | base,e::es=>iz w A ρ O i ah sz az rsz base e/\b9 w A ρ O i ah sz az rsz (base+sz) es
def nZ(ρ:Id->Option Value)(O:Id->Option Nat)(i:Id)(nx:Nat)(es:List Row):Prop:=
 (es.map (·.n)).Nodup/\(∀e∈es,e.n < nx)/\(∀n,nx<=n->ρ (.g i n)=none)/\∀n b,O (.g i n)=some b->∃e∈es,e.n=n
def cR(w:World)(A:Nat->Prop)(ρ:Id->Option Value)(O:Id->Option Nat)(i:Id):ab->Prop
 | .box cs=>∃b arr t,ρ i=some (.pointer (some ⟨b,0,none⟩))/\O i=some b/\w.heap[b]? =some (.cells arr t (0,0))/\ay w A ρ cs arr.toList/\
   (∀u∈arr.toList,u.oneCell'=true/\u.cells= #[u])
 | .sl g sz b l=>∃v,ρ i=some v/\cM w A sz b l v (λah=>if g=true then A ah else O i=some ah)/\(g=true->O i=none)
 | .ir l=>∃b,ρ i=some (.pointer (some ⟨b,0,none⟩))/\O i=none/\A b/\aS w A b 0 l
 | .arr cs=>∃b arr t,ρ i=some (.slice (some ⟨b,0,none⟩) 1 1)/\O i=some b/\w.heap[b]? =some (.cells arr t (0,0))/\ay w A ρ cs arr.toList/\
   (∀u∈arr.toList,u.oneCell'=true/\u.cells= #[u])
 | .mp ag ks vk es=>∃b d f,ρ i=some (.map (some b))/\O i=some b/\w.heap[b]? =some (.map d f)/\
   d.toList.map (λe=>(e.key,e.val))=es.map (λp=>(cV ag p.1,du p.2))/\(es.all λp=>bU ks p.1 && dG vk p.2)=true
 | .rows b sz az rsz nx es=>∃a cap,ρ i=some (.slice a es.length cap)/\es.length<=cap/\(a=none↔b=true)/\nZ ρ O i nx es/\
   (cap=0\/∃ah off arr t,a=some ⟨ah,off,none⟩/\O i=some ah/\w.heap[ah]? =some (.cells arr t (0,0))/\off+cap * sz<=arr.size/\b9 w A ρ O i ah sz az rsz off es)
 | .dead=>(∃v,ρ i=some v/\v.oneCell'=true/\v.cells= #[v])/\O i=none
structure HS (c:Ctx) (w:World) (h:Id->Option ab) (ρ:Id->Option Value) (O:Id->Option Nat):Prop where
 ah:∀i b,h i=some b->cR w (AA c w O) ρ O i b
 cr:∀i,i.real=true->h i=none->ρ i=none/\O i=none
 dF:∀i n,h (.g i n)=none
 fj:∀i n,h i=none->ρ (.g i n)=none/\O (.g i n)=none
 gone:∀i n u,ρ (.g i n)=some u->u.oneCell'=true/\u.cells= #[u]
 inj:∀i j b,O i=some b->O j=some b->i=j
 lt:∀i b,O i=some b->b < w.heap.size
 own:∀i b,O i=some b->c.MO b
 size:c.N0<=w.heap.size
structure Le (w:World) (ρ:Id->Option Value) (O:Id->Option Nat) (w':World) (ρ':Id->Option Value) (O':Id->Option Nat):Prop where
 os:w'.os=w.os
 output:w'.output=w.output
 tape:w'.tape=w.tape
 size:w.heap.size<=w'.heap.size
 eB:∀i v,ρ i=some v->ρ' i=some v
 ah:∀b,b < w.heap.size->(∀i,O i≠some b)->w'.heap[b]? =w.heap[b]?
 own:∀i b,O' i=some b->(∃j,O j=some b)\/w.heap.size<=b
section
variable {c:Ctx} {w w' w'':World} {h h':Id->Option ab} {ρ ρ' ρ'':Id->Option Value} {O O' O'':Id->Option Nat}
theorem Le.refl:Le w ρ O w ρ O:=⟨rfl,rfl,rfl,RI _,λ_ _ h=>h,λ_ _ _=>rfl,λi b h=> .inl ⟨i,h⟩⟩
theorem Le.trans(a:Le w ρ O w' ρ' O')(b:Le w' ρ' O' w'' ρ'' O''):Le w ρ O w'' ρ'' O'' where
 os:=b.os.trans a.os
 output:=b.output.trans a.output
 tape:=b.tape.trans a.tape
 size:=R4 a.size b.size
 eB i v h:=b.eB i v (a.eB i v h)
 ah k hk hn:=by
  rw [b.ah k (S7 hk a.size),a.ah k hk hn];intro i hi;rcases a.own i k hi with⟨j,hj⟩ | h
  .exact hn j hj
  .omega
 own i k hi:=by
  rcases b.own i k hi with⟨j,hj⟩ | h
  .exact a.own j k hj
  .exact .inr (R4 a.size h)
theorem Le.A(le:Le w ρ O w' ρ' O')(b:Nat)(a:AA c w O b):AA c w' O' b/\w'.heap[b]? =w.heap[b]?:=by
 refine⟨⟨a.1,S7 a.2.1 le.size,λi hi=> ?_⟩,le.ah b a.2.1 a.2.2⟩;rcases le.own i b hi with⟨j,d⟩ | h
 .exact a.2.2 j d
 .have:=a.2.1;omega
theorem cM.mono{A A' Q g:Nat->Prop}{sz:Nat}{b:Bool}{l:List (List T)}{v:Value}(n:∀b,A b->A' b/\w'.heap[b]? =w.heap[b]?)
  (f:∀b,Q b->g b/\w'.heap[b]? =w.heap[b]?) (hs:cM w A sz b l v Q):cM w' A' sz b l v g:=by
 obtain⟨a,cap,h1,j,k,m,e⟩:=hs;refine⟨a,cap,h1,j,k,m, ?_⟩;rcases e with e | ⟨ah,off,arr,t,i,d,e3,e4,e5⟩
 .exact .inl e
 .exact .inr ⟨ah,off,arr,t,i,(f _ d).1,by rw [(f _ d).2];exact e3,e4,aU.m8 n ah sz (f _ d).2 off l e5⟩
def qy(i:Id)(w:World)(ρ:Id->Option Value)(O:Id->Option Nat)(w':World)(ρ':Id->Option Value)(O':Id->Option Nat):Prop:=
 ∀n,ρ' (.g i n)=ρ (.g i n)/\O' (.g i n)=O (.g i n)/\∀b,O (.g i n)=some b->w'.heap[b]? =w.heap[b]?
theorem iz.mono{A A':Nat->Prop}{i:Id}{ah sz az rsz base:Nat}{e:Row}(f:∀b,A b->A' b/\w'.heap[b]? =w.heap[b]?)(hb:w'.heap[ah]? =w.heap[ah]?)(a:qy i w ρ O w' ρ' O')(h:iz w A ρ O i ah sz az rsz base e):
  iz w' A' ρ' O' i ah sz az rsz base e:=by
 obtain⟨h1,m,o,v,q,r,t⟩:=h;have g:∀p,w'.cell? ⟨ah,p,none⟩=w.cell? ⟨ah,p,none⟩:=λp=>mK hb;refine⟨h1,m,λj x y z=> ?_,v,by rw [g];exact q,by rw [(a e.n).1];exact r, ?_⟩
 .obtain⟨u,l,d⟩:=o j x y z;exact⟨u,by rw [g];exact l,aw.mono f x u d⟩
 .revert t;cases e.own with
  | none=>intro h;simp only at h⊢;rw [(a e.n).2.1];exact h
  | some p=>intro d;refine cM.mono f (λb k=> ?_) d;rw [(a e.n).2.1];exact⟨k,(a e.n).2.2 b k⟩
theorem b9.mono{A A':Nat->Prop}{i:Id}{ah sz az rsz:Nat}(a:∀b,A b->A' b/\w'.heap[b]? =w.heap[b]?)(hb:w'.heap[ah]? =w.heap[ah]?)(d:qy i w ρ O w' ρ' O'):∀{es:List Row} {base:Nat},b9 w A ρ O i ah sz az rsz base es->
  b9 w' A' ρ' O' i ah sz az rsz base es
 | [],_,_=>trivial
 | e::es,base,h=>⟨iz.mono a hb d h.1,b9.mono a hb d h.2⟩
theorem cM.fk{A A' Q a:Nat->Prop}{sz:Nat}{b:Bool}{l:List (List T)}{v:Value}(d:∀b,A b->A' b/\w'.heap[b]? =w.heap[b]?)
  (e:∀b,Q b->a b/\w'.heap[b]? =w.heap[b]?) (hs:cM w A sz b l v Q):cM w' A' sz b l v a:=cM.mono d e hs
theorem iz.move{A A':Nat->Prop}{i i':Id}{ah blk' sz az rsz base a:Nat}{e:Row}(l:∀j,j < sz->w'.cell? ⟨blk',a+j,none⟩=w.cell? ⟨ah,base+j,none⟩)(k:∀b,A b->A' b/\w'.heap[b]? =w.heap[b]?)
  (h1:ρ' (.g i' e.n)=ρ (.g i e.n)) (f:O' (.g i' e.n)=O (.g i e.n)) (D:∀b,O (.g i e.n)=some b->w'.heap[b]? =w.heap[b]?) (h:iz w A ρ O i ah sz az rsz base e):iz w' A' ρ' O' i' blk' sz az rsz a e:=by
 obtain⟨q,d,r,v,t,y,z⟩:=h;refine⟨q,d,λj x E o=> ?_,v,by rw [l _ d];exact t,by rw [h1];exact y, ?_⟩
 .obtain⟨u,B,C⟩:=r j x E o;have:=(Rz.1 o).1;exact⟨u,by rw [l j (by omega)];exact B,aw.mono k x u C⟩
 .revert z;cases e.own with
  | none=>intro h;simp only at h⊢;rw [f];exact h
  | some p=>intro g;refine cM.mono k (λb m=> ?_) g;rw [f];exact⟨m,D b m⟩
theorem b9.move{A A':Nat->Prop}{i i':Id}{ah blk' sz az rsz:Nat}(d:∀b,A b->A' b/\w'.heap[b]? =w.heap[b]?):∀{es:List Row} {base a:Nat},
  (∀p,p < es.length * sz->w'.cell? ⟨blk',a+p,none⟩=w.cell? ⟨ah,base+p,none⟩)->(∀e∈es,ρ' (.g i' e.n)=ρ (.g i e.n)/\O' (.g i' e.n)=O (.g i e.n)/\∀b,O (.g i e.n)=some b->w'.heap[b]? =w.heap[b]?)->
  b9 w A ρ O i ah sz az rsz base es->b9 w' A' ρ' O' i' blk' sz az rsz a es
 | [],_,_,_,_,_=>trivial
 | e::es,base,a,f,k,h=>by
  have el:(e::es).length * sz=sz+es.length * sz:=by simp [Sn];omega
  obtain⟨h1,l,m⟩:=k e Rs;refine⟨iz.move (λj q=>f j (by omega)) d h1 l m h.1,b9.move d (λp r=> ?_) (λe o=>k e (Ru _ o)) h.2⟩;rw [Uc,Uc];exact f (sz+p) (by omega)
theorem b9.append{A:Nat->Prop}{i:Id}{ah sz az rsz:Nat}:∀{es a:List Row} {base:Nat},b9 w A ρ O i ah sz az rsz base es->b9 w A ρ O i ah sz az rsz (base+es.length * sz) a->b9 w A ρ O i ah sz az rsz base (es++a)
 | [],a,base,_,h=>by simpa using h
 | e::es,a,base,h,h'=>by
  refine⟨h.1,b9.append h.2 ?_⟩;have:base+sz+es.length * sz=base+ (e::es).length * sz:=by simp [Sn];omega
  rw [this];exact h'
theorem b9.set{A A':Nat->Prop}{i:Id}{ah sz az rsz:Nat}{x:Row}(m:∀b,A b->A' b/\w'.heap[b]? =w.heap[b]?):∀{es:List Row} {base k:Nat},k < es.length->
  (∀p,base<=p->p < base+es.length * sz->¬(base+k * sz<=p/\p < base+k * sz+sz)->w'.cell? ⟨ah,p,none⟩=w.cell? ⟨ah,p,none⟩)->
  (∀j e,j≠k->es[j]? =some e->ρ' (.g i e.n)=ρ (.g i e.n)/\O' (.g i e.n)=O (.g i e.n)/\∀b,O (.g i e.n)=some b->w'.heap[b]? =w.heap[b]?)->
  iz w' A' ρ' O' i ah sz az rsz (base+k * sz) x->b9 w A ρ O i ah sz az rsz base es->b9 w' A' ρ' O' i ah sz az rsz base (es.set k x)
 | [],_,_,f,_,_,_,_=>by simp at f
 | e::es,base,0,f,a,d,r,h=>by
  have el:(e::es).length * sz=sz+es.length * sz:=by simp [Sn];omega
  refine⟨by simpa using r,b9.move m (λp y=>a _ (by omega) (by omega) (by omega)) (λl o=> ?_) h.2⟩;obtain⟨j,q⟩:=UC.1 o;exact d (j+1) l (by omega) (by simpa using q)
 | e::es,base,k+1,f,a,d,r,h=>by
  have el:(e::es).length * sz=sz+es.length * sz:=by simp [Sn];omega
  have v:(k+1) * sz=sz+k * sz:=by rw [Sn];omega
  obtain⟨h1,t,u⟩:=d 0 e (by omega) rfl;refine⟨iz.move (λj q=>a _ (by omega) (by omega) (by omega)) m h1 t u h.1,b9.set m (by simpa using f) (λp z B C=>a p (by omega) (by omega) (by omega)) (λj l q o=>d (j+1) l (by omega) (by simpa using o)) ?_ h.2⟩;rw [show base+sz+k * sz=base+ (k+1) * sz by omega];exact r
theorem nZ.mono{i:Id}{nx:Nat}{es:List Row}(d:qy i w ρ O w' ρ' O')(h:nZ ρ O i nx es):nZ ρ' O' i nx es:=
 ⟨h.1,h.2.1,λn a=>by rw [(d n).1];exact h.2.2.1 n a,λn b a=>by rw [(d n).2.1] at a;exact h.2.2.2 n b a⟩
theorem cR.mono{A A':Nat->Prop}{i:Id}(p:qy i w ρ O w' ρ' O')(j:∀b,A b->A' b/\w'.heap[b]? =w.heap[b]?)(e:∀i v,ρ i=some v->ρ' i=some v)(g:O' i=O i)
  (hb:∀b,O i=some b->w'.heap[b]? =w.heap[b]?):∀{b:ab},cR w A ρ O i b->cR w' A' ρ' O' i b
 | .box cs,⟨b,arr,t,f,d,e3,e4,e5⟩=>⟨b,arr,t,e _ _ f,by rw [g];exact d,by rw [hb _ d];exact e3,ay.mono j e cs _ e4,e5⟩
 | .sl q sz b l,⟨v,f,d,e3⟩=>by
  refine⟨v,e _ _ f,cM.mono j (λb k=> ?_) d,by rw [g];exact e3⟩;cases q
  .simp only [RS,if_false] at k⊢;exact⟨by rw [g];exact k,hb _ k⟩
  .simp only [if_true] at k⊢;exact j _ k
 | .ir l,⟨b,f,d,e3,e4⟩=>⟨b,e _ _ f,by rw [g];exact d,(j b e3).1,aS.mono j b e3 0 l e4⟩
 | .arr cs,⟨b,arr,t,f,d,e3,e4,e5⟩=>⟨b,arr,t,e _ _ f,by rw [g];exact d,by rw [hb _ d];exact e3,ay.mono j e cs _ e4,e5⟩
 | .mp ag ks vk es,⟨b,n,m,f,d,e3,e4,e5⟩=>⟨b,n,m,e _ _ f,by rw [g];exact d,by rw [hb _ d];exact e3,e4,e5⟩
 | .rows b sz az rsz nx es,h=>by
  obtain⟨a,cap,f,d,e3,e4,e5⟩:=h;refine⟨a,cap,e _ _ f,d,e3,e4.mono p, ?_⟩;rcases e5 with e5 | ⟨ah,off,arr,t,q1,o,q3,r,u⟩
  .exact .inl e5
  .exact .inr ⟨ah,off,arr,t,q1,by rw [g];exact o,by rw [hb _ o];exact q3,r,u.mono j (hb _ o) p⟩
 | .dead,⟨⟨v,f,e3⟩,d⟩=>⟨⟨v,e _ _ f,e3⟩,by rw [g];exact d⟩
def GK(w:World)(ρ:Id->Option Value)(O:Id->Option Nat)(w':World)(ρ':Id->Option Value)(O':Id->Option Nat):Prop:= ∀i,qy i w ρ O w' ρ' O'
theorem GK.refl:GK w ρ O w ρ O:=λ_ _=>⟨rfl,rfl,λ_ _=>rfl⟩
theorem HS.real(hs:HS c w h ρ O){i:Id}(hi:h i≠none):i.real=true:=by
 cases i with
 | g i n=>exact(hi (hs.dF i n)).elim
 | _=>rfl
theorem HS.oh(hs:HS c w h ρ O)(le:Le w ρ O w' ρ' O')
  (hblk:∀i b,h' i=some b->(h i=some b/\O' i=O i/\(∀ah,O i=some ah->w'.heap[ah]? =w.heap[ah]?)/\qy i w ρ O w' ρ' O')\/cR w' (AA c w' O') ρ' O' i b)
  (hnone:∀i,i.real=true->h' i=none->ρ' i=none/\O' i=none) (hnog:∀i n,h' (.g i n)=none)
  (hgd:∀i n,h' i=none->ρ' (.g i n)=none/\O' (.g i n)=none) (hgo:∀i n u,ρ' (.g i n)=some u->u.oneCell'=true/\u.cells= #[u])
  (inj:∀i j b,O' i=some b->O' j=some b->i=j) (lt:∀i b,O' i=some b->b < w'.heap.size):HS c w' h' ρ' O' where
 ah i b hb:=by
  rcases hblk i b hb with⟨h1,h2,h3,h4⟩ | h1
  .exact cR.mono h4 (λb ha=>le.A b ha) le.eB h2 h3 (hs.ah i b h1)
  .exact h1
 cr:=hnone
 dF:=hnog
 fj:=hgd
 gone:=hgo
 inj:=inj
 lt:=lt
 own i b hi:=by
  rcases le.own i b hi with⟨j,hj⟩ | h
  .exact hs.own j b hj
  .exact .inr (R4 hs.size h)
 size:=R4 hs.size le.size
theorem HS.go(hs:HS c w h ρ O)(le:Le w ρ O w' ρ' O')(a:GK w ρ O w' ρ' O')
  (e:∀i b,h' i=some b->(h i=some b/\O' i=O i/\(∀ah,O i=some ah->w'.heap[ah]? =w.heap[ah]?))\/cR w' (AA c w' O') ρ' O' i b)
  (d:∀i,i.real=true->h' i=none->ρ' i=none/\O' i=none) (o:∀i,h' i=none->h i=none) (f:∀i n,h' (.g i n)=none)
  (inj:∀i j b,O' i=some b->O' j=some b->i=j) (lt:∀i b,O' i=some b->b < w'.heap.size):HS c w' h' ρ' O':=
 hs.oh le (λi b hb=>by
  rcases e i b hb with⟨h1,l,m⟩ | h1
  .exact .inl ⟨h1,l,m,a i⟩
  .exact .inr h1) d f (λi n hi=>by
  have:=hs.fj i n (o i hi);rw [(a i n).1,(a i n).2.1];exact this) (λi n u k=>by rw [(a i n).1] at k;exact hs.gone i n u k) inj lt
theorem HS.world(hs:HS c w h ρ O)(le:Le w ρ O w' ρ O)(fk:∀i ah,O i=some ah->w'.heap[ah]? =w.heap[ah]?):HS c w' h ρ O:=
 hs.go le (λi n=>⟨rfl,rfl,λb hb=>fk _ b hb⟩) (λi _ hb=> .inl ⟨hb,rfl,λah h=>fk i ah h⟩) hs.cr (λ_ h=>h) hs.dF hs.inj λi b h=>S7 (hs.lt i b h) le.size
def aA{α:Type}(f:Id->Option α)(i:Id)(v:Option α):Id->Option α:=λj=>if j=i then v else f j
@[simp] theorem aC {α:Type} (f:Id->Option α) (i:Id) (v:Option α):aA f i v i=v:=by simp [aA]
theorem aq{α:Type}(f:Id->Option α){i j:Id}(v:Option α)(h:j≠i):aA f i v j=f j:=by simp [aA,h]
theorem dH(h:Id->Option ab)(i:Id)(b:ab):aJ h [(i,b)]=aA h i (some b):=rfl
theorem cX(h:Id->Option ab)(i:Id)(b:ab)(us:aG):aJ h ((i,b)::us)=aJ (aA h i (some b)) us:=rfl
theorem lS(h:Id->Option ab):∀(us vs:aG),aJ h (us++vs)=aJ (aJ h us) vs
 | [],_=>rfl
 | (i,b)::us,vs=>by simp only [Rx,cX];exact lS _ us vs
theorem aL{i j:Id}{n:Nat}(a:i.real=true):Id.g j n≠i:=by rintro rfl;cases a
theorem Le.alloc(hs:HS c w h ρ O){i:Id}(hr:i.real=true)(hi:h i=none)(o:Obj)(v:Value)(ob:Option Nat)(hob:ob=none\/ob=some w.heap.size):
  Le w ρ O (w.alloc o) (aA ρ i (some v)) (aA O i ob) where
 os:=rfl
 output:=rfl
 tape:=rfl
 size:=by simp
 eB j u hj:=by
  by_cases e:j=i
  .subst e;rw [(hs.cr _ hr hi).1] at hj;cases hj
  .rw [aq _ _ e];exact hj
 ah b hb _:=R9 _ _ _ hb
 own j b hj:=by
  by_cases e:j=i
  .subst e;rw [aC] at hj;rcases hob with rfl | rfl
   .cases hj
   .cases hj;exact .inr (RI _)
  .rw [aq _ _ e] at hj;exact .inl ⟨j,hj⟩
theorem HS.alloc(hs:HS c w h ρ O){i:Id}(m:i.real=true)(hi:h i=none)(o:Obj)(v:Value)(ob:Option Nat)(g:ob=none\/ob=some w.heap.size)(b:ab)
  (hb:cR (w.alloc o) (AA c (w.alloc o) (aA O i ob)) (aA ρ i (some v)) (aA O i ob) i b):
  HS c (w.alloc o) (aA h i (some b)) (aA ρ i (some v)) (aA O i ob):=by
 refine hs.go (Le.alloc hs m hi o v ob g) (λj n=>⟨aq _ _ (aL m),aq _ _ (aL m),λb hb=>R9 _ _ _ (hs.lt _ b hb)⟩) (λj r a=> ?_) (λj q a=> ?_) (λj a=> ?_) (λj n=>by rw [aq _ _ (aL m)];exact hs.dF j n) (λj k d a f=> ?_) (λj d a=> ?_)
 .by_cases e:j=i
  .subst e;rw [aC] at a;cases a;exact .inr hb
  .rw [aq _ _ e] at a;exact .inl ⟨a,aq _ _ e,λah p=>R9 _ _ _ (hs.lt j ah p)⟩
 .by_cases e:j=i
  .subst e;rw [aC] at a;cases a
  .rw [aq _ _ e] at a;rw [aq _ _ e,aq _ _ e];exact hs.cr j q a
 .by_cases e:j=i
  .subst e;rw [aC] at a;cases a
  .rw [aq _ _ e] at a;exact a
 .by_cases e:j=i <;> by_cases l:k=i
  .rw [e,l]
  .exfalso;rw [aq _ _ l] at f;subst e;rw [aC] at a;rcases g with rfl | rfl
   .cases a
   .cases a;exact TX _ (hs.lt _ _ f)
  .exfalso;rw [aq _ _ e] at a;subst l;rw [aC] at f;rcases g with rfl | rfl
   .cases f
   .cases f;exact TX _ (hs.lt _ _ a)
  .rw [aq _ _ e] at a;rw [aq _ _ l] at f;exact hs.inj j k d a f
 .by_cases e:j=i
  .subst e;rw [aC] at a;rcases g with rfl | rfl
   .cases a
   .cases a;simp
  .rw [aq _ _ e] at a;have:=hs.lt j d a;simp;omega
theorem Le.release{i:Id}:Le w ρ O w ρ (aA O i none) where
 os:=rfl
 output:=rfl
 tape:=rfl
 size:=RI _
 eB _ _ h:=h
 ah _ _ _:=rfl
 own j b hj:=by
  by_cases e:j=i
  .subst e;rw [aC] at hj;cases hj
  .rw [aq _ _ e] at hj;exact .inl ⟨j,hj⟩
theorem HS.release(hs:HS c w h ρ O){i:Id}(m:i.real=true)(b:ab)(hb:cR w (AA c w (aA O i none)) ρ (aA O i none) i b):HS c w (aA h i (some b)) ρ (aA O i none):=by
 refine hs.go Le.release (λj n=>⟨rfl,aq _ _ (aL m),λ_ _=>rfl⟩) (λj o a=> ?_) (λj l a=> ?_) (λj a=> ?_) (λj n=>by rw [aq _ _ (aL m)];exact hs.dF j n) (λj k d a f=> ?_) (λj d a=> ?_)
 .by_cases e:j=i
  .subst e;rw [aC] at a;cases a;exact .inr hb
  .rw [aq _ _ e] at a;exact .inl ⟨a,aq _ _ e,λ_ _=>rfl⟩
 .by_cases e:j=i
  .subst e;rw [aC] at a;cases a
  .rw [aq _ _ e] at a⊢;exact hs.cr j l a
 .by_cases e:j=i
  .subst e;rw [aC] at a;cases a
  .rw [aq _ _ e] at a;exact a
 .by_cases e:j=i
  .subst e;rw [aC] at a;cases a
  .by_cases g:k=i
   .subst g;rw [aC] at f;cases f
   .rw [aq _ _ e] at a;rw [aq _ _ g] at f;exact hs.inj j k d a f
 .by_cases e:j=i
  .subst e;rw [aC] at a;cases a
  .rw [aq _ _ e] at a;exact hs.lt j d a
theorem HS.freeze(hs:HS c w h ρ O){i:Id}{sz:Nat}{b:Bool}{l:List (List T)}(hi:h i=some (.sl false sz b l)):
  HS c w (aA h i (some (.sl true sz b l))) ρ (aA O i none):=by
 refine hs.release (hs.real (by rw [hi];simp)) _ ?_;obtain⟨v,f,g,e3⟩:=hs.ah i _ hi;refine⟨v,f, ?_,λ_=>by simp⟩;simp only [if_true];have k:∀b,AA c w O b->AA c w (aA O i none) b/\w.heap[b]? =w.heap[b]?:=λb m=>(Le.release (ρ:=ρ) (i:=i)).A b m;refine cM.mono k (λah d=> ?_) g;simp only [RS,if_false] at d;refine⟨⟨.inr (hs.own i ah d),hs.lt i ah d,λj a=> ?_⟩,rfl⟩;by_cases e:j=i
 .subst e;rw [aC] at a;cases a
 .rw [aq _ _ e] at a;exact e (hs.inj j i ah a d)
theorem HS.Mw(hs:HS c w h ρ O){i:Id}{cs:List AV}{l:List T}(hi:h i=some (.box cs))(o:eO cs=some l):
  HS c w (aA h i (some (.ir l))) ρ (aA O i none):=by
 refine hs.release (hs.real (by rw [hi];simp)) _ ?_;obtain⟨b,arr,t,f,d,e3,e4,e5⟩:=hs.ah i _ hi;have k:∀b,AA c w O b->AA c w (aA O i none) b/\w.heap[b]? =w.heap[b]?:=λb n=>(Le.release (ρ:=ρ) (i:=i)).A b n;have hb:AA c w (aA O i none) b:=⟨.inr (hs.own i b d),hs.lt i b d,λj a=>by
  by_cases e:j=i
  .subst e;rw [aC] at a;cases a
  .rw [aq _ _ e] at a;exact e (hs.inj j i b a d)⟩
 refine⟨b,f,by simp,hb, ?_⟩;have m:=aN.lC o e4;have key:∀(l:List T) (vs:List Value) (off:Nat),aN w (AA c w O) l vs->(∀j v,vs[j]? =some v->w.cell? ⟨b,off+j,none⟩=some v)->aS w (AA c w (aA O i none)) b off l:=by
  intro l;induction l with
  | nil=>intro vs off _ _;simp [aS]
  | cons x l p=>rintro vs off ⟨v,r,rfl,h1,g⟩ hv;simp only [aS];refine⟨⟨v,by simpa using hv 0 v rfl,aw.mono k x v h1⟩,p r (off+1) g λj u a=> ?_⟩;have:=hv (j+1) u (by simpa using a);rw [show off+1+j=off+ (j+1) by omega];exact this
 refine key l _ 0 m λj v a=> ?_;simp only [World.cell?,e3,RY];simpa using a
theorem Le.write{b:Nat}{i:Id}(hi:O i=some b)(hos:w'.os=w.os)(ho:w'.output=w.output)(ht:w'.tape=w.tape)(hsz:w'.heap.size=w.heap.size)(hk:∀k,k≠b->w'.heap[k]? =w.heap[k]?):Le w ρ O w' ρ O where
 os:=hos
 output:=ho
 tape:=ht
 size:=Nat.le_of_eq hsz.symm
 eB _ _ h:=h
 ah k _ hn:=hk k λe=>hn i (e▸hi)
 own j b hj:= .inl ⟨j,hj⟩
theorem HS.write(hs:HS c w h ρ O){b:Nat}{i:Id}(hi:O i=some b)(le:Le w ρ O w' ρ O)(m:∀k,k≠b->w'.heap[k]? =w.heap[k]?)(x:ab)
  (q:cR w' (AA c w' O) ρ O i x) (g:h i≠none):HS c w' (aA h i (some x)) ρ O:=by
 have o:=hs.real g;refine hs.go le (λj n=>⟨rfl,rfl,λd g=>m d λe=>aL o (hs.inj _ i b (e▸g) hi)⟩) (λj r a=> ?_) (λj l a=> ?_) (λj a=> ?_) (λj n=>by rw [aq _ _ (aL o)];exact hs.dF j n) hs.inj (λj d a=>S7 (hs.lt j d a) le.size)
 .by_cases e:j=i
  .subst e;rw [aC] at a;cases a;exact .inr q
  .rw [aq _ _ e] at a;exact .inl ⟨a,rfl,λah f=>m ah λp=>e (hs.inj j i b (p▸f) hi)⟩
 .by_cases e:j=i
  .subst e;rw [aC] at a;cases a
  .rw [aq _ _ e] at a;exact hs.cr j l a
 .by_cases e:j=i
  .subst e;rw [aC] at a;cases a
  .rw [aq _ _ e] at a;exact a
end
def SS(w:World)(A:Nat->Prop)(ρ:Id->Option Value)(s:Nat->Option Gs×AV)(tmps:Array Value):Prop:=
 ∀k,match s k with
  | (none,v)=>ak w A ρ v (tmps.getD k undef)
  | (some g,v)=>(tmps.getD g.d undef= .bool g.want/\g.c=true/\ak w A ρ v (tmps.getD k undef))\/(tmps.getD g.d undef≠ .bool g.want/\g.c=false/\tmps.getD k undef=undef)
section
variable {c:Ctx} {w w':World} {ρ ρ':Id->Option Value} {A A':Nat->Prop} {s:Nat->Option Gs×AV} {tmps:Array Value}
theorem SS.mono(d:∀b,A b->A' b/\w'.heap[b]? =w.heap[b]?)(a:∀i v,ρ i=some v->ρ' i=some v)(hs:SS w A ρ s tmps):SS w' A' ρ' s tmps:=by
 intro k;have:=hs k;revert this;split
 .intro this;exact ak.mono d a _ _ this
 .intro this;rcases this with⟨h1,e,f⟩ | h1
  .exact .inl ⟨h1,e,ak.mono d a _ _ f⟩
  .exact .inr h1
def jW(tmps:Array Value):Option Gs->Prop
 | none=>True
 | some g=>tmps.getD g.d undef= .bool g.want/\g.c=true
theorem jW.cond{g:Option Gs}(h:jW tmps g):g.map (·.c)=none\/g.map (·.c)=some true:=by
 cases g with
 | none=>exact .inl rfl
 | some g=>exact .inr (by simp [h.2])
theorem OI(v:Value):ak w A ρ (zL v) v:=by
 have one:∀(u:Value) (x:T),oG u=some x->aw w A x u:=by
  intro u x e;cases u <;> simp only [oG,Rp,reduceCtorEq] at e
  case slice a l g=>split at e <;> simp_all;subst e;simp [aw]
  case pointer a=>split at e <;> simp_all;subst e;simp [aw]
  case map a=>split at e <;> simp_all;subst e;simp [aw]
  all_goals (subst e;simp [aw])
 have all:∀(us:List Value) (l:List T),lB us=some l->aN w A l us:=by
  intro us;induction us with
  | nil=>intro l e;simp only [lB,Rp] at e;subst e;rfl
  | cons u us d=>
   intro l e;simp only [lB] at e;cases h1:oG u with
   | none=>simp [h1] at e
   | some x=>
    cases b:lB us with
    | none=>simp [h1,b] at e
    | some f=>simp only [h1,b,RA,Rp] at e;subst e;exact⟨u,us,rfl,one u x h1,d f b⟩
 unfold zL;split
 .rename_i cs;split
  .rename_i l e;simp only [ak];have:=all cs.toList l e;refine⟨cs.toList,by simp,ay.lD this, ?_⟩;have key:∀(l:List T) (us:List Value),aN w A l us->∀u∈us,u.oneCell'=true/\u.cells= #[u]:=by
    intro l;induction l with
    | nil=>intro us hu;simp only [aN] at hu;subst hu;simp
    | cons x l d=>
     intro us ⟨v,r,e,h1,b⟩ u hu;subst e;rcases RC.1 hu with rfl | hu
     .exact h1.pR
     .exact d r b u hu
   exact key l _ this
  .simp [ak]
 .split
  .rename_i x e;simp only [ak];exact one _ x e
  .simp [ak]
theorem SS.get{a:Act}{h:Id->Option ab}(hs:SS w A ρ s a.tmps){g:Option Gs}(l:jW a.tmps g)(x:Operand):ak w A ρ (St.get ⟨s,h⟩ g x) (a.eval x):=by
 cases x with
 | tmp k=>
  simp only [St.get,Act.eval];have:=hs k;split at this
  .rename_i v e;simp only [e,kE,cond_true];exact this
  .rename_i d v e;simp only [e];cases g with
   | none=>simp [kE,ak]
   | some i=>
    by_cases b:kE (some d) (some i)=true
    .simp only [b,cond_true];simp only [kE,Rw,beq_iff_eq] at b;rcases this with⟨_,_,j⟩ | ⟨h1,_⟩
     .exact j
     .exfalso;apply h1;rw [b.1,b.2];exact l.1
    .simp only [VF] at b;simp [b,ak]
 | const v=>exact OI v
 | func f=>simp only [St.get,Act.eval,ak];exact⟨[],[],rfl,by simp [ay],by simp [ay]⟩
 | global g=>simp [St.get,ak]
theorem SS.mh{a:Act}{h:Id->Option ab}(hs:SS w A ρ s a.tmps){g:Option Gs}(j:jW a.tmps g)(cs x:Operand)(want:Bool)(f:a.eval cs= .bool want):
  ak w A ρ (St.mh ⟨s,h⟩ g cs want x) (a.eval x):=by
 unfold St.mh;split
 .rename_i d k;simp only [Act.eval] at f⊢;have:=hs k;split
  .rename_i b v e;simp only [e] at this;by_cases h1:(b.d==d && b.want==want)=true
   .simp only [h1,VG,cond_true];simp only [Rw,beq_iff_eq] at h1;rcases this with⟨_,_,m⟩ | ⟨l,_⟩
    .exact m
    .exfalso;apply l;rw [h1.1,h1.2];exact f
   .simp only [VF] at h1;simp only [h1,Sx];have i:=SS.get (h:=h) hs j (.tmp k);simp only [St.get,e,Act.eval] at i;exact i
  .rename_i v e;simp only [e] at this;exact this
 .exact SS.get hs j _
end
end Go.Aev
