import Derived.WalkKit
set_option linter.all false
namespace Go.Aev
open Go
abbrev RJ:=@Option.some.injEq
abbrev RK:=@Option.bind_eq_some_iff
abbrev RL:=@List.mem_cons_self
abbrev RM:=@List.mem_cons_of_mem
abbrev RN:=@List.mem_of_getElem?
abbrev RO:=@List.getD_eq_getElem?_getD
abbrev RP:=@List.mem_singleton
abbrev RQ:=@Bool.and_eq_true
abbrev RR:=@List.getElem?_eq_getElem
abbrev RS:=@List.getElem?_eq_some_iff
abbrev RT:=@Result.andThen_ok
abbrev RU:=@List.cons_append
abbrev RV:=@List.mem_cons
abbrev RW:=@List.mem_append_right
abbrev RX:=@List.mem_append
abbrev RY:=@List.mem_append_left
abbrev R0:=@List.nil_append
abbrev R1:=@Int.mul_le_mul_of_nonneg_left
abbrev R2:=@Option.bind_some
abbrev R3:=@Nat.le_refl
abbrev R4:=@List.length_eq_zero_iff
abbrev R5:=@Option.bind_assoc
abbrev R6:=@Sem.run_bind
abbrev R7:=@List.all_eq_true
abbrev R8:=@Array.length_toList
abbrev R9:=@Bool.false_eq_true
abbrev Sa:=@Array.mem_of_getElem?
abbrev Sb:=@Int.natAbs_natCast
abbrev Sc:=@List.length_cons
abbrev Sd:=@Int.mul_comm
abbrev Se:=@List.map_cons
abbrev Sf:=@Sem.run_pure
abbrev Sg:=@Int.mul_le_mul_of_nonneg_right
abbrev Sh:=@Nat.le_trans
abbrev Si:=@List.mem_map
abbrev Sj:=@List.append_assoc
abbrev Sk:=@Int.mul_add
abbrev Sl:=@Bool.not_true
abbrev Sn:=@Nat.zero_add
abbrev So:=@Go.RowKit.Below.heap_alloc
abbrev Sp:=@List.getElem?_map
abbrev Sq:=@Array.all_eq_true_iff_forall_mem
abbrev Sr:=@Int.toNat_natCast
abbrev Ss:=@Int.natAbs_mul
abbrev Su:=@List.mem_or_eq_of_mem_set
abbrev Sv:=@List.replicate_succ
abbrev Sw:=@Bool.not_false
abbrev Sx:=@List.length_nil
abbrev SA:=@Prod.mk.injEq
abbrev SB:=@Int.ofNat_dvd_left
abbrev SC:=@Int.mul_left_comm
abbrev SD:=@List.length_take
abbrev SE:=@Nat.mul_le_mul_right
abbrev SF:=@Rat.div_def
abbrev SG:=@Array.getElem?_toList
abbrev SH:=@Nat.succ_mul
abbrev SI:=@List.length_append
abbrev SJ:=@Option.getD_some
abbrev SK:=@List.getElem?_append_right
abbrev SL:=@Addr.mk.injEq
abbrev SM:=@List.length_set
abbrev SN:=@List.append_nil
abbrev SO:=@List.getElem?_append_left
abbrev SP:=@Bool.false_or
abbrev SQ:=@Int.mul_assoc
abbrev SU:=@List.nodup_cons
abbrev SV:=@Bool.or_eq_true
abbrev SW:=@List.getElem?_set
abbrev SX:=@Value.slice.injEq
abbrev SY:=@Int.fdiv_eq_ediv_of_nonneg
abbrev SZ:=@List.getElem?_eq_none
abbrev S0:=@List.length_replicate
abbrev S3:=@Int.mul_nonneg
abbrev S4:=@Bool.not_eq_true'
abbrev S5:=@Int.sign_eq_neg_one_of_neg
abbrev S6:=@Int.sign_eq_one_of_pos
abbrev S7:=@Bool.decide_or
abbrev S8:=@List.head?_cons
abbrev S9:=@Rat.intCast_mul
abbrev Ta:=@List.size_toArray
abbrev Tc:=@Nat.lt_of_lt_of_le
abbrev Td:=@List.mem_of_mem_take
abbrev Te:=@Nat.sub_zero
abbrev Tf:=@Int.le_of_lt
abbrev Tg:=@Int.mul_ediv_cancel'
abbrev Th:=@List.take_of_length_le
abbrev Ti:=@List.take_length
abbrev Tj:=@Rat.mul_le_mul_of_nonneg_left
abbrev Tk:=@List.nodup_append
abbrev Tl:=@Int.lt_or_le
abbrev Tm:=@Rat.mul_zero
abbrev Tn:=@Rat.le_of_lt
abbrev To:=@Rat.le_refl
abbrev Tp:=@Array.getD_eq_getD_getElem?
abbrev Tq:=@List.getElem?_cons_zero
abbrev Tr:=@Int.tdiv_eq_ediv_of_dvd
abbrev Ts:=@List.length_drop
abbrev Tu:=@List.all_cons
abbrev Tv:=@Value.pointer.injEq
abbrev Tw:=@List.replicate_zero
abbrev Tx:=@Option.some.inj
abbrev Ty:=@List.length_map
abbrev Tz:=@Option.isSome_iff_exists
abbrev TA:=@List.getElem?_take
abbrev TB:=@Int.emod_lt_of_pos
abbrev TC:=@Int.mul_ediv_cancel_left
abbrev TD:=@Int.one_mul
abbrev TE:=@List.getElem?_cons_succ
abbrev TF:=@List.getElem?_replicate
abbrev TG:=@Int.eq_ofNat_of_zero_le
abbrev TH:=@Nat.add_sub_cancel_left
abbrev TI:=@List.flatten_cons
abbrev TJ:=@List.cons.injEq
abbrev TK:=@Bool.decide_and
abbrev TM:=@List.map_congr_left
abbrev TN:=@List.getElem_of_mem
abbrev TO:=@MapKept.run_getObj_map
abbrev TQ:=@Int.ediv_lt_iff_lt_mul
abbrev TR:=@Int.tdiv_eq_ediv_of_nonneg
abbrev TS:=@Bool.and_false
abbrev TT:=@Int.mul_ediv_add_emod
abbrev TU:=@Rat.mul_nonneg
abbrev TV:=@Array.getElem?_eq_getElem
abbrev TW:=@List.drop_eq_getElem_cons
abbrev TX:=@List.pairwise_iff_getElem
abbrev TY:=@Array.ext'
abbrev TZ:=@Option.map_some
abbrev T0:=@List.map_nil
abbrev T1:=@List.eq_of_mem_replicate
abbrev T2:=@Nat.not_lt
abbrev T3:=@Int.ediv_nonneg
abbrev T4:=@Int.add_zero
abbrev T5:=@Int.mul_zero
abbrev T6:=@Rat.zero_mul
abbrev T7:=@List.ext_getElem?
abbrev T8:=@List.take_add_one
abbrev T9:=@Int.lt_trichotomy
abbrev Ua:=@Nat.lt_irrefl
abbrev Ub:=@List.mem_map_of_mem
abbrev Uc:=@List.take_zero
abbrev Ud:=@Nat.lt_succ_self
abbrev Ue:=@Nat.le_add_right
abbrev Uf:=@List.getElem_mem
abbrev Ug:=@Nat.gcd_dvd_left
abbrev Uh:=@Option.map_eq_some_iff
abbrev Ui:=@Nat.add_mul
abbrev Uj:=@List.set_cons_succ
abbrev Uk:=@List.map_set
abbrev Ul:=@Nat.eq_zero_or_pos
abbrev Um:=@Int.pow_succ
abbrev Un:=@Rat.num_divInt_den
abbrev Uo:=@Nat.gcd_zero_right
abbrev Uq:=@Nat.sub_self
abbrev Ur:=@Classical.choose_spec
abbrev Us:=@List.getElem?_toArray
abbrev Ut:=@Int.emod_nonneg
abbrev Uu:=@Rat.intCast_neg
abbrev Uv:=@Nat.add_assoc
abbrev Uw:=@Int.tmod_eq_emod_of_nonneg
abbrev Ux:=@Rat.mul_lt_mul_of_pos_left
abbrev Uy:=@Nat.gcd_dvd_right
abbrev Uz:=@List.extract_eq_take_drop
abbrev UA:=@List.mem_of_mem_drop
abbrev UB:=@Option.isNone_iff_eq_none
abbrev UC:=@BitVec.ofInt_natCast
abbrev UD:=@Nat.pow_le_pow_right
abbrev UE:=@Nat.add_zero
abbrev UF:=@Nat.mod_eq_of_lt
abbrev UG:=@Nat.lt_or_ge
abbrev UH:=@Nat.le_of_not_lt
abbrev UI:=@List.length_pos_iff
abbrev UJ:=@Int.pos_of_mul_pos_left
abbrev UK:=@List.set_cons_zero
abbrev UL:=@List.map_append
abbrev UM:=@Array.any_eq_true'
abbrev UN:=@BitVec.toNat_ofNat
abbrev UO:=@Int.natCast_mul
abbrev UP:=@Rat.inv_mul_cancel
abbrev UQ:=@Rat.mul_le_mul_of_nonneg_right
abbrev UR:=@MapKept.run_setObj_map
abbrev US:=@Int.le_refl
abbrev UT:=@Int.add_mul
abbrev UW:=@Rat.intCast_lt_intCast
abbrev UX:=@List.mem_iff_getElem?
abbrev UY:=@List.tail_cons
abbrev UZ:=@List.mem_range
abbrev U0:=@Rat.add_zero
abbrev U1:=@Int.mul_lt_mul_of_pos_right
abbrev U3:=@Array.toList_extract
abbrev U4:=@List.range'_succ
abbrev U5:=@Nat.mod_lt
abbrev U6:=@List.replicate_succ'
abbrev U7:=@Bool.and_true
abbrev U8:=@Option.ne_none_iff_exists'
abbrev U9:=@Bool.true_and
abbrev Va:=@Array.getElem?_eq_some_iff
abbrev Vb:=@Int.mul_one
abbrev Vc:=@Int.pow_add
abbrev Vd:=@Rat.one_mul
abbrev Ve:=@List.take_succ_cons
abbrev Vf:=@Int.neg_ediv_of_dvd
abbrev Vg:=@Rat.le_iff_lt_or_eq
abbrev Vh:=@Int.natAbs_zero
abbrev Vi:=@List.getElem?_drop
abbrev Vj:=@List.mem_filterMap
abbrev Vk:=@Int.pow_zero
abbrev Vm:=@Rat.mul_inv_cancel
abbrev Vn:=@Nat.mul_le_mul
abbrev Vo:=@List.nodup_nil
abbrev Vp:=@List.drop_zero
abbrev Vq:=@Array.size_append
abbrev Vr:=@Nat.gcd_zero_left
abbrev Vs:=@List.drop_eq_nil_of_le
abbrev Vt:=@Nat.zero_le
abbrev Vu:=@List.zipWith_cons_cons
abbrev Vv:=@Bool.not_eq_true
abbrev Vw:=@List.isEmpty_iff
abbrev Vx:=@List.length_singleton
abbrev Vy:=@List.take_append_drop
abbrev Vz:=@List.singleton_append
abbrev VA:=@Array.getElem?_setIfInBounds_ne
abbrev VD:=@List.range_eq_range'
abbrev VE:=@Bool.or_eq_false_iff
abbrev VF:=@Nat.add_comm
abbrev VG:=@Rat.intCast_add
abbrev VH:=@List.getElem?_range
abbrev VI:=@Rat.mul_lt_mul_left
abbrev VJ:=@List.drop_drop
abbrev VK:=@Iff.rfl
abbrev VL:=@Ne.symm
abbrev VM:=@Int.natAbs_neg
abbrev VN:=@Rat.num_nonneg
abbrev VO:=@Prod.ext
abbrev VP:=@List.prefix_append
abbrev VQ:=@Option.isNone_none
abbrev VR:=@Nat.two_pow_add_eq_or_of_lt
abbrev VS:=@List.map_replicate
abbrev VT:=@Nat.one_le_two_pow
abbrev VU:=@List.drop_nil
abbrev VW:=@List.take_nil
abbrev VX:=@Int.lt_of_mul_lt_mul_right
abbrev VY:=@Int.sign_eq_zero_iff_zero
abbrev VZ:=@Rat.not_lt
abbrev V5:=@Classical.byContradiction
abbrev V6:=@Decidable.byContradiction
abbrev V7:=@Rat.le_of_mul_le_mul_left
abbrev V8:=@Bool.true_or
abbrev V9:=@List.idxOf_lt_length_iff
abbrev Wa:=@Nat.not_le_of_lt
abbrev Wb:=@Array.toList_map
abbrev Wc:=@List.not_mem_nil
abbrev We:=@Nat.gcd_comm
abbrev Wf:=@Int.neg_nonneg_of_nonpos
abbrev Wg:=@Option.map_none
abbrev Wh:=@Nat.gcd_le_left
abbrev Wi:=@Nat.min_eq_left
abbrev Wj:=@Int.mul_ne_zero
abbrev Wk:=@Rat.num_eq_zero
abbrev Wl:=@Rat.le_antisymm
abbrev Wm:=@List.range_succ
abbrev Wn:=@Nat.mul_one
abbrev Wo:=@Int.sub_mul
abbrev Wp:=@Int.neg_mul
abbrev Wq:=@Rat.mul_pos
abbrev Wr:=@List.mapM_cons
abbrev Ws:=@List.drop_left
abbrev Wu:=@List.take_take
inductive T where
 | int (k:IntKind) (n:Int)
 | bool (b:Bool)
 | str (s:ByteArray)
 | ae (sz:Nat) (isNil:Bool) (xs:List (List T))
 | aL (isNil:Bool)
 | ptr (cs:List T)
 | aS
 | wO
 | wN
 | AL
 | any
 deriving Inhabited
inductive Id where
 | c (n:Nat)
 | s (d:Nat) (j:Nat)
 | g (i:Id) (n:Nat)
 deriving DecidableEq,Inhabited
def Id.real:Id->Bool
 | .g _ _=>false
 | _=>true
inductive AV where
 | top
 | t (x:T)
 | lk (vs:List AV)
 | agg (vs:List AV)
 | ref (i:Id) (off:Nat)
 | el (i:Id) (sz k off:Nat)
 | own (i:Id)
 | part (i:Id) (sz off len:Nat)
 | row (i:Id) (n:Nat)
 | rel (i:Id) (sz n k off:Nat)
 | fn (f:FuncId) (fst caps:List AV)
 deriving Inhabited
inductive Ck where
 | i (k:IntKind)
 | b
 | s
 | l (sz:Nat)
 | x
 deriving Inhabited,DecidableEq
structure Row where
 n:Nat
 cs:List T
 own:Option (Bool×List (List T))
 deriving Inhabited
inductive ab where
 | box (cs:List AV)
 | sl (fz:Bool) (sz:Nat) (isNil:Bool) (xs:List (List T))
 | gX (cs:List T)
 | arr (cs:List AV)
 | mp (ag:Bool) (ks:List Ck) (vk:Ck) (es:List (List T×T))
 | rows (b:Bool) (sz ax rsz nx:Nat) (es:List Row)
 | dead
 deriving Inhabited
def T.int?(k:IntKind):T->Option Int
 | .int a n=>if a=k then some n else none
 | _=>none
def T.bool?:T->Option Bool
 | .bool b=>some b
 | _=>none
def T.bf:T->Option ByteArray
 | .str s=>some s
 | _=>none
def T.pf:T->Option (List T)
 | .ptr cs=>some cs
 | _=>none
def T.aM(sz:Nat):T->Option (Bool×List (List T))
 | .ae a b xs=>if a=sz then some (b,xs) else none
 | .aL b=>some (b,[])
 | _=>none
def cR:T->Value
 | .int k n=> .int k n
 | .bool b=> .bool b
 | .str s=> .string s
 | _=> .nilIface
def cu(ag:Bool)(cs:List T):Value:=cond ag (.agg (cs.map cR).toArray) ((cs.map cR).headD .nilIface)
def de:Ck->T->Bool
 | .i k, .int a _=>decide (a=k)
 | .b, .bool _=>true
 | .s, .str _=>true
 | _,_=>false
def bL:List Ck->List T->Bool
 | [],[]=>true
 | k::ks,x::xs=>de k x && bL ks xs
 | _,_=>false
def mD:T->T->Bool
 | .int _ a, .int _ b=>a==b
 | .bool a, .bool b=>a==b
 | .str a, .str b=>a==b
 | _,_=>false
def dt:List T->List T->Bool
 | [],[]=>true
 | x::xs,y::a=>mD x y && dt xs a
 | _,_=>false
def fW(key:List T):List (List T×T)->Option T
 | []=>none
 | (k,v)::r=>cond (dt key k) (some v) (fW key r)
def gf(key:List T)(v:T):List (List T×T)->List (List T×T)
 | []=> [(key,v)]
 | (k,u)::r=>cond (dt key k) ((key,v)::r) ((k,u)::gf key v r)
def T.oX:T->Option Unit
 | .int _ _=>some ()
 | .bool _=>some ()
 | .str _=>some ()
 | _=>none
def gd{α:Type}[Inhabited α](c:Option Bool)(m:Option α):Option α:=
 match m with
 | some a=>some a
 | none=>match c with
  | none=>none
  | some b=>cond b none (some default)
def aa{α R:Type}[Inhabited α](c:Option Bool)(m:Option α)(k:α->Option R):Option R:=
 match m with
 | some a=>k a
 | none=>match c with
  | none=>none
  | some b=>cond b none (k default)
def oq{R:Type}(c:Option Bool):Nat->List T->(List T->Option R)->Option R
 | 0,_,K=>K []
 | n+1,cs,K=>aa c cs.head? λx=>oq c n cs.tail λl=>K (x::l)
def nT:Value->Option T
 | .int k i=>some (.int k i)
 | .bool b=>some (.bool b)
 | .string s=>some (.str s)
 | .slice none 0 0=>some (.aL true)
 | .pointer none=>some .aS
 | .map none=>some .wO
 | .nilFunc=>some .wN
 | .nilIface=>some .AL
 | _=>none
def kS:List Value->Option (List T)
 | []=>some []
 | v::r=>(nT v).bind λx=>(kS r).bind λl=>some (x::l)
def be(P:Program)(t:TypeId):Bool:=
 match P.underlying t with
 | some (.struct _) | some (.array _ _)=>true
 | _=>false
def qF(P:Program)(t:TypeId):Option IntKind:=
 match P.underlying t with
 | some (.int k)=>some k
 | _=>none
def bB(P:Program)(t:TypeId):Bool:=(P.underlying t).isSome
def sq(P:Program)(t:TypeId)(f:Nat):Option (Nat×TypeId):=
 match P.underlying t with
 | some (.struct a)=>match a[f]? with
  | some x=>cond (bB P x.type) (some (x.offset,x.type)) none
  | none=>none
 | _=>none
def mA(P:Program)(t:TypeId):Option TypeId:=
 match P.underlying t with
 | some (.slice e)=>cond (bB P e) (some e) none
 | _=>none
def uV(P:Program)(t:TypeId):Option (Nat×TypeId):=
 match P.underlying t with
 | some (.array n e)=>cond (bB P e) (some (n,e)) none
 | _=>none
def pe(P:Program)(t:TypeId):Bool:=
 match P.underlying t with
 | some (.struct a)=>a.toList.all λf=>bB P f.type
 | some (.array _ e)=>bB P e
 | _=>false
def Ag(P:Program)(t:TypeId):Bool:=
 match P.underlying t with
 | some .string=>true
 | _=>false
def jc(P:Program)(t:TypeId):Option (List T):=
 match P.info? t with
 | some i=>match i.zero with
  | some v=>kS v.cells.toList
  | none=>none
 | none=>none
structure Gs where
 d:Nat
 want:Bool
 c:Bool
structure St where
 t:Nat->Option Gs×AV
 h:Id->Option ab
abbrev aE:=List (Id×ab)
def aG(h:Id->Option ab):aE->Id->Option ab
 | []=>h
 | (i,b)::us=>aG (λj=>if j=i then some b else h j) us
def lP(d:Nat):Option Gs×AV->Option Gs×AV
 | (some g,v)=>cond (g.d==d) (none, .top) (some g,v)
 | (none,v)=>(none,v)
def St.put(s:St)(a:Bool)(d:Option Nat)(g:Option Gs)(v:AV)(us:aE):St:=
 {t :=match d with
    | some d=>λk=>if k=d then(g,v) else cond a (lP d (s.t k)) (s.t k)
    | none=>s.t
  h:=aG s.h us}
def y9(v:Value):AV:=
 match v with
 | .agg cs=>match kS cs.toList with
  | some l=> .agg (l.map .t)
  | none=> .top
 | v=>match nT v with
  | some x=> .t x
  | none=> .top
def kk:Option Gs->Option Gs->Bool
 | none,_=>true
 | some a,some b=>a.d==b.d && a.want==b.want
 | some _,none=>false
def St.qO(s:St)(g:Gs):St:={s with t:=λk=>cond (kk (s.t k).1 (some g)) (none,(s.t k).2) (s.t k)}
def St.get(s:St)(g:Option Gs):Operand->AV
 | .tmp k=>match s.t k with
  | (a,v)=>cond (kk a g) v .top
 | .const v=>y9 v
 | .func f=> .fn f [] []
 | .global _=> .top
def St.lT(s:St)(g:Option Gs)(cs:Operand)(want:Bool)(o:Operand):AV:=
 match cs,o with
 | .tmp d, .tmp k=>match s.t k with
  | (some a,v)=>cond ((a.d==d && a.want==want) || kk (some a) g) v .top
  | (none,v)=>v
 | _,o=>s.get g o
def AV.t?:AV->Option T
 | .t x=>some x
 | _=>none
def dZ:List AV->Option (List T)
 | []=>some []
 | .t x::r=>(dZ r).bind λl=>some (x::l)
 | _::_=>none
def cO(h:Id->Option ab):AV->Option T
 | .t x=>some x
 | .own i=>match h i with
  | some (.sl _ sz b xs)=>some (.ae sz b xs)
  | _=>none
 | .part i sz off len=>match h i with
  | some (.sl _ a b xs)=>if a=sz then some (.ae sz b ((xs.drop off).take len)) else none
  | _=>none
 | .ref i off=>match h i with
  | some (.box cs)=>(dZ cs).bind λl=>some (.ptr (l.drop off))
  | some (.gX l)=>some (.ptr (l.drop off))
  | _=>none
 | _=>none
def kr(h:Id->Option ab):List AV->Option (List T)
 | []=>some []
 | v::r=>(cO h v).bind λx=>(kr h r).bind λl=>some (x::l)
def BI(h:Id->Option ab):AV->Option T
 | .own i=>match h i with
  | some (.sl _ sz b xs)=>some (.ae sz b xs)
  | some (.rows ..)=>some .any
  | some (.mp ..)=>some .any
  | _=>none
 | v=>cO h v
def tz(h:Id->Option ab):List AV->Option (List T)
 | []=>some []
 | v::r=>(BI h v).bind λx=>(tz h r).bind λl=>some (x::l)
def ko(h:Id->Option ab):AV->Option (List T)
 | .agg vs=>kr h vs
 | v=>(cO h v).bind λx=>some [x]
def gu(h:Id->Option ab):AV->aE
 | .own i=>match h i with
  | some (.sl false sz b xs)=> [(i, .sl true sz b xs)]
  | _=> []
 | .part i _ _ _=>match h i with
  | some (.sl false sz b xs)=> [(i, .sl true sz b xs)]
  | _=> []
 | .ref i _=>match h i with
  | some (.box cs)=>match dZ cs with
   | some l=> [(i, .gX l)]
   | none=> []
  | _=> []
 | _=> []
def lS(h:Id->Option ab):List AV->aE
 | []=> []
 | v::r=>gu h v++lS h r
def fX(h:Id->Option ab):AV->aE
 | .agg vs=>lS h vs
 | v=>gu h v
def pW{R:Type}(op:BinOp)(k:IntKind)(c:Option Bool)(x y:T)(K:T->Option R):Option R:=
 aa c (x.int? k) λa=>aa c (y.int? k) λb=>
  match op with
  | .add=>K (.int k (k.wrap (a+b)))
  | .sub=>K (.int k (k.wrap (a - b)))
  | .mul=>K (.int k (k.wrap (a * b)))
  | .quo=>aa c (if b=0 then none else some ()) λ_=>K (.int k (k.wrap (a.tdiv b)))
  | .rem=>aa c (if b=0 then none else some ()) λ_=>K (.int k (a.tmod b))
  | .and=>K (.int k (k.wrap (BitVec.ofInt k.bits a &&& BitVec.ofInt k.bits b).toNat))
  | .or=>K (.int k (k.wrap (BitVec.ofInt k.bits a ||| BitVec.ofInt k.bits b).toNat))
  | .xor=>K (.int k (k.wrap (BitVec.ofInt k.bits a ^^^ BitVec.ofInt k.bits b).toNat))
  | .andNot=>K (.int k (k.wrap (BitVec.ofInt k.bits a &&& ~~~(BitVec.ofInt k.bits b)).toNat))
  | .lss=>K (.bool (decide (a < b)))
  | .leq=>K (.bool (decide (a<=b)))
  | .gtr=>K (.bool (decide (a > b)))
  | .geq=>K (.bool (decide (a>=b)))
  | _=>none
def qY{R:Type}(op:BinOp)(k ky:IntKind)(c:Option Bool)(x y:T)(K:T->Option R):Option R:=
 aa c (x.int? k) λa=>aa c (y.int? ky) λb=>
  aa c (if b < 0 then none else some ()) λ_=>
  match op with
  | .shl=>K (.int k (k.wrap (a * 2 ^ (min b.toNat k.bits))))
  | .shr=>K (.int k (a.fdiv (2 ^ (min b.toNat k.bits))))
  | _=>none
def rf{R:Type}(op:BinOp)(c:Option Bool)(x y:T)(K:T->Option R):Option R:=
 aa c x.bf λa=>aa c y.bf λb=>
  match op with
  | .add=>aa c (if a.size+b.size<=4294967296 then some () else none) λ_=>K (.str (a++b))
  | .lss=>K (.bool (Op.bytesLess a.toList b.toList))
  | .leq=>K (.bool (Op.bytesLess a.toList b.toList || a.toList==b.toList))
  | .gtr=>K (.bool (!(Op.bytesLess a.toList b.toList || a.toList==b.toList)))
  | .geq=>K (.bool (!(Op.bytesLess a.toList b.toList)))
  | _=>none
def qz(P:Program)(go:TypeId->Option (List TypeId)):List Field->Nat->Option (List TypeId)
 | [],_=>some []
 | f ::r,off=>if f.offset=off/\f.name≠ "_" then
     (go f.type).bind λl=>if P.cellsOf f.type=l.length/\0 < l.length then(qz P go r (off+l.length)).bind λq=>some (l++q) else none
  else none
def eN(P:Program):Nat->TypeId->Option (List TypeId)
 | 0,_=>none
 | n+1,t=>match P.underlying t with
  | some (.int _) | some .bool | some .string=>some [t]
  | some (.struct a)=>if P.stoodInHeld t then none else qz P (eN P n) a.toList 0
  | some (.array m e)=>(eN P n e).bind λl=>if P.cellsOf e=l.length then some (List.replicate m l).flatten else none
  | _=>none
def iV(P:Program)(s:St)(t:TypeId)(x:AV):Option Bool:=
 match P.underlying t with
 | some (.slice _)=>match x with
  | .t (.ae _ b _)=>some b
  | .t (.aL b)=>some b
  | .own i=>match s.h i with
   | some (.sl _ _ b _)=>some b
   | _=>none
  | _=>none
 | some (.pointer _)=>match x with
  | .t (.ptr _)=>some false
  | .t .aS=>some true
  | .ref _ _=>some false
  | .el _ _ _ _=>some false
  | _=>none
 | some (.func ..)=>match x with
  | .t .wN=>some true
  | .fn _ _ _=>some false
  | _=>none
 | some (.map ..)=>match x with
  | .t .wO=>some true
  | _=>none
 | _=>none
def nS(P:Program)(t:TypeId)(o:Operand):Bool:=
 match P.underlying t,o with
 | some (.slice _), .const (.slice none 0 0)=>true
 | some (.pointer _), .const (.pointer none)=>true
 | some (.func ..), .const .nilFunc=>true
 | some (.map ..), .const (.map none)=>true
 | _,_=>false
def kO{R:Type}(P:Program)(c:Option Bool)(t:TypeId)(x y:T)(K:Bool->Option R):Option R:=
 match P.underlying t with
 | some (.int k)=>aa c (x.int? k) λa=>aa c (y.int? k) λb=>K (a==b)
 | some .bool=>aa c x.bool? λa=>aa c y.bool? λb=>K (a==b)
 | some .string=>aa c x.bf λa=>aa c y.bf λb=>K (a==b)
 | _=>none
def dF{R:Type}(P:Program)(c:Option Bool):List TypeId->List T->List T->(Bool->Option R)->Option R
 | [],[],[],K=>K true
 | t::ts,x::xs,y::a,K=>kO P c t x y λb=>dF P c ts xs a λr=>K (b && r)
 | _,_,_,_=>none
def pX{R:Type}(P:Program)(op:BinOp)(t ty:TypeId)(c:Option Bool)(x y:T)(K:T->Option R):Option R:=
 match op with
 | .shl | .shr=>match qF P t,qF P ty with
  | some k,some ky=>qY op k ky c x y K
  | _,_=>none
 | .eql | .neq=>none
 | op=>match P.underlying t with
  | some (.int k)=>pW op k c x y K
  | some .string=>rf op c x y K
  | _=>none
def oV{R:Type}(P:Program)(c:Option Bool)(t:TypeId)(x y:AV)(K:Bool->Option R):Option R:=
 match x,y with
 | .t x, .t y=>cond (Ag P t) (aa c x.bf λa=>aa c y.bf λb=>K (a.toList==b.toList)) (kO P c t x y K)
 | .agg xs, .agg d=>cond (P.eqGuardType P.depth t || !be P t) none <| (dZ xs).bind λxs=>(dZ d).bind λd=>(eN P 8 t).bind λts=>dF P c ts xs d K
 | _,_=>none
def rp{R:Type}(P:Program)(op:UnOp)(t:TypeId)(c:Option Bool)(x:T)(K:T->Option R):Option R:=
 match op,P.underlying t with
 | .neg,some (.int k)=>aa c (x.int? k) λa=>K (.int k (k.wrap (0 - a)))
 | .xor,some (.int k)=>aa c (x.int? k) λa=>
   K (.int k (k.wrap (BitVec.ofInt k.bits (if k.signed then -1 else k.max) ^^^ BitVec.ofInt k.bits a).toNat))
 | .not,some .bool=>aa c x.bool? λa=>K (.bool (!a))
 | _,_=>none
open Go
def ez{R:Type}(k:Ck)(c:Option Bool)(x:T)(K:T->Option R):Option R:=
 match k with
 | .i k=>aa c (x.int? k) λn=>K (.int k n)
 | .b=>aa c x.bool? λb=>K (.bool b)
 | .s=>aa c x.bf λs=>K (.str s)
 | .l sz=>aa c (x.aM sz) λp=>K (.ae sz p.1 p.2)
 | .x=>K x
def dY{R:Type}(c:Option Bool):List Ck->List T->(List T->Option R)->Option R
 | [],xs,K=>K xs
 | _::_,[],K=>K []
 | k::ks,x::xs,K=>ez k c x λy=>dY c ks xs λa=>K (y::a)
def kJ(P:Program)(t:TypeId):Ck:=
 match P.underlying t with
 | some (.int k)=> .i k
 | some .bool=> .b
 | some .string=> .s
 | some (.slice e)=> .l (P.cellsOf e)
 | _=> .x
def u5(P:Program):Nat->TypeId->List Ck
 | 0,_=> []
 | n+1,t=>match P.underlying t with
  | some (.struct a)=>a.toList.flatMap λf=>u5 P n f.type
  | some (.array m e)=>(List.replicate m (u5 P n e)).flatten
  | _=> [kJ P t]
def rQ(P:Program)(t:TypeId):List Ck:=
 if(u5 P 8 t).length=P.cellsOf t then u5 P 8 t else List.replicate (P.cellsOf t) .x
inductive bG where
 | f (k:Ck)
 | t (k:Ck)
 | own (sz:Nat)
 | ref (k off:Nat)
 | same (k:Nat)
 | rows (sz ax rsz:Nat)
 | mp (ag:Bool) (ks:List Ck) (vk:Ck)
 | new (l:List bG)
 | no
 | agg (l:List bG)
 deriving Inhabited
inductive jd where
 | box (l:List bG)
 | sl (sz:Nat)
 | mp (ag:Bool) (ks:List Ck) (vk:Ck)
 | dead
 deriving Inhabited
structure CM where
 res:List bG
 outs:List jd
 deriving Inhabited
structure bZ where
 live:FuncId->Nat->Option (List (Nat×Option Nat))
 join:FuncId->Nat->Option (List (Nat×Option Nat))
 sig:FuncId->Option CM
 gQ:FuncId->Option (List Bool):=λ_=>none
 deep:FuncId->Bool:=λ_=>false
 yS:FuncId->Nat->CM:=λ_ _=>⟨[],[]⟩
 app:Option Nat->Bool:=λ_=>false
 wr:FuncId->Bool:=λ_=>false
 st:Option Nat->Bool:=λ_=>false
 sx:Option Nat->Bool:=λ_=>false
 ld:Option Nat->Bool:=λ_=>false
 mQ:Option Nat->TypeId->Nat:=λ_ _=>0
 ext:FuncId->List AV->List ab->Option (List T):=λ_ _ _=>none
inductive Key where
 | call (f:FuncId)
 | node (f:FuncId) (todo:List Item) (live:List (Nat×Option Nat)) (m:Nat×Nat)
abbrev az:=Key->List AV->List ab->Option (List T)
def eH:Nat:=4294967296
mutual
def AV.ids:AV->List Id
 | .top=> []
 | .t _=> []
 | .lk vs=>bI vs
 | .agg vs=>bI vs
 | .ref i _=> [i]
 | .el i _ _ _=> [i]
 | .own i=> [i]
 | .part i _ _ _=> [i]
 | .row i _=> [i]
 | .rel i _ _ _ _=> [i]
 | .fn _ a b=>bI a++bI b
def bI:List AV->List Id
 | []=> []
 | v::r=>v.ids++bI r
end
mutual
def AV.rn(m:List Id):AV->AV
 | .top=> .top
 | .t x=> .t x
 | .lk vs=> .lk (jx m vs)
 | .agg vs=> .agg (jx m vs)
 | .ref i o=> .ref (.c (m.idxOf i)) o
 | .el i sz k o=> .el (.c (m.idxOf i)) sz k o
 | .own i=> .own (.c (m.idxOf i))
 | .part i sz o n=> .part (.c (m.idxOf i)) sz o n
 | .row i n=> .row (.c (m.idxOf i)) n
 | .rel i sz n k o=> .rel (.c (m.idxOf i)) sz n k o
 | .fn f a b=> .fn f (jx m a) (jx m b)
def jx(m:List Id):List AV->List AV
 | []=> []
 | v::r=>v.rn m::jx m r
end
def gx(m:List Id):Option ab->ab
 | some (.box cs)=> .box (jx m cs)
 | some (.arr cs)=> .arr (jx m cs)
 | some b=>b
 | none=> .dead
def ew(h:Id->Option ab):Nat->List Id->List Id->Option (List Id)
 | 0,_,_=>none
 | _+1,[],seen=>some seen
 | n+1,i::todo,seen=>
  cond (seen.contains i) (ew h n todo seen)
   (match h i with
    | some (.box cs)=>ew h n (todo++bI cs) (seen++ [i])
    | some (.arr cs)=>ew h n (todo++bI cs) (seen++ [i])
    | some _=>ew h n todo (seen++ [i])
    | none=>none)
def m8:Nat->List AV->Option (List AV)
 | 0,_=>some []
 | _+1,[]=>none
 | n+1,c::r=>(m8 n r).bind λl=>some (c::l)
def bE{α:Type}(off:Nat)(new a:List α):List α:=a.take off++new++a.drop (off+new.length)
def bq(n:Nat):List Row->Option (Bool×List (List T))
 | []=>none
 | e::r=>if e.n=n then e.own else bq n r
def cN(n:Nat)(p:Option (Bool×List (List T))):List Row->List Row
 | []=> []
 | e::r=>if e.n=n then{e with own:=p}::r else e::cN n p r
def kZ{R:Type}(h:Id->Option ab)(c:Option Bool)(i:Id)(n:Nat)(K:Nat->Bool->List (List T)->Option R):Option R:=
 match h i with
 | some (.rows _ _ _ rsz _ es)=>aa c (bq n es) λp=>K rsz p.1 p.2
 | _=>none
def jX{R:Type}(P:Program)(t:TypeId)(c:Option Bool)(cs:List T)(K:AV->Option R):Option R:=
 cond (be P t) (oq c (P.cellsOf t) cs λl=>dY c (rQ P t) l λl=>K (.agg (l.map .t))) (aa c cs.head? λx=>ez (kJ P t) c x λx=>K (.t x))
def mL{R:Type}(P:Program)(t:TypeId)(cs:List AV)(K:AV->Option R):Option R:=
 cond (be P t) ((m8 (P.cellsOf t) cs).bind λl=>K (.agg l)) (cs.head?.bind K)
def qG{R:Type}(P:Program)(t:TypeId)(c:Option Bool)(i:Id)(sz ax off:Nat)(e:Row)(K:AV->Option R):Option R:=
 cond (be P t)
  (if off=0/\P.cellsOf t=sz then oq c sz e.cs λl=>dY c ((rQ P t).set ax .x) l λl=>K (.agg ((l.map .t).set ax (.row i e.n))) else none)
  (if off=ax then K (.row i e.n) else aa c (e.cs.drop off).head? λx=>ez (kJ P t) c x λx=>K (.t x))
def jr{R:Type}(P:Program)(s:St)(c:Option Bool)(t:TypeId)(a:AV)(K:AV->Option R):Option R:=
 cond (bB P t) (match a with
 | .ref i off=>match s.h i with
  | some (.box cs)=>mL P t (cs.drop off) K
  | some (.gX l)=>jX P t c (l.drop off) K
  | _=>none
 | .el i sz k off=>match s.h i with
  | some (.sl _ b _ xs)=>if b=sz then aa c xs[k]? λcs=>jX P t c (cs.drop off) K else none
  | some (.rows _ b ax _ _ es)=>if b=sz then aa c es[k]? λe=>qG P t c i sz ax off e K else none
  | _=>none
 | .rel i sz n k off=>kZ s.h c i n λrsz _ xs=>if rsz=sz then aa c xs[k]? λcs=>jX P t c (cs.drop off) K else none
 | .t x=>aa c x.pf λcs=>jX P t c cs K
 | _=>none) none
def gm(v:AV):List AV:=
 match v with
 | .agg vs=>vs
 | v=> [v]
def oR:AV->Bool
 | .agg _ | .lk _ | .top=>false
 | _=>true
def bt(k off:Nat)(l:List T)(xs:List (List T)):Option (List (List T)):=
 match xs[k]? with
 | some cs=>if off+l.length<=cs.length then some (xs.set k (bE off l cs)) else none
 | none=>none
def iE{R:Type}(P:Program)(s:St)(t:TypeId)(a v:AV)(K:aE->Option R):Option R:=
 cond (bB P t) (match a with
 | .ref i off=>match s.h i with
  | some (.box cs)=>
   if(gm v).length=P.cellsOf t/\(gm v).all oR/\off+ (gm v).length<=cs.length then K [(i, .box (bE off (gm v) cs))] else none
  | _=>none
 | .el i sz k off=>match s.h i with
  | some (.sl false d b xs)=>(ko s.h v).bind λl=>
    if d=sz/\l.length=P.cellsOf t/\v.ids.contains i=false then
     aa none (bt k off l xs) λg=>K ((i, .sl false sz b g)::fX s.h v) else none
  | some (.rows b d ax rsz nx es)=>match v with
   | .own j=>match s.h j with
    | some (.sl false f m xs)=>
     if d=sz/\off=ax/\f=rsz/\P.cellsOf t=1/\be P t=false then
      aa none es[k]? λe=>K [(j, .dead),(i, .rows b sz ax rsz (nx+1) (es.set k ⟨nx,e.cs,some (m,xs)⟩))] else none
    | _=>none
   | _=>none
  | _=>none
 | .rel i sz n k off=>match s.h i with
  | some (.rows b d ax rsz nx es)=>aa none (bq n es) λp=>(ko s.h v).bind λl=>
    if rsz=sz/\l.length=P.cellsOf t/\v.ids.contains i=false then
     aa none (bt k off l p.2) λg=>K ((i, .rows b d ax rsz nx (cN n (some (p.1,g)) es))::fX s.h v) else none
  | _=>none
 | _=>none) none
def sB:List (Nat×List AV)->List AV->Option (List AV)
 | [],z=>some z
 | (off,l)::r,z=>if off+l.length<=z.length then sB r (bE off l z) else none
def sU(P:Program)(t:TypeId)(f:Nat):Option (Nat×TypeId):=
 match sq P t f with
 | some p=>some p
 | none=>match uV P t with
  | some (_,u)=>some (f * P.cellsOf u,u)
  | none=>none
def n7(P:Program)(t:TypeId)(ev:Operand->AV):List (Nat×Operand)->Option (List (Nat×List AV))
 | []=>some []
 | (f,o)::r=>(sU P t f).bind λp=>
   if(gm (ev o)).length=P.cellsOf p.2/\(gm (ev o)).all oR then(n7 P t ev r).bind λq=>some ((p.1,gm (ev o))::q) else none
def uZ(P:Program)(t:TypeId)(ev:Operand->AV)(a:List (Nat×Operand)):Option AV:=
 if pe P t then
 (jc P t).bind λz=>(n7 P t ev a).bind λl=>(sB l (z.map .t)).bind λcs=>some (.agg cs)
 else none
def gW(P:Program)(h:Id->Option ab)(e:TypeId)(ev:Operand->AV):Nat->List (Nat×Operand)->Option (List (List T)×aE)
 | _,[]=>some ([],[])
 | n,(k,o)::r=>(ko h (ev o)).bind λl=>if k=n/\l.length=P.cellsOf e then
    (gW P h e ev (n+1) r).bind λq=>some (l::q.1,fX h (ev o)++q.2)
  else none
def jo{R:Type}(c:Option Bool)(i:Int)(n:Nat)(K:Option R):Option R:=aa c (if 0<=i/\i < n then some () else none) λ_=>K
def iU{R:Type}(P:Program)(s:St)(c:Option Bool)(t:TypeId)(x:AV)(i:Int)(K:AV->Option R):Option R:=
 match mA P t with
 | some e=>match x with
  | .own j=>match s.h j with
   | some (.sl _ sz _ xs)=>if sz=P.cellsOf e then jo c i xs.length (K (.el j sz i.toNat 0)) else none
   | some (.rows _ sz _ _ _ es)=>if sz=P.cellsOf e then jo c i es.length (K (.el j sz i.toNat 0)) else none
   | _=>none
  | .row j n=>kZ s.h c j n λrsz _ xs=>if rsz=P.cellsOf e then jo c i xs.length (K (.rel j rsz n i.toNat 0)) else none
  | .part j sz off n=>match s.h j with
   | some (.sl _ a _ _)=>if sz=P.cellsOf e/\a=sz then jo c i n (K (.el j sz (off+i.toNat) 0)) else none
   | _=>none
  | .t y=>aa c (y.aM (P.cellsOf e)) λp=>jo c i p.2.length (aa c p.2[i.toNat]? λcs=>K (.t (.ptr cs)))
  | _=>none
 | none=>match uV P t with
  | some (n,e)=>jo c i n (match x with
   | .ref j off=>K (.ref j (off+i.toNat * P.cellsOf e))
   | .el j sz k off=>K (.el j sz k (off+i.toNat * P.cellsOf e))
   | .t y=>aa c y.pf λcs=>K (.t (.ptr (cs.drop (i.toNat * P.cellsOf e))))
   | _=>none)
  | none=>none
def qo{R:Type}(P:Program)(c:Option Bool)(t:TypeId)(x:AV)(f:Nat)(K:AV->Option R):Option R:=
 match sq P t f with
 | some (off,u)=>if P.cellsOf u=0 then none else
  match x with
  | .ref j o=>K (.ref j (o+off))
  | .el j sz k o=>K (.el j sz k (o+off))
  | .rel j sz n k o=>K (.rel j sz n k (o+off))
  | .t y=>aa c y.pf λcs=>K (.t (.ptr (cs.drop off)))
  | _=>none
 | none=>none
def qn{R:Type}(P:Program)(t:TypeId)(x:AV)(f:Nat)(K:AV->Option R):Option R:=
 match sq P t f with
 | some (off,u)=>match x with
  | .agg vs=>mL P u (vs.drop off) K
  | _=>none
 | none=>none
def mK{R:Type}(P:Program)(s:St)(c:Option Bool)(t:TypeId)(x:AV)(K:AV->Option R):Option R:=
 match P.underlying t with
 | some .string=>match x with
  | .t y=>aa c y.bf λb=>K (.t (.int .i64 b.size))
  | _=>none
 | some (.array n _)=>K (.t (.int .i64 n))
 | some (.slice e)=>match x with
  | .own j=>match s.h j with
   | some (.sl _ _ _ xs)=>K (.t (.int .i64 xs.length))
   | some (.rows _ _ _ _ _ es)=>K (.t (.int .i64 es.length))
   | _=>none
  | .row j n=>kZ s.h c j n λ_ _ xs=>K (.t (.int .i64 xs.length))
  | .part _ _ _ n=>K (.t (.int .i64 n))
  | .t y=>aa c (y.aM (P.cellsOf e)) λp=>K (.t (.int .i64 p.2.length))
  | _=>none
 | _=>none
def il{R:Type}(s:St)(c:Option Bool)(g:Option Gs)(o:Option Operand)(K:Option Int->Option R):Option R:=
 match o with
 | none=>K none
 | some o=>(s.get g o).t?.bind λx=>aa c (anyInt x) λn=>K (some n)
where
 anyInt:T->Option Int
  | .int _ n=>some n
  | _=>none
def cU(a hi n:Int):Option Unit:=if 0<=a/\a<=hi/\hi<=n then some () else none
def sub(a hi:Int)(xs:List (List T)):List (List T):=(xs.drop a.toNat).take (hi.toNat - a.toNat)
def x7(a hi m:Int):Option Unit:=if a=0/\hi=0/\m=0 then some () else none
def wz:T->Bool
 | .aL true=>true
 | .ae _ true []=>true
 | _=>false
def m5{R:Type}(P:Program)(s:St)(c:Option Bool)(t:TypeId)(x:AV)(a hi d:Option Int)(K:AV->Option R):Option R:=
 match P.underlying t with
 | some .string=>match x,d with
  | .t y,none=>aa c y.bf λb=>
    aa c (cU (a.getD 0) (hi.getD b.size) b.size) λ_=>K (.t (.str (b.extract (a.getD 0).toNat (hi.getD b.size).toNat)))
  | _,_=>none
 | some (.slice e)=>match d with
  | none=>match x with
   | .own j=>match s.h j with
    | some (.sl _ sz _ xs)=>if sz=P.cellsOf e/\bB P e=true then
      aa c (cU (a.getD 0) (hi.getD xs.length) xs.length) λ_=>
      K (.part j sz (a.getD 0).toNat ((hi.getD xs.length).toNat - (a.getD 0).toNat)) else none
    | _=>none
   | .part j sz off n=>match s.h j with
    | some (.sl _ f _ _)=>if sz=P.cellsOf e/\f=sz/\bB P e=true then
      aa c (cU (a.getD 0) (hi.getD n) n) λ_=>
      K (.part j sz (off+ (a.getD 0).toNat) ((hi.getD n).toNat - (a.getD 0).toNat)) else none
    | _=>none
   | .t y=>if bB P e=true then aa c (y.aM (P.cellsOf e)) λp=>
     aa c (cU (a.getD 0) (hi.getD p.2.length) p.2.length) λ_=>
     K (.t (.ae (P.cellsOf e) p.1 (sub (a.getD 0) (hi.getD p.2.length) p.2))) else none
   | _=>none
  | some m=>match x with
   | .t y=>if bB P e=true then aa c (y.aM (P.cellsOf e)) λp=>aa c (x7 (a.getD 0) (hi.getD 1) m) λ_=>K (.t (.aL p.1)) else none
   | .own j=>match s.h j with
    | some (.sl _ _ b _)=>if bB P e=false then none else aa c (x7 (a.getD 0) (hi.getD 1) m) λ_=>K (.t (.aL b))
    | _=>none
   | _=>none
 | _=>none
def bJ(n m:Int):Option Unit:=if 0<=n/\n<=m/\m<=eH then some () else none
def lC{R:Type}(P:Program)(s:St)(t:TypeId)(sz:Nat)(a:List T)(y:AV)(K:List (List T)->Option R):Option R:=
 match P.underlying t with
 | some (.slice _)=>(cO s.h y).bind λx=>aa none (x.aM sz) λp=>K p.2
 | some .string=>if sz=1 then y.t?.bind λx=>aa none x.bf λb=>K (b.data.toList.map λu=> [.int .u8 u.toNat]) else none
 | some (.int _)=>y.t?.bind λx=>aa none (x.int? .i64) λn=>aa none (bJ n n) λ_=>K (List.replicate n.toNat a)
 | _=>none
def nG(bs n:Nat):Prop:=n<=eH\/(0 < bs/\n * bs<=140737488355328)
instance (bs n:Nat):Decidable (nG bs n):=inferInstanceAs (Decidable (_\/_))
def bw(bs n:Nat):Option Unit:=if nG bs n then some () else none
def GW:T->Option Bool
 | .aL b=>some b
 | .ae _ b xs=>cond (b && xs.isEmpty) (some true) none
 | _=>none
def Bp(h:Id->Option ab):AV->Option (Id×Nat×Nat×Nat×Nat×List Row)
 | .own i=>match h i with
  | some (.rows _ sz ax rsz nx es)=>some (i,sz,ax,rsz,nx,es)
  | _=>none
 | _=>none
def AS(h:Id->Option ab):AV->Option (Id×List AV)
 | .own j=>match h j with
  | some (.arr cs)=>some (j,cs)
  | _=>none
 | _=>none
def oN{R:Type}(P:Program)(s:St)(d:Nat)(e:TypeId)(i:Id)(sz ax rsz nx:Nat)(es:List Row)(j:Id)(cs:List AV)(K:AV->aE->Option R):Option R:=
 if sz=P.cellsOf e/\cs.length=sz/\ax < sz/\i≠j then
  (dZ (cs.set ax (.t .aS))).bind λl=>match cs[ax]? with
   | some (.own m)=>match s.h m with
    | some (.sl false k r xs)=>if k=rsz then
      aa none (bw (P.bytesOf e) (es.length+1)) λ_=>
      K (.own (.s d 0)) [(i, .dead),(j, .dead),(m, .dead),(.s d 0, .rows false sz ax rsz (nx+1) (es++ [⟨nx,l,some (r,xs)⟩]))] else none
    | _=>none
   | some (.row a n)=>match s.h a with
    | some (.rows u q g b o f)=>if b=rsz/\a≠i then
      aa none (bq n f) λp=>aa none (bw (P.bytesOf e) (es.length+1)) λ_=>
      K (.own (.s d 0)) [(i, .dead),(j, .dead),(a, .rows u q g b o (cN n none f)),(.s d 0, .rows false sz ax rsz (nx+1) (es++ [⟨nx,l,some p⟩]))] else none
    | _=>none
   | _=>none
 else none
def jJ{R:Type}(P:Program)(s:St)(d:Nat)(rw:Bool)(t ty:TypeId)(x y:AV)(K:AV->aE->Option R):Option R:=
 (mA P t).bind λe=>(jc P e).bind λk=>
 if P.bytesOf e<=8192/\k.length=P.cellsOf e then
 match cond rw (Bp s.h x) none,cond rw (AS s.h y) none with
 | some (i,sz,ax,rsz,nx,es),some (j,cs)=>match P.underlying ty with
  | some (.slice _)=>oN P s d e i sz ax rsz nx es j cs K
  | _=>none
 | _,_=>
 lC P s ty (P.cellsOf e) k y λa=>
 match x with
 | .own i=>match s.h i with
  | some (.sl false f b xs)=>if f=P.cellsOf e then
    aa none (bw (P.bytesOf e) (xs.length+a.length)) λ_=>
    K (.own (.s d 0)) [(.s d 0, .sl false (P.cellsOf e) (b && a.isEmpty) (xs++a)),(i, .dead)] else none
  | _=>none
 | .part i g off n=>match s.h i with
  | some (.sl false f b xs)=>if f=P.cellsOf e/\g=P.cellsOf e then
    aa none (bw (P.bytesOf e) (n+a.length)) λ_=>
    K (.own (.s d 0)) [(.s d 0, .sl false (P.cellsOf e) (b && a.isEmpty) ((xs.drop off).take n++a)),(i, .dead)] else none
  | _=>none
 | .t z=>(GW z).bind λb=>aa none (bw (P.bytesOf e) a.length) λ_=>
    K (.own (.s d 0)) [(.s d 0, .sl false (P.cellsOf e) (b && a.isEmpty) a)]
 | _=>none
 else none
def pb(n:Nat):List Row:=(List.range n).map λk=>⟨k,[.aS],some (true,[])⟩
def qH{R:Type}(P:Program)(d:Nat)(t:TypeId)(mQ:Nat)(n m:T)(K:AV->aE->Option R):Option R:=
 (mA P t).bind λe=>(jc P e).bind λa=>
 aa none (n.int? .i64) λn=>aa none (m.int? .i64) λm=>
 if P.bytesOf e<=8192/\a.length=P.cellsOf e then
 aa none (bJ n m) λ_=>
  cond (mQ==2) (match P.underlying e,a with
   | some (.slice u),[.aL true]=>if P.cellsOf e=1 then K (.own (.s d 0)) [(.s d 0, .rows false 1 0 (P.cellsOf u) n.toNat (pb n.toNat))] else none
   | _,_=>none)
   (K (.own (.s d 0)) [(.s d 0, .sl false (P.cellsOf e) false (List.replicate n.toNat a))])
 else none
def mm(d:Bool)(a b:Int):Int:=cond d (if b > a then b else a) (if b < a then b else a)
def nP{R:Type}(k:IntKind)(c:Option Bool)(d:Bool):Int->List T->(T->Option R)->Option R
 | a,[],K=>K (.int k a)
 | a,y::r,K=>aa c (y.int? k) λb=>nP k c d (mm d a b) r K
def p5{R:Type}(P:Program)(c:Option Bool)(src a:TypeId)(x:T)(K:T->Option R):Option R:=
 match P.underlying src,P.underlying a with
 | some (.int k),some (.int d)=>aa c (x.int? k) λn=>K (.int d (d.wrap n))
 | some .string,some .string=>aa c x.bf λb=>K (.str b)
 | _,_=>none
def bytesOf:List (List T)->Option (List UInt8)
 | []=>some []
 | cs::r=>cs.head?.bind λx=>(x.int? .u8).bind λn=>(bytesOf r).bind λl=>some (UInt8.ofNat n.toNat::l)
def lZ:Ck->Bool
 | .i _ | .b | .s=>true
 | _=>false
def qJ(P:Program)(t:TypeId):Option (TypeId×TypeId):=
 match P.underlying t with
 | some (.map k e)=>cond (bB P k && bB P e) (some (k,e)) none
 | _=>none
def B5(P:Program)(t:TypeId):Option T:=
 match P.info? t with
 | some i=>match i.zero with
  | some v=>nT v
  | none=>none
 | none=>none
def jW(P:Program)(k:TypeId):Option (Bool×List Ck):=
 match P.underlying k with
 | some (.int i)=>some (false,[.i i])
 | some .string=>some (false,[.s])
 | some (.array n e)=>match P.underlying e with
  | some (.int i)=>if P.cellsOf e=1/\n<=8 then some (true,List.replicate n (.i i)) else none
  | _=>none
 | _=>none
def nL{R:Type}(P:Program)(k:TypeId)(c:Option Bool)(v:AV)(K:Bool->List Ck->List T->Option R):Option R:=
 (jW P k).bind λq=>match q.1,v with
  | false, .t x=>dY c q.2 [x] λcs=>K false q.2 cs
  | true, .agg vs=>(dZ vs).bind λl=>if l.length=q.2.length then dY c q.2 l λcs=>K true q.2 cs else none
  | _,_=>none
def mM{R:Type}(P:Program)(s:St)(c:Option Bool)(t:TypeId)(x key:AV)(ok:Bool)(K:AV->Option R):Option R:=
 (qJ P t).bind λq=>(B5 P q.2).bind λz=>nL P q.1 c key λag ks cs=>match x with
  | .own i=>match s.h i with
   | some (.mp a b vk es)=>if a=ag/\b=ks/\kJ P q.2=vk/\lZ vk=true/\be P q.2=false then
     ez vk c ((fW cs es).getD z) λv=>K (cond ok (.lk [.t v, .t (.bool (fW cs es).isSome)]) (.t v)) else none
   | _=>none
  | _=>none
def qI{R:Type}(P:Program)(d:Nat)(t:TypeId)(K:AV->aE->Option R):Option R:=
 (qJ P t).bind λq=>(jW P q.1).bind λp=>if lZ (kJ P q.2)=true then K (.own (.s d 0)) [(.s d 0, .mp p.1 p.2 (kJ P q.2) [])] else none
def mS{R:Type}(P:Program)(s:St)(t:TypeId)(x key v:AV)(K:aE->Option R):Option R:=
 (qJ P t).bind λq=>nL P q.1 none key λag ks cs=>match x with
  | .own i=>match s.h i with
   | some (.mp a b vk es)=>if a=ag/\b=ks/\kJ P q.2=vk/\lZ vk=true then
     v.t?.bind λv=>ez vk none v λv=>K [(i, .mp ag ks vk (gf cs v es))] else none
   | _=>none
  | _=>none
def iq(key:List T):List (List T×T)->List (List T×T)
 | []=> []
 | p::r=>cond (dt key p.1) r (p::iq key r)
def my{R:Type}(P:Program)(s:St)(t:TypeId)(x key:AV)(K:aE->Option R):Option R:=
 (qJ P t).bind λq=>nL P q.1 none key λag ks cs=>match x with
  | .own i=>match s.h i with
   | some (.mp a b vk es)=>if a=ag/\b=ks then K [(i, .mp ag ks vk (iq cs es))] else none
   | _=>none
  | _=>none
def jg(fl a:Bool)(h:Id->Option ab):AV->Option (T×aE)
 | .ref i off=>cond fl (match h i with
  | some (.box cs)=>(cond a (tz h (cs.drop off)) (dZ (cs.drop off))).bind λl=>some (.ptr l,[])
  | some (.gX l)=>some (.ptr (l.drop off),[])
  | _=>none) ((cO h (.ref i off)).bind λx=>some (x,gu h (.ref i off)))
 | v=>(cO h v).bind λx=>some (x,cond fl [] (gu h v))
def lD(fl a:Bool)(h:Id->Option ab):List AV->Option (List T×aE)
 | []=>some ([],[])
 | v::r=>(jg fl a h v).bind λp=>(lD fl a h r).bind λq=>some (p.1::q.1,p.2++q.2)
def kF(fl d:Bool)(h:Id->Option ab):AV->Option (AV×aE)
 | .fn f a b=>(lD fl d h a).bind λx=>(lD fl d h b).bind λy=>some (.fn f (x.1.map .t) (y.1.map .t),x.2++y.2)
 | .agg vs=>(lD fl d h vs).bind λx=>some (.agg (x.1.map .t),x.2)
 | v=>(jg fl d h v).bind λp=>some (.t p.1,p.2)
def kG(fl a:Bool)(h:Id->Option ab):List AV->Option (List AV×aE)
 | []=>some ([],[])
 | v::r=>(kF fl a h v).bind λp=>(kG fl a h r).bind λq=>some (p.1::q.1,p.2++q.2)
def vT(P:Program):Nat->TypeId->Bool
 | 0,_=>false
 | n+1,t=>match P.underlying t with
  | some (.int _) | some .bool | some .string=>true
  | some (.struct a)=>a.toList.all λf=>vT P n f.type
  | some (.array _ e)=>vT P n e
  | _=>false
def od(e:Row):T:=match e.own with
 | some p=> .ae 0 p.1 p.2
 | none=> .aS
def dH(b:Bool)(es:List Row):T:= .ae 2 b (es.map λe=> [.ptr e.cs,od e])
def p7:Nat->List (List T)->Option (List Row)
 | _,[]=>some []
 | n,[.ptr cs, .ae _ b xs]::r=>(p7 (n+1) r).bind λl=>some (⟨n,cs,some (b,xs)⟩::l)
 | _,_=>none
def jN:T->Option (Bool×List Row)
 | .ae _ b xs=>(p7 0 xs).bind λl=>some (b,l)
 | _=>none
def dh(es:List Row):Bool:=es.all λe=>e.own.isSome
def F5:bG->Bool
 | .rows _ _ _=>true
 | _=>false
def ee(es:List (List T×T)):T:= .ae 2 false (es.map λp=> [.ptr p.1,p.2])
def zb:List (List T)->Option (List (List T×T))
 | []=>some []
 | [.ptr k,v]::r=>(zb r).bind λl=>some ((k,v)::l)
 | _=>none
def lM:T->Option (List (List T×T))
 | .ae _ _ xs=>zb xs
 | _=>none
def lN{R:Type}(ids:List Id)(d:Nat)(c:Option Bool)(j:Nat)(r:bG)(x:T)(K:AV->aE->Nat->Option R):Option R:=
 match r with
 | .f k=>ez k c x λx=>K (.t x) [] j
 | .t k=>ez k c x λx=>K (.t x) [] j
 | .own sz=>match c with
  | none=>aa none (x.aM sz) λp=>K (.own (.s d j)) [(.s d j, .sl false sz p.1 p.2)] (j+1)
  | some _=>none
 | .ref k off=>match ids[k]? with
  | some i=>K (.ref i off) [] j
  | none=>none
 | .same k=>match ids[k]? with
  | some i=>K (.own i) [] j
  | none=>none
 | .rows sz ax rsz=>match c with
  | none=>aa none (jN x) λp=>K (.own (.s d j)) [(.s d j, .rows p.1 sz ax rsz p.2.length p.2)] (j+1)
  | some _=>none
 | .mp ag ks vk=>match c with
  | none=>aa none (lM x) λes=>K (.own (.s d j)) [(.s d j, .mp ag ks vk es)] (j+1)
  | some _=>none
 | .no=>K .top [] j
 | .agg _=>none
 | .new _=>none
def jk{R:Type}(ids:List Id)(d:Nat)(c:Option Bool):Nat->List bG->List T->(List AV->aE->Nat->Option R)->Option R
 | j,[],_,K=>K [] [] j
 | j,r::a,xs,K=>aa c xs.head? λx=>lN ids d c j r x λv u j=>jk ids d c j a xs.tail λvs us j=>K (v::vs) (u++us) j
def bG.size:bG->Nat
 | .agg l=>l.length
 | .new l=>l.length
 | _=>1
def dq{R:Type}(ids:List Id)(d:Nat)(c:Option Bool):Nat->List bG->List T->(List AV->aE->Nat->Option R)->Option R
 | j,[],_,K=>K [] [] j
 | j,r::a,xs,K=>match r with
  | .agg l=>jk ids d c j l xs λv u j=>dq ids d c j a (xs.drop l.length) λvs us j=>K (AV.agg v::vs) (u++us) j
  | .new l=>match c with
   | none=>jk ids d c j l xs λv u j=>dq ids d c (j+1) a (xs.drop l.length) λvs us b=>K (AV.ref (.s d j) 0::vs) (u++ [(.s d j, .box v)] ++us) b
   | some _=>none
  | r=>aa c xs.head? λx=>lN ids d c j r x λv u j=>dq ids d c j a xs.tail λvs us j=>K (v::vs) (u++us) j
def l6:List bG->Nat
 | []=>0
 | r::a=>r.size+l6 a
def fq{R:Type}(all:List Id)(d:Nat):Nat->List Id->List jd->List T->(aE->Option R)->Option R
 | j,i::a, .box l::r,xs,K=>jk all d none j l xs λv u j=>fq all d j a r (xs.drop l.length) λq=>K (u++ (i, .box v)::q)
 | j,i::a, .sl sz::r,xs,K=>aa none (xs.head?.bind (T.aM sz)) λp=>fq all d j a r xs.tail λq=>K ((i, .sl false sz p.1 p.2)::q)
 | j,i::a, .mp ag ks vk::r,xs,K=>aa none (xs.head?.bind lM) λes=>fq all d j a r xs.tail λq=>K ((i, .mp ag ks vk es)::q)
 | j,_::a, .dead::r,xs,K=>fq all d j a r xs K
 | _,[],[],_,K=>K []
 | _,_,_,_,_=>none
def kY:List AV->AV
 | [v]=>v
 | vs=> .lk vs
def KM(P:Program)(t:TypeId):bG:=cond (be P t) (.agg ((rQ P t).map λk=>cond (vT P 8 t) (.f k) (.t k))) (cond (vT P 8 t) (.f (kJ P t)) (.t (kJ P t)))
def qq:bG->Bool
 | .f _=>true
 | .agg l=>l.all λr=>match r with
  | .f _=>true
  | _=>false
 | _=>false
def cF(P:Program)(A:bZ)(f:FuncId)(n:Nat)(fn:Func):List bG:=
 match A.gQ f with
 | some _=>(A.yS f n).res
 | none=>match A.sig f with
  | some sg=>sg.res
  | none=>fn.resultTypes.toList.map (KM P)
def gw(A:bZ)(f:FuncId)(n:Nat):List jd:=
 match A.gQ f with
 | some _=>(A.yS f n).outs
 | none=> []
def OE:AV->Bool
 | .own _=>true
 | .part _ _ _ _=>true
 | _=>false
def gD:Option ab->Nat
 | some (.box cs)=>cs.length+1000 * (cs.filter OE).length
 | _=>0
def eD(c:Option Bool)(m:Option (List T)):Option (List T):=
 match c with
 | none=>m
 | some b=>cond b m (some [])
def l9{R:Type}(P:Program)(c:Option Bool)(t:TypeId)(v:AV)(K:AV->Option R):Option R:=
 match v with
 | .t x=>ez (kJ P t) c x λy=>K (.t y)
 | .agg vs=>match dZ vs with
  | some l=>dY c (rQ P t) l λl=>K (.agg (l.map .t))
  | none=>K (.agg vs)
 | v=>K v
def iG{R:Type}(P:Program)(c:Option Bool):List TypeId->List AV->(List AV->Option R)->Option R
 | [],vs,K=>K vs
 | _::_,[],K=>K []
 | t::ts,v::vs,K=>l9 P c t v λu=>iG P c ts vs λus=>K (u::us)
def yT:List Bool->List AV->List Id
 | b::fl,v::vs=>cond b v.ids [] ++yT fl vs
 | _,_=> []
def rS(h:Id->Option ab)(eQ:List Id)(b:Bool)(v:AV):Option (AV×aE):=
 cond (b || (!v.ids.isEmpty && v.ids.all eQ.contains)) (some (v,[])) (kF false false h v)
def lG(h:Id->Option ab)(eQ:List Id):List Bool->List AV->Option (List AV×aE)
 | _,[]=>some ([],[])
 | fl,v::r=>(rS h eQ (fl.headD false) v).bind λp=>(lG h eQ fl.tail r).bind λq=>some (p.1::q.1,p.2++q.2)
def O7(sz ax rsz:Nat):Nat:=100000+1000 * sz+100 * ax+rsz
def qV(h:Id->Option ab)(new i:Id)(k sz ax rsz:Nat):Option aE:=
 match h i with
 | some (.box cs)=>match cs[k]? with
  | some (.own _)=>some []
  | some (.t (.aL b))=>cond (h new).isNone (some [(new, .rows b sz ax rsz 0 []),(i, .box (cs.set k (.own new)))]) none
  | some (.t (.ae _ true []))=>cond (h new).isNone (some [(new, .rows true sz ax rsz 0 []),(i, .box (cs.set k (.own new)))]) none
  | _=>none
 | _=>none
def nX(h:Id->Option ab)(new i:Id)(k sz:Nat):Option aE:=
 cond (Nat.ble 100000 sz) (qV h new i k (sz % 100000 / 1000) (sz % 1000 / 100) (sz % 100)) <|
 match h i with
 | some (.box cs)=>match cs[k]? with
  | some (.own _)=>some []
  | some (.t (.aL b))=>cond (h new).isNone (some [(new, .sl false sz b []),(i, .box (cs.set k (.own new)))]) none
  | some (.t (.ae _ true []))=>cond (h new).isNone (some [(new, .sl false sz true []),(i, .box (cs.set k (.own new)))]) none
  | some (.part j d 0 n)=>match h j with
   | some (.sl false a b xs)=>if a=sz/\d=sz/\j≠i then cond (h new).isNone (some [(j, .dead),(new, .sl false sz b (xs.take n)),(i, .box (cs.set k (.own new)))]) none else none
   | _=>none
  | _=>none
 | _=>none
def jt(a:Nat):Nat->(Id->Option ab)->List (Id×Nat×Nat)->Option aE
 | _,_,[]=>some []
 | j,h,(i,k,sz)::r=>(nX h (.s a j) i k sz).bind λus=>(jt a (j+1) (aG h us) r).bind λvs=>some (us++vs)
def oT:List Id->List Id->List Id
 | [],_=> []
 | i::r,seen=>cond (seen.contains i) (oT r seen) (i::oT r (i::seen))
def mV(i:Id):Nat->List bG->List (Id×Nat×Nat)
 | _,[]=> []
 | k, .own sz::r=>(i,k,sz)::mV i (k+1) r
 | k, .rows sz ax rsz::r=>(i,k,O7 sz ax rsz)::mV i (k+1) r
 | k,_::r=>mV i (k+1) r
def mW:List Id->List jd->List (Id×Nat×Nat)
 | i::a, .box l::r=>mV i 0 l++mW a r
 | _::a,_::r=>mW a r
 | _,_=> []
def ji(l:List Id):aE:=l.map λi=>(i, .dead)
def wQ(d:Nat)(l:List Id):Bool:=l.all λi=>match i with
 | .s a _=> !(a==d)
 | .c _=>true
 | .g _ _=>false
def fR{R:Type}(P:Program)(A:bZ)(O:az)(s:St)(d:Nat)(c:Option Bool)(f:FuncId)(args:List AV)(K:AV->aE->Option R):Option R:=
 match P.funcs[f]? with
 | none=>none
 | some fn=>
  match A.gQ f with
  | none=>(kG ((cF P A f 0 fn).all qq) (A.deep f) s.h args).bind λp=>
   iG P c fn.params.toList p.1 λq=>aa none (eD c (O (.call f) q [])) λxs=>dq [] d c 0 (cF P A f 0 fn) xs λvs u _=>K (kY vs) (p.2++u)
  | some fl=>match c with
   | some _=>none
   | none=>(lG s.h (yT fl args) fl args).bind λp=>
    (jt (2000000+d) 0 (aG s.h p.2) (mW (oT (bI p.1) []) (gw A f (gD ((bI p.1).head?.bind (aG s.h p.2)))))).bind λus=>
    (ew (aG (aG s.h p.2) us) 1000 (bI p.1) []).bind λseen=>
    cond (wQ d seen && Nat.beq (gD (seen.map λi=>gx seen (aG (aG s.h p.2) us i)).head?) (gD ((bI p.1).head?.bind (aG s.h p.2)))) (iG P none fn.params.toList (jx seen p.1) λq=>
     aa none (O (.call f) q (seen.map λi=>gx seen (aG (aG s.h p.2) us i))) λxs=>
     dq seen d none 0 (cF P A f (gD ((bI p.1).head?.bind (aG s.h p.2))) fn) xs λvs u j=>
     fq seen d j seen (gw A f (gD ((bI p.1).head?.bind (aG s.h p.2)))) (xs.drop (l6 (cF P A f (gD ((bI p.1).head?.bind (aG s.h p.2))) fn))) λq=>
     K (kY vs) (p.2++us++ji seen++u++q)) none
def mX:List AV->Option (List AV×Id×Nat×List AV)
 | []=>none
 | .row i n::r=>some ([],i,n,r)
 | v::r=>(mX r).bind λq=>some (v::q.1,q.2.1,q.2.2.1,q.2.2.2)
def kR(n:Nat):List Row->Option Unit
 | []=>none
 | e::r=>if e.n=n then(match e.own with | none=>some () | some _=>none) else kR n r
def rT{R:Type}(h:Id->Option ab)(i new:Id)(n rsz:Nat)(K:aE->Option R):Option R:=
 match h i,h new with
 | some (.rows b sz ax d nx es),some (.sl false a e xs)=>if d=rsz/\a=rsz then
   aa none (kR n es) λ_=>K [(i, .rows b sz ax rsz nx (cN n (some (e,xs)) es)),(new, .dead)] else none
 | _,_=>none
def Gc:Operand->Bool
 | .func _=>false
 | _=>true
def iM{R:Type}(gE:Bool)(P:Program)(A:bZ)(O:az)(s:St)(d:Nat)(c:Option Bool)(f:FuncId)(args:List AV)(K:AV->aE->Option R):Option R:=
 match cond gE (mX args) none with
 | none=>fR P A O s d c f args K
 | some (e,i,n,g)=>match c,s.h i with
  | none,some (.rows b sz ax rsz nx es)=>aa none (bq n es) λp=>
    cond (s.h (.s (2500000+d) 0)).isNone
     (fR P A O {t:=s.t,h:=aG s.h [(i, .rows b sz ax rsz nx (cN n none es)),(.s (2500000+d) 0, .sl false rsz p.1 p.2)]} d none f (e++ .own (.s (2500000+d) 0)::g) λv us=>
      rT (aG s.h ([(i, .rows b sz ax rsz nx (cN n none es)),(.s (2500000+d) 0, .sl false rsz p.1 p.2)] ++us)) i (.s (2500000+d) 0) n rsz λa=>
       K v ([(i, .rows b sz ax rsz nx (cN n none es)),(.s (2500000+d) 0, .sl false rsz p.1 p.2)] ++us++a)) none
  | _,_=>none
theorem Kr{R:Type}(P:Program)(A:bZ)(O:az)(s:St)(d:Nat)(c:Option Bool)(f:FuncId)(args:List AV)(K:AV->aE->Option R):iM false P A O s d c f args K=fR P A O s d c f args K:=rfl
def vZ(c:Option Bool)(b:Bool):Option Bool:=some (match c with
 | none=>b
 | some a=>a && b)
def nK{R:Type}(c:Option Bool)(v:AV)(K:Int->Option R):Option R:=
 v.t?.bind λx=>aa c (il.anyInt x) K
def iK{R:Type}(P:Program)(A:bZ)(O:az)(g:Option Gs)(o:Oper)(s:St)(K:AV->aE->Option R):Option R:=
 let ev:=s.get g;let c:=g.map (·.c);let d:=o.dst.getD 0
 match o.op with
 | .move x | .assign x=>K (ev x) []
 | .pick k a b=>(ev k).t?.bind λI=>aa c I.bool? λkb=>
   (s.lT g k true a).t?.bind λx=>aa (vZ c kb) x.bool? λJ=>
   (s.lT g k false b).t?.bind λy=>aa (vZ c (!kb)) y.bool? λL=>K (AV.t (.bool (cond kb J L))) []
 | .alloc t=>match c with
  | some _=>none
  | none=>(jc P t).bind λl=>K (.ref (.s d 0) 0) [(.s d 0, .box (l.map .t))]
 | .box _ x=>match c with
  | some _=>none
  | none=>if(gm (ev x)).all oR then K (.ref (.s d 0) 0) [(.s d 0, .box (gm (ev x)))] else none
 | .build t B=>(uZ P t ev B.toList).bind λv=>K v []
 | .buildSlice t n B=>(mA P t).bind λe=>if A.mQ o.dst o.type=1 then
   (match c,B.toList,n with
   | none,[(0,x)],1=>if((gm (ev x)).length=P.cellsOf e/\(gm (ev x)).all oR=true)/\P.cellsOf e<=1000/\0 < P.cellsOf e/\(jc P e).isSome=true then K (.own (.s d 0)) [(.s d 0, .arr (gm (ev x)))] else none
   | _,_,_=>none)
   else if B.size=n/\n<=1000/\P.cellsOf e<=1000/\0 < P.cellsOf e/\(jc P e).isSome=true then
   if n=0/\A.app o.dst=true then K (.t (.aL false)) [] else
   (gW P s.h e ev 0 B.toList).bind λq=>
   match c with
   | some _=>K (.t (.ae (P.cellsOf e) false q.1)) q.2
   | none=>K (.own (.s d 0)) ((.s d 0, .sl false (P.cellsOf e) false q.1)::q.2)
   else none
 | .load t a=>jr P s c t (ev a) λv=>K v []
 | .store t a x=>match c with
  | some _=>none
  | none=>iE P s t (ev a) (ev x) λu=>K .top u
 | .nilCheck x=>match ev x with
  | .ref i k=>K (.ref i k) []
  | .el i sz k o=>K (.el i sz k o) []
  | .rel i sz n k o=>K (.rel i sz n k o) []
  | .t y=>aa c y.pf λcs=>K (.t (.ptr cs)) []
  | .fn f a b=>K (.fn f a b) []
  | _=>none
 | .binOp op t x y ty=>match op,nS P t y,nS P t x with
  | .eql,true,_=>(iV P s t (ev x)).bind λb=>K (.t (.bool b)) []
  | .neq,true,_=>(iV P s t (ev x)).bind λb=>K (.t (.bool (!b))) []
  | .eql,_,true=>(iV P s t (ev y)).bind λb=>K (.t (.bool b)) []
  | .neq,_,true=>(iV P s t (ev y)).bind λb=>K (.t (.bool (!b))) []
  | .eql,_,_=>oV P c t (ev x) (ev y) λb=>K (.t (.bool b)) []
  | .neq,_,_=>oV P c t (ev x) (ev y) λb=>K (.t (.bool (!b))) []
  | op,_,_=>(ev x).t?.bind λa=>(ev y).t?.bind λb=>pX P op t ty c a b λz=>K (.t z) []
 | .unOp op t x=>(ev x).t?.bind λa=>rp P op t c a λz=>K (.t z) []
 | .convert src C x=>match P.underlying src,P.underlying C with
  | some (.slice e),some .string=>match qF P e with
   | some .u8=>(cO s.h (ev x)).bind λy=>aa c ((y.aM 1).bind λp=>bytesOf p.2) λl=>K (.t (.str ⟨l.toArray⟩)) []
   | _=>none
  | _,_=>(ev x).t?.bind λa=>p5 P c src C a λz=>K (.t z) []
 | .makeFunc (.func f) H D=>K (.fn f (H.toList.map ev) (D.toList.map ev)) []
 | .makeSlice t l m=>match c with
  | some _=>none
  | none=>(ev l).t?.bind λn=>(ev m).t?.bind λk=>qH P d t (A.mQ o.dst o.type) n k K
 | .makeMap t m=>match c,m with
  | none,none=>qI P d t K
  | _,_=>none
 | .lookup t x k ok=>mM P s c t (ev x) (ev k) ok λv=>K v []
 | .mapUpdate t x k v=>match c with
  | some _=>none
  | none=>mS P s t (ev x) (ev k) (ev v) λu=>K .top u
 | .slice t x E hi F=>
  il s c g E λE=>il s c g hi λhi=>il s c g F λF=>m5 P s c t (ev x) E hi F λv=>K v []
 | .fieldAddr t x f=>qo P c t (ev x) f λv=>K v []
 | .field t x f=>qn P t (ev x) f λv=>K v []
 | .indexAddr t x i=>nK c (ev i) λn=>iU P s c t (ev x) n λv=>K v []
 | .index t x i=>nK c (ev i) λn=>match P.underlying t with
  | some .string=>(ev x).t?.bind λy=>aa c y.bf λb=>jo c n b.size
    (aa c b.data.toList[n.toNat]? λu=>K (.t (.int .u8 u.toNat)) [])
  | some (.array m e)=>match ev x with
   | .agg vs=>cond (bB P e) ((dZ vs).bind λl=>jo c n m (jX P e c (l.drop (n.toNat * P.cellsOf e)) λz=>K z [])) none
   | _=>none
  | _=>none
 | .extract x k=>match ev x with
  | .lk vs=>(vs[k]?).bind λv=>K v []
  | _=>none
 | .call j=>match j.callee with
  | .builtin .len=>match j.args.toList,j.argTypes.toList with
   | [x],t::_=>mK P s c t (ev x) λv=>K v []
   | _,_=>none
  | .builtin .append=>match c,j.args.toList,j.argTypes.toList with
   | none,[x,y],[t,u]=>jJ P s d (A.mQ o.dst o.type==3) t u (ev x) (ev y) K
   | _,_,_=>none
  | .builtin .max=>match qF P o.type with
   | some k=>(dZ (j.args.toList.map ev)).bind λl=>match l with
    | x::r=>aa c (x.int? k) λa=>nP k c true a r λz=>K (.t z) []
    | []=>none
   | none=>none
  | .builtin .min=>match qF P o.type with
   | some k=>(dZ (j.args.toList.map ev)).bind λl=>match l with
    | x::r=>aa c (x.int? k) λa=>nP k c false a r λz=>K (.t z) []
    | []=>none
   | none=>none
  | .builtin .delete=>match c,j.args.toList,j.argTypes.toList with
   | none,[x,y],t::_=>my P s t (ev x) (ev y) λu=>K (.lk []) u
   | _,_,_=>none
  | .builtin .cap=>match j.args.toList,j.argTypes.toList with
   | [x],t::_=>match P.underlying t with
    | some (.slice _)=>match ev x with
     | .t y=>cond (wz y) (K (.t (.int .i64 0)) []) none
     | _=>none
    | _=>none
   | _,_=>none
  | .value G=>match ev G with
   | .fn f a b=>iM (Gc G) P A O s d c f (a++j.args.toList.map ev++b) K
   | _=>none
  | _=>none
 | _=>none
open Go
section
variable (P:Program) (A:bZ) (O:az)
def ve(b want:Bool):Bool:=cond want b (!b)
def gC(g:Option Gs)(b want:Bool):Bool:=
 match g with
 | none=>ve b want
 | some a=>cond a.c (ve b want) false
def cK{R:Type}(a:Array Oper)(o:Oper)(s:St)(K:Option Gs->Option R):Option R:=
 match o.guard with
 | none=>K none
 | some (j,want)=>match(a[j]?).bind (·.dst) with
  | none=>none
  | some d=>(s.t d).2.t?.bind λx=>aa ((s.t d).1.map (·.c)) x.bool? λb=>
    K (some {d:=d,want:=want,c:=gC (s.t d).1 b want})
def Nd:Builtin->Bool
 | .delete=>true
 | _=>false
def fC(o:Oper):Bool:=
 match o.op with
 | .store .. =>true
 | .mapUpdate .. =>true
 | .call a=>match a.callee with
  | .builtin .append=>match a.args.toList with
   | .const (.slice none 0 0)::_=>false
   | _=> !A.app o.dst
  | .builtin b=>Nd b
  | .value (.func f)=>match A.gQ f with
   | some _=>true
   | none=>match P.funcs[f]? with
    | some _=>A.wr f
    | none=>true
  | _=>true
 | _=>false
def MJ(o:Oper):Bool:=
 match o.op with
 | .call a=>match a.callee with
  | .value (.func f)=>match P.funcs[f]? with
   | some fn=>(cF P A f 0 fn).all qq
   | none=>false
  | _=>false
 | _=>false
def fB(o:Oper):Bool:=
 match o.op with
 | .move _ | .assign _ | .pick .. | .build .. | .unOp .. | .makeFunc .. | .fieldAddr .. | .field .. | .extract .. | .nilCheck _=>true
 | .binOp _ t x y _=> !(nS P t x || nS P t y)
 | .call a=>match a.callee with
  | .builtin .max | .builtin .min=>true
  | _=>false
 | _=>false
def ef(o:Oper):Bool:=
 match o.op with
 | .call a=>match a.callee with
  | .value (.func f)=>A.deep f
  | .value _=>true
  | .builtin .append=>A.mQ o.dst o.type==3
  | _=>false
 | _=>false
def qQ(o:Oper):Bool:=fB P o ||
 match o.op with
 | .load .. | .index .. | .indexAddr .. | .slice .. | .binOp .. | .convert .. | .lookup .. =>true
 | .call a=>match a.callee with
  | .builtin .len=>true
  | .value (.func _)=> !fC P A o && MJ P A o
  | _=>false
 | _=>false
def iv(o:Oper):Bool:=
 match o.op with
 | .alloc _ | .box .. | .makeSlice .. | .makeMap .. =>true
 | _=>false
def eG(o:Oper):Bool:=
 match o.op with
 | .call a=>match a.callee with
  | .value (.func f)=>(A.gQ f).isSome
  | .value _=>true
  | _=>false
 | _=>false
def p4(a b:Oper):Bool:= !((fC P A a && !(fB P b || iv b)) || (fC P A b && !(fB P a || iv a))) && (!ef A a || qQ P A b) && (!ef A b || qQ P A a)
def fS:List Oper->List Nat
 | []=> []
 | o::r=>match o.dst with
  | some d=>d::fS r
  | none=>fS r
def qU(d:Array Oper)(a:Nat):Nat:=match d.find? (λo=>o.dst==some a) with
 | some o=>match o.op with
  | .fieldAddr _ (.tmp b) _=>b
  | _=>a
 | none=>a
def fK(b:Array Oper)(o:Oper):Option Nat:=match o.guard,o.op with
 | none, .store _ (.tmp a) _=>some (qU b a)
 | none, .load _ (.tmp a)=>some (qU b a)
 | _,_=>none
def kv(d:Array Oper)(a b:Oper):Bool:=A.st ((d[0]?).bind (·.dst)) && (match fK d a,fK d b with
 | some k,some e=> !(k==e) && !(fS d.toList).contains k && !(fS d.toList).contains e
 | _,_=>false)
def CX(o:Oper):Bool:=o.guard.isNone && fC P A o && match o.op with
 | .call a=>match a.callee with
  | .builtin .append=> !(A.mQ o.dst o.type==3)
  | .value (.func f)=>(A.gQ f).isNone && !A.deep f
  | _=>false
 | _=>false
def jy(b:Array Oper)(o:Oper):Option (Option Nat):=match o.guard,o.op with
 | none, .load _ (.tmp a)=>some (some (qU b a))
 | none, .buildSlice .. =>some none
 | _,_=>none
def jq(d:Array Oper)(a b:Oper):Bool:=A.ld ((d[0]?).bind (·.dst)) && CX P A a && (match jy d b with
 | some (some k)=> !(fS d.toList).contains k
 | some none=>true
 | none=>false)
def iW(o:Oper)(k:Bool):Bool:=match o.guard,o.op with
 | none, .store t (.tmp _) _=>(match P.underlying t with
  | some (.slice _)=>k
  | some (.int _)=> !k
  | _=>false)
 | _,_=>false
def la(d:Array Oper)(a b:Oper):Bool:=A.sx ((d[0]?).bind (·.dst)) && iW P a true && iW P b false
def ka:aE->Bool
 | [(_, .dead),(_, .rows _ _ _ rsz _ _)]=> !(rsz==1)
 | _=>false
def kb:aE->Bool
 | [(_, .sl false sz _ _)]=>sz==1
 | _=>false
def yO(o:Oper)(s:St):Bool:=match o.op with
 | .store _ _ y=>(s.get none y).ids.isEmpty
 | _=>false
def wv(o:Oper):Bool:=match o.guard,o.op with
 | none, .indexAddr t (.tmp _) _=>(match mA P t with
  | some e=>P.cellsOf e==1
  | none=>false)
 | none, .load _ (.tmp _)=>true
 | _,_=>false
def sR(o:Oper)(s:St):Bool:=match o.op with
 | .load _ x=>(match s.get none x with
  | .ref _ _=>true
  | _=>false)
 | .indexAddr _ x _=>(match s.get none x with
  | .own _=>true
  | _=>false)
 | _=>false
def kx(d:Array Oper)(a b:Oper):Bool:=A.sx ((d[0]?).bind (·.dst)) && (iW P a true || iW P a false) && wv P b
def re(d:Array Oper)(a b:Oper):Bool:=kv A d a b || jq P A d a b || jq P A d b a || (la P A d a b || la P A d b a) || (kx P A d a b || kx P A d b a)
def gB(a:Array Oper):Nat->Nat->Nat->Bool
 | 0,_,_=>false
 | n+1,j,i=>match a[j]? with
  | none=>false
  | some b=>b.after.any λe=>Region.binds .any e && (e.on==i || (Nat.blt i e.on && gB a n e.on i))
def zW(a:Array Oper)(b:Array Bool)(i:Nat):Bool:=
 match a[i]? with
 | none=>false
 | some d=>(List.range a.size).all λj=>match a[j]? with
  | none=>true
  | some e=>j==i || b.getD j true || p4 P A d e || re P A a d e || gB a 12 j i
def wC(b:Array Oper):Nat->Nat->Array Bool->Bool
 | 0,_,_=>true
 | n+1,k,a=>zW P A b a k && wC b n (k+1) (a.setIfInBounds k true)
def MQ(h:Id->Option ab)(us:aE):Bool:=us.all λp=>(h p.1).isNone
def iu(d:Nat)(h:Id->Option ab)(us:aE):Bool:=us.all λp=>match p.1 with
 | .s a _=> !(a==d) || (h p.1).isNone
 | .c _=>true
 | .g _ _=>false
def dm(a:Array Oper)(d:Option Nat):Bool:=
 a.any λo=>match o.guard with
  | none=>false
  | some (j,_)=>match(a[j]?).bind (·.dst),d with
   | some e,some d=>e==d
   | _,_=>false
def pY(a:Array Oper)(o:Oper)(d:Nat):Bool:=
 (List.range a.size).all λi=>match a[i]? with
  | some b=> !(b.dst==some d) || o.after.any (λe=>Region.binds .any e && (e.on==i || gB a 12 e.on i))
  | none=>true
def nR(a:Array Oper)(g:Option Gs)(o:Oper)(s:St):Bool:=
 o.op.operands.toList.all λx=>(s.get g x).ids.all λi=>match i with
  | .s d _=>pY a o d
  | .c _=>true
  | .g _ _=>false
def jY(o:Oper)(us:aE):Bool:=us.all λp=>match p.1 with
 | .s d _=>o.dst==some d
 | .c _=>false
 | .g _ _=>false
def rr(a:Array Oper)(o:Oper)(us:aE):Bool:=us.all λp=>match p.1 with
 | .s d _=>pY a o d || o.dst==some d
 | .c _=>true
 | .g _ _=>false
def BM(a:Array Oper)(o d:Oper)(s:St)(us:aE):Bool:=match fK a o,fK a d with
 | some k,some b=>(o.op.operands.toList.all λx=>(s.get none x).ids.all λi=>decide (i∈(s.t k).2.ids)) && us.all (λp=>decide (p.1∈(s.t k).2.ids)) && us.all (λp=>decide (p.1∉(s.t b).2.ids))
 | _,_=>false
def wA(a:Array Oper)(b:Oper)(s:St)(us:aE):Bool:=match jy a b with
 | some (some k)=>us.all λp=>decide (p.1∉(s.t k).2.ids)
 | _=>true
def sD(a:Array Oper)(o:Oper)(s:St):Bool:=match jy a o with
 | some (some k)=>o.op.operands.toList.all λx=>(s.get none x).ids.all λi=>decide (i∈(s.t k).2.ids)
 | some none=>o.op.operands.toList.all λx=>(s.get none x).ids.isEmpty
 | none=>true
def jA(a:Array Oper)(o:Oper)(s:St)(us:aE):Bool:=a.all λb=>(!(kv A a o b) || BM a o b s us) && (!(jq P A a o b) || wA a b s us) && (!(jq P A a b o) || sD a o s) && ((!(la P A a o b) || ka us) && (!(la P A a b o) || (kb us && yO o s))) && ((!(kx P A a o b) || ka us || kb us) && (!(kx P A a b o) || sR o s))
def nV(b:Bool)(nt:Nat)(a:Array Oper)(o:Oper)(g:Option Gs)(s:St)(us:aE):Bool:=
 (match o.dst with | some d=>decide (d < nt) | none=>true) &&
 (match g with | some g=>us.isEmpty && !(o.dst==some g.d) | none=>true) &&
 iu (o.dst.getD 0) s.h us && (!b || (nR a g o s && (fC P A o || jY o us) && (!fB P o || us.isEmpty) && (!qQ P A o || us.isEmpty) && (!fC P A o || rr a o us) && Nat.ble nt 1000000 && jA P A a o s us))
def pv(a:Bool)(o:Oper)(g:Option Gs):Option Gs:=
 match g with
 | some g=>cond (!a && eG A o) (some g) none
 | none=>none
def vB(nt:Nat)(o:Oper)(g:Gs):Bool:=(match o.dst with | some d=>decide (d < nt) | none=>true) && !(o.dst==some g.d)
def Om(o:Oper):AV:=
 match o.op with
 | .call a=>match a.callee with
  | .value (.func f)=>match P.funcs[f]? with
   | some fn=>match cF P A f 0 fn with
    | [.f .b]=> .t (.bool false)
    | [.f (.i k)]=> .t (.int k 0)
    | _=> .top
   | none=> .top
  | _=>match P.underlying o.type with
   | some .bool=> .t (.bool false)
   | some (.int k)=> .t (.int k 0)
   | _=> .top
 | _=> .top
def nW{R:Type}(b:Bool)(nt:Nat)(a:Array Oper)(o:Oper)(s:St)(K:St->Option R):Option R:=
 cK a o s λg=>match pv A b o g with
 | some d=>cond (vB nt o d) (cond d.c
   (iK P A O none o (s.qO d) λv us=>
    if nV P A b nt a o none s us then K (s.put (dm a o.dst) o.dst (some d) v us) else none)
   (K (s.put (dm a o.dst) o.dst (some d) (Om P A o) []))) none
 | none=>iK P A O g o s λv us=>
  if nV P A b nt a o g s us then K (s.put (dm a o.dst) o.dst g v us) else none
def td{R:Type}(a:Bool)(nt:Nat)(b:Array Oper):List Oper->St->(St->Option R)->Option R
 | [],s,K=>K s
 | o::r,s,K=>nW P A O a nt b o s λs'=>td a nt b r s' K
def St.clear(s:St):St:=
 {t :=λk=>match s.t k with
    | (none,v)=>(none,v)
    | (some _,_)=>(none, .top)
  h:=s.h}
def sL:List Nat->Bool
 | []=>true
 | d::r=> !r.contains d && sL r
def qE(a:Array Oper):Bool:=a.all λo=>match o.guard with
 | none=>true
 | some (j,_)=>o.after.any λe=>Region.binds .any e && e.on==j
def Ba(b:Bool)(a:Array Oper):Bool:=
 !b || (Region.lexB .any a && wC P A a a.size 0 (Array.replicate a.size false) && sL (fS a.toList) && qE a)
def region{R:Type}(nt:Nat)(a:Bool)(b:Array Oper)(s:St)(K:St->Option R):Option R:=
 cond (Ba P A a b)
  (td P A O a nt b b.toList s λs'=>K s'.clear) none
def mP(h:Id->Option ab):AV->AV
 | .own i=>match h i with
  | some (.sl true sz b xs)=> .t (.ae sz b xs)
  | _=> .own i
 | .part i sz off n=>match h i with
  | some (.sl true a b xs)=>if a=sz then .t (.ae sz b ((xs.drop off).take n)) else .part i sz off n
  | _=> .part i sz off n
 | .ref i off=>match h i with
  | some (.gX l)=> .t (.ptr (l.drop off))
  | _=> .ref i off
 | v=>v
def sE(s:St)(k:Nat×Option Nat):Option (AV×aE):=
 match s.t k.1 with
 | (some _,_)=>none
 | (none,v)=>match k.2 with
  | none=>some (mP s.h v,[])
  | some sz=>if sz=0\/sz>=999999 then some (mP s.h v,[]) else match v with
   | .own i=>match s.h i with
    | some (.sl false _ _ _)=>some (.own i,[])
    | _=>none
   | .t (.aL b)=>some (.own (.s (1000000+k.1) 0),[(.s (1000000+k.1) 0, .sl false sz b [])])
   | _=>none
def nM(s:St):List (Nat×Option Nat)->Option (List AV×aE)
 | []=>some ([],[])
 | k::r=>(sE s k).bind λp=>(nM s r).bind λq=>some (p.1::q.1,p.2++q.2)
def xM(f:FuncId)(todo:List Item)(live:List (Nat×Option Nat))(m:Nat×Nat)(s:St):Option (List T):=
 (nM s live).bind λp=>
  if MQ s.h p.2 then
  let h:=aG s.h p.2
  (ew h 1000 ((List.range m.1).map Id.c++bI p.1) []).bind λseen=>
   O (.node f todo live m) (jx seen p.1) (seen.map λi=>gx seen (h i))
  else none
def zY(h:Id->Option ab):AV->aE
 | .ref i _=>match h i with
  | some (.box cs)=>lS h cs
  | _=> []
 | _=> []
def mG(s:St):List (Nat×Option Nat)->aE
 | []=> []
 | (k,some 0)::r=>gu s.h (s.t k).2++mG s r
 | (k,some (n+1))::r=>cond (Nat.beq n 999998) (zY s.h (s.t k).2) [] ++mG s r
 | (_,none)::r=>mG s r
def xd(s:St):List (Nat×Option Nat)->List (Id×Nat×Nat)
 | []=> []
 | (k,some n)::r=>match cond (Nat.ble 1000000 n) (s.t k).2 .top with
  | .ref i _=>(i,n / 1000000 - 1,n % 1000000)::xd s r
  | _=>xd s r
 | _::r=>xd s r
def AN(h:Id->Option ab):AV->(Id->Option ab)
 | .ref i _=>match h i with
  | some (.box cs)=>aG h [(i, .box (cs.map (mP h)))]
  | _=>h
 | _=>h
def qN(t:Nat->Option Gs×AV):(Id->Option ab)->List (Nat×Option Nat)->(Id->Option ab)
 | h,[]=>h
 | h,(k,some n)::r=>qN t (cond (Nat.beq n 999999) (AN h (t k).2) h) r
 | h,(_,none)::r=>qN t h r
def lj(f:FuncId)(todo:List Item)(live:List (Nat×Option Nat))(m:Nat×Nat)(s:St):Option (List T):=
 (jt 1900000 0 (aG s.h (mG s live)) (xd s live)).bind λus=>
  xM O f todo live m {t:=s.t,h:=qN s.t (aG (aG s.h (mG s live)) us) live}
def mF(live:List (Nat×Option Nat))(aU:List AV)(blks:List ab):St:=
 {t:=λk=>(none,look live aU k)
  h:=fun
   | .c j=>blks[j]?
   | _=>none}
where
 look:List (Nat×Option Nat)->List AV->Nat->AV
 | (k,_)::ks,v::vs,j=>if j=k then v else look ks vs j
 | _,_,_=> .top
def oc:Code->Nat
 | .region id _ _=>id
 | .seq a _=>oc a
 | .block _ b=>oc b
 | .cond _ a _=>oc a
 | _=>1000000
def Hu(h:Id->Option ab)(sz:Nat):AV->Option (T×Id)
 | .own i=>match h i with
  | some (.sl false a b xs)=>if a=sz then some (.ae sz b xs,i) else none
  | _=>none
 | _=>none
def iS{R:Type}(m:Nat)(h:Id->Option ab)(r:bG)(v:AV)(K:T->List Id->List Id->Option R):Option R:=
 match r with
 | .f _=>v.t?.bind λx=>aa none x.oX λ_=>K x [] []
 | .t _=>(cO h v).bind λx=>K x [] ((gu h v).map (·.1))
 | .own sz=>match v with
  | .own i=>(Hu h sz (.own i)).bind λp=>K p.1 [p.2] []
  | .part i a 0 n=>match h i with
   | some (.sl false j b xs)=>if j=sz/\a=sz then K (.ae sz b (xs.take n)) [i] [] else none
   | _=>none
  | .t (.aL b)=>K (.aL b) [] []
  | .t (.ae _ true [])=>K (.aL true) [] []
  | _=>none
 | .ref k off=>match v with
  | .ref (.c e) off'=>if e=k/\off'=off/\k < m then K .aS [] [] else none
  | _=>none
 | .same k=>match v with
  | .own (.c e)=>if e=k/\k < m then K .aS [] [] else none
  | _=>none
 | .rows sz ax rsz=>match v with
  | .own i=>match h i with
   | some (.rows b a d g _ es)=>if a=sz/\d=ax/\g=rsz then
     aa none (if dh es=true then some () else none) λ_=>K (dH b es) [i] [] else none
   | _=>none
  | _=>none
 | .mp ag ks vk=>match v with
  | .own i=>match h i with
   | some (.mp l o q es)=>if l=ag/\o=ks/\q=vk then K (ee es) [i] [] else none
   | _=>none
  | _=>none
 | .no=>match v with
  | .ref _ _=>K .aS [] []
  | _=>none
 | .agg _=>none
 | .new _=>none
def mC{R:Type}(m:Nat)(h:Id->Option ab):List bG->List AV->(List T->List Id->List Id->Option R)->Option R
 | [],[],K=>K [] [] []
 | r::f,v::vs,K=>iS m h r v λx a b=>mC m h f vs λxs d e=>K (x::xs) (a++d) (b++e)
 | _,_,_=>none
def cd{R:Type}(m:Nat)(h:Id->Option ab):List bG->List AV->(List T->List Id->List Id->Option R)->Option R
 | [],[],K=>K [] [] []
 | r::f,v::vs,K=>match r with
  | .agg l=>match v with
   | .agg cs=>mC m h l cs λxs a b=>cd m h f vs λg d e=>K (xs++g) (a++d) (b++e)
   | _=>none
  | .new l=>match v with
   | .ref i 0=>match h i with
    | some (.box cs)=>mC m h l cs λxs a b=>cd m h f vs λg d e=>K (xs++g) (i:: (a++d)) (b++e)
    | _=>none
   | _=>none
  | r=>iS m h r v λx a b=>cd m h f vs λxs d e=>K (x::xs) (a++d) (b++e)
 | _,_,_=>none
def kN{R:Type}(m:Nat)(h:Id->Option ab):Nat->List jd->(List T->List Id->List Id->Option R)->Option R
 | _,[],K=>K [] [] []
 | j, .box l::r,K=>match h (.c j) with
  | some (.box cs)=>mC m h l cs λxs a b=>kN m h (j+1) r λf d e=>K (xs++f) (.c j:: (a++d)) (b++e)
  | _=>none
 | j, .sl sz::r,K=>match h (.c j) with
  | some (.sl false k b xs)=>if k=sz then kN m h (j+1) r λf d e=>K (.ae sz b xs::f) (.c j::d) e else none
  | _=>none
 | j, .mp ag ks vk::r,K=>match h (.c j) with
  | some (.mp g i n es)=>if g=ag/\i=ks/\n=vk then kN m h (j+1) r λf d e=>K (ee es::f) (.c j::d) e else none
  | _=>none
 | j, .dead::r,K=>kN m h (j+1) r K
def qT{R:Type}(s:St):List ResultVar->(List AV->Option R)->Option R
 | [],K=>K []
 | .tmp k::r,K=>match s.t k with
   | (none,v)=>qT s r λl=>K (v::l)
   | _=>none
 | .cell k t::r,K=>match s.t k with
   | (none,v)=>jr P s none t v λv=>qT s r λl=>K (v::l)
   | _=>none
def wP:List Id->Bool
 | []=>true
 | i::r=> !r.contains i && wP r
def vS(f:FuncId)(fn:Func)(m:Nat×Nat)(s:St):Option (List T):=
 qT P s fn.results.toList λvs=>
  if m.1= (gw A f m.2).length then
  cd m.1 s.h (cF P A f m.2 fn) vs λxs a b=>kN m.1 s.h 0 (gw A f m.2) λg d e=>
   if wP (a++d) && (b++e).all (λi=> !(a++d).contains i) then some (xs++g) else none
  else none
def te(ax rsz:Nat)(e:Row):List T:=e.cs.set ax (match e.own with
 | some p=> .ae rsz p.1 p.2
 | none=> .aS)
def sS:List AV->List Id
 | []=> []
 | .own i::r=>i::sS r
 | _::r=>sS r
def Be(h:Id->Option ab)(t:Nat->Option Gs×AV):List ResultVar->List Id
 | []=> []
 | .tmp k::r=>(match(t k).2 with
  | .agg vs=>sS vs
  | v=>sS [v])++Be h t r
 | .cell k _::r=>(match(t k).2 with
  | .ref i _=>match h i with
   | some (.box cs)=>sS cs
   | _=> []
  | _=> [])++Be h t r
def tq{R:Type}:(Id->Option ab)->List Id->(aE->Option R)->Option R
 | _,[],K=>K []
 | h,i::r,K=>match h i with
  | some (.rows b sz ax rsz _ es)=>aa none (if dh es=true then some () else none) λ_=>
    tq (aG h [(i, .sl true sz b (es.map (te ax rsz)))]) r λus=>K ((i, .sl true sz b (es.map (te ax rsz)))::us)
  | _=>tq h r K
def vR(f:FuncId)(fn:Func)(m:Nat×Nat)(s:St):Option (List T):=
 cond ((cF P A f m.2 fn).any F5) (vS P A f fn m s)
  (tq s.h (Be s.h s.t fn.results.toList) λus=>vS P A f fn m {t:=s.t,h:=aG s.h us})
def ev(f:FuncId)(fn:Func)(m:Nat×Nat):Nat->Bool->List Item->St->Option (List T)
 | 0,_,_,_=>none
 | n+1,d,todo,s=>match todo with
  | []=>vR P A f fn m s
  | .code c::k=>match c with
   | .skip=>ev f fn m n true k s
   | .seq a b=>ev f fn m n d (.code a:: .code b::k) s
   | .region id g e=>match cond d (A.join f id) none with
    | some live=>lj O f (.code (.region id g e)::k) live m s
    | none=>region P A O fn.ntmps e g s λs'=>ev f fn m n true k s'
   | .cond x a b=>(s.get none x).t?.bind λy=>aa none y.bool? λt=>cond t (ev f fn m n true (.code a::k) s) (ev f fn m n true (.code b::k) s)
   | .block id b=>ev f fn m n d (.code b:: .inBlock id::k) s
   | .loop b=>match A.live f (oc b) with
    | some live=>lj O f (.inLoop b::k) live m s
    | none=>none
   | .exit id=>match exitTo id k with
    | some i=>ev f fn m n true i s
    | none=>none
   | .ret=>vR P A f fn m s
   | _=>none
  | .inBlock _::k=>ev f fn m n true k s
  | .inLoop b::k=>match A.live f (oc b) with
    | some live=>lj O f (.inLoop b::k) live m s
    | none=>none
  | _::_=>none
def jm:Nat:=100000
def sr(aU:List AV)(a:List ab):St:=
 {t:=λk=>(none,aU.getD k .top)
  h:=fun
   | .c j=>a[j]?
   | _=>none}
def aD:az
 | .call f,aU,a=>match A.ext f aU a with
  | some r=>some r
  | none=>match P.funcs[f]? with
  | some fn=>match fn.body with
   | some c=>if aU.length<=fn.ntmps then ev P A O f fn (a.length,gD a.head?) jm true [.code c] (sr aU a) else none
   | none=>none
  | none=>none
 | .node f todo live m,aU,a=>match P.funcs[f]? with
  | some fn=>match todo with
   | .inLoop b::k=>ev P A O f fn m jm true (.code b:: .inLoop b::k) (mF live aU a)
   | todo=>ev P A O f fn m jm false todo (mF live aU a)
  | none=>none
end
def oW(d:Bool)(r:Nat):Code->List Item->Option (List Item)
 | .seq a b,k=>match oW d r a (.code b::k) with
  | some t=>some t
  | none=>oW d r b k
 | .block id b,k=>oW d r b (.inBlock id::k)
 | .loop b,k=>if d && oc b==r then some (.inLoop b::k) else oW d r b (.inLoop b::k)
 | .cond _ a b,k=>match oW d r a k with
  | some t=>some t
  | none=>oW d r b k
 | .region id f e,k=>if !d && id==r then some (.code (.region id f e)::k) else none
 | _,_=>none
def aW(P:Program)(f:FuncId)(a:Bool)(r:Nat)(live:List (Nat×Option Nat))(m:Nat×Nat):Key:=
 .node f (match P.funcs[f]? with
  | some fn=>match fn.body with
   | some c=>(oW a r c []).getD []
   | none=> []
  | none=> []) live m
def iw(P:Program)(A:bZ):Nat->az
 | 0=>λ_ _ _=>none
 | n+1=>aD P A (iw P A n)
open Classical in
noncomputable def lX(P:Program)(A:bZ):az:=λk vs bs=>
 if h:∃n r,iw P A n k vs bs=some r then some (Classical.choose (Ur h)) else none
open Go
section
variable (w:World) (A:Nat->Prop)
mutual
def au:T->Value->Prop
 | .int k n,v=>v= .int k n
 | .bool b,v=>v= .bool b
 | .str s,v=>v= .string s
 | .ae sz b xs,v=>(b=true/\xs= []/\v= .slice none 0 0)\/
   (b=false/\∃af off a cap,v= .slice (some ⟨af,off,a⟩) xs.length cap/\xs.length<=cap/\(xs= []\/(a=none/\A af))/\aR af sz off xs)
 | .aL b,v=>(b=true/\v= .slice none 0 0)\/(b=false/\∃af off a,v= .slice (some ⟨af,off,a⟩) 0 0)
 | .ptr cs,v=>∃af off,v= .pointer (some ⟨af,off,none⟩)/\(cs= []\/A af)/\aP af off cs
 | .aS,v=>v= .pointer none
 | .wO,v=>v= .map none
 | .wN,v=>v= .nilFunc
 | .AL,v=>v= .nilIface
 | .any,v=>v.oneCell'=true/\v.cells= #[v]
def aR(af sz:Nat):Nat->List (List T)->Prop
 | _,[]=>True
 | off,cs::xs=>cs.length=sz/\aP af off cs/\aR af sz (off+sz) xs
def aP(af:Nat):Nat->List T->Prop
 | _,[]=>True
 | off,c::cs=>(∃v,w.cell? ⟨af,off,none⟩=some v/\au c v)/\aP af (off+1) cs
end
def aO:List T->List Value->Prop
 | [],vs=>vs= []
 | c::cs,vs=>∃v r,vs=v::r/\au w A c v/\aO cs r
end
section
variable {w w':World} {A A':Nat->Prop}
theorem mo{a:Addr}(h:w'.heap[a.block]? =w.heap[a.block]?):w'.cell? a=w.cell? a:=by simp [World.cell?,h]
mutual
theorem au.mono(h:∀b,A b->A' b/\w'.heap[b]? =w.heap[b]?):∀(t:T) (v:Value),au w A t v->au w' A' t v
 | .int k n,v,hv=>by simpa [au] using hv
 | .bool b,v,hv=>by simpa [au] using hv
 | .str s,v,hv=>by simpa [au] using hv
 | .aL b,v,hv=>by simpa [au] using hv
 | .aS,v,hv=>by simpa [au] using hv
 | .wO,v,hv=>by simpa [au] using hv
 | .wN,v,hv=>by simpa [au] using hv
 | .AL,v,hv=>by simpa [au] using hv
 | .any,v,hv=>by simp only [au] at hv⊢;exact hv
 | .ae sz b xs,v,hv=>by
  simp only [au] at hv⊢;rcases hv with hv | ⟨hb,af,off,f,cap,h1,d,a,e⟩
  .exact .inl hv
  .refine .inr ⟨hb,af,off,f,cap,h1,d, ?_, ?_⟩
   .rcases a with a | a
    .exact .inl a
    .exact .inr ⟨a.1,(h _ a.2).1⟩
   .rcases a with a | a
    .subst a;simp [aR]
    .exact aR.mono h af sz a.2 off xs e
 | .ptr cs,v,hv=>by
  simp only [au] at hv⊢;obtain⟨af,off,h1,d,a⟩:=hv;refine⟨af,off,h1, ?_, ?_⟩
  .rcases d with d | d
   .exact .inl d
   .exact .inr (h _ d).1
  .rcases d with d | d
   .subst d;simp [aP]
   .exact aP.mono h af d off cs a
theorem aR.mono(h:∀b,A b->A' b/\w'.heap[b]? =w.heap[b]?)(af sz:Nat)(hb:A af):∀(off:Nat) (xs:List (List T)),aR w A af sz off xs->aR w' A' af sz off xs
 | _,[],_=>by simp [aR]
 | off,cs::xs,hv=>by simp only [aR] at hv⊢;exact⟨hv.1,aP.mono h af hb off cs hv.2.1,aR.mono h af sz hb (off+sz) xs hv.2.2⟩
theorem aP.mono(h:∀b,A b->A' b/\w'.heap[b]? =w.heap[b]?)(af:Nat)(hb:A af):∀(off:Nat) (cs:List T),aP w A af off cs->aP w' A' af off cs
 | _,[],_=>by simp [aP]
 | off,c::cs,hv=>by simp only [aP] at hv⊢;obtain⟨⟨v,d,hr⟩,a⟩:=hv;exact⟨⟨v,by rw [mo (w:=w) (by exact(h af hb).2)];exact d,au.mono h c v hr⟩,aP.mono h af hb (off+1) cs a⟩
end
theorem aP.mO(h:∀b,A b->A' b/\w'.heap[b]? =w.heap[b]?)(af:Nat)(hb:w'.heap[af]? =w.heap[af]?):∀(off:Nat) (cs:List T),aP w A af off cs->aP w' A' af off cs
 | _,[],_=>by simp [aP]
 | off,c::cs,hv=>by simp only [aP] at hv⊢;obtain⟨⟨v,d,hr⟩,a⟩:=hv;exact⟨⟨v,by rw [mo (w:=w) (by exact hb)];exact d,au.mono h c v hr⟩,aP.mO h af hb (off+1) cs a⟩
theorem aR.mO(h:∀b,A b->A' b/\w'.heap[b]? =w.heap[b]?)(af sz:Nat)(hb:w'.heap[af]? =w.heap[af]?):∀(off:Nat) (xs:List (List T)),aR w A af sz off xs->aR w' A' af sz off xs
 | _,[],_=>by simp [aR]
 | off,cs::xs,hv=>by simp only [aR] at hv⊢;exact⟨hv.1,aP.mO h af hb off cs hv.2.1,aR.mO h af sz hb (off+sz) xs hv.2.2⟩
theorem aO.mono(h:∀b,A b->A' b/\w'.heap[b]? =w.heap[b]?):∀(cs:List T) (vs:List Value),aO w A cs vs->aO w' A' cs vs
 | [],_,hv=>hv
 | c::cs,vs,⟨v,r,e,h1,a⟩=>⟨v,r,e,au.mono h c v h1,aO.mono h cs r a⟩
theorem aR.get{af sz:Nat}:∀{off:Nat} {xs:List (List T)},aR w A af sz off xs->∀{k:Nat} {cs:List T},xs[k]? =some cs->cs.length=sz/\aP w A af (off+k * sz) cs
 | off,cs::xs,h,0,a,e=>by simp only [aR] at h;simp at e;subst e;exact⟨h.1,by simpa using h.2.1⟩
 | off,cs::xs,h,k+1,a,e=>by
  simp only [aR] at h;have:=aR.get h.2.2 (k:=k) (cs:=a) (by simpa using e);refine⟨this.1, ?_⟩;have b:off+ (k+1) * sz=off+sz+k * sz:=by rw [SH];omega
  rw [b];exact this.2
theorem aP.get{af:Nat}:∀{off:Nat} {cs:List T},aP w A af off cs->∀{k:Nat} {c:T},cs[k]? =some c->∃v,w.cell? ⟨af,off+k,none⟩=some v/\au w A c v
 | off,c::cs,h,0,c',e=>by simp only [aP] at h;simp at e;subst e;exact h.1
 | off,c::cs,h,k+1,c',e=>by
  simp only [aP] at h;have:=aP.get h.2 (k:=k) (c:=c') (by simpa using e);have a:off+1+k=off+ (k+1):=by omega
  rw [a] at this;exact this
theorem aP.drop{af:Nat}:∀{off:Nat} {cs:List T},aP w A af off cs->∀(n:Nat),aP w A af (off+n) (cs.drop n)
 | _,_,h,0=>by simpa using h
 | _,[],_,n+1=>by simp [aP]
 | off,c::cs,h,n+1=>by
  simp only [aP] at h;have:=aP.drop h.2 n;have a:off+1+n=off+ (n+1):=by omega
  rw [a] at this;simpa using this
theorem aR.drop{af sz:Nat}:∀{off:Nat} {xs:List (List T)},aR w A af sz off xs->∀(n:Nat),aR w A af sz (off+n * sz) (xs.drop n)
 | _,_,h,0=>by simpa using h
 | _,[],_,n+1=>by simp [aR]
 | off,cs::xs,h,n+1=>by
  simp only [aR] at h;have:=aR.drop h.2.2 n;have a:off+sz+n * sz=off+ (n+1) * sz:=by rw [SH];omega
  rw [a] at this;simpa using this
theorem aR.take{af sz:Nat}:∀{off:Nat} {xs:List (List T)},aR w A af sz off xs->∀(n:Nat),aR w A af sz off (xs.take n)
 | _,_,_,0=>by simp [aR]
 | _,[],_,n+1=>by simp [aR]
 | off,cs::xs,h,n+1=>by simp only [aR] at h;simp only [Ve,aR];exact⟨h.1,h.2.1,aR.take h.2.2 n⟩
theorem aR.append{af sz:Nat}:∀{off:Nat} {xs a:List (List T)},aR w A af sz off xs->aR w A af sz (off+xs.length * sz) a->aR w A af sz off (xs++a)
 | off,[],a,_,h=>by simpa using h
 | off,cs::xs,a,h,h'=>by
  simp only [aR] at h;simp only [RU,aR];refine⟨h.1,h.2.1,aR.append h.2.2 ?_⟩;have b:off+sz+xs.length * sz=off+ (cs::xs).length * sz:=by simp [SH];omega
  rw [b];exact h'
theorem au.pc{t:T}{v:Value}(h:au w A t v):v.oneCell'=true/\v.cells= #[v]:=by
 cases t <;> simp only [au] at h
 case ae=>rcases h with⟨_,_,rfl⟩ | ⟨_,_,_,_,_,rfl,_⟩ <;> exact⟨rfl,rfl⟩
 case aL=>rcases h with⟨_,rfl⟩ | ⟨_,_,_,_,rfl⟩ <;> exact⟨rfl,rfl⟩
 case ptr=>obtain⟨_,_,rfl,_⟩:=h;exact⟨rfl,rfl⟩
 case any=>exact h
 all_goals subst h;exact⟨rfl,rfl⟩
theorem aO.length:∀{cs:List T} {vs:List Value},aO w A cs vs->vs.length=cs.length
 | [],_,h=>by simp only [aO] at h;simp [h]
 | c::cs,vs,⟨v,r,e,_,h⟩=>by subst e;simp [aO.length h]
end
section
variable (w:World) (A:Nat->Prop) (ρ:Id->Option Value)
mutual
def ai:AV->Value->Prop
 | .top,_=>True
 | .t x,v=>au w A x v
 | .lk vs,v=>∃d:List Value,v= .tuple d.toArray/\aw vs d
 | .agg vs,v=>∃d:List Value,v= .agg d.toArray/\aw vs d/\∀u∈d,u.oneCell'=true/\u.cells= #[u]
 | .ref i off,v=>∃b,ρ i=some (.pointer (some ⟨b,0,none⟩))/\v= .pointer (some ⟨b,off,none⟩)
 | .el i sz k off,v=>∃b o L cap,ρ i=some (.slice (some ⟨b,o,none⟩) L cap)/\v= .pointer (some ⟨b,o+k * sz+off,none⟩)
 | .own i,v=>ρ i=some v
 | .part i sz off n,v=>∃a L cap e,ρ i=some (.slice a L cap)/\off+n<=L/\L<=cap/\v= .slice e n (cap - off)/\
   ((off=0/\e=a)\/(off=cap/\(e=none↔a=none)/\True)\/∃b o,a=some ⟨b,o,none⟩/\e=some ⟨b,o+off * sz,none⟩)
 | .row i n,v=>ρ (.g i n)=some v
 | .rel i sz n k off,v=>∃b o L cap,ρ (.g i n)=some (.slice (some ⟨b,o,none⟩) L cap)/\v= .pointer (some ⟨b,o+k * sz+off,none⟩)
 | .fn f xs l,v=>∃j y':List Value,v= .func (.func f) j.toArray y'.toArray/\aw xs j/\aw l y'
def aw:List AV->List Value->Prop
 | [],vs=>vs= []
 | a::as,vs=>∃v r,vs=v::r/\ai a v/\aw as r
end
end
section
variable {w w':World} {A A':Nat->Prop} {ρ ρ':Id->Option Value}
mutual
theorem ai.mono(h:∀b,A b->A' b/\w'.heap[b]? =w.heap[b]?)(d:∀i v,ρ i=some v->ρ' i=some v):∀(a:AV) (v:Value),ai w A ρ a v->ai w' A' ρ' a v
 | .top,_,_=>by simp [ai]
 | .t x,v,hv=>by simp only [ai] at hv⊢;exact au.mono h x v hv
 | .lk vs,v,hv=>by simp only [ai] at hv⊢;obtain⟨j,e,g⟩:=hv;exact⟨j,e,aw.mono h d vs j g⟩
 | .agg vs,v,hv=>by simp only [ai] at hv⊢;obtain⟨j,e,g,q⟩:=hv;exact⟨j,e,aw.mono h d vs j g,q⟩
 | .ref i off,v,hv=>by simp only [ai] at hv⊢;obtain⟨b,e,g⟩:=hv;exact⟨b,d _ _ e,g⟩
 | .el i sz k off,v,hv=>by simp only [ai] at hv⊢;obtain⟨b,o,L,cap,e,g⟩:=hv;exact⟨b,o,L,cap,d _ _ e,g⟩
 | .own i,v,hv=>by simp only [ai] at hv⊢;exact d _ _ hv
 | .part i sz off n,v,hv=>by simp only [ai] at hv⊢;obtain⟨a,L,cap,m,e,g⟩:=hv;exact⟨a,L,cap,m,d _ _ e,g⟩
 | .row i n,v,hv=>by simp only [ai] at hv⊢;exact d _ _ hv
 | .rel i sz n k off,v,hv=>by simp only [ai] at hv⊢;obtain⟨b,o,L,cap,e,g⟩:=hv;exact⟨b,o,L,cap,d _ _ e,g⟩
 | .fn f xs r,v,hv=>by simp only [ai] at hv⊢;obtain⟨l,y',e,h1,p⟩:=hv;exact⟨l,y',e,aw.mono h d xs l h1,aw.mono h d r y' p⟩
theorem aw.mono(h:∀b,A b->A' b/\w'.heap[b]? =w.heap[b]?)(d:∀i v,ρ i=some v->ρ' i=some v):∀(as:List AV) (vs:List Value),aw w A ρ as vs->aw w' A' ρ' as vs
 | [],_,hv=>by simpa [aw] using hv
 | a::as,vs,hv=>by simp only [aw] at hv⊢;obtain⟨v,r,e,h1,f⟩:=hv;exact⟨v,r,e,ai.mono h d a v h1,aw.mono h d as r f⟩
end
theorem aw.length:∀{as:List AV} {vs:List Value},aw w A ρ as vs->vs.length=as.length
 | [],_,h=>by simp only [aw] at h;simp [h]
 | a::as,vs,h=>by simp only [aw] at h;obtain⟨v,r,e,_,h⟩:=h;subst e;simp [aw.length h]
theorem aw.get:∀{as:List AV} {vs:List Value},aw w A ρ as vs->∀{k:Nat} {a:AV},as[k]? =some a->∃v,vs[k]? =some v/\ai w A ρ a v
 | a::as,vs,h,0,b,e=>by simp only [aw] at h;obtain⟨v,r,rfl,h1,_⟩:=h;simp at e;subst e;exact⟨v,rfl,h1⟩
 | a::as,vs,h,k+1,b,e=>by simp only [aw] at h;obtain⟨v,r,rfl,_,h⟩:=h;obtain⟨u,d,hr⟩:=aw.get h (k:=k) (a:=b) (by simpa using e);exact⟨u,by simpa using d,hr⟩
theorem aw.append:∀{as bs:List AV} {vs us:List Value},aw w A ρ as vs->aw w A ρ bs us->aw w A ρ (as++bs) (vs++us)
 | [],_,_,_,h,h'=>by simp only [aw] at h;subst h;simpa using h'
 | a::as,bs,vs,us,h,h'=>by simp only [aw] at h;obtain⟨v,r,rfl,h1,h⟩:=h;simp only [RU,aw];exact⟨v,r++us,rfl,h1,aw.append h h'⟩
theorem aw.drop:∀{as:List AV} {vs:List Value},aw w A ρ as vs->∀n,aw w A ρ (as.drop n) (vs.drop n)
 | _,_,h,0=>by simpa using h
 | [],vs,h,n+1=>by simp only [aw] at h;subst h;simp [aw]
 | a::as,vs,h,n+1=>by simp only [aw] at h;obtain⟨v,r,rfl,h1,h⟩:=h;simpa using aw.drop h n
theorem aw.take:∀{as:List AV} {vs:List Value},aw w A ρ as vs->∀n,aw w A ρ (as.take n) (vs.take n)
 | _,_,_,0=>by simp [aw]
 | [],vs,h,n+1=>by simp only [aw] at h;subst h;simp [aw]
 | a::as,vs,h,n+1=>by simp only [aw] at h;obtain⟨v,r,rfl,h1,h⟩:=h;simp only [Ve,aw];exact⟨v,r.take n,rfl,h1,aw.take h n⟩
theorem aw.kU:∀{cs:List T} {vs:List Value},aO w A cs vs->aw w A ρ (cs.map .t) vs
 | [],_,h=>by simpa [aw,aO] using h
 | c::cs,vs,⟨v,r,e,h1,a⟩=>by simp only [Se,aw];exact⟨v,r,e,by simpa [ai] using h1,aw.kU a⟩
theorem aO.kT:∀{as:List AV} {cs:List T} {vs:List Value},dZ as=some cs->aw w A ρ as vs->aO w A cs vs
 | [],cs,vs,h,hv=>by simp only [dZ,RJ] at h;subst h;simpa [aO,aw] using hv
 | a::as,cs,vs,h,hv=>by
  cases a <;> simp only [dZ,reduceCtorEq] at h
  case t x=>
   cases hl:dZ as with
   | none=>simp [hl] at h
   | some l=>simp only [hl,R2,RJ] at h;subst h;simp only [aw,ai] at hv;obtain⟨v,r,e,h1,b⟩:=hv;exact⟨v,r,e,h1,aO.kT hl b⟩
end
open Go
section
variable {R S α:Type}
theorem bm[Inhabited α](c:Option Bool)(m:Option α)(k:α->Option R)(f:R->Option S):(aa c m k).bind f=aa c m λa=>(k a).bind f:=by
 unfold aa;cases m with
 | some a=>rfl
 | none=>cases c with
  | none=>rfl
  | some b=>cases b <;> rfl
theorem aI[Inhabited α]{c:Option Bool}{m:Option α}{k:α->Option R}{r:R}(h:aa c m k=some r)(b:c=none\/c=some true):∃a,m=some a/\k a=some r:=by
 unfold aa at h;cases m with
 | some a=>exact⟨a,rfl,h⟩
 | none=>rcases b with rfl | rfl <;> simp at h
theorem kK(c:Bool)(x y:Option R)(f:R->Option S):(cond c x y).bind f=cond c (x.bind f) (y.bind f):=by cases c <;> rfl
theorem cf(c:Prop)[Decidable c](x y:Option R)(f:R->Option S):(if c then x else y).bind f=if c then x.bind f else y.bind f:=by split <;> rfl
theorem aY(f:R->Option S):(none:Option R).bind f=none:=rfl
theorem BR(c:Option Bool):∀(n:Nat) (cs:List T) (K:List T->Option R) (f:R->Option S),(oq c n cs K).bind f=oq c n cs λx=>(K x).bind f
 | 0,_,_,_=>rfl
 | n+1,cs,K,f=>by simp only [oq,bm,BR c n]
theorem na(k:Ck)(c:Option Bool)(x:T)(K:T->Option R)(f:R->Option S):(ez k c x K).bind f=ez k c x λx=>(K x).bind f:=by unfold ez;cases k <;> simp only [bm]
theorem rm(c:Option Bool):∀(ks:List Ck) (xs:List T) (K:List T->Option R) (f:R->Option S),(dY c ks xs K).bind f=dY c ks xs λx=>(K x).bind f
 | [],_,_,_=>rfl
 | _::_,[],_,_=>rfl
 | k::ks,x::xs,K,f=>by simp only [dY,na,rm c ks xs]
theorem JW(op:BinOp)(k:IntKind)(c:Option Bool)(x y:T)(K:T->Option R)(f:R->Option S):(pW op k c x y K).bind f=pW op k c x y λx=>(K x).bind f:=by unfold pW;cases op <;> simp only [bm,aY]
theorem P3(op:BinOp)(k ky:IntKind)(c:Option Bool)(x y:T)(K:T->Option R)(f:R->Option S):(qY op k ky c x y K).bind f=qY op k ky c x y λx=>(K x).bind f:=by unfold qY;cases op <;> simp only [bm,aY]
theorem Qo(op:BinOp)(c:Option Bool)(x y:T)(K:T->Option R)(f:R->Option S):(rf op c x y K).bind f=rf op c x y λx=>(K x).bind f:=by unfold rf;cases op <;> simp only [bm,aY]
theorem Fc(P:Program)(c:Option Bool)(t:TypeId)(x y:T)(K:Bool->Option R)(f:R->Option S):(kO P c t x y K).bind f=kO P c t x y λx=>(K x).bind f:=by unfold kO;split <;> simp only [bm,aY]
theorem Fe(P:Program)(c:Option Bool):∀(ts:List TypeId) (xs a:List T) (K:Bool->Option R) (f:R->Option S),(dF P c ts xs a K).bind f=dF P c ts xs a λx=>(K x).bind f
 | [],[],[],_,_=>rfl
 | t::ts,x::xs,y::a,K,f=>by simp only [dF,Fc,Fe P c ts xs a]
 | [],[],_::_,_,_=>rfl
 | [],_::_,_,_,_=>rfl
 | _::_,[],_,_,_=>rfl
 | _::_,_::_,[],_,_=>rfl
theorem J6(P:Program)(op:BinOp)(t ty:TypeId)(c:Option Bool)(x y:T)(K:T->Option R)(f:R->Option S):(pX P op t ty c x y K).bind f=pX P op t ty c x y λx=>(K x).bind f:=by unfold pX;cases op <;> simp only [] <;> first | rfl | (split <;> simp only [JW,P3,Qo,aY])
theorem Mw(P:Program)(c:Option Bool)(t:TypeId)(x y:AV)(K:Bool->Option R)(f:R->Option S):(oV P c t x y K).bind f=oV P c t x y λx=>(K x).bind f:=by unfold oV;split <;> simp only [kK,bm,Fc,Fe,R5,aY]
theorem Rc(P:Program)(op:UnOp)(t:TypeId)(c:Option Bool)(x:T)(K:T->Option R)(f:R->Option S):(rp P op t c x K).bind f=rp P op t c x λx=>(K x).bind f:=by unfold rp;split <;> simp only [bm,aY]
theorem sG(P:Program)(t:TypeId)(c:Option Bool)(cs:List T)(K:AV->Option R)(f:R->Option S):(jX P t c cs K).bind f=jX P t c cs λx=>(K x).bind f:=by unfold jX;simp only [kK,bm,BR,na,rm]
theorem Gg(P:Program)(t:TypeId)(cs:List AV)(K:AV->Option R)(f:R->Option S):(mL P t cs K).bind f=mL P t cs λx=>(K x).bind f:=by unfold mL;simp only [kK,R5]
theorem Bm(h:Id->Option ab)(c:Option Bool)(i:Id)(n:Nat)(K:Nat->Bool->List (List T)->Option R)(f:R->Option S):(kZ h c i n K).bind f=kZ h c i n λa b l=>(K a b l).bind f:=by unfold kZ;split <;> simp only [bm,aY]
theorem Nt(P:Program)(t:TypeId)(c:Option Bool)(i:Id)(sz ax off:Nat)(e:Row)(K:AV->Option R)(f:R->Option S):(qG P t c i sz ax off e K).bind f=qG P t c i sz ax off e λx=>(K x).bind f:=by unfold qG;simp only [kK,cf,bm,BR,na,rm,aY]
theorem Ns(P:Program)(s:St)(c:Option Bool)(t:TypeId)(a:AV)(K:AV->Option R)(f:R->Option S):(jr P s c t a K).bind f=jr P s c t a λx=>(K x).bind f:=by
 unfold jr;rw [kK];congr 1;split
 .split <;> simp only [Gg,sG,aY]
 .split <;> simp only [cf,bm,sG,Nt,aY]
 .simp only [Bm,cf,bm,sG,aY]
 .simp only [bm,sG]
 .rfl
theorem Ql(P:Program)(s:St)(t:TypeId)(a v:AV)(K:aE->Option R)(f:R->Option S):(iE P s t a v K).bind f=iE P s t a v λx=>(K x).bind f:=by
 unfold iE;rw [kK];congr 1;split
 .split <;> simp only [cf,aY]
 .split
  .simp only [R5,cf,bm,aY]
  .split
   .split <;> simp only [cf,bm,aY]
   .rfl
  .rfl
 .split <;> simp only [R5,cf,bm,aY]
 .rfl
theorem o6(c:Option Bool)(i:Int)(n:Nat)(K:Option R)(f:R->Option S):(jo c i n K).bind f=jo c i n (K.bind f):=by unfold jo;simp only [bm]
theorem M9(P:Program)(s:St)(c:Option Bool)(t:TypeId)(x:AV)(i:Int)(K:AV->Option R)(f:R->Option S):(iU P s c t x i K).bind f=iU P s c t x i λx=>(K x).bind f:=by
 unfold iU;split
 .split
  .split <;> simp only [cf,o6,aY]
  .simp only [Bm,cf,o6,aY]
  .split <;> simp only [cf,o6,aY]
  .simp only [bm,o6]
  .rfl
 .split
  .rw [o6];congr 1;split <;> simp only [bm,aY]
  .rfl
theorem MH(P:Program)(c:Option Bool)(t:TypeId)(x:AV)(k:Nat)(K:AV->Option R)(f:R->Option S):(qo P c t x k K).bind f=qo P c t x k λx=>(K x).bind f:=by
 unfold qo;split
 .rw [cf];congr 1;split <;> simp only [bm,aY]
 .rfl
theorem MF(P:Program)(t:TypeId)(x:AV)(k:Nat)(K:AV->Option R)(f:R->Option S):(qn P t x k K).bind f=qn P t x k λx=>(K x).bind f:=by
 unfold qn;split
 .split <;> simp only [Gg,aY]
 .rfl
theorem Nk(P:Program)(s:St)(c:Option Bool)(t:TypeId)(x:AV)(K:AV->Option R)(f:R->Option S):(mK P s c t x K).bind f=mK P s c t x λx=>(K x).bind f:=by
 unfold mK;split
 .split <;> simp only [bm,aY]
 .rfl
 .split
  .split <;> rfl
  .simp only [Bm]
  .rfl
  .simp only [bm]
  .rfl
 .rfl
theorem Ka(s:St)(c:Option Bool)(g:Option Gs)(o:Option Operand)(K:Option Int->Option R)(f:R->Option S):(il s c g o K).bind f=il s c g o λx=>(K x).bind f:=by
 unfold il;split
 .rfl
 .simp only [R5,bm]
theorem P8(P:Program)(s:St)(c:Option Bool)(t:TypeId)(x:AV)(a hi b:Option Int)(K:AV->Option R)(f:R->Option S):(m5 P s c t x a hi b K).bind f=m5 P s c t x a hi b λx=>(K x).bind f:=by
 unfold m5;split
 .split <;> simp only [bm,aY]
 .split
  .split
   .split <;> simp only [cf,bm,aY]
   .split <;> simp only [cf,bm,aY]
   .simp only [cf,bm,aY]
   .rfl
  .split
   .simp only [cf,bm,aY]
   .split <;> simp only [cf,bm,aY]
   .rfl
 .rfl
theorem JR(P:Program)(s:St)(t:TypeId)(sz:Nat)(a:List T)(y:AV)(K:List (List T)->Option R)(f:R->Option S):(lC P s t sz a y K).bind f=lC P s t sz a y λx=>(K x).bind f:=by unfold lC;split <;> simp only [R5,cf,bm,aY]
theorem JN(P:Program)(s:St)(d:Nat)(e:TypeId)(i:Id)(sz ax rsz nx:Nat)(es:List Row)(j:Id)(cs:List AV)(K:AV->aE->Option R)(f:R->Option S):(oN P s d e i sz ax rsz nx es j cs K).bind f=oN P s d e i sz ax rsz nx es j cs λv u=>(K v u).bind f:=by
 unfold oN;rw [cf];congr 1;rw [R5];congr 1;funext l;split
 .split <;> simp only [cf,bm,aY]
 .split <;> simp only [cf,bm,aY]
 .rfl
theorem JK(P:Program)(s:St)(d:Nat)(rw:Bool)(t ty:TypeId)(x y:AV)(K:AV->aE->Option R)(f:R->Option S):(jJ P s d rw t ty x y K).bind f=jJ P s d rw t ty x y λv u=>(K v u).bind f:=by
 unfold jJ;rw [R5];congr 1;funext e;rw [R5];congr 1;funext b;rw [cf];congr 1;split
 .split <;> simp only [JN,aY]
 .rw [JR];congr 1;funext a;split
  .split <;> simp only [cf,bm,aY]
  .split <;> simp only [cf,bm,aY]
  .simp only [R5,bm]
  .rfl
theorem NF(P:Program)(d:Nat)(t:TypeId)(a:Nat)(n m:T)(K:AV->aE->Option R)(f:R->Option S):(qH P d t a n m K).bind f=qH P d t a n m λv u=>(K v u).bind f:=by unfold qH;rw [R5];congr 1;funext e;rw [R5];congr 1;funext b;rw [bm];congr 1;funext n;rw [bm];congr 1;funext m;rw [cf];congr 1;rw [bm];congr 1;funext _;rw [kK];congr 1;split <;> simp only [cf,aY]
theorem Ah(P:Program)(k:TypeId)(c:Option Bool)(v:AV)(K:Bool->List Ck->List T->Option R)(f:R->Option S):(nL P k c v K).bind f=nL P k c v λa b l=>(K a b l).bind f:=by unfold nL;rw [R5];congr 1;funext q;split <;> simp only [rm,R5,cf,aY]
theorem NA(P:Program)(s:St)(c:Option Bool)(t:TypeId)(x k:AV)(ok:Bool)(K:AV->Option R)(f:R->Option S):(mM P s c t x k ok K).bind f=mM P s c t x k ok λv=>(K v).bind f:=by
 unfold mM;rw [R5];congr 1;funext q;rw [R5];congr 1;funext z;rw [Ah];congr 1;funext a b l;split
 .split
  .rw [cf];simp only [na,aY]
  .rfl
 .rfl
theorem NH(P:Program)(d:Nat)(t:TypeId)(K:AV->aE->Option R)(f:R->Option S):(qI P d t K).bind f=qI P d t λv u=>(K v u).bind f:=by unfold qI;simp only [R5,cf,aY]
theorem KO(P:Program)(s:St)(t:TypeId)(x k:AV)(K:aE->Option R)(f:R->Option S):(my P s t x k K).bind f=my P s t x k λu=>(K u).bind f:=by
 unfold my;rw [R5];congr 1;funext q;rw [Ah];congr 1;funext a b l;split
 .split
  .rw [cf];rfl
  .rfl
 .rfl
theorem OT(P:Program)(s:St)(t:TypeId)(x k v:AV)(K:aE->Option R)(f:R->Option S):(mS P s t x k v K).bind f=mS P s t x k v λu=>(K u).bind f:=by
 unfold mS;rw [R5];congr 1;funext q;rw [Ah];congr 1;funext a b l;split
 .split
  .rw [cf];simp only [R5,na,aY]
  .rfl
 .rfl
theorem Aw(k:IntKind)(c:Option Bool)(b:Bool):∀(l:List T) (a:Int) (K:T->Option R) (f:R->Option S),(nP k c b a l K).bind f=nP k c b a l λx=>(K x).bind f
 | [],_,_,_=>rfl
 | y::r,a,K,f=>by simp only [nP,bm,Aw k c b r]
theorem KH(P:Program)(c:Option Bool)(a b:TypeId)(x:T)(K:T->Option R)(f:R->Option S):(p5 P c a b x K).bind f=p5 P c a b x λx=>(K x).bind f:=by unfold p5;split <;> simp only [bm,aY]
theorem DI(ids:List Id)(d:Nat)(c:Option Bool)(j:Nat)(r:bG)(x:T)(K:AV->aE->Nat->Option R)(f:R->Option S):(lN ids d c j r x K).bind f=lN ids d c j r x λv u j=>(K v u j).bind f:=by
 unfold lN;split
 .exact na _ _ _ _ _
 .exact na _ _ _ _ _
 .split <;> simp only [bm,aY]
 .split <;> simp only [aY]
 .split <;> simp only [aY]
 .split <;> simp only [bm,aY]
 .split <;> simp only [bm,aY]
 .rfl
 .rfl
 .rfl
theorem vh(ids:List Id)(d:Nat)(c:Option Bool):∀(a:List bG) (j:Nat) (xs:List T) (K:List AV->aE->Nat->Option R) (f:R->Option S),(jk ids d c j a xs K).bind f=jk ids d c j a xs λv u j=>(K v u j).bind f
 | [],_,_,_,_=>rfl
 | r::a,j,xs,K,f=>by simp only [jk,bm,DI,vh ids d c a]
theorem oS(ids:List Id)(d:Nat)(c:Option Bool):∀(a:List bG) (j:Nat) (xs:List T) (K:List AV->aE->Nat->Option R) (f:R->Option S),(dq ids d c j a xs K).bind f=dq ids d c j a xs λv u j=>(K v u j).bind f
 | [],_,_,_,_=>rfl
 | r::a,j,xs,K,f=>by
  cases r
  case new l=>cases c <;> simp only [dq,vh,oS ids d _ a,aY]
  all_goals simp only [dq,bm,DI,vh,oS ids d c a]
theorem vo(all:List Id)(d:Nat):∀(a:List jd) (b:List Id) (j:Nat) (xs:List T) (K:aE->Option R) (f:R->Option S),(fq all d j b a xs K).bind f=fq all d j b a xs λu=>(K u).bind f
 | [],[],_,_,_,_=>rfl
 | [],_::_,_,_,_,_=>rfl
 | r::a,[],_,_,_,_=>by cases r <;> rfl
 | r::a,i::b,j,xs,K,f=>by cases r <;> simp only [fq,bm,vh,vo all d a]
theorem QG(P:Program)(c:Option Bool)(t:TypeId)(v:AV)(K:AV->Option R)(f:R->Option S):(l9 P c t v K).bind f=l9 P c t v λx=>(K x).bind f:=by
 unfold l9;split
 .exact na _ _ _ _ _
 .split
  .exact rm _ _ _ _ _
  .rfl
 .rfl
theorem BV(P:Program)(c:Option Bool):∀(ts:List TypeId) (vs:List AV) (K:List AV->Option R) (f:R->Option S),(iG P c ts vs K).bind f=iG P c ts vs λx=>(K x).bind f
 | [],_,_,_=>rfl
 | _::_,[],_,_=>rfl
 | t::ts,v::vs,K,f=>by simp only [iG,QG,BV P c ts vs]
theorem Dr(P:Program)(A:bZ)(O:az)(s:St)(d:Nat)(c:Option Bool)(g:FuncId)(args:List AV)(K:AV->aE->Option R)(f:R->Option S):
  (fR P A O s d c g args K).bind f=fR P A O s d c g args λv u=>(K v u).bind f:=by
 unfold fR;split
 .rfl
 .split
  .simp only [R5,bm,oS,BV]
  .split
   .rfl
   .simp only [R5,kK,aY,bm,oS,vo,BV]
theorem J1(h:Id->Option ab)(i new:Id)(n rsz:Nat)(K:aE->Option R)(f:R->Option S):(rT h i new n rsz K).bind f=rT h i new n rsz λu=>(K u).bind f:=by
 unfold rT;split
 .rw [cf];simp only [bm,aY]
 .rfl
theorem Ks(gE:Bool)(P:Program)(A:bZ)(O:az)(s:St)(d:Nat)(c:Option Bool)(g:FuncId)(args:List AV)(K:AV->aE->Option R)(f:R->Option S):
  (iM gE P A O s d c g args K).bind f=iM gE P A O s d c g args λv u=>(K v u).bind f:=by
 unfold iM;split
 .exact Dr _ _ _ _ _ _ _ _ _ _
 .split
  .simp only [bm,kK,Dr,J1,aY]
  .rfl
theorem F2(c:Option Bool)(v:AV)(K:Int->Option R)(f:R->Option S):(nK c v K).bind f=nK c v λx=>(K x).bind f:=by unfold nK;simp only [R5,bm]
theorem yI(P:Program)(A:bZ)(O:az)(g:Option Gs)(o:Oper)(s:St)(K:AV->aE->Option R)(f:R->Option S):
  (iK P A O g o s K).bind f=iK P A O g o s λv u=>(K v u).bind f:=by
 unfold iK;cases o.op <;> dsimp only
 case pick=>simp only [R5,bm]
 case alloc=>split <;> simp only [R5,aY]
 case box=>split <;> simp only [cf,aY]
 case build=>simp only [R5]
 case buildSlice=>
  rw [R5];congr 1;funext e;rw [cf];congr 1
  .split <;> simp only [cf,aY]
  rw [cf];congr 1;rw [cf];congr 1;rw [R5];congr 1;funext q;split <;> rfl
 case load=>simp only [Ns]
 case store=>split <;> simp only [Ql,aY]
 case nilCheck=>split <;> simp only [bm,aY]
 case binOp=>split <;> simp only [R5,Mw,J6]
 case unOp=>simp only [R5,Rc]
 case convert=>
  split
  .split <;> simp only [R5,bm,aY]
  .simp only [R5,KH]
 case makeFunc=>split <;> simp_all
 case makeSlice=>split <;> simp only [R5,NF,aY]
 case makeMap=>split <;> simp only [NH,aY]
 case lookup=>simp only [NA]
 case mapUpdate=>split <;> simp only [OT,aY]
 case slice=>simp only [Ka,P8]
 case fieldAddr=>simp only [MH]
 case field=>simp only [MF]
 case indexAddr=>simp only [F2,M9]
 case index=>
  simp only [F2];congr 1;funext n;split
  .simp only [R5,bm,o6]
  .split <;> simp only [kK,R5,o6,sG,aY]
  .rfl
 case extract=>split <;> simp only [R5,aY]
 case call a=>
  split
  .split <;> simp only [Nk,aY]
  .split <;> simp only [JK,aY]
  .split
   .rw [R5];congr 1;funext l;split <;> simp only [bm,Aw,aY]
   .rfl
  .split
   .rw [R5];congr 1;funext l;split <;> simp only [bm,Aw,aY]
   .rfl
  .split <;> simp only [KO,aY]
  ·(repeat' split) <;> simp only [kK,aY]
  .split <;> simp only [Ks,aY]
  .rfl
 all_goals rfl
def cI(P:Program)(A:bZ)(O:az)(g:Option Gs)(o:Oper)(s:St):Option (AV×aE):=iK P A O g o s λv u=>some (v,u)
theorem pV(P:Program)(A:bZ)(O:az)(g:Option Gs)(o:Oper)(s:St)(K:AV->aE->Option R):iK P A O g o s K= (cI P A O g o s).bind λp=>K p.1 p.2:=by unfold cI;rw [yI];rfl
theorem FW(a:Array Oper)(o:Oper)(s:St)(K:Option Gs->Option R)(f:R->Option S):(cK a o s K).bind f=cK a o s λg=>(K g).bind f:=by
 unfold cK;split
 .rfl
 .split
  .rfl
  .simp only [R5,bm]
theorem we(a:Array Oper)(o:Oper)(s:St)(K:Option Gs->Option R):cK a o s K= (cK a o s some).bind K:=by rw [FW];rfl
def eu(P:Program)(A:bZ)(O:az)(a:Bool)(nt:Nat)(b:Array Oper)(o:Oper)(s:St):Option St:=nW P A O a nt b o s some
theorem Ox(P:Program)(A:bZ)(O:az)(a:Bool)(nt:Nat)(b:Array Oper)(o:Oper)(s:St)(K:St->Option R):nW P A O a nt b o s K= (eu P A O a nt b o s).bind K:=by
 unfold eu nW;rw [FW];congr 1;funext g;cases pv A a o g with
 | none=>dsimp only;rw [yI];congr 1;funext v u;rw [cf];rfl
 | some d=>
  dsimp only;cases vB nt o d with
  | false=>rfl
  | true=>
   cases d.c with
   | false=>rfl
   | true=>simp only [cond_true];rw [yI];congr 1;funext v u;rw [cf];rfl
def iA(P:Program)(A:bZ)(O:az)(a:Bool)(nt:Nat)(b:Array Oper):List Oper->St->Option St
 | [],s=>some s
 | o::r,s=>(eu P A O a nt b o s).bind (iA P A O a nt b r)
theorem Bj(P:Program)(A:bZ)(O:az)(a:Bool)(nt:Nat)(b:Array Oper):∀(l:List Oper) (s:St) (K:St->Option R),td P A O a nt b l s K= (iA P A O a nt b l s).bind K
 | [],_,_=>rfl
 | o::r,s,K=>by simp only [td,iA,Ox,R5];congr 1;funext s';exact Bj P A O a nt b r s' K
end
open Go
structure Ctx where
 A0:Nat->Prop
 M:Nat->Prop
 N0:Nat
def Ctx.MO(c:Ctx)(b:Nat):Prop:=c.M b\/c.N0<=b
def AA(c:Ctx)(w:World)(O:Id->Option Nat)(b:Nat):Prop:=(c.A0 b\/c.MO b)/\b < w.heap.size/\∀i,O i≠some b
def cg(w:World)(A:Nat->Prop)(sz:Nat)(b:Bool)(l:List (List T))(v:Value)(Q:Nat->Prop):Prop:=
 ∃a cap,v= .slice a l.length cap/\l.length<=cap/\(a=none↔b=true)/\True/\
  (cap=0\/∃af off arr t,a=some ⟨af,off,none⟩/\Q af/\w.heap[af]? =some (.cells arr t (0,0))/\off+cap * sz<=arr.size/\aR w A af sz off l)
def ig(w:World)(A:Nat->Prop)(ρ:Id->Option Value)(O:Id->Option Nat)(i:Id)(af sz ax rsz base:Nat)(e:Row):Prop:=
 e.cs.length=sz/\ax < sz/\(∀j x,j≠ax->e.cs[j]? =some x->∃v,w.cell? ⟨af,base+j,none⟩=some v/\au w A x v)/\
 ∃v,w.cell? ⟨af,base+ax,none⟩=some v/\ρ (.g i e.n)=some v/\
  match e.own with
  | some p=>cg w A rsz p.1 p.2 v (λb=>O (.g i e.n)=some b)
  | none=>O (.g i e.n)=none
def bO(w:World)(A:Nat->Prop)(ρ:Id->Option Value)(O:Id->Option Nat)(i:Id)(af sz ax rsz:Nat):Nat->List Row->Prop
 | _,[]=>True
 | base,e::es=>ig w A ρ O i af sz ax rsz base e/\bO w A ρ O i af sz ax rsz (base+sz) es
def nw(ρ:Id->Option Value)(O:Id->Option Nat)(i:Id)(nx:Nat)(es:List Row):Prop:=
 (es.map (·.n)).Nodup/\(∀e∈es,e.n < nx)/\(∀n,nx<=n->ρ (.g i n)=none)/\∀n b,O (.g i n)=some b->∃e∈es,e.n=n
def cr(w:World)(A:Nat->Prop)(ρ:Id->Option Value)(O:Id->Option Nat)(i:Id):ab->Prop
 | .box cs=>∃b arr t,ρ i=some (.pointer (some ⟨b,0,none⟩))/\O i=some b/\w.heap[b]? =some (.cells arr t (0,0))/\aw w A ρ cs arr.toList/\
   (∀u∈arr.toList,u.oneCell'=true/\u.cells= #[u])
 | .sl g sz b l=>∃v,ρ i=some v/\cg w A sz b l v (λaf=>if g=true then A af else O i=some af)/\(g=true->O i=none)
 | .gX l=>∃b,ρ i=some (.pointer (some ⟨b,0,none⟩))/\O i=none/\A b/\aP w A b 0 l
 | .arr cs=>∃b arr t,ρ i=some (.slice (some ⟨b,0,none⟩) 1 1)/\O i=some b/\w.heap[b]? =some (.cells arr t (0,0))/\aw w A ρ cs arr.toList/\
   (∀u∈arr.toList,u.oneCell'=true/\u.cells= #[u])
 | .mp ag ks vk es=>∃b d f,ρ i=some (.map (some b))/\O i=some b/\w.heap[b]? =some (.map d f)/\
   d.toList.map (λe=>(e.key,e.val))=es.map (λp=>(cu ag p.1,cR p.2))/\(es.all λp=>bL ks p.1 && de vk p.2)=true
 | .rows b sz ax rsz nx es=>∃a cap,ρ i=some (.slice a es.length cap)/\es.length<=cap/\(a=none↔b=true)/\nw ρ O i nx es/\
   (cap=0\/∃af off arr t,a=some ⟨af,off,none⟩/\O i=some af/\w.heap[af]? =some (.cells arr t (0,0))/\off+cap * sz<=arr.size/\bO w A ρ O i af sz ax rsz off es)
 | .dead=>(∃v,ρ i=some v/\v.oneCell'=true/\v.cells= #[v])/\O i=none
structure HS (c:Ctx) (w:World) (h:Id->Option ab) (ρ:Id->Option Value) (O:Id->Option Nat):Prop where
 af:∀i b,h i=some b->cr w (AA c w O) ρ O i b
 bS:∀i,i.real=true->h i=none->ρ i=none/\O i=none
 dc:∀i n,h (.g i n)=none
 eO:∀i n,h i=none->ρ (.g i n)=none/\O (.g i n)=none
 gone:∀i n u,ρ (.g i n)=some u->u.oneCell'=true/\u.cells= #[u]
 inj:∀i j b,O i=some b->O j=some b->i=j
 lt:∀i b,O i=some b->b < w.heap.size
 own:∀i b,O i=some b->c.MO b
 size:c.N0<=w.heap.size
structure Le (w:World) (ρ:Id->Option Value) (O:Id->Option Nat) (w':World) (ρ':Id->Option Value) (O':Id->Option Nat):Prop where
 os:w'.os=w.os
 output:w'.output=w.output
 tape:w'.tape=w.tape
 size:w.heap.size<=w'.heap.size
 dL:∀i v,ρ i=some v->ρ' i=some v
 af:∀b,b < w.heap.size->(∀i,O i≠some b)->w'.heap[b]? =w.heap[b]?
 own:∀i b,O' i=some b->(∃j,O j=some b)\/w.heap.size<=b
section
variable {c:Ctx} {w w' w'':World} {h h':Id->Option ab} {ρ ρ' ρ'':Id->Option Value} {O O' O'':Id->Option Nat}
theorem Le.refl:Le w ρ O w ρ O:=⟨rfl,rfl,rfl,R3 _,λ_ _ h=>h,λ_ _ _=>rfl,λi b h=> .inl ⟨i,h⟩⟩
theorem Le.trans(a:Le w ρ O w' ρ' O')(b:Le w' ρ' O' w'' ρ'' O''):Le w ρ O w'' ρ'' O'' where
 os:=b.os.trans a.os
 output:=b.output.trans a.output
 tape:=b.tape.trans a.tape
 size:=Sh a.size b.size
 dL i v h:=b.dL i v (a.dL i v h)
 af k hk hn:=by
  rw [b.af k (Tc hk a.size),a.af k hk hn];intro i hi;rcases a.own i k hi with⟨j,hj⟩ | h
  .exact hn j hj
  .omega
 own i k hi:=by
  rcases b.own i k hi with⟨j,hj⟩ | h
  .exact a.own j k hj
  .exact .inr (Sh a.size h)
theorem Le.A(le:Le w ρ O w' ρ' O')(b:Nat)(a:AA c w O b):AA c w' O' b/\w'.heap[b]? =w.heap[b]?:=by
 refine⟨⟨a.1,Tc a.2.1 le.size,λi hi=> ?_⟩,le.af b a.2.1 a.2.2⟩;rcases le.own i b hi with⟨j,d⟩ | h
 .exact a.2.2 j d
 .have:=a.2.1;omega
theorem cg.mono{A A' Q g:Nat->Prop}{sz:Nat}{b:Bool}{l:List (List T)}{v:Value}(o:∀b,A b->A' b/\w'.heap[b]? =w.heap[b]?)
  (f:∀b,Q b->g b/\w'.heap[b]? =w.heap[b]?) (hs:cg w A sz b l v Q):cg w' A' sz b l v g:=by
 obtain⟨a,cap,h1,k,m,n,e⟩:=hs;refine⟨a,cap,h1,k,m,n, ?_⟩;rcases e with e | ⟨af,off,arr,t,i,d,e3,j,e5⟩
 .exact .inl e
 .exact .inr ⟨af,off,arr,t,i,(f _ d).1,by rw [(f _ d).2];exact e3,j,aR.mO o af sz (f _ d).2 off l e5⟩
def pH(i:Id)(w:World)(ρ:Id->Option Value)(O:Id->Option Nat)(w':World)(ρ':Id->Option Value)(O':Id->Option Nat):Prop:=
 ∀n,ρ' (.g i n)=ρ (.g i n)/\O' (.g i n)=O (.g i n)/\∀b,O (.g i n)=some b->w'.heap[b]? =w.heap[b]?
theorem ig.mono{A A':Nat->Prop}{i:Id}{af sz ax rsz base:Nat}{e:Row}(f:∀b,A b->A' b/\w'.heap[b]? =w.heap[b]?)(hb:w'.heap[af]? =w.heap[af]?)(a:pH i w ρ O w' ρ' O')(h:ig w A ρ O i af sz ax rsz base e):
  ig w' A' ρ' O' i af sz ax rsz base e:=by
 obtain⟨h1,m,o,v,q,r,t⟩:=h;have g:∀p,w'.cell? ⟨af,p,none⟩=w.cell? ⟨af,p,none⟩:=λp=>mo hb;refine⟨h1,m,λj x y z=> ?_,v,by rw [g];exact q,by rw [(a e.n).1];exact r, ?_⟩
 .obtain⟨u,l,d⟩:=o j x y z;exact⟨u,by rw [g];exact l,au.mono f x u d⟩
 .revert t;cases e.own with
  | none=>intro h;simp only at h⊢;rw [(a e.n).2.1];exact h
  | some p=>intro d;refine cg.mono f (λb k=> ?_) d;rw [(a e.n).2.1];exact⟨k,(a e.n).2.2 b k⟩
theorem bO.mono{A A':Nat->Prop}{i:Id}{af sz ax rsz:Nat}(a:∀b,A b->A' b/\w'.heap[b]? =w.heap[b]?)(hb:w'.heap[af]? =w.heap[af]?)(d:pH i w ρ O w' ρ' O'):∀{es:List Row} {base:Nat},bO w A ρ O i af sz ax rsz base es->
  bO w' A' ρ' O' i af sz ax rsz base es
 | [],_,_=>trivial
 | e::es,base,h=>⟨ig.mono a hb d h.1,bO.mono a hb d h.2⟩
theorem cg.eQ{A A' Q a:Nat->Prop}{sz:Nat}{b:Bool}{l:List (List T)}{v:Value}(d:∀b,A b->A' b/\w'.heap[b]? =w.heap[b]?)
  (e:∀b,Q b->a b/\w'.heap[b]? =w.heap[b]?) (hs:cg w A sz b l v Q):cg w' A' sz b l v a:=cg.mono d e hs
theorem ig.move{A A':Nat->Prop}{i i':Id}{af blk' sz ax rsz base a:Nat}{e:Row}(l:∀j,j < sz->w'.cell? ⟨blk',a+j,none⟩=w.cell? ⟨af,base+j,none⟩)(k:∀b,A b->A' b/\w'.heap[b]? =w.heap[b]?)
  (h1:ρ' (.g i' e.n)=ρ (.g i e.n)) (f:O' (.g i' e.n)=O (.g i e.n)) (D:∀b,O (.g i e.n)=some b->w'.heap[b]? =w.heap[b]?) (h:ig w A ρ O i af sz ax rsz base e):ig w' A' ρ' O' i' blk' sz ax rsz a e:=by
 obtain⟨q,d,r,v,t,y,z⟩:=h;refine⟨q,d,λj x E o=> ?_,v,by rw [l _ d];exact t,by rw [h1];exact y, ?_⟩
 .obtain⟨u,B,C⟩:=r j x E o;have:=(RS.1 o).1;exact⟨u,by rw [l j (by omega)];exact B,au.mono k x u C⟩
 .revert z;cases e.own with
  | none=>intro h;simp only at h⊢;rw [f];exact h
  | some p=>intro g;refine cg.mono k (λb m=> ?_) g;rw [f];exact⟨m,D b m⟩
theorem bO.move{A A':Nat->Prop}{i i':Id}{af blk' sz ax rsz:Nat}(d:∀b,A b->A' b/\w'.heap[b]? =w.heap[b]?):∀{es:List Row} {base a:Nat},
  (∀p,p < es.length * sz->w'.cell? ⟨blk',a+p,none⟩=w.cell? ⟨af,base+p,none⟩)->(∀e∈es,ρ' (.g i' e.n)=ρ (.g i e.n)/\O' (.g i' e.n)=O (.g i e.n)/\∀b,O (.g i e.n)=some b->w'.heap[b]? =w.heap[b]?)->
  bO w A ρ O i af sz ax rsz base es->bO w' A' ρ' O' i' blk' sz ax rsz a es
 | [],_,_,_,_,_=>trivial
 | e::es,base,a,f,k,h=>by
  have el:(e::es).length * sz=sz+es.length * sz:=by simp [SH];omega
  obtain⟨h1,l,m⟩:=k e RL;refine⟨ig.move (λj q=>f j (by omega)) d h1 l m h.1,bO.move d (λp r=> ?_) (λe o=>k e (RM _ o)) h.2⟩;rw [Uv,Uv];exact f (sz+p) (by omega)
theorem bO.append{A:Nat->Prop}{i:Id}{af sz ax rsz:Nat}:∀{es a:List Row} {base:Nat},bO w A ρ O i af sz ax rsz base es->bO w A ρ O i af sz ax rsz (base+es.length * sz) a->bO w A ρ O i af sz ax rsz base (es++a)
 | [],a,base,_,h=>by simpa using h
 | e::es,a,base,h,h'=>by
  refine⟨h.1,bO.append h.2 ?_⟩;have:base+sz+es.length * sz=base+ (e::es).length * sz:=by simp [SH];omega
  rw [this];exact h'
theorem bO.set{A A':Nat->Prop}{i:Id}{af sz ax rsz:Nat}{x:Row}(l:∀b,A b->A' b/\w'.heap[b]? =w.heap[b]?):∀{es:List Row} {base k:Nat},k < es.length->
  (∀p,base<=p->p < base+es.length * sz->¬(base+k * sz<=p/\p < base+k * sz+sz)->w'.cell? ⟨af,p,none⟩=w.cell? ⟨af,p,none⟩)->
  (∀j e,j≠k->es[j]? =some e->ρ' (.g i e.n)=ρ (.g i e.n)/\O' (.g i e.n)=O (.g i e.n)/\∀b,O (.g i e.n)=some b->w'.heap[b]? =w.heap[b]?)->
  ig w' A' ρ' O' i af sz ax rsz (base+k * sz) x->bO w A ρ O i af sz ax rsz base es->bO w' A' ρ' O' i af sz ax rsz base (es.set k x)
 | [],_,_,hk,_,_,_,_=>by simp at hk
 | e::es,base,0,hk,a,d,q,h=>by
  have el:(e::es).length * sz=sz+es.length * sz:=by simp [SH];omega
  refine⟨by simpa using q,bO.move l (λp v=>a _ (by omega) (by omega) (by omega)) (λf m=> ?_) h.2⟩;obtain⟨j,o⟩:=UX.1 m;exact d (j+1) f (by omega) (by simpa using o)
 | e::es,base,k+1,hk,a,d,q,h=>by
  have el:(e::es).length * sz=sz+es.length * sz:=by simp [SH];omega
  have u:(k+1) * sz=sz+k * sz:=by rw [SH];omega
  obtain⟨h1,r,t⟩:=d 0 e (by omega) rfl;refine⟨ig.move (λj o=>a _ (by omega) (by omega) (by omega)) l h1 r t h.1,bO.set l (by simpa using hk) (λp y z B=>a p (by omega) (by omega) (by omega)) (λj f o m=>d (j+1) f (by omega) (by simpa using m)) ?_ h.2⟩;rw [show base+sz+k * sz=base+ (k+1) * sz by omega];exact q
theorem nw.mono{i:Id}{nx:Nat}{es:List Row}(a:pH i w ρ O w' ρ' O')(h:nw ρ O i nx es):nw ρ' O' i nx es:=
 ⟨h.1,h.2.1,λn hn=>by rw [(a n).1];exact h.2.2.1 n hn,λn b hn=>by rw [(a n).2.1] at hn;exact h.2.2.2 n b hn⟩
theorem cr.mono{A A':Nat->Prop}{i:Id}(q:pH i w ρ O w' ρ' O')(k:∀b,A b->A' b/\w'.heap[b]? =w.heap[b]?)(e:∀i v,ρ i=some v->ρ' i=some v)(j:O' i=O i)
  (hb:∀b,O i=some b->w'.heap[b]? =w.heap[b]?):∀{b:ab},cr w A ρ O i b->cr w' A' ρ' O' i b
 | .box cs,⟨b,arr,t,f,d,e3,g,e5⟩=>⟨b,arr,t,e _ _ f,by rw [j];exact d,by rw [hb _ d];exact e3,aw.mono k e cs _ g,e5⟩
 | .sl r sz b l,⟨v,f,d,e3⟩=>by
  refine⟨v,e _ _ f,cg.mono k (λb m=> ?_) d,by rw [j];exact e3⟩;cases r
  .simp only [R9,if_false] at m⊢;exact⟨by rw [j];exact m,hb _ m⟩
  .simp only [if_true] at m⊢;exact k _ m
 | .gX l,⟨b,f,d,e3,g⟩=>⟨b,e _ _ f,by rw [j];exact d,(k b e3).1,aP.mono k b e3 0 l g⟩
 | .arr cs,⟨b,arr,t,f,d,e3,g,e5⟩=>⟨b,arr,t,e _ _ f,by rw [j];exact d,by rw [hb _ d];exact e3,aw.mono k e cs _ g,e5⟩
 | .mp ag ks vk es,⟨b,o,n,f,d,e3,g,e5⟩=>⟨b,o,n,e _ _ f,by rw [j];exact d,by rw [hb _ d];exact e3,g,e5⟩
 | .rows b sz ax rsz nx es,h=>by
  obtain⟨a,cap,f,d,e3,g,e5⟩:=h;refine⟨a,cap,e _ _ f,d,e3,g.mono q, ?_⟩;rcases e5 with e5 | ⟨af,off,arr,t,q1,p,u,x,y⟩
  .exact .inl e5
  .exact .inr ⟨af,off,arr,t,q1,by rw [j];exact p,by rw [hb _ p];exact u,x,y.mono k (hb _ p) q⟩
 | .dead,⟨⟨v,f,e3⟩,d⟩=>⟨⟨v,e _ _ f,e3⟩,by rw [j];exact d⟩
def GK(w:World)(ρ:Id->Option Value)(O:Id->Option Nat)(w':World)(ρ':Id->Option Value)(O':Id->Option Nat):Prop:= ∀i,pH i w ρ O w' ρ' O'
theorem GK.refl:GK w ρ O w ρ O:=λ_ _=>⟨rfl,rfl,λ_ _=>rfl⟩
theorem HS.real(hs:HS c w h ρ O){i:Id}(hi:h i≠none):i.real=true:=by
 cases i with
 | g i n=>exact(hi (hs.dc i n)).elim
 | _=>rfl
theorem HS.nH(hs:HS c w h ρ O)(le:Le w ρ O w' ρ' O')
  (hblk:∀i b,h' i=some b->(h i=some b/\O' i=O i/\(∀af,O i=some af->w'.heap[af]? =w.heap[af]?)/\pH i w ρ O w' ρ' O')\/cr w' (AA c w' O') ρ' O' i b)
  (hnone:∀i,i.real=true->h' i=none->ρ' i=none/\O' i=none) (hnog:∀i n,h' (.g i n)=none)
  (hgd:∀i n,h' i=none->ρ' (.g i n)=none/\O' (.g i n)=none) (hgo:∀i n u,ρ' (.g i n)=some u->u.oneCell'=true/\u.cells= #[u])
  (inj:∀i j b,O' i=some b->O' j=some b->i=j) (lt:∀i b,O' i=some b->b < w'.heap.size):HS c w' h' ρ' O' where
 af i b hb:=by
  rcases hblk i b hb with⟨h1,h2,h3,h4⟩ | h1
  .exact cr.mono h4 (λb ha=>le.A b ha) le.dL h2 h3 (hs.af i b h1)
  .exact h1
 bS:=hnone
 dc:=hnog
 eO:=hgd
 gone:=hgo
 inj:=inj
 lt:=lt
 own i b hi:=by
  rcases le.own i b hi with⟨j,hj⟩ | h
  .exact hs.own j b hj
  .exact .inr (Sh hs.size h)
 size:=Sh hs.size le.size
theorem HS.go(hs:HS c w h ρ O)(le:Le w ρ O w' ρ' O')(a:GK w ρ O w' ρ' O')
  (e:∀i b,h' i=some b->(h i=some b/\O' i=O i/\(∀af,O i=some af->w'.heap[af]? =w.heap[af]?))\/cr w' (AA c w' O') ρ' O' i b)
  (d:∀i,i.real=true->h' i=none->ρ' i=none/\O' i=none) (o:∀i,h' i=none->h i=none) (f:∀i n,h' (.g i n)=none)
  (inj:∀i j b,O' i=some b->O' j=some b->i=j) (lt:∀i b,O' i=some b->b < w'.heap.size):HS c w' h' ρ' O':=
 hs.nH le (λi b hb=>by
  rcases e i b hb with⟨h1,l,m⟩ | h1
  .exact .inl ⟨h1,l,m,a i⟩
  .exact .inr h1) d f (λi n hi=>by
  have:=hs.eO i n (o i hi);rw [(a i n).1,(a i n).2.1];exact this) (λi n u k=>by rw [(a i n).1] at k;exact hs.gone i n u k) inj lt
theorem HS.world(hs:HS c w h ρ O)(le:Le w ρ O w' ρ O)(eQ:∀i af,O i=some af->w'.heap[af]? =w.heap[af]?):HS c w' h ρ O:=
 hs.go le (λi n=>⟨rfl,rfl,λb hb=>eQ _ b hb⟩) (λi _ hb=> .inl ⟨hb,rfl,λaf h=>eQ i af h⟩) hs.bS (λ_ h=>h) hs.dc hs.inj λi b h=>Tc (hs.lt i b h) le.size
def aA{α:Type}(f:Id->Option α)(i:Id)(v:Option α):Id->Option α:=λj=>if j=i then v else f j
@[simp] theorem aB {α:Type} (f:Id->Option α) (i:Id) (v:Option α):aA f i v i=v:=by simp [aA]
theorem al{α:Type}(f:Id->Option α){i j:Id}(v:Option α)(h:j≠i):aA f i v j=f j:=by simp [aA,h]
theorem dB(h:Id->Option ab)(i:Id)(b:ab):aG h [(i,b)]=aA h i (some b):=rfl
theorem cw(h:Id->Option ab)(i:Id)(b:ab)(us:aE):aG h ((i,b)::us)=aG (aA h i (some b)) us:=rfl
theorem lp(h:Id->Option ab):∀(us vs:aE),aG h (us++vs)=aG (aG h us) vs
 | [],_=>rfl
 | (i,b)::us,vs=>by simp only [RU,cw];exact lp _ us vs
theorem aJ{i j:Id}{n:Nat}(hr:i.real=true):Id.g j n≠i:=by rintro rfl;cases hr
theorem Le.alloc(hs:HS c w h ρ O){i:Id}(hr:i.real=true)(hi:h i=none)(o:Obj)(v:Value)(ob:Option Nat)(hob:ob=none\/ob=some w.heap.size):
  Le w ρ O (w.alloc o) (aA ρ i (some v)) (aA O i ob) where
 os:=rfl
 output:=rfl
 tape:=rfl
 size:=by simp
 dL j u hj:=by
  by_cases e:j=i
  .subst e;rw [(hs.bS _ hr hi).1] at hj;cases hj
  .rw [al _ _ e];exact hj
 af b hb _:=So _ _ _ hb
 own j b hj:=by
  by_cases e:j=i
  .subst e;rw [aB] at hj;rcases hob with rfl | rfl
   .cases hj
   .cases hj;exact .inr (R3 _)
  .rw [al _ _ e] at hj;exact .inl ⟨j,hj⟩
theorem HS.alloc(hs:HS c w h ρ O){i:Id}(hr:i.real=true)(hi:h i=none)(o:Obj)(v:Value)(ob:Option Nat)(f:ob=none\/ob=some w.heap.size)(b:ab)
  (hb:cr (w.alloc o) (AA c (w.alloc o) (aA O i ob)) (aA ρ i (some v)) (aA O i ob) i b):
  HS c (w.alloc o) (aA h i (some b)) (aA ρ i (some v)) (aA O i ob):=by
 refine hs.go (Le.alloc hs hr hi o v ob f) (λj n=>⟨al _ _ (aJ hr),al _ _ (aJ hr),λb hb=>So _ _ _ (hs.lt _ b hb)⟩) (λj p a=> ?_) (λj m a=> ?_) (λj a=> ?_) (λj n=>by rw [al _ _ (aJ hr)];exact hs.dc j n) (λj k d a hk=> ?_) (λj d a=> ?_)
 .by_cases e:j=i
  .subst e;rw [aB] at a;cases a;exact .inr hb
  .rw [al _ _ e] at a;exact .inl ⟨a,al _ _ e,λaf l=>So _ _ _ (hs.lt j af l)⟩
 .by_cases e:j=i
  .subst e;rw [aB] at a;cases a
  .rw [al _ _ e] at a;rw [al _ _ e,al _ _ e];exact hs.bS j m a
 .by_cases e:j=i
  .subst e;rw [aB] at a;cases a
  .rw [al _ _ e] at a;exact a
 .by_cases e:j=i <;> by_cases g:k=i
  .rw [e,g]
  .exfalso;rw [al _ _ g] at hk;subst e;rw [aB] at a;rcases f with rfl | rfl
   .cases a
   .cases a;exact Ua _ (hs.lt _ _ hk)
  .exfalso;rw [al _ _ e] at a;subst g;rw [aB] at hk;rcases f with rfl | rfl
   .cases hk
   .cases hk;exact Ua _ (hs.lt _ _ a)
  .rw [al _ _ e] at a;rw [al _ _ g] at hk;exact hs.inj j k d a hk
 .by_cases e:j=i
  .subst e;rw [aB] at a;rcases f with rfl | rfl
   .cases a
   .cases a;simp
  .rw [al _ _ e] at a;have:=hs.lt j d a;simp;omega
theorem Le.release{i:Id}:Le w ρ O w ρ (aA O i none) where
 os:=rfl
 output:=rfl
 tape:=rfl
 size:=R3 _
 dL _ _ h:=h
 af _ _ _:=rfl
 own j b hj:=by
  by_cases e:j=i
  .subst e;rw [aB] at hj;cases hj
  .rw [al _ _ e] at hj;exact .inl ⟨j,hj⟩
theorem HS.release(hs:HS c w h ρ O){i:Id}(hr:i.real=true)(b:ab)(hb:cr w (AA c w (aA O i none)) ρ (aA O i none) i b):HS c w (aA h i (some b)) ρ (aA O i none):=by
 refine hs.go Le.release (λj n=>⟨rfl,al _ _ (aJ hr),λ_ _=>rfl⟩) (λj l a=> ?_) (λj g a=> ?_) (λj a=> ?_) (λj n=>by rw [al _ _ (aJ hr)];exact hs.dc j n) (λj k d a hk=> ?_) (λj d a=> ?_)
 .by_cases e:j=i
  .subst e;rw [aB] at a;cases a;exact .inr hb
  .rw [al _ _ e] at a;exact .inl ⟨a,al _ _ e,λ_ _=>rfl⟩
 .by_cases e:j=i
  .subst e;rw [aB] at a;cases a
  .rw [al _ _ e] at a⊢;exact hs.bS j g a
 .by_cases e:j=i
  .subst e;rw [aB] at a;cases a
  .rw [al _ _ e] at a;exact a
 .by_cases e:j=i
  .subst e;rw [aB] at a;cases a
  .by_cases f:k=i
   .subst f;rw [aB] at hk;cases hk
   .rw [al _ _ e] at a;rw [al _ _ f] at hk;exact hs.inj j k d a hk
 .by_cases e:j=i
  .subst e;rw [aB] at a;cases a
  .rw [al _ _ e] at a;exact hs.lt j d a
theorem HS.freeze(hs:HS c w h ρ O){i:Id}{sz:Nat}{b:Bool}{l:List (List T)}(hi:h i=some (.sl false sz b l)):
  HS c w (aA h i (some (.sl true sz b l))) ρ (aA O i none):=by
 refine hs.release (hs.real (by rw [hi];simp)) _ ?_;obtain⟨v,f,g,e3⟩:=hs.af i _ hi;refine⟨v,f, ?_,λ_=>by simp⟩;simp only [if_true];have k:∀b,AA c w O b->AA c w (aA O i none) b/\w.heap[b]? =w.heap[b]?:=λb m=>(Le.release (ρ:=ρ) (i:=i)).A b m;refine cg.mono k (λaf d=> ?_) g;simp only [R9,if_false] at d;refine⟨⟨.inr (hs.own i af d),hs.lt i af d,λj a=> ?_⟩,rfl⟩;by_cases e:j=i
 .subst e;rw [aB] at a;cases a
 .rw [al _ _ e] at a;exact e (hs.inj j i af a d)
theorem HS.MP(hs:HS c w h ρ O){i:Id}{cs:List AV}{l:List T}(hi:h i=some (.box cs))(hl:dZ cs=some l):
  HS c w (aA h i (some (.gX l))) ρ (aA O i none):=by
 refine hs.release (hs.real (by rw [hi];simp)) _ ?_;obtain⟨b,arr,t,f,d,e3,g,e5⟩:=hs.af i _ hi;have m:∀b,AA c w O b->AA c w (aA O i none) b/\w.heap[b]? =w.heap[b]?:=λb o=>(Le.release (ρ:=ρ) (i:=i)).A b o;have hb:AA c w (aA O i none) b:=⟨.inr (hs.own i b d),hs.lt i b d,λj a=>by
  by_cases e:j=i
  .subst e;rw [aB] at a;cases a
  .rw [al _ _ e] at a;exact e (hs.inj j i b a d)⟩
 refine⟨b,f,by simp,hb, ?_⟩;have n:=aO.kT hl g;have key:∀(l:List T) (vs:List Value) (off:Nat),aO w (AA c w O) l vs->(∀j v,vs[j]? =some v->w.cell? ⟨b,off+j,none⟩=some v)->aP w (AA c w (aA O i none)) b off l:=by
  intro l;induction l with
  | nil=>intro vs off _ _;simp [aP]
  | cons x l p=>rintro vs off ⟨v,r,rfl,h1,k⟩ hv;simp only [aP];refine⟨⟨v,by simpa using hv 0 v rfl,au.mono m x v h1⟩,p r (off+1) k λj u a=> ?_⟩;have:=hv (j+1) u (by simpa using a);rw [show off+1+j=off+ (j+1) by omega];exact this
 refine key l _ 0 n λj v a=> ?_;simp only [World.cell?,e3,Sn];simpa using a
theorem Le.write{b:Nat}{i:Id}(hi:O i=some b)(hos:w'.os=w.os)(ho:w'.output=w.output)(ht:w'.tape=w.tape)(hsz:w'.heap.size=w.heap.size)(hk:∀k,k≠b->w'.heap[k]? =w.heap[k]?):Le w ρ O w' ρ O where
 os:=hos
 output:=ho
 tape:=ht
 size:=Nat.le_of_eq hsz.symm
 dL _ _ h:=h
 af k _ hn:=hk k λe=>hn i (e▸hi)
 own j b hj:= .inl ⟨j,hj⟩
theorem HS.write(hs:HS c w h ρ O){b:Nat}{i:Id}(hi:O i=some b)(le:Le w ρ O w' ρ O)(hk:∀k,k≠b->w'.heap[k]? =w.heap[k]?)(x:ab)
  (o:cr w' (AA c w' O) ρ O i x) (g:h i≠none):HS c w' (aA h i (some x)) ρ O:=by
 have hr:=hs.real g;refine hs.go le (λj n=>⟨rfl,rfl,λd g=>hk d λe=>aJ hr (hs.inj _ i b (e▸g) hi)⟩) (λj p a=> ?_) (λj l a=> ?_) (λj a=> ?_) (λj n=>by rw [al _ _ (aJ hr)];exact hs.dc j n) hs.inj (λj d a=>Tc (hs.lt j d a) le.size)
 .by_cases e:j=i
  .subst e;rw [aB] at a;cases a;exact .inr o
  .rw [al _ _ e] at a;exact .inl ⟨a,rfl,λaf f=>hk af λm=>e (hs.inj j i b (m▸f) hi)⟩
 .by_cases e:j=i
  .subst e;rw [aB] at a;cases a
  .rw [al _ _ e] at a;exact hs.bS j l a
 .by_cases e:j=i
  .subst e;rw [aB] at a;cases a
  .rw [al _ _ e] at a;exact a
end
def SS(w:World)(A:Nat->Prop)(ρ:Id->Option Value)(s:Nat->Option Gs×AV)(tmps:Array Value):Prop:=
 ∀k,match s k with
  | (none,v)=>ai w A ρ v (tmps.getD k undef)
  | (some g,v)=>(tmps.getD g.d undef= .bool g.want/\g.c=true/\ai w A ρ v (tmps.getD k undef))\/(tmps.getD g.d undef≠ .bool g.want/\g.c=false/\tmps.getD k undef=undef)
section
variable {c:Ctx} {w w':World} {ρ ρ':Id->Option Value} {A A':Nat->Prop} {s:Nat->Option Gs×AV} {tmps:Array Value}
theorem SS.mono(d:∀b,A b->A' b/\w'.heap[b]? =w.heap[b]?)(a:∀i v,ρ i=some v->ρ' i=some v)(hs:SS w A ρ s tmps):SS w' A' ρ' s tmps:=by
 intro k;have:=hs k;revert this;split
 .intro this;exact ai.mono d a _ _ this
 .intro this;rcases this with⟨h1,e,f⟩ | h1
  .exact .inl ⟨h1,e,ai.mono d a _ _ f⟩
  .exact .inr h1
def jG(tmps:Array Value):Option Gs->Prop
 | none=>True
 | some g=>tmps.getD g.d undef= .bool g.want/\g.c=true
theorem jG.cond{g:Option Gs}(h:jG tmps g):g.map (·.c)=none\/g.map (·.c)=some true:=by
 cases g with
 | none=>exact .inl rfl
 | some g=>exact .inr (by simp [h.2])
theorem Pe(v:Value):ai w A ρ (y9 v) v:=by
 have one:∀(u:Value) (x:T),nT u=some x->au w A x u:=by
  intro u x e;cases u <;> simp only [nT,RJ,reduceCtorEq] at e
  case slice a l g=>split at e <;> simp_all;subst e;simp [au]
  case pointer a=>split at e <;> simp_all;subst e;simp [au]
  case map a=>split at e <;> simp_all;subst e;simp [au]
  all_goals (subst e;simp [au])
 have all:∀(us:List Value) (l:List T),kS us=some l->aO w A l us:=by
  intro us;induction us with
  | nil=>intro l e;simp only [kS,RJ] at e;subst e;rfl
  | cons u us d=>
   intro l e;simp only [kS] at e;cases h1:nT u with
   | none=>simp [h1] at e
   | some x=>
    cases b:kS us with
    | none=>simp [h1,b] at e
    | some f=>simp only [h1,b,R2,RJ] at e;subst e;exact⟨u,us,rfl,one u x h1,d f b⟩
 unfold y9;split
 .rename_i cs;split
  .rename_i l e;simp only [ai];have:=all cs.toList l e;refine⟨cs.toList,by simp,aw.kU this, ?_⟩;have key:∀(l:List T) (us:List Value),aO w A l us->∀u∈us,u.oneCell'=true/\u.cells= #[u]:=by
    intro l;induction l with
    | nil=>intro us hu;simp only [aO] at hu;subst hu;simp
    | cons x l d=>
     intro us ⟨v,r,e,h1,b⟩ u hu;subst e;rcases RV.1 hu with rfl | hu
     .exact h1.pc
     .exact d r b u hu
   exact key l _ this
  .simp [ai]
 .split
  .rename_i x e;simp only [ai];exact one _ x e
  .simp [ai]
theorem SS.get{a:Act}{h:Id->Option ab}(hs:SS w A ρ s a.tmps){g:Option Gs}(hr:jG a.tmps g)(x:Operand):ai w A ρ (St.get ⟨s,h⟩ g x) (a.eval x):=by
 cases x with
 | tmp k=>
  simp only [St.get,Act.eval];have:=hs k;split at this
  .rename_i v e;simp only [e,kk,cond_true];exact this
  .rename_i d v e;simp only [e];cases g with
   | none=>simp [kk,ai]
   | some i=>
    by_cases b:kk (some d) (some i)=true
    .simp only [b,cond_true];simp only [kk,RQ,beq_iff_eq] at b;rcases this with⟨_,_,j⟩ | ⟨h1,_⟩
     .exact j
     .exfalso;apply h1;rw [b.1,b.2];exact hr.1
    .simp only [Vv] at b;simp [b,ai]
 | const v=>exact Pe v
 | func f=>simp only [St.get,Act.eval,ai];exact⟨[],[],rfl,by simp [aw],by simp [aw]⟩
 | global g=>simp [St.get,ai]
theorem SS.lT{a:Act}{h:Id->Option ab}(hs:SS w A ρ s a.tmps){g:Option Gs}(hr:jG a.tmps g)(cs x:Operand)(want:Bool)(f:a.eval cs= .bool want):
  ai w A ρ (St.lT ⟨s,h⟩ g cs want x) (a.eval x):=by
 unfold St.lT;split
 .rename_i d k;simp only [Act.eval] at f⊢;have:=hs k;split
  .rename_i b v e;simp only [e] at this;by_cases h1:(b.d==d && b.want==want)=true
   .simp only [h1,V8,cond_true];simp only [RQ,beq_iff_eq] at h1;rcases this with⟨_,_,l⟩ | ⟨j,_⟩
    .exact l
    .exfalso;apply j;rw [h1.1,h1.2];exact f
   .simp only [Vv] at h1;simp only [h1,SP];have i:=SS.get (h:=h) hs hr (.tmp k);simp only [St.get,e,Act.eval] at i;exact i
  .rename_i v e;simp only [e] at this;exact this
 .exact SS.get hs hr _
end
end Go.Aev
