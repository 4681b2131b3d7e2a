import Derived.Test.YticjdhgokemdlaaGreatMostTakesQ8
set_option linter.unusedSimpArgs false
set_option linter.unusedVariables false
namespace Go.Aev.Wd
open Go Go.Aev Go.Aev.Gen
theorem fh{z:Int}{s:Bool}{d:List Int}(h:Rep z s d):val d= (z.natAbs:Int):=by
 have h1:=h.z
 have h2:=bf h.dg
 unfold num at h1
 split at h1 <;> omega
theorem f7{z:Int}{s:Bool}{d:List Int}(h:Rep z s d):s=decide (z < 0):=by
 have h1:=h.z
 have h2:=bf h.dg
 cases s with
 | false=>simp [num] at h1;simp;omega
 | true=>
  have:=iY h.dg h.can (h.sg rfl)
  simp [num] at h1;simp;omega
theorem kD{n m:Nat}(h:n<=m):(4294967296:Int) ^ n<=4294967296 ^ m:=by
 have:m=n+ (m - n):=by omega
 rw [this,Int.pow_add]
 have h4:(4294967296:Int) ^ n * 1<=4294967296 ^ n * 4294967296 ^ (m - n):=Int.mul_le_mul_of_nonneg_left (by have:=bP (m - n);omega) (Int.le_of_lt (bP _))
 omega
theorem pp{z:Int}{s:Bool}{d:List Int}(h:Rep z s d)(n:Nat)(hz:(z.natAbs:Int) < 4294967296 ^ n):d.length<=n:=by
 rcases Nat.lt_or_ge n d.length with hl | hl
 ·exfalso
  have h1:=pc (k:=d.length - 1) h.dg h.can (by omega)
  rw [fh h] at h1
  have h2:(4294967296:Int) ^ n<=4294967296 ^ (d.length - 1):=kD (by omega)
  omega
 ·exact hl
theorem iI{z:Int}{s:Bool}{d:List Int}(h:Rep z s d)(hz: -18446744073709551616 < z/\z < 18446744073709551616):d.length<=2:=pp h 2 (by
 rw [show((4294967296:Int) ^ 2)=18446744073709551616 from by decide];omega)
theorem BQ(a b:Nat)(hb:b < 2 ^ 32):a * 2 ^ 32 ||| b=a * 2 ^ 32+b:=by
 rw [Nat.mul_comm,Nat.two_pow_add_eq_or_of_lt hb]
theorem fG{v n:Int}(hv: 0<=v/\v < 4294967296)(hn: 0<=n/\n < 4294967296):
  IntKind.u64.wrap (((BitVec.ofInt 64 (IntKind.u64.wrap (v * (2:Int) ^ 32)) ||| BitVec.ofInt 64 (IntKind.u64.wrap n)).toNat:Nat):Int)=v * 4294967296+n:=by
 obtain⟨a,rfl⟩:=Int.eq_ofNat_of_zero_le hv.1
 obtain⟨b,rfl⟩:=Int.eq_ofNat_of_zero_le hn.1
 have h1:IntKind.u64.wrap ((a:Int) * (2:Int) ^ 32)= ((a * 2 ^ 32:Nat):Int):=by
  rw [show((2:Int) ^ 32)=4294967296 from by decide,w64 (by omega)]
  omega
 have h2:IntKind.u64.wrap (b:Int)= ((b:Nat):Int):=w64 (by omega)
 have e1:(a * 2 ^ 32) % 2 ^ 64=a * 2 ^ 32:=Nat.mod_eq_of_lt (by omega)
 have e2:b % 2 ^ 64=b:=Nat.mod_eq_of_lt (by omega)
 rw [h1,h2,BitVec.ofInt_natCast,BitVec.ofInt_natCast,BitVec.toNat_or,BitVec.toNat_ofNat,BitVec.toNat_ofNat,e1,e2,BQ a b (by omega),w64 (by omega)]
 omega
theorem k53(s e:Bool)(d:List Int)(hd:Dg d)(k:Nat)(hk:k < d.length)(hl:d.length<=2)(v:Int)(hv: 0<=v/\v < 4294967296)(R:List T)
  (h:Or iW [AV.t (T.ptr [tb s,T.lst 1 e (ac d)]),AV.t (T.int .u64 (v * 4294967296+dat d k)),I ((k:Int) - 1)] []=some R):
  Or iW [AV.t (T.ptr [tb s,T.lst 1 e (ac d)]),AV.t (T.int .u64 v),I (k:Int)] []=some R:=by
 have h1:(k:Int)>=0:=by omega
 have h2: 0<=(k:Int)/\(k:Int) < (d.length:Int):=by omega
 have hm:dat d k∈d:=by
  simp only [dat,List.getD_eq_getElem?_getD,List.getElem?_eq_getElem hk,Option.getD_some]
  exact List.getElem_mem hk
 have hw:IntKind.i64.wrap ((k:Int) - 1)= (k:Int) - 1:=wr (by omega)
 refine aa ?_
 rw [vM]
 simp only [STL,↓reduceIte,Int.reduceBEq,Int.reduceEq,GD,h1,h2,and_self,af,aq hk,fG hv (hd _ hm),hw]
 exact h
theorem z53(s e:Bool)(d:List Int)(v:Int):Or iW [AV.t (T.ptr [tb s,T.lst 1 e (ac d)]),AV.t (T.int .u64 v),I (-1)] []=some [T.int .u64 v]:=by
 refine aa ?_
 rw [vM]
 have h1:¬(-1:Int)>=0:=by omega
 simp only [STL,↓reduceIte,Int.reduceBEq,Int.reduceEq,GD,h1]
theorem s53(s e:Bool)(d:List Int)(hd:Dg d)(hl:d.length<=2):Or (.call 111) [AV.t (T.ptr [tb s,T.lst 1 e (ac d)])] []=some [T.int .u64 (val d)]:=by
 refine aa ?_
 rw [e53,af,vX]
 match d,hd,hl with
 | [],_,_=>
  rw [wr (by simp;omega)]
  exact z53 s e [] _
 | [a],hd,_=>
  rw [show(min (([a]:List Int).length:Int) 2 - 1)= ((0:Nat):Int) from by simp;omega,wr (by simp)]
  refine k53 s e [a] hd 0 (by simp) (by simp) 0 (by omega) _ ?_
  rw [show(((0:Nat):Int) - 1)= -1 from rfl,show((0:Int) * 4294967296+dat [a] 0)=val [a] from by simp [dat,val]]
  exact z53 s e [a] _
 | [a,b],hd,_=>
  rw [show(min (([a,b]:List Int).length:Int) 2 - 1)= ((1:Nat):Int) from by simp;try omega,wr (by simp)]
  have hb:=hd b (by simp)
  refine k53 s e [a,b] hd 1 (by simp) (by simp) 0 (by omega) _ ?_
  rw [show(((1:Nat):Int) - 1)= ((0:Nat):Int) from rfl,show((0:Int) * 4294967296+dat [a,b] 1)=b from by simp [dat]]
  refine k53 s e [a,b] hd 0 (by simp) (by simp) b hb _ ?_
  rw [show(((0:Nat):Int) - 1)= -1 from rfl,show(b * 4294967296+dat [a,b] 0)=val [a,b] from by simp [dat,val];omega]
  exact z53 s e [a,b] _
 | a::b::c::r,_,hl=>simp at hl
theorem wz(s e:Bool)(d:List Int)(hd:d.length<=1000):∀(k:Nat),k<=d.length->
  Or nq [r0,I (k:Int)] [Blk.box [AV.t (T.bool s),lu e d]]=some [T.nilp,tb (s && decide (bz d k≠0)),T.lst 1 e (ac (d.take (bz d k)))]
 | 0,hk=>by
  refine aa ?_
  rw [xf]
  have hi:inB 0 ((0:Nat):Int) (d.length:Int)=some ():=by unfold inB;rw [if_pos (by omega)]
  have h0:¬((0:Nat):Int) > 0:=by omega
  have h1:((0:Nat):Int)=0:=rfl
  simp only [STL,↓reduceIte,Int.reduceBEq,Int.reduceEq,GD,gdF,h0,af,decide_false,hi]
  simp [bz,ac,sub]
 | k+1,hk=>by
  refine aa ?_
  rw [xf]
  have h0:((k+1:Nat):Int) > 0:=by omega
  have hw:IntKind.i64.wrap (((k+1:Nat):Int) - 1)= (k:Int):=by rw [wr (by omega)];omega
  have h2: 0<=(k:Int)/\(k:Int) < (d.length:Int):=by omega
  have hi:inB 0 ((k+1:Nat):Int) (d.length:Int)=some ():=by unfold inB;rw [if_pos (by omega)]
  have h3:¬((k+1:Nat):Int)=0:=by omega
  by_cases hz:dat d k=0
  ·have:=wz s e d hd k (by omega)
   rw [bz,if_pos hz]
   simp only [STL,↓reduceIte,Int.reduceBEq,Int.reduceEq,GD,h0,hw,h2,and_self,af,aq (show k < d.length by omega),hz,decide_true]
   exact this
  ·rw [bz,if_neg hz]
   simp only [STL,↓reduceIte,Int.reduceBEq,Int.reduceEq,GD,h0,hw,h2,and_self,af,aq (show k < d.length by omega),hz,decide_true,hi,h3]
   simp [ac,List.map_take,sub]
theorem sf(s e:Bool)(d:List Int)(hd:d.length<=1000):
  Or (.call 125) [r0] [Blk.box [AV.t (T.bool s),lu e d]]=some [T.nilp,tb (s && decide (ay d≠[])),T.lst 1 e (ac (ay d))]:=by
 have:=wz s e d hd d.length (Nat.le_refl _)
 have hne:decide (ay d≠[])=decide (bz d d.length≠0):=by
  refine decide_eq_decide.2 ?_
  have:=nJ d d.length
  unfold ay
  constructor
  ·intro h h'
   rw [h'] at h;exact h rfl
  ·intro h h'
   have:=congrArg List.length h'
   simp only [List.length_take,List.length_nil] at this
   omega
 refine aa ?_
 rw [zW,af,hne]
 exact this
theorem wW(s3 s2:Bool)(A B:Int)(hA: 0<=A)(hB: 0 < B):
  (if s2=true then -A else A).tdiv (if s3=true then -B else B)= (if(!(s2==s3))=true then -(A / B) else A / B)/\(if s2=true then -A else A).tmod (if s3=true then -B else B)= (if s2=true then -(A % B) else A % B):=by
 have h1:A.tdiv B=A / B:=Int.tdiv_eq_ediv_of_nonneg hA
 have h2:A.tmod B=A % B:=Int.tmod_eq_emod_of_nonneg hA
 cases s2 <;> cases s3 <;> simp [Int.neg_tdiv,Int.tdiv_neg,Int.neg_tmod,Int.tmod_neg,h1,h2]
def wd(z m:Int)(r:Option (List T)):Prop:= ∃s e d s' e' d',r=some [T.nilp,T.nilp,tb s,T.lst 1 e (ac d),tb s',T.lst 1 e' (ac d')]/\Rep z s d/\Rep m s' d'/\d.length<=2/\d'.length<=2
theorem tG{z:Int}{s:Bool}{d:List Int}(h:Rep z s d)(hz:z≠0): 0 < val d:=by rw [fh h];omega
theorem s70(s:Bool)(y:T)(s2 e2 s3 e3 s4:Bool)(y4:T)(a b:List Int)(u v:Int)(ha:Rep u s2 a)(hb:Rep v s3 b)(la:a.length<=2)(lb:b.length<=2)(hv:v≠0):
  wd (u.tdiv v) (u.tmod v) (Or (.call 139) [r0,AV.t (T.ptr [tb s2,T.lst 1 e2 (ac a)]),AV.t (T.ptr [tb s3,T.lst 1 e3 (ac b)]),AV.ref (Id.c 1) 0] [Blk.box [AV.t (T.bool s),AV.t y],Blk.box [AV.t (T.bool s4),AV.t y4]]):=by
 have h67:=s67 a b s2 e2 s3 e3 ha.dg hb.dg ha.can hb.can (by omega) (by omega)
 have hA:=bf ha.dg
 have hB:=tG hb hv
 obtain⟨hq,hm⟩:=wW s3 s2 (val a) (val b) hA hB
 have hu:=ha.z
 have hv':=hb.z
 unfold num at hu hv'
 rw [hu,hv'] at hq hm
 by_cases hc:val a < val b
 ·have h0:ao (val a) (val b) < 0:=by unfold ao;rw [if_pos hc];omega
  obtain⟨s',e',d',k1,k2,k3⟩:=s48 s y 0 (by omega)
  rw [Int.ediv_eq_zero_of_lt hA hc] at hq
  rw [Int.emod_eq_of_lt hA hc,hu] at hm
  refine⟨s',e',d',s2,false,a,aa ?_, ?_,by rw [hm];exact ha,k3,la⟩
  ·rw [e70]
   simp only [STL,↓reduceIte,Int.reduceBEq,Int.reduceEq,GD,h67,h0,s69 s4 y4 s2 e2 a (by omega),k1]
  ·rw [hq];simpa using k2
 ·have h0:¬ao (val a) (val b) < 0:=by unfold ao;rw [if_neg hc];split <;> omega
  have h3:(a.length:Int) < 3:=by omega
  have h53a:=s53 s2 e2 a ha.dg la
  have h53b:=s53 s3 e3 b hb.dg lb
  have lta:=bw ha.dg
  have ltb:=bw hb.dg
  have hp:∀d:List Int,d.length<=2->(4294967296:Int) ^ d.length<=18446744073709551616:=fun d hd=>by
   have h2:(4294967296:Int) ^ d.length<=4294967296 ^ 2:=kD hd
   rw [show((4294967296:Int) ^ 2)=18446744073709551616 from by decide] at h2
   exact h2
  have hpa:=hp a la
  have hpb:=hp b lb
  have hne:¬val b=0:=by omega
  have hdd1: 0<=val a / val b:=Int.ediv_nonneg hA (by omega)
  have hdd2:val a / val b<=val a:=Int.ediv_le_self _ hA
  have hdd3: 0<=val a % val b:=Int.emod_nonneg _ hne
  have hdd4:val a % val b < val b:=Int.emod_lt_of_pos _ hB
  have hw:IntKind.u64.wrap ((val a).tdiv (val b))=val a / val b:=by rw [Int.tdiv_eq_ediv_of_nonneg hA,w64 (by omega)]
  have hw2:(val a).tmod (val b)=val a % val b:=Int.tmod_eq_emod_of_nonneg hA
  obtain⟨e5,d5,k51,k52,k53,k54,k55⟩:=s65 s y (val a / val b) (by omega)
  obtain⟨e6,d6,k61,k62,k63,k64,k65⟩:=s65 s4 y4 (val a % val b) (by omega)
  have t5:=sf (!s2==s3) e5 d5 (by omega)
  have t6:=sf s2 e6 d6 (by omega)
  have l5:=ic d5
  have l6:=ic d6
  refine⟨(!s2==s3) && decide (ay d5≠[]),e5,ay d5,s2 && decide (ay d6≠[]),e6,ay d6,aa ?_,fV (s:= !s2==s3) k52 ?_,fV (s:=s2) k62 ?_,by omega,by omega⟩
  ·rw [e70]
   simp only [STL,↓reduceIte,Int.reduceBEq,Int.reduceEq,GD,h67,h0,af,h3,h53a,h53b,hne,hw,hw2,k51,k61,t5,t6]
  ·rw [hq];unfold num;rw [k54]
  ·rw [hm];unfold num;rw [k64]
theorem uZ{u v:Int}(hv: 0 < v):(u.tmod v < 0->u.tdiv v - 1=u / v/\u.tmod v+v=u % v)/\(¬u.tmod v < 0->u.tdiv v=u / v/\u.tmod v=u % v):=by
 have h1:u.tdiv v=u / v+if 0<=u\/v ∣ u then 0 else v.sign:=Int.tdiv_eq_ediv
 have h2:u.tmod v=u % v - if 0<=u\/v ∣ u then 0 else v.natAbs:=Int.tmod_eq_emod
 have h3:=Int.emod_nonneg u (show v≠0 by omega)
 have h4:=Int.emod_lt_of_pos u hv
 have hs:v.sign=1:=Int.sign_eq_one_of_pos hv
 rw [hs] at h1
 split at h1
 ·rename_i h
  rw [if_pos h] at h2
  constructor <;> intro _ <;> omega
 ·rename_i h
  rw [if_neg h] at h2
  constructor <;> intro _ <;> omega
theorem s52(s:Bool)(y:T)(s2 e2 s3 e3 s4:Bool)(y4:T)(a b:List Int)(u v:Int)(ha:Rep u s2 a)(hb:Rep v s3 b)(hu: -9223372036854775808 < u/\u < 9223372036854775808)(hv: 0 < v/\v < 9223372036854775808):
  wd (u / v) (u % v) (Or (.call 138) [r0,AV.t (T.ptr [tb s2,T.lst 1 e2 (ac a)]),AV.t (T.ptr [tb s3,T.lst 1 e3 (ac b)]),AV.ref (Id.c 1) 0] [Blk.box [AV.t (T.bool s),AV.t y],Blk.box [AV.t (T.bool s4),AV.t y4]]):=by
 have la:=iI ha (by omega)
 have lb:=iI hb (by omega)
 have h69:=s69 false (T.emp true) s3 e3 b (by omega)
 obtain⟨sq,eq,dq,sm,em,dm,k1,k2,k3,k4,k5⟩:=s70 s y s2 e2 s3 e3 s4 y4 a b u v ha hb la lb (by omega)
 have hs3:=f7 hb
 have:s3=false:=by rw [hs3];simp;omega
 subst this
 have hsm:=f7 k3
 obtain⟨f1,f2⟩:=uZ (u:=u) hv.1
 have g1:=Int.emod_nonneg u (show v≠0 by omega)
 have g2:=Int.emod_lt_of_pos u hv.1
 have g3:=Int.mul_ediv_add_emod u v
 have g4: -9223372036854775808<=u / v/\u / v<=9223372036854775808:=by
  constructor
  ·apply Int.le_ediv_of_mul_le hv.1
   have: -9223372036854775808 * v<= -9223372036854775808 * 1:=Int.mul_le_mul_of_nonpos_left (by omega) (by omega)
   omega
  ·apply Int.ediv_le_of_le_mul hv.1
   have: 9223372036854775808 * 1<=9223372036854775808 * v:=Int.mul_le_mul_of_nonneg_left (by omega) (by omega)
   omega
 by_cases hn:u.tmod v < 0
 ·have:sm=true:=by rw [hsm];simpa using hn
  subst this
  obtain⟨q1,q2⟩:=f1 hn
  obtain⟨x1,j1,j2⟩:=s35 1 (by omega)
  obtain⟨s',e',d',rfl,j3⟩:=j2
  have l1:=iI j3 (by omega)
  obtain⟨sq',eq',dq',m1,m2,m3⟩:=uV sq eq s' e' dq d' _ _ k2 j3 (by omega) (by omega)
  obtain⟨sm',em',dm',w1,w2,w3⟩:=ke true em false false dm b _ _ k3 hb (by omega) (by omega)
  rw [q1] at m2
  rw [q2] at w2
  refine⟨sq',eq',dq',sm',em',dm',aa ?_,m2,w2,iI m2 (by omega),iI w2 (by omega)⟩
  rw [e52]
  simp only [STL,↓reduceIte,Int.reduceBEq,Int.reduceEq,GD,h69,k1,j1,m1,w1]
 ·have:sm=false:=by rw [hsm];simpa using hn
  subst this
  obtain⟨q1,q2⟩:=f2 hn
  rw [q1] at k2
  rw [q2] at k3
  refine⟨sq,eq,dq,false,em,dm,aa ?_,k2,k3,k4,k5⟩
  rw [e52]
  simp only [STL,↓reduceIte,Int.reduceBEq,Int.reduceEq,GD,h69,k1]
open Go Go.Aev Go.Aev.Gen
section
variable {U V P w0 v0 u2 v2 v1 Tt q qh rh:Int}
theorem vV(hP: 0 < P)(hU:U=w0+P * u2+4294967296 * (P * Tt))(hV:V=v0+P * v2+4294967296 * (P * v1))(hw: 0<=w0/\w0 < P)(hv0: 0<=v0)(hu2:u2 < 4294967296)(hv2: 0<=v2)(hq: 0<=q)(hqV:q * V<=U):q * v1<=Tt:=by
 rcases Int.lt_or_le Tt (q * v1) with h | h
 ·exfalso
  have h1:P * (Tt+1)<=P * (q * v1):=Int.mul_le_mul_of_nonneg_left (by omega) (by omega)
  have h2:P * u2<=P * 4294967295:=Int.mul_le_mul_of_nonneg_left (by omega) (by omega)
  have h3: 0<=q * v0:=Int.mul_nonneg hq hv0
  have h4: 0<=P * (q * v2):=Int.mul_nonneg (by omega) (Int.mul_nonneg hq hv2)
  have e:q * V=q * v0+P * (q * v2)+4294967296 * (P * (q * v1)):=by
   rw [hV,Int.mul_add,Int.mul_add,Int.mul_left_comm q P,Int.mul_left_comm q 4294967296,Int.mul_left_comm q P]
  rw [Int.mul_add] at h1
  omega
 ·exact h
theorem wh(hP: 0 < P)(hU:U=w0+P * u2+4294967296 * (P * Tt))(hV:V=v0+P * v2+4294967296 * (P * v1))(hw: 0<=w0/\w0 < P)(hv0: 0<=v0)(hqh: 0<=qh)(hT:qh * v1+rh=Tt)(hq:q * V<=U)(hc:qh * v2 > rh * 4294967296+u2)(hVp: 0 < V):q<=qh - 1:=by
 have h1:U < qh * V:=by
  have e:qh * V=qh * v0+P * (qh * v2)+4294967296 * (P * (qh * v1)):=by
   rw [hV,Int.mul_add,Int.mul_add,Int.mul_left_comm qh P,Int.mul_left_comm qh 4294967296,Int.mul_left_comm qh P]
  have h2:P * (rh * 4294967296+u2+1)<=P * (qh * v2):=Int.mul_le_mul_of_nonneg_left (by omega) (by omega)
  have h3: 0<=qh * v0:=Int.mul_nonneg hqh hv0
  have e2:P * Tt=P * (qh * v1)+P * rh:=by rw [<-hT,Int.mul_add]
  have e3:P * (rh * 4294967296+u2+1)=4294967296 * (P * rh)+P * u2+P:=by
   rw [Int.mul_add,Int.mul_add,Int.mul_one,<-Int.mul_assoc P rh,Int.mul_comm (P * rh)]
  omega
 rcases Int.lt_or_le (qh - 1) q with h | h
 ·exfalso
  have:qh * V<=q * V:=Int.mul_le_mul_of_nonneg_right (by omega) (by omega)
  omega
 ·exact h
theorem oF(hP: 0 < P)(hU:U=w0+P * u2+4294967296 * (P * Tt))(hV:V=v0+P * v2+4294967296 * (P * v1))(hw: 0<=w0)(hv0: 0<=v0/\v0 < P)(hv2: 0<=v2)(hv1: 1<=v1)(hqh: 0<=qh/\qh<=4294967296)(hT:qh * v1+rh=Tt)(hc:qh * v2<=rh * 4294967296+u2):(qh - 1) * V<=U:=by
 have e:qh * V=qh * v0+P * (qh * v2)+4294967296 * (P * (qh * v1)):=by
  rw [hV,Int.mul_add,Int.mul_add,Int.mul_left_comm qh P,Int.mul_left_comm qh 4294967296,Int.mul_left_comm qh P]
 have h2:P * (qh * v2)<=P * (rh * 4294967296+u2):=Int.mul_le_mul_of_nonneg_left hc (by omega)
 have e3:P * (rh * 4294967296+u2)=4294967296 * (P * rh)+P * u2:=by
  rw [Int.mul_add,<-Int.mul_assoc P rh,Int.mul_comm (P * rh)]
 have e2:P * Tt=P * (qh * v1)+P * rh:=by rw [<-hT,Int.mul_add]
 have h3:qh * v0<=4294967296 * v0:=Int.mul_le_mul_of_nonneg_right hqh.2 hv0.1
 have h4:P * 1<=P * v1:=Int.mul_le_mul_of_nonneg_left hv1 (by omega)
 have h5: 0<=P * v2:=Int.mul_nonneg (by omega) hv2
 have e4:(qh - 1) * V=qh * V - V:=by rw [Int.sub_mul,Int.one_mul]
 omega
end
theorem Dg.append{a b:List Int}(ha:Dg a)(hb:Dg b):Dg (a++b):=fun u hu=>by
 rcases List.mem_append.1 hu with hu | hu
 ·exact ha u hu
 ·exact hb u hu
theorem Dg.left{a b:List Int}(h:Dg (a++b)):Dg a:=fun u hu=>h u (List.mem_append_left _ hu)
theorem Dg.right{a b:List Int}(h:Dg (a++b)):Dg b:=fun u hu=>h u (List.mem_append_right _ hu)
def msL(q:Int):List Int->List Int->Int->Int->List Int
 | x::us,a::vs,c,b=>((x - (c+q * a) % 4294967296 - b) % 4294967296)::msL q us vs ((c+q * a) / 4294967296) (bor (x - (c+q * a) % 4294967296 - b))
 | us,_,_,_=>us
def msC(q:Int):List Int->List Int->Int->Int->Int×Int
 | x::us,a::vs,c,b=>msC q us vs ((c+q * a) / 4294967296) (bor (x - (c+q * a) % 4294967296 - b))
 | _,_,c,b=>(c,b)
theorem rP(v:Int): 0<=bor v/\bor v<=1:=by unfold bor;split <;> omega
theorem qf{q:Int}(hq: 0<=q/\q < 4294967296):∀{us vs:List Int} {c b:Int},us.length=vs.length->Dg us->Dg vs->0<=c/\c < 4294967296->0<=b/\b<=1->
  val (msL q us vs c b)=val us - q * val vs - c - b+4294967296 ^ us.length * ((msC q us vs c b).1+ (msC q us vs c b).2)/\(msL q us vs c b).length=us.length/\Dg (msL q us vs c b)/\0<=(msC q us vs c b).1/\(msC q us vs c b).1 < 4294967296/\0<=(msC q us vs c b).2/\(msC q us vs c b).2<=1
 | [],[],c,b,_,_,_,hc,hb=>by
  refine⟨by simp [msL,msC,val];omega,rfl,(by intro a ha;cases ha),hc.1,hc.2,hb.1,hb.2⟩
 | [],a::vs,c,b,h,_,_,_,_=>by simp at h
 | x::us,[],c,b,h,_,_,_,_=>by simp at h
 | x::us,a::vs,c,b,h,hu,hv,hc,hb=>by
  have hx:=hu x List.mem_cons_self
  have ha:=dI hq (hv a List.mem_cons_self)
  obtain⟨i1,i2,i3,i4⟩:=qf hq (us:=us) (vs:=vs) (c:=(c+q * a) / 4294967296) (b:=bor (x - (c+q * a) % 4294967296 - b)) (by simpa using h) hu.tail hv.tail (by omega) (rP _)
  refine⟨?_,by simp [msL,i2], ?_,by rw [msC];exact i4⟩
  ·simp only [msL,msC,val,List.length_cons,Int.pow_succ]
   rw [i1]
   have e1:q * (a+4294967296 * val vs)=q * a+4294967296 * (q * val vs):=by rw [Int.mul_add,Int.mul_left_comm]
   rw [e1,Int.mul_comm ((4294967296:Int) ^ us.length) 4294967296,Int.mul_assoc]
   generalize (4294967296:Int) ^ us.length * _=K
   unfold bor
   split <;> omega
  ·intro u hu'
   simp only [msL] at hu'
   rcases List.mem_cons.1 hu' with rfl | hu'
   ·omega
   ·exact i3 u hu'
def abL:List Int->List Int->Int->List Int
 | x::us,a::vs,c=>((c+ (x+a)) % 4294967296)::abL us vs ((c+ (x+a)) / 4294967296)
 | us,_,_=>us
def abC:List Int->List Int->Int->Int
 | x::us,a::vs,c=>abC us vs ((c+ (x+a)) / 4294967296)
 | _,_,c=>c
theorem qm:∀{us vs:List Int} {c:Int},us.length=vs.length->Dg us->Dg vs->0<=c/\c<=1->
  val (abL us vs c)+4294967296 ^ us.length * abC us vs c=val us+val vs+c/\(abL us vs c).length=us.length/\Dg (abL us vs c)/\0<=abC us vs c/\abC us vs c<=1
 | [],[],c,_,_,_,hc=>by
  exact⟨by simp [abL,abC,val],rfl,(by intro a ha;cases ha),hc.1,hc.2⟩
 | [],a::vs,c,h,_,_,_=>by simp at h
 | x::us,[],c,h,_,_,_=>by simp at h
 | x::us,a::vs,c,h,hu,hv,hc=>by
  have hx:=hu x List.mem_cons_self
  have ha:=hv a List.mem_cons_self
  obtain⟨i1,i2,i3,i4⟩:=qm (us:=us) (vs:=vs) (c:=(c+ (x+a)) / 4294967296) (by simpa using h) hu.tail hv.tail (by omega)
  refine⟨?_,by simp [abL,i2], ?_,by rw [abC];exact i4⟩
  ·simp only [abL,abC,val,List.length_cons,Int.pow_succ]
   rw [Int.mul_comm ((4294967296:Int) ^ us.length) 4294967296,Int.mul_assoc]
   generalize (4294967296:Int) ^ us.length * _=K at i1⊢
   omega
  ·intro u hu'
   simp only [abL] at hu'
   rcases List.mem_cons.1 hu' with rfl | hu'
   ·omega
   ·exact i3 u hu'
theorem qF{a k m:Int}(hm: 0 < m):(a * m) % (k * m)= (a % k) * m:=by
 rw [Int.mul_comm a m,Int.mul_comm k m,Int.mul_emod_mul_of_pos _ _ hm,Int.mul_comm]
def bm(m:Int):List Int->Int->List Int
 | [],c=> [c]
 | a::x,c=>((a * m) % 4294967296+c)::bm m x (a * m / 4294967296)
theorem kO{m k:Int}(hm: 0 < m)(hk: 4294967296=k * m):∀{x:List Int} {c:Int},Dg x->0<=c/\c < m->val (bm m x c)=val x * m+c/\(bm m x c).length=x.length+1/\Dg (bm m x c)
 | [],c,_,hc=>by
  have hkp: 0 < k:=by
   rcases Int.lt_or_le 0 k with h | h
   ·exact h
   ·have:=Int.mul_nonneg (Int.neg_nonneg_of_nonpos h) (Int.le_of_lt hm);rw [Int.neg_mul] at this;omega
  have hmk:m * 1<=m * k:=Int.mul_le_mul_of_nonneg_left (by omega) (by omega)
  rw [Int.mul_comm m k,<-hk] at hmk
  refine⟨by simp [bm,val],rfl,fun a ha=> ?_⟩
  simp only [bm,List.mem_singleton] at ha
  subst ha;omega
 | a::x,c,h,hc=>by
  have ha:=h a List.mem_cons_self
  have h0: 0<=a * m:=Int.mul_nonneg ha.1 (by omega)
  have h1:a * m < 4294967296 * m:=Int.mul_lt_mul_of_pos_right ha.2 hm
  have h2:a * m / 4294967296 < m:=by
   rw [Int.ediv_lt_iff_lt_mul (by decide),Int.mul_comm m];exact h1
  have h3: 0<=a * m / 4294967296:=Int.ediv_nonneg h0 (by decide)
  obtain⟨i1,i2,i3⟩:=kO hm hk (x:=x) (c:=a * m / 4294967296) h.tail ⟨h3,h2⟩
  refine⟨?_,by simp [bm,i2], ?_⟩
  ·simp only [bm,val]
   rw [i1,Int.add_mul,Int.mul_assoc 4294967296 (val x) m]
   omega
  ·intro u hu
   simp only [bm] at hu
   rcases List.mem_cons.1 hu with rfl | hu
   ·
    have hd:(a * m) % 4294967296= (a % k) * m:=by
     conv=>lhs;rw [hk]
     rw [qF hm]
    have hkp: 0 < k:=by
     rcases Int.lt_or_le 0 k with h | h
     ·exact h
     ·have:=Int.mul_nonneg (Int.neg_nonneg_of_nonpos h) (Int.le_of_lt hm);rw [Int.neg_mul] at this;omega
    have h5:=Int.emod_lt_of_pos a hkp
    have h6:=Int.emod_nonneg a (show k≠0 by omega)
    have h7:(a % k+1) * m<=k * m:=Int.mul_le_mul_of_nonneg_right (by omega) (by omega)
    have h8: 0<=(a % k) * m:=Int.mul_nonneg h6 (by omega)
    rw [Int.add_mul,Int.one_mul,<-hk] at h7
    rw [hd]
    omega
   ·exact i3 u hu
def aL(m k:Int):List Int->List Int
 | []=> []
 | [a]=> [a / m]
 | a::b::r=>(a / m+ (b * k) % 4294967296)::aL m k (b::r)
theorem pg{m k:Int}(hm: 0 < m)(hk: 4294967296=k * m)(hkp: 0 < k):∀{x:List Int},Dg x->val (aL m k x)=val x / m/\(aL m k x).length=x.length/\Dg (aL m k x)
 | [],_=>by simp [aL,val,Dg]
 | [a],h=>by
  have ha:=h a List.mem_cons_self
  have h1: 0<=a / m:=Int.ediv_nonneg ha.1 (by omega)
  have h2:a / m<=a:=Int.ediv_le_self _ ha.1
  refine⟨by simp [aL,val],rfl,fun u hu=> ?_⟩
  simp only [aL,List.mem_singleton] at hu
  subst hu;omega
 | a::b::r,h=>by
  obtain⟨i1,i2,i3⟩:=pg hm hk hkp (x:=b::r) h.tail
  have ha:=h a List.mem_cons_self
  have hb:=h b (by simp)
  have hbd:(b * k) % 4294967296= (b % m) * k:=by
   conv=>lhs;rw [hk,Int.mul_comm k m]
   rw [qF hkp]
  refine⟨?_,by rw [aL,List.length_cons,i2];rfl, ?_⟩
  ·have e1:val (a::b::r) / m=a / m+k * val (b::r):=by
    rw [show val (a::b::r)=a+4294967296 * val (b::r) from rfl]
    conv=>lhs;rw [hk,Int.mul_comm k m,Int.mul_assoc]
    rw [Int.add_mul_ediv_left _ _ (by omega)]
   have e2:val (b::r) / m=b / m+k * val r:=by
    rw [show val (b::r)=b+4294967296 * val r from rfl]
    conv=>lhs;rw [hk,Int.mul_comm k m,Int.mul_assoc]
    rw [Int.add_mul_ediv_left _ _ (by omega)]
   have e3:=Int.mul_ediv_add_emod b m
   rw [e1]
   simp only [aL,val]
   rw [i1,e2,hbd]
   have e4: 4294967296 * (b / m+k * val r)=k * (m * (b / m))+4294967296 * (k * val r):=by
    rw [Int.mul_add]
    conv=>lhs;rw [hk,Int.mul_assoc]
    rw [<-hk]
   have e5:k * (b+4294967296 * val r)=k * (m * (b / m))+ (b % m) * k+4294967296 * (k * val r):=by
    rw [Int.mul_add,Int.mul_left_comm k 4294967296]
    conv=>lhs;rw [<-e3,Int.mul_add,Int.mul_comm k (b % m)]
   rw [e4,e5];omega
  ·intro u hu
   simp only [aL] at hu
   rcases List.mem_cons.1 hu with rfl | hu
   ·rw [hbd]
    have h5:=Int.emod_lt_of_pos b hm
    have h6:=Int.emod_nonneg b (show m≠0 by omega)
    have h7:(b % m+1) * k<=m * k:=Int.mul_le_mul_of_nonneg_right (by omega) (by omega)
    have h8: 0<=(b % m) * k:=Int.mul_nonneg h6 (by omega)
    rw [Int.add_mul,Int.one_mul,Int.mul_comm m k,<-hk] at h7
    have h9: 0<=a / m:=Int.ediv_nonneg ha.1 (by omega)
    have h10:a / m < k:=by
     rw [Int.ediv_lt_iff_lt_mul hm,<-hk];exact ha.2
    omega
   ·exact i3 u hu
open Go Go.Aev Go.Aev.Gen
abbrev u6(n:Int):AV:=AV.t (T.int .u64 n)
abbrev U2(ec0 ec1:Bool)(u out:List Int):List Blk:= [Blk.sl false 1 ec0 (ac u),Blk.sl false 1 ec1 (ac out)]
def Good(Φ:List T->Prop)(r:Option (List T)):Prop:= ∃R,r=some R/\Φ R
theorem Good.step{Φ:List T->Prop}{r r':Option (List T)}(h:Good Φ r')(k:∀R,r'=some R->r=some R):Good Φ r:=by
 obtain⟨R,h1,h2⟩:=h
 exact⟨R,k R h1,h2⟩
theorem DN{d:List Int}{i:Nat}{a:Int}(h:d[i]? =some a):dat d i=a:=by simp [dat,List.getD_eq_getElem?_getD,h]
theorem nx(i:Nat)(h:i<=100000):IntKind.i64.wrap ((i:Int)+1)= ((i+1:Nat):Int):=next i h
theorem ad(i j:Nat)(h:i+j<=100000):IntKind.i64.wrap ((i:Int)+ (j:Int))= ((i+j:Nat):Int):=by rw [Go.Aev.wr (by omega)];omega
theorem bC(a:List Int)(b:Int)(r:List Int)(i:Nat)(h:a.length=i):(ac (a++b::r))[((i:Nat):Int).toNat]? =some [T.int .u32 b]:=by
 rw [aq (by simp;omega),jK a b r i h]
theorem bv(a:List Int)(b v:Int)(r:List Int)(i:Nat)(h:a.length=i):aB (i:Int).toNat 0 [T.int .u32 v] (ac (a++b::r))=some (ac (a++v::r)):=by
 rw [gE (by simp;omega),fa a b v r i h]
theorem m27(s:Nat)(ev ec0 ec1:Bool)(v:List Int)(hv:Dg v)(lo hi out:List Int)(top q:Int)(hq: 0<=q/\q < 4294967296)(hlo:lo.length<=1000)(hvl:v.length<=1000)(R:List T):∀(vs:List Int) (i:Nat) (c b:Int) (done us:List Int),v.drop i=vs->i<=v.length->done.length=i->us.length=vs.length->Dg us->0<=c/\c < 4294967296->0<=b/\b<=1->
  Or eH [I (s:Int),I (v.length:Int),lu ev v,o0,o1,I (lo.length:Int),u6 q,u6 (msC q us vs c b).1,u6 (msC q us vs c b).2,lu ev v,I (v.length:Int),I (v.length:Int)] (U2 ec0 ec1 (lo++ (done++msL q us vs c b++top::hi)) out)=some R->
  Or eH [I (s:Int),I (v.length:Int),lu ev v,o0,o1,I (lo.length:Int),u6 q,u6 c,u6 b,lu ev v,I (v.length:Int),I (i:Int)] (U2 ec0 ec1 (lo++ (done++us++top::hi)) out)=some R:=by
 intro vs
 induction vs with
 | nil=>
  intro i c b done us h hil hd hus hdu hc hb hR
  have hle:=ax h
  obtain rfl:i=v.length:=by omega
  obtain rfl:us= []:=List.length_eq_zero_iff.1 (by simpa using hus)
  simpa only [msL,msC] using hR
 | cons a vs ih=>
  intro i c b done us h hil hd hus hdu hc hb hR
  obtain⟨g1,g2,g3⟩:=ar h
  have ha:=hv a (List.mem_of_getElem? g1)
  have hda:=bG h
  match us,hus,hdu,hR with
  | x::us,hus,hdu,hR=>
   have hx:=hdu x List.mem_cons_self
   have hqa:=dI hq ha
   rw [msL,msC] at hR
   have:=ih (i+1) ((c+q * a) / 4294967296) (bor (x - (c+q * a) % 4294967296 - b)) (done++ [(x - (c+q * a) % 4294967296 - b) % 4294967296]) us g3 (by omega) (by simp [hd]) (by simpa using hus) hdu.tail (by omega) (rP _) (by
    simpa only [List.append_assoc,List.cons_append,List.nil_append] using hR)
   have h1:(i:Int) < (v.length:Int):=by omega
   have h0: 0<=(i:Int):=by omega
   have hu:lo++ (done++x::us++top::hi)= (lo++done)++x:: (us++top::hi):=by simp
   have hu':lo++ (done++ [(x - (c+q * a) % 4294967296 - b) % 4294967296] ++us++top::hi)= (lo++done)++ ((x - (c+q * a) % 4294967296 - b) % 4294967296):: (us++top::hi):=by simp
   have hk:(lo++done).length=lo.length+i:=by simp [hd]
   rw [hu'] at this
   rw [hu]
   have hb1: 0<=((lo.length+i:Nat):Int)/\((lo.length+i:Nat):Int) < (((lo++done)++x:: (us++top::hi)).length:Int):=by simp [hd];omega
   have w1:IntKind.u64.wrap a=a:=w64 (by omega)
   have w2:IntKind.u64.wrap (q * a)=q * a:=w64 (by omega)
   have w3:IntKind.u64.wrap (c+q * a)=c+q * a:=w64 (by omega)
   have w4:IntKind.u64.wrap ((c+q * a) % 4294967296)= (c+q * a) % 4294967296:=w64 (by omega)
   have w5:IntKind.u64.wrap x=x:=w64 (by omega)
   refine aa ?_
   rw [rX]
   simp only [STL,↓reduceIte,Int.reduceBEq,Int.reduceEq,GD,h1,h0,and_self,af,aq g2,hda,ad lo.length i (by omega),hb1,bC (lo++done) x _ _ hk,w1,w2,w3,aH,w4,w5,gN,bv (lo++done) x _ _ _ hk,bZ,gc (v:=x - (c+q * a) % 4294967296 - b) (by omega),nx i (by omega)]
   simp only [d8,Int.emod_emod_of_dvd _ (show(4294967296:Int) ∣ 18446744073709551616 by decide)]
   exact this
theorem m41(s:Nat)(ev ec0 ec1:Bool)(v:List Int)(hv:Dg v)(lo hi out:List Int)(top q:Int)(hlo:lo.length<=1000)(hvl:v.length<=1000)(R:List T):∀(vs:List Int) (i:Nat) (c:Int) (done us:List Int),v.drop i=vs->i<=v.length->done.length=i->us.length=vs.length->Dg us->0<=c/\c<=1->
  Or lA [I (s:Int),I (v.length:Int),lu ev v,o0,o1,I (lo.length:Int),u6 q,u6 (abC us vs c),lu ev v,I (v.length:Int),I (v.length:Int)] (U2 ec0 ec1 (lo++ (done++abL us vs c++top::hi)) out)=some R->
  Or lA [I (s:Int),I (v.length:Int),lu ev v,o0,o1,I (lo.length:Int),u6 q,u6 c,lu ev v,I (v.length:Int),I (i:Int)] (U2 ec0 ec1 (lo++ (done++us++top::hi)) out)=some R:=by
 intro vs
 induction vs with
 | nil=>
  intro i c done us h hil hd hus hdu hc hR
  have hle:=ax h
  obtain rfl:i=v.length:=by omega
  obtain rfl:us= []:=List.length_eq_zero_iff.1 (by simpa using hus)
  simpa only [abL,abC] using hR
 | cons a vs ih=>
  intro i c done us h hil hd hus hdu hc hR
  obtain⟨g1,g2,g3⟩:=ar h
  have ha:=hv a (List.mem_of_getElem? g1)
  have hda:=bG h
  match us,hus,hdu,hR with
  | x::us,hus,hdu,hR=>
   have hx:=hdu x List.mem_cons_self
   rw [abL,abC] at hR
   have:=ih (i+1) ((c+ (x+a)) / 4294967296) (done++ [(c+ (x+a)) % 4294967296]) us g3 (by omega) (by simp [hd]) (by simpa using hus) hdu.tail (by omega) (by
    simpa only [List.append_assoc,List.cons_append,List.nil_append] using hR)
   have h1:(i:Int) < (v.length:Int):=by omega
   have h0: 0<=(i:Int):=by omega
   have hu:lo++ (done++x::us++top::hi)= (lo++done)++x:: (us++top::hi):=by simp
   have hu':lo++ (done++ [(c+ (x+a)) % 4294967296] ++us++top::hi)= (lo++done)++ ((c+ (x+a)) % 4294967296):: (us++top::hi):=by simp
   have hk:(lo++done).length=lo.length+i:=by simp [hd]
   rw [hu'] at this
   rw [hu]
   have hb1: 0<=((lo.length+i:Nat):Int)/\((lo.length+i:Nat):Int) < (((lo++done)++x:: (us++top::hi)).length:Int):=by simp [hd];omega
   have w1:IntKind.u64.wrap a=a:=w64 (by omega)
   have w2:IntKind.u64.wrap x=x:=w64 (by omega)
   have w3:IntKind.u64.wrap (x+a)=x+a:=w64 (by omega)
   have w4:IntKind.u64.wrap (c+ (x+a))=c+ (x+a):=w64 (by omega)
   refine aa ?_
   rw [we]
   simp only [STL,↓reduceIte,Int.reduceBEq,Int.reduceEq,GD,h1,h0,and_self,af,aq g2,hda,ad lo.length i (by omega),hb1,bC (lo++done) x _ _ hk,w1,w2,w3,w4,aH,bv (lo++done) x _ _ _ hk,bZ,nx i (by omega)]
   exact this
section
variable (s:Nat) (ev ec0 ec1:Bool) (v:List Int) (lo hi:List Int)
noncomputable abbrev K17(v:List Int)(u out:List Int)(k:Int):Option (List T):=Or jf [I (s:Int),I (v.length:Int),lu ev v,o0,o1,I k] (U2 ec0 ec1 u out)
theorem wm1(k:Nat)(h:k<=100000):IntKind.i64.wrap ((k:Int) - 1)= (k:Int) - 1:=Go.Aev.wr (by omega)
theorem CG(hv:Dg v)(hvl:v.length<=1000)(hlo:lo.length<=1000)(w:List Int)(top:Int)(hw:Dg w)(hwl:w.length=v.length)(ht: 0<=top/\top < 4294967296)(hVp: 0 < val v)(qs:List Int)(Φ:List T->Prop)
  (q:Int) (hq:q= (val w+4294967296 ^ v.length * top) / val v) (q':Int) (hq1:q<=q') (hq2:q'<=q+1) (hqb: 0<=q'/\q' < 4294967296) (hq0: 0<=q)
  (next:∀R':List Int,Dg R'->R'.length=v.length->val R'= (val w+4294967296 ^ v.length * top) % val v->Good Φ (K17 s ev ec0 ec1 v (lo++ (R'++0::hi)) (List.replicate lo.length 0++q::qs) ((lo.length:Int) - 1))):
  Good Φ (Or eH [I (s:Int),I (v.length:Int),lu ev v,o0,o1,I (lo.length:Int),u6 q',u6 0,u6 0,lu ev v,I (v.length:Int),I 0] (U2 ec0 ec1 (lo++ (w++top::hi)) (List.replicate lo.length 0++0::qs))):=by
 obtain⟨s1,s2,s3,s4,s5,s6,s7⟩:=qf hqb (us:=w) (vs:=v) (c:=0) (b:=0) hwl hw hv (by omega) (by omega)
 have hvV:=bw hv
 have hm0:=bf s3
 have hmB:=bw s3
 rw [s2] at hmB
 rw [hwl] at s1 hmB
 have hdm:=Int.mul_ediv_add_emod (val w+4294967296 ^ v.length * top) (val v)
 have hr0:=Int.emod_nonneg (val w+4294967296 ^ v.length * top) (show val v≠0 by omega)
 have hr1:=Int.emod_lt_of_pos (val w+4294967296 ^ v.length * top) hVp
 rw [<-hq] at hdm
 generalize (val w+4294967296 ^ v.length * top) % val v=r at *
 have hkz:(List.replicate lo.length (0:Int)).length=lo.length:=by simp
 have key:∀R,Or eH [I (s:Int),I (v.length:Int),lu ev v,o0,o1,I (lo.length:Int),u6 q',u6 (msC q' w v 0 0).1,u6 (msC q' w v 0 0).2,lu ev v,I (v.length:Int),I (v.length:Int)] (U2 ec0 ec1 (lo++ (msL q' w v 0 0++top::hi)) (List.replicate lo.length 0++0::qs))=some R->
   Or eH [I (s:Int),I (v.length:Int),lu ev v,o0,o1,I (lo.length:Int),u6 q',u6 0,u6 0,lu ev v,I (v.length:Int),I 0] (U2 ec0 ec1 (lo++ (w++top::hi)) (List.replicate lo.length 0++0::qs))=some R:=fun R hR=>
  m27 s ev ec0 ec1 v hv lo hi _ top q' hqb hlo hvl R v 0 0 0 [] w rfl (by omega) rfl hwl hw (by omega) (by omega) (by simpa using hR)
 generalize msL q' w v 0 0=M at *
 generalize msC q' w v 0 0=cb at *
 obtain⟨c,b⟩:=cb
 dsimp only at s1 s4 s5 s6 s7 key
 have hun:lo++ (M++top::hi)= (lo++M)++top::hi:=by simp
 have hkl:(lo++M).length=lo.length+v.length:=by simp [s2,hwl]
 have hb1: 0<=((lo.length+v.length:Nat):Int)/\((lo.length+v.length:Nat):Int) < (((lo++M)++top::hi).length:Int):=by simp [s2,hwl];omega
 have hb2: 0<=(lo.length:Int)/\(lo.length:Int) < ((List.replicate lo.length (0:Int)++0::qs).length:Int):=by simp;omega
 have wt:IntKind.u64.wrap top=top:=w64 (by omega)
 have hend:¬(v.length:Int) < (v.length:Int):=by omega
 have hPp:=bP v.length
 have hval:val M+4294967296 ^ v.length * (top - c - b)= (val w+4294967296 ^ v.length * top) - q' * val v:=by
  rw [s1,Int.mul_sub,Int.mul_sub,Int.mul_add];omega
 have hPt:∀z:Int,z<= -1->4294967296 ^ v.length * z<= -(4294967296 ^ v.length):=fun z hz=>by
  have:(4294967296:Int) ^ v.length * z<=4294967296 ^ v.length * (-1):=Int.mul_le_mul_of_nonneg_left hz (Int.le_of_lt hPp)
  omega
 have hPt2:∀z:Int,1<=z->4294967296 ^ v.length<=(4294967296:Int) ^ v.length * z:=fun z hz=>by
  have:(4294967296:Int) ^ v.length * 1<=4294967296 ^ v.length * z:=Int.mul_le_mul_of_nonneg_left hz (Int.le_of_lt hPp)
  omega
 by_cases he:q'=q
 ·subst he
  have hz:top - c - b=0:=by
   rcases Int.lt_trichotomy (top - c - b) 0 with h | h | h
   ·have:=hPt (top - c - b) (by omega);rw [Int.mul_comm q'] at hval;omega
   ·exact h
   ·have:=hPt2 (top - c - b) (by omega);rw [Int.mul_comm q'] at hval;omega
  have hbr:bor (top - c - b)=0:=by rw [hz];rfl
  have h01:¬(0:Int)=1:=by omega
  refine(next M s3 (by rw [s2,hwl]) (by rw [hz] at hval;rw [Int.mul_comm q'] at hval;omega)).step fun R hR=>key R (aa ?_)
  rw [rX,hun]
  have hz2:IntKind.u32.wrap (IntKind.u64.wrap (top - c - b))=0:=by rw [hz];rfl
  have wq:IntKind.u32.wrap q'=q':=by rw [aH];omega
  rw [show lo++ (M++0::hi)= (lo++M)++0::hi from by simp] at hR
  simp only [STL,↓reduceIte,Int.reduceBEq,Int.reduceEq,GD,hend,af,ad lo.length v.length (by omega),hb1,and_self,bC (lo++M) top hi _ hkl,wt,gN,hz2,bv (lo++M) top _ hi _ hkl,gc (v:=top - c - b) (by omega),hbr,h01,hb2,wq,bv _ 0 _ qs _ hkz,wm1 lo.length (by omega)]
  exact hR
 ·have he1:q'=q+1:=by omega
  have hq'V:q' * val v=val v * q+val v:=by rw [he1,Int.add_mul,Int.one_mul,Int.mul_comm]
  have hz:top - c - b= -1:=by
   rcases Int.lt_trichotomy (top - c - b) (-1) with h | h | h
   ·exfalso
    have:(4294967296:Int) ^ v.length * (top - c - b)<=4294967296 ^ v.length * (-2):=Int.mul_le_mul_of_nonneg_left (by omega) (Int.le_of_lt hPp)
    omega
   ·exact h
   ·exfalso
    have:(4294967296:Int) ^ v.length * 0<=4294967296 ^ v.length * (top - c - b):=Int.mul_le_mul_of_nonneg_left (by omega) (Int.le_of_lt hPp)
    omega
  have hbr:bor (top - c - b)=1:=by rw [hz];rfl
  obtain⟨a1,a2,a3,a4,a5⟩:=qm (us:=M) (vs:=v) (c:=0) (by rw [s2,hwl]) s3 hv (by omega)
  rw [s2,hwl] at a1 a2
  have hA0:=bf a3
  have hAB:=bw a3
  rw [a2] at hAB
  rw [hz] at hval
  have hM:val M=r - val v+4294967296 ^ v.length:=by omega
  have hc1:abC M v 0=1:=by
   rcases Int.lt_or_le (abC M v 0) 1 with h | h
   ·exfalso
    have:abC M v 0=0:=by omega
    rw [this] at a1;omega
   ·omega
  rw [hc1] at a1
  refine(next (abL M v 0) a3 a2 (by omega)).step fun R hR=>key R ?_
  have key2:=m41 s ev ec0 ec1 v hv lo hi (List.replicate lo.length 0++0::qs) 4294967295 q hlo hvl R v 0 0 [] M rfl (by omega) rfl (by rw [s2,hwl]) s3 (by omega) (by
   rw [hc1]
   refine aa ?_
   rw [we]
   have hun2:lo++ ([] ++abL M v 0++4294967295::hi)= (lo++abL M v 0)++4294967295::hi:=by simp
   rw [hun2]
   have hkl2:(lo++abL M v 0).length=lo.length+v.length:=by simp [a2]
   have hb3: 0<=((lo.length+v.length:Nat):Int)/\((lo.length+v.length:Nat):Int) < (((lo++abL M v 0)++4294967295::hi).length:Int):=by simp [a2];omega
   have hz2:IntKind.u32.wrap (4294967295+IntKind.u32.wrap 1)=0:=by rw [aH,aH];rfl
   have wq:IntKind.u32.wrap q=q:=by rw [aH];omega
   rw [show lo++ (abL M v 0++0::hi)= (lo++abL M v 0)++0::hi from by simp] at hR
   simp only [STL,↓reduceIte,Int.reduceBEq,Int.reduceEq,GD,hend,af,ad lo.length v.length (by omega),hb3,and_self,bC (lo++abL M v 0) _ hi _ hkl2,hz2,bv (lo++abL M v 0) _ _ hi _ hkl2,hb2,wq,bv _ 0 _ qs _ hkz,wm1 lo.length (by omega)]
   exact hR)
  refine aa ?_
  rw [rX,hun]
  have hz2:IntKind.u32.wrap (IntKind.u64.wrap (top - c - b))=4294967295:=by rw [hz];rfl
  have wq:IntKind.u64.wrap (q' - 1)=q:=by rw [w64 (by omega)];omega
  rw [show lo++ ([] ++M++4294967295::hi)= (lo++M)++4294967295::hi from by simp] at key2
  simp only [STL,↓reduceIte,Int.reduceBEq,Int.reduceEq,GD,hend,af,ad lo.length v.length (by omega),hb1,and_self,bC (lo++M) top hi _ hkl,wt,gN,hz2,bv (lo++M) top _ hi _ hkl,gc (v:=top - c - b) (by omega),hbr,wq]
  exact key2
end
theorem m21(s k:Nat)(ev ec0 ec1:Bool)(v u out:List Int)(Φ:List T->Prop){U V P w0 v0 u2 v2 v1 Tt q:Int}(hvl:v.length<=1000)(hkl:k<=1000)(hn2: 2<=v.length)(hul:k+v.length < u.length)
  (hf1:(ac v)[((v.length - 1:Nat):Int).toNat]? =some [T.int .u32 v1]) (hf2:(ac v)[((v.length - 2:Nat):Int).toNat]? =some [T.int .u32 v2]) (hf3:(ac u)[((k+v.length - 2:Nat):Int).toNat]? =some [T.int .u32 u2])
  (hP: 0 < P) (hU:U=w0+P * u2+4294967296 * (P * Tt)) (hV:V=v0+P * v2+4294967296 * (P * v1)) (hw: 0<=w0/\w0 < P) (hv0: 0<=v0/\v0 < P) (hu2: 0<=u2/\u2 < 4294967296) (hv2: 0<=v2/\v2 < 4294967296) (hv1: 1<=v1/\v1 < 4294967296)
  (hU0: 0<=U) (hUV:U < V * 4294967296) (hVp: 0 < V) (hq:q=U / V)
  (go:∀q',q<=q'->q'<=q+1->0<=q'->q' < 4294967296->Good Φ (Or eH [I (s:Int),I (v.length:Int),lu ev v,o0,o1,I (k:Int),u6 q',u6 0,u6 0,lu ev v,I (v.length:Int),I 0] (U2 ec0 ec1 u out))):
  ∀(m:Nat) (qh rh:Int),4294967296 - rh<=(m:Int)->qh * v1+rh=Tt->0<=rh/\rh < 4294967296->q<=qh->qh < 18446744073709551616->
   Good Φ (Or my [I (s:Int),I (v.length:Int),lu ev v,o0,o1,I (k:Int),u6 qh,u6 rh] (U2 ec0 ec1 u out)):=by
 have hqV:q * V<=U:=by rw [hq];exact Int.ediv_mul_le _ (by omega)
 have hqV1:U < (q+1) * V:=by rw [hq,Int.add_mul,Int.one_mul];have:=Int.mul_ediv_add_emod U V;have:=Int.emod_lt_of_pos U hVp;rw [Int.mul_comm V] at *;omega
 have hq0: 0<=q:=by rw [hq];exact Int.ediv_nonneg hU0 (by omega)
 have hqB:q < 4294967296:=by rw [hq];exact Int.ediv_lt_of_lt_mul hVp (by rw [Int.mul_comm];exact hUV)
 have hT3:Tt < 4294967296 * (v1+1):=by
  rcases Int.lt_or_le Tt (4294967296 * (v1+1)) with h | h
  ·exact h
  ·exfalso
   have h1:P * (4294967296 * (v1+1))<=P * Tt:=Int.mul_le_mul_of_nonneg_left h (by omega)
   have h2:P * v2<=P * 4294967295:=Int.mul_le_mul_of_nonneg_left (by omega) (by omega)
   have h3: 0<=P * u2:=Int.mul_nonneg (by omega) hu2.1
   rw [Int.mul_left_comm,Int.mul_add,Int.mul_one] at h1
   omega
 intro m
 induction m with
 | zero=>intro qh rh hm _ hr _ _;omega
 | succ m ih=>
  intro qh rh hm hT hr hqq hq64
  have w1:IntKind.i64.wrap ((v.length:Int) - 2)= ((v.length - 2:Nat):Int):=by rw [Go.Aev.wr (by omega)];omega
  have w2:IntKind.i64.wrap (((k+v.length:Nat):Int) - 2)= ((k+v.length - 2:Nat):Int):=by rw [Go.Aev.wr (by omega)];omega
  have w3:IntKind.i64.wrap ((v.length:Int) - 1)= ((v.length - 1:Nat):Int):=by rw [Go.Aev.wr (by omega)];omega
  have b1: 0<=((v.length - 2:Nat):Int)/\((v.length - 2:Nat):Int) < (v.length:Int):=by omega
  have b2: 0<=((k+v.length - 2:Nat):Int)/\((k+v.length - 2:Nat):Int) < (u.length:Int):=by omega
  have b3: 0<=((v.length - 1:Nat):Int)/\((v.length - 1:Nat):Int) < (v.length:Int):=by omega
  have x1:IntKind.u64.wrap v2=v2:=w64 (by omega)
  have x2:IntKind.u64.wrap v1=v1:=w64 (by omega)
  have x3:IntKind.u64.wrap (rh+v1)=rh+v1:=w64 (by omega)
  have hor:=fG hr hu2
  by_cases hc:qh>=4294967296\/qh * v2 > rh * 4294967296+u2
  ·
   have hle:q<=qh - 1:=by
    rcases hc with hc | hc
    ·omega
    ·exact wh hP hU hV hw hv0.1 (by omega) hT hqV hc hVp
   have x4:IntKind.u64.wrap (qh - 1)=qh - 1:=w64 (by omega)
   have hT':(qh - 1) * v1+ (rh+v1)=Tt:=by rw [Int.sub_mul,Int.one_mul];omega
   have hcond:(¬qh / 4294967296=0\/IntKind.u64.wrap (qh * v2) > rh * 4294967296+u2):=by
    by_cases hb:qh>=4294967296
    ·left;omega
    ·right
     rcases hc with hc | hc
     ·exact absurd hc hb
     ·have:=dI (a:=qh) (b:=v2) (by omega) hv2
      rw [w64 (by omega)];exact hc
   by_cases hbr:rh+v1 < 4294967296
   ·have hz:(rh+v1) / 4294967296=0:=by omega
    refine(ih (qh - 1) (rh+v1) (by omega) hT' (by omega) hle (by omega)).step fun R hR=>aa ?_
    rw [rW]
    simp only [cor,c8,<-decide_not,<-Bool.decide_or,bZ]
    simp only [STL,↓reduceIte,Int.reduceBEq,Int.reduceEq,GD,af,w1,ad k v.length (by omega),w2,w3,b1,b2,b3,and_self,hf1,hf2,hf3,x1,x2,x3,x4,hor,hcond,hz]
    exact hR
   ·have hz:¬(rh+v1) / 4294967296=0:=by omega
    have hsm:qh - 1 < 4294967296:=by
     rcases Int.lt_or_le (qh - 1) 4294967296 with h | h
     ·exact h
     ·exfalso
      have: 4294967296 * v1<=(qh - 1) * v1:=Int.mul_le_mul_of_nonneg_right h (by omega)
      rw [Int.mul_add] at hT3
      omega
    have hup:qh - 1<=q+1:=by
     have h1:=dI (a:=qh - 1) (b:=v2) (by omega) hv2
     have h2:=oF hP hU hV hw.1 hv0 hv2.1 hv1.1 (qh:=qh - 1) (by omega) hT' (by omega)
     rcases Int.lt_or_le (q+1) (qh - 1) with h | h
     ·exfalso
      have:(q+1) * V<=(qh - 1 - 1) * V:=Int.mul_le_mul_of_nonneg_right (by omega) (by omega)
      omega
     ·exact h
    refine(go (qh - 1) hle hup (by omega) hsm).step fun R hR=>aa ?_
    rw [rW]
    simp only [cor,c8,<-decide_not,<-Bool.decide_or,bZ]
    simp only [STL,↓reduceIte,Int.reduceBEq,Int.reduceEq,GD,af,w1,ad k v.length (by omega),w2,w3,b1,b2,b3,and_self,hf1,hf2,hf3,x1,x2,x3,x4,hor,hcond,hz]
    exact hR
  ·have hqs:qh < 4294967296:=by omega
   have hle:qh * v2<=rh * 4294967296+u2:=by omega
   have hm2:=dI (a:=qh) (b:=v2) (by omega) hv2
   have x4:IntKind.u64.wrap (qh * v2)=qh * v2:=w64 (by omega)
   have hcond:¬(¬qh / 4294967296=0\/qh * v2 > rh * 4294967296+u2):=by omega
   have hup:qh<=q+1:=by
    have h2:=oF hP hU hV hw.1 hv0 hv2.1 hv1.1 (qh:=qh) (by omega) hT hle
    rcases Int.lt_or_le (q+1) qh with h | h
    ·exfalso
     have:(q+1) * V<=(qh - 1) * V:=Int.mul_le_mul_of_nonneg_right (by omega) (by omega)
     omega
    ·exact h
   refine(go qh hqq hup (by omega) hqs).step fun R hR=>aa ?_
   rw [rW]
   simp only [cor,c8,<-decide_not,<-Bool.decide_or,bZ]
   simp only [STL,↓reduceIte,Int.reduceBEq,Int.reduceEq,GD,af,w1,ad k v.length (by omega),w2,w3,b1,b2,b3,and_self,hf1,hf2,hf3,x1,x2,x3,hor,x4,hcond]
   exact hR
theorem pw2(n:Nat):((2:Int) ^ n)= ((2 ^ n:Nat):Int):=by rw [Int.natCast_pow];rfl
theorem hH{y z:Int}{n t:Nat}(hn:n<=32)(hy: 0<=y/\y < (2:Int) ^ n)(hz:z= ((2 ^ n * t:Nat):Int))(hb:z < 4294967296)(hyz:z+y < 4294967296):
  IntKind.u32.wrap (((BitVec.ofInt 32 y ||| BitVec.ofInt 32 z).toNat:Nat):Int)=z+y:=by
 obtain⟨a,rfl⟩:=Int.eq_ofNat_of_zero_le hy.1
 have ha:a < 2 ^ n:=by have:=hy.2;rw [pw2] at this;omega
 have hz0: 2 ^ n * t < 4294967296:=by rw [hz] at hb;omega
 have hpn:(2:Nat) ^ n<=2 ^ 32:=Nat.pow_le_pow_right (by decide) hn
 have e1:a % 2 ^ 32=a:=Nat.mod_eq_of_lt (by omega)
 have e2:(2 ^ n * t) % 2 ^ 32=2 ^ n * t:=Nat.mod_eq_of_lt (by omega)
 rw [hz,BitVec.ofInt_natCast,BitVec.ofInt_natCast,BitVec.toNat_or,BitVec.toNat_ofNat,BitVec.toNat_ofNat,e1,e2,Nat.or_comm,<-Nat.two_pow_add_eq_or_of_lt ha,aH]
 have: 2 ^ n * t+a < 4294967296:=by rw [hz] at hyz;omega
 rw [<-Int.natCast_add]
 omega
theorem bS(n:Nat): 0 < (2:Int) ^ n:=Int.pow_pos (by decide)
theorem fT{n:Nat}(h:n<=32):(4294967296:Int)=2 ^ (32 - n) * 2 ^ n:=by
 rw [<-Int.pow_add,show 32 - n+n=32 from by omega];decide
theorem lZ{a m k:Int}(hm: 0 < m)(hk: 4294967296=k * m):(a * m) % 4294967296= (a % k) * m:=by
 conv=>lhs;rw [hk]
 rw [qF hm]
theorem n79(n:Nat)(hn:n < 32)(e:Bool)(x:List Int)(hx:Dg x)(hl:x.length<=900):∀(xr:List Int) (i:Nat) (c:Int) (done:List Int),x.drop i=xr->done.length=i->i<=x.length->0<=c/\c < (2:Int) ^ n->
  Or oz [I (n:Int),o0,lu e x,I (x.length:Int),I (i:Int)] [Blk.sl false 1 false (ac (done++c::List.replicate xr.length 0))]=some [T.lst 1 false (ac (done++bm (2 ^ n) xr c))]:=by
 have hp:=bS n
 have hk:=fT (n:=n) (by omega)
 have hkp:=bS (32 - n)
 have t1:(n:Int).tdiv 32=0:=by rw [Int.tdiv_eq_ediv_of_nonneg (by omega)];omega
 have t2:(n:Int).tmod 32= (n:Int):=by rw [Int.tmod_eq_emod_of_nonneg (by omega)];omega
 have t3:min ((n:Int)).toNat 64=n:=by rw [Int.toNat_natCast];omega
 have t4:¬(n:Int) < 0:=by omega
 have hp31:(2:Int) ^ n<=2147483648:=by
  have:(2:Nat) ^ n<=2 ^ 31:=Nat.pow_le_pow_right (by decide) (by omega)
  rw [pw2];omega
 intro xr
 induction xr with
 | nil=>
  intro i c done h hd hi hc
  have h1:¬(i:Int) < (x.length:Int):=by have:=ax h;omega
  refine aa ?_
  rw [sS]
  simp only [STL,↓reduceIte,Int.reduceBEq,Int.reduceEq,GD,h1,bm,List.length_nil,List.replicate_zero]
 | cons a xr ih=>
  intro i c done h hd hi hc
  obtain⟨g1,g2,g3⟩:=ar h
  have ha:=hx a (List.mem_of_getElem? g1)
  have hda:=bG h
  have h1:(i:Int) < (x.length:Int):=by omega
  have h0: 0<=(i:Int):=by omega
  have hm0: 0<=a * (2:Int) ^ n:=Int.mul_nonneg ha.1 (by omega)
  have hm1:a * (2:Int) ^ n < 4294967296 * (2:Int) ^ n:=Int.mul_lt_mul_of_pos_right ha.2 hp
  have hd3: 0<=a * (2:Int) ^ n / 4294967296:=Int.ediv_nonneg hm0 (by decide)
  have hd2:a * (2:Int) ^ n / 4294967296 < (2:Int) ^ n:=by
   rw [Int.ediv_lt_iff_lt_mul (by decide),Int.mul_comm (2 ^ n)];exact hm1
  have hsp:=kO hp hk (x:= [a]) (c:=c) (by intro u hu;simp at hu;subst hu;exact ha) hc
  have hdg:=hsp.2.2 (a * 2 ^ n % 4294967296+c) (by simp [bm])
  have hmd:=lZ (a:=a) hp hk
  have hor:IntKind.u32.wrap (((BitVec.ofInt 32 c ||| BitVec.ofInt 32 (a * (2:Int) ^ n % 4294967296)).toNat:Nat):Int)=a * (2:Int) ^ n % 4294967296+c:=by
   have hk0:=Int.emod_nonneg a (show(2:Int) ^ (32 - n)≠0 by omega)
   obtain⟨t,ht⟩:=Int.eq_ofNat_of_zero_le hk0
   exact hH (n:=n) (t:=t) (by omega) hc (by rw [hmd,ht,pw2,Int.mul_comm,<-Int.natCast_mul]) (by omega) (by omega)
  have w1:IntKind.u64.wrap a=a:=w64 (by omega)
  have w2:IntKind.u64.wrap (a * (2:Int) ^ n)=a * (2:Int) ^ n:=w64 (by omega)
  have w3:IntKind.i64.wrap 0=0:=by rw [Go.Aev.wr (by omega)]
  have w4:IntKind.i64.wrap ((i:Int)+0)= (i:Int):=by rw [Go.Aev.wr (by omega)];omega
  have w5:IntKind.u32.wrap (a * (2:Int) ^ n / 4294967296)=a * (2:Int) ^ n / 4294967296:=by rw [aH];omega
  have hlen: 0<=(i:Int)/\(i:Int) < ((done++c::List.replicate (a::xr).length 0).length:Int):=by simp;omega
  have hlen2: 0<=((i+1:Nat):Int)/\((i+1:Nat):Int) < ((done++ (a * (2:Int) ^ n % 4294967296+c)::List.replicate (a::xr).length 0).length:Int):=by simp;omega
  have hst2:=bv (done++ [a * (2:Int) ^ n % 4294967296+c]) 0 (a * (2:Int) ^ n / 4294967296) (List.replicate xr.length 0) (i+1) (by simp [hd])
  rw [show(done++ [a * (2:Int) ^ n % 4294967296+c])++0::List.replicate xr.length 0=done++ (a * (2:Int) ^ n % 4294967296+c)::List.replicate (a::xr).length 0 from by simp [List.replicate_succ]] at hst2
  have:=ih (i+1) (a * (2:Int) ^ n / 4294967296) (done++ [a * (2:Int) ^ n % 4294967296+c]) g3 (by simp [hd]) (by omega) ⟨hd3,hd2⟩
  refine aa ?_
  rw [sS]
  simp only [t1,t2,t3,w3]
  simp only [STL,↓reduceIte,Int.reduceBEq,Int.reduceEq,GD,h1,h0,and_self,af,aq g2,hda,w4,t4,hlen,bC done c _ i hd,w1,w2,aH (a * (2:Int) ^ n),hor,bv done c _ _ i hd,nx i (by omega),hlen2,bZ,w5,hst2]
  rw [bm,show done++ (a * 2 ^ n % 4294967296+c)::bm (2 ^ n) xr (a * 2 ^ n / 4294967296)= (done++ [a * 2 ^ n % 4294967296+c])++bm (2 ^ n) xr (a * 2 ^ n / 4294967296) from by simp]
  exact this
theorem s79(n:Nat)(hn:n < 32)(e:Bool)(x:List Int)(hx:Dg x)(hl:x.length<=900):Or (.call 150) [lu e x,I (n:Int)] []=some [T.lst 1 false (ac (bm (2 ^ n) x 0))]:=by
 have h1:=n79 n hn e x hx hl x 0 0 [] rfl rfl (by omega) ⟨Int.le_refl _,bS n⟩
 have t1:(n:Int).tdiv 32=0:=by rw [Int.tdiv_eq_ediv_of_nonneg (by omega)];omega
 have w3:IntKind.i64.wrap 0=0:=by rw [Go.Aev.wr (by omega)]
 have w4:IntKind.i64.wrap ((x.length:Int)+0)= (x.length:Int):=by rw [Go.Aev.wr (by omega)];omega
 have hmk:ap ((x.length+1:Nat):Int) ((x.length+1:Nat):Int)=some ():=by unfold ap lim;rw [if_pos (by omega)]
 have he:ac ([] ++0::List.replicate x.length 0)=List.replicate (x.length+1) [T.int IntKind.u32 0]:=by simp [ac,List.replicate_succ]
 rw [he] at h1
 refine aa ?_
 rw [e79]
 simp only [t1,w3,af,w4,nx x.length (by omega)]
 simp only [STL,↓reduceIte,Int.reduceBEq,Int.reduceEq,GD,hmk,Int.toNat_natCast]
 exact h1
theorem n80(n:Nat)(hn:n < 32)(e:Bool)(x:List Int)(hx:Dg x)(hl:x.length<=900):∀(xr:List Int) (i:Nat) (done:List Int),x.drop i=xr->done.length=i->i<=x.length->
  Or kU [lu e x,I (n:Int),o0,lu e x,I (x.length:Int),I (i:Int)] [Blk.sl false 1 false (ac (done++List.replicate xr.length 0))]=some [T.lst 1 false (ac (done++aL (2 ^ n) (2 ^ (32 - n)) xr))]:=by
 have hp:=bS n
 have hk:=fT (n:=n) (by omega)
 have hkp:=bS (32 - n)
 have t2:(n:Int).tmod 32= (n:Int):=by rw [Int.tmod_eq_emod_of_nonneg (by omega)];omega
 have t3:min ((n:Int)).toNat 32=n:=by rw [Int.toNat_natCast];omega
 have t4:¬(n:Int) < 0:=by omega
 have t5:IntKind.i64.wrap (32 - (n:Int))= ((32 - n:Nat):Int):=by rw [Go.Aev.wr (by omega)];omega
 have t6:min (((32 - n:Nat):Int)).toNat 32=32 - n:=by rw [Int.toNat_natCast];omega
 have t7:¬((32 - n:Nat):Int) < 0:=by omega
 intro xr
 induction xr with
 | nil=>
  intro i done h hd hi
  have h1:¬(i:Int) < (x.length:Int):=by have:=ax h;omega
  refine aa ?_
  rw [mn]
  simp only [STL,↓reduceIte,Int.reduceBEq,Int.reduceEq,GD,h1,aL,List.length_nil,List.replicate_zero]
 | cons a xr ih=>
  intro i done h hd hi
  obtain⟨g1,g2,g3⟩:=ar h
  have ha:=hx a (List.mem_of_getElem? g1)
  have hda:=bG h
  have h1:(i:Int) < (x.length:Int):=by omega
  have h0: 0<=(i:Int):=by omega
  have hrep:done++List.replicate (a::xr).length 0=done++0::List.replicate xr.length 0:=by simp [List.replicate_succ]
  have hlen: 0<=(i:Int)/\(i:Int) < ((done++0::List.replicate xr.length 0).length:Int):=by simp;omega
  have hfd:a.fdiv ((2:Int) ^ n)=a / 2 ^ n:=Int.fdiv_eq_ediv_of_nonneg _ (by omega)
  have hlen2: 0<=(i:Int)/\(i:Int) < ((done++ (a / 2 ^ n)::List.replicate xr.length 0).length:Int):=by simp;omega
  have hmd:∀b:Int,0<=b/\b < 4294967296->(b * (2:Int) ^ (32 - n)) % 4294967296= (b % 2 ^ n) * 2 ^ (32 - n):=fun b hb=>lZ hkp (by rw [Int.mul_comm];exact hk)
  have hdiv0: 0<=a / (2:Int) ^ n:=Int.ediv_nonneg ha.1 (by omega)
  have hdivk:a / (2:Int) ^ n < 2 ^ (32 - n):=by rw [Int.ediv_lt_iff_lt_mul hp,<-hk];exact ha.2
  match xr,g3,ih with
  | [],g3,ih=>
   have hle:=ax g3
   have h2:¬((i+1:Nat):Int) < (x.length:Int):=by omega
   have:=ih (i+1) (done++ [a / 2 ^ n]) g3 (by simp [hd]) (by omega)
   refine aa ?_
   rw [mn,hrep]
   simp only [t2,t3,bh,<-Bool.decide_and]
   simp only [STL,↓reduceIte,Int.reduceBEq,Int.reduceEq,GD,h1,h0,and_self,af,aq g2,hda,t4,hlen,hfd,bv done 0 _ _ i hd,nx i (by omega),h2,false_and]
   rw [show done++ (a / 2 ^ n)::List.replicate ([]:List Int).length 0= (done++ [a / 2 ^ n])++List.replicate ([]:List Int).length 0 from by simp,
    show done++aL (2 ^ n) (2 ^ (32 - n)) [a]= (done++ [a / 2 ^ n])++aL (2 ^ n) (2 ^ (32 - n)) [] from by simp [aL]]
   exact this
  | b::xr,g3,ih=>
   obtain⟨k1,k2,k3⟩:=ar g3
   have hb:=hx b (List.mem_of_getElem? k1)
   have hdb:=bG g3
   have h2:((i+1:Nat):Int) < (x.length:Int):=by omega
   have h20: 0<=((i+1:Nat):Int):=by omega
   have hbm0:=Int.emod_nonneg b (show(2:Int) ^ n≠0 by omega)
   have hbm1:=Int.emod_lt_of_pos b hp
   have hz1:(b % 2 ^ n+1) * (2:Int) ^ (32 - n)<=2 ^ n * 2 ^ (32 - n):=Int.mul_le_mul_of_nonneg_right (by omega) (by omega)
   rw [Int.add_mul,Int.one_mul,Int.mul_comm ((2:Int) ^ n),<-hk] at hz1
   have hz0: 0<=(b % 2 ^ n) * (2:Int) ^ (32 - n):=Int.mul_nonneg hbm0 (by omega)
   by_cases hn0:(n:Int) > 0
   ·have:=ih (i+1) (done++ [a / 2 ^ n+b * 2 ^ (32 - n) % 4294967296]) g3 (by simp [hd]) (by omega)
    have hor:IntKind.u32.wrap (((BitVec.ofInt 32 (a / (2:Int) ^ n) ||| BitVec.ofInt 32 (b * (2:Int) ^ (32 - n) % 4294967296)).toNat:Nat):Int)=a / 2 ^ n+b * 2 ^ (32 - n) % 4294967296:=by
     obtain⟨t,ht⟩:=Int.eq_ofNat_of_zero_le hbm0
     rw [hH (n:=32 - n) (t:=t) (by omega) ⟨hdiv0,hdivk⟩ (by rw [hmd b hb,ht,pw2 (32 - n),Int.mul_comm,<-Int.natCast_mul]) (by rw [hmd b hb];omega) (by rw [hmd b hb];omega)]
     omega
    have hcond:((i+1:Nat):Int) < (x.length:Int)/\(n:Int) > 0:=⟨h2,hn0⟩
    refine aa ?_
    rw [mn,hrep]
    simp only [t2,t3,bh,<-Bool.decide_and]
    simp only [STL,↓reduceIte,Int.reduceBEq,Int.reduceEq,GD,h1,h0,and_self,af,aq g2,hda,t4,hlen,hfd,bv done 0 _ _ i hd,nx i (by omega),hcond,hlen2,bC done _ _ i hd,h20,aq k2,hdb,t5,t6,t7,aH (b * (2:Int) ^ (32 - n)),hor,bv done (a / 2 ^ n) _ _ i hd]
    rw [show done++ (a / 2 ^ n+b * 2 ^ (32 - n) % 4294967296)::List.replicate (b::xr).length 0= (done++ [a / 2 ^ n+b * 2 ^ (32 - n) % 4294967296])++List.replicate (b::xr).length 0 from by simp,
     show done++aL (2 ^ n) (2 ^ (32 - n)) (a::b::xr)= (done++ [a / 2 ^ n+b * 2 ^ (32 - n) % 4294967296])++aL (2 ^ n) (2 ^ (32 - n)) (b::xr) from by simp [aL]]
    exact this
   ·have hn0':n=0:=by omega
    have hz:b * (2:Int) ^ (32 - n) % 4294967296=0:=by
     rw [hn0',show((2:Int) ^ (32 - 0))=4294967296 from by decide];omega
    have:=ih (i+1) (done++ [a / 2 ^ n+b * 2 ^ (32 - n) % 4294967296]) g3 (by simp [hd]) (by omega)
    rw [hz,Int.add_zero] at this
    refine aa ?_
    rw [mn,hrep]
    simp only [t2,t3,bh,<-Bool.decide_and]
    simp only [STL,↓reduceIte,Int.reduceBEq,Int.reduceEq,GD,h1,h0,and_self,af,aq g2,hda,t4,hlen,hfd,bv done 0 _ _ i hd,nx i (by omega),hn0,and_false]
    rw [show done++ (a / 2 ^ n)::List.replicate (b::xr).length 0= (done++ [a / 2 ^ n])++List.replicate (b::xr).length 0 from by simp,
     show done++aL (2 ^ n) (2 ^ (32 - n)) (a::b::xr)= (done++ [a / 2 ^ n])++aL (2 ^ n) (2 ^ (32 - n)) (b::xr) from by simp [aL,hz]]
    exact this
theorem s80(n:Nat)(hn:n < 32)(e:Bool)(x:List Int)(hx:Dg x)(hl:x.length<=900)(h0: 0 < x.length):Or (.call 151) [lu e x,I (n:Int)] []=some [T.lst 1 false (ac (aL (2 ^ n) (2 ^ (32 - n)) x))]:=by
 have h1:=n80 n hn e x hx hl x 0 [] rfl rfl (by omega)
 have t1:(n:Int).tdiv 32=0:=by rw [Int.tdiv_eq_ediv_of_nonneg (by omega)];omega
 have w3:IntKind.i64.wrap 0=0:=by rw [Go.Aev.wr (by omega)]
 have hc:¬(0:Int)>=(x.length:Int):=by omega
 have hi:inB 0 (x.length:Int) (x.length:Int)=some ():=by unfold inB;rw [if_pos (by omega)]
 have hs:sub 0 (x.length:Int) (ac x)=ac x:=by
  unfold sub
  simp [af,List.take_of_length_le]
 have hmk:ap (x.length:Int) (x.length:Int)=some ():=by unfold ap lim;rw [if_pos (by omega)]
 have he:ac ([] ++List.replicate x.length 0)=List.replicate x.length [T.int IntKind.u32 0]:=by simp [ac]
 rw [he] at h1
 refine aa ?_
 rw [e80]
 simp only [t1,w3,af]
 simp only [STL,↓reduceIte,Int.reduceBEq,Int.reduceEq,GD,hc,hi,hs,af,hmk,Int.toNat_natCast]
 exact h1
end Go.Aev.Wd
