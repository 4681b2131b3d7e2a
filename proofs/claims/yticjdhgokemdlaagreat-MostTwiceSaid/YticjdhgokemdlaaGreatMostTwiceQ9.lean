import Derived.Test.YticjdhgokemdlaaGreatMostTwiceQ8
set_option linter.all false
namespace Go.Aev.Wd
open Go Go.Aev Go.Aev.Gen Go.IntKind
theorem re{z:Int}{s:Bool}{d:List Int}(h:ch z s d):val d= (z.natAbs:Int):=by have h1:=h.z;have a:=eJ h.dg;unfold num at h1;split at h1 <;> omega
theorem th{z:Int}{s:Bool}{d:List Int}(h:ch z s d):s=decide (z < 0):=by
 have h1:=h.z;have a:=eJ h.dg;cases s with
 | false=>simp [num] at h1;simp;omega
 | true=>have:=sd h.dg h.can (h.sg rfl);simp [num] at h1;simp;omega
theorem vS{n m:Nat}(h:n<=m):(4294967296:Int) ^ n<=4294967296 ^ m:=by
 have:m=n+ (m - n):=by omega
 rw [this,X4];have a:(4294967296:Int) ^ n * 1<=4294967296 ^ n * 4294967296 ^ (m - n):=Vh (by have:=gI (m - n);omega) (Wu (gI _));omega
theorem DP{z:Int}{s:Bool}{d:List Int}(h:ch z s d)(n:Nat)(hz:(z.natAbs:Int) < 4294967296 ^ n):d.length<=n:=by
 rcases Xr n d.length with a | a
 .exfalso;have h1:=BL (k:=d.length - 1) h.dg h.can (by omega);rw [re h] at h1;have b:(4294967296:Int) ^ n<=4294967296 ^ (d.length - 1):=vS (by omega);omega
 .exact a
theorem tn{z:Int}{s:Bool}{d:List Int}(h:ch z s d)(hz: -18446744073709551616 < z/\z < 18446744073709551616):d.length<=2:=DP h 2 (by
 rw [show((4294967296:Int) ^ 2)=18446744073709551616 from by decide];omega)
theorem Tm(a b:Nat)(hb:b < 2 ^ 32):a * 2 ^ 32 ||| b=a * 2 ^ 32+b:=by rw [Nat.mul_comm,Zw hb]
theorem nT{v n:Int}(hv: 0<=v/\v < 4294967296)(e: 0<=n/\n < 4294967296):
  u64.wrap (((BitVec.ofInt 64 (u64.wrap (v * (2:Int) ^ 32)) ||| BitVec.ofInt 64 (u64.wrap n)).toNat:Nat):Int)=v * 4294967296+n:=by
 obtain⟨a,rfl⟩:=WY hv.1;obtain⟨b,rfl⟩:=WY e.1;have h1:u64.wrap ((a:Int) * (2:Int) ^ 32)= ((a * 2 ^ 32:Nat):Int):=by rw [show((2:Int) ^ 32)=4294967296 from by decide,bf (by omega)];omega
 have d:u64.wrap (b:Int)= ((b:Nat):Int):=bf (by omega);have c:(a * 2 ^ 32) % 2 ^ 64=a * 2 ^ 32:=XD (by omega);have e2:b % 2 ^ 64=b:=XD (by omega);rw [h1,d,X3,X3,BitVec.toNat_or,Ye,Ye,c,e2,Tm a b (by omega),bf (by omega)];omega
theorem zt(s e:Bool)(d:List Int)(c:Dg d)(k:Nat)(a:k < d.length)(g:d.length<=2)(v:Int)(hv: 0<=v/\v < 4294967296)(R:List T)
  (h:Or rT [AV.t (T.ptr [tb s,T.aa 1 e (ax d)]),AV.t (T.int .u64 (v * 4294967296+aN d k)),I ((k:Int) - 1)] []=some R):
  Or rT [AV.t (T.ptr [tb s,T.aa 1 e (ax d)]),AV.t (T.int .u64 v),I (k:Int)] []=some R:=by
 have h1:(k:Int)>=0:=by omega
 have b: 0<=(k:Int)/\(k:Int) < (d.length:Int):=by omega
 have hm:aN d k∈d:=by simp only [aN,U9,Vd a,VD];exact WT a
 have f:i64.wrap ((k:Int) - 1)= (k:Int) - 1:=wr (by omega);refine al ?_;rw [GR];simp only [ai,↓reduceIte,Int.reduceBEq,Int.reduceEq,GD,h1,b,and_self,aM,bD a,nT hv (c _ hm),f];exact h
theorem EK(s e:Bool)(d:List Int)(v:Int):Or rT [AV.t (T.ptr [tb s,T.aa 1 e (ax d)]),AV.t (T.int .u64 v),I (-1)] []=some [T.int .u64 v]:=by
 refine al ?_;rw [GR];have h1:¬(-1:Int)>=0:=by omega
 simp only [ai,↓reduceIte,Int.reduceBEq,Int.reduceEq,GD,h1]
theorem jS(s e:Bool)(d:List Int)(f:Dg d)(g:d.length<=2):Or (.call 111) [AV.t (T.ptr [tb s,T.aa 1 e (ax d)])] []=some [T.int .u64 (val d)]:=by
 refine al ?_;rw [B6,aM,I8]
 match d,f,g with
 | [],_,_=>rw [wr (by simp;omega)];exact EK s e [] _
 | [a],f,_=>rw [show(min (([a]:List Int).length:Int) 2 - 1)= ((0:Nat):Int) from by simp;omega,wr (by simp)];refine zt s e [a] f 0 (by simp) (by simp) 0 (by omega) _ ?_;rw [show(((0:Nat):Int) - 1)= -1 from rfl,show((0:Int) * 4294967296+aN [a] 0)=val [a] from by simp [aN,val]];exact EK s e [a] _
 | [a,b],f,_=>rw [show(min (([a,b]:List Int).length:Int) 2 - 1)= ((1:Nat):Int) from by simp;try omega,wr (by simp)];have hb:=f b (by simp);refine zt s e [a,b] f 1 (by simp) (by simp) 0 (by omega) _ ?_;rw [show(((1:Nat):Int) - 1)= ((0:Nat):Int) from rfl,show((0:Int) * 4294967296+aN [a,b] 1)=b from by simp [aN]];refine zt s e [a,b] f 0 (by simp) (by simp) b hb _ ?_;rw [show(((0:Nat):Int) - 1)= -1 from rfl,show(b * 4294967296+aN [a,b] 0)=val [a,b] from by simp [aN,val];omega];exact EK s e [a,b] _
 | a::b::c::r,_,g=>simp at g
theorem Jt(s e:Bool)(d:List Int)(g:d.length<=1000):∀(k:Nat),k<=d.length->
  Or xv [r0,I (k:Int)] [ab.box [AV.t (T.bool s),lu e d]]=some [T.aw,tb (s && decide (fq d k≠0)),T.aa 1 e (ax (d.take (fq d k)))]
 | 0,h=>by
  refine al ?_;rw [GQ];have hi:bQ 0 ((0:Nat):Int) (d.length:Int)=some ():=by unfold bQ;rw [if_pos (by omega)]
  have a:¬((0:Nat):Int) > 0:=by omega
  have h1:((0:Nat):Int)=0:=rfl;simp only [ai,↓reduceIte,Int.reduceBEq,Int.reduceEq,GD,bE,a,aM,decide_false,hi];simp [fq,ax,sub]
 | k+1,h=>by
  refine al ?_;rw [GQ];have a:((k+1:Nat):Int) > 0:=by omega
  have c:i64.wrap (((k+1:Nat):Int) - 1)= (k:Int):=by rw [wr (by omega)];omega
  have b: 0<=(k:Int)/\(k:Int) < (d.length:Int):=by omega
  have hi:bQ 0 ((k+1:Nat):Int) (d.length:Int)=some ():=by unfold bQ;rw [if_pos (by omega)]
  have f:¬((k+1:Nat):Int)=0:=by omega
  by_cases hz:aN d k=0
  .have:=Jt s e d g k (by omega);rw [fq,if_pos hz];simp only [ai,↓reduceIte,Int.reduceBEq,Int.reduceEq,GD,a,c,b,and_self,aM,bD (show k < d.length by omega),hz,decide_true];exact this
  .rw [fq,if_neg hz];simp only [ai,↓reduceIte,Int.reduceBEq,Int.reduceEq,GD,a,c,b,and_self,aM,bD (show k < d.length by omega),hz,decide_true,hi,f];simp [ax,List.map_take,sub]
theorem KM(s e:Bool)(d:List Int)(c:d.length<=1000):
  Or (.call 125) [r0] [ab.box [AV.t (T.bool s),lu e d]]=some [T.aw,tb (s && decide (bH d≠[])),T.aa 1 e (ax (bH d))]:=by
 have:=Jt s e d c d.length (Vq _);have b:decide (bH d≠[])=decide (fq d d.length≠0):=by
  refine decide_eq_decide.2 ?_;have:=Am d d.length;unfold bH;constructor
  .intro h a;rw [a] at h;exact h rfl
  .intro h a;have:=congrArg List.length a;simp only [Wb,VS] at this;omega
 refine al ?_;rw [NZ,aM,b];exact this
theorem JP(b a:Bool)(A B:Int)(c: 0<=A)(e: 0 < B):
  (if a=true then -A else A).tdiv (if b=true then -B else B)= (if(!(a==b))=true then -(A / B) else A / B)/\(if a=true then -A else A).tmod (if b=true then -B else B)= (if a=true then -(A % B) else A % B):=by
 have h1:A.tdiv B=A / B:=Wg c;have d:A.tmod B=A % B:=Wo c;cases a <;> cases b <;> simp [Int.neg_tdiv,Int.tdiv_neg,Int.neg_tmod,Int.tmod_neg,h1,d]
def EZ(z m:Int)(r:Option (List T)):Prop:= ∃s e d s' e' a,r=some [T.aw,T.aw,tb s,T.aa 1 e (ax d),tb s',T.aa 1 e' (ax a)]/\ch z s d/\ch m s' a/\d.length<=2/\a.length<=2
theorem Kr{z:Int}{s:Bool}{d:List Int}(h:ch z s d)(hz:z≠0): 0 < val d:=by rw [re h];omega
theorem KT(s:Bool)(y:T)(e e2 f e3 B:Bool)(C:T)(a b:List Int)(u v:Int)(h:ch u e a)(hb:ch v f b)(A:a.length<=2)(lb:b.length<=2)(hv:v≠0):
  EZ (u.tdiv v) (u.tmod v) (Or (.call 139) [r0,AV.t (T.ptr [tb e,T.aa 1 e2 (ax a)]),AV.t (T.ptr [tb f,T.aa 1 e3 (ax b)]),AV.ref (Id.c 1) 0] [ab.box [AV.t (T.bool s),AV.t y],ab.box [AV.t (T.bool B),AV.t C]]):=by
 have m:=Ec a b e e2 f e3 h.dg hb.dg h.can hb.can (by omega) (by omega);have g:=eJ h.dg;have G:=Kr hb hv;obtain⟨l,hm⟩:=JP f e (val a) (val b) g G;have x:=h.z;have o:=hb.z;unfold num at x o;rw [x,o] at l hm;by_cases k:val a < val b
 .have p:cf (val a) (val b) < 0:=by unfold cf;rw [if_pos k];omega
  obtain⟨s',e',Q,k1,k2,k3⟩:=Eb s y 0 (by omega);rw [YS g k] at l;rw [ZC g k,x] at hm;refine⟨s',e',Q,e,false,a,al ?_, ?_,by rw [hm];exact h,k3,A⟩
  .rw [yR];simp only [ai,↓reduceIte,Int.reduceBEq,Int.reduceEq,GD,m,p,pH B C e e2 a (by omega),k1]
  .rw [l];simpa using k2
 .have p:¬cf (val a) (val b) < 0:=by unfold cf;rw [if_neg k];split <;> omega
  have R:(a.length:Int) < 3:=by omega
  have r:=jS e e2 a h.dg A;have w:=jS f e3 b hb.dg lb;have lta:=fu h.dg;have ltb:=fu hb.dg;have H:∀d:List Int,d.length<=2->(4294967296:Int) ^ d.length<=18446744073709551616:=λd S=>by have F:(4294967296:Int) ^ d.length<=4294967296 ^ 2:=vS S;rw [show((4294967296:Int) ^ 2)=18446744073709551616 from by decide] at F;exact F
  have hpa:=H a A;have hpb:=H b lb;have n:¬val b=0:=by omega
  have W: 0<=val a / val b:=WO g (by omega);have X:val a / val b<=val a:=YX _ g;have Y: 0<=val a % val b:=WL _ n;have Z:val a % val b < val b:=Wj _ G;have hw:u64.wrap ((val a).tdiv (val b))=val a / val b:=by rw [Wg g,bf (by omega)]
  have I:(val a).tmod (val b)=val a % val b:=Wo g;obtain⟨D,i,J,K,zt,L,k55⟩:=wo s y (val a / val b) (by omega);obtain⟨E,j,M,N,k63,O,k65⟩:=wo B C (val a % val b) (by omega);have t5:=KM (!e==f) D i (by omega);have t6:=KM e E j (by omega);have l5:=rz i;have l6:=rz j;refine⟨(!e==f) && decide (bH i≠[]),D,bH i,e && decide (bH j≠[]),E,bH j,al ?_,pP (s:= !e==f) K ?_,pP (s:=e) N ?_,by omega,by omega⟩
  .rw [yR];simp only [ai,↓reduceIte,Int.reduceBEq,Int.reduceEq,GD,m,p,aM,R,r,w,n,hw,I,J,M,t5,t6]
  .rw [l];unfold num;rw [L]
  .rw [hm];unfold num;rw [O]
theorem Ly{u v:Int}(hv: 0 < v):(u.tmod v < 0->u.tdiv v - 1=u / v/\u.tmod v+v=u % v)/\(¬u.tmod v < 0->u.tdiv v=u / v/\u.tmod v=u % v):=by
 have h1:u.tdiv v=u / v+if 0<=u\/v ∣ u then 0 else v.sign:=Int.tdiv_eq_ediv;have a:u.tmod v=u % v - if 0<=u\/v ∣ u then 0 else v.natAbs:=Int.tmod_eq_emod;have b:=WL u (show v≠0 by omega);have c:=Wj u hv;have hs:v.sign=1:=Wp hv;rw [hs] at h1;split at h1
 .rename_i h;rw [if_pos h] at a;constructor <;> intro _ <;> omega
 .rename_i h;rw [if_neg h] at a;constructor <;> intro _ <;> omega
theorem KN(s:Bool)(y:T)(k e2 d e3 D:Bool)(H:T)(a b:List Int)(u v:Int)(z:ch u k a)(hb:ch v d b)(hu: -9223372036854775808 < u/\u < 9223372036854775808)(hv: 0 < v/\v < 9223372036854775808):
  EZ (u / v) (u % v) (Or (.call 138) [r0,AV.t (T.ptr [tb k,T.aa 1 e2 (ax a)]),AV.t (T.ptr [tb d,T.aa 1 e3 (ax b)]),AV.ref (Id.c 1) 0] [ab.box [AV.t (T.bool s),AV.t y],ab.box [AV.t (T.bool D),AV.t H]]):=by
 have Q:=tn z (by omega);have lb:=tn hb (by omega);have g:=pH false (T.aK true) d e3 b (by omega);obtain⟨F,w,o,sm,em,m,C,k2,f,N,O⟩:=KT s y k e2 d e3 D H a b u v z hb Q lb (by omega);have A:=th hb;have:d=false:=by rw [A];simp;omega
 subst this;have h:=th f;obtain⟨J,K⟩:=Ly (u:=u) hv.1;have W:=WL u (show v≠0 by omega);have X:=Wj u hv.1;have Y:=Wx u v;have Z: -9223372036854775808<=u / v/\u / v<=9223372036854775808:=by
  constructor
  .apply Int.le_ediv_of_mul_le hv.1;have: -9223372036854775808 * v<= -9223372036854775808 * 1:=Int.mul_le_mul_of_nonpos_left (by omega) (by omega);omega
  .apply Int.ediv_le_of_le_mul hv.1;have: 9223372036854775808 * 1<=9223372036854775808 * v:=Vh (by omega) (by omega);omega
 by_cases e:u.tmod v < 0
 .have:sm=true:=by rw [h];simpa using e
  subst this;obtain⟨q1,j⟩:=J e;obtain⟨x1,L,M⟩:=Ac 1 (by omega);obtain⟨s',e',I,rfl,B⟩:=M;have l1:=tn B (by omega);obtain⟨G,x,p,R,i,m3⟩:=KJ F w s' e' o I _ _ k2 B (by omega) (by omega);obtain⟨E,r,n,S,l,w3⟩:=wm true em false false m b _ _ f hb (by omega) (by omega);rw [q1] at i;rw [j] at l;refine⟨G,x,p,E,r,n,al ?_,i,l,tn i (by omega),tn l (by omega)⟩;rw [sE];simp only [ai,↓reduceIte,Int.reduceBEq,Int.reduceEq,GD,g,C,L,R,S]
 .have:sm=false:=by rw [h];simpa using e
  subst this;obtain⟨q1,j⟩:=K e;rw [q1] at k2;rw [j] at f;refine⟨F,w,o,false,em,m,al ?_,k2,f,N,O⟩;rw [sE];simp only [ai,↓reduceIte,Int.reduceBEq,Int.reduceEq,GD,g,C]
open Go Go.Aev Go.Aev.Gen
section
variable {U V P w0 v0 u2 v2 v1 Tt q qh rh:Int}
theorem IA(l: 0 < P)(m:U=w0+P * u2+4294967296 * (P * Tt))(d:V=v0+P * v2+4294967296 * (P * v1))(n: 0<=w0/\w0 < P)(b: 0<=v0)(g:u2 < 4294967296)(c: 0<=v2)(a: 0<=q)(f:q * V<=U):q * v1<=Tt:=by
 rcases Wy Tt (q * v1) with h | h
 .exfalso;have h1:P * (Tt+1)<=P * (q * v1):=Vh (by omega) (by omega);have i:P * u2<=P * 4294967295:=Vh (by omega) (by omega);have j: 0<=q * v0:=Wh a b;have k: 0<=P * (q * v2):=Wh (by omega) (Wh a c);have e:q * V=q * v0+P * (q * v2)+4294967296 * (P * (q * v1)):=by
   rw [d,VG,VG,VU q P,VU q 4294967296,VU q P]
  rw [VG] at h1;omega
 .exact h
theorem IB(j: 0 < P)(k:U=w0+P * u2+4294967296 * (P * Tt))(d:V=v0+P * v2+4294967296 * (P * v1))(n: 0<=w0/\w0 < P)(b: 0<=v0)(a: 0<=qh)(c:qh * v1+rh=Tt)(m:q * V<=U)(l:qh * v2 > rh * 4294967296+u2)(f: 0 < V):q<=qh - 1:=by
 have h1:U < qh * V:=by
  have e:qh * V=qh * v0+P * (qh * v2)+4294967296 * (P * (qh * v1)):=by rw [d,VG,VG,VU qh P,VU qh 4294967296,VU qh P]
  have g:P * (rh * 4294967296+u2+1)<=P * (qh * v2):=Vh (by omega) (by omega);have i: 0<=qh * v0:=Wh a b;have e2:P * Tt=P * (qh * v1)+P * rh:=by rw [<-c,VG]
  have e3:P * (rh * 4294967296+u2+1)=4294967296 * (P * rh)+P * u2+P:=by rw [VG,VG,Yi,<-VT P rh,Vw (P * rh)]
  omega
 rcases Wy (qh - 1) q with h | h
 .exfalso;have:qh * V<=q * V:=VA (by omega) (by omega);omega
 .exact h
theorem zn(n: 0 < P)(o:U=w0+P * u2+4294967296 * (P * Tt))(g:V=v0+P * v2+4294967296 * (P * v1))(p: 0<=w0)(b: 0<=v0/\v0 < P)(d: 0<=v2)(c: 1<=v1)(a: 0<=qh/\qh<=4294967296)(f:qh * v1+rh=Tt)(h:qh * v2<=rh * 4294967296+u2):(qh - 1) * V<=U:=by
 have e:qh * V=qh * v0+P * (qh * v2)+4294967296 * (P * (qh * v1)):=by rw [g,VG,VG,VU qh P,VU qh 4294967296,VU qh P]
 have j:P * (qh * v2)<=P * (rh * 4294967296+u2):=Vh h (by omega);have e3:P * (rh * 4294967296+u2)=4294967296 * (P * rh)+P * u2:=by rw [VG,<-VT P rh,Vw (P * rh)]
 have e2:P * Tt=P * (qh * v1)+P * rh:=by rw [<-f,VG]
 have k:qh * v0<=4294967296 * v0:=VA a.2 b.1;have l:P * 1<=P * v1:=Vh c (by omega);have m: 0<=P * v2:=Wh (by omega) d;have i:(qh - 1) * V=qh * V - V:=by rw [YT,Ww]
 omega
end
theorem Dg.append{a b:List Int}(c:Dg a)(hb:Dg b):Dg (a++b):=λu hu=>by
 rcases Vr.1 hu with hu | hu
 .exact c u hu
 .exact hb u hu
theorem Dg.left{a b:List Int}(h:Dg (a++b)):Dg a:=λu c=>h u (Vn _ c)
theorem Dg.right{a b:List Int}(h:Dg (a++b)):Dg b:=λu c=>h u (Vp _ c)
def im(q:Int):List Int->List Int->Int->Int->List Int
 | x::us,a::vs,c,b=>((x - (c+q * a) % 4294967296 - b) % 4294967296)::im q us vs ((c+q * a) / 4294967296) (ct (x - (c+q * a) % 4294967296 - b))
 | us,_,_,_=>us
def eK(q:Int):List Int->List Int->Int->Int->Int×Int
 | x::us,a::vs,c,b=>eK q us vs ((c+q * a) / 4294967296) (ct (x - (c+q * a) % 4294967296 - b))
 | _,_,c,b=>(c,b)
theorem BC(v:Int): 0<=ct v/\ct v<=1:=by unfold ct;split <;> omega
theorem Dd{q:Int}(g: 0<=q/\q < 4294967296):∀{us vs:List Int} {c b:Int},us.length=vs.length->Dg us->Dg vs->0<=c/\c < 4294967296->0<=b/\b<=1->
  val (im q us vs c b)=val us - q * val vs - c - b+4294967296 ^ us.length * ((eK q us vs c b).1+ (eK q us vs c b).2)/\(im q us vs c b).length=us.length/\Dg (im q us vs c b)/\0<=(eK q us vs c b).1/\(eK q us vs c b).1 < 4294967296/\0<=(eK q us vs c b).2/\(eK q us vs c b).2<=1
 | [],[],c,b,_,_,_,e,hb=>by refine⟨by simp [im,eK,val];omega,rfl,(by intro a f;cases f),e.1,e.2,hb.1,hb.2⟩
 | [],a::vs,c,b,h,_,_,_,_=>by simp at h
 | x::us,[],c,b,h,_,_,_,_=>by simp at h
 | x::us,a::vs,c,b,h,i,hv,e,hb=>by
  have o:=i x Vb;have f:=lk g (hv a Vb);obtain⟨k,l,m,n⟩:=Dd g (us:=us) (vs:=vs) (c:=(c+q * a) / 4294967296) (b:=ct (x - (c+q * a) % 4294967296 - b)) (by simpa using h) i.tail hv.tail (by omega) (BC _);refine⟨?_,by simp [im,l], ?_,by rw [eK];exact n⟩
  .simp only [im,eK,val,Vy,Xh];rw [k];have j:q * (a+4294967296 * val vs)=q * a+4294967296 * (q * val vs):=by rw [VG,VU]
   rw [j,Vw ((4294967296:Int) ^ us.length) 4294967296,VT];generalize (4294967296:Int) ^ us.length * _=K;unfold ct;split <;> omega
  .intro u d;simp only [im] at d;rcases Vo.1 d with rfl | d
   .omega
   .exact m u d
def dF:List Int->List Int->Int->List Int
 | x::us,a::vs,c=>((c+ (x+a)) % 4294967296)::dF us vs ((c+ (x+a)) / 4294967296)
 | us,_,_=>us
def gT:List Int->List Int->Int->Int
 | x::us,a::vs,c=>gT us vs ((c+ (x+a)) / 4294967296)
 | _,_,c=>c
theorem Bm:∀{us vs:List Int} {c:Int},us.length=vs.length->Dg us->Dg vs->0<=c/\c<=1->
  val (dF us vs c)+4294967296 ^ us.length * gT us vs c=val us+val vs+c/\(dF us vs c).length=us.length/\Dg (dF us vs c)/\0<=gT us vs c/\gT us vs c<=1
 | [],[],c,_,_,_,d=>by exact⟨by simp [dF,gT,val],rfl,(by intro a e;cases e),d.1,d.2⟩
 | [],a::vs,c,h,_,_,_=>by simp at h
 | x::us,[],c,h,_,_,_=>by simp at h
 | x::us,a::vs,c,h,f,hv,d=>by
  have l:=f x Vb;have e:=hv a Vb;obtain⟨g,i,j,k⟩:=Bm (us:=us) (vs:=vs) (c:=(c+ (x+a)) / 4294967296) (by simpa using h) f.tail hv.tail (by omega);refine⟨?_,by simp [dF,i], ?_,by rw [gT];exact k⟩
  .simp only [dF,gT,val,Vy,Xh];rw [Vw ((4294967296:Int) ^ us.length) 4294967296,VT];generalize (4294967296:Int) ^ us.length * _=K at g⊢;omega
  .intro u b;simp only [dF] at b;rcases Vo.1 b with rfl | b
   .omega
   .exact j u b
theorem Db{a k m:Int}(hm: 0 < m):(a * m) % (k * m)= (a % k) * m:=by rw [Vw a m,Vw k m,Int.mul_emod_mul_of_pos _ _ hm,Vw]
def eI(m:Int):List Int->Int->List Int
 | [],c=> [c]
 | a::x,c=>((a * m) % 4294967296+c)::eI m x (a * m / 4294967296)
theorem wz{m k:Int}(hm: 0 < m)(d: 4294967296=k * m):∀{x:List Int} {c:Int},Dg x->0<=c/\c < m->val (eI m x c)=val x * m+c/\(eI m x c).length=x.length+1/\Dg (eI m x c)
 | [],c,_,o=>by
  have e: 0 < k:=by
   rcases Wy 0 k with h | h
   .exact h
   .have:=Wh (ZK h) (Wu hm);rw [YR] at this;omega
  have f:m * 1<=m * k:=Vh (by omega) (by omega);rw [Vw m k,<-d] at f;refine⟨by simp [eI,val],rfl,λa b=> ?_⟩;simp only [eI,Vk] at b;subst b;omega
 | a::x,c,h,o=>by
  have b:=h a Vb;have g: 0<=a * m:=Wh b.1 (by omega);have h1:a * m < 4294967296 * m:=Xy b.2 hm;have i:a * m / 4294967296 < m:=by rw [W4 (by decide),Vw m];exact h1
  have j: 0<=a * m / 4294967296:=WO g (by decide);obtain⟨r,t,w⟩:=wz hm d (x:=x) (c:=a * m / 4294967296) h.tail ⟨j,i⟩;refine⟨?_,by simp [eI,t], ?_⟩
  .simp only [eI,val];rw [r,Xs,VT 4294967296 (val x) m];omega
  .intro u hu;simp only [eI] at hu;rcases Vo.1 hu with rfl | hu
   ·
    have p:(a * m) % 4294967296= (a % k) * m:=by
     conv=>lhs;rw [d]
     rw [Db hm]
    have e: 0 < k:=by
     rcases Wy 0 k with h | h
     .exact h
     .have:=Wh (ZK h) (Wu hm);rw [YR] at this;omega
    have y:=Wj a e;have l:=WL a (show k≠0 by omega);have n:(a % k+1) * m<=k * m:=VA (by omega) (by omega);have z: 0<=(a % k) * m:=Wh l (by omega);rw [Xs,Ww,<-d] at n;rw [p];omega
   .exact w u hu
def cX(m k:Int):List Int->List Int
 | []=> []
 | [a]=> [a / m]
 | a::b::r=>(a / m+ (b * k) % 4294967296)::cX m k (b::r)
theorem Ei{m k:Int}(hm: 0 < m)(c: 4294967296=k * m)(f: 0 < k):∀{x:List Int},Dg x->val (cX m k x)=val x / m/\(cX m k x).length=x.length/\Dg (cX m k x)
 | [],_=>by simp [cX,val,Dg]
 | [a],h=>by have d:=h a Vb;have h1: 0<=a / m:=WO d.1 (by omega);have y:a / m<=a:=YX _ d.1;refine⟨by simp [cX,val],rfl,λu hu=> ?_⟩;simp only [cX,Vk] at hu;subst hu;omega
 | a::b::r,h=>by
  obtain⟨o,p,t⟩:=Ei hm c f (x:=b::r) h.tail;have d:=h a Vb;have hb:=h b (by simp);have e:(b * k) % 4294967296= (b % m) * k:=by
   conv=>lhs;rw [c,Vw k m]
   rw [Db f]
  refine⟨?_,by rw [cX,Vy,p];rfl, ?_⟩
  .have g:val (a::b::r) / m=a / m+k * val (b::r):=by
    rw [show val (a::b::r)=a+4294967296 * val (b::r) from rfl]
    conv=>lhs;rw [c,Vw k m,VT]
    rw [Int.add_mul_ediv_left _ _ (by omega)]
   have e2:val (b::r) / m=b / m+k * val r:=by
    rw [show val (b::r)=b+4294967296 * val r from rfl]
    conv=>lhs;rw [c,Vw k m,VT]
    rw [Int.add_mul_ediv_left _ _ (by omega)]
   have e3:=Wx b m;rw [g];simp only [cX,val];rw [o,e2,e];have i: 4294967296 * (b / m+k * val r)=k * (m * (b / m))+4294967296 * (k * val r):=by
    rw [VG]
    conv=>lhs;rw [c,VT]
    rw [<-c]
   have j:k * (b+4294967296 * val r)=k * (m * (b / m))+ (b % m) * k+4294967296 * (k * val r):=by
    rw [VG,VU k 4294967296]
    conv=>lhs;rw [<-e3,VG,Vw k (b % m)]
   rw [i,j];omega
  .intro u hu;simp only [cX] at hu;rcases Vo.1 hu with rfl | hu
   .rw [e];have z:=Wj b hm;have l:=WL b (show m≠0 by omega);have n:(b % m+1) * k<=m * k:=VA (by omega) (by omega);have A: 0<=(b % m) * k:=Wh l (by omega);rw [Xs,Ww,Vw m k,<-c] at n;have B: 0<=a / m:=WO d.1 (by omega);have w:a / m < k:=by
     rw [W4 hm,<-c];exact d.2
    omega
   .exact t u hu
open Go Go.Aev Go.Aev.Gen
abbrev u6(n:Int):AV:=AV.t (T.int .u64 n)
abbrev U2(ec0 ec1:Bool)(u a:List Int):List ab:= [ab.sl false 1 ec0 (ax u),ab.sl false 1 ec1 (ax a)]
def Good(a:List T->Prop)(r:Option (List T)):Prop:= ∃R,r=some R/\a R
theorem Good.step{b:List T->Prop}{r a:Option (List T)}(h:Good b a)(k:∀R,a=some R->r=some R):Good b r:=by obtain⟨R,h1,c⟩:=h;exact⟨R,k R h1,c⟩
theorem Nb{d:List Int}{i:Nat}{a:Int}(h:d[i]? =some a):aN d i=a:=by simp [aN,U9,h]
theorem nx(i:Nat)(h:i<=100000):i64.wrap ((i:Int)+1)= ((i+1:Nat):Int):=next i h
theorem ad(i j:Nat)(h:i+j<=100000):i64.wrap ((i:Int)+ (j:Int))= ((i+j:Nat):Int):=by rw [Go.Aev.wr (by omega)];omega
theorem fA(a:List Int)(b:Int)(r:List Int)(i:Nat)(h:a.length=i):(ax (a++b::r))[((i:Nat):Int).toNat]? =some [T.int .u32 b]:=by rw [bD (by simp;omega),sv a b r i h]
theorem fp(a:List Int)(b v:Int)(r:List Int)(i:Nat)(h:a.length=i):bo (i:Int).toNat 0 [T.int .u32 v] (ax (a++b::r))=some (ax (a++v::r)):=by rw [oV (by simp;omega),n9 a b v r i h]
theorem QP(s:Nat)(ev ec0 ec1:Bool)(v:List Int)(hv:Dg v)(lo hi j:List Int)(top q:Int)(z: 0<=q/\q < 4294967296)(H:lo.length<=1000)(K:v.length<=1000)(R:List T):∀(vs:List Int) (i:Nat) (c b:Int) (done us:List Int),v.drop i=vs->i<=v.length->done.length=i->us.length=vs.length->Dg us->0<=c/\c < 4294967296->0<=b/\b<=1->
  Or mI [I (s:Int),I (v.length:Int),lu ev v,o0,o1,I (lo.length:Int),u6 q,u6 (eK q us vs c b).1,u6 (eK q us vs c b).2,lu ev v,I (v.length:Int),I (v.length:Int)] (U2 ec0 ec1 (lo++ (done++im q us vs c b++top::hi)) j)=some R->
  Or mI [I (s:Int),I (v.length:Int),lu ev v,o0,o1,I (lo.length:Int),u6 q,u6 c,u6 b,lu ev v,I (v.length:Int),I (i:Int)] (U2 ec0 ec1 (lo++ (done++us++top::hi)) j)=some R:=by
 intro vs;induction vs with
 | nil=>
  intro i c b done us h m g e d y hb f;have G:=bw h;obtain rfl:i=v.length:=by omega
  obtain rfl:us= []:=Vt.1 (by simpa using e);simpa only [im,eK] using f
 | cons a vs B=>
  intro i c b done us h m g e d y hb f;obtain⟨p,r,t⟩:=bt h;have w:=hv a (Va p);have l:=fI h
  match us,e,d,f with
  | x::us,e,d,f=>
   have L:=d x Vb;have J:=lk z w;rw [im,eK] at f;have:=B (i+1) ((c+q * a) / 4294967296) (ct (x - (c+q * a) % 4294967296 - b)) (done++ [(x - (c+q * a) % 4294967296 - b) % 4294967296]) us t (by omega) (by simp [g]) (by simpa using e) d.tail (by omega) (BC _) (by
    simpa only [VJ,Vf,Vg] using f)
   have h1:(i:Int) < (v.length:Int):=by omega
   have u: 0<=(i:Int):=by omega
   have A:lo++ (done++x::us++top::hi)= (lo++done)++x:: (us++top::hi):=by simp
   have o:lo++ (done++ [(x - (c+q * a) % 4294967296 - b) % 4294967296] ++us++top::hi)= (lo++done)++ ((x - (c+q * a) % 4294967296 - b) % 4294967296):: (us++top::hi):=by simp
   have n:(lo++done).length=lo.length+i:=by simp [g]
   rw [o] at this;rw [A];have k: 0<=((lo.length+i:Nat):Int)/\((lo.length+i:Nat):Int) < (((lo++done)++x:: (us++top::hi)).length:Int):=by simp [g];omega
   have C:u64.wrap a=a:=bf (by omega);have D:u64.wrap (q * a)=q * a:=bf (by omega);have E:u64.wrap (c+q * a)=c+q * a:=bf (by omega);have w4:u64.wrap ((c+q * a) % 4294967296)= (c+q * a) % 4294967296:=bf (by omega);have F:u64.wrap x=x:=bf (by omega);refine al ?_;rw [Cc];simp only [ai,↓reduceIte,Int.reduceBEq,Int.reduceEq,GD,h1,u,and_self,aM,bD r,l,ad lo.length i (by omega),k,fA (lo++done) x _ _ n,C,D,E,cF,w4,F,rC,fp (lo++done) x _ _ _ n,ij,oZ (v:=x - (c+q * a) % 4294967296 - b) (by omega),nx i (by omega)];simp only [mF,Int.emod_emod_of_dvd _ (show(4294967296:Int) ∣ 18446744073709551616 by decide)];exact this
theorem QQ(s:Nat)(ev ec0 ec1:Bool)(v:List Int)(hv:Dg v)(lo hi g:List Int)(top q:Int)(D:lo.length<=1000)(E:v.length<=1000)(R:List T):∀(vs:List Int) (i:Nat) (c:Int) (done us:List Int),v.drop i=vs->i<=v.length->done.length=i->us.length=vs.length->Dg us->0<=c/\c<=1->
  Or uh [I (s:Int),I (v.length:Int),lu ev v,o0,o1,I (lo.length:Int),u6 q,u6 (gT us vs c),lu ev v,I (v.length:Int),I (v.length:Int)] (U2 ec0 ec1 (lo++ (done++dF us vs c++top::hi)) g)=some R->
  Or uh [I (s:Int),I (v.length:Int),lu ev v,o0,o1,I (lo.length:Int),u6 q,u6 c,lu ev v,I (v.length:Int),I (i:Int)] (U2 ec0 ec1 (lo++ (done++us++top::hi)) g)=some R:=by
 intro vs;induction vs with
 | nil=>
  intro i c done us h l f d b u e;have C:=bw h;obtain rfl:i=v.length:=by omega
  obtain rfl:us= []:=Vt.1 (by simpa using d);simpa only [dF,gT] using e
 | cons a vs y=>
  intro i c done us h l f d b u e;obtain⟨o,p,r⟩:=bt h;have F:=hv a (Va o);have k:=fI h
  match us,d,b,e with
  | x::us,d,b,e=>
   have G:=b x Vb;rw [dF,gT] at e;have:=y (i+1) ((c+ (x+a)) / 4294967296) (done++ [(c+ (x+a)) % 4294967296]) us r (by omega) (by simp [f]) (by simpa using d) b.tail (by omega) (by
    simpa only [VJ,Vf,Vg] using e)
   have h1:(i:Int) < (v.length:Int):=by omega
   have t: 0<=(i:Int):=by omega
   have w:lo++ (done++x::us++top::hi)= (lo++done)++x:: (us++top::hi):=by simp
   have n:lo++ (done++ [(c+ (x+a)) % 4294967296] ++us++top::hi)= (lo++done)++ ((c+ (x+a)) % 4294967296):: (us++top::hi):=by simp
   have m:(lo++done).length=lo.length+i:=by simp [f]
   rw [n] at this;rw [w];have j: 0<=((lo.length+i:Nat):Int)/\((lo.length+i:Nat):Int) < (((lo++done)++x:: (us++top::hi)).length:Int):=by simp [f];omega
   have z:u64.wrap a=a:=bf (by omega);have A:u64.wrap x=x:=bf (by omega);have B:u64.wrap (x+a)=x+a:=bf (by omega);have w4:u64.wrap (c+ (x+a))=c+ (x+a):=bf (by omega);refine al ?_;rw [He];simp only [ai,↓reduceIte,Int.reduceBEq,Int.reduceEq,GD,h1,t,and_self,aM,bD p,k,ad lo.length i (by omega),j,fA (lo++done) x _ _ m,z,A,B,w4,cF,fp (lo++done) x _ _ _ m,ij,nx i (by omega)];exact this
section
variable (s:Nat) (ev ec0 ec1:Bool) (v:List Int) (lo hi:List Int)
noncomputable abbrev A5(v:List Int)(u a:List Int)(k:Int):Option (List T):=Or rW [I (s:Int),I (v.length:Int),lu ev v,o0,o1,I k] (U2 ec0 ec1 u a)
theorem wP(k:Nat)(h:k<=100000):i64.wrap ((k:Int) - 1)= (k:Int) - 1:=Go.Aev.wr (by omega)
theorem Np(hv:Dg v)(J:v.length<=1000)(E:lo.length<=1000)(w:List Int)(top:Int)(hw:Dg w)(d:w.length=v.length)(ht: 0<=top/\top < 4294967296)(Y: 0 < val v)(g:List Int)(Φ:List T->Prop)
  (q:Int) (hq:q= (val w+4294967296 ^ v.length * top) / val v) (a:Int) (hq1:q<=a) (hq2:a<=q+1) (G: 0<=a/\a < 4294967296) (hq0: 0<=q)
  (next:∀y:List Int,Dg y->y.length=v.length->val y= (val w+4294967296 ^ v.length * top) % val v->Good Φ (A5 s ev ec0 ec1 v (lo++ (y++0::hi)) (List.replicate lo.length 0++q::g) ((lo.length:Int) - 1))):
  Good Φ (Or mI [I (s:Int),I (v.length:Int),lu ev v,o0,o1,I (lo.length:Int),u6 a,u6 0,u6 0,lu ev v,I (v.length:Int),I 0] (U2 ec0 ec1 (lo++ (w++top::hi)) (List.replicate lo.length 0++0::g))):=by
 obtain⟨Q,k,u,s4,s5,s6,s7⟩:=Dd G (us:=w) (vs:=v) (c:=0) (b:=0) d hw hv (by omega) (by omega);have hvV:=fu hv;have hm0:=eJ u;have F:=fu u;rw [k] at F;rw [d] at Q F;have hdm:=Wx (val w+4294967296 ^ v.length * top) (val v);have hr0:=WL (val w+4294967296 ^ v.length * top) (show val v≠0 by omega);have hr1:=Wj (val w+4294967296 ^ v.length * top) Y;rw [<-hq] at hdm;generalize (val w+4294967296 ^ v.length * top) % val v=r at *
 have D:(List.replicate lo.length (0:Int)).length=lo.length:=by simp
 have key:∀R,Or mI [I (s:Int),I (v.length:Int),lu ev v,o0,o1,I (lo.length:Int),u6 a,u6 (eK a w v 0 0).1,u6 (eK a w v 0 0).2,lu ev v,I (v.length:Int),I (v.length:Int)] (U2 ec0 ec1 (lo++ (im a w v 0 0++top::hi)) (List.replicate lo.length 0++0::g))=some R->
   Or mI [I (s:Int),I (v.length:Int),lu ev v,o0,o1,I (lo.length:Int),u6 a,u6 0,u6 0,lu ev v,I (v.length:Int),I 0] (U2 ec0 ec1 (lo++ (w++top::hi)) (List.replicate lo.length 0++0::g))=some R:=λR i=>
  QP s ev ec0 ec1 v hv lo hi _ top a G E J R v 0 0 0 [] w rfl (by omega) rfl d hw (by omega) (by omega) (by simpa using i)
 generalize im a w v 0 0=M at *
 generalize eK a w v 0 0=cb at *
 obtain⟨c,b⟩:=cb;dsimp only at Q s4 s5 s6 s7 key;have H:lo++ (M++top::hi)= (lo++M)++top::hi:=by simp
 have m:(lo++M).length=lo.length+v.length:=by simp [k,d]
 have A: 0<=((lo.length+v.length:Nat):Int)/\((lo.length+v.length:Nat):Int) < (((lo++M)++top::hi).length:Int):=by simp [k,d];omega
 have B: 0<=(lo.length:Int)/\(lo.length:Int) < ((List.replicate lo.length (0:Int)++0::g).length:Int):=by simp;omega
 have wt:u64.wrap top=top:=bf (by omega);have j:¬(v.length:Int) < (v.length:Int):=by omega
 have l:=gI v.length;have e:val M+4294967296 ^ v.length * (top - c - b)= (val w+4294967296 ^ v.length * top) - a * val v:=by rw [Q,ZR,ZR,VG];omega
 have X:∀z:Int,z<= -1->4294967296 ^ v.length * z<= -(4294967296 ^ v.length):=λz hz=>by have:(4294967296:Int) ^ v.length * z<=4294967296 ^ v.length * (-1):=Vh hz (Wu l);omega
 have N:∀z:Int,1<=z->4294967296 ^ v.length<=(4294967296:Int) ^ v.length * z:=λz hz=>by have:(4294967296:Int) ^ v.length * 1<=4294967296 ^ v.length * z:=Vh hz (Wu l);omega
 by_cases he:a=q
 .subst he;have hz:top - c - b=0:=by
   rcases Xj (top - c - b) 0 with h | h | h
   .have:=X (top - c - b) (by omega);rw [Vw a] at e;omega
   .exact h
   .have:=N (top - c - b) (by omega);rw [Vw a] at e;omega
  have o:ct (top - c - b)=0:=by rw [hz];rfl
  have S:¬(0:Int)=1:=by omega
  refine(next M u (by rw [k,d]) (by rw [hz] at e;rw [Vw a] at e;omega)).step λR i=>key R (al ?_);rw [Cc,H];have f:u32.wrap (u64.wrap (top - c - b))=0:=by rw [hz];rfl
  have x:u32.wrap a=a:=by rw [cF];omega
  rw [show lo++ (M++0::hi)= (lo++M)++0::hi from by simp] at i;simp only [ai,↓reduceIte,Int.reduceBEq,Int.reduceEq,GD,j,aM,ad lo.length v.length (by omega),A,and_self,fA (lo++M) top hi _ m,wt,rC,f,fp (lo++M) top _ hi _ m,oZ (v:=top - c - b) (by omega),o,S,B,x,fp _ 0 _ g _ D,wP lo.length (by omega)];exact i
 .have he1:a=q+1:=by omega
  have hq'V:a * val v=val v * q+val v:=by rw [he1,Xs,Ww,Vw]
  have hz:top - c - b= -1:=by
   rcases Xj (top - c - b) (-1) with h | h | h
   .exfalso;have:(4294967296:Int) ^ v.length * (top - c - b)<=4294967296 ^ v.length * (-2):=Vh (by omega) (Wu l);omega
   .exact h
   .exfalso;have:(4294967296:Int) ^ v.length * 0<=4294967296 ^ v.length * (top - c - b):=Vh (by omega) (Wu l);omega
  have o:ct (top - c - b)=1:=by rw [hz];rfl
  obtain⟨K,n,L,a4,a5⟩:=Bm (us:=M) (vs:=v) (c:=0) (by rw [k,d]) u hv (by omega);rw [k,d] at K n;have hA0:=eJ L;have W:=fu L;rw [n] at W;rw [hz] at e;have hM:val M=r - val v+4294967296 ^ v.length:=by omega
  have C:gT M v 0=1:=by
   rcases Wy (gT M v 0) 1 with h | h
   .exfalso;have:gT M v 0=0:=by omega
    rw [this] at K;omega
   .omega
  rw [C] at K;refine(next (dF M v 0) L n (by omega)).step λR i=>key R ?_;have t:=QQ s ev ec0 ec1 v hv lo hi (List.replicate lo.length 0++0::g) 4294967295 q E J R v 0 0 [] M rfl (by omega) rfl (by rw [k,d]) u (by omega) (by
   rw [C];refine al ?_;rw [He];have O:lo++ ([] ++dF M v 0++4294967295::hi)= (lo++dF M v 0)++4294967295::hi:=by simp
   rw [O];have p:(lo++dF M v 0).length=lo.length+v.length:=by simp [n]
   have Z: 0<=((lo.length+v.length:Nat):Int)/\((lo.length+v.length:Nat):Int) < (((lo++dF M v 0)++4294967295::hi).length:Int):=by simp [n];omega
   have f:u32.wrap (4294967295+u32.wrap 1)=0:=by rw [cF,cF];rfl
   have x:u32.wrap q=q:=by rw [cF];omega
   rw [show lo++ (dF M v 0++0::hi)= (lo++dF M v 0)++0::hi from by simp] at i;simp only [ai,↓reduceIte,Int.reduceBEq,Int.reduceEq,GD,j,aM,ad lo.length v.length (by omega),Z,and_self,fA (lo++dF M v 0) _ hi _ p,f,fp (lo++dF M v 0) _ _ hi _ p,B,x,fp _ 0 _ g _ D,wP lo.length (by omega)];exact i)
  refine al ?_;rw [Cc,H];have f:u32.wrap (u64.wrap (top - c - b))=4294967295:=by rw [hz];rfl
  have x:u64.wrap (a - 1)=q:=by rw [bf (by omega)];omega
  rw [show lo++ ([] ++M++4294967295::hi)= (lo++M)++4294967295::hi from by simp] at t;simp only [ai,↓reduceIte,Int.reduceBEq,Int.reduceEq,GD,j,aM,ad lo.length v.length (by omega),A,and_self,fA (lo++M) top hi _ m,wt,rC,f,fp (lo++M) top _ hi _ m,oZ (v:=top - c - b) (by omega),o,x];exact t
end
theorem QO(s k:Nat)(ev ec0 ec1:Bool)(v u B:List Int)(Φ:List T->Prop){U V P w0 v0 u2 v2 v1 Tt q:Int}(hvl:v.length<=1000)(hkl:k<=1000)(hn2: 2<=v.length)(hul:k+v.length < u.length)
  (j:(ax v)[((v.length - 1:Nat):Int).toNat]? =some [T.int .u32 v1]) (l:(ax v)[((v.length - 2:Nat):Int).toNat]? =some [T.int .u32 v2]) (n:(ax u)[((k+v.length - 2:Nat):Int).toNat]? =some [T.int .u32 u2])
  (F: 0 < P) (G:U=w0+P * u2+4294967296 * (P * Tt)) (H:V=v0+P * v2+4294967296 * (P * v1)) (J: 0<=w0/\w0 < P) (r: 0<=v0/\v0 < P) (z: 0<=u2/\u2 < 4294967296) (e: 0<=v2/\v2 < 4294967296) (A: 1<=v1/\v1 < 4294967296)
  (X: 0<=U) (Y:U < V * 4294967296) (i: 0 < V) (w:q=U / V)
  (go:∀t,q<=t->t<=q+1->0<=t->t < 4294967296->Good Φ (Or mI [I (s:Int),I (v.length:Int),lu ev v,o0,o1,I (k:Int),u6 t,u6 0,u6 0,lu ev v,I (v.length:Int),I 0] (U2 ec0 ec1 u B))):
  ∀(m:Nat) (qh rh:Int),4294967296 - rh<=(m:Int)->qh * v1+rh=Tt->0<=rh/\rh < 4294967296->q<=qh->qh < 18446744073709551616->
   Good Φ (Or xC [I (s:Int),I (v.length:Int),lu ev v,o0,o1,I (k:Int),u6 qh,u6 rh] (U2 ec0 ec1 u B)):=by
 have Z:q * V<=U:=by rw [w];exact Zc _ (by omega)
 have hqV1:U < (q+1) * V:=by rw [w,Xs,Ww];have:=Wx U V;have:=Wj U i;rw [Vw V] at *;omega
 have hq0: 0<=q:=by rw [w];exact WO X (by omega)
 have hqB:q < 4294967296:=by rw [w];exact Yq i (by rw [Vw];exact Y)
 have W:Tt < 4294967296 * (v1+1):=by
  rcases Wy Tt (4294967296 * (v1+1)) with h | h
  .exact h
  .exfalso;have h1:P * (4294967296 * (v1+1))<=P * Tt:=Vh h (by omega);have Q:P * v2<=P * 4294967295:=Vh (by omega) (by omega);have h3: 0<=P * u2:=Wh (by omega) z.1;rw [VU,VG,Yi] at h1;omega
 intro m;induction m with
 | zero=>intro qh rh hm _ hr _ _;omega
 | succ m ih=>
  intro qh rh hm S hr hqq hq64;have K:i64.wrap ((v.length:Int) - 2)= ((v.length - 2:Nat):Int):=by rw [Go.Aev.wr (by omega)];omega
  have L:i64.wrap (((k+v.length:Nat):Int) - 2)= ((k+v.length - 2:Nat):Int):=by rw [Go.Aev.wr (by omega)];omega
  have M:i64.wrap ((v.length:Int) - 1)= ((v.length - 1:Nat):Int):=by rw [Go.Aev.wr (by omega)];omega
  have C: 0<=((v.length - 2:Nat):Int)/\((v.length - 2:Nat):Int) < (v.length:Int):=by omega
  have D: 0<=((k+v.length - 2:Nat):Int)/\((k+v.length - 2:Nat):Int) < (u.length:Int):=by omega
  have E: 0<=((v.length - 1:Nat):Int)/\((v.length - 1:Nat):Int) < (v.length:Int):=by omega
  have N:u64.wrap v2=v2:=bf (by omega);have x2:u64.wrap v1=v1:=bf (by omega);have O:u64.wrap (rh+v1)=rh+v1:=bf (by omega);have o:=nT hr z;by_cases d:qh>=4294967296\/qh * v2 > rh * 4294967296+u2
  ·
   have f:q<=qh - 1:=by
    rcases d with d | d
    .omega
    .exact IB F G H J r.1 (by omega) S Z d i
   have x:u64.wrap (qh - 1)=qh - 1:=bf (by omega);have y:(qh - 1) * v1+ (rh+v1)=Tt:=by rw [YT,Ww];omega
   have c:(¬qh / 4294967296=0\/u64.wrap (qh * v2) > rh * 4294967296+u2):=by
    by_cases hb:qh>=4294967296
    .left;omega
    .right;rcases d with d | d
     .exact absurd d hb
     .have:=lk (a:=qh) (b:=v2) (by omega) e;rw [bf (by omega)];exact d
   by_cases hbr:rh+v1 < 4294967296
   .have hz:(rh+v1) / 4294967296=0:=by omega
    refine(ih (qh - 1) (rh+v1) (by omega) y (by omega) f (by omega)).step λR g=>al ?_;rw [Cb];simp only [jm,oQ,<-decide_not,<-WN,ij];simp only [ai,↓reduceIte,Int.reduceBEq,Int.reduceEq,GD,aM,K,ad k v.length (by omega),L,M,C,D,E,and_self,j,l,n,N,x2,O,x,o,c,hz];exact g
   .have hz:¬(rh+v1) / 4294967296=0:=by omega
    have hsm:qh - 1 < 4294967296:=by
     rcases Wy (qh - 1) 4294967296 with h | h
     .exact h
     .exfalso;have: 4294967296 * v1<=(qh - 1) * v1:=VA h (by omega);rw [VG] at W;omega
    have p:qh - 1<=q+1:=by
     have h1:=lk (a:=qh - 1) (b:=v2) (by omega) e;have Q:=zn F G H J.1 r e.1 A.1 (qh:=qh - 1) (by omega) y (by omega);rcases Wy (q+1) (qh - 1) with h | h
     .exfalso;have:(q+1) * V<=(qh - 1 - 1) * V:=VA (by omega) (by omega);omega
     .exact h
    refine(go (qh - 1) f p (by omega) hsm).step λR g=>al ?_;rw [Cb];simp only [jm,oQ,<-decide_not,<-WN,ij];simp only [ai,↓reduceIte,Int.reduceBEq,Int.reduceEq,GD,aM,K,ad k v.length (by omega),L,M,C,D,E,and_self,j,l,n,N,x2,O,x,o,c,hz];exact g
  .have hqs:qh < 4294967296:=by omega
   have f:qh * v2<=rh * 4294967296+u2:=by omega
   have hm2:=lk (a:=qh) (b:=v2) (by omega) e;have x:u64.wrap (qh * v2)=qh * v2:=bf (by omega);have c:¬(¬qh / 4294967296=0\/qh * v2 > rh * 4294967296+u2):=by omega
   have p:qh<=q+1:=by
    have Q:=zn F G H J.1 r e.1 A.1 (qh:=qh) (by omega) S f;rcases Wy (q+1) qh with h | h
    .exfalso;have:(q+1) * V<=(qh - 1) * V:=VA (by omega) (by omega);omega
    .exact h
   refine(go qh hqq p (by omega) hqs).step λR g=>al ?_;rw [Cb];simp only [jm,oQ,<-decide_not,<-WN,ij];simp only [ai,↓reduceIte,Int.reduceBEq,Int.reduceEq,GD,aM,K,ad k v.length (by omega),L,M,C,D,E,and_self,j,l,n,N,x2,O,o,x,c];exact g
theorem nX(n:Nat):((2:Int) ^ n)= ((2 ^ n:Nat):Int):=by rw [Int.natCast_pow];rfl
theorem qU{y z:Int}{n t:Nat}(e:n<=32)(hy: 0<=y/\y < (2:Int) ^ n)(hz:z= ((2 ^ n * t:Nat):Int))(hb:z < 4294967296)(b:z+y < 4294967296):
  u32.wrap (((BitVec.ofInt 32 y ||| BitVec.ofInt 32 z).toNat:Nat):Int)=z+y:=by
 obtain⟨a,rfl⟩:=WY hy.1;have d:a < 2 ^ n:=by have:=hy.2;rw [nX] at this;omega
 have g: 2 ^ n * t < 4294967296:=by rw [hz] at hb;omega
 have f:(2:Nat) ^ n<=2 ^ 32:=Xt (by decide) e;have c:a % 2 ^ 32=a:=XD (by omega);have e2:(2 ^ n * t) % 2 ^ 32=2 ^ n * t:=XD (by omega);rw [hz,X3,X3,BitVec.toNat_or,Ye,Ye,c,e2,Nat.or_comm,<-Zw d,cF];have: 2 ^ n * t+a < 4294967296:=by rw [hz] at b;omega
 rw [<-Int.natCast_add];omega
theorem gL(n:Nat): 0 < (2:Int) ^ n:=Int.pow_pos (by decide)
theorem pB{n:Nat}(h:n<=32):(4294967296:Int)=2 ^ (32 - n) * 2 ^ n:=by rw [<-X4,show 32 - n+n=32 from by omega];decide
theorem zD{a m k:Int}(hm: 0 < m)(b: 4294967296=k * m):(a * m) % 4294967296= (a % k) * m:=by
 conv=>lhs;rw [b]
 rw [Db hm]
theorem Rs(n:Nat)(hn:n < 32)(e:Bool)(x:List Int)(M:Dg x)(hl:x.length<=900):∀(b:List Int) (i:Nat) (c:Int) (done:List Int),x.drop i=b->done.length=i->i<=x.length->0<=c/\c < (2:Int) ^ n->
  Or xE [I (n:Int),o0,lu e x,I (x.length:Int),I (i:Int)] [ab.sl false 1 false (ax (done++c::List.replicate b.length 0))]=some [T.aa 1 false (ax (done++eI (2 ^ n) b c))]:=by
 have m:=gL n;have w:=pB (n:=n) (by omega);have hkp:=gL (32 - n);have O:(n:Int).tdiv 32=0:=by rw [Wg (by omega)];omega
 have Q:(n:Int).tmod 32= (n:Int):=by rw [Wo (by omega)];omega
 have R:min ((n:Int)).toNat 64=n:=by rw [VE];omega
 have S:¬(n:Int) < 0:=by omega
 have K:(2:Int) ^ n<=2147483648:=by have:(2:Nat) ^ n<=2 ^ 31:=Xt (by decide) (by omega);rw [nX];omega
 intro b;induction b with
 | nil=>
  intro i c done h d hi k;have h1:¬(i:Int) < (x.length:Int):=by have:=bw h;omega
  refine al ?_;rw [Hf];simp only [ai,↓reduceIte,Int.reduceBEq,Int.reduceEq,GD,h1,eI,VS,WW]
 | cons a b N=>
  intro i c done h d hi k;obtain⟨F,G,H⟩:=bt h;have j:=M a (Va F);have r:=fI h;have h1:(i:Int) < (x.length:Int):=by omega
  have J: 0<=(i:Int):=by omega
  have z: 0<=a * (2:Int) ^ n:=Wh j.1 (by omega);have A:a * (2:Int) ^ n < 4294967296 * (2:Int) ^ n:=Xy j.2 m;have p: 0<=a * (2:Int) ^ n / 4294967296:=WO z (by decide);have o:a * (2:Int) ^ n / 4294967296 < (2:Int) ^ n:=by rw [W4 (by decide),Vw (2 ^ n)];exact A
  have D:=wz m w (x:= [a]) (c:=c) (by intro u E;simp at E;subst E;exact j) k;have hdg:=D.2.2 (a * 2 ^ n % 4294967296+c) (by simp [eI]);have B:=zD (a:=a) m w;have C:u32.wrap (((BitVec.ofInt 32 c ||| BitVec.ofInt 32 (a * (2:Int) ^ n % 4294967296)).toNat:Nat):Int)=a * (2:Int) ^ n % 4294967296+c:=by have y:=WL a (show(2:Int) ^ (32 - n)≠0 by omega);obtain⟨t,L⟩:=WY y;exact qU (n:=n) (t:=t) (by omega) k (by rw [B,L,nX,Vw,<-XK]) (by omega) (by omega)
  have W:u64.wrap a=a:=bf (by omega);have X:u64.wrap (a * (2:Int) ^ n)=a * (2:Int) ^ n:=bf (by omega);have Y:i64.wrap 0=0:=by rw [Go.Aev.wr (by omega)]
  have w4:i64.wrap ((i:Int)+0)= (i:Int):=by rw [Go.Aev.wr (by omega)];omega
  have Z:u32.wrap (a * (2:Int) ^ n / 4294967296)=a * (2:Int) ^ n / 4294967296:=by rw [cF];omega
  have l: 0<=(i:Int)/\(i:Int) < ((done++c::List.replicate (a::b).length 0).length:Int):=by simp;omega
  have g: 0<=((i+1:Nat):Int)/\((i+1:Nat):Int) < ((done++ (a * (2:Int) ^ n % 4294967296+c)::List.replicate (a::b).length 0).length:Int):=by simp;omega
  have f:=fp (done++ [a * (2:Int) ^ n % 4294967296+c]) 0 (a * (2:Int) ^ n / 4294967296) (List.replicate b.length 0) (i+1) (by simp [d]);rw [show(done++ [a * (2:Int) ^ n % 4294967296+c])++0::List.replicate b.length 0=done++ (a * (2:Int) ^ n % 4294967296+c)::List.replicate (a::b).length 0 from by simp [VX]] at f;have:=N (i+1) (a * (2:Int) ^ n / 4294967296) (done++ [a * (2:Int) ^ n % 4294967296+c]) H (by simp [d]) (by omega) ⟨p,o⟩;refine al ?_;rw [Hf];simp only [O,Q,R,Y];simp only [ai,↓reduceIte,Int.reduceBEq,Int.reduceEq,GD,h1,J,and_self,aM,bD G,r,w4,S,l,fA done c _ i d,W,X,cF (a * (2:Int) ^ n),C,fp done c _ _ i d,nx i (by omega),g,ij,Z,f];rw [eI,show done++ (a * 2 ^ n % 4294967296+c)::eI (2 ^ n) b (a * 2 ^ n / 4294967296)= (done++ [a * 2 ^ n % 4294967296+c])++eI (2 ^ n) b (a * 2 ^ n / 4294967296) from by simp];exact this
theorem KX(n:Nat)(d:n < 32)(e:Bool)(x:List Int)(f:Dg x)(c:x.length<=900):Or (.call 150) [lu e x,I (n:Int)] []=some [T.aa 1 false (ax (eI (2 ^ n) x 0))]:=by
 have h1:=Rs n d e x f c x 0 0 [] rfl rfl (by omega) ⟨Yh _,gL n⟩;have g:(n:Int).tdiv 32=0:=by rw [Wg (by omega)];omega
 have h:i64.wrap 0=0:=by rw [Go.Aev.wr (by omega)]
 have w4:i64.wrap ((x.length:Int)+0)= (x.length:Int):=by rw [Go.Aev.wr (by omega)];omega
 have a:br ((x.length+1:Nat):Int) ((x.length+1:Nat):Int)=some ():=by unfold br dY;rw [if_pos (by omega)]
 have b:ax ([] ++0::List.replicate x.length 0)=List.replicate (x.length+1) [T.int u32 0]:=by simp [ax,VX]
 rw [b] at h1;refine al ?_;rw [Oj];simp only [g,h,aM,w4,nx x.length (by omega)];simp only [ai,↓reduceIte,Int.reduceBEq,Int.reduceEq,GD,a,VE];exact h1
theorem Rt(n:Nat)(hn:n < 32)(e:Bool)(x:List Int)(Q:Dg x)(hl:x.length<=900):∀(c:List Int) (i:Nat) (done:List Int),x.drop i=c->done.length=i->i<=x.length->
  Or uk [lu e x,I (n:Int),o0,lu e x,I (x.length:Int),I (i:Int)] [ab.sl false 1 false (ax (done++List.replicate c.length 0))]=some [T.aa 1 false (ax (done++cX (2 ^ n) (2 ^ (32 - n)) c))]:=by
 have O:=gL n;have D:=pB (n:=n) (by omega);have M:=gL (32 - n);have F:(n:Int).tmod 32= (n:Int):=by rw [Wo (by omega)];omega
 have G:min ((n:Int)).toNat 32=n:=by rw [VE];omega
 have H:¬(n:Int) < 0:=by omega
 have Z:i64.wrap (32 - (n:Int))= ((32 - n:Nat):Int):=by rw [Go.Aev.wr (by omega)];omega
 have t6:min (((32 - n:Nat):Int)).toNat 32=32 - n:=by rw [VE];omega
 have t7:¬((32 - n:Nat):Int) < 0:=by omega
 intro c;induction c with
 | nil=>
  intro i done h f hi;have h1:¬(i:Int) < (x.length:Int):=by have:=bw h;omega
  refine al ?_;rw [yT];simp only [ai,↓reduceIte,Int.reduceBEq,Int.reduceEq,GD,h1,cX,VS,WW]
 | cons a c k=>
  intro i done h f hi;obtain⟨S,A,d⟩:=bt h;have K:=Q a (Va S);have m:=fI h;have h1:(i:Int) < (x.length:Int):=by omega
  have B: 0<=(i:Int):=by omega
  have j:done++List.replicate (a::c).length 0=done++0::List.replicate c.length 0:=by simp [VX]
  have g: 0<=(i:Int)/\(i:Int) < ((done++0::List.replicate c.length 0).length:Int):=by simp;omega
  have o:a.fdiv ((2:Int) ^ n)=a / 2 ^ n:=Wf _ (by omega);have y: 0<=(i:Int)/\(i:Int) < ((done++ (a / 2 ^ n)::List.replicate c.length 0).length:Int):=by simp;omega
  have p:∀b:Int,0<=b/\b < 4294967296->(b * (2:Int) ^ (32 - n)) % 4294967296= (b % 2 ^ n) * 2 ^ (32 - n):=λb hb=>zD M (by rw [Vw];exact D);have u: 0<=a / (2:Int) ^ n:=WO K.1 (by omega);have w:a / (2:Int) ^ n < 2 ^ (32 - n):=by rw [W4 O,<-D];exact K.2
  match c,d,k with
  | [],d,k=>
   have hle:=bw d;have C:¬((i+1:Nat):Int) < (x.length:Int):=by omega
   have:=k (i+1) (done++ [a / 2 ^ n]) d (by simp [f]) (by omega);refine al ?_;rw [yT,j];simp only [F,G,eZ,<-W3];simp only [ai,↓reduceIte,Int.reduceBEq,Int.reduceEq,GD,h1,B,and_self,aM,bD A,m,H,g,o,fp done 0 _ _ i f,nx i (by omega),C,false_and];rw [show done++ (a / 2 ^ n)::List.replicate ([]:List Int).length 0= (done++ [a / 2 ^ n])++List.replicate ([]:List Int).length 0 from by simp,
    show done++cX (2 ^ n) (2 ^ (32 - n)) [a]= (done++ [a / 2 ^ n])++cX (2 ^ n) (2 ^ (32 - n)) [] from by simp [cX]]
   exact this
  | b::c,d,k=>
   obtain⟨Y,k2,k3⟩:=bt d;have hb:=Q b (Va Y);have L:=fI d;have C:((i+1:Nat):Int) < (x.length:Int):=by omega
   have J: 0<=((i+1:Nat):Int):=by omega
   have l:=WL b (show(2:Int) ^ n≠0 by omega);have W:=Wj b O;have R:(b % 2 ^ n+1) * (2:Int) ^ (32 - n)<=2 ^ n * 2 ^ (32 - n):=VA (by omega) (by omega);rw [Xs,Ww,Vw ((2:Int) ^ n),<-D] at R;have hz0: 0<=(b % 2 ^ n) * (2:Int) ^ (32 - n):=Wh l (by omega);by_cases z:(n:Int) > 0
   .have:=k (i+1) (done++ [a / 2 ^ n+b * 2 ^ (32 - n) % 4294967296]) d (by simp [f]) (by omega);have N:u32.wrap (((BitVec.ofInt 32 (a / (2:Int) ^ n) ||| BitVec.ofInt 32 (b * (2:Int) ^ (32 - n) % 4294967296)).toNat:Nat):Int)=a / 2 ^ n+b * 2 ^ (32 - n) % 4294967296:=by
     obtain⟨t,X⟩:=WY l;rw [qU (n:=32 - n) (t:=t) (by omega) ⟨u,w⟩ (by rw [p b hb,X,nX (32 - n),Vw,<-XK]) (by rw [p b hb];omega) (by rw [p b hb];omega)];omega
    have r:((i+1:Nat):Int) < (x.length:Int)/\(n:Int) > 0:=⟨C,z⟩;refine al ?_;rw [yT,j];simp only [F,G,eZ,<-W3];simp only [ai,↓reduceIte,Int.reduceBEq,Int.reduceEq,GD,h1,B,and_self,aM,bD A,m,H,g,o,fp done 0 _ _ i f,nx i (by omega),r,y,fA done _ _ i f,J,bD k2,L,Z,t6,t7,cF (b * (2:Int) ^ (32 - n)),N,fp done (a / 2 ^ n) _ _ i f];rw [show done++ (a / 2 ^ n+b * 2 ^ (32 - n) % 4294967296)::List.replicate (b::c).length 0= (done++ [a / 2 ^ n+b * 2 ^ (32 - n) % 4294967296])++List.replicate (b::c).length 0 from by simp,
     show done++cX (2 ^ n) (2 ^ (32 - n)) (a::b::c)= (done++ [a / 2 ^ n+b * 2 ^ (32 - n) % 4294967296])++cX (2 ^ n) (2 ^ (32 - n)) (b::c) from by simp [cX]]
    exact this
   .have E:n=0:=by omega
    have hz:b * (2:Int) ^ (32 - n) % 4294967296=0:=by rw [E,show((2:Int) ^ (32 - 0))=4294967296 from by decide];omega
    have:=k (i+1) (done++ [a / 2 ^ n+b * 2 ^ (32 - n) % 4294967296]) d (by simp [f]) (by omega);rw [hz,W8] at this;refine al ?_;rw [yT,j];simp only [F,G,eZ,<-W3];simp only [ai,↓reduceIte,Int.reduceBEq,Int.reduceEq,GD,h1,B,and_self,aM,bD A,m,H,g,o,fp done 0 _ _ i f,nx i (by omega),z,and_false];rw [show done++ (a / 2 ^ n)::List.replicate (b::c).length 0= (done++ [a / 2 ^ n])++List.replicate (b::c).length 0 from by simp,
     show done++cX (2 ^ n) (2 ^ (32 - n)) (a::b::c)= (done++ [a / 2 ^ n])++cX (2 ^ n) (2 ^ (32 - n)) (b::c) from by simp [cX,hz]]
    exact this
theorem Ta(n:Nat)(f:n < 32)(e:Bool)(x:List Int)(g:Dg x)(d:x.length<=900)(j: 0 < x.length):Or (.call 151) [lu e x,I (n:Int)] []=some [T.aa 1 false (ax (cX (2 ^ n) (2 ^ (32 - n)) x))]:=by
 have h1:=Rt n f e x g d x 0 [] rfl rfl (by omega);have h:(n:Int).tdiv 32=0:=by rw [Wg (by omega)];omega
 have i:i64.wrap 0=0:=by rw [Go.Aev.wr (by omega)]
 have b:¬(0:Int)>=(x.length:Int):=by omega
 have hi:bQ 0 (x.length:Int) (x.length:Int)=some ():=by unfold bQ;rw [if_pos (by omega)]
 have hs:sub 0 (x.length:Int) (ax x)=ax x:=by unfold sub;simp [aM,V9]
 have a:br (x.length:Int) (x.length:Int)=some ():=by unfold br dY;rw [if_pos (by omega)]
 have c:ax ([] ++List.replicate x.length 0)=List.replicate x.length [T.int u32 0]:=by simp [ax]
 rw [c] at h1;refine al ?_;rw [Ok];simp only [h,i,aM];simp only [ai,↓reduceIte,Int.reduceBEq,Int.reduceEq,GD,b,hi,hs,aM,a,VE];exact h1
end Go.Aev.Wd
