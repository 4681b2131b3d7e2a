import Derived.Test.YticjdhgokemdlaaGreatMostTrueQ8
set_option linter.all false
namespace Go.Aev.Wd
open Go Go.Aev Go.Aev.Gen Go.IntKind
theorem nY{z:Int}{s:Bool}{d:List Int}(h:ch z s d):val d= (z.natAbs:Int):=by have h1:=h.z;have a:=eQ h.dg;unfold num at h1;split at h1 <;> omega
theorem pk{z:Int}{s:Bool}{d:List Int}(h:ch z s d):s=decide (z < 0):=by
 have h1:=h.z;have a:=eQ h.dg;cases s with
 | false=>simp [num] at h1;simp;omega
 | true=>have:=rQ h.dg h.can (h.sg rfl);simp [num] at h1;simp;omega
theorem vQ{n m:Nat}(h:n<=m):(4294967296:Int) ^ n<=4294967296 ^ m:=by
 have:m=n+ (m - n):=by omega
 rw [this,XZ];have a:(4294967296:Int) ^ n * 1<=4294967296 ^ n * 4294967296 ^ (m - n):=Vg (by have:=gO (m - n);omega) (Wu (gO _));omega
theorem DZ{z:Int}{s:Bool}{d:List Int}(h:ch z s d)(n:Nat)(hz:(z.natAbs:Int) < 4294967296 ^ n):d.length<=n:=by
 rcases Xk n d.length with a | a
 .exfalso;have h1:=BY (k:=d.length - 1) h.dg h.can (by omega);rw [nY h] at h1;have b:(4294967296:Int) ^ n<=4294967296 ^ (d.length - 1):=vQ (by omega);omega
 .exact a
theorem sW{z:Int}{s:Bool}{d:List Int}(h:ch z s d)(hz: -18446744073709551616 < z/\z < 18446744073709551616):d.length<=2:=DZ h 2 (by
 rw [show((4294967296:Int) ^ 2)=18446744073709551616 from by decide];omega)
theorem Ti(a b:Nat)(hb:b < 2 ^ 32):a * 2 ^ 32 ||| b=a * 2 ^ 32+b:=by rw [Nat.mul_comm,Zq hb]
theorem nS{v n:Int}(hv: 0<=v/\v < 4294967296)(e: 0<=n/\n < 4294967296):
  u64.wrap (((BitVec.ofInt 64 (u64.wrap (v * (2:Int) ^ 32)) ||| BitVec.ofInt 64 (u64.wrap n)).toNat:Nat):Int)=v * 4294967296+n:=by
 obtain⟨a,rfl⟩:=WX hv.1;obtain⟨b,rfl⟩:=WX e.1;have h1:u64.wrap ((a:Int) * (2:Int) ^ 32)= ((a * 2 ^ 32:Nat):Int):=by rw [show((2:Int) ^ 32)=4294967296 from by decide,be (by omega)];omega
 have d:u64.wrap (b:Int)= ((b:Nat):Int):=be (by omega);have c:(a * 2 ^ 32) % 2 ^ 64=a * 2 ^ 32:=X3 (by omega);have e2:b % 2 ^ 64=b:=X3 (by omega);rw [h1,d,XY,XY,BitVec.toNat_or,Yb,Yb,c,e2,Ti a b (by omega),be (by omega)];omega
theorem zP(s e:Bool)(d:List Int)(c:Dg d)(k:Nat)(a:k < d.length)(g:d.length<=2)(v:Int)(hv: 0<=v/\v < 4294967296)(R:List T)
  (h:Or rF [AV.t (T.ptr [tb s,T.aa 1 e (ay d)]),AV.t (T.int .u64 (v * 4294967296+aN d k)),I ((k:Int) - 1)] []=some R):
  Or rF [AV.t (T.ptr [tb s,T.aa 1 e (ay d)]),AV.t (T.int .u64 v),I (k:Int)] []=some R:=by
 have h1:(k:Int)>=0:=by omega
 have b: 0<=(k:Int)/\(k:Int) < (d.length:Int):=by omega
 have hm:aN d k∈d:=by simp only [aN,U7,Vb a,Vx];exact W2 a
 have f:i64.wrap ((k:Int) - 1)= (k:Int) - 1:=wr (by omega);refine aj ?_;rw [GM];simp only [ai,↓reduceIte,GD,h1,b,and_self,aL,bE a,nS hv (c _ hm),f];exact h
theorem ES(s e:Bool)(d:List Int)(v:Int):Or rF [AV.t (T.ptr [tb s,T.aa 1 e (ay d)]),AV.t (T.int .u64 v),I (-1)] []=some [T.int .u64 v]:=by
 refine aj ?_;rw [GM];have h1:¬(-1:Int)>=0:=by omega
 simp only [ai,↓reduceIte,GD,h1]
theorem jW(s e:Bool)(d:List Int)(f:Dg d)(g:d.length<=2):Or (.call 111) [AV.t (T.ptr [tb s,T.aa 1 e (ay d)])] []=some [T.int .u64 (val d)]:=by
 refine aj ?_;rw [Cr,aL,I7]
 match d,f,g with
 | [],_,_=>rw [wr (by simp;omega)];exact ES s e [] _
 | [a],f,_=>rw [show(min (([a]:List Int).length:Int) 2 - 1)= ((0:Nat):Int) from by simp;omega,wr (by simp)];refine zP s e [a] f 0 (by simp) (by simp) 0 (by omega) _ ?_;rw [show(((0:Nat):Int) - 1)= -1 from rfl,show((0:Int) * 4294967296+aN [a] 0)=val [a] from by simp [aN,val]];exact ES s e [a] _
 | [a,b],f,_=>rw [show(min (([a,b]:List Int).length:Int) 2 - 1)= ((1:Nat):Int) from by simp;try omega,wr (by simp)];have hb:=f b (by simp);refine zP s e [a,b] f 1 (by simp) (by simp) 0 (by omega) _ ?_;rw [show(((1:Nat):Int) - 1)= ((0:Nat):Int) from rfl,show((0:Int) * 4294967296+aN [a,b] 1)=b from by simp [aN]];refine zP s e [a,b] f 0 (by simp) (by simp) b hb _ ?_;rw [show(((0:Nat):Int) - 1)= -1 from rfl,show(b * 4294967296+aN [a,b] 0)=val [a,b] from by simp [aN,val];omega];exact ES s e [a,b] _
 | a::b::c::r,_,g=>simp at g
theorem Jn(s e:Bool)(d:List Int)(g:d.length<=1000):∀(k:Nat),k<=d.length->
  Or xD [r0,I (k:Int)] [ab.box [AV.t (T.bool s),lu e d]]=some [T.ax,tb (s && decide (fF d k≠0)),T.aa 1 e (ay (d.take (fF d k)))]
 | 0,h=>by
  refine aj ?_;rw [GL];have hi:bO 0 ((0:Nat):Int) (d.length:Int)=some ():=by unfold bO;rw [if_pos (by omega)]
  have a:¬((0:Nat):Int) > 0:=by omega
  have h1:((0:Nat):Int)=0:=rfl;simp only [ai,GD,bL,a,aL,decide_false,hi];simp [fF,ay,sub]
 | k+1,h=>by
  refine aj ?_;rw [GL];have a:((k+1:Nat):Int) > 0:=by omega
  have c:i64.wrap (((k+1:Nat):Int) - 1)= (k:Int):=by rw [wr (by omega)];omega
  have b: 0<=(k:Int)/\(k:Int) < (d.length:Int):=by omega
  have hi:bO 0 ((k+1:Nat):Int) (d.length:Int)=some ():=by unfold bO;rw [if_pos (by omega)]
  have f:¬((k+1:Nat):Int)=0:=by omega
  by_cases hz:aN d k=0
  .have:=Jn s e d g k (by omega);rw [fF,if_pos hz];simp only [ai,↓reduceIte,GD,a,c,b,and_self,aL,bE (show k < d.length by omega),hz,decide_true];exact this
  .rw [fF,if_neg hz];simp only [ai,↓reduceIte,GD,a,c,b,and_self,aL,bE (show k < d.length by omega),hz,decide_true,hi,f];simp [ay,List.map_take,sub]
theorem KA(s e:Bool)(d:List Int)(c:d.length<=1000):
  Or (.call 125) [r0] [ab.box [AV.t (T.bool s),lu e d]]=some [T.ax,tb (s && decide (bI d≠[])),T.aa 1 e (ay (bI d))]:=by
 have:=Jn s e d c d.length (Vs _);have b:decide (bI d≠[])=decide (fF d d.length≠0):=by
  refine decide_eq_decide.2 ?_;have:=AL d d.length;unfold bI;constructor
  .intro h a;rw [a] at h;exact h rfl
  .intro h a;have:=congrArg List.length a;simp only [V7,VL] at this;omega
 refine aj ?_;rw [NZ,aL,b];exact this
theorem JJ(b a:Bool)(A B:Int)(c: 0<=A)(e: 0 < B):
  (if a=true then -A else A).tdiv (if b=true then -B else B)= (if(!(a==b))=true then -(A / B) else A / B)/\(if a=true then -A else A).tmod (if b=true then -B else B)= (if a=true then -(A % B) else A % B):=by
 have h1:A.tdiv B=A / B:=Wc c;have d:A.tmod B=A % B:=Wp c;cases a <;> cases b <;> simp [Int.neg_tdiv,Int.tdiv_neg,Int.neg_tmod,Int.tmod_neg,h1,d]
def E5(z m:Int)(r:Option (List T)):Prop:= ∃s e d s' e' a,r=some [T.ax,T.ax,tb s,T.aa 1 e (ay d),tb s',T.aa 1 e' (ay a)]/\ch z s d/\ch m s' a/\d.length<=2/\a.length<=2
theorem Ke{z:Int}{s:Bool}{d:List Int}(h:ch z s d)(hz:z≠0): 0 < val d:=by rw [nY h];omega
theorem KH(s:Bool)(y:T)(e e2 f e3 B:Bool)(C:T)(a b:List Int)(u v:Int)(h:ch u e a)(hb:ch v f b)(A:a.length<=2)(lb:b.length<=2)(hv:v≠0):
  E5 (u.tdiv v) (u.tmod v) (Or (.call 139) [r0,AV.t (T.ptr [tb e,T.aa 1 e2 (ay a)]),AV.t (T.ptr [tb f,T.aa 1 e3 (ay b)]),AV.ref (Id.c 1) 0] [ab.box [AV.t (T.bool s),AV.t y],ab.box [AV.t (T.bool B),AV.t C]]):=by
 have m:=wo a b e e2 f e3 h.dg hb.dg h.can hb.can (by omega) (by omega);have g:=eQ h.dg;have G:=Ke hb hv;obtain⟨l,hm⟩:=JJ f e (val a) (val b) g G;have x:=h.z;have o:=hb.z;unfold num at x o;rw [x,o] at l hm;by_cases k:val a < val b
 .have p:bA (val a) (val b) < 0:=by unfold bA;rw [if_pos k];omega
  obtain⟨s',e',Q,k1,k2,k3⟩:=Ek s y 0 (by omega);rw [YP g k] at l;rw [Zv g k,x] at hm;refine⟨s',e',Q,e,false,a,aj ?_, ?_,by rw [hm];exact h,k3,A⟩
  .rw [y8];simp only [ai,↓reduceIte,GD,m,p,pv B C e e2 a (by omega),k1]
  .rw [l];simpa using k2
 .have p:¬bA (val a) (val b) < 0:=by unfold bA;rw [if_neg k];split <;> omega
  have R:(a.length:Int) < 3:=by omega
  have r:=jW e e2 a h.dg A;have w:=jW f e3 b hb.dg lb;have lta:=fH h.dg;have ltb:=fH hb.dg;have H:∀d:List Int,d.length<=2->(4294967296:Int) ^ d.length<=18446744073709551616:=λd S=>by have F:(4294967296:Int) ^ d.length<=4294967296 ^ 2:=vQ S;rw [show((4294967296:Int) ^ 2)=18446744073709551616 from by decide] at F;exact F
  have hpa:=H a A;have hpb:=H b lb;have n:¬val b=0:=by omega
  have W: 0<=val a / val b:=WO g (by omega);have X:val a / val b<=val a:=YU _ g;have Y: 0<=val a % val b:=WJ _ n;have Z:val a % val b < val b:=Wi _ G;have hw:u64.wrap ((val a).tdiv (val b))=val a / val b:=by rw [Wc g,be (by omega)]
  have I:(val a).tmod (val b)=val a % val b:=Wp g;obtain⟨D,i,J,K,zP,L,k55⟩:=wm s y (val a / val b) (by omega);obtain⟨E,j,M,N,k63,O,k65⟩:=wm B C (val a % val b) (by omega);have t5:=KA (!e==f) D i (by omega);have t6:=KA e E j (by omega);have l5:=qU i;have l6:=qU j;refine⟨(!e==f) && decide (bI i≠[]),D,bI i,e && decide (bI j≠[]),E,bI j,aj ?_,pD (s:= !e==f) K ?_,pD (s:=e) N ?_,by omega,by omega⟩
  .rw [y8];simp only [ai,↓reduceIte,GD,m,p,aL,R,r,w,n,hw,I,J,M,t5,t6]
  .rw [l];unfold num;rw [L]
  .rw [hm];unfold num;rw [O]
theorem Lk{u v:Int}(hv: 0 < v):(u.tmod v < 0->u.tdiv v - 1=u / v/\u.tmod v+v=u % v)/\(¬u.tmod v < 0->u.tdiv v=u / v/\u.tmod v=u % v):=by
 have h1:u.tdiv v=u / v+if 0<=u\/v ∣ u then 0 else v.sign:=Int.tdiv_eq_ediv;have a:u.tmod v=u % v - if 0<=u\/v ∣ u then 0 else v.natAbs:=Int.tmod_eq_emod;have b:=WJ u (show v≠0 by omega);have c:=Wi u hv;have hs:v.sign=1:=Wh hv;rw [hs] at h1;split at h1
 .rename_i h;rw [if_pos h] at a;constructor <;> intro _ <;> omega
 .rename_i h;rw [if_neg h] at a;constructor <;> intro _ <;> omega
theorem KB(s:Bool)(y:T)(k e2 d e3 D:Bool)(H:T)(a b:List Int)(u v:Int)(z:ch u k a)(hb:ch v d b)(hu: -9223372036854775808 < u/\u < 9223372036854775808)(hv: 0 < v/\v < 9223372036854775808):
  E5 (u / v) (u % v) (Or (.call 138) [r0,AV.t (T.ptr [tb k,T.aa 1 e2 (ay a)]),AV.t (T.ptr [tb d,T.aa 1 e3 (ay b)]),AV.ref (Id.c 1) 0] [ab.box [AV.t (T.bool s),AV.t y],ab.box [AV.t (T.bool D),AV.t H]]):=by
 have Q:=sW z (by omega);have lb:=sW hb (by omega);have g:=pv false (T.aJ true) d e3 b (by omega);obtain⟨F,w,o,sm,em,m,C,k2,f,N,O⟩:=KH s y k e2 d e3 D H a b u v z hb Q lb (by omega);have A:=pk hb;have:d=false:=by rw [A];simp;omega
 subst this;have h:=pk f;obtain⟨J,K⟩:=Lk (u:=u) hv.1;have W:=WJ u (show v≠0 by omega);have X:=Wi u hv.1;have Y:=Wx u v;have Z: -9223372036854775808<=u / v/\u / v<=9223372036854775808:=by
  constructor
  .apply Int.le_ediv_of_mul_le hv.1;have: -9223372036854775808 * v<= -9223372036854775808 * 1:=Int.mul_le_mul_of_nonpos_left (by omega) (by omega);omega
  .apply Int.ediv_le_of_le_mul hv.1;have: 9223372036854775808 * 1<=9223372036854775808 * v:=Vg (by omega) (by omega);omega
 by_cases e:u.tmod v < 0
 .have:sm=true:=by rw [h];simpa using e
  subst this;obtain⟨q1,j⟩:=J e;obtain⟨x1,L,M⟩:=qN 1 (by omega);obtain⟨s',e',I,rfl,B⟩:=M;have l1:=sW B (by omega);obtain⟨G,x,p,R,i,m3⟩:=Kx F w s' e' o I _ _ k2 B (by omega) (by omega);obtain⟨E,r,n,S,l,w3⟩:=wh true em false false m b _ _ f hb (by omega) (by omega);rw [q1] at i;rw [j] at l;refine⟨G,x,p,E,r,n,aj ?_,i,l,sW i (by omega),sW l (by omega)⟩;rw [r8];simp only [ai,GD,g,C,L,R,S]
 .have:sm=false:=by rw [h];simpa using e
  subst this;obtain⟨q1,j⟩:=K e;rw [q1] at k2;rw [j] at f;refine⟨F,w,o,false,em,m,aj ?_,k2,f,N,O⟩;rw [r8];simp only [ai,GD,g,C]
open Go Go.Aev Go.Aev.Gen
section
variable {U V P w0 v0 u2 v2 v1 Tt q qh rh:Int}
theorem Ix(l: 0 < P)(m:U=w0+P * u2+4294967296 * (P * Tt))(d:V=v0+P * v2+4294967296 * (P * v1))(n: 0<=w0/\w0 < P)(b: 0<=v0)(g:u2 < 4294967296)(c: 0<=v2)(a: 0<=q)(f:q * V<=U):q * v1<=Tt:=by
 rcases Wy Tt (q * v1) with h | h
 .exfalso;have h1:P * (Tt+1)<=P * (q * v1):=Vg (by omega) (by omega);have i:P * u2<=P * 4294967295:=Vg (by omega) (by omega);have j: 0<=q * v0:=Wg a b;have k: 0<=P * (q * v2):=Wg (by omega) (Wg a c);have e:q * V=q * v0+P * (q * v2)+4294967296 * (P * (q * v1)):=by
   rw [d,VF,VF,VT q P,VT q 4294967296,VT q P]
  rw [VF] at h1;omega
 .exact h
theorem Iy(j: 0 < P)(k:U=w0+P * u2+4294967296 * (P * Tt))(d:V=v0+P * v2+4294967296 * (P * v1))(n: 0<=w0/\w0 < P)(b: 0<=v0)(a: 0<=qh)(c:qh * v1+rh=Tt)(m:q * V<=U)(l:qh * v2 > rh * 4294967296+u2)(f: 0 < V):q<=qh - 1:=by
 have h1:U < qh * V:=by
  have e:qh * V=qh * v0+P * (qh * v2)+4294967296 * (P * (qh * v1)):=by rw [d,VF,VF,VT qh P,VT qh 4294967296,VT qh P]
  have g:P * (rh * 4294967296+u2+1)<=P * (qh * v2):=Vg (by omega) (by omega);have i: 0<=qh * v0:=Wg a b;have e2:P * Tt=P * (qh * v1)+P * rh:=by rw [<-c,VF]
  have e3:P * (rh * 4294967296+u2+1)=4294967296 * (P * rh)+P * u2+P:=by rw [VF,VF,Yd,<-VQ P rh,Vu (P * rh)]
  omega
 rcases Wy (qh - 1) q with h | h
 .exfalso;have:qh * V<=q * V:=Vz (by omega) (by omega);omega
 .exact h
theorem zJ(n: 0 < P)(o:U=w0+P * u2+4294967296 * (P * Tt))(g:V=v0+P * v2+4294967296 * (P * v1))(p: 0<=w0)(b: 0<=v0/\v0 < P)(d: 0<=v2)(c: 1<=v1)(a: 0<=qh/\qh<=4294967296)(f:qh * v1+rh=Tt)(h:qh * v2<=rh * 4294967296+u2):(qh - 1) * V<=U:=by
 have e:qh * V=qh * v0+P * (qh * v2)+4294967296 * (P * (qh * v1)):=by rw [g,VF,VF,VT qh P,VT qh 4294967296,VT qh P]
 have j:P * (qh * v2)<=P * (rh * 4294967296+u2):=Vg h (by omega);have e3:P * (rh * 4294967296+u2)=4294967296 * (P * rh)+P * u2:=by rw [VF,<-VQ P rh,Vu (P * rh)]
 have e2:P * Tt=P * (qh * v1)+P * rh:=by rw [<-f,VF]
 have k:qh * v0<=4294967296 * v0:=Vz a.2 b.1;have l:P * 1<=P * v1:=Vg c (by omega);have m: 0<=P * v2:=Wg (by omega) d;have i:(qh - 1) * V=qh * V - V:=by rw [YQ,Ww]
 omega
end
theorem Dg.append{a b:List Int}(c:Dg a)(hb:Dg b):Dg (a++b):=λu hu=>by
 rcases Vr.1 hu with hu | hu
 .exact c u hu
 .exact hb u hu
theorem Dg.left{a b:List Int}(h:Dg (a++b)):Dg a:=λu c=>h u (Vo _ c)
theorem Dg.right{a b:List Int}(h:Dg (a++b)):Dg b:=λu c=>h u (Vm _ c)
def iz(q:Int):List Int->List Int->Int->Int->List Int
 | x::us,a::vs,c,b=>((x - (c+q * a) % 4294967296 - b) % 4294967296)::iz q us vs ((c+q * a) / 4294967296) (cA (x - (c+q * a) % 4294967296 - b))
 | us,_,_,_=>us
def eS(q:Int):List Int->List Int->Int->Int->Int×Int
 | x::us,a::vs,c,b=>eS q us vs ((c+q * a) / 4294967296) (cA (x - (c+q * a) % 4294967296 - b))
 | _,_,c,b=>(c,b)
theorem BQ(v:Int): 0<=cA v/\cA v<=1:=by unfold cA;split <;> omega
theorem Ds{q:Int}(g: 0<=q/\q < 4294967296):∀{us vs:List Int} {c b:Int},us.length=vs.length->Dg us->Dg vs->0<=c/\c < 4294967296->0<=b/\b<=1->
  val (iz q us vs c b)=val us - q * val vs - c - b+4294967296 ^ us.length * ((eS q us vs c b).1+ (eS q us vs c b).2)/\(iz q us vs c b).length=us.length/\Dg (iz q us vs c b)/\0<=(eS q us vs c b).1/\(eS q us vs c b).1 < 4294967296/\0<=(eS q us vs c b).2/\(eS q us vs c b).2<=1
 | [],[],c,b,_,_,_,e,hb=>by refine⟨by simp [iz,eS,val];omega,rfl,(by intro a f;cases f),e.1,e.2,hb.1,hb.2⟩
 | [],a::vs,c,b,h,_,_,_,_=>by simp at h
 | x::us,[],c,b,h,_,_,_,_=>by simp at h
 | x::us,a::vs,c,b,h,i,hv,e,hb=>by
  have o:=i x U9;have f:=lk g (hv a U9);obtain⟨k,l,m,n⟩:=Ds g (us:=us) (vs:=vs) (c:=(c+q * a) / 4294967296) (b:=cA (x - (c+q * a) % 4294967296 - b)) (by simpa using h) i.tail hv.tail (by omega) (BQ _);refine⟨?_,by simp [iz,l], ?_,by rw [eS];exact n⟩
  .simp only [iz,eS,val,Vw,Xd];rw [k];have j:q * (a+4294967296 * val vs)=q * a+4294967296 * (q * val vs):=by rw [VF,VT]
   rw [j,Vu ((4294967296:Int) ^ us.length) 4294967296,VQ];generalize (4294967296:Int) ^ us.length * _=K;unfold cA;split <;> omega
  .intro u d;simp only [iz] at d;rcases Vk.1 d with rfl | d
   .omega
   .exact m u d
def dG:List Int->List Int->Int->List Int
 | x::us,a::vs,c=>((c+ (x+a)) % 4294967296)::dG us vs ((c+ (x+a)) / 4294967296)
 | us,_,_=>us
def gX:List Int->List Int->Int->Int
 | x::us,a::vs,c=>gX us vs ((c+ (x+a)) / 4294967296)
 | _,_,c=>c
theorem BC:∀{us vs:List Int} {c:Int},us.length=vs.length->Dg us->Dg vs->0<=c/\c<=1->
  val (dG us vs c)+4294967296 ^ us.length * gX us vs c=val us+val vs+c/\(dG us vs c).length=us.length/\Dg (dG us vs c)/\0<=gX us vs c/\gX us vs c<=1
 | [],[],c,_,_,_,d=>by exact⟨by simp [dG,gX,val],rfl,(by intro a e;cases e),d.1,d.2⟩
 | [],a::vs,c,h,_,_,_=>by simp at h
 | x::us,[],c,h,_,_,_=>by simp at h
 | x::us,a::vs,c,h,f,hv,d=>by
  have l:=f x U9;have e:=hv a U9;obtain⟨g,i,j,k⟩:=BC (us:=us) (vs:=vs) (c:=(c+ (x+a)) / 4294967296) (by simpa using h) f.tail hv.tail (by omega);refine⟨?_,by simp [dG,i], ?_,by rw [gX];exact k⟩
  .simp only [dG,gX,val,Vw,Xd];rw [Vu ((4294967296:Int) ^ us.length) 4294967296,VQ];generalize (4294967296:Int) ^ us.length * _=K at g⊢;omega
  .intro u b;simp only [dG] at b;rcases Vk.1 b with rfl | b
   .omega
   .exact j u b
theorem Dq{a k m:Int}(hm: 0 < m):(a * m) % (k * m)= (a % k) * m:=by rw [Vu a m,Vu k m,Int.mul_emod_mul_of_pos _ _ hm,Vu]
def eP(m:Int):List Int->Int->List Int
 | [],c=> [c]
 | a::x,c=>((a * m) % 4294967296+c)::eP m x (a * m / 4294967296)
theorem wz{m k:Int}(hm: 0 < m)(d: 4294967296=k * m):∀{x:List Int} {c:Int},Dg x->0<=c/\c < m->val (eP m x c)=val x * m+c/\(eP m x c).length=x.length+1/\Dg (eP m x c)
 | [],c,_,o=>by
  have e: 0 < k:=by
   rcases Wy 0 k with h | h
   .exact h
   .have:=Wg (ZC h) (Wu hm);rw [YO] at this;omega
  have f:m * 1<=m * k:=Vg (by omega) (by omega);rw [Vu m k,<-d] at f;refine⟨by simp [eP,val],rfl,λa b=> ?_⟩;simp only [eP,Vj] at b;subst b;omega
 | a::x,c,h,o=>by
  have b:=h a U9;have g: 0<=a * m:=Wg b.1 (by omega);have h1:a * m < 4294967296 * m:=Xr b.2 hm;have i:a * m / 4294967296 < m:=by rw [W3 (by decide),Vu m];exact h1
  have j: 0<=a * m / 4294967296:=WO g (by decide);obtain⟨r,t,w⟩:=wz hm d (x:=x) (c:=a * m / 4294967296) h.tail ⟨j,i⟩;refine⟨?_,by simp [eP,t], ?_⟩
  .simp only [eP,val];rw [r,Xl,VQ 4294967296 (val x) m];omega
  .intro u hu;simp only [eP] at hu;rcases Vk.1 hu with rfl | hu
   ·
    have p:(a * m) % 4294967296= (a % k) * m:=by
     conv=>lhs;rw [d]
     rw [Dq hm]
    have e: 0 < k:=by
     rcases Wy 0 k with h | h
     .exact h
     .have:=Wg (ZC h) (Wu hm);rw [YO] at this;omega
    have y:=Wi a e;have l:=WJ a (show k≠0 by omega);have n:(a % k+1) * m<=k * m:=Vz (by omega) (by omega);have z: 0<=(a % k) * m:=Wg l (by omega);rw [Xl,Ww,<-d] at n;rw [p];omega
   .exact w u hu
def cW(m k:Int):List Int->List Int
 | []=> []
 | [a]=> [a / m]
 | a::b::r=>(a / m+ (b * k) % 4294967296)::cW m k (b::r)
theorem Eo{m k:Int}(hm: 0 < m)(c: 4294967296=k * m)(f: 0 < k):∀{x:List Int},Dg x->val (cW m k x)=val x / m/\(cW m k x).length=x.length/\Dg (cW m k x)
 | [],_=>by simp [cW,val,Dg]
 | [a],h=>by have d:=h a U9;have h1: 0<=a / m:=WO d.1 (by omega);have y:a / m<=a:=YU _ d.1;refine⟨by simp [cW,val],rfl,λu hu=> ?_⟩;simp only [cW,Vj] at hu;subst hu;omega
 | a::b::r,h=>by
  obtain⟨o,p,t⟩:=Eo hm c f (x:=b::r) h.tail;have d:=h a U9;have hb:=h b (by simp);have e:(b * k) % 4294967296= (b % m) * k:=by
   conv=>lhs;rw [c,Vu k m]
   rw [Dq f]
  refine⟨?_,by rw [cW,Vw,p];rfl, ?_⟩
  .have g:val (a::b::r) / m=a / m+k * val (b::r):=by
    rw [show val (a::b::r)=a+4294967296 * val (b::r) from rfl]
    conv=>lhs;rw [c,Vu k m,VQ]
    rw [Int.add_mul_ediv_left _ _ (by omega)]
   have e2:val (b::r) / m=b / m+k * val r:=by
    rw [show val (b::r)=b+4294967296 * val r from rfl]
    conv=>lhs;rw [c,Vu k m,VQ]
    rw [Int.add_mul_ediv_left _ _ (by omega)]
   have e3:=Wx b m;rw [g];simp only [cW,val];rw [o,e2,e];have i: 4294967296 * (b / m+k * val r)=k * (m * (b / m))+4294967296 * (k * val r):=by
    rw [VF]
    conv=>lhs;rw [c,VQ]
    rw [<-c]
   have j:k * (b+4294967296 * val r)=k * (m * (b / m))+ (b % m) * k+4294967296 * (k * val r):=by
    rw [VF,VT k 4294967296]
    conv=>lhs;rw [<-e3,VF,Vu k (b % m)]
   rw [i,j];omega
  .intro u hu;simp only [cW] at hu;rcases Vk.1 hu with rfl | hu
   .rw [e];have z:=Wi b hm;have l:=WJ b (show m≠0 by omega);have n:(b % m+1) * k<=m * k:=Vz (by omega) (by omega);have A: 0<=(b % m) * k:=Wg l (by omega);rw [Xl,Ww,Vu m k,<-c] at n;have B: 0<=a / m:=WO d.1 (by omega);have w:a / m < k:=by
     rw [W3 hm,<-c];exact d.2
    omega
   .exact t u hu
open Go Go.Aev Go.Aev.Gen
abbrev u6(n:Int):AV:=AV.t (T.int .u64 n)
abbrev U2(ec0 ec1:Bool)(u a:List Int):List ab:= [ab.sl false 1 ec0 (ay u),ab.sl false 1 ec1 (ay a)]
def Good(a:List T->Prop)(r:Option (List T)):Prop:= ∃R,r=some R/\a R
theorem Good.step{b:List T->Prop}{r a:Option (List T)}(h:Good b a)(k:∀R,a=some R->r=some R):Good b r:=by obtain⟨R,h1,c⟩:=h;exact⟨R,k R h1,c⟩
theorem M8{d:List Int}{i:Nat}{a:Int}(h:d[i]? =some a):aN d i=a:=by simp [aN,h]
theorem nx(i:Nat)(h:i<=100000):i64.wrap ((i:Int)+1)= ((i+1:Nat):Int):=next i h
theorem ad(i j:Nat)(h:i+j<=100000):i64.wrap ((i:Int)+ (j:Int))= ((i+j:Nat):Int):=by rw [Go.Aev.wr (by omega)];omega
theorem fJ(a:List Int)(b:Int)(r:List Int)(i:Nat)(h:a.length=i):(ay (a++b::r))[((i:Nat):Int).toNat]? =some [T.int .u32 b]:=by rw [bE (by simp;omega),rT a b r i h]
theorem fD(a:List Int)(b v:Int)(r:List Int)(i:Nat)(h:a.length=i):bp (i:Int).toNat 0 [T.int .u32 v] (ay (a++b::r))=some (ay (a++v::r)):=by rw [oO (by simp;omega),n9 a b v r i h]
theorem QG(s:Nat)(ev ec0 ec1:Bool)(v:List Int)(hv:Dg v)(lo hi j:List Int)(top q:Int)(z: 0<=q/\q < 4294967296)(H:lo.length<=1000)(K:v.length<=1000)(R:List T):∀(vs:List Int) (i:Nat) (c b:Int) (done us:List Int),v.drop i=vs->i<=v.length->done.length=i->us.length=vs.length->Dg us->0<=c/\c < 4294967296->0<=b/\b<=1->
  Or mG [I (s:Int),I (v.length:Int),lu ev v,o0,o1,I (lo.length:Int),u6 q,u6 (eS q us vs c b).1,u6 (eS q us vs c b).2,lu ev v,I (v.length:Int),I (v.length:Int)] (U2 ec0 ec1 (lo++ (done++iz q us vs c b++top::hi)) j)=some R->
  Or mG [I (s:Int),I (v.length:Int),lu ev v,o0,o1,I (lo.length:Int),u6 q,u6 c,u6 b,lu ev v,I (v.length:Int),I (i:Int)] (U2 ec0 ec1 (lo++ (done++us++top::hi)) j)=some R:=by
 intro vs;induction vs with
 | nil=>
  intro i c b done us h m g e d y hb f;have G:=bm h;obtain rfl:i=v.length:=by omega
  obtain rfl:us= []:=Vq.1 (by simpa using e);simpa only [iz,eS] using f
 | cons a vs B=>
  intro i c b done us h m g e d y hb f;obtain⟨p,r,t⟩:=bh h;have w:=hv a (U8 p);have l:=fU h
  match us,e,d,f with
  | x::us,e,d,f=>
   have L:=d x U9;have J:=lk z w;rw [iz,eS] at f;have:=B (i+1) ((c+q * a) / 4294967296) (cA (x - (c+q * a) % 4294967296 - b)) (done++ [(x - (c+q * a) % 4294967296 - b) % 4294967296]) us t (by omega) (by simp [g]) (by simpa using e) d.tail (by omega) (BQ _) (by
    simpa only [VI,Vc,Ve] using f)
   have h1:(i:Int) < (v.length:Int):=by omega
   have u: 0<=(i:Int):=by omega
   have A:lo++ (done++x::us++top::hi)= (lo++done)++x:: (us++top::hi):=by simp
   have o:lo++ (done++ [(x - (c+q * a) % 4294967296 - b) % 4294967296] ++us++top::hi)= (lo++done)++ ((x - (c+q * a) % 4294967296 - b) % 4294967296):: (us++top::hi):=by simp
   have n:(lo++done).length=lo.length+i:=by simp [g]
   rw [o] at this;rw [A];have k: 0<=((lo.length+i:Nat):Int)/\((lo.length+i:Nat):Int) < (((lo++done)++x:: (us++top::hi)).length:Int):=by simp [g];omega
   have C:u64.wrap a=a:=be (by omega);have D:u64.wrap (q * a)=q * a:=be (by omega);have E:u64.wrap (c+q * a)=c+q * a:=be (by omega);have w4:u64.wrap ((c+q * a) % 4294967296)= (c+q * a) % 4294967296:=be (by omega);have F:u64.wrap x=x:=be (by omega);refine aj ?_;rw [Cx];simp only [ai,↓reduceIte,GD,h1,u,and_self,aL,bE r,l,ad lo.length i (by omega),k,fJ (lo++done) x _ _ n,C,D,E,cJ,w4,qZ,fD (lo++done) x _ _ _ n,ix,oR (v:=x - (c+q * a) % 4294967296 - b) (by omega),nx i (by omega)];simp only [mE,Int.emod_emod_of_dvd _ (show(4294967296:Int) ∣ 18446744073709551616 by decide)];exact this
theorem QH(s:Nat)(ev ec0 ec1:Bool)(v:List Int)(hv:Dg v)(lo hi g:List Int)(top q:Int)(D:lo.length<=1000)(E:v.length<=1000)(R:List T):∀(vs:List Int) (i:Nat) (c:Int) (done us:List Int),v.drop i=vs->i<=v.length->done.length=i->us.length=vs.length->Dg us->0<=c/\c<=1->
  Or tV [I (s:Int),I (v.length:Int),lu ev v,o0,o1,I (lo.length:Int),u6 q,u6 (gX us vs c),lu ev v,I (v.length:Int),I (v.length:Int)] (U2 ec0 ec1 (lo++ (done++dG us vs c++top::hi)) g)=some R->
  Or tV [I (s:Int),I (v.length:Int),lu ev v,o0,o1,I (lo.length:Int),u6 q,u6 c,lu ev v,I (v.length:Int),I (i:Int)] (U2 ec0 ec1 (lo++ (done++us++top::hi)) g)=some R:=by
 intro vs;induction vs with
 | nil=>
  intro i c done us h l f d b u e;have C:=bm h;obtain rfl:i=v.length:=by omega
  obtain rfl:us= []:=Vq.1 (by simpa using d);simpa only [dG,gX] using e
 | cons a vs y=>
  intro i c done us h l f d b u e;obtain⟨o,p,r⟩:=bh h;have F:=hv a (U8 o);have k:=fU h
  match us,d,b,e with
  | x::us,d,b,e=>
   have G:=b x U9;rw [dG,gX] at e;have:=y (i+1) ((c+ (x+a)) / 4294967296) (done++ [(c+ (x+a)) % 4294967296]) us r (by omega) (by simp [f]) (by simpa using d) b.tail (by omega) (by
    simpa only [VI,Vc,Ve] using e)
   have h1:(i:Int) < (v.length:Int):=by omega
   have t: 0<=(i:Int):=by omega
   have w:lo++ (done++x::us++top::hi)= (lo++done)++x:: (us++top::hi):=by simp
   have n:lo++ (done++ [(c+ (x+a)) % 4294967296] ++us++top::hi)= (lo++done)++ ((c+ (x+a)) % 4294967296):: (us++top::hi):=by simp
   have m:(lo++done).length=lo.length+i:=by simp [f]
   rw [n] at this;rw [w];have j: 0<=((lo.length+i:Nat):Int)/\((lo.length+i:Nat):Int) < (((lo++done)++x:: (us++top::hi)).length:Int):=by simp [f];omega
   have z:u64.wrap a=a:=be (by omega);have A:u64.wrap x=x:=be (by omega);have B:u64.wrap (x+a)=x+a:=be (by omega);have w4:u64.wrap (c+ (x+a))=c+ (x+a):=be (by omega);refine aj ?_;rw [GY];simp only [ai,↓reduceIte,GD,h1,t,and_self,aL,bE p,k,ad lo.length i (by omega),j,fJ (lo++done) x _ _ m,z,A,B,w4,cJ,fD (lo++done) x _ _ _ m,ix,nx i (by omega)];exact this
section
variable (s:Nat) (ev ec0 ec1:Bool) (v:List Int) (lo hi:List Int)
noncomputable abbrev Bl(v:List Int)(u a:List Int)(k:Int):Option (List T):=Or rI [I (s:Int),I (v.length:Int),lu ev v,o0,o1,I k] (U2 ec0 ec1 u a)
theorem wM(k:Nat)(h:k<=100000):i64.wrap ((k:Int) - 1)= (k:Int) - 1:=Go.Aev.wr (by omega)
theorem Nk(hv:Dg v)(J:v.length<=1000)(E:lo.length<=1000)(w:List Int)(top:Int)(hw:Dg w)(d:w.length=v.length)(ht: 0<=top/\top < 4294967296)(Y: 0 < val v)(g:List Int)(Φ:List T->Prop)
  (q:Int) (hq:q= (val w+4294967296 ^ v.length * top) / val v) (a:Int) (hq1:q<=a) (hq2:a<=q+1) (G: 0<=a/\a < 4294967296) (hq0: 0<=q)
  (next:∀y:List Int,Dg y->y.length=v.length->val y= (val w+4294967296 ^ v.length * top) % val v->Good Φ (Bl s ev ec0 ec1 v (lo++ (y++0::hi)) (List.replicate lo.length 0++q::g) ((lo.length:Int) - 1))):
  Good Φ (Or mG [I (s:Int),I (v.length:Int),lu ev v,o0,o1,I (lo.length:Int),u6 a,u6 0,u6 0,lu ev v,I (v.length:Int),I 0] (U2 ec0 ec1 (lo++ (w++top::hi)) (List.replicate lo.length 0++0::g))):=by
 obtain⟨Q,k,u,s4,s5,s6,s7⟩:=Ds G (us:=w) (vs:=v) (c:=0) (b:=0) d hw hv (by omega) (by omega);have hvV:=fH hv;have hm0:=eQ u;have F:=fH u;rw [k] at F;rw [d] at Q F;have hdm:=Wx (val w+4294967296 ^ v.length * top) (val v);have hr0:=WJ (val w+4294967296 ^ v.length * top) (show val v≠0 by omega);have hr1:=Wi (val w+4294967296 ^ v.length * top) Y;rw [<-hq] at hdm;generalize (val w+4294967296 ^ v.length * top) % val v=r at *
 have D:(List.replicate lo.length (0:Int)).length=lo.length:=by simp
 have key:∀R,Or mG [I (s:Int),I (v.length:Int),lu ev v,o0,o1,I (lo.length:Int),u6 a,u6 (eS a w v 0 0).1,u6 (eS a w v 0 0).2,lu ev v,I (v.length:Int),I (v.length:Int)] (U2 ec0 ec1 (lo++ (iz a w v 0 0++top::hi)) (List.replicate lo.length 0++0::g))=some R->
   Or mG [I (s:Int),I (v.length:Int),lu ev v,o0,o1,I (lo.length:Int),u6 a,u6 0,u6 0,lu ev v,I (v.length:Int),I 0] (U2 ec0 ec1 (lo++ (w++top::hi)) (List.replicate lo.length 0++0::g))=some R:=λR i=>
  QG s ev ec0 ec1 v hv lo hi _ top a G E J R v 0 0 0 [] w rfl (by omega) rfl d hw (by omega) (by omega) (by simpa using i)
 generalize iz a w v 0 0=M at *
 generalize eS a w v 0 0=cb at *
 obtain⟨c,b⟩:=cb;dsimp only at Q s4 s5 s6 s7 key;have H:lo++ (M++top::hi)= (lo++M)++top::hi:=by simp
 have m:(lo++M).length=lo.length+v.length:=by simp [k,d]
 have A: 0<=((lo.length+v.length:Nat):Int)/\((lo.length+v.length:Nat):Int) < (((lo++M)++top::hi).length:Int):=by simp [k,d];omega
 have B: 0<=(lo.length:Int)/\(lo.length:Int) < ((List.replicate lo.length (0:Int)++0::g).length:Int):=by simp;omega
 have wt:u64.wrap top=top:=be (by omega);have j:¬(v.length:Int) < (v.length:Int):=by omega
 have l:=gO v.length;have e:val M+4294967296 ^ v.length * (top - c - b)= (val w+4294967296 ^ v.length * top) - a * val v:=by rw [Q,ZJ,ZJ,VF];omega
 have X:∀z:Int,z<= -1->4294967296 ^ v.length * z<= -(4294967296 ^ v.length):=λz hz=>by have:(4294967296:Int) ^ v.length * z<=4294967296 ^ v.length * (-1):=Vg hz (Wu l);omega
 have N:∀z:Int,1<=z->4294967296 ^ v.length<=(4294967296:Int) ^ v.length * z:=λz hz=>by have:(4294967296:Int) ^ v.length * 1<=4294967296 ^ v.length * z:=Vg hz (Wu l);omega
 by_cases he:a=q
 .subst he;have hz:top - c - b=0:=by
   rcases W6 (top - c - b) 0 with h | h | h
   .have:=X (top - c - b) (by omega);rw [Vu a] at e;omega
   .exact h
   .have:=N (top - c - b) (by omega);rw [Vu a] at e;omega
  have o:cA (top - c - b)=0:=by rw [hz];rfl
  have S:¬(0:Int)=1:=by omega
  refine(next M u (by rw [k,d]) (by rw [hz] at e;rw [Vu a] at e;omega)).step λR i=>key R (aj ?_);rw [Cx,H];have f:u32.wrap (u64.wrap (top - c - b))=0:=by rw [hz];rfl
  have x:u32.wrap a=a:=by rw [cJ];omega
  rw [show lo++ (M++0::hi)= (lo++M)++0::hi from by simp] at i;simp only [ai,↓reduceIte,GD,j,aL,ad lo.length v.length (by omega),A,and_self,fJ (lo++M) top hi _ m,qZ,f,fD (lo++M) top _ hi _ m,oR (v:=top - c - b) (by omega),o,S,B,x,fD _ 0 _ g _ D,wM lo.length (by omega)];exact i
 .have he1:a=q+1:=by omega
  have hq'V:a * val v=val v * q+val v:=by rw [he1,Xl,Ww,Vu]
  have hz:top - c - b= -1:=by
   rcases W6 (top - c - b) (-1) with h | h | h
   .exfalso;have:(4294967296:Int) ^ v.length * (top - c - b)<=4294967296 ^ v.length * (-2):=Vg (by omega) (Wu l);omega
   .exact h
   .exfalso;have:(4294967296:Int) ^ v.length * 0<=4294967296 ^ v.length * (top - c - b):=Vg (by omega) (Wu l);omega
  have o:cA (top - c - b)=1:=by rw [hz];rfl
  obtain⟨K,n,L,a4,a5⟩:=BC (us:=M) (vs:=v) (c:=0) (by rw [k,d]) u hv (by omega);rw [k,d] at K n;have hA0:=eQ L;have W:=fH L;rw [n] at W;rw [hz] at e;have hM:val M=r - val v+4294967296 ^ v.length:=by omega
  have C:gX M v 0=1:=by
   rcases Wy (gX M v 0) 1 with h | h
   .exfalso;have:gX M v 0=0:=by omega
    rw [this] at K;omega
   .omega
  rw [C] at K;refine(next (dG M v 0) L n (by omega)).step λR i=>key R ?_;have t:=QH s ev ec0 ec1 v hv lo hi (List.replicate lo.length 0++0::g) 4294967295 q E J R v 0 0 [] M rfl (by omega) rfl (by rw [k,d]) u (by omega) (by
   rw [C];refine aj ?_;rw [GY];have O:lo++ ([] ++dG M v 0++4294967295::hi)= (lo++dG M v 0)++4294967295::hi:=by simp
   rw [O];have p:(lo++dG M v 0).length=lo.length+v.length:=by simp [n]
   have Z: 0<=((lo.length+v.length:Nat):Int)/\((lo.length+v.length:Nat):Int) < (((lo++dG M v 0)++4294967295::hi).length:Int):=by simp [n];omega
   have f:u32.wrap (4294967295+u32.wrap 1)=0:=by rw [cJ,cJ];rfl
   have x:u32.wrap q=q:=by rw [cJ];omega
   rw [show lo++ (dG M v 0++0::hi)= (lo++dG M v 0)++0::hi from by simp] at i;simp only [ai,↓reduceIte,GD,j,aL,ad lo.length v.length (by omega),Z,and_self,fJ (lo++dG M v 0) _ hi _ p,f,fD (lo++dG M v 0) _ _ hi _ p,B,x,fD _ 0 _ g _ D,wM lo.length (by omega)];exact i)
  refine aj ?_;rw [Cx,H];have f:u32.wrap (u64.wrap (top - c - b))=4294967295:=by rw [hz];rfl
  have x:u64.wrap (a - 1)=q:=by rw [be (by omega)];omega
  rw [show lo++ ([] ++M++4294967295::hi)= (lo++M)++4294967295::hi from by simp] at t;simp only [ai,↓reduceIte,GD,j,aL,ad lo.length v.length (by omega),A,and_self,fJ (lo++M) top hi _ m,qZ,f,fD (lo++M) top _ hi _ m,oR (v:=top - c - b) (by omega),o,x];exact t
end
theorem QF(s k:Nat)(ev ec0 ec1:Bool)(v u B:List Int)(Φ:List T->Prop){U V P w0 v0 u2 v2 v1 Tt q:Int}(hvl:v.length<=1000)(hkl:k<=1000)(hn2: 2<=v.length)(hul:k+v.length < u.length)
  (j:(ay v)[((v.length - 1:Nat):Int).toNat]? =some [T.int .u32 v1]) (l:(ay v)[((v.length - 2:Nat):Int).toNat]? =some [T.int .u32 v2]) (n:(ay u)[((k+v.length - 2:Nat):Int).toNat]? =some [T.int .u32 u2])
  (F: 0 < P) (G:U=w0+P * u2+4294967296 * (P * Tt)) (H:V=v0+P * v2+4294967296 * (P * v1)) (J: 0<=w0/\w0 < P) (r: 0<=v0/\v0 < P) (z: 0<=u2/\u2 < 4294967296) (e: 0<=v2/\v2 < 4294967296) (A: 1<=v1/\v1 < 4294967296)
  (X: 0<=U) (Y:U < V * 4294967296) (i: 0 < V) (w:q=U / V)
  (go:∀t,q<=t->t<=q+1->0<=t->t < 4294967296->Good Φ (Or mG [I (s:Int),I (v.length:Int),lu ev v,o0,o1,I (k:Int),u6 t,u6 0,u6 0,lu ev v,I (v.length:Int),I 0] (U2 ec0 ec1 u B))):
  ∀(m:Nat) (qh rh:Int),4294967296 - rh<=(m:Int)->qh * v1+rh=Tt->0<=rh/\rh < 4294967296->q<=qh->qh < 18446744073709551616->
   Good Φ (Or xJ [I (s:Int),I (v.length:Int),lu ev v,o0,o1,I (k:Int),u6 qh,u6 rh] (U2 ec0 ec1 u B)):=by
 have Z:q * V<=U:=by rw [w];exact YZ _ (by omega)
 have hqV1:U < (q+1) * V:=by rw [w,Xl,Ww];have:=Wx U V;have:=Wi U i;rw [Vu V] at *;omega
 have hq0: 0<=q:=by rw [w];exact WO X (by omega)
 have hqB:q < 4294967296:=by rw [w];exact Yk i (by rw [Vu];exact Y)
 have W:Tt < 4294967296 * (v1+1):=by
  rcases Wy Tt (4294967296 * (v1+1)) with h | h
  .exact h
  .exfalso;have h1:P * (4294967296 * (v1+1))<=P * Tt:=Vg h (by omega);have Q:P * v2<=P * 4294967295:=Vg (by omega) (by omega);have h3: 0<=P * u2:=Wg (by omega) z.1;rw [VT,VF,Yd] at h1;omega
 intro m;induction m with
 | zero=>intro qh rh hm _ hr _ _;omega
 | succ m ih=>
  intro qh rh hm S hr hqq hq64;have K:i64.wrap ((v.length:Int) - 2)= ((v.length - 2:Nat):Int):=by rw [Go.Aev.wr (by omega)];omega
  have L:i64.wrap (((k+v.length:Nat):Int) - 2)= ((k+v.length - 2:Nat):Int):=by rw [Go.Aev.wr (by omega)];omega
  have M:i64.wrap ((v.length:Int) - 1)= ((v.length - 1:Nat):Int):=by rw [Go.Aev.wr (by omega)];omega
  have C: 0<=((v.length - 2:Nat):Int)/\((v.length - 2:Nat):Int) < (v.length:Int):=by omega
  have D: 0<=((k+v.length - 2:Nat):Int)/\((k+v.length - 2:Nat):Int) < (u.length:Int):=by omega
  have E: 0<=((v.length - 1:Nat):Int)/\((v.length - 1:Nat):Int) < (v.length:Int):=by omega
  have N:u64.wrap v2=v2:=be (by omega);have x2:u64.wrap v1=v1:=be (by omega);have O:u64.wrap (rh+v1)=rh+v1:=be (by omega);have o:=nS hr z;by_cases d:qh>=4294967296\/qh * v2 > rh * 4294967296+u2
  ·
   have f:q<=qh - 1:=by
    rcases d with d | d
    .omega
    .exact Iy F G H J r.1 (by omega) S Z d i
   have x:u64.wrap (qh - 1)=qh - 1:=be (by omega);have y:(qh - 1) * v1+ (rh+v1)=Tt:=by rw [YQ,Ww];omega
   have c:(¬qh / 4294967296=0\/u64.wrap (qh * v2) > rh * 4294967296+u2):=by
    by_cases hb:qh>=4294967296
    .left;omega
    .right;rcases d with d | d
     .exact absurd d hb
     .have:=lk (a:=qh) (b:=v2) (by omega) e;rw [be (by omega)];exact d
   by_cases hbr:rh+v1 < 4294967296
   .have hz:(rh+v1) / 4294967296=0:=by omega
    refine(ih (qh - 1) (rh+v1) (by omega) y (by omega) f (by omega)).step λR g=>aj ?_;rw [Cw];simp only [fu,kg,<-decide_not,<-Wf,ix];simp only [ai,↓reduceIte,GD,aL,K,ad k v.length (by omega),L,M,C,D,E,and_self,j,l,n,N,x2,O,x,o,c,hz];exact g
   .have hz:¬(rh+v1) / 4294967296=0:=by omega
    have hsm:qh - 1 < 4294967296:=by
     rcases Wy (qh - 1) 4294967296 with h | h
     .exact h
     .exfalso;have: 4294967296 * v1<=(qh - 1) * v1:=Vz h (by omega);rw [VF] at W;omega
    have p:qh - 1<=q+1:=by
     have h1:=lk (a:=qh - 1) (b:=v2) (by omega) e;have Q:=zJ F G H J.1 r e.1 A.1 (qh:=qh - 1) (by omega) y (by omega);rcases Wy (q+1) (qh - 1) with h | h
     .exfalso;have:(q+1) * V<=(qh - 1 - 1) * V:=Vz (by omega) (by omega);omega
     .exact h
    refine(go (qh - 1) f p (by omega) hsm).step λR g=>aj ?_;rw [Cw];simp only [fu,kg,<-decide_not,<-Wf,ix];simp only [ai,↓reduceIte,GD,aL,K,ad k v.length (by omega),L,M,C,D,E,and_self,j,l,n,N,x2,O,x,o,c,hz];exact g
  .have hqs:qh < 4294967296:=by omega
   have f:qh * v2<=rh * 4294967296+u2:=by omega
   have hm2:=lk (a:=qh) (b:=v2) (by omega) e;have x:u64.wrap (qh * v2)=qh * v2:=be (by omega);have c:¬(¬qh / 4294967296=0\/qh * v2 > rh * 4294967296+u2):=by omega
   have p:qh<=q+1:=by
    have Q:=zJ F G H J.1 r e.1 A.1 (qh:=qh) (by omega) S f;rcases Wy (q+1) qh with h | h
    .exfalso;have:(q+1) * V<=(qh - 1) * V:=Vz (by omega) (by omega);omega
    .exact h
   refine(go qh hqq p (by omega) hqs).step λR g=>aj ?_;rw [Cw];simp only [fu,kg,<-decide_not,<-Wf,ix];simp only [ai,↓reduceIte,GD,aL,K,ad k v.length (by omega),L,M,C,D,E,and_self,j,l,n,N,x2,O,o,x,c];exact g
theorem nV(n:Nat):((2:Int) ^ n)= ((2 ^ n:Nat):Int):=by rw [Int.natCast_pow];rfl
theorem qF{y z:Int}{n t:Nat}(e:n<=32)(hy: 0<=y/\y < (2:Int) ^ n)(hz:z= ((2 ^ n * t:Nat):Int))(hb:z < 4294967296)(b:z+y < 4294967296):
  u32.wrap (((BitVec.ofInt 32 y ||| BitVec.ofInt 32 z).toNat:Nat):Int)=z+y:=by
 obtain⟨a,rfl⟩:=WX hy.1;have d:a < 2 ^ n:=by have:=hy.2;rw [nV] at this;omega
 have g: 2 ^ n * t < 4294967296:=by rw [hz] at hb;omega
 have f:(2:Nat) ^ n<=2 ^ 32:=XB (by decide) e;have c:a % 2 ^ 32=a:=X3 (by omega);have e2:(2 ^ n * t) % 2 ^ 32=2 ^ n * t:=X3 (by omega);rw [hz,XY,XY,BitVec.toNat_or,Yb,Yb,c,e2,Nat.or_comm,<-Zq d,cJ];have: 2 ^ n * t+a < 4294967296:=by rw [hz] at b;omega
 rw [<-Int.natCast_add];omega
theorem gQ(n:Nat): 0 < (2:Int) ^ n:=Int.pow_pos (by decide)
theorem ph{n:Nat}(h:n<=32):(4294967296:Int)=2 ^ (32 - n) * 2 ^ n:=by rw [<-XZ,show 32 - n+n=32 from by omega];decide
theorem zZ{a m k:Int}(hm: 0 < m)(b: 4294967296=k * m):(a * m) % 4294967296= (a % k) * m:=by
 conv=>lhs;rw [b]
 rw [Dq hm]
theorem Rk(n:Nat)(hn:n < 32)(e:Bool)(x:List Int)(M:Dg x)(hl:x.length<=900):∀(b:List Int) (i:Nat) (c:Int) (done:List Int),x.drop i=b->done.length=i->i<=x.length->0<=c/\c < (2:Int) ^ n->
  Or xL [I (n:Int),o0,lu e x,I (x.length:Int),I (i:Int)] [ab.sl false 1 false (ay (done++c::List.replicate b.length 0))]=some [T.aa 1 false (ay (done++eP (2 ^ n) b c))]:=by
 have m:=gQ n;have w:=ph (n:=n) (by omega);have hkp:=gQ (32 - n);have O:(n:Int).tdiv 32=0:=by rw [Wc (by omega)];omega
 have Q:(n:Int).tmod 32= (n:Int):=by rw [Wp (by omega)];omega
 have R:min ((n:Int)).toNat 64=n:=by rw [VA];omega
 have S:¬(n:Int) < 0:=by omega
 have K:(2:Int) ^ n<=2147483648:=by have:(2:Nat) ^ n<=2 ^ 31:=XB (by decide) (by omega);rw [nV];omega
 intro b;induction b with
 | nil=>
  intro i c done h d hi k;have h1:¬(i:Int) < (x.length:Int):=by have:=bm h;omega
  refine aj ?_;rw [GZ];simp only [ai,↓reduceIte,GD,h1,eP,VL,WV]
 | cons a b N=>
  intro i c done h d hi k;obtain⟨F,G,H⟩:=bh h;have j:=M a (U8 F);have r:=fU h;have h1:(i:Int) < (x.length:Int):=by omega
  have J: 0<=(i:Int):=by omega
  have z: 0<=a * (2:Int) ^ n:=Wg j.1 (by omega);have A:a * (2:Int) ^ n < 4294967296 * (2:Int) ^ n:=Xr j.2 m;have p: 0<=a * (2:Int) ^ n / 4294967296:=WO z (by decide);have o:a * (2:Int) ^ n / 4294967296 < (2:Int) ^ n:=by rw [W3 (by decide),Vu (2 ^ n)];exact A
  have D:=wz m w (x:= [a]) (c:=c) (by intro u E;simp at E;subst E;exact j) k;have hdg:=D.2.2 (a * 2 ^ n % 4294967296+c) (by simp [eP]);have B:=zZ (a:=a) m w;have C:u32.wrap (((BitVec.ofInt 32 c ||| BitVec.ofInt 32 (a * (2:Int) ^ n % 4294967296)).toNat:Nat):Int)=a * (2:Int) ^ n % 4294967296+c:=by have y:=WJ a (show(2:Int) ^ (32 - n)≠0 by omega);obtain⟨t,L⟩:=WX y;exact qF (n:=n) (t:=t) (by omega) k (by rw [B,L,nV,Vu,<-XC]) (by omega) (by omega)
  have W:u64.wrap a=a:=be (by omega);have X:u64.wrap (a * (2:Int) ^ n)=a * (2:Int) ^ n:=be (by omega);have Y:i64.wrap 0=0:=by rw [Go.Aev.wr (by omega)]
  have w4:i64.wrap ((i:Int)+0)= (i:Int):=by rw [Go.Aev.wr (by omega)];omega
  have Z:u32.wrap (a * (2:Int) ^ n / 4294967296)=a * (2:Int) ^ n / 4294967296:=by rw [cJ];omega
  have l: 0<=(i:Int)/\(i:Int) < ((done++c::List.replicate (a::b).length 0).length:Int):=by simp;omega
  have g: 0<=((i+1:Nat):Int)/\((i+1:Nat):Int) < ((done++ (a * (2:Int) ^ n % 4294967296+c)::List.replicate (a::b).length 0).length:Int):=by simp;omega
  have f:=fD (done++ [a * (2:Int) ^ n % 4294967296+c]) 0 (a * (2:Int) ^ n / 4294967296) (List.replicate b.length 0) (i+1) (by simp [d]);rw [show(done++ [a * (2:Int) ^ n % 4294967296+c])++0::List.replicate b.length 0=done++ (a * (2:Int) ^ n % 4294967296+c)::List.replicate (a::b).length 0 from by simp [VX]] at f;have:=N (i+1) (a * (2:Int) ^ n / 4294967296) (done++ [a * (2:Int) ^ n % 4294967296+c]) H (by simp [d]) (by omega) ⟨p,o⟩;refine aj ?_;rw [GZ];simp only [O,Q,R,Y];simp only [ai,↓reduceIte,GD,h1,J,and_self,aL,bE G,r,w4,S,l,fJ done c _ i d,W,X,cJ (a * (2:Int) ^ n),C,fD done c _ _ i d,nx i (by omega),g,ix,Z,f];rw [eP,show done++ (a * 2 ^ n % 4294967296+c)::eP (2 ^ n) b (a * 2 ^ n / 4294967296)= (done++ [a * 2 ^ n % 4294967296+c])++eP (2 ^ n) b (a * 2 ^ n / 4294967296) from by simp];exact this
theorem KL(n:Nat)(d:n < 32)(e:Bool)(x:List Int)(f:Dg x)(c:x.length<=900):Or (.call 150) [lu e x,I (n:Int)] []=some [T.aa 1 false (ay (eP (2 ^ n) x 0))]:=by
 have h1:=Rk n d e x f c x 0 0 [] rfl rfl (by omega) ⟨Yx _,gQ n⟩;have g:(n:Int).tdiv 32=0:=by rw [Wc (by omega)];omega
 have h:i64.wrap 0=0:=by rw [Go.Aev.wr (by omega)]
 have w4:i64.wrap ((x.length:Int)+0)= (x.length:Int):=by rw [Go.Aev.wr (by omega)];omega
 have a:bu ((x.length+1:Nat):Int) ((x.length+1:Nat):Int)=some ():=by unfold bu du;rw [if_pos (by omega)]
 have b:ay ([] ++0::List.replicate x.length 0)=List.replicate (x.length+1) [T.int u32 0]:=by simp [ay,VX]
 rw [b] at h1;refine aj ?_;rw [Oj];simp only [g,h,aL,w4,nx x.length (by omega)];simp only [GD,a,VA];exact h1
theorem Rm(n:Nat)(hn:n < 32)(e:Bool)(x:List Int)(Q:Dg x)(hl:x.length<=900):∀(c:List Int) (i:Nat) (done:List Int),x.drop i=c->done.length=i->i<=x.length->
  Or tW [lu e x,I (n:Int),o0,lu e x,I (x.length:Int),I (i:Int)] [ab.sl false 1 false (ay (done++List.replicate c.length 0))]=some [T.aa 1 false (ay (done++cW (2 ^ n) (2 ^ (32 - n)) c))]:=by
 have O:=gQ n;have D:=ph (n:=n) (by omega);have M:=gQ (32 - n);have F:(n:Int).tmod 32= (n:Int):=by rw [Wp (by omega)];omega
 have G:min ((n:Int)).toNat 32=n:=by rw [VA];omega
 have H:¬(n:Int) < 0:=by omega
 have Z:i64.wrap (32 - (n:Int))= ((32 - n:Nat):Int):=by rw [Go.Aev.wr (by omega)];omega
 have t6:min (((32 - n:Nat):Int)).toNat 32=32 - n:=by rw [VA];omega
 have t7:¬((32 - n:Nat):Int) < 0:=by omega
 intro c;induction c with
 | nil=>
  intro i done h f hi;have h1:¬(i:Int) < (x.length:Int):=by have:=bm h;omega
  refine aj ?_;rw [zd];simp only [ai,↓reduceIte,GD,h1,cW,VL,WV]
 | cons a c k=>
  intro i done h f hi;obtain⟨S,A,d⟩:=bh h;have K:=Q a (U8 S);have m:=fU h;have h1:(i:Int) < (x.length:Int):=by omega
  have B: 0<=(i:Int):=by omega
  have j:done++List.replicate (a::c).length 0=done++0::List.replicate c.length 0:=by simp [VX]
  have g: 0<=(i:Int)/\(i:Int) < ((done++0::List.replicate c.length 0).length:Int):=by simp;omega
  have o:a.fdiv ((2:Int) ^ n)=a / 2 ^ n:=Wb _ (by omega);have y: 0<=(i:Int)/\(i:Int) < ((done++ (a / 2 ^ n)::List.replicate c.length 0).length:Int):=by simp;omega
  have p:∀b:Int,0<=b/\b < 4294967296->(b * (2:Int) ^ (32 - n)) % 4294967296= (b % 2 ^ n) * 2 ^ (32 - n):=λb hb=>zZ M (by rw [Vu];exact D);have u: 0<=a / (2:Int) ^ n:=WO K.1 (by omega);have w:a / (2:Int) ^ n < 2 ^ (32 - n):=by rw [W3 O,<-D];exact K.2
  match c,d,k with
  | [],d,k=>
   have hle:=bm d;have C:¬((i+1:Nat):Int) < (x.length:Int):=by omega
   have:=k (i+1) (done++ [a / 2 ^ n]) d (by simp [f]) (by omega);refine aj ?_;rw [zd,j];simp only [F,G,eI,<-WD];simp only [ai,↓reduceIte,GD,h1,B,and_self,aL,bE A,m,H,g,o,fD done 0 _ _ i f,nx i (by omega),C,false_and];rw [show done++ (a / 2 ^ n)::List.replicate ([]:List Int).length 0= (done++ [a / 2 ^ n])++List.replicate ([]:List Int).length 0 from by simp,
    show done++cW (2 ^ n) (2 ^ (32 - n)) [a]= (done++ [a / 2 ^ n])++cW (2 ^ n) (2 ^ (32 - n)) [] from by simp [cW]]
   exact this
  | b::c,d,k=>
   obtain⟨Y,k2,k3⟩:=bh d;have hb:=Q b (U8 Y);have L:=fU d;have C:((i+1:Nat):Int) < (x.length:Int):=by omega
   have J: 0<=((i+1:Nat):Int):=by omega
   have l:=WJ b (show(2:Int) ^ n≠0 by omega);have W:=Wi b O;have R:(b % 2 ^ n+1) * (2:Int) ^ (32 - n)<=2 ^ n * 2 ^ (32 - n):=Vz (by omega) (by omega);rw [Xl,Ww,Vu ((2:Int) ^ n),<-D] at R;have hz0: 0<=(b % 2 ^ n) * (2:Int) ^ (32 - n):=Wg l (by omega);by_cases z:(n:Int) > 0
   .have:=k (i+1) (done++ [a / 2 ^ n+b * 2 ^ (32 - n) % 4294967296]) d (by simp [f]) (by omega);have N:u32.wrap (((BitVec.ofInt 32 (a / (2:Int) ^ n) ||| BitVec.ofInt 32 (b * (2:Int) ^ (32 - n) % 4294967296)).toNat:Nat):Int)=a / 2 ^ n+b * 2 ^ (32 - n) % 4294967296:=by
     obtain⟨t,X⟩:=WX l;rw [qF (n:=32 - n) (t:=t) (by omega) ⟨u,w⟩ (by rw [p b hb,X,nV (32 - n),Vu,<-XC]) (by rw [p b hb];omega) (by rw [p b hb];omega)];omega
    have r:((i+1:Nat):Int) < (x.length:Int)/\(n:Int) > 0:=⟨C,z⟩;refine aj ?_;rw [zd,j];simp only [F,G,eI,<-WD];simp only [ai,↓reduceIte,GD,h1,B,and_self,aL,bE A,m,H,g,o,fD done 0 _ _ i f,nx i (by omega),r,y,fJ done _ _ i f,J,bE k2,L,Z,t6,t7,cJ (b * (2:Int) ^ (32 - n)),N,fD done (a / 2 ^ n) _ _ i f];rw [show done++ (a / 2 ^ n+b * 2 ^ (32 - n) % 4294967296)::List.replicate (b::c).length 0= (done++ [a / 2 ^ n+b * 2 ^ (32 - n) % 4294967296])++List.replicate (b::c).length 0 from by simp,
     show done++cW (2 ^ n) (2 ^ (32 - n)) (a::b::c)= (done++ [a / 2 ^ n+b * 2 ^ (32 - n) % 4294967296])++cW (2 ^ n) (2 ^ (32 - n)) (b::c) from by simp [cW]]
    exact this
   .have E:n=0:=by omega
    have hz:b * (2:Int) ^ (32 - n) % 4294967296=0:=by rw [E,show((2:Int) ^ (32 - 0))=4294967296 from by decide];omega
    have:=k (i+1) (done++ [a / 2 ^ n+b * 2 ^ (32 - n) % 4294967296]) d (by simp [f]) (by omega);rw [hz,W8] at this;refine aj ?_;rw [zd,j];simp only [F,G,eI,<-WD];simp only [ai,↓reduceIte,GD,h1,B,and_self,aL,bE A,m,H,g,o,fD done 0 _ _ i f,nx i (by omega),z,and_false];rw [show done++ (a / 2 ^ n)::List.replicate (b::c).length 0= (done++ [a / 2 ^ n])++List.replicate (b::c).length 0 from by simp,
     show done++cW (2 ^ n) (2 ^ (32 - n)) (a::b::c)= (done++ [a / 2 ^ n])++cW (2 ^ n) (2 ^ (32 - n)) (b::c) from by simp [cW,hz]]
    exact this
theorem S0(n:Nat)(f:n < 32)(e:Bool)(x:List Int)(g:Dg x)(d:x.length<=900)(j: 0 < x.length):Or (.call 151) [lu e x,I (n:Int)] []=some [T.aa 1 false (ay (cW (2 ^ n) (2 ^ (32 - n)) x))]:=by
 have h1:=Rm n f e x g d x 0 [] rfl rfl (by omega);have h:(n:Int).tdiv 32=0:=by rw [Wc (by omega)];omega
 have i:i64.wrap 0=0:=by rw [Go.Aev.wr (by omega)]
 have b:¬(0:Int)>=(x.length:Int):=by omega
 have hi:bO 0 (x.length:Int) (x.length:Int)=some ():=by unfold bO;rw [if_pos (by omega)]
 have hs:sub 0 (x.length:Int) (ay x)=ay x:=by unfold sub;simp [aL,We]
 have a:bu (x.length:Int) (x.length:Int)=some ():=by unfold bu du;rw [if_pos (by omega)]
 have c:ay ([] ++List.replicate x.length 0)=List.replicate x.length [T.int u32 0]:=by simp [ay]
 rw [c] at h1;refine aj ?_;rw [Ok];simp only [h,i,aL];simp only [ai,↓reduceIte,GD,b,hi,hs,aL,a,VA];exact h1
end Go.Aev.Wd
