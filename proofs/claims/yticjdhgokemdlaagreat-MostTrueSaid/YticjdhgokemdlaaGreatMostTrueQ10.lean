import Derived.Test.YticjdhgokemdlaaGreatMostTrueQ9
set_option linter.all false
namespace Go.Aev.Wd
open Go Go.Aev Go.Aev.Gen Go.IntKind
def uk(X Y:Int)(L:Nat)(R:List T):Prop:= ∃a Q e2 Z,R= [T.aa 1 a (ay Q),T.aa 1 e2 (ay Z)]/\Dg Q/\Dg Z/\val Q=X / Y/\val Z=X % Y/\Q.length<=L/\Z.length<=L
theorem jn{b:Type}{l:List b}{n:Nat}(h:l.length=n+1):∃a x,l=a++ [x]/\a.length=n:=by
 rcases List.eq_nil_or_concat l with rfl | ⟨a,x,rfl⟩
 .simp at h
 .exact⟨a,x,by simp,by simpa using h⟩
def wR(s L:Nat)(V N0:Int)(n:Nat)(R:List T):Prop:= ∃b Q e2 Z a,R= [T.aa 1 b (ay Q),T.aa 1 e2 (ay Z)]/\Dg Q/\Dg Z/\Q.length=L/\Z.length=n/\0<=a/\a < V/\val Q * V+a=N0/\val Z=a / 2 ^ s
theorem U1(n:Nat):Dg (List.replicate n 0):=λa b=>by have:=WN b;omega
theorem UP(s:Nat)(hs:s < 32)(ev v y:Bool)(b:List Int)(e c:Int)(hv:Dg (b++ [e,c]))(hvl:b.length<=400)(h1: 1<=c)(L:Nat)(N0:Int):∀(j:Nat) (C R hi i:List Int),C.length=j->j<=900->R.length=b.length+2->Dg C->Dg R->Dg i->val R < val (b++ [e,c])->j+i.length=L->
  val C+4294967296 ^ j * (val R+val (b++ [e,c]) * val i)=N0->Good (wR s L (val (b++ [e,c])) N0 (b.length+2)) (Bl s ev v y (b++ [e,c]) (C++ (R++hi)) (List.replicate j 0++i) ((j:Int) - 1)):=by
 have g:(b++ [e,c]).length=b.length+2:=by simp
 have K:val (b++ [e,c])=val b+4294967296 ^ b.length * e+4294967296 * (4294967296 ^ b.length * c):=by rw [fc];simp only [val];rw [VF,VT _ 4294967296];simp;omega
 have hv0:=eQ hv.left;have hv0':=fH hv.left;have V:=gO b.length;have F:=hv e (by simp);have dv1:=hv c (by simp);have hp1:(4294967296:Int) ^ b.length * 1<=4294967296 ^ b.length * c:=Vg h1 (by omega);have hp2: 0<=(4294967296:Int) ^ b.length * e:=Wg (by omega) F.1;have z: 0 < val (b++ [e,c]):=by omega
 have e1:(ay (b++ [e,c]))[(((b++ [e,c]).length - 1:Nat):Int).toNat]? =some [T.int .u32 c]:=by have:=fJ (b++ [e]) c [] (b.length+1) (by simp);rw [g];simpa using this
 have e2:(ay (b++ [e,c]))[(((b++ [e,c]).length - 2:Nat):Int).toNat]? =some [T.int .u32 e]:=by have:=fJ b e [c] b.length rfl;rw [g];simpa using this
 intro j;induction j with
 | zero=>
  intro C R hi i I hj t u B D hlt hL O;obtain rfl:=Vq.1 I;have h80:=S0 s hs v R B (by omega) (by omega);obtain⟨g1,g2,g3⟩:=Eo (gQ s) (ph (n:=s) (by omega)) (gQ (32 - s)) B;refine⟨_,aj ?_,y,i,false,_,val R,rfl,D,g3,by omega,by rw [g2,t],eQ B,hlt,by
   simp only [val,Yl,Ww,YY] at O;rw [<-O,Vu];omega,g1⟩
  rw [GW];have c0:¬(((0:Nat):Int) - 1)>=0:=by omega
  have Z:bO 0 ((b++ [e,c]).length:Int) ((([] ++ (R++hi)).length:Nat):Int)=some ():=by unfold bO;rw [if_pos (by simp [t];omega)]
  have ht:(ay ([] ++ (R++hi))).take (((b++ [e,c]).length:Int).toNat - 0)=ay R:=by
   have hnn:((b++ [e,c]).length:Int).toNat - 0=R.length:=by rw [g,t];omega
   simp only [hnn,Ve,ay,W0];rw [Yf (by simp),We (by simp)]
  simp only [WV,Ve] at Z ht⊢;simp only [ai,↓reduceIte,GD,c0,aL,Z,ht,h80]
 | succ j ih=>
  intro C R hi i I hj t u B D hlt hL O;obtain⟨d,x,rfl,A⟩:=jn I;obtain⟨w,top,hw,M⟩:=jn (l:=x::R) (n:=b.length+2) (by simp [t]);obtain⟨w1,f,rfl,hw1⟩:=jn M;obtain⟨k,h,rfl,m⟩:=jn hw1;have N:Dg (k++ [h] ++ [f] ++ [top]):=by rw [<-hw];exact Dg.append (a:= [x]) u.right B
  have dw:=N.left;have E:=N top (by simp);have du1:=N f (by simp);have U:=N h (by simp);have hw0:=eQ dw.left.left;have r:=fH dw.left.left;have H:d++ [x] ++ (R++hi)=d++ ((k++ [h] ++ [f])++top::hi):=by have: [x] ++R=k++ [h] ++ [f] ++ [top]:=hw;simp only [VI] at this⊢;rw [<-VI [x],this];simp
  have p:val (x::R)=val (k++ [h] ++ [f])+4294967296 ^ (b++ [e,c]).length * top:=by rw [hw,fc,g,M];simp [val]
  have S:val (k++ [h] ++ [f])=val k+4294967296 ^ b.length * h+4294967296 * (4294967296 ^ b.length * f):=by rw [VI,fc,m];simp only [Vc,Ve,val];rw [VF,VT _ 4294967296];simp;omega
  have X:val (x::R)=val k+4294967296 ^ b.length * h+4294967296 * (4294967296 ^ b.length * (top * 4294967296+f)):=by
   rw [p,S,g,show(4294967296:Int) ^ (b.length+2)=4294967296 ^ b.length * (4294967296 * 4294967296) from by rw [XZ];rfl];rw [VF (4294967296 ^ b.length) (top * 4294967296),VF 4294967296,<-VQ (4294967296 ^ b.length) top 4294967296];have:(4294967296:Int) ^ b.length * (4294967296 * 4294967296) * top=4294967296 * (4294967296 ^ b.length * top * 4294967296):=by rw [Vu (4294967296 ^ b.length * top) 4294967296,<-VQ 4294967296 4294967296,Vu (4294967296 ^ b.length),VQ]
   omega
  have dx:=u x (by simp);have hUx:val (x::R)=x+4294967296 * val R:=rfl;have hR0:=eQ B;have W: 0<=val (x::R):=by omega
  have Y:val (x::R) < val (b++ [e,c]) * 4294967296:=by omega
  generalize o:val (x::R) / val (b++ [e,c])=q at *
  have J: 0<=q:=by rw [<-o];exact WO W (by omega)
  have hqB:q < 4294967296:=by rw [<-o];exact Yk z (by rw [Vu];exact Y)
  have hqV:q * val (b++ [e,c])<=val (x::R):=by rw [<-o];exact YZ _ (by omega)
  have hrep:List.replicate (j+1) (0:Int)++i=List.replicate d.length 0++0::i:=by rw [A,Yp,VI];rfl
  have hg0:=Ix V X K ⟨hw0,by rw [m] at r;exact r⟩ hv0 U.2 F.1 J hqV;have G: 0<=top * 4294967296+f:=by omega
  have hqt:q<=(top * 4294967296+f) / c:=by rw [Int.le_ediv_iff_mul_le (by omega)];exact hg0
  have hTle:(top * 4294967296+f) / c<=top * 4294967296+f:=YU _ G;have hrm0:=WJ (top * 4294967296+f) (show c≠0 by omega);have hrm1:=Wi (top * 4294967296+f) (show 0 < c by omega);have hdm:=Wx (top * 4294967296+f) c;have hn2: 2<=(b++ [e,c]).length:=by omega
  have e3:(ay (d++ ((k++ [h] ++ [f])++top::hi)))[((d.length+ (b++ [e,c]).length - 2:Nat):Int).toNat]? =some [T.int .u32 h]:=by have:=fJ (d++k) h ([f] ++top::hi) (d.length+ (b++ [e,c]).length - 2) (by simp [m];try omega);simpa using this
  have e4:(ay (d++ ((k++ [h] ++ [f])++top::hi)))[((d.length+ (b++ [e,c]).length - 1:Nat):Int).toNat]? =some [T.int .u32 f]:=by have:=fJ (d++k++ [h]) f (top::hi) (d.length+ (b++ [e,c]).length - 1) (by simp [m];try omega);simpa using this
  have e5:(ay (d++ ((k++ [h] ++ [f])++top::hi)))[((d.length+ (b++ [e,c]).length:Nat):Int).toNat]? =some [T.int .u32 top]:=by have:=fJ (d++k++ [h] ++ [f]) top hi (d.length+ (b++ [e,c]).length) (by simp [m];try omega);simpa using this
  have Q:((d++ ((k++ [h] ++ [f])++top::hi)).length:Int)= ((d.length+b.length+3+hi.length:Nat):Int):=by simp [m];omega
  have P:=QF s d.length ev v y (b++ [e,c]) (d++ ((k++ [h] ++ [f])++top::hi)) (List.replicate d.length 0++0::i) (wR s L (val (b++ [e,c])) N0 (b.length+2)) (by omega) (by omega) hn2 (by simp [m] <;> omega) e1 e2 e3 V X K ⟨hw0,by rw [m] at r;exact r⟩ ⟨hv0,hv0'⟩ U F ⟨h1,dv1.2⟩ W Y z o.symm
   (λq' a1 a2 a3 a4=>Nk s ev v y (b++ [e,c]) d hi hv (by omega) (by omega) (k++ [h] ++ [f]) top dw (by rw [g];exact M) E z i _ q (by rw [<-o,p]) q' a1 a2 ⟨a3,a4⟩ J (λR' d1 d2 d3=>by
    have:=ih d R' (0::hi) (q::i) A (by omega) (by rw [d2,g]) u.left d1 (λa ha=>by
     rcases Vk.1 ha with rfl | ha
     .exact⟨J,hqB⟩
     .exact D a ha) (by rw [d3];exact Wi _ z) (by simp;omega) (by
     rw [<-p] at d3;have hdv:=Wx (val (x::R)) (val (b++ [e,c]));rw [o] at hdv;have key:val R'+val (b++ [e,c]) * val (q::i)=x+4294967296 * (val R+val (b++ [e,c]) * val i):=by rw [show val (q::i)=q+4294967296 * val i from rfl,d3,VF,VF 4294967296,VT _ 4294967296];omega
     rw [<-O,fc d [x],A,key,show val [x]=x from by simp [val],Xd,VQ,Int.add_assoc,<-VF])
    rw [<-A] at this;exact this))
   4294967296 ((top * 4294967296+f) / c) ((top * 4294967296+f) % c) (by omega) (by rw [Vu];exact hdm) (by omega) hqt (by omega)
  have c0:((j+1:Nat):Int) - 1>=0:=by omega
  have cj:((j+1:Nat):Int) - 1= (d.length:Int):=by omega
  have or1:=nS E du1;have x1:u64.wrap c=c:=be (by omega);have x2:u64.wrap top=top:=be (by omega);have x3:(top * 4294967296+f).tdiv c= (top * 4294967296+f) / c:=Wc G;have x4:(top * 4294967296+f).tmod c= (top * 4294967296+f) % c:=Wp G;have x5:u64.wrap ((top * 4294967296+f) / c)= (top * 4294967296+f) / c:=be (by omega);have nz:¬c=0:=by omega
  have w3:i64.wrap (((b++ [e,c]).length:Int) - 1)= (((b++ [e,c]).length - 1:Nat):Int):=by rw [Go.Aev.wr (by omega)];omega
  have w2':i64.wrap (((d.length+ (b++ [e,c]).length:Nat):Int) - 1)= ((d.length+ (b++ [e,c]).length - 1:Nat):Int):=by rw [Go.Aev.wr (by omega)];omega
  have b1: 0<=((d.length+ (b++ [e,c]).length:Nat):Int)/\((d.length+ (b++ [e,c]).length:Nat):Int) < ((d.length+b.length+3+hi.length:Nat):Int):=by omega
  have b2: 0<=((d.length+ (b++ [e,c]).length - 1:Nat):Int)/\((d.length+ (b++ [e,c]).length - 1:Nat):Int) < ((d.length+b.length+3+hi.length:Nat):Int):=by omega
  have b3: 0<=(((b++ [e,c]).length - 1:Nat):Int)/\(((b++ [e,c]).length - 1:Nat):Int) < ((b++ [e,c]).length:Int):=by omega
  rw [H,hrep,cj];refine P.step λR t=>aj ?_;rw [GW];have c1:(d.length:Int)>=0:=by omega
  simp only [ai,↓reduceIte,GD,c1,aL,ad d.length (b++ [e,c]).length (by omega),Q,b1,b2,b3,and_self,e5,e4,e1,w2',w3,x1,x2,or1,nz,x3,x4,x5];exact t
theorem w4(j l:Bool)(x:List Int)(b:Int)(z:Dg x)(K:x.length<=900)(hb: 0 < b/\b < 4294967296):∀(k:Nat) (r:Int) (c:List Int),k<=x.length->0<=r/\r < b->
  ∃Q R,Or xK [lu j x,lu l [b],o0,u6 r,I ((k:Int) - 1)] [ab.sl false 1 false (ay (List.replicate k 0++c))]=some [T.aa 1 false (ay (Q++c)),T.aa 1 false (ay [R])]/\Q.length=k/\Dg Q/\0<=R/\R < b/\val Q * b+R=val (x.take k)+4294967296 ^ k * r
 | 0,r,c,J,h=>by
  refine⟨[],r,aj ?_,rfl,(by intro a e;cases e),h.1,h.2,by simp [val]⟩;rw [GX];have g:¬(((0:Nat):Int) - 1)>=0:=by omega
  have A:u32.wrap r=r:=by rw [cJ];omega
  simp only [ai,↓reduceIte,GD,g,A];rfl
 | k+1,r,c,J,h=>by
  have d:k < x.length:=by omega
  have e: 0<=aN x k/\aN x k < 4294967296:=by
   have:aN x k∈x:=by simp only [aN,U7,Vb d,Vx];exact W2 d
   exact z _ this
  have f: 0<=r * 4294967296+aN x k:=by omega
  have t: 0<=(r * 4294967296+aN x k) / b:=WO f (by omega);have u:(r * 4294967296+aN x k) / b < 4294967296:=by rw [W3 hb.1];have:(r+1) * 4294967296<=b * 4294967296:=Vz (by omega) (by decide);rw [Vu 4294967296 b];omega
  have w:=WJ (r * 4294967296+aN x k) (show b≠0 by omega);have y:=Wi (r * 4294967296+aN x k) hb.1;have q:=Wx (r * 4294967296+aN x k) b;obtain⟨Q,R,h1,m,F,G,H,U⟩:=w4 j l x b z K hb k ((r * 4294967296+aN x k) % b) ((r * 4294967296+aN x k) / b::c) (by omega) ⟨w,y⟩;refine⟨Q++ [(r * 4294967296+aN x k) / b],R,aj ?_,by simp [m],Dg.append F (by intro a e;simp at e;subst e;exact⟨t,u⟩),G,H, ?_⟩
  .rw [GX];have g:((k+1:Nat):Int) - 1= (k:Int):=by omega
   have B:(k:Int)>=0:=by omega
   have C: 0<=(k:Int)/\(k:Int) < (x.length:Int):=by omega
   have i:List.replicate (k+1) (0:Int)++c=List.replicate k 0++0::c:=by rw [Yp,VI];rfl
   have D: 0<=(k:Int)/\(k:Int) < ((List.replicate k (0:Int)++0::c).length:Int):=by simp;omega
   have s:=nS (v:=r) (n:=aN x k) (by omega) e;have N:u64.wrap b=b:=be (by omega);have O:(r * 4294967296+aN x k).tdiv b= (r * 4294967296+aN x k) / b:=Wc f;have P:(r * 4294967296+aN x k).tmod b= (r * 4294967296+aN x k) % b:=Wp f;have S:u32.wrap (u64.wrap ((r * 4294967296+aN x k) / b))= (r * 4294967296+aN x k) / b:=by rw [be (by omega),cJ];omega
   have L:¬b=0:=by omega
   have o:(0:Int)<=0/\(0:Int) < (([b]:List Int).length:Int):=by simp
   have p:(ay [b])[(0:Nat)]? =some [T.int .u32 b]:=rfl;have M:i64.wrap ((k:Int) - 1)= (k:Int) - 1:=Go.Aev.wr (by omega);rw [g,i];simp only [ai,↓reduceIte,GD,B,C,aL,bE d,s,N,O,P,S,L,o,p,D,and_self,fD (List.replicate k 0) 0 _ c k (by simp),M];rw [show Q++ [(r * 4294967296+aN x k) / b] ++c=Q++ (r * 4294967296+aN x k) / b::c from by simp];exact h1
  .rw [fc,m,ou d,Xd,Xl];simp only [val,Xt,W8];have E: 4294967296 ^ k * ((r * 4294967296+aN x k) / b) * b=4294967296 ^ k * (b * ((r * 4294967296+aN x k) / b)):=by
    rw [VQ,Vu _ b]
   have e2:(4294967296:Int) ^ k * (r * 4294967296+aN x k)=4294967296 ^ k * (b * ((r * 4294967296+aN x k) / b))+4294967296 ^ k * ((r * 4294967296+aN x k) % b):=by rw [<-VF,q]
   have e3:(4294967296:Int) ^ k * (r * 4294967296+aN x k)=4294967296 ^ k * 4294967296 * r+4294967296 ^ k * aN x k:=by rw [VF,VQ,Vu r]
   rw [E];omega
structure Br (s:Nat) (x y UU VV:List Int) (V2:List Int) (w2 w1:Int):Prop where
 hs:s < 32
 vv:VV=V2++ [w2] ++ [w1] ++ [0]
 dV:Dg (V2++ [w2,w1])
 h1: 1<=w1
 LK:val (V2++ [w2,w1])=val y * 2 ^ s
 ly:y.length=V2.length+2
 ge: 4294967296 ^ (V2.length+1)<=val y
 dU:Dg UU
 AU:val UU=val x * 2 ^ s
 lu:UU.length=x.length+1
theorem Ql{s:Nat}{x y b J c:List Int}{e d:Int}(ld:Br s x y b J c e d)(T:Dg x)(W:x.length<=400)(X:c.length+2<=x.length):
  ∃j:Nat,j+ (c.length+2)=x.length+1/\Good (uk (val x) (val y) (x.length+1)) (Bl s false false false (c++ [e,d]) b (List.replicate b.length 0) ((j:Int) - 1)):=by
 have C:=gQ s;have o:=fH T;obtain⟨j,B⟩:∃j:Nat,j+ (c.length+2)=x.length+1:=⟨x.length+1 - (c.length+2),by omega⟩;refine⟨j,B, ?_⟩;have g:=ld.lu;have k:b=b.take j++ (b.drop j++ []):=by simp
 have A:(b.drop j).length=c.length+2:=by simp [g];omega
 have i:(b.take j).length=j:=by simp [g];omega
 have N:=fc (b.take j) (b.drop j);rw [Yj,i] at N;have K:Dg (b.drop j):=λa O=>ld.dU a (Xm O);have u:=ld.dU.take j;have f:=ld.LK;have n:val (b.drop j) < val (c++ [e,d]):=by
  rcases Wy (val (b.drop j)) (val (c++ [e,d])) with h | h
  .exact h
  .exfalso;have h1:(4294967296:Int) ^ j * val (c++ [e,d])<=4294967296 ^ j * val (b.drop j):=Vg h (Wu (gO _));have Y:=eQ u;have h3:val x * (2:Int) ^ s < 4294967296 ^ x.length * 2 ^ s:=Xr o C;have L:(4294967296:Int) ^ (c.length+1) * 2 ^ s<=val y * 2 ^ s:=Vz ld.ge (by omega);have M:(4294967296:Int) ^ j * (4294967296 ^ (c.length+1) * 2 ^ s)<=4294967296 ^ j * val (c++ [e,d]):=by
    rw [f];exact Vg L (Wu (gO _))
   rw [<-VQ,<-XZ,show j+ (c.length+1)=x.length from by omega] at M;have:=ld.AU;omega
 have l:=UP s ld.hs false false false c e d ld.dV (by omega) ld.h1 (x.length+1) (val b) j (b.take j) (b.drop j) [] (List.replicate (c.length+2) 0) i (by omega) A u K (U1 _) n (by simp;omega) (by rw [AW,Xt,W8];omega);rw [<-k,X8,B,<-g] at l;obtain⟨R,r1,v,Q,w,Z,t,rfl,q1,H,q3,q4,q5,p,U,V⟩:=l;have z: 0 < val y:=by have:=gO (c.length+1);have:=ld.ge;omega
 have I:val x * 2 ^ s=val Q * (val y * 2 ^ s)+t:=by rw [<-ld.AU,<-f];exact U.symm
 have m:t= (val x - val Q * val y) * 2 ^ s:=by rw [YQ,VQ];omega
 have D:val Z=val x - val Q * val y:=by rw [V,m,Int.mul_ediv_cancel _ (by omega)]
 have E:val Z < val y:=by rw [f] at p;rw [m,<-D] at p;exact Yv p (by omega)
 have F:=eQ H;have S:=Yq z (a:=val x) (q:=val Q) (r:=val Z);obtain⟨P,G⟩:=S.2 ⟨by rw [Vu];omega,F,E⟩;exact⟨_,r1,v,Q,w,Z,rfl,q1,H,P.symm,G.symm,by omega,by omega⟩
theorem IN{x y':List Int}{b a:Int}(Q:Dg x)(hy:Dg (y'++ [b,a]))(h1: 1<=a)(s:Nat)(hs:s < 32)(u:a * 2 ^ s < 4294967296):
  ∃g X W,g.length=y'.length/\Br s x (y'++ [b,a]) (eP (2 ^ s) x 0) (eP (2 ^ s) (y'++ [b,a]) 0) g X W:=by
 have p:(y'++ [b,a]).length=y'.length+2:=by simp
 have m:=gQ s;have w:=ph (n:=s) (by omega);obtain⟨V,L,r⟩:=wz m w (x:=y'++ [b,a]) (c:=0) hy ⟨Yx _,m⟩;obtain⟨K,T,U⟩:=wz m w (x:=x) (c:=0) Q ⟨Yx _,m⟩;generalize eP (2 ^ s) (y'++ [b,a]) 0=M at *
 generalize eP (2 ^ s) x 0=UU at *
 rw [W8] at V K;have v:=fc y' [b,a];have R:=fH hy.left;have hy2:=hy b (by simp);have hy1:=hy a (by simp);have hPp:=gO y'.length;obtain⟨A,q,rfl,o⟩:=jn (l:=M) (n:=y'.length+2) (by rw [L,p]);have Y:=r q (by simp);have t:=fc A [q];rw [o] at t;simp only [val,Xt,W8] at t v;have O:=eQ r.left;have C:val (y'++ [b,a]) * 2 ^ s < 4294967296 ^ (y'.length+2):=by
  have E:val (y'++ [b,a])<=4294967296 ^ (y'.length+1) * (a+1) - 1:=by
   have H:=fH (d:=y'++ [b]) (by
    have:y'++ [b,a]= (y'++ [b])++ [a]:=by simp
    rw [this] at hy;exact hy.left)
   have e:=fc (y'++ [b]) [a];rw [show(y'++ [b])++ [a]=y'++ [b,a] from by simp] at e;simp only [val,Xt,W8,Wr,Vw,VL,VM] at e H;rw [VF,Yd];omega
  have y:(a+1) * (2:Int) ^ s<=4294967296:=by rw [w] at u⊢;have:a < 2 ^ (32 - s):=Yv u (by omega);exact Vz (by omega) (by omega)
  have hpp:=gO (y'.length+1);have S:val (y'++ [b,a]) * (2:Int) ^ s<=(4294967296 ^ (y'.length+1) * (a+1) - 1) * 2 ^ s:=Vz E (by omega);have m2:(4294967296:Int) ^ (y'.length+1) * ((a+1) * 2 ^ s)<=4294967296 ^ (y'.length+1) * 4294967296:=Vg y (by omega);rw [YQ,Ww,VQ] at S;rw [show y'.length+2=y'.length+1+1 from rfl,Xd 4294967296 (y'.length+1)];omega
 have I:q=0:=by
  rcases Wy 0 q with h | h
  .exfalso;have:(4294967296:Int) ^ (y'.length+2) * 1<=4294967296 ^ (y'.length+2) * q:=Vg (by omega) (Wu (gO _));omega
  .omega
 subst I;have j:val A=val (y'++ [b,a]) * 2 ^ s:=by omega
 obtain⟨V1,i,rfl,B⟩:=jn o;obtain⟨g,f,rfl,k⟩:=jn B;have G:g++ [f] ++ [i]=g++ [f,i]:=by simp
 rw [G] at j r o;have dV:=r.left;have z: 4294967296 ^ (y'.length+1)<=val (y'++ [b,a]):=by rw [v,Xd];have:(4294967296:Int) ^ y'.length * (4294967296 * 1)<=4294967296 ^ y'.length * (b+4294967296 * a):=Vg (by omega) (by omega);have:=eQ hy.left;omega
 have F: 1<=(2:Int) ^ s:=by omega
 have P: 4294967296 ^ (y'.length+1)<=val (g++ [f,i]):=by rw [j];have:val (y'++ [b,a]) * 1<=val (y'++ [b,a]) * 2 ^ s:=Vg F (by have:=gO (y'.length+1);omega);omega
 have J: 1<=i:=by
  have Z:=dV i (by simp);rcases Wy i 1 with h | h
  .exfalso;have N:i=0:=by omega
   subst N;have e:=fc (g++ [f]) [(0:Int)];have D:=fH (d:=g++ [f]) (by
    have:g++ [f,(0:Int)]= (g++ [f])++ [0]:=by simp
    rw [this] at dV;exact dV.left)
   rw [show g++ [f] ++ [(0:Int)]=g++ [f,0] from by simp] at e;simp only [val,Xt,W8,Wr,Vw,VL,k,VM] at e D;omega
  .exact h
 exact⟨g,f,i,k,hs,rfl,dV,J,j,by rw [p,k],by rw [k];exact z,U,K,T⟩
theorem Je(p q:Bool)(x y':List Int)(b a:Int)(l:Dg x)(hy:Dg (y'++ [b,a]))(h1: 1<=a)(o:x.length<=400)(K:y'.length+2<=x.length):∀(m s:Nat),s+m=32->s < 32->a * 2 ^ s < 4294967296->
  Good (uk (val x) (val (y'++ [b,a])) (x.length+1)) (Or xI [lu p x,lu q (y'++ [b,a]),I (s:Int)] [])
 | 0,s,hm,hs,_=>by omega
 | m+1,s,hm,hs,H=>by
  have t:(y'++ [b,a]).length=y'.length+2:=by simp
  have z:(ay (y'++ [b,a]))[(((y'.length+1:Nat):Int)).toNat]? =some [T.int .u32 a]:=by have:=fJ (y'++ [b]) a [] (y'.length+1) (by simp);simpa using this
  have O:i64.wrap (((y'++ [b,a]).length:Int) - 1)= ((y'.length+1:Nat):Int):=by rw [Go.Aev.wr (by omega)];omega
  have y: 0<=((y'.length+1:Nat):Int)/\((y'.length+1:Nat):Int) < ((y'++ [b,a]).length:Int):=by omega
  have M:min ((s:Int)).toNat 32=s:=by simp;omega
  have N:¬(s:Int) < 0:=by omega
  have W:=gQ s;have X: 0<=a * (2:Int) ^ s:=Wg (by omega) (by omega);have P:u32.wrap (a * (2:Int) ^ s)=a * 2 ^ s:=by rw [cJ];omega
  have g:(a * (2:Int) ^ s).fdiv ((2:Int) ^ 31)=a * 2 ^ s / 2147483648:=by rw [show((2:Int) ^ 31)=2147483648 from by decide,Wb _ (by omega)]
  by_cases hz:a * (2:Int) ^ s / 2147483648=0
  .have E:(2:Int) ^ (s+1)=2 ^ s * 2:=Xd 2 s;have u:a * (2:Int) ^ (s+1) < 4294967296:=by rw [E,<-VQ];omega
   have G:s+1 < 32:=by
    rcases Xk (s+1) 32 with h | h
    .exact h
    .exfalso;have:s=31:=by omega
     subst this;have S:((2:Int) ^ 31)=2147483648:=by decide
     rw [S] at hz;omega
   refine(Je p q x y' b a l hy h1 o K m (s+1) (by omega) G u).step λR r=>aj ?_;rw [GV];simp only [ai,↓reduceIte,GD,aL,O,y,and_self,z,M,N,P,g,hz,nx s (by omega)];exact r
  .obtain⟨e,d,c,i,ld⟩:=IN l hy h1 s hs H;obtain⟨j,Y,Q⟩:=Ql ld l o (by omega);have k:=KL s hs q (y'++ [b,a]) hy (by omega);have w:=KL s hs p x l (by omega);rw [ld.vv] at k;have V:=ld.lu;generalize eP (2 ^ s) x 0=f at *
   refine Q.step λR r=>aj ?_;have F:e++ [d] ++ [c]=e++ [d,c]:=by simp
   have A:bO 0 ((y'++ [b,a]).length:Int) ((e++ [d] ++ [c] ++ [0]).length:Int)=some ():=by unfold bO;rw [if_pos (by simp [i];omega)]
   have C:bu (f.length:Int) (f.length:Int)=some ():=by unfold bu du;rw [if_pos (by omega)]
   have J:List.take (((y'++ [b,a]).length:Int).toNat - 0) (ay (e++ [d] ++ [c] ++ [0]))=ay (e++ [d,c]):=by
    have D:((y'++ [b,a]).length:Int).toNat - 0= (e++ [d,c]).length:=by rw [t];simp only [Wr,Vw,VL,i];omega
    simp only [D,F,ay,W0];rw [Yf (by simp),We (by simp)]
   have U:i64.wrap (i64.wrap ((f.length:Int) - ((y'++ [b,a]).length:Int)) - 1)= (j:Int) - 1:=by rw [Go.Aev.wr (v:=(f.length:Int) - _) (by omega),Go.Aev.wr (by omega)];omega
   have L:List.replicate ((f.length:Int)).toNat [T.int u32 (0:Int)]=ay (List.replicate f.length 0):=by simp [ay]
   have B:((e++ [d,c]).length:Int)= ((y'++ [b,a]).length:Int):=by simp [i]
   have n:Or rI [I (s:Int),I ((e++ [d,c]).length:Int),lu false (e++ [d,c]),o0,o1,I ((j:Int) - 1)] (U2 false false f (List.replicate f.length 0))=some R:=r;rw [B] at n;rw [GV];simp only [ai,↓reduceIte,GD,aL,O,y,and_self,z,M,N,P,g,hz,k,w,A,C,J,U,L];exact n
theorem SX(j k:Bool)(x y:List Int)(o:Dg x)(hy:Dg y)(m:Can y)(i:y≠[])(w:x.length<=400)(M:val y<=val x):Good (uk (val x) (val y) (x.length+1)) (Or (.call 149) [lu j x,lu k y] []):=by
 have A:=rQ hy m i;have e:y.length<=x.length:=by
  rcases Xk x.length y.length with h | h
  .have:=mQ o hy m h;omega
  .exact h
 by_cases h1:(y.length:Int)=1
 .match y,h1 with
  | [b],_=>
   have hb:=hy b (by simp);have d: 0 < b:=by simpa [val] using A
   obtain⟨Q,R,C,k2,H,I,J,K⟩:=w4 j k x b o (by omega) ⟨d,hb.2⟩ x.length 0 [] (by omega) ⟨by omega,d⟩;rw [Xv,Xt,W8] at K;rw [V9,V9] at C;have g:val [b]=b:=by simp [val]
   have G:=Yq d (a:=val x) (q:=val Q) (r:=R);obtain⟨q1,P⟩:=G.2 ⟨by rw [Vu];omega,I,J⟩;refine⟨_,aj ?_,false,Q,false,[R],rfl,H,(by intro a t;simp at t;subst t;omega),by rw [g];exact q1.symm,by rw [g];simp [val];omega,by omega,by simp⟩;rw [GU];have u:bu (x.length:Int) (x.length:Int)=some ():=by unfold bu du;rw [if_pos (by omega)]
   have L:i64.wrap ((x.length:Int) - 1)= (x.length:Int) - 1:=Go.Aev.wr (by omega);have B:List.replicate ((x.length:Int)).toNat [T.int u32 (0:Int)]=ay (List.replicate x.length 0):=by simp [ay]
   have s:(([b]:List Int).length:Int)=1:=by simp
   simp only [ai,GD,aL,s,u,L,B];exact C
 .have E: 2<=y.length:=by have:=XG.2 i;omega
  obtain⟨D,c,rfl,N⟩:=jn (l:=y) (n:=y.length - 1) (by omega);obtain⟨y',f,rfl,O⟩:=jn (l:=D) (n:=D.length - 1) (by simp at E;omega);have v:y'++ [f] ++ [c]=y'++ [f,c]:=by simp
  have z: 1<=c:=by
   have:=m (y'.length+1) (by simp);rw [show aN (y'++ [f] ++ [c]) (y'.length+1)=c from by
    have:=rT (y'++ [f]) c [] (y'.length+1) (by simp);simpa using this] at this
   have:=hy c (by simp);omega
  have p:=hy c (by simp);rw [v] at hy e h1⊢;refine(Je j k x y' f c o hy z w (by simpa using e) 32 0 rfl (by omega) (by simpa using p.2)).step λR F=>aj ?_;rw [GU];simp only [ai,↓reduceIte,aL,h1];exact F
open Go Go.Aev Go.Aev.Gen
theorem Kd{z w:Int}{s t:Bool}{d a:List Int}(h:ch z s d)(b:ch w t a)(hz:z.natAbs<=w.natAbs):d.length<=a.length:=DZ h a.length (by
 have:=fH b.dg;rw [nY b] at this;omega)
def E6(z m:Int)(r:Option (List T)):Prop:= ∃s e d s' e' a,r=some [T.ax,T.ax,tb s,T.aa 1 e (ay d),tb s',T.aa 1 e' (ay a)]/\ch z s d/\ch m s' a
theorem KI(s:Bool)(y:T)(d e2 f e3 p:Bool)(q:T)(a b:List Int)(u v:Int)(e:ch u d a)(hb:ch v f b)(I:a.length<=400)(lb:b.length<=400)(hv:v≠0):
  E6 (u.tdiv v) (u.tmod v) (Or (.call 139) [r0,AV.t (T.ptr [tb d,T.aa 1 e2 (ay a)]),AV.t (T.ptr [tb f,T.aa 1 e3 (ay b)]),AV.ref (Id.c 1) 0] [ab.box [AV.t (T.bool s),AV.t y],ab.box [AV.t (T.bool p),AV.t q]]):=by
 have j:=wo a b d e2 f e3 e.dg hb.dg e.can hb.can (by omega) (by omega);have m:=eQ e.dg;have x:=Ke hb hv;obtain⟨i,hm⟩:=JJ f d (val a) (val b) m x;have n:=e.z;have k:=hb.z;unfold num at n k;rw [n,k] at i hm;by_cases g:val a < val b
 .have l:bA (val a) (val b) < 0:=by unfold bA;rw [if_pos g];omega
  obtain⟨s',e',C,o,k2,B⟩:=Ek s y 0 (by omega);rw [YP m g] at i;rw [Zv m g,n] at hm;refine⟨s',e',C,d,false,a,aj ?_, ?_,by rw [hm];exact e⟩
  .rw [y8];simp only [ai,↓reduceIte,GD,j,l,pv p q d e2 a (by omega),o]
  .rw [i];simpa using k2
 .have H:b.length<=a.length:=by
   rcases Xk a.length b.length with h | h
   .have:=mQ e.dg hb.dg hb.can h;omega
   .exact h
  by_cases G:(a.length:Int) < 3
  .obtain⟨M,F,E,sm,em,D,o,k2,B,_,_⟩:=KH s y d e2 f e3 p q a b u v e hb (by omega) (by omega) hv;exact⟨M,F,E,sm,em,D,o,k2,B⟩
  .have l:¬bA (val a) (val b) < 0:=by unfold bA;rw [if_neg g];split <;> omega
   have A:b≠[]:=by intro h;subst h;simp [val] at x
   obtain⟨R,r1,r,Q,w,Z,rfl,q1,J,K,L,P,S⟩:=SX e2 e3 a b e.dg hb.dg hb.can A I (by omega);have N:=lC (!d==f) r Q (by omega);have O:=lC d w Z (by omega);refine⟨(!d==f) && decide (bI Q≠[]),r,bI Q,d && decide (bI Z≠[]),w,bI Z,aj ?_,pD (s:= !d==f) q1 ?_,pD (s:=d) J ?_⟩
   .rw [y8];simp only [ai,↓reduceIte,GD,j,l,aL,G,r1,N,O]
   .rw [i];unfold num;rw [K]
   .rw [hm];unfold num;rw [L]
theorem SM(s:Bool)(y:T)(m e2 e e3 C:Bool)(H:T)(a b:List Int)(u v:Int)(l:ch u m a)(hb:ch v e b)(W:a.length<=390)(lb:b.length<=390)(hv: 0 < v):
  E6 (u / v) (u % v) (Or (.call 138) [r0,AV.t (T.ptr [tb m,T.aa 1 e2 (ay a)]),AV.t (T.ptr [tb e,T.aa 1 e3 (ay b)]),AV.ref (Id.c 1) 0] [ab.box [AV.t (T.bool s),AV.t y],ab.box [AV.t (T.bool C),AV.t H]]):=by
 have h:=pv false (T.aJ true) e e3 b (by omega);obtain⟨E,r,o,sm,em,k,A,k2,d⟩:=KI s y m e2 e e3 C H a b u v l hb (by omega) (by omega) (by omega);have x:=pk hb;have:e=false:=by rw [x];simp;omega
 subst this;have i:=pk d;obtain⟨J,K⟩:=Lk (u:=u) hv;have S:=Kd k2 l (by rw [Za];exact Zb _ _);have R:=Kd d l (by rw [Int.natAbs_tmod];exact Nat.mod_le _ _);by_cases f:u.tmod v < 0
 .have:sm=true:=by rw [i];simpa using f
  subst this;obtain⟨q1,g⟩:=J f;obtain⟨G,L,M⟩:=qN 1 (by omega);obtain⟨s',e',I,rfl,z⟩:=M;have V:=sW z (by omega);obtain⟨F,w,p,N,B,X⟩:=Kx E r s' e' o I _ _ k2 z (by omega) (by omega);obtain⟨U,Q,P,Y,O,Z⟩:=wh true em false e3 k b _ _ d hb (by omega) (by omega);rw [q1] at B;rw [g] at O;have j:=(wh true em false false k b _ _ d hb (by omega) (by omega));rw [g] at j;obtain⟨D,q,n,G,x2,x3⟩:=j;refine⟨F,w,p,D,q,n,aj ?_,B,x2⟩;rw [r8];simp only [ai,GD,h,A,L,N,G]
 .have:sm=false:=by rw [i];simpa using f
  subst this;obtain⟨q1,g⟩:=K f;rw [q1] at k2;rw [g] at d;refine⟨E,r,o,false,em,k,aj ?_,k2,d⟩;rw [r8];simp only [ai,GD,h,A]
open Go Go.Aev Go.Aev.Gen
def ct(z:Int):Prop:=(z.natAbs:Int) < 4294967296 ^ 200
theorem ct.len{z:Int}{s:Bool}{d:List Int}(h:ct z)(r:ch z s d):d.length<=200:=DZ r 200 h
theorem ct.le{z w:Int}(h:ct z)(a:w.natAbs<=z.natAbs):ct w:=by
 unfold ct at *
 have:(w.natAbs:Int)<=(z.natAbs:Int):=by omega
 exact Int.lt_of_le_of_lt this h
def Sm(z:Int):Prop:= -9223372036854775808 < z/\z < 9223372036854775808
theorem Sm.du{z:Int}(h:Sm z):ct z:=by
 unfold Sm at h;unfold ct;have h1:(4294967296:Int) ^ 2<=4294967296 ^ 200:=vQ (by omega);have a:(4294967296:Int) ^ 2=18446744073709551616:=by decide
 rw [a] at h1;exact Int.lt_of_lt_of_le (by omega) h1
def lO(z:Int)(r:Option (List T)):Prop:= ∃s e d,r=some [T.ax,tb s,T.aa 1 e (ay d)]/\ch z s d
theorem um.g{z:Int}{n:Nat}{r:Option (List T)}(h:um z n r):lO z r:=by obtain⟨s,e,d,a,k2,_⟩:=h;exact⟨s,e,d,a,k2⟩
abbrev r1:AV:=AV.ref (Id.c 1) 0
abbrev pt(s e:Bool)(d:List Int):T:=T.ptr [T.bool s,T.aa 1 e (ay d)]
theorem wi{z:Int}{s e:Bool}{d:List Int}(h:ch z s d):WI z (pt s e d):=⟨s,e,d,rfl,h⟩
theorem Il(s:Bool)(y:T){d x2:T}{u v:Int}(h1:WI u d)(g:WI v x2)(lu:ct u)(i:ct v)(hv:v≠0):
  lO (u.tdiv v) (Or (.call 117) [r0,AV.t d,AV.t x2] [ab.box [AV.t (T.bool s),AV.t y]]):=by
 obtain⟨j,e2,a,rfl,c⟩:=h1;obtain⟨k,e3,b,rfl,hb⟩:=g;have:=lu.len c;have:=i.len hb;obtain⟨l,f,e,sm,em,m,h,k2,n⟩:=KI s y j e2 k e3 false (T.aJ true) a b u v c hb (by omega) (by omega) hv;refine⟨l,f,e,aj ?_,k2⟩;rw [Oi];simp only [ai,GD,h]
theorem P5(s:Bool)(y:T){d x2:T}{u v:Int}(h1:WI u d)(f:WI v x2)(lu:ct u)(i:ct v)(hv: 0 < v):
  lO (u % v) (Or (.call 113) [r0,AV.t d,AV.t x2] [ab.box [AV.t (T.bool s),AV.t y]]):=by
 obtain⟨j,e2,a,rfl,c⟩:=h1;obtain⟨k,e3,b,rfl,hb⟩:=f;have:=lu.len c;have:=i.len hb;obtain⟨n,m,l,sm,em,e,g,k2,h⟩:=SM false (T.aJ true) j e2 k e3 s y a b u v c hb (by omega) (by omega) hv;refine⟨sm,em,e,aj ?_,h⟩;rw [y9];simp only [ai,GD,g]
theorem ve(s:Bool)(y:T){d x2:T}{u v:Int}(h1:WI u d)(e:WI v x2)(lu:ct u)(f:ct v):
  lO (u * v) (Or (.call 91) [r0,AV.t d,AV.t x2] [ab.box [AV.t (T.bool s),AV.t y]]):=by
 obtain⟨h,e2,a,rfl,c⟩:=h1;obtain⟨i,e3,b,rfl,hb⟩:=e;have:=lu.len c;have:=f.len hb;exact(SI s y h e2 i e3 a b u v c hb (by omega) (by omega)).g
theorem P2{c e2:Bool}{a:List Int}{x2:T}{u v:Int}(d:ch u c a)(e:WI v x2)(lu:ct u)(f:ct v):
  lO (u+v) (Or (.call 94) [r0,r0,AV.t x2] [ab.box [AV.t (T.bool c),AV.t (T.aa 1 e2 (ay a))]]):=by
 obtain⟨h,e3,b,rfl,hb⟩:=e;have:=lu.len d;have:=f.len hb;exact(wh c e2 h e3 a b u v d hb (by omega) (by omega)).g
theorem KG(s:Bool)(y:T)(a e2:Bool)(d:List Int)(r:List T)(b:d.length<=1000):Or (.call 114) [r0,AV.t (T.ptr (T.bool a::T.aa 1 e2 (ay d)::r))] [ab.box [AV.t (T.bool s),AV.t y]]=some [T.ax,tb a,T.aa 1 false (ay d)]:=by refine aj ?_;rw [Ob];have:bM 4 (ay d).length=some ():=jb (by rw [aL];omega);simp only [GD,this]
theorem SU(s e:Bool)(d:List Int)(a:d.length<=1000):Or (.call 114) [r0,r0] [ab.box [AV.t (T.bool s),AV.t (T.aa 1 e (ay d))]]=some [T.ax,tb s,T.aa 1 false (ay d)]:=by refine aj ?_;rw [Oc];have:bM 4 (ay d).length=some ():=jb (by rw [aL];omega);simp only [GD,this]
theorem KE(s:Bool)(y:T)(t:Bool)(u:T)(a e2:Bool)(d:List Int)(b:d.length<=1000):Or (.call 114) [r0,AV.t (pt a e2 d)] [ab.box [AV.t (T.bool s),AV.t y,AV.t (T.bool t),AV.t u]]=some [T.ax,tb a,T.aa 1 false (ay d),tb t,u]:=by refine aj ?_;rw [N9];have:bM 4 (ay d).length=some ():=jb (by rw [aL];omega);simp only [GD,this]
theorem KF(s:Bool)(y:T)(t:Bool)(u:T)(a e2:Bool)(d:List Int)(b:d.length<=1000):Or (.call 114) [AV.ref (Id.c 0) 2,AV.t (pt a e2 d)] [ab.box [AV.t (T.bool s),AV.t y,AV.t (T.bool t),AV.t u]]=some [T.ax,tb s,y,tb a,T.aa 1 false (ay d)]:=by refine aj ?_;rw [Oa];have:bM 4 (ay d).length=some ():=jb (by rw [aL];omega);simp only [GD,this]
theorem Jx{a:Bool}{d:List Int}{z:Int}(hz:ch z a d):ch (-z) (!a && decide ((d.length:Int) > 0)) d:=by
 refine⟨hz.dg,hz.can,λh=> ?_, ?_⟩
 .simp only [Vd,decide_eq_true_eq] at h;intro b;subst b;simp at h
 .have:=hz.z;unfold num at this⊢;cases a with
  | true=>simp at this⊢;omega
  | false=>
   simp only [VD,if_false] at this;by_cases c:(d.length:Int) > 0
   .simp [];omega
   .have:d= []:=Vq.1 (by omega);subst this;simp [val] at *
    omega
theorem SL(s:Bool)(y:T)(a e2:Bool)(d:List Int)(r:List T)(z:Int)(b:d.length<=1000)(hz:ch z a d):lO (-z) (Or (.call 118) [r0,AV.t (T.ptr (T.bool a::T.aa 1 e2 (ay d)::r))] [ab.box [AV.t (T.bool s),AV.t y]]):=by refine⟨_,false,d,aj ?_,Jx hz⟩;rw [NX];simp only [ai,GD,KG s y a e2 d r b,aL,eI]
theorem Kz(s e:Bool)(d:List Int)(z:Int)(a:d.length<=1000)(hz:ch z s d):lO (-z) (Or (.call 118) [r0,r0] [ab.box [AV.t (T.bool s),AV.t (T.aa 1 e (ay d))]]):=by refine⟨_,false,d,aj ?_,Jx hz⟩;rw [NY];simp only [ai,GD,SU s e d a,aL,eI]
theorem KJ(s:Bool)(y:T){x:T}{z:Int}(h:WI z x)(b:ct z):lO (z.natAbs:Int) (Or (.call 110) [r0,AV.t x] [ab.box [AV.t (T.bool s),AV.t y]]):=by obtain⟨c,e2,d,rfl,a⟩:=h;have:=b.len a;refine⟨false,false,d,aj ?_,⟨a.dg,a.can,λh=>(by cases h),by simp [num,nY a]⟩⟩;rw [Od];simp only [ai,GD,pv s y c e2 d (by omega)]
theorem El(b e2:Bool)(d:List Int)(r:List T)(z:Int)(h:ch z b d):Or (.call 75) [AV.t (T.ptr (T.bool b::T.aa 1 e2 (ay d)::r))] []=some [ti z.sign]:=by
 refine aj ?_;rw [Oe];have hs:=pk h;have e:=nY h;by_cases a:d= []
 .subst a;have:z=0:=by simp [val] at e;omega
  subst this;simp only [ai,aL,VL];rfl
 .have f:=rQ h.dg h.can a;have c:¬(d.length:Int)=0:=by have:=XG.2 a;omega
  cases b with
  | true=>
   have:z < 0:=by simpa using hs.symm
   have:z.sign= -1:=Wv this;simp only [ai,↓reduceIte,aL,c,this]
  | false=>
   have:¬z < 0:=by simpa using hs.symm
   have:z.sign=1:=Wh (by omega);simp only [ai,↓reduceIte,aL,c,this]
theorem SO{h x2:T}{u v:Int}(h1:WI u h)(k:WI v x2)(lu:ct u)(l:ct v):Or (.call 73) [AV.t h,AV.t x2] []=some [ti (bA u v)]:=by
 obtain⟨e,e2,a,rfl,c⟩:=h1;obtain⟨f,e3,b,rfl,hb⟩:=k;have:=lu.len c;have:=l.len hb;have g:=wo a b e e2 f e3 c.dg hb.dg c.can hb.can (by omega) (by omega);have d:=wo b a f e3 e e2 hb.dg c.dg hb.can c.can (by omega) (by omega);have m:=pk c;have n:=pk hb;have i:=nY c;have j:=nY hb;refine aj ?_;rw [Ct];cases e <;> cases f <;> simp only [Bool.true_eq,Bool.false_eq,decide_eq_true_eq,decide_eq_false_iff_not] at m n
 .simp only [ai,GD,g];have:bA (val a) (val b)=bA u v:=by rw [i,j];unfold bA;split <;> split <;> (try split) <;> (try split) <;> omega
  rw [this]
 .simp only [ai,GD,ft];have:bA u v=1:=by unfold bA;rw [if_neg (by omega),if_neg (by omega)]
  rw [this]
 .simp only [ai,GD,tf];have:bA u v= -1:=by unfold bA;rw [if_pos (by omega)]
  rw [this]
 .simp only [ai,GD,d];have:bA (val b) (val a)=bA u v:=by rw [i,j];unfold bA;split <;> split <;> (try split) <;> (try split) <;> omega
  rw [this]
theorem Rh(s:Bool)(y:T):∀(d c:Nat),c < 18446744073709551616->d < 18446744073709551616->lO ((Nat.gcd c d:Nat):Int) (Or xG [r0,AV.t (T.int .u64 (c:Int)),AV.t (T.int .u64 (d:Int))] [ab.box [AV.t (T.bool s),AV.t y]]):=by
 intro d;induction d using Nat.strongRecOn with
 | _ d k=>
  intro c n g;by_cases e:(d:Int) > 0
  .have hm:(c:Int).tmod (d:Int)= ((c % d:Nat):Int):=by rw [Wp (by omega),Int.natCast_emod]
   have f:c % d < d:=Yo _ (by omega);obtain⟨s',e',a,b,k2⟩:=k (c % d) f d g (by omega);have i:Nat.gcd d (c % d)=Nat.gcd c d:=by rw [YF c d,Nat.gcd_rec d c,YF]
   rw [i] at k2;have j:¬(d:Int)=0:=by omega
   refine⟨s',e',a,aj ?_,k2⟩;rw [GN];simp only [ai,↓reduceIte,GD,e,j,hm];exact b
  .have:d=0:=by omega
   subst this;obtain⟨e',a,b,k2,l,m,o⟩:=wm s y (c:Int) (by omega);refine⟨false,e',a,aj ?_,⟨k2,l,λh=>(by cases h),by simp [num,m]⟩⟩;rw [GN];simp only [ai,↓reduceIte,GD,e,b]
theorem Ri(s:Bool)(y:T):∀(b a:Nat) (o x2:T),WI (a:Int) o->WI (b:Int) x2->ct (a:Int)->ct (b:Int)->lO ((Nat.gcd a b:Nat):Int) (Or xF [r0,AV.t o,AV.t x2] [ab.box [AV.t (T.bool s),AV.t y]]):=by
 intro b;induction b using Nat.strongRecOn with
 | _ b E=>
  intro a o x2 h1 f v lb;obtain⟨n,e2,p,rfl,h⟩:=h1;obtain⟨x,e3,q,rfl,g⟩:=f;have K:=v.len h;have lq:=lb.len g;have c:=El x e3 q [] (b:Int) g;by_cases B:b=0
  .subst B;refine⟨n,false,p,aj ?_,by simpa using h⟩;rw [Cs];have:((0:Nat):Int).sign=0:=rfl;rw [this] at c;simp only [ai,↓reduceIte,GD,c,pv s y n e2 p (by omega)]
  .have hs:(b:Int).sign=1:=Wh (by omega);rw [hs] at c;have k:¬(1:Int)=0:=by omega
   by_cases r:(p.length:Int) < 3/\(q.length:Int) < 3
   .have i:=jW n e2 p h.dg (by omega);have j:=jW x e3 q g.dg (by omega);have L:=nY h;have M:=nY g;have I:=fH h.dg;have bb:=fH g.dg;have f:∀d:List Int,d.length<=2->(4294967296:Int) ^ d.length<=18446744073709551616:=λd C=>by
     have f:(4294967296:Int) ^ d.length<=4294967296 ^ 2:=vQ C;rw [show((4294967296:Int) ^ 2)=18446744073709551616 from by decide] at f;exact f
    have G:=f p (by omega);have H:=f q (by omega);have z:val p= (a:Int):=by omega
    have A:val q= (b:Int):=by omega
    rw [z] at i;rw [A] at j;obtain⟨s',e',l,m,k2⟩:=Rh s y b a (by omega) (by omega);refine⟨s',e',l,aj ?_,k2⟩;rw [Cs];simp only [eI,<-WD];simp only [ai,↓reduceIte,GD,c,k,aL,r,and_self,i,j];exact m
   .obtain⟨sm,em,J,F,w⟩:=P5 false (T.aJ true) (wi (e:=e2) h) (wi (e:=e3) g) v lb (by omega);have hm:(a:Int) % (b:Int)= ((a % b:Nat):Int):=by simp
    rw [hm] at w;have u:a % b < b:=Yo _ (by omega);obtain⟨s',e',l,m,k2⟩:=E (a % b) u b _ _ (wi (e:=e3) g) (wi (e:=em) w) lb (lb.le (by omega));have D:Nat.gcd b (a % b)=Nat.gcd a b:=by rw [YF a b,Nat.gcd_rec b a,YF]
    rw [D] at k2;refine⟨s',e',l,aj ?_,k2⟩;rw [Cs];simp only [eI,<-WD];simp only [ai,↓reduceIte,GD,c,k,aL,r,F];exact m
theorem Ij(s:Bool)(y:T){f x2:T}{u v:Int}(h1:WI u f)(c:WI v x2)(lu:ct u)(d:ct v):
  lO ((Int.gcd u v:Nat):Int) (Or (.call 71) [r0,AV.t T.ax,AV.t T.ax,AV.t f,AV.t x2] [ab.box [AV.t (T.bool s),AV.t y]]):=by
 obtain⟨w,l,n,g,h⟩:=KJ false (T.aJ true) h1 lu;obtain⟨x,eb,o,i,j⟩:=KJ false (T.aJ true) c d;obtain⟨s',e',k,m,k2⟩:=Ri s y v.natAbs u.natAbs _ _ (wi (e:=l) h) (wi (e:=eb) j) (lu.le (by omega)) (d.le (by omega));obtain⟨q,e2,a,rfl,p⟩:=h1;obtain⟨r,e3,b,rfl,hb⟩:=c;refine⟨s',e',k,aj ?_,k2⟩;rw [y5];simp only [ai,GD,g,i];exact m
def WR(q:Rat)(x:T):Prop:= ∃s e d s' e' a,x=T.ptr [tb s,T.aa 1 e (ay d),tb s',T.aa 1 e' (ay a)]/\ch q.num s d/\ch (q.den:Int) s' a
def LQ(q:Rat):Prop:=ct q.num/\ct (q.den:Int)
def pS(q:Rat)(r:Option (List T)):Prop:= ∃s e d s' e' a,r=some [T.ax,tb s,T.aa 1 e (ay d),tb s',T.aa 1 e' (ay a)]/\ch q.num s d/\ch (q.den:Int) s' a
abbrev b4(s:Bool)(y:T)(t:Bool)(u:T):ab:=ab.box [AV.t (T.bool s),AV.t y,AV.t (T.bool t),AV.t u]
theorem Ch{u v:Int}(hv:v≠0):(v < 0->(Rat.divInt u v).num= -(u.tdiv (Int.gcd u v:Nat))/\((Rat.divInt u v).den:Int)= -(v.tdiv (Int.gcd u v:Nat)))/\
  (¬v < 0->(Rat.divInt u v).num=u.tdiv (Int.gcd u v:Nat)/\((Rat.divInt u v).den:Int)=v.tdiv (Int.gcd u v:Nat)):=by
 have a:=Rat.num_divInt u v;have b:=Rat.den_divInt u v;rw [if_neg hv] at b;rw [Int.gcd_comm v u] at a b;have c:((Int.gcd u v:Nat):Int) ∣ u:=Int.gcd_dvd_left u v;have d:((Int.gcd u v:Nat):Int) ∣ v:=Int.gcd_dvd_right u v;have e:u.tdiv (Int.gcd u v:Nat)=u / (Int.gcd u v:Nat):=Xp c;have e2:v.tdiv (Int.gcd u v:Nat)=v / (Int.gcd u v:Nat):=Xp d;rw [e,e2];constructor
 .intro h;have hs:v.sign= -1:=Wv h;rw [hs] at a;constructor
  .rw [a,show -1 * u= -u from by omega,YA c]
  .rw [b,Int.natCast_ediv,Int.ofNat_natAbs_of_nonpos (by omega),YA d]
 .intro h;have hs:v.sign=1:=Wh (by omega);rw [hs,Ww] at a;constructor
  .exact a
  .rw [b,Int.natCast_ediv,Int.natAbs_of_nonneg (by omega)]
theorem Ll(u:Int)(n:Nat):(u.tdiv (n:Int)).natAbs<=u.natAbs:=by rw [Za];exact Zb _ _
theorem zD(s:Bool)(y:T)(t:Bool)(w:T)(B:Bool)(G:List (List T))(L:w.aU 1=some (B,G)){V x2:T}{u v:Int}(h1:WI u V)(D:WI v x2)(lu:ct u)(n:ct v)(hv:v≠0):
  pS (Rat.divInt u v) (Or (.call 74) [r0,AV.t V,AV.t x2] [b4 s y t w]):=by
 obtain⟨sg,eg,dg,O,k2⟩:=Ij false (T.aJ true) h1 D lu n;have f:((Int.gcd u v:Nat):Int)≠0:=by have:=Int.gcd_pos_of_ne_zero_right (a:=u) hv;omega
 have P:ct ((Int.gcd u v:Nat):Int):=n.le (by
  have:=Nat.le_of_dvd (by omega) (ZD u v);omega)
 obtain⟨sx,H,m,R,E⟩:=Il false (T.aJ true) h1 (wi (e:=eg) k2) lu P f;obtain⟨U,J,A,S,o⟩:=Il false (T.aJ true) D (wi (e:=eg) k2) n P f;have Q:ct (u.tdiv (Int.gcd u v:Nat)):=lu.le (Ll _ _);have ly:ct (v.tdiv (Int.gcd u v:Nat)):=n.le (Ll _ _);have lx':=Q.len E;have ly':=ly.len o;obtain⟨p1,p2⟩:=Ch (u:=u) hv;have q:=pk o;have j:v.tdiv (Int.gcd u v:Nat) < 0↔v < 0:=by
  have W:((Int.gcd u v:Nat):Int) ∣ v:=Int.gcd_dvd_right u v;obtain⟨k,X⟩:=W;have i: 0 < ((Int.gcd u v:Nat):Int):=by omega
  generalize ((Int.gcd u v:Nat):Int)=g at *
  subst X;rw [Int.mul_tdiv_cancel_left _ f];constructor
  .intro h;exact Zw i h
  .intro h;rcases Wy k 0 with C | C
   .exact C
   .have:=Wg (Wu i) C;omega
 obtain⟨s2,e2,a,rfl,ha⟩:=h1;obtain⟨s3,e3,b,rfl,hb⟩:=D;by_cases c:v < 0
 .obtain⟨q1,F⟩:=p1 c;have:U=true:=by rw [q];simpa using j.2 c
  subst this;obtain⟨l,I,d,Z,N⟩:=Kz sx H m _ (by omega) E;obtain⟨r,K,p,Y,M⟩:=Kz true J A _ (by omega) o;have jl:=(Q.le (w:= -(u.tdiv (Int.gcd u v:Nat))) (by omega)).len N;have il:=(ly.le (w:= -(v.tdiv (Int.gcd u v:Nat))) (by omega)).len M;have x:=KE s y t w l I d (by omega);have z:=KF l (T.aa 1 false (ay d)) t (T.aa 1 B G) r K p (by omega);refine⟨l,false,d,r,false,p,aj ?_,by rw [q1];exact N,by rw [F];exact M⟩;rw [GO];simp only [ai,GD,O,R,S,Z,Y,x,L,z]
 .obtain⟨q1,F⟩:=p2 c;have:U=false:=by rw [q,decide_eq_false_iff_not];exact λh=>c (j.1 h)
  subst this;have x:=KE s y t w sx H m (by omega);have z:=KF sx (T.aa 1 false (ay m)) t (T.aa 1 B G) false J A (by omega);refine⟨sx,false,m,false,false,A,aj ?_,by rw [q1];exact E,by rw [F];exact o⟩;rw [GO];simp only [ai,GD,O,R,S,x,L,z]
open Go Go.Aev Go.Aev.Gen
theorem wr{q:Rat}{s e s' e':Bool}{d a:List Int}(h1:ch q.num s d)(b:ch (q.den:Int) s' a):WR q (T.ptr [tb s,T.aa 1 e (ay d),tb s',T.aa 1 e' (ay a)]):=⟨s,e,d,s',e',a,rfl,h1,b⟩
theorem vY(q:Rat):(-q).num= -q.num:=rfl
theorem vT(q:Rat):(-q).den=q.den:=rfl
theorem Th(q:Rat):(q.den:Int).sign=1:=Wh (by have:=q.den_pos;omega)
theorem zE{q:Rat}{x:T}(h:WR q x)(lq:LQ q):∃y,Or (.call 92) [AV.t x] []=some [y]/\WI q.num y:=by obtain⟨s,e,d,s',e',a,rfl,h1,b⟩:=h;have c:=lq.1.len h1;refine⟨pt s false d,aj ?_,wi h1⟩;rw [Cv];simp only [ai,GD,KG false (T.aJ true) s e d [tb s',T.aa 1 e' (ay a)] (by omega)]
theorem vg{q:Rat}{x:T}(h:WR q x)(lq:LQ q):∃y,Or (.call 93) [AV.t x] []=some [y]/\WI (q.den:Int) y:=by
 obtain⟨s,e,d,s',e',b,rfl,h1,c⟩:=h;have g:=lq.2.len c;have a:=El s' e' b [] _ c;rw [Th] at a;refine⟨pt s' false b,aj ?_,wi c⟩;rw [Og];have f:¬(1:Int)=0:=by omega
 simp only [ai,↓reduceIte,GD,a,f,pv false (T.aJ true) s' e' b (by omega)]
theorem vf{q:Rat}{x:T}(h:WR q x):Or (.call 37) [AV.t x] []=some [ti q.num.sign]:=by obtain⟨s,e,d,s',e',a,rfl,h1,b⟩:=h;refine aj ?_;rw [N4];simp only [ai,GD,El s e d _ _ h1]
theorem Dy(p q:Rat):Rat.divInt (p.num * q.num) ((p.den:Int) * (q.den:Int))=p * q:=by
 conv=>rhs;rw [<-W1 p,<-W1 q]
 rw [Rat.divInt_mul_divInt]
theorem BF(p q:Rat):Rat.divInt (p.num * (q.den:Int)+q.num * (p.den:Int)) ((p.den:Int) * (q.den:Int))=p+q:=by
 conv=>rhs;rw [<-W1 p,<-W1 q]
 rw [Rat.divInt_add_divInt _ _ (by have:=p.den_pos;omega) (by have:=q.den_pos;omega)]
theorem Rr(q:Rat):Rat.divInt (-q.num) (q.den:Int)= -q:=by
 conv=>rhs;rw [<-W1 q]
 rw [Rat.neg_divInt]
theorem rV(p q:Rat):(p.den:Int) * (q.den:Int)≠0:=by have h1:=p.den_pos;have a:=q.den_pos;exact Int.mul_ne_zero (by omega) (by omega)
abbrev z4:ab:=b4 false (T.aJ true) false (T.aJ true)
theorem zR:(T.aJ true).aU 1=some (true,[]):=df _ _
theorem P3{p q:Rat}{x y:T}(g:WR p x)(hy:WR q y)(f:LQ p)(lq:LQ q)(A:ct (p.num * q.num))(B:ct ((p.den:Int) * (q.den:Int))):
  pS (p * q) (Or (.call 46) [r0,AV.t x,AV.t y] [z4]):=by
 obtain⟨a,k,l⟩:=zE g f;obtain⟨b,m,n⟩:=zE hy lq;obtain⟨c,o,r⟩:=vg g f;obtain⟨d,s,u⟩:=vg hy lq;obtain⟨sm,em,I,C,D⟩:=ve false (T.aJ true) l n f.1 lq.1;obtain⟨K,w,J,E,F⟩:=ve false (T.aJ true) r u f.2 lq.2;obtain⟨G,v,i,H,e2,j,z,k2,h⟩:=zD false (T.aJ true) false (T.aJ true) true [] zR (wi (e:=em) D) (wi (e:=w) F) A B (rV p q);rw [Dy] at k2 h;obtain⟨_,_,_,_,_,_,rfl,_,_⟩:=g;obtain⟨_,_,_,_,_,_,rfl,_,_⟩:=hy;refine⟨G,v,i,H,e2,j,aj ?_,k2,h⟩;rw [y6];simp only [ai,GD,k,m,o,s,C,E,z]
theorem Ik{p q:Rat}{x y:T}(g:WR p x)(hy:WR q y)(f:LQ p)(lq:LQ q)(C:ct (p.num * (q.den:Int)))(D:ct (q.num * (p.den:Int)))(E:ct (p.num * (q.den:Int)+q.num * (p.den:Int)))
  (F:ct ((p.den:Int) * (q.den:Int))):pS (p+q) (Or (.call 47) [r0,AV.t x,AV.t y] [z4]):=by
 obtain⟨a,m,n⟩:=zE g f;obtain⟨b,o,h⟩:=vg hy lq;obtain⟨c,r,s⟩:=zE hy lq;obtain⟨d,u,i⟩:=vg g f;obtain⟨sm,em,Q,G,H⟩:=ve false (T.aJ true) n h f.1 lq.2;obtain⟨U,w,R,I,J⟩:=ve false (T.aJ true) s i lq.1 f.2;obtain⟨V,z,P,o1,K⟩:=ve false (T.aJ true) i h f.2 lq.2;obtain⟨st,A,S,N,O⟩:=P2 (e2:=em) H (wi (e:=w) J) C D;obtain⟨L,v,k,M,e2,l,B,k2,j⟩:=zD false (T.aJ true) false (T.aJ true) true [] zR (wi (e:=A) O) (wi (e:=z) K) E F (rV p q);rw [BF] at k2 j;obtain⟨_,_,_,_,_,_,rfl,_,_⟩:=g;obtain⟨_,_,_,_,_,_,rfl,_,_⟩:=hy;refine⟨L,v,k,M,e2,l,aj ?_,k2,j⟩;rw [N2];simp only [ai,GD,m,o,r,u,G,I,o1,N,B]
theorem LQ.neg{q:Rat}(h:LQ q):LQ (-q):=⟨h.1.le (by rw [vY];omega),h.2⟩
theorem P6{q:Rat}{x:T}(a:WR q x)(lq:LQ q):pS (-q) (Or (.call 95) [r0,AV.t x] [z4]):=by obtain⟨d,h,i⟩:=vg a lq;obtain⟨s,e,D,s',e',c,rfl,h1,r⟩:=a;have u:=lq.1.len h1;obtain⟨sm,em,p,l,m⟩:=SL false (T.aJ true) s e D [tb s',T.aa 1 e' (ay c)] _ (by omega) h1;obtain⟨n,j,f,o,e2,g,k,k2,b⟩:=zD false (T.aJ true) false (T.aJ true) true [] zR (wi (e:=em) m) i (lq.1.le (by omega)) lq.2 (by have:=q.den_pos;omega);rw [Rr] at k2 b;refine⟨n,j,f,o,e2,g,aj ?_,k2,b⟩;rw [Oh];simp only [ai,GD,h,l,k]
theorem P4{p q:Rat}{x y:T}(a:WR p x)(hy:WR q y)(r:LQ p)(lq:LQ q)(l:ct (p.num * (q.den:Int)))(m:ct (q.num * (p.den:Int)))(n:ct (p.num * (q.den:Int) - q.num * (p.den:Int)))
  (o:ct ((p.den:Int) * (q.den:Int))):pS (p - q) (Or (.call 48) [r0,AV.t x,AV.t y] [z4]):=by
 obtain⟨z,j,v,A,eb,w,f,g,h⟩:=P6 hy lq;have e0:(-q).num * (p.den:Int)= -(q.num * (p.den:Int)):=by rw [vY,YO]
 obtain⟨s,i,c,u,e2,d,k,k2,b⟩:=Ik a (wr (e:=j) (e':=eb) g h) r lq.neg (by rw [vT];exact l) (by rw [e0];exact m.le (by omega)) (by rw [e0,vT,<-Zp];exact n) (by rw [vT];exact o);rw [<-Zr] at k2 b;obtain⟨_,_,_,_,_,_,rfl,_,_⟩:=a;obtain⟨_,_,_,_,_,_,rfl,_,_⟩:=hy;refine⟨s,i,c,u,e2,d,aj ?_,k2,b⟩;rw [N3];simp only [ai,GD,f,k]
def lX(p q:Rat):Int:=(p - q).num.sign
theorem P1{p q:Rat}{x y:T}(a:WR p x)(hy:WR q y)(j:LQ p)(lq:LQ q)(f:ct (p.num * (q.den:Int)))(g:ct (q.num * (p.den:Int)))(h:ct (p.num * (q.den:Int) - q.num * (p.den:Int)))
  (i:ct ((p.den:Int) * (q.den:Int))):Or (.call 17) [AV.t x,AV.t y] []=some [ti (lX p q)]:=by
 obtain⟨m,b,k,n,e2,l,c,k2,d⟩:=P4 a hy j lq f g h i;have:=vf (wr (e:=b) (e':=e2) k2 d);obtain⟨_,_,_,_,_,_,rfl,_,_⟩:=a;obtain⟨_,_,_,_,_,_,rfl,_,_⟩:=hy;refine aj ?_;rw [NU];simp only [ai,GD,c,this];rfl
theorem nJ(n m:Int)(ln:Sm n)(c:Sm m)(hm:m≠0):∃x,Or (.call 36) [I n,I m] []=some [x]/\WR (Rat.divInt n m) x:=by obtain⟨a,d,f⟩:=qN n (by unfold Sm at ln;omega);obtain⟨b,g,h⟩:=qN m (by unfold Sm at c;omega);obtain⟨p,i,l,q,e2,o,j,k2,k⟩:=zD false (T.aJ true) false (T.aJ true) true [] zR f h ln.du c.du hm;refine⟨_,aj ?_,wr (e:=i) (e':=e2) k2 k⟩;rw [uO];simp only [ai,GD,d,g,j]
theorem zC(n m:Int)(ln:Sm n)(b:Sm m)(hm:m≠0):∃x,Or (.call 18) [AV.agg [I n,I m]] []=some [x]/\WR (Rat.divInt n m) x:=by obtain⟨x,a,k2⟩:=nJ n m ln b hm;refine⟨x,aj ?_,k2⟩;rw [N1];simp only [ai,GD,a]
theorem P0(n m:Int):∃b,Or (.call 34) [AV.agg [I n,I m]] []=some [tb b]/\(b=true↔(1<=m/\m<=1073741824/\ -1073741824<=n/\n<=1073741824/\Int.gcd n m=1)):=by
 by_cases hb:((m < 1\/m > 1073741824)\/n < -1073741824)\/n > 1073741824
 .refine⟨false,aj ?_,by simp;omega⟩;rw [yY];simp only [fu,<-Wf];simp only [ai,↓reduceIte,GD,hb]
 .obtain⟨a,f,g⟩:=qN n (by omega);obtain⟨b,i,j⟩:=qN m (by omega);obtain⟨c,k,l⟩:=qN 1 (by omega);obtain⟨sg,eg,dg,o,k2⟩:=Ij false (T.aJ true) g j (Sm.du (by unfold Sm;omega)) (Sm.du (by unfold Sm;omega));have p:Int.gcd n m<=m.natAbs:=Nat.le_of_dvd (by omega) (ZD n m);have d:=SO (wi (e:=eg) k2) l (Sm.du (by unfold Sm;omega)) (Sm.du (by unfold Sm;omega));refine⟨(bA ((Int.gcd n m:Nat):Int) 1==0),aj ?_, ?_⟩
  .rw [yY];simp only [fu,<-Wf];simp only [ai,↓reduceIte,GD,hb,f,i,k,o,d]
  .have:bA ((Int.gcd n m:Nat):Int) 1=0↔Int.gcd n m=1:=by
    unfold bA;split
    .constructor <;> intro h <;> omega
    .split <;> constructor <;> intro h <;> omega
   simp only [beq_iff_eq,this];omega
open Go Go.Aev Go.Aev.Gen
theorem Cg{u v:Int}(hv:v≠0):(Rat.divInt u v).num.natAbs<=u.natAbs/\(Rat.divInt u v).den<=v.natAbs:=by
 obtain⟨h1,c⟩:=Ch (u:=u) hv;have d:(u.tdiv (Int.gcd u v:Nat)).natAbs<=u.natAbs:=by rw [Za];exact Zb _ _
 have e:(v.tdiv (Int.gcd u v:Nat)).natAbs<=v.natAbs:=by rw [Za];exact Zb _ _
 by_cases h:v < 0
 .obtain⟨a,b⟩:=h1 h;constructor <;> omega
 .obtain⟨a,b⟩:=c h;constructor <;> omega
def QB(m:Nat)(q:Rat):Prop:=q.num.natAbs<=2 ^ m/\q.den<=2 ^ m
theorem R5(k:Nat):(4294967296:Int) ^ k= ((2 ^ (32 * k):Nat):Int):=by rw [Nat.pow_mul,Int.natCast_pow];rfl
theorem Qr{m k:Nat}{z:Int}(hm:m < 32 * k)(h:z.natAbs<=2 ^ m):(z.natAbs:Int) < 4294967296 ^ k:=by rw [R5 k];exact Int.ofNat_lt.2 (Nat.lt_of_le_of_lt h (Nat.pow_lt_pow_right (by omega) hm))
theorem kE{m:Nat}{z:Int}(hm:m<=6300)(h:z.natAbs<=2 ^ m):ct z:=Qr (by omega) h
theorem QB.lq{m:Nat}{q:Rat}(h:QB m q)(hm:m<=6300):LQ q:=⟨kE hm h.1,kE hm (by simpa using h.2)⟩
theorem QB.mono{m k:Nat}{q:Rat}(h:QB m q)(hm:m<=k):QB k q:=
 ⟨VU h.1 (XB (by omega) hm),VU h.2 (XB (by omega) hm)⟩
theorem gf{a b m k:Nat}(c:a<=2 ^ m)(hb:b<=2 ^ k):a * b<=2 ^ (m+k):=by rw [Nat.pow_add];exact YI c hb
theorem QB.mul{m k:Nat}{p q:Rat}(a:QB m p)(b:QB k q):QB (m+k) (p * q):=by
 rw [<-Dy];obtain⟨h1,c⟩:=Cg (u:=p.num * q.num) (rV p q);refine⟨VU h1 ?_,VU c ?_⟩
 .rw [VP];exact gf a.1 b.1
 .rw [VP,VE,VE];exact gf a.2 b.2
theorem yu{m k:Nat}{p q:Rat}(a:QB m p)(b:QB k q):(p.num * (q.den:Int)+q.num * (p.den:Int)).natAbs<=2 ^ (m+k+1):=by
 have h1:(p.num * (q.den:Int)).natAbs<=2 ^ (m+k):=by rw [VP,VE];exact gf a.1 b.2
 have c:(q.num * (p.den:Int)).natAbs<=2 ^ (m+k):=by rw [VP,VE,YX m k];exact gf b.1 a.2
 have d:=Int.natAbs_add_le (p.num * (q.den:Int)) (q.num * (p.den:Int));rw [Nat.pow_succ];omega
theorem QB.add{m k:Nat}{p q:Rat}(a:QB m p)(b:QB k q):QB (m+k+1) (p+q):=by rw [<-BF];obtain⟨h1,c⟩:=Cg (u:=p.num * (q.den:Int)+q.num * (p.den:Int)) (rV p q);refine⟨VU h1 (yu a b),VU c ?_⟩;rw [VP,VE,VE];exact VU (gf a.2 b.2) (XB (by omega) (by omega))
theorem QB.neg{m:Nat}{q:Rat}(h:QB m q):QB m (-q):=⟨by rw [vY,Zh];exact h.1,h.2⟩
theorem QB.sub{m k:Nat}{p q:Rat}(a:QB m p)(b:QB k q):QB (m+k+1) (p - q):=by rw [Zr];exact a.add b.neg
theorem QB.divInt{m:Nat}{u v:Int}(hv:v≠0)(h1:u.natAbs<=2 ^ m)(c:v.natAbs<=2 ^ m):QB m (Rat.divInt u v):=by obtain⟨a,b⟩:=Cg (u:=u) hv;exact⟨VU a h1,VU b c⟩
theorem Dt{m k:Nat}{p q:Rat}{x y:T}(c:WR p x)(hy:WR q y)(a:QB m p)(b:QB k q)(h:m+k<=6300):pS (p * q) (Or (.call 46) [r0,AV.t x,AV.t y] [z4])/\QB (m+k) (p * q):=by
 refine⟨P3 c hy (a.lq (by omega)) (b.lq (by omega)) (kE h ?_) (kE h ?_),a.mul b⟩
 .rw [VP];exact gf a.1 b.1
 .rw [VP,VE,VE];exact gf a.2 b.2
theorem BE{m k:Nat}{p q:Rat}{x y:T}(c:WR p x)(hy:WR q y)(a:QB m p)(b:QB k q)(h:m+k+1<=6300):pS (p+q) (Or (.call 47) [r0,AV.t x,AV.t y] [z4])/\QB (m+k+1) (p+q):=by
 refine⟨Ik c hy (a.lq (by omega)) (b.lq (by omega)) (kE (m:=m+k) (by omega) ?_) (kE (m:=k+m) (by omega) ?_) (kE h (yu a b)) (kE (m:=m+k) (by omega) ?_),a.add b⟩
 .rw [VP,VE];exact gf a.1 b.2
 .rw [VP,VE];exact gf b.1 a.2
 .rw [VP,VE,VE];exact gf a.2 b.2
theorem tq{m k:Nat}{p q:Rat}(a:QB m p)(b:QB k q):(p.num * (q.den:Int) - q.num * (p.den:Int)).natAbs<=2 ^ (m+k+1):=by have:=yu a b.neg;rw [vY,vT,YO,<-Zp] at this;exact this
theorem uD{m k:Nat}{p q:Rat}{x y:T}(c:WR p x)(hy:WR q y)(a:QB m p)(b:QB k q)(h:m+k+1<=6300):Or (.call 17) [AV.t x,AV.t y] []=some [ti (lX p q)]:=by
 refine P1 c hy (a.lq (by omega)) (b.lq (by omega)) (kE (m:=m+k) (by omega) ?_) (kE (m:=k+m) (by omega) ?_) (kE h (tq a b)) (kE (m:=m+k) (by omega) ?_)
 .rw [VP,VE];exact gf a.1 b.2
 .rw [VP,VE];exact gf b.1 a.2
 .rw [VP,VE,VE];exact gf a.2 b.2
theorem MP(p q:Rat):lX p q < 0↔p < q:=by
 unfold lX;have hs:(p - q).num.sign < 0↔(p - q).num < 0:=by
  rcases W6 (p - q).num 0 with h | h | h
  .rw [Wv h];omega
  .rw [h];simp
  .rw [Wh h];omega
 rw [hs];have a:(p - q).num < 0↔¬0<=(p - q).num:=by omega
 rw [a,X0,<-Rat.le_iff_sub_nonneg,Rat.not_le]
theorem oN(p q:Rat):lX p q=0↔p=q:=by
 unfold lX;rw [YC,Zc];constructor
 .intro h;grind
 .intro h;grind
abbrev Fr:=Int×Int
def fW(l:List Fr):List (List T):=l.map λx=> [ti x.1,ti x.2]
abbrev LN(e:Bool)(l:List Fr):AV:=AV.t (T.aa 2 e (fW l))
theorem cm(l:List Fr):(fW l).length=l.length:=by simp [fW]
theorem fi{l:List Fr}{i:Nat}{r:Fr}(h:l[i]? =some r):(fW l)[((i:Nat):Int).toNat]? =some [ti r.1,ti r.2]:=by simp [fW,h]
def bf(x:Fr):Prop:=1<=x.2/\x.2<=1073741824/\ -1073741824<=x.1/\x.1<=1073741824/\Int.gcd x.1 x.2=1
instance (x:Fr):Decidable (bf x):=by unfold bf;infer_instance
def aP(x:Fr):Rat:=Rat.divInt x.1 x.2
theorem sB{x:Fr}(h1: 1<=x.2/\x.2<=1073741824)(a: -1073741824<=x.1/\x.1<=1073741824):QB 30 (aP x):=QB.divInt (by omega) (by omega) (by omega)
def fE:List Int->List Fr->Rat->Rat
 | [],_,a=>a
 | c::of,x::xs,a=>fE of xs (a+aP x * Rat.divInt c 1)
 | _::_,[],a=>a
def im(x:Fr):Prop:=(1<=x.2/\x.2<=1073741824)/\ -1073741824<=x.1/\x.1<=1073741824
theorem bf.b{x:Fr}(h:bf x):im x:=⟨⟨h.1,h.2.1⟩,h.2.2.1,h.2.2.2.1⟩
theorem Rg(e B:Bool)(of:List Int)(d:List Fr)(hb:∀c∈of, -1000000<=c/\c<=1000000)(H:∀x∈d,im x)(hl:of.length<=d.length)(hn:of.length<=100):∀(f:List Int) (i m:Nat) (g:Rat) (v:T),of.drop i=f->WR g v->QB m g->m+51 * f.length<=6200->
  ∃y,Or xB [aa e of,LN B d,AV.t v,I (i:Int)] []=some [y]/\WR (fE f (d.drop i) g) y/\QB (m+51 * f.length) (fE f (d.drop i) g):=by
 intro f;induction f with
 | nil=>
  intro i m g v h hv n hm;have h1:¬(i:Int) < (of.length:Int):=by have:=bm h;omega
  refine⟨v,aj ?_,by simpa [fE] using hv,by simpa [fE] using n⟩;rw [GG];simp only [ai,↓reduceIte,GD,h1,bT]
 | cons c f J=>
  intro i m g v h hv n hm;obtain⟨o,g2,E⟩:=bh h;have h1:(i:Int) < (of.length:Int):=by omega
  have G:(i:Int) < (d.length:Int):=by omega
  have F: 0<=(i:Int):=by omega
  obtain⟨x,j⟩:∃x,d[i]? =some x:=⟨_,Vb (by omega)⟩;have l:=H x (U8 j);have V:=hb c (U8 o);unfold im at l;have r:d.drop i=x::d.drop (i+1):=by rw [W4 (by omega)];congr 1;rw [Vb (by omega)] at j;simpa using j
  obtain⟨a,s,u⟩:=zC x.1 x.2 (by unfold Sm;omega) (by unfold Sm;omega) (by omega);obtain⟨b,w,z⟩:=nJ c 1 (by unfold Sm;omega) (by unfold Sm;omega) (by omega);obtain⟨⟨s1,A,W,s2,e2,X,O,k2,P⟩,Q⟩:=Dt (m:=30) (k:=20) (p:=aP x) (q:=Rat.divInt c 1) u z (sB l.1 l.2) (QB.divInt (by omega) (by omega) (by omega)) (by omega);simp only [Vw] at hm;obtain⟨⟨t1,C,Y,t2,D,Z,K,L,M⟩,N⟩:=BE (m:=m) (k:=50) hv (wr (e:=A) (e':=e2) k2 P) n Q (by omega);obtain⟨y,R,S,U⟩:=J (i+1) (m+50+1) _ _ E (wr (e:=C) (e':=D) L M) N (by omega);refine⟨y,aj ?_,by rw [r,fE];exact S,by rw [r,fE,Vw];exact U.mono (by omega)⟩;rw [GG];simp only [ai,↓reduceIte,GD,h1,G,F,and_self,bT,cm,gy o,fi j,s,w,O,K,next i (by omega)];exact R
theorem Ay(e f:Bool)(of:List Int)(b:List Fr)(hb:∀c∈of, -1000000<=c/\c<=1000000)(k:∀x∈b,im x)(i:of.length<=b.length)(j:of.length<=100):
  ∃y,Or (.call 16) [aa e of,LN f b] []=some [y]/\WR (fE of b 0) y/\QB (51 * of.length) (fE of b 0):=by
 obtain⟨a,g,d⟩:=nJ 0 1 (by unfold Sm;omega) (by unfold Sm;omega) (by omega);have h:Rat.divInt 0 1=0:=by simp
 rw [h] at d;obtain⟨y,l,m,n⟩:=Rg e f of b hb k i j of 0 0 0 a rfl d ⟨by simp,by simp⟩ (by omega);refine⟨y,aj ?_,by simpa using m,by simpa using n⟩;rw [Co];simp only [ai,GD,g];exact l
end Go.Aev.Wd
