import Derived.Test.YticjdhgokemdlaaGreatMostTwiceQ9
set_option linter.all false
namespace Go.Aev.Wd
open Go Go.Aev Go.Aev.Gen Go.IntKind
def uy(X Y:Int)(L:Nat)(R:List T):Prop:= ∃a Q e2 Z,R= [T.aa 1 a (ax Q),T.aa 1 e2 (ax Z)]/\Dg Q/\Dg Z/\val Q=X / Y/\val Z=X % Y/\Q.length<=L/\Z.length<=L
theorem jk{b:Type}{l:List b}{n:Nat}(h:l.length=n+1):∃a x,l=a++ [x]/\a.length=n:=by
 rcases List.eq_nil_or_concat l with rfl | ⟨a,x,rfl⟩
 .simp at h
 .exact⟨a,x,by simp,by simpa using h⟩
def wU(s L:Nat)(V N0:Int)(n:Nat)(R:List T):Prop:= ∃b Q e2 Z a,R= [T.aa 1 b (ax Q),T.aa 1 e2 (ax Z)]/\Dg Q/\Dg Z/\Q.length=L/\Z.length=n/\0<=a/\a < V/\val Q * V+a=N0/\val Z=a / 2 ^ s
theorem U6(n:Nat):Dg (List.replicate n 0):=λa b=>by have:=WD b;omega
theorem US(s:Nat)(hs:s < 32)(ev v y:Bool)(b:List Int)(e c:Int)(hv:Dg (b++ [e,c]))(hvl:b.length<=400)(h1: 1<=c)(L:Nat)(N0:Int):∀(j:Nat) (C R hi i:List Int),C.length=j->j<=900->R.length=b.length+2->Dg C->Dg R->Dg i->val R < val (b++ [e,c])->j+i.length=L->
  val C+4294967296 ^ j * (val R+val (b++ [e,c]) * val i)=N0->Good (wU s L (val (b++ [e,c])) N0 (b.length+2)) (A5 s ev v y (b++ [e,c]) (C++ (R++hi)) (List.replicate j 0++i) ((j:Int) - 1)):=by
 have g:(b++ [e,c]).length=b.length+2:=by simp
 have K:val (b++ [e,c])=val b+4294967296 ^ b.length * e+4294967296 * (4294967296 ^ b.length * c):=by rw [eV];simp only [val];rw [VG,VU _ 4294967296];simp;omega
 have hv0:=eJ hv.left;have hv0':=fu hv.left;have V:=gI b.length;have F:=hv e (by simp);have dv1:=hv c (by simp);have hp1:(4294967296:Int) ^ b.length * 1<=4294967296 ^ b.length * c:=Vh h1 (by omega);have hp2: 0<=(4294967296:Int) ^ b.length * e:=Wh (by omega) F.1;have z: 0 < val (b++ [e,c]):=by omega
 have e1:(ax (b++ [e,c]))[(((b++ [e,c]).length - 1:Nat):Int).toNat]? =some [T.int .u32 c]:=by have:=fA (b++ [e]) c [] (b.length+1) (by simp);rw [g];simpa using this
 have e2:(ax (b++ [e,c]))[(((b++ [e,c]).length - 2:Nat):Int).toNat]? =some [T.int .u32 e]:=by have:=fA b e [c] b.length rfl;rw [g];simpa using this
 intro j;induction j with
 | zero=>
  intro C R hi i I hj t u B D hlt hL O;obtain rfl:=Vt.1 I;have h80:=Ta s hs v R B (by omega) (by omega);obtain⟨g1,g2,g3⟩:=Ei (gL s) (pB (n:=s) (by omega)) (gL (32 - s)) B;refine⟨_,al ?_,y,i,false,_,val R,rfl,D,g3,by omega,by rw [g2,t],eJ B,hlt,by
   simp only [val,Yr,Ww,Zb] at O;rw [<-O,Vw];omega,g1⟩
  rw [Hc];have c0:¬(((0:Nat):Int) - 1)>=0:=by omega
  have Z:bQ 0 ((b++ [e,c]).length:Int) ((([] ++ (R++hi)).length:Nat):Int)=some ():=by unfold bQ;rw [if_pos (by simp [t];omega)]
  have ht:(ax ([] ++ (R++hi))).take (((b++ [e,c]).length:Int).toNat - 0)=ax R:=by
   have hnn:((b++ [e,c]).length:Int).toNat - 0=R.length:=by rw [g,t];omega
   simp only [hnn,Vg,ax,W2];rw [Yl (by simp),V9 (by simp)]
  simp only [WW,Vg] at Z ht⊢;simp only [ai,↓reduceIte,Int.reduceBEq,Int.reduceEq,GD,c0,aM,Z,ht,h80]
 | succ j ih=>
  intro C R hi i I hj t u B D hlt hL O;obtain⟨d,x,rfl,A⟩:=jk I;obtain⟨w,top,hw,M⟩:=jk (l:=x::R) (n:=b.length+2) (by simp [t]);obtain⟨w1,f,rfl,hw1⟩:=jk M;obtain⟨k,h,rfl,m⟩:=jk hw1;have N:Dg (k++ [h] ++ [f] ++ [top]):=by rw [<-hw];exact Dg.append (a:= [x]) u.right B
  have dw:=N.left;have E:=N top (by simp);have du1:=N f (by simp);have U:=N h (by simp);have hw0:=eJ dw.left.left;have r:=fu dw.left.left;have H:d++ [x] ++ (R++hi)=d++ ((k++ [h] ++ [f])++top::hi):=by have: [x] ++R=k++ [h] ++ [f] ++ [top]:=hw;simp only [VJ] at this⊢;rw [<-VJ [x],this];simp
  have p:val (x::R)=val (k++ [h] ++ [f])+4294967296 ^ (b++ [e,c]).length * top:=by rw [hw,eV,g,M];simp [val]
  have S:val (k++ [h] ++ [f])=val k+4294967296 ^ b.length * h+4294967296 * (4294967296 ^ b.length * f):=by rw [VJ,eV,m];simp only [Vf,Vg,val];rw [VG,VU _ 4294967296];simp;omega
  have X:val (x::R)=val k+4294967296 ^ b.length * h+4294967296 * (4294967296 ^ b.length * (top * 4294967296+f)):=by
   rw [p,S,g,show(4294967296:Int) ^ (b.length+2)=4294967296 ^ b.length * (4294967296 * 4294967296) from by rw [X4];rfl];rw [VG (4294967296 ^ b.length) (top * 4294967296),VG 4294967296,<-VT (4294967296 ^ b.length) top 4294967296];have:(4294967296:Int) ^ b.length * (4294967296 * 4294967296) * top=4294967296 * (4294967296 ^ b.length * top * 4294967296):=by rw [Vw (4294967296 ^ b.length * top) 4294967296,<-VT 4294967296 4294967296,Vw (4294967296 ^ b.length),VT]
   omega
  have dx:=u x (by simp);have hUx:val (x::R)=x+4294967296 * val R:=rfl;have hR0:=eJ B;have W: 0<=val (x::R):=by omega
  have Y:val (x::R) < val (b++ [e,c]) * 4294967296:=by omega
  generalize o:val (x::R) / val (b++ [e,c])=q at *
  have J: 0<=q:=by rw [<-o];exact WO W (by omega)
  have hqB:q < 4294967296:=by rw [<-o];exact Yq z (by rw [Vw];exact Y)
  have hqV:q * val (b++ [e,c])<=val (x::R):=by rw [<-o];exact Zc _ (by omega)
  have hrep:List.replicate (j+1) (0:Int)++i=List.replicate d.length 0++0::i:=by rw [A,Yx,VJ];rfl
  have hg0:=IA V X K ⟨hw0,by rw [m] at r;exact r⟩ hv0 U.2 F.1 J hqV;have G: 0<=top * 4294967296+f:=by omega
  have hqt:q<=(top * 4294967296+f) / c:=by rw [Int.le_ediv_iff_mul_le (by omega)];exact hg0
  have hTle:(top * 4294967296+f) / c<=top * 4294967296+f:=YX _ G;have hrm0:=WL (top * 4294967296+f) (show c≠0 by omega);have hrm1:=Wj (top * 4294967296+f) (show 0 < c by omega);have hdm:=Wx (top * 4294967296+f) c;have hn2: 2<=(b++ [e,c]).length:=by omega
  have e3:(ax (d++ ((k++ [h] ++ [f])++top::hi)))[((d.length+ (b++ [e,c]).length - 2:Nat):Int).toNat]? =some [T.int .u32 h]:=by have:=fA (d++k) h ([f] ++top::hi) (d.length+ (b++ [e,c]).length - 2) (by simp [m];try omega);simpa using this
  have e4:(ax (d++ ((k++ [h] ++ [f])++top::hi)))[((d.length+ (b++ [e,c]).length - 1:Nat):Int).toNat]? =some [T.int .u32 f]:=by have:=fA (d++k++ [h]) f (top::hi) (d.length+ (b++ [e,c]).length - 1) (by simp [m];try omega);simpa using this
  have e5:(ax (d++ ((k++ [h] ++ [f])++top::hi)))[((d.length+ (b++ [e,c]).length:Nat):Int).toNat]? =some [T.int .u32 top]:=by have:=fA (d++k++ [h] ++ [f]) top hi (d.length+ (b++ [e,c]).length) (by simp [m];try omega);simpa using this
  have Q:((d++ ((k++ [h] ++ [f])++top::hi)).length:Int)= ((d.length+b.length+3+hi.length:Nat):Int):=by simp [m];omega
  have P:=QO s d.length ev v y (b++ [e,c]) (d++ ((k++ [h] ++ [f])++top::hi)) (List.replicate d.length 0++0::i) (wU s L (val (b++ [e,c])) N0 (b.length+2)) (by omega) (by omega) hn2 (by simp [m] <;> omega) e1 e2 e3 V X K ⟨hw0,by rw [m] at r;exact r⟩ ⟨hv0,hv0'⟩ U F ⟨h1,dv1.2⟩ W Y z o.symm
   (λq' a1 a2 a3 a4=>Np s ev v y (b++ [e,c]) d hi hv (by omega) (by omega) (k++ [h] ++ [f]) top dw (by rw [g];exact M) E z i _ q (by rw [<-o,p]) q' a1 a2 ⟨a3,a4⟩ J (λR' d1 d2 d3=>by
    have:=ih d R' (0::hi) (q::i) A (by omega) (by rw [d2,g]) u.left d1 (λa ha=>by
     rcases Vo.1 ha with rfl | ha
     .exact⟨J,hqB⟩
     .exact D a ha) (by rw [d3];exact Wj _ z) (by simp;omega) (by
     rw [<-p] at d3;have hdv:=Wx (val (x::R)) (val (b++ [e,c]));rw [o] at hdv;have key:val R'+val (b++ [e,c]) * val (q::i)=x+4294967296 * (val R+val (b++ [e,c]) * val i):=by rw [show val (q::i)=q+4294967296 * val i from rfl,d3,VG,VG 4294967296,VU _ 4294967296];omega
     rw [<-O,eV d [x],A,key,show val [x]=x from by simp [val],Xh,VT,Int.add_assoc,<-VG])
    rw [<-A] at this;exact this))
   4294967296 ((top * 4294967296+f) / c) ((top * 4294967296+f) % c) (by omega) (by rw [Vw];exact hdm) (by omega) hqt (by omega)
  have c0:((j+1:Nat):Int) - 1>=0:=by omega
  have cj:((j+1:Nat):Int) - 1= (d.length:Int):=by omega
  have or1:=nT E du1;have x1:u64.wrap c=c:=bf (by omega);have x2:u64.wrap top=top:=bf (by omega);have x3:(top * 4294967296+f).tdiv c= (top * 4294967296+f) / c:=Wg G;have x4:(top * 4294967296+f).tmod c= (top * 4294967296+f) % c:=Wo G;have x5:u64.wrap ((top * 4294967296+f) / c)= (top * 4294967296+f) / c:=bf (by omega);have nz:¬c=0:=by omega
  have w3:i64.wrap (((b++ [e,c]).length:Int) - 1)= (((b++ [e,c]).length - 1:Nat):Int):=by rw [Go.Aev.wr (by omega)];omega
  have w2':i64.wrap (((d.length+ (b++ [e,c]).length:Nat):Int) - 1)= ((d.length+ (b++ [e,c]).length - 1:Nat):Int):=by rw [Go.Aev.wr (by omega)];omega
  have b1: 0<=((d.length+ (b++ [e,c]).length:Nat):Int)/\((d.length+ (b++ [e,c]).length:Nat):Int) < ((d.length+b.length+3+hi.length:Nat):Int):=by omega
  have b2: 0<=((d.length+ (b++ [e,c]).length - 1:Nat):Int)/\((d.length+ (b++ [e,c]).length - 1:Nat):Int) < ((d.length+b.length+3+hi.length:Nat):Int):=by omega
  have b3: 0<=(((b++ [e,c]).length - 1:Nat):Int)/\(((b++ [e,c]).length - 1:Nat):Int) < ((b++ [e,c]).length:Int):=by omega
  rw [H,hrep,cj];refine P.step λR t=>al ?_;rw [Hc];have c1:(d.length:Int)>=0:=by omega
  simp only [ai,↓reduceIte,Int.reduceBEq,Int.reduceEq,GD,c1,aM,ad d.length (b++ [e,c]).length (by omega),Q,b1,b2,b3,and_self,e5,e4,e1,w2',w3,x1,x2,or1,nz,x3,x4,x5];exact t
theorem w4(j l:Bool)(x:List Int)(b:Int)(z:Dg x)(K:x.length<=900)(hb: 0 < b/\b < 4294967296):∀(k:Nat) (r:Int) (c:List Int),k<=x.length->0<=r/\r < b->
  ∃Q R,Or xD [lu j x,lu l [b],o0,u6 r,I ((k:Int) - 1)] [ab.sl false 1 false (ax (List.replicate k 0++c))]=some [T.aa 1 false (ax (Q++c)),T.aa 1 false (ax [R])]/\Q.length=k/\Dg Q/\0<=R/\R < b/\val Q * b+R=val (x.take k)+4294967296 ^ k * r
 | 0,r,c,J,h=>by
  refine⟨[],r,al ?_,rfl,(by intro a e;cases e),h.1,h.2,by simp [val]⟩;rw [Hd];have g:¬(((0:Nat):Int) - 1)>=0:=by omega
  have A:u32.wrap r=r:=by rw [cF];omega
  simp only [ai,↓reduceIte,Int.reduceBEq,Int.reduceEq,GD,g,A];rfl
 | k+1,r,c,J,h=>by
  have d:k < x.length:=by omega
  have e: 0<=aN x k/\aN x k < 4294967296:=by
   have:aN x k∈x:=by simp only [aN,U9,Vd d,VD];exact WT d
   exact z _ this
  have f: 0<=r * 4294967296+aN x k:=by omega
  have t: 0<=(r * 4294967296+aN x k) / b:=WO f (by omega);have u:(r * 4294967296+aN x k) / b < 4294967296:=by rw [W4 hb.1];have:(r+1) * 4294967296<=b * 4294967296:=VA (by omega) (by decide);rw [Vw 4294967296 b];omega
  have w:=WL (r * 4294967296+aN x k) (show b≠0 by omega);have y:=Wj (r * 4294967296+aN x k) hb.1;have q:=Wx (r * 4294967296+aN x k) b;obtain⟨Q,R,h1,m,F,G,H,U⟩:=w4 j l x b z K hb k ((r * 4294967296+aN x k) % b) ((r * 4294967296+aN x k) / b::c) (by omega) ⟨w,y⟩;refine⟨Q++ [(r * 4294967296+aN x k) / b],R,al ?_,by simp [m],Dg.append F (by intro a e;simp at e;subst e;exact⟨t,u⟩),G,H, ?_⟩
  .rw [Hd];have g:((k+1:Nat):Int) - 1= (k:Int):=by omega
   have B:(k:Int)>=0:=by omega
   have C: 0<=(k:Int)/\(k:Int) < (x.length:Int):=by omega
   have i:List.replicate (k+1) (0:Int)++c=List.replicate k 0++0::c:=by rw [Yx,VJ];rfl
   have D: 0<=(k:Int)/\(k:Int) < ((List.replicate k (0:Int)++0::c).length:Int):=by simp;omega
   have s:=nT (v:=r) (n:=aN x k) (by omega) e;have N:u64.wrap b=b:=bf (by omega);have O:(r * 4294967296+aN x k).tdiv b= (r * 4294967296+aN x k) / b:=Wg f;have P:(r * 4294967296+aN x k).tmod b= (r * 4294967296+aN x k) % b:=Wo f;have S:u32.wrap (u64.wrap ((r * 4294967296+aN x k) / b))= (r * 4294967296+aN x k) / b:=by rw [bf (by omega),cF];omega
   have L:¬b=0:=by omega
   have o:(0:Int)<=0/\(0:Int) < (([b]:List Int).length:Int):=by simp
   have p:(ax [b])[(0:Nat)]? =some [T.int .u32 b]:=rfl;have M:i64.wrap ((k:Int) - 1)= (k:Int) - 1:=Go.Aev.wr (by omega);rw [g,i];simp only [ai,↓reduceIte,Int.reduceBEq,Int.reduceEq,GD,B,C,aM,bD d,s,N,O,P,S,L,o,p,D,and_self,fp (List.replicate k 0) 0 _ c k (by simp),M];rw [show Q++ [(r * 4294967296+aN x k) / b] ++c=Q++ (r * 4294967296+aN x k) / b::c from by simp];exact h1
  .rw [eV,m,ow d,Xh,Xs];simp only [val,XB,W8];have E: 4294967296 ^ k * ((r * 4294967296+aN x k) / b) * b=4294967296 ^ k * (b * ((r * 4294967296+aN x k) / b)):=by
    rw [VT,Vw _ b]
   have e2:(4294967296:Int) ^ k * (r * 4294967296+aN x k)=4294967296 ^ k * (b * ((r * 4294967296+aN x k) / b))+4294967296 ^ k * ((r * 4294967296+aN x k) % b):=by rw [<-VG,q]
   have e3:(4294967296:Int) ^ k * (r * 4294967296+aN x k)=4294967296 ^ k * 4294967296 * r+4294967296 ^ k * aN x k:=by rw [VG,VT,Vw r]
   rw [E];omega
structure Bb (s:Nat) (x y UU VV:List Int) (V2:List Int) (w2 w1:Int):Prop where
 hs:s < 32
 vv:VV=V2++ [w2] ++ [w1] ++ [0]
 dV:Dg (V2++ [w2,w1])
 h1: 1<=w1
 L5:val (V2++ [w2,w1])=val y * 2 ^ s
 ly:y.length=V2.length+2
 ge: 4294967296 ^ (V2.length+1)<=val y
 dU:Dg UU
 Az:val UU=val x * 2 ^ s
 lu:UU.length=x.length+1
theorem Qs{s:Nat}{x y b J c:List Int}{e d:Int}(ld:Bb s x y b J c e d)(T:Dg x)(W:x.length<=400)(X:c.length+2<=x.length):
  ∃j:Nat,j+ (c.length+2)=x.length+1/\Good (uy (val x) (val y) (x.length+1)) (A5 s false false false (c++ [e,d]) b (List.replicate b.length 0) ((j:Int) - 1)):=by
 have C:=gL s;have o:=fu T;obtain⟨j,B⟩:∃j:Nat,j+ (c.length+2)=x.length+1:=⟨x.length+1 - (c.length+2),by omega⟩;refine⟨j,B, ?_⟩;have g:=ld.lu;have k:b=b.take j++ (b.drop j++ []):=by simp
 have A:(b.drop j).length=c.length+2:=by simp [g];omega
 have i:(b.take j).length=j:=by simp [g];omega
 have N:=eV (b.take j) (b.drop j);rw [Yp,i] at N;have K:Dg (b.drop j):=λa O=>ld.dU a (W1 O);have u:=ld.dU.take j;have f:=ld.L5;have n:val (b.drop j) < val (c++ [e,d]):=by
  rcases Wy (val (b.drop j)) (val (c++ [e,d])) with h | h
  .exact h
  .exfalso;have h1:(4294967296:Int) ^ j * val (c++ [e,d])<=4294967296 ^ j * val (b.drop j):=Vh h (Wu (gI _));have Y:=eJ u;have h3:val x * (2:Int) ^ s < 4294967296 ^ x.length * 2 ^ s:=Xy o C;have L:(4294967296:Int) ^ (c.length+1) * 2 ^ s<=val y * 2 ^ s:=VA ld.ge (by omega);have M:(4294967296:Int) ^ j * (4294967296 ^ (c.length+1) * 2 ^ s)<=4294967296 ^ j * val (c++ [e,d]):=by
    rw [f];exact Vh L (Wu (gI _))
   rw [<-VT,<-X4,show j+ (c.length+1)=x.length from by omega] at M;have:=ld.Az;omega
 have l:=US s ld.hs false false false c e d ld.dV (by omega) ld.h1 (x.length+1) (val b) j (b.take j) (b.drop j) [] (List.replicate (c.length+2) 0) i (by omega) A u K (U6 _) n (by simp;omega) (by rw [AB,XB,W8];omega);rw [<-k,Ya,B,<-g] at l;obtain⟨R,r1,v,Q,w,Z,t,rfl,q1,H,q3,q4,q5,p,U,V⟩:=l;have z: 0 < val y:=by have:=gI (c.length+1);have:=ld.ge;omega
 have I:val x * 2 ^ s=val Q * (val y * 2 ^ s)+t:=by rw [<-ld.Az,<-f];exact U.symm
 have m:t= (val x - val Q * val y) * 2 ^ s:=by rw [YT,VT];omega
 have D:val Z=val x - val Q * val y:=by rw [V,m,Int.mul_ediv_cancel _ (by omega)]
 have E:val Z < val y:=by rw [f] at p;rw [m,<-D] at p;exact YC p (by omega)
 have F:=eJ H;have S:=Yy z (a:=val x) (q:=val Q) (r:=val Z);obtain⟨P,G⟩:=S.2 ⟨by rw [Vw];omega,F,E⟩;exact⟨_,r1,v,Q,w,Z,rfl,q1,H,P.symm,G.symm,by omega,by omega⟩
theorem IQ{x y':List Int}{b a:Int}(Q:Dg x)(hy:Dg (y'++ [b,a]))(h1: 1<=a)(s:Nat)(hs:s < 32)(u:a * 2 ^ s < 4294967296):
  ∃g X W,g.length=y'.length/\Bb s x (y'++ [b,a]) (eI (2 ^ s) x 0) (eI (2 ^ s) (y'++ [b,a]) 0) g X W:=by
 have p:(y'++ [b,a]).length=y'.length+2:=by simp
 have m:=gL s;have w:=pB (n:=s) (by omega);obtain⟨V,L,r⟩:=wz m w (x:=y'++ [b,a]) (c:=0) hy ⟨Yh _,m⟩;obtain⟨K,T,U⟩:=wz m w (x:=x) (c:=0) Q ⟨Yh _,m⟩;generalize eI (2 ^ s) (y'++ [b,a]) 0=M at *
 generalize eI (2 ^ s) x 0=UU at *
 rw [W8] at V K;have v:=eV y' [b,a];have R:=fu hy.left;have hy2:=hy b (by simp);have hy1:=hy a (by simp);have hPp:=gI y'.length;obtain⟨A,q,rfl,o⟩:=jk (l:=M) (n:=y'.length+2) (by rw [L,p]);have Y:=r q (by simp);have t:=eV A [q];rw [o] at t;simp only [val,XB,W8] at t v;have O:=eJ r.left;have C:val (y'++ [b,a]) * 2 ^ s < 4294967296 ^ (y'.length+2):=by
  have E:val (y'++ [b,a])<=4294967296 ^ (y'.length+1) * (a+1) - 1:=by
   have H:=fu (d:=y'++ [b]) (by
    have:y'++ [b,a]= (y'++ [b])++ [a]:=by simp
    rw [this] at hy;exact hy.left)
   have e:=eV (y'++ [b]) [a];rw [show(y'++ [b])++ [a]=y'++ [b,a] from by simp] at e;simp only [val,XB,W8,Ws,Vy,VS,VP] at e H;rw [VG,Yi];omega
  have y:(a+1) * (2:Int) ^ s<=4294967296:=by rw [w] at u⊢;have:a < 2 ^ (32 - s):=YC u (by omega);exact VA (by omega) (by omega)
  have hpp:=gI (y'.length+1);have S:val (y'++ [b,a]) * (2:Int) ^ s<=(4294967296 ^ (y'.length+1) * (a+1) - 1) * 2 ^ s:=VA E (by omega);have m2:(4294967296:Int) ^ (y'.length+1) * ((a+1) * 2 ^ s)<=4294967296 ^ (y'.length+1) * 4294967296:=Vh y (by omega);rw [YT,Ww,VT] at S;rw [show y'.length+2=y'.length+1+1 from rfl,Xh 4294967296 (y'.length+1)];omega
 have I:q=0:=by
  rcases Wy 0 q with h | h
  .exfalso;have:(4294967296:Int) ^ (y'.length+2) * 1<=4294967296 ^ (y'.length+2) * q:=Vh (by omega) (Wu (gI _));omega
  .omega
 subst I;have j:val A=val (y'++ [b,a]) * 2 ^ s:=by omega
 obtain⟨V1,i,rfl,B⟩:=jk o;obtain⟨g,f,rfl,k⟩:=jk B;have G:g++ [f] ++ [i]=g++ [f,i]:=by simp
 rw [G] at j r o;have dV:=r.left;have z: 4294967296 ^ (y'.length+1)<=val (y'++ [b,a]):=by rw [v,Xh];have:(4294967296:Int) ^ y'.length * (4294967296 * 1)<=4294967296 ^ y'.length * (b+4294967296 * a):=Vh (by omega) (by omega);have:=eJ hy.left;omega
 have F: 1<=(2:Int) ^ s:=by omega
 have P: 4294967296 ^ (y'.length+1)<=val (g++ [f,i]):=by rw [j];have:val (y'++ [b,a]) * 1<=val (y'++ [b,a]) * 2 ^ s:=Vh F (by have:=gI (y'.length+1);omega);omega
 have J: 1<=i:=by
  have Z:=dV i (by simp);rcases Wy i 1 with h | h
  .exfalso;have N:i=0:=by omega
   subst N;have e:=eV (g++ [f]) [(0:Int)];have D:=fu (d:=g++ [f]) (by
    have:g++ [f,(0:Int)]= (g++ [f])++ [0]:=by simp
    rw [this] at dV;exact dV.left)
   rw [show g++ [f] ++ [(0:Int)]=g++ [f,0] from by simp] at e;simp only [val,XB,W8,Ws,Vy,VS,k,VP] at e D;omega
  .exact h
 exact⟨g,f,i,k,hs,rfl,dV,J,j,by rw [p,k],by rw [k];exact z,U,K,T⟩
theorem Jj(p q:Bool)(x y':List Int)(b a:Int)(l:Dg x)(hy:Dg (y'++ [b,a]))(h1: 1<=a)(o:x.length<=400)(K:y'.length+2<=x.length):∀(m s:Nat),s+m=32->s < 32->a * 2 ^ s < 4294967296->
  Good (uy (val x) (val (y'++ [b,a])) (x.length+1)) (Or xB [lu p x,lu q (y'++ [b,a]),I (s:Int)] [])
 | 0,s,hm,hs,_=>by omega
 | m+1,s,hm,hs,H=>by
  have t:(y'++ [b,a]).length=y'.length+2:=by simp
  have z:(ax (y'++ [b,a]))[(((y'.length+1:Nat):Int)).toNat]? =some [T.int .u32 a]:=by have:=fA (y'++ [b]) a [] (y'.length+1) (by simp);simpa using this
  have O:i64.wrap (((y'++ [b,a]).length:Int) - 1)= ((y'.length+1:Nat):Int):=by rw [Go.Aev.wr (by omega)];omega
  have y: 0<=((y'.length+1:Nat):Int)/\((y'.length+1:Nat):Int) < ((y'++ [b,a]).length:Int):=by omega
  have M:min ((s:Int)).toNat 32=s:=by simp;omega
  have N:¬(s:Int) < 0:=by omega
  have W:=gL s;have X: 0<=a * (2:Int) ^ s:=Wh (by omega) (by omega);have P:u32.wrap (a * (2:Int) ^ s)=a * 2 ^ s:=by rw [cF];omega
  have g:(a * (2:Int) ^ s).fdiv ((2:Int) ^ 31)=a * 2 ^ s / 2147483648:=by rw [show((2:Int) ^ 31)=2147483648 from by decide,Wf _ (by omega)]
  by_cases hz:a * (2:Int) ^ s / 2147483648=0
  .have E:(2:Int) ^ (s+1)=2 ^ s * 2:=Xh 2 s;have u:a * (2:Int) ^ (s+1) < 4294967296:=by rw [E,<-VT];omega
   have G:s+1 < 32:=by
    rcases Xr (s+1) 32 with h | h
    .exact h
    .exfalso;have:s=31:=by omega
     subst this;have S:((2:Int) ^ 31)=2147483648:=by decide
     rw [S] at hz;omega
   refine(Jj p q x y' b a l hy h1 o K m (s+1) (by omega) G u).step λR r=>al ?_;rw [Hb];simp only [ai,↓reduceIte,Int.reduceBEq,Int.reduceEq,GD,aM,O,y,and_self,z,M,N,P,g,hz,nx s (by omega)];exact r
  .obtain⟨e,d,c,i,ld⟩:=IQ l hy h1 s hs H;obtain⟨j,Y,Q⟩:=Qs ld l o (by omega);have k:=KX s hs q (y'++ [b,a]) hy (by omega);have w:=KX s hs p x l (by omega);rw [ld.vv] at k;have V:=ld.lu;generalize eI (2 ^ s) x 0=f at *
   refine Q.step λR r=>al ?_;have F:e++ [d] ++ [c]=e++ [d,c]:=by simp
   have A:bQ 0 ((y'++ [b,a]).length:Int) ((e++ [d] ++ [c] ++ [0]).length:Int)=some ():=by unfold bQ;rw [if_pos (by simp [i];omega)]
   have C:br (f.length:Int) (f.length:Int)=some ():=by unfold br dY;rw [if_pos (by omega)]
   have J:List.take (((y'++ [b,a]).length:Int).toNat - 0) (ax (e++ [d] ++ [c] ++ [0]))=ax (e++ [d,c]):=by
    have D:((y'++ [b,a]).length:Int).toNat - 0= (e++ [d,c]).length:=by rw [t];simp only [Ws,Vy,VS,i];omega
    simp only [D,F,ax,W2];rw [Yl (by simp),V9 (by simp)]
   have U:i64.wrap (i64.wrap ((f.length:Int) - ((y'++ [b,a]).length:Int)) - 1)= (j:Int) - 1:=by rw [Go.Aev.wr (v:=(f.length:Int) - _) (by omega),Go.Aev.wr (by omega)];omega
   have L:List.replicate ((f.length:Int)).toNat [T.int u32 (0:Int)]=ax (List.replicate f.length 0):=by simp [ax]
   have B:((e++ [d,c]).length:Int)= ((y'++ [b,a]).length:Int):=by simp [i]
   have n:Or rW [I (s:Int),I ((e++ [d,c]).length:Int),lu false (e++ [d,c]),o0,o1,I ((j:Int) - 1)] (U2 false false f (List.replicate f.length 0))=some R:=r;rw [B] at n;rw [Hb];simp only [ai,↓reduceIte,Int.reduceBEq,Int.reduceEq,GD,aM,O,y,and_self,z,M,N,P,g,hz,k,w,A,C,J,U,L];exact n
theorem S9(j k:Bool)(x y:List Int)(o:Dg x)(hy:Dg y)(m:Can y)(i:y≠[])(w:x.length<=400)(M:val y<=val x):Good (uy (val x) (val y) (x.length+1)) (Or (.call 149) [lu j x,lu k y] []):=by
 have A:=sd hy m i;have e:y.length<=x.length:=by
  rcases Xr x.length y.length with h | h
  .have:=mU o hy m h;omega
  .exact h
 by_cases h1:(y.length:Int)=1
 .match y,h1 with
  | [b],_=>
   have hb:=hy b (by simp);have d: 0 < b:=by simpa [val] using A
   obtain⟨Q,R,C,k2,H,I,J,K⟩:=w4 j k x b o (by omega) ⟨d,hb.2⟩ x.length 0 [] (by omega) ⟨by omega,d⟩;rw [XE,XB,W8] at K;rw [We,We] at C;have g:val [b]=b:=by simp [val]
   have G:=Yy d (a:=val x) (q:=val Q) (r:=R);obtain⟨q1,P⟩:=G.2 ⟨by rw [Vw];omega,I,J⟩;refine⟨_,al ?_,false,Q,false,[R],rfl,H,(by intro a t;simp at t;subst t;omega),by rw [g];exact q1.symm,by rw [g];simp [val];omega,by omega,by simp⟩;rw [Ha];have u:br (x.length:Int) (x.length:Int)=some ():=by unfold br dY;rw [if_pos (by omega)]
   have L:i64.wrap ((x.length:Int) - 1)= (x.length:Int) - 1:=Go.Aev.wr (by omega);have B:List.replicate ((x.length:Int)).toNat [T.int u32 (0:Int)]=ax (List.replicate x.length 0):=by simp [ax]
   have s:(([b]:List Int).length:Int)=1:=by simp
   simp only [ai,↓reduceIte,Int.reduceBEq,Int.reduceEq,GD,aM,s,u,L,B];exact C
 .have E: 2<=y.length:=by have:=XO.2 i;omega
  obtain⟨D,c,rfl,N⟩:=jk (l:=y) (n:=y.length - 1) (by omega);obtain⟨y',f,rfl,O⟩:=jk (l:=D) (n:=D.length - 1) (by simp at E;omega);have v:y'++ [f] ++ [c]=y'++ [f,c]:=by simp
  have z: 1<=c:=by
   have:=m (y'.length+1) (by simp);rw [show aN (y'++ [f] ++ [c]) (y'.length+1)=c from by
    have:=sv (y'++ [f]) c [] (y'.length+1) (by simp);simpa using this] at this
   have:=hy c (by simp);omega
  have p:=hy c (by simp);rw [v] at hy e h1⊢;refine(Jj j k x y' f c o hy z w (by simpa using e) 32 0 rfl (by omega) (by simpa using p.2)).step λR F=>al ?_;rw [Ha];simp only [ai,↓reduceIte,Int.reduceBEq,Int.reduceEq,GD,aM,h1];exact F
open Go Go.Aev Go.Aev.Gen
theorem Kq{z w:Int}{s t:Bool}{d a:List Int}(h:ch z s d)(b:ch w t a)(hz:z.natAbs<=w.natAbs):d.length<=a.length:=DP h a.length (by
 have:=fu b.dg;rw [re b] at this;omega)
def E0(z m:Int)(r:Option (List T)):Prop:= ∃s e d s' e' a,r=some [T.aw,T.aw,tb s,T.aa 1 e (ax d),tb s',T.aa 1 e' (ax a)]/\ch z s d/\ch m s' a
theorem KU(s:Bool)(y:T)(d e2 f e3 p:Bool)(q:T)(a b:List Int)(u v:Int)(e:ch u d a)(hb:ch v f b)(I:a.length<=400)(lb:b.length<=400)(hv:v≠0):
  E0 (u.tdiv v) (u.tmod v) (Or (.call 139) [r0,AV.t (T.ptr [tb d,T.aa 1 e2 (ax a)]),AV.t (T.ptr [tb f,T.aa 1 e3 (ax b)]),AV.ref (Id.c 1) 0] [ab.box [AV.t (T.bool s),AV.t y],ab.box [AV.t (T.bool p),AV.t q]]):=by
 have j:=Ec a b d e2 f e3 e.dg hb.dg e.can hb.can (by omega) (by omega);have m:=eJ e.dg;have x:=Kr hb hv;obtain⟨i,hm⟩:=JP f d (val a) (val b) m x;have n:=e.z;have k:=hb.z;unfold num at n k;rw [n,k] at i hm;by_cases g:val a < val b
 .have l:cf (val a) (val b) < 0:=by unfold cf;rw [if_pos g];omega
  obtain⟨s',e',C,o,k2,B⟩:=Eb s y 0 (by omega);rw [YS m g] at i;rw [ZC m g,n] at hm;refine⟨s',e',C,d,false,a,al ?_, ?_,by rw [hm];exact e⟩
  .rw [yR];simp only [ai,↓reduceIte,Int.reduceBEq,Int.reduceEq,GD,j,l,pH p q d e2 a (by omega),o]
  .rw [i];simpa using k2
 .have H:b.length<=a.length:=by
   rcases Xr a.length b.length with h | h
   .have:=mU e.dg hb.dg hb.can h;omega
   .exact h
  by_cases G:(a.length:Int) < 3
  .obtain⟨M,F,E,sm,em,D,o,k2,B,_,_⟩:=KT s y d e2 f e3 p q a b u v e hb (by omega) (by omega) hv;exact⟨M,F,E,sm,em,D,o,k2,B⟩
  .have l:¬cf (val a) (val b) < 0:=by unfold cf;rw [if_neg g];split <;> omega
   have A:b≠[]:=by intro h;subst h;simp [val] at x
   obtain⟨R,r1,r,Q,w,Z,rfl,q1,J,K,L,P,S⟩:=S9 e2 e3 a b e.dg hb.dg hb.can A I (by omega);have N:=lB (!d==f) r Q (by omega);have O:=lB d w Z (by omega);refine⟨(!d==f) && decide (bH Q≠[]),r,bH Q,d && decide (bH Z≠[]),w,bH Z,al ?_,pP (s:= !d==f) q1 ?_,pP (s:=d) J ?_⟩
   .rw [yR];simp only [ai,↓reduceIte,Int.reduceBEq,Int.reduceEq,GD,j,l,aM,G,r1,N,O]
   .rw [i];unfold num;rw [K]
   .rw [hm];unfold num;rw [L]
theorem SW(s:Bool)(y:T)(m e2 e e3 C:Bool)(H:T)(a b:List Int)(u v:Int)(l:ch u m a)(hb:ch v e b)(W:a.length<=390)(lb:b.length<=390)(hv: 0 < v):
  E0 (u / v) (u % v) (Or (.call 138) [r0,AV.t (T.ptr [tb m,T.aa 1 e2 (ax a)]),AV.t (T.ptr [tb e,T.aa 1 e3 (ax b)]),AV.ref (Id.c 1) 0] [ab.box [AV.t (T.bool s),AV.t y],ab.box [AV.t (T.bool C),AV.t H]]):=by
 have h:=pH false (T.aK true) e e3 b (by omega);obtain⟨E,r,o,sm,em,k,A,k2,d⟩:=KU s y m e2 e e3 C H a b u v l hb (by omega) (by omega) (by omega);have x:=th hb;have:e=false:=by rw [x];simp;omega
 subst this;have i:=th d;obtain⟨J,K⟩:=Ly (u:=u) hv;have S:=Kq k2 l (by rw [Zd];exact Ze _ _);have R:=Kq d l (by rw [Int.natAbs_tmod];exact Nat.mod_le _ _);by_cases f:u.tmod v < 0
 .have:sm=true:=by rw [i];simpa using f
  subst this;obtain⟨q1,g⟩:=J f;obtain⟨G,L,M⟩:=Ac 1 (by omega);obtain⟨s',e',I,rfl,z⟩:=M;have V:=tn z (by omega);obtain⟨F,w,p,N,B,X⟩:=KJ E r s' e' o I _ _ k2 z (by omega) (by omega);obtain⟨U,Q,P,Y,O,Z⟩:=wm true em false e3 k b _ _ d hb (by omega) (by omega);rw [q1] at B;rw [g] at O;have j:=(wm true em false false k b _ _ d hb (by omega) (by omega));rw [g] at j;obtain⟨D,q,n,G,x2,x3⟩:=j;refine⟨F,w,p,D,q,n,al ?_,B,x2⟩;rw [sE];simp only [ai,↓reduceIte,Int.reduceBEq,Int.reduceEq,GD,h,A,L,N,G]
 .have:sm=false:=by rw [i];simpa using f
  subst this;obtain⟨q1,g⟩:=K f;rw [q1] at k2;rw [g] at d;refine⟨E,r,o,false,em,k,al ?_,k2,d⟩;rw [sE];simp only [ai,↓reduceIte,Int.reduceBEq,Int.reduceEq,GD,h,A]
open Go Go.Aev Go.Aev.Gen
def cE(z:Int):Prop:=(z.natAbs:Int) < 4294967296 ^ 200
theorem cE.len{z:Int}{s:Bool}{d:List Int}(h:cE z)(r:ch z s d):d.length<=200:=DP r 200 h
theorem cE.le{z w:Int}(h:cE z)(a:w.natAbs<=z.natAbs):cE w:=by
 unfold cE at *
 have:(w.natAbs:Int)<=(z.natAbs:Int):=by omega
 exact Int.lt_of_le_of_lt this h
def Sm(z:Int):Prop:= -9223372036854775808 < z/\z < 9223372036854775808
theorem Sm.dY{z:Int}(h:Sm z):cE z:=by
 unfold Sm at h;unfold cE;have h1:(4294967296:Int) ^ 2<=4294967296 ^ 200:=vS (by omega);have a:(4294967296:Int) ^ 2=18446744073709551616:=by decide
 rw [a] at h1;exact Int.lt_of_lt_of_le (by omega) h1
def lO(z:Int)(r:Option (List T)):Prop:= ∃s e d,r=some [T.aw,tb s,T.aa 1 e (ax d)]/\ch z s d
theorem uz.g{z:Int}{n:Nat}{r:Option (List T)}(h:uz z n r):lO z r:=by obtain⟨s,e,d,a,k2,_⟩:=h;exact⟨s,e,d,a,k2⟩
abbrev r1:AV:=AV.ref (Id.c 1) 0
abbrev pt(s e:Bool)(d:List Int):T:=T.ptr [T.bool s,T.aa 1 e (ax d)]
theorem wi{z:Int}{s e:Bool}{d:List Int}(h:ch z s d):WI z (pt s e d):=⟨s,e,d,rfl,h⟩
theorem Ir(s:Bool)(y:T){d x2:T}{u v:Int}(h1:WI u d)(g:WI v x2)(lu:cE u)(i:cE v)(hv:v≠0):
  lO (u.tdiv v) (Or (.call 117) [r0,AV.t d,AV.t x2] [ab.box [AV.t (T.bool s),AV.t y]]):=by
 obtain⟨j,e2,a,rfl,c⟩:=h1;obtain⟨k,e3,b,rfl,hb⟩:=g;have:=lu.len c;have:=i.len hb;obtain⟨l,f,e,sm,em,m,h,k2,n⟩:=KU s y j e2 k e3 false (T.aK true) a b u v c hb (by omega) (by omega) hv;refine⟨l,f,e,al ?_,k2⟩;rw [Oi];simp only [ai,↓reduceIte,Int.reduceBEq,Int.reduceEq,GD,h]
theorem P9(s:Bool)(y:T){d x2:T}{u v:Int}(h1:WI u d)(f:WI v x2)(lu:cE u)(i:cE v)(hv: 0 < v):
  lO (u % v) (Or (.call 113) [r0,AV.t d,AV.t x2] [ab.box [AV.t (T.bool s),AV.t y]]):=by
 obtain⟨j,e2,a,rfl,c⟩:=h1;obtain⟨k,e3,b,rfl,hb⟩:=f;have:=lu.len c;have:=i.len hb;obtain⟨n,m,l,sm,em,e,g,k2,h⟩:=SW false (T.aK true) j e2 k e3 s y a b u v c hb (by omega) (by omega) hv;refine⟨sm,em,e,al ?_,h⟩;rw [yS];simp only [ai,↓reduceIte,Int.reduceBEq,Int.reduceEq,GD,g]
theorem CG(s:Bool)(y:T){d x2:T}{u v:Int}(h1:WI u d)(e:WI v x2)(lu:cE u)(f:cE v):
  lO (u * v) (Or (.call 91) [r0,AV.t d,AV.t x2] [ab.box [AV.t (T.bool s),AV.t y]]):=by
 obtain⟨h,e2,a,rfl,c⟩:=h1;obtain⟨i,e3,b,rfl,hb⟩:=e;have:=lu.len c;have:=f.len hb;exact(SU s y h e2 i e3 a b u v c hb (by omega) (by omega)).g
theorem P4{c e2:Bool}{a:List Int}{x2:T}{u v:Int}(d:ch u c a)(e:WI v x2)(lu:cE u)(f:cE v):
  lO (u+v) (Or (.call 94) [r0,r0,AV.t x2] [ab.box [AV.t (T.bool c),AV.t (T.aa 1 e2 (ax a))]]):=by
 obtain⟨h,e3,b,rfl,hb⟩:=e;have:=lu.len d;have:=f.len hb;exact(wm c e2 h e3 a b u v d hb (by omega) (by omega)).g
theorem KS(s:Bool)(y:T)(a e2:Bool)(d:List Int)(r:List T)(b:d.length<=1000):Or (.call 114) [r0,AV.t (T.ptr (T.bool a::T.aa 1 e2 (ax d)::r))] [ab.box [AV.t (T.bool s),AV.t y]]=some [T.aw,tb a,T.aa 1 false (ax d)]:=by refine al ?_;rw [Ob];have:bu 4 (ax d).length=some ():=iL (by rw [aM];omega);simp only [ai,↓reduceIte,Int.reduceBEq,Int.reduceEq,GD,this]
theorem S0(s e:Bool)(d:List Int)(a:d.length<=1000):Or (.call 114) [r0,r0] [ab.box [AV.t (T.bool s),AV.t (T.aa 1 e (ax d))]]=some [T.aw,tb s,T.aa 1 false (ax d)]:=by refine al ?_;rw [Oc];have:bu 4 (ax d).length=some ():=iL (by rw [aM];omega);simp only [ai,↓reduceIte,Int.reduceBEq,Int.reduceEq,GD,this]
theorem KQ(s:Bool)(y:T)(t:Bool)(u:T)(a e2:Bool)(d:List Int)(b:d.length<=1000):Or (.call 114) [r0,AV.t (pt a e2 d)] [ab.box [AV.t (T.bool s),AV.t y,AV.t (T.bool t),AV.t u]]=some [T.aw,tb a,T.aa 1 false (ax d),tb t,u]:=by refine al ?_;rw [N9];have:bu 4 (ax d).length=some ():=iL (by rw [aM];omega);simp only [ai,↓reduceIte,Int.reduceBEq,Int.reduceEq,GD,this]
theorem KR(s:Bool)(y:T)(t:Bool)(u:T)(a e2:Bool)(d:List Int)(b:d.length<=1000):Or (.call 114) [AV.ref (Id.c 0) 2,AV.t (pt a e2 d)] [ab.box [AV.t (T.bool s),AV.t y,AV.t (T.bool t),AV.t u]]=some [T.aw,tb s,y,tb a,T.aa 1 false (ax d)]:=by refine al ?_;rw [Oa];have:bu 4 (ax d).length=some ():=iL (by rw [aM];omega);simp only [ai,↓reduceIte,Int.reduceBEq,Int.reduceEq,GD,this]
theorem JA{a:Bool}{d:List Int}{z:Int}(hz:ch z a d):ch (-z) (!a && decide ((d.length:Int) > 0)) d:=by
 refine⟨hz.dg,hz.can,λh=> ?_, ?_⟩
 .simp only [Ve,decide_eq_true_eq] at h;intro b;subst b;simp at h
 .have:=hz.z;unfold num at this⊢;cases a with
  | true=>simp at this⊢;omega
  | false=>
   simp only [VF,if_false] at this;by_cases c:(d.length:Int) > 0
   .simp [c];omega
   .have:d= []:=Vt.1 (by omega);subst this;simp [val] at *
    omega
theorem SV(s:Bool)(y:T)(a e2:Bool)(d:List Int)(r:List T)(z:Int)(b:d.length<=1000)(hz:ch z a d):lO (-z) (Or (.call 118) [r0,AV.t (T.ptr (T.bool a::T.aa 1 e2 (ax d)::r))] [ab.box [AV.t (T.bool s),AV.t y]]):=by refine⟨_,false,d,al ?_,JA hz⟩;rw [NX];simp only [ai,↓reduceIte,Int.reduceBEq,Int.reduceEq,GD,KS s y a e2 d r b,aM,eZ]
theorem KL(s e:Bool)(d:List Int)(z:Int)(a:d.length<=1000)(hz:ch z s d):lO (-z) (Or (.call 118) [r0,r0] [ab.box [AV.t (T.bool s),AV.t (T.aa 1 e (ax d))]]):=by refine⟨_,false,d,al ?_,JA hz⟩;rw [NY];simp only [ai,↓reduceIte,Int.reduceBEq,Int.reduceEq,GD,S0 s e d a,aM,eZ]
theorem KV(s:Bool)(y:T){x:T}{z:Int}(h:WI z x)(b:cE z):lO (z.natAbs:Int) (Or (.call 110) [r0,AV.t x] [ab.box [AV.t (T.bool s),AV.t y]]):=by obtain⟨c,e2,d,rfl,a⟩:=h;have:=b.len a;refine⟨false,false,d,al ?_,⟨a.dg,a.can,λh=>(by cases h),by simp [num,re a]⟩⟩;rw [Od];simp only [ai,↓reduceIte,Int.reduceBEq,Int.reduceEq,GD,pH s y c e2 d (by omega)]
theorem Ed(b e2:Bool)(d:List Int)(r:List T)(z:Int)(h:ch z b d):Or (.call 75) [AV.t (T.ptr (T.bool b::T.aa 1 e2 (ax d)::r))] []=some [ti z.sign]:=by
 refine al ?_;rw [Oe];have hs:=th h;have e:=re h;by_cases a:d= []
 .subst a;have:z=0:=by simp [val] at e;omega
  subst this;simp only [ai,↓reduceIte,Int.reduceBEq,Int.reduceEq,GD,aM,VS];rfl
 .have f:=sd h.dg h.can a;have c:¬(d.length:Int)=0:=by have:=XO.2 a;omega
  cases b with
  | true=>
   have:z < 0:=by simpa using hs.symm
   have:z.sign= -1:=WH this;simp only [ai,↓reduceIte,Int.reduceBEq,Int.reduceEq,GD,aM,c,this]
  | false=>
   have:¬z < 0:=by simpa using hs.symm
   have:z.sign=1:=Wp (by omega);simp only [ai,↓reduceIte,Int.reduceBEq,Int.reduceEq,GD,aM,c,this]
theorem Rp(s:Bool)(y:T):∀(d c:Nat),c < 18446744073709551616->d < 18446744073709551616->lO ((Nat.gcd c d:Nat):Int) (Or xz [r0,AV.t (T.int .u64 (c:Int)),AV.t (T.int .u64 (d:Int))] [ab.box [AV.t (T.bool s),AV.t y]]):=by
 intro d;induction d using Nat.strongRecOn with
 | _ d k=>
  intro c n g;by_cases e:(d:Int) > 0
  .have hm:(c:Int).tmod (d:Int)= ((c % d:Nat):Int):=by rw [Wo (by omega),Int.natCast_emod]
   have f:c % d < d:=Yw _ (by omega);obtain⟨s',e',a,b,k2⟩:=k (c % d) f d g (by omega);have i:Nat.gcd d (c % d)=Nat.gcd c d:=by rw [YK c d,Nat.gcd_rec d c,YK]
   rw [i] at k2;have j:¬(d:Int)=0:=by omega
   refine⟨s',e',a,al ?_,k2⟩;rw [GS];simp only [ai,↓reduceIte,Int.reduceBEq,Int.reduceEq,GD,e,j,hm];exact b
  .have:d=0:=by omega
   subst this;obtain⟨e',a,b,k2,l,m,o⟩:=wo s y (c:Int) (by omega);refine⟨false,e',a,al ?_,⟨k2,l,λh=>(by cases h),by simp [num,m]⟩⟩;rw [GS];simp only [ai,↓reduceIte,Int.reduceBEq,Int.reduceEq,GD,e,b]
theorem Rq(s:Bool)(y:T):∀(b a:Nat) (o x2:T),WI (a:Int) o->WI (b:Int) x2->cE (a:Int)->cE (b:Int)->lO ((Nat.gcd a b:Nat):Int) (Or xy [r0,AV.t o,AV.t x2] [ab.box [AV.t (T.bool s),AV.t y]]):=by
 intro b;induction b using Nat.strongRecOn with
 | _ b E=>
  intro a o x2 h1 f v lb;obtain⟨n,e2,p,rfl,h⟩:=h1;obtain⟨x,e3,q,rfl,g⟩:=f;have K:=v.len h;have lq:=lb.len g;have c:=Ed x e3 q [] (b:Int) g;by_cases B:b=0
  .subst B;refine⟨n,false,p,al ?_,by simpa using h⟩;rw [B7];have:((0:Nat):Int).sign=0:=rfl;rw [this] at c;simp only [ai,↓reduceIte,Int.reduceBEq,Int.reduceEq,GD,c,pH s y n e2 p (by omega)]
  .have hs:(b:Int).sign=1:=Wp (by omega);rw [hs] at c;have k:¬(1:Int)=0:=by omega
   by_cases r:(p.length:Int) < 3/\(q.length:Int) < 3
   .have i:=jS n e2 p h.dg (by omega);have j:=jS x e3 q g.dg (by omega);have L:=re h;have M:=re g;have I:=fu h.dg;have bb:=fu g.dg;have f:∀d:List Int,d.length<=2->(4294967296:Int) ^ d.length<=18446744073709551616:=λd C=>by
     have f:(4294967296:Int) ^ d.length<=4294967296 ^ 2:=vS C;rw [show((4294967296:Int) ^ 2)=18446744073709551616 from by decide] at f;exact f
    have G:=f p (by omega);have H:=f q (by omega);have z:val p= (a:Int):=by omega
    have A:val q= (b:Int):=by omega
    rw [z] at i;rw [A] at j;obtain⟨s',e',l,m,k2⟩:=Rp s y b a (by omega) (by omega);refine⟨s',e',l,al ?_,k2⟩;rw [B7];simp only [eZ,<-W3];simp only [ai,↓reduceIte,Int.reduceBEq,Int.reduceEq,GD,c,k,aM,r,and_self,i,j];exact m
   .obtain⟨sm,em,J,F,w⟩:=P9 false (T.aK true) (wi (e:=e2) h) (wi (e:=e3) g) v lb (by omega);have hm:(a:Int) % (b:Int)= ((a % b:Nat):Int):=by simp
    rw [hm] at w;have u:a % b < b:=Yw _ (by omega);obtain⟨s',e',l,m,k2⟩:=E (a % b) u b _ _ (wi (e:=e3) g) (wi (e:=em) w) lb (lb.le (by omega));have D:Nat.gcd b (a % b)=Nat.gcd a b:=by rw [YK a b,Nat.gcd_rec b a,YK]
    rw [D] at k2;refine⟨s',e',l,al ?_,k2⟩;rw [B7];simp only [eZ,<-W3];simp only [ai,↓reduceIte,Int.reduceBEq,Int.reduceEq,GD,c,k,aM,r,F];exact m
theorem P5(s:Bool)(y:T){f x2:T}{u v:Int}(h1:WI u f)(c:WI v x2)(lu:cE u)(d:cE v):
  lO ((Int.gcd u v:Nat):Int) (Or (.call 71) [r0,AV.t T.aw,AV.t T.aw,AV.t f,AV.t x2] [ab.box [AV.t (T.bool s),AV.t y]]):=by
 obtain⟨w,l,n,g,h⟩:=KV false (T.aK true) h1 lu;obtain⟨x,eb,o,i,j⟩:=KV false (T.aK true) c d;obtain⟨s',e',k,m,k2⟩:=Rq s y v.natAbs u.natAbs _ _ (wi (e:=l) h) (wi (e:=eb) j) (lu.le (by omega)) (d.le (by omega));obtain⟨q,e2,a,rfl,p⟩:=h1;obtain⟨r,e3,b,rfl,hb⟩:=c;refine⟨s',e',k,al ?_,k2⟩;rw [yP];simp only [ai,↓reduceIte,Int.reduceBEq,Int.reduceEq,GD,g,i];exact m
def WR(q:Rat)(x:T):Prop:= ∃s e d s' e' a,x=T.ptr [tb s,T.aa 1 e (ax d),tb s',T.aa 1 e' (ax a)]/\ch q.num s d/\ch (q.den:Int) s' a
def LQ(q:Rat):Prop:=cE q.num/\cE (q.den:Int)
def x7(q:Rat)(r:Option (List T)):Prop:= ∃s e d s' e' a,r=some [T.aw,tb s,T.aa 1 e (ax d),tb s',T.aa 1 e' (ax a)]/\ch q.num s d/\ch (q.den:Int) s' a
abbrev b4(s:Bool)(y:T)(t:Bool)(u:T):ab:=ab.box [AV.t (T.bool s),AV.t y,AV.t (T.bool t),AV.t u]
theorem BY{u v:Int}(hv:v≠0):(v < 0->(Rat.divInt u v).num= -(u.tdiv (Int.gcd u v:Nat))/\((Rat.divInt u v).den:Int)= -(v.tdiv (Int.gcd u v:Nat)))/\
  (¬v < 0->(Rat.divInt u v).num=u.tdiv (Int.gcd u v:Nat)/\((Rat.divInt u v).den:Int)=v.tdiv (Int.gcd u v:Nat)):=by
 have a:=Rat.num_divInt u v;have b:=Rat.den_divInt u v;rw [if_neg hv] at b;rw [Int.gcd_comm v u] at a b;have c:((Int.gcd u v:Nat):Int) ∣ u:=Int.gcd_dvd_left u v;have d:((Int.gcd u v:Nat):Int) ∣ v:=Int.gcd_dvd_right u v;have e:u.tdiv (Int.gcd u v:Nat)=u / (Int.gcd u v:Nat):=Xw c;have e2:v.tdiv (Int.gcd u v:Nat)=v / (Int.gcd u v:Nat):=Xw d;rw [e,e2];constructor
 .intro h;have hs:v.sign= -1:=WH h;rw [hs] at a;constructor
  .rw [a,show -1 * u= -u from by omega,YG c]
  .rw [b,Int.natCast_ediv,Int.ofNat_natAbs_of_nonpos (by omega),YG d]
 .intro h;have hs:v.sign=1:=Wp (by omega);rw [hs,Ww] at a;constructor
  .exact a
  .rw [b,Int.natCast_ediv,Int.natAbs_of_nonneg (by omega)]
theorem Lz(u:Int)(n:Nat):(u.tdiv (n:Int)).natAbs<=u.natAbs:=by rw [Zd];exact Ze _ _
theorem CH(s:Bool)(y:T)(t:Bool)(w:T)(B:Bool)(G:List (List T))(L:w.aQ 1=some (B,G)){V x2:T}{u v:Int}(h1:WI u V)(D:WI v x2)(lu:cE u)(n:cE v)(hv:v≠0):
  x7 (Rat.divInt u v) (Or (.call 74) [r0,AV.t V,AV.t x2] [b4 s y t w]):=by
 obtain⟨sg,eg,dg,O,k2⟩:=P5 false (T.aK true) h1 D lu n;have f:((Int.gcd u v:Nat):Int)≠0:=by have:=Int.gcd_pos_of_ne_zero_right (a:=u) hv;omega
 have P:cE ((Int.gcd u v:Nat):Int):=n.le (by
  have:=Nat.le_of_dvd (by omega) (Int.gcd_dvd_natAbs_right u v);omega)
 obtain⟨sx,H,m,R,E⟩:=Ir false (T.aK true) h1 (wi (e:=eg) k2) lu P f;obtain⟨U,J,A,S,o⟩:=Ir false (T.aK true) D (wi (e:=eg) k2) n P f;have Q:cE (u.tdiv (Int.gcd u v:Nat)):=lu.le (Lz _ _);have ly:cE (v.tdiv (Int.gcd u v:Nat)):=n.le (Lz _ _);have lx':=Q.len E;have ly':=ly.len o;obtain⟨p1,p2⟩:=BY (u:=u) hv;have q:=th o;have j:v.tdiv (Int.gcd u v:Nat) < 0↔v < 0:=by
  have W:((Int.gcd u v:Nat):Int) ∣ v:=Int.gcd_dvd_right u v;obtain⟨k,X⟩:=W;have i: 0 < ((Int.gcd u v:Nat):Int):=by omega
  generalize ((Int.gcd u v:Nat):Int)=g at *
  subst X;rw [Int.mul_tdiv_cancel_left _ f];constructor
  .intro h;exact ZD i h
  .intro h;rcases Wy k 0 with C | C
   .exact C
   .have:=Wh (Wu i) C;omega
 obtain⟨s2,e2,a,rfl,ha⟩:=h1;obtain⟨s3,e3,b,rfl,hb⟩:=D;by_cases c:v < 0
 .obtain⟨q1,F⟩:=p1 c;have:U=true:=by rw [q];simpa using j.2 c
  subst this;obtain⟨l,I,d,Z,N⟩:=KL sx H m _ (by omega) E;obtain⟨r,K,p,Y,M⟩:=KL true J A _ (by omega) o;have jl:=(Q.le (w:= -(u.tdiv (Int.gcd u v:Nat))) (by omega)).len N;have il:=(ly.le (w:= -(v.tdiv (Int.gcd u v:Nat))) (by omega)).len M;have x:=KQ s y t w l I d (by omega);have z:=KR l (T.aa 1 false (ax d)) t (T.aa 1 B G) r K p (by omega);refine⟨l,false,d,r,false,p,al ?_,by rw [q1];exact N,by rw [F];exact M⟩;rw [GV];simp only [ai,↓reduceIte,Int.reduceBEq,Int.reduceEq,GD,O,R,S,Z,Y,x,L,z]
 .obtain⟨q1,F⟩:=p2 c;have:U=false:=by rw [q,decide_eq_false_iff_not];exact λh=>c (j.1 h)
  subst this;have x:=KQ s y t w sx H m (by omega);have z:=KR sx (T.aa 1 false (ax m)) t (T.aa 1 B G) false J A (by omega);refine⟨sx,false,m,false,false,A,al ?_,by rw [q1];exact E,by rw [F];exact o⟩;rw [GV];simp only [ai,↓reduceIte,Int.reduceBEq,Int.reduceEq,GD,O,R,S,x,L,z]
open Go Go.Aev Go.Aev.Gen
theorem wr{q:Rat}{s e s' e':Bool}{d a:List Int}(h1:ch q.num s d)(b:ch (q.den:Int) s' a):WR q (T.ptr [tb s,T.aa 1 e (ax d),tb s',T.aa 1 e' (ax a)]):=⟨s,e,d,s',e',a,rfl,h1,b⟩
theorem wc(q:Rat):(-q).num= -q.num:=rfl
theorem vV(q:Rat):(-q).den=q.den:=rfl
theorem Tl(q:Rat):(q.den:Int).sign=1:=Wp (by have:=q.den_pos;omega)
theorem Iq{q:Rat}{x:T}(h:WR q x)(lq:LQ q):∃y,Or (.call 92) [AV.t x] []=some [y]/\WI q.num y:=by obtain⟨s,e,d,s',e',a,rfl,h1,b⟩:=h;have c:=lq.1.len h1;refine⟨pt s false d,al ?_,wi h1⟩;rw [Ca];simp only [ai,↓reduceIte,Int.reduceBEq,Int.reduceEq,GD,KS false (T.aK true) s e d [tb s',T.aa 1 e' (ax a)] (by omega)]
theorem CI{q:Rat}{x:T}(h:WR q x)(lq:LQ q):∃y,Or (.call 93) [AV.t x] []=some [y]/\WI (q.den:Int) y:=by
 obtain⟨s,e,d,s',e',b,rfl,h1,c⟩:=h;have g:=lq.2.len c;have a:=Ed s' e' b [] _ c;rw [Tl] at a;refine⟨pt s' false b,al ?_,wi c⟩;rw [Og];have f:¬(1:Int)=0:=by omega
 simp only [ai,↓reduceIte,Int.reduceBEq,Int.reduceEq,GD,a,f,pH false (T.aK true) s' e' b (by omega)]
theorem P8{q:Rat}{x:T}(h:WR q x):Or (.call 37) [AV.t x] []=some [ti q.num.sign]:=by obtain⟨s,e,d,s',e',a,rfl,h1,b⟩:=h;refine al ?_;rw [N4];simp only [ai,↓reduceIte,Int.reduceBEq,Int.reduceEq,GD,Ed s e d _ _ h1]
theorem Jc(p q:Rat):Rat.divInt (p.num * q.num) ((p.den:Int) * (q.den:Int))=p * q:=by
 conv=>rhs;rw [<-Xb p,<-Xb q]
 rw [Rat.divInt_mul_divInt]
theorem Bo(p q:Rat):Rat.divInt (p.num * (q.den:Int)+q.num * (p.den:Int)) ((p.den:Int) * (q.den:Int))=p+q:=by
 conv=>rhs;rw [<-Xb p,<-Xb q]
 rw [Rat.divInt_add_divInt _ _ (by have:=p.den_pos;omega) (by have:=q.den_pos;omega)]
theorem Rx(q:Rat):Rat.divInt (-q.num) (q.den:Int)= -q:=by
 conv=>rhs;rw [<-Xb q]
 rw [Rat.neg_divInt]
theorem uQ(p q:Rat):(p.den:Int) * (q.den:Int)≠0:=by have h1:=p.den_pos;have a:=q.den_pos;exact Int.mul_ne_zero (by omega) (by omega)
abbrev z4:ab:=b4 false (T.aK true) false (T.aK true)
theorem C1:(T.aK true).aQ 1=some (true,[]):=cV _ _
theorem P6{p q:Rat}{x y:T}(g:WR p x)(hy:WR q y)(f:LQ p)(lq:LQ q)(C:cE (p.num * (q.den:Int)))(D:cE (q.num * (p.den:Int)))(E:cE (p.num * (q.den:Int)+q.num * (p.den:Int)))
  (F:cE ((p.den:Int) * (q.den:Int))):x7 (p+q) (Or (.call 47) [r0,AV.t x,AV.t y] [z4]):=by
 obtain⟨a,m,n⟩:=Iq g f;obtain⟨b,o,h⟩:=CI hy lq;obtain⟨c,r,s⟩:=Iq hy lq;obtain⟨d,u,i⟩:=CI g f;obtain⟨sm,em,Q,G,H⟩:=CG false (T.aK true) n h f.1 lq.2;obtain⟨U,w,R,I,J⟩:=CG false (T.aK true) s i lq.1 f.2;obtain⟨V,z,P,o1,K⟩:=CG false (T.aK true) i h f.2 lq.2;obtain⟨st,A,S,N,O⟩:=P4 (e2:=em) H (wi (e:=w) J) C D;obtain⟨L,v,k,M,e2,l,B,k2,j⟩:=CH false (T.aK true) false (T.aK true) true [] C1 (wi (e:=A) O) (wi (e:=z) K) E F (uQ p q);rw [Bo] at k2 j;obtain⟨_,_,_,_,_,_,rfl,_,_⟩:=g;obtain⟨_,_,_,_,_,_,rfl,_,_⟩:=hy;refine⟨L,v,k,M,e2,l,al ?_,k2,j⟩;rw [N2];simp only [ai,↓reduceIte,Int.reduceBEq,Int.reduceEq,GD,m,o,r,u,G,I,o1,N,B]
theorem LQ.neg{q:Rat}(h:LQ q):LQ (-q):=⟨h.1.le (by rw [wc];omega),h.2⟩
theorem Qa{q:Rat}{x:T}(a:WR q x)(lq:LQ q):x7 (-q) (Or (.call 95) [r0,AV.t x] [z4]):=by obtain⟨d,h,i⟩:=CI a lq;obtain⟨s,e,D,s',e',c,rfl,h1,r⟩:=a;have u:=lq.1.len h1;obtain⟨sm,em,p,l,m⟩:=SV false (T.aK true) s e D [tb s',T.aa 1 e' (ax c)] _ (by omega) h1;obtain⟨n,j,f,o,e2,g,k,k2,b⟩:=CH false (T.aK true) false (T.aK true) true [] C1 (wi (e:=em) m) i (lq.1.le (by omega)) lq.2 (by have:=q.den_pos;omega);rw [Rx] at k2 b;refine⟨n,j,f,o,e2,g,al ?_,k2,b⟩;rw [Oh];simp only [ai,↓reduceIte,Int.reduceBEq,Int.reduceEq,GD,h,l,k]
theorem P7{p q:Rat}{x y:T}(a:WR p x)(hy:WR q y)(r:LQ p)(lq:LQ q)(l:cE (p.num * (q.den:Int)))(m:cE (q.num * (p.den:Int)))(n:cE (p.num * (q.den:Int) - q.num * (p.den:Int)))
  (o:cE ((p.den:Int) * (q.den:Int))):x7 (p - q) (Or (.call 48) [r0,AV.t x,AV.t y] [z4]):=by
 obtain⟨z,j,v,A,eb,w,f,g,h⟩:=Qa hy lq;have e0:(-q).num * (p.den:Int)= -(q.num * (p.den:Int)):=by rw [wc,YR]
 obtain⟨s,i,c,u,e2,d,k,k2,b⟩:=P6 a (wr (e:=j) (e':=eb) g h) r lq.neg (by rw [vV];exact l) (by rw [e0];exact m.le (by omega)) (by rw [e0,vV,<-Zv];exact n) (by rw [vV];exact o);rw [<-Zx] at k2 b;obtain⟨_,_,_,_,_,_,rfl,_,_⟩:=a;obtain⟨_,_,_,_,_,_,rfl,_,_⟩:=hy;refine⟨s,i,c,u,e2,d,al ?_,k2,b⟩;rw [N3];simp only [ai,↓reduceIte,Int.reduceBEq,Int.reduceEq,GD,f,k]
def se(p q:Rat):Int:=(p - q).num.sign
theorem P2{p q:Rat}{x y:T}(a:WR p x)(hy:WR q y)(j:LQ p)(lq:LQ q)(f:cE (p.num * (q.den:Int)))(g:cE (q.num * (p.den:Int)))(h:cE (p.num * (q.den:Int) - q.num * (p.den:Int)))
  (i:cE ((p.den:Int) * (q.den:Int))):Or (.call 17) [AV.t x,AV.t y] []=some [ti (se p q)]:=by
 obtain⟨m,b,k,n,e2,l,c,k2,d⟩:=P7 a hy j lq f g h i;have:=P8 (wr (e:=b) (e':=e2) k2 d);obtain⟨_,_,_,_,_,_,rfl,_,_⟩:=a;obtain⟨_,_,_,_,_,_,rfl,_,_⟩:=hy;refine al ?_;rw [NU];simp only [ai,↓reduceIte,Int.reduceBEq,Int.reduceEq,GD,c,this];rfl
theorem P3(n m:Int)(ln:Sm n)(c:Sm m)(hm:m≠0):∃x,Or (.call 36) [I n,I m] []=some [x]/\WR (Rat.divInt n m) x:=by obtain⟨a,d,f⟩:=Ac n (by unfold Sm at ln;omega);obtain⟨b,g,h⟩:=Ac m (by unfold Sm at c;omega);obtain⟨p,i,l,q,e2,o,j,k2,k⟩:=CH false (T.aK true) false (T.aK true) true [] C1 f h ln.dY c.dY hm;refine⟨_,al ?_,wr (e:=i) (e':=e2) k2 k⟩;rw [yN];simp only [ai,↓reduceIte,Int.reduceBEq,Int.reduceEq,GD,d,g,j]
theorem Ip(n m:Int)(ln:Sm n)(b:Sm m)(hm:m≠0):∃x,Or (.call 18) [AV.agg [I n,I m]] []=some [x]/\WR (Rat.divInt n m) x:=by obtain⟨x,a,k2⟩:=P3 n m ln b hm;refine⟨x,al ?_,k2⟩;rw [N1];simp only [ai,↓reduceIte,Int.reduceBEq,Int.reduceEq,GD,a]
open Go Go.Aev Go.Aev.Gen
theorem yG{u v:Int}(hv:v≠0):(Rat.divInt u v).num.natAbs<=u.natAbs/\(Rat.divInt u v).den<=v.natAbs:=by
 obtain⟨h1,c⟩:=BY (u:=u) hv;have d:(u.tdiv (Int.gcd u v:Nat)).natAbs<=u.natAbs:=by rw [Zd];exact Ze _ _
 have e:(v.tdiv (Int.gcd u v:Nat)).natAbs<=v.natAbs:=by rw [Zd];exact Ze _ _
 by_cases h:v < 0
 .obtain⟨a,b⟩:=h1 h;constructor <;> omega
 .obtain⟨a,b⟩:=c h;constructor <;> omega
def QB(m:Nat)(q:Rat):Prop:=q.num.natAbs<=2 ^ m/\q.den<=2 ^ m
theorem Sb(k:Nat):(4294967296:Int) ^ k= ((2 ^ (32 * k):Nat):Int):=by rw [Nat.pow_mul,Int.natCast_pow];rfl
theorem Qy{m k:Nat}{z:Int}(hm:m < 32 * k)(h:z.natAbs<=2 ^ m):(z.natAbs:Int) < 4294967296 ^ k:=by rw [Sb k];exact Int.ofNat_lt.2 (Nat.lt_of_le_of_lt h (Nat.pow_lt_pow_right (by omega) hm))
theorem qO{m:Nat}{z:Int}(hm:m<=6300)(h:z.natAbs<=2 ^ m):cE z:=Qy (by omega) h
theorem QB.lq{m:Nat}{q:Rat}(h:QB m q)(hm:m<=6300):LQ q:=⟨qO hm h.1,qO hm (by simpa using h.2)⟩
theorem QB.mono{m k:Nat}{q:Rat}(h:QB m q)(hm:m<=k):QB k q:=
 ⟨VO h.1 (Xt (by omega) hm),VO h.2 (Xt (by omega) hm)⟩
theorem iI{a b m k:Nat}(c:a<=2 ^ m)(hb:b<=2 ^ k):a * b<=2 ^ (m+k):=by rw [Nat.pow_add];exact YL c hb
theorem QB.mul{m k:Nat}{p q:Rat}(a:QB m p)(b:QB k q):QB (m+k) (p * q):=by
 rw [<-Jc];obtain⟨h1,c⟩:=yG (u:=p.num * q.num) (uQ p q);refine⟨VO h1 ?_,VO c ?_⟩
 .rw [Wi];exact iI a.1 b.1
 .rw [Wi,VN,VN];exact iI a.2 b.2
theorem Bp{m k:Nat}{p q:Rat}(a:QB m p)(b:QB k q):(p.num * (q.den:Int)+q.num * (p.den:Int)).natAbs<=2 ^ (m+k+1):=by
 have h1:(p.num * (q.den:Int)).natAbs<=2 ^ (m+k):=by rw [Wi,VN];exact iI a.1 b.2
 have c:(q.num * (p.den:Int)).natAbs<=2 ^ (m+k):=by rw [Wi,VN,Za m k];exact iI b.1 a.2
 have d:=Int.natAbs_add_le (p.num * (q.den:Int)) (q.num * (p.den:Int));rw [Nat.pow_succ];omega
theorem QB.add{m k:Nat}{p q:Rat}(a:QB m p)(b:QB k q):QB (m+k+1) (p+q):=by rw [<-Bo];obtain⟨h1,c⟩:=yG (u:=p.num * (q.den:Int)+q.num * (p.den:Int)) (uQ p q);refine⟨VO h1 (Bp a b),VO c ?_⟩;rw [Wi,VN,VN];exact VO (iI a.2 b.2) (Xt (by omega) (by omega))
theorem QB.neg{m:Nat}{q:Rat}(h:QB m q):QB m (-q):=⟨by rw [wc,Zo];exact h.1,h.2⟩
theorem QB.sub{m k:Nat}{p q:Rat}(a:QB m p)(b:QB k q):QB (m+k+1) (p - q):=by rw [Zx];exact a.add b.neg
theorem QB.divInt{m:Nat}{u v:Int}(hv:v≠0)(h1:u.natAbs<=2 ^ m)(c:v.natAbs<=2 ^ m):QB m (Rat.divInt u v):=by obtain⟨a,b⟩:=yG (u:=u) hv;exact⟨VO a h1,VO b c⟩
theorem tH{m k:Nat}{p q:Rat}(a:QB m p)(b:QB k q):(p.num * (q.den:Int) - q.num * (p.den:Int)).natAbs<=2 ^ (m+k+1):=by have:=Bp a b.neg;rw [wc,vV,YR,<-Zv] at this;exact this
theorem FY{m k:Nat}{p q:Rat}{x y:T}(c:WR p x)(hy:WR q y)(a:QB m p)(b:QB k q)(h:m+k+1<=6300):Or (.call 17) [AV.t x,AV.t y] []=some [ti (se p q)]:=by
 refine P2 c hy (a.lq (by omega)) (b.lq (by omega)) (qO (m:=m+k) (by omega) ?_) (qO (m:=k+m) (by omega) ?_) (qO h (tH a b)) (qO (m:=m+k) (by omega) ?_)
 .rw [Wi,VN];exact iI a.1 b.2
 .rw [Wi,VN];exact iI b.1 a.2
 .rw [Wi,VN,VN];exact iI a.2 b.2
theorem M6(p q:Rat):se p q=0↔p=q:=by
 unfold se;rw [YI,Zf];constructor
 .intro h;grind
 .intro h;grind
abbrev Fr:=Int×Int
def gX(l:List Fr):List (List T):=l.map λx=> [ti x.1,ti x.2]
abbrev LN(e:Bool)(l:List Fr):AV:=AV.t (T.aa 2 e (gX l))
theorem fL(l:List Fr):(gX l).length=l.length:=by simp [gX]
theorem oW{l:List Fr}{i:Nat}{r:Fr}(h:l[i]? =some r):(gX l)[((i:Nat):Int).toNat]? =some [ti r.1,ti r.2]:=by simp [gX,h]
def bI(x:Fr):Prop:=1<=x.2/\x.2<=1073741824/\ -1073741824<=x.1/\x.1<=1073741824/\Int.gcd x.1 x.2=1
instance (x:Fr):Decidable (bI x):=by unfold bI;infer_instance
def aW(x:Fr):Rat:=Rat.divInt x.1 x.2
theorem ze{x:Fr}(h1: 1<=x.2/\x.2<=1073741824)(a: -1073741824<=x.1/\x.1<=1073741824):QB 30 (aW x):=QB.divInt (by omega) (by omega) (by omega)
def kM(x:Fr):Prop:=(1<=x.2/\x.2<=1073741824)/\ -1073741824<=x.1/\x.1<=1073741824
theorem bI.b{x:Fr}(h:bI x):kM x:=⟨⟨h.1,h.2.1⟩,h.2.2.1,h.2.2.2.1⟩
end Go.Aev.Wd
