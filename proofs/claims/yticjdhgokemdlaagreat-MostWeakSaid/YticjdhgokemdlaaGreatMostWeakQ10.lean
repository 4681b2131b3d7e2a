import Derived.Test.YticjdhgokemdlaaGreatMostWeakQ9
set_option linter.all false
namespace Go.Aev.Wd
open Go Go.Aev Go.Aev.Gen Go.IntKind
def tS(X Y:Int)(L:Nat)(R:List T):Prop:= ∃a Q e2 Z,R= [T.aa 1 a (ax Q),T.aa 1 e2 (ax Z)]/\Dg Q/\Dg Z/\val Q=X / Y/\val Z=X % Y/\Q.length<=L/\Z.length<=L
theorem je{b:Type}{l:List b}{n:Nat}(h:l.length=n+1):∃a x,l=a++ [x]/\a.length=n:=by
 rcases List.eq_nil_or_concat l with rfl | ⟨a,x,rfl⟩
 .simp at h
 .exact⟨a,x,by simp,by simpa using h⟩
def wm(s L:Nat)(V N0:Int)(n:Nat)(R:List T):Prop:= ∃b Q e2 Z a,R= [T.aa 1 b (ax Q),T.aa 1 e2 (ax Z)]/\Dg Q/\Dg Z/\Q.length=L/\Z.length=n/\0<=a/\a < V/\val Q * V+a=N0/\val Z=a / 2 ^ s
theorem Ue(n:Nat):Dg (List.replicate n 0):=λa b=>by have:=VO b;omega
theorem T5(s:Nat)(hs:s < 32)(ev v y:Bool)(b:List Int)(e c:Int)(hv:Dg (b++ [e,c]))(hvl:b.length<=400)(h1: 1<=c)(L:Nat)(N0:Int):∀(j:Nat) (C R hi i:List Int),C.length=j->j<=900->R.length=b.length+2->Dg C->Dg R->Dg i->val R < val (b++ [e,c])->j+i.length=L->
  val C+4294967296 ^ j * (val R+val (b++ [e,c]) * val i)=N0->Good (wm s L (val (b++ [e,c])) N0 (b.length+2)) (AF s ev v y (b++ [e,c]) (C++ (R++hi)) (List.replicate j 0++i) ((j:Int) - 1)):=by
 have g:(b++ [e,c]).length=b.length+2:=by simp
 have K:val (b++ [e,c])=val b+4294967296 ^ b.length * e+4294967296 * (4294967296 ^ b.length * c):=by rw [eS];simp only [val];rw [UO,U3 _ 4294967296];simp;omega
 have hv0:=eB hv.left;have hv0':=fp hv.left;have V:=gE b.length;have F:=hv e (by simp);have dv1:=hv c (by simp);have hp1:(4294967296:Int) ^ b.length * 1<=4294967296 ^ b.length * c:=Ur h1 (by omega);have hp2: 0<=(4294967296:Int) ^ b.length * e:=Vi (by omega) F.1;have z: 0 < val (b++ [e,c]):=by omega
 have e1:(ax (b++ [e,c]))[(((b++ [e,c]).length - 1:Nat):Int).toNat]? =some [T.int .u32 c]:=by have:=fv (b++ [e]) c [] (b.length+1) (by simp);rw [g];simpa using this
 have e2:(ax (b++ [e,c]))[(((b++ [e,c]).length - 2:Nat):Int).toNat]? =some [T.int .u32 e]:=by have:=fv b e [c] b.length rfl;rw [g];simpa using this
 intro j;induction j with
 | zero=>
  intro C R hi i I hj t u B D hlt hL O;obtain rfl:=UA.1 I;have h80:=Sb s hs v R B (by omega) (by omega);obtain⟨g1,g2,g3⟩:=DB (gG s) (pa (n:=s) (by omega)) (gG (32 - s)) B;refine⟨_,ak ?_,y,i,false,_,val R,rfl,D,g3,by omega,by rw [g2,t],eB B,hlt,by
   simp only [val,Xy,Vy,Yc] at O;rw [<-O,UF];omega,g1⟩
  rw [Gj];have c0:¬(((0:Nat):Int) - 1)>=0:=by omega
  have Z:bO 0 ((b++ [e,c]).length:Int) ((([] ++ (R++hi)).length:Nat):Int)=some ():=by unfold bO;rw [if_pos (by simp [t];omega)]
  have ht:(ax ([] ++ (R++hi))).take (((b++ [e,c]).length:Int).toNat - 0)=ax R:=by
   have hnn:((b++ [e,c]).length:Int).toNat - 0=R.length:=by rw [g,t];omega
   simp only [hnn,Uq,ax,Wg];rw [Xs (by simp),Vh (by simp)]
  simp only [VW,Uq] at Z ht⊢;simp only [ai,↓reduceIte,Int.reduceBEq,Int.reduceEq,GD,c0,aL,Z,ht,h80]
 | succ j ih=>
  intro C R hi i I hj t u B D hlt hL O;obtain⟨d,x,rfl,A⟩:=je I;obtain⟨w,top,hw,M⟩:=je (l:=x::R) (n:=b.length+2) (by simp [t]);obtain⟨w1,f,rfl,hw1⟩:=je M;obtain⟨k,h,rfl,m⟩:=je hw1;have N:Dg (k++ [h] ++ [f] ++ [top]):=by rw [<-hw];exact Dg.append (a:= [x]) u.right B
  have dw:=N.left;have E:=N top (by simp);have du1:=N f (by simp);have U:=N h (by simp);have hw0:=eB dw.left.left;have r:=fp dw.left.left;have H:d++ [x] ++ (R++hi)=d++ ((k++ [h] ++ [f])++top::hi):=by have: [x] ++R=k++ [h] ++ [f] ++ [top]:=hw;simp only [UR] at this⊢;rw [<-UR [x],this];simp
  have p:val (x::R)=val (k++ [h] ++ [f])+4294967296 ^ (b++ [e,c]).length * top:=by rw [hw,eS,g,M];simp [val]
  have S:val (k++ [h] ++ [f])=val k+4294967296 ^ b.length * h+4294967296 * (4294967296 ^ b.length * f):=by rw [UR,eS,m];simp only [Uo,Uq,val];rw [UO,U3 _ 4294967296];simp;omega
  have X:val (x::R)=val k+4294967296 ^ b.length * h+4294967296 * (4294967296 ^ b.length * (top * 4294967296+f)):=by
   rw [p,S,g,show(4294967296:Int) ^ (b.length+2)=4294967296 ^ b.length * (4294967296 * 4294967296) from by rw [Xa];rfl];rw [UO (4294967296 ^ b.length) (top * 4294967296),UO 4294967296,<-U0 (4294967296 ^ b.length) top 4294967296];have:(4294967296:Int) ^ b.length * (4294967296 * 4294967296) * top=4294967296 * (4294967296 ^ b.length * top * 4294967296):=by rw [UF (4294967296 ^ b.length * top) 4294967296,<-U0 4294967296 4294967296,UF (4294967296 ^ b.length),U0]
   omega
  have dx:=u x (by simp);have hUx:val (x::R)=x+4294967296 * val R:=rfl;have hR0:=eB B;have W: 0<=val (x::R):=by omega
  have Y:val (x::R) < val (b++ [e,c]) * 4294967296:=by omega
  generalize o:val (x::R) / val (b++ [e,c])=q at *
  have J: 0<=q:=by rw [<-o];exact VP W (by omega)
  have hqB:q < 4294967296:=by rw [<-o];exact Xx z (by rw [UF];exact Y)
  have hqV:q * val (b++ [e,c])<=val (x::R):=by rw [<-o];exact Yd _ (by omega)
  have hrep:List.replicate (j+1) (0:Int)++i=List.replicate d.length 0++0::i:=by rw [A,XE,UR];rfl
  have hg0:=HT V X K ⟨hw0,by rw [m] at r;exact r⟩ hv0 U.2 F.1 J hqV;have G: 0<=top * 4294967296+f:=by omega
  have hqt:q<=(top * 4294967296+f) / c:=by rw [Int.le_ediv_iff_mul_le (by omega)];exact hg0
  have hTle:(top * 4294967296+f) / c<=top * 4294967296+f:=X8 _ G;have hrm0:=VL (top * 4294967296+f) (show c≠0 by omega);have hrm1:=Vk (top * 4294967296+f) (show 0 < c by omega);have hdm:=Vz (top * 4294967296+f) c;have hn2: 2<=(b++ [e,c]).length:=by omega
  have e3:(ax (d++ ((k++ [h] ++ [f])++top::hi)))[((d.length+ (b++ [e,c]).length - 2:Nat):Int).toNat]? =some [T.int .u32 h]:=by have:=fv (d++k) h ([f] ++top::hi) (d.length+ (b++ [e,c]).length - 2) (by simp [m];try omega);simpa using this
  have e4:(ax (d++ ((k++ [h] ++ [f])++top::hi)))[((d.length+ (b++ [e,c]).length - 1:Nat):Int).toNat]? =some [T.int .u32 f]:=by have:=fv (d++k++ [h]) f (top::hi) (d.length+ (b++ [e,c]).length - 1) (by simp [m];try omega);simpa using this
  have e5:(ax (d++ ((k++ [h] ++ [f])++top::hi)))[((d.length+ (b++ [e,c]).length:Nat):Int).toNat]? =some [T.int .u32 top]:=by have:=fv (d++k++ [h] ++ [f]) top hi (d.length+ (b++ [e,c]).length) (by simp [m];try omega);simpa using this
  have Q:((d++ ((k++ [h] ++ [f])++top::hi)).length:Int)= ((d.length+b.length+3+hi.length:Nat):Int):=by simp [m];omega
  have P:=PY s d.length ev v y (b++ [e,c]) (d++ ((k++ [h] ++ [f])++top::hi)) (List.replicate d.length 0++0::i) (wm s L (val (b++ [e,c])) N0 (b.length+2)) (by omega) (by omega) hn2 (by simp [m] <;> omega) e1 e2 e3 V X K ⟨hw0,by rw [m] at r;exact r⟩ ⟨hv0,hv0'⟩ U F ⟨h1,dv1.2⟩ W Y z o.symm
   (λq' a1 a2 a3 a4=>Mu s ev v y (b++ [e,c]) d hi hv (by omega) (by omega) (k++ [h] ++ [f]) top dw (by rw [g];exact M) E z i _ q (by rw [<-o,p]) q' a1 a2 ⟨a3,a4⟩ J (λR' d1 d2 d3=>by
    have:=ih d R' (0::hi) (q::i) A (by omega) (by rw [d2,g]) u.left d1 (λa ha=>by
     rcases Uw.1 ha with rfl | ha
     .exact⟨J,hqB⟩
     .exact D a ha) (by rw [d3];exact Vk _ z) (by simp;omega) (by
     rw [<-p] at d3;have hdv:=Vz (val (x::R)) (val (b++ [e,c]));rw [o] at hdv;have key:val R'+val (b++ [e,c]) * val (q::i)=x+4294967296 * (val R+val (b++ [e,c]) * val i):=by rw [show val (q::i)=q+4294967296 * val i from rfl,d3,UO,UO 4294967296,U3 _ 4294967296];omega
     rw [<-O,eS d [x],A,key,show val [x]=x from by simp [val],Wm,U0,Int.add_assoc,<-UO])
    rw [<-A] at this;exact this))
   4294967296 ((top * 4294967296+f) / c) ((top * 4294967296+f) % c) (by omega) (by rw [UF];exact hdm) (by omega) hqt (by omega)
  have c0:((j+1:Nat):Int) - 1>=0:=by omega
  have cj:((j+1:Nat):Int) - 1= (d.length:Int):=by omega
  have or1:=nH E du1;have x1:u64.wrap c=c:=bc (by omega);have x2:u64.wrap top=top:=bc (by omega);have x3:(top * 4294967296+f).tdiv c= (top * 4294967296+f) / c:=Vg G;have x4:(top * 4294967296+f).tmod c= (top * 4294967296+f) % c:=Vr G;have x5:u64.wrap ((top * 4294967296+f) / c)= (top * 4294967296+f) / c:=bc (by omega);have nz:¬c=0:=by omega
  have w3:i64.wrap (((b++ [e,c]).length:Int) - 1)= (((b++ [e,c]).length - 1:Nat):Int):=by rw [Go.Aev.wr (by omega)];omega
  have w2':i64.wrap (((d.length+ (b++ [e,c]).length:Nat):Int) - 1)= ((d.length+ (b++ [e,c]).length - 1:Nat):Int):=by rw [Go.Aev.wr (by omega)];omega
  have b1: 0<=((d.length+ (b++ [e,c]).length:Nat):Int)/\((d.length+ (b++ [e,c]).length:Nat):Int) < ((d.length+b.length+3+hi.length:Nat):Int):=by omega
  have b2: 0<=((d.length+ (b++ [e,c]).length - 1:Nat):Int)/\((d.length+ (b++ [e,c]).length - 1:Nat):Int) < ((d.length+b.length+3+hi.length:Nat):Int):=by omega
  have b3: 0<=(((b++ [e,c]).length - 1:Nat):Int)/\(((b++ [e,c]).length - 1:Nat):Int) < ((b++ [e,c]).length:Int):=by omega
  rw [H,hrep,cj];refine P.step λR t=>ak ?_;rw [Gj];have c1:(d.length:Int)>=0:=by omega
  simp only [ai,↓reduceIte,Int.reduceBEq,Int.reduceEq,GD,c1,aL,ad d.length (b++ [e,c]).length (by omega),Q,b1,b2,b3,and_self,e5,e4,e1,w2',w3,x1,x2,or1,nz,x3,x4,x5];exact t
theorem w4(j l:Bool)(x:List Int)(b:Int)(z:Dg x)(K:x.length<=900)(hb: 0 < b/\b < 4294967296):∀(k:Nat) (r:Int) (c:List Int),k<=x.length->0<=r/\r < b->
  ∃Q R,Or xc [lu j x,lu l [b],o0,u6 r,I ((k:Int) - 1)] [ab.sl false 1 false (ax (List.replicate k 0++c))]=some [T.aa 1 false (ax (Q++c)),T.aa 1 false (ax [R])]/\Q.length=k/\Dg Q/\0<=R/\R < b/\val Q * b+R=val (x.take k)+4294967296 ^ k * r
 | 0,r,c,J,h=>by
  refine⟨[],r,ak ?_,rfl,(by intro a e;cases e),h.1,h.2,by simp [val]⟩;rw [Gk];have g:¬(((0:Nat):Int) - 1)>=0:=by omega
  have A:u32.wrap r=r:=by rw [cD];omega
  simp only [ai,↓reduceIte,Int.reduceBEq,Int.reduceEq,GD,g,A];rfl
 | k+1,r,c,J,h=>by
  have d:k < x.length:=by omega
  have e: 0<=aM x k/\aM x k < 4294967296:=by
   have:aM x k∈x:=by simp only [aM,Ul,Up d,UK];exact Wu d
   exact z _ this
  have f: 0<=r * 4294967296+aM x k:=by omega
  have t: 0<=(r * 4294967296+aM x k) / b:=VP f (by omega);have u:(r * 4294967296+aM x k) / b < 4294967296:=by rw [V9 hb.1];have:(r+1) * 4294967296<=b * 4294967296:=UJ (by omega) (by decide);rw [UF 4294967296 b];omega
  have w:=VL (r * 4294967296+aM x k) (show b≠0 by omega);have y:=Vk (r * 4294967296+aM x k) hb.1;have q:=Vz (r * 4294967296+aM x k) b;obtain⟨Q,R,h1,m,F,G,H,U⟩:=w4 j l x b z K hb k ((r * 4294967296+aM x k) % b) ((r * 4294967296+aM x k) / b::c) (by omega) ⟨w,y⟩;refine⟨Q++ [(r * 4294967296+aM x k) / b],R,ak ?_,by simp [m],Dg.append F (by intro a e;simp at e;subst e;exact⟨t,u⟩),G,H, ?_⟩
  .rw [Gk];have g:((k+1:Nat):Int) - 1= (k:Int):=by omega
   have B:(k:Int)>=0:=by omega
   have C: 0<=(k:Int)/\(k:Int) < (x.length:Int):=by omega
   have i:List.replicate (k+1) (0:Int)++c=List.replicate k 0++0::c:=by rw [XE,UR];rfl
   have D: 0<=(k:Int)/\(k:Int) < ((List.replicate k (0:Int)++0::c).length:Int):=by simp;omega
   have s:=nH (v:=r) (n:=aM x k) (by omega) e;have N:u64.wrap b=b:=bc (by omega);have O:(r * 4294967296+aM x k).tdiv b= (r * 4294967296+aM x k) / b:=Vg f;have P:(r * 4294967296+aM x k).tmod b= (r * 4294967296+aM x k) % b:=Vr f;have S:u32.wrap (u64.wrap ((r * 4294967296+aM x k) / b))= (r * 4294967296+aM x k) / b:=by rw [bc (by omega),cD];omega
   have L:¬b=0:=by omega
   have o:(0:Int)<=0/\(0:Int) < (([b]:List Int).length:Int):=by simp
   have p:(ax [b])[(0:Nat)]? =some [T.int .u32 b]:=rfl;have M:i64.wrap ((k:Int) - 1)= (k:Int) - 1:=Go.Aev.wr (by omega);rw [g,i];simp only [ai,↓reduceIte,Int.reduceBEq,Int.reduceEq,GD,B,C,aL,bD d,s,N,O,P,S,L,o,p,D,and_self,fi (List.replicate k 0) 0 _ c k (by simp),M];rw [show Q++ [(r * 4294967296+aM x k) / b] ++c=Q++ (r * 4294967296+aM x k) / b::c from by simp];exact h1
  .rw [eS,m,n9 d,Wm,Wv];simp only [val,WH,Wf];have E: 4294967296 ^ k * ((r * 4294967296+aM x k) / b) * b=4294967296 ^ k * (b * ((r * 4294967296+aM x k) / b)):=by
    rw [U0,UF _ b]
   have e2:(4294967296:Int) ^ k * (r * 4294967296+aM x k)=4294967296 ^ k * (b * ((r * 4294967296+aM x k) / b))+4294967296 ^ k * ((r * 4294967296+aM x k) % b):=by rw [<-UO,q]
   have e3:(4294967296:Int) ^ k * (r * 4294967296+aM x k)=4294967296 ^ k * 4294967296 * r+4294967296 ^ k * aM x k:=by rw [UO,U0,UF r]
   rw [E];omega
structure AL (s:Nat) (x y UU VV:List Int) (V2:List Int) (w2 w1:Int):Prop where
 hs:s < 32
 vv:VV=V2++ [w2] ++ [w1] ++ [0]
 dV:Dg (V2++ [w2,w1])
 h1: 1<=w1
 K1:val (V2++ [w2,w1])=val y * 2 ^ s
 ly:y.length=V2.length+2
 ge: 4294967296 ^ (V2.length+1)<=val y
 dU:Dg UU
 Ab:val UU=val x * 2 ^ s
 lu:UU.length=x.length+1
theorem PE{s:Nat}{x y b J c:List Int}{e d:Int}(ld:AL s x y b J c e d)(T:Dg x)(W:x.length<=400)(X:c.length+2<=x.length):
  ∃j:Nat,j+ (c.length+2)=x.length+1/\Good (tS (val x) (val y) (x.length+1)) (AF s false false false (c++ [e,d]) b (List.replicate b.length 0) ((j:Int) - 1)):=by
 have C:=gG s;have o:=fp T;obtain⟨j,B⟩:∃j:Nat,j+ (c.length+2)=x.length+1:=⟨x.length+1 - (c.length+2),by omega⟩;refine⟨j,B, ?_⟩;have g:=ld.lu;have k:b=b.take j++ (b.drop j++ []):=by simp
 have A:(b.drop j).length=c.length+2:=by simp [g];omega
 have i:(b.take j).length=j:=by simp [g];omega
 have N:=eS (b.take j) (b.drop j);rw [Xw,i] at N;have K:Dg (b.drop j):=λa O=>ld.dU a (Ww O);have u:=ld.dU.take j;have f:=ld.K1;have n:val (b.drop j) < val (c++ [e,d]):=by
  rcases VA (val (b.drop j)) (val (c++ [e,d])) with h | h
  .exact h
  .exfalso;have h1:(4294967296:Int) ^ j * val (c++ [e,d])<=4294967296 ^ j * val (b.drop j):=Ur h (Vw (gE _));have Y:=eB u;have h3:val x * (2:Int) ^ s < 4294967296 ^ x.length * 2 ^ s:=WD o C;have L:(4294967296:Int) ^ (c.length+1) * 2 ^ s<=val y * 2 ^ s:=UJ ld.ge (by omega);have M:(4294967296:Int) ^ j * (4294967296 ^ (c.length+1) * 2 ^ s)<=4294967296 ^ j * val (c++ [e,d]):=by
    rw [f];exact Ur L (Vw (gE _))
   rw [<-U0,<-Xa,show j+ (c.length+1)=x.length from by omega] at M;have:=ld.Ab;omega
 have l:=T5 s ld.hs false false false c e d ld.dV (by omega) ld.h1 (x.length+1) (val b) j (b.take j) (b.drop j) [] (List.replicate (c.length+2) 0) i (by omega) A u K (Ue _) n (by simp;omega) (by rw [Ac,WH,Wf];omega);rw [<-k,Xk,B,<-g] at l;obtain⟨R,r1,v,Q,w,Z,t,rfl,q1,H,q3,q4,q5,p,U,V⟩:=l;have z: 0 < val y:=by have:=gE (c.length+1);have:=ld.ge;omega
 have I:val x * 2 ^ s=val Q * (val y * 2 ^ s)+t:=by rw [<-ld.Ab,<-f];exact U.symm
 have m:t= (val x - val Q * val y) * 2 ^ s:=by rw [X4,U0];omega
 have D:val Z=val x - val Q * val y:=by rw [V,m,Int.mul_ediv_cancel _ (by omega)]
 have E:val Z < val y:=by rw [f] at p;rw [m,<-D] at p;exact XK p (by omega)
 have F:=eB H;have S:=XF z (a:=val x) (q:=val Q) (r:=val Z);obtain⟨P,G⟩:=S.2 ⟨by rw [UF];omega,F,E⟩;exact⟨_,r1,v,Q,w,Z,rfl,q1,H,P.symm,G.symm,by omega,by omega⟩
theorem H9{x y':List Int}{b a:Int}(Q:Dg x)(hy:Dg (y'++ [b,a]))(h1: 1<=a)(s:Nat)(hs:s < 32)(u:a * 2 ^ s < 4294967296):
  ∃g X W,g.length=y'.length/\AL s x (y'++ [b,a]) (eA (2 ^ s) x 0) (eA (2 ^ s) (y'++ [b,a]) 0) g X W:=by
 have p:(y'++ [b,a]).length=y'.length+2:=by simp
 have m:=gG s;have w:=pa (n:=s) (by omega);obtain⟨V,L,r⟩:=vM m w (x:=y'++ [b,a]) (c:=0) hy ⟨XM _,m⟩;obtain⟨K,T,U⟩:=vM m w (x:=x) (c:=0) Q ⟨XM _,m⟩;generalize eA (2 ^ s) (y'++ [b,a]) 0=M at *
 generalize eA (2 ^ s) x 0=UU at *
 rw [Wf] at V K;have v:=eS y' [b,a];have R:=fp hy.left;have hy2:=hy b (by simp);have hy1:=hy a (by simp);have hPp:=gE y'.length;obtain⟨A,q,rfl,o⟩:=je (l:=M) (n:=y'.length+2) (by rw [L,p]);have Y:=r q (by simp);have t:=eS A [q];rw [o] at t;simp only [val,WH,Wf] at t v;have O:=eB r.left;have C:val (y'++ [b,a]) * 2 ^ s < 4294967296 ^ (y'.length+2):=by
  have E:val (y'++ [b,a])<=4294967296 ^ (y'.length+1) * (a+1) - 1:=by
   have H:=fp (d:=y'++ [b]) (by
    have:y'++ [b,a]= (y'++ [b])++ [a]:=by simp
    rw [this] at hy;exact hy.left)
   have e:=eS (y'++ [b]) [a];rw [show(y'++ [b])++ [a]=y'++ [b,a] from by simp] at e;simp only [val,WH,Wf,Vu,UH,UX,UW] at e H;rw [UO,Xq];omega
  have y:(a+1) * (2:Int) ^ s<=4294967296:=by rw [w] at u⊢;have:a < 2 ^ (32 - s):=XK u (by omega);exact UJ (by omega) (by omega)
  have hpp:=gE (y'.length+1);have S:val (y'++ [b,a]) * (2:Int) ^ s<=(4294967296 ^ (y'.length+1) * (a+1) - 1) * 2 ^ s:=UJ E (by omega);have m2:(4294967296:Int) ^ (y'.length+1) * ((a+1) * 2 ^ s)<=4294967296 ^ (y'.length+1) * 4294967296:=Ur y (by omega);rw [X4,Vy,U0] at S;rw [show y'.length+2=y'.length+1+1 from rfl,Wm 4294967296 (y'.length+1)];omega
 have I:q=0:=by
  rcases VA 0 q with h | h
  .exfalso;have:(4294967296:Int) ^ (y'.length+2) * 1<=4294967296 ^ (y'.length+2) * q:=Ur (by omega) (Vw (gE _));omega
  .omega
 subst I;have j:val A=val (y'++ [b,a]) * 2 ^ s:=by omega
 obtain⟨V1,i,rfl,B⟩:=je o;obtain⟨g,f,rfl,k⟩:=je B;have G:g++ [f] ++ [i]=g++ [f,i]:=by simp
 rw [G] at j r o;have dV:=r.left;have z: 4294967296 ^ (y'.length+1)<=val (y'++ [b,a]):=by rw [v,Wm];have:(4294967296:Int) ^ y'.length * (4294967296 * 1)<=4294967296 ^ y'.length * (b+4294967296 * a):=Ur (by omega) (by omega);have:=eB hy.left;omega
 have F: 1<=(2:Int) ^ s:=by omega
 have P: 4294967296 ^ (y'.length+1)<=val (g++ [f,i]):=by rw [j];have:val (y'++ [b,a]) * 1<=val (y'++ [b,a]) * 2 ^ s:=Ur F (by have:=gE (y'.length+1);omega);omega
 have J: 1<=i:=by
  have Z:=dV i (by simp);rcases VA i 1 with h | h
  .exfalso;have N:i=0:=by omega
   subst N;have e:=eS (g++ [f]) [(0:Int)];have D:=fp (d:=g++ [f]) (by
    have:g++ [f,(0:Int)]= (g++ [f])++ [0]:=by simp
    rw [this] at dV;exact dV.left)
   rw [show g++ [f] ++ [(0:Int)]=g++ [f,0] from by simp] at e;simp only [val,WH,Wf,Vu,UH,UX,k,UW] at e D;omega
  .exact h
 exact⟨g,f,i,k,hs,rfl,dV,J,j,by rw [p,k],by rw [k];exact z,U,K,T⟩
theorem Ix(p q:Bool)(x y':List Int)(b a:Int)(l:Dg x)(hy:Dg (y'++ [b,a]))(h1: 1<=a)(o:x.length<=400)(K:y'.length+2<=x.length):∀(m s:Nat),s+m=32->s < 32->a * 2 ^ s < 4294967296->
  Good (tS (val x) (val (y'++ [b,a])) (x.length+1)) (Or w7 [lu p x,lu q (y'++ [b,a]),I (s:Int)] [])
 | 0,s,hm,hs,_=>by omega
 | m+1,s,hm,hs,H=>by
  have t:(y'++ [b,a]).length=y'.length+2:=by simp
  have z:(ax (y'++ [b,a]))[(((y'.length+1:Nat):Int)).toNat]? =some [T.int .u32 a]:=by have:=fv (y'++ [b]) a [] (y'.length+1) (by simp);simpa using this
  have O:i64.wrap (((y'++ [b,a]).length:Int) - 1)= ((y'.length+1:Nat):Int):=by rw [Go.Aev.wr (by omega)];omega
  have y: 0<=((y'.length+1:Nat):Int)/\((y'.length+1:Nat):Int) < ((y'++ [b,a]).length:Int):=by omega
  have M:min ((s:Int)).toNat 32=s:=by simp;omega
  have N:¬(s:Int) < 0:=by omega
  have W:=gG s;have X: 0<=a * (2:Int) ^ s:=Vi (by omega) (by omega);have P:u32.wrap (a * (2:Int) ^ s)=a * 2 ^ s:=by rw [cD];omega
  have g:(a * (2:Int) ^ s).fdiv ((2:Int) ^ 31)=a * 2 ^ s / 2147483648:=by rw [show((2:Int) ^ 31)=2147483648 from by decide,Vf _ (by omega)]
  by_cases hz:a * (2:Int) ^ s / 2147483648=0
  .have E:(2:Int) ^ (s+1)=2 ^ s * 2:=Wm 2 s;have u:a * (2:Int) ^ (s+1) < 4294967296:=by rw [E,<-U0];omega
   have G:s+1 < 32:=by
    rcases Ws (s+1) 32 with h | h
    .exact h
    .exfalso;have:s=31:=by omega
     subst this;have S:((2:Int) ^ 31)=2147483648:=by decide
     rw [S] at hz;omega
   refine(Ix p q x y' b a l hy h1 o K m (s+1) (by omega) G u).step λR r=>ak ?_;rw [Gi];simp only [ai,↓reduceIte,Int.reduceBEq,Int.reduceEq,GD,aL,O,y,and_self,z,M,N,P,g,hz,nx s (by omega)];exact r
  .obtain⟨e,d,c,i,ld⟩:=H9 l hy h1 s hs H;obtain⟨j,Y,Q⟩:=PE ld l o (by omega);have k:=J8 s hs q (y'++ [b,a]) hy (by omega);have w:=J8 s hs p x l (by omega);rw [ld.vv] at k;have V:=ld.lu;generalize eA (2 ^ s) x 0=f at *
   refine Q.step λR r=>ak ?_;have F:e++ [d] ++ [c]=e++ [d,c]:=by simp
   have A:bO 0 ((y'++ [b,a]).length:Int) ((e++ [d] ++ [c] ++ [0]).length:Int)=some ():=by unfold bO;rw [if_pos (by simp [i];omega)]
   have C:br (f.length:Int) (f.length:Int)=some ():=by unfold br cZ;rw [if_pos (by omega)]
   have J:List.take (((y'++ [b,a]).length:Int).toNat - 0) (ax (e++ [d] ++ [c] ++ [0]))=ax (e++ [d,c]):=by
    have D:((y'++ [b,a]).length:Int).toNat - 0= (e++ [d,c]).length:=by rw [t];simp only [Vu,UH,UX,i];omega
    simp only [D,F,ax,Wg];rw [Xs (by simp),Vh (by simp)]
   have U:i64.wrap (i64.wrap ((f.length:Int) - ((y'++ [b,a]).length:Int)) - 1)= (j:Int) - 1:=by rw [Go.Aev.wr (v:=(f.length:Int) - _) (by omega),Go.Aev.wr (by omega)];omega
   have L:List.replicate ((f.length:Int)).toNat [T.int u32 (0:Int)]=ax (List.replicate f.length 0):=by simp [ax]
   have B:((e++ [d,c]).length:Int)= ((y'++ [b,a]).length:Int):=by simp [i]
   have n:Or rv [I (s:Int),I ((e++ [d,c]).length:Int),lu false (e++ [d,c]),o0,o1,I ((j:Int) - 1)] (U2 false false f (List.replicate f.length 0))=some R:=r;rw [B] at n;rw [Gi];simp only [ai,↓reduceIte,Int.reduceBEq,Int.reduceEq,GD,aL,O,y,and_self,z,M,N,P,g,hz,k,w,A,C,J,U,L];exact n
theorem Sa(j k:Bool)(x y:List Int)(o:Dg x)(hy:Dg y)(m:Can y)(i:y≠[])(w:x.length<=400)(M:val y<=val x):Good (tS (val x) (val y) (x.length+1)) (Or (.call 149) [lu j x,lu k y] []):=by
 have A:=rG hy m i;have e:y.length<=x.length:=by
  rcases Ws x.length y.length with h | h
  .have:=mK o hy m h;omega
  .exact h
 by_cases h1:(y.length:Int)=1
 .match y,h1 with
  | [b],_=>
   have hb:=hy b (by simp);have d: 0 < b:=by simpa [val] using A
   obtain⟨Q,R,C,k2,H,I,J,K⟩:=w4 j k x b o (by omega) ⟨d,hb.2⟩ x.length 0 [] (by omega) ⟨by omega,d⟩;rw [WK,WH,Wf] at K;rw [Ve,Ve] at C;have g:val [b]=b:=by simp [val]
   have G:=XF d (a:=val x) (q:=val Q) (r:=R);obtain⟨q1,P⟩:=G.2 ⟨by rw [UF];omega,I,J⟩;refine⟨_,ak ?_,false,Q,false,[R],rfl,H,(by intro a t;simp at t;subst t;omega),by rw [g];exact q1.symm,by rw [g];simp [val];omega,by omega,by simp⟩;rw [Gh];have u:br (x.length:Int) (x.length:Int)=some ():=by unfold br cZ;rw [if_pos (by omega)]
   have L:i64.wrap ((x.length:Int) - 1)= (x.length:Int) - 1:=Go.Aev.wr (by omega);have B:List.replicate ((x.length:Int)).toNat [T.int u32 (0:Int)]=ax (List.replicate x.length 0):=by simp [ax]
   have s:(([b]:List Int).length:Int)=1:=by simp
   simp only [ai,↓reduceIte,Int.reduceBEq,Int.reduceEq,GD,aL,s,u,L,B];exact C
 .have E: 2<=y.length:=by have:=WV.2 i;omega
  obtain⟨D,c,rfl,N⟩:=je (l:=y) (n:=y.length - 1) (by omega);obtain⟨y',f,rfl,O⟩:=je (l:=D) (n:=D.length - 1) (by simp at E;omega);have v:y'++ [f] ++ [c]=y'++ [f,c]:=by simp
  have z: 1<=c:=by
   have:=m (y'.length+1) (by simp);rw [show aM (y'++ [f] ++ [c]) (y'.length+1)=c from by
    have:=rJ (y'++ [f]) c [] (y'.length+1) (by simp);simpa using this] at this
   have:=hy c (by simp);omega
  have p:=hy c (by simp);rw [v] at hy e h1⊢;refine(Ix j k x y' f c o hy z w (by simpa using e) 32 0 rfl (by omega) (by simpa using p.2)).step λR F=>ak ?_;rw [Gh];simp only [ai,↓reduceIte,Int.reduceBEq,Int.reduceEq,GD,aL,h1];exact F
open Go Go.Aev Go.Aev.Gen
theorem JB{z w:Int}{s t:Bool}{d a:List Int}(h:cd z s d)(b:cd w t a)(hz:z.natAbs<=w.natAbs):d.length<=a.length:=Dc h a.length (by
 have:=fp b.dg;rw [nN b] at this;omega)
def El(z m:Int)(r:Option (List T)):Prop:= ∃s e d s' e' a,r=some [T.aw,T.aw,tb s,T.aa 1 e (ax d),tb s',T.aa 1 e' (ax a)]/\cd z s d/\cd m s' a
theorem J5(s:Bool)(y:T)(d e2 f e3 p:Bool)(q:T)(a b:List Int)(u v:Int)(e:cd u d a)(hb:cd v f b)(I:a.length<=400)(lb:b.length<=400)(hv:v≠0):
  El (u.tdiv v) (u.tmod v) (Or (.call 139) [r0,AV.t (T.ptr [tb d,T.aa 1 e2 (ax a)]),AV.t (T.ptr [tb f,T.aa 1 e3 (ax b)]),AV.ref (Id.c 1) 0] [ab.box [AV.t (T.bool s),AV.t y],ab.box [AV.t (T.bool p),AV.t q]]):=by
 have j:=vJ a b d e2 f e3 e.dg hb.dg e.can hb.can (by omega) (by omega);have m:=eB e.dg;have x:=JC hb hv;obtain⟨i,hm⟩:=IY f d (val a) (val b) m x;have n:=e.z;have k:=hb.z;unfold num at n k;rw [n,k] at i hm;by_cases g:val a < val b
 .have l:bz (val a) (val b) < 0:=by unfold bz;rw [if_pos g];omega
  obtain⟨s',e',C,o,k2,B⟩:=Dx s y 0 (by omega);rw [X3 m g] at i;rw [YA m g,n] at hm;refine⟨s',e',C,d,false,a,ak ?_, ?_,by rw [hm];exact e⟩
  .rw [yv];simp only [ai,↓reduceIte,Int.reduceBEq,Int.reduceEq,GD,j,l,pj p q d e2 a (by omega),o]
  .rw [i];simpa using k2
 .have H:b.length<=a.length:=by
   rcases Ws a.length b.length with h | h
   .have:=mK e.dg hb.dg hb.can h;omega
   .exact h
  by_cases G:(a.length:Int) < 3
  .obtain⟨M,F,E,sm,em,D,o,k2,B,_,_⟩:=J4 s y d e2 f e3 p q a b u v e hb (by omega) (by omega) hv;exact⟨M,F,E,sm,em,D,o,k2,B⟩
  .have l:¬bz (val a) (val b) < 0:=by unfold bz;rw [if_neg g];split <;> omega
   have A:b≠[]:=by intro h;subst h;simp [val] at x
   obtain⟨R,r1,r,Q,w,Z,rfl,q1,J,K,L,P,S⟩:=Sa e2 e3 a b e.dg hb.dg hb.can A I (by omega);have N:=lr (!d==f) r Q (by omega);have O:=lr d w Z (by omega);refine⟨(!d==f) && decide (bG Q≠[]),r,bG Q,d && decide (bG Z≠[]),w,bG Z,ak ?_,pw (s:= !d==f) q1 ?_,pw (s:=d) J ?_⟩
   .rw [yv];simp only [ai,↓reduceIte,Int.reduceBEq,Int.reduceEq,GD,j,l,aL,G,r1,N,O]
   .rw [i];unfold num;rw [K]
   .rw [hm];unfold num;rw [L]
theorem R2(s:Bool)(y:T)(m e2 e e3 C:Bool)(H:T)(a b:List Int)(u v:Int)(l:cd u m a)(hb:cd v e b)(W:a.length<=390)(lb:b.length<=390)(hv: 0 < v):
  El (u / v) (u % v) (Or (.call 138) [r0,AV.t (T.ptr [tb m,T.aa 1 e2 (ax a)]),AV.t (T.ptr [tb e,T.aa 1 e3 (ax b)]),AV.ref (Id.c 1) 0] [ab.box [AV.t (T.bool s),AV.t y],ab.box [AV.t (T.bool C),AV.t H]]):=by
 have h:=pj false (T.aJ true) e e3 b (by omega);obtain⟨E,r,o,sm,em,k,A,k2,d⟩:=J5 s y m e2 e e3 C H a b u v l hb (by omega) (by omega) (by omega);have x:=pd hb;have:e=false:=by rw [x];simp;omega
 subst this;have i:=pd d;obtain⟨J,K⟩:=KF (u:=u) hv;have S:=JB k2 l (by rw [Ye];exact Yf _ _);have R:=JB d l (by rw [Int.natAbs_tmod];exact Nat.mod_le _ _);by_cases f:u.tmod v < 0
 .have:sm=true:=by rw [i];simpa using f
  subst this;obtain⟨q1,g⟩:=J f;obtain⟨G,L,M⟩:=qC 1 (by omega);obtain⟨s',e',I,rfl,z⟩:=M;have V:=sL z (by omega);obtain⟨F,w,p,N,B,X⟩:=JT E r s' e' o I _ _ k2 z (by omega) (by omega);obtain⟨U,Q,P,Y,O,Z⟩:=vH true em false e3 k b _ _ d hb (by omega) (by omega);rw [q1] at B;rw [g] at O;have j:=(vH true em false false k b _ _ d hb (by omega) (by omega));rw [g] at j;obtain⟨D,q,n,G,x2,x3⟩:=j;refine⟨F,w,p,D,q,n,ak ?_,B,x2⟩;rw [rS];simp only [ai,↓reduceIte,Int.reduceBEq,Int.reduceEq,GD,h,A,L,N,G]
 .have:sm=false:=by rw [i];simpa using f
  subst this;obtain⟨q1,g⟩:=K f;rw [q1] at k2;rw [g] at d;refine⟨E,r,o,false,em,k,ak ?_,k2,d⟩;rw [rS];simp only [ai,↓reduceIte,Int.reduceBEq,Int.reduceEq,GD,h,A]
open Go Go.Aev Go.Aev.Gen
def b9(z:Int):Prop:=(z.natAbs:Int) < 4294967296 ^ 200
theorem b9.len{z:Int}{s:Bool}{d:List Int}(h:b9 z)(r:cd z s d):d.length<=200:=Dc r 200 h
theorem b9.le{z w:Int}(h:b9 z)(a:w.natAbs<=z.natAbs):b9 w:=by
 unfold b9 at *
 have:(w.natAbs:Int)<=(z.natAbs:Int):=by omega
 exact Int.lt_of_le_of_lt this h
def Sm(z:Int):Prop:= -9223372036854775808 < z/\z < 9223372036854775808
theorem Sm.cZ{z:Int}(h:Sm z):b9 z:=by
 unfold Sm at h;unfold b9;have h1:(4294967296:Int) ^ 2<=4294967296 ^ 200:=vp (by omega);have a:(4294967296:Int) ^ 2=18446744073709551616:=by decide
 rw [a] at h1;exact Int.lt_of_lt_of_le (by omega) h1
def lK(z:Int)(r:Option (List T)):Prop:= ∃s e d,r=some [T.aw,tb s,T.aa 1 e (ax d)]/\cd z s d
theorem tT.g{z:Int}{n:Nat}{r:Option (List T)}(h:tT z n r):lK z r:=by obtain⟨s,e,d,a,k2,_⟩:=h;exact⟨s,e,d,a,k2⟩
abbrev r1:AV:=AV.ref (Id.c 1) 0
abbrev pt(s e:Bool)(d:List Int):T:=T.ptr [T.bool s,T.aa 1 e (ax d)]
theorem wi{z:Int}{s e:Bool}{d:List Int}(h:cd z s d):WI z (pt s e d):=⟨s,e,d,rfl,h⟩
theorem HI(s:Bool)(y:T){d x2:T}{u v:Int}(h1:WI u d)(g:WI v x2)(lu:b9 u)(i:b9 v)(hv:v≠0):
  lK (u.tdiv v) (Or (.call 117) [r0,AV.t d,AV.t x2] [ab.box [AV.t (T.bool s),AV.t y]]):=by
 obtain⟨j,e2,a,rfl,c⟩:=h1;obtain⟨k,e3,b,rfl,hb⟩:=g;have:=lu.len c;have:=i.len hb;obtain⟨l,f,e,sm,em,m,h,k2,n⟩:=J5 s y j e2 k e3 false (T.aJ true) a b u v c hb (by omega) (by omega) hv;refine⟨l,f,e,ak ?_,k2⟩;rw [Ns];simp only [ai,↓reduceIte,Int.reduceBEq,Int.reduceEq,GD,h]
theorem Pk(s:Bool)(y:T){d x2:T}{u v:Int}(h1:WI u d)(f:WI v x2)(lu:b9 u)(i:b9 v)(hv: 0 < v):
  lK (u % v) (Or (.call 113) [r0,AV.t d,AV.t x2] [ab.box [AV.t (T.bool s),AV.t y]]):=by
 obtain⟨j,e2,a,rfl,c⟩:=h1;obtain⟨k,e3,b,rfl,hb⟩:=f;have:=lu.len c;have:=i.len hb;obtain⟨n,m,l,sm,em,e,g,k2,h⟩:=R2 false (T.aJ true) j e2 k e3 s y a b u v c hb (by omega) (by omega) hv;refine⟨sm,em,e,ak ?_,h⟩;rw [yw];simp only [ai,↓reduceIte,Int.reduceBEq,Int.reduceEq,GD,g]
theorem uI(s:Bool)(y:T){d x2:T}{u v:Int}(h1:WI u d)(e:WI v x2)(lu:b9 u)(f:b9 v):
  lK (u * v) (Or (.call 91) [r0,AV.t d,AV.t x2] [ab.box [AV.t (T.bool s),AV.t y]]):=by
 obtain⟨h,e2,a,rfl,c⟩:=h1;obtain⟨i,e3,b,rfl,hb⟩:=e;have:=lu.len c;have:=f.len hb;exact(RX s y h e2 i e3 a b u v c hb (by omega) (by omega)).g
theorem Pf{c e2:Bool}{a:List Int}{x2:T}{u v:Int}(d:cd u c a)(e:WI v x2)(lu:b9 u)(f:b9 v):
  lK (u+v) (Or (.call 94) [r0,r0,AV.t x2] [ab.box [AV.t (T.bool c),AV.t (T.aa 1 e2 (ax a))]]):=by
 obtain⟨h,e3,b,rfl,hb⟩:=e;have:=lu.len d;have:=f.len hb;exact(vH c e2 h e3 a b u v d hb (by omega) (by omega)).g
theorem J3(s:Bool)(y:T)(a e2:Bool)(d:List Int)(r:List T)(b:d.length<=1000):Or (.call 114) [r0,AV.t (T.ptr (T.bool a::T.aa 1 e2 (ax d)::r))] [ab.box [AV.t (T.bool s),AV.t y]]=some [T.aw,tb a,T.aa 1 false (ax d)]:=by refine ak ?_;rw [Nk];have:bL 4 (ax d).length=some ():=jw (by rw [aL];omega);simp only [ai,↓reduceIte,Int.reduceBEq,Int.reduceEq,GD,this]
theorem R7(s e:Bool)(d:List Int)(a:d.length<=1000):Or (.call 114) [r0,r0] [ab.box [AV.t (T.bool s),AV.t (T.aa 1 e (ax d))]]=some [T.aw,tb s,T.aa 1 false (ax d)]:=by refine ak ?_;rw [Nl];have:bL 4 (ax d).length=some ():=jw (by rw [aL];omega);simp only [ai,↓reduceIte,Int.reduceBEq,Int.reduceEq,GD,this]
theorem J1(s:Bool)(y:T)(t:Bool)(u:T)(a e2:Bool)(d:List Int)(b:d.length<=1000):Or (.call 114) [r0,AV.t (pt a e2 d)] [ab.box [AV.t (T.bool s),AV.t y,AV.t (T.bool t),AV.t u]]=some [T.aw,tb a,T.aa 1 false (ax d),tb t,u]:=by refine ak ?_;rw [Ni];have:bL 4 (ax d).length=some ():=jw (by rw [aL];omega);simp only [ai,↓reduceIte,Int.reduceBEq,Int.reduceEq,GD,this]
theorem J2(s:Bool)(y:T)(t:Bool)(u:T)(a e2:Bool)(d:List Int)(b:d.length<=1000):Or (.call 114) [AV.ref (Id.c 0) 2,AV.t (pt a e2 d)] [ab.box [AV.t (T.bool s),AV.t y,AV.t (T.bool t),AV.t u]]=some [T.aw,tb s,y,tb a,T.aa 1 false (ax d)]:=by refine ak ?_;rw [Nj];have:bL 4 (ax d).length=some ():=jw (by rw [aL];omega);simp only [ai,↓reduceIte,Int.reduceBEq,Int.reduceEq,GD,this]
theorem IJ{a:Bool}{d:List Int}{z:Int}(hz:cd z a d):cd (-z) (!a && decide ((d.length:Int) > 0)) d:=by
 refine⟨hz.dg,hz.can,λh=> ?_, ?_⟩
 .simp only [Un,decide_eq_true_eq] at h;intro b;subst b;simp at h
 .have:=hz.z;unfold num at this⊢;cases a with
  | true=>simp at this⊢;omega
  | false=>
   simp only [UM,if_false] at this;by_cases c:(d.length:Int) > 0
   .simp [c];omega
   .have:d= []:=UA.1 (by omega);subst this;simp [val] at *
    omega
theorem R1(s:Bool)(y:T)(a e2:Bool)(d:List Int)(r:List T)(z:Int)(b:d.length<=1000)(hz:cd z a d):lK (-z) (Or (.call 118) [r0,AV.t (T.ptr (T.bool a::T.aa 1 e2 (ax d)::r))] [ab.box [AV.t (T.bool s),AV.t y]]):=by refine⟨_,false,d,ak ?_,IJ hz⟩;rw [M6];simp only [ai,↓reduceIte,Int.reduceBEq,Int.reduceEq,GD,J3 s y a e2 d r b,aL,dZ]
theorem JW(s e:Bool)(d:List Int)(z:Int)(a:d.length<=1000)(hz:cd z s d):lK (-z) (Or (.call 118) [r0,r0] [ab.box [AV.t (T.bool s),AV.t (T.aa 1 e (ax d))]]):=by refine⟨_,false,d,ak ?_,IJ hz⟩;rw [M7];simp only [ai,↓reduceIte,Int.reduceBEq,Int.reduceEq,GD,R7 s e d a,aL,dZ]
theorem J6(s:Bool)(y:T){x:T}{z:Int}(h:WI z x)(b:b9 z):lK (z.natAbs:Int) (Or (.call 110) [r0,AV.t x] [ab.box [AV.t (T.bool s),AV.t y]]):=by obtain⟨c,e2,d,rfl,a⟩:=h;have:=b.len a;refine⟨false,false,d,ak ?_,⟨a.dg,a.can,λh=>(by cases h),by simp [num,nN a]⟩⟩;rw [Nn];simp only [ai,↓reduceIte,Int.reduceBEq,Int.reduceEq,GD,pj s y c e2 d (by omega)]
theorem Dy(b e2:Bool)(d:List Int)(r:List T)(z:Int)(h:cd z b d):Or (.call 75) [AV.t (T.ptr (T.bool b::T.aa 1 e2 (ax d)::r))] []=some [ti z.sign]:=by
 refine ak ?_;rw [Np];have hs:=pd h;have e:=nN h;by_cases a:d= []
 .subst a;have:z=0:=by simp [val] at e;omega
  subst this;simp only [ai,↓reduceIte,Int.reduceBEq,Int.reduceEq,GD,aL,UX];rfl
 .have f:=rG h.dg h.can a;have c:¬(d.length:Int)=0:=by have:=WV.2 a;omega
  cases b with
  | true=>
   have:z < 0:=by simpa using hs.symm
   have:z.sign= -1:=Vx this;simp only [ai,↓reduceIte,Int.reduceBEq,Int.reduceEq,GD,aL,c,this]
  | false=>
   have:¬z < 0:=by simpa using hs.symm
   have:z.sign=1:=Vj (by omega);simp only [ai,↓reduceIte,Int.reduceBEq,Int.reduceEq,GD,aL,c,this]
theorem R4{h x2:T}{u v:Int}(h1:WI u h)(k:WI v x2)(lu:b9 u)(l:b9 v):Or (.call 73) [AV.t h,AV.t x2] []=some [ti (bz u v)]:=by
 obtain⟨e,e2,a,rfl,c⟩:=h1;obtain⟨f,e3,b,rfl,hb⟩:=k;have:=lu.len c;have:=l.len hb;have g:=vJ a b e e2 f e3 c.dg hb.dg c.can hb.can (by omega) (by omega);have d:=vJ b a f e3 e e2 hb.dg c.dg hb.can c.can (by omega) (by omega);have m:=pd c;have n:=pd hb;have i:=nN c;have j:=nN hb;refine ak ?_;rw [BL];cases e <;> cases f <;> simp only [Bool.true_eq,Bool.false_eq,decide_eq_true_eq,decide_eq_false_iff_not] at m n
 .simp only [ai,↓reduceIte,Int.reduceBEq,Int.reduceEq,GD,ff,g];have:bz (val a) (val b)=bz u v:=by rw [i,j];unfold bz;split <;> split <;> (try split) <;> (try split) <;> omega
  rw [this]
 .simp only [ai,↓reduceIte,Int.reduceBEq,Int.reduceEq,GD,ft];have:bz u v=1:=by unfold bz;rw [if_neg (by omega),if_neg (by omega)]
  rw [this]
 .simp only [ai,↓reduceIte,Int.reduceBEq,Int.reduceEq,GD,tf];have:bz u v= -1:=by unfold bz;rw [if_pos (by omega)]
  rw [this]
 .simp only [ai,↓reduceIte,Int.reduceBEq,Int.reduceEq,GD,tt,d];have:bz (val b) (val a)=bz u v:=by rw [i,j];unfold bz;split <;> split <;> (try split) <;> (try split) <;> omega
  rw [this]
theorem Qt(s:Bool)(y:T):∀(d c:Nat),c < 18446744073709551616->d < 18446744073709551616->lK ((Nat.gcd c d:Nat):Int) (Or wY [r0,AV.t (T.int .u64 (c:Int)),AV.t (T.int .u64 (d:Int))] [ab.box [AV.t (T.bool s),AV.t y]]):=by
 intro d;induction d using Nat.strongRecOn with
 | _ d k=>
  intro c n g;by_cases e:(d:Int) > 0
  .have hm:(c:Int).tmod (d:Int)= ((c % d:Nat):Int):=by rw [Vr (by omega),Int.natCast_emod]
   have f:c % d < d:=XD _ (by omega);obtain⟨s',e',a,b,k2⟩:=k (c % d) f d g (by omega);have i:Nat.gcd d (c % d)=Nat.gcd c d:=by rw [XU c d,Nat.gcd_rec d c,XU]
   rw [i] at k2;have j:¬(d:Int)=0:=by omega
   refine⟨s',e',a,ak ?_,k2⟩;rw [Gb];simp only [ai,↓reduceIte,Int.reduceBEq,Int.reduceEq,GD,e,j,hm];exact b
  .have:d=0:=by omega
   subst this;obtain⟨e',a,b,k2,l,m,o⟩:=vI s y (c:Int) (by omega);refine⟨false,e',a,ak ?_,⟨k2,l,λh=>(by cases h),by simp [num,m]⟩⟩;rw [Gb];simp only [ai,↓reduceIte,Int.reduceBEq,Int.reduceEq,GD,e,b]
theorem Qu(s:Bool)(y:T):∀(b a:Nat) (o x2:T),WI (a:Int) o->WI (b:Int) x2->b9 (a:Int)->b9 (b:Int)->lK ((Nat.gcd a b:Nat):Int) (Or wX [r0,AV.t o,AV.t x2] [ab.box [AV.t (T.bool s),AV.t y]]):=by
 intro b;induction b using Nat.strongRecOn with
 | _ b E=>
  intro a o x2 h1 f v lb;obtain⟨n,e2,p,rfl,h⟩:=h1;obtain⟨x,e3,q,rfl,g⟩:=f;have K:=v.len h;have lq:=lb.len g;have c:=Dy x e3 q [] (b:Int) g;by_cases B:b=0
  .subst B;refine⟨n,false,p,ak ?_,by simpa using h⟩;rw [BK];have:((0:Nat):Int).sign=0:=rfl;rw [this] at c;simp only [ai,↓reduceIte,Int.reduceBEq,Int.reduceEq,GD,c,pj s y n e2 p (by omega)]
  .have hs:(b:Int).sign=1:=Vj (by omega);rw [hs] at c;have k:¬(1:Int)=0:=by omega
   by_cases r:(p.length:Int) < 3/\(q.length:Int) < 3
   .have i:=jR n e2 p h.dg (by omega);have j:=jR x e3 q g.dg (by omega);have L:=nN h;have M:=nN g;have I:=fp h.dg;have bb:=fp g.dg;have f:∀d:List Int,d.length<=2->(4294967296:Int) ^ d.length<=18446744073709551616:=λd C=>by
     have f:(4294967296:Int) ^ d.length<=4294967296 ^ 2:=vp C;rw [show((4294967296:Int) ^ 2)=18446744073709551616 from by decide] at f;exact f
    have G:=f p (by omega);have H:=f q (by omega);have z:val p= (a:Int):=by omega
    have A:val q= (b:Int):=by omega
    rw [z] at i;rw [A] at j;obtain⟨s',e',l,m,k2⟩:=Qt s y b a (by omega) (by omega);refine⟨s',e',l,ak ?_,k2⟩;rw [BK];simp only [dZ,<-VF];simp only [ai,↓reduceIte,Int.reduceBEq,Int.reduceEq,GD,c,k,aL,r,and_self,i,j];exact m
   .obtain⟨sm,em,J,F,w⟩:=Pk false (T.aJ true) (wi (e:=e2) h) (wi (e:=e3) g) v lb (by omega);have hm:(a:Int) % (b:Int)= ((a % b:Nat):Int):=by simp
    rw [hm] at w;have u:a % b < b:=XD _ (by omega);obtain⟨s',e',l,m,k2⟩:=E (a % b) u b _ _ (wi (e:=e3) g) (wi (e:=em) w) lb (lb.le (by omega));have D:Nat.gcd b (a % b)=Nat.gcd a b:=by rw [XU a b,Nat.gcd_rec b a,XU]
    rw [D] at k2;refine⟨s',e',l,ak ?_,k2⟩;rw [BK];simp only [dZ,<-VF];simp only [ai,↓reduceIte,Int.reduceBEq,Int.reduceEq,GD,c,k,aL,r,F];exact m
theorem HF(s:Bool)(y:T){f x2:T}{u v:Int}(h1:WI u f)(c:WI v x2)(lu:b9 u)(d:b9 v):
  lK ((Int.gcd u v:Nat):Int) (Or (.call 71) [r0,AV.t T.aw,AV.t T.aw,AV.t f,AV.t x2] [ab.box [AV.t (T.bool s),AV.t y]]):=by
 obtain⟨w,l,n,g,h⟩:=J6 false (T.aJ true) h1 lu;obtain⟨x,eb,o,i,j⟩:=J6 false (T.aJ true) c d;obtain⟨s',e',k,m,k2⟩:=Qu s y v.natAbs u.natAbs _ _ (wi (e:=l) h) (wi (e:=eb) j) (lu.le (by omega)) (d.le (by omega));obtain⟨q,e2,a,rfl,p⟩:=h1;obtain⟨r,e3,b,rfl,hb⟩:=c;refine⟨s',e',k,ak ?_,k2⟩;rw [yq];simp only [ai,↓reduceIte,Int.reduceBEq,Int.reduceEq,GD,g,i];exact m
def WR(q:Rat)(x:T):Prop:= ∃s e d s' e' a,x=T.ptr [tb s,T.aa 1 e (ax d),tb s',T.aa 1 e' (ax a)]/\cd q.num s d/\cd (q.den:Int) s' a
def LQ(q:Rat):Prop:=b9 q.num/\b9 (q.den:Int)
def pJ(q:Rat)(r:Option (List T)):Prop:= ∃s e d s' e' a,r=some [T.aw,tb s,T.aa 1 e (ax d),tb s',T.aa 1 e' (ax a)]/\cd q.num s d/\cd (q.den:Int) s' a
abbrev b4(s:Bool)(y:T)(t:Bool)(u:T):ab:=ab.box [AV.t (T.bool s),AV.t y,AV.t (T.bool t),AV.t u]
theorem By{u v:Int}(hv:v≠0):(v < 0->(Rat.divInt u v).num= -(u.tdiv (Int.gcd u v:Nat))/\((Rat.divInt u v).den:Int)= -(v.tdiv (Int.gcd u v:Nat)))/\
  (¬v < 0->(Rat.divInt u v).num=u.tdiv (Int.gcd u v:Nat)/\((Rat.divInt u v).den:Int)=v.tdiv (Int.gcd u v:Nat)):=by
 have a:=Rat.num_divInt u v;have b:=Rat.den_divInt u v;rw [if_neg hv] at b;rw [Int.gcd_comm v u] at a b;have c:((Int.gcd u v:Nat):Int) ∣ u:=Int.gcd_dvd_left u v;have d:((Int.gcd u v:Nat):Int) ∣ v:=Int.gcd_dvd_right u v;have e:u.tdiv (Int.gcd u v:Nat)=u / (Int.gcd u v:Nat):=WA c;have e2:v.tdiv (Int.gcd u v:Nat)=v / (Int.gcd u v:Nat):=WA d;rw [e,e2];constructor
 .intro h;have hs:v.sign= -1:=Vx h;rw [hs] at a;constructor
  .rw [a,show -1 * u= -u from by omega,XP c]
  .rw [b,Int.natCast_ediv,Int.ofNat_natAbs_of_nonpos (by omega),XP d]
 .intro h;have hs:v.sign=1:=Vj (by omega);rw [hs,Vy] at a;constructor
  .exact a
  .rw [b,Int.natCast_ediv,Int.natAbs_of_nonneg (by omega)]
theorem KG(u:Int)(n:Nat):(u.tdiv (n:Int)).natAbs<=u.natAbs:=by rw [Ye];exact Yf _ _
theorem yS(s:Bool)(y:T)(t:Bool)(w:T)(B:Bool)(G:List (List T))(L:w.aT 1=some (B,G)){V x2:T}{u v:Int}(h1:WI u V)(D:WI v x2)(lu:b9 u)(n:b9 v)(hv:v≠0):
  pJ (Rat.divInt u v) (Or (.call 74) [r0,AV.t V,AV.t x2] [b4 s y t w]):=by
 obtain⟨sg,eg,dg,O,k2⟩:=HF false (T.aJ true) h1 D lu n;have f:((Int.gcd u v:Nat):Int)≠0:=by have:=Int.gcd_pos_of_ne_zero_right (a:=u) hv;omega
 have P:b9 ((Int.gcd u v:Nat):Int):=n.le (by
  have:=Nat.le_of_dvd (by omega) (YI u v);omega)
 obtain⟨sx,H,m,R,E⟩:=HI false (T.aJ true) h1 (wi (e:=eg) k2) lu P f;obtain⟨U,J,A,S,o⟩:=HI false (T.aJ true) D (wi (e:=eg) k2) n P f;have Q:b9 (u.tdiv (Int.gcd u v:Nat)):=lu.le (KG _ _);have ly:b9 (v.tdiv (Int.gcd u v:Nat)):=n.le (KG _ _);have lx':=Q.len E;have ly':=ly.len o;obtain⟨p1,p2⟩:=By (u:=u) hv;have q:=pd o;have j:v.tdiv (Int.gcd u v:Nat) < 0↔v < 0:=by
  have W:((Int.gcd u v:Nat):Int) ∣ v:=Int.gcd_dvd_right u v;obtain⟨k,X⟩:=W;have i: 0 < ((Int.gcd u v:Nat):Int):=by omega
  generalize ((Int.gcd u v:Nat):Int)=g at *
  subst X;rw [Int.mul_tdiv_cancel_left _ f];constructor
  .intro h;exact YB i h
  .intro h;rcases VA k 0 with C | C
   .exact C
   .have:=Vi (Vw i) C;omega
 obtain⟨s2,e2,a,rfl,ha⟩:=h1;obtain⟨s3,e3,b,rfl,hb⟩:=D;by_cases c:v < 0
 .obtain⟨q1,F⟩:=p1 c;have:U=true:=by rw [q];simpa using j.2 c
  subst this;obtain⟨l,I,d,Z,N⟩:=JW sx H m _ (by omega) E;obtain⟨r,K,p,Y,M⟩:=JW true J A _ (by omega) o;have jl:=(Q.le (w:= -(u.tdiv (Int.gcd u v:Nat))) (by omega)).len N;have il:=(ly.le (w:= -(v.tdiv (Int.gcd u v:Nat))) (by omega)).len M;have x:=J1 s y t w l I d (by omega);have z:=J2 l (T.aa 1 false (ax d)) t (T.aa 1 B G) r K p (by omega);refine⟨l,false,d,r,false,p,ak ?_,by rw [q1];exact N,by rw [F];exact M⟩;rw [Gc];simp only [ai,↓reduceIte,Int.reduceBEq,Int.reduceEq,GD,O,R,S,Z,Y,x,L,z]
 .obtain⟨q1,F⟩:=p2 c;have:U=false:=by rw [q,decide_eq_false_iff_not];exact λh=>c (j.1 h)
  subst this;have x:=J1 s y t w sx H m (by omega);have z:=J2 sx (T.aa 1 false (ax m)) t (T.aa 1 B G) false J A (by omega);refine⟨sx,false,m,false,false,A,ak ?_,by rw [q1];exact E,by rw [F];exact o⟩;rw [Gc];simp only [ai,↓reduceIte,Int.reduceBEq,Int.reduceEq,GD,O,R,S,x,L,z]
open Go Go.Aev Go.Aev.Gen
theorem wr{q:Rat}{s e s' e':Bool}{d a:List Int}(h1:cd q.num s d)(b:cd (q.den:Int) s' a):WR q (T.ptr [tb s,T.aa 1 e (ax d),tb s',T.aa 1 e' (ax a)]):=⟨s,e,d,s',e',a,rfl,h1,b⟩
theorem vD(q:Rat):(-q).num= -q.num:=rfl
theorem vu(q:Rat):(-q).den=q.den:=rfl
theorem Sl(q:Rat):(q.den:Int).sign=1:=Vj (by have:=q.den_pos;omega)
theorem yT{q:Rat}{x:T}(h:WR q x)(lq:LQ q):∃y,Or (.call 92) [AV.t x] []=some [y]/\WI q.num y:=by obtain⟨s,e,d,s',e',a,rfl,h1,b⟩:=h;have c:=lq.1.len h1;refine⟨pt s false d,ak ?_,wi h1⟩;rw [BN];simp only [ai,↓reduceIte,Int.reduceBEq,Int.reduceEq,GD,J3 false (T.aJ true) s e d [tb s',T.aa 1 e' (ax a)] (by omega)]
theorem uJ{q:Rat}{x:T}(h:WR q x)(lq:LQ q):∃y,Or (.call 93) [AV.t x] []=some [y]/\WI (q.den:Int) y:=by
 obtain⟨s,e,d,s',e',b,rfl,h1,c⟩:=h;have g:=lq.2.len c;have a:=Dy s' e' b [] _ c;rw [Sl] at a;refine⟨pt s' false b,ak ?_,wi c⟩;rw [Nq];have f:¬(1:Int)=0:=by omega
 simp only [ai,↓reduceIte,Int.reduceBEq,Int.reduceEq,GD,a,f,pj false (T.aJ true) s' e' b (by omega)]
theorem Pj{q:Rat}{x:T}(h:WR q x):Or (.call 37) [AV.t x] []=some [ti q.num.sign]:=by obtain⟨s,e,d,s',e',a,rfl,h1,b⟩:=h;refine ak ?_;rw [Nc];simp only [ai,↓reduceIte,Int.reduceBEq,Int.reduceEq,GD,Dy s e d _ _ h1]
theorem CM(p q:Rat):Rat.divInt (p.num * q.num) ((p.den:Int) * (q.den:Int))=p * q:=by
 conv=>rhs;rw [<-V7 p,<-V7 q]
 rw [Rat.divInt_mul_divInt]
theorem AZ(p q:Rat):Rat.divInt (p.num * (q.den:Int)+q.num * (p.den:Int)) ((p.den:Int) * (q.den:Int))=p+q:=by
 conv=>rhs;rw [<-V7 p,<-V7 q]
 rw [Rat.divInt_add_divInt _ _ (by have:=p.den_pos;omega) (by have:=q.den_pos;omega)]
theorem QC(q:Rat):Rat.divInt (-q.num) (q.den:Int)= -q:=by
 conv=>rhs;rw [<-V7 q]
 rw [Rat.neg_divInt]
theorem rL(p q:Rat):(p.den:Int) * (q.den:Int)≠0:=by have h1:=p.den_pos;have a:=q.den_pos;exact Int.mul_ne_zero (by omega) (by omega)
abbrev z4:ab:=b4 false (T.aJ true) false (T.aJ true)
theorem y9:(T.aJ true).aT 1=some (true,[]):=cA _ _
theorem Pg{p q:Rat}{x y:T}(g:WR p x)(hy:WR q y)(f:LQ p)(lq:LQ q)(A:b9 (p.num * q.num))(B:b9 ((p.den:Int) * (q.den:Int))):
  pJ (p * q) (Or (.call 46) [r0,AV.t x,AV.t y] [z4]):=by
 obtain⟨a,k,l⟩:=yT g f;obtain⟨b,m,n⟩:=yT hy lq;obtain⟨c,o,r⟩:=uJ g f;obtain⟨d,s,u⟩:=uJ hy lq;obtain⟨sm,em,I,C,D⟩:=uI false (T.aJ true) l n f.1 lq.1;obtain⟨K,w,J,E,F⟩:=uI false (T.aJ true) r u f.2 lq.2;obtain⟨G,v,i,H,e2,j,z,k2,h⟩:=yS false (T.aJ true) false (T.aJ true) true [] y9 (wi (e:=em) D) (wi (e:=w) F) A B (rL p q);rw [CM] at k2 h;obtain⟨_,_,_,_,_,_,rfl,_,_⟩:=g;obtain⟨_,_,_,_,_,_,rfl,_,_⟩:=hy;refine⟨G,v,i,H,e2,j,ak ?_,k2,h⟩;rw [yt];simp only [ai,↓reduceIte,Int.reduceBEq,Int.reduceEq,GD,k,m,o,s,C,E,z]
theorem HH{p q:Rat}{x y:T}(g:WR p x)(hy:WR q y)(f:LQ p)(lq:LQ q)(C:b9 (p.num * (q.den:Int)))(D:b9 (q.num * (p.den:Int)))(E:b9 (p.num * (q.den:Int)+q.num * (p.den:Int)))
  (F:b9 ((p.den:Int) * (q.den:Int))):pJ (p+q) (Or (.call 47) [r0,AV.t x,AV.t y] [z4]):=by
 obtain⟨a,m,n⟩:=yT g f;obtain⟨b,o,h⟩:=uJ hy lq;obtain⟨c,r,s⟩:=yT hy lq;obtain⟨d,u,i⟩:=uJ g f;obtain⟨sm,em,Q,G,H⟩:=uI false (T.aJ true) n h f.1 lq.2;obtain⟨U,w,R,I,J⟩:=uI false (T.aJ true) s i lq.1 f.2;obtain⟨V,z,P,o1,K⟩:=uI false (T.aJ true) i h f.2 lq.2;obtain⟨st,A,S,N,O⟩:=Pf (e2:=em) H (wi (e:=w) J) C D;obtain⟨L,v,k,M,e2,l,B,k2,j⟩:=yS false (T.aJ true) false (T.aJ true) true [] y9 (wi (e:=A) O) (wi (e:=z) K) E F (rL p q);rw [AZ] at k2 j;obtain⟨_,_,_,_,_,_,rfl,_,_⟩:=g;obtain⟨_,_,_,_,_,_,rfl,_,_⟩:=hy;refine⟨L,v,k,M,e2,l,ak ?_,k2,j⟩;rw [Na];simp only [ai,↓reduceIte,Int.reduceBEq,Int.reduceEq,GD,m,o,r,u,G,I,o1,N,B]
theorem LQ.neg{q:Rat}(h:LQ q):LQ (-q):=⟨h.1.le (by rw [vD];omega),h.2⟩
theorem Pm{q:Rat}{x:T}(a:WR q x)(lq:LQ q):pJ (-q) (Or (.call 95) [r0,AV.t x] [z4]):=by obtain⟨d,h,i⟩:=uJ a lq;obtain⟨s,e,D,s',e',c,rfl,h1,r⟩:=a;have u:=lq.1.len h1;obtain⟨sm,em,p,l,m⟩:=R1 false (T.aJ true) s e D [tb s',T.aa 1 e' (ax c)] _ (by omega) h1;obtain⟨n,j,f,o,e2,g,k,k2,b⟩:=yS false (T.aJ true) false (T.aJ true) true [] y9 (wi (e:=em) m) i (lq.1.le (by omega)) lq.2 (by have:=q.den_pos;omega);rw [QC] at k2 b;refine⟨n,j,f,o,e2,g,ak ?_,k2,b⟩;rw [Nr];simp only [ai,↓reduceIte,Int.reduceBEq,Int.reduceEq,GD,h,l,k]
theorem Ph{p q:Rat}{x y:T}(a:WR p x)(hy:WR q y)(r:LQ p)(lq:LQ q)(l:b9 (p.num * (q.den:Int)))(m:b9 (q.num * (p.den:Int)))(n:b9 (p.num * (q.den:Int) - q.num * (p.den:Int)))
  (o:b9 ((p.den:Int) * (q.den:Int))):pJ (p - q) (Or (.call 48) [r0,AV.t x,AV.t y] [z4]):=by
 obtain⟨z,j,v,A,eb,w,f,g,h⟩:=Pm hy lq;have e0:(-q).num * (p.den:Int)= -(q.num * (p.den:Int)):=by rw [vD,X2]
 obtain⟨s,i,c,u,e2,d,k,k2,b⟩:=HH a (wr (e:=j) (e':=eb) g h) r lq.neg (by rw [vu];exact l) (by rw [e0];exact m.le (by omega)) (by rw [e0,vu,<-Yu];exact n) (by rw [vu];exact o);rw [<-Yw] at k2 b;obtain⟨_,_,_,_,_,_,rfl,_,_⟩:=a;obtain⟨_,_,_,_,_,_,rfl,_,_⟩:=hy;refine⟨s,i,c,u,e2,d,ak ?_,k2,b⟩;rw [Nb];simp only [ai,↓reduceIte,Int.reduceBEq,Int.reduceEq,GD,f,k]
def pP(p q:Rat):Int:=(p - q).num.sign
theorem Pe{p q:Rat}{x y:T}(a:WR p x)(hy:WR q y)(j:LQ p)(lq:LQ q)(f:b9 (p.num * (q.den:Int)))(g:b9 (q.num * (p.den:Int)))(h:b9 (p.num * (q.den:Int) - q.num * (p.den:Int)))
  (i:b9 ((p.den:Int) * (q.den:Int))):Or (.call 17) [AV.t x,AV.t y] []=some [ti (pP p q)]:=by
 obtain⟨m,b,k,n,e2,l,c,k2,d⟩:=Ph a hy j lq f g h i;have:=Pj (wr (e:=b) (e':=e2) k2 d);obtain⟨_,_,_,_,_,_,rfl,_,_⟩:=a;obtain⟨_,_,_,_,_,_,rfl,_,_⟩:=hy;refine ak ?_;rw [M3];simp only [ai,↓reduceIte,Int.reduceBEq,Int.reduceEq,GD,c,this];rfl
theorem yR(n m:Int)(ln:Sm n)(c:Sm m)(hm:m≠0):∃x,Or (.call 36) [I n,I m] []=some [x]/\WR (Rat.divInt n m) x:=by obtain⟨a,d,f⟩:=qC n (by unfold Sm at ln;omega);obtain⟨b,g,h⟩:=qC m (by unfold Sm at c;omega);obtain⟨p,i,l,q,e2,o,j,k2,k⟩:=yS false (T.aJ true) false (T.aJ true) true [] y9 f h ln.cZ c.cZ hm;refine⟨_,ak ?_,wr (e:=i) (e':=e2) k2 k⟩;rw [uy];simp only [ai,↓reduceIte,Int.reduceBEq,Int.reduceEq,GD,d,g,j]
theorem HG(n m:Int)(ln:Sm n)(b:Sm m)(hm:m≠0):∃x,Or (.call 18) [AV.agg [I n,I m]] []=some [x]/\WR (Rat.divInt n m) x:=by obtain⟨x,a,k2⟩:=yR n m ln b hm;refine⟨x,ak ?_,k2⟩;rw [M9];simp only [ai,↓reduceIte,Int.reduceBEq,Int.reduceEq,GD,a]
theorem Pd(n m:Int):∃b,Or (.call 34) [AV.agg [I n,I m]] []=some [tb b]/\(b=true↔(1<=m/\m<=1073741824/\ -1073741824<=n/\n<=1073741824/\Int.gcd n m=1)):=by
 by_cases hb:((m < 1\/m > 1073741824)\/n < -1073741824)\/n > 1073741824
 .refine⟨false,ak ?_,by simp;omega⟩;rw [yo];simp only [gu,<-Vs];simp only [ai,↓reduceIte,Int.reduceBEq,Int.reduceEq,GD,hb]
 .obtain⟨a,f,g⟩:=qC n (by omega);obtain⟨b,i,j⟩:=qC m (by omega);obtain⟨c,k,l⟩:=qC 1 (by omega);obtain⟨sg,eg,dg,o,k2⟩:=HF false (T.aJ true) g j (Sm.cZ (by unfold Sm;omega)) (Sm.cZ (by unfold Sm;omega));have p:Int.gcd n m<=m.natAbs:=Nat.le_of_dvd (by omega) (YI n m);have d:=R4 (wi (e:=eg) k2) l (Sm.cZ (by unfold Sm;omega)) (Sm.cZ (by unfold Sm;omega));refine⟨(bz ((Int.gcd n m:Nat):Int) 1==0),ak ?_, ?_⟩
  .rw [yo];simp only [gu,<-Vs];simp only [ai,↓reduceIte,Int.reduceBEq,Int.reduceEq,GD,hb,f,i,k,o,d]
  .have:bz ((Int.gcd n m:Nat):Int) 1=0↔Int.gcd n m=1:=by
    unfold bz;split
    .constructor <;> intro h <;> omega
    .split <;> constructor <;> intro h <;> omega
   simp only [beq_iff_eq,this];omega
open Go Go.Aev Go.Aev.Gen
theorem Bx{u v:Int}(hv:v≠0):(Rat.divInt u v).num.natAbs<=u.natAbs/\(Rat.divInt u v).den<=v.natAbs:=by
 obtain⟨h1,c⟩:=By (u:=u) hv;have d:(u.tdiv (Int.gcd u v:Nat)).natAbs<=u.natAbs:=by rw [Ye];exact Yf _ _
 have e:(v.tdiv (Int.gcd u v:Nat)).natAbs<=v.natAbs:=by rw [Ye];exact Yf _ _
 by_cases h:v < 0
 .obtain⟨a,b⟩:=h1 h;constructor <;> omega
 .obtain⟨a,b⟩:=c h;constructor <;> omega
def QB(m:Nat)(q:Rat):Prop:=q.num.natAbs<=2 ^ m/\q.den<=2 ^ m
theorem Rm(k:Nat):(4294967296:Int) ^ k= ((2 ^ (32 * k):Nat):Int):=by rw [Nat.pow_mul,Int.natCast_pow];rfl
theorem PK{m k:Nat}{z:Int}(hm:m < 32 * k)(h:z.natAbs<=2 ^ m):(z.natAbs:Int) < 4294967296 ^ k:=by rw [Rm k];exact Int.ofNat_lt.2 (Nat.lt_of_le_of_lt h (Nat.pow_lt_pow_right (by omega) hm))
theorem kz{m:Nat}{z:Int}(hm:m<=6300)(h:z.natAbs<=2 ^ m):b9 z:=PK (by omega) h
theorem QB.lq{m:Nat}{q:Rat}(h:QB m q)(hm:m<=6300):LQ q:=⟨kz hm h.1,kz hm (by simpa using h.2)⟩
theorem QB.mono{m k:Nat}{q:Rat}(h:QB m q)(hm:m<=k):QB k q:=
 ⟨UY h.1 (WQ (by omega) hm),UY h.2 (WQ (by omega) hm)⟩
theorem fJ{a b m k:Nat}(c:a<=2 ^ m)(hb:b<=2 ^ k):a * b<=2 ^ (m+k):=by rw [Nat.pow_add];exact XX c hb
theorem QB.mul{m k:Nat}{p q:Rat}(a:QB m p)(b:QB k q):QB (m+k) (p * q):=by
 rw [<-CM];obtain⟨h1,c⟩:=Bx (u:=p.num * q.num) (rL p q);refine⟨UY h1 ?_,UY c ?_⟩
 .rw [UZ];exact fJ a.1 b.1
 .rw [UZ,UN,UN];exact fJ a.2 b.2
theorem xJ{m k:Nat}{p q:Rat}(a:QB m p)(b:QB k q):(p.num * (q.den:Int)+q.num * (p.den:Int)).natAbs<=2 ^ (m+k+1):=by
 have h1:(p.num * (q.den:Int)).natAbs<=2 ^ (m+k):=by rw [UZ,UN];exact fJ a.1 b.2
 have c:(q.num * (p.den:Int)).natAbs<=2 ^ (m+k):=by rw [UZ,UN,Yb m k];exact fJ b.1 a.2
 have d:=Int.natAbs_add_le (p.num * (q.den:Int)) (q.num * (p.den:Int));rw [Nat.pow_succ];omega
theorem QB.add{m k:Nat}{p q:Rat}(a:QB m p)(b:QB k q):QB (m+k+1) (p+q):=by rw [<-AZ];obtain⟨h1,c⟩:=Bx (u:=p.num * (q.den:Int)+q.num * (p.den:Int)) (rL p q);refine⟨UY h1 (xJ a b),UY c ?_⟩;rw [UZ,UN,UN];exact UY (fJ a.2 b.2) (WQ (by omega) (by omega))
theorem QB.neg{m:Nat}{q:Rat}(h:QB m q):QB m (-q):=⟨by rw [vD,Ym];exact h.1,h.2⟩
theorem QB.sub{m k:Nat}{p q:Rat}(a:QB m p)(b:QB k q):QB (m+k+1) (p - q):=by rw [Yw];exact a.add b.neg
theorem QB.divInt{m:Nat}{u v:Int}(hv:v≠0)(h1:u.natAbs<=2 ^ m)(c:v.natAbs<=2 ^ m):QB m (Rat.divInt u v):=by obtain⟨a,b⟩:=Bx (u:=u) hv;exact⟨UY a h1,UY b c⟩
theorem P8{m k:Nat}{p q:Rat}{x y:T}(c:WR p x)(hy:WR q y)(a:QB m p)(b:QB k q)(h:m+k<=6300):pJ (p * q) (Or (.call 46) [r0,AV.t x,AV.t y] [z4])/\QB (m+k) (p * q):=by
 refine⟨Pg c hy (a.lq (by omega)) (b.lq (by omega)) (kz h ?_) (kz h ?_),a.mul b⟩
 .rw [UZ];exact fJ a.1 b.1
 .rw [UZ,UN,UN];exact fJ a.2 b.2
theorem Lc{m k:Nat}{p q:Rat}{x y:T}(c:WR p x)(hy:WR q y)(a:QB m p)(b:QB k q)(h:m+k+1<=6300):pJ (p+q) (Or (.call 47) [r0,AV.t x,AV.t y] [z4])/\QB (m+k+1) (p+q):=by
 refine⟨HH c hy (a.lq (by omega)) (b.lq (by omega)) (kz (m:=m+k) (by omega) ?_) (kz (m:=k+m) (by omega) ?_) (kz h (xJ a b)) (kz (m:=m+k) (by omega) ?_),a.add b⟩
 .rw [UZ,UN];exact fJ a.1 b.2
 .rw [UZ,UN];exact fJ b.1 a.2
 .rw [UZ,UN,UN];exact fJ a.2 b.2
theorem sX{m k:Nat}{p q:Rat}(a:QB m p)(b:QB k q):(p.num * (q.den:Int) - q.num * (p.den:Int)).natAbs<=2 ^ (m+k+1):=by have:=xJ a b.neg;rw [vD,vu,X2,<-Yu] at this;exact this
theorem Fi{m k:Nat}{p q:Rat}{x y:T}(c:WR p x)(hy:WR q y)(a:QB m p)(b:QB k q)(h:m+k+1<=6300):Or (.call 17) [AV.t x,AV.t y] []=some [ti (pP p q)]:=by
 refine Pe c hy (a.lq (by omega)) (b.lq (by omega)) (kz (m:=m+k) (by omega) ?_) (kz (m:=k+m) (by omega) ?_) (kz h (sX a b)) (kz (m:=m+k) (by omega) ?_)
 .rw [UZ,UN];exact fJ a.1 b.2
 .rw [UZ,UN];exact fJ b.1 a.2
 .rw [UZ,UN,UN];exact fJ a.2 b.2
theorem Me(p q:Rat):pP p q < 0↔p < q:=by
 unfold pP;have hs:(p - q).num.sign < 0↔(p - q).num < 0:=by
  rcases Wc (p - q).num 0 with h | h | h
  .rw [Vx h];omega
  .rw [h];simp
  .rw [Vj h];omega
 rw [hs];have a:(p - q).num < 0↔¬0<=(p - q).num:=by omega
 rw [a,Xz,<-Rat.le_iff_sub_nonneg,Rat.not_le]
theorem Md(p q:Rat):pP p q=0↔p=q:=by
 unfold pP;rw [XR,Yg];constructor
 .intro h;grind
 .intro h;grind
abbrev Fr:=Int×Int
def gS(l:List Fr):List (List T):=l.map λx=> [ti x.1,ti x.2]
abbrev LN(e:Bool)(l:List Fr):AV:=AV.t (T.aa 2 e (gS l))
theorem cV(l:List Fr):(gS l).length=l.length:=by simp [gS]
theorem kV{l:List Fr}{i:Nat}{r:Fr}(h:l[i]? =some r):(gS l)[((i:Nat):Int).toNat]? =some [ti r.1,ti r.2]:=by simp [gS,h]
def bg(x:Fr):Prop:=1<=x.2/\x.2<=1073741824/\ -1073741824<=x.1/\x.1<=1073741824/\Int.gcd x.1 x.2=1
instance (x:Fr):Decidable (bg x):=by unfold bg;infer_instance
def aW(x:Fr):Rat:=Rat.divInt x.1 x.2
theorem B9{x:Fr}(h1: 1<=x.2/\x.2<=1073741824)(a: -1073741824<=x.1/\x.1<=1073741824):QB 30 (aW x):=QB.divInt (by omega) (by omega) (by omega)
def fj:List Int->List Fr->Rat->Rat
 | [],_,a=>a
 | c::of,x::xs,a=>fj of xs (a+aW x * Rat.divInt c 1)
 | _::_,[],a=>a
def jB(x:Fr):Prop:=(1<=x.2/\x.2<=1073741824)/\ -1073741824<=x.1/\x.1<=1073741824
theorem bg.b{x:Fr}(h:bg x):jB x:=⟨⟨h.1,h.2.1⟩,h.2.2.1,h.2.2.2.1⟩
theorem Qs(e B:Bool)(of:List Int)(d:List Fr)(hb:∀c∈of, -1000000<=c/\c<=1000000)(H:∀x∈d,jB x)(hl:of.length<=d.length)(hn:of.length<=100):∀(f:List Int) (i m:Nat) (g:Rat) (v:T),of.drop i=f->WR g v->QB m g->m+51 * f.length<=6200->
  ∃y,Or wT [aa e of,LN B d,AV.t v,I (i:Int)] []=some [y]/\WR (fj f (d.drop i) g) y/\QB (m+51 * f.length) (fj f (d.drop i) g):=by
 intro f;induction f with
 | nil=>
  intro i m g v h hv n hm;have h1:¬(i:Int) < (of.length:Int):=by have:=bu h;omega
  refine⟨v,ak ?_,by simpa [fj] using hv,by simpa [fj] using n⟩;rw [F5];simp only [ai,↓reduceIte,Int.reduceBEq,Int.reduceEq,GD,h1,cW]
 | cons c f J=>
  intro i m g v h hv n hm;obtain⟨o,g2,E⟩:=bq h;have h1:(i:Int) < (of.length:Int):=by omega
  have G:(i:Int) < (d.length:Int):=by omega
  have F: 0<=(i:Int):=by omega
  obtain⟨x,j⟩:∃x,d[i]? =some x:=⟨_,Up (by omega)⟩;have l:=H x (Uj j);have V:=hb c (Uj o);unfold jB at l;have r:d.drop i=x::d.drop (i+1):=by rw [VR (by omega)];congr 1;rw [Up (by omega)] at j;simpa using j
  obtain⟨a,s,u⟩:=HG x.1 x.2 (by unfold Sm;omega) (by unfold Sm;omega) (by omega);obtain⟨b,w,z⟩:=yR c 1 (by unfold Sm;omega) (by unfold Sm;omega) (by omega);obtain⟨⟨s1,A,W,s2,e2,X,O,k2,P⟩,Q⟩:=P8 (m:=30) (k:=20) (p:=aW x) (q:=Rat.divInt c 1) u z (B9 l.1 l.2) (QB.divInt (by omega) (by omega) (by omega)) (by omega);simp only [UH] at hm;obtain⟨⟨t1,C,Y,t2,D,Z,K,L,M⟩,N⟩:=Lc (m:=m) (k:=50) hv (wr (e:=A) (e':=e2) k2 P) n Q (by omega);obtain⟨y,R,S,U⟩:=J (i+1) (m+50+1) _ _ E (wr (e:=C) (e':=D) L M) N (by omega);refine⟨y,ak ?_,by rw [r,fj];exact S,by rw [r,fj,UH];exact U.mono (by omega)⟩;rw [F5];simp only [ai,↓reduceIte,Int.reduceBEq,Int.reduceEq,GD,h1,G,F,and_self,cW,cV,jg o,kV j,s,w,O,K,next i (by omega)];exact R
theorem JU(e f:Bool)(of:List Int)(b:List Fr)(hb:∀c∈of, -1000000<=c/\c<=1000000)(k:∀x∈b,jB x)(i:of.length<=b.length)(j:of.length<=100):
  ∃y,Or (.call 16) [aa e of,LN f b] []=some [y]/\WR (fj of b 0) y/\QB (51 * of.length) (fj of b 0):=by
 obtain⟨a,g,d⟩:=yR 0 1 (by unfold Sm;omega) (by unfold Sm;omega) (by omega);have h:Rat.divInt 0 1=0:=by simp
 rw [h] at d;obtain⟨y,l,m,n⟩:=Qs e f of b hb k i j of 0 0 0 a rfl d ⟨by simp,by simp⟩ (by omega);refine⟨y,ak ?_,by simpa using m,by simpa using n⟩;rw [BG];simp only [ai,↓reduceIte,Int.reduceBEq,Int.reduceEq,GD,g];exact l
end Go.Aev.Wd
