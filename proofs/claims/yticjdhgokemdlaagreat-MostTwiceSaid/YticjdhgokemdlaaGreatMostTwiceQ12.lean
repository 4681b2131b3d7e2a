import Derived.Test.YticjdhgokemdlaaGreatMostTwiceQ11
set_option linter.all false
namespace Go.Aev.Wd.Lg
open Go Go.Aev Go.Aev.Gen Go.Aev.Wd Go.IntKind
theorem Jm(j:Bool)(x:List Int)(b:Int)(y:Dg x)(J:x.length<=900)(hb: 0 < b/\b < 4294967296):∀(k:Nat) (r:Int) (c:List Int),k<=x.length->0<=r/\r < b->
  ∃Q R,Or xk [lu j x,AV.t (T.int .u32 b),o0,u6 r,I ((k:Int) - 1)] [ab.sl false 1 false (ax (List.replicate k 0++c))]=some [T.aa 1 false (ax (Q++c)),T.int .u32 R]/\Q.length=k/\Dg Q/\0<=R/\R < b/\val Q * b+R=val (x.take k)+4294967296 ^ k * r
 | 0,r,c,H,h=>by
  refine⟨[],r,al ?_,rfl,(by intro a e;cases e),h.1,h.2,by simp [val]⟩;rw [Gz];have g:¬(((0:Nat):Int) - 1)>=0:=by omega
  have z:u32.wrap r=r:=by rw [cF];omega
  simp only [ai,↓reduceIte,Int.reduceBEq,Int.reduceEq,GD,g,z];rfl
 | k+1,r,c,H,h=>by
  have d:k < x.length:=by omega
  have e: 0<=aN x k/\aN x k < 4294967296:=by
   have:aN x k∈x:=by simp only [aN,U9,Vd d,VD];exact WT d
   exact y _ this
  have f: 0<=r * 4294967296+aN x k:=by omega
  have p: 0<=(r * 4294967296+aN x k) / b:=WO f (by omega);have q:(r * 4294967296+aN x k) / b < 4294967296:=by rw [W4 hb.1];have:(r+1) * 4294967296<=b * 4294967296:=VA (by omega) (by decide);rw [Vw 4294967296 b];omega
  have u:=WL (r * 4294967296+aN x k) (show b≠0 by omega);have w:=Wj (r * 4294967296+aN x k) hb.1;have m:=Wx (r * 4294967296+aN x k) b;obtain⟨Q,R,h1,l,E,F,G,S⟩:=Jm j x b y J hb k ((r * 4294967296+aN x k) % b) ((r * 4294967296+aN x k) / b::c) (by omega) ⟨u,w⟩;refine⟨Q++ [(r * 4294967296+aN x k) / b],R,al ?_,by simp [l],Dg.append E (by intro a e;simp at e;subst e;exact⟨p,q⟩),F,G, ?_⟩
  .rw [Gz];have g:((k+1:Nat):Int) - 1= (k:Int):=by omega
   have A:(k:Int)>=0:=by omega
   have B: 0<=(k:Int)/\(k:Int) < (x.length:Int):=by omega
   have i:List.replicate (k+1) (0:Int)++c=List.replicate k 0++0::c:=by rw [Yx,VJ];rfl
   have C: 0<=(k:Int)/\(k:Int) < ((List.replicate k (0:Int)++0::c).length:Int):=by simp;omega
   have o:=nT (v:=r) (n:=aN x k) (by omega) e;have M:u64.wrap b=b:=bf (by omega);have N:(r * 4294967296+aN x k).tdiv b= (r * 4294967296+aN x k) / b:=Wg f;have O:(r * 4294967296+aN x k).tmod b= (r * 4294967296+aN x k) % b:=Wo f;have P:u32.wrap (u64.wrap ((r * 4294967296+aN x k) / b))= (r * 4294967296+aN x k) / b:=by rw [bf (by omega),cF];omega
   have K:¬b=0:=by omega
   have L:i64.wrap ((k:Int) - 1)= (k:Int) - 1:=cu (by omega);rw [g,i];simp only [ai,↓reduceIte,Int.reduceBEq,Int.reduceEq,GD,A,B,aM,bD d,o,M,N,O,P,K,C,and_self,fp (List.replicate k 0) 0 _ c k (by simp),L];rw [show Q++ [(r * 4294967296+aN x k) / b] ++c=Q++ (r * 4294967296+aN x k) / b::c from by simp];exact h1
  .rw [eV,l,ow d,Xh,Xs];simp only [val,XB,W8];have D: 4294967296 ^ k * ((r * 4294967296+aN x k) / b) * b=4294967296 ^ k * (b * ((r * 4294967296+aN x k) / b)):=by
    rw [VT,Vw _ b]
   have e2:(4294967296:Int) ^ k * (r * 4294967296+aN x k)=4294967296 ^ k * (b * ((r * 4294967296+aN x k) / b))+4294967296 ^ k * ((r * 4294967296+aN x k) % b):=by rw [<-VG,m]
   have e3:(4294967296:Int) ^ k * (r * 4294967296+aN x k)=4294967296 ^ k * 4294967296 * r+4294967296 ^ k * aN x k:=by rw [VG,VT,Vw r]
   rw [D];omega
theorem SH(c:Bool)(x:List Int)(b:Int)(j:Dg x)(h:x.length<=900)(hb: 0 < b/\b < 4294967296):
  ∃Q R,Or (.call 141) [lu c x,AV.t (T.int .u32 b)] []=some [T.aa 1 false (ax Q),T.int .u32 R]/\Q.length=x.length/\Dg Q/\0<=R/\R < 4294967296/\val Q=val x / b/\R=val x % b:=by
 obtain⟨Q,R,f,k2,k,g,l,m⟩:=Jm c x b j h hb x.length 0 [] (Vq _) ⟨by omega,hb.1⟩;rw [XE,XB,W8] at m;rw [We,We] at f;have i:=Yy hb.1 (a:=val x) (q:=val Q) (r:=R);obtain⟨q1,n⟩:=i.2 ⟨by rw [Vw];omega,g,l⟩;refine⟨Q,R,al ?_,k2,k,g,by omega,q1.symm,n.symm⟩;have d:br (x.length:Int) (x.length:Int)=some ():=by unfold br dY;rw [if_pos (by omega)]
 have o:i64.wrap ((x.length:Int) - 1)= (x.length:Int) - 1:=cu (by omega);have e:List.replicate ((x.length:Int)).toNat [T.int u32 (0:Int)]=ax (List.replicate x.length 0):=by simp [ax]
 rw [Ny];simp only [ai,↓reduceIte,Int.reduceBEq,Int.reduceEq,GD,aM,d,o,e];exact f
theorem RO{y z:Int}{n t:Nat}(b:n<=32)(hy: 0<=y/\y < (2:Int) ^ n)(hz:z= ((2 ^ n * t:Nat):Int))(hb:z < 4294967296)(a:z+y < 4294967296):
  u32.wrap (((BitVec.ofInt 32 z ||| BitVec.ofInt 32 y).toNat:Nat):Int)=z+y:=by
 rw [BitVec.or_comm];exact qU b hy hz hb a
theorem Rg(n:Nat)(W:n < 32)(e:Bool)(x:List Int)(H:Dg x)(V:x.length<=900):∀(b:List Int) (i:Nat) (c:Int) (done:List Int),x.drop i=b->done.length=i->i<=x.length->0<=c/\c < (2:Int) ^ n->
  Or xm [I (n:Int),o0,AV.t (T.int .u32 c),lu e x,I (x.length:Int),I (i:Int)] [ab.sl false 1 false (ax done)]=some [T.aa 1 false (ax (done++eI (2 ^ n) b c))]:=by
 have d:=gL n;have j:=pB (n:=n) (by omega);have U:=gL (32 - n);have K:(n:Int).tmod 32= (n:Int):=by rw [Wo (by omega)];omega
 have L:min ((n:Int)).toNat 32=n:=by rw [VE];omega
 have M:¬(n:Int) < 0:=by omega
 have N:i64.wrap (32 - (n:Int))= ((32 - n:Nat):Int):=by rw [cu (by omega)];omega
 have O:min (((32 - n:Nat):Int)).toNat 64=32 - n:=by rw [VE];omega
 have P:¬((32 - n:Nat):Int) < 0:=by omega
 intro b;induction b with
 | nil=>
  intro i c done h k hi g;have h1:¬(i:Int) < (x.length:Int):=by have:=bw h;omega
  refine al ?_;rw [GA];simp only [ai,↓reduceIte,Int.reduceBEq,Int.reduceEq,GD,h1,aM,nq,nr,od (done.length+1) (by omega),eI]
 | cons a b J=>
  intro i c done h k hi g;obtain⟨B,C,D⟩:=bt h;have f:=H a (Va B);have o:=fI h;have h1:(i:Int) < (x.length:Int):=by omega
  have E: 0<=(i:Int):=by omega
  have r: 0<=a * (2:Int) ^ n:=Wh f.1 (by omega);have v:a * (2:Int) ^ n < 4294967296 * (2:Int) ^ n:=Xy f.2 d;have m: 0<=a * (2:Int) ^ n / 4294967296:=WO r (by decide);have l:a * (2:Int) ^ n / 4294967296 < (2:Int) ^ n:=by rw [W4 (by decide),Vw (2 ^ n)];exact v
  have p:a.fdiv ((2:Int) ^ (32 - n))=a * (2:Int) ^ n / 4294967296:=by
   rw [Wf _ (by omega)]
   conv=>rhs;rw [j]
   rw [Int.mul_ediv_mul_of_pos_left _ _ d]
  have z:=wz d j (x:= [a]) (c:=c) (by intro u A;simp at A;subst A;exact f) g;have S:=z.2.2 (a * 2 ^ n % 4294967296+c) (by simp [eI]);have w:=zD (a:=a) d j;have y:u32.wrap (((BitVec.ofInt 32 (a * (2:Int) ^ n % 4294967296) ||| BitVec.ofInt 32 c).toNat:Nat):Int)=a * (2:Int) ^ n % 4294967296+c:=by have q:=WL a (show(2:Int) ^ (32 - n)≠0 by omega);obtain⟨t,G⟩:=WY q;exact RO (n:=n) (t:=t) (by omega) g (by rw [w,G,nX,Vw,<-XK]) (by omega) (by omega)
  have Q:u64.wrap a=a:=bf (by omega);have F:(2:Int) ^ n<=2147483648:=by have:(2:Nat) ^ n<=2 ^ 31:=Xt (by decide) (by omega);rw [nX];omega
  have R:u32.wrap (a * (2:Int) ^ n / 4294967296)=a * (2:Int) ^ n / 4294967296:=by rw [cF];omega
  have:=J (i+1) (a * (2:Int) ^ n / 4294967296) (done++ [a * (2:Int) ^ n % 4294967296+c]) D (by simp [k]) (by omega) ⟨m,l⟩;refine al ?_;rw [GA];simp only [K,L,N,O];simp only [ai,↓reduceIte,Int.reduceBEq,Int.reduceEq,GD,h1,E,and_self,aM,bD C,o,M,P,Q,cF (a * (2:Int) ^ n),y,p,R,nq,nr,od (done.length+1) (by omega),nx i (by omega)];rw [eI,show done++ (a * 2 ^ n % 4294967296+c)::eI (2 ^ n) b (a * 2 ^ n / 4294967296)= (done++ [a * 2 ^ n % 4294967296+c])++eI (2 ^ n) b (a * 2 ^ n / 4294967296) from by simp];exact this
theorem KF(n:Nat)(c:n < 32)(e:Bool)(x:List Int)(d:Dg x)(b:x.length<=900):Or (.call 143) [lu e x,I (n:Int)] []=some [T.aa 1 false (ax (eI (2 ^ n) x 0))]:=by
 have h1:=Rg n c e x d b x 0 0 [] rfl rfl (by omega) ⟨Yh _,gL n⟩;have f:(n:Int).tdiv 32=0:=by rw [Wg (by omega)];omega
 have g:i64.wrap 0=0:=cu (by omega);have w4:i64.wrap ((x.length:Int)+0)= (x.length:Int):=by rw [cu (by omega)];omega
 have a:br 0 ((x.length+1:Nat):Int)=some ():=by unfold br dY;rw [if_pos (by omega)]
 refine al ?_;rw [NA];simp only [f,g,aM,w4,nx x.length (by omega)];simp only [ai,↓reduceIte,Int.reduceBEq,Int.reduceEq,GD,a];exact h1
theorem Ri(n:Nat)(hn:n < 32)(e e':Bool)(P:Bool)(x:List Int)(N:Dg x)(hl:x.length<=900):∀(c:List Int) (i:Nat) (done:List Int),x.drop i=c->done.length=i->i<=x.length->
  Or rR [lu e x,I (n:Int),B P,o0,lu e' x,I (x.length:Int),I (i:Int)] [ab.sl false 1 false (ax (done++List.replicate c.length 0))]=some [T.aa 1 false (ax (done++cX (2 ^ n) (2 ^ (32 - n)) c)),tb P]:=by
 have M:=gL n;have C:=pB (n:=n) (by omega);have K:=gL (32 - n);have E:min ((n:Int)).toNat 32=n:=by rw [VE];omega
 have F:¬(n:Int) < 0:=by omega
 have V:i64.wrap (32 - (n:Int))= ((32 - n:Nat):Int):=by rw [cu (by omega)];omega
 have W:min (((32 - n:Nat):Int)).toNat 32=32 - n:=by rw [VE];omega
 have X:¬((32 - n:Nat):Int) < 0:=by omega
 intro c;induction c with
 | nil=>
  intro i done h f hi;have h1:¬(i:Int) < (x.length:Int):=by have:=bw h;omega
  refine al ?_;rw [yL];simp only [ai,↓reduceIte,Int.reduceBEq,Int.reduceEq,GD,h1,cX,VS,WW]
 | cons a c k=>
  intro i done h f hi;obtain⟨Q,y,d⟩:=bt h;have H:=N a (Va Q);have m:=fI h;have h1:(i:Int) < (x.length:Int):=by omega
  have z: 0<=(i:Int):=by omega
  have j:done++List.replicate (a::c).length 0=done++0::List.replicate c.length 0:=by simp [VX]
  have g: 0<=(i:Int)/\(i:Int) < ((done++0::List.replicate c.length 0).length:Int):=by simp;omega
  have o:a.fdiv ((2:Int) ^ n)=a / 2 ^ n:=Wf _ (by omega);have v: 0<=(i:Int)/\(i:Int) < ((done++ (a / 2 ^ n)::List.replicate c.length 0).length:Int):=by simp;omega
  have p:∀b:Int,0<=b/\b < 4294967296->(b * (2:Int) ^ (32 - n)) % 4294967296= (b % 2 ^ n) * 2 ^ (32 - n):=λb hb=>zD K (by rw [Vw];exact C);have r: 0<=a / (2:Int) ^ n:=WO H.1 (by omega);have u:a / (2:Int) ^ n < 2 ^ (32 - n):=by rw [W4 M,<-C];exact H.2
  match c,d,k with
  | [],d,k=>
   have Y:=bw d;have A:¬((i+1:Nat):Int) < (x.length:Int):=by omega
   have:=k (i+1) (done++ [a / 2 ^ n]) d (by simp [f]) (by omega);refine al ?_;rw [yL,j];simp only [E,eZ,<-W3];simp only [ai,↓reduceIte,Int.reduceBEq,Int.reduceEq,GD,h1,z,and_self,aM,bD y,m,F,g,o,fp done 0 _ _ i f,nx i (by omega),A,false_and];rw [show done++ (a / 2 ^ n)::List.replicate ([]:List Int).length 0= (done++ [a / 2 ^ n])++List.replicate ([]:List Int).length 0 from by simp,
    show done++cX (2 ^ n) (2 ^ (32 - n)) [a]= (done++ [a / 2 ^ n])++cX (2 ^ n) (2 ^ (32 - n)) [] from by simp [cX]]
   exact this
  | b::c,d,k=>
   obtain⟨U,k2,k3⟩:=bt d;have hb:=N b (Va U);have J:=fI d;have A:((i+1:Nat):Int) < (x.length:Int):=by omega
   have G: 0<=((i+1:Nat):Int):=by omega
   have l:=WL b (show(2:Int) ^ n≠0 by omega);have R:=Wj b M;have O:(b % 2 ^ n+1) * (2:Int) ^ (32 - n)<=2 ^ n * 2 ^ (32 - n):=VA (by omega) (by omega);rw [Xs,Ww,Vw ((2:Int) ^ n),<-C] at O;have Z: 0<=(b % 2 ^ n) * (2:Int) ^ (32 - n):=Wh l (by omega);by_cases w:(n:Int) > 0
   .have:=k (i+1) (done++ [a / 2 ^ n+b * 2 ^ (32 - n) % 4294967296]) d (by simp [f]) (by omega);have L:u32.wrap (((BitVec.ofInt 32 (a / (2:Int) ^ n) ||| BitVec.ofInt 32 (b * (2:Int) ^ (32 - n) % 4294967296)).toNat:Nat):Int)=a / 2 ^ n+b * 2 ^ (32 - n) % 4294967296:=by
     obtain⟨t,S⟩:=WY l;rw [qU (n:=32 - n) (t:=t) (by omega) ⟨r,u⟩ (by rw [p b hb,S,nX (32 - n),Vw,<-XK]) (by rw [p b hb];omega) (by rw [p b hb];omega)];omega
    have q:((i+1:Nat):Int) < (x.length:Int)/\(n:Int) > 0:=⟨A,w⟩;refine al ?_;rw [yL,j];simp only [E,eZ,<-W3];simp only [ai,↓reduceIte,Int.reduceBEq,Int.reduceEq,GD,h1,z,and_self,aM,bD y,m,F,g,o,fp done 0 _ _ i f,nx i (by omega),q,v,fA done _ _ i f,G,bD k2,J,V,W,X,cF (b * (2:Int) ^ (32 - n)),L,fp done (a / 2 ^ n) _ _ i f];rw [show done++ (a / 2 ^ n+b * 2 ^ (32 - n) % 4294967296)::List.replicate (b::c).length 0= (done++ [a / 2 ^ n+b * 2 ^ (32 - n) % 4294967296])++List.replicate (b::c).length 0 from by simp,
     show done++cX (2 ^ n) (2 ^ (32 - n)) (a::b::c)= (done++ [a / 2 ^ n+b * 2 ^ (32 - n) % 4294967296])++cX (2 ^ n) (2 ^ (32 - n)) (b::c) from by simp [cX]]
    exact this
   .have D:n=0:=by omega
    have hz:b * (2:Int) ^ (32 - n) % 4294967296=0:=by rw [D,show((2:Int) ^ (32 - 0))=4294967296 from by decide];omega
    have:=k (i+1) (done++ [a / 2 ^ n+b * 2 ^ (32 - n) % 4294967296]) d (by simp [f]) (by omega);rw [hz,W8] at this;refine al ?_;rw [yL,j];simp only [E,eZ,<-W3];simp only [ai,↓reduceIte,Int.reduceBEq,Int.reduceEq,GD,h1,z,and_self,aM,bD y,m,F,g,o,fp done 0 _ _ i f,nx i (by omega),w,and_false];rw [show done++ (a / 2 ^ n)::List.replicate (b::c).length 0= (done++ [a / 2 ^ n])++List.replicate (b::c).length 0 from by simp,
     show done++cX (2 ^ n) (2 ^ (32 - n)) (a::b::c)= (done++ [a / 2 ^ n])++cX (2 ^ n) (2 ^ (32 - n)) (b::c) from by simp [cX,hz]]
    exact this
theorem SK(n:Nat)(v:n < 32)(e:Bool)(x:List Int)(y:Dg x)(u:x.length<=900)(o: 0 < x.length):∃b,Or (.call 145) [lu e x,I (n:Int)] []=some [T.aa 1 false (ax (cX (2 ^ n) (2 ^ (32 - n)) x)),tb b]:=by
 obtain⟨a,r,rfl⟩:∃a r,x=a::r:=by
  cases x with
  | nil=>simp at o
  | cons a r=>exact⟨a,r,rfl⟩
 have z:(n:Int).tdiv 32=0:=by rw [Wg (by omega)];omega
 have A:(n:Int).tmod 32= (n:Int):=by rw [Wo (by omega)];omega
 have C:i64.wrap (32 - (n:Int))= ((32 - n:Nat):Int):=by rw [cu (by omega)];omega
 have D:¬((32 - n:Nat):Int) < 0:=by omega
 have E:i64.wrap 0=0:=cu (by omega);have i:mm false 0 ((a::r).length:Int)=0:=by rw [I8];omega
 have f:bQ 0 0 ((a::r).length:Int)=some ():=by unfold bQ;rw [if_pos (by omega)]
 have g:bQ 0 ((a::r).length:Int) ((a::r).length:Int)=some ():=by unfold bQ;rw [if_pos (by omega)]
 have l:sub 0 0 (ax (a::r))= []:=by simp [sub]
 have m:sub 0 ((a::r).length:Int) (ax (a::r))=ax (a::r):=by unfold sub;rw [VE,Int.toNat_zero,Yo,Wq,V9 (by rw [aM];exact Vq _)]
 have h:br ((a::r).length:Int) ((a::r).length:Int)=some ():=by unfold br dY;rw [if_pos (by omega)]
 have p:ax ([] ++List.replicate (a::r).length 0)=List.replicate (a::r).length [T.int u32 0]:=by simp [ax]
 have k:¬((a::r).length:Int)=0:=by omega
 have q:(ax (a::r))[(0:Nat)]? =some [T.int .u32 a]:=rfl;have w:(0:Int)<=0/\(0:Int) < ((a::r).length:Int):=by omega
 have key:∀c:Bool,Or rR [lu e (a::r),I (n:Int),B c,o0,lu e (a::r),I ((a::r).length:Int),I 0] [ab.sl false 1 false (List.replicate (a::r).length [T.int u32 0])]=some [T.aa 1 false (ax (cX (2 ^ n) (2 ^ (32 - n)) (a::r))),tb c]:=λc=>by have:=Ri n v e e c (a::r) y u (a::r) 0 [] rfl rfl (by omega);rw [p] at this;exact this
 have nd:∃b,Or ue [lu e (a::r),I (n:Int),B false,I 0,AV.t (T.aa 1 e []),I (([]:List (List T)).length:Int),I 0] []=some [T.aa 1 false (ax (cX (2 ^ n) (2 ^ (32 - n)) (a::r))),tb b]:=by
  have st:∃b,az ao ann Or ue [lu e (a::r),I (n:Int),B false,I 0,AV.t (T.aa 1 e []),I (([]:List (List T)).length:Int),I 0] []=some [T.aa 1 false (ax (cX (2 ^ n) (2 ^ (32 - n)) (a::r))),tb b]:=by
   rw [NF];have d:¬(0:Int) < (([]:List (List T)).length:Int):=by simp
   simp only [A,C];simp only [ai,↓reduceIte,Int.reduceBEq,Int.reduceEq,GD,d,aM,g,m,k,w,q,D,h,VE];exact⟨_,key _⟩
  obtain⟨b,st⟩:=st;exact⟨b,al st⟩
 obtain⟨b,j⟩:=nd;refine⟨b,al ?_⟩;rw [ND];simp only [z,E,aM,i];simp only [ai,↓reduceIte,Int.reduceBEq,Int.reduceEq,GD,f,l];exact j
theorem Br{t:Int}(h: 0<=t/\t < 18446744073709551616):u64.wrap (((BitVec.ofInt 64 t &&& BitVec.ofInt 64 4294967295).toNat:Nat):Int)=t % 4294967296:=by
 obtain⟨a,rfl⟩:=WY h.1;have b:a % 2 ^ 64=a:=XD (by omega);have e2:(BitVec.ofInt 64 4294967295).toNat=2 ^ 32 - 1:=by decide
 rw [BitVec.toNat_and,e2,Nat.and_two_pow_sub_one_eq_mod,X3,Ye,b,bf (by omega)];omega
theorem Cd(a:List Int)(b:Int)(r:List Int)(i:Nat)(h:a.length=i):(ax (a++b::r))[i]? =some [T.int .u32 b]:=by have:=fA a b r i h;rwa [VE] at this
theorem wv(a:List Int)(b v:Int)(r:List Int)(i:Nat)(h:a.length=i):bo i 0 [T.int .u32 v] (ax (a++b::r))=some (ax (a++v::r)):=by have:=fp a b v r i h;rwa [VE] at this
theorem Rh(ev ec:Bool)(v:List Int)(hv:Dg v)(d hi:List Int)(top q:Int)(Q: 0<=top/\top < 4294967296)(L: 0<=q/\q < 4294967296)(P:v.length<=1000):∀(vs:List Int) (i:Nat) (c b:Int) (done us:List Int),v.drop i=vs->i<=v.length->done.length=i->us.length=vs.length->Dg us->0<=c/\c < 4294967296->0<=b/\b<=1->
  Or rQ [AV.part (Id.c 0) 1 d.length (v.length+1),lu ev v,u6 q,u6 b,u6 c,I ((v.length+1:Nat):Int),I (i:Int)] [ab.sl false 1 ec (ax (d++ (done++us++top::hi)))]=
   some [tb (decide (ct (top - (eK q us vs c b).1 - (eK q us vs c b).2) > 0)),T.aa 1 ec (ax (d++ (done++im q us vs c b++ ((top - (eK q us vs c b).1 - (eK q us vs c b).2) % 4294967296)::hi)))]:=by
 intro vs;induction vs with
 | nil=>
  intro i c b done us h y j f e H hb;have N:=bw h;obtain rfl:i=v.length:=by omega
  obtain rfl:us= []:=Vt.1 (by simpa using f);simp only [im,eK];have h1:(v.length:Int) < ((v.length+1:Nat):Int):=by omega
  have n:¬(v.length:Int) < (v.length:Int):=by omega
  have m: 0<=(v.length:Int):=by omega
  have p:∀z,d++ (done++ [] ++z::hi)= (d++done)++z::hi:=λz=>by simp
  have g:(d++done).length=d.length+v.length:=by simp [j]
  have k:u64.wrap top=top:=bf (by omega);have w:c % 4294967296=c:=by omega
  have K:i64.wrap ((v.length:Int)+1)= ((v.length+1:Nat):Int):=nx _ (by omega);have o:¬((v.length+1:Nat):Int) < ((v.length+1:Nat):Int):=by omega
  have r:Or rQ [AV.part (Id.c 0) 1 d.length (v.length+1),lu ev v,u6 q,u6 (ct (top - c - b)),u6 (c / 4294967296),I ((v.length+1:Nat):Int),I ((v.length+1:Nat):Int)] [ab.sl false 1 ec (ax ((d++done)++ ((top - c - b) % 4294967296)::hi))]=
    some [tb (decide (ct (top - c - b) > 0)),T.aa 1 ec (ax ((d++done)++ ((top - c - b) % 4294967296)::hi))]:=by
   refine al ?_;rw [B3];simp only [ai,↓reduceIte,Int.reduceBEq,Int.reduceEq,GD,o]
  refine al ?_;rw [B3];simp only [p];simp only [ai,↓reduceIte,Int.reduceBEq,Int.reduceEq,GD,h1,n,m,and_self,aM,VE,Cd (d++done) top hi _ g,k,Br (t:=c) (by omega),w,rC,wQ,wv (d++done) top _ hi _ g,ij,oZ (v:=top - c - b) (by omega),K];exact r
 | cons a vs M=>
  intro i c b done us h y j f e H hb;obtain⟨E,u,F⟩:=bt h;have G:=hv a (Va E);have l:=fI h
  match us,f,e with
  | x::us,f,e=>
   have R:=e x Vb;have O:=lk L G;rw [im,eK];have:=M (i+1) ((c+q * a) / 4294967296) (ct (x - (c+q * a) % 4294967296 - b)) (done++ [(x - (c+q * a) % 4294967296 - b) % 4294967296]) us F (by omega) (by simp [j]) (by simpa using f) e.tail (by omega) (BC _);have h1:(i:Int) < ((v.length+1:Nat):Int):=by omega
   have n:(i:Int) < (v.length:Int):=by omega
   have m: 0<=(i:Int):=by omega
   have p:d++ (done++x::us++top::hi)= (d++done)++x:: (us++top::hi):=by simp
   have A:d++ (done++ [(x - (c+q * a) % 4294967296 - b) % 4294967296] ++us++top::hi)= (d++done)++ ((x - (c+q * a) % 4294967296 - b) % 4294967296):: (us++top::hi):=by simp
   have g:(d++done).length=d.length+i:=by simp [j]
   rw [A] at this;rw [p];have B:u64.wrap a=a:=bf (by omega);have C:u64.wrap (q * a)=q * a:=bf (by omega);have D:u64.wrap (c+q * a)=c+q * a:=bf (by omega);have k:u64.wrap x=x:=bf (by omega);refine al ?_;rw [B3];simp only [ai,↓reduceIte,Int.reduceBEq,Int.reduceEq,GD,h1,n,m,and_self,aM,bD u,l,VE,Cd (d++done) x _ _ g,B,C,D,k,Br (t:=c+q * a) (by omega),rC,wQ,wv (d++done) x _ _ _ g,ij,oZ (v:=x - (c+q * a) % 4294967296 - b) (by omega),nx i (by omega)];have J:(ax v)[i]? =some [T.int .u32 a]:=by have:=bD u;rw [VE,l] at this;exact this
   simp only [ai,↓reduceIte,Int.reduceBEq,Int.reduceEq,GD,J,B,C,D,k,Br (t:=c+q * a) (by omega),rC,wQ,wv (d++done) x _ _ _ g,ij,oZ (v:=x - (c+q * a) % 4294967296 - b) (by omega),Cd (d++done) x _ _ g];exact this.trans (by simp)
theorem SJ(ev ec:Bool)(v:List Int)(hv:Dg v)(a hi w:List Int)(top q:Int)(f: 0<=top/\top < 4294967296)(e: 0<=q/\q < 4294967296)(b:v.length<=1000)(g:Dg w)(d:w.length=v.length):
  Or (.call 144) [AV.part (Id.c 0) 1 a.length (v.length+1),lu ev v,u6 q] [ab.sl false 1 ec (ax (a++ (w++top::hi)))]=
   some [tb (decide (ct (top - (eK q w v 0 0).1 - (eK q w v 0 0).2) > 0)),T.aa 1 ec (ax (a++ (im q w v 0 0++ ((top - (eK q w v 0 0).1 - (eK q w v 0 0).2) % 4294967296)::hi)))]:=by
 have:=Rh ev ec v hv a hi top q f e b v 0 0 0 [] w rfl (by omega) rfl d g (by omega) (by omega);refine al ?_;rw [NB];simpa using this
open Go Go.Aev Go.Aev.Gen Go.Aev.Wd
theorem Rb(s:Nat)(ev ec0 ec1:Bool)(v:List Int)(hv:Dg v)(b hi j:List Int)(top q:Int)(E:b.length<=1000)(F:v.length<=1000)(R:List T):∀(vs:List Int) (i:Nat) (c:Int) (done us:List Int),v.drop i=vs->i<=v.length->done.length=i->us.length=vs.length->Dg us->0<=c/\c<=1->
  Or pZ [I (s:Int),lu ev v,o0,I (v.length:Int),o1,I (b.length:Int),u6 q,u6 (gT us vs c),lu ev v,I (v.length:Int),I (v.length:Int)] (U2 ec0 ec1 (b++ (done++dF us vs c++top::hi)) j)=some R->
  Or pZ [I (s:Int),lu ev v,o0,I (v.length:Int),o1,I (b.length:Int),u6 q,u6 c,lu ev v,I (v.length:Int),I (i:Int)] (U2 ec0 ec1 (b++ (done++us++top::hi)) j)=some R:=by
 intro vs;induction vs with
 | nil=>
  intro i c done us h m g e d w f;have D:=bw h;obtain rfl:i=v.length:=by omega
  obtain rfl:us= []:=Vt.1 (by simpa using e);simpa only [dF,gT] using f
 | cons a vs z=>
  intro i c done us h m g e d w f;obtain⟨p,r,t⟩:=bt h;have G:=hv a (Va p);have l:=fI h
  match us,e,d,f with
  | x::us,e,d,f=>
   have H:=d x Vb;rw [dF,gT] at f;have:=z (i+1) ((c+ (x+a)) / 4294967296) (done++ [(c+ (x+a)) % 4294967296]) us t (by omega) (by simp [g]) (by simpa using e) d.tail (by omega) (by
    simpa only [VJ,Vf,Vg] using f)
   have h1:(i:Int) < (v.length:Int):=by omega
   have u: 0<=(i:Int):=by omega
   have y:b++ (done++x::us++top::hi)= (b++done)++x:: (us++top::hi):=by simp
   have o:b++ (done++ [(c+ (x+a)) % 4294967296] ++us++top::hi)= (b++done)++ ((c+ (x+a)) % 4294967296):: (us++top::hi):=by simp
   have n:(b++done).length=b.length+i:=by simp [g]
   rw [o] at this;rw [y];have k: 0<=((b.length+i:Nat):Int)/\((b.length+i:Nat):Int) < (((b++done)++x:: (us++top::hi)).length:Int):=by simp [g];omega
   have A:u64.wrap a=a:=bf (by omega);have B:u64.wrap x=x:=bf (by omega);have C:u64.wrap (x+a)=x+a:=bf (by omega);have w4:u64.wrap (c+ (x+a))=c+ (x+a):=bf (by omega);refine al ?_;rw [Gv];simp only [ai,↓reduceIte,Int.reduceBEq,Int.reduceEq,GD,h1,u,and_self,aM,bD r,l,ad b.length i (by omega),k,fA (b++done) x _ _ n,A,B,C,w4,cF,fp (b++done) x _ _ _ n,ij,nx i (by omega)];exact this
section
variable (s:Nat) (ev ec0 ec1:Bool)
noncomputable abbrev xn(v:List Int)(u a:List Int)(k:Int):Option (List T):=Or rP [I (s:Int),lu ev v,o0,I (v.length:Int),o1,I k] (U2 ec0 ec1 u a)
def EX(v u:List Int)(k:Nat)(d:List Int)(e:List T->Prop)(a:Int):Prop:=
 (∃b:List Int,Or (.call 144) [AV.part (Id.c 0) 1 k (v.length+1),lu ev v,u6 a] [ab.sl false 1 ec0 (ax u)]=some [tb false,T.aa 1 ec0 (ax b)]/\Wd.Good e (xn s ev ec0 ec1 v b (List.replicate k 0++a::d) ((k:Int) - 1)))\/
 (∃b:List Int,Or (.call 144) [AV.part (Id.c 0) 1 k (v.length+1),lu ev v,u6 a] [ab.sl false 1 ec0 (ax u)]=some [tb true,T.aa 1 ec0 (ax b)]/\1<=a/\Wd.Good e (Or pZ [I (s:Int),lu ev v,o0,I (v.length:Int),o1,I (k:Int),u6 (a - 1),u6 0,lu ev v,I (v.length:Int),I 0] (U2 ec0 ec1 b (List.replicate k 0++0::d))))
theorem Nn(v:List Int)(a hi:List Int)(hv:Dg v)(y:v.length<=1000)(U:a.length<=1000)(w:List Int)(top:Int)(V:Dg w)(f:w.length=v.length)(ht: 0<=top/\top < 4294967296)(L: 0 < val v)(m:List Int)(X:List T->Prop)
  (q:Int) (hq:q= (val w+4294967296 ^ v.length * top) / val v) (d:Int) (hq1:q<=d) (hq2:d<=q+1) (x: 0<=d/\d < 4294967296) (hq0: 0<=q)
  (next:∀p:List Int,Dg p->p.length=v.length->val p= (val w+4294967296 ^ v.length * top) % val v->Wd.Good X (xn s ev ec0 ec1 v (a++ (p++0::hi)) (List.replicate a.length 0++q::m) ((a.length:Int) - 1))):
  EX s ev ec0 ec1 v (a++ (w++top::hi)) a.length m X d:=by
 obtain⟨H,n,o,s4,s5,s6,s7⟩:=Dd x (us:=w) (vs:=v) (c:=0) (b:=0) f V hv (by omega) (by omega);have g:=SJ ev ec0 v hv a hi w top d ht x y V f;have hvV:=fu hv;have hm0:=eJ o;have u:=fu o;rw [n] at u;rw [f] at H u;have P:=Wx (val w+4294967296 ^ v.length * top) (val v);have hr0:=WL (val w+4294967296 ^ v.length * top) (show val v≠0 by omega);have hr1:=Wj (val w+4294967296 ^ v.length * top) L;rw [<-hq] at P;generalize (val w+4294967296 ^ v.length * top) % val v=r at *
 have S:(List.replicate a.length (0:Int)).length=a.length:=by simp
 generalize im d w v 0 0=M at *
 generalize eK d w v 0 0=Y at *
 obtain⟨c,b⟩:=Y;dsimp only at H s4 s5 s6 s7 g;have N: 0<=(a.length:Int)/\(a.length:Int) < ((List.replicate a.length (0:Int)++0::m).length:Int):=by simp;omega
 have D:¬(v.length:Int) < (v.length:Int):=by omega
 have i:=gI v.length;have e:val M+4294967296 ^ v.length * (top - c - b)= (val w+4294967296 ^ v.length * top) - d * val v:=by rw [H,ZR,ZR,VG];omega
 have J:∀z:Int,z<= -1->4294967296 ^ v.length * z<= -(4294967296 ^ v.length):=λz hz=>by have:(4294967296:Int) ^ v.length * z<=4294967296 ^ v.length * (-1):=Vh hz (Wu i);omega
 have C:∀z:Int,1<=z->4294967296 ^ v.length<=(4294967296:Int) ^ v.length * z:=λz hz=>by have:(4294967296:Int) ^ v.length * 1<=4294967296 ^ v.length * z:=Vh hz (Wu i);omega
 by_cases Z:d=q
 .subst Z;have hz:top - c - b=0:=by
   rcases Xj (top - c - b) 0 with h | h | h
   .have:=J (top - c - b) (by omega);rw [Vw d] at e;omega
   .exact h
   .have:=C (top - c - b) (by omega);rw [Vw d] at e;omega
  have k:decide (ct (top - c - b) > 0)=false:=by rw [hz];rfl
  rw [k,show(top - c - b) % 4294967296=0 from by rw [hz];rfl] at g;exact .inl ⟨_,g,next M o (by rw [n,f]) (by rw [hz] at e;rw [Vw d] at e;omega)⟩
 .have Q:d=q+1:=by omega
  have hq'V:d * val v=val v * q+val v:=by rw [Q,Xs,Ww,Vw]
  have hz:top - c - b= -1:=by
   rcases Xj (top - c - b) (-1) with h | h | h
   .exfalso;have:(4294967296:Int) ^ v.length * (top - c - b)<=4294967296 ^ v.length * (-2):=Vh (by omega) (Wu i);omega
   .exact h
   .exfalso;have:(4294967296:Int) ^ v.length * 0<=4294967296 ^ v.length * (top - c - b):=Vh (by omega) (Wu i);omega
  have k:decide (ct (top - c - b) > 0)=true:=by rw [hz];rfl
  rw [k,show(top - c - b) % 4294967296=4294967295 from by rw [hz];rfl] at g;obtain⟨A,j,B,a4,a5⟩:=Bm (us:=M) (vs:=v) (c:=0) (by rw [n,f]) o hv (by omega);rw [n,f] at A j;have hA0:=eJ B;have I:=fu B;rw [j] at I;rw [hz] at e;have hM:val M=r - val v+4294967296 ^ v.length:=by omega
  have t:gT M v 0=1:=by
   rcases Wy (gT M v 0) 1 with h | h
   .exfalso;have:gT M v 0=0:=by omega
    rw [this] at A;omega
   .omega
  rw [t] at A;have E:d - 1=q:=by omega
  refine .inr ⟨_,g,by omega, ?_⟩;rw [E];refine(next (dF M v 0) B j (by omega)).step λR K=> ?_;have G:=Rb s ev ec0 ec1 v hv a hi (List.replicate a.length 0++0::m) 4294967295 q U y R v 0 0 [] M rfl (by omega) rfl (by rw [n,f]) o (by omega) (by
   rw [t];refine al ?_;rw [Gv];have F:a++ ([] ++dF M v 0++4294967295::hi)= (a++dF M v 0)++4294967295::hi:=by simp
   rw [F];have l:(a++dF M v 0).length=a.length+v.length:=by simp [j]
   have O: 0<=((a.length+v.length:Nat):Int)/\((a.length+v.length:Nat):Int) < (((a++dF M v 0)++4294967295::hi).length:Int):=by simp [j];omega
   have W:u32.wrap (4294967295+u32.wrap 1)=0:=by rw [cF,cF];rfl
   have wq:u32.wrap q=q:=by rw [cF];omega
   rw [show a++ (dF M v 0++0::hi)= (a++dF M v 0)++0::hi from by simp] at K;simp only [ai,↓reduceIte,Int.reduceBEq,Int.reduceEq,GD,D,aM,ad a.length v.length (by omega),O,and_self,fA (a++dF M v 0) _ hi _ l,W,fp (a++dF M v 0) _ _ hi _ l,N,wq,fp _ 0 _ m _ S,wP a.length (by omega)];exact K)
  simpa using G
end
theorem Rc(s k:Nat)(ev ec0 ec1:Bool)(v u N:List Int)(Φ:List T->Prop){U V P w0 v0 n f c D q:Int}(hvl:v.length<=1000)(hkl:k<=1000)(hn2: 2<=v.length)(hul:k+v.length < u.length)
  (o:(ax v)[((v.length - 1:Nat):Int).toNat]? =some [T.int .u32 c]) (p:(ax v)[((v.length - 2:Nat):Int).toNat]? =some [T.int .u32 f]) (r:(ax u)[((k+v.length - 2:Nat):Int).toNat]? =some [T.int .u32 n])
  (hP: 0 < P) (hU:U=w0+P * n+4294967296 * (P * D)) (hV:V=v0+P * f+4294967296 * (P * c)) (hw: 0<=w0/\w0 < P) (L: 0<=v0/\v0 < P) (hu2: 0<=n/\n < 4294967296) (w: 0<=f/\f < 4294967296) (hv1: 1<=c/\c < 4294967296)
  (hU0: 0<=U) (hUV:U < V * 4294967296) (J: 0 < V) (Y:q=U / V)
  (go:∀M,q<=M->M<=q+1->0<=M->M < 4294967296->EX s ev ec0 ec1 v u k N Φ M):
  ∀(m:Nat) (qh d:Int),4294967296 - d<=(m:Int)->qh * c+d=D->0<=d/\d < 4294967296->q<=qh->qh < 18446744073709551616->
   Wd.Good Φ (Or xg [I (s:Int),lu ev v,o0,I (v.length:Int),o1,I (k:Int),u6 qh,u6 d] (U2 ec0 ec1 u (List.replicate k 0++0::N))):=by
 have hqV:q * V<=U:=by rw [Y];exact Zc _ (by omega)
 have hq0: 0<=q:=by rw [Y];exact WO hU0 (by omega)
 have hqV1:U < (q+1) * V:=by rw [Y,Xs,Ww];have:=Wx U V;have:=Wj U J;rw [Vw V] at *;omega
 have hT3:D < 4294967296 * (c+1):=by
  rcases Wy D (4294967296 * (c+1)) with h | h
  .exact h
  .exfalso;have h1:P * (4294967296 * (c+1))<=P * D:=Vh h (by omega);have h2:P * f<=P * 4294967295:=Vh (by omega) (by omega);have h3: 0<=P * n:=Wh (by omega) hu2.1;rw [VU,VG,Yi] at h1;omega
 have hkz:(List.replicate k (0:Int)).length=k:=by simp
 have hb2: 0<=(k:Int)/\(k:Int) < ((List.replicate k (0:Int)++0::N).length:Int):=by simp;omega
 have i:i64.wrap ((k:Int)+ (v.length:Int))= ((k+v.length:Nat):Int):=ad k v.length (by omega);have g:i64.wrap (((k+v.length:Nat):Int)+1)= ((k+v.length+1:Nat):Int):=nx _ (by omega);have z:bQ (k:Int) ((k+v.length+1:Nat):Int) (u.length:Int)=some ():=by unfold bQ;rw [if_pos (by omega)]
 have B:((k+v.length+1:Nat):Int).toNat - k=v.length+1:=by omega
 have C:((k:Int)).toNat=k:=by omega
 intro m;induction m with
 | zero=>intro qh d hm _ hr _ _;omega
 | succ m ih=>
  intro qh d hm hT hr hqq hq64;have O:i64.wrap ((v.length:Int) - 2)= ((v.length - 2:Nat):Int):=by rw [cu (by omega)];omega
  have Q:i64.wrap (((k+v.length:Nat):Int) - 2)= ((k+v.length - 2:Nat):Int):=by rw [cu (by omega)];omega
  have S:i64.wrap ((v.length:Int) - 1)= ((v.length - 1:Nat):Int):=by rw [cu (by omega)];omega
  have F: 0<=((v.length - 2:Nat):Int)/\((v.length - 2:Nat):Int) < (v.length:Int):=by omega
  have G: 0<=((k+v.length - 2:Nat):Int)/\((k+v.length - 2:Nat):Int) < (u.length:Int):=by omega
  have H: 0<=((v.length - 1:Nat):Int)/\((v.length - 1:Nat):Int) < (v.length:Int):=by omega
  have W:u64.wrap f=f:=bf (by omega);have x2:u64.wrap c=c:=bf (by omega);have X:u64.wrap (d+c)=d+c:=bf (by omega);have t:=nT hr hu2;by_cases l:qh>=4294967296\/qh * f > d * 4294967296+n
  .have A:q<=qh - 1:=by
    rcases l with l | l
    .have hqB:q < 4294967296:=by rw [Y];exact Yq J (by rw [Vw];exact hUV)
     omega
    .exact IB hP hU hV hw L.1 (by omega) hT hqV l J
   have E:u64.wrap (qh - 1)=qh - 1:=bf (by omega);have Z:(qh - 1) * c+ (d+c)=D:=by rw [YT,Ww];omega
   have e:(qh>=4294967296\/u64.wrap (qh * f) > d * 4294967296+n):=by
    by_cases hb:qh>=4294967296
    .left;omega
    .right;rcases l with l | l
     .exact absurd l hb
     .have:=lk (a:=qh) (b:=f) (by omega) w;rw [bf (by omega)];exact l
   by_cases hbr:d+c < 4294967296
   .have hz:¬d+c>=4294967296:=by omega
    refine(ih (qh - 1) (d+c) (by omega) Z (by omega) A (by omega)).step λR j=>al ?_;rw [uT];simp only [jm,<-decide_not,<-WN];simp only [ai,↓reduceIte,Int.reduceBEq,Int.reduceEq,GD,aM,O,i,Q,S,F,G,H,and_self,o,p,r,W,x2,X,E,t,e,hz];exact j
   .have hz:d+c>=4294967296:=by omega
    have hsm:qh - 1 < 4294967296:=by
     rcases Wy (qh - 1) 4294967296 with h | h
     .exact h
     .exfalso;have: 4294967296 * c<=(qh - 1) * c:=VA h (by omega);rw [VG] at hT3;omega
    have K:qh - 1<=q+1:=by
     have h1:=lk (a:=qh - 1) (b:=f) (by omega) w;have h2:=zn hP hU hV hw.1 L w.1 hv1.1 (qh:=qh - 1) (by omega) Z (by omega);rcases Wy (q+1) (qh - 1) with h | h
     .exfalso;have:(q+1) * V<=(qh - 1 - 1) * V:=VA (by omega) (by omega);omega
     .exact h
    have x5:u32.wrap (qh - 1)=qh - 1:=by rw [cF];omega
    rcases go (qh - 1) A K (by omega) hsm with⟨u',x,y⟩ | ⟨u',x,p0,y⟩
    .refine y.step λR j=>al ?_;rw [uT];simp only [jm,<-decide_not,<-WN];simp only [ai,↓reduceIte,Int.reduceBEq,Int.reduceEq,GD,Vj,aM,O,i,g,z,B,C,Q,S,F,G,H,and_self,o,p,r,W,x2,X,E,x5,t,e,hz,x,hb2,wv _ 0 _ N _ hkz,wP k (by omega)];exact j
    .have x6:u64.wrap (qh - 1 - 1)=qh - 1 - 1:=bf (by omega);refine y.step λR j=>al ?_;rw [uT];simp only [jm,<-decide_not,<-WN];simp only [ai,↓reduceIte,Int.reduceBEq,Int.reduceEq,GD,Vj,aM,O,i,g,z,B,C,Q,S,F,G,H,and_self,o,p,r,W,x2,X,E,x6,t,e,hz,x];exact j
  .have hqs:qh < 4294967296:=by omega
   have A:qh * f<=d * 4294967296+n:=by omega
   have hm2:=lk (a:=qh) (b:=f) (by omega) w;have E:u64.wrap (qh * f)=qh * f:=bf (by omega);have e:¬(qh>=4294967296\/qh * f > d * 4294967296+n):=by omega
   have K:qh<=q+1:=by
    have h2:=zn hP hU hV hw.1 L w.1 hv1.1 (qh:=qh) (by omega) hT A;rcases Wy (q+1) qh with h | h
    .exfalso;have:(q+1) * V<=(qh - 1) * V:=VA (by omega) (by omega);omega
    .exact h
   have x5:u32.wrap qh=qh:=by rw [cF];omega
   rcases go qh hqq K (by omega) hqs with⟨u',x,y⟩ | ⟨u',x,p0,y⟩
   .refine y.step λR j=>al ?_;rw [uT];simp only [jm,<-decide_not,<-WN];simp only [ai,↓reduceIte,Int.reduceBEq,Int.reduceEq,GD,Vj,aM,O,i,g,z,B,C,Q,S,F,G,H,and_self,o,p,r,W,x2,X,E,x5,t,e,x,hb2,wv _ 0 _ N _ hkz,wP k (by omega)];exact j
   .have x6:u64.wrap (qh - 1)=qh - 1:=bf (by omega);refine y.step λR j=>al ?_;rw [uT];simp only [jm,<-decide_not,<-WN];simp only [ai,↓reduceIte,Int.reduceBEq,Int.reduceEq,GD,Vj,aM,O,i,g,z,B,C,Q,S,F,G,H,and_self,o,p,r,W,x2,X,E,x6,t,e,x];exact j
theorem UR(s:Nat)(hs:s < 32)(ev ec0 ec1:Bool)(b:List Int)(e c:Int)(hv:Dg (b++ [e,c]))(hvl:b.length<=400)(h1: 1<=c)(L:Nat)(N0:Int):∀(j:Nat) (A R hi i:List Int),A.length=j->j<=900->R.length=b.length+2->Dg A->Dg R->Dg i->val R < val (b++ [e,c])->j+i.length=L->
  val A+4294967296 ^ j * (val R+val (b++ [e,c]) * val i)=N0->Wd.Good (wU s L (val (b++ [e,c])) N0 (b.length+2)) (xn s ev ec0 ec1 (b++ [e,c]) (A++ (R++hi)) (List.replicate j 0++i) ((j:Int) - 1)):=by
 have g:(b++ [e,c]).length=b.length+2:=by simp
 have I:val (b++ [e,c])=val b+4294967296 ^ b.length * e+4294967296 * (4294967296 ^ b.length * c):=by rw [eV];simp only [val];rw [VG,VU _ 4294967296];simp;omega
 have Z:=eJ hv.left;have hv0':=fu hv.left;have S:=gI b.length;have D:=hv e (by simp);have dv1:=hv c (by simp);have hp1:(4294967296:Int) ^ b.length * 1<=4294967296 ^ b.length * c:=Vh h1 (by omega);have hp2: 0<=(4294967296:Int) ^ b.length * e:=Wh (by omega) D.1;have v: 0 < val (b++ [e,c]):=by omega
 have e1:(ax (b++ [e,c]))[(((b++ [e,c]).length - 1:Nat):Int).toNat]? =some [T.int .u32 c]:=by have:=fA (b++ [e]) c [] (b.length+1) (by simp);rw [g];simpa using this
 have e2:(ax (b++ [e,c]))[(((b++ [e,c]).length - 2:Nat):Int).toNat]? =some [T.int .u32 e]:=by have:=fA b e [c] b.length rfl;rw [g];simpa using this
 intro j;induction j with
 | zero=>
  intro A R hi i G hj t u z B Y hL M;obtain rfl:=Vt.1 G;obtain⟨lost,h80⟩:=SK s hs ec0 R z (by omega) (by omega);obtain⟨g1,g2,g3⟩:=Ei (gL s) (pB (n:=s) (by omega)) (gL (32 - s)) z;refine⟨_,al ?_,ec1,i,false,_,val R,rfl,B,g3,by omega,by rw [g2,t],eJ z,Y,by
   simp only [val,Yr,Ww,Zb] at M;rw [<-M,Vw];omega,g1⟩
  rw [Gu];have c0:¬(((0:Nat):Int) - 1)>=0:=by omega
  have X:bQ 0 ((b++ [e,c]).length:Int) ((([] ++ (R++hi)).length:Nat):Int)=some ():=by unfold bQ;rw [if_pos (by simp [t];omega)]
  have ht:(ax ([] ++ (R++hi))).take (((b++ [e,c]).length:Int).toNat - 0)=ax R:=by
   have hnn:((b++ [e,c]).length:Int).toNat - 0=R.length:=by rw [g,t];omega
   simp only [hnn,Vg,ax,W2];rw [Yl (by simp),V9 (by simp)]
  simp only [WW,Vg] at X ht⊢;simp only [ai,↓reduceIte,Int.reduceBEq,Int.reduceEq,GD,c0,aM,X,ht,h80]
 | succ j ih=>
  intro A R hi i G hj t u z B Y hL M;obtain⟨d,x,rfl,y⟩:=jk G;obtain⟨w,top,hw,J⟩:=jk (l:=x::R) (n:=b.length+2) (by simp [t]);obtain⟨w1,f,rfl,hw1⟩:=jk J;obtain⟨k,h,rfl,m⟩:=jk hw1;have K:Dg (k++ [h] ++ [f] ++ [top]):=by rw [<-hw];exact Dg.append (a:= [x]) u.right z
  have dw:=K.left;have C:=K top (by simp);have du1:=K f (by simp);have Q:=K h (by simp);have hw0:=eJ dw.left.left;have r:=fu dw.left.left;have F:d++ [x] ++ (R++hi)=d++ ((k++ [h] ++ [f])++top::hi):=by have: [x] ++R=k++ [h] ++ [f] ++ [top]:=hw;simp only [VJ] at this⊢;rw [<-VJ [x],this];simp
  have p:val (x::R)=val (k++ [h] ++ [f])+4294967296 ^ (b++ [e,c]).length * top:=by rw [hw,eV,g,J];simp [val]
  have P:val (k++ [h] ++ [f])=val k+4294967296 ^ b.length * h+4294967296 * (4294967296 ^ b.length * f):=by rw [VJ,eV,m];simp only [Vf,Vg,val];rw [VG,VU _ 4294967296];simp;omega
  have V:val (x::R)=val k+4294967296 ^ b.length * h+4294967296 * (4294967296 ^ b.length * (top * 4294967296+f)):=by
   rw [p,P,g,show(4294967296:Int) ^ (b.length+2)=4294967296 ^ b.length * (4294967296 * 4294967296) from by rw [X4];rfl];rw [VG (4294967296 ^ b.length) (top * 4294967296),VG 4294967296,<-VT (4294967296 ^ b.length) top 4294967296];have:(4294967296:Int) ^ b.length * (4294967296 * 4294967296) * top=4294967296 * (4294967296 ^ b.length * top * 4294967296):=by rw [Vw (4294967296 ^ b.length * top) 4294967296,<-VT 4294967296 4294967296,Vw (4294967296 ^ b.length),VT]
   omega
  have dx:=u x (by simp);have hUx:val (x::R)=x+4294967296 * val R:=rfl;have hR0:=eJ z;have U: 0<=val (x::R):=by omega
  have W:val (x::R) < val (b++ [e,c]) * 4294967296:=by omega
  generalize o:val (x::R) / val (b++ [e,c])=q at *
  have H: 0<=q:=by rw [<-o];exact WO U (by omega)
  have hqB:q < 4294967296:=by rw [<-o];exact Yq v (by rw [Vw];exact W)
  have hqV:q * val (b++ [e,c])<=val (x::R):=by rw [<-o];exact Zc _ (by omega)
  have hrep:List.replicate (j+1) (0:Int)++i=List.replicate d.length 0++0::i:=by rw [y,Yx,VJ];rfl
  have hg0:=IA S V I ⟨hw0,by rw [m] at r;exact r⟩ Z Q.2 D.1 H hqV;have E: 0<=top * 4294967296+f:=by omega
  have hqt:q<=(top * 4294967296+f) / c:=by rw [Int.le_ediv_iff_mul_le (by omega)];exact hg0
  have hTle:(top * 4294967296+f) / c<=top * 4294967296+f:=YX _ E;have hrm0:=WL (top * 4294967296+f) (show c≠0 by omega);have hrm1:=Wj (top * 4294967296+f) (show 0 < c by omega);have hdm:=Wx (top * 4294967296+f) c;have hn2: 2<=(b++ [e,c]).length:=by omega
  have e3:(ax (d++ ((k++ [h] ++ [f])++top::hi)))[((d.length+ (b++ [e,c]).length - 2:Nat):Int).toNat]? =some [T.int .u32 h]:=by have:=fA (d++k) h ([f] ++top::hi) (d.length+ (b++ [e,c]).length - 2) (by simp [m];try omega);simpa using this
  have e4:(ax (d++ ((k++ [h] ++ [f])++top::hi)))[((d.length+ (b++ [e,c]).length - 1:Nat):Int).toNat]? =some [T.int .u32 f]:=by have:=fA (d++k++ [h]) f (top::hi) (d.length+ (b++ [e,c]).length - 1) (by simp [m];try omega);simpa using this
  have e5:(ax (d++ ((k++ [h] ++ [f])++top::hi)))[((d.length+ (b++ [e,c]).length:Nat):Int).toNat]? =some [T.int .u32 top]:=by have:=fA (d++k++ [h] ++ [f]) top hi (d.length+ (b++ [e,c]).length) (by simp [m];try omega);simpa using this
  have O:((d++ ((k++ [h] ++ [f])++top::hi)).length:Int)= ((d.length+b.length+3+hi.length:Nat):Int):=by simp [m];omega
  have N:=Rc s d.length ev ec0 ec1 (b++ [e,c]) (d++ ((k++ [h] ++ [f])++top::hi)) i (wU s L (val (b++ [e,c])) N0 (b.length+2)) (by omega) (by omega) hn2 (by simp [m] <;> omega) e1 e2 e3 S V I ⟨hw0,by rw [m] at r;exact r⟩ ⟨Z,hv0'⟩ Q D ⟨h1,dv1.2⟩ U W v o.symm
   (λq' a1 a2 a3 a4=>Nn s ev ec0 ec1 (b++ [e,c]) d hi hv (by omega) (by omega) (k++ [h] ++ [f]) top dw (by rw [g];exact J) C v i _ q (by rw [<-o,p]) q' a1 a2 ⟨a3,a4⟩ H (λR' d1 d2 d3=>by
    have:=ih d R' (0::hi) (q::i) y (by omega) (by rw [d2,g]) u.left d1 (λa ha=>by
     rcases Vo.1 ha with rfl | ha
     .exact⟨H,hqB⟩
     .exact B a ha) (by rw [d3];exact Wj _ v) (by simp;omega) (by
     rw [<-p] at d3;have hdv:=Wx (val (x::R)) (val (b++ [e,c]));rw [o] at hdv;have key:val R'+val (b++ [e,c]) * val (q::i)=x+4294967296 * (val R+val (b++ [e,c]) * val i):=by rw [show val (q::i)=q+4294967296 * val i from rfl,d3,VG,VG 4294967296,VU _ 4294967296];omega
     rw [<-M,eV d [x],y,key,show val [x]=x from by simp [val],Xh,VT,Int.add_assoc,<-VG])
    rw [<-y] at this;exact this))
   4294967296 ((top * 4294967296+f) / c) ((top * 4294967296+f) % c) (by omega) (by rw [Vw];exact hdm) (by omega) hqt (by omega)
  have cj:((j+1:Nat):Int) - 1= (d.length:Int):=by omega
  have or1:=nT C du1;have x1:u64.wrap c=c:=bf (by omega);have x3:(top * 4294967296+f).tdiv c= (top * 4294967296+f) / c:=Wg E;have x4:(top * 4294967296+f).tmod c= (top * 4294967296+f) % c:=Wo E;have x5:u64.wrap ((top * 4294967296+f) / c)= (top * 4294967296+f) / c:=bf (by omega);have x2:u64.wrap top=top:=bf (by omega);have nz:¬c=0:=by omega
  have w3:i64.wrap (((b++ [e,c]).length:Int) - 1)= (((b++ [e,c]).length - 1:Nat):Int):=by rw [cu (by omega)];omega
  have w2':i64.wrap (((d.length+ (b++ [e,c]).length:Nat):Int) - 1)= ((d.length+ (b++ [e,c]).length - 1:Nat):Int):=by rw [cu (by omega)];omega
  have b1: 0<=((d.length+ (b++ [e,c]).length:Nat):Int)/\((d.length+ (b++ [e,c]).length:Nat):Int) < ((d.length+b.length+3+hi.length:Nat):Int):=by omega
  have b2: 0<=((d.length+ (b++ [e,c]).length - 1:Nat):Int)/\((d.length+ (b++ [e,c]).length - 1:Nat):Int) < ((d.length+b.length+3+hi.length:Nat):Int):=by omega
  have b3: 0<=(((b++ [e,c]).length - 1:Nat):Int)/\(((b++ [e,c]).length - 1:Nat):Int) < ((b++ [e,c]).length:Int):=by omega
  rw [F,hrep,cj];refine N.step λR t=>al ?_;rw [Gu];have c1:(d.length:Int)>=0:=by omega
  simp only [ai,↓reduceIte,Int.reduceBEq,Int.reduceEq,GD,c1,aM,ad d.length (b++ [e,c]).length (by omega),O,b1,b2,b3,and_self,e5,e4,e1,w2',w3,x1,x2,or1,nz,x3,x4,x5];exact t
theorem Qt{s:Nat}{x y b J c:List Int}{e d:Int}(ev:Bool)(ld:Bb s x y b J c e d)(T:Dg x)(W:x.length<=400)(X:c.length+2<=x.length):
  ∃j:Nat,j+ (c.length+2)=x.length+1/\Wd.Good (uy (val x) (val y) (x.length+1)) (xn s ev false false (c++ [e,d]) b (List.replicate j 0) ((j:Int) - 1)):=by
 have C:=gL s;have p:=fu T;obtain⟨j,O⟩:∃j:Nat,j+ (c.length+2)=x.length+1:=⟨x.length+1 - (c.length+2),by omega⟩;refine⟨j,O, ?_⟩;have m:=ld.lu;have i:b=b.take j++ (b.drop j++ []):=by simp
 have B:(b.drop j).length=c.length+2:=by simp [m];omega
 have g:(b.take j).length=j:=by simp [m];omega
 have N:=eV (b.take j) (b.drop j);rw [Yp,g] at N;have K:Dg (b.drop j):=λa o=>ld.dU a (W1 o);have v:=ld.dU.take j;have f:=ld.L5;have n:val (b.drop j) < val (c++ [e,d]):=by
  rcases Wy (val (b.drop j)) (val (c++ [e,d])) with h | h
  .exact h
  .exfalso;have h1:(4294967296:Int) ^ j * val (c++ [e,d])<=4294967296 ^ j * val (b.drop j):=Vh h (Wu (gI _));have Y:=eJ v;have h3:val x * (2:Int) ^ s < 4294967296 ^ x.length * 2 ^ s:=Xy p C;have L:(4294967296:Int) ^ (c.length+1) * 2 ^ s<=val y * 2 ^ s:=VA ld.ge (by omega);have M:(4294967296:Int) ^ j * (4294967296 ^ (c.length+1) * 2 ^ s)<=4294967296 ^ j * val (c++ [e,d]):=by
    rw [f];exact Vh L (Wu (gI _))
   rw [<-VT,<-X4,show j+ (c.length+1)=x.length from by omega] at M;have:=ld.Az;omega
 have k:=UR s ld.hs ev false false c e d ld.dV (by omega) ld.h1 j (val b) j (b.take j) (b.drop j) [] [] g (by omega) B v K (by intro a o;cases o) n (by simp) (by simp only [val,XB,W8];omega);rw [<-i,We] at k;obtain⟨R,r1,w,Q,z,Z,u,rfl,q1,H,q3,q4,q5,t,U,V⟩:=k;have A: 0 < val y:=by have:=gI (c.length+1);have:=ld.ge;omega
 have I:val x * 2 ^ s=val Q * (val y * 2 ^ s)+u:=by rw [<-ld.Az,<-f];exact U.symm
 have l:u= (val x - val Q * val y) * 2 ^ s:=by rw [YT,VT];omega
 have D:val Z=val x - val Q * val y:=by rw [V,l,Int.mul_ediv_cancel _ (by omega)]
 have E:val Z < val y:=by rw [f] at t;rw [l,<-D] at t;exact YC t (by omega)
 have F:=eJ H;have S:=Yy A (a:=val x) (q:=val Q) (r:=val Z);obtain⟨P,G⟩:=S.2 ⟨by rw [Vw];omega,F,E⟩;exact⟨_,r1,w,Q,z,Z,rfl,q1,H,P.symm,G.symm,by omega,by omega⟩
theorem SI(a:Int)(j: 1<=a/\a < 4294967296):∃n:Nat,Or (.call 142) [AV.t (T.int .u32 a)] []=some [ti (n:Int)]/\n < 32/\a * 2 ^ n < 4294967296:=by
 obtain⟨m,f,g,b,k⟩:=KH a (by omega);have i:m≠0:=by intro h;subst h;rw [Yr] at b;omega
 have e:i64.wrap (32 - (m:Int))= ((32 - m:Nat):Int):=by rw [cu (by omega)];omega
 refine⟨32 - m,al ?_,by omega, ?_⟩
 .rw [Nz];simp only [ai,↓reduceIte,Int.reduceBEq,Int.reduceEq,GD,f,e]
 .have c:=pB (n:=m) g;have d:=gL (32 - m);rw [c,Vw];exact Int.mul_lt_mul_of_pos_left b d
def EY(X Y:Int)(L:Nat)(R:List T):Prop:= ∃t a Q e2 Z,R= [t,T.aa 1 e2 (ax Z)]/\t.aQ 1=some (a,ax Q)/\Dg Q/\Dg Z/\val Q=X / Y/\val Z=X % Y/\Q.length<=L/\Z.length<=L
theorem Sd{X Y:Int}{L:Nat}{r:Option (List T)}(h:Wd.Good (uy X Y L) r):Wd.Good (EY X Y L) r:=by obtain⟨R,g,a,Q,e2,Z,rfl,h1,b,c,d,e,f⟩:=h;exact⟨_,g,_,a,Q,e2,Z,rfl,qP _ _ _,h1,b,c,d,e,f⟩
theorem KD(m v:Bool)(x y:List Int)(g:Dg x)(hy:Dg y)(K:Can x)(q:Can y)(D:y≠[])(U:x.length<=400)(hyl':y.length<=400):
  Wd.Good (EY (val x) (val y) (x.length+1)) (Or (.call 135) [lu m x,lu v y] []):=by
 have V:=sd hy q D;have w:=rm m x (by omega);have k2:=rm v y (by omega);have tx:bH x=x:=by have:=qg (nf g) g (pO x) K (oq x);exact this
 have ty:bH y=y:=qg (nf hy) hy (pO y) q (oq y);rw [tx] at w;rw [ty] at k2;have z:=Af x y m v g hy K q (by omega) (by omega);have B:=eJ g;by_cases p:val x < val y
 .have r:cf (val x) (val y) < 0:=by unfold cf;rw [if_pos p];omega
  refine⟨_,al ?_,T.aK true,true,[],m,x,rfl,cV _ _,(by intro a o;cases o),g, ?_, ?_,by simp,by omega⟩
  .rw [B2];simp only [ai,↓reduceIte,Int.reduceBEq,Int.reduceEq,GD,w,k2,z,r]
  .rw [YS B p];rfl
  .rw [ZC B p]
 .have r:¬cf (val x) (val y) < 0:=by unfold cf;rw [if_neg p];split <;> omega
  have G:y.length<=x.length:=by
   rcases Xr x.length y.length with h | h
   .have:=mU g hy q h;omega
   .exact h
  by_cases h1:(y.length:Int)=1
  .match y,h1 with
   | [b],_=>
    have hb:=hy b (by simp);have M: 0 < b:=by simpa [val] using V
    obtain⟨Q,R,q1,q2,q3,q4,q5,q6,q7⟩:=SH m x b g (by omega) ⟨M,hb.2⟩;have A:val [b]=b:=by simp [val]
    refine⟨_,al ?_,_,false,Q,false,[R],rfl,qP _ _ _,q3,(by intro a o;simp at o;subst o;omega),by rw [A];exact q6,by rw [A];simp [val];exact q7,by omega,by simp⟩;rw [B2];have L:(([b]:List Int).length:Int)=1:=by simp
    have N:(ax [b])[(0:Nat)]? =some [T.int .u32 b]:=rfl;have hr:(0:Int)<=0/\(0:Int) < 1:=by omega
    simp only [ai,↓reduceIte,Int.reduceBEq,Int.reduceEq,GD,w,k2,z,r,aM,L,N,hr,and_self,q1];rfl
  .have h2: 2<=y.length:=by have:=XO.2 D;omega
   obtain⟨Z,f,rfl,g1⟩:=jk (l:=y) (n:=y.length - 1) (by omega);obtain⟨y',i,rfl,g2⟩:=jk (l:=Z) (n:=Z.length - 1) (by simp at h2;omega);have S:y'++ [i] ++ [f]=y'++ [i,f]:=by simp
   have C: 1<=f:=by
    have:=q (y'.length+1) (by simp);rw [show aN (y'++ [i] ++ [f]) (y'.length+1)=f from by
     have:=sv (y'++ [i]) f [] (y'.length+1) (by simp);simpa using this] at this
    have:=hy f (by simp);omega
   have J:=hy f (by simp);rw [S] at hy G h1 k2 z r⊢;have hly:(y'++ [i,f]).length=y'.length+2:=by simp
   have hyl2:y'.length+2<=x.length:=by omega
   obtain⟨s,c1,F,c3⟩:=SI f ⟨C,J.2⟩;obtain⟨e,d,c,hV2,ld⟩:=IQ g hy C s F c3;obtain⟨j,hj,hg⟩:=Qt false ld g U (by omega);have u:=KF s F v (y'++ [i,f]) hy (by omega);have H:=KF s F m x g (by omega);rw [ld.vv] at u;have hUl:=ld.lu;generalize eI (2 ^ s) x 0=E at *
   have e1:(ax (y'++ [i,f]))[(((y'.length+1:Nat):Int)).toNat]? =some [T.int .u32 f]:=by have:=fA (y'++ [i]) f [] (y'.length+1) (by simp);simpa using this
   have w1:i64.wrap (((y'++ [i,f]).length:Int) - 1)= ((y'.length+1:Nat):Int):=by rw [cu (by omega)];omega
   have b1: 0<=((y'.length+1:Nat):Int)/\((y'.length+1:Nat):Int) < ((y'++ [i,f]).length:Int):=by omega
   have hVl:(e++ [d,c]).length=e.length+2:=by simp
   have t:e++ [d] ++ [c] ++ [0]= (e++ [d,c])++ [0]:=by simp
   have X:Or (.call 134) [lu false (e++ [d] ++ [c] ++ [0])] []=some [T.aa 1 false (ax (e++ [d,c]))]:=by
    have:=rm false (e++ [d] ++ [c] ++ [0]) (by simp;omega);rw [this];have ht:bH (e++ [d] ++ [c] ++ [0])=e++ [d,c]:=by
     refine qg (nf (by rw [t];exact Dg.append ld.dV (by intro a o;simp at o;subst o;omega))) ld.dV (pO _) ?_ ?_
     .intro k hk;obtain rfl:k=e.length+1:=by omega
      have:=sv (e++ [d]) c [] (e.length+1) (by simp);rw [show e++ [d] ++ [c]=e++ [d,c] from by simp] at this;rw [this];have:=ld.h1;omega
     .rw [oq,t,eV];simp [val]
    rw [ht]
   refine(Sd hg).step λR hR=>al ?_;have P:br (j:Int) (j:Int)=some ():=by unfold br dY;rw [if_pos (by omega)]
   have wj:i64.wrap ((E.length:Int) - ((e++ [d,c]).length:Int))= (j:Int):=by rw [cu (by omega)];omega
   have wk:i64.wrap ((j:Int) - 1)= (j:Int) - 1:=cu (by omega);have W:List.replicate ((j:Int)).toNat [T.int u32 (0:Int)]=ax (List.replicate j 0):=by simp [ax]
   have wx:i64.wrap ((x.length:Int)+1)= ((x.length+1:Nat):Int):=nx _ (by omega);have O:¬(E.length:Int) < ((x.length+1:Nat):Int):=by omega
   have Y:Or xf [lu m x,I (s:Int),lu false (e++ [d,c]),o0] [ab.sl false 1 false (ax E)]=some R:=by refine al ?_;rw [Nu];simp only [ai,↓reduceIte,Int.reduceBEq,Int.reduceEq,GD,aM,wx,O,wj,P,W,wk];exact hR
   rw [B2];simp only [ai,↓reduceIte,Int.reduceBEq,Int.reduceEq,GD,w,k2,z,r,aM,h1,w1,b1,and_self,e1,c1,u,X,H];exact Y
theorem Ae(x y:Int)(H:(dz x).length<=300)(hy:(dz y).length<=300)(d:y≠0)(z:y ∣ x):
  Or (.call 108) [LZ x,LZ y] []=some [tb (decide (x / y < 0)),T.str (bM (dz (x / y))),tb false,T.str (bM (dz 0)),ti 0]:=by
 have B:=pI y;have k2:=lC x (by omega);have C:=lC y (by omega);obtain⟨R,D,t,w,Q,e2,Z,rfl,F,u,v,g,i,I,J⟩:=KD false false (dz x) (dz y) (dS x) (dS y) (iT x) (iT y) (λh=>d (sD.1 h)) (by omega) (by omega);rw [eD,eD] at g i;obtain⟨c,rfl⟩:=z;have A:y * c / y=c:=ZL _ d;have G: 0 < y.natAbs:=by omega
 have j:((y * c).natAbs:Int) / (y.natAbs:Int)= (c.natAbs:Int):=by rw [Wi,XK,ZL _ (by omega)]
 have k:((y * c).natAbs:Int) % (y.natAbs:Int)=0:=by rw [Wi,XK,Int.mul_emod_right]
 rw [j] at g;rw [k] at i;have f:=n8 (!decide (y * c < 0)==decide (y < 0)) w Q u (by omega);have e:=n8 (decide (y * c < 0)) e2 Z v (by omega);have p:(if(!decide (y * c < 0)==decide (y < 0))=true then -val Q else val Q)=c:=by
  rw [g];rcases Xj c 0 with a | a | a
  .rcases Wy y 0 with h | h
   .have:=Int.mul_pos_of_neg_of_neg h a;have b:¬y * c < 0:=by omega
    simp [h,b];omega
   .have:=ZD (show 0 < y by omega) a;have b:¬y < 0:=by omega
    simp [this,b];omega
  .subst a;simp
  .rcases Wy y 0 with h | h
   .have:=Int.mul_neg_of_neg_of_pos h a;simp [h,this];omega
   .have:=Int.mul_pos (show 0 < y by omega) a;have b:¬y < 0:=by omega
    have l:¬y * c < 0:=by omega
    simp [b,l];omega
 have q:(if decide (y * c < 0)=true then -val Z else val Z)=0:=by rw [i];simp
 rw [p] at f;rw [q] at e;have E:=pI 0;have o:y.sign≠0:=by intro h;exact d (YI.1 h)
 unfold RZ at f e;have m:decide ((0:Int) < 0)=false:=rfl;rw [m] at e;have r:Or (.call 70) [LS false (dz 0)] []=some [ti 0]:=E;rw [A];refine al ?_;rw [Ou];have n:¬(0:Int) < 0:=by omega
 simp only [ai,↓reduceIte,Int.reduceBEq,Int.reduceEq,GD,B,o,k2,C,D,F,f,e,r,n]
theorem Is(a b:Nat):Nat.gcd b (a % b)=Nat.gcd a b:=by rw [YK b,<-Nat.gcd_rec,YK]
theorem Jx(d:Bool)(j:ByteArray):∀(m:Nat) (x y:Int) (b c:Bool),y.natAbs<=m->(dz x).length<=300->(dz y).length<=300->
  Or xG [r0,lu b (dz x),lu c (dz y)] [ab.box [B d,AV.t (T.str j)]]=some (RZ (Nat.gcd x.natAbs y.natAbs:Nat))
 | m,x,y,b,c,hm,w,hy=>by
  by_cases a:y=0
  .subst a;have k:=n8 false b (dz x) (dS x) (by omega);simp only [VF,↓reduceIte,eD] at k;unfold RZ at k;refine al ?_;rw [Hh];have n:¬((dz 0).length:Int) > 0:=by
    have:dz 0= []:=rfl;rw [this];simp
   have o:((Nat.gcd x.natAbs (0:Int).natAbs:Nat):Int)= (x.natAbs:Int):=by rw [Int.natAbs_zero,Nat.gcd_zero_right]
   rw [o];simp only [ai,↓reduceIte,Int.reduceBEq,Int.reduceEq,GD,aM,n,k];rfl
  .have f:((dz y).length:Int) > 0:=by
    have:dz y≠[]:=λh=>a (sD.1 h);have:=XO.2 this;omega
   obtain⟨R,p,t,v,Q,e2,Z,rfl,q,u,l,C,i,z,A⟩:=KD b c (dz x) (dz y) (dS x) (dS y) (iT x) (iT y) (λh=>a (sD.1 h)) (by omega) (by omega);rw [eD,eD] at i;have g:=rm e2 Z (by omega);have r:x.natAbs % y.natAbs < y.natAbs:=Yw _ (by omega);have hz:bH Z=dz ((x.natAbs % y.natAbs:Nat):Int):=LK l (by rw [i,VN];first | rfl | exact(Int.natCast_emod _ _).symm | simp);rw [hz] at g
   match m with
   | 0=>omega
   | m+1=>
    have e:(dz ((x.natAbs % y.natAbs:Nat):Int)).length<=300:=by have:=yJ (x:=y) (y:=((x.natAbs % y.natAbs:Nat):Int)) (by rw [VN];omega);omega
    have:=Jx d j m y ((x.natAbs % y.natAbs:Nat):Int) c e2 (by rw [VN];omega) hy e;rw [VN,Is] at this;refine al ?_;rw [Hh];simp only [ai,↓reduceIte,Int.reduceBEq,Int.reduceEq,GD,aM,f,p,q,g];exact this
theorem KY(x y:Int)(c:(dz x).length<=300)(hy:(dz y).length<=300):Or (.call 107) [LZ x,LZ y] []=some (RZ (Nat.gcd x.natAbs y.natAbs:Nat)):=by have k2:=lC x (by omega);have d:=lC y (by omega);have a:=rm false (dz x) (by omega);have b:=rm false (dz y) (by omega);have e:bH (dz x)=dz x:=qg (nf (dS x)) (dS x) (pO _) (iT x) (oq _);have ty:bH (dz y)=dz y:=qg (nf (dS y)) (dS y) (pO _) (iT y) (oq _);rw [e] at a;rw [ty] at b;have:=Jx false ⟨#[]⟩ y.natAbs x y false false (Vq _) c hy;refine al ?_;rw [Ot];simp only [ai,↓reduceIte,Int.reduceBEq,Int.reduceEq,GD,k2,d,a,b];exact this
open Go Go.Aev Go.Aev.Gen Go.Aev.Wd
theorem jS(x y:Int)(a:(dz x).length<=300)(hy:(dz y).length<=300):Or (.call 66) [LZ x,LZ y] []=some (RZ (x * y)):=by have k:=Te x y a hy;refine al ?_;rw [B6];simp only [ai,↓reduceIte,Int.reduceBEq,Int.reduceEq,GD,k];rfl
theorem KN(x y:Int)(a:(dz x).length<=900)(hy:(dz y).length<=900)(hz:(dz (x+y)).length<=900):Or (.call 102) [LZ x,LZ y] []=some (RZ (x+y)):=by have k:=Td x y a hy hz;refine al ?_;rw [sE];simp only [ai,↓reduceIte,Int.reduceBEq,Int.reduceEq,GD,k];rfl
def NQ(q:Rat):List T:=RZ q.num++RZ (q.den:Int)
abbrev EQ(q:Rat):AV:=AV.agg [B (decide (q.num < 0)),AV.t (T.str (bM (dz q.num))),B (decide ((q.den:Int) < 0)),AV.t (T.str (bM (dz (q.den:Int))))]
theorem Nj(q:Rat):(q.den:Int).sign=1:=Wp (by have:=q.den_pos;omega)
theorem SX(q:Rat):Or (.call 67) [EQ q] []=some (RZ (q.den:Int)):=by
 have k:=pI (q.den:Int);rw [Nj] at k;refine al ?_;rw [yP];have h1:¬(1:Int)=0:=by omega
 simp only [ai,↓reduceIte,Int.reduceBEq,Int.reduceEq,GD,k,h1];rfl
theorem lB(x y:Int)(h:(dz x).length<=300)(hy:(dz y).length<=300)(m:y≠0):Or (.call 68) [LZ x,LZ y] []=some (NQ (Rat.divInt x y)):=by
 obtain⟨o,p⟩:=BY (u:=x) m;have c:((Nat.gcd x.natAbs y.natAbs:Nat):Int)≠0:=by have: 0 < Nat.gcd x.natAbs y.natAbs:=Nat.gcd_pos_of_pos_right _ (by omega);omega
 have b:(dz ((Nat.gcd x.natAbs y.natAbs:Nat):Int)).length<=300:=by have h1:Nat.gcd x.natAbs y.natAbs<=y.natAbs:=Nat.gcd_le_right _ (by omega);have:=yJ (x:=y) (y:=((Nat.gcd x.natAbs y.natAbs:Nat):Int)) (by rw [VN];exact h1);omega
 have e:((Nat.gcd x.natAbs y.natAbs:Nat):Int) ∣ x:=Int.ofNat_dvd_left.2 (Nat.gcd_dvd_left _ _);have f:((Nat.gcd x.natAbs y.natAbs:Nat):Int) ∣ y:=Int.ofNat_dvd_left.2 (Nat.gcd_dvd_right _ _);have a:((Int.gcd x y:Nat):Int)= ((Nat.gcd x.natAbs y.natAbs:Nat):Int):=rfl;have i:=pI y;by_cases j:y < 0
 .obtain⟨q1,g⟩:=o j;rw [a,Xw e,<-YG e] at q1;rw [a,Xw f,<-YG f] at g;have k2:=Ee x;have n:=Ee y;have d:=KY (-x) (-y) (by rw [uS];exact h) (by rw [uS];exact hy);rw [Zo,Zo] at d;have k:=Ae (-x) _ (by rw [uS];exact h) b c ((Int.dvd_neg).2 e);have l:=Ae (-y) _ (by rw [uS];exact hy) b c ((Int.dvd_neg).2 f);rw [WH j] at i;have h1:(-1:Int) < 0:=by omega
  unfold RZ at k2 n d;refine al ?_;rw [yO];unfold NQ RZ;rw [q1,g];simp only [ai,↓reduceIte,Int.reduceBEq,Int.reduceEq,GD,i,h1,k2,n,d,k,l];rfl
 .obtain⟨q1,g⟩:=p j;rw [a,Xw e] at q1;rw [a,Xw f] at g;have d:=KY x y h hy;have k:=Ae x _ h b c e;have l:=Ae y _ hy b c f;rw [Wp (by omega)] at i;have h1:¬(1:Int) < 0:=by omega
  unfold RZ at d;refine al ?_;rw [yO];unfold NQ RZ;rw [q1,g];simp only [ai,↓reduceIte,Int.reduceBEq,Int.reduceEq,GD,i,h1,d,k,l];rfl
theorem SO(x:Int)(h: -9223372036854775808<=x/\x < 9223372036854775808):Or (.call 32) [I x] []=some (NQ (x:Rat)):=by have a:=rp x h;have k2:=rp 1 (by omega);unfold RZ at a k2;refine al ?_;rw [NJ];simp only [ai,↓reduceIte,Int.reduceBEq,Int.reduceEq,GD,a,k2];rfl
theorem ID{x:Int}(h: -9223372036854775808<=x/\x < 9223372036854775808):(dz x).length<=2:=by
 refine yK ?_;have:(4294967296:Int) ^ 2=18446744073709551616:=by decide
 rw [this];omega
theorem Tc(x y:Int)(b: -9223372036854775808<=x/\x < 9223372036854775808)(hy: -9223372036854775808<=y/\y < 9223372036854775808)(c:y≠0):Or (.call 30) [AV.agg [I x,I y]] []=some (NQ (Rat.divInt x y)):=by have d:=rp x b;have k2:=rp y hy;have a:=lB x y (by have:=ID b;omega) (by have:=ID hy;omega) c;unfold NQ at a⊢;unfold RZ at d k2 a⊢;refine al ?_;rw [Om];simp only [Vf,Vg] at a⊢;simp only [ai,↓reduceIte,Int.reduceBEq,Int.reduceEq,GD,d,k2,a]
theorem QB.ln{m:Nat}{q:Rat}(h:QB m q)(hm:m<=6300):(dz q.num).length<=200/\(dz (q.den:Int)).length<=200:=⟨C2 (h.lq hm).1,C2 (h.lq hm).2⟩
theorem mY{m:Nat}{z:Int}(hm:m<=6300)(h:z.natAbs<=2 ^ m):(dz z).length<=200:=C2 (qO hm h)
theorem RG{q:Rat}(h:q≠0):q.num≠0:=λa=>h (Zf.1 a)
theorem Nq(p:Rat){q:Rat}(a:q≠0):Rat.divInt (p.num * (q.den:Int)) ((p.den:Int) * q.num)=p / q:=by
 conv=>rhs;rw [<-Xb p,<-Xb q]
 rw [Wv,Rat.inv_divInt,Rat.divInt_mul_divInt]
theorem M5(p q:Rat):cf (p.num * (q.den:Int)) (q.num * (p.den:Int))=if p < q then -1 else if p=q then 0 else 1:=by
 unfold cf;have h1:(p.num * (q.den:Int) < q.num * (p.den:Int))↔p < q:=(Rat.lt_iff p q).symm;have d:(q.num * (p.den:Int) < p.num * (q.den:Int))↔q < p:=(Rat.lt_iff q p).symm;have e:(p.num * (q.den:Int)=q.num * (p.den:Int))↔p=q:=by
  constructor
  .intro h;have a:¬p < q:=λc=>by have:=h1.2 c;omega
   have b:¬q < p:=λc=>by have:=d.2 c;omega
   exact Rat.le_antisymm (Zg.1 b) (Zg.1 a)
  .rintro rfl;rfl
 simp only [h1,e]
theorem KK(x:Int)(h: -9223372036854775808 < x/\x < 9223372036854775808):Or (.call 99) [I x] []=some [T.int .u64 (x.natAbs:Int)]:=by
 refine al ?_;rw [NW];by_cases b:x < 0
 .have a:u64.wrap (0 - u64.wrap x)= (x.natAbs:Int):=by simp only [mF];omega
  simp only [ai,↓reduceIte,Int.reduceBEq,Int.reduceEq,GD,b,a]
 .have a:u64.wrap x= (x.natAbs:Int):=by rw [mF];omega
  simp only [ai,↓reduceIte,Int.reduceBEq,Int.reduceEq,GD,b,a]
theorem Jp:∀(m:Nat) (a b:Nat),b<=m->a < 9223372036854775808->b < 9223372036854775808->Or xu [u6 (a:Int),u6 (b:Int)] []=some [T.int .u64 (Nat.gcd a b:Nat)]
 | m,a,b,hm,g,hb=>by
  refine al ?_;rw [NV];by_cases c:b=0
  .subst c;have c:((0:Nat):Int)=0:=rfl;simp only [ai,↓reduceIte,Int.reduceBEq,Int.reduceEq,GD,c,Nat.gcd_zero_right]
  .have d:¬(b:Int)=0:=by omega
   have f:a % b < b:=Yw _ (by omega);have e:(a:Int).tmod (b:Int)= ((a % b:Nat):Int):=rfl
   match m with
   | 0=>omega
   | m+1=>have:=Jp m b (a % b) (by omega) hb (by omega);rw [Is] at this;simp only [ai,↓reduceIte,Int.reduceBEq,Int.reduceEq,GD,d,e];exact this
theorem D9(x:Fr):Or (.call 59) [AV.agg [I x.1,I x.2]] []=some [ti (if bI x then 0 else 3),ti 0]:=by
 refine al ?_;rw [NI];by_cases hb:((x.2 < 1\/x.2 > 1073741824)\/x.1 < -1073741824)\/x.1 > 1073741824
 .have g:¬bI x:=by unfold bI;omega
  rw [if_neg g];simp only [jm,<-WN];simp only [ai,↓reduceIte,Int.reduceBEq,Int.reduceEq,GD,bE,hb,decide_true];rfl
 .have e:=KK x.1 (by omega);have k2:=KK x.2 (by omega);have f:Or (.call 98) [u6 (x.1.natAbs:Int),u6 (x.2.natAbs:Int)] []=some [T.int .u64 (Nat.gcd x.1.natAbs x.2.natAbs:Nat)]:=by
   refine al ?_;rw [yN];exact Jp _ _ _ (Vq _) (by omega) (by omega)
  have d:(((Nat.gcd x.1.natAbs x.2.natAbs:Nat):Int)=1)↔Int.gcd x.1 x.2=1:=by show _↔Nat.gcd _ _=1;omega
  simp only [jm,<-WN];by_cases h1:Int.gcd x.1 x.2=1
  .have b:bI x:=by unfold bI;exact⟨by omega,by omega,by omega,by omega,h1⟩
   have a:=d.2 h1;rw [if_pos b];simp only [ai,↓reduceIte,Int.reduceBEq,Int.reduceEq,GD,hb,decide_false,e,k2,f,a]
   try rfl
  .have b:¬bI x:=λh=>h1 h.2.2.2.2;have a:¬((Nat.gcd x.1.natAbs x.2.natAbs:Nat):Int)=1:=λh=>h1 (d.1 h);have c:(((Nat.gcd x.1.natAbs x.2.natAbs:Nat):Int)==1)=false:=by simpa using a
   rw [if_neg b];simp only [ai,↓reduceIte,Int.reduceBEq,Int.reduceEq,GD,hb,decide_false,e,k2,f,a,c]
   try rfl
open Go Go.Aev Go.Aev.Gen Go.Aev.Wd
abbrev Nm:=Option Rat
def nv:Nm->Rat
 | none=>0
 | some q=>q
def nc:Nm->Bool
 | none=>false
 | some q=>decide ((q.den:Int) < 0)
def nd:Nm->ByteArray
 | none=>ByteArray.mk #[]
 | some q=>bM (dz (q.den:Int))
abbrev EN(x:Nm):AV:=AV.agg [B (decide ((nv x).num < 0)),AV.t (T.str (bM (dz (nv x).num))),B (nc x),AV.t (T.str (nd x))]
def NC(x:Nm):List T:= [tb (decide ((nv x).num < 0)),T.str (bM (dz (nv x).num)),tb (nc x),T.str (nd x)]
theorem sZ(x:Nm):NC x= [tb (decide ((nv x).num < 0)),T.str (bM (dz (nv x).num)),tb (nc x),T.str (nd x)]:=rfl
theorem zH(q:Rat):NC (some q)=NQ q:=rfl
theorem RI(q:Rat):nv (some q)=q:=rfl
theorem tc:nv none=0:=rfl
theorem mO(x:Nm):Or (.call 67) [EN x] []=some (RZ ((nv x).den:Int)):=by
 cases x with
 | some q=>exact SX q
 | none=>have k:=pI 0;have a:=rp 1 (by omega);have hz:LZ 0=AV.agg [B false,AV.t (T.str (ByteArray.mk #[]))]:=rfl;have c:EN none=AV.agg [B false,AV.t (T.str (ByteArray.mk #[])),B false,AV.t (T.str (ByteArray.mk #[]))]:=rfl;have h1:((nv none).den:Int)=1:=rfl;have b:Int.sign 0=0:=rfl;rw [hz,b] at k;rw [c,h1];unfold RZ at a⊢;refine al ?_;rw [yP];simp only [ai,↓reduceIte,Int.reduceBEq,Int.reduceEq,GD,k,a]
theorem Ai(x:Int)(h: -9223372036854775808<=x/\x < 9223372036854775808):Or (.call 32) [I x] []=some (NC (some (x:Rat))):=SO x h
theorem TM(x y:Int)(b: -9223372036854775808<=x/\x < 9223372036854775808)(hy: -9223372036854775808<=y/\y < 9223372036854775808)(a:y≠0):
  Or (.call 30) [AV.agg [I x,I y]] []=some (NC (some (Rat.divInt x y))):=Tc x y b hy a
theorem Aj{m k:Nat}{x y:Nm}(a:QB m (nv x))(b:QB k (nv y))(h:m+k+1<=6300):Or (.call 63) [EN x,EN y] []=some (NC (some (nv x+nv y))):=by obtain⟨j,l⟩:=QB.ln a (by omega);obtain⟨n,o⟩:=QB.ln b (by omega);have p:(dz ((nv x).num * ((nv y).den:Int))).length<=200:=mY (m:=m+k) (by omega) (by rw [Wi,VN];exact iI a.1 b.2);have q:(dz ((nv y).num * ((nv x).den:Int))).length<=200:=mY (m:=k+m) (by omega) (by rw [Wi,VN];exact iI b.1 a.2);have r:(dz ((nv x).num * ((nv y).den:Int)+ (nv y).num * ((nv x).den:Int))).length<=200:=mY h (Bp a b);have t:(dz (((nv x).den:Int) * ((nv y).den:Int))).length<=200:=mY (m:=m+k) (by omega) (by rw [Wi,VN,VN];exact iI a.2 b.2);have d:=mO x;have k2:=mO y;have e:=jS (nv x).num ((nv y).den:Int) (by omega) (by omega);have f:=jS (nv y).num ((nv x).den:Int) (by omega) (by omega);have g:=KN ((nv x).num * ((nv y).den:Int)) ((nv y).num * ((nv x).den:Int)) (by omega) (by omega) (by omega);have i:=jS ((nv x).den:Int) ((nv y).den:Int) (by omega) (by omega);have c:=lB ((nv x).num * ((nv y).den:Int)+ (nv y).num * ((nv x).den:Int)) (((nv x).den:Int) * ((nv y).den:Int)) (by omega) (by omega) (uQ _ _);rw [Bo] at c;rw [zH];unfold NQ at c⊢;unfold RZ at d k2 e f g i c⊢;refine al ?_;rw [NK];simp only [Vf,Vg] at c⊢;simp only [ai,↓reduceIte,Int.reduceBEq,Int.reduceEq,GD,d,k2,e,f,g,i,c]
theorem Lu(x:Nm):Or (.call 120) [EN x] []=some (NC (some (-(nv x)))):=by have a:=Ee (nv x).num;have k2:=mO x;rw [zH];unfold NQ;rw [wc,vV];unfold RZ at a k2⊢;refine al ?_;rw [GO];simp only [ai,↓reduceIte,Int.reduceBEq,Int.reduceEq,GD,a,k2];rfl
theorem Ew{m k:Nat}{x y:Nm}(b:QB m (nv x))(c:QB k (nv y))(h:m+k+1<=6300):Or (.call 121) [EN x,EN y] []=some (NC (some (nv x - nv y))):=by
 have a:=Lu y;have k2:=Aj (x:=x) (y:=some (-(nv y))) b c.neg h;have e:nv x+nv (some (-(nv y)))=nv x - nv y:=by rw [RI,Zx]
 rw [e] at k2;rw [sZ] at a k2⊢;refine al ?_;rw [GG];simp only [ai,↓reduceIte,Int.reduceBEq,Int.reduceEq,GD,a,k2]
theorem Ex{m k:Nat}{x y:Nm}(b:QB m (nv x))(c:QB k (nv y))(h:m+k<=6300):Or (.call 64) [EN x,EN y] []=some (NC (some (nv x * nv y))):=by obtain⟨g,i⟩:=QB.ln b (by omega);obtain⟨j,l⟩:=QB.ln c (by omega);have n:(dz ((nv x).num * (nv y).num)).length<=200:=mY (m:=m+k) (by omega) (by rw [Wi];exact iI b.1 c.1);have o:(dz (((nv x).den:Int) * ((nv y).den:Int))).length<=200:=mY (m:=m+k) (by omega) (by rw [Wi,VN,VN];exact iI b.2 c.2);have d:=mO x;have k2:=mO y;have e:=jS (nv x).num (nv y).num (by omega) (by omega);have f:=jS ((nv x).den:Int) ((nv y).den:Int) (by omega) (by omega);have a:=lB ((nv x).num * (nv y).num) (((nv x).den:Int) * ((nv y).den:Int)) (by omega) (by omega) (uQ _ _);rw [Jc] at a;rw [zH];unfold NQ at a⊢;unfold RZ at d k2 e f a⊢;refine al ?_;rw [Ol];simp only [Vf,Vg] at a⊢;simp only [ai,↓reduceIte,Int.reduceBEq,Int.reduceEq,GD,d,k2,e,f,a]
theorem TN{m k:Nat}{x y:Nm}(d:QB m (nv x))(e:QB k (nv y))(h:m+k<=6300)(c:nv y≠0):Or (.call 83) [EN x,EN y] []=some (NC (some (nv x / nv y)))/\QB (m+k) (nv x / nv y):=by
 obtain⟨o,p⟩:=QB.ln d (by omega);obtain⟨q,r⟩:=QB.ln e (by omega);have l:((nv x).num * ((nv y).den:Int)).natAbs<=2 ^ (m+k):=by rw [Wi,VN];exact iI d.1 e.2
 have n:(((nv x).den:Int) * (nv y).num).natAbs<=2 ^ (m+k):=by rw [Wi,VN];exact iI d.2 e.1
 have b:((nv x).den:Int) * (nv y).num≠0:=Int.mul_ne_zero (by have:=(nv x).den_pos;omega) (RG c);have t:=mY h l;have u:=mY h n;have f:=mO x;have k2:=mO y;have g:=jS (nv x).num ((nv y).den:Int) (by omega) (by omega);have i:=jS ((nv x).den:Int) (nv y).num (by omega) (by omega);have a:=lB ((nv x).num * ((nv y).den:Int)) (((nv x).den:Int) * (nv y).num) (by omega) (by omega) b;have j:=QB.divInt b l n;rw [Nq _ c] at a j;refine⟨?_,j⟩;rw [zH];unfold NQ at a⊢;unfold RZ at f k2 g i a⊢;refine al ?_;rw [NN];simp only [Vf,Vg] at a⊢;simp only [ai,↓reduceIte,Int.reduceBEq,Int.reduceEq,GD,f,k2,g,i,a]
def cq(p q:Rat):Int:=if p < q then -1 else if p=q then 0 else 1
theorem oh{m k:Nat}{x y:Nm}(a:QB m (nv x))(b:QB k (nv y))(h:m+k<=6300):Or (.call 29) [EN x,EN y] []=some [ti (cq (nv x) (nv y))]:=by obtain⟨g,i⟩:=QB.ln a (by omega);obtain⟨j,l⟩:=QB.ln b (by omega);have n:=mY (z:=(nv x).num * ((nv y).den:Int)) h (by rw [Wi,VN];exact iI a.1 b.2);have o:=mY (m:=k+m) (z:=(nv y).num * ((nv x).den:Int)) (by omega) (by rw [Wi,VN];exact iI b.1 a.2);have c:=mO x;have k2:=mO y;have d:=jS (nv x).num ((nv y).den:Int) (by omega) (by omega);have e:=jS (nv y).num ((nv x).den:Int) (by omega) (by omega);have f:=SY ((nv x).num * ((nv y).den:Int)) ((nv y).num * ((nv x).den:Int)) (by omega) (by omega);rw [M5] at f;unfold cq;unfold RZ at c k2 d e;refine al ?_;rw [NM];simp only [ai,↓reduceIte,Int.reduceBEq,Int.reduceEq,GD,c,k2,d,e,f]
theorem lM(x:Nm):Or (.call 33) [EN x] []=some [ti (nv x).num.sign]:=by have k:=pI (nv x).num;refine al ?_;rw [NH];simp only [ai,↓reduceIte,Int.reduceBEq,Int.reduceEq,GD,k]
def cZ(q:Rat):Bool:=decide (-1073741824<=q.num/\q.num<=1073741824/\(q.den:Int)<=1073741824)
theorem Sc(q:Rat):Int.gcd q.num (q.den:Int)=1:=q.reduced
theorem zb(q:Rat):bI (q.num,(q.den:Int))↔cZ q=true:=by
 have h1:=q.den_pos;have e:=Sc q;unfold bI cZ;rw [decide_eq_true_iff];constructor
 .rintro⟨a,b,c,d,_⟩;exact⟨c,d,b⟩
 .rintro⟨a,b,c⟩;exact⟨by dsimp only;omega,c,a,b,e⟩
theorem Lw{m:Nat}{x:Nm}(i:QB m (nv x))(h:m<=6300):Or (.call 43) [EN x] []=some (if cZ (nv x)=true then [ti (nv x).num,ti ((nv x).den:Int),tb true] else [ti 0,ti 0,tb false]):=by
 obtain⟨k,l⟩:=QB.ln i h;have b:=KO (nv x).num (by omega);have k2:=mO x;have a:=KO ((nv x).den:Int) (by omega);have e:=D9 ((nv x).num,((nv x).den:Int));have n:=(nv x).den_pos;unfold RZ at k2;refine al ?_;rw [NO];by_cases c:cZ (nv x)=true
 .have f:=(zb _).2 c;rw [if_pos f] at e;rw [if_pos c];unfold cZ at c;have j:=of_decide_eq_true c;rw [if_pos (by omega)] at b a;simp only [ai,↓reduceIte,Int.reduceBEq,Int.reduceEq,GD,b,k2,a,e]
 .have f:¬bI ((nv x).num,((nv x).den:Int)):=λh=>c ((zb _).1 h);rw [if_neg f] at e;rw [if_neg c];by_cases h1: -9223372036854775808<=(nv x).num/\(nv x).num < 9223372036854775808
  .by_cases d: -9223372036854775808<=((nv x).den:Int)/\((nv x).den:Int) < 9223372036854775808
   .rw [if_pos h1] at b;rw [if_pos d] at a;have g:((3:Int)==0)=false:=rfl;simp only [ai,↓reduceIte,Int.reduceBEq,Int.reduceEq,GD,b,k2,a,e,g]
    try rfl
   .rw [if_pos h1] at b;rw [if_neg d] at a;simp only [ai,↓reduceIte,Int.reduceBEq,Int.reduceEq,GD,bE,b,k2,a]
    try rfl
  .rw [if_neg h1] at b;by_cases d: -9223372036854775808<=((nv x).den:Int)/\((nv x).den:Int) < 9223372036854775808
   .rw [if_pos d] at a;simp only [ai,↓reduceIte,Int.reduceBEq,Int.reduceEq,GD,bE,b,k2,a]
    try rfl
   .rw [if_neg d] at a;simp only [ai,↓reduceIte,Int.reduceBEq,Int.reduceEq,GD,bE,b,k2,a]
    try rfl
def aS(l:List Nm):List (List T):=l.map NC
theorem bJ(l:List Nm):(aS l).length=l.length:=by simp [aS]
theorem cw{l:List Nm}{i:Nat}{x:Nm}(h:l[i]? =some x):(aS l)[((i:Nat):Int).toNat]? =some [tb (decide ((nv x).num < 0)),T.str (bM (dz (nv x).num)),tb (nc x),T.str (nd x)]:=by simp [aS,h,NC]
theorem kk{l:List Nm}{i:Nat}(hi:i < l.length)(x:Nm):bo ((i:Nat):Int).toNat 0 [tb (decide ((nv x).num < 0)),T.str (bM (dz (nv x).num)),tb (nc x),T.str (nd x)] (aS l)=some (aS (l.set i x)):=by
 have h1:(aS l)[((i:Nat):Int).toNat]? =some (NC l[i]):=by simp [aS,hi]
 simp only [bo,h1];simp [cd,aS,NC,X8]
theorem Hp(a b:List Nm):aS a++aS b=aS (a++b):=by simp [aS]
theorem OC(x:Nm): [[tb (decide ((nv x).num < 0)),T.str (bM (dz (nv x).num)),tb (nc x),T.str (nd x)]]=aS [x]:=rfl
theorem sF(n:Nat):List.replicate n [tb false,T.str (ByteArray.mk #[]),tb false,T.str (ByteArray.mk #[])]=aS (List.replicate n none):=by unfold aS;rw [List.map_replicate];rfl
end Go.Aev.Wd.Lg
