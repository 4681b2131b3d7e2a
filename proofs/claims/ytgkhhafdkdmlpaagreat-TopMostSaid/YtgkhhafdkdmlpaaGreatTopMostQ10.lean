import Derived.Test.YtgkhhafdkdmlpaaGreatTopMostQ9
set_option linter.all false
namespace Go.Aev.Wd.Lg
open Go Go.Aev Go.Aev.Gen Go.Aev.Wd Go.IntKind
theorem GG(j:Bool)(x:List Int)(b:Int)(y:Dg x)(J:x.length<=900)(hb: 0 < b/\b < 4294967296):∀(k:Nat) (r:Int) (c:List Int),k<=x.length->0<=r/\r < b->
  ∃Q R,Or u5 [lu j x,AV.t (T.int .u32 b),o0,u6 r,I ((k:Int) - 1)] [ab.sl false 1 false (aM (List.replicate k 0++c))]=some [T.ae 1 false (aM (Q++c)),T.int .u32 R]/\Q.length=k/\Dg Q/\0<=R/\R < b/\val Q * b+R=val (x.take k)+4294967296 ^ k * r
 | 0,r,c,H,h=>by
  refine⟨[],r,ao ?_,rfl,(by intro a e;cases e),h.1,h.2,by simp [val]⟩;rw [En];have g:¬(((0:Nat):Int) - 1)>=0:=by omega
  have z:u32.wrap r=r:=by rw [eY];omega
  simp only [al,↓reduceIte,Int.reduceBEq,Int.reduceEq,GD,g,z];rfl
 | k+1,r,c,H,h=>by
  have d:k < x.length:=by omega
  have e: 0<=be x k/\be x k < 4294967296:=by
   have:be x k∈x:=by simp only [be,Rr,Rv d,RQ];exact S9 d
   exact y _ this
  have f: 0<=r * 4294967296+be x k:=by omega
  have p: 0<=(r * 4294967296+be x k) / b:=TR f (by omega);have q:(r * 4294967296+be x k) / b < 4294967296:=by rw [T3 hb.1];have:(r+1) * 4294967296<=b * 4294967296:=R2 (by omega) (by decide);rw [RW 4294967296 b];omega
  have u:=Ua (r * 4294967296+be x k) (show b≠0 by omega);have w:=Tx (r * 4294967296+be x k) hb.1;have m:=TK (r * 4294967296+be x k) b;obtain⟨Q,R,h1,l,E,F,G,U⟩:=GG j x b y J hb k ((r * 4294967296+be x k) % b) ((r * 4294967296+be x k) / b::c) (by omega) ⟨u,w⟩;refine⟨Q++ [(r * 4294967296+be x k) / b],R,ao ?_,by simp [l],Dg.append E (by intro a e;simp at e;subst e;exact⟨p,q⟩),F,G, ?_⟩
  .rw [En];have g:((k+1:Nat):Int) - 1= (k:Int):=by omega
   have A:(k:Int)>=0:=by omega
   have B: 0<=(k:Int)/\(k:Int) < (x.length:Int):=by omega
   have i:List.replicate (k+1) (0:Int)++c=List.replicate k 0++0::c:=by rw [List.replicate_succ',R6];rfl
   have C: 0<=(k:Int)/\(k:Int) < ((List.replicate k (0:Int)++0::c).length:Int):=by simp;omega
   have o:=tW (v:=r) (n:=be x k) (by omega) e;have M:u64.wrap b=b:=bZ (by omega);have N:(r * 4294967296+be x k).tdiv b= (r * 4294967296+be x k) / b:=TH f;have O:(r * 4294967296+be x k).tmod b= (r * 4294967296+be x k) % b:=Ud f;have P:u32.wrap (u64.wrap ((r * 4294967296+be x k) / b))= (r * 4294967296+be x k) / b:=by rw [bZ (by omega),eY];omega
   have K:¬b=0:=by omega
   have L:i64.wrap ((k:Int) - 1)= (k:Int) - 1:=cd (by omega);rw [g,i];simp only [al,↓reduceIte,Int.reduceBEq,Int.reduceEq,GD,A,B,bo,dm d,o,M,N,O,P,K,C,and_self,mA (List.replicate k 0) 0 _ c k (by simp),L];rw [show Q++ [(r * 4294967296+be x k) / b] ++c=Q++ (r * 4294967296+be x k) / b::c from by simp];exact h1
  .rw [hJ,l,sf d,T6,Uy];simp only [val,Up,TT];have D: 4294967296 ^ k * ((r * 4294967296+be x k) / b) * b=4294967296 ^ k * (b * ((r * 4294967296+be x k) / b)):=by
    rw [SA,RW _ b]
   have S:(4294967296:Int) ^ k * (r * 4294967296+be x k)=4294967296 ^ k * (b * ((r * 4294967296+be x k) / b))+4294967296 ^ k * ((r * 4294967296+be x k) % b):=by rw [<-R7,m]
   have e3:(4294967296:Int) ^ k * (r * 4294967296+be x k)=4294967296 ^ k * 4294967296 * r+4294967296 ^ k * be x k:=by rw [R7,SA,RW r]
   rw [D];omega
theorem OZ(c:Bool)(x:List Int)(b:Int)(j:Dg x)(h:x.length<=900)(hb: 0 < b/\b < 4294967296):
  ∃Q R,Or (.call 171) [lu c x,AV.t (T.int .u32 b)] []=some [T.ae 1 false (aM Q),T.int .u32 R]/\Q.length=x.length/\Dg Q/\0<=R/\R < 4294967296/\val Q=val x / b/\R=val x % b:=by
 obtain⟨Q,R,f,k2,k,g,l,m⟩:=GG c x b j h hb x.length 0 [] (RI _) ⟨by omega,hb.1⟩;rw [Uo,Up,TT] at m;rw [Sg,Sg] at f;have i:=Int.ediv_emod_unique hb.1 (a:=val x) (q:=val Q) (r:=R);obtain⟨q1,n⟩:=i.2 ⟨by rw [RW];omega,g,l⟩;refine⟨Q,R,ao ?_,k2,k,g,by omega,q1.symm,n.symm⟩;have d:cv (x.length:Int) (x.length:Int)=some ():=by unfold cv fV;rw [if_pos (by omega)]
 have o:i64.wrap ((x.length:Int) - 1)= (x.length:Int) - 1:=cd (by omega);have e:List.replicate ((x.length:Int)).toNat [T.int u32 (0:Int)]=aM (List.replicate x.length 0):=by simp [aM]
 rw [KD];simp only [al,↓reduceIte,Int.reduceBEq,Int.reduceEq,GD,bo,d,o,e];exact f
theorem N7{y z:Int}{n t:Nat}(b:n<=32)(hy: 0<=y/\y < (2:Int) ^ n)(hz:z= ((2 ^ n * t:Nat):Int))(hb:z < 4294967296)(a:z+y < 4294967296):
  u32.wrap (((BitVec.ofInt 32 z ||| BitVec.ofInt 32 y).toNat:Nat):Int)=z+y:=by
 rw [BitVec.or_comm];exact tV b hy hz hb a
theorem NG(n:Nat)(W:n < 32)(e:Bool)(x:List Int)(H:Dg x)(V:x.length<=900):∀(b:List Int) (i:Nat) (c:Int) (done:List Int),x.drop i=b->done.length=i->i<=x.length->0<=c/\c < (2:Int) ^ n->
  Or u7 [I (n:Int),o0,AV.t (T.int .u32 c),lu e x,I (x.length:Int),I (i:Int)] [ab.sl false 1 false (aM done)]=some [T.ae 1 false (aM (done++fJ (2 ^ n) b c))]:=by
 have d:=lE n;have j:=ue (n:=n) (by omega);have U:=lE (32 - n);have K:(n:Int).tmod 32= (n:Int):=by rw [Ud (by omega)];omega
 have L:min ((n:Int)).toNat 32=n:=by rw [R5];omega
 have M:¬(n:Int) < 0:=by omega
 have N:i64.wrap (32 - (n:Int))= ((32 - n:Nat):Int):=by rw [cd (by omega)];omega
 have O:min (((32 - n:Nat):Int)).toNat 64=32 - n:=by rw [R5];omega
 have P:¬((32 - n:Nat):Int) < 0:=by omega
 intro b;induction b with
 | nil=>
  intro i c done h k hi g;have h1:¬(i:Int) < (x.length:Int):=by have:=bP h;omega
  refine ao ?_;rw [Eo];simp only [al,↓reduceIte,Int.reduceBEq,Int.reduceEq,GD,h1,bo,mI,mJ,nF (done.length+1) (by omega),fJ]
 | cons a b J=>
  intro i c done h k hi g;obtain⟨B,C,D⟩:=bG h;have f:=H a (Rt B);have o:=kZ h;have h1:(i:Int) < (x.length:Int):=by omega
  have E: 0<=(i:Int):=by omega
  have r: 0<=a * (2:Int) ^ n:=SK f.1 (by omega);have v:a * (2:Int) ^ n < 4294967296 * (2:Int) ^ n:=UI f.2 d;have m: 0<=a * (2:Int) ^ n / 4294967296:=TR r (by decide);have l:a * (2:Int) ^ n / 4294967296 < (2:Int) ^ n:=by rw [T3 (by decide),RW (2 ^ n)];exact v
  have p:a.fdiv ((2:Int) ^ (32 - n))=a * (2:Int) ^ n / 4294967296:=by
   rw [SE _ (by omega)]
   conv=>rhs;rw [j]
   rw [Int.mul_ediv_mul_of_pos_left _ _ d]
  have z:=yg d j (x:= [a]) (c:=c) (by intro u A;simp at A;subst A;exact f) g;have S:=z.2.2 (a * 2 ^ n % 4294967296+c) (by simp [fJ]);have w:=Gk (a:=a) d j;have y:u32.wrap (((BitVec.ofInt 32 (a * (2:Int) ^ n % 4294967296) ||| BitVec.ofInt 32 c).toNat:Nat):Int)=a * (2:Int) ^ n % 4294967296+c:=by have q:=Ua a (show(2:Int) ^ (32 - n)≠0 by omega);obtain⟨t,G⟩:=Tz q;exact N7 (n:=n) (t:=t) (by omega) g (by rw [w,G,rL,RW,<-Ub]) (by omega) (by omega)
  have Q:u64.wrap a=a:=bZ (by omega);have F:(2:Int) ^ n<=2147483648:=by have:(2:Nat) ^ n<=2 ^ 31:=TS (by decide) (by omega);rw [rL];omega
  have R:u32.wrap (a * (2:Int) ^ n / 4294967296)=a * (2:Int) ^ n / 4294967296:=by rw [eY];omega
  have:=J (i+1) (a * (2:Int) ^ n / 4294967296) (done++ [a * (2:Int) ^ n % 4294967296+c]) D (by simp [k]) (by omega) ⟨m,l⟩;refine ao ?_;rw [Eo];simp only [K,L,N,O];simp only [al,↓reduceIte,Int.reduceBEq,Int.reduceEq,GD,h1,E,and_self,bo,dm C,o,M,P,Q,eY (a * (2:Int) ^ n),y,p,R,mI,mJ,nF (done.length+1) (by omega),nx i (by omega)];rw [fJ,show done++ (a * 2 ^ n % 4294967296+c)::fJ (2 ^ n) b (a * 2 ^ n / 4294967296)= (done++ [a * 2 ^ n % 4294967296+c])++fJ (2 ^ n) b (a * 2 ^ n / 4294967296) from by simp];exact this
theorem H0(n:Nat)(c:n < 32)(e:Bool)(x:List Int)(d:Dg x)(b:x.length<=900):Or (.call 173) [lu e x,I (n:Int)] []=some [T.ae 1 false (aM (fJ (2 ^ n) x 0))]:=by
 have h1:=NG n c e x d b x 0 0 [] rfl rfl (by omega) ⟨U5 _,lE n⟩;have f:(n:Int).tdiv 32=0:=by rw [TH (by omega)];omega
 have g:i64.wrap 0=0:=cd (by omega);have h:i64.wrap ((x.length:Int)+0)= (x.length:Int):=by rw [cd (by omega)];omega
 have a:cv 0 ((x.length+1:Nat):Int)=some ():=by unfold cv fV;rw [if_pos (by omega)]
 refine ao ?_;rw [KF];simp only [f,g,bo,h,nx x.length (by omega)];simp only [al,↓reduceIte,Int.reduceBEq,Int.reduceEq,GD,a];exact h1
theorem NI(n:Nat)(hn:n < 32)(e Q:Bool)(P:Bool)(x:List Int)(N:Dg x)(hl:x.length<=900):∀(c:List Int) (i:Nat) (done:List Int),x.drop i=c->done.length=i->i<=x.length->
  Or qD [lu e x,I (n:Int),B P,o0,lu Q x,I (x.length:Int),I (i:Int)] [ab.sl false 1 false (aM (done++List.replicate c.length 0))]=some [T.ae 1 false (aM (done++eK (2 ^ n) (2 ^ (32 - n)) c)),tb P]:=by
 have M:=lE n;have C:=ue (n:=n) (by omega);have K:=lE (32 - n);have E:min ((n:Int)).toNat 32=n:=by rw [R5];omega
 have F:¬(n:Int) < 0:=by omega
 have W:i64.wrap (32 - (n:Int))= ((32 - n:Nat):Int):=by rw [cd (by omega)];omega
 have X:min (((32 - n:Nat):Int)).toNat 32=32 - n:=by rw [R5];omega
 have Y:¬((32 - n:Nat):Int) < 0:=by omega
 intro c;induction c with
 | nil=>
  intro i done h f hi;have h1:¬(i:Int) < (x.length:Int):=by have:=bP h;omega
  refine ao ?_;rw [wJ];simp only [al,↓reduceIte,Int.reduceBEq,Int.reduceEq,GD,h1,eK,Su,TY]
 | cons a c k=>
  intro i done h f hi;obtain⟨R,y,d⟩:=bG h;have H:=N a (Rt R);have m:=kZ h;have h1:(i:Int) < (x.length:Int):=by omega
  have z: 0<=(i:Int):=by omega
  have j:done++List.replicate (a::c).length 0=done++0::List.replicate c.length 0:=by simp [Sj]
  have g: 0<=(i:Int)/\(i:Int) < ((done++0::List.replicate c.length 0).length:Int):=by simp;omega
  have o:a.fdiv ((2:Int) ^ n)=a / 2 ^ n:=SE _ (by omega);have v: 0<=(i:Int)/\(i:Int) < ((done++ (a / 2 ^ n)::List.replicate c.length 0).length:Int):=by simp;omega
  have p:∀b:Int,0<=b/\b < 4294967296->(b * (2:Int) ^ (32 - n)) % 4294967296= (b % 2 ^ n) * 2 ^ (32 - n):=λb hb=>Gk K (by rw [RW];exact C);have r: 0<=a / (2:Int) ^ n:=TR H.1 (by omega);have u:a / (2:Int) ^ n < 2 ^ (32 - n):=by rw [T3 M,<-C];exact H.2
  match c,d,k with
  | [],d,k=>
   have Z:=bP d;have A:¬((i+1:Nat):Int) < (x.length:Int):=by omega
   have:=k (i+1) (done++ [a / 2 ^ n]) d (by simp [f]) (by omega);refine ao ?_;rw [wJ,j];simp only [E,pv,<-T9];simp only [al,↓reduceIte,Int.reduceBEq,Int.reduceEq,GD,h1,z,and_self,bo,dm y,m,F,g,o,mA done 0 _ _ i f,nx i (by omega),A,false_and];rw [show done++ (a / 2 ^ n)::List.replicate ([]:List Int).length 0= (done++ [a / 2 ^ n])++List.replicate ([]:List Int).length 0 from by simp,
    show done++eK (2 ^ n) (2 ^ (32 - n)) [a]= (done++ [a / 2 ^ n])++eK (2 ^ n) (2 ^ (32 - n)) [] from by simp [eK]]
   exact this
  | b::c,d,k=>
   obtain⟨V,k2,k3⟩:=bG d;have hb:=N b (Rt V);have J:=kZ d;have A:((i+1:Nat):Int) < (x.length:Int):=by omega
   have G: 0<=((i+1:Nat):Int):=by omega
   have l:=Ua b (show(2:Int) ^ n≠0 by omega);have S:=Tx b M;have O:(b % 2 ^ n+1) * (2:Int) ^ (32 - n)<=2 ^ n * 2 ^ (32 - n):=R2 (by omega) (by omega);rw [Uy,SU,RW ((2:Int) ^ n),<-C] at O;have hz0: 0<=(b % 2 ^ n) * (2:Int) ^ (32 - n):=SK l (by omega);by_cases w:(n:Int) > 0
   .have:=k (i+1) (done++ [a / 2 ^ n+b * 2 ^ (32 - n) % 4294967296]) d (by simp [f]) (by omega);have L:u32.wrap (((BitVec.ofInt 32 (a / (2:Int) ^ n) ||| BitVec.ofInt 32 (b * (2:Int) ^ (32 - n) % 4294967296)).toNat:Nat):Int)=a / 2 ^ n+b * 2 ^ (32 - n) % 4294967296:=by
     obtain⟨t,U⟩:=Tz l;rw [tV (n:=32 - n) (t:=t) (by omega) ⟨r,u⟩ (by rw [p b hb,U,rL (32 - n),RW,<-Ub]) (by rw [p b hb];omega) (by rw [p b hb];omega)];omega
    have q:((i+1:Nat):Int) < (x.length:Int)/\(n:Int) > 0:=⟨A,w⟩;refine ao ?_;rw [wJ,j];simp only [E,pv,<-T9];simp only [al,↓reduceIte,Int.reduceBEq,Int.reduceEq,GD,h1,z,and_self,bo,dm y,m,F,g,o,mA done 0 _ _ i f,nx i (by omega),q,v,l9 done _ _ i f,G,dm k2,J,W,X,Y,eY (b * (2:Int) ^ (32 - n)),L,mA done (a / 2 ^ n) _ _ i f];rw [show done++ (a / 2 ^ n+b * 2 ^ (32 - n) % 4294967296)::List.replicate (b::c).length 0= (done++ [a / 2 ^ n+b * 2 ^ (32 - n) % 4294967296])++List.replicate (b::c).length 0 from by simp,
     show done++eK (2 ^ n) (2 ^ (32 - n)) (a::b::c)= (done++ [a / 2 ^ n+b * 2 ^ (32 - n) % 4294967296])++eK (2 ^ n) (2 ^ (32 - n)) (b::c) from by simp [eK]]
    exact this
   .have D:n=0:=by omega
    have hz:b * (2:Int) ^ (32 - n) % 4294967296=0:=by rw [D,show((2:Int) ^ (32 - 0))=4294967296 from by decide];omega
    have:=k (i+1) (done++ [a / 2 ^ n+b * 2 ^ (32 - n) % 4294967296]) d (by simp [f]) (by omega);rw [hz,TT] at this;refine ao ?_;rw [wJ,j];simp only [E,pv,<-T9];simp only [al,↓reduceIte,Int.reduceBEq,Int.reduceEq,GD,h1,z,and_self,bo,dm y,m,F,g,o,mA done 0 _ _ i f,nx i (by omega),w,and_false];rw [show done++ (a / 2 ^ n)::List.replicate (b::c).length 0= (done++ [a / 2 ^ n])++List.replicate (b::c).length 0 from by simp,
     show done++eK (2 ^ n) (2 ^ (32 - n)) (a::b::c)= (done++ [a / 2 ^ n])++eK (2 ^ n) (2 ^ (32 - n)) (b::c) from by simp [eK,hz]]
    exact this
theorem O7(n:Nat)(v:n < 32)(e:Bool)(x:List Int)(y:Dg x)(u:x.length<=900)(o: 0 < x.length):∃b,Or (.call 175) [lu e x,I (n:Int)] []=some [T.ae 1 false (aM (eK (2 ^ n) (2 ^ (32 - n)) x)),tb b]:=by
 obtain⟨a,r,rfl⟩:∃a r,x=a::r:=by
  cases x with
  | nil=>simp at o
  | cons a r=>exact⟨a,r,rfl⟩
 have z:(n:Int).tdiv 32=0:=by rw [TH (by omega)];omega
 have A:(n:Int).tmod 32= (n:Int):=by rw [Ud (by omega)];omega
 have C:i64.wrap (32 - (n:Int))= ((32 - n:Nat):Int):=by rw [cd (by omega)];omega
 have D:¬((32 - n:Nat):Int) < 0:=by omega
 have E:i64.wrap 0=0:=cd (by omega);have i:mm false 0 ((a::r).length:Int)=0:=by rw [Nr];omega
 have f:cZ 0 0 ((a::r).length:Int)=some ():=by unfold cZ;rw [if_pos (by omega)]
 have g:cZ 0 ((a::r).length:Int) ((a::r).length:Int)=some ():=by unfold cZ;rw [if_pos (by omega)]
 have l:sub 0 0 (aM (a::r))= []:=by simp [sub]
 have m:sub 0 ((a::r).length:Int) (aM (a::r))=aM (a::r):=by unfold sub;rw [R5,Int.toNat_zero,UG,Sr,SM (by rw [bo];exact RI _)]
 have h:cv ((a::r).length:Int) ((a::r).length:Int)=some ():=by unfold cv fV;rw [if_pos (by omega)]
 have p:aM ([] ++List.replicate (a::r).length 0)=List.replicate (a::r).length [T.int u32 0]:=by simp [aM]
 have k:¬((a::r).length:Int)=0:=by omega
 have q:(aM (a::r))[(0:Nat)]? =some [T.int .u32 a]:=rfl;have w:(0:Int)<=0/\(0:Int) < ((a::r).length:Int):=by omega
 have key:∀c:Bool,Or qD [lu e (a::r),I (n:Int),B c,o0,lu e (a::r),I ((a::r).length:Int),I 0] [ab.sl false 1 false (List.replicate (a::r).length [T.int u32 0])]=some [T.ae 1 false (aM (eK (2 ^ n) (2 ^ (32 - n)) (a::r))),tb c]:=λc=>by have:=NI n v e e c (a::r) y u (a::r) 0 [] rfl rfl (by omega);rw [p] at this;exact this
 have nd:∃b,Or sD [lu e (a::r),I (n:Int),B false,I 0,AV.t (T.ae 1 e []),I (([]:List (List T)).length:Int),I 0] []=some [T.ae 1 false (aM (eK (2 ^ n) (2 ^ (32 - n)) (a::r))),tb b]:=by
  have st:∃b,aF ar ann Or sD [lu e (a::r),I (n:Int),B false,I 0,AV.t (T.ae 1 e []),I (([]:List (List T)).length:Int),I 0] []=some [T.ae 1 false (aM (eK (2 ^ n) (2 ^ (32 - n)) (a::r))),tb b]:=by
   rw [KI];have d:¬(0:Int) < (([]:List (List T)).length:Int):=by simp
   simp only [A,C];simp only [al,↓reduceIte,Int.reduceBEq,Int.reduceEq,GD,d,bo,g,m,k,w,q,D,h,R5];exact⟨_,key _⟩
  obtain⟨b,st⟩:=st;exact⟨b,ao st⟩
 obtain⟨b,j⟩:=nd;refine⟨b,ao ?_⟩;rw [KH];simp only [z,E,bo,i];simp only [al,↓reduceIte,Int.reduceBEq,Int.reduceEq,GD,f,l];exact j
theorem zm{t:Int}(h: 0<=t/\t < 18446744073709551616):u64.wrap (((BitVec.ofInt 64 t &&& BitVec.ofInt 64 4294967295).toNat:Nat):Int)=t % 4294967296:=by
 obtain⟨a,rfl⟩:=Tz h.1;have b:a % 2 ^ 64=a:=TI (by omega);have c:(BitVec.ofInt 64 4294967295).toNat=2 ^ 32 - 1:=by decide
 rw [BitVec.toNat_and,c,Nat.and_two_pow_sub_one_eq_mod,Uh,Uv,b,bZ (by omega)];omega
theorem z7(a:List Int)(b:Int)(r:List Int)(i:Nat)(h:a.length=i):(aM (a++b::r))[i]? =some [T.int .u32 b]:=by have:=l9 a b r i h;rwa [R5] at this
theorem ur(a:List Int)(b v:Int)(r:List Int)(i:Nat)(h:a.length=i):bI i 0 [T.int .u32 v] (aM (a++b::r))=some (aM (a++v::r)):=by have:=mA a b v r i h;rwa [R5] at this
theorem NH(ev ec:Bool)(v:List Int)(hv:Dg v)(d hi:List Int)(top q:Int)(Q: 0<=top/\top < 4294967296)(L: 0<=q/\q < 4294967296)(P:v.length<=1000):∀(vs:List Int) (i:Nat) (c b:Int) (done us:List Int),v.drop i=vs->i<=v.length->done.length=i->us.length=vs.length->Dg us->0<=c/\c < 4294967296->0<=b/\b<=1->
  Or qC [AV.part (Id.c 0) 1 d.length (v.length+1),lu ev v,u6 q,u6 b,u6 c,I ((v.length+1:Nat):Int),I (i:Int)] [ab.sl false 1 ec (aM (d++ (done++us++top::hi)))]=
   some [tb (decide (cO (top - (fC q us vs c b).1 - (fC q us vs c b).2) > 0)),T.ae 1 ec (aM (d++ (done++jI q us vs c b++ ((top - (fC q us vs c b).1 - (fC q us vs c b).2) % 4294967296)::hi)))]:=by
 intro vs;induction vs with
 | nil=>
  intro i c b done us h y j f e H hb;have N:=bP h;obtain rfl:i=v.length:=by omega
  obtain rfl:us= []:=RN.1 (by simpa using f);simp only [jI,fC];have h1:(v.length:Int) < ((v.length+1:Nat):Int):=by omega
  have n:¬(v.length:Int) < (v.length:Int):=by omega
  have m: 0<=(v.length:Int):=by omega
  have p:∀z,d++ (done++ [] ++z::hi)= (d++done)++z::hi:=λz=>by simp
  have g:(d++done).length=d.length+v.length:=by simp [j]
  have k:u64.wrap top=top:=bZ (by omega);have w:c % 4294967296=c:=by omega
  have K:i64.wrap ((v.length:Int)+1)= ((v.length+1:Nat):Int):=nx _ (by omega);have o:¬((v.length+1:Nat):Int) < ((v.length+1:Nat):Int):=by omega
  have r:Or qC [AV.part (Id.c 0) 1 d.length (v.length+1),lu ev v,u6 q,u6 (cO (top - c - b)),u6 (c / 4294967296),I ((v.length+1:Nat):Int),I ((v.length+1:Nat):Int)] [ab.sl false 1 ec (aM ((d++done)++ ((top - c - b) % 4294967296)::hi))]=
    some [tb (decide (cO (top - c - b) > 0)),T.ae 1 ec (aM ((d++done)++ ((top - c - b) % 4294967296)::hi))]:=by
   refine ao ?_;rw [zZ];simp only [al,↓reduceIte,Int.reduceBEq,Int.reduceEq,GD,o]
  refine ao ?_;rw [zZ];simp only [p];simp only [al,↓reduceIte,Int.reduceBEq,Int.reduceEq,GD,h1,n,m,and_self,bo,R5,z7 (d++done) top hi _ g,k,zm (t:=c) (by omega),w,Cr,Cq,ur (d++done) top _ hi _ g,mV,Ar (v:=top - c - b) (by omega),K];exact r
 | cons a vs M=>
  intro i c b done us h y j f e H hb;obtain⟨E,u,F⟩:=bG h;have G:=hv a (Rt E);have l:=kZ h
  match us,f,e with
  | x::us,f,e=>
   have R:=e x Rs;have O:=lr L G;rw [jI,fC];have:=M (i+1) ((c+q * a) / 4294967296) (cO (x - (c+q * a) % 4294967296 - b)) (done++ [(x - (c+q * a) % 4294967296 - b) % 4294967296]) us F (by omega) (by simp [j]) (by simpa using f) e.tail (by omega) (Dq _);have h1:(i:Int) < ((v.length+1:Nat):Int):=by omega
   have n:(i:Int) < (v.length:Int):=by omega
   have m: 0<=(i:Int):=by omega
   have p:d++ (done++x::us++top::hi)= (d++done)++x:: (us++top::hi):=by simp
   have A:d++ (done++ [(x - (c+q * a) % 4294967296 - b) % 4294967296] ++us++top::hi)= (d++done)++ ((x - (c+q * a) % 4294967296 - b) % 4294967296):: (us++top::hi):=by simp
   have g:(d++done).length=d.length+i:=by simp [j]
   rw [A] at this;rw [p];have B:u64.wrap a=a:=bZ (by omega);have C:u64.wrap (q * a)=q * a:=bZ (by omega);have D:u64.wrap (c+q * a)=c+q * a:=bZ (by omega);have k:u64.wrap x=x:=bZ (by omega);refine ao ?_;rw [zZ];simp only [al,↓reduceIte,Int.reduceBEq,Int.reduceEq,GD,h1,n,m,and_self,bo,dm u,l,R5,z7 (d++done) x _ _ g,B,C,D,k,zm (t:=c+q * a) (by omega),Cr,Cq,ur (d++done) x _ _ _ g,mV,Ar (v:=x - (c+q * a) % 4294967296 - b) (by omega),nx i (by omega)];have J:(aM v)[i]? =some [T.int .u32 a]:=by have:=dm u;rw [R5,l] at this;exact this
   simp only [al,↓reduceIte,Int.reduceBEq,Int.reduceEq,GD,J,B,C,D,k,zm (t:=c+q * a) (by omega),Cr,Cq,ur (d++done) x _ _ _ g,mV,Ar (v:=x - (c+q * a) % 4294967296 - b) (by omega),z7 (d++done) x _ _ g];exact this.trans (by simp)
theorem O6(ev ec:Bool)(v:List Int)(hv:Dg v)(a hi w:List Int)(top q:Int)(f: 0<=top/\top < 4294967296)(e: 0<=q/\q < 4294967296)(b:v.length<=1000)(g:Dg w)(d:w.length=v.length):
  Or (.call 174) [AV.part (Id.c 0) 1 a.length (v.length+1),lu ev v,u6 q] [ab.sl false 1 ec (aM (a++ (w++top::hi)))]=
   some [tb (decide (cO (top - (fC q w v 0 0).1 - (fC q w v 0 0).2) > 0)),T.ae 1 ec (aM (a++ (jI q w v 0 0++ ((top - (fC q w v 0 0).1 - (fC q w v 0 0).2) % 4294967296)::hi)))]:=by
 have:=NH ev ec v hv a hi top q f e b v 0 0 0 [] w rfl (by omega) rfl d g (by omega) (by omega);refine ao ?_;rw [KG];simpa using this
open Go Go.Aev Go.Aev.Gen Go.Aev.Wd Go.IntKind
theorem NA(s:Nat)(ev ec0 ec1:Bool)(v:List Int)(hv:Dg v)(b hi j:List Int)(top q:Int)(F:b.length<=1000)(G:v.length<=1000)(R:List T):∀(vs:List Int) (i:Nat) (c:Int) (done us:List Int),v.drop i=vs->i<=v.length->done.length=i->us.length=vs.length->Dg us->0<=c/\c<=1->
  Or pf [I (s:Int),lu ev v,o0,I (v.length:Int),o1,I (b.length:Int),u6 q,u6 (jt us vs c),lu ev v,I (v.length:Int),I (v.length:Int)] (U2 ec0 ec1 (b++ (done++fP us vs c++top::hi)) j)=some R->
  Or pf [I (s:Int),lu ev v,o0,I (v.length:Int),o1,I (b.length:Int),u6 q,u6 c,lu ev v,I (v.length:Int),I (i:Int)] (U2 ec0 ec1 (b++ (done++us++top::hi)) j)=some R:=by
 intro vs;induction vs with
 | nil=>
  intro i c done us h m g e d w f;have E:=bP h;obtain rfl:i=v.length:=by omega
  obtain rfl:us= []:=RN.1 (by simpa using e);simpa only [fP,jt] using f
 | cons a vs z=>
  intro i c done us h m g e d w f;obtain⟨p,r,t⟩:=bG h;have H:=hv a (Rt p);have l:=kZ h
  match us,e,d,f with
  | x::us,e,d,f=>
   have J:=d x Rs;rw [fP,jt] at f;have:=z (i+1) ((c+ (x+a)) / 4294967296) (done++ [(c+ (x+a)) % 4294967296]) us t (by omega) (by simp [g]) (by simpa using e) d.tail (by omega) (by
    simpa only [R6,Rx,Ry] using f)
   have h1:(i:Int) < (v.length:Int):=by omega
   have u: 0<=(i:Int):=by omega
   have y:b++ (done++x::us++top::hi)= (b++done)++x:: (us++top::hi):=by simp
   have o:b++ (done++ [(c+ (x+a)) % 4294967296] ++us++top::hi)= (b++done)++ ((c+ (x+a)) % 4294967296):: (us++top::hi):=by simp
   have n:(b++done).length=b.length+i:=by simp [g]
   rw [o] at this;rw [y];have k: 0<=((b.length+i:Nat):Int)/\((b.length+i:Nat):Int) < (((b++done)++x:: (us++top::hi)).length:Int):=by simp [g];omega
   have A:u64.wrap a=a:=bZ (by omega);have B:u64.wrap x=x:=bZ (by omega);have C:u64.wrap (x+a)=x+a:=bZ (by omega);have D:u64.wrap (c+ (x+a))=c+ (x+a):=bZ (by omega);refine ao ?_;rw [Ej];simp only [al,↓reduceIte,Int.reduceBEq,Int.reduceEq,GD,h1,u,and_self,bo,dm r,l,ad b.length i (by omega),k,l9 (b++done) x _ _ n,A,B,C,D,eY,mA (b++done) x _ _ _ n,mV,nx i (by omega)];exact this
section
variable (s:Nat) (ev ec0 ec1:Bool)
noncomputable abbrev ve(v:List Int)(u a:List Int)(k:Int):Option (List T):=Or qB [I (s:Int),lu ev v,o0,I (v.length:Int),o1,I k] (U2 ec0 ec1 u a)
def CS(v u:List Int)(k:Nat)(d:List Int)(e:List T->Prop)(a:Int):Prop:=
 (∃b:List Int,Or (.call 174) [AV.part (Id.c 0) 1 k (v.length+1),lu ev v,u6 a] [ab.sl false 1 ec0 (aM u)]=some [tb false,T.ae 1 ec0 (aM b)]/\Wd.Good e (ve s ev ec0 ec1 v b (List.replicate k 0++a::d) ((k:Int) - 1)))\/
 (∃b:List Int,Or (.call 174) [AV.part (Id.c 0) 1 k (v.length+1),lu ev v,u6 a] [ab.sl false 1 ec0 (aM u)]=some [tb true,T.ae 1 ec0 (aM b)]/\1<=a/\Wd.Good e (Or pf [I (s:Int),lu ev v,o0,I (v.length:Int),o1,I (k:Int),u6 (a - 1),u6 0,lu ev v,I (v.length:Int),I 0] (U2 ec0 ec1 b (List.replicate k 0++0::d))))
theorem Kr(v:List Int)(a hi:List Int)(hv:Dg v)(y:v.length<=1000)(U:a.length<=1000)(w:List Int)(top:Int)(V:Dg w)(f:w.length=v.length)(ht: 0<=top/\top < 4294967296)(L: 0 < val v)(m:List Int)(X:List T->Prop)
  (q:Int) (hq:q= (val w+4294967296 ^ v.length * top) / val v) (d:Int) (hq1:q<=d) (hq2:d<=q+1) (x: 0<=d/\d < 4294967296) (hq0: 0<=q)
  (next:∀p:List Int,Dg p->p.length=v.length->val p= (val w+4294967296 ^ v.length * top) % val v->Wd.Good X (ve s ev ec0 ec1 v (a++ (p++0::hi)) (List.replicate a.length 0++q::m) ((a.length:Int) - 1))):
  CS s ev ec0 ec1 v (a++ (w++top::hi)) a.length m X d:=by
 obtain⟨H,n,o,s4,s5,s6,s7⟩:=Gr x (us:=w) (vs:=v) (c:=0) (b:=0) f V hv (by omega) (by omega);have g:=O6 ev ec0 v hv a hi w top d ht x y V f;have hvV:=jT hv;have hm0:=gP o;have u:=jT o;rw [n] at u;rw [f] at H u;have P:=TK (val w+4294967296 ^ v.length * top) (val v);have hr0:=Ua (val w+4294967296 ^ v.length * top) (show val v≠0 by omega);have hr1:=Tx (val w+4294967296 ^ v.length * top) L;rw [<-hq] at P;generalize (val w+4294967296 ^ v.length * top) % val v=r at *
 have S:(List.replicate a.length (0:Int)).length=a.length:=by simp
 generalize jI d w v 0 0=M at *
 generalize fC d w v 0 0=Y at *
 obtain⟨c,b⟩:=Y;dsimp only at H s4 s5 s6 s7 g;have N: 0<=(a.length:Int)/\(a.length:Int) < ((List.replicate a.length (0:Int)++0::m).length:Int):=by simp;omega
 have D:¬(v.length:Int) < (v.length:Int):=by omega
 have i:=iQ v.length;have e:val M+4294967296 ^ v.length * (top - c - b)= (val w+4294967296 ^ v.length * top) - d * val v:=by rw [H,Int.mul_sub,Int.mul_sub,R7];omega
 have J:∀z:Int,z<= -1->4294967296 ^ v.length * z<= -(4294967296 ^ v.length):=λz hz=>by have:(4294967296:Int) ^ v.length * z<=4294967296 ^ v.length * (-1):=RG hz (S8 i);omega
 have C:∀z:Int,1<=z->4294967296 ^ v.length<=(4294967296:Int) ^ v.length * z:=λz hz=>by have:(4294967296:Int) ^ v.length * 1<=4294967296 ^ v.length * z:=RG hz (S8 i);omega
 by_cases Z:d=q
 .subst Z;have hz:top - c - b=0:=by
   rcases TW (top - c - b) 0 with h | h | h
   .have:=J (top - c - b) (by omega);rw [RW d] at e;omega
   .exact h
   .have:=C (top - c - b) (by omega);rw [RW d] at e;omega
  have k:decide (cO (top - c - b) > 0)=false:=by rw [hz];rfl
  rw [k,show(top - c - b) % 4294967296=0 from by rw [hz];rfl] at g;exact .inl ⟨_,g,next M o (by rw [n,f]) (by rw [hz] at e;rw [RW d] at e;omega)⟩
 .have Q:d=q+1:=by omega
  have hq'V:d * val v=val v * q+val v:=by rw [Q,Uy,SU,RW]
  have hz:top - c - b= -1:=by
   rcases TW (top - c - b) (-1) with h | h | h
   .exfalso;have:(4294967296:Int) ^ v.length * (top - c - b)<=4294967296 ^ v.length * (-2):=RG (by omega) (S8 i);omega
   .exact h
   .exfalso;have:(4294967296:Int) ^ v.length * 0<=4294967296 ^ v.length * (top - c - b):=RG (by omega) (S8 i);omega
  have k:decide (cO (top - c - b) > 0)=true:=by rw [hz];rfl
  rw [k,show(top - c - b) % 4294967296=4294967295 from by rw [hz];rfl] at g;obtain⟨A,j,B,a4,a5⟩:=CW (us:=M) (vs:=v) (c:=0) (by rw [n,f]) o hv (by omega);rw [n,f] at A j;have hA0:=gP B;have I:=jT B;rw [j] at I;rw [hz] at e;have hM:val M=r - val v+4294967296 ^ v.length:=by omega
  have t:jt M v 0=1:=by
   rcases Th (jt M v 0) 1 with h | h
   .exfalso;have:jt M v 0=0:=by omega
    rw [this] at A;omega
   .omega
  rw [t] at A;have E:d - 1=q:=by omega
  refine .inr ⟨_,g,by omega, ?_⟩;rw [E];refine(next (fP M v 0) B j (by omega)).step λR K=> ?_;have G:=NA s ev ec0 ec1 v hv a hi (List.replicate a.length 0++0::m) 4294967295 q U y R v 0 0 [] M rfl (by omega) rfl (by rw [n,f]) o (by omega) (by
   rw [t];refine ao ?_;rw [Ej];have F:a++ ([] ++fP M v 0++4294967295::hi)= (a++fP M v 0)++4294967295::hi:=by simp
   rw [F];have l:(a++fP M v 0).length=a.length+v.length:=by simp [j]
   have O: 0<=((a.length+v.length:Nat):Int)/\((a.length+v.length:Nat):Int) < (((a++fP M v 0)++4294967295::hi).length:Int):=by simp [j];omega
   have W:u32.wrap (4294967295+u32.wrap 1)=0:=by rw [eY,eY];rfl
   have wq:u32.wrap q=q:=by rw [eY];omega
   rw [show a++ (fP M v 0++0::hi)= (a++fP M v 0)++0::hi from by simp] at K;simp only [al,↓reduceIte,Int.reduceBEq,Int.reduceEq,GD,D,bo,ad a.length v.length (by omega),O,and_self,l9 (a++fP M v 0) _ hi _ l,W,mA (a++fP M v 0) _ _ hi _ l,N,wq,mA _ 0 _ m _ S,Cp a.length (by omega)];exact K)
  simpa using G
end
theorem NB(s k:Nat)(ev ec0 ec1:Bool)(v u N:List Int)(Φ:List T->Prop){U V P w0 v0 n f c D q:Int}(hvl:v.length<=1000)(hkl:k<=1000)(hn2: 2<=v.length)(hul:k+v.length < u.length)
  (o:(aM v)[((v.length - 1:Nat):Int).toNat]? =some [T.int .u32 c]) (p:(aM v)[((v.length - 2:Nat):Int).toNat]? =some [T.int .u32 f]) (r:(aM u)[((k+v.length - 2:Nat):Int).toNat]? =some [T.int .u32 n])
  (hP: 0 < P) (hU:U=w0+P * n+4294967296 * (P * D)) (hV:V=v0+P * f+4294967296 * (P * c)) (hw: 0<=w0/\w0 < P) (L: 0<=v0/\v0 < P) (hu2: 0<=n/\n < 4294967296) (w: 0<=f/\f < 4294967296) (hv1: 1<=c/\c < 4294967296)
  (hU0: 0<=U) (hUV:U < V * 4294967296) (J: 0 < V) (Y:q=U / V)
  (go:∀M,q<=M->M<=q+1->0<=M->M < 4294967296->CS s ev ec0 ec1 v u k N Φ M):
  ∀(m:Nat) (qh d:Int),4294967296 - d<=(m:Int)->qh * c+d=D->0<=d/\d < 4294967296->q<=qh->qh < 18446744073709551616->
   Wd.Good Φ (Or uZ [I (s:Int),lu ev v,o0,I (v.length:Int),o1,I (k:Int),u6 qh,u6 d] (U2 ec0 ec1 u (List.replicate k 0++0::N))):=by
 have hqV:q * V<=U:=by rw [Y];exact Int.ediv_mul_le _ (by omega)
 have hq0: 0<=q:=by rw [Y];exact TR hU0 (by omega)
 have hqV1:U < (q+1) * V:=by rw [Y,Uy,SU];have:=TK U V;have:=Tx U J;rw [RW V] at *;omega
 have hT3:D < 4294967296 * (c+1):=by
  rcases Th D (4294967296 * (c+1)) with h | h
  .exact h
  .exfalso;have h1:P * (4294967296 * (c+1))<=P * D:=RG h (by omega);have h2:P * f<=P * 4294967295:=RG (by omega) (by omega);have h3: 0<=P * n:=SK (by omega) hu2.1;rw [Si,R7,UP] at h1;omega
 have hkz:(List.replicate k (0:Int)).length=k:=by simp
 have hb2: 0<=(k:Int)/\(k:Int) < ((List.replicate k (0:Int)++0::N).length:Int):=by simp;omega
 have i:i64.wrap ((k:Int)+ (v.length:Int))= ((k+v.length:Nat):Int):=ad k v.length (by omega);have g:i64.wrap (((k+v.length:Nat):Int)+1)= ((k+v.length+1:Nat):Int):=nx _ (by omega);have z:cZ (k:Int) ((k+v.length+1:Nat):Int) (u.length:Int)=some ():=by unfold cZ;rw [if_pos (by omega)]
 have B:((k+v.length+1:Nat):Int).toNat - k=v.length+1:=by omega
 have C:((k:Int)).toNat=k:=by omega
 intro m;induction m with
 | zero=>intro qh d hm _ hr _ _;omega
 | succ m ih=>
  intro qh d hm hT hr hqq hq64;have O:i64.wrap ((v.length:Int) - 2)= ((v.length - 2:Nat):Int):=by rw [cd (by omega)];omega
  have Q:i64.wrap (((k+v.length:Nat):Int) - 2)= ((k+v.length - 2:Nat):Int):=by rw [cd (by omega)];omega
  have S:i64.wrap ((v.length:Int) - 1)= ((v.length - 1:Nat):Int):=by rw [cd (by omega)];omega
  have F: 0<=((v.length - 2:Nat):Int)/\((v.length - 2:Nat):Int) < (v.length:Int):=by omega
  have G: 0<=((k+v.length - 2:Nat):Int)/\((k+v.length - 2:Nat):Int) < (u.length:Int):=by omega
  have H: 0<=((v.length - 1:Nat):Int)/\((v.length - 1:Nat):Int) < (v.length:Int):=by omega
  have W:u64.wrap f=f:=bZ (by omega);have x2:u64.wrap c=c:=bZ (by omega);have X:u64.wrap (d+c)=d+c:=bZ (by omega);have t:=tW hr hu2;by_cases l:qh>=4294967296\/qh * f > d * 4294967296+n
  .have A:q<=qh - 1:=by
    rcases l with l | l
    .have hqB:q < 4294967296:=by rw [Y];exact Int.ediv_lt_of_lt_mul J (by rw [RW];exact hUV)
     omega
    .exact MJ hP hU hV hw L.1 (by omega) hT hqV l J
   have E:u64.wrap (qh - 1)=qh - 1:=bZ (by omega);have Z:(qh - 1) * c+ (d+c)=D:=by rw [VR,SU];omega
   have e:(qh>=4294967296\/u64.wrap (qh * f) > d * 4294967296+n):=by
    by_cases hb:qh>=4294967296
    .left;omega
    .right;rcases l with l | l
     .exact absurd l hb
     .have:=lr (a:=qh) (b:=f) (by omega) w;rw [bZ (by omega)];exact l
   by_cases hbr:d+c < 4294967296
   .have hz:¬d+c>=4294967296:=by omega
    refine(ih (qh - 1) (d+c) (by omega) Z (by omega) A (by omega)).step λR j=>ao ?_;rw [tf];simp only [kf,<-decide_not,<-Tg];simp only [al,↓reduceIte,Int.reduceBEq,Int.reduceEq,GD,bo,O,i,Q,S,F,G,H,and_self,o,p,r,W,x2,X,E,t,e,hz];exact j
   .have hz:d+c>=4294967296:=by omega
    have hsm:qh - 1 < 4294967296:=by
     rcases Th (qh - 1) 4294967296 with h | h
     .exact h
     .exfalso;have: 4294967296 * c<=(qh - 1) * c:=R2 h (by omega);rw [R7] at hT3;omega
    have K:qh - 1<=q+1:=by
     have h1:=lr (a:=qh - 1) (b:=f) (by omega) w;have h2:=FU hP hU hV hw.1 L w.1 hv1.1 (qh:=qh - 1) (by omega) Z (by omega);rcases Th (q+1) (qh - 1) with h | h
     .exfalso;have:(q+1) * V<=(qh - 1 - 1) * V:=R2 (by omega) (by omega);omega
     .exact h
    have x5:u32.wrap (qh - 1)=qh - 1:=by rw [eY];omega
    rcases go (qh - 1) A K (by omega) hsm with⟨u',x,y⟩ | ⟨u',x,p0,y⟩
    .refine y.step λR j=>ao ?_;rw [tf];simp only [kf,<-decide_not,<-Tg];simp only [al,↓reduceIte,Int.reduceBEq,Int.reduceEq,GD,RA,bo,O,i,g,z,B,C,Q,S,F,G,H,and_self,o,p,r,W,x2,X,E,x5,t,e,hz,x,hb2,ur _ 0 _ N _ hkz,Cp k (by omega)];exact j
    .have x6:u64.wrap (qh - 1 - 1)=qh - 1 - 1:=bZ (by omega);refine y.step λR j=>ao ?_;rw [tf];simp only [kf,<-decide_not,<-Tg];simp only [al,↓reduceIte,Int.reduceBEq,Int.reduceEq,GD,RA,bo,O,i,g,z,B,C,Q,S,F,G,H,and_self,o,p,r,W,x2,X,E,x6,t,e,hz,x];exact j
  .have hqs:qh < 4294967296:=by omega
   have A:qh * f<=d * 4294967296+n:=by omega
   have hm2:=lr (a:=qh) (b:=f) (by omega) w;have E:u64.wrap (qh * f)=qh * f:=bZ (by omega);have e:¬(qh>=4294967296\/qh * f > d * 4294967296+n):=by omega
   have K:qh<=q+1:=by
    have h2:=FU hP hU hV hw.1 L w.1 hv1.1 (qh:=qh) (by omega) hT A;rcases Th (q+1) qh with h | h
    .exfalso;have:(q+1) * V<=(qh - 1) * V:=R2 (by omega) (by omega);omega
    .exact h
   have x5:u32.wrap qh=qh:=by rw [eY];omega
   rcases go qh hqq K (by omega) hqs with⟨u',x,y⟩ | ⟨u',x,p0,y⟩
   .refine y.step λR j=>ao ?_;rw [tf];simp only [kf,<-decide_not,<-Tg];simp only [al,↓reduceIte,Int.reduceBEq,Int.reduceEq,GD,RA,bo,O,i,g,z,B,C,Q,S,F,G,H,and_self,o,p,r,W,x2,X,E,x5,t,e,x,hb2,ur _ 0 _ N _ hkz,Cp k (by omega)];exact j
   .have x6:u64.wrap (qh - 1)=qh - 1:=bZ (by omega);refine y.step λR j=>ao ?_;rw [tf];simp only [kf,<-decide_not,<-Tg];simp only [al,↓reduceIte,Int.reduceBEq,Int.reduceEq,GD,RA,bo,O,i,g,z,B,C,Q,S,F,G,H,and_self,o,p,r,W,x2,X,E,x6,t,e,x];exact j
theorem Rb(s:Nat)(hs:s < 32)(ev ec0 ec1:Bool)(b:List Int)(e c:Int)(hv:Dg (b++ [e,c]))(hvl:b.length<=400)(h1: 1<=c)(L:Nat)(N0:Int):∀(j:Nat) (A R hi i:List Int),A.length=j->j<=900->R.length=b.length+2->Dg A->Dg R->Dg i->val R < val (b++ [e,c])->j+i.length=L->
  val A+4294967296 ^ j * (val R+val (b++ [e,c]) * val i)=N0->Wd.Good (Cw s L (val (b++ [e,c])) N0 (b.length+2)) (ve s ev ec0 ec1 (b++ [e,c]) (A++ (R++hi)) (List.replicate j 0++i) ((j:Int) - 1)):=by
 have g:(b++ [e,c]).length=b.length+2:=by simp
 have I:val (b++ [e,c])=val b+4294967296 ^ b.length * e+4294967296 * (4294967296 ^ b.length * c):=by rw [hJ];simp only [val];rw [R7,Si _ 4294967296];simp;omega
 have Z:=gP hv.left;have hv0':=jT hv.left;have S:=iQ b.length;have D:=hv e (by simp);have dv1:=hv c (by simp);have hp1:(4294967296:Int) ^ b.length * 1<=4294967296 ^ b.length * c:=RG h1 (by omega);have hp2: 0<=(4294967296:Int) ^ b.length * e:=SK (by omega) D.1;have v: 0 < val (b++ [e,c]):=by omega
 have e1:(aM (b++ [e,c]))[(((b++ [e,c]).length - 1:Nat):Int).toNat]? =some [T.int .u32 c]:=by have:=l9 (b++ [e]) c [] (b.length+1) (by simp);rw [g];simpa using this
 have e2:(aM (b++ [e,c]))[(((b++ [e,c]).length - 2:Nat):Int).toNat]? =some [T.int .u32 e]:=by have:=l9 b e [c] b.length rfl;rw [g];simpa using this
 intro j;induction j with
 | zero=>
  intro A R hi i G hj t u z B Y hL M;obtain rfl:=RN.1 G;obtain⟨lost,h80⟩:=O7 s hs ec0 R z (by omega) (by omega);obtain⟨g1,g2,g3⟩:=Ij (lE s) (ue (n:=s) (by omega)) (lE (32 - s)) z;refine⟨_,ao ?_,ec1,i,false,_,val R,rfl,B,g3,by omega,by rw [g2,t],gP z,Y,by
   simp only [val,UY,SU,Int.zero_add] at M;rw [<-M,RW];omega,g1⟩
  rw [Ei];have c0:¬(((0:Nat):Int) - 1)>=0:=by omega
  have X:cZ 0 ((b++ [e,c]).length:Int) ((([] ++ (R++hi)).length:Nat):Int)=some ():=by unfold cZ;rw [if_pos (by simp [t];omega)]
  have ht:(aM ([] ++ (R++hi))).take (((b++ [e,c]).length:Int).toNat - 0)=aM R:=by
   have hnn:((b++ [e,c]).length:Int).toNat - 0=R.length:=by rw [g,t];omega
   simp only [hnn,Ry,aM,TC];rw [List.take_append_of_le_length (by simp),SM (by simp)]
  simp only [TY,Ry] at X ht⊢;simp only [al,↓reduceIte,Int.reduceBEq,Int.reduceEq,GD,c0,bo,X,ht,h80]
 | succ j ih=>
  intro A R hi i G hj t u z B Y hL M;obtain⟨d,x,rfl,y⟩:=mM G;obtain⟨w,top,hw,J⟩:=mM (l:=x::R) (n:=b.length+2) (by simp [t]);obtain⟨w1,f,rfl,hw1⟩:=mM J;obtain⟨k,h,rfl,m⟩:=mM hw1;have K:Dg (k++ [h] ++ [f] ++ [top]):=by rw [<-hw];exact Dg.append (a:= [x]) u.right z
  have dw:=K.left;have C:=K top (by simp);have du1:=K f (by simp);have Q:=K h (by simp);have hw0:=gP dw.left.left;have r:=jT dw.left.left;have F:d++ [x] ++ (R++hi)=d++ ((k++ [h] ++ [f])++top::hi):=by have: [x] ++R=k++ [h] ++ [f] ++ [top]:=hw;simp only [R6] at this⊢;rw [<-R6 [x],this];simp
  have p:val (x::R)=val (k++ [h] ++ [f])+4294967296 ^ (b++ [e,c]).length * top:=by rw [hw,hJ,g,J];simp [val]
  have P:val (k++ [h] ++ [f])=val k+4294967296 ^ b.length * h+4294967296 * (4294967296 ^ b.length * f):=by rw [R6,hJ,m];simp only [Rx,Ry,val];rw [R7,Si _ 4294967296];simp;omega
  have V:val (x::R)=val k+4294967296 ^ b.length * h+4294967296 * (4294967296 ^ b.length * (top * 4294967296+f)):=by
   rw [p,P,g,show(4294967296:Int) ^ (b.length+2)=4294967296 ^ b.length * (4294967296 * 4294967296) from by rw [UQ];rfl];rw [R7 (4294967296 ^ b.length) (top * 4294967296),R7 4294967296,<-SA (4294967296 ^ b.length) top 4294967296];have:(4294967296:Int) ^ b.length * (4294967296 * 4294967296) * top=4294967296 * (4294967296 ^ b.length * top * 4294967296):=by rw [RW (4294967296 ^ b.length * top) 4294967296,<-SA 4294967296 4294967296,RW (4294967296 ^ b.length),SA]
   omega
  have dx:=u x (by simp);have hUx:val (x::R)=x+4294967296 * val R:=rfl;have hR0:=gP z;have U: 0<=val (x::R):=by omega
  have W:val (x::R) < val (b++ [e,c]) * 4294967296:=by omega
  generalize o:val (x::R) / val (b++ [e,c])=q at *
  have H: 0<=q:=by rw [<-o];exact TR U (by omega)
  have hqB:q < 4294967296:=by rw [<-o];exact Int.ediv_lt_of_lt_mul v (by rw [RW];exact W)
  have hqV:q * val (b++ [e,c])<=val (x::R):=by rw [<-o];exact Int.ediv_mul_le _ (by omega)
  have hrep:List.replicate (j+1) (0:Int)++i=List.replicate d.length 0++0::i:=by rw [y,List.replicate_succ',R6];rfl
  have hg0:=MI S V I ⟨hw0,by rw [m] at r;exact r⟩ Z Q.2 D.1 H hqV;have E: 0<=top * 4294967296+f:=by omega
  have hqt:q<=(top * 4294967296+f) / c:=by rw [Int.le_ediv_iff_mul_le (by omega)];exact hg0
  have hTle:(top * 4294967296+f) / c<=top * 4294967296+f:=Int.ediv_le_self _ E;have hrm0:=Ua (top * 4294967296+f) (show c≠0 by omega);have hrm1:=Tx (top * 4294967296+f) (show 0 < c by omega);have hdm:=TK (top * 4294967296+f) c;have hn2: 2<=(b++ [e,c]).length:=by omega
  have e3:(aM (d++ ((k++ [h] ++ [f])++top::hi)))[((d.length+ (b++ [e,c]).length - 2:Nat):Int).toNat]? =some [T.int .u32 h]:=by have:=l9 (d++k) h ([f] ++top::hi) (d.length+ (b++ [e,c]).length - 2) (by simp [m];try omega);simpa using this
  have e4:(aM (d++ ((k++ [h] ++ [f])++top::hi)))[((d.length+ (b++ [e,c]).length - 1:Nat):Int).toNat]? =some [T.int .u32 f]:=by have:=l9 (d++k++ [h]) f (top::hi) (d.length+ (b++ [e,c]).length - 1) (by simp [m];try omega);simpa using this
  have e5:(aM (d++ ((k++ [h] ++ [f])++top::hi)))[((d.length+ (b++ [e,c]).length:Nat):Int).toNat]? =some [T.int .u32 top]:=by have:=l9 (d++k++ [h] ++ [f]) top hi (d.length+ (b++ [e,c]).length) (by simp [m];try omega);simpa using this
  have O:((d++ ((k++ [h] ++ [f])++top::hi)).length:Int)= ((d.length+b.length+3+hi.length:Nat):Int):=by simp [m];omega
  have N:=NB s d.length ev ec0 ec1 (b++ [e,c]) (d++ ((k++ [h] ++ [f])++top::hi)) i (Cw s L (val (b++ [e,c])) N0 (b.length+2)) (by omega) (by omega) hn2 (by simp [m] <;> omega) e1 e2 e3 S V I ⟨hw0,by rw [m] at r;exact r⟩ ⟨Z,hv0'⟩ Q D ⟨h1,dv1.2⟩ U W v o.symm
   (λq' a1 a2 a3 a4=>Kr s ev ec0 ec1 (b++ [e,c]) d hi hv (by omega) (by omega) (k++ [h] ++ [f]) top dw (by rw [g];exact J) C v i _ q (by rw [<-o,p]) q' a1 a2 ⟨a3,a4⟩ H (λR' d1 d2 d3=>by
    have:=ih d R' (0::hi) (q::i) y (by omega) (by rw [d2,g]) u.left d1 (λa ha=>by
     rcases RC.1 ha with rfl | ha
     .exact⟨H,hqB⟩
     .exact B a ha) (by rw [d3];exact Tx _ v) (by simp;omega) (by
     rw [<-p] at d3;have hdv:=TK (val (x::R)) (val (b++ [e,c]));rw [o] at hdv;have key:val R'+val (b++ [e,c]) * val (q::i)=x+4294967296 * (val R+val (b++ [e,c]) * val i):=by rw [show val (q::i)=q+4294967296 * val i from rfl,d3,R7,R7 4294967296,Si _ 4294967296];omega
     rw [<-M,hJ d [x],y,key,show val [x]=x from by simp [val],T6,SA,Int.add_assoc,<-R7])
    rw [<-y] at this;exact this))
   4294967296 ((top * 4294967296+f) / c) ((top * 4294967296+f) % c) (by omega) (by rw [RW];exact hdm) (by omega) hqt (by omega)
  have cj:((j+1:Nat):Int) - 1= (d.length:Int):=by omega
  have or1:=tW C du1;have x1:u64.wrap c=c:=bZ (by omega);have x3:(top * 4294967296+f).tdiv c= (top * 4294967296+f) / c:=TH E;have x4:(top * 4294967296+f).tmod c= (top * 4294967296+f) % c:=Ud E;have x5:u64.wrap ((top * 4294967296+f) / c)= (top * 4294967296+f) / c:=bZ (by omega);have x2:u64.wrap top=top:=bZ (by omega);have nz:¬c=0:=by omega
  have w3:i64.wrap (((b++ [e,c]).length:Int) - 1)= (((b++ [e,c]).length - 1:Nat):Int):=by rw [cd (by omega)];omega
  have w2':i64.wrap (((d.length+ (b++ [e,c]).length:Nat):Int) - 1)= ((d.length+ (b++ [e,c]).length - 1:Nat):Int):=by rw [cd (by omega)];omega
  have b1: 0<=((d.length+ (b++ [e,c]).length:Nat):Int)/\((d.length+ (b++ [e,c]).length:Nat):Int) < ((d.length+b.length+3+hi.length:Nat):Int):=by omega
  have b2: 0<=((d.length+ (b++ [e,c]).length - 1:Nat):Int)/\((d.length+ (b++ [e,c]).length - 1:Nat):Int) < ((d.length+b.length+3+hi.length:Nat):Int):=by omega
  have b3: 0<=(((b++ [e,c]).length - 1:Nat):Int)/\(((b++ [e,c]).length - 1:Nat):Int) < ((b++ [e,c]).length:Int):=by omega
  rw [F,hrep,cj];refine N.step λR t=>ao ?_;rw [Ei];have c1:(d.length:Int)>=0:=by omega
  simp only [al,↓reduceIte,Int.reduceBEq,Int.reduceEq,GD,c1,bo,ad d.length (b++ [e,c]).length (by omega),O,b1,b2,b3,and_self,e5,e4,e1,w2',w3,x1,x2,or1,nz,x3,x4,x5];exact t
theorem MW{s:Nat}{x y b J c:List Int}{e d:Int}(ev:Bool)(ld:CQ s x y b J c e d)(T:Dg x)(W:x.length<=400)(X:c.length+2<=x.length):
  ∃j:Nat,j+ (c.length+2)=x.length+1/\Wd.Good (CR (val x) (val y) (x.length+1)) (ve s ev false false (c++ [e,d]) b (List.replicate j 0) ((j:Int) - 1)):=by
 have C:=lE s;have p:=jT T;obtain⟨j,O⟩:∃j:Nat,j+ (c.length+2)=x.length+1:=⟨x.length+1 - (c.length+2),by omega⟩;refine⟨j,O, ?_⟩;have m:=ld.lu;have i:b=b.take j++ (b.drop j++ []):=by simp
 have B:(b.drop j).length=c.length+2:=by simp [m];omega
 have g:(b.take j).length=j:=by simp [m];omega
 have N:=hJ (b.take j) (b.drop j);rw [Va,g] at N;have K:Dg (b.drop j):=λa o=>ld.dU a (Tm o);have v:=ld.dU.take j;have f:=ld.Ra;have n:val (b.drop j) < val (c++ [e,d]):=by
  rcases Th (val (b.drop j)) (val (c++ [e,d])) with h | h
  .exact h
  .exfalso;have h1:(4294967296:Int) ^ j * val (c++ [e,d])<=4294967296 ^ j * val (b.drop j):=RG h (S8 (iQ _));have Y:=gP v;have h3:val x * (2:Int) ^ s < 4294967296 ^ x.length * 2 ^ s:=UI p C;have L:(4294967296:Int) ^ (c.length+1) * 2 ^ s<=val y * 2 ^ s:=R2 ld.ge (by omega);have M:(4294967296:Int) ^ j * (4294967296 ^ (c.length+1) * 2 ^ s)<=4294967296 ^ j * val (c++ [e,d]):=by
    rw [f];exact RG L (S8 (iQ _))
   rw [<-SA,<-UQ,show j+ (c.length+1)=x.length from by omega] at M;have:=ld.I5;omega
 have k:=Rb s ld.hs ev false false c e d ld.dV (by omega) ld.h1 j (val b) j (b.take j) (b.drop j) [] [] g (by omega) B v K (by intro a o;cases o) n (by simp) (by simp only [val,Up,TT];omega);rw [<-i,Sg] at k;obtain⟨R,r1,w,Q,z,Z,u,rfl,q1,H,q3,q4,q5,t,U,V⟩:=k;have A: 0 < val y:=by have:=iQ (c.length+1);have:=ld.ge;omega
 have I:val x * 2 ^ s=val Q * (val y * 2 ^ s)+u:=by rw [<-ld.I5,<-f];exact U.symm
 have l:u= (val x - val Q * val y) * 2 ^ s:=by rw [VR,SA];omega
 have D:val Z=val x - val Q * val y:=by rw [V,l,Int.mul_ediv_cancel _ (by omega)]
 have E:val Z < val y:=by rw [f] at t;rw [l,<-D] at t;exact VA t (by omega)
 have F:=gP H;have S:=Int.ediv_emod_unique A (a:=val x) (q:=val Q) (r:=val Z);obtain⟨P,G⟩:=S.2 ⟨by rw [RW];omega,F,E⟩;exact⟨_,r1,w,Q,z,Z,rfl,q1,H,P.symm,G.symm,by omega,by omega⟩
theorem O5(a:Int)(j: 1<=a/\a < 4294967296):∃n:Nat,Or (.call 172) [AV.t (T.int .u32 a)] []=some [ti (n:Int)]/\n < 32/\a * 2 ^ n < 4294967296:=by
 obtain⟨m,f,g,b,k⟩:=H4 a (by omega);have i:m≠0:=by intro h;subst h;rw [UY] at b;omega
 have e:i64.wrap (32 - (m:Int))= ((32 - m:Nat):Int):=by rw [cd (by omega)];omega
 refine⟨32 - m,ao ?_,by omega, ?_⟩
 .rw [KE];simp only [al,↓reduceIte,Int.reduceBEq,Int.reduceEq,GD,f,e]
 .have c:=ue (n:=m) g;have d:=lE (32 - m);rw [c,RW];exact Int.mul_lt_mul_of_pos_left b d
def CT(X Y:Int)(L:Nat)(R:List T):Prop:= ∃t a Q b Z,R= [t,T.ae 1 b (aM Z)]/\t.aP 1=some (a,aM Q)/\Dg Q/\Dg Z/\val Q=X / Y/\val Z=X % Y/\Q.length<=L/\Z.length<=L
theorem Ox{X Y:Int}{L:Nat}{r:Option (List T)}(h:Wd.Good (CR X Y L) r):Wd.Good (CT X Y L) r:=by obtain⟨R,i,a,Q,b,Z,rfl,h1,c,d,e,f,g⟩:=h;exact⟨_,i,_,a,Q,b,Z,rfl,tN _ _ _,h1,c,d,e,f,g⟩
theorem HY(m v:Bool)(x y:List Int)(g:Dg x)(hy:Dg y)(K:Can x)(q:Can y)(D:y≠[])(U:x.length<=400)(hyl':y.length<=400):
  Wd.Good (CT (val x) (val y) (x.length+1)) (Or (.call 133) [lu m x,lu v y] []):=by
 have V:=zI hy q D;have w:=pX m x (by omega);have k2:=pX v y (by omega);have tx:eL x=x:=by have:=pr (o6 g) g (r7 x) K (r8 x);exact this
 have ty:eL y=y:=pr (o6 hy) hy (r7 y) q (r8 y);rw [tx] at w;rw [ty] at k2;have z:=yd x y m v g hy K q (by omega) (by omega);have B:=gP g;by_cases p:val x < val y
 .have r:dX (val x) (val y) < 0:=by unfold dX;rw [if_pos p];omega
  refine⟨_,ao ?_,T.aT true,true,[],m,x,rfl,cC _ _,(by intro a o;cases o),g, ?_, ?_,by simp,by omega⟩
  .rw [zY];simp only [al,↓reduceIte,Int.reduceBEq,Int.reduceEq,GD,w,k2,z,r]
  .rw [Int.ediv_eq_zero_of_lt B p];rfl
  .rw [Int.emod_eq_of_lt B p]
 .have r:¬dX (val x) (val y) < 0:=by unfold dX;rw [if_neg p];split <;> omega
  have G:y.length<=x.length:=by
   rcases UE x.length y.length with h | h
   .have:=xv g hy q h;omega
   .exact h
  by_cases h1:(y.length:Int)=1
  .match y,h1 with
   | [b],_=>
    have hb:=hy b (by simp);have M: 0 < b:=by simpa [val] using V
    obtain⟨Q,R,q1,q2,q3,q4,q5,q6,q7⟩:=OZ m x b g (by omega) ⟨M,hb.2⟩;have A:val [b]=b:=by simp [val]
    refine⟨_,ao ?_,_,false,Q,false,[R],rfl,tN _ _ _,q3,(by intro a o;simp at o;subst o;omega),by rw [A];exact q6,by rw [A];simp [val];exact q7,by omega,by simp⟩;rw [zY];have L:(([b]:List Int).length:Int)=1:=by simp
    have N:(aM [b])[(0:Nat)]? =some [T.int .u32 b]:=rfl;have hr:(0:Int)<=0/\(0:Int) < 1:=by omega
    simp only [al,↓reduceIte,Int.reduceBEq,Int.reduceEq,GD,w,k2,z,r,bo,L,N,hr,and_self,q1];rfl
  .have h2: 2<=y.length:=by have:=US.2 D;omega
   obtain⟨Z,f,rfl,g1⟩:=mM (l:=y) (n:=y.length - 1) (by omega);obtain⟨y',i,rfl,g2⟩:=mM (l:=Z) (n:=Z.length - 1) (by simp at h2;omega);have S:y'++ [i] ++ [f]=y'++ [i,f]:=by simp
   have C: 1<=f:=by
    have:=q (y'.length+1) (by simp);rw [show be (y'++ [i] ++ [f]) (y'.length+1)=f from by
     have:=wu (y'++ [i]) f [] (y'.length+1) (by simp);simpa using this] at this
    have:=hy f (by simp);omega
   have J:=hy f (by simp);rw [S] at hy G h1 k2 z r⊢;have hly:(y'++ [i,f]).length=y'.length+2:=by simp
   have hyl2:y'.length+2<=x.length:=by omega
   obtain⟨s,c1,F,c3⟩:=O5 f ⟨C,J.2⟩;obtain⟨e,d,c,hV2,ld⟩:=MV g hy C s F c3;obtain⟨j,hj,hg⟩:=MW false ld g U (by omega);have u:=H0 s F v (y'++ [i,f]) hy (by omega);have H:=H0 s F m x g (by omega);rw [ld.vv] at u;have hUl:=ld.lu;generalize fJ (2 ^ s) x 0=E at *
   have e1:(aM (y'++ [i,f]))[(((y'.length+1:Nat):Int)).toNat]? =some [T.int .u32 f]:=by have:=l9 (y'++ [i]) f [] (y'.length+1) (by simp);simpa using this
   have w1:i64.wrap (((y'++ [i,f]).length:Int) - 1)= ((y'.length+1:Nat):Int):=by rw [cd (by omega)];omega
   have b1: 0<=((y'.length+1:Nat):Int)/\((y'.length+1:Nat):Int) < ((y'++ [i,f]).length:Int):=by omega
   have hVl:(e++ [d,c]).length=e.length+2:=by simp
   have t:e++ [d] ++ [c] ++ [0]= (e++ [d,c])++ [0]:=by simp
   have X:Or (.call 105) [lu false (e++ [d] ++ [c] ++ [0])] []=some [T.ae 1 false (aM (e++ [d,c]))]:=by
    have:=pX false (e++ [d] ++ [c] ++ [0]) (by simp;omega);rw [this];have ht:eL (e++ [d] ++ [c] ++ [0])=e++ [d,c]:=by
     refine pr (o6 (by rw [t];exact Dg.append ld.dV (by intro a o;simp at o;subst o;omega))) ld.dV (r7 _) ?_ ?_
     .intro k hk;obtain rfl:k=e.length+1:=by omega
      have:=wu (e++ [d]) c [] (e.length+1) (by simp);rw [show e++ [d] ++ [c]=e++ [d,c] from by simp] at this;rw [this];have:=ld.h1;omega
     .rw [r8,t,hJ];simp [val]
    rw [ht]
   refine(Ox hg).step λR hR=>ao ?_;have P:cv (j:Int) (j:Int)=some ():=by unfold cv fV;rw [if_pos (by omega)]
   have wj:i64.wrap ((E.length:Int) - ((e++ [d,c]).length:Int))= (j:Int):=by rw [cd (by omega)];omega
   have wk:i64.wrap ((j:Int) - 1)= (j:Int) - 1:=cd (by omega);have W:List.replicate ((j:Int)).toNat [T.int u32 (0:Int)]=aM (List.replicate j 0):=by simp [aM]
   have wx:i64.wrap ((x.length:Int)+1)= ((x.length+1:Nat):Int):=nx _ (by omega);have O:¬(E.length:Int) < ((x.length+1:Nat):Int):=by omega
   have Y:Or uY [lu m x,I (s:Int),lu false (e++ [d,c]),o0] [ab.sl false 1 false (aM E)]=some R:=by refine ao ?_;rw [Kz];simp only [al,↓reduceIte,Int.reduceBEq,Int.reduceEq,GD,bo,wx,O,wj,P,W,wk];exact hR
   rw [zY];simp only [al,↓reduceIte,Int.reduceBEq,Int.reduceEq,GD,w,k2,z,r,bo,h1,w1,b1,and_self,e1,c1,u,X,H];exact Y
theorem yc(x y:Int)(I:(dz x).length<=300)(hy:(dz y).length<=300)(d:y≠0)(A:y ∣ x):
  Or (.call 100) [LZ x,LZ y] []=some [tb (decide (x / y < 0)),T.str (bF (dz (x / y))),tb false,T.str (bF (dz 0)),ti 0]:=by
 have C:=oV y;have k2:=kD x (by omega);have D:=kD y (by omega);obtain⟨R,E,t,w,Q,z,Z,rfl,G,u,v,g,i,J,K⟩:=HY false false (dz x) (dz y) (dA x) (dA y) (im x) (im y) (λh=>d (qV.1 h)) (by omega) (by omega);rw [dM,dM] at g i;obtain⟨c,rfl⟩:=A;have B:y * c / y=c:=VL _ d;have H: 0 < y.natAbs:=by omega
 have j:((y * c).natAbs:Int) / (y.natAbs:Int)= (c.natAbs:Int):=by rw [Sq,Ub,VL _ (by omega)]
 have k:((y * c).natAbs:Int) % (y.natAbs:Int)=0:=by rw [Sq,Ub,Int.mul_emod_right]
 rw [j] at g;rw [k] at i;have f:=nC (!decide (y * c < 0)==decide (y < 0)) w Q u (by omega);have e:=nC (decide (y * c < 0)) z Z v (by omega);have p:(if(!decide (y * c < 0)==decide (y < 0))=true then -val Q else val Q)=c:=by
  rw [g];rcases TW c 0 with a | a | a
  .rcases Th y 0 with h | h
   .have:=Int.mul_pos_of_neg_of_neg h a;have b:¬y * c < 0:=by omega
    simp [h,b];omega
   .have:=Int.mul_neg_of_pos_of_neg (show 0 < y by omega) a;have b:¬y < 0:=by omega
    simp [this,b];omega
  .subst a;simp
  .rcases Th y 0 with h | h
   .have:=Int.mul_neg_of_neg_of_pos h a;simp [h,this];omega
   .have:=Int.mul_pos (show 0 < y by omega) a;have b:¬y < 0:=by omega
    have l:¬y * c < 0:=by omega
    simp [b,l];omega
 have q:(if decide (y * c < 0)=true then -val Z else val Z)=0:=by rw [i];simp
 rw [p] at f;rw [q] at e;have F:=oV 0;have o:y.sign≠0:=by intro h;exact d (VE.1 h)
 unfold RZ at f e;have m:decide ((0:Int) < 0)=false:=rfl;rw [m] at e;have r:Or (.call 68) [LS false (dz 0)] []=some [ti 0]:=F;rw [B];refine ao ?_;rw [K8];have n:¬(0:Int) < 0:=by omega
 simp only [al,↓reduceIte,Int.reduceBEq,Int.reduceEq,GD,C,o,k2,D,E,G,f,e,r,n]
theorem FI(a b:Nat):Nat.gcd b (a % b)=Nat.gcd a b:=by rw [Nat.gcd_comm b,<-Nat.gcd_rec,Nat.gcd_comm]
theorem GJ(d:Bool)(l:ByteArray):∀(m:Nat) (x y:Int) (b c:Bool),y.natAbs<=m->(dz x).length<=300->(dz y).length<=300->
  Or vo [r0,lu b (dz x),lu c (dz y)] [ab.box [B d,AV.t (T.str l)]]=some (RZ (Nat.gcd x.natAbs y.natAbs:Nat))
 | m,x,y,b,c,hm,z,hy=>by
  by_cases a:y=0
  .subst a;have k:=nC false b (dz x) (dA x) (by omega);simp only [RS,↓reduceIte,dM] at k;unfold RZ at k;refine ao ?_;rw [EC];have o:¬((dz 0).length:Int) > 0:=by
    have:dz 0= []:=rfl;rw [this];simp
   have p:((Nat.gcd x.natAbs (0:Int).natAbs:Nat):Int)= (x.natAbs:Int):=by rw [Int.natAbs_zero,Nat.gcd_zero_right]
   rw [p];simp only [al,↓reduceIte,Int.reduceBEq,Int.reduceEq,GD,bo,o,k];rfl
  .have g:((dz y).length:Int) > 0:=by
    have:dz y≠[]:=λh=>a (qV.1 h);have:=US.2 this;omega
   obtain⟨R,q,t,w,Q,e,Z,rfl,r,v,n,D,j,A,C⟩:=HY b c (dz x) (dz y) (dA x) (dA y) (im x) (im y) (λh=>a (qV.1 h)) (by omega) (by omega);rw [dM,dM] at j;have i:=pX e Z (by omega);have u:x.natAbs % y.natAbs < y.natAbs:=Vd _ (by omega);have hz:eL Z=dz ((x.natAbs % y.natAbs:Nat):Int):=IT n (by rw [j,R8];first | rfl | exact(Int.natCast_emod _ _).symm | simp);rw [hz] at i
   match m with
   | 0=>omega
   | m+1=>
    have f:(dz ((x.natAbs % y.natAbs:Nat):Int)).length<=300:=by have:=wH (x:=y) (y:=((x.natAbs % y.natAbs:Nat):Int)) (by rw [R8];omega);omega
    have:=GJ d l m y ((x.natAbs % y.natAbs:Nat):Int) c e (by rw [R8];omega) hy f;rw [R8,FI] at this;refine ao ?_;rw [EC];simp only [al,↓reduceIte,Int.reduceBEq,Int.reduceEq,GD,bo,g,q,r,i];exact this
theorem H9(x y:Int)(c:(dz x).length<=300)(hy:(dz y).length<=300):Or (.call 99) [LZ x,LZ y] []=some (RZ (Nat.gcd x.natAbs y.natAbs:Nat)):=by have k2:=kD x (by omega);have d:=kD y (by omega);have a:=pX false (dz x) (by omega);have b:=pX false (dz y) (by omega);have e:eL (dz x)=dz x:=pr (o6 (dA x)) (dA x) (r7 _) (im x) (r8 _);have ty:eL (dz y)=dz y:=pr (o6 (dA y)) (dA y) (r7 _) (im y) (r8 _);rw [e] at a;rw [ty] at b;have:=GJ false ⟨#[]⟩ y.natAbs x y false false (RI _) c hy;refine ao ?_;rw [K7];simp only [al,↓reduceIte,Int.reduceBEq,Int.reduceEq,GD,k2,d,a,b];exact this
open Go Go.Aev Go.Aev.Gen Go.Aev.Wd Go.IntKind
theorem nB(x y:Int)(a:(dz x).length<=300)(hy:(dz y).length<=300):Or (.call 55) [LZ x,LZ y] []=some (RZ (x * y)):=by have k:=Po x y a hy;refine ao ?_;rw [KZ];simp only [al,↓reduceIte,Int.reduceBEq,Int.reduceEq,GD,k];rfl
theorem Pf(x y:Int)(a:(dz x).length<=900)(hy:(dz y).length<=900)(hz:(dz (x+y)).length<=900):Or (.call 74) [LZ x,LZ y] []=some (RZ (x+y)):=by have k:=Pn x y a hy hz;refine ao ?_;rw [KY];simp only [al,↓reduceIte,Int.reduceBEq,Int.reduceEq,GD,k];rfl
def NQ(q:Rat):List T:=RZ q.num++RZ (q.den:Int)
abbrev EQ(q:Rat):AV:=AV.agg [B (decide (q.num < 0)),AV.t (T.str (bF (dz q.num))),B (decide ((q.den:Int) < 0)),AV.t (T.str (bF (dz (q.den:Int))))]
theorem Ko(q:Rat):(q.den:Int).sign=1:=SV (by have:=q.den_pos;omega)
theorem Pg(q:Rat):Or (.call 51) [EQ q] []=some (RZ (q.den:Int)):=by
 have k:=oV (q.den:Int);rw [Ko] at k;refine ao ?_;rw [Ey];have h1:¬(1:Int)=0:=by omega
 simp only [al,↓reduceIte,Int.reduceBEq,Int.reduceEq,GD,k,h1];rfl
theorem x9(x y:Int)(h:(dz x).length<=300)(hy:(dz y).length<=300)(m:y≠0):Or (.call 67) [LZ x,LZ y] []=some (NQ (Rat.divInt x y)):=by
 obtain⟨o,p⟩:=D3 (u:=x) m;have c:((Nat.gcd x.natAbs y.natAbs:Nat):Int)≠0:=by have: 0 < Nat.gcd x.natAbs y.natAbs:=Nat.gcd_pos_of_pos_right _ (by omega);omega
 have b:(dz ((Nat.gcd x.natAbs y.natAbs:Nat):Int)).length<=300:=by have h1:Nat.gcd x.natAbs y.natAbs<=y.natAbs:=Nat.gcd_le_right _ (by omega);have:=wH (x:=y) (y:=((Nat.gcd x.natAbs y.natAbs:Nat):Int)) (by rw [R8];exact h1);omega
 have e:((Nat.gcd x.natAbs y.natAbs:Nat):Int) ∣ x:=Int.ofNat_dvd_left.2 (Nat.gcd_dvd_left _ _);have f:((Nat.gcd x.natAbs y.natAbs:Nat):Int) ∣ y:=Int.ofNat_dvd_left.2 (Nat.gcd_dvd_right _ _);have a:((Int.gcd x y:Nat):Int)= ((Nat.gcd x.natAbs y.natAbs:Nat):Int):=rfl;have i:=oV y;by_cases j:y < 0
 .obtain⟨q1,g⟩:=o j;rw [a,TA e,<-UT e] at q1;rw [a,TA f,<-UT f] at g;have k2:=BW x;have n:=BW y;have d:=H9 (-x) (-y) (by rw [te];exact h) (by rw [te];exact hy);rw [Vq,Vq] at d;have k:=yc (-x) _ (by rw [te];exact h) b c ((Int.dvd_neg).2 e);have l:=yc (-y) _ (by rw [te];exact hy) b c ((Int.dvd_neg).2 f);rw [SO j] at i;have h1:(-1:Int) < 0:=by omega
  unfold RZ at k2 n d;refine ao ?_;rw [Ex];unfold NQ RZ;rw [q1,g];simp only [al,↓reduceIte,Int.reduceBEq,Int.reduceEq,GD,i,h1,k2,n,d,k,l];rfl
 .obtain⟨q1,g⟩:=p j;rw [a,TA e] at q1;rw [a,TA f] at g;have d:=H9 x y h hy;have k:=yc x _ h b c e;have l:=yc y _ hy b c f;rw [SV (by omega)] at i;have h1:¬(1:Int) < 0:=by omega
  unfold RZ at d;refine ao ?_;rw [Ex];unfold NQ RZ;rw [q1,g];simp only [al,↓reduceIte,Int.reduceBEq,Int.reduceEq,GD,i,h1,d,k,l];rfl
theorem O9(x:Int)(h: -9223372036854775808<=x/\x < 9223372036854775808):Or (.call 22) [I x] []=some (NQ (x:Rat)):=by have a:=uq x h;have k2:=uq 1 (by omega);unfold RZ at a k2;refine ao ?_;rw [KN];simp only [al,↓reduceIte,Int.reduceBEq,Int.reduceEq,GD,a,k2];rfl
theorem FW{x:Int}(h: -9223372036854775808<=x/\x < 9223372036854775808):(dz x).length<=2:=by
 refine wI ?_;have:(4294967296:Int) ^ 2=18446744073709551616:=by decide
 rw [this];omega
theorem Pm(x y:Int)(b: -9223372036854775808<=x/\x < 9223372036854775808)(hy: -9223372036854775808<=y/\y < 9223372036854775808)(c:y≠0):Or (.call 27) [AV.agg [I x,I y]] []=some (NQ (Rat.divInt x y)):=by have d:=uq x b;have k2:=uq y hy;have a:=x9 x y (by have:=FW b;omega) (by have:=FW hy;omega) c;unfold NQ at a⊢;unfold RZ at d k2 a⊢;refine ao ?_;rw [K3];simp only [Rx,Ry] at a⊢;simp only [al,↓reduceIte,Int.reduceBEq,Int.reduceEq,GD,d,k2,a]
theorem QB.ln{m:Nat}{q:Rat}(h:QB m q)(hm:m<=6300):(dz q.num).length<=200/\(dz (q.den:Int)).length<=200:=⟨A2 (h.lq hm).1,A2 (h.lq hm).2⟩
theorem mq{m:Nat}{z:Int}(hm:m<=6300)(h:z.natAbs<=2 ^ m):(dz z).length<=200:=A2 (A3 hm h)
theorem NY{q:Rat}(h:q≠0):q.num≠0:=λa=>h (VO.1 a)
theorem Ks(p:Rat){q:Rat}(a:q≠0):Rat.divInt (p.num * (q.den:Int)) ((p.den:Int) * q.num)=p / q:=by
 conv=>rhs;rw [<-Ty p,<-Ty q]
 rw [Sv,Rat.inv_divInt,Rat.divInt_mul_divInt]
theorem Kc(p q:Rat):dX (p.num * (q.den:Int)) (q.num * (p.den:Int))=if p < q then -1 else if p=q then 0 else 1:=by
 unfold dX;have h1:(p.num * (q.den:Int) < q.num * (p.den:Int))↔p < q:=(Rat.lt_iff p q).symm;have d:(q.num * (p.den:Int) < p.num * (q.den:Int))↔q < p:=(Rat.lt_iff q p).symm;have e:(p.num * (q.den:Int)=q.num * (p.den:Int))↔p=q:=by
  constructor
  .intro h;have a:¬p < q:=λc=>by have:=h1.2 c;omega
   have b:¬q < p:=λc=>by have:=d.2 c;omega
   exact Rat.le_antisymm (Vg.1 b) (Vg.1 a)
  .rintro rfl;rfl
 simp only [h1,e]
theorem H6(x:Int)(h: -9223372036854775808 < x/\x < 9223372036854775808):Or (.call 78) [I x] []=some [T.int .u64 (x.natAbs:Int)]:=by
 refine ao ?_;rw [KV];by_cases b:x < 0
 .have a:u64.wrap (0 - u64.wrap x)= (x.natAbs:Int):=by simp only [p9];omega
  simp only [al,↓reduceIte,Int.reduceBEq,Int.reduceEq,GD,b,a]
 .have a:u64.wrap x= (x.natAbs:Int):=by rw [p9];omega
  simp only [al,↓reduceIte,Int.reduceBEq,Int.reduceEq,GD,b,a]
theorem GI:∀(m:Nat) (a b:Nat),b<=m->a < 9223372036854775808->b < 9223372036854775808->Or vh [u6 (a:Int),u6 (b:Int)] []=some [T.int .u64 (Nat.gcd a b:Nat)]
 | m,a,b,hm,g,hb=>by
  refine ao ?_;rw [KU];by_cases c:b=0
  .subst c;have c:((0:Nat):Int)=0:=rfl;simp only [al,↓reduceIte,Int.reduceBEq,Int.reduceEq,GD,c,Nat.gcd_zero_right]
  .have d:¬(b:Int)=0:=by omega
   have f:a % b < b:=Vd _ (by omega);have e:(a:Int).tmod (b:Int)= ((a % b:Nat):Int):=rfl
   match m with
   | 0=>omega
   | m+1=>have:=GI m b (a % b) (by omega) hb (by omega);rw [FI] at this;simp only [al,↓reduceIte,Int.reduceBEq,Int.reduceEq,GD,d,e];exact this
theorem BV(x:Fr):Or (.call 52) [AV.agg [I x.1,I x.2]] []=some [ti (if bw x then 0 else 3),ti 0]:=by
 refine ao ?_;rw [KL];by_cases hb:((x.2 < 1\/x.2 > 1073741824)\/x.1 < -1073741824)\/x.1 > 1073741824
 .have g:¬bw x:=by unfold bw;omega
  rw [if_neg g];simp only [kf,<-Tg];simp only [al,↓reduceIte,Int.reduceBEq,Int.reduceEq,GD,cm,hb,decide_true];rfl
 .have e:=H6 x.1 (by omega);have k2:=H6 x.2 (by omega);have f:Or (.call 77) [u6 (x.1.natAbs:Int),u6 (x.2.natAbs:Int)] []=some [T.int .u64 (Nat.gcd x.1.natAbs x.2.natAbs:Nat)]:=by
   refine ao ?_;rw [KT];exact GI _ _ _ (RI _) (by omega) (by omega)
  have d:(((Nat.gcd x.1.natAbs x.2.natAbs:Nat):Int)=1)↔Int.gcd x.1 x.2=1:=by show _↔Nat.gcd _ _=1;omega
  simp only [kf,<-Tg];by_cases h1:Int.gcd x.1 x.2=1
  .have b:bw x:=by unfold bw;exact⟨by omega,by omega,by omega,by omega,h1⟩
   have a:=d.2 h1;rw [if_pos b];simp only [al,↓reduceIte,Int.reduceBEq,Int.reduceEq,GD,hb,decide_false,e,k2,f,a]
   try rfl
  .have b:¬bw x:=λh=>h1 h.2.2.2.2;have a:¬((Nat.gcd x.1.natAbs x.2.natAbs:Nat):Int)=1:=λh=>h1 (d.1 h);have c:(((Nat.gcd x.1.natAbs x.2.natAbs:Nat):Int)==1)=false:=by simpa using a
   rw [if_neg b];simp only [al,↓reduceIte,Int.reduceBEq,Int.reduceEq,GD,hb,decide_false,e,k2,f,a,c]
   try rfl
open Go Go.Aev Go.Aev.Gen Go.Aev.Wd Go.IntKind
abbrev Nm:=Option Rat
def nv:Nm->Rat
 | none=>0
 | some q=>q
def nc:Nm->Bool
 | none=>false
 | some q=>decide ((q.den:Int) < 0)
def nd:Nm->ByteArray
 | none=>ByteArray.mk #[]
 | some q=>bF (dz (q.den:Int))
abbrev EN(x:Nm):AV:=AV.agg [B (decide ((nv x).num < 0)),AV.t (T.str (bF (dz (nv x).num))),B (nc x),AV.t (T.str (nd x))]
def NC(x:Nm):List T:= [tb (decide ((nv x).num < 0)),T.str (bF (dz (nv x).num)),tb (nc x),T.str (nd x)]
theorem rG(x:Nm):NC x= [tb (decide ((nv x).num < 0)),T.str (bF (dz (nv x).num)),tb (nc x),T.str (nd x)]:=rfl
theorem xD(q:Rat):NC (some q)=NQ q:=rfl
theorem N1(q:Rat):nv (some q)=q:=rfl
theorem rJ:nv none=0:=rfl
theorem l6(x:Nm):Or (.call 51) [EN x] []=some (RZ ((nv x).den:Int)):=by
 cases x with
 | some q=>exact Pg q
 | none=>have k:=oV 0;have a:=uq 1 (by omega);have hz:LZ 0=AV.agg [B false,AV.t (T.str (ByteArray.mk #[]))]:=rfl;have c:EN none=AV.agg [B false,AV.t (T.str (ByteArray.mk #[])),B false,AV.t (T.str (ByteArray.mk #[]))]:=rfl;have h1:((nv none).den:Int)=1:=rfl;have b:Int.sign 0=0:=rfl;rw [hz,b] at k;rw [c,h1];unfold RZ at a⊢;refine ao ?_;rw [Ey];simp only [al,↓reduceIte,Int.reduceBEq,Int.reduceEq,GD,k,a]
theorem yo(x:Int)(h: -9223372036854775808<=x/\x < 9223372036854775808):Or (.call 22) [I x] []=some (NC (some (x:Rat))):=O9 x h
theorem PZ(x y:Int)(b: -9223372036854775808<=x/\x < 9223372036854775808)(hy: -9223372036854775808<=y/\y < 9223372036854775808)(a:y≠0):
  Or (.call 27) [AV.agg [I x,I y]] []=some (NC (some (Rat.divInt x y))):=Pm x y b hy a
theorem yp{m k:Nat}{x y:Nm}(a:QB m (nv x))(b:QB k (nv y))(h:m+k+1<=6300):Or (.call 45) [EN x,EN y] []=some (NC (some (nv x+nv y))):=by obtain⟨j,l⟩:=QB.ln a (by omega);obtain⟨n,o⟩:=QB.ln b (by omega);have p:(dz ((nv x).num * ((nv y).den:Int))).length<=200:=mq (m:=m+k) (by omega) (by rw [Sq,R8];exact jn a.1 b.2);have q:(dz ((nv y).num * ((nv x).den:Int))).length<=200:=mq (m:=k+m) (by omega) (by rw [Sq,R8];exact jn b.1 a.2);have r:(dz ((nv x).num * ((nv y).den:Int)+ (nv y).num * ((nv x).den:Int))).length<=200:=mq h (zk a b);have t:(dz (((nv x).den:Int) * ((nv y).den:Int))).length<=200:=mq (m:=m+k) (by omega) (by rw [Sq,R8,R8];exact jn a.2 b.2);have d:=l6 x;have k2:=l6 y;have e:=nB (nv x).num ((nv y).den:Int) (by omega) (by omega);have f:=nB (nv y).num ((nv x).den:Int) (by omega) (by omega);have g:=Pf ((nv x).num * ((nv y).den:Int)) ((nv y).num * ((nv x).den:Int)) (by omega) (by omega) (by omega);have i:=nB ((nv x).den:Int) ((nv y).den:Int) (by omega) (by omega);have c:=x9 ((nv x).num * ((nv y).den:Int)+ (nv y).num * ((nv x).den:Int)) (((nv x).den:Int) * ((nv y).den:Int)) (by omega) (by omega) (wC _ _);rw [CZ] at c;rw [xD];unfold NQ at c⊢;unfold RZ at d k2 e f g i c⊢;refine ao ?_;rw [KO];simp only [Rx,Ry] at c⊢;simp only [al,↓reduceIte,Int.reduceBEq,Int.reduceEq,GD,d,k2,e,f,g,i,c]
theorem IG(x:Nm):Or (.call 70) [EN x] []=some (NC (some (-(nv x)))):=by have a:=BW (nv x).num;have k2:=l6 x;rw [xD];unfold NQ;rw [xX,HJ];unfold RZ at a k2⊢;refine ao ?_;rw [KW];simp only [al,↓reduceIte,Int.reduceBEq,Int.reduceEq,GD,a,k2];rfl
theorem Cd{m k:Nat}{x y:Nm}(b:QB m (nv x))(c:QB k (nv y))(h:m+k+1<=6300):Or (.call 71) [EN x,EN y] []=some (NC (some (nv x - nv y))):=by
 have a:=IG y;have k2:=yp (x:=x) (y:=some (-(nv y))) b c.neg h;have e:nv x+nv (some (-(nv y)))=nv x - nv y:=by rw [N1,Rat.sub_eq_add_neg]
 rw [e] at k2;rw [rG] at a k2⊢;refine ao ?_;rw [KM];simp only [al,↓reduceIte,Int.reduceBEq,Int.reduceEq,GD,a,k2]
theorem Ce{m k:Nat}{x y:Nm}(b:QB m (nv x))(c:QB k (nv y))(h:m+k<=6300):Or (.call 46) [EN x,EN y] []=some (NC (some (nv x * nv y))):=by obtain⟨g,i⟩:=QB.ln b (by omega);obtain⟨j,l⟩:=QB.ln c (by omega);have n:(dz ((nv x).num * (nv y).num)).length<=200:=mq (m:=m+k) (by omega) (by rw [Sq];exact jn b.1 c.1);have o:(dz (((nv x).den:Int) * ((nv y).den:Int))).length<=200:=mq (m:=m+k) (by omega) (by rw [Sq,R8,R8];exact jn b.2 c.2);have d:=l6 x;have k2:=l6 y;have e:=nB (nv x).num (nv y).num (by omega) (by omega);have f:=nB ((nv x).den:Int) ((nv y).den:Int) (by omega) (by omega);have a:=x9 ((nv x).num * (nv y).num) (((nv x).den:Int) * ((nv y).den:Int)) (by omega) (by omega) (wC _ _);rw [Gy] at a;rw [xD];unfold NQ at a⊢;unfold RZ at d k2 e f a⊢;refine ao ?_;rw [K2];simp only [Rx,Ry] at a⊢;simp only [al,↓reduceIte,Int.reduceBEq,Int.reduceEq,GD,d,k2,e,f,a]
theorem P1{m k:Nat}{x y:Nm}(d:QB m (nv x))(e:QB k (nv y))(h:m+k<=6300)(c:nv y≠0):Or (.call 42) [EN x,EN y] []=some (NC (some (nv x / nv y)))/\QB (m+k) (nv x / nv y):=by
 obtain⟨o,p⟩:=QB.ln d (by omega);obtain⟨q,r⟩:=QB.ln e (by omega);have l:((nv x).num * ((nv y).den:Int)).natAbs<=2 ^ (m+k):=by rw [Sq,R8];exact jn d.1 e.2
 have n:(((nv x).den:Int) * (nv y).num).natAbs<=2 ^ (m+k):=by rw [Sq,R8];exact jn d.2 e.1
 have b:((nv x).den:Int) * (nv y).num≠0:=Int.mul_ne_zero (by have:=(nv x).den_pos;omega) (NY c);have t:=mq h l;have u:=mq h n;have f:=l6 x;have k2:=l6 y;have g:=nB (nv x).num ((nv y).den:Int) (by omega) (by omega);have i:=nB ((nv x).den:Int) (nv y).num (by omega) (by omega);have a:=x9 ((nv x).num * ((nv y).den:Int)) (((nv x).den:Int) * (nv y).num) (by omega) (by omega) b;have j:=QB.divInt b l n;rw [Ks _ c] at a j;refine⟨?_,j⟩;rw [xD];unfold NQ at a⊢;unfold RZ at f k2 g i a⊢;refine ao ?_;rw [KQ];simp only [Rx,Ry] at a⊢;simp only [al,↓reduceIte,Int.reduceBEq,Int.reduceEq,GD,f,k2,g,i,a]
def cq(p q:Rat):Int:=if p < q then -1 else if p=q then 0 else 1
theorem oZ{m k:Nat}{x y:Nm}(a:QB m (nv x))(b:QB k (nv y))(h:m+k<=6300):Or (.call 21) [EN x,EN y] []=some [ti (cq (nv x) (nv y))]:=by obtain⟨g,i⟩:=QB.ln a (by omega);obtain⟨j,l⟩:=QB.ln b (by omega);have n:=mq (z:=(nv x).num * ((nv y).den:Int)) h (by rw [Sq,R8];exact jn a.1 b.2);have o:=mq (m:=k+m) (z:=(nv y).num * ((nv x).den:Int)) (by omega) (by rw [Sq,R8];exact jn b.1 a.2);have c:=l6 x;have k2:=l6 y;have d:=nB (nv x).num ((nv y).den:Int) (by omega) (by omega);have e:=nB (nv y).num ((nv x).den:Int) (by omega) (by omega);have f:=Ph ((nv x).num * ((nv y).den:Int)) ((nv y).num * ((nv x).den:Int)) (by omega) (by omega);rw [Kc] at f;unfold cq;unfold RZ at c k2 d e;refine ao ?_;rw [KP];simp only [al,↓reduceIte,Int.reduceBEq,Int.reduceEq,GD,c,k2,d,e,f]
theorem lM(x:Nm):Or (.call 29) [EN x] []=some [ti (nv x).num.sign]:=by have k:=oV (nv x).num;refine ao ?_;rw [KK];simp only [al,↓reduceIte,Int.reduceBEq,Int.reduceEq,GD,k]
def cT(q:Rat):Bool:=decide (-1073741824<=q.num/\q.num<=1073741824/\(q.den:Int)<=1073741824)
theorem Ow(q:Rat):Int.gcd q.num (q.den:Int)=1:=q.reduced
theorem wZ(q:Rat):bw (q.num,(q.den:Int))↔cT q=true:=by
 have h1:=q.den_pos;have e:=Ow q;unfold bw cT;rw [decide_eq_true_iff];constructor
 .rintro⟨a,b,c,d,_⟩;exact⟨c,d,b⟩
 .rintro⟨a,b,c⟩;exact⟨by dsimp only;omega,c,a,b,e⟩
theorem P0{m:Nat}{x:Nm}(i:QB m (nv x))(h:m<=6300):Or (.call 18) [EN x] []=some (if cT (nv x)=true then [ti (nv x).num,ti ((nv x).den:Int),tb true] else [ti 0,ti 0,tb false]):=by
 obtain⟨k,l⟩:=QB.ln i h;have b:=H7 (nv x).num (by omega);have k2:=l6 x;have a:=H7 ((nv x).den:Int) (by omega);have e:=BV ((nv x).num,((nv x).den:Int));have n:=(nv x).den_pos;unfold RZ at k2;refine ao ?_;rw [KR];by_cases c:cT (nv x)=true
 .have f:=(wZ _).2 c;rw [if_pos f] at e;rw [if_pos c];unfold cT at c;have j:=of_decide_eq_true c;rw [if_pos (by omega)] at b a;simp only [al,↓reduceIte,Int.reduceBEq,Int.reduceEq,GD,b,k2,a,e]
 .have f:¬bw ((nv x).num,((nv x).den:Int)):=λh=>c ((wZ _).1 h);rw [if_neg f] at e;rw [if_neg c];by_cases h1: -9223372036854775808<=(nv x).num/\(nv x).num < 9223372036854775808
  .by_cases d: -9223372036854775808<=((nv x).den:Int)/\((nv x).den:Int) < 9223372036854775808
   .rw [if_pos h1] at b;rw [if_pos d] at a;have g:((3:Int)==0)=false:=rfl;simp only [al,↓reduceIte,Int.reduceBEq,Int.reduceEq,GD,b,k2,a,e,g]
    try rfl
   .rw [if_pos h1] at b;rw [if_neg d] at a;simp only [al,↓reduceIte,Int.reduceBEq,Int.reduceEq,GD,cm,b,k2,a]
    try rfl
  .rw [if_neg h1] at b;by_cases d: -9223372036854775808<=((nv x).den:Int)/\((nv x).den:Int) < 9223372036854775808
   .rw [if_pos d] at a;simp only [al,↓reduceIte,Int.reduceBEq,Int.reduceEq,GD,cm,b,k2,a]
    try rfl
   .rw [if_neg d] at a;simp only [al,↓reduceIte,Int.reduceBEq,Int.reduceEq,GD,cm,b,k2,a]
    try rfl
def aO(l:List Nm):List (List T):=l.map NC
theorem bA(l:List Nm):(aO l).length=l.length:=by simp [aO]
theorem cg{l:List Nm}{i:Nat}{x:Nm}(h:l[i]? =some x):(aO l)[((i:Nat):Int).toNat]? =some [tb (decide ((nv x).num < 0)),T.str (bF (dz (nv x).num)),tb (nc x),T.str (nd x)]:=by simp [aO,h,NC]
theorem jA{l:List Nm}{i:Nat}(hi:i < l.length)(x:Nm):bI ((i:Nat):Int).toNat 0 [tb (decide ((nv x).num < 0)),T.str (bF (dz (nv x).num)),tb (nc x),T.str (nd x)] (aO l)=some (aO (l.set i x)):=by
 have h1:(aO l)[((i:Nat):Int).toNat]? =some (NC l[i]):=by simp [aO,hi]
 simp only [bI,h1];simp [bQ,aO,NC,Uk]
theorem EJ(a b:List Nm):aO a++aO b=aO (a++b):=by simp [aO]
theorem Lk(x:Nm): [[tb (decide ((nv x).num < 0)),T.str (bF (dz (nv x).num)),tb (nc x),T.str (nd x)]]=aO [x]:=rfl
theorem qX(n:Nat):List.replicate n [tb false,T.str (ByteArray.mk #[]),tb false,T.str (ByteArray.mk #[])]=aO (List.replicate n none):=by unfold aO;rw [List.map_replicate];rfl
end Go.Aev.Wd.Lg
