import Derived.Test.YticjdhgokemdlaaMostSureQ9
set_option linter.all false
namespace Go.Aev.Wd.Lg
open Go Go.Aev Go.Aev.Gen Go.Aev.Wd Go.IntKind
theorem HD(i:Bool)(x:List Int)(b:Int)(w:Dg x)(H:x.length<=900)(hb: 0 < b/\b < 4294967296):∀(k:Nat) (r:Int) (c:List Int),k<=x.length->0<=r/\r < b->
  ∃Q R,Or vN [lu i x,AV.t (T.int .u32 b),o0,u6 r,I ((k:Int) - 1)] [aa.sl false 1 false (aN (List.replicate k 0++c))]=some [T.ae 1 false (aN (Q++c)),T.int .u32 R]/\Q.length=k/\Dg Q/\0<=R/\R < b/\val Q * b+R=val (x.take k)+4294967296 ^ k * r
 | 0,r,c,G,hr=>by
  refine⟨[],r,an ?_,rfl,(by intro a e;cases e),hr.1,hr.2,by simp [val]⟩;rw [E7];have g:¬(((0:Nat):Int) - 1)>=0:=by omega
  have y:u32.wrap r=r:=by rw [fa];omega
  simp only [ak,↓reduceIte,Int.reduceBEq,Int.reduceEq,GD,g,y];rfl
 | k+1,r,c,G,hr=>by
  have d:k < x.length:=by omega
  have e: 0<=be x k/\be x k < 4294967296:=by
   have:be x k∈x:=by simp only [be,SV,SZ d,Ts];exact UA d
   exact w _ this
  have f: 0<=r * 4294967296+be x k:=by omega
  have o: 0<=(r * 4294967296+be x k) / b:=Vk f (by omega);have p:(r * 4294967296+be x k) / b < 4294967296:=by rw [Vw hb.1];have:(r+1) * 4294967296<=b * 4294967296:=TF (by omega) (by decide);rw [TA 4294967296 b];omega
  have q:=VJ (r * 4294967296+be x k) (show b≠0 by omega);have u:=UZ (r * 4294967296+be x k) hb.1;have l:=Vf (r * 4294967296+be x k) b;obtain⟨Q,R,h1,j,D,E,F,S⟩:=HD i x b w H hb k ((r * 4294967296+be x k) % b) ((r * 4294967296+be x k) / b::c) (by omega) ⟨q,u⟩;refine⟨Q++ [(r * 4294967296+be x k) / b],R,an ?_,by simp [j],Dg.append D (by intro a e;simp at e;subst e;exact⟨o,p⟩),E,F, ?_⟩
  .rw [E7];have g:((k+1:Nat):Int) - 1= (k:Int):=by omega
   have z:(k:Int)>=0:=by omega
   have A: 0<=(k:Int)/\(k:Int) < (x.length:Int):=by omega
   have h:List.replicate (k+1) (0:Int)++c=List.replicate k 0++0::c:=by rw [List.replicate_succ',TN];rfl
   have B: 0<=(k:Int)/\(k:Int) < ((List.replicate k (0:Int)++0::c).length:Int):=by simp;omega
   have m:=ux (v:=r) (n:=be x k) (by omega) e;have L:u64.wrap b=b:=bY (by omega);have M:(r * 4294967296+be x k).tdiv b= (r * 4294967296+be x k) / b:=Vc f;have N:(r * 4294967296+be x k).tmod b= (r * 4294967296+be x k) % b:=VL f;have O:u32.wrap (u64.wrap ((r * 4294967296+be x k) / b))= (r * 4294967296+be x k) / b:=by rw [bY (by omega),fa];omega
   have J:¬b=0:=by omega
   have K:i64.wrap ((k:Int) - 1)= (k:Int) - 1:=b9 (by omega);rw [g,h];simp only [ak,↓reduceIte,Int.reduceBEq,Int.reduceEq,GD,z,A,br,dq d,m,L,M,N,O,J,B,and_self,mL (List.replicate k 0) 0 _ c k (by simp),K];rw [show Q++ [(r * 4294967296+be x k) / b] ++c=Q++ (r * 4294967296+be x k) / b::c from by simp];exact h1
  .rw [il,j,sK d,VE,VP];simp only [val,VT,Vn];have C: 4294967296 ^ k * ((r * 4294967296+be x k) / b) * b=4294967296 ^ k * (b * ((r * 4294967296+be x k) / b)):=by
    rw [Ub,TA _ b]
   have P:(4294967296:Int) ^ k * (r * 4294967296+be x k)=4294967296 ^ k * (b * ((r * 4294967296+be x k) / b))+4294967296 ^ k * ((r * 4294967296+be x k) % b):=by rw [<-TG,l]
   have e3:(4294967296:Int) ^ k * (r * 4294967296+be x k)=4294967296 ^ k * 4294967296 * r+4294967296 ^ k * be x k:=by rw [TG,Ub,TA r]
   rw [C];omega
theorem Qu(c:Bool)(x:List Int)(b:Int)(j:Dg x)(h:x.length<=900)(hb: 0 < b/\b < 4294967296):
  ∃Q R,Or (.call 95) [lu c x,AV.t (T.int .u32 b)] []=some [T.ae 1 false (aN Q),T.int .u32 R]/\Q.length=x.length/\Dg Q/\0<=R/\R < 4294967296/\val Q=val x / b/\R=val x % b:=by
 obtain⟨Q,R,f,k2,k,g,l,m⟩:=HD c x b j h hb x.length 0 [] (Tl _) ⟨by omega,hb.1⟩;rw [Vt,VT,Vn] at m;rw [T7,T7] at f;have i:=Int.ediv_emod_unique hb.1 (a:=val x) (q:=val Q) (r:=R);obtain⟨q1,n⟩:=i.2 ⟨by rw [TA];omega,g,l⟩;refine⟨Q,R,an ?_,k2,k,g,by omega,q1.symm,n.symm⟩;have d:cr (x.length:Int) (x.length:Int)=some ():=by unfold cr gf;rw [if_pos (by omega)]
 have o:i64.wrap ((x.length:Int) - 1)= (x.length:Int) - 1:=b9 (by omega);have e:List.replicate ((x.length:Int)).toNat [T.int u32 (0:Int)]=aN (List.replicate x.length 0):=by simp [aN]
 rw [LD];simp only [ak,↓reduceIte,Int.reduceBEq,Int.reduceEq,GD,br,d,o,e];exact f
theorem Pw{y z:Int}{n t:Nat}(b:n<=32)(hy: 0<=y/\y < (2:Int) ^ n)(hz:z= ((2 ^ n * t:Nat):Int))(hb:z < 4294967296)(a:z+y < 4294967296):
  u32.wrap (((BitVec.ofInt 32 z ||| BitVec.ofInt 32 y).toNat:Nat):Int)=z+y:=by
 rw [BitVec.or_comm];exact uw b hy hz hb a
theorem OS(n:Nat)(W:n < 32)(e:Bool)(x:List Int)(H:Dg x)(V:x.length<=900):∀(b:List Int) (i:Nat) (c:Int) (done:List Int),x.drop i=b->done.length=i->i<=x.length->0<=c/\c < (2:Int) ^ n->
  Or vO [I (n:Int),o0,AV.t (T.int .u32 c),lu e x,I (x.length:Int),I (i:Int)] [aa.sl false 1 false (aN done)]=some [T.ae 1 false (aN (done++fM (2 ^ n) b c))]:=by
 have d:=lV n;have j:=uD (n:=n) (by omega);have U:=lV (32 - n);have K:(n:Int).tmod 32= (n:Int):=by rw [VL (by omega)];omega
 have L:min ((n:Int)).toNat 32=n:=by rw [TB];omega
 have M:¬(n:Int) < 0:=by omega
 have N:i64.wrap (32 - (n:Int))= ((32 - n:Nat):Int):=by rw [b9 (by omega)];omega
 have O:min (((32 - n:Nat):Int)).toNat 64=32 - n:=by rw [TB];omega
 have P:¬((32 - n:Nat):Int) < 0:=by omega
 intro b;induction b with
 | nil=>
  intro i c done h k hi g;have h1:¬(i:Int) < (x.length:Int):=by have:=bF h;omega
  refine an ?_;rw [E8];simp only [ak,↓reduceIte,Int.reduceBEq,Int.reduceEq,GD,h1,br,mW,mX,nS (done.length+1) (by omega),fM]
 | cons a b J=>
  intro i c done h k hi g;obtain⟨B,C,D⟩:=bz h;have f:=H a (SX B);have o:=lK h;have h1:(i:Int) < (x.length:Int):=by omega
  have E: 0<=(i:Int):=by omega
  have r: 0<=a * (2:Int) ^ n:=T9 f.1 (by omega);have v:a * (2:Int) ^ n < 4294967296 * (2:Int) ^ n:=Wh f.2 d;have m: 0<=a * (2:Int) ^ n / 4294967296:=Vk r (by decide);have l:a * (2:Int) ^ n / 4294967296 < (2:Int) ^ n:=by rw [Vw (by decide),TA (2 ^ n)];exact v
  have p:a.fdiv ((2:Int) ^ (32 - n))=a * (2:Int) ^ n / 4294967296:=by
   rw [Ui _ (by omega)]
   conv=>rhs;rw [j]
   rw [Int.mul_ediv_mul_of_pos_left _ _ d]
  have z:=yP d j (x:= [a]) (c:=c) (by intro u A;simp at A;subst A;exact f) g;have S:=z.2.2 (a * 2 ^ n % 4294967296+c) (by simp [fM]);have w:=Hl (a:=a) d j;have y:u32.wrap (((BitVec.ofInt 32 (a * (2:Int) ^ n % 4294967296) ||| BitVec.ofInt 32 c).toNat:Nat):Int)=a * (2:Int) ^ n % 4294967296+c:=by have q:=VJ a (show(2:Int) ^ (32 - n)≠0 by omega);obtain⟨t,G⟩:=U4 q;exact Pw (n:=n) (t:=t) (by omega) g (by rw [w,G,r6,TA,<-VZ]) (by omega) (by omega)
  have Q:u64.wrap a=a:=bY (by omega);have F:(2:Int) ^ n<=2147483648:=by have:(2:Nat) ^ n<=2 ^ 31:=Vm (by decide) (by omega);rw [r6];omega
  have R:u32.wrap (a * (2:Int) ^ n / 4294967296)=a * (2:Int) ^ n / 4294967296:=by rw [fa];omega
  have:=J (i+1) (a * (2:Int) ^ n / 4294967296) (done++ [a * (2:Int) ^ n % 4294967296+c]) D (by simp [k]) (by omega) ⟨m,l⟩;refine an ?_;rw [E8];simp only [K,L,N,O];simp only [ak,↓reduceIte,Int.reduceBEq,Int.reduceEq,GD,h1,E,and_self,br,dq C,o,M,P,Q,fa (a * (2:Int) ^ n),y,p,R,mW,mX,nS (done.length+1) (by omega),nx i (by omega)];rw [fM,show done++ (a * 2 ^ n % 4294967296+c)::fM (2 ^ n) b (a * 2 ^ n / 4294967296)= (done++ [a * 2 ^ n % 4294967296+c])++fM (2 ^ n) b (a * 2 ^ n / 4294967296) from by simp];exact this
theorem IQ(n:Nat)(c:n < 32)(e:Bool)(x:List Int)(d:Dg x)(b:x.length<=900):Or (.call 97) [lu e x,I (n:Int)] []=some [T.ae 1 false (aN (fM (2 ^ n) x 0))]:=by
 have h1:=OS n c e x d b x 0 0 [] rfl rfl (by omega) ⟨WD _,lV n⟩;have f:(n:Int).tdiv 32=0:=by rw [Vc (by omega)];omega
 have g:i64.wrap 0=0:=b9 (by omega);have h:i64.wrap ((x.length:Int)+0)= (x.length:Int):=by rw [b9 (by omega)];omega
 have a:cr 0 ((x.length+1:Nat):Int)=some ():=by unfold cr gf;rw [if_pos (by omega)]
 refine an ?_;rw [LH];simp only [f,g,br,h,nx x.length (by omega)];simp only [ak,↓reduceIte,Int.reduceBEq,Int.reduceEq,GD,a];exact h1
theorem OU(n:Nat)(hn:n < 32)(e Q:Bool)(P:Bool)(x:List Int)(N:Dg x)(hl:x.length<=900):∀(c:List Int) (i:Nat) (done:List Int),x.drop i=c->done.length=i->i<=x.length->
  Or qQ [lu e x,I (n:Int),B P,o0,lu Q x,I (x.length:Int),I (i:Int)] [aa.sl false 1 false (aN (done++List.replicate c.length 0))]=some [T.ae 1 false (aN (done++eN (2 ^ n) (2 ^ (32 - n)) c)),tb P]:=by
 have M:=lV n;have C:=uD (n:=n) (by omega);have K:=lV (32 - n);have E:min ((n:Int)).toNat 32=n:=by rw [TB];omega
 have F:¬(n:Int) < 0:=by omega
 have W:i64.wrap (32 - (n:Int))= ((32 - n:Nat):Int):=by rw [b9 (by omega)];omega
 have X:min (((32 - n:Nat):Int)).toNat 32=32 - n:=by rw [TB];omega
 have Y:¬((32 - n:Nat):Int) < 0:=by omega
 intro c;induction c with
 | nil=>
  intro i done h f hi;have h1:¬(i:Int) < (x.length:Int):=by have:=bF h;omega
  refine an ?_;rw [xw];simp only [ak,↓reduceIte,Int.reduceBEq,Int.reduceEq,GD,h1,eN,T6,Vr]
 | cons a c k=>
  intro i done h f hi;obtain⟨R,y,d⟩:=bz h;have H:=N a (SX R);have m:=lK h;have h1:(i:Int) < (x.length:Int):=by omega
  have z: 0<=(i:Int):=by omega
  have j:done++List.replicate (a::c).length 0=done++0::List.replicate c.length 0:=by simp [TX]
  have g: 0<=(i:Int)/\(i:Int) < ((done++0::List.replicate c.length 0).length:Int):=by simp;omega
  have o:a.fdiv ((2:Int) ^ n)=a / 2 ^ n:=Ui _ (by omega);have v: 0<=(i:Int)/\(i:Int) < ((done++ (a / 2 ^ n)::List.replicate c.length 0).length:Int):=by simp;omega
  have p:∀b:Int,0<=b/\b < 4294967296->(b * (2:Int) ^ (32 - n)) % 4294967296= (b % 2 ^ n) * 2 ^ (32 - n):=λb hb=>Hl K (by rw [TA];exact C);have r: 0<=a / (2:Int) ^ n:=Vk H.1 (by omega);have u:a / (2:Int) ^ n < 2 ^ (32 - n):=by rw [Vw M,<-C];exact H.2
  match c,d,k with
  | [],d,k=>
   have Z:=bF d;have A:¬((i+1:Nat):Int) < (x.length:Int):=by omega
   have:=k (i+1) (done++ [a / 2 ^ n]) d (by simp [f]) (by omega);refine an ?_;rw [xw,j];simp only [E,fE,<-UH];simp only [ak,↓reduceIte,Int.reduceBEq,Int.reduceEq,GD,h1,z,and_self,br,dq y,m,F,g,o,mL done 0 _ _ i f,nx i (by omega),A,false_and];rw [show done++ (a / 2 ^ n)::List.replicate ([]:List Int).length 0= (done++ [a / 2 ^ n])++List.replicate ([]:List Int).length 0 from by simp,
    show done++eN (2 ^ n) (2 ^ (32 - n)) [a]= (done++ [a / 2 ^ n])++eN (2 ^ n) (2 ^ (32 - n)) [] from by simp [eN]]
   exact this
  | b::c,d,k=>
   obtain⟨V,k2,k3⟩:=bz d;have hb:=N b (SX V);have J:=lK d;have A:((i+1:Nat):Int) < (x.length:Int):=by omega
   have G: 0<=((i+1:Nat):Int):=by omega
   have l:=VJ b (show(2:Int) ^ n≠0 by omega);have S:=UZ b M;have O:(b % 2 ^ n+1) * (2:Int) ^ (32 - n)<=2 ^ n * 2 ^ (32 - n):=TF (by omega) (by omega);rw [VP,Ur,TA ((2:Int) ^ n),<-C] at O;have hz0: 0<=(b % 2 ^ n) * (2:Int) ^ (32 - n):=T9 l (by omega);by_cases w:(n:Int) > 0
   .have:=k (i+1) (done++ [a / 2 ^ n+b * 2 ^ (32 - n) % 4294967296]) d (by simp [f]) (by omega);have L:u32.wrap (((BitVec.ofInt 32 (a / (2:Int) ^ n) ||| BitVec.ofInt 32 (b * (2:Int) ^ (32 - n) % 4294967296)).toNat:Nat):Int)=a / 2 ^ n+b * 2 ^ (32 - n) % 4294967296:=by
     obtain⟨t,U⟩:=U4 l;rw [uw (n:=32 - n) (t:=t) (by omega) ⟨r,u⟩ (by rw [p b hb,U,r6 (32 - n),TA,<-VZ]) (by rw [p b hb];omega) (by rw [p b hb];omega)];omega
    have q:((i+1:Nat):Int) < (x.length:Int)/\(n:Int) > 0:=⟨A,w⟩;refine an ?_;rw [xw,j];simp only [E,fE,<-UH];simp only [ak,↓reduceIte,Int.reduceBEq,Int.reduceEq,GD,h1,z,and_self,br,dq y,m,F,g,o,mL done 0 _ _ i f,nx i (by omega),q,v,mA done _ _ i f,G,dq k2,J,W,X,Y,fa (b * (2:Int) ^ (32 - n)),L,mL done (a / 2 ^ n) _ _ i f];rw [show done++ (a / 2 ^ n+b * 2 ^ (32 - n) % 4294967296)::List.replicate (b::c).length 0= (done++ [a / 2 ^ n+b * 2 ^ (32 - n) % 4294967296])++List.replicate (b::c).length 0 from by simp,
     show done++eN (2 ^ n) (2 ^ (32 - n)) (a::b::c)= (done++ [a / 2 ^ n+b * 2 ^ (32 - n) % 4294967296])++eN (2 ^ n) (2 ^ (32 - n)) (b::c) from by simp [eN]]
    exact this
   .have D:n=0:=by omega
    have hz:b * (2:Int) ^ (32 - n) % 4294967296=0:=by rw [D,show((2:Int) ^ (32 - 0))=4294967296 from by decide];omega
    have:=k (i+1) (done++ [a / 2 ^ n+b * 2 ^ (32 - n) % 4294967296]) d (by simp [f]) (by omega);rw [hz,Vn] at this;refine an ?_;rw [xw,j];simp only [E,fE,<-UH];simp only [ak,↓reduceIte,Int.reduceBEq,Int.reduceEq,GD,h1,z,and_self,br,dq y,m,F,g,o,mL done 0 _ _ i f,nx i (by omega),w,and_false];rw [show done++ (a / 2 ^ n)::List.replicate (b::c).length 0= (done++ [a / 2 ^ n])++List.replicate (b::c).length 0 from by simp,
     show done++eN (2 ^ n) (2 ^ (32 - n)) (a::b::c)= (done++ [a / 2 ^ n])++eN (2 ^ n) (2 ^ (32 - n)) (b::c) from by simp [eN,hz]]
    exact this
theorem Qx(n:Nat)(v:n < 32)(e:Bool)(x:List Int)(w:Dg x)(u:x.length<=900)(o: 0 < x.length):∃b,Or (.call 99) [lu e x,I (n:Int)] []=some [T.ae 1 false (aN (eN (2 ^ n) (2 ^ (32 - n)) x)),tb b]:=by
 obtain⟨a,r,rfl⟩:∃a r,x=a::r:=by
  cases x with
  | nil=>simp at o
  | cons a r=>exact⟨a,r,rfl⟩
 have y:(n:Int).tdiv 32=0:=by rw [Vc (by omega)];omega
 have z:(n:Int).tmod 32= (n:Int):=by rw [VL (by omega)];omega
 have A:i64.wrap (32 - (n:Int))= ((32 - n:Nat):Int):=by rw [b9 (by omega)];omega
 have C:¬((32 - n:Nat):Int) < 0:=by omega
 have D:i64.wrap 0=0:=b9 (by omega);have i:mm false 0 ((a::r).length:Int)=0:=by rw [OF];omega
 have f:cT 0 0 ((a::r).length:Int)=some ():=by unfold cT;rw [if_pos (by omega)]
 have g:cT 0 ((a::r).length:Int) ((a::r).length:Int)=some ():=by unfold cT;rw [if_pos (by omega)]
 have l:sub 0 0 (aN (a::r))= []:=by simp [sub]
 have m:sub 0 ((a::r).length:Int) (aN (a::r))=aN (a::r):=by unfold sub;rw [TB,Int.toNat_zero,We,TZ,Um (by rw [br];exact Tl _)]
 have h:cr ((a::r).length:Int) ((a::r).length:Int)=some ():=by unfold cr gf;rw [if_pos (by omega)]
 have p:aN ([] ++List.replicate (a::r).length 0)=List.replicate (a::r).length [T.int u32 0]:=by simp [aN]
 have k:¬((a::r).length:Int)=0:=by omega
 have q:(aN (a::r))[(0:Nat)]? =some [T.int .u32 a]:=rfl;have hr:(0:Int)<=0/\(0:Int) < ((a::r).length:Int):=by omega
 have key:∀c:Bool,Or qQ [lu e (a::r),I (n:Int),B c,o0,lu e (a::r),I ((a::r).length:Int),I 0] [aa.sl false 1 false (List.replicate (a::r).length [T.int u32 0])]=some [T.ae 1 false (aN (eN (2 ^ n) (2 ^ (32 - n)) (a::r))),tb c]:=λc=>by have:=OU n v e e c (a::r) w u (a::r) 0 [] rfl rfl (by omega);rw [p] at this;exact this
 have nd:∃b,Or sV [lu e (a::r),I (n:Int),B false,I 0,AV.t (T.ae 1 e []),I (([]:List (List T)).length:Int),I 0] []=some [T.ae 1 false (aN (eN (2 ^ n) (2 ^ (32 - n)) (a::r))),tb b]:=by
  have st:∃b,aE aq ann Or sV [lu e (a::r),I (n:Int),B false,I 0,AV.t (T.ae 1 e []),I (([]:List (List T)).length:Int),I 0] []=some [T.ae 1 false (aN (eN (2 ^ n) (2 ^ (32 - n)) (a::r))),tb b]:=by
   rw [LK];have d:¬(0:Int) < (([]:List (List T)).length:Int):=by simp
   simp only [z,A];simp only [ak,↓reduceIte,Int.reduceBEq,Int.reduceEq,GD,d,br,g,m,k,hr,q,C,h,TB];exact⟨_,key _⟩
  obtain⟨b,st⟩:=st;exact⟨b,an st⟩
 obtain⟨b,j⟩:=nd;refine⟨b,an ?_⟩;rw [LJ];simp only [y,D,br,i];simp only [ak,↓reduceIte,Int.reduceBEq,Int.reduceEq,GD,f,l];exact j
theorem zU{t:Int}(h: 0<=t/\t < 18446744073709551616):u64.wrap (((BitVec.ofInt 64 t &&& BitVec.ofInt 64 4294967295).toNat:Nat):Int)=t % 4294967296:=by
 obtain⟨a,rfl⟩:=U4 h.1;have b:a % 2 ^ 64=a:=Vd (by omega);have c:(BitVec.ofInt 64 4294967295).toNat=2 ^ 32 - 1:=by decide
 rw [BitVec.toNat_and,c,Nat.and_two_pow_sub_one_eq_mod,VO,VY,b,bY (by omega)];omega
theorem AM(a:List Int)(b:Int)(r:List Int)(i:Nat)(h:a.length=i):(aN (a++b::r))[i]? =some [T.int .u32 b]:=by have:=mA a b r i h;rwa [TB] at this
theorem uN(a:List Int)(b v:Int)(r:List Int)(i:Nat)(h:a.length=i):bT i 0 [T.int .u32 v] (aN (a++b::r))=some (aN (a++v::r)):=by have:=mL a b v r i h;rwa [TB] at this
theorem OT(ev ec:Bool)(v:List Int)(hv:Dg v)(d hi:List Int)(top q:Int)(Q: 0<=top/\top < 4294967296)(L: 0<=q/\q < 4294967296)(P:v.length<=1000):∀(vs:List Int) (i:Nat) (c b:Int) (done us:List Int),v.drop i=vs->i<=v.length->done.length=i->us.length=vs.length->Dg us->0<=c/\c < 4294967296->0<=b/\b<=1->
  Or qP [AV.part (Id.c 0) 1 d.length (v.length+1),lu ev v,u6 q,u6 b,u6 c,I ((v.length+1:Nat):Int),I (i:Int)] [aa.sl false 1 ec (aN (d++ (done++us++top::hi)))]=
   some [tb (decide (cO (top - (fI q us vs c b).1 - (fI q us vs c b).2) > 0)),T.ae 1 ec (aN (d++ (done++jW q us vs c b++ ((top - (fI q us vs c b).1 - (fI q us vs c b).2) % 4294967296)::hi)))]:=by
 intro vs;induction vs with
 | nil=>
  intro i c b done us h y j f e H hb;have N:=bF h;obtain rfl:i=v.length:=by omega
  obtain rfl:us= []:=To.1 (by simpa using f);simp only [jW,fI];have h1:(v.length:Int) < ((v.length+1:Nat):Int):=by omega
  have n:¬(v.length:Int) < (v.length:Int):=by omega
  have m: 0<=(v.length:Int):=by omega
  have p:∀z,d++ (done++ [] ++z::hi)= (d++done)++z::hi:=λz=>by simp
  have g:(d++done).length=d.length+v.length:=by simp [j]
  have k:u64.wrap top=top:=bY (by omega);have w:c % 4294967296=c:=by omega
  have K:i64.wrap ((v.length:Int)+1)= ((v.length+1:Nat):Int):=nx _ (by omega);have o:¬((v.length+1:Nat):Int) < ((v.length+1:Nat):Int):=by omega
  have r:Or qP [AV.part (Id.c 0) 1 d.length (v.length+1),lu ev v,u6 q,u6 (cO (top - c - b)),u6 (c / 4294967296),I ((v.length+1:Nat):Int),I ((v.length+1:Nat):Int)] [aa.sl false 1 ec (aN ((d++done)++ ((top - c - b) % 4294967296)::hi))]=
    some [tb (decide (cO (top - c - b) > 0)),T.ae 1 ec (aN ((d++done)++ ((top - c - b) % 4294967296)::hi))]:=by
   refine an ?_;rw [AG];simp only [ak,↓reduceIte,Int.reduceBEq,Int.reduceEq,GD,o]
  refine an ?_;rw [AG];simp only [p];simp only [ak,↓reduceIte,Int.reduceBEq,Int.reduceEq,GD,h1,n,m,and_self,br,TB,AM (d++done) top hi _ g,k,zU (t:=c) (by omega),w,C9,C7,uN (d++done) top _ hi _ g,nk,A7 (v:=top - c - b) (by omega),K];exact r
 | cons a vs M=>
  intro i c b done us h y j f e H hb;obtain⟨E,u,F⟩:=bz h;have G:=hv a (SX E);have l:=lK h
  match us,f,e with
  | x::us,f,e=>
   have R:=e x SW;have O:=pX L G;rw [jW,fI];have:=M (i+1) ((c+q * a) / 4294967296) (cO (x - (c+q * a) % 4294967296 - b)) (done++ [(x - (c+q * a) % 4294967296 - b) % 4294967296]) us F (by omega) (by simp [j]) (by simpa using f) e.tail (by omega) (DZ _);have h1:(i:Int) < ((v.length+1:Nat):Int):=by omega
   have n:(i:Int) < (v.length:Int):=by omega
   have m: 0<=(i:Int):=by omega
   have p:d++ (done++x::us++top::hi)= (d++done)++x:: (us++top::hi):=by simp
   have A:d++ (done++ [(x - (c+q * a) % 4294967296 - b) % 4294967296] ++us++top::hi)= (d++done)++ ((x - (c+q * a) % 4294967296 - b) % 4294967296):: (us++top::hi):=by simp
   have g:(d++done).length=d.length+i:=by simp [j]
   rw [A] at this;rw [p];have B:u64.wrap a=a:=bY (by omega);have C:u64.wrap (q * a)=q * a:=bY (by omega);have D:u64.wrap (c+q * a)=c+q * a:=bY (by omega);have k:u64.wrap x=x:=bY (by omega);refine an ?_;rw [AG];simp only [ak,↓reduceIte,Int.reduceBEq,Int.reduceEq,GD,h1,n,m,and_self,br,dq u,l,TB,AM (d++done) x _ _ g,B,C,D,k,zU (t:=c+q * a) (by omega),C9,C7,uN (d++done) x _ _ _ g,nk,A7 (v:=x - (c+q * a) % 4294967296 - b) (by omega),nx i (by omega)];have J:(aN v)[i]? =some [T.int .u32 a]:=by have:=dq u;rw [TB,l] at this;exact this
   simp only [ak,↓reduceIte,Int.reduceBEq,Int.reduceEq,GD,J,B,C,D,k,zU (t:=c+q * a) (by omega),C9,C7,uN (d++done) x _ _ _ g,nk,A7 (v:=x - (c+q * a) % 4294967296 - b) (by omega),AM (d++done) x _ _ g];exact this.trans (by simp)
theorem Qw(ev ec:Bool)(v:List Int)(hv:Dg v)(a hi w:List Int)(top q:Int)(f: 0<=top/\top < 4294967296)(e: 0<=q/\q < 4294967296)(b:v.length<=1000)(g:Dg w)(d:w.length=v.length):
  Or (.call 98) [AV.part (Id.c 0) 1 a.length (v.length+1),lu ev v,u6 q] [aa.sl false 1 ec (aN (a++ (w++top::hi)))]=
   some [tb (decide (cO (top - (fI q w v 0 0).1 - (fI q w v 0 0).2) > 0)),T.ae 1 ec (aN (a++ (jW q w v 0 0++ ((top - (fI q w v 0 0).1 - (fI q w v 0 0).2) % 4294967296)::hi)))]:=by
 have:=OT ev ec v hv a hi top q f e b v 0 0 0 [] w rfl (by omega) rfl d g (by omega) (by omega);refine an ?_;rw [LI];simpa using this
open Go Go.Aev Go.Aev.Gen Go.Aev.Wd
theorem OO(s:Nat)(ev ec0 ec1:Bool)(v:List Int)(hv:Dg v)(b hi j:List Int)(top q:Int)(F:b.length<=1000)(G:v.length<=1000)(R:List T):∀(vs:List Int) (i:Nat) (c:Int) (done us:List Int),v.drop i=vs->i<=v.length->done.length=i->us.length=vs.length->Dg us->0<=c/\c<=1->
  Or pv [I (s:Int),lu ev v,o0,I (v.length:Int),o1,I (b.length:Int),u6 q,u6 (jI us vs c),lu ev v,I (v.length:Int),I (v.length:Int)] (U2 ec0 ec1 (b++ (done++fT us vs c++top::hi)) j)=some R->
  Or pv [I (s:Int),lu ev v,o0,I (v.length:Int),o1,I (b.length:Int),u6 q,u6 c,lu ev v,I (v.length:Int),I (i:Int)] (U2 ec0 ec1 (b++ (done++us++top::hi)) j)=some R:=by
 intro vs;induction vs with
 | nil=>
  intro i c done us h m g e d w f;have E:=bF h;obtain rfl:i=v.length:=by omega
  obtain rfl:us= []:=To.1 (by simpa using e);simpa only [fT,jI] using f
 | cons a vs z=>
  intro i c done us h m g e d w f;obtain⟨p,r,t⟩:=bz h;have H:=hv a (SX p);have l:=lK h
  match us,e,d,f with
  | x::us,e,d,f=>
   have J:=d x SW;rw [fT,jI] at f;have:=z (i+1) ((c+ (x+a)) / 4294967296) (done++ [(c+ (x+a)) % 4294967296]) us t (by omega) (by simp [g]) (by simpa using e) d.tail (by omega) (by
    simpa only [TN,S7,S8] using f)
   have h1:(i:Int) < (v.length:Int):=by omega
   have u: 0<=(i:Int):=by omega
   have y:b++ (done++x::us++top::hi)= (b++done)++x:: (us++top::hi):=by simp
   have o:b++ (done++ [(c+ (x+a)) % 4294967296] ++us++top::hi)= (b++done)++ ((c+ (x+a)) % 4294967296):: (us++top::hi):=by simp
   have n:(b++done).length=b.length+i:=by simp [g]
   rw [o] at this;rw [y];have k: 0<=((b.length+i:Nat):Int)/\((b.length+i:Nat):Int) < (((b++done)++x:: (us++top::hi)).length:Int):=by simp [g];omega
   have A:u64.wrap a=a:=bY (by omega);have B:u64.wrap x=x:=bY (by omega);have C:u64.wrap (x+a)=x+a:=bY (by omega);have D:u64.wrap (c+ (x+a))=c+ (x+a):=bY (by omega);refine an ?_;rw [E3];simp only [ak,↓reduceIte,Int.reduceBEq,Int.reduceEq,GD,h1,u,and_self,br,dq r,l,ad b.length i (by omega),k,mA (b++done) x _ _ n,A,B,C,D,fa,mL (b++done) x _ _ _ n,nk,nx i (by omega)];exact this
section
variable (s:Nat) (ev ec0 ec1:Bool)
noncomputable abbrev vP(v:List Int)(u a:List Int)(k:Int):Option (List T):=Or qO [I (s:Int),lu ev v,o0,I (v.length:Int),o1,I k] (U2 ec0 ec1 u a)
def Dt(v u:List Int)(k:Nat)(d:List Int)(e:List T->Prop)(a:Int):Prop:=
 (∃b:List Int,Or (.call 98) [AV.part (Id.c 0) 1 k (v.length+1),lu ev v,u6 a] [aa.sl false 1 ec0 (aN u)]=some [tb false,T.ae 1 ec0 (aN b)]/\Wd.Good e (vP s ev ec0 ec1 v b (List.replicate k 0++a::d) ((k:Int) - 1)))\/
 (∃b:List Int,Or (.call 98) [AV.part (Id.c 0) 1 k (v.length+1),lu ev v,u6 a] [aa.sl false 1 ec0 (aN u)]=some [tb true,T.ae 1 ec0 (aN b)]/\1<=a/\Wd.Good e (Or pv [I (s:Int),lu ev v,o0,I (v.length:Int),o1,I (k:Int),u6 (a - 1),u6 0,lu ev v,I (v.length:Int),I 0] (U2 ec0 ec1 b (List.replicate k 0++0::d))))
theorem Ls(v:List Int)(a hi:List Int)(hv:Dg v)(y:v.length<=1000)(U:a.length<=1000)(w:List Int)(top:Int)(V:Dg w)(f:w.length=v.length)(ht: 0<=top/\top < 4294967296)(L: 0 < val v)(m:List Int)(X:List T->Prop)
  (q:Int) (hq:q= (val w+4294967296 ^ v.length * top) / val v) (d:Int) (hq1:q<=d) (hq2:d<=q+1) (x: 0<=d/\d < 4294967296) (hq0: 0<=q)
  (next:∀p:List Int,Dg p->p.length=v.length->val p= (val w+4294967296 ^ v.length * top) % val v->Wd.Good X (vP s ev ec0 ec1 v (a++ (p++0::hi)) (List.replicate a.length 0++q::m) ((a.length:Int) - 1))):
  Dt s ev ec0 ec1 v (a++ (w++top::hi)) a.length m X d:=by
 obtain⟨H,n,o,s4,s5,s6,s7⟩:=Hr x (us:=w) (vs:=v) (c:=0) (b:=0) f V hv (by omega) (by omega);have g:=Qw ev ec0 v hv a hi w top d ht x y V f;have hvV:=kx hv;have hm0:=gU o;have u:=kx o;rw [n] at u;rw [f] at H u;have P:=Vf (val w+4294967296 ^ v.length * top) (val v);have hr0:=VJ (val w+4294967296 ^ v.length * top) (show val v≠0 by omega);have hr1:=UZ (val w+4294967296 ^ v.length * top) L;rw [<-hq] at P;generalize (val w+4294967296 ^ v.length * top) % val v=r at *
 have S:(List.replicate a.length (0:Int)).length=a.length:=by simp
 generalize jW d w v 0 0=M at *
 generalize fI d w v 0 0=Y at *
 obtain⟨c,b⟩:=Y;dsimp only at H s4 s5 s6 s7 g;have N: 0<=(a.length:Int)/\(a.length:Int) < ((List.replicate a.length (0:Int)++0::m).length:Int):=by simp;omega
 have D:¬(v.length:Int) < (v.length:Int):=by omega
 have i:=ja v.length;have e:val M+4294967296 ^ v.length * (top - c - b)= (val w+4294967296 ^ v.length * top) - d * val v:=by rw [H,Int.mul_sub,Int.mul_sub,TG];omega
 have J:∀z:Int,z<= -1->4294967296 ^ v.length * z<= -(4294967296 ^ v.length):=λz hz=>by have:(4294967296:Int) ^ v.length * z<=4294967296 ^ v.length * (-1):=Ti hz (Uz i);omega
 have C:∀z:Int,1<=z->4294967296 ^ v.length<=(4294967296:Int) ^ v.length * z:=λz hz=>by have:(4294967296:Int) ^ v.length * 1<=4294967296 ^ v.length * z:=Ti hz (Uz i);omega
 by_cases Z:d=q
 .subst Z;have hz:top - c - b=0:=by
   rcases Vp (top - c - b) 0 with h | h | h
   .have:=J (top - c - b) (by omega);rw [TA d] at e;omega
   .exact h
   .have:=C (top - c - b) (by omega);rw [TA d] at e;omega
  have k:decide (cO (top - c - b) > 0)=false:=by rw [hz];rfl
  rw [k,show(top - c - b) % 4294967296=0 from by rw [hz];rfl] at g;exact .inl ⟨_,g,next M o (by rw [n,f]) (by rw [hz] at e;rw [TA d] at e;omega)⟩
 .have Q:d=q+1:=by omega
  have hq'V:d * val v=val v * q+val v:=by rw [Q,VP,Ur,TA]
  have hz:top - c - b= -1:=by
   rcases Vp (top - c - b) (-1) with h | h | h
   .exfalso;have:(4294967296:Int) ^ v.length * (top - c - b)<=4294967296 ^ v.length * (-2):=Ti (by omega) (Uz i);omega
   .exact h
   .exfalso;have:(4294967296:Int) ^ v.length * 0<=4294967296 ^ v.length * (top - c - b):=Ti (by omega) (Uz i);omega
  have k:decide (cO (top - c - b) > 0)=true:=by rw [hz];rfl
  rw [k,show(top - c - b) % 4294967296=4294967295 from by rw [hz];rfl] at g;obtain⟨A,j,B,a4,a5⟩:=Dx (us:=M) (vs:=v) (c:=0) (by rw [n,f]) o hv (by omega);rw [n,f] at A j;have hA0:=gU B;have I:=kx B;rw [j] at I;rw [hz] at e;have hM:val M=r - val v+4294967296 ^ v.length:=by omega
  have t:jI M v 0=1:=by
   rcases UG (jI M v 0) 1 with h | h
   .exfalso;have:jI M v 0=0:=by omega
    rw [this] at A;omega
   .omega
  rw [t] at A;have E:d - 1=q:=by omega
  refine .inr ⟨_,g,by omega, ?_⟩;rw [E];refine(next (fT M v 0) B j (by omega)).step λR K=> ?_;have G:=OO s ev ec0 ec1 v hv a hi (List.replicate a.length 0++0::m) 4294967295 q U y R v 0 0 [] M rfl (by omega) rfl (by rw [n,f]) o (by omega) (by
   rw [t];refine an ?_;rw [E3];have F:a++ ([] ++fT M v 0++4294967295::hi)= (a++fT M v 0)++4294967295::hi:=by simp
   rw [F];have l:(a++fT M v 0).length=a.length+v.length:=by simp [j]
   have O: 0<=((a.length+v.length:Nat):Int)/\((a.length+v.length:Nat):Int) < (((a++fT M v 0)++4294967295::hi).length:Int):=by simp [j];omega
   have W:u32.wrap (4294967295+u32.wrap 1)=0:=by rw [fa,fa];rfl
   have wq:u32.wrap q=q:=by rw [fa];omega
   rw [show a++ (fT M v 0++0::hi)= (a++fT M v 0)++0::hi from by simp] at K;simp only [ak,↓reduceIte,Int.reduceBEq,Int.reduceEq,GD,D,br,ad a.length v.length (by omega),O,and_self,mA (a++fT M v 0) _ hi _ l,W,mL (a++fT M v 0) _ _ hi _ l,N,wq,mL _ 0 _ m _ S,C6 a.length (by omega)];exact K)
  simpa using G
end
theorem OP(s k:Nat)(ev ec0 ec1:Bool)(v u M:List Int)(Φ:List T->Prop){U V P w0 v0 u2 f c C q:Int}(hvl:v.length<=1000)(hkl:k<=1000)(hn2: 2<=v.length)(hul:k+v.length < u.length)
  (n:(aN v)[((v.length - 1:Nat):Int).toNat]? =some [T.int .u32 c]) (o:(aN v)[((v.length - 2:Nat):Int).toNat]? =some [T.int .u32 f]) (p:(aN u)[((k+v.length - 2:Nat):Int).toNat]? =some [T.int .u32 u2])
  (hP: 0 < P) (hU:U=w0+P * u2+4294967296 * (P * C)) (hV:V=v0+P * f+4294967296 * (P * c)) (hw: 0<=w0/\w0 < P) (K: 0<=v0/\v0 < P) (hu2: 0<=u2/\u2 < 4294967296) (t: 0<=f/\f < 4294967296) (hv1: 1<=c/\c < 4294967296)
  (hU0: 0<=U) (hUV:U < V * 4294967296) (H: 0 < V) (X:q=U / V)
  (go:∀L,q<=L->L<=q+1->0<=L->L < 4294967296->Dt s ev ec0 ec1 v u k M Φ L):
  ∀(m:Nat) (qh d:Int),4294967296 - d<=(m:Int)->qh * c+d=C->0<=d/\d < 4294967296->q<=qh->qh < 18446744073709551616->
   Wd.Good Φ (Or vL [I (s:Int),lu ev v,o0,I (v.length:Int),o1,I (k:Int),u6 qh,u6 d] (U2 ec0 ec1 u (List.replicate k 0++0::M))):=by
 have hqV:q * V<=U:=by rw [X];exact Int.ediv_mul_le _ (by omega)
 have hq0: 0<=q:=by rw [X];exact Vk hU0 (by omega)
 have hqV1:U < (q+1) * V:=by rw [X,VP,Ur];have:=Vf U V;have:=UZ U H;rw [TA V] at *;omega
 have hT3:C < 4294967296 * (c+1):=by
  rcases UG C (4294967296 * (c+1)) with h | h
  .exact h
  .exfalso;have h1:P * (4294967296 * (c+1))<=P * C:=Ti h (by omega);have h2:P * f<=P * 4294967295:=Ti (by omega) (by omega);have h3: 0<=P * u2:=T9 (by omega) hu2.1;rw [TW,TG,Wq] at h1;omega
 have hkz:(List.replicate k (0:Int)).length=k:=by simp
 have Z: 0<=(k:Int)/\(k:Int) < ((List.replicate k (0:Int)++0::M).length:Int):=by simp;omega
 have i:i64.wrap ((k:Int)+ (v.length:Int))= ((k+v.length:Nat):Int):=ad k v.length (by omega);have g:i64.wrap (((k+v.length:Nat):Int)+1)= ((k+v.length+1:Nat):Int):=nx _ (by omega);have y:cT (k:Int) ((k+v.length+1:Nat):Int) (u.length:Int)=some ():=by unfold cT;rw [if_pos (by omega)]
 have A:((k+v.length+1:Nat):Int).toNat - k=v.length+1:=by omega
 have B:((k:Int)).toNat=k:=by omega
 intro m;induction m with
 | zero=>intro qh d hm _ hr _ _;omega
 | succ m ih=>
  intro qh d hm hT hr hqq hq64;have N:i64.wrap ((v.length:Int) - 2)= ((v.length - 2:Nat):Int):=by rw [b9 (by omega)];omega
  have O:i64.wrap (((k+v.length:Nat):Int) - 2)= ((k+v.length - 2:Nat):Int):=by rw [b9 (by omega)];omega
  have Q:i64.wrap ((v.length:Int) - 1)= ((v.length - 1:Nat):Int):=by rw [b9 (by omega)];omega
  have E: 0<=((v.length - 2:Nat):Int)/\((v.length - 2:Nat):Int) < (v.length:Int):=by omega
  have F: 0<=((k+v.length - 2:Nat):Int)/\((k+v.length - 2:Nat):Int) < (u.length:Int):=by omega
  have G: 0<=((v.length - 1:Nat):Int)/\((v.length - 1:Nat):Int) < (v.length:Int):=by omega
  have S:u64.wrap f=f:=bY (by omega);have x2:u64.wrap c=c:=bY (by omega);have W:u64.wrap (d+c)=d+c:=bY (by omega);have r:=ux hr hu2;by_cases l:qh>=4294967296\/qh * f > d * 4294967296+u2
  .have z:q<=qh - 1:=by
    rcases l with l | l
    .have hqB:q < 4294967296:=by rw [X];exact Int.ediv_lt_of_lt_mul H (by rw [TA];exact hUV)
     omega
    .exact NU hP hU hV hw K.1 (by omega) hT hqV l H
   have D:u64.wrap (qh - 1)=qh - 1:=bY (by omega);have Y:(qh - 1) * c+ (d+c)=C:=by rw [W2,Ur];omega
   have e:(qh>=4294967296\/u64.wrap (qh * f) > d * 4294967296+u2):=by
    by_cases hb:qh>=4294967296
    .left;omega
    .right;rcases l with l | l
     .exact absurd l hb
     .have:=pX (a:=qh) (b:=f) (by omega) t;rw [bY (by omega)];exact l
   by_cases hbr:d+c < 4294967296
   .have hz:¬d+c>=4294967296:=by omega
    refine(ih (qh - 1) (d+c) (by omega) Y (by omega) z (by omega)).step λR j=>an ?_;rw [tG];simp only [gX,<-decide_not,<-Ug];simp only [ak,↓reduceIte,Int.reduceBEq,Int.reduceEq,GD,br,N,i,O,Q,E,F,G,and_self,n,o,p,S,x2,W,D,r,e,hz];exact j
   .have hz:d+c>=4294967296:=by omega
    have hsm:qh - 1 < 4294967296:=by
     rcases UG (qh - 1) 4294967296 with h | h
     .exact h
     .exfalso;have: 4294967296 * c<=(qh - 1) * c:=TF h (by omega);rw [TG] at hT3;omega
    have J:qh - 1<=q+1:=by
     have h1:=pX (a:=qh - 1) (b:=f) (by omega) t;have h2:=GI hP hU hV hw.1 K t.1 hv1.1 (qh:=qh - 1) (by omega) Y (by omega);rcases UG (q+1) (qh - 1) with h | h
     .exfalso;have:(q+1) * V<=(qh - 1 - 1) * V:=TF (by omega) (by omega);omega
     .exact h
    have x5:u32.wrap (qh - 1)=qh - 1:=by rw [fa];omega
    rcases go (qh - 1) z J (by omega) hsm with⟨u',w,x⟩ | ⟨u',w,p0,x⟩
    .refine x.step λR j=>an ?_;rw [tG];simp only [gX,<-decide_not,<-Ug];simp only [ak,↓reduceIte,Int.reduceBEq,Int.reduceEq,GD,S9,br,N,i,g,y,A,B,O,Q,E,F,G,and_self,n,o,p,S,x2,W,D,x5,r,e,hz,w,Z,uN _ 0 _ M _ hkz,C6 k (by omega)];exact j
    .have x6:u64.wrap (qh - 1 - 1)=qh - 1 - 1:=bY (by omega);refine x.step λR j=>an ?_;rw [tG];simp only [gX,<-decide_not,<-Ug];simp only [ak,↓reduceIte,Int.reduceBEq,Int.reduceEq,GD,S9,br,N,i,g,y,A,B,O,Q,E,F,G,and_self,n,o,p,S,x2,W,D,x6,r,e,hz,w];exact j
  .have hqs:qh < 4294967296:=by omega
   have z:qh * f<=d * 4294967296+u2:=by omega
   have hm2:=pX (a:=qh) (b:=f) (by omega) t;have D:u64.wrap (qh * f)=qh * f:=bY (by omega);have e:¬(qh>=4294967296\/qh * f > d * 4294967296+u2):=by omega
   have J:qh<=q+1:=by
    have h2:=GI hP hU hV hw.1 K t.1 hv1.1 (qh:=qh) (by omega) hT z;rcases UG (q+1) qh with h | h
    .exfalso;have:(q+1) * V<=(qh - 1) * V:=TF (by omega) (by omega);omega
    .exact h
   have x5:u32.wrap qh=qh:=by rw [fa];omega
   rcases go qh hqq J (by omega) hqs with⟨u',w,x⟩ | ⟨u',w,p0,x⟩
   .refine x.step λR j=>an ?_;rw [tG];simp only [gX,<-decide_not,<-Ug];simp only [ak,↓reduceIte,Int.reduceBEq,Int.reduceEq,GD,S9,br,N,i,g,y,A,B,O,Q,E,F,G,and_self,n,o,p,S,x2,W,D,x5,r,e,w,Z,uN _ 0 _ M _ hkz,C6 k (by omega)];exact j
   .have x6:u64.wrap (qh - 1)=qh - 1:=bY (by omega);refine x.step λR j=>an ?_;rw [tG];simp only [gX,<-decide_not,<-Ug];simp only [ak,↓reduceIte,Int.reduceBEq,Int.reduceEq,GD,S9,br,N,i,g,y,A,B,O,Q,E,F,G,and_self,n,o,p,S,x2,W,D,x6,r,e,w];exact j
theorem SF(s:Nat)(hs:s < 32)(ev ec0 ec1:Bool)(b:List Int)(e c:Int)(hv:Dg (b++ [e,c]))(hvl:b.length<=400)(h1: 1<=c)(L:Nat)(N0:Int):∀(j:Nat) (z R hi h:List Int),z.length=j->j<=900->R.length=b.length+2->Dg z->Dg R->Dg h->val R < val (b++ [e,c])->j+h.length=L->
  val z+4294967296 ^ j * (val R+val (b++ [e,c]) * val h)=N0->Wd.Good (Dd s L (val (b++ [e,c])) N0 (b.length+2)) (vP s ev ec0 ec1 (b++ [e,c]) (z++ (R++hi)) (List.replicate j 0++h) ((j:Int) - 1)):=by
 have g:(b++ [e,c]).length=b.length+2:=by simp
 have H:val (b++ [e,c])=val b+4294967296 ^ b.length * e+4294967296 * (4294967296 ^ b.length * c):=by rw [il];simp only [val];rw [TG,TW _ 4294967296];simp;omega
 have Y:=gU hv.left;have hv0':=kx hv.left;have Q:=ja b.length;have C:=hv e (by simp);have dv1:=hv c (by simp);have hp1:(4294967296:Int) ^ b.length * 1<=4294967296 ^ b.length * c:=Ti h1 (by omega);have hp2: 0<=(4294967296:Int) ^ b.length * e:=T9 (by omega) C.1;have u: 0 < val (b++ [e,c]):=by omega
 have e1:(aN (b++ [e,c]))[(((b++ [e,c]).length - 1:Nat):Int).toNat]? =some [T.int .u32 c]:=by have:=mA (b++ [e]) c [] (b.length+1) (by simp);rw [g];simpa using this
 have e2:(aN (b++ [e,c]))[(((b++ [e,c]).length - 2:Nat):Int).toNat]? =some [T.int .u32 e]:=by have:=mA b e [c] b.length rfl;rw [g];simpa using this
 intro j;induction j with
 | zero=>
  intro z R hi h F hj r t y A X hL K;obtain rfl:=To.1 F;obtain⟨lost,h80⟩:=Qx s hs ec0 R y (by omega) (by omega);obtain⟨g1,g2,g3⟩:=I9 (lV s) (uD (n:=s) (by omega)) (lV (32 - s)) y;refine⟨_,an ?_,ec1,h,false,_,val R,rfl,A,g3,by omega,by rw [g2,r],gU y,X,by
   simp only [val,Wy,Ur,Int.zero_add] at K;rw [<-K,TA];omega,g1⟩
  rw [E0];have c0:¬(((0:Nat):Int) - 1)>=0:=by omega
  have W:cT 0 ((b++ [e,c]).length:Int) ((([] ++ (R++hi)).length:Nat):Int)=some ():=by unfold cT;rw [if_pos (by simp [r];omega)]
  have ht:(aN ([] ++ (R++hi))).take (((b++ [e,c]).length:Int).toNat - 0)=aN R:=by
   have hnn:((b++ [e,c]).length:Int).toNat - 0=R.length:=by rw [g,r];omega
   simp only [hnn,S8,aN,US];rw [List.take_append_of_le_length (by simp),Um (by simp)]
  simp only [Vr,S8] at W ht⊢;simp only [ak,↓reduceIte,Int.reduceBEq,Int.reduceEq,GD,c0,br,W,ht,h80]
 | succ j ih=>
  intro z R hi h F hj r t y A X hL K;obtain⟨d,x,rfl,v⟩:=m5 F;obtain⟨w,top,hw,I⟩:=m5 (l:=x::R) (n:=b.length+2) (by simp [r]);obtain⟨w1,f,rfl,hw1⟩:=m5 I;obtain⟨i,u2,rfl,k⟩:=m5 hw1;have J:Dg (i++ [u2] ++ [f] ++ [top]):=by rw [<-hw];exact Dg.append (a:= [x]) t.right y
  have dw:=J.left;have B:=J top (by simp);have du1:=J f (by simp);have P:=J u2 (by simp);have Z:=gU dw.left.left;have p:=kx dw.left.left;have E:d++ [x] ++ (R++hi)=d++ ((i++ [u2] ++ [f])++top::hi):=by have: [x] ++R=i++ [u2] ++ [f] ++ [top]:=hw;simp only [TN] at this⊢;rw [<-TN [x],this];simp
  have o:val (x::R)=val (i++ [u2] ++ [f])+4294967296 ^ (b++ [e,c]).length * top:=by rw [hw,il,g,I];simp [val]
  have O:val (i++ [u2] ++ [f])=val i+4294967296 ^ b.length * u2+4294967296 * (4294967296 ^ b.length * f):=by rw [TN,il,k];simp only [S7,S8,val];rw [TG,TW _ 4294967296];simp;omega
  have U:val (x::R)=val i+4294967296 ^ b.length * u2+4294967296 * (4294967296 ^ b.length * (top * 4294967296+f)):=by
   rw [o,O,g,show(4294967296:Int) ^ (b.length+2)=4294967296 ^ b.length * (4294967296 * 4294967296) from by rw [Wr];rfl];rw [TG (4294967296 ^ b.length) (top * 4294967296),TG 4294967296,<-Ub (4294967296 ^ b.length) top 4294967296];have:(4294967296:Int) ^ b.length * (4294967296 * 4294967296) * top=4294967296 * (4294967296 ^ b.length * top * 4294967296):=by rw [TA (4294967296 ^ b.length * top) 4294967296,<-Ub 4294967296 4294967296,TA (4294967296 ^ b.length),Ub]
   omega
  have dx:=t x (by simp);have hUx:val (x::R)=x+4294967296 * val R:=rfl;have hR0:=gU y;have S: 0<=val (x::R):=by omega
  have V:val (x::R) < val (b++ [e,c]) * 4294967296:=by omega
  generalize m:val (x::R) / val (b++ [e,c])=q at *
  have G: 0<=q:=by rw [<-m];exact Vk S (by omega)
  have hqB:q < 4294967296:=by rw [<-m];exact Int.ediv_lt_of_lt_mul u (by rw [TA];exact V)
  have hqV:q * val (b++ [e,c])<=val (x::R):=by rw [<-m];exact Int.ediv_mul_le _ (by omega)
  have hrep:List.replicate (j+1) (0:Int)++h=List.replicate d.length 0++0::h:=by rw [v,List.replicate_succ',TN];rfl
  have hg0:=NT Q U H ⟨Z,by rw [k] at p;exact p⟩ Y P.2 C.1 G hqV;have D: 0<=top * 4294967296+f:=by omega
  have hqt:q<=(top * 4294967296+f) / c:=by rw [Int.le_ediv_iff_mul_le (by omega)];exact hg0
  have hTle:(top * 4294967296+f) / c<=top * 4294967296+f:=Int.ediv_le_self _ D;have hrm0:=VJ (top * 4294967296+f) (show c≠0 by omega);have hrm1:=UZ (top * 4294967296+f) (show 0 < c by omega);have hdm:=Vf (top * 4294967296+f) c;have hn2: 2<=(b++ [e,c]).length:=by omega
  have e3:(aN (d++ ((i++ [u2] ++ [f])++top::hi)))[((d.length+ (b++ [e,c]).length - 2:Nat):Int).toNat]? =some [T.int .u32 u2]:=by have:=mA (d++i) u2 ([f] ++top::hi) (d.length+ (b++ [e,c]).length - 2) (by simp [k];try omega);simpa using this
  have e4:(aN (d++ ((i++ [u2] ++ [f])++top::hi)))[((d.length+ (b++ [e,c]).length - 1:Nat):Int).toNat]? =some [T.int .u32 f]:=by have:=mA (d++i++ [u2]) f (top::hi) (d.length+ (b++ [e,c]).length - 1) (by simp [k];try omega);simpa using this
  have e5:(aN (d++ ((i++ [u2] ++ [f])++top::hi)))[((d.length+ (b++ [e,c]).length:Nat):Int).toNat]? =some [T.int .u32 top]:=by have:=mA (d++i++ [u2] ++ [f]) top hi (d.length+ (b++ [e,c]).length) (by simp [k];try omega);simpa using this
  have N:((d++ ((i++ [u2] ++ [f])++top::hi)).length:Int)= ((d.length+b.length+3+hi.length:Nat):Int):=by simp [k];omega
  have M:=OP s d.length ev ec0 ec1 (b++ [e,c]) (d++ ((i++ [u2] ++ [f])++top::hi)) h (Dd s L (val (b++ [e,c])) N0 (b.length+2)) (by omega) (by omega) hn2 (by simp [k] <;> omega) e1 e2 e3 Q U H ⟨Z,by rw [k] at p;exact p⟩ ⟨Y,hv0'⟩ P C ⟨h1,dv1.2⟩ S V u m.symm
   (λq' a1 a2 a3 a4=>Ls s ev ec0 ec1 (b++ [e,c]) d hi hv (by omega) (by omega) (i++ [u2] ++ [f]) top dw (by rw [g];exact I) B u h _ q (by rw [<-m,o]) q' a1 a2 ⟨a3,a4⟩ G (λR' d1 d2 d3=>by
    have:=ih d R' (0::hi) (q::h) v (by omega) (by rw [d2,g]) t.left d1 (λa ha=>by
     rcases Tg.1 ha with rfl | ha
     .exact⟨G,hqB⟩
     .exact A a ha) (by rw [d3];exact UZ _ u) (by simp;omega) (by
     rw [<-o] at d3;have hdv:=Vf (val (x::R)) (val (b++ [e,c]));rw [m] at hdv;have key:val R'+val (b++ [e,c]) * val (q::h)=x+4294967296 * (val R+val (b++ [e,c]) * val h):=by rw [show val (q::h)=q+4294967296 * val h from rfl,d3,TG,TG 4294967296,TW _ 4294967296];omega
     rw [<-K,il d [x],v,key,show val [x]=x from by simp [val],VE,Ub,Int.add_assoc,<-TG])
    rw [<-v] at this;exact this))
   4294967296 ((top * 4294967296+f) / c) ((top * 4294967296+f) % c) (by omega) (by rw [TA];exact hdm) (by omega) hqt (by omega)
  have cj:((j+1:Nat):Int) - 1= (d.length:Int):=by omega
  have or1:=ux B du1;have x1:u64.wrap c=c:=bY (by omega);have x3:(top * 4294967296+f).tdiv c= (top * 4294967296+f) / c:=Vc D;have x4:(top * 4294967296+f).tmod c= (top * 4294967296+f) % c:=VL D;have x5:u64.wrap ((top * 4294967296+f) / c)= (top * 4294967296+f) / c:=bY (by omega);have x2:u64.wrap top=top:=bY (by omega);have nz:¬c=0:=by omega
  have w3:i64.wrap (((b++ [e,c]).length:Int) - 1)= (((b++ [e,c]).length - 1:Nat):Int):=by rw [b9 (by omega)];omega
  have w2':i64.wrap (((d.length+ (b++ [e,c]).length:Nat):Int) - 1)= ((d.length+ (b++ [e,c]).length - 1:Nat):Int):=by rw [b9 (by omega)];omega
  have b1: 0<=((d.length+ (b++ [e,c]).length:Nat):Int)/\((d.length+ (b++ [e,c]).length:Nat):Int) < ((d.length+b.length+3+hi.length:Nat):Int):=by omega
  have b2: 0<=((d.length+ (b++ [e,c]).length - 1:Nat):Int)/\((d.length+ (b++ [e,c]).length - 1:Nat):Int) < ((d.length+b.length+3+hi.length:Nat):Int):=by omega
  have b3: 0<=(((b++ [e,c]).length - 1:Nat):Int)/\(((b++ [e,c]).length - 1:Nat):Int) < ((b++ [e,c]).length:Int):=by omega
  rw [E,hrep,cj];refine M.step λR r=>an ?_;rw [E0];have c1:(d.length:Int)>=0:=by omega
  simp only [ak,↓reduceIte,Int.reduceBEq,Int.reduceEq,GD,c1,br,ad d.length (b++ [e,c]).length (by omega),N,b1,b2,b3,and_self,e5,e4,e1,w2',w3,x1,x2,or1,nz,x3,x4,x5];exact r
theorem Oa{s:Nat}{x y b J c:List Int}{e d:Int}(ev:Bool)(ld:Dr s x y b J c e d)(T:Dg x)(W:x.length<=400)(X:c.length+2<=x.length):
  ∃j:Nat,j+ (c.length+2)=x.length+1/\Wd.Good (Ds (val x) (val y) (x.length+1)) (vP s ev false false (c++ [e,d]) b (List.replicate j 0) ((j:Int) - 1)):=by
 have C:=lV s;have p:=kx T;obtain⟨j,O⟩:∃j:Nat,j+ (c.length+2)=x.length+1:=⟨x.length+1 - (c.length+2),by omega⟩;refine⟨j,O, ?_⟩;have m:=ld.lu;have i:b=b.take j++ (b.drop j++ []):=by simp
 have B:(b.drop j).length=c.length+2:=by simp [m];omega
 have g:(b.take j).length=j:=by simp [m];omega
 have N:=il (b.take j) (b.drop j);rw [WK,g] at N;have K:Dg (b.drop j):=λa o=>ld.dU a (UL o);have v:=ld.dU.take j;have f:=ld.SE;have n:val (b.drop j) < val (c++ [e,d]):=by
  rcases UG (val (b.drop j)) (val (c++ [e,d])) with h | h
  .exact h
  .exfalso;have h1:(4294967296:Int) ^ j * val (c++ [e,d])<=4294967296 ^ j * val (b.drop j):=Ti h (Uz (ja _));have Y:=gU v;have h3:val x * (2:Int) ^ s < 4294967296 ^ x.length * 2 ^ s:=Wh p C;have L:(4294967296:Int) ^ (c.length+1) * 2 ^ s<=val y * 2 ^ s:=TF ld.ge (by omega);have M:(4294967296:Int) ^ j * (4294967296 ^ (c.length+1) * 2 ^ s)<=4294967296 ^ j * val (c++ [e,d]):=by
    rw [f];exact Ti L (Uz (ja _))
   rw [<-Ub,<-Wr,show j+ (c.length+1)=x.length from by omega] at M;have:=ld.J7;omega
 have k:=SF s ld.hs ev false false c e d ld.dV (by omega) ld.h1 j (val b) j (b.take j) (b.drop j) [] [] g (by omega) B v K (by intro a o;cases o) n (by simp) (by simp only [val,VT,Vn];omega);rw [<-i,T7] at k;obtain⟨R,r1,w,Q,z,Z,u,rfl,q1,H,q3,q4,q5,t,U,V⟩:=k;have A: 0 < val y:=by have:=ja (c.length+1);have:=ld.ge;omega
 have I:val x * 2 ^ s=val Q * (val y * 2 ^ s)+u:=by rw [<-ld.J7,<-f];exact U.symm
 have l:u= (val x - val Q * val y) * 2 ^ s:=by rw [W2,Ub];omega
 have D:val Z=val x - val Q * val y:=by rw [V,l,Int.mul_ediv_cancel _ (by omega)]
 have E:val Z < val y:=by rw [f] at t;rw [l,<-D] at t;exact Xc t (by omega)
 have F:=gU H;have S:=Int.ediv_emod_unique A (a:=val x) (q:=val Q) (r:=val Z);obtain⟨P,G⟩:=S.2 ⟨by rw [TA];omega,F,E⟩;exact⟨_,r1,w,Q,z,Z,rfl,q1,H,P.symm,G.symm,by omega,by omega⟩
theorem Qv(a:Int)(j: 1<=a/\a < 4294967296):∃n:Nat,Or (.call 96) [AV.t (T.int .u32 a)] []=some [ti (n:Int)]/\n < 32/\a * 2 ^ n < 4294967296:=by
 obtain⟨m,f,g,b,k⟩:=IT a (by omega);have i:m≠0:=by intro h;subst h;rw [Wy] at b;omega
 have e:i64.wrap (32 - (m:Int))= ((32 - m:Nat):Int):=by rw [b9 (by omega)];omega
 refine⟨32 - m,an ?_,by omega, ?_⟩
 .rw [LG];simp only [ak,↓reduceIte,Int.reduceBEq,Int.reduceEq,GD,f,e]
 .have c:=uD (n:=m) g;have d:=lV (32 - m);rw [c,TA];exact Int.mul_lt_mul_of_pos_left b d
def Du(X Y:Int)(L:Nat)(R:List T):Prop:= ∃t a Q b Z,R= [t,T.ae 1 b (aN Z)]/\t.aP 1=some (a,aN Q)/\Dg Q/\Dg Z/\val Q=X / Y/\val Z=X % Y/\Q.length<=L/\Z.length<=L
theorem PY{X Y:Int}{L:Nat}{r:Option (List T)}(h:Wd.Good (Ds X Y L) r):Wd.Good (Du X Y L) r:=by obtain⟨R,i,a,Q,b,Z,rfl,h1,c,d,e,f,g⟩:=h;exact⟨_,i,_,a,Q,b,Z,rfl,rQ _ _ _,h1,c,d,e,f,g⟩
theorem IN(m v:Bool)(x y:List Int)(g:Dg x)(hy:Dg y)(K:Can x)(q:Can y)(D:y≠[])(U:x.length<=400)(hyl':y.length<=400):
  Wd.Good (Du (val x) (val y) (x.length+1)) (Or (.call 91) [lu m x,lu v y] []):=by
 have V:=Ak hy q D;have w:=qf m x (by omega);have k2:=qf v y (by omega);have tx:eO x=x:=by have:=pE (pf g) g (sC x) K (sD x);exact this
 have ty:eO y=y:=pE (pf hy) hy (sC y) q (sD y);rw [tx] at w;rw [ty] at k2;have z:=yM x y m v g hy K q (by omega) (by omega);have B:=gU g;by_cases p:val x < val y
 .have r:ei (val x) (val y) < 0:=by unfold ei;rw [if_pos p];omega
  refine⟨_,an ?_,T.aO true,true,[],m,x,rfl,cU _ _,(by intro a o;cases o),g, ?_, ?_,by simp,by omega⟩
  .rw [AF];simp only [ak,↓reduceIte,Int.reduceBEq,Int.reduceEq,GD,w,k2,z,r]
  .rw [Int.ediv_eq_zero_of_lt B p];rfl
  .rw [Int.emod_eq_of_lt B p]
 .have r:¬ei (val x) (val y) < 0:=by unfold ei;rw [if_neg p];split <;> omega
  have G:y.length<=x.length:=by
   rcases Wb x.length y.length with h | h
   .have:=x8 g hy q h;omega
   .exact h
  by_cases h1:(y.length:Int)=1
  .match y,h1 with
   | [b],_=>
    have hb:=hy b (by simp);have M: 0 < b:=by simpa [val] using V
    obtain⟨Q,R,q1,q2,q3,q4,q5,q6,q7⟩:=Qu m x b g (by omega) ⟨M,hb.2⟩;have A:val [b]=b:=by simp [val]
    refine⟨_,an ?_,_,false,Q,false,[R],rfl,rQ _ _ _,q3,(by intro a o;simp at o;subst o;omega),by rw [A];exact q6,by rw [A];simp [val];exact q7,by omega,by simp⟩;rw [AF];have L:(([b]:List Int).length:Int)=1:=by simp
    have N:(aN [b])[(0:Nat)]? =some [T.int .u32 b]:=rfl;have hr:(0:Int)<=0/\(0:Int) < 1:=by omega
    simp only [ak,↓reduceIte,Int.reduceBEq,Int.reduceEq,GD,w,k2,z,r,br,L,N,hr,and_self,q1];rfl
  .have h2: 2<=y.length:=by have:=Wu.2 D;omega
   obtain⟨Z,f,rfl,g1⟩:=m5 (l:=y) (n:=y.length - 1) (by omega);obtain⟨y',i,rfl,g2⟩:=m5 (l:=Z) (n:=Z.length - 1) (by simp at h2;omega);have S:y'++ [i] ++ [f]=y'++ [i,f]:=by simp
   have C: 1<=f:=by
    have:=q (y'.length+1) (by simp);rw [show be (y'++ [i] ++ [f]) (y'.length+1)=f from by
     have:=xe (y'++ [i]) f [] (y'.length+1) (by simp);simpa using this] at this
    have:=hy f (by simp);omega
   have J:=hy f (by simp);rw [S] at hy G h1 k2 z r⊢;have hly:(y'++ [i,f]).length=y'.length+2:=by simp
   have hyl2:y'.length+2<=x.length:=by omega
   obtain⟨s,c1,F,c3⟩:=Qv f ⟨C,J.2⟩;obtain⟨e,d,c,hV2,ld⟩:=N9 g hy C s F c3;obtain⟨j,hj,hg⟩:=Oa false ld g U (by omega);have u:=IQ s F v (y'++ [i,f]) hy (by omega);have H:=IQ s F m x g (by omega);rw [ld.vv] at u;have hUl:=ld.lu;generalize fM (2 ^ s) x 0=E at *
   have e1:(aN (y'++ [i,f]))[(((y'.length+1:Nat):Int)).toNat]? =some [T.int .u32 f]:=by have:=mA (y'++ [i]) f [] (y'.length+1) (by simp);simpa using this
   have w1:i64.wrap (((y'++ [i,f]).length:Int) - 1)= ((y'.length+1:Nat):Int):=by rw [b9 (by omega)];omega
   have b1: 0<=((y'.length+1:Nat):Int)/\((y'.length+1:Nat):Int) < ((y'++ [i,f]).length:Int):=by omega
   have hVl:(e++ [d,c]).length=e.length+2:=by simp
   have t:e++ [d] ++ [c] ++ [0]= (e++ [d,c])++ [0]:=by simp
   have X:Or (.call 90) [lu false (e++ [d] ++ [c] ++ [0])] []=some [T.ae 1 false (aN (e++ [d,c]))]:=by
    have:=qf false (e++ [d] ++ [c] ++ [0]) (by simp;omega);rw [this];have ht:eO (e++ [d] ++ [c] ++ [0])=e++ [d,c]:=by
     refine pE (pf (by rw [t];exact Dg.append ld.dV (by intro a o;simp at o;subst o;omega))) ld.dV (sC _) ?_ ?_
     .intro k hk;obtain rfl:k=e.length+1:=by omega
      have:=xe (e++ [d]) c [] (e.length+1) (by simp);rw [show e++ [d] ++ [c]=e++ [d,c] from by simp] at this;rw [this];have:=ld.h1;omega
     .rw [sD,t,il];simp [val]
    rw [ht]
   refine(PY hg).step λR hR=>an ?_;have P:cr (j:Int) (j:Int)=some ():=by unfold cr gf;rw [if_pos (by omega)]
   have wj:i64.wrap ((E.length:Int) - ((e++ [d,c]).length:Int))= (j:Int):=by rw [b9 (by omega)];omega
   have wk:i64.wrap ((j:Int) - 1)= (j:Int) - 1:=b9 (by omega);have W:List.replicate ((j:Int)).toNat [T.int u32 (0:Int)]=aN (List.replicate j 0):=by simp [aN]
   have wx:i64.wrap ((x.length:Int)+1)= ((x.length+1:Nat):Int):=nx _ (by omega);have O:¬(E.length:Int) < ((x.length+1:Nat):Int):=by omega
   have Y:Or vK [lu m x,I (s:Int),lu false (e++ [d,c]),o0] [aa.sl false 1 false (aN E)]=some R:=by refine an ?_;rw [Lz];simp only [ak,↓reduceIte,Int.reduceBEq,Int.reduceEq,GD,br,wx,O,wj,P,W,wk];exact hR
   rw [AF];simp only [ak,↓reduceIte,Int.reduceBEq,Int.reduceEq,GD,w,k2,z,r,br,h1,w1,b1,and_self,e1,c1,u,X,H];exact Y
theorem yL(x y:Int)(I:(dz x).length<=300)(hy:(dz y).length<=300)(d:y≠0)(A:y ∣ x):
  Or (.call 84) [LZ x,LZ y] []=some [tb (decide (x / y < 0)),T.str (bC (dz (x / y))),tb false,T.str (bC (dz 0)),ti 0]:=by
 have C:=o9 y;have k2:=kU x (by omega);have D:=kU y (by omega);obtain⟨R,E,t,w,Q,z,Z,rfl,G,u,v,g,i,J,K⟩:=IN false false (dz x) (dz y) (dE x) (dE y) (iz x) (iz y) (λh=>d (rv.1 h)) (by omega) (by omega);rw [dP,dP] at g i;obtain⟨c,rfl⟩:=A;have B:y * c / y=c:=Xq _ d;have H: 0 < y.natAbs:=by omega
 have j:((y * c).natAbs:Int) / (y.natAbs:Int)= (c.natAbs:Int):=by rw [T8,VZ,Xq _ (by omega)]
 have k:((y * c).natAbs:Int) % (y.natAbs:Int)=0:=by rw [T8,VZ,Int.mul_emod_right]
 rw [j] at g;rw [k] at i;have f:=nP (!decide (y * c < 0)==decide (y < 0)) w Q u (by omega);have e:=nP (decide (y * c < 0)) z Z v (by omega);have p:(if(!decide (y * c < 0)==decide (y < 0))=true then -val Q else val Q)=c:=by
  rw [g];rcases Vp c 0 with a | a | a
  .rcases UG y 0 with h | h
   .have:=Int.mul_pos_of_neg_of_neg h a;have b:¬y * c < 0:=by omega
    simp [h,b];omega
   .have:=Int.mul_neg_of_pos_of_neg (show 0 < y by omega) a;have b:¬y < 0:=by omega
    simp [this,b];omega
  .subst a;simp
  .rcases UG y 0 with h | h
   .have:=Int.mul_neg_of_neg_of_pos h a;simp [h,this];omega
   .have:=Int.mul_pos (show 0 < y by omega) a;have b:¬y < 0:=by omega
    have l:¬y * c < 0:=by omega
    simp [b,l];omega
 have q:(if decide (y * c < 0)=true then -val Z else val Z)=0:=by rw [i];simp
 rw [p] at f;rw [q] at e;have F:=o9 0;have o:y.sign≠0:=by intro h;exact d (Xh.1 h)
 unfold RZ at f e;have m:decide ((0:Int) < 0)=false:=rfl;rw [m] at e;have r:Or (.call 64) [LS false (dz 0)] []=some [ti 0]:=F;rw [B];refine an ?_;rw [Mi];have n:¬(0:Int) < 0:=by omega
 simp only [ak,↓reduceIte,Int.reduceBEq,Int.reduceEq,GD,C,o,k2,D,E,G,f,e,r,n]
theorem Gw(a b:Nat):Nat.gcd b (a % b)=Nat.gcd a b:=by rw [Nat.gcd_comm b,<-Nat.gcd_rec,Nat.gcd_comm]
theorem HG(d:Bool)(l:ByteArray):∀(m:Nat) (x y:Int) (b c:Bool),y.natAbs<=m->(dz x).length<=300->(dz y).length<=300->
  Or vY [r0,lu b (dz x),lu c (dz y)] [aa.box [B d,AV.t (T.str l)]]=some (RZ (Nat.gcd x.natAbs y.natAbs:Nat))
 | m,x,y,b,c,hm,z,hy=>by
  by_cases a:y=0
  .subst a;have k:=nP false b (dz x) (dE x) (by omega);simp only [Tv,↓reduceIte,dP] at k;unfold RZ at k;refine an ?_;rw [Fq];have o:¬((dz 0).length:Int) > 0:=by
    have:dz 0= []:=rfl;rw [this];simp
   have p:((Nat.gcd x.natAbs (0:Int).natAbs:Nat):Int)= (x.natAbs:Int):=by rw [Int.natAbs_zero,Nat.gcd_zero_right]
   rw [p];simp only [ak,↓reduceIte,Int.reduceBEq,Int.reduceEq,GD,br,o,k];rfl
  .have g:((dz y).length:Int) > 0:=by
    have:dz y≠[]:=λh=>a (rv.1 h);have:=Wu.2 this;omega
   obtain⟨R,q,t,w,Q,e,Z,rfl,r,v,n,D,j,A,C⟩:=IN b c (dz x) (dz y) (dE x) (dE y) (iz x) (iz y) (λh=>a (rv.1 h)) (by omega) (by omega);rw [dP,dP] at j;have i:=qf e Z (by omega);have u:x.natAbs % y.natAbs < y.natAbs:=WN _ (by omega);have hz:eO Z=dz ((x.natAbs % y.natAbs:Nat):Int):=JS n (by rw [j,TH];first | rfl | exact(Int.natCast_emod _ _).symm | simp);rw [hz] at i
   match m with
   | 0=>omega
   | m+1=>
    have f:(dz ((x.natAbs % y.natAbs:Nat):Int)).length<=300:=by have:=xu (x:=y) (y:=((x.natAbs % y.natAbs:Nat):Int)) (by rw [TH];omega);omega
    have:=HG d l m y ((x.natAbs % y.natAbs:Nat):Int) c e (by rw [TH];omega) hy f;rw [TH,Gw] at this;refine an ?_;rw [Fq];simp only [ak,↓reduceIte,Int.reduceBEq,Int.reduceEq,GD,br,g,q,r,i];exact this
theorem I0(x y:Int)(c:(dz x).length<=300)(hy:(dz y).length<=300):Or (.call 83) [LZ x,LZ y] []=some (RZ (Nat.gcd x.natAbs y.natAbs:Nat)):=by have k2:=kU x (by omega);have d:=kU y (by omega);have a:=qf false (dz x) (by omega);have b:=qf false (dz y) (by omega);have e:eO (dz x)=dz x:=pE (pf (dE x)) (dE x) (sC _) (iz x) (sD _);have ty:eO (dz y)=dz y:=pE (pf (dE y)) (dE y) (sC _) (iz y) (sD _);rw [e] at a;rw [ty] at b;have:=HG false ⟨#[]⟩ y.natAbs x y false false (Tl _) c hy;refine an ?_;rw [Mh];simp only [ak,↓reduceIte,Int.reduceBEq,Int.reduceEq,GD,k2,d,a,b];exact this
open Go Go.Aev Go.Aev.Gen Go.Aev.Wd
theorem nO(x y:Int)(a:(dz x).length<=300)(hy:(dz y).length<=300):Or (.call 61) [LZ x,LZ y] []=some (RZ (x * y)):=by have k:=QP x y a hy;refine an ?_;rw [L9];simp only [ak,↓reduceIte,Int.reduceBEq,Int.reduceEq,GD,k];rfl
theorem QF(x y:Int)(a:(dz x).length<=900)(hy:(dz y).length<=900)(hz:(dz (x+y)).length<=900):Or (.call 70) [LZ x,LZ y] []=some (RZ (x+y)):=by have k:=QO x y a hy hz;refine an ?_;rw [L7];simp only [ak,↓reduceIte,Int.reduceBEq,Int.reduceEq,GD,k];rfl
def NQ(q:Rat):List T:=RZ q.num++RZ (q.den:Int)
abbrev EQ(q:Rat):AV:=AV.agg [B (decide (q.num < 0)),AV.t (T.str (bC (dz q.num))),B (decide ((q.den:Int) < 0)),AV.t (T.str (bC (dz (q.den:Int))))]
theorem Lp(q:Rat):(q.den:Int).sign=1:=Us (by have:=q.den_pos;omega)
theorem QG(q:Rat):Or (.call 52) [EQ q] []=some (RZ (q.den:Int)):=by
 have k:=o9 (q.den:Int);rw [Lp] at k;refine an ?_;rw [Fj];have h1:¬(1:Int)=0:=by omega
 simp only [ak,↓reduceIte,Int.reduceBEq,Int.reduceEq,GD,k,h1];rfl
theorem yK(x y:Int)(h:(dz x).length<=300)(hy:(dz y).length<=300)(m:y≠0):Or (.call 62) [LZ x,LZ y] []=some (NQ (Rat.divInt x y)):=by
 obtain⟨o,p⟩:=EG (u:=x) m;have c:((Nat.gcd x.natAbs y.natAbs:Nat):Int)≠0:=by have: 0 < Nat.gcd x.natAbs y.natAbs:=Nat.gcd_pos_of_pos_right _ (by omega);omega
 have b:(dz ((Nat.gcd x.natAbs y.natAbs:Nat):Int)).length<=300:=by have h1:Nat.gcd x.natAbs y.natAbs<=y.natAbs:=Nat.gcd_le_right _ (by omega);have:=xu (x:=y) (y:=((Nat.gcd x.natAbs y.natAbs:Nat):Int)) (by rw [TH];exact h1);omega
 have e:((Nat.gcd x.natAbs y.natAbs:Nat):Int) ∣ x:=Int.ofNat_dvd_left.2 (Nat.gcd_dvd_left _ _);have f:((Nat.gcd x.natAbs y.natAbs:Nat):Int) ∣ y:=Int.ofNat_dvd_left.2 (Nat.gcd_dvd_right _ _);have a:((Int.gcd x y:Nat):Int)= ((Nat.gcd x.natAbs y.natAbs:Nat):Int):=rfl;have i:=o9 y;by_cases j:y < 0
 .obtain⟨q1,g⟩:=o j;rw [a,U5 e,<-Wv e] at q1;rw [a,U5 f,<-Wv f] at g;have k2:=CG x;have n:=CG y;have d:=I0 (-x) (-y) (by rw [tF];exact h) (by rw [tF];exact hy);rw [W0,W0] at d;have k:=yL (-x) _ (by rw [tF];exact h) b c ((Int.dvd_neg).2 e);have l:=yL (-y) _ (by rw [tF];exact hy) b c ((Int.dvd_neg).2 f);rw [Up j] at i;have h1:(-1:Int) < 0:=by omega
  unfold RZ at k2 n d;refine an ?_;rw [Fi];unfold NQ RZ;rw [q1,g];simp only [ak,↓reduceIte,Int.reduceBEq,Int.reduceEq,GD,i,h1,k2,n,d,k,l];rfl
 .obtain⟨q1,g⟩:=p j;rw [a,U5 e] at q1;rw [a,U5 f] at g;have d:=I0 x y h hy;have k:=yL x _ h b c e;have l:=yL y _ hy b c f;rw [Us (by omega)] at i;have h1:¬(1:Int) < 0:=by omega
  unfold RZ at d;refine an ?_;rw [Fi];unfold NQ RZ;rw [q1,g];simp only [ak,↓reduceIte,Int.reduceBEq,Int.reduceEq,GD,i,h1,d,k,l];rfl
theorem QD(x:Int)(h: -9223372036854775808<=x/\x < 9223372036854775808):Or (.call 29) [I x] []=some (NQ (x:Rat)):=by have a:=uM x h;have k2:=uM 1 (by omega);unfold RZ at a k2;refine an ?_;rw [LP];simp only [ak,↓reduceIte,Int.reduceBEq,Int.reduceEq,GD,a,k2];rfl
theorem GL{x:Int}(h: -9223372036854775808<=x/\x < 9223372036854775808):(dz x).length<=2:=by
 refine xv ?_;have:(4294967296:Int) ^ 2=18446744073709551616:=by decide
 rw [this];omega
theorem QM(x y:Int)(b: -9223372036854775808<=x/\x < 9223372036854775808)(hy: -9223372036854775808<=y/\y < 9223372036854775808)(c:y≠0):Or (.call 27) [AV.agg [I x,I y]] []=some (NQ (Rat.divInt x y)):=by have d:=uM x b;have k2:=uM y hy;have a:=yK x y (by have:=GL b;omega) (by have:=GL hy;omega) c;unfold NQ at a⊢;unfold RZ at d k2 a⊢;refine an ?_;rw [Md];simp only [S7,S8] at a⊢;simp only [ak,↓reduceIte,Int.reduceBEq,Int.reduceEq,GD,d,k2,a]
theorem QB.ln{m:Nat}{q:Rat}(h:QB m q)(hm:m<=6300):(dz q.num).length<=200/\(dz (q.den:Int)).length<=200:=⟨BC (h.lq hm).1,BC (h.lq hm).2⟩
theorem mI{m:Nat}{z:Int}(hm:m<=6300)(h:z.natAbs<=2 ^ m):(dz z).length<=200:=BC (BD hm h)
theorem Pk{q:Rat}(h:q≠0):q.num≠0:=λa=>h (Xt.1 a)
theorem Lt(p:Rat){q:Rat}(a:q≠0):Rat.divInt (p.num * (q.den:Int)) ((p.den:Int) * q.num)=p / q:=by
 conv=>rhs;rw [<-U0 p,<-U0 q]
 rw [TR,Rat.inv_divInt,Rat.divInt_mul_divInt]
theorem K6(p q:Rat):ei (p.num * (q.den:Int)) (q.num * (p.den:Int))=if p < q then -1 else if p=q then 0 else 1:=by
 unfold ei;have h1:(p.num * (q.den:Int) < q.num * (p.den:Int))↔p < q:=(Rat.lt_iff p q).symm;have d:(q.num * (p.den:Int) < p.num * (q.den:Int))↔q < p:=(Rat.lt_iff q p).symm;have e:(p.num * (q.den:Int)=q.num * (p.den:Int))↔p=q:=by
  constructor
  .intro h;have a:¬p < q:=λc=>by have:=h1.2 c;omega
   have b:¬q < p:=λc=>by have:=d.2 c;omega
   exact Rat.le_antisymm (Wk.1 b) (Wk.1 a)
  .rintro rfl;rfl
 simp only [h1,e]
theorem IX(x:Int)(h: -9223372036854775808 < x/\x < 9223372036854775808):Or (.call 74) [I x] []=some [T.int .u64 (x.natAbs:Int)]:=by
 refine an ?_;rw [L4];by_cases b:x < 0
 .have a:u64.wrap (0 - u64.wrap x)= (x.natAbs:Int):=by simp only [qB];omega
  simp only [ak,↓reduceIte,Int.reduceBEq,Int.reduceEq,GD,b,a]
 .have a:u64.wrap x= (x.natAbs:Int):=by rw [qB];omega
  simp only [ak,↓reduceIte,Int.reduceBEq,Int.reduceEq,GD,b,a]
theorem HF:∀(m:Nat) (a b:Nat),b<=m->a < 9223372036854775808->b < 9223372036854775808->Or vV [u6 (a:Int),u6 (b:Int)] []=some [T.int .u64 (Nat.gcd a b:Nat)]
 | m,a,b,hm,g,hb=>by
  refine an ?_;rw [L3];by_cases c:b=0
  .subst c;have c:((0:Nat):Int)=0:=rfl;simp only [ak,↓reduceIte,Int.reduceBEq,Int.reduceEq,GD,c,Nat.gcd_zero_right]
  .have d:¬(b:Int)=0:=by omega
   have f:a % b < b:=WN _ (by omega);have e:(a:Int).tmod (b:Int)= ((a % b:Nat):Int):=rfl
   match m with
   | 0=>omega
   | m+1=>have:=HF m b (a % b) (by omega) hb (by omega);rw [Gw] at this;simp only [ak,↓reduceIte,Int.reduceBEq,Int.reduceEq,GD,d,e];exact this
theorem CF(x:Fr):Or (.call 53) [AV.agg [I x.1,I x.2]] []=some [ti (if bH x then 0 else 3),ti 0]:=by
 refine an ?_;rw [LO];by_cases hb:((x.2 < 1\/x.2 > 1073741824)\/x.1 < -1073741824)\/x.1 > 1073741824
 .have f:¬bH x:=by unfold bH;omega
  rw [if_neg f];simp only [gX,<-Ug];simp only [ak,↓reduceIte,Int.reduceBEq,Int.reduceEq,GD,bD,hb,decide_true];rfl
 .have d:=IX x.1 (by omega);have k2:=IX x.2 (by omega);have e:Or (.call 73) [u6 (x.1.natAbs:Int),u6 (x.2.natAbs:Int)] []=some [T.int .u64 (Nat.gcd x.1.natAbs x.2.natAbs:Nat)]:=by
   refine an ?_;rw [AI];exact HF _ _ _ (Tl _) (by omega) (by omega)
  have c:(((Nat.gcd x.1.natAbs x.2.natAbs:Nat):Int)=1)↔Int.gcd x.1 x.2=1:=by show _↔Nat.gcd _ _=1;omega
  simp only [gX,<-Ug];by_cases h1:Int.gcd x.1 x.2=1
  .have hr:bH x:=by unfold bH;exact⟨by omega,by omega,by omega,by omega,h1⟩
   have a:=c.2 h1;rw [if_pos hr];simp only [ak,↓reduceIte,Int.reduceBEq,Int.reduceEq,GD,hb,decide_false,d,k2,e,a]
   try rfl
  .have hr:¬bH x:=λh=>h1 h.2.2.2.2;have a:¬((Nat.gcd x.1.natAbs x.2.natAbs:Nat):Int)=1:=λh=>h1 (c.1 h);have b:(((Nat.gcd x.1.natAbs x.2.natAbs:Nat):Int)==1)=false:=by simpa using a
   rw [if_neg hr];simp only [ak,↓reduceIte,Int.reduceBEq,Int.reduceEq,GD,hb,decide_false,d,k2,e,a,b]
   try rfl
open Go Go.Aev Go.Aev.Gen Go.Aev.Wd
abbrev Nm:=Option Rat
def nv:Nm->Rat
 | none=>0
 | some q=>q
def nc:Nm->Bool
 | none=>false
 | some q=>decide ((q.den:Int) < 0)
def nd:Nm->ByteArray
 | none=>ByteArray.mk #[]
 | some q=>bC (dz (q.den:Int))
abbrev EN(x:Nm):AV:=AV.agg [B (decide ((nv x).num < 0)),AV.t (T.str (bC (dz (nv x).num))),B (nc x),AV.t (T.str (nd x))]
def NC(x:Nm):List T:= [tb (decide ((nv x).num < 0)),T.str (bC (dz (nv x).num)),tb (nc x),T.str (nd x)]
theorem rV(x:Nm):NC x= [tb (decide ((nv x).num < 0)),T.str (bC (dz (nv x).num)),tb (nc x),T.str (nd x)]:=rfl
theorem yk(q:Rat):NC (some q)=NQ q:=rfl
theorem Po(q:Rat):nv (some q)=q:=rfl
theorem rY:nv none=0:=rfl
theorem mu(x:Nm):Or (.call 52) [EN x] []=some (RZ ((nv x).den:Int)):=by
 cases x with
 | some q=>exact QG q
 | none=>have k:=o9 0;have a:=uM 1 (by omega);have hz:LZ 0=AV.agg [B false,AV.t (T.str (ByteArray.mk #[]))]:=rfl;have c:EN none=AV.agg [B false,AV.t (T.str (ByteArray.mk #[])),B false,AV.t (T.str (ByteArray.mk #[]))]:=rfl;have h1:((nv none).den:Int)=1:=rfl;have b:Int.sign 0=0:=rfl;rw [hz,b] at k;rw [c,h1];unfold RZ at a⊢;refine an ?_;rw [Fj];simp only [ak,↓reduceIte,Int.reduceBEq,Int.reduceEq,GD,k,a]
theorem yU(x:Int)(h: -9223372036854775808<=x/\x < 9223372036854775808):Or (.call 29) [I x] []=some (NC (some (x:Rat))):=QD x h
theorem Rz(x y:Int)(b: -9223372036854775808<=x/\x < 9223372036854775808)(hy: -9223372036854775808<=y/\y < 9223372036854775808)(a:y≠0):
  Or (.call 27) [AV.agg [I x,I y]] []=some (NC (some (Rat.divInt x y))):=QM x y b hy a
theorem yV{m k:Nat}{x y:Nm}(a:QB m (nv x))(b:QB k (nv y))(h:m+k+1<=6300):Or (.call 46) [EN x,EN y] []=some (NC (some (nv x+nv y))):=by obtain⟨j,l⟩:=QB.ln a (by omega);obtain⟨n,o⟩:=QB.ln b (by omega);have p:(dz ((nv x).num * ((nv y).den:Int))).length<=200:=mI (m:=m+k) (by omega) (by rw [T8,TH];exact jB a.1 b.2);have q:(dz ((nv y).num * ((nv x).den:Int))).length<=200:=mI (m:=k+m) (by omega) (by rw [T8,TH];exact jB b.1 a.2);have r:(dz ((nv x).num * ((nv y).den:Int)+ (nv y).num * ((nv x).den:Int))).length<=200:=mI h (zS a b);have t:(dz (((nv x).den:Int) * ((nv y).den:Int))).length<=200:=mI (m:=m+k) (by omega) (by rw [T8,TH,TH];exact jB a.2 b.2);have d:=mu x;have k2:=mu y;have e:=nO (nv x).num ((nv y).den:Int) (by omega) (by omega);have f:=nO (nv y).num ((nv x).den:Int) (by omega) (by omega);have g:=QF ((nv x).num * ((nv y).den:Int)) ((nv y).num * ((nv x).den:Int)) (by omega) (by omega) (by omega);have i:=nO ((nv x).den:Int) ((nv y).den:Int) (by omega) (by omega);have c:=yK ((nv x).num * ((nv y).den:Int)+ (nv y).num * ((nv x).den:Int)) (((nv x).den:Int) * ((nv y).den:Int)) (by omega) (by omega) (xm _ _);rw [DA] at c;rw [yk];unfold NQ at c⊢;unfold RZ at d k2 e f g i c⊢;refine an ?_;rw [LU];simp only [S7,S8] at c⊢;simp only [ak,↓reduceIte,Int.reduceBEq,Int.reduceEq,GD,d,k2,e,f,g,i,c]
theorem JF(x:Nm):Or (.call 66) [EN x] []=some (NC (some (-(nv x)))):=by have a:=CG (nv x).num;have k2:=mu x;rw [yk];unfold NQ;rw [yF,Ix];unfold RZ at a k2⊢;refine an ?_;rw [L5];simp only [ak,↓reduceIte,Int.reduceBEq,Int.reduceEq,GD,a,k2];rfl
theorem CU{m k:Nat}{x y:Nm}(b:QB m (nv x))(c:QB k (nv y))(h:m+k+1<=6300):Or (.call 67) [EN x,EN y] []=some (NC (some (nv x - nv y))):=by
 have a:=JF y;have k2:=yV (x:=x) (y:=some (-(nv y))) b c.neg h;have e:nv x+nv (some (-(nv y)))=nv x - nv y:=by rw [Po,Rat.sub_eq_add_neg]
 rw [e] at k2;rw [rV] at a k2⊢;refine an ?_;rw [AH];simp only [ak,↓reduceIte,Int.reduceBEq,Int.reduceEq,GD,a,k2]
theorem CV{m k:Nat}{x y:Nm}(b:QB m (nv x))(c:QB k (nv y))(h:m+k<=6300):Or (.call 47) [EN x,EN y] []=some (NC (some (nv x * nv y))):=by obtain⟨g,i⟩:=QB.ln b (by omega);obtain⟨j,l⟩:=QB.ln c (by omega);have n:(dz ((nv x).num * (nv y).num)).length<=200:=mI (m:=m+k) (by omega) (by rw [T8];exact jB b.1 c.1);have o:(dz (((nv x).den:Int) * ((nv y).den:Int))).length<=200:=mI (m:=m+k) (by omega) (by rw [T8,TH,TH];exact jB b.2 c.2);have d:=mu x;have k2:=mu y;have e:=nO (nv x).num (nv y).num (by omega) (by omega);have f:=nO ((nv x).den:Int) ((nv y).den:Int) (by omega) (by omega);have a:=yK ((nv x).num * (nv y).num) (((nv x).den:Int) * ((nv y).den:Int)) (by omega) (by omega) (xm _ _);rw [Hx] at a;rw [yk];unfold NQ at a⊢;unfold RZ at d k2 e f a⊢;refine an ?_;rw [Mc];simp only [S7,S8] at a⊢;simp only [ak,↓reduceIte,Int.reduceBEq,Int.reduceEq,GD,d,k2,e,f,a]
theorem RA{m k:Nat}{x y:Nm}(d:QB m (nv x))(e:QB k (nv y))(h:m+k<=6300)(c:nv y≠0):Or (.call 43) [EN x,EN y] []=some (NC (some (nv x / nv y)))/\QB (m+k) (nv x / nv y):=by
 obtain⟨o,p⟩:=QB.ln d (by omega);obtain⟨q,r⟩:=QB.ln e (by omega);have l:((nv x).num * ((nv y).den:Int)).natAbs<=2 ^ (m+k):=by rw [T8,TH];exact jB d.1 e.2
 have n:(((nv x).den:Int) * (nv y).num).natAbs<=2 ^ (m+k):=by rw [T8,TH];exact jB d.2 e.1
 have b:((nv x).den:Int) * (nv y).num≠0:=Int.mul_ne_zero (by have:=(nv x).den_pos;omega) (Pk c);have t:=mI h l;have u:=mI h n;have f:=mu x;have k2:=mu y;have g:=nO (nv x).num ((nv y).den:Int) (by omega) (by omega);have i:=nO ((nv x).den:Int) (nv y).num (by omega) (by omega);have a:=yK ((nv x).num * ((nv y).den:Int)) (((nv x).den:Int) * (nv y).num) (by omega) (by omega) b;have j:=QB.divInt b l n;rw [Lt _ c] at a j;refine⟨?_,j⟩;rw [yk];unfold NQ at a⊢;unfold RZ at f k2 g i a⊢;refine an ?_;rw [LW];simp only [S7,S8] at a⊢;simp only [ak,↓reduceIte,Int.reduceBEq,Int.reduceEq,GD,f,k2,g,i,a]
def cq(p q:Rat):Int:=if p < q then -1 else if p=q then 0 else 1
theorem nU{m k:Nat}{x y:Nm}(a:QB m (nv x))(b:QB k (nv y))(h:m+k<=6300):Or (.call 26) [EN x,EN y] []=some [ti (cq (nv x) (nv y))]:=by obtain⟨g,i⟩:=QB.ln a (by omega);obtain⟨j,l⟩:=QB.ln b (by omega);have n:=mI (z:=(nv x).num * ((nv y).den:Int)) h (by rw [T8,TH];exact jB a.1 b.2);have o:=mI (m:=k+m) (z:=(nv y).num * ((nv x).den:Int)) (by omega) (by rw [T8,TH];exact jB b.1 a.2);have c:=mu x;have k2:=mu y;have d:=nO (nv x).num ((nv y).den:Int) (by omega) (by omega);have e:=nO (nv y).num ((nv x).den:Int) (by omega) (by omega);have f:=QH ((nv x).num * ((nv y).den:Int)) ((nv y).num * ((nv x).den:Int)) (by omega) (by omega);rw [K6] at f;unfold cq;unfold RZ at c k2 d e;refine an ?_;rw [LV];simp only [ak,↓reduceIte,Int.reduceBEq,Int.reduceEq,GD,c,k2,d,e,f]
theorem lf(x:Nm):Or (.call 30) [EN x] []=some [ti (nv x).num.sign]:=by have k:=o9 (nv x).num;refine an ?_;rw [LM];simp only [ak,↓reduceIte,Int.reduceBEq,Int.reduceEq,GD,k]
def cw(q:Rat):Bool:=decide (-1073741824<=q.num/\q.num<=1073741824/\(q.den:Int)<=1073741824)
theorem PX(q:Rat):Int.gcd q.num (q.den:Int)=1:=q.reduced
theorem xK(q:Rat):bH (q.num,(q.den:Int))↔cw q=true:=by
 have h1:=q.den_pos;have e:=PX q;unfold bH cw;rw [decide_eq_true_iff];constructor
 .rintro⟨a,b,c,d,_⟩;exact⟨c,d,b⟩
 .rintro⟨a,b,c⟩;exact⟨by dsimp only;omega,c,a,b,e⟩
theorem JH{m:Nat}{x:Nm}(g:QB m (nv x))(h:m<=6300):Or (.call 21) [EN x] []=some (if cw (nv x)=true then [ti (nv x).num,ti ((nv x).den:Int),tb true] else [ti 0,ti 0,tb false]):=by
 obtain⟨j,k⟩:=QB.ln g h;have b:=IY (nv x).num (by omega);have k2:=mu x;have a:=IY ((nv x).den:Int) (by omega);have e:=CF ((nv x).num,((nv x).den:Int));have l:=(nv x).den_pos;unfold RZ at k2;refine an ?_;rw [LX];by_cases c:cw (nv x)=true
 .have hr:=(xK _).2 c;rw [if_pos hr] at e;rw [if_pos c];unfold cw at c;have i:=of_decide_eq_true c;rw [if_pos (by omega)] at b a;simp only [ak,↓reduceIte,Int.reduceBEq,Int.reduceEq,GD,b,k2,a,e]
 .have hr:¬bH ((nv x).num,((nv x).den:Int)):=λh=>c ((xK _).1 h);rw [if_neg hr] at e;rw [if_neg c];by_cases h1: -9223372036854775808<=(nv x).num/\(nv x).num < 9223372036854775808
  .by_cases d: -9223372036854775808<=((nv x).den:Int)/\((nv x).den:Int) < 9223372036854775808
   .rw [if_pos h1] at b;rw [if_pos d] at a;have f:((3:Int)==0)=false:=rfl;simp only [ak,↓reduceIte,Int.reduceBEq,Int.reduceEq,GD,b,k2,a,e,f]
    try rfl
   .rw [if_pos h1] at b;rw [if_neg d] at a;simp only [ak,↓reduceIte,Int.reduceBEq,Int.reduceEq,GD,bD,b,k2,a]
    try rfl
  .rw [if_neg h1] at b;by_cases d: -9223372036854775808<=((nv x).den:Int)/\((nv x).den:Int) < 9223372036854775808
   .rw [if_pos d] at a;simp only [ak,↓reduceIte,Int.reduceBEq,Int.reduceEq,GD,bD,b,k2,a]
    try rfl
   .rw [if_neg d] at a;simp only [ak,↓reduceIte,Int.reduceBEq,Int.reduceEq,GD,bD,b,k2,a]
    try rfl
def aQ(l:List Nm):List (List T):=l.map NC
theorem bA(l:List Nm):(aQ l).length=l.length:=by simp [aQ]
theorem cg{l:List Nm}{i:Nat}{x:Nm}(h:l[i]? =some x):(aQ l)[((i:Nat):Int).toNat]? =some [tb (decide ((nv x).num < 0)),T.str (bC (dz (nv x).num)),tb (nc x),T.str (nd x)]:=by simp [aQ,h,NC]
theorem jQ{l:List Nm}{i:Nat}(hi:i < l.length)(x:Nm):bT ((i:Nat):Int).toNat 0 [tb (decide ((nv x).num < 0)),T.str (bC (dz (nv x).num)),tb (nc x),T.str (nd x)] (aQ l)=some (aQ (l.set i x)):=by
 have h1:(aQ l)[((i:Nat):Int).toNat]? =some (NC l[i]):=by simp [aQ,hi]
 simp only [bT,h1];simp [bS,aQ,NC,VS]
theorem AL(a b:List Nm):aQ a++aQ b=aQ (a++b):=by simp [aQ]
theorem Mq(x:Nm): [[tb (decide ((nv x).num < 0)),T.str (bC (dz (nv x).num)),tb (nc x),T.str (nd x)]]=aQ [x]:=rfl
theorem rz(n:Nat):List.replicate n [tb false,T.str (ByteArray.mk #[]),tb false,T.str (ByteArray.mk #[])]=aQ (List.replicate n none):=by unfold aQ;rw [List.map_replicate];rfl
end Go.Aev.Wd.Lg
