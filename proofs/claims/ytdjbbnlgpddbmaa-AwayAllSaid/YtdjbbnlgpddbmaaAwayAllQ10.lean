import Derived.Test.YtdjbbnlgpddbmaaAwayAllQ9
set_option linter.all false
namespace Go.Aev.Wd.Lg
open Go Go.Aev Go.Aev.Gen Go.Aev.Wd Go.IntKind
theorem GF(i:Bool)(x:List Int)(b:Int)(w:Dg x)(hl:x.length<=900)(hb: 0 < b/\b < 4294967296):∀(k:Nat) (r:Int) (c:List Int),k<=x.length->0<=r/\r < b->
  ∃Q R,Or tZ [lu i x,AV.t (T.int .u32 b),o0,u6 r,I ((k:Int) - 1)] [ab.sl false 1 false (aK (List.replicate k 0++c))]=some [T.ae 1 false (aK (Q++c)),T.int .u32 R]/\Q.length=k/\Dg Q/\0<=R/\R < b/\val Q * b+R=val (x.take k)+4294967296 ^ k * r
 | 0,r,c,hk,hr=>by
  refine⟨[],r,an ?_,rfl,(by intro a e;cases e),hr.1,hr.2,by simp [val]⟩;rw [Eh];have g:¬(((0:Nat):Int) - 1)>=0:=by omega
  have y:u32.wrap r=r:=by rw [eC];omega
  simp only [aj,↓reduceIte,Int.reduceBEq,Int.reduceEq,GD,g,y];rfl
 | k+1,r,c,hk,hr=>by
  have d:k < x.length:=by omega
  have e: 0<=aV x k/\aV x k < 4294967296:=by
   have:aV x k∈x:=by simp only [aV,RO,RR d,SJ];exact Uf d
   exact w _ this
  have f: 0<=r * 4294967296+aV x k:=by omega
  have o: 0<=(r * 4294967296+aV x k) / b:=T3 f (by omega);have p:(r * 4294967296+aV x k) / b < 4294967296:=by rw [TQ hb.1];have:(r+1) * 4294967296<=b * 4294967296:=Sg (by omega) (by decide);rw [Sd 4294967296 b];omega
  have q:=Ut (r * 4294967296+aV x k) (show b≠0 by omega);have u:=TB (r * 4294967296+aV x k) hb.1;have l:=TT (r * 4294967296+aV x k) b;obtain⟨Q,R,h1,j,D,E,F,O⟩:=GF i x b w hl hb k ((r * 4294967296+aV x k) % b) ((r * 4294967296+aV x k) / b::c) (by omega) ⟨q,u⟩;refine⟨Q++ [(r * 4294967296+aV x k) / b],R,an ?_,by simp [j],Dg.append D (by intro a e;simp at e;subst e;exact⟨o,p⟩),E,F, ?_⟩
  .rw [Eh];have g:((k+1:Nat):Int) - 1= (k:Int):=by omega
   have z:(k:Int)>=0:=by omega
   have A: 0<=(k:Int)/\(k:Int) < (x.length:Int):=by omega
   have h:List.replicate (k+1) (0:Int)++c=List.replicate k 0++0::c:=by rw [U6,Sj];rfl
   have B: 0<=(k:Int)/\(k:Int) < ((List.replicate k (0:Int)++0::c).length:Int):=by simp;omega
   have m:=sQ (v:=r) (n:=aV x k) (by omega) e;have J:u64.wrap b=b:=bN (by omega);have K:(r * 4294967296+aV x k).tdiv b= (r * 4294967296+aV x k) / b:=TR f;have L:(r * 4294967296+aV x k).tmod b= (r * 4294967296+aV x k) % b:=Uw f;have M:u32.wrap (u64.wrap ((r * 4294967296+aV x k) / b))= (r * 4294967296+aV x k) / b:=by rw [bN (by omega),eC];omega
   have G:¬b=0:=by omega
   have H:i64.wrap ((k:Int) - 1)= (k:Int) - 1:=bP (by omega);rw [g,h];simp only [aj,↓reduceIte,Int.reduceBEq,Int.reduceEq,GD,z,A,bc,cJ d,m,J,K,L,M,G,B,and_self,l0 (List.replicate k 0) 0 _ c k (by simp),H];rw [show Q++ [(r * 4294967296+aV x k) / b] ++c=Q++ (r * 4294967296+aV x k) / b::c from by simp];exact h1
  .rw [gL,j,ru d,Um,UT];simp only [val,T5,T4];have C: 4294967296 ^ k * ((r * 4294967296+aV x k) / b) * b=4294967296 ^ k * (b * ((r * 4294967296+aV x k) / b)):=by
    rw [SQ,Sd _ b]
   have N:(4294967296:Int) ^ k * (r * 4294967296+aV x k)=4294967296 ^ k * (b * ((r * 4294967296+aV x k) / b))+4294967296 ^ k * ((r * 4294967296+aV x k) % b):=by rw [<-Sk,l]
   have e3:(4294967296:Int) ^ k * (r * 4294967296+aV x k)=4294967296 ^ k * 4294967296 * r+4294967296 ^ k * aV x k:=by rw [Sk,SQ,Sd r]
   rw [C];omega
theorem Pz(c:Bool)(x:List Int)(b:Int)(i:Dg x)(hl:x.length<=900)(hb: 0 < b/\b < 4294967296):
  ∃Q R,Or (.call 93) [lu c x,AV.t (T.int .u32 b)] []=some [T.ae 1 false (aK Q),T.int .u32 R]/\Q.length=x.length/\Dg Q/\0<=R/\R < 4294967296/\val Q=val x / b/\R=val x % b:=by
 obtain⟨Q,R,f,k2,j,g,k,l⟩:=GF c x b i hl hb x.length 0 [] (R3 _) ⟨by omega,hb.1⟩;rw [Ti,T5,T4] at l;rw [SN,SN] at f;have h:=Int.ediv_emod_unique hb.1 (a:=val x) (q:=val Q) (r:=R);obtain⟨q1,m⟩:=h.2 ⟨by rw [Sd];omega,g,k⟩;refine⟨Q,R,an ?_,k2,j,g,by omega,q1.symm,m.symm⟩;have d:bJ (x.length:Int) (x.length:Int)=some ():=by unfold bJ eH;rw [if_pos (by omega)]
 have n:i64.wrap ((x.length:Int) - 1)= (x.length:Int) - 1:=bP (by omega);have e:List.replicate ((x.length:Int)).toNat [T.int u32 (0:Int)]=aK (List.replicate x.length 0):=by simp [aK]
 rw [K5];simp only [aj,↓reduceIte,Int.reduceBEq,Int.reduceEq,GD,bc,d,n,e];exact f
theorem OA{y z:Int}{n t:Nat}(hn:n<=32)(hy: 0<=y/\y < (2:Int) ^ n)(hz:z= ((2 ^ n * t:Nat):Int))(hb:z < 4294967296)(a:z+y < 4294967296):
  u32.wrap (((BitVec.ofInt 32 z ||| BitVec.ofInt 32 y).toNat:Nat):Int)=z+y:=by
 rw [BitVec.or_comm];exact sP hn hy hz hb a
theorem NS(n:Nat)(hn:n < 32)(e:Bool)(x:List Int)(G:Dg x)(hl:x.length<=900):∀(b:List Int) (i:Nat) (c:Int) (done:List Int),x.drop i=b->done.length=i->i<=x.length->0<=c/\c < (2:Int) ^ n->
  Or uc [I (n:Int),o0,AV.t (T.int .u32 c),lu e x,I (x.length:Int),I (i:Int)] [ab.sl false 1 false (aK done)]=some [T.ae 1 false (aK (done++fc (2 ^ n) b c))]:=by
 have d:=kW n;have hk:=sX (n:=n) (by omega);have S:=kW (32 - n);have J:(n:Int).tmod 32= (n:Int):=by rw [Uw (by omega)];omega
 have K:min ((n:Int)).toNat 32=n:=by rw [Sr];omega
 have L:¬(n:Int) < 0:=by omega
 have M:i64.wrap (32 - (n:Int))= ((32 - n:Nat):Int):=by rw [bP (by omega)];omega
 have N:min (((32 - n:Nat):Int)).toNat 64=32 - n:=by rw [Sr];omega
 have O:¬((32 - n:Nat):Int) < 0:=by omega
 intro b;induction b with
 | nil=>
  intro i c done h j hi g;have h1:¬(i:Int) < (x.length:Int):=by have:=bU h;omega
  refine an ?_;rw [Ei];simp only [aj,↓reduceIte,Int.reduceBEq,Int.reduceEq,GD,h1,bc,mh,mj,m6 (done.length+1) (by omega),fc]
 | cons a b H=>
  intro i c done h j hi g;obtain⟨A,B,C⟩:=bR h;have f:=G a (RN A);have m:=kL h;have h1:(i:Int) < (x.length:Int):=by omega
  have D: 0<=(i:Int):=by omega
  have q: 0<=a * (2:Int) ^ n:=S3 f.1 (by omega);have r:a * (2:Int) ^ n < 4294967296 * (2:Int) ^ n:=U1 f.2 d;have l: 0<=a * (2:Int) ^ n / 4294967296:=T3 q (by decide);have k:a * (2:Int) ^ n / 4294967296 < (2:Int) ^ n:=by rw [TQ (by decide),Sd (2 ^ n)];exact r
  have o:a.fdiv ((2:Int) ^ (32 - n))=a * (2:Int) ^ n / 4294967296:=by
   rw [SY _ (by omega)]
   conv=>rhs;rw [hk]
   rw [Int.mul_ediv_mul_of_pos_left _ _ d]
  have y:=xw d hk (x:= [a]) (c:=c) (by intro u z;simp at z;subst z;exact f) g;have R:=y.2.2 (a * 2 ^ n % 4294967296+c) (by simp [fc]);have v:=Gk (a:=a) d hk;have w:u32.wrap (((BitVec.ofInt 32 (a * (2:Int) ^ n % 4294967296) ||| BitVec.ofInt 32 c).toNat:Nat):Int)=a * (2:Int) ^ n % 4294967296+c:=by have p:=Ut a (show(2:Int) ^ (32 - n)≠0 by omega);obtain⟨t,F⟩:=TG p;exact OA (n:=n) (t:=t) (by omega) g (by rw [v,F,qP,Sd,<-UO]) (by omega) (by omega)
  have P:u64.wrap a=a:=bN (by omega);have E:(2:Int) ^ n<=2147483648:=by have:(2:Nat) ^ n<=2 ^ 31:=UD (by decide) (by omega);rw [qP];omega
  have Q:u32.wrap (a * (2:Int) ^ n / 4294967296)=a * (2:Int) ^ n / 4294967296:=by rw [eC];omega
  have:=H (i+1) (a * (2:Int) ^ n / 4294967296) (done++ [a * (2:Int) ^ n % 4294967296+c]) C (by simp [j]) (by omega) ⟨l,k⟩;refine an ?_;rw [Ei];simp only [J,K,M,N];simp only [aj,↓reduceIte,Int.reduceBEq,Int.reduceEq,GD,h1,D,and_self,bc,cJ B,m,L,O,P,eC (a * (2:Int) ^ n),w,o,Q,mh,mj,m6 (done.length+1) (by omega),nx i (by omega)];rw [fc,show done++ (a * 2 ^ n % 4294967296+c)::fc (2 ^ n) b (a * 2 ^ n / 4294967296)= (done++ [a * 2 ^ n % 4294967296+c])++fc (2 ^ n) b (a * 2 ^ n / 4294967296) from by simp];exact this
theorem Ia(n:Nat)(hn:n < 32)(e:Bool)(x:List Int)(b:Dg x)(hl:x.length<=900):Or (.call 95) [lu e x,I (n:Int)] []=some [T.ae 1 false (aK (fc (2 ^ n) x 0))]:=by
 have h1:=NS n hn e x b hl x 0 0 [] rfl rfl (by omega) ⟨US _,kW n⟩;have c:(n:Int).tdiv 32=0:=by rw [TR (by omega)];omega
 have d:i64.wrap 0=0:=bP (by omega);have f:i64.wrap ((x.length:Int)+0)= (x.length:Int):=by rw [bP (by omega)];omega
 have a:bJ 0 ((x.length+1:Nat):Int)=some ():=by unfold bJ eH;rw [if_pos (by omega)]
 refine an ?_;rw [K7];simp only [c,d,bc,f,nx x.length (by omega)];simp only [aj,↓reduceIte,Int.reduceBEq,Int.reduceEq,GD,a];exact h1
theorem NU(n:Nat)(hn:n < 32)(e P:Bool)(O:Bool)(x:List Int)(M:Dg x)(hl:x.length<=900):∀(c:List Int) (i:Nat) (done:List Int),x.drop i=c->done.length=i->i<=x.length->
  Or pN [lu e x,I (n:Int),B O,o0,lu P x,I (x.length:Int),I (i:Int)] [ab.sl false 1 false (aK (done++List.replicate c.length 0))]=some [T.ae 1 false (aK (done++dS (2 ^ n) (2 ^ (32 - n)) c)),tb O]:=by
 have L:=kW n;have hk:=sX (n:=n) (by omega);have J:=kW (32 - n);have D:min ((n:Int)).toNat 32=n:=by rw [Sr];omega
 have E:¬(n:Int) < 0:=by omega
 have V:i64.wrap (32 - (n:Int))= ((32 - n:Nat):Int):=by rw [bP (by omega)];omega
 have W:min (((32 - n:Nat):Int)).toNat 32=32 - n:=by rw [Sr];omega
 have X:¬((32 - n:Nat):Int) < 0:=by omega
 intro c;induction c with
 | nil=>
  intro i done h f hi;have h1:¬(i:Int) < (x.length:Int):=by have:=bU h;omega
  refine an ?_;rw [vE];simp only [aj,↓reduceIte,Int.reduceBEq,Int.reduceEq,GD,h1,dS,Sx,Tw]
 | cons a c k=>
  intro i done h f hi;obtain⟨Q,y,d⟩:=bR h;have G:=M a (RN Q);have m:=kL h;have h1:(i:Int) < (x.length:Int):=by omega
  have z: 0<=(i:Int):=by omega
  have j:done++List.replicate (a::c).length 0=done++0::List.replicate c.length 0:=by simp [Sv]
  have g: 0<=(i:Int)/\(i:Int) < ((done++0::List.replicate c.length 0).length:Int):=by simp;omega
  have o:a.fdiv ((2:Int) ^ n)=a / 2 ^ n:=SY _ (by omega);have v: 0<=(i:Int)/\(i:Int) < ((done++ (a / 2 ^ n)::List.replicate c.length 0).length:Int):=by simp;omega
  have p:∀b:Int,0<=b/\b < 4294967296->(b * (2:Int) ^ (32 - n)) % 4294967296= (b % 2 ^ n) * 2 ^ (32 - n):=λb hb=>Gk J (by rw [Sd];exact hk);have r: 0<=a / (2:Int) ^ n:=T3 G.1 (by omega);have u:a / (2:Int) ^ n < 2 ^ (32 - n):=by rw [TQ L,<-hk];exact G.2
  match c,d,k with
  | [],d,k=>
   have Y:=bU d;have A:¬((i+1:Nat):Int) < (x.length:Int):=by omega
   have:=k (i+1) (done++ [a / 2 ^ n]) d (by simp [f]) (by omega);refine an ?_;rw [vE,j];simp only [D,lJ,<-TK];simp only [aj,↓reduceIte,Int.reduceBEq,Int.reduceEq,GD,h1,z,and_self,bc,cJ y,m,E,g,o,l0 done 0 _ _ i f,nx i (by omega),A,false_and];rw [show done++ (a / 2 ^ n)::List.replicate ([]:List Int).length 0= (done++ [a / 2 ^ n])++List.replicate ([]:List Int).length 0 from by simp,
    show done++dS (2 ^ n) (2 ^ (32 - n)) [a]= (done++ [a / 2 ^ n])++dS (2 ^ n) (2 ^ (32 - n)) [] from by simp [dS]]
   exact this
  | b::c,d,k=>
   obtain⟨U,k2,k3⟩:=bR d;have hb:=M b (RN U);have H:=kL d;have A:((i+1:Nat):Int) < (x.length:Int):=by omega
   have F: 0<=((i+1:Nat):Int):=by omega
   have l:=Ut b (show(2:Int) ^ n≠0 by omega);have R:=TB b L;have N:(b % 2 ^ n+1) * (2:Int) ^ (32 - n)<=2 ^ n * 2 ^ (32 - n):=Sg (by omega) (by omega);rw [UT,TD,Sd ((2:Int) ^ n),<-hk] at N;have Z: 0<=(b % 2 ^ n) * (2:Int) ^ (32 - n):=S3 l (by omega);by_cases w:(n:Int) > 0
   .have:=k (i+1) (done++ [a / 2 ^ n+b * 2 ^ (32 - n) % 4294967296]) d (by simp [f]) (by omega);have K:u32.wrap (((BitVec.ofInt 32 (a / (2:Int) ^ n) ||| BitVec.ofInt 32 (b * (2:Int) ^ (32 - n) % 4294967296)).toNat:Nat):Int)=a / 2 ^ n+b * 2 ^ (32 - n) % 4294967296:=by
     obtain⟨t,S⟩:=TG l;rw [sP (n:=32 - n) (t:=t) (by omega) ⟨r,u⟩ (by rw [p b hb,S,qP (32 - n),Sd,<-UO]) (by rw [p b hb];omega) (by rw [p b hb];omega)];omega
    have q:((i+1:Nat):Int) < (x.length:Int)/\(n:Int) > 0:=⟨A,w⟩;refine an ?_;rw [vE,j];simp only [D,lJ,<-TK];simp only [aj,↓reduceIte,Int.reduceBEq,Int.reduceEq,GD,h1,z,and_self,bc,cJ y,m,E,g,o,l0 done 0 _ _ i f,nx i (by omega),q,v,lQ done _ _ i f,F,cJ k2,H,V,W,X,eC (b * (2:Int) ^ (32 - n)),K,l0 done (a / 2 ^ n) _ _ i f];rw [show done++ (a / 2 ^ n+b * 2 ^ (32 - n) % 4294967296)::List.replicate (b::c).length 0= (done++ [a / 2 ^ n+b * 2 ^ (32 - n) % 4294967296])++List.replicate (b::c).length 0 from by simp,
     show done++dS (2 ^ n) (2 ^ (32 - n)) (a::b::c)= (done++ [a / 2 ^ n+b * 2 ^ (32 - n) % 4294967296])++dS (2 ^ n) (2 ^ (32 - n)) (b::c) from by simp [dS]]
    exact this
   .have C:n=0:=by omega
    have hz:b * (2:Int) ^ (32 - n) % 4294967296=0:=by rw [C,show((2:Int) ^ (32 - 0))=4294967296 from by decide];omega
    have:=k (i+1) (done++ [a / 2 ^ n+b * 2 ^ (32 - n) % 4294967296]) d (by simp [f]) (by omega);rw [hz,T4] at this;refine an ?_;rw [vE,j];simp only [D,lJ,<-TK];simp only [aj,↓reduceIte,Int.reduceBEq,Int.reduceEq,GD,h1,z,and_self,bc,cJ y,m,E,g,o,l0 done 0 _ _ i f,nx i (by omega),w,and_false];rw [show done++ (a / 2 ^ n)::List.replicate (b::c).length 0= (done++ [a / 2 ^ n])++List.replicate (b::c).length 0 from by simp,
     show done++dS (2 ^ n) (2 ^ (32 - n)) (a::b::c)= (done++ [a / 2 ^ n])++dS (2 ^ n) (2 ^ (32 - n)) (b::c) from by simp [dS,hz]]
    exact this
theorem PC(n:Nat)(hn:n < 32)(e:Bool)(x:List Int)(u:Dg x)(hl:x.length<=900)(o: 0 < x.length):∃b,Or (.call 97) [lu e x,I (n:Int)] []=some [T.ae 1 false (aK (dS (2 ^ n) (2 ^ (32 - n)) x)),tb b]:=by
 obtain⟨a,r,rfl⟩:∃a r,x=a::r:=by
  cases x with
  | nil=>simp at o
  | cons a r=>exact⟨a,r,rfl⟩
 have v:(n:Int).tdiv 32=0:=by rw [TR (by omega)];omega
 have w:(n:Int).tmod 32= (n:Int):=by rw [Uw (by omega)];omega
 have y:i64.wrap (32 - (n:Int))= ((32 - n:Nat):Int):=by rw [bP (by omega)];omega
 have z:¬((32 - n:Nat):Int) < 0:=by omega
 have A:i64.wrap 0=0:=bP (by omega);have i:mm false 0 ((a::r).length:Int)=0:=by rw [Gr];omega
 have f:cU 0 0 ((a::r).length:Int)=some ():=by unfold cU;rw [if_pos (by omega)]
 have g:cU 0 ((a::r).length:Int) ((a::r).length:Int)=some ():=by unfold cU;rw [if_pos (by omega)]
 have l:sub 0 0 (aK (a::r))= []:=by simp [sub]
 have m:sub 0 ((a::r).length:Int) (aK (a::r))=aK (a::r):=by unfold sub;rw [Sr,Int.toNat_zero,Vp,Te,Th (by rw [bc];exact R3 _)]
 have h:bJ ((a::r).length:Int) ((a::r).length:Int)=some ():=by unfold bJ eH;rw [if_pos (by omega)]
 have p:aK ([] ++List.replicate (a::r).length 0)=List.replicate (a::r).length [T.int u32 0]:=by simp [aK]
 have k:¬((a::r).length:Int)=0:=by omega
 have q:(aK (a::r))[(0:Nat)]? =some [T.int .u32 a]:=rfl;have hr:(0:Int)<=0/\(0:Int) < ((a::r).length:Int):=by omega
 have key:∀c:Bool,Or pN [lu e (a::r),I (n:Int),B c,o0,lu e (a::r),I ((a::r).length:Int),I 0] [ab.sl false 1 false (List.replicate (a::r).length [T.int u32 0])]=some [T.ae 1 false (aK (dS (2 ^ n) (2 ^ (32 - n)) (a::r))),tb c]:=λc=>by have:=NU n hn e e c (a::r) u hl (a::r) 0 [] rfl rfl (by omega);rw [p] at this;exact this
 have nd:∃b,Or rD [lu e (a::r),I (n:Int),B false,I 0,AV.t (T.ae 1 e []),I (([]:List (List T)).length:Int),I 0] []=some [T.ae 1 false (aK (dS (2 ^ n) (2 ^ (32 - n)) (a::r))),tb b]:=by
  have st:∃b,aD aq ann Or rD [lu e (a::r),I (n:Int),B false,I 0,AV.t (T.ae 1 e []),I (([]:List (List T)).length:Int),I 0] []=some [T.ae 1 false (aK (dS (2 ^ n) (2 ^ (32 - n)) (a::r))),tb b]:=by
   rw [La];have d:¬(0:Int) < (([]:List (List T)).length:Int):=by simp
   simp only [w,y];simp only [aj,↓reduceIte,Int.reduceBEq,Int.reduceEq,GD,d,bc,g,m,k,hr,q,z,h,Sr];exact⟨_,key _⟩
  obtain⟨b,st⟩:=st;exact⟨b,an st⟩
 obtain⟨b,j⟩:=nd;refine⟨b,an ?_⟩;rw [K9];simp only [v,A,bc,i];simp only [aj,↓reduceIte,Int.reduceBEq,Int.reduceEq,GD,f,l];exact j
theorem yG{t:Int}(h: 0<=t/\t < 18446744073709551616):u64.wrap (((BitVec.ofInt 64 t &&& BitVec.ofInt 64 4294967295).toNat:Nat):Int)=t % 4294967296:=by
 obtain⟨a,rfl⟩:=TG h.1;have b:a % 2 ^ 64=a:=UF (by omega);have c:(BitVec.ofInt 64 4294967295).toNat=2 ^ 32 - 1:=by decide
 rw [BitVec.toNat_and,c,Nat.and_two_pow_sub_one_eq_mod,UC,UN,b,bN (by omega)];omega
theorem zE(a:List Int)(b:Int)(r:List Int)(i:Nat)(h:a.length=i):(aK (a++b::r))[i]? =some [T.int .u32 b]:=by have:=lQ a b r i h;rwa [Sr] at this
theorem tn(a:List Int)(b v:Int)(r:List Int)(i:Nat)(h:a.length=i):bt i 0 [T.int .u32 v] (aK (a++b::r))=some (aK (a++v::r)):=by have:=l0 a b v r i h;rwa [Sr] at this
theorem NT(ev ec:Bool)(v:List Int)(hv:Dg v)(d hi:List Int)(top q:Int)(O: 0<=top/\top < 4294967296)(J: 0<=q/\q < 4294967296)(N:v.length<=1000):∀(vs:List Int) (i:Nat) (c b:Int) (done us:List Int),v.drop i=vs->i<=v.length->done.length=i->us.length=vs.length->Dg us->0<=c/\c < 4294967296->0<=b/\b<=1->
  Or pM [AV.part (Id.c 0) 1 d.length (v.length+1),lu ev v,u6 q,u6 b,u6 c,I ((v.length+1:Nat):Int),I (i:Int)] [ab.sl false 1 ec (aK (d++ (done++us++top::hi)))]=
   some [tb (decide (cm (top - (fa q us vs c b).1 - (fa q us vs c b).2) > 0)),T.ae 1 ec (aK (d++ (done++js q us vs c b++ ((top - (fa q us vs c b).1 - (fa q us vs c b).2) % 4294967296)::hi)))]:=by
 intro vs;induction vs with
 | nil=>
  intro i c b done us h w g f e G hb;have L:=bU h;obtain rfl:i=v.length:=by omega
  obtain rfl:us= []:=R4.1 (by simpa using f);simp only [js,fa];have h1:(v.length:Int) < ((v.length+1:Nat):Int):=by omega
  have m:¬(v.length:Int) < (v.length:Int):=by omega
  have l: 0<=(v.length:Int):=by omega
  have o:∀z,d++ (done++ [] ++z::hi)= (d++done)++z::hi:=λz=>by simp
  have hk:(d++done).length=d.length+v.length:=by simp [g]
  have j:u64.wrap top=top:=bN (by omega);have u:c % 4294967296=c:=by omega
  have hn:i64.wrap ((v.length:Int)+1)= ((v.length+1:Nat):Int):=nx _ (by omega);have n:¬((v.length+1:Nat):Int) < ((v.length+1:Nat):Int):=by omega
  have p:Or pM [AV.part (Id.c 0) 1 d.length (v.length+1),lu ev v,u6 q,u6 (cm (top - c - b)),u6 (c / 4294967296),I ((v.length+1:Nat):Int),I ((v.length+1:Nat):Int)] [ab.sl false 1 ec (aK ((d++done)++ ((top - c - b) % 4294967296)::hi))]=
    some [tb (decide (cm (top - c - b) > 0)),T.ae 1 ec (aK ((d++done)++ ((top - c - b) % 4294967296)::hi))]:=by
   refine an ?_;rw [zq];simp only [aj,↓reduceIte,Int.reduceBEq,Int.reduceEq,GD,n]
  refine an ?_;rw [zq];simp only [o];simp only [aj,↓reduceIte,Int.reduceBEq,Int.reduceEq,GD,h1,m,l,and_self,bc,Sr,zE (d++done) top hi _ hk,j,yG (t:=c) (by omega),u,B4,B3,tn (d++done) top _ hi _ hk,mE,zQ (v:=top - c - b) (by omega),hn];exact p
 | cons a vs K=>
  intro i c b done us h w g f e G hb;obtain⟨D,r,E⟩:=bR h;have F:=hv a (RN D);have k:=kL h
  match us,f,e with
  | x::us,f,e=>
   have P:=e x RL;have M:=pa J F;rw [js,fa];have:=K (i+1) ((c+q * a) / 4294967296) (cm (x - (c+q * a) % 4294967296 - b)) (done++ [(x - (c+q * a) % 4294967296 - b) % 4294967296]) us E (by omega) (by simp [g]) (by simpa using f) e.tail (by omega) (Df _);have h1:(i:Int) < ((v.length+1:Nat):Int):=by omega
   have m:(i:Int) < (v.length:Int):=by omega
   have l: 0<=(i:Int):=by omega
   have o:d++ (done++x::us++top::hi)= (d++done)++x:: (us++top::hi):=by simp
   have y:d++ (done++ [(x - (c+q * a) % 4294967296 - b) % 4294967296] ++us++top::hi)= (d++done)++ ((x - (c+q * a) % 4294967296 - b) % 4294967296):: (us++top::hi):=by simp
   have hk:(d++done).length=d.length+i:=by simp [g]
   rw [y] at this;rw [o];have A:u64.wrap a=a:=bN (by omega);have B:u64.wrap (q * a)=q * a:=bN (by omega);have C:u64.wrap (c+q * a)=c+q * a:=bN (by omega);have j:u64.wrap x=x:=bN (by omega);refine an ?_;rw [zq];simp only [aj,↓reduceIte,Int.reduceBEq,Int.reduceEq,GD,h1,m,l,and_self,bc,cJ r,k,Sr,zE (d++done) x _ _ hk,A,B,C,j,yG (t:=c+q * a) (by omega),B4,B3,tn (d++done) x _ _ _ hk,mE,zQ (v:=x - (c+q * a) % 4294967296 - b) (by omega),nx i (by omega)];have H:(aK v)[i]? =some [T.int .u32 a]:=by have:=cJ r;rw [Sr,k] at this;exact this
   simp only [aj,↓reduceIte,Int.reduceBEq,Int.reduceEq,GD,H,A,B,C,j,yG (t:=c+q * a) (by omega),B4,B3,tn (d++done) x _ _ _ hk,mE,zQ (v:=x - (c+q * a) % 4294967296 - b) (by omega),zE (d++done) x _ _ hk];exact this.trans (by simp)
theorem PB(ev ec:Bool)(v:List Int)(hv:Dg v)(a hi w:List Int)(top q:Int)(f: 0<=top/\top < 4294967296)(e: 0<=q/\q < 4294967296)(b:v.length<=1000)(g:Dg w)(d:w.length=v.length):
  Or (.call 96) [AV.part (Id.c 0) 1 a.length (v.length+1),lu ev v,u6 q] [ab.sl false 1 ec (aK (a++ (w++top::hi)))]=
   some [tb (decide (cm (top - (fa q w v 0 0).1 - (fa q w v 0 0).2) > 0)),T.ae 1 ec (aK (a++ (js q w v 0 0++ ((top - (fa q w v 0 0).1 - (fa q w v 0 0).2) % 4294967296)::hi)))]:=by
 have:=NT ev ec v hv a hi top q f e b v 0 0 0 [] w rfl (by omega) rfl d g (by omega) (by omega);refine an ?_;rw [K8];simpa using this
open Go Go.Aev Go.Aev.Gen Go.Aev.Wd Go.IntKind
theorem NN(s:Nat)(ev ec0 ec1:Bool)(v:List Int)(hv:Dg v)(b hi j:List Int)(top q:Int)(E:b.length<=1000)(F:v.length<=1000)(R:List T):∀(vs:List Int) (i:Nat) (c:Int) (done us:List Int),v.drop i=vs->i<=v.length->done.length=i->us.length=vs.length->Dg us->0<=c/\c<=1->
  Or oH [I (s:Int),lu ev v,o0,I (v.length:Int),o1,I (b.length:Int),u6 q,u6 (jf us vs c),lu ev v,I (v.length:Int),I (v.length:Int)] (U2 ec0 ec1 (b++ (done++fj us vs c++top::hi)) j)=some R->
  Or oH [I (s:Int),lu ev v,o0,I (v.length:Int),o1,I (b.length:Int),u6 q,u6 c,lu ev v,I (v.length:Int),I (i:Int)] (U2 ec0 ec1 (b++ (done++us++top::hi)) j)=some R:=by
 intro vs;induction vs with
 | nil=>
  intro i c done us h m g e d u f;have D:=bU h;obtain rfl:i=v.length:=by omega
  obtain rfl:us= []:=R4.1 (by simpa using e);simpa only [fj,jf] using f
 | cons a vs y=>
  intro i c done us h m g e d u f;obtain⟨o,p,r⟩:=bR h;have G:=hv a (RN o);have l:=kL h
  match us,e,d,f with
  | x::us,e,d,f=>
   have H:=d x RL;rw [fj,jf] at f;have:=y (i+1) ((c+ (x+a)) / 4294967296) (done++ [(c+ (x+a)) % 4294967296]) us r (by omega) (by simp [g]) (by simpa using e) d.tail (by omega) (by
    simpa only [Sj,RU,R0] using f)
   have h1:(i:Int) < (v.length:Int):=by omega
   have t: 0<=(i:Int):=by omega
   have w:b++ (done++x::us++top::hi)= (b++done)++x:: (us++top::hi):=by simp
   have n:b++ (done++ [(c+ (x+a)) % 4294967296] ++us++top::hi)= (b++done)++ ((c+ (x+a)) % 4294967296):: (us++top::hi):=by simp
   have hk:(b++done).length=b.length+i:=by simp [g]
   rw [n] at this;rw [w];have k: 0<=((b.length+i:Nat):Int)/\((b.length+i:Nat):Int) < (((b++done)++x:: (us++top::hi)).length:Int):=by simp [g];omega
   have z:u64.wrap a=a:=bN (by omega);have A:u64.wrap x=x:=bN (by omega);have B:u64.wrap (x+a)=x+a:=bN (by omega);have C:u64.wrap (c+ (x+a))=c+ (x+a):=bN (by omega);refine an ?_;rw [Ed];simp only [aj,↓reduceIte,Int.reduceBEq,Int.reduceEq,GD,h1,t,and_self,bc,cJ p,l,ad b.length i (by omega),k,lQ (b++done) x _ _ hk,z,A,B,C,eC,l0 (b++done) x _ _ _ hk,mE,nx i (by omega)];exact this
section
variable (s:Nat) (ev ec0 ec1:Bool)
noncomputable abbrev ud(v:List Int)(u a:List Int)(k:Int):Option (List T):=Or pL [I (s:Int),lu ev v,o0,I (v.length:Int),o1,I k] (U2 ec0 ec1 u a)
def CJ(v u:List Int)(k:Nat)(d:List Int)(e:List T->Prop)(a:Int):Prop:=
 (∃b:List Int,Or (.call 96) [AV.part (Id.c 0) 1 k (v.length+1),lu ev v,u6 a] [ab.sl false 1 ec0 (aK u)]=some [tb false,T.ae 1 ec0 (aK b)]/\Wd.Good e (ud s ev ec0 ec1 v b (List.replicate k 0++a::d) ((k:Int) - 1)))\/
 (∃b:List Int,Or (.call 96) [AV.part (Id.c 0) 1 k (v.length+1),lu ev v,u6 a] [ab.sl false 1 ec0 (aK u)]=some [tb true,T.ae 1 ec0 (aK b)]/\1<=a/\Wd.Good e (Or oH [I (s:Int),lu ev v,o0,I (v.length:Int),o1,I (k:Int),u6 (a - 1),u6 0,lu ev v,I (v.length:Int),I 0] (U2 ec0 ec1 b (List.replicate k 0++0::d))))
theorem KT(v:List Int)(a hi:List Int)(hv:Dg v)(y:v.length<=1000)(S:a.length<=1000)(w:List Int)(top:Int)(U:Dg w)(f:w.length=v.length)(ht: 0<=top/\top < 4294967296)(K: 0 < val v)(m:List Int)(W:List T->Prop)
  (q:Int) (Z:q= (val w+4294967296 ^ v.length * top) / val v) (d:Int) (hq1:q<=d) (hq2:d<=q+1) (x: 0<=d/\d < 4294967296) (hq0: 0<=q)
  (next:∀p:List Int,Dg p->p.length=v.length->val p= (val w+4294967296 ^ v.length * top) % val v->Wd.Good W (ud s ev ec0 ec1 v (a++ (p++0::hi)) (List.replicate a.length 0++q::m) ((a.length:Int) - 1))):
  CJ s ev ec0 ec1 v (a++ (w++top::hi)) a.length m W d:=by
 obtain⟨s1,n,o,s4,s5,s6,s7⟩:=Gt x (us:=w) (vs:=v) (c:=0) (b:=0) f U hv (by omega) (by omega);have g:=PB ev ec0 v hv a hi w top d ht x y U f;have hvV:=jD hv;have hm0:=gy o;have u:=jD o;rw [n] at u;rw [f] at s1 u;have O:=TT (val w+4294967296 ^ v.length * top) (val v);have hr0:=Ut (val w+4294967296 ^ v.length * top) (show val v≠0 by omega);have hr1:=TB (val w+4294967296 ^ v.length * top) K;rw [<-Z] at O;generalize (val w+4294967296 ^ v.length * top) % val v=r at *
 have Q:(List.replicate a.length (0:Int)).length=a.length:=by simp
 generalize js d w v 0 0=M at *
 generalize fa d w v 0 0=X at *
 obtain⟨c,b⟩:=X;dsimp only at s1 s4 s5 s6 s7 g;have L: 0<=(a.length:Int)/\(a.length:Int) < ((List.replicate a.length (0:Int)++0::m).length:Int):=by simp;omega
 have D:¬(v.length:Int) < (v.length:Int):=by omega
 have i:=ix v.length;have e:val M+4294967296 ^ v.length * (top - c - b)= (val w+4294967296 ^ v.length * top) - d * val v:=by rw [s1,Int.mul_sub,Int.mul_sub,Sk];omega
 have I:∀z:Int,z<= -1->4294967296 ^ v.length * z<= -(4294967296 ^ v.length):=λz hz=>by have:(4294967296:Int) ^ v.length * z<=4294967296 ^ v.length * (-1):=R1 hz (Tf i);omega
 have C:∀z:Int,1<=z->4294967296 ^ v.length<=(4294967296:Int) ^ v.length * z:=λz hz=>by have:(4294967296:Int) ^ v.length * 1<=4294967296 ^ v.length * z:=R1 hz (Tf i);omega
 by_cases Y:d=q
 .subst Y;have hz:top - c - b=0:=by
   rcases T9 (top - c - b) 0 with h | h | h
   .have:=I (top - c - b) (by omega);rw [Sd d] at e;omega
   .exact h
   .have:=C (top - c - b) (by omega);rw [Sd d] at e;omega
  have k:decide (cm (top - c - b) > 0)=false:=by rw [hz];rfl
  rw [k,show(top - c - b) % 4294967296=0 from by rw [hz];rfl] at g;exact .inl ⟨_,g,next M o (by rw [n,f]) (by rw [hz] at e;rw [Sd d] at e;omega)⟩
 .have P:d=q+1:=by omega
  have hq'V:d * val v=val v * q+val v:=by rw [P,UT,TD,Sd]
  have hz:top - c - b= -1:=by
   rcases T9 (top - c - b) (-1) with h | h | h
   .exfalso;have:(4294967296:Int) ^ v.length * (top - c - b)<=4294967296 ^ v.length * (-2):=R1 (by omega) (Tf i);omega
   .exact h
   .exfalso;have:(4294967296:Int) ^ v.length * 0<=4294967296 ^ v.length * (top - c - b):=R1 (by omega) (Tf i);omega
  have k:decide (cm (top - c - b) > 0)=true:=by rw [hz];rfl
  rw [k,show(top - c - b) % 4294967296=4294967295 from by rw [hz];rfl] at g;obtain⟨A,j,B,a4,a5⟩:=CN (us:=M) (vs:=v) (c:=0) (by rw [n,f]) o hv (by omega);rw [n,f] at A j;have hA0:=gy B;have H:=jD B;rw [j] at H;rw [hz] at e;have hM:val M=r - val v+4294967296 ^ v.length:=by omega
  have t:jf M v 0=1:=by
   rcases Tl (jf M v 0) 1 with h | h
   .exfalso;have:jf M v 0=0:=by omega
    rw [this] at A;omega
   .omega
  rw [t] at A;have E:d - 1=q:=by omega
  refine .inr ⟨_,g,by omega, ?_⟩;rw [E];refine(next (fj M v 0) B j (by omega)).step λR J=> ?_;have G:=NN s ev ec0 ec1 v hv a hi (List.replicate a.length 0++0::m) 4294967295 q S y R v 0 0 [] M rfl (by omega) rfl (by rw [n,f]) o (by omega) (by
   rw [t];refine an ?_;rw [Ed];have F:a++ ([] ++fj M v 0++4294967295::hi)= (a++fj M v 0)++4294967295::hi:=by simp
   rw [F];have l:(a++fj M v 0).length=a.length+v.length:=by simp [j]
   have N: 0<=((a.length+v.length:Nat):Int)/\((a.length+v.length:Nat):Int) < (((a++fj M v 0)++4294967295::hi).length:Int):=by simp [j];omega
   have V:u32.wrap (4294967295+u32.wrap 1)=0:=by rw [eC,eC];rfl
   have wq:u32.wrap q=q:=by rw [eC];omega
   rw [show a++ (fj M v 0++0::hi)= (a++fj M v 0)++0::hi from by simp] at J;simp only [aj,↓reduceIte,Int.reduceBEq,Int.reduceEq,GD,D,bc,ad a.length v.length (by omega),N,and_self,lQ (a++fj M v 0) _ hi _ l,V,l0 (a++fj M v 0) _ _ hi _ l,L,wq,l0 _ 0 _ m _ Q,BZ a.length (by omega)];exact J)
  simpa using G
end
theorem NO(s k:Nat)(ev ec0 ec1:Bool)(v u M:List Int)(Φ:List T->Prop){U V P w0 v0 u2 f c C q:Int}(hvl:v.length<=1000)(hkl:k<=1000)(hn2: 2<=v.length)(hul:k+v.length < u.length)
  (n:(aK v)[((v.length - 1:Nat):Int).toNat]? =some [T.int .u32 c]) (o:(aK v)[((v.length - 2:Nat):Int).toNat]? =some [T.int .u32 f]) (p:(aK u)[((k+v.length - 2:Nat):Int).toNat]? =some [T.int .u32 u2])
  (hP: 0 < P) (hU:U=w0+P * u2+4294967296 * (P * C)) (hV:V=v0+P * f+4294967296 * (P * c)) (hw: 0<=w0/\w0 < P) (K: 0<=v0/\v0 < P) (hu2: 0<=u2/\u2 < 4294967296) (t: 0<=f/\f < 4294967296) (hv1: 1<=c/\c < 4294967296)
  (hU0: 0<=U) (hUV:U < V * 4294967296) (H: 0 < V) (X:q=U / V)
  (go:∀L,q<=L->L<=q+1->0<=L->L < 4294967296->CJ s ev ec0 ec1 v u k M Φ L):
  ∀(m:Nat) (qh d:Int),4294967296 - d<=(m:Int)->qh * c+d=C->0<=d/\d < 4294967296->q<=qh->qh < 18446744073709551616->
   Wd.Good Φ (Or tX [I (s:Int),lu ev v,o0,I (v.length:Int),o1,I (k:Int),u6 qh,u6 d] (U2 ec0 ec1 u (List.replicate k 0++0::M))):=by
 have hqV:q * V<=U:=by rw [X];exact Int.ediv_mul_le _ (by omega)
 have hq0: 0<=q:=by rw [X];exact T3 hU0 (by omega)
 have hqV1:U < (q+1) * V:=by rw [X,UT,TD];have:=TT U V;have:=TB U H;rw [Sd V] at *;omega
 have hT3:C < 4294967296 * (c+1):=by
  rcases Tl C (4294967296 * (c+1)) with h | h
  .exact h
  .exfalso;have h1:P * (4294967296 * (c+1))<=P * C:=R1 h (by omega);have h2:P * f<=P * 4294967295:=R1 (by omega) (by omega);have h3: 0<=P * u2:=S3 (by omega) hu2.1;rw [SC,Sk,Vb] at h1;omega
 have hkz:(List.replicate k (0:Int)).length=k:=by simp
 have Z: 0<=(k:Int)/\(k:Int) < ((List.replicate k (0:Int)++0::M).length:Int):=by simp;omega
 have i:i64.wrap ((k:Int)+ (v.length:Int))= ((k+v.length:Nat):Int):=ad k v.length (by omega);have g:i64.wrap (((k+v.length:Nat):Int)+1)= ((k+v.length+1:Nat):Int):=nx _ (by omega);have y:cU (k:Int) ((k+v.length+1:Nat):Int) (u.length:Int)=some ():=by unfold cU;rw [if_pos (by omega)]
 have A:((k+v.length+1:Nat):Int).toNat - k=v.length+1:=by omega
 have B:((k:Int)).toNat=k:=by omega
 intro m;induction m with
 | zero=>intro qh d hm _ hr _ _;omega
 | succ m ih=>
  intro qh d hm hT hr hqq hq64;have N:i64.wrap ((v.length:Int) - 2)= ((v.length - 2:Nat):Int):=by rw [bP (by omega)];omega
  have O:i64.wrap (((k+v.length:Nat):Int) - 2)= ((k+v.length - 2:Nat):Int):=by rw [bP (by omega)];omega
  have Q:i64.wrap ((v.length:Int) - 1)= ((v.length - 1:Nat):Int):=by rw [bP (by omega)];omega
  have E: 0<=((v.length - 2:Nat):Int)/\((v.length - 2:Nat):Int) < (v.length:Int):=by omega
  have F: 0<=((k+v.length - 2:Nat):Int)/\((k+v.length - 2:Nat):Int) < (u.length:Int):=by omega
  have G: 0<=((v.length - 1:Nat):Int)/\((v.length - 1:Nat):Int) < (v.length:Int):=by omega
  have S:u64.wrap f=f:=bN (by omega);have x2:u64.wrap c=c:=bN (by omega);have W:u64.wrap (d+c)=d+c:=bN (by omega);have r:=sQ hr hu2;by_cases l:qh>=4294967296\/qh * f > d * 4294967296+u2
  .have z:q<=qh - 1:=by
    rcases l with l | l
    .have hqB:q < 4294967296:=by rw [X];exact Int.ediv_lt_of_lt_mul H (by rw [Sd];exact hUV)
     omega
    .exact M6 hP hU hV hw K.1 (by omega) hT hqV l H
   have D:u64.wrap (qh - 1)=qh - 1:=bN (by omega);have Y:(qh - 1) * c+ (d+c)=C:=by rw [Wo,TD];omega
   have e:(qh>=4294967296\/u64.wrap (qh * f) > d * 4294967296+u2):=by
    by_cases hb:qh>=4294967296
    .left;omega
    .right;rcases l with l | l
     .exact absurd l hb
     .have:=pa (a:=qh) (b:=f) (by omega) t;rw [bN (by omega)];exact l
   by_cases hbr:d+c < 4294967296
   .have hz:¬d+c>=4294967296:=by omega
    refine(ih (qh - 1) (d+c) (by omega) Y (by omega) z (by omega)).step λR j=>an ?_;rw [sc];simp only [im,<-decide_not,<-S7];simp only [aj,↓reduceIte,Int.reduceBEq,Int.reduceEq,GD,bc,N,i,O,Q,E,F,G,and_self,n,o,p,S,x2,W,D,r,e,hz];exact j
   .have hz:d+c>=4294967296:=by omega
    have hsm:qh - 1 < 4294967296:=by
     rcases Tl (qh - 1) 4294967296 with h | h
     .exact h
     .exfalso;have: 4294967296 * c<=(qh - 1) * c:=Sg h (by omega);rw [Sk] at hT3;omega
    have J:qh - 1<=q+1:=by
     have h1:=pa (a:=qh - 1) (b:=f) (by omega) t;have h2:=FX hP hU hV hw.1 K t.1 hv1.1 (qh:=qh - 1) (by omega) Y (by omega);rcases Tl (q+1) (qh - 1) with h | h
     .exfalso;have:(q+1) * V<=(qh - 1 - 1) * V:=Sg (by omega) (by omega);omega
     .exact h
    have x5:u32.wrap (qh - 1)=qh - 1:=by rw [eC];omega
    rcases go (qh - 1) z J (by omega) hsm with⟨u',w,x⟩ | ⟨u',w,p0,x⟩
    .refine x.step λR j=>an ?_;rw [sc];simp only [im,<-decide_not,<-S7];simp only [aj,↓reduceIte,Int.reduceBEq,Int.reduceEq,GD,R2,bc,N,i,g,y,A,B,O,Q,E,F,G,and_self,n,o,p,S,x2,W,D,x5,r,e,hz,w,Z,tn _ 0 _ M _ hkz,BZ k (by omega)];exact j
    .have x6:u64.wrap (qh - 1 - 1)=qh - 1 - 1:=bN (by omega);refine x.step λR j=>an ?_;rw [sc];simp only [im,<-decide_not,<-S7];simp only [aj,↓reduceIte,Int.reduceBEq,Int.reduceEq,GD,R2,bc,N,i,g,y,A,B,O,Q,E,F,G,and_self,n,o,p,S,x2,W,D,x6,r,e,hz,w];exact j
  .have hqs:qh < 4294967296:=by omega
   have z:qh * f<=d * 4294967296+u2:=by omega
   have hm2:=pa (a:=qh) (b:=f) (by omega) t;have D:u64.wrap (qh * f)=qh * f:=bN (by omega);have e:¬(qh>=4294967296\/qh * f > d * 4294967296+u2):=by omega
   have J:qh<=q+1:=by
    have h2:=FX hP hU hV hw.1 K t.1 hv1.1 (qh:=qh) (by omega) hT z;rcases Tl (q+1) qh with h | h
    .exfalso;have:(q+1) * V<=(qh - 1) * V:=Sg (by omega) (by omega);omega
    .exact h
   have x5:u32.wrap qh=qh:=by rw [eC];omega
   rcases go qh hqq J (by omega) hqs with⟨u',w,x⟩ | ⟨u',w,p0,x⟩
   .refine x.step λR j=>an ?_;rw [sc];simp only [im,<-decide_not,<-S7];simp only [aj,↓reduceIte,Int.reduceBEq,Int.reduceEq,GD,R2,bc,N,i,g,y,A,B,O,Q,E,F,G,and_self,n,o,p,S,x2,W,D,x5,r,e,w,Z,tn _ 0 _ M _ hkz,BZ k (by omega)];exact j
   .have x6:u64.wrap (qh - 1)=qh - 1:=bN (by omega);refine x.step λR j=>an ?_;rw [sc];simp only [im,<-decide_not,<-S7];simp only [aj,↓reduceIte,Int.reduceBEq,Int.reduceEq,GD,R2,bc,N,i,g,y,A,B,O,Q,E,F,G,and_self,n,o,p,S,x2,W,D,x6,r,e,w];exact j
theorem Rm(s:Nat)(hs:s < 32)(ev ec0 ec1:Bool)(b:List Int)(e c:Int)(hv:Dg (b++ [e,c]))(hvl:b.length<=400)(h1: 1<=c)(L:Nat)(N0:Int):∀(j:Nat) (z R hi h:List Int),z.length=j->j<=900->R.length=b.length+2->Dg z->Dg R->Dg h->val R < val (b++ [e,c])->j+h.length=L->
  val z+4294967296 ^ j * (val R+val (b++ [e,c]) * val h)=N0->Wd.Good (B7 s L (val (b++ [e,c])) N0 (b.length+2)) (ud s ev ec0 ec1 (b++ [e,c]) (z++ (R++hi)) (List.replicate j 0++h) ((j:Int) - 1)):=by
 have g:(b++ [e,c]).length=b.length+2:=by simp
 have H:val (b++ [e,c])=val b+4294967296 ^ b.length * e+4294967296 * (4294967296 ^ b.length * c):=by rw [gL];simp only [val];rw [Sk,SC _ 4294967296];simp;omega
 have Y:=gy hv.left;have hv0':=jD hv.left;have Q:=ix b.length;have C:=hv e (by simp);have dv1:=hv c (by simp);have hp1:(4294967296:Int) ^ b.length * 1<=4294967296 ^ b.length * c:=R1 h1 (by omega);have hp2: 0<=(4294967296:Int) ^ b.length * e:=S3 (by omega) C.1;have u: 0 < val (b++ [e,c]):=by omega
 have e1:(aK (b++ [e,c]))[(((b++ [e,c]).length - 1:Nat):Int).toNat]? =some [T.int .u32 c]:=by have:=lQ (b++ [e]) c [] (b.length+1) (by simp);rw [g];simpa using this
 have e2:(aK (b++ [e,c]))[(((b++ [e,c]).length - 2:Nat):Int).toNat]? =some [T.int .u32 e]:=by have:=lQ b e [c] b.length rfl;rw [g];simpa using this
 intro j;induction j with
 | zero=>
  intro z R hi h F hj r t y A X hL K;obtain rfl:=R4.1 F;obtain⟨lost,h80⟩:=PC s hs ec0 R y (by omega) (by omega);obtain⟨g1,g2,g3⟩:=IC (kW s) (sX (n:=s) (by omega)) (kW (32 - s)) y;refine⟨_,an ?_,ec1,h,false,_,val R,rfl,A,g3,by omega,by rw [g2,r],gy y,X,by
   simp only [val,Vk,TD,Int.zero_add] at K;rw [<-K,Sd];omega,g1⟩
  rw [Ec];have c0:¬(((0:Nat):Int) - 1)>=0:=by omega
  have W:cU 0 ((b++ [e,c]).length:Int) ((([] ++ (R++hi)).length:Nat):Int)=some ():=by unfold cU;rw [if_pos (by simp [r];omega)]
  have ht:(aK ([] ++ (R++hi))).take (((b++ [e,c]).length:Int).toNat - 0)=aK R:=by
   have hnn:((b++ [e,c]).length:Int).toNat - 0=R.length:=by rw [g,r];omega
   simp only [hnn,R0,aK,UL];rw [List.take_append_of_le_length (by simp),Th (by simp)]
  simp only [Tw,R0] at W ht⊢;simp only [aj,↓reduceIte,Int.reduceBEq,Int.reduceEq,GD,c0,bc,W,ht,h80]
 | succ j ih=>
  intro z R hi h F hj r t y A X hL K;obtain⟨d,x,rfl,v⟩:=mu F;obtain⟨w,top,hw,I⟩:=mu (l:=x::R) (n:=b.length+2) (by simp [r]);obtain⟨w1,f,rfl,hw1⟩:=mu I;obtain⟨i,u2,rfl,k⟩:=mu hw1;have J:Dg (i++ [u2] ++ [f] ++ [top]):=by rw [<-hw];exact Dg.append (a:= [x]) t.right y
  have dw:=J.left;have B:=J top (by simp);have du1:=J f (by simp);have P:=J u2 (by simp);have Z:=gy dw.left.left;have p:=jD dw.left.left;have E:d++ [x] ++ (R++hi)=d++ ((i++ [u2] ++ [f])++top::hi):=by have: [x] ++R=i++ [u2] ++ [f] ++ [top]:=hw;simp only [Sj] at this⊢;rw [<-Sj [x],this];simp
  have o:val (x::R)=val (i++ [u2] ++ [f])+4294967296 ^ (b++ [e,c]).length * top:=by rw [hw,gL,g,I];simp [val]
  have O:val (i++ [u2] ++ [f])=val i+4294967296 ^ b.length * u2+4294967296 * (4294967296 ^ b.length * f):=by rw [Sj,gL,k];simp only [RU,R0,val];rw [Sk,SC _ 4294967296];simp;omega
  have U:val (x::R)=val i+4294967296 ^ b.length * u2+4294967296 * (4294967296 ^ b.length * (top * 4294967296+f)):=by
   rw [o,O,g,show(4294967296:Int) ^ (b.length+2)=4294967296 ^ b.length * (4294967296 * 4294967296) from by rw [Vc];rfl];rw [Sk (4294967296 ^ b.length) (top * 4294967296),Sk 4294967296,<-SQ (4294967296 ^ b.length) top 4294967296];have:(4294967296:Int) ^ b.length * (4294967296 * 4294967296) * top=4294967296 * (4294967296 ^ b.length * top * 4294967296):=by rw [Sd (4294967296 ^ b.length * top) 4294967296,<-SQ 4294967296 4294967296,Sd (4294967296 ^ b.length),SQ]
   omega
  have dx:=t x (by simp);have hUx:val (x::R)=x+4294967296 * val R:=rfl;have hR0:=gy y;have S: 0<=val (x::R):=by omega
  have V:val (x::R) < val (b++ [e,c]) * 4294967296:=by omega
  generalize m:val (x::R) / val (b++ [e,c])=q at *
  have G: 0<=q:=by rw [<-m];exact T3 S (by omega)
  have hqB:q < 4294967296:=by rw [<-m];exact Int.ediv_lt_of_lt_mul u (by rw [Sd];exact V)
  have hqV:q * val (b++ [e,c])<=val (x::R):=by rw [<-m];exact Int.ediv_mul_le _ (by omega)
  have hrep:List.replicate (j+1) (0:Int)++h=List.replicate d.length 0++0::h:=by rw [v,U6,Sj];rfl
  have hg0:=M5 Q U H ⟨Z,by rw [k] at p;exact p⟩ Y P.2 C.1 G hqV;have D: 0<=top * 4294967296+f:=by omega
  have hqt:q<=(top * 4294967296+f) / c:=by rw [Int.le_ediv_iff_mul_le (by omega)];exact hg0
  have hTle:(top * 4294967296+f) / c<=top * 4294967296+f:=Int.ediv_le_self _ D;have hrm0:=Ut (top * 4294967296+f) (show c≠0 by omega);have hrm1:=TB (top * 4294967296+f) (show 0 < c by omega);have hdm:=TT (top * 4294967296+f) c;have hn2: 2<=(b++ [e,c]).length:=by omega
  have e3:(aK (d++ ((i++ [u2] ++ [f])++top::hi)))[((d.length+ (b++ [e,c]).length - 2:Nat):Int).toNat]? =some [T.int .u32 u2]:=by have:=lQ (d++i) u2 ([f] ++top::hi) (d.length+ (b++ [e,c]).length - 2) (by simp [k];try omega);simpa using this
  have e4:(aK (d++ ((i++ [u2] ++ [f])++top::hi)))[((d.length+ (b++ [e,c]).length - 1:Nat):Int).toNat]? =some [T.int .u32 f]:=by have:=lQ (d++i++ [u2]) f (top::hi) (d.length+ (b++ [e,c]).length - 1) (by simp [k];try omega);simpa using this
  have e5:(aK (d++ ((i++ [u2] ++ [f])++top::hi)))[((d.length+ (b++ [e,c]).length:Nat):Int).toNat]? =some [T.int .u32 top]:=by have:=lQ (d++i++ [u2] ++ [f]) top hi (d.length+ (b++ [e,c]).length) (by simp [k];try omega);simpa using this
  have N:((d++ ((i++ [u2] ++ [f])++top::hi)).length:Int)= ((d.length+b.length+3+hi.length:Nat):Int):=by simp [k];omega
  have M:=NO s d.length ev ec0 ec1 (b++ [e,c]) (d++ ((i++ [u2] ++ [f])++top::hi)) h (B7 s L (val (b++ [e,c])) N0 (b.length+2)) (by omega) (by omega) hn2 (by simp [k] <;> omega) e1 e2 e3 Q U H ⟨Z,by rw [k] at p;exact p⟩ ⟨Y,hv0'⟩ P C ⟨h1,dv1.2⟩ S V u m.symm
   (λq' a1 a2 a3 a4=>KT s ev ec0 ec1 (b++ [e,c]) d hi hv (by omega) (by omega) (i++ [u2] ++ [f]) top dw (by rw [g];exact I) B u h _ q (by rw [<-m,o]) q' a1 a2 ⟨a3,a4⟩ G (λR' d1 d2 d3=>by
    have:=ih d R' (0::hi) (q::h) v (by omega) (by rw [d2,g]) t.left d1 (λa ha=>by
     rcases RV.1 ha with rfl | ha
     .exact⟨G,hqB⟩
     .exact A a ha) (by rw [d3];exact TB _ u) (by simp;omega) (by
     rw [<-o] at d3;have hdv:=TT (val (x::R)) (val (b++ [e,c]));rw [m] at hdv;have key:val R'+val (b++ [e,c]) * val (q::h)=x+4294967296 * (val R+val (b++ [e,c]) * val h):=by rw [show val (q::h)=q+4294967296 * val h from rfl,d3,Sk,Sk 4294967296,SC _ 4294967296];omega
     rw [<-K,gL d [x],v,key,show val [x]=x from by simp [val],Um,SQ,Int.add_assoc,<-Sk])
    rw [<-v] at this;exact this))
   4294967296 ((top * 4294967296+f) / c) ((top * 4294967296+f) % c) (by omega) (by rw [Sd];exact hdm) (by omega) hqt (by omega)
  have cj:((j+1:Nat):Int) - 1= (d.length:Int):=by omega
  have or1:=sQ B du1;have x1:u64.wrap c=c:=bN (by omega);have x3:(top * 4294967296+f).tdiv c= (top * 4294967296+f) / c:=TR D;have x4:(top * 4294967296+f).tmod c= (top * 4294967296+f) % c:=Uw D;have x5:u64.wrap ((top * 4294967296+f) / c)= (top * 4294967296+f) / c:=bN (by omega);have x2:u64.wrap top=top:=bN (by omega);have nz:¬c=0:=by omega
  have w3:i64.wrap (((b++ [e,c]).length:Int) - 1)= (((b++ [e,c]).length - 1:Nat):Int):=by rw [bP (by omega)];omega
  have w2':i64.wrap (((d.length+ (b++ [e,c]).length:Nat):Int) - 1)= ((d.length+ (b++ [e,c]).length - 1:Nat):Int):=by rw [bP (by omega)];omega
  have b1: 0<=((d.length+ (b++ [e,c]).length:Nat):Int)/\((d.length+ (b++ [e,c]).length:Nat):Int) < ((d.length+b.length+3+hi.length:Nat):Int):=by omega
  have b2: 0<=((d.length+ (b++ [e,c]).length - 1:Nat):Int)/\((d.length+ (b++ [e,c]).length - 1:Nat):Int) < ((d.length+b.length+3+hi.length:Nat):Int):=by omega
  have b3: 0<=(((b++ [e,c]).length - 1:Nat):Int)/\(((b++ [e,c]).length - 1:Nat):Int) < ((b++ [e,c]).length:Int):=by omega
  rw [E,hrep,cj];refine M.step λR r=>an ?_;rw [Ec];have c1:(d.length:Int)>=0:=by omega
  simp only [aj,↓reduceIte,Int.reduceBEq,Int.reduceEq,GD,c1,bc,ad d.length (b++ [e,c]).length (by omega),N,b1,b2,b3,and_self,e5,e4,e1,w2',w3,x1,x2,or1,nz,x3,x4,x5];exact r
theorem Ni{s:Nat}{x y b J c:List Int}{e d:Int}(ev:Bool)(ld:CG s x y b J c e d)(T:Dg x)(W:x.length<=400)(X:c.length+2<=x.length):
  ∃j:Nat,j+ (c.length+2)=x.length+1/\Wd.Good (CI (val x) (val y) (x.length+1)) (ud s ev false false (c++ [e,d]) b (List.replicate j 0) ((j:Int) - 1)):=by
 have C:=kW s;have p:=jD T;obtain⟨j,O⟩:∃j:Nat,j+ (c.length+2)=x.length+1:=⟨x.length+1 - (c.length+2),by omega⟩;refine⟨j,O, ?_⟩;have m:=ld.lu;have i:b=b.take j++ (b.drop j++ []):=by simp
 have B:(b.drop j).length=c.length+2:=by simp [m];omega
 have g:(b.take j).length=j:=by simp [m];omega
 have N:=gL (b.take j) (b.drop j);rw [Vy,g] at N;have K:Dg (b.drop j):=λa o=>ld.dU a (UA o);have v:=ld.dU.take j;have f:=ld.Rl;have n:val (b.drop j) < val (c++ [e,d]):=by
  rcases Tl (val (b.drop j)) (val (c++ [e,d])) with h | h
  .exact h
  .exfalso;have h1:(4294967296:Int) ^ j * val (c++ [e,d])<=4294967296 ^ j * val (b.drop j):=R1 h (Tf (ix _));have Y:=gy v;have h3:val x * (2:Int) ^ s < 4294967296 ^ x.length * 2 ^ s:=U1 p C;have L:(4294967296:Int) ^ (c.length+1) * 2 ^ s<=val y * 2 ^ s:=Sg ld.ge (by omega);have M:(4294967296:Int) ^ j * (4294967296 ^ (c.length+1) * 2 ^ s)<=4294967296 ^ j * val (c++ [e,d]):=by
    rw [f];exact R1 L (Tf (ix _))
   rw [<-SQ,<-Vc,show j+ (c.length+1)=x.length from by omega] at M;have:=ld.Ju;omega
 have k:=Rm s ld.hs ev false false c e d ld.dV (by omega) ld.h1 j (val b) j (b.take j) (b.drop j) [] [] g (by omega) B v K (by intro a o;cases o) n (by simp) (by simp only [val,T5,T4];omega);rw [<-i,SN] at k;obtain⟨R,r1,w,Q,z,Z,u,rfl,q1,H,q3,q4,q5,t,U,V⟩:=k;have A: 0 < val y:=by have:=ix (c.length+1);have:=ld.ge;omega
 have I:val x * 2 ^ s=val Q * (val y * 2 ^ s)+u:=by rw [<-ld.Ju,<-f];exact U.symm
 have l:u= (val x - val Q * val y) * 2 ^ s:=by rw [Wo,SQ];omega
 have D:val Z=val x - val Q * val y:=by rw [V,l,Int.mul_ediv_cancel _ (by omega)]
 have E:val Z < val y:=by rw [f] at t;rw [l,<-D] at t;exact VX t (by omega)
 have F:=gy H;have S:=Int.ediv_emod_unique A (a:=val x) (q:=val Q) (r:=val Z);obtain⟨P,G⟩:=S.2 ⟨by rw [Sd];omega,F,E⟩;exact⟨_,r1,w,Q,z,Z,rfl,q1,H,P.symm,G.symm,by omega,by omega⟩
theorem PA(a:Int)(i: 1<=a/\a < 4294967296):∃n:Nat,Or (.call 94) [AV.t (T.int .u32 a)] []=some [ti (n:Int)]/\n < 32/\a * 2 ^ n < 4294967296:=by
 obtain⟨m,e,f,b,j⟩:=Ic a (by omega);have g:m≠0:=by intro h;subst h;rw [Vk] at b;omega
 have d:i64.wrap (32 - (m:Int))= ((32 - m:Nat):Int):=by rw [bP (by omega)];omega
 refine⟨32 - m,an ?_,by omega, ?_⟩
 .rw [K6];simp only [aj,↓reduceIte,Int.reduceBEq,Int.reduceEq,GD,e,d]
 .have hk:=sX (n:=m) f;have c:=kW (32 - m);rw [hk,Sd];exact Int.mul_lt_mul_of_pos_left b c
def CK(X Y:Int)(L:Nat)(R:List T):Prop:= ∃t a Q b Z,R= [t,T.ae 1 b (aK Z)]/\t.aM 1=some (a,aK Q)/\Dg Q/\Dg Z/\val Q=X / Y/\val Z=X % Y/\Q.length<=L/\Z.length<=L
theorem O6{X Y:Int}{L:Nat}{r:Option (List T)}(h:Wd.Good (CI X Y L) r):Wd.Good (CK X Y L) r:=by obtain⟨R,i,a,Q,b,Z,rfl,h1,c,d,e,f,g⟩:=h;exact⟨_,i,_,a,Q,b,Z,rfl,o8 _ _ _,h1,c,d,e,f,g⟩
theorem H8(m v:Bool)(x y:List Int)(g:Dg x)(hy:Dg y)(K:Can x)(q:Can y)(D:y≠[])(U:x.length<=400)(hyl':y.length<=400):
  Wd.Good (CK (val x) (val y) (x.length+1)) (Or (.call 87) [lu m x,lu v y] []):=by
 have V:=yZ hy q D;have w:=pk m x (by omega);have k2:=pk v y (by omega);have tx:dX x=x:=by have:=oQ (ou g) g (rk x) K (rl x);exact this
 have ty:dX y=y:=oQ (ou hy) hy (rk y) q (rl y);rw [tx] at w;rw [ty] at k2;have z:=xp x y m v g hy K q (by omega) (by omega);have B:=gy g;by_cases p:val x < val y
 .have r:dC (val x) (val y) < 0:=by unfold dC;rw [if_pos p];omega
  refine⟨_,an ?_,T.aL true,true,[],m,x,rfl,cn _ _,(by intro a o;cases o),g, ?_, ?_,by simp,by omega⟩
  .rw [zp];simp only [aj,↓reduceIte,Int.reduceBEq,Int.reduceEq,GD,w,k2,z,r]
  .rw [Int.ediv_eq_zero_of_lt B p];rfl
  .rw [Int.emod_eq_of_lt B p]
 .have r:¬dC (val x) (val y) < 0:=by unfold dC;rw [if_neg p];split <;> omega
  have G:y.length<=x.length:=by
   rcases UG x.length y.length with h | h
   .have:=wB g hy q h;omega
   .exact h
  by_cases h1:(y.length:Int)=1
  .match y,h1 with
   | [b],_=>
    have hb:=hy b (by simp);have M: 0 < b:=by simpa [val] using V
    obtain⟨Q,R,q1,q2,q3,q4,q5,q6,q7⟩:=Pz m x b g (by omega) ⟨M,hb.2⟩;have A:val [b]=b:=by simp [val]
    refine⟨_,an ?_,_,false,Q,false,[R],rfl,o8 _ _ _,q3,(by intro a o;simp at o;subst o;omega),by rw [A];exact q6,by rw [A];simp [val];exact q7,by omega,by simp⟩;rw [zp];have L:(([b]:List Int).length:Int)=1:=by simp
    have N:(aK [b])[(0:Nat)]? =some [T.int .u32 b]:=rfl;have hr:(0:Int)<=0/\(0:Int) < 1:=by omega
    simp only [aj,↓reduceIte,Int.reduceBEq,Int.reduceEq,GD,w,k2,z,r,bc,L,N,hr,and_self,q1];rfl
  .have h2: 2<=y.length:=by have:=UI.2 D;omega
   obtain⟨Y,f,rfl,g1⟩:=mu (l:=y) (n:=y.length - 1) (by omega);obtain⟨y',i,rfl,g2⟩:=mu (l:=Y) (n:=Y.length - 1) (by simp at h2;omega);have S:y'++ [i] ++ [f]=y'++ [i,f]:=by simp
   have C: 1<=f:=by
    have:=q (y'.length+1) (by simp);rw [show aV (y'++ [i] ++ [f]) (y'.length+1)=f from by
     have:=vf (y'++ [i]) f [] (y'.length+1) (by simp);simpa using this] at this
    have:=hy f (by simp);omega
   have J:=hy f (by simp);rw [S] at hy G h1 k2 z r⊢;have hly:(y'++ [i,f]).length=y'.length+2:=by simp
   have hyl2:y'.length+2<=x.length:=by omega
   obtain⟨s,c1,F,c3⟩:=PA f ⟨C,J.2⟩;obtain⟨e,d,c,hV2,ld⟩:=Nh g hy C s F c3;obtain⟨j,hj,hg⟩:=Ni false ld g U (by omega);have u:=Ia s F v (y'++ [i,f]) hy (by omega);have H:=Ia s F m x g (by omega);rw [ld.vv] at u;have hUl:=ld.lu;generalize fc (2 ^ s) x 0=E at *
   have e1:(aK (y'++ [i,f]))[(((y'.length+1:Nat):Int)).toNat]? =some [T.int .u32 f]:=by have:=lQ (y'++ [i]) f [] (y'.length+1) (by simp);simpa using this
   have w1:i64.wrap (((y'++ [i,f]).length:Int) - 1)= ((y'.length+1:Nat):Int):=by rw [bP (by omega)];omega
   have Z: 0<=((y'.length+1:Nat):Int)/\((y'.length+1:Nat):Int) < ((y'++ [i,f]).length:Int):=by omega
   have hVl:(e++ [d,c]).length=e.length+2:=by simp
   have t:e++ [d] ++ [c] ++ [0]= (e++ [d,c])++ [0]:=by simp
   have X:Or (.call 86) [lu false (e++ [d] ++ [c] ++ [0])] []=some [T.ae 1 false (aK (e++ [d,c]))]:=by
    have:=pk false (e++ [d] ++ [c] ++ [0]) (by simp;omega);rw [this];have ht:dX (e++ [d] ++ [c] ++ [0])=e++ [d,c]:=by
     refine oQ (ou (by rw [t];exact Dg.append ld.dV (by intro a o;simp at o;subst o;omega))) ld.dV (rk _) ?_ ?_
     .intro k hk;obtain rfl:k=e.length+1:=by omega
      have:=vf (e++ [d]) c [] (e.length+1) (by simp);rw [show e++ [d] ++ [c]=e++ [d,c] from by simp] at this;rw [this];have:=ld.h1;omega
     .rw [rl,t,gL];simp [val]
    rw [ht]
   refine(O6 hg).step λR hR=>an ?_;have P:bJ (j:Int) (j:Int)=some ():=by unfold bJ eH;rw [if_pos (by omega)]
   have wj:i64.wrap ((E.length:Int) - ((e++ [d,c]).length:Int))= (j:Int):=by rw [bP (by omega)];omega
   have wk:i64.wrap ((j:Int) - 1)= (j:Int) - 1:=bP (by omega);have W:List.replicate ((j:Int)).toNat [T.int u32 (0:Int)]=aK (List.replicate j 0):=by simp [aK]
   have wx:i64.wrap ((x.length:Int)+1)= ((x.length+1:Nat):Int):=nx _ (by omega);have O:¬(E.length:Int) < ((x.length+1:Nat):Int):=by omega
   have GB:Or tW [lu m x,I (s:Int),lu false (e++ [d,c]),o0] [ab.sl false 1 false (aK E)]=some R:=by refine an ?_;rw [K0];simp only [aj,↓reduceIte,Int.reduceBEq,Int.reduceEq,GD,bc,wx,O,wj,P,W,wk];exact hR
   rw [zp];simp only [aj,↓reduceIte,Int.reduceBEq,Int.reduceEq,GD,w,k2,z,r,bc,h1,w1,Z,and_self,e1,c1,u,X,H];exact GB
theorem xo(x y:Int)(I:(dz x).length<=300)(hy:(dz y).length<=300)(d:y≠0)(A:y ∣ x):
  Or (.call 81) [LZ x,LZ y] []=some [tb (decide (x / y < 0)),T.str (bA (dz (x / y))),tb false,T.str (bA (dz 0)),ti 0]:=by
 have C:=oe y;have k2:=kg x (by omega);have D:=kg y (by omega);obtain⟨R,E,t,w,Q,z,Z,rfl,G,u,v,g,i,J,K⟩:=H8 false false (dz x) (dz y) (cX x) (cX y) (gV x) (gV y) (λh=>d (qe.1 h)) (by omega) (by omega);rw [dr,dr] at g i;obtain⟨c,rfl⟩:=A;have B:y * c / y=c:=TC _ d;have H: 0 < y.natAbs:=by omega
 have j:((y * c).natAbs:Int) / (y.natAbs:Int)= (c.natAbs:Int):=by rw [Ss,UO,TC _ (by omega)]
 have k:((y * c).natAbs:Int) % (y.natAbs:Int)=0:=by rw [Ss,UO,Int.mul_emod_right]
 rw [j] at g;rw [k] at i;have f:=mY (!decide (y * c < 0)==decide (y < 0)) w Q u (by omega);have e:=mY (decide (y * c < 0)) z Z v (by omega);have p:(if(!decide (y * c < 0)==decide (y < 0))=true then -val Q else val Q)=c:=by
  rw [g];rcases T9 c 0 with a | a | a
  .rcases Tl y 0 with h | h
   .have:=Int.mul_pos_of_neg_of_neg h a;have b:¬y * c < 0:=by omega
    simp [h,b];omega
   .have:=Int.mul_neg_of_pos_of_neg (show 0 < y by omega) a;have b:¬y < 0:=by omega
    simp [this,b];omega
  .subst a;simp
  .rcases Tl y 0 with h | h
   .have:=Int.mul_neg_of_neg_of_pos h a;simp [h,this];omega
   .have:=Int.mul_pos (show 0 < y by omega) a;have b:¬y < 0:=by omega
    have l:¬y * c < 0:=by omega
    simp [b,l];omega
 have q:(if decide (y * c < 0)=true then -val Z else val Z)=0:=by rw [i];simp
 rw [p] at f;rw [q] at e;have F:=oe 0;have o:y.sign≠0:=by intro h;exact d (VY.1 h)
 unfold RZ at f e;have m:decide ((0:Int) < 0)=false:=rfl;rw [m] at e;have r:Or (.call 72) [LS false (dz 0)] []=some [ti 0]:=F;rw [B];refine an ?_;rw [LY];have n:¬(0:Int) < 0:=by omega
 simp only [aj,↓reduceIte,Int.reduceBEq,Int.reduceEq,GD,C,o,k2,D,E,G,f,e,r,n]
theorem FM(a b:Nat):Nat.gcd b (a % b)=Nat.gcd a b:=by rw [We b,<-Nat.gcd_rec,We]
theorem GM(d:Bool)(l:ByteArray):∀(m:Nat) (x y:Int) (b c:Bool),y.natAbs<=m->(dz x).length<=300->(dz y).length<=300->
  Or uB [r0,lu b (dz x),lu c (dz y)] [ab.box [B d,AV.t (T.str l)]]=some (RZ (Nat.gcd x.natAbs y.natAbs:Nat))
 | m,x,y,b,c,hm,z,hy=>by
  by_cases a:y=0
  .subst a;have k:=mY false b (dz x) (cX x) (by omega);simp only [R9,↓reduceIte,dr] at k;unfold RZ at k;refine an ?_;rw [EH];have o:¬((dz 0).length:Int) > 0:=by
    have:dz 0= []:=rfl;rw [this];simp
   have p:((Nat.gcd x.natAbs (0:Int).natAbs:Nat):Int)= (x.natAbs:Int):=by rw [Vh,Uo]
   rw [p];simp only [aj,↓reduceIte,Int.reduceBEq,Int.reduceEq,GD,bc,o,k];rfl
  .have g:((dz y).length:Int) > 0:=by
    have:dz y≠[]:=λh=>a (qe.1 h);have:=UI.2 this;omega
   obtain⟨R,q,t,w,Q,e,Z,rfl,r,v,n,D,j,A,C⟩:=H8 b c (dz x) (dz y) (cX x) (cX y) (gV x) (gV y) (λh=>a (qe.1 h)) (by omega) (by omega);rw [dr,dr] at j;have i:=pk e Z (by omega);have u:x.natAbs % y.natAbs < y.natAbs:=U5 _ (by omega);have hz:dX Z=dz ((x.natAbs % y.natAbs:Nat):Int):=I9 n (by rw [j,Sb];first | rfl | exact(Int.natCast_emod _ _).symm | simp);rw [hz] at i
   match m with
   | 0=>omega
   | m+1=>
    have f:(dz ((x.natAbs % y.natAbs:Nat):Int)).length<=300:=by have:=vC (x:=y) (y:=((x.natAbs % y.natAbs:Nat):Int)) (by rw [Sb];omega);omega
    have:=GM d l m y ((x.natAbs % y.natAbs:Nat):Int) c e (by rw [Sb];omega) hy f;rw [Sb,FM] at this;refine an ?_;rw [EH];simp only [aj,↓reduceIte,Int.reduceBEq,Int.reduceEq,GD,bc,g,q,r,i];exact this
theorem Io(x y:Int)(c:(dz x).length<=300)(hy:(dz y).length<=300):Or (.call 80) [LZ x,LZ y] []=some (RZ (Nat.gcd x.natAbs y.natAbs:Nat)):=by have k2:=kg x (by omega);have d:=kg y (by omega);have a:=pk false (dz x) (by omega);have b:=pk false (dz y) (by omega);have e:dX (dz x)=dz x:=oQ (ou (cX x)) (cX x) (rk _) (gV x) (rl _);have ty:dX (dz y)=dz y:=oQ (ou (cX y)) (cX y) (rk _) (gV y) (rl _);rw [e] at a;rw [ty] at b;have:=GM false ⟨#[]⟩ y.natAbs x y false false (R3 _) c hy;refine an ?_;rw [LX];simp only [aj,↓reduceIte,Int.reduceBEq,Int.reduceEq,GD,k2,d,a,b];exact this
open Go Go.Aev Go.Aev.Gen Go.Aev.Wd Go.IntKind
theorem k8(x y:Int)(a:(dz x).length<=300)(hy:(dz y).length<=300):Or (.call 63) [LZ x,LZ y] []=some (RZ (x * y)):=by have k:=PV x y a hy;refine an ?_;rw [LG];simp only [aj,↓reduceIte,Int.reduceBEq,Int.reduceEq,GD,k];rfl
theorem PQ(x y:Int)(a:(dz x).length<=900)(hy:(dz y).length<=900)(hz:(dz (x+y)).length<=900):Or (.call 62) [LZ x,LZ y] []=some (RZ (x+y)):=by have k:=PU x y a hy hz;refine an ?_;rw [LD];simp only [aj,↓reduceIte,Int.reduceBEq,Int.reduceEq,GD,k];rfl
def NQ(q:Rat):List T:=RZ q.num++RZ (q.den:Int)
abbrev EQ(q:Rat):AV:=AV.agg [B (decide (q.num < 0)),AV.t (T.str (bA (dz q.num))),B (decide ((q.den:Int) < 0)),AV.t (T.str (bA (dz (q.den:Int))))]
theorem KQ(q:Rat):(q.den:Int).sign=1:=S6 (by have:=q.den_pos;omega)
theorem xm(q:Rat):Or (.call 64) [EQ q] []=some (RZ (q.den:Int)):=by
 have k:=oe (q.den:Int);rw [KQ] at k;refine an ?_;rw [EA];have h1:¬(1:Int)=0:=by omega
 simp only [aj,↓reduceIte,Int.reduceBEq,Int.reduceEq,GD,k,h1];rfl
theorem tl(x y:Int)(h:(dz x).length<=300)(hy:(dz y).length<=300)(l:y≠0):Or (.call 61) [LZ x,LZ y] []=some (NQ (Rat.divInt x y)):=by
 obtain⟨n,o⟩:=DU (u:=x) l;have c:((Nat.gcd x.natAbs y.natAbs:Nat):Int)≠0:=by have: 0 < Nat.gcd x.natAbs y.natAbs:=Nat.gcd_pos_of_pos_right _ (by omega);omega
 have b:(dz ((Nat.gcd x.natAbs y.natAbs:Nat):Int)).length<=300:=by have h1:Nat.gcd x.natAbs y.natAbs<=y.natAbs:=Nat.gcd_le_right _ (by omega);have:=vC (x:=y) (y:=((Nat.gcd x.natAbs y.natAbs:Nat):Int)) (by rw [Sb];exact h1);omega
 have e:((Nat.gcd x.natAbs y.natAbs:Nat):Int) ∣ x:=SB.2 (Ug _ _);have f:((Nat.gcd x.natAbs y.natAbs:Nat):Int) ∣ y:=SB.2 (Uy _ _);have a:((Int.gcd x y:Nat):Int)= ((Nat.gcd x.natAbs y.natAbs:Nat):Int):=rfl;have i:=oe y;by_cases hn:y < 0
 .obtain⟨q1,g⟩:=n hn;rw [a,Tr e,<-Vf e] at q1;rw [a,Tr f,<-Vf f] at g;have k2:=xn x;have m:=xn y;have d:=Io (-x) (-y) (by rw [sb];exact h) (by rw [sb];exact hy);rw [VM,VM] at d;have j:=xo (-x) _ (by rw [sb];exact h) b c ((Int.dvd_neg).2 e);have k:=xo (-y) _ (by rw [sb];exact hy) b c ((Int.dvd_neg).2 f);rw [S5 hn] at i;have h1:(-1:Int) < 0:=by omega
  unfold RZ at k2 m d;refine an ?_;rw [Ez];unfold NQ RZ;rw [q1,g];simp only [aj,↓reduceIte,Int.reduceBEq,Int.reduceEq,GD,i,h1,k2,m,d,j,k];rfl
 .obtain⟨q1,g⟩:=o hn;rw [a,Tr e] at q1;rw [a,Tr f] at g;have d:=Io x y h hy;have j:=xo x _ h b c e;have k:=xo y _ hy b c f;rw [S6 (by omega)] at i;have h1:¬(1:Int) < 0:=by omega
  unfold RZ at d;refine an ?_;rw [Ez];unfold NQ RZ;rw [q1,g];simp only [aj,↓reduceIte,Int.reduceBEq,Int.reduceEq,GD,i,h1,d,j,k];rfl
theorem PH(x:Int)(h: -9223372036854775808<=x/\x < 9223372036854775808):Or (.call 25) [I x] []=some (NQ (x:Rat)):=by have a:=th x h;have k2:=th 1 (by omega);unfold RZ at a k2;refine an ?_;rw [Li];simp only [aj,↓reduceIte,Int.reduceBEq,Int.reduceEq,GD,a,k2];rfl
theorem F0{x:Int}(h: -9223372036854775808<=x/\x < 9223372036854775808):(dz x).length<=2:=by
 refine vD ?_;have:(4294967296:Int) ^ 2=18446744073709551616:=by decide
 rw [this];omega
theorem PT(x y:Int)(b: -9223372036854775808<=x/\x < 9223372036854775808)(hy: -9223372036854775808<=y/\y < 9223372036854775808)(c:y≠0):Or (.call 70) [AV.agg [I x,I y]] []=some (NQ (Rat.divInt x y)):=by have d:=th x b;have k2:=th y hy;have a:=tl x y (by have:=F0 b;omega) (by have:=F0 hy;omega) c;unfold NQ at a⊢;unfold RZ at d k2 a⊢;refine an ?_;rw [LP];simp only [RU,R0] at a⊢;simp only [aj,↓reduceIte,Int.reduceBEq,Int.reduceEq,GD,d,k2,a]
theorem QB.ln{m:Nat}{q:Rat}(h:QB m q)(hm:m<=6300):(dz q.num).length<=200/\(dz (q.den:Int)).length<=200:=⟨Ap (h.lq hm).1,Ap (h.lq hm).2⟩
theorem kf{m:Nat}{z:Int}(hm:m<=6300)(h:z.natAbs<=2 ^ m):(dz z).length<=200:=Ap (Aq hm h)
theorem Ih(q:Rat):Or (.call 59) [EQ q] []=some (NQ (-q)):=by have a:=xn q.num;have k2:=xm q;unfold NQ;rw [tc,A9];unfold RZ at a k2⊢;refine an ?_;rw [vI];simp only [aj,↓reduceIte,Int.reduceBEq,Int.reduceEq,GD,a,k2];rfl
theorem Hf{q:Rat}(h:q≠0):q.num≠0:=λa=>h (Wk.1 a)
theorem DV(p:Rat){q:Rat}(a:q≠0):Rat.divInt (p.num * (q.den:Int)) ((p.den:Int) * q.num)=p / q:=by
 conv=>rhs;rw [<-Un p,<-Un q]
 rw [SF,Rat.inv_divInt,Rat.divInt_mul_divInt]
theorem Ie{m k:Nat}{p q:Rat}(d:QB m p)(e:QB k q)(h:m+k<=6300)(c:q≠0):Or (.call 28) [EQ p,EQ q] []=some (NQ (p / q))/\QB (m+k) (p / q):=by
 obtain⟨o,r⟩:=QB.ln d (by omega);obtain⟨t,u⟩:=QB.ln e (by omega);have l:(p.num * (q.den:Int)).natAbs<=2 ^ (m+k):=by rw [Ss,Sb];exact hH d.1 e.2
 have n:((p.den:Int) * q.num).natAbs<=2 ^ (m+k):=by rw [Ss,Sb];exact hH d.2 e.1
 have b:(p.den:Int) * q.num≠0:=Wj (by have:=p.den_pos;omega) (Hf c);have v:=kf h l;have w:=kf h n;have f:=xm p;have k2:=xm q;have g:=k8 p.num (q.den:Int) (by omega) (by omega);have i:=k8 (p.den:Int) q.num (by omega) (by omega);have a:=tl (p.num * (q.den:Int)) ((p.den:Int) * q.num) (by omega) (by omega) b;have j:=QB.divInt b l n;rw [DV p c] at a j;refine⟨?_,j⟩;unfold NQ at a⊢;unfold RZ at f k2 g i a⊢;refine an ?_;rw [vH];simp only [RU,R0] at a⊢;simp only [aj,↓reduceIte,Int.reduceBEq,Int.reduceEq,GD,f,k2,g,i,a]
theorem KF(p q:Rat):dC (p.num * (q.den:Int)) (q.num * (p.den:Int))=if p < q then -1 else if p=q then 0 else 1:=by
 unfold dC;have h1:(p.num * (q.den:Int) < q.num * (p.den:Int))↔p < q:=(Rat.lt_iff p q).symm;have d:(q.num * (p.den:Int) < p.num * (q.den:Int))↔q < p:=(Rat.lt_iff q p).symm;have e:(p.num * (q.den:Int)=q.num * (p.den:Int))↔p=q:=by
  constructor
  .intro h;have a:¬p < q:=λc=>by have:=h1.2 c;omega
   have b:¬q < p:=λc=>by have:=d.2 c;omega
   exact Wl (VZ.1 b) (VZ.1 a)
  .rintro rfl;rfl
 simp only [h1,e]
theorem Ig(x:Int)(h: -9223372036854775808 < x/\x < 9223372036854775808):Or (.call 57) [I x] []=some [T.int .u64 (x.natAbs:Int)]:=by
 refine an ?_;rw [LA];by_cases hn:x < 0
 .have a:u64.wrap (0 - u64.wrap x)= (x.natAbs:Int):=by simp only [pA];omega
  simp only [aj,↓reduceIte,Int.reduceBEq,Int.reduceEq,GD,hn,a]
 .have a:u64.wrap x= (x.natAbs:Int):=by rw [pA];omega
  simp only [aj,↓reduceIte,Int.reduceBEq,Int.reduceEq,GD,hn,a]
theorem GL:∀(m:Nat) (a b:Nat),b<=m->a < 9223372036854775808->b < 9223372036854775808->Or uv [u6 (a:Int),u6 (b:Int)] []=some [T.int .u64 (Nat.gcd a b:Nat)]
 | m,a,b,hm,g,hb=>by
  refine an ?_;rw [Lz];by_cases c:b=0
  .subst c;have c:((0:Nat):Int)=0:=rfl;simp only [aj,↓reduceIte,Int.reduceBEq,Int.reduceEq,GD,c,Uo]
  .have d:¬(b:Int)=0:=by omega
   have f:a % b < b:=U5 _ (by omega);have e:(a:Int).tmod (b:Int)= ((a % b:Nat):Int):=rfl
   match m with
   | 0=>omega
   | m+1=>have:=GL m b (a % b) (by omega) hb (by omega);rw [FM] at this;simp only [aj,↓reduceIte,Int.reduceBEq,Int.reduceEq,GD,d,e];exact this
theorem tg(x:Fr):Or (.call 22) [AV.agg [I x.1,I x.2]] []=some [ti (if eU x then 0 else 3),ti 0]:=by
 refine an ?_;rw [vG];by_cases hb:((x.2 < 1\/x.2 > 1073741824)\/x.1 < -1073741824)\/x.1 > 1073741824
 .have hn:¬eU x:=by unfold eU;omega
  rw [if_neg hn];simp only [im,<-S7];simp only [aj,↓reduceIte,Int.reduceBEq,Int.reduceEq,GD,dG,hb,decide_true];rfl
 .have d:=Ig x.1 (by omega);have k2:=Ig x.2 (by omega);have e:Or (.call 56) [u6 (x.1.natAbs:Int),u6 (x.2.natAbs:Int)] []=some [T.int .u64 (Nat.gcd x.1.natAbs x.2.natAbs:Nat)]:=by
   refine an ?_;rw [Ly];exact GL _ _ _ (R3 _) (by omega) (by omega)
  have c:(((Nat.gcd x.1.natAbs x.2.natAbs:Nat):Int)=1)↔Int.gcd x.1 x.2=1:=by show _↔Nat.gcd _ _=1;omega
  simp only [im,<-S7];by_cases h1:Int.gcd x.1 x.2=1
  .have hr:eU x:=by unfold eU;exact⟨by omega,by omega,by omega,by omega,h1⟩
   have a:=c.2 h1;rw [if_pos hr];simp only [aj,↓reduceIte,Int.reduceBEq,Int.reduceEq,GD,hb,decide_false,d,k2,e,a]
   try rfl
  .have hr:¬eU x:=λh=>h1 h.2.2.2.2;have a:¬((Nat.gcd x.1.natAbs x.2.natAbs:Nat):Int)=1:=λh=>h1 (c.1 h);have b:(((Nat.gcd x.1.natAbs x.2.natAbs:Nat):Int)==1)=false:=by simpa using a
   rw [if_neg hr];simp only [aj,↓reduceIte,Int.reduceBEq,Int.reduceEq,GD,hb,decide_false,d,k2,e,a,b]
   try rfl
open Go Go.Aev Go.Aev.Gen Go.Aev.Wd Go.IntKind
abbrev Nm:=Option Rat
def nv:Nm->Rat
 | none=>0
 | some q=>q
def nc:Nm->Bool
 | none=>false
 | some q=>decide ((q.den:Int) < 0)
def nd:Nm->ByteArray
 | none=>ByteArray.mk #[]
 | some q=>bA (dz (q.den:Int))
abbrev EN(x:Nm):AV:=AV.agg [B (decide ((nv x).num < 0)),AV.t (T.str (bA (dz (nv x).num))),B (nc x),AV.t (T.str (nd x))]
def NC(x:Nm):List T:= [tb (decide ((nv x).num < 0)),T.str (bA (dz (nv x).num)),tb (nc x),T.str (nd x)]
theorem qL(x:Nm):NC x= [tb (decide ((nv x).num < 0)),T.str (bA (dz (nv x).num)),tb (nc x),T.str (nd x)]:=rfl
theorem wL(q:Rat):NC (some q)=NQ q:=rfl
theorem Ot(q:Rat):nv (some q)=q:=rfl
theorem Hg:nv none=0:=rfl
theorem lK(x:Nm):Or (.call 64) [EN x] []=some (RZ ((nv x).den:Int)):=by
 cases x with
 | some q=>exact xm q
 | none=>have k:=oe 0;have a:=th 1 (by omega);have hz:LZ 0=AV.agg [B false,AV.t (T.str (ByteArray.mk #[]))]:=rfl;have c:EN none=AV.agg [B false,AV.t (T.str (ByteArray.mk #[])),B false,AV.t (T.str (ByteArray.mk #[]))]:=rfl;have h1:((nv none).den:Int)=1:=rfl;have b:Int.sign 0=0:=rfl;rw [hz,b] at k;rw [c,h1];unfold RZ at a⊢;refine an ?_;rw [EA];simp only [aj,↓reduceIte,Int.reduceBEq,Int.reduceEq,GD,k,a]
theorem xF(x:Int)(h: -9223372036854775808<=x/\x < 9223372036854775808):Or (.call 25) [I x] []=some (NC (some (x:Rat))):=PH x h
theorem Qt(x y:Int)(b: -9223372036854775808<=x/\x < 9223372036854775808)(hy: -9223372036854775808<=y/\y < 9223372036854775808)(a:y≠0):
  Or (.call 70) [AV.agg [I x,I y]] []=some (NC (some (Rat.divInt x y))):=PT x y b hy a
theorem xG{m k:Nat}{x y:Nm}(a:QB m (nv x))(b:QB k (nv y))(h:m+k+1<=6300):Or (.call 26) [EN x,EN y] []=some (NC (some (nv x+nv y))):=by obtain⟨j,l⟩:=QB.ln a (by omega);obtain⟨n,o⟩:=QB.ln b (by omega);have p:(dz ((nv x).num * ((nv y).den:Int))).length<=200:=kf (m:=m+k) (by omega) (by rw [Ss,Sb];exact hH a.1 b.2);have q:(dz ((nv y).num * ((nv x).den:Int))).length<=200:=kf (m:=k+m) (by omega) (by rw [Ss,Sb];exact hH b.1 a.2);have r:(dz ((nv x).num * ((nv y).den:Int)+ (nv y).num * ((nv x).den:Int))).length<=200:=kf h (yE a b);have t:(dz (((nv x).den:Int) * ((nv y).den:Int))).length<=200:=kf (m:=m+k) (by omega) (by rw [Ss,Sb,Sb];exact hH a.2 b.2);have d:=lK x;have k2:=lK y;have e:=k8 (nv x).num ((nv y).den:Int) (by omega) (by omega);have f:=k8 (nv y).num ((nv x).den:Int) (by omega) (by omega);have g:=PQ ((nv x).num * ((nv y).den:Int)) ((nv y).num * ((nv x).den:Int)) (by omega) (by omega) (by omega);have i:=k8 ((nv x).den:Int) ((nv y).den:Int) (by omega) (by omega);have c:=tl ((nv x).num * ((nv y).den:Int)+ (nv y).num * ((nv x).den:Int)) (((nv x).den:Int) * ((nv y).den:Int)) (by omega) (by omega) (vp _ _);rw [CO] at c;rw [wL];unfold NQ at c⊢;unfold RZ at d k2 e f g i c⊢;refine an ?_;rw [Lj];simp only [RU,R0] at c⊢;simp only [aj,↓reduceIte,Int.reduceBEq,Int.reduceEq,GD,d,k2,e,f,g,i,c]
theorem IY(x:Nm):Or (.call 59) [EN x] []=some (NC (some (-(nv x)))):=by have a:=xn (nv x).num;have k2:=lK x;rw [wL];unfold NQ;rw [tc,A9];unfold RZ at a k2⊢;refine an ?_;rw [vI];simp only [aj,↓reduceIte,Int.reduceBEq,Int.reduceEq,GD,a,k2];rfl
theorem BO{m k:Nat}{x y:Nm}(b:QB m (nv x))(c:QB k (nv y))(h:m+k+1<=6300):Or (.call 24) [EN x,EN y] []=some (NC (some (nv x - nv y))):=by
 have a:=IY y;have k2:=xG (x:=x) (y:=some (-(nv y))) b c.neg h;have e:nv x+nv (some (-(nv y)))=nv x - nv y:=by rw [Ot,Rat.sub_eq_add_neg]
 rw [e] at k2;rw [qL] at a k2⊢;refine an ?_;rw [Lh];simp only [aj,↓reduceIte,Int.reduceBEq,Int.reduceEq,GD,a,k2]
theorem BP{m k:Nat}{x y:Nm}(b:QB m (nv x))(c:QB k (nv y))(h:m+k<=6300):Or (.call 46) [EN x,EN y] []=some (NC (some (nv x * nv y))):=by obtain⟨g,i⟩:=QB.ln b (by omega);obtain⟨j,l⟩:=QB.ln c (by omega);have n:(dz ((nv x).num * (nv y).num)).length<=200:=kf (m:=m+k) (by omega) (by rw [Ss];exact hH b.1 c.1);have o:(dz (((nv x).den:Int) * ((nv y).den:Int))).length<=200:=kf (m:=m+k) (by omega) (by rw [Ss,Sb,Sb];exact hH b.2 c.2);have d:=lK x;have k2:=lK y;have e:=k8 (nv x).num (nv y).num (by omega) (by omega);have f:=k8 ((nv x).den:Int) ((nv y).den:Int) (by omega) (by omega);have a:=tl ((nv x).num * (nv y).num) (((nv x).den:Int) * ((nv y).den:Int)) (by omega) (by omega) (vp _ _);rw [Gy] at a;rw [wL];unfold NQ at a⊢;unfold RZ at d k2 e f a⊢;refine an ?_;rw [LO];simp only [RU,R0] at a⊢;simp only [aj,↓reduceIte,Int.reduceBEq,Int.reduceEq,GD,d,k2,e,f,a]
theorem Qy{m k:Nat}{x y:Nm}(d:QB m (nv x))(e:QB k (nv y))(h:m+k<=6300)(c:nv y≠0):Or (.call 28) [EN x,EN y] []=some (NC (some (nv x / nv y)))/\QB (m+k) (nv x / nv y):=by
 obtain⟨o,p⟩:=QB.ln d (by omega);obtain⟨q,r⟩:=QB.ln e (by omega);have l:((nv x).num * ((nv y).den:Int)).natAbs<=2 ^ (m+k):=by rw [Ss,Sb];exact hH d.1 e.2
 have n:(((nv x).den:Int) * (nv y).num).natAbs<=2 ^ (m+k):=by rw [Ss,Sb];exact hH d.2 e.1
 have b:((nv x).den:Int) * (nv y).num≠0:=Wj (by have:=(nv x).den_pos;omega) (Hf c);have t:=kf h l;have u:=kf h n;have f:=lK x;have k2:=lK y;have g:=k8 (nv x).num ((nv y).den:Int) (by omega) (by omega);have i:=k8 ((nv x).den:Int) (nv y).num (by omega) (by omega);have a:=tl ((nv x).num * ((nv y).den:Int)) (((nv x).den:Int) * (nv y).num) (by omega) (by omega) b;have j:=QB.divInt b l n;rw [DV _ c] at a j;refine⟨?_,j⟩;rw [wL];unfold NQ at a⊢;unfold RZ at f k2 g i a⊢;refine an ?_;rw [vH];simp only [RU,R0] at a⊢;simp only [aj,↓reduceIte,Int.reduceBEq,Int.reduceEq,GD,f,k2,g,i,a]
def cq(p q:Rat):Int:=if p < q then -1 else if p=q then 0 else 1
theorem xE{m k:Nat}{x y:Nm}(a:QB m (nv x))(b:QB k (nv y))(h:m+k<=6300):Or (.call 27) [EN x,EN y] []=some [ti (cq (nv x) (nv y))]:=by obtain⟨g,i⟩:=QB.ln a (by omega);obtain⟨j,l⟩:=QB.ln b (by omega);have n:=kf (z:=(nv x).num * ((nv y).den:Int)) h (by rw [Ss,Sb];exact hH a.1 b.2);have o:=kf (m:=k+m) (z:=(nv y).num * ((nv x).den:Int)) (by omega) (by rw [Ss,Sb];exact hH b.1 a.2);have c:=lK x;have k2:=lK y;have d:=k8 (nv x).num ((nv y).den:Int) (by omega) (by omega);have e:=k8 (nv y).num ((nv x).den:Int) (by omega) (by omega);have f:=PR ((nv x).num * ((nv y).den:Int)) ((nv y).num * ((nv x).den:Int)) (by omega) (by omega);rw [KF] at f;unfold cq;unfold RZ at c k2 d e;refine an ?_;rw [Lk];simp only [aj,↓reduceIte,Int.reduceBEq,Int.reduceEq,GD,c,k2,d,e,f]
theorem pw(x:Nm):Or (.call 36) [EN x] []=some [ti (nv x).num.sign]:=by have k:=oe (nv x).num;refine an ?_;rw [Lc];simp only [aj,↓reduceIte,Int.reduceBEq,Int.reduceEq,GD,k]
def fy(q:Rat):Bool:=decide (-1073741824<=q.num/\q.num<=1073741824/\(q.den:Int)<=1073741824)
theorem O5(q:Rat):Int.gcd q.num (q.den:Int)=1:=q.reduced
theorem Fx(q:Rat):eU (q.num,(q.den:Int))↔fy q=true:=by
 have h1:=q.den_pos;have e:=O5 q;unfold eU fy;rw [decide_eq_true_iff];constructor
 .rintro⟨a,b,c,d,_⟩;exact⟨c,d,b⟩
 .rintro⟨a,b,c⟩;exact⟨by dsimp only;omega,c,a,b,e⟩
theorem Qv{m:Nat}{x:Nm}(g:QB m (nv x))(h:m<=6300):Or (.call 29) [EN x] []=some (if fy (nv x)=true then [ti (nv x).num,ti ((nv x).den:Int),tb true] else [ti 0,ti 0,tb false]):=by
 obtain⟨j,k⟩:=QB.ln g h;have b:=Ii (nv x).num (by omega);have k2:=lK x;have a:=Ii ((nv x).den:Int) (by omega);have e:=tg ((nv x).num,((nv x).den:Int));have l:=(nv x).den_pos;unfold RZ at k2;refine an ?_;rw [Ll];by_cases c:fy (nv x)=true
 .have hr:=(Fx _).2 c;rw [if_pos hr] at e;rw [if_pos c];unfold fy at c;have i:=of_decide_eq_true c;rw [if_pos (by omega)] at b a;simp only [aj,↓reduceIte,Int.reduceBEq,Int.reduceEq,GD,b,k2,a,e]
 .have hr:¬eU ((nv x).num,((nv x).den:Int)):=λh=>c ((Fx _).1 h);rw [if_neg hr] at e;rw [if_neg c];by_cases h1: -9223372036854775808<=(nv x).num/\(nv x).num < 9223372036854775808
  .by_cases d: -9223372036854775808<=((nv x).den:Int)/\((nv x).den:Int) < 9223372036854775808
   .rw [if_pos h1] at b;rw [if_pos d] at a;have f:((3:Int)==0)=false:=rfl;simp only [aj,↓reduceIte,Int.reduceBEq,Int.reduceEq,GD,b,k2,a,e,f]
    try rfl
   .rw [if_pos h1] at b;rw [if_neg d] at a;simp only [aj,↓reduceIte,Int.reduceBEq,Int.reduceEq,GD,dG,b,k2,a]
    try rfl
  .rw [if_neg h1] at b;by_cases d: -9223372036854775808<=((nv x).den:Int)/\((nv x).den:Int) < 9223372036854775808
   .rw [if_pos d] at a;simp only [aj,↓reduceIte,Int.reduceBEq,Int.reduceEq,GD,dG,b,k2,a]
    try rfl
   .rw [if_neg d] at a;simp only [aj,↓reduceIte,Int.reduceBEq,Int.reduceEq,GD,dG,b,k2,a]
    try rfl
def bg(l:List Nm):List (List T):=l.map NC
theorem dP(l:List Nm):(bg l).length=l.length:=by simp [bg]
theorem fU{l:List Nm}{i:Nat}{x:Nm}(h:l[i]? =some x):(bg l)[((i:Nat):Int).toNat]? =some [tb (decide ((nv x).num < 0)),T.str (bA (dz (nv x).num)),tb (nc x),T.str (nd x)]:=by simp [bg,h,NC]
theorem nD{l:List Nm}{i:Nat}(hi:i < l.length)(x:Nm):bt ((i:Nat):Int).toNat 0 [tb (decide ((nv x).num < 0)),T.str (bA (dz (nv x).num)),tb (nc x),T.str (nd x)] (bg l)=some (bg (l.set i x)):=by
 have h1:(bg l)[((i:Nat):Int).toNat]? =some (NC l[i]):=by simp [bg,hi]
 simp only [bt,h1];simp [bE,bg,NC,Uk]
theorem Ma(a b:List Nm):bg a++bg b=bg (a++b):=by simp [bg]
theorem zD(n:Nat):List.replicate n [tb false,T.str (ByteArray.mk #[]),tb false,T.str (ByteArray.mk #[])]=bg (List.replicate n none):=by unfold bg;rw [VS];rfl
end Go.Aev.Wd.Lg
