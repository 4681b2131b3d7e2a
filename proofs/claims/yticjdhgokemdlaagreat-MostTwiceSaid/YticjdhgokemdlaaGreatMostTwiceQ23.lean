import Derived.Test.YticjdhgokemdlaaGreatMostTwiceQ22
import Derived.Test.YticjdhgokemdlaaGreatMostTwiceQ20
import Derived.Test.YticjdhgokemdlaaGreatMostTwiceQ21
import Derived.Test.YticjdhgokemdlaaGreatMostTwiceQ19
import Derived.Test.YticjdhgokemdlaaGreatMostTwiceQ18
import Derived.Test.YticjdhgokemdlaaGreatMostTwiceQ5
set_option linter.all false
namespace Go.Aev.Wd.Lg
open Go Go.Aev Go.Aev.Gen Go.Aev.Wd Go.Aev.Tb Go.IntKind
def kC(k c:Int):Bool:= !(decide (c > k) || decide (c < -k))
def pv(k:Int)(r:R):Bool:=r.of.all (kC k) && kC k r.tv
theorem Dt(i:Nat)(h:i<=140737488355328):i64.wrap ((i:Int)+1)= ((i+1:Nat):Int):=by rw [Go.Aev.wr (by omega)];omega
theorem SM(er:Bool)(rows:List R)(k:Nat)(y:k<=100){i:Nat}{r:R}(g:rows[i]? =some r)(hi:i<=100)(w:r.of.length * 8<=140737488355328){b:Bool}(q:Or uo [LR er rows,I (k:Int),I ((i+1:Nat):Int)] []=some [tb b]):
  ∀(a:List Int) (j:Nat),r.of.drop j=a->Or xL [LR er rows,I (k:Int),I (i:Int),I (j:Int)] []=some [tb (a.all (kC k) && kC k r.tv && b)]:=by
 have v:i < rows.length:=(Vi.1 g).1;have m:(i:Int) < (rows.length:Int):=by omega
 have l: 0<=(i:Int):=by omega
 have n:i64.wrap (0 - (k:Int))= -(k:Int):=by rw [Go.Aev.wr (by omega)];omega
 intro a;induction a with
 | nil=>
  intro j h;have h1:¬(j:Int) < (r.of.length:Int):=by have:=bw h;omega
  rw [ZG,WS];refine al ?_;rw [HA];unfold kC;by_cases d:r.tv > (k:Int)
  .simp only [bE,ai,↓reduceIte,Int.reduceBEq,Int.reduceEq,GD,h1,m,l,and_self,bY,fK g,cJ,d,n,decide_true];rfl
  .by_cases f:r.tv < -(k:Int)
   .simp only [bE,ai,↓reduceIte,Int.reduceBEq,Int.reduceEq,GD,h1,m,l,and_self,bY,fK g,cJ,d,f,n,decide_true,decide_false];rfl
   .simp only [bE,ai,↓reduceIte,Int.reduceBEq,Int.reduceEq,GD,h1,m,l,and_self,bY,fK g,cJ,d,f,n,decide_false,Dt i (by omega)];exact q
 | cons c a u=>
  intro j h;obtain⟨o,x,t⟩:=bt h;have h1:(j:Int) < (r.of.length:Int):=by omega
  have p: 0<=(j:Int):=by omega
  have s:=u (j+1) t;rw [WV];refine al ?_;rw [HA];by_cases d:c > (k:Int)
  .have e:kC k c=false:=by unfold kC;simp [d]
   rw [e];simp only [bE,ai,↓reduceIte,Int.reduceBEq,Int.reduceEq,GD,h1,m,l,p,and_self,bY,fK g,cJ,iV o,d,n,decide_true]
  .by_cases f:c < -(k:Int)
   .have e:kC k c=false:=by unfold kC;simp [f]
    rw [e];simp only [bE,ai,↓reduceIte,Int.reduceBEq,Int.reduceEq,GD,h1,m,l,p,and_self,bY,fK g,cJ,iV o,d,f,n,decide_true,decide_false]
   .have e:kC k c=true:=by unfold kC;simp [d,f]
    rw [e,WS];simp only [bE,ai,↓reduceIte,Int.reduceBEq,Int.reduceEq,GD,h1,m,l,p,and_self,bY,fK g,cJ,iV o,d,f,n,decide_false,Dt j (by omega)];exact s
theorem SN(er:Bool)(rows:List R)(k:Nat)(e:k<=100)(hm:rows.length<=100)(c:∀r∈rows,r.of.length * 8<=140737488355328):∀(a:List R) (i:Nat),rows.drop i=a->
  Or uo [LR er rows,I (k:Int),I (i:Int)] []=some [tb (a.all (pv k))]:=by
 intro a;induction a with
 | nil=>
  intro i h;have h1:¬(i:Int) < (rows.length:Int):=by have:=bw h;omega
  refine al ?_;rw [Hz];simp only [ai,↓reduceIte,Int.reduceBEq,Int.reduceEq,GD,h1,bY,ZG]
 | cons r a f=>
  intro i h;obtain⟨b,g,d⟩:=bt h;have h1:(i:Int) < (rows.length:Int):=by omega
  have:=SM er rows k e b (by omega) (c r (Va b)) (f (i+1) d) r.of 0 rfl;rw [WV];refine al ?_;rw [Hz];simp only [ai,↓reduceIte,Int.reduceBEq,Int.reduceEq,GD,h1,bY];exact this
def m7(rows:List R)(n:Int)(a m k:Nat):Bool:=decide (n<=a) && decide (rows.length<=m) && rows.all (pv k)
theorem Ea(er:Bool)(rows:List R)(n:Int)(a m k:Nat)(d:k<=100)(hm:m<=100)(c:∀r∈rows,r.of.length * 8<=140737488355328):Or (.call 19) [LR er rows,I n,I (a:Int),I (m:Int),I (k:Int)] []=some [tb (m7 rows n a m k)]:=by
 unfold m7;by_cases h1:n > (a:Int)
 .rw [decide_eq_false (by omega:¬n<=(a:Int))];refine al ?_;rw [Cg];simp only [ai,↓reduceIte,Int.reduceBEq,Int.reduceEq,GD,h1]
 .rw [decide_eq_true (by omega:n<=(a:Int))];by_cases b:(rows.length:Int) > (m:Int)
  .rw [decide_eq_false (by omega:¬rows.length<=m)];refine al ?_;rw [Cg];simp only [ai,↓reduceIte,Int.reduceBEq,Int.reduceEq,GD,h1,bY,b,decide_true]
  .rw [decide_eq_true (by omega:rows.length<=m)];have:=SN er rows k d (by omega) c rows 0 rfl;refine al ?_;rw [Cg];simp only [ai,↓reduceIte,Int.reduceBEq,Int.reduceEq,GD,h1,bY,b,decide_false];exact this
theorem JT{k:Nat}{c:Int}(h:kC k c=true): -(k:Int)<=c/\c<=k:=by unfold kC at h;simp at h;omega
theorem El{rows:List R}{n:Int}{a m k:Nat}(h:m7 rows n a m k=true):n<=a/\rows.length<=m/\∀r∈rows,(∀c∈r.of, -(k:Int)<=c/\c<=k)/\ -(k:Int)<=r.tv/\r.tv<=k:=by unfold m7 at h;simp only [Ve,decide_eq_true_eq,Vu] at h;refine⟨h.1.1,h.1.2,λr d=> ?_⟩;have:=h.2 r d;unfold pv at this;simp only [Ve,Vu] at this;exact⟨λc b=>JT (this.1 c b),JT this.2⟩
theorem CM:∀{gl:List Int} {i:Nat},(∀c∈gl, -9<=c/\c<=9)->eS gl i= (0,0)
 | [],_,_=>rfl
 | c::gl,i,h=>by have:=h c Vb;rw [eS,if_pos (by omega)];exact CM λd a=>h d (Vc _ a)
theorem yt{n:Int}{rows:List R}{gl:List Int}(h:∀c∈gl, -4<=c/\c<=4):dQ n rows (gv gl)=dQ n rows gl:=by
 have h1:eS gl 0= (0,0):=CM λc a=>by have:=h c a;omega
 have b:eS (gv gl) 0= (0,0):=CM λc a=>by obtain⟨d,f,rfl⟩:=VK.1 a;have:=h d f;omega
 have e:(gv gl).length=gl.length:=by simp [gv]
 unfold dQ;rw [h1,b,e]
theorem yH{n:Int}{rows:List R}{gl:List Int}(j:∀r∈rows,r.e=true->r.of= [])(er eg:Bool):∃(s o p:Int) (x y:T) (c a:Int),
  Or (.call 13) [LR er rows,I n,aa eg gl,I 2000] []=some [ti s,ti o,ti p,x,y,ti c,ti a]/\(∃b l,T.aQ 2 x=some (b,l))/\(∃b l,T.aQ 2 y=some (b,l))/\(c=0->(dQ n rows gl).1=0)/\
   ((dQ n rows gl).1≠0->s=0/\c= (dQ n rows gl).1):=by
 have d:=Ar rows er eg n gl 2000 j;have g:∃b l,T.aQ 2 (T.aK true)=some (b,l):=⟨_,_,cV 2 true⟩;have i:∀l,∃b k,T.aQ 2 (lF l)=some (b,k):=λl=>⟨_,_,qP 2 _ _⟩;by_cases f:(dQ n rows gl).1=0
 .obtain⟨u,go⟩:=vg j f;rw [if_neg (by omega),if_neg (by decide)] at d;rcases Gd go (2000:Int).toNat with e | e | ⟨v,pl,m,e,_⟩ | ⟨m,q,e,_⟩ | ⟨pl,t,e,_⟩ <;> rw [e] at d
  .exact⟨_,_,_,_,_,_,_,d,g,g,λ_=>f,λh=>absurd f h⟩
  .exact⟨_,_,_,_,_,_,_,d,g,g,λ_=>f,λh=>absurd f h⟩
  .exact⟨_,_,_,_,_,_,_,d,i _,i _,λ_=>f,λh=>absurd f h⟩
  .exact⟨_,_,_,_,_,_,_,d,g,i _,λ_=>f,λh=>absurd f h⟩
  .exact⟨_,_,_,_,_,_,_,d,i _,g,λ_=>f,λh=>absurd f h⟩
 .rw [if_pos f] at d;exact⟨_,_,_,_,_,_,_,d,g,g,λh=>absurd h f,λ_=>⟨rfl,rfl⟩⟩
theorem CA{v:Fr}(h:bI v):∃z,Or (.call 18) [Av v] []=some [z]/\WR (aW v) z:=Ip v.1 v.2 (by have:=h.b;unfold kM at this;unfold Sm;omega) (by have:=h.b;unfold kM at this;unfold Sm;omega) (by have:=h.1;omega)
noncomputable def tL(er eg e2:Bool)(c y B:JL)(u:Int)(b:Bool)(d:JL)(e f:Int):Option (List T):=
 kN (Or (.call 13) [Jl 3 er c,I u,Jl 1 eg y,I 2000] []) λl n g h=>fG (List.drop 2 l.tail).head? λp=>fG (List.drop 2 l.tail).tail.head? λp=>dO (List.drop 2 l.tail).tail.tail.head? λi=>dO (List.drop 2 l.tail).tail.tail.tail.head? λD=>kN (Or (.call 13) [Jl 3 er c,I u,Jl 1 e2 B,I 2000] []) λl j v w=>fG (List.drop 2 l.tail).head? λp=>fG (List.drop 2 l.tail).tail.head? λp=>dO (List.drop 2 l.tail).tail.tail.head? λk=>dO (List.drop 2 l.tail).tail.tail.tail.head? λE=>Jg (bu 40 c.length) λx=>Jg (bu 40 (c.length+ [[T.aa 1 b d,Ji e,Ji f]].length)) λx=>kN (Or (.call 13) [AV.t (T.aa 3 (c.isEmpty && false) (c++ [[T.aa 1 b d,Ji e,Ji f]])),I u,Jl 1 eg y,I 2000] []) λl a m o=>fG (List.drop 2 l.tail).head? λp=>fG (List.drop 2 l.tail).tail.head? λp=>dO (List.drop 2 l.tail).tail.tail.head? λq=>dO (List.drop 2 l.tail).tail.tail.tail.head? λC=>bif bif bif !i==0 then true else !k==0 then true else !q==0 then some [Jb (bif i==k then n==j else false)] else bif bif bif !n==j then true else bif n==2 then !a==2 else false then true else bif n==1 then a==3 else false then some [Jb false] else jE (some (n==1)) (bG (some (n==1)) (Or (.call 18) [AV.agg [I v,I w]] [])) λx=>jE (some (n==1)) (bG (some (n==1)) (Or (.call 18) [AV.agg [I (i64.wrap (2 * g)),I h]] [])) λz=>G8 (some (n==1)) (bG (some (n==1)) (Or (.call 17) [AV.t x,AV.t z] [])) λr=>bif bif n==1 then !r==0 else false then some [Jb false] else jE (some !bif !n==1 then true else !a==1) (bG (some !bif !n==1 then true else !a==1) (Or (.call 18) [AV.agg [I m,I o]] [])) λx=>jE (some !bif !n==1 then true else !a==1) (bG (some !bif !n==1 then true else !a==1) (Or (.call 18) [AV.agg [I g,I h]] [])) λA=>G8 (some !bif !n==1 then true else !a==1) (bG (some !bif !n==1 then true else !a==1) (Or (.call 17) [AV.t x,AV.t A] [])) λs=>some [Jb (bif bif !n==1 then true else !a==1 then true else decide (s<=0))]
theorem TO(rows:List R)(er eg e2:Bool)(n:Int)(gl:List Int)(r:R)(g:∀r∈rows,r.e=true->r.of= [])(hr2:r.e=true->r.of= [])(hn:n<=3)(hm:rows.length<=7)(V:∀r∈rows,(∀c∈r.of, -9<=c/\c<=9)/\ -9<=r.tv/\r.tv<=9)
  (Z:(∀c∈r.of, -9<=c/\c<=9)/\ -9<=r.tv/\r.tv<=9) (F:∀c∈gl, -4<=c/\c<=4):tL er eg e2 (cU rows) (enc gl) (enc (gv gl)) n r.e (enc r.of) r.kd r.tv=some [tb true]:=by
 have z:∀q∈rows++ [r],q.e=true->q.of= []:=λq K=>by
  rcases Vr.1 K with h | h
  .exact g q h
  .rw [Vk.1 h];exact hr2
 have D:bu 40 rows.length=some ():=iL (by omega);have E:bu 40 (rows.length+ [[T.aa 1 r.e (enc r.of),ti r.kd,ti r.tv]].length)=some ():=iL (by simp;omega);have B:cU rows++ [[T.aa 1 r.e (enc r.of),ti r.kd,ti r.tv]]=cU (rows++ [r]):=by rw [<-Hk];rfl
 unfold tL;by_cases C:(dQ n rows gl).1=0
 .obtain⟨hn',go⟩:=vg g C;obtain⟨_,go2⟩:=vg (gl:=gv gl) g (by rw [yt F];exact C);have sm:kQ n.toNat rows:=⟨by omega,by omega,λr g=>(V r g).1,λr g=>(V r g).2⟩;have f:=Ar rows er eg n gl 2000 g;have d:=Ar rows er e2 n (gv gl) 2000 g;rw [if_neg (by omega),if_neg (by decide)] at f;rw [yt F,if_neg (by omega),if_neg (by decide)] at d;obtain⟨k,v,w,x,y,x',y',e,e',⟨_,_,m⟩,⟨_,_,o⟩,⟨_,_,p⟩,⟨_,_,t⟩,hv,hrow⟩:=TU go go2 sm F;have d2:(2000:Int).toNat=2000:=rfl;rw [d2,e] at f;rw [d2,e'] at d;obtain⟨s,N,u2,x2,y2,c,a,l,⟨_,_,l5⟩,⟨_,_,l6⟩,hcc,_⟩:=yH (n:=n) (gl:=gl) z false eg;by_cases G:c=0
  .have hcr:=hcc G;obtain⟨_,gor⟩:=vg z hcr;have smr:kQ n.toNat (rows++ [r]):=⟨by omega,by simp;omega,λq K=>by
    rcases Vr.1 K with h | h
    .exact(V q h).1
    .rw [Vk.1 h];exact Z.1,λq K=>by
    rcases Vr.1 K with h | h
    .exact(V q h).2
    .rw [Vk.1 h];exact Z.2⟩
   obtain⟨k2,u,x3,y3,e3,⟨_,_,S⟩,⟨_,_,U⟩,w1,w2,w3⟩:=hrow r gor smr;have i:=Ar (rows++ [r]) false eg n gl 2000 z;rw [if_neg (by omega),if_neg (by decide),d2,e3] at i;by_cases H:k=1
   .subst H;obtain⟨W,v2,v3⟩:=hv rfl;obtain⟨z1,k18w,z2⟩:=CA v2;obtain⟨z3,k18v,z4⟩:=CA W;have hb:=W.b;unfold kM at hb;have Y:i64.wrap (2 * v.1)=2 * v.1:=Go.Aev.wr (by omega);obtain⟨z5,M,z6⟩:=Ip (2 * v.1) v.2 (by unfold Sm;omega) (by unfold Sm;omega) (by omega);have e6:Rat.divInt (2 * v.1) v.2=2 * aW v:=PS v;have q6:QB 31 (Rat.divInt (2 * v.1) v.2):=QB.divInt (by omega) (by omega) (by omega);have L:=FY z2 z6 (ze v2.b.1 v2.b.2) q6 (by omega);rw [(M6 (aW w) (Rat.divInt (2 * v.1) v.2)).2 (by rw [e6];exact v3)] at L;have A:Or (.call 18) [AV.agg [I w.1,I w.2]] []=some [z1]:=k18w;have Q:Or (.call 18) [AV.agg [I v.1,I v.2]] []=some [z3]:=k18v;have X:¬k2=3:=w2 rfl;have hk3b:(k2==3)=false:=by simpa using X
    by_cases j:k2=1
    .subst j;obtain⟨N,u2⟩:=w3 rfl rfl;obtain⟨z7,k18u,z8⟩:=CA N;have P:Or (.call 18) [AV.agg [I u.1,I u.2]] []=some [z7]:=k18u;have k17':=FY z8 z4 (ze N.b.1 N.b.2) (ze W.b.1 W.b.2) (by omega);have hle:se (aW u) (aW v)<=0:=by
      have:¬se (aW u) (aW v) > 0:=λh=>by have:=(vR (aW u - aW v)).1 h;grind
      omega
     simp only [bE,ai,↓reduceIte,Int.reduceBEq,Int.reduceEq,GD,D,E,B,bY,f,d,i,m,o,p,t,S,U,A,Y,M,L,P,Q,k17',hle,decide_true]
    .have O:(k2==1)=false:=by simpa using j
     simp only [bE,ai,↓reduceIte,Int.reduceBEq,Int.reduceEq,GD,D,E,B,bY,f,d,i,m,o,p,t,S,U,A,Y,M,L,X,hk3b,j,O]
   .have hk1b:(k==1)=false:=by simpa using H
    by_cases J:k=2
    .subst J;obtain rfl:=w1 rfl;simp only [bE,ai,↓reduceIte,Int.reduceBEq,Int.reduceEq,GD,D,E,B,bY,f,d,i,m,o,p,t,S,U]
    .have hk2b:(k==2)=false:=by simpa using J
     simp only [bE,ai,↓reduceIte,Int.reduceBEq,Int.reduceEq,GD,D,E,B,bY,f,d,i,m,o,p,t,S,U,H,hk1b,J,hk2b]
  .have hc2b:(c==0)=false:=by simpa using G
   simp only [bE,ai,↓reduceIte,Int.reduceBEq,Int.reduceEq,GD,D,E,B,bY,f,d,l,m,o,p,t,l5,l6,G,hc2b]
 .obtain⟨s,N,u2,x1,y1,c,a,f,⟨_,_,m⟩,⟨_,_,o⟩,_,hb1⟩:=yH (n:=n) (gl:=gl) g er eg;obtain⟨s',u1',u2',x1',y1',c',a',d,⟨_,_,p⟩,⟨_,_,t⟩,_,hb2⟩:=yH (n:=n) (gl:=gv gl) g er e2;obtain⟨s'',u1'',u2'',x2,y2,c'',a'',l,⟨_,_,l5⟩,⟨_,_,l6⟩,_,_⟩:=yH (n:=n) (gl:=gl) z false eg;obtain⟨rfl,rfl⟩:=hb1 C;obtain⟨rfl,rfl⟩:=hb2 (by rw [yt F];exact C);rw [yt F] at d;have hcb:((dQ n rows gl).1==0)=false:=by simpa using C
  simp only [bE,ai,↓reduceIte,Int.reduceBEq,Int.reduceEq,GD,D,E,B,bY,f,d,l,m,o,p,t,l5,l6,C,hcb]
theorem TT{gl:List Int}{i:Nat}{c:Int}(h:gl[i]? =some c):enc (gv (gl.take i))++ [[ti (2 * c)]]=enc (gv (gl.take (i+1))):=by rw [XM,h];simp [gv,enc]
theorem Qr(rows:List R)(er eg:Bool)(n:Int)(gl:List Int)(r:R)(k:∀c∈gl, -4<=c/\c<=4)(t:gl.length * 8<=140737488355328)(o:∀e2,tL er eg e2 (cU rows) (enc gl) (enc (gv gl)) n r.e (enc r.of) r.kd r.tv=some [tb true]):
  ∀(a:List Int) (i:Nat),gl.drop i=a->0 < i->Or p9 [LR er rows,I n,aa eg gl,r0,AV.own (Id.c 1),I (i:Int)] [ab.box [aa r.e r.of,I r.kd,I r.tv],ab.sl false 1 false (enc (gv (gl.take i)))]=some [tb true]:=by
 intro a;induction a with
 | nil=>
  intro i h hi;have h1:¬(i:Int) < (gl.length:Int):=by have:=bw h;omega
  have m:gl.take i=gl:=V9 (by have:=bw h;omega);have:=o false;rw [m];refine al ?_;rw [HM];unfold tL at this;simp only [qm,h1,cJ,if_false];exact this
 | cons c a p=>
  intro i h hi;obtain⟨d,q,j⟩:=bt h;have h1:(i:Int) < (gl.length:Int):=by omega
  have l: 0<=(i:Int):=by omega
  have s:=k c (Va d);have f:i64.wrap (2 * c)=2 * c:=Go.Aev.wr (by omega);have b:bu 8 ((enc (gv (gl.take i))).length+ [[ti (2 * c)]].length)=some ():=by unfold bu;rw [if_pos (.inr ⟨by decide,by rw [cJ];simp [gv];omega⟩)]
  have g:=p (i+1) j (by omega);refine al ?_;rw [HM];simp only [ai,↓reduceIte,Int.reduceBEq,Int.reduceEq,GD,h1,l,and_self,cJ,iV d,f,b,TT d,Dt i (by omega)];rw [cJ] at b;simp only [b,CJ];exact g
theorem Qq(rows:List R)(er eg:Bool)(n:Int)(gl:List Int)(r:R)(b:∀c∈gl, -4<=c/\c<=4)(h:gl.length * 8<=140737488355328)(d:∀e2,tL er eg e2 (cU rows) (enc gl) (enc (gv gl)) n r.e (enc r.of) r.kd r.tv=some [tb true]):
  Or p9 [LR er rows,I n,aa eg gl,r0,AV.t (T.aK true),I 0] [ab.box [aa r.e r.of,I r.kd,I r.tv]]=some [tb true]:=by
 cases gl with
 | nil=>have:=d true;refine al ?_;rw [HL];unfold tL at this;simp only [qm,cJ];exact this
 | cons c a=>
  have:=Qr rows er eg n (c::a) r b h d a 1 rfl (by omega);have i:=b c Vb;have f:i64.wrap (2 * c)=2 * c:=Go.Aev.wr (by omega);have h1:(0:Int) < ((c::a).length:Int):=by rw [Vy];omega
  have g:(enc (c::a))[(0:Int).toNat]? =some [ti c]:=rfl;have hz:(0:Int)<=0:=Yh 0;refine al ?_;rw [HL];simp only [ai,↓reduceIte,Int.reduceBEq,Int.reduceEq,GD,h1,hz,and_self,cJ,g,f];exact this
set_option maxRecDepth 100000 in
theorem Qu(rows:List R)(er eg:Bool)(n:Int)(gl:List Int)(r:R)(u:∀r∈rows,r.e=true->r.of= [])(p:r.e=true->r.of= [])(s:∀r∈rows,r.of.length * 8<=140737488355328)(o:r.of.length * 8<=140737488355328)(m:gl.length * 8<=140737488355328):
  Or (.call 5) [LR er rows,I n,aa eg gl,AV.agg [aa r.e r.of,I r.kd,I r.tv]] []=some [tb true]:=by
 have a:Or (.call 19) [LR er rows,I n,I 3,I 7,I 9] []=some [tb (m7 rows n 3 7 9)]:=Ea er rows n 3 7 9 (by decide) (by decide) s;have k2:Or (.call 19) [AV.t (T.aa 3 false [[T.aa 1 eg (enc gl),ti 0,ti 0]]),I n,I 3,I 1,I 4] []=some [tb (m7 [⟨eg,gl,0,0⟩] n 3 1 4)]:=Ea false [⟨eg,gl,0,0⟩] n 3 1 4 (by decide) (by decide) (λq j=>by rw [Vk.1 j];exact m);have d:Or (.call 19) [AV.t (T.aa 3 false [[T.aa 1 r.e (enc r.of),ti r.kd,ti r.tv]]),I n,I 3,I 1,I 9] []=some [tb (m7 [r] n 3 1 9)]:=Ea false [r] n 3 1 9 (by decide) (by decide) (λq j=>by rw [Vk.1 j];exact o);refine al ?_;rw [OX];cases f:m7 rows n 3 7 9 with
 | false=>rw [f] at a;simp only [bE,ai,↓reduceIte,Int.reduceBEq,Int.reduceEq,GD,u7,a]
 | true=>
  rw [f] at a;cases g:m7 [⟨eg,gl,0,0⟩] n 3 1 4 with
  | false=>rw [g] at k2;simp only [bE,ai,↓reduceIte,Int.reduceBEq,Int.reduceEq,GD,u7,a,k2]
  | true=>
   rw [g] at k2;cases h:m7 [r] n 3 1 9 with
   | false=>rw [h] at d;simp only [bE,ai,↓reduceIte,Int.reduceBEq,Int.reduceEq,GD,u7,a,k2,d]
   | true=>
    rw [h] at d;obtain⟨v,w,x⟩:=El f;obtain⟨_,_,y⟩:=El g;obtain⟨_,_,z⟩:=El h;have l:∀c∈gl, -4<=c/\c<=4:=(y _ (Vk.2 rfl)).1;have k:=Qq rows er eg n gl r l m λe2=>TO rows er eg e2 n gl r u p v w x (z r (Vk.2 rfl)) l;by_cases i:r.kd=2
    .have b:(r.kd=2)=True:=eq_true i;simp only [bE,ai,↓reduceIte,Int.reduceBEq,Int.reduceEq,GD,u7,a,k2,d,b]
    .have b:(r.kd==2)=false:=by simpa using i
     simp only [bE,ai,↓reduceIte,Int.reduceBEq,Int.reduceEq,GD,u7,a,k2,d,i,b];exact k
open Go Go.Aev Go.Aev.Gen Go.Aev.Wd Go.Proofs
set_option maxRecDepth 1000000 in
theorem vr{n:Nat}{ts:List T}(h:Wt ao (n+1) 3 ts):∃m:Int,ts= [ti m]:=by have c:ao.underlying 3=some (.int .i64):=Tryz.underlying3;have b:=@UZ ao n 3 ts .i64 c h;obtain⟨m,a,_⟩:=b;exact⟨m,a⟩
theorem FP:ao.cellsOf 3=1:=by kernel_rfl
theorem M0:ao.cellsOf 46=3:=by kernel_rfl
set_option maxRecDepth 1000000 in
theorem Qk{n:Nat}{a:AV}(h:(bp ao 3=true/\∃l,Wt ao (n+1) 3 l/\a= .agg (l.map .t))\/(bp ao 3=false/\∃x,Wt ao (n+1) 3 [x]/\a= .t x)):∃m,a=I m:=by obtain⟨x,h1,rfl⟩:=Bv h (by kernel_rfl);obtain⟨m,b⟩:=vr h1;simp only [Xn,and_true] at b;subst b;exact⟨m,rfl⟩
open Go Go.Aev Go.Aev.Gen Go.Aev.Wd Go.Proofs
theorem FE:ao.bytesOf 3=8:=by kernel_rfl
set_option maxRecDepth 1000000 in
theorem Kx{n:Nat}{ts:List T}(h:Wt ao (n+3) 46 ts):∃j:{r:R // (r.e=true->r.of= [])/\r.of.length * 8<=reachBytes},ts=eR j.1:=by have t:=(Tryz.underlying46:ao.underlying 46=_);have h1:=U3 t h;obtain⟨a,b,rfl,m,c,d,rfl,o,e,f,rfl,p,rfl⟩:=h1;have k:=(Tryz.underlying23:ao.underlying 23=_);obtain⟨b,l,g,q,_,i⟩:=EJ (λz:Int=> [ti z]) k m (λcs s=>vr s);rw [FP] at g;rw [FE] at i;subst g;obtain⟨y,rfl⟩:=vr o;obtain⟨z,rfl⟩:=vr p;exact⟨⟨⟨b,l,y,z⟩,q,i⟩,rfl⟩
set_option maxRecDepth 1000000 in
theorem SA{n:Nat}{a:AV}(h:(bp ao 22=true/\∃l,Wt ao (n+4) 22 l/\a= .agg (l.map .t))\/(bp ao 22=false/\∃x,Wt ao (n+4) 22 [x]/\a= .t x)):∃e l,a=LR e l/\(∀r∈l,r.e=true->r.of= [])/\∀r∈l,r.of.length * 8<=reachBytes:=by
 obtain⟨x,h1,rfl⟩:=Bv h (by kernel_rfl);have g:=(Tryz.underlying22:ao.underlying 22=_);obtain⟨b,l,c,_⟩:=U0 (λj:{r:R // (r.e=true->r.of= [])/\r.of.length * 8<=reachBytes} =>eR j.1) g h1 (λcs f=>Kx f);rw [M0] at c;simp only [Xn,and_true] at c;subst c;refine⟨b,l.map (·.1), ?_,λr d=> ?_,λr d=> ?_⟩
 .simp only [LR,cU,XV];rfl
 .obtain⟨j,_,rfl⟩:=VK.1 d;exact j.2.1
 .obtain⟨j,_,rfl⟩:=VK.1 d;exact j.2.2
set_option maxRecDepth 1000000 in
theorem Sv{n:Nat}{a:AV}(h:(bp ao 46=true/\∃l,Wt ao (n+3) 46 l/\a= .agg (l.map .t))\/(bp ao 46=false/\∃x,Wt ao (n+3) 46 [x]/\a= .t x)):∃r:R,a=AV.agg [aa r.e r.of,I r.kd,I r.tv]/\(r.e=true->r.of= [])/\r.of.length * 8<=reachBytes:=by obtain⟨l,h1,rfl⟩:=Mw h (by kernel_rfl);obtain⟨j,rfl⟩:=Kx h1;exact⟨j.1,rfl,j.2.1,j.2.2⟩
set_option maxRecDepth 1000000 in
theorem Ql{n:Nat}{a:AV}(h:(bp ao 23=true/\∃l,Wt ao (n+2) 23 l/\a= .agg (l.map .t))\/(bp ao 23=false/\∃x,Wt ao (n+2) 23 [x]/\a= .t x)):∃e l,a=aa e l/\l.length * 8<=reachBytes:=by obtain⟨x,h1,rfl⟩:=Bv h (by kernel_rfl);have g:=(Tryz.underlying23:ao.underlying 23=_);obtain⟨b,l,c,_,i,d⟩:=EJ (λr:Int=> [ti r]) g h1 (λcs f=>vr f);rw [FP] at c;rw [FE] at d;simp only [Xn,and_true] at c;subst c;exact⟨b,l,rfl,d⟩
end Go.Aev.Wd.Lg
namespace Go.Aev.Gen
open Go Go.Aev Go.Aev.Wd Go.Aev.Wd.Lg Go.Proofs
set_option maxRecDepth 1000000 in
theorem claim5(vs:List AV)(h:wR ao (19+1) Tryz.f5.params.toList vs):Or (.call 5) vs []=some [.bool true]:=by rw [Tryz.params5] at h;obtain⟨a,_,rfl,h1,b,_,rfl,i,c,_,rfl,j,d,_,rfl,k,rfl⟩:=h;obtain⟨e,q,rfl,o,m⟩:=SA h1;obtain⟨n,rfl⟩:=Qk i;obtain⟨eg,gl,rfl,l⟩:=Ql j;obtain⟨r,rfl,g,f⟩:=Sv k;exact Qu q e eg n gl r o g (λr p=>VO (m r p) (by decide)) (VO f (by decide)) (VO l (by decide))
end Go.Aev.Gen
