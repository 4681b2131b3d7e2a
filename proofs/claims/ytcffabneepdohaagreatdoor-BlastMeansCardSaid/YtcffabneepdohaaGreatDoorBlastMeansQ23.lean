import Derived.Test.YtcffabneepdohaaGreatDoorBlastMeansQ22
import Derived.Test.YtcffabneepdohaaGreatDoorBlastMeansQ20
import Derived.Test.YtcffabneepdohaaGreatDoorBlastMeansQ16
import Derived.Test.YtcffabneepdohaaGreatDoorBlastMeansQ10
set_option linter.all false
namespace Go.Aev.Gen
open Go Go.Aev
theorem ED{r:Int}:∀(t:List (Int×Int)) (e:Option Int) (a:Int),a<=1001->(∀x,0<=x->wc e x=true->a<=x)->rm r e t=true->(t.length:Int)+a<=1001
 | [],_,a,h,_,_=>by simpa using h
 | c::t,e,a,h,g,d=>by
  rw [rm] at d;simp only [Ww] at d;obtain⟨⟨⟨⟨b,_⟩,_⟩,a4⟩,f⟩:=d;unfold eM at b;simp only [Ww,decide_eq_true_eq] at b;have i:=g c.1 b.1 a4;have j:=ED t (some c.1) (c.1+1) (by omega) (λx k hl=>by
   unfold wc at hl;simp only [Xo,decide_eq_false_iff_not] at hl;omega) f
  simp only [Wz];omega
theorem Hu{s:Int}{v:Va}(h:dh s v=true)(b:v.ec=true->v.cs= []):gR 1001 v:=by
 refine⟨?_,b⟩;unfold dh at h;split at h
 .unfold xI at h;simp only [Ww] at h;have:=ED v.cs none 0 (by omega) (λx c _=>c) h.2;omega
 .split at h
  .cases h
  .rename_i a;have e:v.cs= []:=XO λe=>a (.inl e);rw [e];exact Xr _
theorem Ut{op d:Int}{l da:List Int}{so:Int}(hl:∀k,0<=l.getD k 0/\l.getD k 0<=18)(hs: 0<=so/\so<=18)(b:op=15->1<=d/\d<=8): 0<=bc op d l da so/\bc op d l da so<=18:=by
 have h0:=hl 0;have a:=hl 1;unfold bc
 repeat' split
 all_goals omega
theorem Uv{ds:List Dc}{ns:List Nd}{ss:List Int}(hl:ss.length=ns.length)(l:∀(i:Nat) (x:Nd) (s:Int),ns[i]? =some x->ss[i]? =some s->bU ds x (i:Int) (ss.take i)= (s,0))(j:∀d∈ds,0<=d.so/\d.so<=18):∀i,0<=ss.getD i 0/\ss.getD i 0<=18:=by
 intro i;induction i using Nat.strongRecOn with
 | _ i n=>
 cases hs:ss[i]? with
 | none=>rw [Wp,hs];exact⟨by decide,by decide⟩
 | some s=>
  have p:=(Wm.1 hs).1;have m:ns[i]? =some ns[i]:=Wv (by omega);have h:=l i _ s m hs;rw [Wp,hs];have a:∀(ks:List Int) (k:Nat),0<=(ks.map λk=>(ss.take i).getD k.toNat 0).getD k 0/\(ks.map λk=>(ss.take i).getD k.toNat 0).getD k 0<=18:=λks k=>by
   rw [Wp,Xh];cases ks[k]? with
   | none=>exact⟨Int.le_refl 0,(by decide:(0:Int)<=18)⟩
   | some z=>
    show 0<=(ss.take i).getD z.toNat 0/\(ss.take i).getD z.toNat 0<=18;by_cases f:z.toNat < i
    .have:=n z.toNat f;rw [Wp,X7 f,<-Wp];exact this
    .rw [Wp,XV (by rw [Xk];omega)];exact⟨by decide,by decide⟩
  have b:∀k,0<=(ds.getD k ⟨s0,true,[],0⟩).so/\(ds.getD k ⟨s0,true,[],0⟩).so<=18:=λk=>by
   rw [Wp];cases a:ds[k]? with
   | none=>exact⟨by decide,by decide⟩
   | some d=>exact j d (Wx a)
  have key:∀{da:List Int} {so:Int},0<=so/\so<=18->dz ns[i] (i:Int) (ss.take i) da so= (s,0)->0<=s/\s<=18:=λ{da so} c h=>by obtain⟨_,_,o,g,_⟩:=l9 (by rw [h]);rw [h] at g;rw [show s=_ from g];exact Ut (a _) c λe=>by have:=tW o e;omega
  show 0<=s/\s<=18;unfold bU at h;split at h
  .simp at h
  split at h
  .split at h
   .simp at h
   split at h
   .simp at h
   .exact key (b _) h
  .split at h
   .simp at h
   .exact key ⟨by decide,by decide⟩ h
theorem HN{ds:List Dc}{x:Nd}{i:Int}{ss:List Int}{s:Int}(h:bU ds x i ss= (s,0)):(1<=x.op/\x.op<=25)/\x.ks.length<=8/\(∀k∈x.ks,0<=k/\k < i)/\(x.op≠9->0<=dS x.op->(x.ks.length:Int)=dS x.op)/\(x.op=9->∃(k:Nat) (d:Dc),bm ds x.nm= (k:Int)/\ds[k]? =some d/\d.ar.length=x.ks.length):=by
 unfold bU at h;split at h
 .simp at h
 rename_i g;split at h
 .rename_i a;split at h
  .simp at h
  split at h
  .simp at h
  rename_i j c3;obtain⟨k,d,b,c,l,f⟩:=yx (ds:=ds) (nm:=x.nm) (by omega);rw [show ds.getD (bm ds x.nm).toNat ⟨s0,true,[],0⟩=d from f] at c3;obtain⟨r1,_⟩:=l9 (by rw [h]);exact⟨by omega,by omega,r1,λh=>absurd a h,λ_=>⟨k,d,b,c,by omega⟩⟩
 .rename_i a;split at h
  .simp at h
  rename_i c3;obtain⟨r1,_⟩:=l9 (by rw [h]);exact⟨by omega,by omega,r1,λ_=>by omega,λe=>absurd e a⟩
structure DV (a:As) (ms:List Me):Prop where
 al:iB a.ds ms
 wf:∀m∈ms,ff m
 dl:a.ds.length<=30
theorem U6{a:As}{ms:List Me}{x:Nd}{i:Int}{ss:List Int}{s:Int}{vs:List Va}{q:Nat}(c:DV a ms)(h:bU a.ds x i ss= (s,0))(hl:vs.length=x.ks.length)(t:∀v∈vs,gR q v)(f: 1001<=q)(l:q<=90000):VC a ms x vs q:=by
 obtain⟨k1,k2,k3,u,w⟩:=HN h;have kn:∀{o n:Int},x.op=o->o≠9->dS o=n->0<=n->(x.ks.length:Int)=n:=λ{o n} e p g r=>by have:=u (by rw [e];exact p) (by rw [e,g];exact r);rw [e,g] at this;exact this
 refine⟨k1,by omega,l,t,λe=> ?_,λe=> ?_,λe=> ?_,λe=> ?_⟩
 .rcases e with e | e <;> have:=kn (n:=1) e (by decide) rfl (by decide) <;> omega
 .rcases e with e | e | e | e | e <;> have:=kn (n:=2) e (by decide) rfl (by decide) <;> omega
 .rcases e with e | e <;> have:=kn (n:=3) e (by decide) rfl (by decide) <;> omega
 .obtain⟨k,d,z,A,B⟩:=w e;obtain⟨m,j,y⟩:=uU c.al A;obtain⟨r1,r2,C,D⟩:=Ig y;have wf:=c.wf m (Wx j);refine⟨by have:=c.dl;omega,k,m,z,j,r1,λe b=>⟨by rw [r2 e b,B,hl],(Hu (D e b) (wf.zt e b)).le f⟩,(Hu C wf.rcc).le f⟩
def ju:Va:=⟨true,0,1,true,[],0⟩
abbrev rP(X:List Va)(ks:List Int):List Va:=ks.map λk=>nV (X.getD k.toNat ju)
theorem PS(X:List Va)(ks:List Int):(rP X ks).map vv=ks.map λk=>(X.map vv).getD k.toNat v0:=by unfold rP;rw [XW];apply W8;intro k _;rw [Wp,Xh];show vv (X.getD k.toNat ju)=_;rw [Wp];cases X[k.toNat]? <;> rfl
abbrev tQ(e:Bool)(ms:List Me):aa:=aa.box [AV.t (T.ad 5 e (fk ms))]
abbrev nB(x:Nd):aa:=aa.box [I x.op,ad x.ek x.ks,I x.n,I x.d,AV.t (T.str x.nm)]
abbrev Ae(a:As)(es:Bool)(ss:List Int)(i:Nat)(b:Int)(x:Nd)(j:Nat):List AV:= [r0,r1,r2,ad es ss,V'3,I (i:Int),Y'4,V'5,I b,AV.t (T.ad 5 a.en (ba a.ns)),I (a.ns.length:Int),I (i:Int),ad x.ek x.ks,I (x.ks.length:Int),I (j:Int)]
abbrev z6(a:As)(ew:Bool)(ms:List Me)(e:Bool)(X:List Va)(x:Nd)(b:Bool)(vs:List Va):List aa:= [kZ a,tQ ew ms,kP,aa.sl false 4 e (cO X),nB x,aa.sl false 4 b (cO vs)]
theorem Qv{a:As}{es ew e:Bool}{ms:List Me}{ss:List Int}{x:Nd}{X:List Va}{i:Nat}{L:List T}(B:∀k∈x.ks,0<=k/\k < (X.length:Int))(hs:X.length<=ss.length)(E:x.ks.length<=8)(y:∀v∈X,gR 90000 v):∀(r:List Int) (j:Nat) (vs:List Va) (b:Int) (f:Bool),x.ks.drop j=r->j<=x.ks.length->vs.length=j->
  Or qU (Ae a es ss i (r.foldl (λb k=>if aE (ss.getD k.toNat 0)=true then ss.getD k.toNat 0 - 10 else b) b) x x.ks.length) (z6 a ew ms e X x (f && r.isEmpty) (vs++rP X r))=some L->Or qU (Ae a es ss i b x j) (z6 a ew ms e X x f vs)=some L:=by
 intro r;induction r with
 | nil=>
  intro j vs b f g w hl h;have:j=x.ks.length:=by have:=bt g;omega
  subst this;rw [Y9,XF,show rP X []= [] from rfl,WQ] at h;exact h
 | cons k r z=>
  intro j vs b f g w hl h;obtain⟨g1,C,u⟩:=br g;obtain⟨A,k1⟩:=B k (Wx g1);have n:(j:Int) < (x.ks.length:Int):=by omega
  have h0: 0<=(j:Int)/\(j:Int) < (x.ks.length:Int):=by omega
  have m:X[k.toNat]? =some (X.getD k.toNat ju):=by rw [Wp,Wv (by omega)];rfl
  have o:ss[k.toNat]? =some (ss.getD k.toNat 0):=by rw [Wp,Wv (by omega)];rfl
  have p: 0<=k/\k < (X.length:Int):=⟨A,k1⟩;have q: 0<=k/\k < (ss.length:Int):=by omega
  obtain⟨c,s,t⟩:=(C1 (v:=X.getD k.toNat ju) ((y _ (Wx m)).le (by omega))).a;have l:=z (j+1) (vs++ [nV (X.getD k.toNat ju)]) (if aE (ss.getD k.toNat 0)=true then ss.getD k.toNat 0 - 10 else b) false u (by omega) (by simp [hl]) (by
   rw [YH,Y4,Xn] at h;rw [Xm,WV];exact h)
  refine ai ?_;rw [DC];cases d:aE (ss.getD k.toNat 0) with
  | true=>have D: 10 < ss.getD k.toNat 0/\ss.getD k.toNat 0<=18:=rO.1 d;rw [d,if_pos rfl] at l;simp only [aI,aL,aV,aO,bK,decide_eq_true n,aR,aD,if_pos h0,bP g1,dQ,if_pos p,iG m,dv,s,t,Wy,cM (show vs.length+1<=1000000 by omega),if_pos q,fS o,hH,d,wr (show -9223372036854775808<=ss.getD k.toNat 0 - 10/\ss.getD k.toNat 0 - 10 < 9223372036854775808 by omega),Xn,Bw,next j (show j<=1000000 by omega)];exact l
  | false=>rw [d,if_neg (by decide)] at l;simp only [aI,aL,aV,aO,bK,decide_eq_true n,aR,aX,aD,if_pos h0,bP g1,dQ,if_pos p,iG m,dv,s,t,Wy,cM (show vs.length+1<=1000000 by omega),if_pos q,fS o,hH,d,Xn,Bw,next j (show j<=1000000 by omega)];exact l
def DS(R:Option (List T))(o:Option (List Vv)):Prop:=(∃(Y:List Va) (e:Bool),R=some [T.ad 4 e (cO Y),ti 0,ti 0]/\o=some (Y.map vv))\/∃i:Int,R=some [T.aB true,ti 10,ti i]/\o=none
structure DT (a:As) (ss:List Int):Prop where
 l:ss.length=a.ns.length
 nl:a.ns.length<=200
 nd:∀(i:Nat) (x:Nd) (s:Int),a.ns[i]? =some x->ss[i]? =some s->bU a.ds x (i:Int) (ss.take i)= (s,0)
 so:∀d∈a.ds,0<=d.so/\d.so<=18
theorem Qw{a:As}{es ew:Bool}{ms:List Me}{ss:List Int}(P:DV a ms)(hs:DT a ss):∀(r:List Nd) (i:Nat) (X:List Va) (e:Bool),a.ns.drop i=r->i<=a.ns.length->X.length=i->(∀v∈X,gR (1001+i) v)->(e=true->X= [])->
  DS (Or pE [r0,r1,r2,ad es ss,V'3,AV.t (T.ad 5 a.en (ba a.ns)),I (a.ns.length:Int),I (i:Int)] [kZ a,tQ ew ms,kP,aa.sl false 4 e (cO X)]) (gP PM (Wf a.ds ms) ss r i (X.map vv)):=by
 intro r;induction r with
 | nil=>
  intro i X e g O hl o N;have A:¬(i:Int) < (a.ns.length:Int):=by have:=bt g;omega
  refine .inl ⟨X,e,ai ?_,rfl⟩;rw [KZ];simp only [decide_eq_false A,aX]
 | cons x r Q=>
  intro i X e g O hl o N;obtain⟨g1,V,J⟩:=br g;have S:=hs.nl;have U:=hs.l;have m:ss[i]? =some (ss.getD i 0):=by rw [Wp,Wv (by omega)];rfl
  have G:=hs.nd i x _ g1 m;obtain⟨_,k2,k3,_⟩:=HN G;have W:=Uv hs.l hs.nd hs.so i;have A:(i:Int) < (a.ns.length:Int):=by omega
  have h0: 0<=(i:Int)/\(i:Int) < (a.ns.length:Int):=by omega
  have B: 0<=(i:Int)/\(i:Int) < (ss.length:Int):=by omega
  have F:∀v∈rP X x.ks,gR (1001+i) v:=λv f=>by
   obtain⟨k,C,rfl⟩:=WU.1 f;obtain⟨q,u⟩:=k3 k C;have M:X[k.toNat]? =some (X.getD k.toNat ju):=by rw [Wp,Wv (by omega)];rfl
   have:=o _ (Wx M);exact⟨this.l,this.e⟩
  have R:VC a ms x (rP X x.ks) (1001+i):=U6 P G (by simp) F (by omega) (by omega);obtain⟨w,z,K,y,j⟩:=Tp (a:=a) (ew:=ew) (ev:=true && x.ks.isEmpty) (ms:=ms) (s:=ss.getD i 0) (b:=jF ss (ss.getD i 0) x.ks) R;obtain⟨c,D,E⟩:=K.a;rw [PS] at j;have step:∀{L:List T},Or qU (Ae a es ss i (jF ss (ss.getD i 0) x.ks) x x.ks.length) (z6 a ew ms e X x (true && x.ks.isEmpty) (rP X x.ks))=some L->Or pE [r0,r1,r2,ad es ss,V'3,AV.t (T.ad 5 a.en (ba a.ns)),I (a.ns.length:Int),I (i:Int)] [kZ a,tQ ew ms,kP,aa.sl false 4 e (cO X)]=some L:=λ{L} h=>by have p:=Qv (a:=a) (es:=es) (ew:=ew) (e:=e) (ms:=ms) (ss:=ss) (x:=x) (X:=X) (i:=i) (L:=L) (λk C=>by have:=k3 k C;omega) (by omega) k2 (λv f=>(o v f).le (by omega)) x.ks 0 [] (ss.getD i 0 - 10) true rfl (Xr _) rfl h;refine ai ?_;rw [KZ];simp only [aI,aL,aV,aO,cu,iO,decide_eq_true A,aR,dR,if_pos h0,gf g1,aD,if_pos B,bP m,wr (show -9223372036854775808<=ss.getD i 0 - 10/\ss.getD i 0 - 10 < 9223372036854775808 by omega)];exact p
  have H:¬(x.ks.length:Int) < (x.ks.length:Int):=by omega
  rw [gP];cases z with
  | false=>rw [show dK PM (Wf a.ds ms) x.op x.n x.d x.nm (kv (X.map vv) x) (jF ss (ss.getD i 0) x.ks)=none from j];refine .inr ⟨(i:Int),step (ai ?_),rfl⟩;rw [DC];simp only [aI,aL,aV,tn,aO,bK,decide_eq_false H,aX,aD,if_pos B,bP m,D,E,Wu,aR]
  | true=>
   rw [show dK PM (Wf a.ds ms) x.op x.n x.d x.nm (kv (X.map vv) x) (jF ss (ss.getD i 0) x.ks)=some (vv w) from j];have p:=Q (i+1) (X++ [nV w]) (e && false) J (by omega) (by simp [hl]) (λv f=>by
    rcases WK.1 f with h | h
    .exact(o v h).le (by omega)
    .rw [WA] at h;subst h;exact⟨by have:=y.l;show w.cs.length<=_;omega,y.e⟩) (λh=>by simp at h)
   rw [Yf] at p;have go:∀{L:List T},Or pE [r0,r1,r2,ad es ss,V'3,AV.t (T.ad 5 a.en (ba a.ns)),I (a.ns.length:Int),I ((i+1:Nat):Int)] [kZ a,tQ ew ms,kP,aa.sl false 4 (e && false) (cO (X++ [nV w]))]=some L->Or pE [r0,r1,r2,ad es ss,V'3,AV.t (T.ad 5 a.en (ba a.ns)),I (a.ns.length:Int),I (i:Int)] [kZ a,tQ ew ms,kP,aa.sl false 4 e (cO X)]=some L:=λ{L} h=>by refine step (ai ?_);rw [DC];simp only [aI,aL,aV,tn,aO,bK,decide_eq_false H,aX,aD,if_pos B,bP m,D,E,Ws,dQ,Wy,cM (show X.length+1<=1000000 by omega),Bw,next i (show i<=1000000 by omega)];exact h
   rcases p with⟨Y,e',q,u⟩ | ⟨k,q,u⟩
   .exact .inl ⟨Y,e',go q,u⟩
   .exact .inr ⟨k,go q,u⟩
open Go Go.Aev
theorem Us{a:As}(h:(bg a).2.1=0):DT a (bg a).1:=by
 obtain⟨g1,b,c,k,l⟩:=sA h;obtain⟨ok,_⟩:=nC (es:=(bg a).1.isEmpty) h;refine⟨ok.sl,c,λi x s g hs=>za (es:=(bg a).1.isEmpty) h i x s g hs,λd e=> ?_⟩;obtain⟨j,f⟩:=Xv e;obtain⟨_,_,_,_,q,_⟩:=x7 (xR b j d f);unfold nN at q;rw [Xf,Ww,decide_eq_true_eq,decide_eq_true_eq] at q;rcases q with q | q
 .omega
 .have:=rO.1 q;omega
theorem JU{a:As}{ew:Bool}{ms:List Me}(g:∀d∈a.ds,d.nm.size<=9223372036854775807)(wf:∀m∈ms,ff m)(hm:(jo a ms).1=0):DS (Or (.call 27) [AG a,WG ew ms] []) (gP PM (Wf a.ds ms) (bg a).1 a.ns 0 []):=by
 obtain⟨h,hl,j⟩:=we hm;obtain⟨x,i,n⟩:=CZ (a:=a) g;have p:=s8 (a:=a) (ew:=ew) (ms:=ms) g wf;obtain⟨g1,_⟩:=sA h;have o:=Qw (a:=a) (es:=(bg a).1.isEmpty) (ew:=ew) (ms:=ms) ⟨Ak hl j,wf,g1⟩ (Us h) a.ns 0 [] true rfl (Xr _) rfl (λv l=>by cases l) (λ_=>rfl);have q:((0:Int)==0)=true:=rfl;have go:∀{L:List T},Or pE [r0,r1,r2,ad (bg a).1.isEmpty (bg a).1,V'3,AV.t (T.ad 5 a.en (ba a.ns)),I (a.ns.length:Int),I 0] [kZ a,tQ ew ms,kP,aa.sl false 4 true []]=some L->Or (.call 27) [AG a,WG ew ms] []=some L:=λ{L} h=>by refine ai ?_;rw [Vi];simp only [aI,aL,aV,aO,bK,p,hm,q,Ws,aX,i,n,dR];exact h
 rcases o with⟨Y,e,b,f⟩ | ⟨k,b,f⟩
 .exact .inl ⟨Y,e,go b,f⟩
 .exact .inr ⟨k,go b,f⟩
theorem Dw{P:Pm}{W:Wd}{ss:List Int}:∀{r:List Nd} {i:Nat} {X Z:List Vv},gP P W ss r i X=some Z->Z.length=X.length+r.length
 | [],i,X,Z,h=>by rw [gP,Wj] at h;subst h;simp
 | x::r,i,X,Z,h=>by rw [gP] at h;obtain⟨v,_,h⟩:=Wk.1 h;have:=Dw h;simp only [Xc,Wz,WN] at this⊢;omega
theorem Qq{a b:As}{X Y:List Va}{e e':Bool}(hl:b.hs.length=a.hs.length)(G:a.hs.length<=200)(w:∀(i:Nat) (k c:Int),a.hs[i]? =some k->b.hs[i]? =some c->(0<=k/\k < (X.length:Int))/\(0<=c/\c < (Y.length:Int))/\(X.getD k.toNat ju).n= (Y.getD c.toNat ju).n/\(X.getD k.toNat ju).d= (Y.getD c.toNat ju).d):∀(r:List Int) (i:Nat),a.hs.drop i=r->i<=a.hs.length->
  Or xz [r0,r1,VL e X,VL e' Y,I (i:Int)] [kZ a,kZ b]=some [tb true]:=by
 intro r;induction r with
 | nil=>
  intro i g x;have h:¬(i:Int) < (a.hs.length:Int):=by have:=bt g;omega
  refine ai ?_;rw [KU];simp only [aD,decide_eq_false h,aX,hl,beq_self_eq_true]
 | cons k r z=>
  intro i g x;obtain⟨g1,H,t⟩:=br g;have h:(i:Int) < (a.hs.length:Int):=by omega
  have l:(i:Int) < (b.hs.length:Int):=by omega
  have h0: 0<=(i:Int)/\(i:Int) < (a.hs.length:Int):=by omega
  have j: 0<=(i:Int)/\(i:Int) < (b.hs.length:Int):=by omega
  have f:b.hs[i]? =some (b.hs.getD i 0):=by rw [Wp,Wv (by omega)];rfl
  generalize b.hs.getD i 0=c at f;obtain⟨⟨A,B⟩,⟨C,D⟩,E,F⟩:=w i k c g1 f;have u:X[k.toNat]? =some (X.getD k.toNat ju):=by rw [Wp,Wv (by omega)];rfl
  have v:Y[c.toNat]? =some (Y.getD c.toNat ju):=by rw [Wp,Wv (by omega)];rfl
  have m:¬k < 0:=by omega
  have o:¬k>=(X.length:Int):=by omega
  have c3:¬c < 0:=by omega
  have p:¬c>=(Y.length:Int):=by omega
  have q: 0<=k/\k < (X.length:Int):=⟨A,B⟩;have s: 0<=c/\c < (Y.length:Int):=⟨C,D⟩;have y:=z (i+1) t (by omega);refine ai ?_;rw [KU];simp only [aI,aL,aV,aO,aD,dQ,decide_eq_true h,decide_eq_true l,aR,aX,if_pos h0,if_pos j,bP g1,bP f,decide_eq_false m,decide_eq_false o,decide_eq_false c3,decide_eq_false p,if_pos q,if_pos s,iG u,iG v,E,F,beq_self_eq_true,XF,Ws,Zl,next i (show i<=1000000 by omega)];exact y
theorem SQ{a b:As}{ew ew':Bool}{ms ms':List Me}(I:∀d∈a.ds,d.nm.size<=9223372036854775807)(w:∀d∈b.ds,d.nm.size<=9223372036854775807)(wf:∀m∈ms,ff m)(x:∀m∈ms',ff m)(hm:(jo a ms).1=0)(q:(jo b ms').1=0)
  (H:∀X,gP PM (Wf a.ds ms) (bg a).1 a.ns 0 []=some X->∃Y,gP PM (Wf b.ds ms') (bg b).1 b.ns 0 []=some Y/\b.hs.map (xK Y)=a.hs.map (xK X)):
  Or (.call 10) [AG a,WG ew ms,AG b,WG ew' ms'] []=some [tb true]:=by
 have ka:=JU (ew:=ew) I wf hm;have kb:=JU (ew:=ew') w x q;have t:((0:Int)==0)=true:=rfl;have z:((10:Int)==0)=false:=rfl;have A:((10:Int)==10)=true:=rfl;rcases ka with⟨X,e,j,s⟩ | ⟨k,j,s⟩
 .obtain⟨P,o,y⟩:=H _ s;rcases kb with⟨Y,e',f,g⟩ | ⟨k,f,g⟩
  .rw [g,Wj] at o;subst o;obtain⟨u,_⟩:=we hm;obtain⟨G,_⟩:=we q;obtain⟨r,_⟩:=nC (es:=(bg a).1.isEmpty) u;obtain⟨okb,_⟩:=nC (es:=(bg b).1.isEmpty) G;obtain⟨_,_,_,D,_⟩:=sA u;have hl:b.hs.length=a.hs.length:=by
    have:=congrArg List.length y;simpa using this
   have K:=Dw s;have L:=Dw g;simp only [W6,WN,WZ] at K L;have R:(bg a).1.length=a.ns.length:=r.sl;have S:(bg b).1.length=b.ns.length:=okb.sl;have J:=Qq (a:=a) (b:=b) (X:=X) (Y:=Y) (e:=e) (e':=e') hl D (λi k c v p=>by
    obtain⟨r1,r2⟩:=r.ho k (Wx v);obtain⟨Q,M⟩:=okb.ho c (Wx p);have N:k.toNat < (bg a).1.length:=(Wm.1 r2).1;have O:c.toNat < (bg b).1.length:=(Wm.1 M).1;have E:X[k.toNat]? =some (X.getD k.toNat ju):=by rw [Wp,Wv (by omega)];rfl
    have F:Y[c.toNat]? =some (Y.getD c.toNat ju):=by rw [Wp,Wv (by omega)];rfl
    have h:=congrArg (λl=>l[i]?) y;simp only [Xh,v,p,X4,Wj] at h;have B:xK (X.map vv) k=vv (X.getD k.toNat ju):=by show(X.map vv).getD k.toNat v0=_;rw [Wp,Xh,E];rfl
    have C:xK (Y.map vv) c=vv (Y.getD c.toNat ju):=by show(Y.map vv).getD c.toNat v0=_;rw [Wp,Xh,F];rfl
    rw [B,C] at h;exact⟨by omega,by omega,(congrArg Vv.n h).symm,(congrArg Vv.d h).symm⟩) a.hs 0 rfl (Xr _)
   refine ai ?_;rw [Dz];simp only [aI,aL,aV,aO,cu,j,f,t,Ws,aX];exact J
  .rw [g] at o;cases o
 .rcases kb with⟨Y,e',f,g⟩ | ⟨c,f,g⟩
  .refine ai ?_;rw [Dz];simp only [aI,aL,aV,aO,cu,cz,j,f,t,z,A,Ws,Wu,aR]
  .refine ai ?_;rw [Dz];simp only [aI,aL,aV,aO,cu,cz,j,f,t,z,A,Ws,Wu,aR]
open Go Go.Aev
theorem LP{a:As}(ms:List Me)(h:(bg a).2.1=0)(h0:iB a.ds ms):qI a.ds (bF a).ds/\iB (bF a).ds (ef a.ds ms):=by
 unfold bF;cases b:jX a with
 | true=>rw [if_pos rfl];exact⟨BA _ _ _,DY 0 h0⟩
 | false=>
  rw [if_neg (by decide)];unfold jX pf at b;rw [Xq] at b;have c:∀d∈a.ds,aE d.so=false:=λd e=>by simpa using Xd.1 b.2 d e
  exact⟨GH _ c,DZ c h0⟩
theorem T4:Or (.call 8) [AV.agg [AV.t (T.ad 3 true []),AV.t (T.ad 5 true []),AV.t (T.ad 1 true [])]] []=some [tb true]:=by refine ai ?_;rw [VM];rfl
theorem PT{a:As}{ew:Bool}{ms:List Me}(g:DQ a ms)(E:Or (.call 5) [] []=some [tb true]):Or (.call 3) [AG a,WG ew ms] []=some [tb true]:=by
 have H:=s8 (a:=a) (ew:=ew) (ms:=ms) g.nm g.wf;have k9:=Ua (a:=a) g.aw g.nm;have M:((0:Int)==0)=true:=rfl;have l:∀c p c' t:Int,c≠0->tm a= [T.aB true,T.aB true,T.aB true,ti c,ti p]->Or (.call 7) [AG a,WG ew ms] []=some [T.aB true,ti c',ti t]->Or (.call 3) [AG a,WG ew ms] []=some [tb true]:=by
  intro c p c' t o f i;rw [f] at k9;have q:(c==0)=false:=by simpa using o
  refine ai ?_;rw [DD];simp only [aI,aL,aV,fA,eP,gA,bK,aO,cz,aR,aX,E,Ws,Wu,k9,i,q,fx,T4]
 have B:∀c' t:Int,c'≠0->(bg a).2.1=0->mO a=false->Or (.call 7) [AG a,WG ew ms] []=some [T.aB true,ti c',ti t]->Or (.call 3) [AG a,WG ew ms] []=some [tb true]:=by
  intro c' t o h e i;have f:=AP h;rw [e,if_neg (by decide)] at f;rw [f] at k9;have q:(c'==0)=false:=by simpa using o
  refine ai ?_;rw [DD];simp only [aI,bE,aL,aV,fA,eP,gA,bK,aO,cu,cz,aR,aX,E,Ws,Wu,k9,i,q,M,fO]
 by_cases hm:(jo a ms).1=0
 .have r:((jo a ms).1==0)=true:=by simpa using hm
  obtain⟨h,hl,o⟩:=we hm;have f:=AP h;cases e:mO a with
  | true=>rw [e,if_pos rfl] at f;have k:=k9;rw [f] at k;replace k:Or (.call 6) [AG a] []=some [T.aB true,T.aB true,T.aB true,ti 10,ti 0]:=k;refine l 10 0 10 0 (by decide) f (ai ?_);have z:((10:Int)==0)=false:=rfl;rw [e7];simp only [aI,aL,aV,fA,eP,fB,gA,aO,cz,aR,aX,H,r,Ws,k,z,Wu]
  | false=>
   rw [e,if_neg (by decide)] at f;rw [f] at k9;have I:=Em g.aw h e;have h0:=Ak hl o;obtain⟨D,n⟩:=LP ms h h0;have y:=V0 h e h0;have j:=λX=>AL (P:=PM) (W0:=Wf a.ds ms) (W1:=Wf (bF a).ds (ef a.ds ms)) h e g.aw Sj y (X:=X);generalize bF a=b at I k9 D n y j;obtain⟨τ,hs,_,_⟩:=I.so;obtain⟨okb,N⟩:=nC (a:=b) (es:=true) (by rw [hs]);have J:∀d∈b.ds,d.nm.size<=12:=okb.ds;have s:∀d∈b.ds,d.nm.size<=9223372036854775807:=λd f=>by have:=J d f;omega
   have F:=MK g hm;obtain⟨v,L,O⟩:=Ri (ed:=a.ed) (ew:=ew) F;have i:Or (.call 7) [AG a,WG ew ms] []=some [v,ti 0,ti 0]:=by refine ai ?_;rw [e7];simp only [an,↓reduceIte,Int.reduceBEq,Int.reduceEq,H,hm,Ws,k9,cX];exact L
   have x:=E6 (ds:=a.ds) (ms:=ms) λm hm=>⟨F.wf m hm,F.ok m hm⟩;obtain⟨G,C⟩:=Aj n;have u:=C 0;have w:jo b (ef a.ds ms)= (0,0):=by unfold jo;rw [hs,if_neg (by simp),if_neg (by simpa using G),u]
   have A:=s8 (a:=b) (ew:=a.ds.isEmpty) (ms:=ef a.ds ms) s (λm hm=>(x m hm).1);rw [w] at A;have K:=SQ (a:=a) (b:=b) (ew:=ew) (ew':=a.ds.isEmpty) (ms:=ms) (ms':=ef a.ds ms) g.nm s g.wf (λm hm=>(x m hm).1) hm (by rw [w]) j;refine ai ?_;rw [DD];simp only [aI,aL,aV,fA,eP,gA,bK,aO,cu,aR,aX,E,O,Ws,k9,i,A,M,K]
 .have r:((jo a ms).1==0)=false:=by simpa using hm
  have i:Or (.call 7) [AG a,WG ew ms] []=some [T.aB true,ti (jo a ms).1,ti (jo a ms).2]:=by refine ai ?_;rw [e7];simp only [aI,aL,aV,aO,aR,H,r,Wu]
  by_cases h:(bg a).2.1=0
  .cases e:mO a with
   | true=>have f:=AP h;rw [e,if_pos rfl] at f;exact l 10 0 _ _ (by decide) f i
   | false=>exact B _ _ hm h e i
  .exact l _ (bg a).2.2 _ _ h (by unfold tm;rw [if_neg h]) i
open Go Go.Aev Go.Proofs
theorem claim3(vs:List AV)(h:xf aj (19+1) Tryz.f3.params.toList vs):Or (.call 3) vs []=some [.bool true]:=by rw [Tryz.params3] at h;obtain⟨a,_,rfl,c,b,_,rfl,d,rfl⟩:=h;obtain⟨x,rfl,f,g⟩:=LL c;obtain⟨e,ms,rfl,i⟩:=VZ d;exact PT ⟨f,g,i⟩ Pe
end Go.Aev.Gen
