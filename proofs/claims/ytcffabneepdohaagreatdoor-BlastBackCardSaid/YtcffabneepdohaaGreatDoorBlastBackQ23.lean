import Derived.Test.YtcffabneepdohaaGreatDoorBlastBackQ22
import Derived.Test.YtcffabneepdohaaGreatDoorBlastBackQ20
import Derived.Test.YtcffabneepdohaaGreatDoorBlastBackQ16
import Derived.Test.YtcffabneepdohaaGreatDoorBlastBackQ10
set_option linter.all false
namespace Go.Aev.Gen
open Go Go.Aev
theorem E9{r:Int}:∀(t:List (Int×Int)) (e:Option Int) (a:Int),a<=1001->(∀x,0<=x->wH e x=true->a<=x)->rK r e t=true->(t.length:Int)+a<=1001
 | [],_,a,h,_,_=>by simpa using h
 | c::t,e,a,h,g,d=>by
  rw [rK] at d;simp only [Xf] at d;obtain⟨⟨⟨⟨b,_⟩,_⟩,a4⟩,f⟩:=d;unfold eL at b;simp only [Xf,decide_eq_true_eq] at b;have i:=g c.1 b.1 a4;have j:=E9 t (some c.1) (c.1+1) (by omega) (λx k hl=>by
   unfold wH at hl;simp only [X6,decide_eq_false_iff_not] at hl;omega) f
  simp only [Xj];omega
theorem HX{s:Int}{v:Va}(h:dO s v=true)(b:v.ec=true->v.cs= []):gV 1001 v:=by
 refine⟨?_,b⟩;unfold dO at h;split at h
 .unfold x5 at h;simp only [Xf] at h;have:=E9 v.cs none 0 (by omega) (λx c _=>c) h.2;omega
 .split at h
  .cases h
  .rename_i a;have e:v.cs= []:=Zj λe=>a (.inl e);rw [e];exact XZ _
theorem U8{op d:Int}{l da:List Int}{so:Int}(hl:∀k,0<=l.getD k 0/\l.getD k 0<=18)(hs: 0<=so/\so<=18)(b:op=15->1<=d/\d<=8): 0<=be op d l da so/\be op d l da so<=18:=by
 have h0:=hl 0;have a:=hl 1;unfold be
 repeat' split
 all_goals omega
theorem Vb{ds:List Dc}{ns:List Nd}{ss:List Int}(hl:ss.length=ns.length)(l:∀(i:Nat) (x:Nd) (s:Int),ns[i]? =some x->ss[i]? =some s->bX ds x (i:Int) (ss.take i)= (s,0))(j:∀d∈ds,0<=d.so/\d.so<=18):∀i,0<=ss.getD i 0/\ss.getD i 0<=18:=by
 intro i;induction i using Nat.strongRecOn with
 | _ i n=>
 cases hs:ss[i]? with
 | none=>rw [Xa,hs];exact⟨by decide,by decide⟩
 | some s=>
  have p:=(W9.1 hs).1;have m:ns[i]? =some ns[i]:=Xd (by omega);have h:=l i _ s m hs;rw [Xa,hs];have a:∀(ks:List Int) (k:Nat),0<=(ks.map λk=>(ss.take i).getD k.toNat 0).getD k 0/\(ks.map λk=>(ss.take i).getD k.toNat 0).getD k 0<=18:=λks k=>by
   rw [Xa,XU];cases ks[k]? with
   | none=>exact⟨Int.le_refl 0,(by decide:(0:Int)<=18)⟩
   | some z=>
    show 0<=(ss.take i).getD z.toNat 0/\(ss.take i).getD z.toNat 0<=18;by_cases f:z.toNat < i
    .have:=n z.toNat f;rw [Xa,YN f,<-Xa];exact this
    .rw [Xa,YA (by rw [XW];omega)];exact⟨by decide,by decide⟩
  have b:∀k,0<=(ds.getD k ⟨s0,true,[],0⟩).so/\(ds.getD k ⟨s0,true,[],0⟩).so<=18:=λk=>by
   rw [Xa];cases a:ds[k]? with
   | none=>exact⟨by decide,by decide⟩
   | some d=>exact j d (Xg a)
  have key:∀{da:List Int} {so:Int},0<=so/\so<=18->dB ns[i] (i:Int) (ss.take i) da so= (s,0)->0<=s/\s<=18:=λ{da so} c h=>by obtain⟨_,_,o,g,_⟩:=l7 (by rw [h]);rw [h] at g;rw [show s=_ from g];exact U8 (a _) c λe=>by have:=uu o e;omega
  show 0<=s/\s<=18;unfold bX at h;split at h
  .simp at h
  split at h
  .split at h
   .simp at h
   split at h
   .simp at h
   .exact key (b _) h
  .split at h
   .simp at h
   .exact key ⟨by decide,by decide⟩ h
theorem Ip{ds:List Dc}{x:Nd}{i:Int}{ss:List Int}{s:Int}(h:bX ds x i ss= (s,0)):(1<=x.op/\x.op<=25)/\x.ks.length<=8/\(∀k∈x.ks,0<=k/\k < i)/\(x.op≠9->0<=dW x.op->(x.ks.length:Int)=dW x.op)/\(x.op=9->∃(k:Nat) (d:Dc),bp ds x.nm= (k:Int)/\ds[k]? =some d/\d.ar.length=x.ks.length):=by
 unfold bX at h;split at h
 .simp at h
 rename_i g;split at h
 .rename_i a;split at h
  .simp at h
  split at h
  .simp at h
  rename_i j c3;obtain⟨k,d,b,c,l,f⟩:=yQ (ds:=ds) (nm:=x.nm) (by omega);rw [show ds.getD (bp ds x.nm).toNat ⟨s0,true,[],0⟩=d from f] at c3;obtain⟨r1,_⟩:=l7 (by rw [h]);exact⟨by omega,by omega,r1,λh=>absurd a h,λ_=>⟨k,d,b,c,by omega⟩⟩
 .rename_i a;split at h
  .simp at h
  rename_i c3;obtain⟨r1,_⟩:=l7 (by rw [h]);exact⟨by omega,by omega,r1,λ_=>by omega,λe=>absurd e a⟩
structure Eo (a:As) (ms:List Me):Prop where
 al:jZ a.ds ms
 wf:∀m∈ms,gw m
 dl:a.ds.length<=30
theorem VQ{a:As}{ms:List Me}{x:Nd}{i:Int}{ss:List Int}{s:Int}{vs:List Va}{q:Nat}(c:Eo a ms)(h:bX a.ds x i ss= (s,0))(hl:vs.length=x.ks.length)(t:∀v∈vs,gV q v)(f: 1001<=q)(l:q<=90000):VC a ms x vs q:=by
 obtain⟨k1,k2,k3,u,w⟩:=Ip h;have kn:∀{o n:Int},x.op=o->o≠9->dW o=n->0<=n->(x.ks.length:Int)=n:=λ{o n} e p g r=>by have:=u (by rw [e];exact p) (by rw [e,g];exact r);rw [e,g] at this;exact this
 refine⟨k1,by omega,l,t,λe=> ?_,λe=> ?_,λe=> ?_,λe=> ?_⟩
 .rcases e with e | e <;> have:=kn (n:=1) e (by decide) rfl (by decide) <;> omega
 .rcases e with e | e | e | e | e <;> have:=kn (n:=2) e (by decide) rfl (by decide) <;> omega
 .rcases e with e | e <;> have:=kn (n:=3) e (by decide) rfl (by decide) <;> omega
 .obtain⟨k,d,z,A,B⟩:=w e;obtain⟨m,j,y⟩:=tg c.al A;obtain⟨r1,r2,C,D⟩:=CL y;have wf:=c.wf m (Xg j);refine⟨by have:=c.dl;omega,k,m,z,j,r1,λe b=>⟨by rw [r2 e b,B,hl],(HX (D e b) (wf.zT e b)).le f⟩,(HX C wf.rcc).le f⟩
def jw:Va:=⟨true,0,1,true,[],0⟩
abbrev se(X:List Va)(ks:List Int):List Va:=ks.map λk=>nV (X.getD k.toNat jw)
theorem Qt(X:List Va)(ks:List Int):(se X ks).map vv=ks.map λk=>(X.map vv).getD k.toNat v0:=by unfold se;rw [Yr];apply XI;intro k _;rw [Xa,XU];show vv (X.getD k.toNat jw)=_;rw [Xa];cases X[k.toNat]? <;> rfl
abbrev uh(e:Bool)(ms:List Me):ad:=ad.box [AV.t (T.aa 5 e (eU ms))]
abbrev nB(x:Nd):ad:=ad.box [I x.op,aa x.ek x.ks,I x.n,I x.d,AV.t (T.str x.nm)]
abbrev AH(a:As)(es:Bool)(ss:List Int)(i:Nat)(b:Int)(x:Nd)(j:Nat):List AV:= [r0,r1,r2,aa es ss,V'3,I (i:Int),Y'4,V'5,I b,AV.t (T.aa 5 a.en (bd a.ns)),I (a.ns.length:Int),I (i:Int),aa x.ek x.ks,I (x.ks.length:Int),I (j:Int)]
abbrev Az(a:As)(ew:Bool)(ms:List Me)(e:Bool)(X:List Va)(x:Nd)(b:Bool)(vs:List Va):List ad:= [kV a,uh ew ms,kN,ad.sl false 4 e (cS X),nB x,ad.sl false 4 b (cS vs)]
theorem Rd{a:As}{es ew e:Bool}{ms:List Me}{ss:List Int}{x:Nd}{X:List Va}{i:Nat}{L:List T}(B:∀k∈x.ks,0<=k/\k < (X.length:Int))(hs:X.length<=ss.length)(E:x.ks.length<=8)(y:∀v∈X,gV 90000 v):∀(r:List Int) (j:Nat) (vs:List Va) (b:Int) (f:Bool),x.ks.drop j=r->j<=x.ks.length->vs.length=j->
  Or rF (AH a es ss i (r.foldl (λb k=>if aG (ss.getD k.toNat 0)=true then ss.getD k.toNat 0 - 10 else b) b) x x.ks.length) (Az a ew ms e X x (f && r.isEmpty) (vs++se X r))=some L->Or rF (AH a es ss i b x j) (Az a ew ms e X x f vs)=some L:=by
 intro r;induction r with
 | nil=>
  intro j vs b f g w hl h;have:j=x.ks.length:=by have:=bu g;omega
  subst this;rw [ZT,Yk,show se X []= [] from rfl,XA] at h;exact h
 | cons k r z=>
  intro j vs b f g w hl h;obtain⟨g1,C,u⟩:=bt g;obtain⟨A,k1⟩:=B k (Xg g1);have n:(j:Int) < (x.ks.length:Int):=by omega
  have h0: 0<=(j:Int)/\(j:Int) < (x.ks.length:Int):=by omega
  have m:X[k.toNat]? =some (X.getD k.toNat jw):=by rw [Xa,Xd (by omega)];rfl
  have o:ss[k.toNat]? =some (ss.getD k.toNat 0):=by rw [Xa,Xd (by omega)];rfl
  have p: 0<=k/\k < (X.length:Int):=⟨A,k1⟩;have q: 0<=k/\k < (ss.length:Int):=by omega
  obtain⟨c,s,t⟩:=(Du (v:=X.getD k.toNat jw) ((y _ (Xg m)).le (by omega))).a;have l:=z (j+1) (vs++ [nV (X.getD k.toNat jw)]) (if aG (ss.getD k.toNat 0)=true then ss.getD k.toNat 0 - 10 else b) false u (by omega) (by simp [hl]) (by
   rw [Zo,ZO,X4] at h;rw [X3,XC];exact h)
  refine ai ?_;rw [D6];cases d:aG (ss.getD k.toNat 0) with
  | true=>have D: 10 < ss.getD k.toNat 0/\ss.getD k.toNat 0<=18:=wk.1 d;rw [d,if_pos rfl] at l;simp only [aI,aL,aU,aP,bA,decide_eq_true n,aS,aE,if_pos h0,bR g1,dU,if_pos p,iK m,cY,s,t,Xh,dc (show vs.length+1<=1000000 by omega),if_pos q,fP o,iB,d,wr (show -9223372036854775808<=ss.getD k.toNat 0 - 10/\ss.getD k.toNat 0 - 10 < 9223372036854775808 by omega),X4,BV,next j (show j<=1000000 by omega)];exact l
  | false=>rw [d,if_neg (by decide)] at l;simp only [aI,aL,aU,aP,bA,decide_eq_true n,aS,aV,aE,if_pos h0,bR g1,dU,if_pos p,iK m,cY,s,t,Xh,dc (show vs.length+1<=1000000 by omega),if_pos q,fP o,iB,d,X4,BV,next j (show j<=1000000 by omega)];exact l
def Ej(R:Option (List T))(o:Option (List Vv)):Prop:=(∃(Y:List Va) (e:Bool),R=some [T.aa 4 e (cS Y),ti 0,ti 0]/\o=some (Y.map vv))\/∃i:Int,R=some [T.aC true,ti 10,ti i]/\o=none
structure Ek (a:As) (ss:List Int):Prop where
 l:ss.length=a.ns.length
 nl:a.ns.length<=200
 nd:∀(i:Nat) (x:Nd) (s:Int),a.ns[i]? =some x->ss[i]? =some s->bX a.ds x (i:Int) (ss.take i)= (s,0)
 so:∀d∈a.ds,0<=d.so/\d.so<=18
theorem Re{a:As}{es ew:Bool}{ms:List Me}{ss:List Int}(P:Eo a ms)(hs:Ek a ss):∀(r:List Nd) (i:Nat) (X:List Va) (e:Bool),a.ns.drop i=r->i<=a.ns.length->X.length=i->(∀v∈X,gV (1001+i) v)->(e=true->X= [])->
  Ej (Or pX [r0,r1,r2,aa es ss,V'3,AV.t (T.aa 5 a.en (bd a.ns)),I (a.ns.length:Int),I (i:Int)] [kV a,uh ew ms,kN,ad.sl false 4 e (cS X)]) (gS PM (Wf a.ds ms) ss r i (X.map vv)):=by
 intro r;induction r with
 | nil=>
  intro i X e g O hl o N;have A:¬(i:Int) < (a.ns.length:Int):=by have:=bu g;omega
  refine .inl ⟨X,e,ai ?_,rfl⟩;rw [LA];simp only [decide_eq_false A,aV]
 | cons x r Q=>
  intro i X e g O hl o N;obtain⟨g1,V,J⟩:=bt g;have S:=hs.nl;have U:=hs.l;have m:ss[i]? =some (ss.getD i 0):=by rw [Xa,Xd (by omega)];rfl
  have G:=hs.nd i x _ g1 m;obtain⟨_,k2,k3,_⟩:=Ip G;have W:=Vb hs.l hs.nd hs.so i;have A:(i:Int) < (a.ns.length:Int):=by omega
  have h0: 0<=(i:Int)/\(i:Int) < (a.ns.length:Int):=by omega
  have B: 0<=(i:Int)/\(i:Int) < (ss.length:Int):=by omega
  have F:∀v∈se X x.ks,gV (1001+i) v:=λv f=>by
   obtain⟨k,C,rfl⟩:=XB.1 f;obtain⟨q,u⟩:=k3 k C;have M:X[k.toNat]? =some (X.getD k.toNat jw):=by rw [Xa,Xd (by omega)];rfl
   have:=o _ (Xg M);exact⟨this.l,this.e⟩
  have R:VC a ms x (se X x.ks) (1001+i):=VQ P G (by simp) F (by omega) (by omega);obtain⟨w,z,K,y,j⟩:=T4 (a:=a) (ew:=ew) (ev:=true && x.ks.isEmpty) (ms:=ms) (s:=ss.getD i 0) (b:=jH ss (ss.getD i 0) x.ks) R;obtain⟨c,D,E⟩:=K.a;rw [Qt] at j;have step:∀{L:List T},Or rF (AH a es ss i (jH ss (ss.getD i 0) x.ks) x x.ks.length) (Az a ew ms e X x (true && x.ks.isEmpty) (se X x.ks))=some L->Or pX [r0,r1,r2,aa es ss,V'3,AV.t (T.aa 5 a.en (bd a.ns)),I (a.ns.length:Int),I (i:Int)] [kV a,uh ew ms,kN,ad.sl false 4 e (cS X)]=some L:=λ{L} h=>by have p:=Rd (a:=a) (es:=es) (ew:=ew) (e:=e) (ms:=ms) (ss:=ss) (x:=x) (X:=X) (i:=i) (L:=L) (λk C=>by have:=k3 k C;omega) (by omega) k2 (λv f=>(o v f).le (by omega)) x.ks 0 [] (ss.getD i 0 - 10) true rfl (XZ _) rfl h;refine ai ?_;rw [LA];simp only [aI,aL,aU,aP,bO,fW,decide_eq_true A,aS,dV,if_pos h0,fZ g1,aE,if_pos B,bR m,wr (show -9223372036854775808<=ss.getD i 0 - 10/\ss.getD i 0 - 10 < 9223372036854775808 by omega)];exact p
  have H:¬(x.ks.length:Int) < (x.ks.length:Int):=by omega
  rw [gS];cases z with
  | false=>rw [show dM PM (Wf a.ds ms) x.op x.n x.d x.nm (kv (X.map vv) x) (jH ss (ss.getD i 0) x.ks)=none from j];refine .inr ⟨(i:Int),step (ai ?_),rfl⟩;rw [D6];simp only [aI,aL,aU,tI,aP,bA,decide_eq_false H,aV,aE,if_pos B,bR m,D,E,Xe,aS]
  | true=>
   rw [show dM PM (Wf a.ds ms) x.op x.n x.d x.nm (kv (X.map vv) x) (jH ss (ss.getD i 0) x.ks)=some (vv w) from j];have p:=Q (i+1) (X++ [nV w]) (e && false) J (by omega) (by simp [hl]) (λv f=>by
    rcases Xo.1 f with h | h
    .exact(o v h).le (by omega)
    .rw [Xi] at h;subst h;exact⟨by have:=y.l;show w.cs.length<=_;omega,y.e⟩) (λh=>by simp at h)
   rw [YY] at p;have go:∀{L:List T},Or pX [r0,r1,r2,aa es ss,V'3,AV.t (T.aa 5 a.en (bd a.ns)),I (a.ns.length:Int),I ((i+1:Nat):Int)] [kV a,uh ew ms,kN,ad.sl false 4 (e && false) (cS (X++ [nV w]))]=some L->Or pX [r0,r1,r2,aa es ss,V'3,AV.t (T.aa 5 a.en (bd a.ns)),I (a.ns.length:Int),I (i:Int)] [kV a,uh ew ms,kN,ad.sl false 4 e (cS X)]=some L:=λ{L} h=>by refine step (ai ?_);rw [D6];simp only [aI,aL,aU,tI,aP,bA,decide_eq_false H,aV,aE,if_pos B,bR m,D,E,Xc,dU,Xh,dc (show X.length+1<=1000000 by omega),BV,next i (show i<=1000000 by omega)];exact h
   rcases p with⟨Y,e',q,u⟩ | ⟨k,q,u⟩
   .exact .inl ⟨Y,e',go q,u⟩
   .exact .inr ⟨k,go q,u⟩
open Go Go.Aev
theorem U7{a:As}(h:(bm a).2.1=0):Ek a (bm a).1:=by
 obtain⟨g1,b,c,k,l⟩:=qR h;obtain⟨ok,_⟩:=nH (es:=(bm a).1.isEmpty) h;refine⟨ok.sl,c,λi x s g hs=>zB (es:=(bm a).1.isEmpty) h i x s g hs,λd e=> ?_⟩;obtain⟨j,f⟩:=X1 e;obtain⟨_,_,_,_,q,_⟩:=yr (ye b j d f);unfold nR at q;rw [XT,Xf,decide_eq_true_eq,decide_eq_true_eq] at q;rcases q with q | q
 .omega
 .have:=wk.1 q;omega
theorem Ko{a:As}{ew:Bool}{ms:List Me}(g:∀d∈a.ds,d.nm.size<=9223372036854775807)(wf:∀m∈ms,gw m)(hm:(kI a ms).1=0):Ej (Or (.call 27) [AG a,WG ew ms] []) (gS PM (Wf a.ds ms) (bm a).1 a.ns 0 []):=by
 obtain⟨h,hl,j⟩:=zp hm;obtain⟨x,i,n⟩:=Dr (a:=a) g;have p:=s8 (a:=a) (ew:=ew) (ms:=ms) g wf;obtain⟨g1,_⟩:=qR h;have o:=Re (a:=a) (es:=(bm a).1.isEmpty) (ew:=ew) (ms:=ms) ⟨xW hl j,wf,g1⟩ (U7 h) a.ns 0 [] true rfl (XZ _) rfl (λv l=>by cases l) (λ_=>rfl);have q:((0:Int)==0)=true:=rfl;have go:∀{L:List T},Or pX [r0,r1,r2,aa (bm a).1.isEmpty (bm a).1,V'3,AV.t (T.aa 5 a.en (bd a.ns)),I (a.ns.length:Int),I 0] [kV a,uh ew ms,kN,ad.sl false 4 true []]=some L->Or (.call 27) [AG a,WG ew ms] []=some L:=λ{L} h=>by refine ai ?_;rw [V5];simp only [aI,aL,aU,aP,bA,p,hm,q,Xc,aV,i,n,dV];exact h
 rcases o with⟨Y,e,b,f⟩ | ⟨k,b,f⟩
 .exact .inl ⟨Y,e,go b,f⟩
 .exact .inr ⟨k,go b,f⟩
theorem D0{P:Pm}{W:Wd}{ss:List Int}:∀{r:List Nd} {i:Nat} {X Z:List Vv},gS P W ss r i X=some Z->Z.length=X.length+r.length
 | [],i,X,Z,h=>by rw [gS,W5] at h;subst h;simp
 | x::r,i,X,Z,h=>by rw [gS] at h;obtain⟨v,_,h⟩:=W6.1 h;have:=D0 h;simp only [XK,Xj,Xu] at this⊢;omega
theorem Q7{a b:As}{X Y:List Va}{e e':Bool}(hl:b.hs.length=a.hs.length)(G:a.hs.length<=200)(w:∀(i:Nat) (k c:Int),a.hs[i]? =some k->b.hs[i]? =some c->(0<=k/\k < (X.length:Int))/\(0<=c/\c < (Y.length:Int))/\(X.getD k.toNat jw).n= (Y.getD c.toNat jw).n/\(X.getD k.toNat jw).d= (Y.getD c.toNat jw).d):∀(r:List Int) (i:Nat),a.hs.drop i=r->i<=a.hs.length->
  Or xQ [r0,r1,VL e X,VL e' Y,I (i:Int)] [kV a,kV b]=some [tb true]:=by
 intro r;induction r with
 | nil=>
  intro i g x;have h:¬(i:Int) < (a.hs.length:Int):=by have:=bu g;omega
  refine ai ?_;rw [Lw];simp only [aE,decide_eq_false h,aV,hl,beq_self_eq_true]
 | cons k r z=>
  intro i g x;obtain⟨g1,H,t⟩:=bt g;have h:(i:Int) < (a.hs.length:Int):=by omega
  have l:(i:Int) < (b.hs.length:Int):=by omega
  have h0: 0<=(i:Int)/\(i:Int) < (a.hs.length:Int):=by omega
  have j: 0<=(i:Int)/\(i:Int) < (b.hs.length:Int):=by omega
  have f:b.hs[i]? =some (b.hs.getD i 0):=by rw [Xa,Xd (by omega)];rfl
  generalize b.hs.getD i 0=c at f;obtain⟨⟨A,B⟩,⟨C,D⟩,E,F⟩:=w i k c g1 f;have u:X[k.toNat]? =some (X.getD k.toNat jw):=by rw [Xa,Xd (by omega)];rfl
  have v:Y[c.toNat]? =some (Y.getD c.toNat jw):=by rw [Xa,Xd (by omega)];rfl
  have m:¬k < 0:=by omega
  have o:¬k>=(X.length:Int):=by omega
  have c3:¬c < 0:=by omega
  have p:¬c>=(Y.length:Int):=by omega
  have q: 0<=k/\k < (X.length:Int):=⟨A,B⟩;have s: 0<=c/\c < (Y.length:Int):=⟨C,D⟩;have y:=z (i+1) t (by omega);refine ai ?_;rw [Lw];simp only [aI,aL,aU,aP,aE,dU,decide_eq_true h,decide_eq_true l,aS,aV,if_pos h0,if_pos j,bR g1,bR f,decide_eq_false m,decide_eq_false o,decide_eq_false c3,decide_eq_false p,if_pos q,if_pos s,iK u,iK v,E,F,beq_self_eq_true,Yk,Xc,Z8,next i (show i<=1000000 by omega)];exact y
theorem Tu{a b:As}{ew ew':Bool}{ms ms':List Me}(I:∀d∈a.ds,d.nm.size<=9223372036854775807)(w:∀d∈b.ds,d.nm.size<=9223372036854775807)(wf:∀m∈ms,gw m)(x:∀m∈ms',gw m)(hm:(kI a ms).1=0)(q:(kI b ms').1=0)
  (H:∀X,gS PM (Wf a.ds ms) (bm a).1 a.ns 0 []=some X->∃Y,gS PM (Wf b.ds ms') (bm b).1 b.ns 0 []=some Y/\b.hs.map (xK Y)=a.hs.map (xK X)):
  Or (.call 10) [AG a,WG ew ms,AG b,WG ew' ms'] []=some [tb true]:=by
 have ka:=Ko (ew:=ew) I wf hm;have kb:=Ko (ew:=ew') w x q;have t:((0:Int)==0)=true:=rfl;have z:((10:Int)==0)=false:=rfl;have A:((10:Int)==10)=true:=rfl;rcases ka with⟨X,e,j,s⟩ | ⟨k,j,s⟩
 .obtain⟨P,o,y⟩:=H _ s;rcases kb with⟨Y,e',f,g⟩ | ⟨k,f,g⟩
  .rw [g,W5] at o;subst o;obtain⟨u,_⟩:=zp hm;obtain⟨G,_⟩:=zp q;obtain⟨r,_⟩:=nH (es:=(bm a).1.isEmpty) u;obtain⟨okb,_⟩:=nH (es:=(bm b).1.isEmpty) G;obtain⟨_,_,_,D,_⟩:=qR u;have hl:b.hs.length=a.hs.length:=by
    have:=congrArg List.length y;simpa using this
   have K:=D0 s;have L:=D0 g;simp only [XQ,Xu,XF] at K L;have R:(bm a).1.length=a.ns.length:=r.sl;have S:(bm b).1.length=b.ns.length:=okb.sl;have J:=Q7 (a:=a) (b:=b) (X:=X) (Y:=Y) (e:=e) (e':=e') hl D (λi k c v p=>by
    obtain⟨r1,r2⟩:=r.ho k (Xg v);obtain⟨Q,M⟩:=okb.ho c (Xg p);have N:k.toNat < (bm a).1.length:=(W9.1 r2).1;have O:c.toNat < (bm b).1.length:=(W9.1 M).1;have E:X[k.toNat]? =some (X.getD k.toNat jw):=by rw [Xa,Xd (by omega)];rfl
    have F:Y[c.toNat]? =some (Y.getD c.toNat jw):=by rw [Xa,Xd (by omega)];rfl
    have h:=congrArg (λl=>l[i]?) y;simp only [XU,v,p,YJ,W5] at h;have B:xK (X.map vv) k=vv (X.getD k.toNat jw):=by show(X.map vv).getD k.toNat v0=_;rw [Xa,XU,E];rfl
    have C:xK (Y.map vv) c=vv (Y.getD c.toNat jw):=by show(Y.map vv).getD c.toNat v0=_;rw [Xa,XU,F];rfl
    rw [B,C] at h;exact⟨by omega,by omega,(congrArg Vv.n h).symm,(congrArg Vv.d h).symm⟩) a.hs 0 rfl (XZ _)
   refine ai ?_;rw [D3];simp only [aI,aL,aU,aP,bO,j,f,t,Xc,aV];exact J
  .rw [g] at o;cases o
 .rcases kb with⟨Y,e',f,g⟩ | ⟨c,f,g⟩
  .refine ai ?_;rw [D3];simp only [aI,aL,aU,aP,bO,cD,j,f,t,z,A,Xc,Xe,aS]
  .refine ai ?_;rw [D3];simp only [aI,aL,aU,aP,bO,cD,j,f,t,z,A,Xc,Xe,aS]
open Go Go.Aev
theorem Mz{a:As}:oq a.ds (bF a).ds:=by
 unfold bF;cases b:lV a with
 | true=>rw [if_pos rfl];exact BY _ _ _
 | false=>rw [if_neg (by decide)];unfold lV pF at b;rw [X0] at b;exact Hc _ λd c=>by simpa using XJ.1 b.2 d c
theorem UJ:Or (.call 8) [AV.agg [AV.t (T.aa 3 true []),AV.t (T.aa 5 true []),AV.t (T.aa 1 true [])]] []=some [tb true]:=by refine ai ?_;rw [WA];rfl
theorem Cn{q:Bool}{val:List Int->Int}:∀{r acc:List En},(∀e∈acc,e.to.cs= []/\(e.ea=true->e.ar= []))->(∀e∈r,e.ea=true->e.ar= [])->∀e∈fQ q val acc r,e.to.cs= []/\(e.ea=true->e.ar= [])
 | [],acc,h,_=>h
 | x::r,acc,h,a=>by
  rw [fQ];split
  .exact Cn h λe he=>a e (W8 _ he)
  .refine Cn (λe he=> ?_) λe he=>a e (W8 _ he);rcases Xo.1 he with he | he
   .exact h e he
   .rw [Xi] at he;subst he;exact⟨rfl,a x W7⟩
theorem H6{q:Bool}{val:List Int->Int}:∀{r:List Me} {acc:List En},(∀e∈acc,e.to.cs= []/\(e.ea=true->e.ar= []))->(∀m∈r,∀e∈m.rs,e.ea=true->e.ar= [])->∀e∈gQ q val acc r,e.to.cs= []/\(e.ea=true->e.ar= [])
 | [],acc,h,_=>h
 | m::r,acc,h,a=>by rw [gQ];exact H6 (Cn h (a m W7)) λx b=>a x (W8 _ b)
theorem Qs{q:Bool}{b:List Me}(c:∀m∈b,u7 m):gw (iy q b):=by have h:=H6 (q:=q) (val:=gp b) (r:=b) (acc:= []) (λe a=>by cases a) λm hm=>(c m hm).ea;exact⟨XZ _,λe a=>by rw [(h e a).1];exact XZ _,λ_=>rfl,λe a _=>(h e a).1,λe a=>(h e a).2⟩
theorem Ng{m:Me}(h:gw m):gw (jK m):=by
 refine⟨h.re,λe a=> ?_,h.rcc,λe a=> ?_,λe a=> ?_⟩ <;> obtain⟨x,b,rfl⟩:=XB.1 a
 .exact h.rs x b
 .exact h.zT x b
 .exact h.ea x b
theorem DY:∀{ds:List Dc} {ms l:List Me},pV ds ms->py ds ms=some l->∀x∈l,gw x
 | [],ms,l,_,h=>by rw [show py [] ms=some [] from rfl,W5] at h;subst h;exact λx h=>by cases h
 | d::ds,ms,l,a,h=>by
  rw [show py (d::ds) ms=pA (iy false) jK (d::ds) ms from rfl,pA] at h;rw [pV] at a;split at h
  .rename_i e;rw [if_pos e] at a;split at h
   .cases h
   .obtain⟨l',c,rfl⟩:=Yo.1 h;intro x b;rcases Xl.1 b with rfl | b
    .exact Qs a.2.1
    .exact DY a.2.2 c x b
  .rename_i e;rw [if_neg e] at a;obtain⟨m,t,rfl,wf,ok,a⟩:=a;rw [Yl,Xb,Y4] at h;obtain⟨l',c,rfl⟩:=Yo.1 h;intro x b;rcases Xl.1 b with rfl | b
   .exact Ng wf
   .exact DY a c x b
theorem Qu{a:As}{ew:Bool}{ms:List Me}(f:LY a ms)(I:Or (.call 5) [] []=some [tb true]):Or (.call 4) [AG a,WG ew ms] []=some [tb true]:=by
 have k9:=UP (a:=a) f.aw f.nm;have y:((0:Int)==0)=true:=rfl;have z:∀c p:Int,c≠0->tH a= [T.aC true,T.aC true,T.aC true,ti c,ti p]->Or (.call 4) [AG a,WG ew ms] []=some [tb true]:=by
  intro c p F k;rw [k] at k9;have o:(c==0)=false:=by simpa using F
  have g:Or (.call 11) [AG a,WG ew ms] []=some [T.aC true,ti c,ti p]:=by refine ai ?_;rw [Bn];simp only [aI,aL,aU,dI,dz,dJ,fO,aP,cD,aS,aV,k9,o,Xe]
  refine ai ?_;rw [D7];simp only [aI,aL,aU,dI,dz,fO,bA,aP,cD,aS,aV,I,Xc,Xe,k9,g,o,fy,UJ]
 by_cases h:(bm a).2.1=0
 .have k:=Nu h;cases n:nZ a with
  | true=>rw [n,if_pos rfl] at k;exact z 10 0 (by decide) k
  | false=>
   rw [n,if_neg (by decide)] at k;rw [k] at k9;have O:=EP f.aw h n;have t:=Mz (a:=a);have r:=λl=>WQ (V:=ms) (l:=l) h n;have q:=λl (r:Wr a.ds (cZ a.ds) (Wf a.ds l) (Wf (bF a).ds ms)) X=>Bi (P:=PM) h n f.aw SX r (X:=X);generalize bF a=b at O k9 t r q;obtain⟨τ,hs,_,_⟩:=O.so;obtain⟨okb,H⟩:=nH (a:=b) (es:=true) (by rw [hs]);have U:∀d∈b.ds,d.nm.size<=12:=okb.ds;have v:∀d∈b.ds,d.nm.size<=9223372036854775807:=λd k=>by have:=U d k;omega
   have hbl:b.ds.length<=30:=okb.dl;have Z:=s8 (a:=b) (ew:=ew) (ms:=ms) v f.wf;have s:∀c' p':Int,c'≠0->Or (.call 11) [AG a,WG ew ms] []=some [T.aC true,ti c',ti p']->Or (.call 4) [AG a,WG ew ms] []=some [tb true]:=by
    intro c' p' F g;have o:(c'==0)=false:=by simpa using F
    refine ai ?_;rw [D7];simp only [aI,bI,aL,aU,dI,dz,fO,bA,aP,bO,cD,aS,aV,I,Xc,Xe,k9,g,o,y,fL]
   by_cases hm:(kI b ms).1=0
   .have u:((kI b ms).1==0)=true:=by simpa using hm
    obtain⟨m1,L,M⟩:=zp hm;have S:∀m∈ms,gw m/\oz m:=λm hm=>⟨f.wf m hm,by
     obtain⟨j,Q⟩:=X1 hm;have A:j < b.ds.length:=by rw [<-L];exact(W9.1 Q).1
     obtain⟨q1,q2,_⟩:=CL (M j _ m (Xd A) Q);exact⟨q1,λe he=>by rw [q2 e he];have:=H _ (Y5 A);omega⟩⟩
    have D:=DZ a.ds b.ds ms t L S M;have hadl:a.ds.length<=30:=(nH (es:=(bm a).1.isEmpty) h).1.dl;obtain⟨R,hR,i⟩:=Q8 (ed:=a.ed) (ew:=ew) (ds:=a.ds) (ms:=ms) (by omega) (by omega) a.ds 0 0 [] rfl (XZ _) (by rw [Z4];exact D) (by simp;omega);rw [Z4] at i;have g:Or (.call 11) [AG a,WG ew ms] []=some R:=by refine ai ?_;rw [Bn];simp only [aI,aL,aU,dI,dz,dJ,fO,aP,bO,aS,aV,k9,Z,u,y,Xc,cR];exact hR
    cases w:py a.ds ms with
    | none=>rw [w] at i;obtain rfl:R= [T.aC true,ti 10,ti 0]:=i;exact s 10 0 (by decide) g
    | some l=>
     rw [w] at i;obtain⟨x,rfl,W⟩:=i;rw [Yf] at W;obtain⟨N,K⟩:=r l (xW L M) w;have B:=DY D w;obtain⟨J,G⟩:=AM N;have C:kI a l= (0,0):=by unfold kI;rw [if_neg (by simpa using h),if_neg (by simpa using J),G 0]
     have E:=s8 (a:=a) (ew:=l.isEmpty) (ms:=l) f.nm B;rw [C] at E;have Y:=Tu (a:=a) (b:=b) (ew:=l.isEmpty) (ew':=ew) (ms:=l) (ms':=ms) f.nm v B f.wf (by rw [C]) hm (q l K);refine ai ?_;rw [D7];simp only [aI,aL,aU,dI,dz,fO,bA,aP,bO,aS,aV,I,W,Xc,k9,g,E,y,Y]
   .have u:((kI b ms).1==0)=false:=by simpa using hm
    refine s _ (kI b ms).2 hm (ai ?_);rw [Bn];simp only [aI,aL,aU,dI,dz,dJ,fO,aP,bO,aS,aV,k9,Z,u,y,Xc,Xe]
 .exact z _ (bm a).2.2 h (by unfold tH;rw [if_neg h])
open Go Go.Aev Go.Proofs
theorem claim4(vs:List AV)(h:xx aj (19+1) Tryz.f4.params.toList vs):Or (.call 4) vs []=some [.bool true]:=by rw [Tryz.params4] at h;obtain⟨a,_,rfl,c,b,_,rfl,d,rfl⟩:=h;obtain⟨x,rfl,f,g⟩:=Mw c;obtain⟨e,ms,rfl,i⟩:=WO d;exact Qu ⟨f,g,i⟩ PX
end Go.Aev.Gen
