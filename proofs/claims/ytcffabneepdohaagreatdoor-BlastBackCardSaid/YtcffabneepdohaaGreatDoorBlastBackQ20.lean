import Derived.Test.YtcffabneepdohaaGreatDoorBlastBackQ19
import Derived.Test.YtcffabneepdohaaGreatDoorBlastBackQ17
set_option linter.all false
namespace Go.Aev.Gen
open Go Go.Aev
def gS(P:Pm)(W:Wd)(ss:List Int):List Nd->Nat->List Vv->Option (List Vv)
 | [],_,X=>some X
 | x::r,i,X=>(dM P W x.op x.n x.d x.nm (kv X x) (jH ss (ss.getD i 0) x.ks)).bind λv=>gS P W ss r (i+1) (X++ [v])
theorem MJ{ss:List Int}{i:Nat}{s:Int}{ks:List Int}(h:∀k∈ks,0<=k/\k < (i:Int)):jH (ss.take i) s ks=jH ss s ks:=by
 unfold jH;generalize s - 10=b;induction ks generalizing b with
 | nil=>rfl
 | cons k r c=>
  have d:=h k W7;have e:(ss.take i).getD k.toNat 0=ss.getD k.toNat 0:=by rw [Xa,Xa,YN (by omega)]
  rw [Zo,Zo,e];exact c (λy a=>h y (W8 _ a)) _
theorem Lv.snoc{c:Cx}{t:Tr}{M:Mk}{x:List Int}{ρ X:List Vv}{i:Nat}{s:Int}{l:List Int}{a:Int}{v:Vv}(h:Lv c t x ρ X i)(g:cJ c t M i)(hs:c.ss[i]? =some s)(C:aG s=true->∃f,BL x ρ l f/\v=fT (wv f:Int))(A:aG s=false->bG x a s/\iS ρ a v)(D:s=1->∃z,v=bP z):Lv c ⟨t.bits++ [l],t.to++ [a]⟩ x ρ (X++ [v]) (i+1):=by
 have y:∀k,k < i->(X++ [v])[k]? =X[k]?:=λk r=>Xk (by rw [h.l];exact r);have n:(X++ [v])[i]? =some v:=by rw [Xs (by rw [h.l];exact Xr _),h.l,Yc];rfl
 refine⟨by simp [h.l],λk s' r d j b o=> ?_,λk s' r d j u q=> ?_,λk r d=> ?_⟩
 .by_cases e:k=i
  .subst e;rw [hs] at d;simp only [W5] at d;subst d;rw [Xs (by rw [g.bl];exact Xr _),g.bl,Yc] at o;simp only [XM,W5] at o;subst o;obtain⟨f,g1,m⟩:=C j;exact⟨f,g1,by rw [n,m]⟩
  .rw [Xk (by rw [g.bl];omega)] at o;obtain⟨f,g1,m⟩:=h.w k s' (by omega) d j b o;exact⟨f,g1,by rw [y k (by omega)];exact m⟩
 .by_cases e:k=i
  .subst e;rw [hs] at d;simp only [W5] at d;subst d;rw [Xs (by rw [g.tl];exact Xr _),g.tl,Yc] at q;simp only [XM,W5] at q;subst q;exact⟨(A j).1,v,n,(A j).2⟩
  .rw [Xk (by rw [g.tl];omega)] at q;obtain⟨g1,F,m,B⟩:=h.p k s' (by omega) d j u q;exact⟨g1,F,by rw [y k (by omega)];exact m,B⟩
 .by_cases e:k=i
  .subst e;rw [hs] at d;simp only [W5] at d;obtain⟨z,E⟩:=D d;exact⟨z,by rw [n,E]⟩
  .rw [y k (by omega)];exact h.b k (by omega) d
section
variable {P:Pm} {W0 W1:Wd}
theorem IH{c:Cx}(ok:qY c){D:List Dc}(B:tf P)(z:qZ c.ds D c.p)(r:Wr c.ds c.p W0 W1)(K:c.p.size<=100)(hold:∀(i:Nat) (x:Nd) (s:Int),c.ns[i]? =some x->c.ss[i]? =some s->pS c i x s):
  ∀(rn:List Nd) (rs:List Int) (i:Nat) (t:Tr) (M:Mk) (n:List Int) (ρ X Z:List Vv),c.ns.drop i=rn->c.ss.drop i=rs->i<=c.ns.length->cJ c t M i->M.N.length<=800->Mv P D W1 M n ρ->Lv c t n ρ X i->gS P W0 c.ss rn i X=some Z->(fR c rn rs t M).2.N.length<=800->
   ∃a ρ',Mv P D W1 (fR c rn rs t M).2 a ρ'/\Lv c (fR c rn rs t M).1 a ρ' Z c.ns.length/\cJ c (fR c rn rs t M).1 (fR c rn rs t M).2 c.ns.length
 | [],rs,i,t,M,n,ρ,X,Z,g,u,I,d,H,m,f,b,_=>by
  have:i=c.ns.length:=by have:=bu g;omega
  subst this;rw [gS,W5] at b;subst b;rw [show fR c [] rs t M= (t,M) by simp [fR]];exact⟨n,ρ,m,f,d⟩
 | x::rn,[],i,t,M,n,ρ,X,Z,g,u,I,d,H,m,f,b,_=>by have w:=(bt g).2.1;have o:=bu u;have:=ok.sl;omega
 | x::rn,s::rs,i,t,M,n,ρ,X,Z,g,u,I,d,H,m,f,b,hl=>by
  obtain⟨A,V,R⟩:=bt g;obtain⟨j,_,G⟩:=bt u;obtain⟨st,up⟩:=DL ok A j d K (by omega);have C:=ok.nd i x s A j;have y:=hold i x s A j;have J:∀k∈x.ks,0<=k/\k < (i:Int):=λk U=>by obtain⟨s',h⟩:=C.k k U;exact⟨h.h0,h.lt⟩
  have es:c.ss.getD i 0=s:=by rw [Xa,j];rfl
  rw [gS,es,<-MJ J] at b;obtain⟨v,L,b⟩:=W6.1 b;have key:∃a ρ',Mv P D W1 (iR c t M x s).2 a ρ'/\Lv c (iR c t M x s).1 a ρ' (X++ [v]) (i+1):=by
   unfold iR;cases l:aG s with
   | true=>obtain⟨Q,⟨a,ρ',q,E,F,w⟩,o⟩:=WN B z r C y l d f m;rw [L,W5] at o;exact⟨a,ρ',q,(f.mono E F).snoc d j (λ_=>⟨Q,w,o⟩) (λe=>by rw [l] at e;cases e) (λe=>by rw [e] at l;cases l)⟩
   | false=>obtain⟨⟨a,ρ',q,E,F,w,o⟩,S⟩:=SW B z r C y l d f m L;exact⟨a,ρ',q,(f.mono E F).snoc d j (λe=>by rw [l] at e;cases e) (λ_=>⟨w,o⟩) S⟩
  rw [fR] at hl⊢;split at hl
  .omega
  rename_i T;rw [if_neg T];obtain⟨a,ρ',q,O⟩:=key;exact IH ok B z r K hold rn rs (i+1) _ _ a ρ' _ Z R G (by omega) st (by omega) q O b hl
structure Kv (P:Pm) (W:Wd) (ρ:List Vv) (need:List Bool) (n i:Nat) (to:List Int) (out:List Nd) (Y:List Vv):Prop where
 tl:to.length=n
 to:∀j,j < i->eW need j=true->iS Y (to.getD j 0) (ρ.getD j v0)
 len:Y.length=out.length
 ev:∀(m:Nat) (y:Nd) (u:Vv),out[m]? =some y->Y[m]? =some u->dM P W y.op y.n y.d y.nm (kv Y y) 0=some u/\∀k∈y.ks,0<=k/\k < (m:Int)
theorem Cr{D:List Dc}{W:Wd}{M:Mk}{Q:List Int}{ρ:List Vv}(l:Mv P D W M Q ρ){need:List Bool}(f:∀(j:Nat) (x:Nd),M.N[j]? =some x->eW need j=true->∀k∈x.ks,eW need k.toNat=true):
  ∀(r:List Nd) (i:Nat) (to:List Int) (out:List Nd) (Y:List Vv),M.N.drop i=r->i<=M.N.length->Kv P W ρ need M.N.length i to out Y->∃I,Kv P W ρ need M.N.length M.N.length (eO need i r to out).1 (eO need i r to out).2 I
 | [],i,to,out,Y,g,K,a=>by
  have:i=M.N.length:=by have:=bu g;omega
  subst this;exact⟨Y,a⟩
 | x::r,i,to,out,Y,g,K,a=>by
  obtain⟨A,C,E⟩:=bt g;have v:i < ρ.length:=by rw [l.len];exact C
  rw [eO];by_cases p:eW need i=true
  .rw [if_pos p];have q:=l.ty.in i x A;have O:=l.ev i x _ A (Xd v);have e:∀k∈x.ks,(to.set i (out.length:Int)).getD k.toNat 0=to.getD k.toNat 0:=λk b=>by
    have:=q k b;rw [Xa,Xa,Y1 (by omega)]
   have b:∀k∈x.ks,iS Y (to.getD k.toNat 0) (ρ.getD k.toNat v0):=λk b=>a.to k.toNat (by have:=q k b;omega) (f i x A p k b);have o:∀t:List Vv,((x.ks.map λk=>(to.set i (out.length:Int)).getD k.toNat 0).map λk=>(Y++t).getD k.toNat v0)=x.ks.map λk=>ρ.getD k.toNat v0:=λt=>by rw [Yr];apply XI;intro k c;show(Y++t).getD ((to.set i (out.length:Int)).getD k.toNat 0).toNat v0=_;rw [e k c];exact((b k c).mono (Zb Y t)).get
   refine Cr l f r (i+1) (to.set i (out.length:Int)) (out++ [⟨x.op,x.ek,x.ks.map λk=>(to.set i (out.length:Int)).getD k.toNat 0,x.n,x.d,x.nm⟩]) (Y++ [ρ[i]]) E (by omega) ⟨by rw [YZ];exact a.tl,λj L ho=> ?_,by simp [a.len],λm y u hm h=> ?_⟩
   .by_cases w:j=i
    .subst w;rw [Xa,YG (by rw [a.tl];exact C),Xa,Xd v];refine⟨ZH _, ?_⟩;show(Y++ [ρ[j]])[((out.length:Nat):Int).toNat]? =some ρ[j];rw [Xv,<-a.len];simp
    .have:=(a.to j (by omega) ho).mono (Zb Y [ρ[i]]);rw [Xa,Y1 (by omega),<-Xa];exact this
   .rcases Za m out.length with s | R
    .rw [Xk s] at hm;rw [Xk (by rw [a.len];exact s)] at h;obtain⟨J,B⟩:=a.ev m y u hm h;refine⟨?_,B⟩;unfold kv;rw [zd λk b=>by have:=B k b;have:=a.len;omega];exact J
    .have G:=(W9.1 hm).1;rw [XK,Xh] at G;obtain rfl:m=out.length:=by omega
     rw [Xs (Xr _),Yc] at hm;rw [<-a.len,Xs (Xr _),Yc] at h;simp only [XM,W5] at hm h;subst hm h;refine⟨?_,λk c=> ?_⟩
     .show dM P W x.op x.n x.d x.nm ((x.ks.map λk=>(to.set i (out.length:Int)).getD k.toNat 0).map λk=>(Y++ [ρ[i]]).getD k.toNat v0) 0=_;rw [o];exact O
     .obtain⟨z,H,rfl⟩:=XB.1 (show k∈x.ks.map _ from c);rw [e z H];have F:=b z H;have S:=(W9.1 F.2).1;have T:=a.len;have U:=F.1;omega
  .rw [if_neg p];exact Cr l f r (i+1) to out Y E (by omega) ⟨a.tl,λj L ho=>by
    by_cases w:j=i
    .subst w;exact absurd ho p
    .exact a.to j (by omega) ho,a.len,a.ev⟩
theorem Ls{W:Wd}{τ:List Int}{N:List Nd}{Y:List Vv}(hl:Y.length=N.length)(a:∀y∈N,(y.op < 15\/23 < y.op)/\1<=y.op/\y.op<=25)(c:∀(m:Nat) (y:Nd) (u:Vv),N[m]? =some y->Y[m]? =some u->dM P W y.op y.n y.d y.nm (kv Y y) 0=some u/\∀k∈y.ks,0<=k/\k < (m:Int)):∀(r:List Nd) (i:Nat),N.drop i=r->i<=N.length->gS P W τ r i (Y.take i)=some Y
 | [],i,g,l=>by
  have:i=N.length:=by have:=bu g;omega
  subst this;rw [gS,<-hl,Zl]
 | x::r,i,g,l=>by
  obtain⟨b,p,f⟩:=bt g;have hs:i < Y.length:=by omega
  obtain⟨h,j⟩:=c i x _ b (Xd hs);obtain⟨o1,o2⟩:=a x (Xg b);have e:kv (Y.take i) x=kv Y x:=by apply XI;intro k o;have:=j k o;rw [Xa,Xa,YN (by omega)]
  rw [gS,e,Hb (b':=0) o1 o2,h,Xb,aal hs];exact Ls hl a c r (i+1) f (by omega)
theorem VN{D:List Dc}{W:Wd}{M:Mk}{o:List Int}{ρ:List Vv}(g:Mv P D W M o ρ){hold:List Int}(i:∀k∈hold,0<=k/\k < (M.N.length:Int)):
  ∃Y,Y.length= (jf M.N hold).1.length/\(∀(m:Nat) (y:Nd) (u:Vv),(jf M.N hold).1[m]? =some y->Y[m]? =some u->dM P W y.op y.n y.d y.nm (kv Y y) 0=some u/\∀k∈y.ks,0<=k/\k < (m:Int))/\(jf M.N hold).2.map (xK Y)=hold.map (xK ρ):=by
 have hl:(eK (List.replicate M.N.length false) hold).length=M.N.length:=by rw [sA,Ys]
 have c:=g.ty.in;have b:∀(j:Nat) (x:Nd),M.N[j]? =some x->eW (back M.N (eK (List.replicate M.N.length false) hold) M.N.length) j=true->∀k∈x.ks,eW (back M.N (eK (List.replicate M.N.length false) hold) M.N.length) k.toNat=true:=
  λj x e ho k l=>AR c M.N.length _ (by omega) j x (W9.1 e).1 e ho k l
 obtain⟨Y,a⟩:=Cr g b M.N 0 (List.replicate M.N.length 0) [] [] rfl (XZ _) ⟨by simp,λj q=>by omega,rfl,λm y u hm=>by simp at hm⟩;refine⟨Y,a.len,a.ev, ?_⟩;show(hold.map _).map _=_;rw [Yr];apply XI;intro z f;have p:=i z f;have h:=a.to z.toNat (by omega) (x7 _ _ (zm f (by rw [Ys];omega)));exact h.get
theorem Bi{a:As}(h:(bm a).2.1=0)(hm:nZ a=false)(wf:pJ a)(hP:tf P)(C:Wr a.ds (cZ a.ds) W0 W1){X:List Vv}(J:gS P W0 (bm a).1 a.ns 0 []=some X):∃Y,gS P W1 (bm (bF a)).1 (bF a).ns 0 []=some Y/\(bF a).hs.map (xK Y)=a.hs.map (xK X):=by
 obtain⟨ok,hda⟩:=nH (es:=(bm a).1.isEmpty) h;obtain⟨g1,g2,g3,g4,g5⟩:=qR h;have L:∀d∈a.ds,d.nm.size<=12:=ok.ds;have K:=EP wf h hm;cases l:lV a with
 | true=>
  have o:=hm;unfold nZ at o;rw [l,XR,X0,X0] at o;obtain⟨m1,m2,m3⟩:=o;have u:qJ a=true:=by simpa using m1
  unfold qJ at u;rw [Xf,decide_eq_true_eq] at u;have R:(iA a).2.N.length<=800:=by simpa using m2
  have hps:(cZ a.ds).size<=12:=zF L 11 us (by rw [ig];omega);obtain⟨V,hck,hdw⟩:=Bj g2 u.1;obtain⟨σ,ρ,S,lv,ht⟩:=IH (c:=qf a) ok (D:=nJ a) hP V C (by show(cZ a.ds).size<=100;omega) (zB h) a.ns (bm a).1 0 ⟨[],[]⟩ ⟨[],[]⟩ [] [] [] X rfl rfl (XZ _) ⟨Jk,rfl,rfl,λk s f=>by omega,λk s f=>by omega⟩ (by simp) ⟨⟨rfl,λi x s G=>by simp at G,λp hp=>by cases hp⟩,rfl,λj x v G=>by simp at G,λj v hs=>by simp at hs⟩ ⟨rfl,λk s f=>by omega,λk s f=>by omega,λk f=>by omega⟩ J R;have A:∀z∈a.hs,iS ρ (br (iA a).1 z) (xK X z):=λz t=>by
   obtain⟨z0,T⟩:=ok.ho z t;have hzl:z.toNat < a.ns.length:=by have:=(W9.1 T).1;have I:(lu a (bm a).1.isEmpty (bm a).1).ss.length=a.ns.length:=ok.sl;omega
   exact(KW.sJ (c:=qf a) (i:=a.ns.length) ⟨z0,by omega,T⟩ ht lv rfl).2
  obtain⟨Y,y1,y2,y3⟩:=VN S (hold:=a.hs.map (br (iA a).1)) (λk f=>by
   obtain⟨z,t,rfl⟩:=XB.1 f;have H:=A z t;have I:=(W9.1 H.2).1;have h3:=S.len;have h4:=H.1;have h5:(iA a).2.N.length=ρ.length:=h3.symm;show 0<=br (iA a).1 z/\br (iA a).1 z < ((iA a).2.N.length:Int);omega)
  have m:bF a= ⟨(nJ a).isEmpty,nJ a,(lT a).1.isEmpty,(lT a).1,(lT a).2.isEmpty,(lT a).2⟩:=by unfold bF;rw [l,if_pos rfl]
  obtain⟨τ,hs,htl,_⟩:=K.so;have q:∀y∈(bF a).ns,(y.op < 15\/23 < y.op)/\1<=y.op/\y.op<=25:=λy Q=>by
   obtain⟨okb,_⟩:=nH (a:=bF a) (es:=true) (by rw [hs]);obtain⟨i,M⟩:=X1 Q;have O:i < (bm (bF a)).1.length:=by have I:(bm (bF a)).1.length= (bF a).ns.length:=okb.sl;have:=(W9.1 M).1;omega
   exact⟨K.op y Q,(okb.nd i y _ M (Xd O)).op⟩
  generalize (bm (bF a)).1=U;rw [m] at q⊢;refine⟨Y, ?_, ?_⟩
  .exact Ls (τ:=U) (N:=(lT a).1) (Y:=Y) y1 q y2 _ 0 rfl (XZ _)
  .show(lT a).2.map (xK Y)=a.hs.map (xK X);refine Zx y3 ?_;rw [Yr];apply XI;intro z t;exact(A z t).get
 | false=>
  have m:bF a= ⟨a.ds.isEmpty,a.ds,a.ns.isEmpty,a.ns,a.eh,a.hs⟩:=by unfold bF;rw [l,if_neg (by decide)]
  have hs:bm ⟨a.ds.isEmpty,a.ds,a.ns.isEmpty,a.ns,a.eh,a.hs⟩=bm a:=rfl;have w2:∀d∈a.ds,aG d.so=false:=by unfold lV pF at l;rw [X0] at l;exact λd w=>by simpa using XJ.1 l.2 d w
  rw [m,hs];refine⟨X, ?_,rfl⟩;have F:∀(r:List Nd) (i:Nat) (Z:List Vv),a.ns.drop i=r->gS P W1 (bm a).1 r i Z=gS P W0 (bm a).1 r i Z:=by
   intro r;induction r with
   | nil=>intro i Z _;rfl
   | cons x r ih=>
    intro i Z g;obtain⟨gx,gi,gr⟩:=bt g;have hsl:(bm a).1.length=a.ns.length:=ok.sl;have gs:(bm a).1[i]? =some (bm a).1[i]:=Xd (by omega);have B:=zB (es:=true) h i x _ gx gs;have e:∀b,dM P W1 x.op x.n x.d x.nm (kv Z x) b=dM P W0 x.op x.n x.d x.nm (kv Z x) b:=λb=>by
     by_cases E:x.op=9
     .obtain⟨k,d,f1,W,f3,f4,f5,f6⟩:=oV B E (qG B).1;rw [E];show some (W1 x.nm ((kv Z x).map λv=>v.n))=some (W0 x.nm ((kv Z x).map λv=>v.n));have w:d∈a.ds:=Xg W;have:=C.pl d w (w2 d w) ((kv Z x).map λv=>v.n);rw [f3] at this;rw [this]
     .unfold dM;simp only [if_neg E]
    rw [gS,gS,e];congr 1;funext v;exact ih (i+1) _ gr
  exact(F a.ns 0 [] rfl).trans J
end
open Go Go.Aev
def vv(v:Va):Vv:=⟨v.n,v.d,v.cs,v.r⟩
def eR:List En->Va->List Int->Va
 | [],d,_=>d
 | e::r,d,x=>if e.ar=x then e.to else eR r d x
def zo:Me:=⟨true,true,[],⟨true,0,0,true,[],0⟩⟩
def Wf(ds:List Dc)(ms:List Me):Wd:=λnm x=>vv (eR (ms.getD (bp ds nm).toNat zo).rs (ms.getD (bp ds nm).toNat zo).re x)
theorem P5{D:List Dc}(h:lX D){i:Nat}{d:Dc}(f:D[i]? =some d):bp D d.nm= (i:Int):=by
 have h0: 0<=bp D d.nm:=B2 ⟨d,Xg f,rfl⟩;obtain⟨k,e,g,j,c,_⟩:=yQ h0;rw [g];have b:=(W9.1 j);have a:=(W9.1 f);rcases aab k i with q | q | q
 .exact absurd c (by
   have:=aac.1 h k i b.1 a.1 q;rw [b.2,a.2] at this;exact this)
 .rw [q]
 .exact absurd c.symm (by
   have:=aac.1 h i k a.1 b.1 q;rw [b.2,a.2] at this;exact this)
theorem vq{D:List Dc}{V:List Me}(h:lX D){i:Nat}{d:Dc}{m:Me}(a:D[i]? =some d)(hm:V[i]? =some m)(x:List Int):Wf D V d.nm x=vv (eR m.rs m.re x):=by unfold Wf;rw [P5 h a,Xv,Xa,hm];rfl
theorem DT{P:Va->Prop}{d:Va}{x:List Int}(a:P d):∀{l:List En},(∀e∈l,P e.to)->P (eR l d x)
 | [],_=>a
 | e::r,h=>by
  rw [eR];split
  .exact h e W7
  .exact DT a λy b=>h y (W8 _ b)
theorem K9{f:En->En}{g:Va->Va}(a:∀e,(f e).ar=e.ar/\(f e).to=g e.to){d:Va}{x:List Int}:∀(l:List En),eR (l.map f) (g d) x=g (eR l d x)
 | []=>rfl
 | e::r=>by
  rw [Xq,eR,eR,(a e).1,(a e).2];split
  .rfl
  .exact K9 a r
theorem HQ{v:Va}(h:dO 1 v=true):∃z,vv v=bP z:=by
 have g:=wg h;unfold dO at h;rw [if_neg (by decide)] at h;split at h
 .cases h
 rename_i c;have a:v.cs= []:=Zj λe=>c (.inl e);have b:v.r=0:=Zj λe=>c (.inr (.inl e));have f:v.d=1:=Zj λe=>c (.inr (.inr (.inr ⟨by decide,e⟩)));unfold vv;rw [a,b,f];rcases g with e | e
 .exact⟨false,by rw [e];rfl⟩
 .exact⟨true,by rw [e];rfl⟩
theorem DU{d:Dc}{m:Me}(h:ft d m=0)(x:List Int):dO d.so (eR m.rs m.re x)=true:=by
 have k:=zn h;exact DT (P:=λv=>dO d.so v=true) k.r λe a=>by have:=XJ.1 k.v e a;simpa using this
theorem tg:∀{ds:List Dc} {ms:List Me} {j:Nat} {d:Dc},jZ ds ms->ds[j]? =some d->∃m,ms[j]? =some m/\ft d m=0
 | [],[],j,d,_,h=>by simp at h
 | [],_::_,_,_,h,_=>h.elim
 | _::_,[],_,_,h,_=>h.elim
 | d::ds,m::ms,0,e,h,a=>by simp only [XM,W5] at a;subst a;exact⟨m,rfl,h.1⟩
 | d::ds,m::ms,j+1,e,h,a=>by obtain⟨f,b,c⟩:=tg (j:=j) h.2 (by simpa using a);exact⟨f,by simpa using b,c⟩
theorem AU{p:ByteArray}{k:Nat}{d:Dc}{m:Me}:∀(n b c:Nat),c < n->(fY p k d b n)[c]? =some ⟨NW p k (b+c),d.ea,d.ar,1⟩/\(AT m b n)[c]? =some (EV m (b+c))
 | 0,b,c,h=>by omega
 | n+1,b,0,_=>⟨rfl,rfl⟩
 | n+1,b,c+1,h=>by rw [fY,AT,Yn,Yn,show b+ (c+1)=b+1+c by omega];exact AU n (b+1) c (by omega)
theorem I5{ds:List Dc}(h:(eS [] 0 ds).1=0):lX ds:=by simpa using Bd (ds:=ds) h List.Pairwise.nil
open Go Go.Aev
theorem Fu{p:ByteArray}:∀(ds:List Dc) (k:Nat),(∀d∈ds,aG d.so=false)->cz p k ds=ds
 | [],_,_=>rfl
 | d::r,k,h=>by rw [cz,if_neg (by rw [h d W7];decide),Fu r (k+1) λx a=>h x (W8 _ a)];rfl
theorem Ns(a:As):(bF a).ds=cz (cZ a.ds) 0 a.ds:=by
 unfold bF;cases h:lV a with
 | true=>rfl
 | false=>unfold lV pF at h;rw [X0] at h;exact(Fu a.ds 0 λd b=>by simpa using XJ.1 h.2 d b).symm
theorem My{a:As}(h:(bm a).2.1=0)(hm:nZ a=false):(eS [] 0 (bF a).ds).1=0:=by
 obtain⟨_,b,_⟩:=qR h;unfold bF;cases d:lV a with
 | true=>
  rw [if_pos rfl];unfold nZ qJ at hm;rw [d,XR,X0] at hm;have c:(jc (cZ a.ds) 0 a.ds true && decide ((((nJ a).length:Nat):Int)<=30))=true:=by simpa using hm.1
  rw [Xf] at c;show(eS [] 0 (cz (cZ a.ds) 0 a.ds)).1=0;rw [(Bj b c.1).2.1]
 | false=>rw [if_neg (by decide)];exact b
theorem DS(m:Me)(x:List Int):je m x= (eR m.rs m.re x).n:=by
 unfold je;induction m.rs with
 | nil=>rfl
 | cons e r a=>
  rw [po,eR];split
  .rfl
  .exact a
theorem Cm{q:Bool}{val:List Int->Int}:∀(r acc:List En),(∀e∈acc,e.to=nu q (val e.ar))->∀e∈fQ q val acc r,e.to=nu q (val e.ar)
 | [],_,h=>h
 | x::r,acc,h=>by
  rw [fQ];split
  .exact Cm r acc h
  .refine Cm r _ λe he=> ?_;rcases Xo.1 he with he | he
   .exact h e he
   .rw [Xi] at he;subst he;rfl
theorem Ci{q:Bool}{val:List Int->Int}:∀(r:List Me) (acc:List En),(∀e∈acc,e.to=nu q (val e.ar))->∀e∈gQ q val acc r,e.to=nu q (val e.ar)
 | [],_,h=>h
 | m::r,acc,h=>by rw [gQ];exact Ci r _ (Cm m.rs acc h)
theorem Cl{q:Bool}{val:List Int->Int}:∀(r acc:List En),(∀e∈acc,e∈fQ q val acc r)/\∀e∈r,∃y∈fQ q val acc r,y.ar=e.ar
 | [],acc=>⟨λe he=>he,λe he=>by cases he⟩
 | x::r,acc=>by
  rw [fQ];split
  .rename_i d;obtain⟨a,b⟩:=Cl (q:=q) (val:=val) r acc;refine⟨a,λe he=> ?_⟩;rcases Xl.1 he with rfl | he
   .obtain⟨y,f,c⟩:=YS.1 d;exact⟨y,a y f,by simpa using c⟩
   .exact b e he
  .obtain⟨a,b⟩:=Cl (q:=q) (val:=val) r (acc++ [⟨x.ea,x.ar,nu q (val x.ar)⟩]);refine⟨λe he=>a e (Xp _ he),λe he=> ?_⟩;rcases Xl.1 he with rfl | he
   .exact⟨_,a _ (Xn _ (Xi.2 rfl)),rfl⟩
   .exact b e he
theorem H5{q:Bool}{val:List Int->Int}:∀(r:List Me) (acc:List En),(∀e∈acc,e∈gQ q val acc r)/\∀m∈r,∀e∈m.rs,∃y∈gQ q val acc r,y.ar=e.ar
 | [],acc=>⟨λe a=>a,λm hm=>by cases hm⟩
 | m::r,acc=>by
  obtain⟨c,f⟩:=H5 (q:=q) (val:=val) r (fQ q val acc m.rs);obtain⟨g,h⟩:=Cl (q:=q) (val:=val) m.rs acc;rw [gQ];refine⟨λe a=>c e (g e a),λy b e a=> ?_⟩;rcases Xl.1 b with rfl | b
  .obtain⟨z,i,d⟩:=h e a;exact⟨z,c z i,d⟩
  .exact f y b e a
theorem Lb{val:List Int->Int}{d:Va}{x:List Int}:∀{l:List En},(∀e∈l,e.to=nu false (val e.ar))->(eR l d x=nu false (val x))\/((∀e∈l,e.ar≠x)/\eR l d x=d)
 | [],_=> .inr ⟨λe f=>(by cases f),rfl⟩
 | e::r,h=>by
  rw [eR];by_cases b:e.ar=x
  .rw [if_pos b];exact .inl (by rw [h e W7,b])
  .rw [if_neg b];rcases Lb (d:=d) (x:=x) (l:=r) λy a=>h y (W8 _ a) with g | ⟨g1,c⟩
   .exact .inl g
   .refine .inr ⟨λy a=> ?_,c⟩;rcases Xl.1 a with rfl | a
    .exact b
    .exact g1 y a
theorem La{d:Va}{x:List Int}:∀{l:List En},(∀e∈l,e.ar≠x)->eR l d x=d
 | [],_=>rfl
 | e::r,h=>by rw [eR,if_neg (h e W7)];exact La λy a=>h y (W8 _ a)
theorem Vn(a:List Me)(x:List Int):eR (iy false a).rs (iy false a).re x=nu false (gp a x):=by
 show eR (gQ false (gp a) [] a) (nu false (oP a)) x=_;rcases Lb (d:=nu false (oP a)) (x:=x) (Ci (q:=false) (val:=gp a) a [] λe b=>by cases b) with g | ⟨g1,h⟩
 .exact g
 .rw [h];congr 1;unfold oP gp;congr 1;apply XI;intro m hm;have c:∀e∈m.rs,e.ar≠x:=λe b=>by
   obtain⟨y,i,f⟩:=(H5 (q:=false) (val:=gp a) a []).2 m hm e b;rw [<-f];exact g1 y i
  rw [DS,La c]
theorem Eb:∀(l:List Bool) (k:Nat),mw k (l.map λb=>((bN b:Nat):Int))= ((2 ^ k * wv l:Nat):Int)
 | [],k=>by simp [mw,wv]
 | b::l,k=>by
  rw [Xq,mw,Eb l (k+1),wv,aam];have:((2:Int) ^ k)= ((2 ^ k:Nat):Int):=by simp
  rw [this,<-Int.natCast_mul,<-aao,Z5,aan (bN b),Z9]
def pr(a:List Me)(x:List Int):List Bool:=a.map λm=>je m x==1
theorem H7{a:List Me}{x:List Int}(h:∀m∈a,je m x=0\/je m x=1):gp a x= ((wv (pr a x):Nat):Int):=by
 unfold gp;have:(a.map λm=>je m x)= (pr a x).map λb=>((bN b:Nat):Int):=by unfold pr;rw [Yr];apply XI;intro m hm;show je m x= ((bN (je m x==1):Nat):Int);rcases h m hm with e | e <;> rw [e] <;> rfl
 rw [this,Eb,Nat.pow_zero,Nat.one_mul]
theorem Cj{q:Bool}{val:List Int->Int}:∀(r acc:List En),acc.Pairwise (λa b=>a.ar≠b.ar)->(fQ q val acc r).Pairwise λa b=>a.ar≠b.ar
 | [],_,h=>h
 | x::r,acc,h=>by
  rw [fQ];split
  .exact Cj r acc h
  .rename_i e;refine Cj r _ (Zy.2 ⟨h,ZL _ _,λa d b c=> ?_⟩);rw [Xi] at c;subst c;have:=XJ.1 ((YK _).mp e) a d;simpa using this
theorem H4{q:Bool}{val:List Int->Int}:∀(r:List Me) (acc:List En),acc.Pairwise (λa b=>a.ar≠b.ar)->(gQ q val acc r).Pairwise λa b=>a.ar≠b.ar
 | [],_,h=>h
 | m::r,acc,h=>by rw [gQ];exact H4 r _ (Cj m.rs acc h)
theorem FF:∀(r d:List En),(∀a∈d,∀b∈r,a.ar≠b.ar)->r.Pairwise (λa b=>a.ar≠b.ar)->kC d r=false
 | [],_,_,_=>rfl
 | e::r,d,h,j=>by
  obtain⟨g,i⟩:=Z7.1 j;rw [kC,X0];refine⟨XJ.2 λa c=>by simp [h a c e W7],FF r _ (λa c b f=> ?_) i⟩;rcases Xo.1 c with c | c
  .exact h a c b (W8 _ f)
  .rw [Xi] at c;subst c;exact g b f
theorem HP{s:Int}{n:Nat}{q:Bool}(a:aG s=true)(h:n < 2 ^ (s - 10).toNat):dO s (nu q (n:Int))=true:=by
 have hs:=wk.1 a;have b:n < 256:=X5 h (Y2 (by decide) (by omega:(s - 10).toNat<=8): 2 ^ (s - 10).toNat<=2 ^ 8);have c:jq (n:Int) 1=0:=by
  have:∀k:_root_.Fin 256,jq ((k.val:Nat):Int) 1=0:=by decide+kernel
  exact this ⟨n,b⟩
 unfold dO nu;rw [if_neg (by omega),if_neg,if_neg (by omega),if_neg (by omega),if_pos a,Xf,decide_eq_true_eq,decide_eq_true_eq]
 .exact⟨by show(n:Int)>=0;omega,by show(n:Int) < 2 ^ (s - 10).toNat;exact_mod_cast h⟩
 .rintro(e | e | e | ⟨_,e⟩)
  .exact e rfl
  .exact e rfl
  .exact e c
  .exact e rfl
structure Jn (d:Dc) (bs:List Me):Prop where
 l:bs.length= (d.so - 10).toNat
 c:∀m∈bs,∃b:Dc,b.so=1/\b.ar=d.ar/\ft b m=0
 n:(iy false bs).rs.length<=1000
theorem Jn.tr{d:Dc}{a:List Me}(h:Jn d a)(x:List Int):∀m∈a,je m x=0\/je m x=1:=λm hm=>by obtain⟨b,e,_,f⟩:=h.c m hm;have:=DU f x;rw [e] at this;rw [DS];exact wg this
theorem Jn.lt{d:Dc}{a:List Me}(h:Jn d a)(x:List Int):wv (pr a x) < 2 ^ (d.so - 10).toNat:=by have:=uZ (pr a x);rw [show(pr a x).length= (d.so - 10).toNat by unfold pr;rw [XQ,h.l]] at this;exact this
theorem Ex{l:List En}{P:List Int->Bool}(h:∀e∈l,P e.ar=false):(l.any λe=>P e.ar)=false:=XJ.2 λe a=>by rw [h e a];decide
theorem QX{d:Dc}{f:List Me}(o:aG d.so=true)(h:Jn d f):ft d (iy false f)=0:=by
 have v: 1<=f.length:=by have:=wk.1 o;have:=h.l;omega
 have i:∀e∈(iy false f).rs,e.ar.length=d.ar.length/\(e.ar.any λn=> !eL n)=false:=by
  refine H0 false (gp f) (P:=λx=>x.length=d.ar.length/\(x.any λn=> !eL n)=false) f [] (λe g=>by cases g) λm hm e g=> ?_;obtain⟨b,_,s,j⟩:=h.c m hm;have k:=zn j;rw [<-s];refine⟨?_, ?_⟩
  .have:=XJ.1 k.a e g;simp at this;omega
  .have:=XJ.1 k.t e g;simpa using this
 refine IN ⟨h.n, ?_, ?_, ?_, ?_, ?_⟩
 .exact Ex (P:=λa=> !((a.length:Int)== (d.ar.length:Int))) λe g=>by rw [(i e g).1];simp
 .exact Ex (P:=λa=>a.any λn=> !eL n) λe g=>(i e g).2
 .exact FF _ [] (λa u=>by cases u) (H4 f [] List.Pairwise.nil)
 .show dO d.so (nu false (oP f))=true;have w:oP f= ((wv (f.map λm=>m.re.n==1):Nat):Int):=by
   unfold oP;have:(f.map λm=>m.re.n)= (f.map λm=>m.re.n==1).map λb=>((bN b:Nat):Int):=by rw [Yr];apply XI;intro m hm;obtain⟨b,p,_,j⟩:=h.c m hm;have k:=(zn j).r;rw [p] at k;show m.re.n= ((bN (m.re.n==1):Nat):Int);rcases wg k with e | e <;> rw [e] <;> rfl
   rw [this,Eb,Nat.pow_zero,Nat.one_mul]
  rw [w];refine HP o ?_;have:=uZ (f.map λm=>m.re.n==1);rw [XQ,h.l] at this;exact this
 .refine XJ.2 λe g=> ?_;have:=Ci (q:=false) (val:=gp f) f [] (λe g=>by cases g) e g;rw [this,H7 (h.tr e.ar),HP o (h.lt e.ar)];decide
theorem Lo{p:ByteArray}:∀{ds:List Dc} {V l:List Me} (k:Nat),py ds V=some l->jZ (cz p k ds) V->
  l.length=ds.length/\∀(j:Nat) (d:Dc),ds[j]? =some d->∃f,l[j]? =some f/\
   (aG d.so=false->∃(i:Nat) (m:Me),(cz p k ds)[i]? =some d/\V[i]? =some m/\f=jK m/\ft d m=0)/\
   (aG d.so=true->∃o,f=iy false o/\Jn d o/\∀b,b < (d.so - 10).toNat->∃(i:Nat) (m:Me),(cz p k ds)[i]? =some ⟨NW p (k+j) b,d.ea,d.ar,1⟩/\V[i]? =some m/\o[b]? =some m)
 | [],V,l,k,h,_=>by have:some []=some l:=h;rw [W5] at this;subst this;exact⟨rfl,λj d c=>by simp at c⟩
 | d0::ds,V,l,k,h,M=>by
  have r:pA (iy false) jK (d0::ds) V=some l:=h;rw [pA] at r;rw [cz] at M
  have rest:∀{n:Nat} {l':List Me} {f:Me},l=f::l'->(if aG d0.so=true then fY p k d0 0 (d0.so - 10).toNat else [d0]).length=n->py ds (V.drop n)=some l'->jZ (cz p (k+1) ds) (V.drop n)->
    l.length= (d0::ds).length/\∀(j:Nat) (d:Dc),(d0::ds)[j+1]? =some d->∃f,l[j+1]? =some f/\
     (aG d.so=false->∃(i:Nat) (m:Me),(cz p k (d0::ds))[i]? =some d/\V[i]? =some m/\f=jK m/\ft d m=0)/\
     (aG d.so=true->∃o,f=iy false o/\Jn d o/\∀b,b < (d.so - 10).toNat->∃(i:Nat) (m:Me),(cz p k (d0::ds))[i]? =some ⟨NW p (k+ (j+1)) b,d.ea,d.ar,1⟩/\V[i]? =some m/\o[b]? =some m):=by
   intro n l' f hl O D u;obtain⟨r1,r2⟩:=Lo (p:=p) (k+1) D u;have Q:∀{i:Nat} {x:Dc},(cz p (k+1) ds)[i]? =some x->(cz p k (d0::ds))[n+i]? =some x:=λ{i x} g=>by rw [cz,Xs (by omega),O,ZM];exact g
   have R:∀{i:Nat} {m:Me},(V.drop n)[i]? =some m->V[n+i]? =some m:=λ{i m} g=>by rw [YT] at g;exact g
   refine⟨by rw [hl,Xj,Xj,r1],λj d c=> ?_⟩;obtain⟨U,Y,s2,s3⟩:=r2 j d (by simpa using c);refine⟨U,by rw [hl];simpa using Y,λa=> ?_,λa=> ?_⟩
   .obtain⟨i,m,J,K,L,t4⟩:=s2 a;exact⟨n+i,m,Q J,R K,L,t4⟩
   .obtain⟨o,J,K,L⟩:=s3 a;refine⟨o,J,K,λb E=> ?_⟩;obtain⟨i,m,S,u2,u3⟩:=L b E;rw [show k+1+j=k+ (j+1) by omega] at S;exact⟨n+i,m,Q S,R u2,u3⟩
  have s:∀{A B:List Dc} {Z:List Me},jZ (A++B) Z->jZ A (Z.take A.length)/\jZ B (Z.drop A.length):=by
   intro A;induction A with
   | nil=>intro B Z h;exact⟨by rw [Xu,Z2];trivial,h⟩
   | cons x A T=>
    intro B Z h;cases Z with
    | nil=>exact h.elim
    | cons z Z=>obtain⟨W,X⟩:=T h.2;exact⟨⟨h.1,W⟩,X⟩
  obtain⟨t,C⟩:=s M;split at r
  .rename_i a;rw [if_pos a] at t C;rw [nz] at t C;split at r
   .cases r
   rename_i O;obtain⟨l',D,u⟩:=Yo.1 r;obtain⟨r1,r2⟩:=rest (n:=(d0.so - 10).toNat) u.symm (by rw [if_pos a,nz]) D C;refine⟨r1,λj d c=> ?_⟩;cases j with
   | succ j=>exact r2 j d c
   | zero=>
    simp only [XM,W5] at c;subst c;have w:=(AM t).1;rw [nz] at w;refine⟨iy false (V.take (de d0.so)),by rw [<-u];rfl,λe=>(by rw [a] at e;cases e),λ_=>⟨V.take (de d0.so),rfl,⟨w,λm hm=> ?_,by omega⟩,λb E=> ?_⟩⟩
    .obtain⟨i,N⟩:=X1 hm;have G:i < (fY p k d0 0 (d0.so - 10).toNat).length:=by
      rw [nz];have:=(W9.1 N).1;have e:(V.take (de d0.so)).length= (d0.so - 10).toNat:=w;omega
     have y:=(AU (p:=p) (k:=k) (d:=d0) (m:=zo) (d0.so - 10).toNat 0 i (by rw [nz] at G;exact G)).1;obtain⟨I,q,F⟩:=tg t y;rw [show V.take (d0.so - 10).toNat=V.take (de d0.so) from rfl,N,W5] at q;subst q;exact⟨(⟨NW p k (0+i),d0.ea,d0.ar,1⟩:Dc),rfl,rfl,F⟩
    .have y:=(AU (p:=p) (k:=k) (d:=d0) (m:=zo) (d0.so - 10).toNat 0 b E).1;obtain⟨I,q,F⟩:=tg t y;refine⟨b,I, ?_, ?_,q⟩
     .rw [cz,if_pos a,Xk (by rw [nz];exact E),y,XF];rfl
     .rw [YB,if_pos E] at q;exact q
  .rename_i a;rw [if_neg a] at t C;obtain⟨m,hm,r⟩:=W6.1 r;obtain⟨l',D,u⟩:=Yo.1 r;have H:V[0]? =some m:=by cases V with
    | nil=>cases hm
    | cons v V=>simpa using hm
   obtain⟨r1,r2⟩:=rest (n:=1) u.symm (by rw [if_neg a];rfl) (by rw [List.drop_one];exact D) C;refine⟨r1,λj d c=> ?_⟩;cases j with
   | succ j=>exact r2 j d c
   | zero=>simp only [XM,W5] at c;subst c;refine⟨jK m,by rw [<-u];rfl,λ_=>⟨0,m,by rw [cz,if_neg a];rfl,H,rfl, ?_⟩,λe=>absurd e a⟩;obtain⟨I,q,F⟩:=tg t (j:=0) rfl;rw [YB,if_pos (by simp),H,W5] at q;subst q;exact F
theorem Md:∀{ds:List Dc} {ms:List Me},ms.length=ds.length->(∀(j:Nat) (d:Dc),ds[j]? =some d->∃m,ms[j]? =some m/\ft d m=0)->jZ ds ms:=λ{ds ms} hl h=>xW hl λj d m c hm=>by obtain⟨e,a,b⟩:=h j d c;rw [hm,W5] at a;subst a;exact b
theorem WQ{a:As}{V l:List Me}(h:(bm a).2.1=0)(hm:nZ a=false)(L:jZ (bF a).ds V)(S:py a.ds V=some l):jZ a.ds l/\Wr a.ds (cZ a.ds) (Wf a.ds l) (Wf (bF a).ds V):=by
 obtain⟨g1,O,X,Y,Z⟩:=qR h;have w:=I5 O;have C:=I5 (My h hm);have D:=Ns a;rw [D] at C L⊢;obtain⟨hl,s⟩:=Lo (p:=cZ a.ds) 0 S L;have h0:jZ a.ds l:=Md hl λj d t=>by
  obtain⟨F,y,G,H⟩:=s j d t;refine⟨F,y, ?_⟩;cases o:aG d.so with
  | true=>obtain⟨I,A,q,_⟩:=H o;rw [A];exact QX o q
  | false=>obtain⟨i,m,_,_,r,T⟩:=G o;rw [r];exact QW T
 refine⟨h0,⟨λd t o x=> ?_,λk d J o x=> ?_,λd t hs x=> ?_⟩⟩
 .obtain⟨j,v⟩:=X1 t;obtain⟨F,y,G,_⟩:=s j d v;obtain⟨i,m,A,q,r,_⟩:=G o;rw [vq C A q,vq w v y,r];show _=vv (eR (m.rs.map nE) (nV m.re) x);rw [K9 (f:=nE) (g:=nV) (λe=>⟨rfl,rfl⟩)];rfl
 .obtain⟨F,y,_,H⟩:=s k d J;obtain⟨I,A,q,r⟩:=H o;rw [XF] at r;refine⟨wv (pr I x),q.lt x, ?_,λb D=> ?_⟩
  .rw [vq w J y,A,Vn,H7 (q.tr x)];rfl
  .obtain⟨i,m,U,W,u3⟩:=r b D;have M:=vq C U W x;refine Zx M ?_;have E:=Xg u3;obtain⟨c,N,_,c3⟩:=q.c m E;have u:=DU c3 x;rw [N] at u;obtain⟨z,B⟩:=HQ u;have R:(eR m.rs m.re x).n= (bP z).n:=congrArg Vv.n B;rw [B,kM];congr 1;unfold pr;rw [Xa,XU,u3];show z= (je m x==1);rw [DS,R];cases z <;> rfl
 .obtain⟨j,v⟩:=X1 t;obtain⟨m,K,Q⟩:=tg h0 v;have u:=DU Q x;rw [hs] at u;obtain⟨z,B⟩:=HQ u;exact⟨z,by rw [vq w v K,B]⟩
end Go.Aev.Gen
