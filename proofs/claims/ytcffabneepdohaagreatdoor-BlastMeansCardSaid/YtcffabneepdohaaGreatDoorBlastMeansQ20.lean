import Derived.Test.YtcffabneepdohaaGreatDoorBlastMeansQ19
import Derived.Test.YtcffabneepdohaaGreatDoorBlastMeansQ17
set_option linter.all false
namespace Go.Aev.Gen
open Go Go.Aev
def gP(P:Pm)(W:Wd)(ss:List Int):List Nd->Nat->List Vv->Option (List Vv)
 | [],_,X=>some X
 | x::r,i,X=>(dK P W x.op x.n x.d x.nm (kv X x) (jF ss (ss.getD i 0) x.ks)).bind λv=>gP P W ss r (i+1) (X++ [v])
theorem L4{ss:List Int}{i:Nat}{s:Int}{ks:List Int}(h:∀k∈ks,0<=k/\k < (i:Int)):jF (ss.take i) s ks=jF ss s ks:=by
 unfold jF;generalize s - 10=b;induction ks generalizing b with
 | nil=>rfl
 | cons k r c=>
  have d:=h k Wl;have e:(ss.take i).getD k.toNat 0=ss.getD k.toNat 0:=by rw [Wp,Wp,X7 (by omega)]
  rw [YH,YH,e];exact c (λy a=>h y (Wn _ a)) _
theorem Lv.snoc{c:Cx}{t:Tr}{M:Mk}{x:List Int}{ρ X:List Vv}{i:Nat}{s:Int}{l:List Int}{a:Int}{v:Vv}(h:Lv c t x ρ X i)(g:cG c t M i)(hs:c.ss[i]? =some s)(C:aE s=true->∃f,BL x ρ l f/\v=fK (wv f:Int))(A:aE s=false->bD x a s/\iQ ρ a v)(D:s=1->∃z,v=bM z):Lv c ⟨t.bits++ [l],t.to++ [a]⟩ x ρ (X++ [v]) (i+1):=by
 have y:∀k,k < i->(X++ [v])[k]? =X[k]?:=λk r=>WB (by rw [h.l];exact r);have n:(X++ [v])[i]? =some v:=by rw [WJ (by rw [h.l];exact WH _),h.l,Xx];rfl
 refine⟨by simp [h.l],λk s' r d j b o=> ?_,λk s' r d j u q=> ?_,λk r d=> ?_⟩
 .by_cases e:k=i
  .subst e;rw [hs] at d;simp only [Wj] at d;subst d;rw [WJ (by rw [g.bl];exact WH _),g.bl,Xx] at o;simp only [W7,Wj] at o;subst o;obtain⟨f,g1,m⟩:=C j;exact⟨f,g1,by rw [n,m]⟩
  .rw [WB (by rw [g.bl];omega)] at o;obtain⟨f,g1,m⟩:=h.w k s' (by omega) d j b o;exact⟨f,g1,by rw [y k (by omega)];exact m⟩
 .by_cases e:k=i
  .subst e;rw [hs] at d;simp only [Wj] at d;subst d;rw [WJ (by rw [g.tl];exact WH _),g.tl,Xx] at q;simp only [W7,Wj] at q;subst q;exact⟨(A j).1,v,n,(A j).2⟩
  .rw [WB (by rw [g.tl];omega)] at q;obtain⟨g1,F,m,B⟩:=h.p k s' (by omega) d j u q;exact⟨g1,F,by rw [y k (by omega)];exact m,B⟩
 .by_cases e:k=i
  .subst e;rw [hs] at d;simp only [Wj] at d;obtain⟨z,E⟩:=D d;exact⟨z,by rw [n,E]⟩
  .rw [y k (by omega)];exact h.b k (by omega) d
section
variable {P:Pm} {W0 W1:Wd}
theorem H8{c:Cx}(ok:qG c){D:List Dc}(B:sR P)(z:qH c.ds D c.p)(r:Wr c.ds c.p W0 W1)(K:c.p.size<=100)(hold:∀(i:Nat) (x:Nd) (s:Int),c.ns[i]? =some x->c.ss[i]? =some s->py c i x s):
  ∀(rn:List Nd) (rs:List Int) (i:Nat) (t:Tr) (M:Mk) (n:List Int) (ρ X Z:List Vv),c.ns.drop i=rn->c.ss.drop i=rs->i<=c.ns.length->cG c t M i->M.N.length<=800->Mv P D W1 M n ρ->Lv c t n ρ X i->gP P W0 c.ss rn i X=some Z->(fT c rn rs t M).2.N.length<=800->
   ∃a ρ',Mv P D W1 (fT c rn rs t M).2 a ρ'/\Lv c (fT c rn rs t M).1 a ρ' Z c.ns.length/\cG c (fT c rn rs t M).1 (fT c rn rs t M).2 c.ns.length
 | [],rs,i,t,M,n,ρ,X,Z,g,u,I,d,H,m,f,b,_=>by
  have:i=c.ns.length:=by have:=bt g;omega
  subst this;rw [gP,Wj] at b;subst b;rw [show fT c [] rs t M= (t,M) by simp [fT]];exact⟨n,ρ,m,f,d⟩
 | x::rn,[],i,t,M,n,ρ,X,Z,g,u,I,d,H,m,f,b,_=>by have w:=(br g).2.1;have o:=bt u;have:=ok.sl;omega
 | x::rn,s::rs,i,t,M,n,ρ,X,Z,g,u,I,d,H,m,f,b,hl=>by
  obtain⟨A,V,R⟩:=br g;obtain⟨j,_,G⟩:=br u;obtain⟨st,up⟩:=Di ok A j d K (by omega);have C:=ok.nd i x s A j;have y:=hold i x s A j;have J:∀k∈x.ks,0<=k/\k < (i:Int):=λk U=>by obtain⟨s',h⟩:=C.k k U;exact⟨h.h0,h.lt⟩
  have es:c.ss.getD i 0=s:=by rw [Wp,j];rfl
  rw [gP,es,<-L4 J] at b;obtain⟨v,L,b⟩:=Wk.1 b;have key:∃a ρ',Mv P D W1 (iP c t M x s).2 a ρ'/\Lv c (iP c t M x s).1 a ρ' (X++ [v]) (i+1):=by
   unfold iP;cases l:aE s with
   | true=>obtain⟨Q,⟨a,ρ',q,E,F,w⟩,o⟩:=VX B z r C y l d f m;rw [L,Wj] at o;exact⟨a,ρ',q,(f.mono E F).snoc d j (λ_=>⟨Q,w,o⟩) (λe=>by rw [l] at e;cases e) (λe=>by rw [e] at l;cases l)⟩
   | false=>obtain⟨⟨a,ρ',q,E,F,w,o⟩,S⟩:=Si B z r C y l d f m L;exact⟨a,ρ',q,(f.mono E F).snoc d j (λe=>by rw [l] at e;cases e) (λ_=>⟨w,o⟩) S⟩
  rw [fT] at hl⊢;split at hl
  .omega
  rename_i T;rw [if_neg T];obtain⟨a,ρ',q,O⟩:=key;exact H8 ok B z r K hold rn rs (i+1) _ _ a ρ' _ Z R G (by omega) st (by omega) q O b hl
structure Kv (P:Pm) (W:Wd) (ρ:List Vv) (need:List Bool) (n i:Nat) (to:List Int) (out:List Nd) (Y:List Vv):Prop where
 tl:to.length=n
 to:∀j,j < i->eR need j=true->iQ Y (to.getD j 0) (ρ.getD j v0)
 len:Y.length=out.length
 ev:∀(m:Nat) (y:Nd) (u:Vv),out[m]? =some y->Y[m]? =some u->dK P W y.op y.n y.d y.nm (kv Y y) 0=some u/\∀k∈y.ks,0<=k/\k < (m:Int)
theorem B0{D:List Dc}{W:Wd}{M:Mk}{Q:List Int}{ρ:List Vv}(l:Mv P D W M Q ρ){need:List Bool}(f:∀(j:Nat) (x:Nd),M.N[j]? =some x->eR need j=true->∀k∈x.ks,eR need k.toNat=true):
  ∀(r:List Nd) (i:Nat) (to:List Int) (out:List Nd) (Y:List Vv),M.N.drop i=r->i<=M.N.length->Kv P W ρ need M.N.length i to out Y->∃I,Kv P W ρ need M.N.length M.N.length (eJ need i r to out).1 (eJ need i r to out).2 I
 | [],i,to,out,Y,g,K,a=>by
  have:i=M.N.length:=by have:=bt g;omega
  subst this;exact⟨Y,a⟩
 | x::r,i,to,out,Y,g,K,a=>by
  obtain⟨A,C,E⟩:=br g;have v:i < ρ.length:=by rw [l.len];exact C
  rw [eJ];by_cases p:eR need i=true
  .rw [if_pos p];have q:=l.ty.in i x A;have O:=l.ev i x _ A (Wv v);have e:∀k∈x.ks,(to.set i (out.length:Int)).getD k.toNat 0=to.getD k.toNat 0:=λk b=>by
    have:=q k b;rw [Wp,Wp,Yi (by omega)]
   have b:∀k∈x.ks,iQ Y (to.getD k.toNat 0) (ρ.getD k.toNat v0):=λk b=>a.to k.toNat (by have:=q k b;omega) (f i x A p k b);have o:∀t:List Vv,((x.ks.map λk=>(to.set i (out.length:Int)).getD k.toNat 0).map λk=>(Y++t).getD k.toNat v0)=x.ks.map λk=>ρ.getD k.toNat v0:=λt=>by rw [XW];apply W8;intro k c;show(Y++t).getD ((to.set i (out.length:Int)).getD k.toNat 0).toNat v0=_;rw [e k c];exact((b k c).mono (Yt Y t)).get
   refine B0 l f r (i+1) (to.set i (out.length:Int)) (out++ [⟨x.op,x.ek,x.ks.map λk=>(to.set i (out.length:Int)).getD k.toNat 0,x.n,x.d,x.nm⟩]) (Y++ [ρ[i]]) E (by omega) ⟨by rw [Yg];exact a.tl,λj L ho=> ?_,by simp [a.len],λm y u hm h=> ?_⟩
   .by_cases w:j=i
    .subst w;rw [Wp,X1 (by rw [a.tl];exact C),Wp,Wv v];refine⟨Y1 _, ?_⟩;show(Y++ [ρ[j]])[((out.length:Nat):Int).toNat]? =some ρ[j];rw [WW,<-a.len];simp
    .have:=(a.to j (by omega) ho).mono (Yt Y [ρ[i]]);rw [Wp,Yi (by omega),<-Wp];exact this
   .rcases Ys m out.length with s | R
    .rw [WB s] at hm;rw [WB (by rw [a.len];exact s)] at h;obtain⟨J,B⟩:=a.ev m y u hm h;refine⟨?_,B⟩;unfold kv;rw [yN λk b=>by have:=B k b;have:=a.len;omega];exact J
    .have G:=(Wm.1 hm).1;rw [Xc,Wy] at G;obtain rfl:m=out.length:=by omega
     rw [WJ (WH _),Xx] at hm;rw [<-a.len,WJ (WH _),Xx] at h;simp only [W7,Wj] at hm h;subst hm h;refine⟨?_,λk c=> ?_⟩
     .show dK P W x.op x.n x.d x.nm ((x.ks.map λk=>(to.set i (out.length:Int)).getD k.toNat 0).map λk=>(Y++ [ρ[i]]).getD k.toNat v0) 0=_;rw [o];exact O
     .obtain⟨z,H,rfl⟩:=WU.1 (show k∈x.ks.map _ from c);rw [e z H];have F:=b z H;have S:=(Wm.1 F.2).1;have T:=a.len;have U:=F.1;omega
  .rw [if_neg p];exact B0 l f r (i+1) to out Y E (by omega) ⟨a.tl,λj L ho=>by
    by_cases w:j=i
    .subst w;exact absurd ho p
    .exact a.to j (by omega) ho,a.len,a.ev⟩
theorem KR{W:Wd}{τ:List Int}{N:List Nd}{Y:List Vv}(hl:Y.length=N.length)(a:∀y∈N,(y.op < 15\/23 < y.op)/\1<=y.op/\y.op<=25)(c:∀(m:Nat) (y:Nd) (u:Vv),N[m]? =some y->Y[m]? =some u->dK P W y.op y.n y.d y.nm (kv Y y) 0=some u/\∀k∈y.ks,0<=k/\k < (m:Int)):∀(r:List Nd) (i:Nat),N.drop i=r->i<=N.length->gP P W τ r i (Y.take i)=some Y
 | [],i,g,l=>by
  have:i=N.length:=by have:=bt g;omega
  subst this;rw [gP,<-hl,YC]
 | x::r,i,g,l=>by
  obtain⟨b,p,f⟩:=br g;have hs:i < Y.length:=by omega
  obtain⟨h,j⟩:=c i x _ b (Wv hs);obtain⟨o1,o2⟩:=a x (Wx b);have e:kv (Y.take i) x=kv Y x:=by apply W8;intro k o;have:=j k o;rw [Wp,Wp,X7 (by omega)]
  rw [gP,e,GG (b':=0) o1 o2,h,Wq,Zz hs];exact KR hl a c r (i+1) f (by omega)
theorem U3{D:List Dc}{W:Wd}{M:Mk}{o:List Int}{ρ:List Vv}(g:Mv P D W M o ρ){hold:List Int}(i:∀k∈hold,0<=k/\k < (M.N.length:Int)):
  ∃Y,Y.length= (ja M.N hold).1.length/\(∀(m:Nat) (y:Nd) (u:Vv),(ja M.N hold).1[m]? =some y->Y[m]? =some u->dK P W y.op y.n y.d y.nm (kv Y y) 0=some u/\∀k∈y.ks,0<=k/\k < (m:Int))/\(ja M.N hold).2.map (xK Y)=hold.map (xK ρ):=by
 have hl:(eG (List.replicate M.N.length false) hold).length=M.N.length:=by rw [rW,XL]
 have c:=g.ty.in;have b:∀(j:Nat) (x:Nd),M.N[j]? =some x->eR (back M.N (eG (List.replicate M.N.length false) hold) M.N.length) j=true->∀k∈x.ks,eR (back M.N (eG (List.replicate M.N.length false) hold) M.N.length) k.toNat=true:=
  λj x e ho k l=>Ap c M.N.length _ (by omega) j x (Wm.1 e).1 e ho k l
 obtain⟨Y,a⟩:=B0 g b M.N 0 (List.replicate M.N.length 0) [] [] rfl (Xr _) ⟨by simp,λj q=>by omega,rfl,λm y u hm=>by simp at hm⟩;refine⟨Y,a.len,a.ev, ?_⟩;show(hold.map _).map _=_;rw [XW];apply W8;intro z f;have p:=i z f;have h:=a.to z.toNat (by omega) (xL _ _ (yW f (by rw [XL];omega)));exact h.get
theorem AL{a:As}(h:(bg a).2.1=0)(hm:mO a=false)(wf:pj a)(hP:sR P)(C:Wr a.ds (cV a.ds) W0 W1){X:List Vv}(J:gP P W0 (bg a).1 a.ns 0 []=some X):∃Y,gP P W1 (bg (bF a)).1 (bF a).ns 0 []=some Y/\(bF a).hs.map (xK Y)=a.hs.map (xK X):=by
 obtain⟨ok,hda⟩:=nC (es:=(bg a).1.isEmpty) h;obtain⟨g1,g2,g3,g4,g5⟩:=sA h;have L:∀d∈a.ds,d.nm.size<=12:=ok.ds;have K:=Em wf h hm;cases l:jX a with
 | true=>
  have o:=hm;unfold mO at o;rw [l,Xe,Xq,Xq] at o;obtain⟨m1,m2,m3⟩:=o;have u:qq a=true:=by simpa using m1
  unfold qq at u;rw [Ww,decide_eq_true_eq] at u;have R:(iy a).2.N.length<=800:=by simpa using m2
  have hps:(cV a.ds).size<=12:=ze L 11 us (by rw [hU];omega);obtain⟨V,hck,hdw⟩:=AM g2 u.1;obtain⟨σ,ρ,S,lv,ht⟩:=H8 (c:=pP a) ok (D:=nF a) hP V C (by show(cV a.ds).size<=100;omega) (za h) a.ns (bg a).1 0 ⟨[],[]⟩ ⟨[],[]⟩ [] [] [] X rfl rfl (Xr _) ⟨IP,rfl,rfl,λk s f=>by omega,λk s f=>by omega⟩ (by simp) ⟨⟨rfl,λi x s G=>by simp at G,λp hp=>by cases hp⟩,rfl,λj x v G=>by simp at G,λj v hs=>by simp at hs⟩ ⟨rfl,λk s f=>by omega,λk s f=>by omega,λk f=>by omega⟩ J R;have A:∀z∈a.hs,iQ ρ (bp (iy a).1 z) (xK X z):=λz t=>by
   obtain⟨z0,T⟩:=ok.ho z t;have hzl:z.toNat < a.ns.length:=by have:=(Wm.1 T).1;have I:(lB a (bg a).1.isEmpty (bg a).1).ss.length=a.ns.length:=ok.sl;omega
   exact(KW.sd (c:=pP a) (i:=a.ns.length) ⟨z0,by omega,T⟩ ht lv rfl).2
  obtain⟨Y,y1,y2,y3⟩:=U3 S (hold:=a.hs.map (bp (iy a).1)) (λk f=>by
   obtain⟨z,t,rfl⟩:=WU.1 f;have H:=A z t;have I:=(Wm.1 H.2).1;have h3:=S.len;have h4:=H.1;have h5:(iy a).2.N.length=ρ.length:=h3.symm;show 0<=bp (iy a).1 z/\bp (iy a).1 z < ((iy a).2.N.length:Int);omega)
  have m:bF a= ⟨(nF a).isEmpty,nF a,(lW a).1.isEmpty,(lW a).1,(lW a).2.isEmpty,(lW a).2⟩:=by unfold bF;rw [l,if_pos rfl]
  obtain⟨τ,hs,htl,_⟩:=K.so;have q:∀y∈(bF a).ns,(y.op < 15\/23 < y.op)/\1<=y.op/\y.op<=25:=λy Q=>by
   obtain⟨okb,_⟩:=nC (a:=bF a) (es:=true) (by rw [hs]);obtain⟨i,M⟩:=Xv Q;have O:i < (bg (bF a)).1.length:=by have I:(bg (bF a)).1.length= (bF a).ns.length:=okb.sl;have:=(Wm.1 M).1;omega
   exact⟨K.op y Q,(okb.nd i y _ M (Wv O)).op⟩
  generalize (bg (bF a)).1=U;rw [m] at q⊢;refine⟨Y, ?_, ?_⟩
  .exact KR (τ:=U) (N:=(lW a).1) (Y:=Y) y1 q y2 _ 0 rfl (Xr _)
  .show(lW a).2.map (xK Y)=a.hs.map (xK X);refine YS y3 ?_;rw [XW];apply W8;intro z t;exact(A z t).get
 | false=>
  have m:bF a= ⟨a.ds.isEmpty,a.ds,a.ns.isEmpty,a.ns,a.eh,a.hs⟩:=by unfold bF;rw [l,if_neg (by decide)]
  have hs:bg ⟨a.ds.isEmpty,a.ds,a.ns.isEmpty,a.ns,a.eh,a.hs⟩=bg a:=rfl;have w2:∀d∈a.ds,aE d.so=false:=by unfold jX pf at l;rw [Xq] at l;exact λd w=>by simpa using Xd.1 l.2 d w
  rw [m,hs];refine⟨X, ?_,rfl⟩;have F:∀(r:List Nd) (i:Nat) (Z:List Vv),a.ns.drop i=r->gP P W1 (bg a).1 r i Z=gP P W0 (bg a).1 r i Z:=by
   intro r;induction r with
   | nil=>intro i Z _;rfl
   | cons x r ih=>
    intro i Z g;obtain⟨gx,gi,gr⟩:=br g;have hsl:(bg a).1.length=a.ns.length:=ok.sl;have gs:(bg a).1[i]? =some (bg a).1[i]:=Wv (by omega);have B:=za (es:=true) h i x _ gx gs;have e:∀b,dK P W1 x.op x.n x.d x.nm (kv Z x) b=dK P W0 x.op x.n x.d x.nm (kv Z x) b:=λb=>by
     by_cases E:x.op=9
     .obtain⟨k,d,f1,W,f3,f4,f5,f6⟩:=oL B E (qn B).1;rw [E];show some (W1 x.nm ((kv Z x).map λv=>v.n))=some (W0 x.nm ((kv Z x).map λv=>v.n));have w:d∈a.ds:=Wx W;have:=C.pl d w (w2 d w) ((kv Z x).map λv=>v.n);rw [f3] at this;rw [this]
     .unfold dK;simp only [if_neg E]
    rw [gP,gP,e];congr 1;funext v;exact ih (i+1) _ gr
  exact(F a.ns 0 [] rfl).trans J
end
open Go Go.Aev
def vv(v:Va):Vv:=⟨v.n,v.d,v.cs,v.r⟩
def fu:List En->Va->List Int->Va
 | [],d,_=>d
 | e::r,d,x=>if e.ar=x then e.to else fu r d x
def Ih:Me:=⟨true,true,[],⟨true,0,0,true,[],0⟩⟩
def Wf(ds:List Dc)(ms:List Me):Wd:=λnm x=>vv (fu (ms.getD (bm ds nm).toNat Ih).rs (ms.getD (bm ds nm).toNat Ih).re x)
theorem Po{D:List Dc}(h:kS D){i:Nat}{d:Dc}(f:D[i]? =some d):bm D d.nm= (i:Int):=by
 have h0: 0<=bm D d.nm:=BE ⟨d,Wx f,rfl⟩;obtain⟨k,e,g,j,c,_⟩:=yx h0;rw [g];have b:=(Wm.1 j);have a:=(Wm.1 f);rcases Zn k i with q | q | q
 .exact absurd c (by
   have:=Zp.1 h k i b.1 a.1 q;rw [b.2,a.2] at this;exact this)
 .rw [q]
 .exact absurd c.symm (by
   have:=Zp.1 h i k a.1 b.1 q;rw [b.2,a.2] at this;exact this)
theorem Ag{D:List Dc}{V:List Me}(h:kS D){i:Nat}{d:Dc}{m:Me}(a:D[i]? =some d)(hm:V[i]? =some m)(x:List Int):Wf D V d.nm x=vv (fu m.rs m.re x):=by unfold Wf;rw [Po h a,WW,Wp,hm];rfl
theorem Dr{P:Va->Prop}{d:Va}{x:List Int}(a:P d):∀{l:List En},(∀e∈l,P e.to)->P (fu l d x)
 | [],_=>a
 | e::r,h=>by
  rw [fu];split
  .exact h e Wl
  .exact Dr a λy b=>h y (Wn _ b)
theorem Dq{f:En->En}{g:Va->Va}(a:∀e,(f e).ar=e.ar/\(f e).to=g e.to){d:Va}{x:List Int}:∀(l:List En),fu (l.map f) (g d) x=g (fu l d x)
 | []=>rfl
 | e::r=>by
  rw [WL,fu,fu,(a e).1,(a e).2];split
  .rfl
  .exact Dq a r
theorem PH{v:Va}(h:dh 1 v=true):∃z,vv v=bM z:=by
 have g:=Hn h;unfold dh at h;rw [if_neg (by decide)] at h;split at h
 .cases h
 rename_i c;have a:v.cs= []:=XO λe=>c (.inl e);have b:v.r=0:=XO λe=>c (.inr (.inl e));have f:v.d=1:=XO λe=>c (.inr (.inr (.inr ⟨by decide,e⟩)));unfold vv;rw [a,b,f];rcases g with e | e
 .exact⟨false,by rw [e];rfl⟩
 .exact⟨true,by rw [e];rfl⟩
theorem Ds{d:Dc}{m:Me}(h:fJ d m=0)(x:List Int):dh d.so (fu m.rs m.re x)=true:=by
 have k:=Cj h;exact Dr (P:=λv=>dh d.so v=true) k.r λe a=>by have:=Xd.1 k.v e a;simpa using this
theorem VY{s:Int}{v:Va}(g:aE s=true)(h:dh s v=true):∃n:Nat,n < 2 ^ (s - 10).toNat/\vv v=fK (n:Int)/\v.n= (n:Int):=by obtain⟨c,d,e,f,b⟩:=PI g h;obtain⟨n,a⟩:=YE f;refine⟨n,by rw [a] at b;exact_mod_cast b, ?_,a⟩;unfold vv;rw [c,d,e,a];rfl
theorem uU:∀{ds:List Dc} {ms:List Me} {j:Nat} {d:Dc},iB ds ms->ds[j]? =some d->∃m,ms[j]? =some m/\fJ d m=0
 | [],[],j,d,_,h=>by simp at h
 | [],_::_,_,_,h,_=>h.elim
 | _::_,[],_,_,h,_=>h.elim
 | d::ds,m::ms,0,e,h,a=>by simp only [W7,Wj] at a;subst a;exact⟨m,rfl,h.1⟩
 | d::ds,m::ms,j+1,e,h,a=>by obtain⟨f,b,c⟩:=uU (j:=j) h.2 (by simpa using a);exact⟨f,by simpa using b,c⟩
theorem Ar{p:ByteArray}{k:Nat}{d:Dc}{m:Me}:∀(n b c:Nat),c < n->(fZ p k d b n)[c]? =some ⟨NW p k (b+c),d.ea,d.ar,1⟩/\(ku m b n)[c]? =some (cS m (b+c))
 | 0,b,c,h=>by omega
 | n+1,b,0,_=>⟨rfl,rfl⟩
 | n+1,b,c+1,h=>by rw [fZ,ku,XH,XH,show b+ (c+1)=b+1+c by omega];exact Ar n (b+1) c (by omega)
theorem E5{p:ByteArray}:∀{ds:List Dc} {ms:List Me} (k:Nat) {j:Nat} {d:Dc} {m:Me},iB ds ms->ds[j]? =some d->ms[j]? =some m->
  (aE d.so=false->∃i:Nat,(cE p k ds)[i]? =some d/\(ef ds ms)[i]? =some (jk m))/\(aE d.so=true->∀b,b < (d.so - 10).toNat->∃i:Nat,(cE p k ds)[i]? =some ⟨NW p (k+j) b,d.ea,d.ar,1⟩/\(ef ds ms)[i]? =some (cS m b))
 | [],[],k,j,d,m,_,h,_=>by simp at h
 | [],_::_,_,_,_,_,h,_,_=>h.elim
 | _::_,[],_,_,_,_,h,_,_=>h.elim
 | d0::ds,n::ms,k,0,d,m,h,o,hm=>by
  simp only [W7,Wj] at o hm;subst o hm;rw [cE,ef];unfold gU ic;refine⟨λa=>⟨0, ?_, ?_⟩,λa b e=>⟨b, ?_, ?_⟩⟩
  .rw [if_neg (by rw [a];decide)];rfl
  .rw [if_neg (by rw [a];decide)];rfl
  .obtain⟨g,_⟩:=Ar (p:=p) (k:=k) (d:=d0) (m:=n) (d0.so - 10).toNat 0 b e;rw [if_pos a,WB (by rw [sW];exact e),g,WZ];rfl
  .obtain⟨_,g⟩:=Ar (p:=p) (k:=k) (d:=d0) (m:=n) (d0.so - 10).toNat 0 b e;rw [if_pos a,WB (by rw [xM];exact e),g,WZ]
 | d0::ds,n::ms,k,j+1,d,m,h,o,hm=>by
  obtain⟨g,q⟩:=E5 (p:=p) (k+1) (j:=j) h.2 (by simpa using o) (by simpa using hm);have hl:∃l,((if aE d0.so=true then fZ p k d0 0 (d0.so - 10).toNat else [d0]).length=l)/\(gU d0 n).length=l:=by
   unfold gU ic;split
   .exact⟨_,sW _ _ _ _ _,xM _ _ _⟩
   .exact⟨1,rfl,rfl⟩
  obtain⟨l,r,s⟩:=hl;have c:∀{i:Nat} {x:Dc} {y:Me},(cE p (k+1) ds)[i]? =some x->(ef ds ms)[i]? =some y->(cE p k (d0::ds))[l+i]? =some x/\(ef (d0::ds) (n::ms))[l+i]? =some y:=λ{i x y} g1 f=>by rw [cE,ef,WJ (by omega),WJ (by omega),r,s,Nat.add_sub_cancel_left];exact⟨g1,f⟩
  refine⟨λa=> ?_,λa b e=> ?_⟩
  .obtain⟨i,g1,f⟩:=g a;exact⟨l+i,c g1 f⟩
  .obtain⟨i,g1,f⟩:=q a b e;rw [show k+1+j=k+ (j+1) by omega] at g1;exact⟨l+i,c g1 f⟩
theorem Iz{ds:List Dc}(h:(eN [] 0 ds).1=0):kS ds:=by simpa using AF (ds:=ds) h List.Pairwise.nil
theorem LZ{m:Me}{b n:Nat}{x:List Int}(d:(fu m.rs m.re x).n= (n:Int))(a:n < 256)(c:b < 8):vv (fu (cS m b).rs (cS m b).re x)=bM (n.testBit b):=by show vv (fu (m.rs.map (cW b)) (og m.re b) x)=_;rw [Dq (f:=cW b) (g:=λv=>og v b) (λe=>⟨rfl,rfl⟩)];show(⟨fY (fu m.rs m.re x).n b,1,[],0⟩:Vv)=_;rw [d,LX a c,Nat.testBit_eq_decide_div_mod_eq];have:n / 2 ^ b % 2 < 2:=Zo _ (by decide);rcases(by omega:n / 2 ^ b % 2=0\/n / 2 ^ b % 2=1) with e | e <;> rw [e] <;> rfl
theorem V0{a:As}{ms:List Me}(h:(bg a).2.1=0)(hm:mO a=false)(h0:iB a.ds ms):Wr a.ds (cV a.ds) (Wf a.ds ms) (Wf (bF a).ds (ef a.ds ms)):=by
 obtain⟨g1,u,S,T,U⟩:=sA h;have D:=Iz u;have L:=(Aj h0).1;have E:∀d∈a.ds,aE d.so=true->(d.so - 10).toNat<=8:=λd _ c=>by have:=rO.1 c;omega
 have W0:∀{j:Nat} {d:Dc} {m:Me},a.ds[j]? =some d->ms[j]? =some m->∀x,Wf a.ds ms d.nm x=vv (fu m.rs m.re x):=λl hm x=>Ag D l hm x;have K:kS (bF a).ds/\∀{j:Nat} {d:Dc} {m:Me},a.ds[j]? =some d->ms[j]? =some m->(aE d.so=false->∃i:Nat,(bF a).ds[i]? =some d/\(ef a.ds ms)[i]? =some (jk m))/\(aE d.so=true->∀b,b < (d.so - 10).toNat->∃i:Nat,(bF a).ds[i]? =some ⟨NW (cV a.ds) j b,d.ea,d.ar,1⟩/\(ef a.ds ms)[i]? =some (cS m b)):=by
  have r:(eN [] 0 (bF a).ds).1=0/\(jX a=true->(bF a).ds=cE (cV a.ds) 0 a.ds)/\(jX a=false->(bF a).ds=a.ds):=by
   unfold bF;cases c:jX a with
   | true=>
    rw [if_pos rfl];unfold mO qq at hm;rw [c,Xe,Xq] at hm;have F:(iY (cV a.ds) 0 a.ds true && decide ((((nF a).length:Nat):Int)<=30))=true:=by simpa using hm.1
    rw [Ww] at F;exact⟨by show(eN [] 0 (cE (cV a.ds) 0 a.ds)).1=0;rw [(AM u F.1).2.1],λ_=>rfl,λe=>by cases e⟩
   | false=>rw [if_neg (by decide)];exact⟨u,λe=>(by cases e),λ_=>rfl⟩
  refine⟨Iz r.1,λ{j d m} l hm=> ?_⟩;cases c:jX a with
  | true=>rw [r.2.1 c];have:=E5 (p:=cV a.ds) 0 h0 l hm;rw [WZ] at this;exact this
  | false=>
   rw [r.2.2 c];have H:∀d∈a.ds,aE d.so=false:=by unfold jX pf at c;rw [Xq] at c;exact λd l=>by simpa using Xd.1 c.2 d l
   have C:∀{ds:List Dc} {ms:List Me} {j:Nat} {m:Me},(∀d∈ds,aE d.so=false)->iB ds ms->ms[j]? =some m->(ef ds ms)[j]? =some (jk m):=by
    intro ds;induction ds with
    | nil=>intro ms j m _ h hm;cases ms with
     | nil=>simp at hm
     | cons _ _=>exact h.elim
    | cons I ds O=>
     intro ms j m c h hm;cases ms with
     | nil=>exact h.elim
     | cons V ms=>
      rw [ef];unfold gU;rw [if_neg (by rw [c I Wl];decide)];cases j with
      | zero=>simp at hm;subst hm;rfl
      | succ j=>simpa using O (λx M=>c x (Wn _ M)) h.2 (by simpa using hm)
   refine⟨λ_=>⟨j,l,C H h0 hm⟩,λe=> ?_⟩;rw [H d (Wx l)] at e;cases e
 obtain⟨B,A⟩:=K;refine⟨λd l c x=> ?_,λk d t c x=> ?_,λd l hs x=> ?_⟩
 .obtain⟨j,q⟩:=Xv l;obtain⟨m,o,_⟩:=uU h0 q;obtain⟨i,w,y⟩:=(A q o).1 c;rw [Ag B w y,W0 q o];show vv (fu (m.rs.map nE) (nV m.re) x)=_;rw [Dq (f:=nE) (g:=nV) (λe=>⟨rfl,rfl⟩)];rfl
 .obtain⟨m,o,v⟩:=uU h0 t;have s:=Ds v x;obtain⟨n,G,Q,R⟩:=VY c s;refine⟨n,G,by rw [W0 t o,Q],λb r=> ?_⟩;obtain⟨i,w,y⟩:=(A t o).2 c b r;have J:=E d (Wx t) c;have:=Ag B w y x;refine YS this (LZ R (Xt G (YB (by decide) J: 2 ^ (d.so - 10).toNat<=2 ^ 8)) (by omega))
 .obtain⟨j,q⟩:=Xv l;obtain⟨m,o,v⟩:=uU h0 q;have s:=Ds v x;rw [hs] at s;obtain⟨z,N⟩:=PH s;exact⟨z,by rw [W0 q o,N]⟩
open Go Go.Aev
theorem UG(m:Me)(x:List Int):uC m x= (fu m.rs m.re x).n:=by
 unfold uC;induction m.rs with
 | nil=>rfl
 | cons e r a=>
  rw [Dp,fu];split
  .rfl
  .exact a
def zP(a:List Me)(x:List Int):List Bool:=a.map λm=>uC m x==1
structure Jn (d:Dc) (bs:List Me):Prop where
 l:bs.length= (d.so - 10).toNat
 c:∀m∈bs,∃b:Dc,b.so=1/\b.ar=d.ar/\fJ b m=0
 n:(PR false bs).rs.length<=1000
theorem Jn.tr{d:Dc}{a:List Me}(h:Jn d a)(x:List Int):∀m∈a,uC m x=0\/uC m x=1:=λm hm=>by obtain⟨b,e,_,f⟩:=h.c m hm;have:=Ds f x;rw [e] at this;rw [UG];exact Hn this
theorem Jn.lt{d:Dc}{a:List Me}(h:Jn d a)(x:List Int):wv (zP a x) < 2 ^ (d.so - 10).toNat:=by have:=xe (zP a x);rw [show(zP a x).length= (d.so - 10).toNat by unfold zP;rw [W6,h.l]] at this;exact this
end Go.Aev.Gen
