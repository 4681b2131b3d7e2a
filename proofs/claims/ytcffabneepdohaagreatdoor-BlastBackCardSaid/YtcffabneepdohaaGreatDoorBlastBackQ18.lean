import Derived.Test.YtcffabneepdohaaGreatDoorBlastBackQ15
set_option linter.all false
namespace Go.Aev.Gen
open Go Go.Aev
structure Vv where
 n:Int
 d:Int
 cs:List (Int×Int)
 r:Int
def fT(n:Int):Vv:=⟨n,1,[],0⟩
def bP(b:Bool):Vv:=fT (bif b then 1 else 0)
structure Pm where
 num:Int->Int->Int->List Vv->Option Vv
 less:Vv->Vv->Bool
 get:Vv->Int->Int
 put:Vv->Int->Int->Vv
 word:Int->Int->List Int->Int->Int
def iM(v:Vv):Bool:=v.n==1
def v0:Vv:=fT 0
def cy(ks:List Vv)(i:Nat):Vv:=ks.getD i v0
abbrev Wd:=ByteArray->List Int->Vv
def dM(P:Pm)(W:Wd)(op n d:Int)(nm:ByteArray)(ks:List Vv)(bits:Int):Option Vv:=
 if op=1\/op=2 then some (bP (op==1))
 else if op=3 then some (bP (!iM (cy ks 0)))
 else if op=4 then some (bP (!(ks.any λv=>v.n==0)))
 else if op=5 then some (bP (ks.any iM))
 else if op=6 then some (bP (iM (cy ks 0)==iM (cy ks 1)))
 else if op=7 then some (if iM (cy ks 0) then cy ks 1 else cy ks 2)
 else if op=8 then some (bP ((cy ks 0).n== (cy ks 1).n && (cy ks 0).d== (cy ks 1).d))
 else if op=9 then some (W nm (ks.map λv=>v.n))
 else if op=10 then some ⟨n,d,[],0⟩
 else if op=11\/op=12 then P.num op n d ks
 else if op=13 then some (bP (P.less (cy ks 0) (cy ks 1)))
 else if op=14 then some (bP (!P.less (cy ks 1) (cy ks 0)))
 else if op=24 then some (fT (P.get (cy ks 0) (cy ks 1).n))
 else if op=25 then some (P.put (cy ks 0) (cy ks 1).n (cy ks 2).n)
 else some (fT (P.word op bits (ks.map λv=>v.n) n))
theorem nS(b:Bool):iM (bP b)=b:=by cases b <;> rfl
theorem Lk(b:Bool):((bP b).n==0)= !b:=by cases b <;> rfl
theorem Ao{a b:Bool}(h:bP a=bP b):a=b:=by rw [<-nS a,h,nS]
abbrev iS(ρ:List Vv)(a:Int)(v:Vv):Prop:=0<=a/\ρ[a.toNat]? =some v
theorem iS.mono{ρ ρ':List Vv}{a:Int}{v:Vv}(p:ρ <+:ρ')(h:iS ρ a v):iS ρ' a v:=by obtain⟨t,rfl⟩:=p;exact⟨h.1,by rw [Xk (W9.1 h.2).1];exact h.2⟩
theorem iS.get{ρ:List Vv}{a:Int}{v:Vv}(h:iS ρ a v):ρ.getD a.toNat v0=v:=by rw [Xa,h.2];rfl
theorem iS.inj{ρ:List Vv}{a:Int}{v u:Vv}(h:iS ρ a v)(b:iS ρ a u):v=u:=by have:=h.2.symm.trans b.2;simpa using this
structure Mv (P:Pm) (D:List Dc) (W:Wd) (M:Mk) (σ:List Int) (ρ:List Vv):Prop where
 ty:Ty D M σ
 len:ρ.length=M.N.length
 ev:∀(j:Nat) (x:Nd) (v:Vv),M.N[j]? =some x->ρ[j]? =some v->dM P W x.op x.n x.d x.nm (x.ks.map λk=>ρ.getD k.toNat v0) 0=some v
 tr:∀(j:Nat) (v:Vv),σ[j]? =some 1->ρ[j]? =some v->∃b,v=bP b
def RV(P:Pm)(D:List Dc)(W:Wd)(σ:List Int)(ρ:List Vv)(p:Int×Mk)(s:Int)(v:Vv):Prop:= ∃a ρ',Mv P D W p.2 a ρ'/\σ <+:a/\ρ <+:ρ'/\bG a p.1 s/\iS ρ' p.1 v
structure dD (σ:List Int) (ρ:List Vv) (a:Int) (b:Bool):Prop where
 s:bG σ a 1
 v:iS ρ a (bP b)
theorem dD.mono{σ c:List Int}{ρ ρ':List Vv}{a:Int}{b:Bool}(p:σ <+:c)(q:ρ <+:ρ')(h:dD σ ρ a b):dD c ρ' a b:=⟨h.s.mono p,h.v.mono q⟩
def RB(P:Pm)(D:List Dc)(W:Wd)(σ:List Int)(ρ:List Vv)(p:Int×Mk)(b:Bool):Prop:= ∃a ρ',Mv P D W p.2 a ρ'/\σ <+:a/\ρ <+:ρ'/\dD a ρ' p.1 b
section
variable {P:Pm} {D:List Dc} {W:Wd} {M:Mk} {σ:List Int} {ρ:List Vv}
theorem RV.b{p:Int×Mk}{b:Bool}(h:RV P D W σ ρ p 1 (bP b)):RB P D W σ ρ p b:=by obtain⟨a,ρ',c,d,e,f,g⟩:=h;exact⟨a,ρ',c,d,e,f,g⟩
theorem RB.same{a:Int}{b:Bool}(m:Mv P D W M σ ρ)(h:dD σ ρ a b):RB P D W σ ρ (a,M) b:=⟨σ,ρ,m,Ye _,Ye _,h⟩
theorem zd{ks:List Int}{t:List Vv}(h:∀k∈ks,0<=k/\k < (ρ.length:Int)):(ks.map λk=>(ρ ++t).getD k.toNat v0)=ks.map λk=>ρ.getD k.toNat v0:=by apply XI;intro k a;have:=h k a;rw [Xa,Xa,Xk (by omega)]
theorem JO(m:Mv P D W M σ ρ){op:Int}{nm:ByteArray}{n d:Int}{ks:List Int}{s:Int}{v:Vv}(g:Good D σ ⟨op,ks.isEmpty,ks,n,d,nm⟩ s)(F:dM P W op n d nm (ks.map λk=>ρ.getD k.toNat v0) 0=some v)(H:s=1->∃b,v=bP b):RV P D W σ ρ (dC M op nm n d ks) s v:=by
 have ty:=m.ty;have l:ρ.length=σ.length:=by rw [m.len,ty.len]
 unfold dC;cases G:lk (mM op nm n d ks) M.K with
 | some u=>
  obtain⟨i,x,j,f,r⟩:=ty.ky _ (CF G);have c:i < σ.length:=by rw [ty.len];exact(W9.1 f).1
  have e:i < ρ.length:=by omega
  have B:=ty.nd i x σ[i] f (Xd c);obtain⟨t,w,e3,y,z⟩:=Io (show jB nm from g.nm) B.nm r;have A:=(B.mono (σ.drop i)).ch;rw [ZV] at A;have:bX D ⟨op,ks.isEmpty,ks,n,d,nm⟩ (σ.length:Int) σ =bX D x (σ.length:Int) σ:=I9 t z e3 y w;rw [g.ch,A] at this;simp only [XP,and_true] at this;have a:=m.ev i x ρ[i] f (Xd e);rw [<-t,<-w,<-e3,<-y,<-z,F] at a;simp only [W5] at a;replace j:u= (i:Int):=j;subst j;exact⟨σ,ρ,m,Ye _,Ye _,⟨ZH i,by rw [Xv,this];exact Xd c⟩,ZH i,by rw [Xv,a];exact Xd e⟩
 | none=>
  have I:=o8 ty g;have C:∀k∈ks,0<=k/\k < (ρ.length:Int):=by rw [l];exact wJ g.ch
  refine⟨σ ++ [s],ρ ++ [v],⟨⟨by simp [ty.len],λi x s' a hs=> ?_,λp h=> ?_⟩,by simp [m.len],λi x u a hs=> ?_,λi u hs o=> ?_⟩,⟨_,rfl⟩,⟨_,rfl⟩,⟨by simp, ?_⟩,by simp, ?_⟩
  .rcases Za i σ.length with c | c
   .rw [Xk (by rw [<-ty.len];exact c)] at a;rw [Xk c] at hs;rw [Yu (by omega)];exact ty.nd i x s' a hs
   .have e:=(W9.1 hs).1;rw [XK,Xh] at e;obtain rfl:i=σ.length:=by omega
    rw [Xs (by rw [ty.len];exact Xr _),ty.len,Yc] at a;rw [Xs (Xr _),Yc] at hs;simp only [XM,W5] at a hs;subst a hs;rw [Yu (Xr _),Zl];exact g
  .rcases Xo.1 h with h | h
   .obtain⟨i,x,j,f,r⟩:=ty.ky p h;exact⟨i,x,j,by rw [Xk (W9.1 f).1];exact f,r⟩
   .simp only [Xi] at h;subst h;exact⟨M.N.length,⟨op,ks.isEmpty,ks,n,d,nm⟩,rfl,by simp,rfl⟩
  .rcases Za i ρ.length with c | c
   .rw [Xk (by rw [<-m.len];exact c)] at a;rw [Xk c] at hs;have q:=ty.in i x a;rw [zd λk E=>⟨(q k E).1,by have:=(q k E).2;omega⟩];exact m.ev i x u a hs
   .have e:=(W9.1 hs).1;rw [XK,Xh] at e;obtain rfl:i=ρ.length:=by omega
    rw [Xs (by rw [m.len];exact Xr _),m.len,Yc] at a;rw [Xs (Xr _),Yc] at hs;simp only [XM,W5] at a hs;subst a hs;show dM P W op n d nm (ks.map λk=>(ρ ++ [v]).getD k.toNat v0) 0=some v;rw [zd C];exact F
  .rcases Za i σ.length with c | c
   .rw [Xk c] at hs;rw [Xk (by omega)] at o;exact m.tr i u hs o
   .have e:=(W9.1 hs).1;rw [XK,Xh] at e;obtain rfl:i=σ.length:=by omega
    rw [Xs (Xr _),Yc] at hs;rw [<-l,Xs (Xr _),Yc] at o;simp only [XM,W5] at hs o;subst o;exact H hs
  .show(σ ++ [s])[((M.N.length:Nat):Int).toNat]? =some s;rw [Xv,<-ty.len];simp
  .show(ρ ++ [v])[((M.N.length:Nat):Int).toNat]? =some v;rw [Xv,<-m.len];simp
theorem sM(m:Mv P D W M σ ρ){op:Int}{nm:ByteArray}{n d:Int}{ks:List Int}{b:Bool}(g:Good D σ ⟨op,ks.isEmpty,ks,n,d,nm⟩ 1)(a:dM P W op n d nm (ks.map λk=>ρ.getD k.toNat v0) 0=some (bP b)):RB P D W σ ρ (dC M op nm n d ks) b:=
 (JO m g a λ_=>⟨b,rfl⟩).b
theorem qd(m:Mv P D W M σ ρ)(b:Bool):RB P D W σ ρ (dy M b) b:=by unfold dy;refine sM m (HH D σ b) ?_;cases b <;> rfl
theorem D1{a:Int}{b:Bool}(m:Mv P D W M σ ρ)(h:dD σ ρ a b):∃x,M.N[a.toNat]? =some x/\cA M a=x.op/\dM P W x.op x.n x.d x.nm (x.ks.map λk=>ρ.getD k.toNat v0) 0=some (bP b):=by
 have hl:a.toNat < M.N.length:=by rw [<-m.len];exact(W9.1 h.v.2).1
 have c:M.N[a.toNat]? =some M.N[a.toNat]:=Xd hl;exact⟨_,c,by unfold cA;rw [c],m.ev _ _ _ c h.v.2⟩
theorem sG{a:Int}{b:Bool}(m:Mv P D W M σ ρ)(h:dD σ ρ a b)(e:cA M a=1):b=true:=by obtain⟨x,_,d,c⟩:=D1 m h;rw [show x.op=1 by rw [<-d];exact e] at c;have:some (bP true)=some (bP b):=c;simp only [W5] at this;exact(Ao this).symm
theorem sF{a:Int}{b:Bool}(m:Mv P D W M σ ρ)(h:dD σ ρ a b)(e:cA M a=2):b=false:=by obtain⟨x,_,d,c⟩:=D1 m h;rw [show x.op=2 by rw [<-d];exact e] at c;have:some (bP false)=some (bP b):=c;simp only [W5] at this;exact(Ao this).symm
theorem RB.as{p:Int×Mk}{b c:Bool}(h:RB P D W σ ρ p b)(e:b=c):RB P D W σ ρ p c:=e▸h
theorem wN{a:Int}{b:Bool}(m:Mv P D W M σ ρ)(h:dD σ ρ a b):RB P D W σ ρ (hF M a) (!b):=by
 unfold hF;split
 .rename_i e;exact(qd m _).as (by rw [sG m h e];rfl)
 .split
  .rename_i e;exact(qd m _).as (by rw [sF m h e];rfl)
  .split
   .rename_i e;obtain⟨x,C,ho,g⟩:=EO m.ty h.s e;obtain⟨E,o,_,p⟩:=D1 m h;obtain rfl:x=E:=by rw [C] at o;simpa using o
    have d:=g.ch;have y:=wJ d;unfold bX at d;rw [if_neg (by omega),if_neg (by omega)] at d;have A:dW x.op=1:=by rw [ho];decide
    split at d
    .simp at d
    .rename_i hl;rw [A] at hl;obtain⟨k,l⟩:∃k,x.ks= [k]:=by
      have:x.ks.length=1:=by omega
      exact YF.1 this
     have i:=y k (by rw [l];exact W7);have r:qy M a=k:=by unfold qy;rw [C];show x.ks.headD 0=k;rw [l];rfl
     rw [r];unfold dB at d;rw [ho,l] at d;split at d
     .simp at d
     split at d
     .simp at d
     split at d
     .simp at d
     split at d
     .simp at d
     rename_i hs;have f:(σ.take a.toNat).getD k.toNat 0=1:=KN hs;rw [Xa,YB] at f;rw [XW] at i;rw [if_pos (by have:=h.s.1;omega)] at f;have z:k.toNat < σ.length:=by omega
     have n:σ[k.toNat]? =some 1:=by
      cases w:σ[k.toNat]? with
      | none=>rw [w] at f;cases f
      | some v=>rw [w] at f;simp only [YM] at f;rw [f]
     have B:k.toNat < ρ.length:=by rw [m.len,<-m.ty.len];exact z
     have j:ρ[k.toNat]? =some ρ[k.toNat]:=Xd B;obtain⟨c,u⟩:=m.tr _ _ n j;rw [u] at j;have t:dD σ ρ k c:=⟨⟨i.1,n⟩,i.1,j⟩;rw [ho,l,Xq,XY,t.v.get] at p;have q:some (bP (!iM (bP c)))=some (bP b):=p;rw [nS,W5] at q;exact(RB.same m t).as (by rw [<-Ao q,aai])
   .refine sM m (HE h.s) ?_;rw [Xq,XY,h.v.get];show some (bP (!iM (bP b)))=_;rw [nS]
theorem PT(b c:Bool):dM P W 4 0 0 s0 [bP b,bP c] 0=some (bP (b && c)):=by show some (bP (!([bP b,bP c].any λv=>v.n==0)))=_;rw [X9,X9,aaj,Lk,Lk];cases b <;> cases c <;> rfl
theorem PU(b c:Bool):dM P W 5 0 0 s0 [bP b,bP c] 0=some (bP (b || c)):=by show some (bP ([bP b,bP c].any iM))=_;rw [X9,X9,aaj,nS,nS,ZR]
theorem PV(b c:Bool):dM P W 6 0 0 s0 [bP b,bP c] 0=some (bP (b==c)):=by show some (bP (iM (bP b)==iM (bP c)))=_;rw [nS,nS]
theorem dD.inj{a:Int}{b c:Bool}(h:dD σ ρ a b)(d:dD σ ρ a c):b=c:=Ao (h.v.inj d.v)
theorem rG{a f:Int}{b c:Bool}(m:Mv P D W M σ ρ)(h:dD σ ρ a b)(d:dD σ ρ f c):RB P D W σ ρ (cE M a f) (b && c):=by
 unfold cE;split
 .rename_i e;refine(RB.same m h).as ?_;rcases e with e | e | e
  .rw [sF m h e];rfl
  .rw [sG m d e,Yk]
  .subst e;rw [h.inj d,Z8]
 .split
  .rename_i e;refine(RB.same m d).as ?_;rcases e with e | e
   .rw [sG m h e,XR]
   .rw [sF m d e,X4]
  .refine sM m (uc (.inl rfl) h.s d.s) ?_;rw [Xq,Xq,XY,h.v.get,d.v.get];exact PT b c
theorem C0{a f:Int}{b c:Bool}(m:Mv P D W M σ ρ)(h:dD σ ρ a b)(d:dD σ ρ f c):RB P D W σ ρ (eZ M a f) (b || c):=by
 unfold eZ;split
 .rename_i e;refine(RB.same m h).as ?_;rcases e with e | e | e
  .rw [sG m h e];rfl
  .rw [sF m d e,ZR]
  .subst e;rw [h.inj d,Bool.or_self]
 .split
  .rename_i e;refine(RB.same m d).as ?_;rcases e with e | e
   .rw [sF m h e,XG]
   .rw [sG m d e,ZF]
  .refine sM m (uc (.inr (.inl rfl)) h.s d.s) ?_;rw [Xq,Xq,XY,h.v.get,d.v.get];exact PU b c
theorem Cc{a f:Int}{b c:Bool}(m:Mv P D W M σ ρ)(h:dD σ ρ a b)(d:dD σ ρ f c):RB P D W σ ρ (eJ M a f) (b==c):=by
 unfold eJ;split
 .rename_i e;subst e;exact(qd m true).as (by rw [h.inj d];simp)
 .split
  .rename_i e;exact(RB.same m d).as (by rw [sG m h e];cases c <;> rfl)
  .split
   .rename_i e;exact(RB.same m h).as (by rw [sG m d e];cases b <;> rfl)
   .split
    .rename_i e;exact(wN m d).as (by rw [sF m h e];cases c <;> rfl)
    .split
     .rename_i e;exact(wN m h).as (by rw [sF m d e];cases b <;> rfl)
     .refine sM m (uc (.inr (.inr rfl)) h.s d.s) ?_;rw [Xq,Xq,XY,h.v.get,d.v.get];exact PV b c
theorem Ef{a d:Int}{b c:Bool}(m:Mv P D W M σ ρ)(h:dD σ ρ a b)(g:dD σ ρ d c):RB P D W σ ρ (bL M a d) (b ^^ c):=by obtain⟨s,r,k,n,p,i⟩:=Cc m h g;obtain⟨f,e,l,o,q,j⟩:=wN k i;exact RB.as ⟨f,e,l,n.trans o,p.trans q,j⟩ (by cases b <;> cases c <;> rfl)
theorem SU{e a f:Int}{z b c:Bool}(m:Mv P D W M σ ρ)(g:dD σ ρ e z)(h:dD σ ρ a b)(d:dD σ ρ f c):RB P D W σ ρ (dv e M a f) (bif z then b else c):=by
 unfold dv;split
 .rename_i ee;subst ee;exact(RB.same m h).as (by rw [h.inj d];cases z <;> rfl)
 .refine sM m (HF g.s h.s d.s) ?_;rw [Xq,Xq,Xq,XY,h.v.get,d.v.get,g.v.get];show some (if iM (bP z) then bP b else bP c)=_;rw [nS];cases z <;> rfl
end
open Go Go.Aev
abbrev bN(b:Bool):Nat:=bif b then 1 else 0
def wv:List Bool->Nat
 | []=>0
 | b::l=>bN b+2 * wv l
theorem uZ:∀l:List Bool,wv l < 2 ^ l.length
 | []=>by simp [wv]
 | b::l=>by have:=uZ l;rw [wv,Xj,aam];cases b <;> simp [bN] <;> omega
theorem LR:∀l:List Bool,wv (l.map (!·))+wv l+1=2 ^ l.length
 | []=>rfl
 | b::l=>by have:=LR l;rw [Xq,wv,wv,Xj,aam];cases b <;> simp [bN] <;> omega
theorem kM:∀(l:List Bool) (i:Nat),(wv l).testBit i=l.getD i false
 | [],i=>by simp [wv]
 | b::l,0=>by rw [wv,Nat.testBit_zero];cases b <;> simp [bN] <;> omega
 | b::l,i+1=>by
  rw [wv,Nat.testBit_succ];have:(bN b+2 * wv l) / 2=wv l:=by cases b <;> simp [bN] <;> omega
  rw [this,kM l i];simp
theorem Ax{f:Bool->Bool->Bool}(c:f false false=false):∀{a b:List Bool} (i:Nat),a.length=b.length->(List.zipWith f a b).getD i false=f (a.getD i false) (b.getD i false)
 | [],[],i,_=>by simp [c]
 | [],_::_,_,h=>by simp at h
 | _::_,[],_,h=>by simp at h
 | x::a,y::b,0,_=>by simp
 | x::a,y::b,i+1,h=>by have:=Ax c (a:=a) (b:=b) i (by simpa using h);simpa using this
theorem WU{a b:List Bool}(h:a.length=b.length):wv (List.zipWith (· && ·) a b)=wv a &&& wv b:=by apply Zi;intro i;rw [kM,Ax rfl i h,Nat.testBit_and,kM,kM]
theorem WV{a b:List Bool}(h:a.length=b.length):wv (List.zipWith (· || ·) a b)=wv a ||| wv b:=by apply Zi;intro i;rw [kM,Ax rfl i h,Nat.testBit_or,kM,kM]
theorem WY{a b:List Bool}(h:a.length=b.length):wv (List.zipWith (· ^^ ·) a b)=wv a ^^^ wv b:=by apply Zi;intro i;rw [kM,Ax rfl i h,Nat.testBit_xor,kM,kM]
def lQ:Bool->List Bool->List Bool->List Bool
 | c,x::a,y::b=>((x ^^ y) ^^ c)::lQ ((x && y) || ((x ^^ y) && c)) a b
 | _,_,_=> []
theorem DN:∀{c:Bool} {a b:List Bool},a.length=b.length->(lQ c a b).length=a.length
 | c,[],b,_=>by cases b <;> simp [lQ]
 | c,_::_,[],h=>by simp at h
 | c,x::a,y::b,h=>by rw [lQ,Xj,Xj,DN (by simpa using h)]
theorem Ed:∀{c:Bool} {a b:List Bool},a.length=b.length->wv (lQ c a b)= (wv a+wv b+bN c) % 2 ^ a.length
 | c,[],b,_=>by cases b <;> simp [lQ,wv,Nat.mod_one]
 | c,_::_,[],h=>by simp at h
 | c,x::a,y::b,h=>by
  have f:=Ed (c:=(x && y) || ((x ^^ y) && c)) (a:=a) (b:=b) (by simpa using h);rw [lQ,wv,wv,wv,f,Xj,Nat.pow_succ'];have e:bN x+2 * wv a+ (bN y+2 * wv b)+bN c=bN ((x ^^ y) ^^ c)+2 * (wv a+wv b+bN ((x && y) || ((x ^^ y) && c))):=by cases x <;> cases y <;> cases c <;> simp [bN] <;> omega
  rw [e];generalize wv a+wv b+bN ((x && y) || ((x ^^ y) && c))=s;have g:bN ((x ^^ y) ^^ c) < 2:=by cases x <;> cases y <;> cases c <;> decide
  rw [Nat.mod_mul];have e3:(bN ((x ^^ y) ^^ c)+2 * s) % 2=bN ((x ^^ y) ^^ c):=by omega
  have d:(bN ((x ^^ y) ^^ c)+2 * s) / 2=s:=by omega
  rw [e3,d]
def iN(l:List Bool)(n:Int):Nat->Nat->List Bool
 | _,0=> []
 | i,k+1=>(if(i:Int) < n then false else l.getD ((i:Int) - n).toNat false)::iN l n (i+1) k
theorem zh(l:List Bool)(n:Int):∀(k i:Nat),(iN l n i k).length=k
 | 0,_=>rfl
 | k+1,i=>by rw [iN,Xj,zh l n k]
theorem Iw(l:List Bool)(n:Int):∀(k i j:Nat),(iN l n i k).getD j false= (decide (j < k) && (if((i+j:Nat):Int) < n then false else l.getD (((i+j:Nat):Int) - n).toNat false))
 | 0,i,j=>by simp [iN]
 | k+1,i,0=>by simp [iN]
 | k+1,i,j+1=>by rw [iN,Ym,Iw l n k (i+1) j];rw [show i+1+j=i+ (j+1) by omega];congr 1;simp
theorem Ec{l:List Bool}{m:Nat}:wv (iN l (m:Int) 0 l.length)=wv l * 2 ^ m % 2 ^ l.length:=by
 apply Zi;intro i;rw [kM,Iw,Nat.testBit_mod_two_pow,<-Nat.shiftLeft_eq,Nat.testBit_shiftLeft,kM,XF];by_cases h:i < m
 .rw [if_pos (by omega),decide_eq_false (by omega:¬i>=m)];simp
 .rw [if_neg (by omega),decide_eq_true (by omega:i>=m)];have:((i:Int) - (m:Int)).toNat=i - m:=by omega
  rw [this,XR]
def lR(a:List Bool):List Bool->Nat->List Bool->List Bool
 | out,i,x::b=>lR a (lQ false out ((iN a (i:Int) 0 a.length).map (x && ·))) (i+1) b
 | out,_,[]=>out
theorem WW(x:Bool)(l:List Bool):wv (l.map (x && ·))=bN x * wv l:=by
 induction l with
 | nil=>simp [wv]
 | cons b l a=>rw [Xq,wv,wv,a];cases x <;> simp [bN]
theorem Lc(a:List Bool):∀(b:List Bool) (i:Nat) (out:List Bool),out.length=a.length->(lR a out i b).length=a.length
 | [],i,out,h=>by rw [lR];exact h
 | x::b,i,out,h=>by rw [lR];exact Lc a b (i+1) _ (by rw [DN (by rw [XQ,zh,h]),h])
theorem LU(a:List Bool):∀(b:List Bool) (i:Nat) (out:List Bool),out.length=a.length->wv (lR a out i b) % 2 ^ a.length= (wv out+wv a * wv b * 2 ^ i) % 2 ^ a.length
 | [],i,out,h=>by rw [lR];simp [wv]
 | x::b,i,out,h=>by
  have hl:out.length= ((iN a (i:Int) 0 a.length).map (x && ·)).length:=by rw [XQ,zh,h]
  rw [lR,LU a b (i+1) _ (by rw [DN hl,h]),Ed hl,WW,Ec,h,wv];have e:wv a * (bN x+2 * wv b) * 2 ^ i=bN x * (wv a * 2 ^ i)+wv a * wv b * 2 ^ (i+1):=by
   rw [aam,Z5,YW];congr 1
   .rw [aan (wv a) (bN x),Z9]
   .rw [aan 2 (wv b),<-Z9,Z9 (wv a * wv b) 2,aan 2 (2 ^ i)]
  rw [e];show((wv out+bN x * (wv a * 2 ^ i % 2 ^ a.length)+bN false) % 2 ^ a.length+ _) % _=_;generalize wv a * wv b * 2 ^ (i+1)=u;generalize wv a * 2 ^ i=v;generalize 2 ^ a.length=q;rw [Nat.mod_add_mod];cases x
  .simp [bN]
  .simp only [bN,cond_true,cond_false,Nat.one_mul,Y9];rw [show wv out+v % q+u=v % q+ (wv out+u) by omega,Nat.mod_add_mod,show v+ (wv out+u)=wv out+ (v+u) by omega]
theorem WX{a b:List Bool}(h:b.length=a.length):wv (lR a (iN a (a.length:Int) 0 a.length) 0 b)=wv a * wv b % 2 ^ a.length:=by have hl:=zh a (a.length:Int) a.length 0;have c:=LU a b 0 (iN a (a.length:Int) 0 a.length) hl;have d:=uZ (lR a (iN a (a.length:Int) 0 a.length) 0 b);rw [Lc a b 0 _ hl] at d;rw [Zk d,Ec] at c;rw [c,Nat.pow_zero,Nat.mul_one,Nat.mul_mod_left,XF]
def qA:Bool->List Bool->List Bool->Bool
 | c,x::a,y::b=>qA ((!x && y) || ((x==y) && c)) a b
 | c,_,_=>c
theorem LQ:∀{a b:List Bool} {c:Bool},a.length=b.length->qA c a b= (decide (wv a < wv b) || (decide (wv a=wv b) && c))
 | [],[],c,_=>by simp [qA,wv]
 | [],_::_,_,h=>by simp at h
 | _::_,[],_,h=>by simp at h
 | x::a,y::b,c,h=>by
  rw [qA,LQ (by simpa using h),wv,wv];rcases aab (wv a) (wv b) with d | d | d
  .have e:decide (wv a < wv b)=true:=by simpa using d
   have f:decide (bN x+2 * wv a < bN y+2 * wv b)=true:=by cases x <;> cases y <;> simp [bN] <;> omega
   rw [e,f];rfl
  .rw [d];cases x <;> cases y <;> cases c <;> simp [bN] <;> omega
  .have e:decide (wv a < wv b)=false:=by simp;omega
   have f:decide (wv a=wv b)=false:=by simp;omega
   have e3:decide (bN x+2 * wv a < bN y+2 * wv b)=false:=by cases x <;> cases y <;> simp [bN] <;> omega
   have g:decide (bN x+2 * wv a=bN y+2 * wv b)=false:=by cases x <;> cases y <;> simp [bN] <;> omega
   rw [e,f,e3,g];rfl
theorem LS:∀{a b:List Bool},a.length=b.length->(List.zipWith (· == ·) a b).all id=decide (wv a=wv b)
 | [],[],_=>by simp [wv]
 | [],_::_,h=>by simp at h
 | _::_,[],h=>by simp at h
 | x::a,y::b,h=>by
  rw [ZQ,Yp,LS (by simpa using h),wv,wv];by_cases c:wv a=wv b
  .rw [c];cases x <;> cases y <;> simp [bN]
  .have d:decide (wv a=wv b)=false:=by simpa using c
   have e:decide (bN x+2 * wv a=bN y+2 * wv b)=false:=by cases x <;> cases y <;> simp [bN] <;> omega
   rw [d,e,X4]
def l0(n:Nat):Nat->Nat->List Bool
 | _,0=> []
 | b,k+1=>n.testBit b::l0 n (b+1) k
theorem E5(n:Nat):∀(k b j:Nat),(l0 n b k).getD j false= (decide (j < k) && n.testBit (b+j))
 | 0,b,j=>by simp [l0]
 | k+1,b,0=>by simp [l0]
 | k+1,b,j+1=>by rw [l0,Ym,E5 n k (b+1) j,show b+1+j=b+ (j+1) by omega];congr 1;simp
theorem LP{n k:Nat}(h:n < 2 ^ k):wv (l0 n 0 k)=n:=by
 apply Zi;intro i;rw [kM,E5,XF];by_cases a:i < k
 .rw [decide_eq_true a,XR]
 .rw [decide_eq_false a,X3];exact(Nat.testBit_lt_two_pow (X5 h (Y2 (by decide) (by omega)))).symm
open Go Go.Aev
def BL(σ:List Int)(ρ:List Vv):List Int->List Bool->Prop
 | [],[]=>True
 | a::l,b::c=>dD σ ρ a b/\BL σ ρ l c
 | _,_=>False
theorem BL.mono{σ a:List Int}{ρ ρ':List Vv}(p:σ <+:a)(q:ρ <+:ρ'):∀{l:List Int} {b:List Bool},BL σ ρ l b->BL a ρ' l b
 | [],[],_=>trivial
 | [],_::_,h=>h.elim
 | _::_,[],h=>h.elim
 | _::_,_::_,h=>⟨h.1.mono p q,h.2.mono p q⟩
theorem BL.len{σ:List Int}{ρ:List Vv}:∀{l:List Int} {a:List Bool},BL σ ρ l a->l.length=a.length
 | [],[],_=>rfl
 | [],_::_,h=>h.elim
 | _::_,[],h=>h.elim
 | _::_,_::_,h=>by rw [Xj,Xj,BL.len h.2]
theorem BL.get{σ:List Int}{ρ:List Vv}:∀{l:List Int} {a:List Bool} {i:Nat},BL σ ρ l a->i < l.length->dD σ ρ (l.getD i 0) (a.getD i false)
 | [],[],_,_,h=>by simp at h
 | [],_::_,_,h,_=>h.elim
 | _::_,[],_,h,_=>h.elim
 | _::_,_::_,0,h,_=>h.1
 | _::l,_::a,i+1,h,b=>by rw [Ym,Ym];exact BL.get h.2 (by simpa using b)
def RL(P:Pm)(D:List Dc)(W:Wd)(σ:List Int)(ρ:List Vv)(p:List Int×Mk)(b:List Bool):Prop:= ∃a ρ',Mv P D W p.2 a ρ'/\σ <+:a/\ρ <+:ρ'/\BL a ρ' p.1 b
section
variable {P:Pm} {D:List Dc} {W:Wd}
theorem RL.none{M:Mk}{σ:List Int}{ρ:List Vv}(m:Mv P D W M σ ρ):RL P D W σ ρ ([],M) []:=⟨σ,ρ,m,Ye _,Ye _,trivial⟩
theorem RL.cons{M c:Mk}{σ:List Int}{ρ:List Vv}{x:Int}{l:List Int}{b:Bool}{d:List Bool}(h:RB P D W σ ρ (x,M) b)(o:∀a ρ',Mv P D W M a ρ'->σ <+:a->ρ <+:ρ'->RL P D W a ρ' (l,c) d):RL P D W σ ρ (x::l,c) (b::d):=by obtain⟨m,j,r,e,g,p⟩:=h;obtain⟨n,k,s,f,i,q⟩:=o m j r e g;exact⟨n,k,s,e.trans f,g.trans i,p.mono f i,q⟩
theorem RL.as{σ:List Int}{ρ:List Vv}{p:List Int×Mk}{b c:List Bool}(h:RL P D W σ ρ p b)(e:b=c):RL P D W σ ρ p c:=e▸h
theorem BT{f:Mk->Int->Int->Int×Mk}{g:Bool->Bool->Bool}{Q:List Int->List Vv->Prop}(i:∀σ a ρ ρ',σ <+:a->ρ <+:ρ'->Q σ ρ->Q a ρ')(j:∀M σ ρ x y b c,Mv P D W M σ ρ->Q σ ρ->dD σ ρ x b->dD σ ρ y c->RB P D W σ ρ (f M x y) (g b c)):
  ∀{l l':List Int} {d cs:List Bool} {M:Mk} {σ:List Int} {ρ:List Vv},Mv P D W M σ ρ->Q σ ρ->BL σ ρ l d->BL σ ρ l' cs->RL P D W σ ρ (aX f M l l') (List.zipWith g d cs)
 | [],l',[],cs,M,σ,ρ,m,_,_,_=>by rw [show aX f M [] l'= ([],M) by simp [aX],List.zipWith_nil_left];exact RL.none m
 | [],_,_::_,_,_,_,_,_,_,h,_=>h.elim
 | _::_,_,[],_,_,_,_,_,_,h,_=>h.elim
 | x::l,[],b::d,[],M,σ,ρ,m,_,_,_=>by rw [show aX f M (x::l) []= ([],M) by simp [aX],List.zipWith_nil_right];exact RL.none m
 | _::_,[],_::_,_::_,_,_,_,_,_,_,h=>h.elim
 | _::_,_::_,_::_,[],_,_,_,_,_,_,h=>h.elim
 | x::l,y::l',b::d,c::cs,M,σ,ρ,m,k,h,e=>by rw [aX,ZQ];exact RL.cons (j M σ ρ x y b c m k h.1 e.1) λa ρ' n p q=>BT i j n (i _ _ _ _ p q k) (h.2.mono p q) (e.2.mono p q)
theorem yE{f:Mk->Int->Int->Int×Mk}{g:Bool->Bool->Bool}(e:∀M σ ρ x y b c,Mv P D W M σ ρ->dD σ ρ x b->dD σ ρ y c->RB P D W σ ρ (f M x y) (g b c)){l l':List Int}{d cs:List Bool}{M:Mk}{σ:List Int}{ρ:List Vv}(m:Mv P D W M σ ρ)(h:BL σ ρ l d)(a:BL σ ρ l' cs):RL P D W σ ρ (aX f M l l') (List.zipWith g d cs):=
 BT (Q:=λ_ _=>True) (λ_ _ _ _ _ _ _=>trivial) (λM σ ρ x y b c m _ h a=>e M σ ρ x y b c m h a) m trivial h a
theorem K2:∀{l l':List Int} {f cs:List Bool} {M:Mk} {σ:List Int} {ρ:List Vv} {e:Int} {z:Bool},Mv P D W M σ ρ->dD σ ρ e z->BL σ ρ l f->BL σ ρ l' cs->RL P D W σ ρ (fE M e l l') (lQ z f cs)
 | [],l',[],cs,M,σ,ρ,e,z,m,_,_,_=>by rw [Aj,show lQ z [] cs= [] by cases cs <;> rfl];exact RL.none m
 | [],_,_::_,_,_,_,_,_,_,_,_,h,_=>h.elim
 | _::_,_,[],_,_,_,_,_,_,_,_,h,_=>h.elim
 | x::l,[],b::f,[],M,σ,ρ,e,z,m,_,_,_=>by rw [show fE M e (x::l) []= ([],M) by simp [fE]];exact RL.none m
 | _::_,[],_::_,_::_,_,_,_,_,_,_,_,_,h=>h.elim
 | _::_,_::_,_::_,[],_,_,_,_,_,_,_,_,h=>h.elim
 | x::l,y::l',b::f,c::cs,M,σ,ρ,e,z,m,t,h,n=>by
  obtain⟨σ1,ρ1,U,v,E,r⟩:=Ef m h.1 n.1;obtain⟨L,J,u,w,F,s⟩:=Ef U r (t.mono v E);have a:=v.trans w;have d:=E.trans F;rw [fE,lQ];dsimp only;split
  .rename_i o;have hl:l= []:=Yt.1 o;have T:f= []:=by
    have:=h.2.len;rw [hl] at this;exact Xz.1 this.symm
   rw [T,show lQ ((b && c) || ((b ^^ c) && z)) [] cs= [] by cases cs <;> rfl];exact⟨L,J,u,a,d,s,trivial⟩
  .obtain⟨σ3,ρ3,V,p,q,O⟩:=rG u (h.1.mono a d) (n.1.mono a d);have A:=w.trans p;have G:=F.trans q;obtain⟨σ4,ρ4,X,B,H,Q⟩:=rG V (r.mono A G) (t.mono (a.trans p) (d.trans q));obtain⟨σ5,ρ5,Y,p5,q5,R⟩:=C0 X (O.mono B H) Q;have j:=p.trans (B.trans p5);have k:=q.trans (H.trans q5);have g:=a.trans j;have i:=d.trans k;obtain⟨N,K,Z,C,I,S⟩:=K2 (l:=l) (l':=l') Y R (h.2.mono g i) (n.2.mono g i);exact⟨N,K,Z,g.trans C,i.trans I,s.mono (j.trans C) (k.trans I),S⟩
theorem K0{l l':List Int}{c cs:List Bool}{M:Mk}{σ:List Int}{ρ:List Vv}(m:Mv P D W M σ ρ)(h:BL σ ρ l c)(f:BL σ ρ l' cs):RL P D W σ ρ (eE M l l') (lQ false c cs):=by obtain⟨q,p,j,a,b,g⟩:=qd m false;obtain⟨e,d,k,n,o,i⟩:=K2 j g (h.mono a b) (f.mono a b);exact⟨e,d,k,a.trans n,b.trans o,i⟩
theorem CA{n:Int}(h0: 0<=n){l:List Int}{b:List Bool}:∀(k i:Nat) {M:Mk} {σ:List Int} {ρ:List Vv},Mv P D W M σ ρ->BL σ ρ l b->i+k<=l.length->RL P D W σ ρ (fC M l n i k) (iN b n i k)
 | 0,i,M,σ,ρ,m,_,_=>RL.none m
 | k+1,i,M,σ,ρ,m,h,d=>by
  rw [fC,iN];split
  .exact RL.cons (qd m false) λc ρ' a p q=>CA h0 k (i+1) a (h.mono p q) (by omega)
  .exact RL.cons (RB.same m (h.get (by omega))) λc ρ' a p q=>CA h0 k (i+1) a (h.mono p q) (by omega)
theorem Cz{n:Int}(h0: 0<=n){l:List Int}{a:List Bool}{M:Mk}{σ:List Int}{ρ:List Vv}(m:Mv P D W M σ ρ)(h:BL σ ρ l a):RL P D W σ ρ (bJ M l n) (iN a n 0 a.length):=by unfold bJ;rw [<-h.len];exact CA h0 _ _ m h (by omega)
theorem Jv:∀{l:List Int} {a:List Bool} {M:Mk} {σ:List Int} {ρ:List Vv} {x:Int} {b:Bool},Mv P D W M σ ρ->dD σ ρ x b->BL σ ρ l a->RL P D W σ ρ (cP M x l) (a.map (b && ·))
 | [],[],M,σ,ρ,x,b,m,_,_=>RL.none m
 | [],_::_,_,_,_,_,_,_,_,h=>h.elim
 | _::_,[],_,_,_,_,_,_,_,h=>h.elim
 | y::l,c::a,M,σ,ρ,x,b,m,d,h=>by rw [cP,Xq];exact RL.cons (rG m d h.1) λf ρ' e p q=>Jv e (d.mono p q) (h.2.mono p q)
theorem Ld{l:List Int}{f:List Bool}:∀{l':List Int} {cs:List Bool} {i:Nat} {M:Mk} {σ:List Int} {ρ:List Vv} {out:List Int} {os:List Bool},Mv P D W M σ ρ->BL σ ρ l f->BL σ ρ out os->BL σ ρ l' cs->RL P D W σ ρ (ic M l out i l') (lR f os i cs)
 | [],[],i,M,σ,ρ,out,os,m,_,ho,_=>by rw [ic,lR];exact⟨σ,ρ,m,Ye _,Ye _,ho⟩
 | [],_::_,_,_,_,_,_,_,_,_,_,h=>h.elim
 | _::_,[],_,_,_,_,_,_,_,_,_,h=>h.elim
 | x::l',c::cs,i,M,σ,ρ,out,os,m,h,ho,g=>by obtain⟨J,G,u,j,k,q⟩:=Cz (n:=(i:Int)) (by omega) m h;obtain⟨K,H,v,z,C,r⟩:=Jv u (g.1.mono j k) q;have d:=j.trans z;have e:=k.trans C;obtain⟨L,I,w,A,E,s⟩:=K0 v (ho.mono d e) r;have a:=d.trans A;have b:=e.trans E;obtain⟨p,o,y,B,F,t⟩:=Ld (l':=l') (i:=i+1) w (h.mono a b) s (g.2.mono a b);rw [ic,lR];exact⟨p,o,y,a.trans B,b.trans F,t⟩
theorem Vq{l l':List Int}{a cs:List Bool}{M:Mk}{σ:List Int}{ρ:List Vv}(m:Mv P D W M σ ρ)(h:BL σ ρ l a)(g:BL σ ρ l' cs):RL P D W σ ρ (jv M l l') (lR a (iN a (a.length:Int) 0 a.length) 0 cs):=by obtain⟨s,r,k,b,c,j⟩:=Cz (n:=(l.length:Int)) (by omega) m h;obtain⟨f,e,o,p,q,d⟩:=Ld (i:=0) k (h.mono b c) j (g.mono b c);rw [h.len] at d;exact⟨f,e,o,b.trans p,c.trans q,by unfold jv;rw [h.len];exact d⟩
theorem Iz:∀{l l':List Int} {j cs:List Bool} {M:Mk} {σ:List Int} {ρ:List Vv} {e:Int} {z:Bool},Mv P D W M σ ρ->dD σ ρ e z->BL σ ρ l j->BL σ ρ l' cs->RB P D W σ ρ (gI M e l l') (qA z j cs)
 | [],l',[],cs,M,σ,ρ,e,z,m,a,_,_=>by rw [show gI M e [] l'= (e,M) by simp [gI],show qA z [] cs=z by cases cs <;> rfl];exact RB.same m a
 | [],_,_::_,_,_,_,_,_,_,_,_,h,_=>h.elim
 | _::_,_,[],_,_,_,_,_,_,_,_,h,_=>h.elim
 | x::l,[],b::j,[],M,σ,ρ,e,z,m,a,_,_=>by rw [show gI M e (x::l) []= (e,M) by simp [gI]];exact RB.same m a
 | _::_,[],_::_,_::_,_,_,_,_,_,_,_,_,h=>h.elim
 | _::_,_::_,_::_,[],_,_,_,_,_,_,_,_,h=>h.elim
 | x::l,y::l',b::j,c::cs,M,σ,ρ,e,z,m,a,h,o=>by obtain⟨σ1,V,H,p,s,A⟩:=wN m h.1;obtain⟨σ2,X,I,O,S,B⟩:=rG H A (o.1.mono p s);have d:=p.trans O;have g:=s.trans S;obtain⟨σ3,Y,J,q,t,C⟩:=Cc I (h.1.mono d g) (o.1.mono d g);have k:=d.trans q;have n:=g.trans t;obtain⟨σ4,Z,K,r,u,E⟩:=rG J C (a.mono k n);obtain⟨σ5,ρ5,L,Q,T,F⟩:=C0 K (B.mono (q.trans r) (t.trans u)) E;have f:=k.trans (r.trans Q);have i:=n.trans (u.trans T);obtain⟨w,v,N,R,U,G⟩:=Iz (l:=l) (l':=l') L F (h.2.mono f i) (o.2.mono f i);rw [gI,qA];exact⟨w,v,N,f.trans R,i.trans U,G⟩
theorem QA{l l':List Int}{c cs:List Bool}{M:Mk}{σ:List Int}{ρ:List Vv}(m:Mv P D W M σ ρ)(h:BL σ ρ l c)(f:BL σ ρ l' cs):RB P D W σ ρ (mc M l l') (qA false c cs):=by obtain⟨q,p,j,a,b,g⟩:=qd m false;obtain⟨e,d,k,n,o,i⟩:=Iz j g (h.mono a b) (f.mono a b);exact⟨e,d,k,a.trans n,b.trans o,i⟩
theorem Jc:∀{l:List Int} {a:List Bool} {M:Mk} {σ:List Int} {ρ:List Vv},Mv P D W M σ ρ->BL σ ρ l a->RL P D W σ ρ (fS M l) (a.map (!·))
 | [],[],M,σ,ρ,m,_=>RL.none m
 | [],_::_,_,_,_,_,h=>h.elim
 | _::_,[],_,_,_,_,h=>h.elim
 | y::l,b::a,M,σ,ρ,m,h=>by rw [fS,Xq];exact RL.cons (wN m h.1) λd ρ' c p q=>Jc c (h.2.mono p q)
def vK(n:Int):Nat->Nat->List Bool
 | _,0=> []
 | b,k+1=>jG n b::vK n (b+1) k
theorem Fj{n:Int}:∀(k b:Nat) {M:Mk} {σ:List Int} {ρ:List Vv},Mv P D W M σ ρ->RL P D W σ ρ (fM M n b k) (vK n b k)
 | 0,b,M,σ,ρ,m=>RL.none m
 | k+1,b,M,σ,ρ,m=>by rw [fM,vK];exact RL.cons (qd m _) λc ρ' a _ _=>Fj k (b+1) a
theorem Es:∀{l:List Int} {a:List Bool} {M:Mk} {σ:List Int} {ρ:List Vv} {e:Int} {z:Bool},Mv P D W M σ ρ->dD σ ρ e z->BL σ ρ l a->RB P D W σ ρ (kq M e l) (z && a.all id)
 | [],[],M,σ,ρ,e,z,m,c,_=>(RB.same m c).as (by simp)
 | [],_::_,_,_,_,_,_,_,_,h=>h.elim
 | _::_,[],_,_,_,_,_,_,_,h=>h.elim
 | y::l,b::a,M,σ,ρ,e,z,m,c,h=>by obtain⟨s,r,n,d,f,j⟩:=rG m c h.1;obtain⟨i,g,o,p,q,k⟩:=Es (l:=l) n j (h.2.mono d f);rw [kq];exact RB.as ⟨i,g,o,d.trans p,f.trans q,k⟩ (by rw [Yp,id,Bool.and_assoc])
theorem UR{l l':List Int}{f cs:List Bool}{M:Mk}{σ:List Int}{ρ:List Vv}(m:Mv P D W M σ ρ)(h:BL σ ρ l f)(a:BL σ ρ l' cs):RB P D W σ ρ (pj M l l') ((List.zipWith (· == ·) f cs).all id):=by obtain⟨z,v,q,d,e,n⟩:=qd m true;obtain⟨A,w,r,g,i,o⟩:=yE (λM σ ρ x y b c m h a=>Cc m h a) q (h.mono d e) (a.mono d e);obtain⟨k,j,s,t,u,p⟩:=Es r (n.mono g i) o;exact RB.as ⟨k,j,s,(d.trans g).trans t,(e.trans i).trans u,p⟩ (by rw [XR])
theorem I1{pre:ByteArray}{kids ar:List Int}(e:kids.length<=8){args:List Int}{g:Nat->Bool}:∀(k b:Nat) {M:Mk} {σ:List Int} {ρ:List Vv},Mv P D W M σ ρ->(∀c,b<=c->c < b+k->(Fn D (pre++it (c:Int)) ar 1/\jB (pre++it (c:Int)))/\W (pre++it (c:Int)) args=bP (g c))->(kids.map (λk=>σ.getD k.toNat 0)=ar)->(∀x∈kids,0<=x/\x < (σ.length:Int))->((kids.map λk=>ρ.getD k.toNat v0).map λv=>v.n)=args->RL P D W σ ρ (dE M pre kids b k) ((List.range' b k).map g)
 | 0,b,M,σ,ρ,m,_,_,_,_=>RL.none m
 | k+1,b,M,σ,ρ,m,h,i,a,f=>by
  rw [dE,Y3,Xq];obtain⟨⟨j,l⟩,o⟩:=h b (by omega) (by omega);have r:ρ.length=σ.length:=by rw [m.len,m.ty.len]
  refine RL.cons (sM m (HG j i a e l) ?_) λu ρ' s p q=>I1 e k (b+1) s (λc w y=>h c (by omega) (by omega)) ?_ ?_ ?_
  .show some (W (pre++it (b:Int)) ((kids.map λk=>ρ.getD k.toNat v0).map λv=>v.n))=_;rw [f,o]
  .rw [<-i];obtain⟨t,rfl⟩:=p;apply XI;intro x d;have:=a x d;rw [Xa,Xa,Xk (by omega)]
  .intro x d;have:=a x d;obtain⟨t,rfl⟩:=p;rw [XK];omega
  .obtain⟨t,rfl⟩:=q;rw [zd λx d=>by have:=a x d;omega];exact f
end
end Go.Aev.Gen
