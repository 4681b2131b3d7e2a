import Derived.Test.YtcffabneepdohaaGreatDoorBlastMeansQ15
set_option linter.all false
namespace Go.Aev.Gen
open Go Go.Aev
structure Vv where
 n:Int
 d:Int
 cs:List (Int×Int)
 r:Int
def fK(n:Int):Vv:=⟨n,1,[],0⟩
def bM(b:Bool):Vv:=fK (bif b then 1 else 0)
structure Pm where
 num:Int->Int->Int->List Vv->Option Vv
 less:Vv->Vv->Bool
 get:Vv->Int->Int
 put:Vv->Int->Int->Vv
 word:Int->Int->List Int->Int->Int
def iJ(v:Vv):Bool:=v.n==1
def v0:Vv:=fK 0
def cv(ks:List Vv)(i:Nat):Vv:=ks.getD i v0
abbrev Wd:=ByteArray->List Int->Vv
def dK(P:Pm)(W:Wd)(op n d:Int)(nm:ByteArray)(ks:List Vv)(bits:Int):Option Vv:=
 if op=1\/op=2 then some (bM (op==1))
 else if op=3 then some (bM (!iJ (cv ks 0)))
 else if op=4 then some (bM (!(ks.any λv=>v.n==0)))
 else if op=5 then some (bM (ks.any iJ))
 else if op=6 then some (bM (iJ (cv ks 0)==iJ (cv ks 1)))
 else if op=7 then some (if iJ (cv ks 0) then cv ks 1 else cv ks 2)
 else if op=8 then some (bM ((cv ks 0).n== (cv ks 1).n && (cv ks 0).d== (cv ks 1).d))
 else if op=9 then some (W nm (ks.map λv=>v.n))
 else if op=10 then some ⟨n,d,[],0⟩
 else if op=11\/op=12 then P.num op n d ks
 else if op=13 then some (bM (P.less (cv ks 0) (cv ks 1)))
 else if op=14 then some (bM (!P.less (cv ks 1) (cv ks 0)))
 else if op=24 then some (fK (P.get (cv ks 0) (cv ks 1).n))
 else if op=25 then some (P.put (cv ks 0) (cv ks 1).n (cv ks 2).n)
 else some (fK (P.word op bits (ks.map λv=>v.n) n))
theorem nO(b:Bool):iJ (bM b)=b:=by cases b <;> rfl
theorem KK(b:Bool):((bM b).n==0)= !b:=by cases b <;> rfl
theorem zQ{a b:Bool}(h:bM a=bM b):a=b:=by rw [<-nO a,h,nO]
abbrev iQ(ρ:List Vv)(a:Int)(v:Vv):Prop:=0<=a/\ρ[a.toNat]? =some v
theorem iQ.mono{ρ ρ':List Vv}{a:Int}{v:Vv}(p:ρ <+:ρ')(h:iQ ρ a v):iQ ρ' a v:=by obtain⟨t,rfl⟩:=p;exact⟨h.1,by rw [WB (Wm.1 h.2).1];exact h.2⟩
theorem iQ.get{ρ:List Vv}{a:Int}{v:Vv}(h:iQ ρ a v):ρ.getD a.toNat v0=v:=by rw [Wp,h.2];rfl
theorem iQ.inj{ρ:List Vv}{a:Int}{v u:Vv}(h:iQ ρ a v)(b:iQ ρ a u):v=u:=by have:=h.2.symm.trans b.2;simpa using this
structure Mv (P:Pm) (D:List Dc) (W:Wd) (M:Mk) (σ:List Int) (ρ:List Vv):Prop where
 ty:Ty D M σ
 len:ρ.length=M.N.length
 ev:∀(j:Nat) (x:Nd) (v:Vv),M.N[j]? =some x->ρ[j]? =some v->dK P W x.op x.n x.d x.nm (x.ks.map λk=>ρ.getD k.toNat v0) 0=some v
 tr:∀(j:Nat) (v:Vv),σ[j]? =some 1->ρ[j]? =some v->∃b,v=bM b
def RV(P:Pm)(D:List Dc)(W:Wd)(σ:List Int)(ρ:List Vv)(p:Int×Mk)(s:Int)(v:Vv):Prop:= ∃a ρ',Mv P D W p.2 a ρ'/\σ <+:a/\ρ <+:ρ'/\bD a p.1 s/\iQ ρ' p.1 v
structure dB (σ:List Int) (ρ:List Vv) (a:Int) (b:Bool):Prop where
 s:bD σ a 1
 v:iQ ρ a (bM b)
theorem dB.mono{σ c:List Int}{ρ ρ':List Vv}{a:Int}{b:Bool}(p:σ <+:c)(q:ρ <+:ρ')(h:dB σ ρ a b):dB c ρ' a b:=⟨h.s.mono p,h.v.mono q⟩
def RB(P:Pm)(D:List Dc)(W:Wd)(σ:List Int)(ρ:List Vv)(p:Int×Mk)(b:Bool):Prop:= ∃a ρ',Mv P D W p.2 a ρ'/\σ <+:a/\ρ <+:ρ'/\dB a ρ' p.1 b
section
variable {P:Pm} {D:List Dc} {W:Wd} {M:Mk} {σ:List Int} {ρ:List Vv}
theorem RV.b{p:Int×Mk}{b:Bool}(h:RV P D W σ ρ p 1 (bM b)):RB P D W σ ρ p b:=by obtain⟨a,ρ',c,d,e,f,g⟩:=h;exact⟨a,ρ',c,d,e,f,g⟩
theorem RB.same{a:Int}{b:Bool}(m:Mv P D W M σ ρ)(h:dB σ ρ a b):RB P D W σ ρ (a,M) b:=⟨σ,ρ,m,XA _,XA _,h⟩
theorem yN{ks:List Int}{t:List Vv}(h:∀k∈ks,0<=k/\k < (ρ.length:Int)):(ks.map λk=>(ρ ++t).getD k.toNat v0)=ks.map λk=>ρ.getD k.toNat v0:=by apply W8;intro k a;have:=h k a;rw [Wp,Wp,WB (by omega)]
theorem Ji(m:Mv P D W M σ ρ){op:Int}{nm:ByteArray}{n d:Int}{ks:List Int}{s:Int}{v:Vv}(g:Good D σ ⟨op,ks.isEmpty,ks,n,d,nm⟩ s)(F:dK P W op n d nm (ks.map λk=>ρ.getD k.toNat v0) 0=some v)(H:s=1->∃b,v=bM b):RV P D W σ ρ (dA M op nm n d ks) s v:=by
 have ty:=m.ty;have l:ρ.length=σ.length:=by rw [m.len,ty.len]
 unfold dA;cases G:lk (mM op nm n d ks) M.K with
 | some u=>
  obtain⟨i,x,j,f,r⟩:=ty.ky _ (Cd G);have c:i < σ.length:=by rw [ty.len];exact(Wm.1 f).1
  have e:i < ρ.length:=by omega
  have B:=ty.nd i x σ[i] f (Wv c);obtain⟨t,w,e3,y,z⟩:=HM (show jz nm from g.nm) B.nm r;have A:=(B.mono (σ.drop i)).ch;rw [Zb] at A;have:bU D ⟨op,ks.isEmpty,ks,n,d,nm⟩ (σ.length:Int) σ =bU D x (σ.length:Int) σ:=ID t z e3 y w;rw [g.ch,A] at this;simp only [Xa,and_true] at this;have a:=m.ev i x ρ[i] f (Wv e);rw [<-t,<-w,<-e3,<-y,<-z,F] at a;simp only [Wj] at a;replace j:u= (i:Int):=j;subst j;exact⟨σ,ρ,m,XA _,XA _,⟨Y1 i,by rw [WW,this];exact Wv c⟩,Y1 i,by rw [WW,a];exact Wv e⟩
 | none=>
  have I:=oR ty g;have C:∀k∈ks,0<=k/\k < (ρ.length:Int):=by rw [l];exact wh g.ch
  refine⟨σ ++ [s],ρ ++ [v],⟨⟨by simp [ty.len],λi x s' a hs=> ?_,λp h=> ?_⟩,by simp [m.len],λi x u a hs=> ?_,λi u hs o=> ?_⟩,⟨_,rfl⟩,⟨_,rfl⟩,⟨by simp, ?_⟩,by simp, ?_⟩
  .rcases Ys i σ.length with c | c
   .rw [WB (by rw [<-ty.len];exact c)] at a;rw [WB c] at hs;rw [XP (by omega)];exact ty.nd i x s' a hs
   .have e:=(Wm.1 hs).1;rw [Xc,Wy] at e;obtain rfl:i=σ.length:=by omega
    rw [WJ (by rw [ty.len];exact WH _),ty.len,Xx] at a;rw [WJ (WH _),Xx] at hs;simp only [W7,Wj] at a hs;subst a hs;rw [XP (WH _),YC];exact g
  .rcases WK.1 h with h | h
   .obtain⟨i,x,j,f,r⟩:=ty.ky p h;exact⟨i,x,j,by rw [WB (Wm.1 f).1];exact f,r⟩
   .simp only [WA] at h;subst h;exact⟨M.N.length,⟨op,ks.isEmpty,ks,n,d,nm⟩,rfl,by simp,rfl⟩
  .rcases Ys i ρ.length with c | c
   .rw [WB (by rw [<-m.len];exact c)] at a;rw [WB c] at hs;have q:=ty.in i x a;rw [yN λk E=>⟨(q k E).1,by have:=(q k E).2;omega⟩];exact m.ev i x u a hs
   .have e:=(Wm.1 hs).1;rw [Xc,Wy] at e;obtain rfl:i=ρ.length:=by omega
    rw [WJ (by rw [m.len];exact WH _),m.len,Xx] at a;rw [WJ (WH _),Xx] at hs;simp only [W7,Wj] at a hs;subst a hs;show dK P W op n d nm (ks.map λk=>(ρ ++ [v]).getD k.toNat v0) 0=some v;rw [yN C];exact F
  .rcases Ys i σ.length with c | c
   .rw [WB c] at hs;rw [WB (by omega)] at o;exact m.tr i u hs o
   .have e:=(Wm.1 hs).1;rw [Xc,Wy] at e;obtain rfl:i=σ.length:=by omega
    rw [WJ (WH _),Xx] at hs;rw [<-l,WJ (WH _),Xx] at o;simp only [W7,Wj] at hs o;subst o;exact H hs
  .show(σ ++ [s])[((M.N.length:Nat):Int).toNat]? =some s;rw [WW,<-ty.len];simp
  .show(ρ ++ [v])[((M.N.length:Nat):Int).toNat]? =some v;rw [WW,<-m.len];simp
theorem sn(m:Mv P D W M σ ρ){op:Int}{nm:ByteArray}{n d:Int}{ks:List Int}{b:Bool}(g:Good D σ ⟨op,ks.isEmpty,ks,n,d,nm⟩ 1)(a:dK P W op n d nm (ks.map λk=>ρ.getD k.toNat v0) 0=some (bM b)):RB P D W σ ρ (dA M op nm n d ks) b:=
 (Ji m g a λ_=>⟨b,rfl⟩).b
theorem pM(m:Mv P D W M σ ρ)(b:Bool):RB P D W σ ρ (dx M b) b:=by unfold dx;refine sn m (Hf D σ b) ?_;cases b <;> rfl
theorem Dx{a:Int}{b:Bool}(m:Mv P D W M σ ρ)(h:dB σ ρ a b):∃x,M.N[a.toNat]? =some x/\cw M a=x.op/\dK P W x.op x.n x.d x.nm (x.ks.map λk=>ρ.getD k.toNat v0) 0=some (bM b):=by
 have hl:a.toNat < M.N.length:=by rw [<-m.len];exact(Wm.1 h.v.2).1
 have c:M.N[a.toNat]? =some M.N[a.toNat]:=Wv hl;exact⟨_,c,by unfold cw;rw [c],m.ev _ _ _ c h.v.2⟩
theorem r8{a:Int}{b:Bool}(m:Mv P D W M σ ρ)(h:dB σ ρ a b)(e:cw M a=1):b=true:=by obtain⟨x,_,d,c⟩:=Dx m h;rw [show x.op=1 by rw [<-d];exact e] at c;have:some (bM true)=some (bM b):=c;simp only [Wj] at this;exact(zQ this).symm
theorem r7{a:Int}{b:Bool}(m:Mv P D W M σ ρ)(h:dB σ ρ a b)(e:cw M a=2):b=false:=by obtain⟨x,_,d,c⟩:=Dx m h;rw [show x.op=2 by rw [<-d];exact e] at c;have:some (bM false)=some (bM b):=c;simp only [Wj] at this;exact(zQ this).symm
theorem RB.as{p:Int×Mk}{b c:Bool}(h:RB P D W σ ρ p b)(e:b=c):RB P D W σ ρ p c:=e▸h
theorem wq{a:Int}{b:Bool}(m:Mv P D W M σ ρ)(h:dB σ ρ a b):RB P D W σ ρ (gY M a) (!b):=by
 unfold gY;split
 .rename_i e;exact(pM m _).as (by rw [r8 m h e];rfl)
 .split
  .rename_i e;exact(pM m _).as (by rw [r7 m h e];rfl)
  .split
   .rename_i e;obtain⟨x,C,ho,g⟩:=El m.ty h.s e;obtain⟨E,o,_,p⟩:=Dx m h;obtain rfl:x=E:=by rw [C] at o;simpa using o
    have d:=g.ch;have y:=wh d;unfold bU at d;rw [if_neg (by omega),if_neg (by omega)] at d;have A:dS x.op=1:=by rw [ho];decide
    split at d
    .simp at d
    .rename_i hl;rw [A] at hl;obtain⟨k,l⟩:∃k,x.ks= [k]:=by
      have:x.ks.length=1:=by omega
      exact X0.1 this
     have i:=y k (by rw [l];exact Wl);have r:qd M a=k:=by unfold qd;rw [C];show x.ks.headD 0=k;rw [l];rfl
     rw [r];unfold dz at d;rw [ho,l] at d;split at d
     .simp at d
     split at d
     .simp at d
     split at d
     .simp at d
     split at d
     .simp at d
     rename_i hs;have f:(σ.take a.toNat).getD k.toNat 0=1:=Kh hs;rw [Wp,Yq] at f;rw [Xk] at i;rw [if_pos (by have:=h.s.1;omega)] at f;have z:k.toNat < σ.length:=by omega
     have n:σ[k.toNat]? =some 1:=by
      cases w:σ[k.toNat]? with
      | none=>rw [w] at f;cases f
      | some v=>rw [w] at f;simp only [X6] at f;rw [f]
     have B:k.toNat < ρ.length:=by rw [m.len,<-m.ty.len];exact z
     have j:ρ[k.toNat]? =some ρ[k.toNat]:=Wv B;obtain⟨c,u⟩:=m.tr _ _ n j;rw [u] at j;have t:dB σ ρ k c:=⟨⟨i.1,n⟩,i.1,j⟩;rw [ho,l,WL,Xj,t.v.get] at p;have q:some (bM (!iJ (bM c)))=some (bM b):=p;rw [nO,Wj] at q;exact(RB.same m t).as (by rw [<-zQ q,Zw])
   .refine sn m (Hc h.s) ?_;rw [WL,Xj,h.v.get];show some (bM (!iJ (bM b)))=_;rw [nO]
theorem Pa(b c:Bool):dK P W 4 0 0 s0 [bM b,bM c] 0=some (bM (b && c)):=by show some (bM (!([bM b,bM c].any λv=>v.n==0)))=_;rw [Xz,Xz,Zx,KK,KK];cases b <;> cases c <;> rfl
theorem Pb(b c:Bool):dK P W 5 0 0 s0 [bM b,bM c] 0=some (bM (b || c)):=by show some (bM ([bM b,bM c].any iJ))=_;rw [Xz,Xz,Zx,nO,nO,Y7]
theorem Pc(b c:Bool):dK P W 6 0 0 s0 [bM b,bM c] 0=some (bM (b==c)):=by show some (bM (iJ (bM b)==iJ (bM c)))=_;rw [nO,nO]
theorem dB.inj{a:Int}{b c:Bool}(h:dB σ ρ a b)(d:dB σ ρ a c):b=c:=zQ (h.v.inj d.v)
theorem qV{a f:Int}{b c:Bool}(m:Mv P D W M σ ρ)(h:dB σ ρ a b)(d:dB σ ρ f c):RB P D W σ ρ (cA M a f) (b && c):=by
 unfold cA;split
 .rename_i e;refine(RB.same m h).as ?_;rcases e with e | e | e
  .rw [r7 m h e];rfl
  .rw [r8 m d e,XF]
  .subst e;rw [h.inj d,Zl]
 .split
  .rename_i e;refine(RB.same m d).as ?_;rcases e with e | e
   .rw [r8 m h e,Xe]
   .rw [r7 m d e,Xn]
  .refine sn m (tL (.inl rfl) h.s d.s) ?_;rw [WL,WL,Xj,h.v.get,d.v.get];exact Pa b c
theorem CA{a f:Int}{b c:Bool}(m:Mv P D W M σ ρ)(h:dB σ ρ a b)(d:dB σ ρ f c):RB P D W σ ρ (eS M a f) (b || c):=by
 unfold eS;split
 .rename_i e;refine(RB.same m h).as ?_;rcases e with e | e | e
  .rw [r8 m h e];rfl
  .rw [r7 m d e,Y7]
  .subst e;rw [h.inj d,Bool.or_self]
 .split
  .rename_i e;refine(RB.same m d).as ?_;rcases e with e | e
   .rw [r7 m h e,W4]
   .rw [r8 m d e,YZ]
  .refine sn m (tL (.inr (.inl rfl)) h.s d.s) ?_;rw [WL,WL,Xj,h.v.get,d.v.get];exact Pb b c
theorem BP{a f:Int}{b c:Bool}(m:Mv P D W M σ ρ)(h:dB σ ρ a b)(d:dB σ ρ f c):RB P D W σ ρ (eF M a f) (b==c):=by
 unfold eF;split
 .rename_i e;subst e;exact(pM m true).as (by rw [h.inj d];simp)
 .split
  .rename_i e;exact(RB.same m d).as (by rw [r8 m h e];cases c <;> rfl)
  .split
   .rename_i e;exact(RB.same m h).as (by rw [r8 m d e];cases b <;> rfl)
   .split
    .rename_i e;exact(wq m d).as (by rw [r7 m h e];cases c <;> rfl)
    .split
     .rename_i e;exact(wq m h).as (by rw [r7 m d e];cases b <;> rfl)
     .refine sn m (tL (.inr (.inr rfl)) h.s d.s) ?_;rw [WL,WL,Xj,h.v.get,d.v.get];exact Pc b c
theorem DM{a d:Int}{b c:Bool}(m:Mv P D W M σ ρ)(h:dB σ ρ a b)(g:dB σ ρ d c):RB P D W σ ρ (bJ M a d) (b ^^ c):=by obtain⟨s,r,k,n,p,i⟩:=BP m h g;obtain⟨f,e,l,o,q,j⟩:=wq k i;exact RB.as ⟨f,e,l,n.trans o,p.trans q,j⟩ (by cases b <;> cases c <;> rfl)
theorem Sg{e a f:Int}{z b c:Bool}(m:Mv P D W M σ ρ)(g:dB σ ρ e z)(h:dB σ ρ a b)(d:dB σ ρ f c):RB P D W σ ρ (dt e M a f) (bif z then b else c):=by
 unfold dt;split
 .rename_i ee;subst ee;exact(RB.same m h).as (by rw [h.inj d];cases z <;> rfl)
 .refine sn m (Hd g.s h.s d.s) ?_;rw [WL,WL,WL,Xj,h.v.get,d.v.get,g.v.get];show some (if iJ (bM z) then bM b else bM c)=_;rw [nO];cases z <;> rfl
end
open Go Go.Aev
abbrev bN(b:Bool):Nat:=bif b then 1 else 0
def wv:List Bool->Nat
 | []=>0
 | b::l=>bN b+2 * wv l
theorem xe:∀l:List Bool,wv l < 2 ^ l.length
 | []=>by simp [wv]
 | b::l=>by have:=xe l;rw [wv,Wz,Nat.pow_succ];cases b <;> simp [bN] <;> omega
theorem Ld:∀l:List Bool,wv (l.map (!·))+wv l+1=2 ^ l.length
 | []=>rfl
 | b::l=>by have:=Ld l;rw [WL,wv,wv,Wz,Nat.pow_succ];cases b <;> simp [bN] <;> omega
theorem lY:∀(l:List Bool) (i:Nat),(wv l).testBit i=l.getD i false
 | [],i=>by simp [wv]
 | b::l,0=>by rw [wv,Nat.testBit_zero];cases b <;> simp [bN] <;> omega
 | b::l,i+1=>by
  rw [wv,Nat.testBit_succ];have:(bN b+2 * wv l) / 2=wv l:=by cases b <;> simp [bN] <;> omega
  rw [this,lY l i];simp
theorem zY{f:Bool->Bool->Bool}(c:f false false=false):∀{a b:List Bool} (i:Nat),a.length=b.length->(List.zipWith f a b).getD i false=f (a.getD i false) (b.getD i false)
 | [],[],i,_=>by simp [c]
 | [],_::_,_,h=>by simp at h
 | _::_,[],_,h=>by simp at h
 | x::a,y::b,0,_=>by simp
 | x::a,y::b,i+1,h=>by have:=zY c (a:=a) (b:=b) i (by simpa using h);simpa using this
theorem V8{a b:List Bool}(h:a.length=b.length):wv (List.zipWith (· && ·) a b)=wv a &&& wv b:=by apply YA;intro i;rw [lY,zY rfl i h,Nat.testBit_and,lY,lY]
theorem V9{a b:List Bool}(h:a.length=b.length):wv (List.zipWith (· || ·) a b)=wv a ||| wv b:=by apply YA;intro i;rw [lY,zY rfl i h,Nat.testBit_or,lY,lY]
theorem Wc{a b:List Bool}(h:a.length=b.length):wv (List.zipWith (· ^^ ·) a b)=wv a ^^^ wv b:=by apply YA;intro i;rw [lY,zY rfl i h,Nat.testBit_xor,lY,lY]
def lT:Bool->List Bool->List Bool->List Bool
 | c,x::a,y::b=>((x ^^ y) ^^ c)::lT ((x && y) || ((x ^^ y) && c)) a b
 | _,_,_=> []
theorem Dk:∀{c:Bool} {a b:List Bool},a.length=b.length->(lT c a b).length=a.length
 | c,[],b,_=>by cases b <;> simp [lT]
 | c,_::_,[],h=>by simp at h
 | c,x::a,y::b,h=>by rw [lT,Wz,Wz,Dk (by simpa using h)]
theorem DK:∀{c:Bool} {a b:List Bool},a.length=b.length->wv (lT c a b)= (wv a+wv b+bN c) % 2 ^ a.length
 | c,[],b,_=>by cases b <;> simp [lT,wv,Nat.mod_one]
 | c,_::_,[],h=>by simp at h
 | c,x::a,y::b,h=>by
  have f:=DK (c:=(x && y) || ((x ^^ y) && c)) (a:=a) (b:=b) (by simpa using h);rw [lT,wv,wv,wv,f,Wz,Nat.pow_succ'];have e:bN x+2 * wv a+ (bN y+2 * wv b)+bN c=bN ((x ^^ y) ^^ c)+2 * (wv a+wv b+bN ((x && y) || ((x ^^ y) && c))):=by cases x <;> cases y <;> cases c <;> simp [bN] <;> omega
  rw [e];generalize wv a+wv b+bN ((x && y) || ((x ^^ y) && c))=s;have g:bN ((x ^^ y) ^^ c) < 2:=by cases x <;> cases y <;> cases c <;> decide
  rw [Nat.mod_mul];have e3:(bN ((x ^^ y) ^^ c)+2 * s) % 2=bN ((x ^^ y) ^^ c):=by omega
  have d:(bN ((x ^^ y) ^^ c)+2 * s) / 2=s:=by omega
  rw [e3,d]
def iK(l:List Bool)(n:Int):Nat->Nat->List Bool
 | _,0=> []
 | i,k+1=>(if(i:Int) < n then false else l.getD ((i:Int) - n).toNat false)::iK l n (i+1) k
theorem yR(l:List Bool)(n:Int):∀(k i:Nat),(iK l n i k).length=k
 | 0,_=>rfl
 | k+1,i=>by rw [iK,Wz,yR l n k]
theorem HV(l:List Bool)(n:Int):∀(k i j:Nat),(iK l n i k).getD j false= (decide (j < k) && (if((i+j:Nat):Int) < n then false else l.getD (((i+j:Nat):Int) - n).toNat false))
 | 0,i,j=>by simp [iK]
 | k+1,i,0=>by simp [iK]
 | k+1,i,j+1=>by rw [iK,XG,HV l n k (i+1) j];rw [show i+1+j=i+ (j+1) by omega];congr 1;simp
theorem DJ{l:List Bool}{m:Nat}:wv (iK l (m:Int) 0 l.length)=wv l * 2 ^ m % 2 ^ l.length:=by
 apply YA;intro i;rw [lY,HV,Nat.testBit_mod_two_pow,<-Nat.shiftLeft_eq,Nat.testBit_shiftLeft,lY,WZ];by_cases h:i < m
 .rw [if_pos (by omega),decide_eq_false (by omega:¬i>=m)];simp
 .rw [if_neg (by omega),decide_eq_true (by omega:i>=m)];have:((i:Int) - (m:Int)).toNat=i - m:=by omega
  rw [this,Xe]
def lU(a:List Bool):List Bool->Nat->List Bool->List Bool
 | out,i,x::b=>lU a (lT false out ((iK a (i:Int) 0 a.length).map (x && ·))) (i+1) b
 | out,_,[]=>out
theorem Wa(x:Bool)(l:List Bool):wv (l.map (x && ·))=bN x * wv l:=by
 induction l with
 | nil=>simp [wv]
 | cons b l a=>rw [WL,wv,wv,a];cases x <;> simp [bN]
theorem KD(a:List Bool):∀(b:List Bool) (i:Nat) (out:List Bool),out.length=a.length->(lU a out i b).length=a.length
 | [],i,out,h=>by rw [lU];exact h
 | x::b,i,out,h=>by rw [lU];exact KD a b (i+1) _ (by rw [Dk (by rw [W6,yR,h]),h])
theorem Lg(a:List Bool):∀(b:List Bool) (i:Nat) (out:List Bool),out.length=a.length->wv (lU a out i b) % 2 ^ a.length= (wv out+wv a * wv b * 2 ^ i) % 2 ^ a.length
 | [],i,out,h=>by rw [lU];simp [wv]
 | x::b,i,out,h=>by
  have hl:out.length= ((iK a (i:Int) 0 a.length).map (x && ·)).length:=by rw [W6,yR,h]
  rw [lU,Lg a b (i+1) _ (by rw [Dk hl,h]),DK hl,Wa,DJ,h,wv];have e:wv a * (bN x+2 * wv b) * 2 ^ i=bN x * (wv a * 2 ^ i)+wv a * wv b * 2 ^ (i+1):=by
   rw [Nat.pow_succ,ZD,Ye];congr 1
   .rw [Nat.mul_comm (wv a) (bN x),Nat.mul_assoc]
   .rw [Nat.mul_comm 2 (wv b),<-Nat.mul_assoc,Nat.mul_assoc (wv a * wv b) 2,Nat.mul_comm 2 (2 ^ i)]
  rw [e];show((wv out+bN x * (wv a * 2 ^ i % 2 ^ a.length)+bN false) % 2 ^ a.length+ _) % _=_;generalize wv a * wv b * 2 ^ (i+1)=u;generalize wv a * 2 ^ i=v;generalize 2 ^ a.length=q;rw [Nat.mod_add_mod];cases x
  .simp [bN]
  .simp only [bN,cond_true,cond_false,Nat.one_mul,Yr];rw [show wv out+v % q+u=v % q+ (wv out+u) by omega,Nat.mod_add_mod,show v+ (wv out+u)=wv out+ (v+u) by omega]
theorem Wb{a b:List Bool}(h:b.length=a.length):wv (lU a (iK a (a.length:Int) 0 a.length) 0 b)=wv a * wv b % 2 ^ a.length:=by have hl:=yR a (a.length:Int) a.length 0;have c:=Lg a b 0 (iK a (a.length:Int) 0 a.length) hl;have d:=xe (lU a (iK a (a.length:Int) 0 a.length) 0 b);rw [KD a b 0 _ hl] at d;rw [Zs d,DJ] at c;rw [c,Nat.pow_zero,Nat.mul_one,Nat.mul_mod_left,WZ]
def qf:Bool->List Bool->List Bool->Bool
 | c,x::a,y::b=>qf ((!x && y) || ((x==y) && c)) a b
 | c,_,_=>c
theorem Lc:∀{a b:List Bool} {c:Bool},a.length=b.length->qf c a b= (decide (wv a < wv b) || (decide (wv a=wv b) && c))
 | [],[],c,_=>by simp [qf,wv]
 | [],_::_,_,h=>by simp at h
 | _::_,[],_,h=>by simp at h
 | x::a,y::b,c,h=>by
  rw [qf,Lc (by simpa using h),wv,wv];rcases Zn (wv a) (wv b) with d | d | d
  .have e:decide (wv a < wv b)=true:=by simpa using d
   have f:decide (bN x+2 * wv a < bN y+2 * wv b)=true:=by cases x <;> cases y <;> simp [bN] <;> omega
   rw [e,f];rfl
  .rw [d];cases x <;> cases y <;> cases c <;> simp [bN] <;> omega
  .have e:decide (wv a < wv b)=false:=by simp;omega
   have f:decide (wv a=wv b)=false:=by simp;omega
   have e3:decide (bN x+2 * wv a < bN y+2 * wv b)=false:=by cases x <;> cases y <;> simp [bN] <;> omega
   have g:decide (bN x+2 * wv a=bN y+2 * wv b)=false:=by cases x <;> cases y <;> simp [bN] <;> omega
   rw [e,f,e3,g];rfl
theorem Lf:∀{a b:List Bool},a.length=b.length->(List.zipWith (· == ·) a b).all id=decide (wv a=wv b)
 | [],[],_=>by simp [wv]
 | [],_::_,h=>by simp at h
 | _::_,[],h=>by simp at h
 | x::a,y::b,h=>by
  rw [Y6,XI,Lf (by simpa using h),wv,wv];by_cases c:wv a=wv b
  .rw [c];cases x <;> cases y <;> simp [bN]
  .have d:decide (wv a=wv b)=false:=by simpa using c
   have e:decide (bN x+2 * wv a=bN y+2 * wv b)=false:=by cases x <;> cases y <;> simp [bN] <;> omega
   rw [d,e,Xn]
def l5(n:Nat):Nat->Nat->List Bool
 | _,0=> []
 | b,k+1=>n.testBit b::l5 n (b+1) k
theorem Ez(n:Nat):∀(k b j:Nat),(l5 n b k).getD j false= (decide (j < k) && n.testBit (b+j))
 | 0,b,j=>by simp [l5]
 | k+1,b,0=>by simp [l5]
 | k+1,b,j+1=>by rw [l5,XG,Ez n k (b+1) j,show b+1+j=b+ (j+1) by omega];congr 1;simp
theorem Lb{n k:Nat}(h:n < 2 ^ k):wv (l5 n 0 k)=n:=by
 apply YA;intro i;rw [lY,Ez,WZ];by_cases a:i < k
 .rw [decide_eq_true a,Xe]
 .rw [decide_eq_false a,Xm];exact(Nat.testBit_lt_two_pow (Xt h (YB (by decide) (by omega)))).symm
open Go Go.Aev
def BL(σ:List Int)(ρ:List Vv):List Int->List Bool->Prop
 | [],[]=>True
 | a::l,b::c=>dB σ ρ a b/\BL σ ρ l c
 | _,_=>False
theorem BL.mono{σ a:List Int}{ρ ρ':List Vv}(p:σ <+:a)(q:ρ <+:ρ'):∀{l:List Int} {b:List Bool},BL σ ρ l b->BL a ρ' l b
 | [],[],_=>trivial
 | [],_::_,h=>h.elim
 | _::_,[],h=>h.elim
 | _::_,_::_,h=>⟨h.1.mono p q,h.2.mono p q⟩
theorem BL.len{σ:List Int}{ρ:List Vv}:∀{l:List Int} {a:List Bool},BL σ ρ l a->l.length=a.length
 | [],[],_=>rfl
 | [],_::_,h=>h.elim
 | _::_,[],h=>h.elim
 | _::_,_::_,h=>by rw [Wz,Wz,BL.len h.2]
theorem BL.get{σ:List Int}{ρ:List Vv}:∀{l:List Int} {a:List Bool} {i:Nat},BL σ ρ l a->i < l.length->dB σ ρ (l.getD i 0) (a.getD i false)
 | [],[],_,_,h=>by simp at h
 | [],_::_,_,h,_=>h.elim
 | _::_,[],_,h,_=>h.elim
 | _::_,_::_,0,h,_=>h.1
 | _::l,_::a,i+1,h,b=>by rw [XG,XG];exact BL.get h.2 (by simpa using b)
def RL(P:Pm)(D:List Dc)(W:Wd)(σ:List Int)(ρ:List Vv)(p:List Int×Mk)(b:List Bool):Prop:= ∃a ρ',Mv P D W p.2 a ρ'/\σ <+:a/\ρ <+:ρ'/\BL a ρ' p.1 b
section
variable {P:Pm} {D:List Dc} {W:Wd}
theorem RL.none{M:Mk}{σ:List Int}{ρ:List Vv}(m:Mv P D W M σ ρ):RL P D W σ ρ ([],M) []:=⟨σ,ρ,m,XA _,XA _,trivial⟩
theorem RL.cons{M c:Mk}{σ:List Int}{ρ:List Vv}{x:Int}{l:List Int}{b:Bool}{d:List Bool}(h:RB P D W σ ρ (x,M) b)(o:∀a ρ',Mv P D W M a ρ'->σ <+:a->ρ <+:ρ'->RL P D W a ρ' (l,c) d):RL P D W σ ρ (x::l,c) (b::d):=by obtain⟨m,j,r,e,g,p⟩:=h;obtain⟨n,k,s,f,i,q⟩:=o m j r e g;exact⟨n,k,s,e.trans f,g.trans i,p.mono f i,q⟩
theorem RL.as{σ:List Int}{ρ:List Vv}{p:List Int×Mk}{b c:List Bool}(h:RL P D W σ ρ p b)(e:b=c):RL P D W σ ρ p c:=e▸h
theorem Bt{f:Mk->Int->Int->Int×Mk}{g:Bool->Bool->Bool}{Q:List Int->List Vv->Prop}(i:∀σ a ρ ρ',σ <+:a->ρ <+:ρ'->Q σ ρ->Q a ρ')(j:∀M σ ρ x y b c,Mv P D W M σ ρ->Q σ ρ->dB σ ρ x b->dB σ ρ y c->RB P D W σ ρ (f M x y) (g b c)):
  ∀{l l':List Int} {d cs:List Bool} {M:Mk} {σ:List Int} {ρ:List Vv},Mv P D W M σ ρ->Q σ ρ->BL σ ρ l d->BL σ ρ l' cs->RL P D W σ ρ (aT f M l l') (List.zipWith g d cs)
 | [],l',[],cs,M,σ,ρ,m,_,_,_=>by rw [show aT f M [] l'= ([],M) by simp [aT],List.zipWith_nil_left];exact RL.none m
 | [],_,_::_,_,_,_,_,_,_,h,_=>h.elim
 | _::_,_,[],_,_,_,_,_,_,h,_=>h.elim
 | x::l,[],b::d,[],M,σ,ρ,m,_,_,_=>by rw [show aT f M (x::l) []= ([],M) by simp [aT],List.zipWith_nil_right];exact RL.none m
 | _::_,[],_::_,_::_,_,_,_,_,_,_,h=>h.elim
 | _::_,_::_,_::_,[],_,_,_,_,_,_,h=>h.elim
 | x::l,y::l',b::d,c::cs,M,σ,ρ,m,k,h,e=>by rw [aT,Y6];exact RL.cons (j M σ ρ x y b c m k h.1 e.1) λa ρ' n p q=>Bt i j n (i _ _ _ _ p q k) (h.2.mono p q) (e.2.mono p q)
theorem yl{f:Mk->Int->Int->Int×Mk}{g:Bool->Bool->Bool}(e:∀M σ ρ x y b c,Mv P D W M σ ρ->dB σ ρ x b->dB σ ρ y c->RB P D W σ ρ (f M x y) (g b c)){l l':List Int}{d cs:List Bool}{M:Mk}{σ:List Int}{ρ:List Vv}(m:Mv P D W M σ ρ)(h:BL σ ρ l d)(a:BL σ ρ l' cs):RL P D W σ ρ (aT f M l l') (List.zipWith g d cs):=
 Bt (Q:=λ_ _=>True) (λ_ _ _ _ _ _ _=>trivial) (λM σ ρ x y b c m _ h a=>e M σ ρ x y b c m h a) m trivial h a
theorem Kx:∀{l l':List Int} {f cs:List Bool} {M:Mk} {σ:List Int} {ρ:List Vv} {e:Int} {z:Bool},Mv P D W M σ ρ->dB σ ρ e z->BL σ ρ l f->BL σ ρ l' cs->RL P D W σ ρ (fF M e l l') (lT z f cs)
 | [],l',[],cs,M,σ,ρ,e,z,m,_,_,_=>by rw [zL,show lT z [] cs= [] by cases cs <;> rfl];exact RL.none m
 | [],_,_::_,_,_,_,_,_,_,_,_,h,_=>h.elim
 | _::_,_,[],_,_,_,_,_,_,_,_,h,_=>h.elim
 | x::l,[],b::f,[],M,σ,ρ,e,z,m,_,_,_=>by rw [show fF M e (x::l) []= ([],M) by simp [fF]];exact RL.none m
 | _::_,[],_::_,_::_,_,_,_,_,_,_,_,_,h=>h.elim
 | _::_,_::_,_::_,[],_,_,_,_,_,_,_,_,h=>h.elim
 | x::l,y::l',b::f,c::cs,M,σ,ρ,e,z,m,t,h,n=>by
  obtain⟨σ1,ρ1,U,v,E,r⟩:=DM m h.1 n.1;obtain⟨L,J,u,w,F,s⟩:=DM U r (t.mono v E);have a:=v.trans w;have d:=E.trans F;rw [fF,lT];dsimp only;split
  .rename_i o;have hl:l= []:=XN.1 o;have T:f= []:=by
    have:=h.2.len;rw [hl] at this;exact WT.1 this.symm
   rw [T,show lT ((b && c) || ((b ^^ c) && z)) [] cs= [] by cases cs <;> rfl];exact⟨L,J,u,a,d,s,trivial⟩
  .obtain⟨σ3,ρ3,V,p,q,O⟩:=qV u (h.1.mono a d) (n.1.mono a d);have A:=w.trans p;have G:=F.trans q;obtain⟨σ4,ρ4,X,B,H,Q⟩:=qV V (r.mono A G) (t.mono (a.trans p) (d.trans q));obtain⟨σ5,ρ5,Y,p5,q5,R⟩:=CA X (O.mono B H) Q;have j:=p.trans (B.trans p5);have k:=q.trans (H.trans q5);have g:=a.trans j;have i:=d.trans k;obtain⟨N,K,Z,C,I,S⟩:=Kx (l:=l) (l':=l') Y R (h.2.mono g i) (n.2.mono g i);exact⟨N,K,Z,g.trans C,i.trans I,s.mono (j.trans C) (k.trans I),S⟩
theorem Ku{l l':List Int}{c cs:List Bool}{M:Mk}{σ:List Int}{ρ:List Vv}(m:Mv P D W M σ ρ)(h:BL σ ρ l c)(f:BL σ ρ l' cs):RL P D W σ ρ (eu M l l') (lT false c cs):=by obtain⟨q,p,j,a,b,g⟩:=pM m false;obtain⟨e,d,k,n,o,i⟩:=Kx j g (h.mono a b) (f.mono a b);exact⟨e,d,k,a.trans n,b.trans o,i⟩
theorem B8{n:Int}(h0: 0<=n){l:List Int}{b:List Bool}:∀(k i:Nat) {M:Mk} {σ:List Int} {ρ:List Vv},Mv P D W M σ ρ->BL σ ρ l b->i+k<=l.length->RL P D W σ ρ (fD M l n i k) (iK b n i k)
 | 0,i,M,σ,ρ,m,_,_=>RL.none m
 | k+1,i,M,σ,ρ,m,h,d=>by
  rw [fD,iK];split
  .exact RL.cons (pM m false) λc ρ' a p q=>B8 h0 k (i+1) a (h.mono p q) (by omega)
  .exact RL.cons (RB.same m (h.get (by omega))) λc ρ' a p q=>B8 h0 k (i+1) a (h.mono p q) (by omega)
theorem B7{n:Int}(h0: 0<=n){l:List Int}{a:List Bool}{M:Mk}{σ:List Int}{ρ:List Vv}(m:Mv P D W M σ ρ)(h:BL σ ρ l a):RL P D W σ ρ (bG M l n) (iK a n 0 a.length):=by unfold bG;rw [<-h.len];exact B8 h0 _ _ m h (by omega)
theorem IZ:∀{l:List Int} {a:List Bool} {M:Mk} {σ:List Int} {ρ:List Vv} {x:Int} {b:Bool},Mv P D W M σ ρ->dB σ ρ x b->BL σ ρ l a->RL P D W σ ρ (cL M x l) (a.map (b && ·))
 | [],[],M,σ,ρ,x,b,m,_,_=>RL.none m
 | [],_::_,_,_,_,_,_,_,_,h=>h.elim
 | _::_,[],_,_,_,_,_,_,_,h=>h.elim
 | y::l,c::a,M,σ,ρ,x,b,m,d,h=>by rw [cL,WL];exact RL.cons (qV m d h.1) λf ρ' e p q=>IZ e (d.mono p q) (h.2.mono p q)
theorem KE{l:List Int}{f:List Bool}:∀{l':List Int} {cs:List Bool} {i:Nat} {M:Mk} {σ:List Int} {ρ:List Vv} {out:List Int} {os:List Bool},Mv P D W M σ ρ->BL σ ρ l f->BL σ ρ out os->BL σ ρ l' cs->RL P D W σ ρ (hJ M l out i l') (lU f os i cs)
 | [],[],i,M,σ,ρ,out,os,m,_,ho,_=>by rw [hJ,lU];exact⟨σ,ρ,m,XA _,XA _,ho⟩
 | [],_::_,_,_,_,_,_,_,_,_,_,h=>h.elim
 | _::_,[],_,_,_,_,_,_,_,_,_,h=>h.elim
 | x::l',c::cs,i,M,σ,ρ,out,os,m,h,ho,g=>by obtain⟨J,G,u,j,k,q⟩:=B7 (n:=(i:Int)) (by omega) m h;obtain⟨K,H,v,z,C,r⟩:=IZ u (g.1.mono j k) q;have d:=j.trans z;have e:=k.trans C;obtain⟨L,I,w,A,E,s⟩:=Ku v (ho.mono d e) r;have a:=d.trans A;have b:=e.trans E;obtain⟨p,o,y,B,F,t⟩:=KE (l':=l') (i:=i+1) w (h.mono a b) s (g.2.mono a b);rw [hJ,lU];exact⟨p,o,y,a.trans B,b.trans F,t⟩
theorem UJ{l l':List Int}{a cs:List Bool}{M:Mk}{σ:List Int}{ρ:List Vv}(m:Mv P D W M σ ρ)(h:BL σ ρ l a)(g:BL σ ρ l' cs):RL P D W σ ρ (jt M l l') (lU a (iK a (a.length:Int) 0 a.length) 0 cs):=by obtain⟨s,r,k,b,c,j⟩:=B7 (n:=(l.length:Int)) (by omega) m h;obtain⟨f,e,o,p,q,d⟩:=KE (i:=0) k (h.mono b c) j (g.mono b c);rw [h.len] at d;exact⟨f,e,o,b.trans p,c.trans q,by unfold jt;rw [h.len];exact d⟩
theorem HY:∀{l l':List Int} {j cs:List Bool} {M:Mk} {σ:List Int} {ρ:List Vv} {e:Int} {z:Bool},Mv P D W M σ ρ->dB σ ρ e z->BL σ ρ l j->BL σ ρ l' cs->RB P D W σ ρ (gG M e l l') (qf z j cs)
 | [],l',[],cs,M,σ,ρ,e,z,m,a,_,_=>by rw [show gG M e [] l'= (e,M) by simp [gG],show qf z [] cs=z by cases cs <;> rfl];exact RB.same m a
 | [],_,_::_,_,_,_,_,_,_,_,_,h,_=>h.elim
 | _::_,_,[],_,_,_,_,_,_,_,_,h,_=>h.elim
 | x::l,[],b::j,[],M,σ,ρ,e,z,m,a,_,_=>by rw [show gG M e (x::l) []= (e,M) by simp [gG]];exact RB.same m a
 | _::_,[],_::_,_::_,_,_,_,_,_,_,_,_,h=>h.elim
 | _::_,_::_,_::_,[],_,_,_,_,_,_,_,_,h=>h.elim
 | x::l,y::l',b::j,c::cs,M,σ,ρ,e,z,m,a,h,o=>by obtain⟨σ1,V,H,p,s,A⟩:=wq m h.1;obtain⟨σ2,X,I,O,S,B⟩:=qV H A (o.1.mono p s);have d:=p.trans O;have g:=s.trans S;obtain⟨σ3,Y,J,q,t,C⟩:=BP I (h.1.mono d g) (o.1.mono d g);have k:=d.trans q;have n:=g.trans t;obtain⟨σ4,Z,K,r,u,E⟩:=qV J C (a.mono k n);obtain⟨σ5,ρ5,L,Q,T,F⟩:=CA K (B.mono (q.trans r) (t.trans u)) E;have f:=k.trans (r.trans Q);have i:=n.trans (u.trans T);obtain⟨w,v,N,R,U,G⟩:=HY (l:=l) (l':=l') L F (h.2.mono f i) (o.2.mono f i);rw [gG,qf];exact⟨w,v,N,f.trans R,i.trans U,G⟩
theorem PZ{l l':List Int}{c cs:List Bool}{M:Mk}{σ:List Int}{ρ:List Vv}(m:Mv P D W M σ ρ)(h:BL σ ρ l c)(f:BL σ ρ l' cs):RB P D W σ ρ (me M l l') (qf false c cs):=by obtain⟨q,p,j,a,b,g⟩:=pM m false;obtain⟨e,d,k,n,o,i⟩:=HY j g (h.mono a b) (f.mono a b);exact⟨e,d,k,a.trans n,b.trans o,i⟩
theorem IG:∀{l:List Int} {a:List Bool} {M:Mk} {σ:List Int} {ρ:List Vv},Mv P D W M σ ρ->BL σ ρ l a->RL P D W σ ρ (fU M l) (a.map (!·))
 | [],[],M,σ,ρ,m,_=>RL.none m
 | [],_::_,_,_,_,_,h=>h.elim
 | _::_,[],_,_,_,_,h=>h.elim
 | y::l,b::a,M,σ,ρ,m,h=>by rw [fU,WL];exact RL.cons (wq m h.1) λd ρ' c p q=>IG c (h.2.mono p q)
def vq(n:Int):Nat->Nat->List Bool
 | _,0=> []
 | b,k+1=>jE n b::vq n (b+1) k
theorem EO{n:Int}:∀(k b:Nat) {M:Mk} {σ:List Int} {ρ:List Vv},Mv P D W M σ ρ->RL P D W σ ρ (fQ M n b k) (vq n b k)
 | 0,b,M,σ,ρ,m=>RL.none m
 | k+1,b,M,σ,ρ,m=>by rw [fQ,vq];exact RL.cons (pM m _) λc ρ' a _ _=>EO k (b+1) a
theorem D2:∀{l:List Int} {a:List Bool} {M:Mk} {σ:List Int} {ρ:List Vv} {e:Int} {z:Bool},Mv P D W M σ ρ->dB σ ρ e z->BL σ ρ l a->RB P D W σ ρ (kq M e l) (z && a.all id)
 | [],[],M,σ,ρ,e,z,m,c,_=>(RB.same m c).as (by simp)
 | [],_::_,_,_,_,_,_,_,_,h=>h.elim
 | _::_,[],_,_,_,_,_,_,_,h=>h.elim
 | y::l,b::a,M,σ,ρ,e,z,m,c,h=>by obtain⟨s,r,n,d,f,j⟩:=qV m c h.1;obtain⟨i,g,o,p,q,k⟩:=D2 (l:=l) n j (h.2.mono d f);rw [kq];exact RB.as ⟨i,g,o,d.trans p,f.trans q,k⟩ (by rw [XI,id,Bool.and_assoc])
theorem Uc{l l':List Int}{f cs:List Bool}{M:Mk}{σ:List Int}{ρ:List Vv}(m:Mv P D W M σ ρ)(h:BL σ ρ l f)(a:BL σ ρ l' cs):RB P D W σ ρ (oZ M l l') ((List.zipWith (· == ·) f cs).all id):=by obtain⟨z,v,q,d,e,n⟩:=pM m true;obtain⟨A,w,r,g,i,o⟩:=yl (λM σ ρ x y b c m h a=>BP m h a) q (h.mono d e) (a.mono d e);obtain⟨k,j,s,t,u,p⟩:=D2 r (n.mono g i) o;exact RB.as ⟨k,j,s,(d.trans g).trans t,(e.trans i).trans u,p⟩ (by rw [Xe])
theorem Iv{pre:ByteArray}{kids ar:List Int}(e:kids.length<=8){args:List Int}{g:Nat->Bool}:∀(k b:Nat) {M:Mk} {σ:List Int} {ρ:List Vv},Mv P D W M σ ρ->(∀c,b<=c->c < b+k->(Fn D (pre++it (c:Int)) ar 1/\jz (pre++it (c:Int)))/\W (pre++it (c:Int)) args=bM (g c))->(kids.map (λk=>σ.getD k.toNat 0)=ar)->(∀x∈kids,0<=x/\x < (σ.length:Int))->((kids.map λk=>ρ.getD k.toNat v0).map λv=>v.n)=args->RL P D W σ ρ (dC M pre kids b k) ((List.range' b k).map g)
 | 0,b,M,σ,ρ,m,_,_,_,_=>RL.none m
 | k+1,b,M,σ,ρ,m,h,i,a,f=>by
  rw [dC,Yk,WL];obtain⟨⟨j,l⟩,o⟩:=h b (by omega) (by omega);have r:ρ.length=σ.length:=by rw [m.len,m.ty.len]
  refine RL.cons (sn m (He j i a e l) ?_) λu ρ' s p q=>Iv e k (b+1) s (λc w y=>h c (by omega) (by omega)) ?_ ?_ ?_
  .show some (W (pre++it (b:Int)) ((kids.map λk=>ρ.getD k.toNat v0).map λv=>v.n))=_;rw [f,o]
  .rw [<-i];obtain⟨t,rfl⟩:=p;apply W8;intro x d;have:=a x d;rw [Wp,Wp,WB (by omega)]
  .intro x d;have:=a x d;obtain⟨t,rfl⟩:=p;rw [Xc];omega
  .obtain⟨t,rfl⟩:=q;rw [yN λx d=>by have:=a x d;omega];exact f
end
end Go.Aev.Gen
