import Derived.Test.YtcffabneepdohaaGreatDoorBlastBackQ18
set_option linter.all false
namespace Go.Aev.Gen
open Go Go.Aev
def pw(b:Int):Int:=2 ^ b.toNat
def iD(o b:Int)(ks:List Int)(n:Int):Int:=
 let a:=ks.getD 0 0;let k1:=ks.getD 1 0
 if o=16 then(-1 - a) % pw b
 else if o=17 then((a.toNat &&& k1.toNat:Nat):Int)
 else if o=18 then((a.toNat ||| k1.toNat:Nat):Int)
 else if o=19 then((a.toNat ^^^ k1.toNat:Nat):Int)
 else if o=20 then(a+k1) % pw b
 else if o=21 then(a * k1) % pw b
 else if o=23 then(a * 2 ^ n.toNat) % pw b
 else if o=22 then(if a < k1 then 1 else 0)
 else n
def jH(ss:List Int)(s:Int)(ks:List Int):Int:=ks.foldl (λb k=>if aG (ss.getD k.toNat 0)=true then ss.getD k.toNat 0 - 10 else b) (s - 10)
structure Wr (ds:List Dc) (p:ByteArray) (W0 W1:Wd):Prop where
 pl:∀d∈ds,aG d.so=false->∀x,W1 d.nm x=W0 d.nm x
 wd:∀(k:Nat) (d:Dc),ds[k]? =some d->aG d.so=true->∀x,∃n:Nat,n < 2 ^ (d.so - 10).toNat/\W0 d.nm x=fT (n:Int)/\∀b:Nat,b < (d.so - 10).toNat->W1 (p++it (k:Int)++us++it (b:Int)) x=bP (n.testBit b)
 bo:∀d∈ds,d.so=1->∀x,∃b,W0 d.nm x=bP b
structure Lv (c:Cx) (t:Tr) (σ:List Int) (ρ:List Vv) (X:List Vv) (i:Nat):Prop where
 l:X.length=i
 w:∀(k:Nat) (s:Int),k < i->c.ss[k]? =some s->aG s=true->∀l,t.bits[k]? =some l->∃bs,BL σ ρ l bs/\X[k]? =some (fT (wv bs:Int))
 p:∀(k:Nat) (s:Int),k < i->c.ss[k]? =some s->aG s=false->∀v,t.to[k]? =some v->bG σ v s/\∃u,X[k]? =some u/\iS ρ v u
 b:∀(k:Nat),k < i->c.ss[k]? =some 1->∃z,X[k]? =some (bP z)
theorem Lv.mono{c:Cx}{t:Tr}{σ a:List Int}{ρ ρ' X:List Vv}{i:Nat}(h:Lv c t σ ρ X i)(p:σ <+:a)(q:ρ <+:ρ'):Lv c t a ρ' X i:=
 ⟨h.l,λk s e f g l j=>by obtain⟨m,g1,d⟩:=h.w k s e f g l j;exact⟨m,g1.mono p q,d⟩,
  λk s e f g v j=>by obtain⟨g1,u,d,n⟩:=h.p k s e f g v j;exact⟨g1.mono p,u,d,n.mono q⟩,h.b⟩
abbrev xK(X:List Vv)(k:Int):Vv:=X.getD k.toNat v0
theorem Ee{X:List Vv}{k:Int}{v:Vv}(h:X[k.toNat]? =some v):xK X k=v:=by unfold xK;rw [Xa,h];rfl
theorem KW.oh{c:Cx}{t:Tr}{M:Mk}{σ:List Int}{ρ X:List Vv}{i:Nat}{k s:Int}(h:KW c i k s)(e:cJ c t M i)(g:Lv c t σ ρ X i)(b:aG s=true):∃a,BL σ ρ (aJ t k) a/\xK X k=fT (wv a:Int)/\(a.length:Int)=s - 10:=by obtain⟨a,d,f⟩:=g.w k.toNat s (by have:=h.h0;have:=h.lt;omega) h.so b _ (h.word e b).1;exact⟨a,d,Ee f,by rw [<-d.len];exact(h.word e b).2.1⟩
theorem KW.sJ{c:Cx}{t:Tr}{M:Mk}{σ:List Int}{ρ X:List Vv}{i:Nat}{k s:Int}(h:KW c i k s)(f:cJ c t M i)(g:Lv c t σ ρ X i)(a:aG s=false):bG σ (br t k) s/\iS ρ (br t k) (xK X k):=by obtain⟨b,u,d,e⟩:=g.p k.toNat s (by have:=h.h0;have:=h.lt;omega) h.so a _ (h.plain f a).2.1;rw [Ee d];exact⟨b,e⟩
theorem KW.AZ{c:Cx}{t:Tr}{M:Mk}{σ:List Int}{ρ X:List Vv}{i:Nat}{k:Int}(h:KW c i k 1)(f:cJ c t M i)(d:Lv c t σ ρ X i):∃z,dD σ ρ (br t k) z/\xK X k=bP z:=by obtain⟨g1,a⟩:=h.sJ f d rfl;obtain⟨z,g⟩:=d.b k.toNat (by have:=h.h0;have:=h.lt;omega) h.so;have e:=Ee g;rw [e] at a;exact⟨z,⟨g1,a⟩,e⟩
theorem Hb{P:Pm}{W:Wd}{op n d:Int}{nm:ByteArray}{ks:List Vv}{b b':Int}(h:op < 15\/23 < op)(a: 1<=op/\op<=25):dM P W op n d nm ks b=dM P W op n d nm ks b':=by unfold dM;rcases ux a with rfl | rfl | rfl | rfl | rfl | rfl | rfl | rfl | rfl | rfl | rfl | rfl | rfl | rfl | rfl | rfl | rfl | rfl | rfl | rfl | rfl | rfl | rfl | rfl | rfl <;> first | rfl | omega
def wT(o:Int):Int:=if o=15 then 0 else if o=16\/o=23 then 1 else 2
def xA(o b n:Int):Prop:=if o=15 then 0<=n/\n < pw b else if o=23 then 0<=n/\n<=8 else n=0
def tf(P:Pm):Prop:= ∀(o b:Int) (ks:List Int) (n:Int),15<=o/\o<=23->1<=b/\b<=8->(ks.length:Int)=wT o->(∀k∈ks,0<=k/\k < pw b)->xA o b n->P.word o b ks n=iD o b ks n
theorem vV{P:Pm}{W:Wd}(e:tf P){op n d b:Int}{nm:ByteArray}{ks:List Vv}(h: 15<=op/\op<=23)(f: 1<=b/\b<=8)(hl:(ks.length:Int)=wT op)(j:∀v∈ks,0<=v.n/\v.n < pw b)(g:xA op b n):dM P W op n d nm ks b=some (fT (iD op b (ks.map λv=>v.n) n)):=by unfold dM;rw [if_neg (by omega),if_neg (by omega),if_neg (by omega),if_neg (by omega),if_neg (by omega),if_neg (by omega),if_neg (by omega),if_neg (by omega),if_neg (by omega),if_neg (by omega),if_neg (by omega),if_neg (by omega),if_neg (by omega),if_neg (by omega),e op b _ n h f (by rw [XQ];exact hl) (λk a=>by obtain⟨v,l,rfl⟩:=XB.1 a;exact j v l) g]
theorem S7{s:Int}:pw (s - 10)= ((2 ^ (s - 10).toNat:Nat):Int):=by simp [pw]
theorem Qy{a:List Bool}{s:Int}(h:(a.length:Int)=s - 10):(s - 10).toNat=a.length:=by omega
theorem JR(n:Nat):∀(k b:Nat),(List.range' b k).map (λc=>n.testBit c)=l0 n b k
 | 0,_=>rfl
 | k+1,b=>by rw [Y3,Xq,l0,JR n k (b+1)]
theorem LV{z:Bool}:∀{a cs:List Bool},a.length=cs.length->List.zipWith (λb c=>bif z then b else c) a cs=bif z then a else cs
 | [],[],_=>by cases z <;> rfl
 | [],_::_,h=>by simp at h
 | _::_,[],h=>by simp at h
 | b::a,c::cs,h=>by rw [ZQ,LV (by simpa using h)];cases z <;> rfl
theorem ME{n:Nat}{b:Nat}(d:n < 256)(a:b < 8):jG (n:Int) b=n.testBit b:=by
 have:∀x:_root_.Fin 256,∀b:_root_.Fin 8,jG ((x.val:Nat):Int) b.val=x.val.testBit b.val:=by decide+kernel
 exact this ⟨n,d⟩ ⟨b,a⟩
theorem Fm{n:Nat}(a:n < 256):∀(k b:Nat),b+k<=8->vK (n:Int) b k=l0 n b k
 | 0,_,_=>rfl
 | k+1,b,h=>by rw [vK,l0,ME a (by omega),Fm a k (b+1) (by omega)]
theorem CV{x y:Nat}:fT ((x:Int) % ((y:Nat):Int))=fT ((x % y:Nat):Int):=by rw [Int.natCast_emod]
open Go Go.Aev
section
variable {P:Pm} {c:Cx} {D:List Dc} {W0 W1:Wd} {t:Tr} {M:Mk} {σ:List Int} {ρ X:List Vv} {i:Nat} {x:Nd} {s:Int}
abbrev kv(X:List Vv)(x:Nd):List Vv:=x.ks.map λk=>X.getD k.toNat v0
theorem Iq{a:Int}(e:x.ks= [a]):kv X x= [xK X a]:=by unfold kv;rw [e];rfl
theorem Cw{a b:Int}(e:x.ks= [a,b]):kv X x= [xK X a,xK X b]:=by unfold kv;rw [e];rfl
theorem Ir{a b d:Int}(e:x.ks= [a,b,d]):kv X x= [xK X a,xK X b,xK X d]:=by unfold kv;rw [e];rfl
theorem EY{a:Int}(k1:KW c i a s)(b:aG s=true)(e:x.ks= [a]):jH (c.ss.take i) s x.ks=s - 10:=by rw [e];show(if aG ((c.ss.take i).getD a.toNat 0)=true then(c.ss.take i).getD a.toNat 0 - 10 else s - 10)=s - 10;rw [jl k1,if_pos b]
theorem EZ{a b s':Int}(k1:KW c i a s')(k2:KW c i b s')(d:aG s'=true)(e:x.ks= [a,b]):jH (c.ss.take i) s x.ks=s' - 10:=by rw [e];show(if aG ((c.ss.take i).getD b.toNat 0)=true then(c.ss.take i).getD b.toNat 0 - 10 else _)=s' - 10;rw [jl k2,if_pos d]
theorem wZ{a:List Bool}{s:Int}(h:(a.length:Int)=s - 10):pw (s - 10)= ((2 ^ a.length:Nat):Int):=by rw [S7,Qy h]
theorem uY{a:List Bool}{s:Int}(h:(a.length:Int)=s - 10): 0<=(fT (wv a:Int)).n/\(fT (wv a:Int)).n < pw (s - 10):=by rw [wZ h];have:=uZ a;exact⟨by show(0:Int)<=(wv a:Int);omega,by show(wv a:Int) < _;omega⟩
theorem CR(h:gg x=true)(a:x.op≠10)(b:x.op≠12)(d:x.op≠15)(e:x.op≠23):x.n=0:=by unfold gg at h;simp only [Xf,XT,beq_iff_eq] at h;omega
theorem WN(Y:tf P)(dk:qZ c.ds D c.p)(wr':Wr c.ds c.p W0 W1)(ok:ov c i x s)(I:pS c i x s)(j:aG s=true)(A:cJ c t M i)(C:Lv c t σ ρ X i)(m:Mv P D W1 M σ ρ):
  ∃f,RL P D W1 σ ρ (gu c t M x s) f/\dM P W0 x.op x.n x.d x.nm (kv X x) (jH (c.ss.take i) s x.ks)=some (fT (wv f:Int)):=by
 have hs0:=(qG I).1;have hwl:=gP j;have one:∀{a:Int},x.ks= [a]->x.ks.getD 0 0=a:=λh=>by rw [h];rfl
 have two0:∀{a b:Int},x.ks= [a,b]->x.ks.getD 0 0=a:=λh=>by rw [h];rfl
 have two1:∀{a b:Int},x.ks= [a,b]->x.ks.getD 1 0=b:=λh=>by rw [h];rfl
 unfold gu;by_cases O:x.op=9
 .rw [if_pos O];obtain⟨k,d,f1,f2,f3,V,f5,f6⟩:=oV I O hs0;have hd:d∈c.ds:=Xg f2;obtain⟨a1,a4⟩:=dk.a4 d hd;have S:∀y∈x.ks,KW c i y 4/\bG σ (br t y) 4/\iS ρ (br t y) (xK X y):=λy B=>by
   obtain⟨s',hk⟩:=ok.k y B;have R:=jl hk;have:s'=4:=a4 _ (by rw [<-f5];exact XB.2 ⟨y,B,R⟩);subst this;exact⟨hk,hk.sJ A C rfl⟩
  have Z:((x.ks.map (br t)).map λk=>ρ.getD k.toNat v0)=kv X x:=by rw [Yr];apply XI;intro y B;exact(S y B).2.2.get
  obtain⟨n,n1,n2,n3⟩:=wr'.wd k d f2 (by rw [V];exact j) ((kv X x).map λv=>v.n);rw [V] at n1 n3;refine⟨l0 n 0 (s - 10).toNat, ?_, ?_⟩
  .rw [f1];refine RL.as (I1 (ar:=d.ar) (args:=(kv X x).map λv=>v.n) (g:=λb=>n.testBit b) (by rw [XQ];exact ok.kl) _ 0 m (λb _ hb=>⟨⟨dk.wd k d f2 (by rw [V];exact j) b (by rw [V];omega),dk.sw k b⟩,n3 b (by omega)⟩) ?_ ?_ (by rw [Z])) (JR n _ 0)
   .rw [<-f5,Yr];apply XI;intro y B;obtain⟨R,F,_⟩:=S y B;show σ.getD (br t y).toNat 0=_;rw [F.getD,jl R]
   .intro y B;obtain⟨z,hz,rfl⟩:=XB.1 B;have F:=(S z hz).2.1;exact⟨F.1,F.lt⟩
  .rw [O,LP n1];show some (W0 x.nm ((kv X x).map λv=>v.n))=_;rw [<-f3,n2]
 rw [if_neg O];by_cases c7:x.op=7
 .rw [if_pos c7];obtain⟨a,b,d,e,k1,k2,k3⟩:=ok.c7 c7;obtain⟨z,hz,hz2⟩:=k1.AZ A C;obtain⟨f,l,o,r⟩:=k2.oh A C j;obtain⟨cs,E,U,d3⟩:=k3.oh A C j;refine⟨bif z then f else cs, ?_, ?_⟩
  .rw [e];show RL P D W1 σ ρ (aX (dv (br t a)) M (aJ t b) (aJ t d)) _;exact RL.as (BT (g:=λb c=>bif z then b else c) (Q:=λσ ρ =>dD σ ρ (br t a) z) (λ_ _ _ _ p q h=>h.mono p q) (λM σ ρ y y' b c G hq h w=>SU G hq h w) m hz l E) (LV (by omega))
  .rw [c7,Ir e];show some (if iM (xK X a)=true then xK X b else xK X d)=_;rw [hz2,nS,o,U];cases z <;> rfl
 rw [if_neg c7];by_cases fm:x.op=15
 .rw [if_pos fm];obtain⟨e,R,F,h3,h4,h5⟩:=ok.fm fm;obtain⟨n,T⟩:=Zm h3;have H:n < 2 ^ x.d.toNat:=by rw [T] at h4;exact_mod_cast h4
  have hn3:n < 256:=X5 H (Y2 (by decide) (by omega:x.d.toNat<=8): 2 ^ x.d.toNat<=2 ^ 8);refine⟨l0 n 0 x.d.toNat,RL.as (Fj _ _ m) ?_, ?_⟩
  .rw [T,Fm hn3 _ 0 (by omega)]
  .have hb:jH (c.ss.take i) s x.ks=x.d:=by rw [e,h5];show 10+x.d - 10=x.d;omega
   have hkv:kv X x= []:=by unfold kv;rw [e];rfl
   have ew:=vV (W:=W0) Y (op:=15) (n:=x.n) (d:=x.d) (b:=x.d) (nm:=x.nm) (ks:= []) (by omega) (by omega) rfl (by intro v u;cases u) (show 0<=x.n/\x.n < pw x.d from⟨h3,by unfold pw;exact h4⟩);rw [hb,hkv,fm,ew,LP H,T];rfl
 rw [if_neg fm];by_cases eA:x.op=16
 .rw [if_pos eA];obtain⟨_,a,e,k1⟩:=ok.eA (.inl eA);obtain⟨f,l,o,r⟩:=k1.oh A C j;refine⟨f.map (!·),by rw [one e];exact Jc m l, ?_⟩;have ew:=vV (W:=W0) Y (op:=16) (n:=x.n) (d:=x.d) (b:=s - 10) (nm:=x.nm) (ks:= [xK X a]) (by omega) (by omega) rfl (by intro v u;rw [Xi] at u;rw [u,o];exact uY r) (show x.n=0 from CR (qG I).2.1 (by omega) (by omega) (by omega) (by omega));rw [eA,EY k1 j e,Iq e,ew];show some (fT ((-1 - (xK X a).n) % pw (s - 10)))=_;rw [o,wZ r];have R:=LR f;have F:=uZ (f.map (!·));rw [XQ] at F;show some (fT ((-1 - (wv f:Int)) % ((2 ^ f.length:Nat):Int)))=_;have e1:(-1 - (wv f:Int))= ((wv (f.map (!·)):Nat):Int)+ ((2 ^ f.length:Nat):Int) * (-1):=by omega
  rw [e1,aaa,ZP (by omega) (by omega)]
 rw [if_neg eA];by_cases bK:x.op=23
 .rw [if_neg (by omega),if_neg (by omega),if_neg (by omega),if_neg (by omega),if_neg (by omega)];obtain⟨_,a,e,k1⟩:=ok.eA (.inr bK);obtain⟨f,l,o,r⟩:=k1.oh A C j;obtain⟨n,T⟩:=Zm (ok.bK bK).1;refine⟨iN f x.n 0 f.length,by rw [one e];exact Cz (ok.bK bK).1 m l, ?_⟩;have ew:=vV (W:=W0) Y (op:=23) (n:=x.n) (d:=x.d) (b:=s - 10) (nm:=x.nm) (ks:= [xK X a]) (by omega) (by omega) rfl (by intro v u;rw [Xi] at u;rw [u,o];exact uY r) (show 0<=x.n/\x.n<=8 from ok.bK bK);rw [bK,EY k1 j e,Iq e,ew];show some (fT (((xK X a).n * 2 ^ x.n.toNat) % pw (s - 10)))=_;rw [o,wZ r,T];show some (fT (((wv f:Int) * 2 ^ ((n:Int)).toNat) % ((2 ^ f.length:Nat):Int)))=_;rw [Ec,<-CV,Xv];simp
 have hr: 17<=x.op/\x.op<=21:=by
  rcases Zt (17<=x.op/\x.op<=21) with h | h
  .exact h
  exfalso;have:=ok.op;by_cases c8:x.op=8
  .rw [(ok.c8 c8).1] at j;cases j
  by_cases dT:x.op=22
  .rw [(ok.dT dT).1] at j;cases j
  have:=(ok.pl c7 c8 (by omega)).1 O;rw [this] at j;cases j
 obtain⟨_,a,b,e,k1,k2⟩:=ok.gA hr.1 hr.2;obtain⟨f,l,o,r⟩:=k1.oh A C j;obtain⟨cs,E,U,d3⟩:=k2.oh A C j;have hl:f.length=cs.length:=by omega
 have hn1:(xK X a).n= (wv f:Int):=by rw [o];rfl
 have H:(xK X b).n= (wv cs:Int):=by rw [U];rfl
 have key:∀{v:Int} {J:List Bool},iD x.op (s - 10) [(wv f:Int),(wv cs:Int)] x.n=v->fT v=fT (wv J:Int)->dM P W0 x.op x.n x.d x.nm (kv X x) (jH (c.ss.take i) s x.ks)=some (fT (wv J:Int)):=λ{v J} h w=>by
  have hin:∀v∈[xK X a,xK X b],0<=v.n/\v.n < pw (s - 10):=by
   intro v u;simp only [Xl,Yj,or_false] at u;rcases u with rfl | rfl
   .rw [o];exact uY r
   .rw [U];exact uY d3
  have hfit:xA x.op (s - 10) x.n:=by unfold xA;rw [if_neg (by omega),if_neg (by omega)];exact CR (qG I).2.1 (by omega) (by omega) (by omega) (by omega)
  have hops:(([xK X a,xK X b]:List Vv).length:Int)=wT x.op:=by unfold wT;rw [if_neg (by omega),if_neg (by omega)];rfl
  have ew:=vV (W:=W0) Y (op:=x.op) (n:=x.n) (d:=x.d) (b:=s - 10) (nm:=x.nm) (ks:= [xK X a,xK X b]) (by omega) (by omega) hops hin hfit;rw [EZ k1 k2 j e,Cw e,ew];show some (fT (iD x.op (s - 10) [(xK X a).n,(xK X b).n] x.n))=_;rw [hn1,H,h,w]
 rw [two0 e,two1 e];by_cases gA:x.op=17
 .rw [if_pos gA];refine⟨_,yE (g:=(· && ·)) (λM σ ρ y y' b c G h w=>rG G h w) m l E,key (v:=((wv f &&& wv cs:Nat):Int)) ?_ (by rw [WU hl])⟩;rw [gA];rfl
 rw [if_neg gA];by_cases K:x.op=18
 .rw [if_pos K];refine⟨_,yE (g:=(· || ·)) (λM σ ρ y y' b c G h w=>C0 G h w) m l E,key (v:=((wv f ||| wv cs:Nat):Int)) ?_ (by rw [WV hl])⟩;rw [K];rfl
 rw [if_neg K];by_cases L:x.op=19
 .rw [if_pos L];refine⟨_,yE (g:=(· ^^ ·)) (λM σ ρ y y' b c G h w=>Ef G h w) m l E,key (v:=((wv f ^^^ wv cs:Nat):Int)) ?_ (by rw [WY hl])⟩;rw [L];rfl
 rw [if_neg L];by_cases N:x.op=20
 .rw [if_pos N];refine⟨_,K0 m l E,key (v:=((wv f:Int)+ (wv cs:Int)) % pw (s - 10)) ?_ ?_⟩
  .rw [N];rfl
  .rw [Ed hl,wZ r,<-CV,aao,aao];simp [bN]
 rw [if_neg N,if_pos (by omega)];have c21:x.op=21:=by omega
 refine⟨_,Vq m l E,key (v:=((wv f:Int) * (wv cs:Int)) % pw (s - 10)) ?_ ?_⟩
 .rw [c21];rfl
 .rw [WX hl.symm,wZ r,<-CV,Int.natCast_mul]
theorem MN(ok:ov c i x 1)(A:Wr c.ds c.p W0 W1)(o:pS c i x 1)(r:cJ c t M i)(u:Lv c t σ ρ X i)(ho:x.op < 15\/23 < x.op){b:Int}{v:Vv}(j:dM P W0 x.op x.n x.d x.nm (kv X x) b=some v):∃z,v=bP z:=by
 have l:x.op≠9->(1:Int)=be x.op x.d (x.ks.map λk=>(c.ss.take i).getD k.toNat 0) [] 0:=λK=>by
  have h:bX c.ds x (i:Int) (c.ss.take i)= (1,0):=o;unfold bX at h;split at h
  .simp at h
  split at h
  .simp at h
  obtain⟨_,_,_,w,_⟩:=l7 (by rw [h]);rw [h] at w;exact w
 have f:∀{z:Bool},some (bP z)=some v->∃z,v=bP z:=λ{z} h=>⟨z,by simpa using h.symm⟩;have q:=ok.op;rcases ux q with e | e | e | e | e | e | e | e | e | e | e | e | e | e | e | e | e | e | e | e | e | e | e | e | e
 .rw [e] at j;exact f j
 .rw [e] at j;exact f j
 .rw [e] at j;exact f j
 .rw [e] at j;exact f j
 .rw [e] at j;exact f j
 .rw [e] at j;exact f j
 .rw [e] at j;obtain⟨a,b,d,B,k1,k2,k3⟩:=ok.c7 e;obtain⟨z,_,m⟩:=k2.AZ r u;obtain⟨y,_,G⟩:=k3.AZ r u;rw [Ir B] at j;replace j:some (if iM (xK X a)=true then xK X b else xK X d)=some v:=j;rw [m,G] at j;split at j
  .exact f j
  .exact f j
 .rw [e] at j;exact f j
 .obtain⟨k,d,H,C,E,F,I,J⟩:=oV o e (by decide);rw [e] at j;replace j:some (W0 x.nm ((kv X x).map λv=>v.n))=some v:=j;obtain⟨z,m⟩:=A.bo d (Xg C) F ((kv X x).map λv=>v.n);rw [E] at m;rw [m] at j;exact f j
 .have g:=l (by omega);rw [e] at g;replace g:(1:Int)=if x.d=1 then 2 else 3:=g;split at g <;> simp at g
 .have g:=l (by omega);rw [e] at g;replace g:(1:Int)=if(List.all _ pN)=true then(if(List.all _ pI)=true then 2 else 3) else 0:=g;split at g
  .split at g <;> simp at g
  .simp at g
 .have g:=l (by omega);rw [e] at g;replace g:(1:Int)=if pN _=true then(if _/\x.d=1 then 2 else 3) else 0:=g;split at g
  .split at g <;> simp at g
  .simp at g
 .rw [e] at j;exact f j
 .rw [e] at j;exact f j
 iterate 9 omega
 .have g:=l (by omega);rw [e] at g;replace g:(1:Int)=if(x.ks.map λk=>(c.ss.take i).getD k.toNat 0)= [5,4] then 4 else 0:=g;split at g <;> simp at g
 .have g:=l (by omega);rw [e] at g;replace g:(1:Int)=if(x.ks.map λk=>(c.ss.take i).getD k.toNat 0)= [5,4,4] then 5 else 0:=g;split at g <;> simp at g
theorem SW(hP:tf P)(dk:qZ c.ds D c.p)(T:Wr c.ds c.p W0 W1)(ok:ov c i x s)(o:pS c i x s)(l:aG s=false)(j:cJ c t M i)(r:Lv c t σ ρ X i)(m:Mv P D W1 M σ ρ){v:Vv}(f:dM P W0 x.op x.n x.d x.nm (kv X x) (jH (c.ss.take i) s x.ks)=some v):
  RV P D W1 σ ρ (hH t M x) s v/\(s=1->∃z,v=bP z):=by
 obtain⟨C,B,Z⟩:=qG o;have K:∀{a b:Int},x.ks= [a,b]->x.ks.getD 0 0=a:=λh=>by rw [h];rfl
 have L:∀{a b:Int},x.ks= [a,b]->x.ks.getD 1 0=b:=λh=>by rw [h];rfl
 have R:x.op≠9->s=be x.op x.d (x.ks.map λk=>(c.ss.take i).getD k.toNat 0) [] 0:=λh9=>by
  have h:bX c.ds x (i:Int) (c.ss.take i)= (s,0):=o;unfold bX at h;split at h
  .simp at h
  split at h
  .simp at h
  obtain⟨_,_,_,q4,_⟩:=l7 (by rw [h]);rw [h] at q4;exact q4
 have rb:∀{p:Int×Mk} {z:Bool},RB P D W1 σ ρ p z->v=bP z->s=1->RV P D W1 σ ρ p s v/\(s=1->∃z,v=bP z):=λ{p z} h hz hs=>by subst hs hz;obtain⟨σ',ρ',m',p',q',h'⟩:=h;exact⟨⟨σ',ρ',m',p',q',h'.s,h'.v⟩,λ_=>⟨z,rfl⟩⟩
 have w:(∀k∈x.ks,∃s',KW c i k s'/\aG s'=false)->(x.op < 15\/23 < x.op)->RV P D W1 σ ρ (dC M x.op x.nm x.n x.d (x.ks.map (br t))) s v/\(s=1->∃z,v=bP z):=λA ho=>by
  have S:s=1->∃z,v=bP z:=λe=>by subst e;exact MN ok T o j r ho f
  have Q:((x.ks.map (br t)).map λk=>ρ.getD k.toNat v0)=kv X x:=by rw [Yr];apply XI;intro y J;obtain⟨s',q,E⟩:=A y J;exact(q.sJ j r E).2.get
  refine⟨JO m ⟨?_,l,ho, ?_⟩ ?_ S,S⟩
  .refine CT o C rfl ?_ rfl rfl rfl ?_ ?_
   .show(x.ks.map (br t)).map _=_;rw [Yr];apply XI;intro y J;obtain⟨s',q,E⟩:=A y J;show σ.getD (br t y).toNat 0=_;rw [(q.sJ j r E).1.getD,jl q]
   .intro k hk';obtain⟨y,J,rfl⟩:=XB.1 (show k∈x.ks.map (br t) from hk');obtain⟨s',q,E⟩:=A y J;exact⟨(q.sJ j r E).1.1,(q.sJ j r E).1.lt⟩
   .intro u _ hso;obtain⟨k,d,f1,G,H,I,f5,Y⟩:=oV o u C;have:=dk.pl d (Xg G) (by rw [I];exact l);rw [H,I] at this;rw [Y];exact this
  .by_cases u:x.op=9
   .obtain⟨k,d,f1,G,H,I,f5,Y⟩:=oV o u C;have:=dk.sp d (Xg G);rw [H] at this;exact this
   .rcases(yS B Z).2.2 with e | e
    .show jB x.nm;rw [e];exact qF
    .exact absurd e u
  .rw [Q];by_cases u:x.op=9
   .obtain⟨k,d,f1,G,H,I,f5,Y⟩:=oV o u C;rw [u] at f⊢;replace f:some (W0 x.nm ((kv X x).map λv=>v.n))=some v:=f;show some (W1 x.nm ((kv X x).map λv=>v.n))=some v;have:=T.pl d (Xg G) (by rw [I];exact l) ((kv X x).map λv=>v.n);rw [H] at this;rw [this];exact f
   .have e1:dM P W1 x.op x.n x.d x.nm (kv X x) 0=dM P W0 x.op x.n x.d x.nm (kv X x) 0:=by
     unfold dM;simp only [if_neg u]
    rw [e1,Hb (b':=jH (c.ss.take i) s x.ks) ho ok.op];exact f
 unfold hH;by_cases dT:x.op=22
 .rw [if_pos dT];obtain⟨_,a,b,s',g,e,k1,k2⟩:=ok.dT dT;have hs:s=1:=by
   have:=R (by omega);rw [dT,e] at this;simp only [Xq,XY,jl k1,jl k2] at this;rw [this];simp [be,g]
  obtain⟨F,U,N,b3⟩:=k1.oh j r g;obtain⟨cs,V,O,d3⟩:=k2.oh j r g;rw [K e,L e];refine rb (QA m U V) ?_ hs;have hwl:=gP g;have hin:∀v∈[xK X a,xK X b],0<=v.n/\v.n < pw (s' - 10):=by
   intro v f;simp only [Xl,Yj,or_false] at f;rcases f with rfl | rfl
   .rw [N];exact uY b3
   .rw [O];exact uY d3
  have ew:=vV (W:=W0) hP (op:=22) (n:=x.n) (d:=x.d) (b:=s' - 10) (nm:=x.nm) (ks:= [xK X a,xK X b]) (by omega) (by omega) rfl hin (show x.n=0 from CR B (by omega) (by omega) (by omega) (by omega));rw [dT,EZ k1 k2 g e,Cw e,ew] at f;replace f:some (fT (if(xK X a).n < (xK X b).n then 1 else 0))=some v:=f;rw [show(xK X a).n= (wv F:Int) by rw [N];rfl,show(xK X b).n= (wv cs:Int) by rw [O];rfl] at f;simp only [W5] at f;rw [<-f,LQ (by omega),X4,ZR];by_cases hl:wv F < wv cs
  .rw [if_pos (by omega),decide_eq_true hl];rfl
  .rw [if_neg (by omega),decide_eq_false hl];rfl
 rw [if_neg dT];by_cases c8:x.op=8
 .obtain⟨_,a,b,s',e,h⟩:=ok.c8 c8;rw [K e,L e];rcases h with⟨g,k1,k2⟩ | h
  .have hl:=(k1.word j g).2.1;have q:=gP g;rw [if_pos ⟨c8,zr (by omega)⟩];have hs:s=1:=by
    have:=R (by omega);rw [c8,e] at this;simp only [Xq,XY,jl k1,jl k2] at this;rw [this];simp [be,g]
   obtain⟨F,U,N,b3⟩:=k1.oh j r g;obtain⟨cs,V,O,d3⟩:=k2.oh j r g;refine rb (UR m U V) ?_ hs;rw [c8,Cw e] at f;replace f:some (bP ((xK X a).n== (xK X b).n && (xK X a).d== (xK X b).d))=some v:=f;rw [N,O] at f;replace f:some (bP ((wv F:Int)== (wv cs:Int) && (1:Int)==1))=some v:=f;simp only [W5] at f;rw [<-f,LS (by omega)];congr 1;by_cases he:wv F=wv cs
   .rw [he];simp
   .rw [decide_eq_false he];simp;omega
  .obtain⟨s1,k1,hw1⟩:=h a (by rw [e];exact W7);have hb:aJ t a= []:=by
    have:=(k1.plain j hw1).1;unfold aJ;rw [Xa,this];rfl
   rw [if_neg (by rw [hb];simp)];exact w h (by omega)
 rw [if_neg (by omega)];by_cases c7:x.op=7
 .obtain⟨a,b,d,e,k1,k2,k3⟩:=ok.c7 c7;refine w (λk A=> ?_) (by omega);rw [e] at A;simp only [Xl,Yj,or_false] at A;rcases A with rfl | rfl | rfl
  .exact⟨1,k1,rfl⟩
  .exact⟨s,k2,l⟩
  .exact⟨s,k3,l⟩
 have hr:x.op < 15\/24<=x.op:=by
  rcases Zt (x.op < 15\/24<=x.op) with h | h
  .exact h
  exfalso;by_cases fm:x.op=15
  .have:=ok.fm fm;have q:aG s=true:=by unfold aG;simp;omega
   rw [q] at l;cases l
  by_cases eA:x.op=16\/x.op=23
  .rw [(ok.eA eA).1] at l;cases l
  rw [(ok.gA (by omega) (by omega)).1] at l;cases l
 exact w (ok.pl c7 c8 hr).2 (by omega)
end
end Go.Aev.Gen
