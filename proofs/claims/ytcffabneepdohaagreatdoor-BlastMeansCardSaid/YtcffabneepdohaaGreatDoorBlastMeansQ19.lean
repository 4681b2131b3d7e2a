import Derived.Test.YtcffabneepdohaaGreatDoorBlastMeansQ18
set_option linter.all false
namespace Go.Aev.Gen
open Go Go.Aev
def pw(b:Int):Int:=2 ^ b.toNat
def iA(o b:Int)(ks:List Int)(n:Int):Int:=
 let a:=ks.getD 0 0;let k1:=ks.getD 1 0
 if o=16 then(-1 - a) % pw b
 else if o=17 then((a.toNat &&& k1.toNat:Nat):Int)
 else if o=18 then((a.toNat ||| k1.toNat:Nat):Int)
 else if o=19 then((a.toNat ^^^ k1.toNat:Nat):Int)
 else if o=20 then(a+k1) % pw b
 else if o=21 then(a * k1) % pw b
 else if o=23 then(a * 2 ^ n.toNat) % pw b
 else if o=22 then(if a < k1 then 1 else 0)
 else n
def jF(ss:List Int)(s:Int)(ks:List Int):Int:=ks.foldl (λb k=>if aE (ss.getD k.toNat 0)=true then ss.getD k.toNat 0 - 10 else b) (s - 10)
structure Wr (ds:List Dc) (p:ByteArray) (W0 W1:Wd):Prop where
 pl:∀d∈ds,aE d.so=false->∀x,W1 d.nm x=W0 d.nm x
 wd:∀(k:Nat) (d:Dc),ds[k]? =some d->aE d.so=true->∀x,∃n:Nat,n < 2 ^ (d.so - 10).toNat/\W0 d.nm x=fK (n:Int)/\∀b:Nat,b < (d.so - 10).toNat->W1 (p++it (k:Int)++us++it (b:Int)) x=bM (n.testBit b)
 bo:∀d∈ds,d.so=1->∀x,∃b,W0 d.nm x=bM b
structure Lv (c:Cx) (t:Tr) (σ:List Int) (ρ:List Vv) (X:List Vv) (i:Nat):Prop where
 l:X.length=i
 w:∀(k:Nat) (s:Int),k < i->c.ss[k]? =some s->aE s=true->∀l,t.bits[k]? =some l->∃bs,BL σ ρ l bs/\X[k]? =some (fK (wv bs:Int))
 p:∀(k:Nat) (s:Int),k < i->c.ss[k]? =some s->aE s=false->∀v,t.to[k]? =some v->bD σ v s/\∃u,X[k]? =some u/\iQ ρ v u
 b:∀(k:Nat),k < i->c.ss[k]? =some 1->∃z,X[k]? =some (bM z)
theorem Lv.mono{c:Cx}{t:Tr}{σ a:List Int}{ρ ρ' X:List Vv}{i:Nat}(h:Lv c t σ ρ X i)(p:σ <+:a)(q:ρ <+:ρ'):Lv c t a ρ' X i:=
 ⟨h.l,λk s e f g l j=>by obtain⟨m,g1,d⟩:=h.w k s e f g l j;exact⟨m,g1.mono p q,d⟩,
  λk s e f g v j=>by obtain⟨g1,u,d,n⟩:=h.p k s e f g v j;exact⟨g1.mono p,u,d,n.mono q⟩,h.b⟩
abbrev xK(X:List Vv)(k:Int):Vv:=X.getD k.toNat v0
theorem DL{X:List Vv}{k:Int}{v:Vv}(h:X[k.toNat]? =some v):xK X k=v:=by unfold xK;rw [Wp,h];rfl
theorem KW.n9{c:Cx}{t:Tr}{M:Mk}{σ:List Int}{ρ X:List Vv}{i:Nat}{k s:Int}(h:KW c i k s)(e:cG c t M i)(g:Lv c t σ ρ X i)(b:aE s=true):∃a,BL σ ρ (aG t k) a/\xK X k=fK (wv a:Int)/\(a.length:Int)=s - 10:=by obtain⟨a,d,f⟩:=g.w k.toNat s (by have:=h.h0;have:=h.lt;omega) h.so b _ (h.word e b).1;exact⟨a,d,DL f,by rw [<-d.len];exact(h.word e b).2.1⟩
theorem KW.sd{c:Cx}{t:Tr}{M:Mk}{σ:List Int}{ρ X:List Vv}{i:Nat}{k s:Int}(h:KW c i k s)(f:cG c t M i)(g:Lv c t σ ρ X i)(a:aE s=false):bD σ (bp t k) s/\iQ ρ (bp t k) (xK X k):=by obtain⟨b,u,d,e⟩:=g.p k.toNat s (by have:=h.h0;have:=h.lt;omega) h.so a _ (h.plain f a).2.1;rw [DL d];exact⟨b,e⟩
theorem KW.Aw{c:Cx}{t:Tr}{M:Mk}{σ:List Int}{ρ X:List Vv}{i:Nat}{k:Int}(h:KW c i k 1)(f:cG c t M i)(d:Lv c t σ ρ X i):∃z,dB σ ρ (bp t k) z/\xK X k=bM z:=by obtain⟨g1,a⟩:=h.sd f d rfl;obtain⟨z,g⟩:=d.b k.toNat (by have:=h.h0;have:=h.lt;omega) h.so;have e:=DL g;rw [e] at a;exact⟨z,⟨g1,a⟩,e⟩
theorem GG{P:Pm}{W:Wd}{op n d:Int}{nm:ByteArray}{ks:List Vv}{b b':Int}(h:op < 15\/23 < op)(a: 1<=op/\op<=25):dK P W op n d nm ks b=dK P W op n d nm ks b':=by unfold dK;rcases tZ a with rfl | rfl | rfl | rfl | rfl | rfl | rfl | rfl | rfl | rfl | rfl | rfl | rfl | rfl | rfl | rfl | rfl | rfl | rfl | rfl | rfl | rfl | rfl | rfl | rfl <;> first | rfl | omega
def wD(o:Int):Int:=if o=15 then 0 else if o=16\/o=23 then 1 else 2
def xk(o b n:Int):Prop:=if o=15 then 0<=n/\n < pw b else if o=23 then 0<=n/\n<=8 else n=0
def sR(P:Pm):Prop:= ∀(o b:Int) (ks:List Int) (n:Int),15<=o/\o<=23->1<=b/\b<=8->(ks.length:Int)=wD o->(∀k∈ks,0<=k/\k < pw b)->xk o b n->P.word o b ks n=iA o b ks n
theorem vG{P:Pm}{W:Wd}(e:sR P){op n d b:Int}{nm:ByteArray}{ks:List Vv}(h: 15<=op/\op<=23)(f: 1<=b/\b<=8)(hl:(ks.length:Int)=wD op)(j:∀v∈ks,0<=v.n/\v.n < pw b)(g:xk op b n):dK P W op n d nm ks b=some (fK (iA op b (ks.map λv=>v.n) n)):=by unfold dK;rw [if_neg (by omega),if_neg (by omega),if_neg (by omega),if_neg (by omega),if_neg (by omega),if_neg (by omega),if_neg (by omega),if_neg (by omega),if_neg (by omega),if_neg (by omega),if_neg (by omega),if_neg (by omega),if_neg (by omega),if_neg (by omega),e op b _ n h f (by rw [W6];exact hl) (λk a=>by obtain⟨v,l,rfl⟩:=WU.1 a;exact j v l) g]
theorem Ss{s:Int}:pw (s - 10)= ((2 ^ (s - 10).toNat:Nat):Int):=by simp [pw]
theorem PX{a:List Bool}{s:Int}(h:(a.length:Int)=s - 10):(s - 10).toNat=a.length:=by omega
theorem Jl(n:Nat):∀(k b:Nat),(List.range' b k).map (λc=>n.testBit c)=l5 n b k
 | 0,_=>rfl
 | k+1,b=>by rw [Yk,WL,l5,Jl n k (b+1)]
theorem Lh{z:Bool}:∀{a cs:List Bool},a.length=cs.length->List.zipWith (λb c=>bif z then b else c) a cs=bif z then a else cs
 | [],[],_=>by cases z <;> rfl
 | [],_::_,h=>by simp at h
 | _::_,[],h=>by simp at h
 | b::a,c::cs,h=>by rw [Y6,Lh (by simpa using h)];cases z <;> rfl
theorem LV{n:Nat}{b:Nat}(d:n < 256)(a:b < 8):jE (n:Int) b=n.testBit b:=by
 have:∀x:_root_.Fin 256,∀b:_root_.Fin 8,jE ((x.val:Nat):Int) b.val=x.val.testBit b.val:=by decide+kernel
 exact this ⟨n,d⟩ ⟨b,a⟩
theorem ES{n:Nat}(a:n < 256):∀(k b:Nat),b+k<=8->vq (n:Int) b k=l5 n b k
 | 0,_,_=>rfl
 | k+1,b,h=>by rw [vq,l5,LV a (by omega),ES a k (b+1) (by omega)]
theorem Cu{x y:Nat}:fK ((x:Int) % ((y:Nat):Int))=fK ((x % y:Nat):Int):=by rw [Int.natCast_emod]
open Go Go.Aev
section
variable {P:Pm} {c:Cx} {D:List Dc} {W0 W1:Wd} {t:Tr} {M:Mk} {σ:List Int} {ρ X:List Vv} {i:Nat} {x:Nd} {s:Int}
abbrev kv(X:List Vv)(x:Nd):List Vv:=x.ks.map λk=>X.getD k.toNat v0
theorem HO{a:Int}(e:x.ks= [a]):kv X x= [xK X a]:=by unfold kv;rw [e];rfl
theorem B5{a b:Int}(e:x.ks= [a,b]):kv X x= [xK X a,xK X b]:=by unfold kv;rw [e];rfl
theorem HP{a b d:Int}(e:x.ks= [a,b,d]):kv X x= [xK X a,xK X b,xK X d]:=by unfold kv;rw [e];rfl
theorem Et{a:Int}(k1:KW c i a s)(b:aE s=true)(e:x.ks= [a]):jF (c.ss.take i) s x.ks=s - 10:=by rw [e];show(if aE ((c.ss.take i).getD a.toNat 0)=true then(c.ss.take i).getD a.toNat 0 - 10 else s - 10)=s - 10;rw [jh k1,if_pos b]
theorem Eu{a b s':Int}(k1:KW c i a s')(k2:KW c i b s')(d:aE s'=true)(e:x.ks= [a,b]):jF (c.ss.take i) s x.ks=s' - 10:=by rw [e];show(if aE ((c.ss.take i).getD b.toNat 0)=true then(c.ss.take i).getD b.toNat 0 - 10 else _)=s' - 10;rw [jh k2,if_pos d]
theorem wJ{a:List Bool}{s:Int}(h:(a.length:Int)=s - 10):pw (s - 10)= ((2 ^ a.length:Nat):Int):=by rw [Ss,PX h]
theorem uL{a:List Bool}{s:Int}(h:(a.length:Int)=s - 10): 0<=(fK (wv a:Int)).n/\(fK (wv a:Int)).n < pw (s - 10):=by rw [wJ h];have:=xe a;exact⟨by show(0:Int)<=(wv a:Int);omega,by show(wv a:Int) < _;omega⟩
theorem Cq(h:gg x=true)(a:x.op≠10)(b:x.op≠12)(d:x.op≠15)(e:x.op≠23):x.n=0:=by unfold gg at h;simp only [Ww,Xf,beq_iff_eq] at h;omega
theorem VX(Y:sR P)(dk:qH c.ds D c.p)(wr':Wr c.ds c.p W0 W1)(ok:oe c i x s)(I:py c i x s)(j:aE s=true)(A:cG c t M i)(C:Lv c t σ ρ X i)(m:Mv P D W1 M σ ρ):
  ∃f,RL P D W1 σ ρ (gq c t M x s) f/\dK P W0 x.op x.n x.d x.nm (kv X x) (jF (c.ss.take i) s x.ks)=some (fK (wv f:Int)):=by
 have hs0:=(qn I).1;have hwl:=gL j;have one:∀{a:Int},x.ks= [a]->x.ks.getD 0 0=a:=λh=>by rw [h];rfl
 have two0:∀{a b:Int},x.ks= [a,b]->x.ks.getD 0 0=a:=λh=>by rw [h];rfl
 have two1:∀{a b:Int},x.ks= [a,b]->x.ks.getD 1 0=b:=λh=>by rw [h];rfl
 unfold gq;by_cases O:x.op=9
 .rw [if_pos O];obtain⟨k,d,f1,f2,f3,V,f5,f6⟩:=oL I O hs0;have hd:d∈c.ds:=Wx f2;obtain⟨a1,a4⟩:=dk.a4 d hd;have S:∀y∈x.ks,KW c i y 4/\bD σ (bp t y) 4/\iQ ρ (bp t y) (xK X y):=λy B=>by
   obtain⟨s',hk⟩:=ok.k y B;have R:=jh hk;have:s'=4:=a4 _ (by rw [<-f5];exact WU.2 ⟨y,B,R⟩);subst this;exact⟨hk,hk.sd A C rfl⟩
  have Z:((x.ks.map (bp t)).map λk=>ρ.getD k.toNat v0)=kv X x:=by rw [XW];apply W8;intro y B;exact(S y B).2.2.get
  obtain⟨n,n1,n2,n3⟩:=wr'.wd k d f2 (by rw [V];exact j) ((kv X x).map λv=>v.n);rw [V] at n1 n3;refine⟨l5 n 0 (s - 10).toNat, ?_, ?_⟩
  .rw [f1];refine RL.as (Iv (ar:=d.ar) (args:=(kv X x).map λv=>v.n) (g:=λb=>n.testBit b) (by rw [W6];exact ok.kl) _ 0 m (λb _ hb=>⟨⟨dk.wd k d f2 (by rw [V];exact j) b (by rw [V];omega),dk.sw k b⟩,n3 b (by omega)⟩) ?_ ?_ (by rw [Z])) (Jl n _ 0)
   .rw [<-f5,XW];apply W8;intro y B;obtain⟨R,F,_⟩:=S y B;show σ.getD (bp t y).toNat 0=_;rw [F.getD,jh R]
   .intro y B;obtain⟨z,hz,rfl⟩:=WU.1 B;have F:=(S z hz).2.1;exact⟨F.1,F.lt⟩
  .rw [O,Lb n1];show some (W0 x.nm ((kv X x).map λv=>v.n))=_;rw [<-f3,n2]
 rw [if_neg O];by_cases c7:x.op=7
 .rw [if_pos c7];obtain⟨a,b,d,e,k1,k2,k3⟩:=ok.c7 c7;obtain⟨z,hz,hz2⟩:=k1.Aw A C;obtain⟨f,l,o,r⟩:=k2.n9 A C j;obtain⟨cs,E,U,d3⟩:=k3.n9 A C j;refine⟨bif z then f else cs, ?_, ?_⟩
  .rw [e];show RL P D W1 σ ρ (aT (dt (bp t a)) M (aG t b) (aG t d)) _;exact RL.as (Bt (g:=λb c=>bif z then b else c) (Q:=λσ ρ =>dB σ ρ (bp t a) z) (λ_ _ _ _ p q h=>h.mono p q) (λM σ ρ y y' b c G hq h w=>Sg G hq h w) m hz l E) (Lh (by omega))
  .rw [c7,HP e];show some (if iJ (xK X a)=true then xK X b else xK X d)=_;rw [hz2,nO,o,U];cases z <;> rfl
 rw [if_neg c7];by_cases fh:x.op=15
 .rw [if_pos fh];obtain⟨e,R,F,h3,h4,h5⟩:=ok.fh fh;obtain⟨n,T⟩:=YE h3;have H:n < 2 ^ x.d.toNat:=by rw [T] at h4;exact_mod_cast h4
  have hn3:n < 256:=Xt H (YB (by decide) (by omega:x.d.toNat<=8): 2 ^ x.d.toNat<=2 ^ 8);refine⟨l5 n 0 x.d.toNat,RL.as (EO _ _ m) ?_, ?_⟩
  .rw [T,ES hn3 _ 0 (by omega)]
  .have hb:jF (c.ss.take i) s x.ks=x.d:=by rw [e,h5];show 10+x.d - 10=x.d;omega
   have hkv:kv X x= []:=by unfold kv;rw [e];rfl
   have ew:=vG (W:=W0) Y (op:=15) (n:=x.n) (d:=x.d) (b:=x.d) (nm:=x.nm) (ks:= []) (by omega) (by omega) rfl (by intro v u;cases u) (show 0<=x.n/\x.n < pw x.d from⟨h3,by unfold pw;exact h4⟩);rw [hb,hkv,fh,ew,Lb H,T];rfl
 rw [if_neg fh];by_cases dZ:x.op=16
 .rw [if_pos dZ];obtain⟨_,a,e,k1⟩:=ok.dZ (.inl dZ);obtain⟨f,l,o,r⟩:=k1.n9 A C j;refine⟨f.map (!·),by rw [one e];exact IG m l, ?_⟩;have ew:=vG (W:=W0) Y (op:=16) (n:=x.n) (d:=x.d) (b:=s - 10) (nm:=x.nm) (ks:= [xK X a]) (by omega) (by omega) rfl (by intro v u;rw [WA] at u;rw [u,o];exact uL r) (show x.n=0 from Cq (qn I).2.1 (by omega) (by omega) (by omega) (by omega));rw [dZ,Et k1 j e,HO e,ew];show some (fK ((-1 - (xK X a).n) % pw (s - 10)))=_;rw [o,wJ r];have R:=Ld f;have F:=xe (f.map (!·));rw [W6] at F;show some (fK ((-1 - (wv f:Int)) % ((2 ^ f.length:Nat):Int)))=_;have e1:(-1 - (wv f:Int))= ((wv (f.map (!·)):Nat):Int)+ ((2 ^ f.length:Nat):Int) * (-1):=by omega
  rw [e1,Zm,Y5 (by omega) (by omega)]
 rw [if_neg dZ];by_cases bH:x.op=23
 .rw [if_neg (by omega),if_neg (by omega),if_neg (by omega),if_neg (by omega),if_neg (by omega)];obtain⟨_,a,e,k1⟩:=ok.dZ (.inr bH);obtain⟨f,l,o,r⟩:=k1.n9 A C j;obtain⟨n,T⟩:=YE (ok.bH bH).1;refine⟨iK f x.n 0 f.length,by rw [one e];exact B7 (ok.bH bH).1 m l, ?_⟩;have ew:=vG (W:=W0) Y (op:=23) (n:=x.n) (d:=x.d) (b:=s - 10) (nm:=x.nm) (ks:= [xK X a]) (by omega) (by omega) rfl (by intro v u;rw [WA] at u;rw [u,o];exact uL r) (show 0<=x.n/\x.n<=8 from ok.bH bH);rw [bH,Et k1 j e,HO e,ew];show some (fK (((xK X a).n * 2 ^ x.n.toNat) % pw (s - 10)))=_;rw [o,wJ r,T];show some (fK (((wv f:Int) * 2 ^ ((n:Int)).toNat) % ((2 ^ f.length:Nat):Int)))=_;rw [DJ,<-Cu,WW];simp
 have hr: 17<=x.op/\x.op<=21:=by
  rcases YN (17<=x.op/\x.op<=21) with h | h
  .exact h
  exfalso;have:=ok.op;by_cases c8:x.op=8
  .rw [(ok.c8 c8).1] at j;cases j
  by_cases dP:x.op=22
  .rw [(ok.dP dP).1] at j;cases j
  have:=(ok.pl c7 c8 (by omega)).1 O;rw [this] at j;cases j
 obtain⟨_,a,b,e,k1,k2⟩:=ok.gy hr.1 hr.2;obtain⟨f,l,o,r⟩:=k1.n9 A C j;obtain⟨cs,E,U,d3⟩:=k2.n9 A C j;have hl:f.length=cs.length:=by omega
 have hn1:(xK X a).n= (wv f:Int):=by rw [o];rfl
 have H:(xK X b).n= (wv cs:Int):=by rw [U];rfl
 have key:∀{v:Int} {J:List Bool},iA x.op (s - 10) [(wv f:Int),(wv cs:Int)] x.n=v->fK v=fK (wv J:Int)->dK P W0 x.op x.n x.d x.nm (kv X x) (jF (c.ss.take i) s x.ks)=some (fK (wv J:Int)):=λ{v J} h w=>by
  have hin:∀v∈[xK X a,xK X b],0<=v.n/\v.n < pw (s - 10):=by
   intro v u;simp only [WC,XE,or_false] at u;rcases u with rfl | rfl
   .rw [o];exact uL r
   .rw [U];exact uL d3
  have hfit:xk x.op (s - 10) x.n:=by unfold xk;rw [if_neg (by omega),if_neg (by omega)];exact Cq (qn I).2.1 (by omega) (by omega) (by omega) (by omega)
  have hops:(([xK X a,xK X b]:List Vv).length:Int)=wD x.op:=by unfold wD;rw [if_neg (by omega),if_neg (by omega)];rfl
  have ew:=vG (W:=W0) Y (op:=x.op) (n:=x.n) (d:=x.d) (b:=s - 10) (nm:=x.nm) (ks:= [xK X a,xK X b]) (by omega) (by omega) hops hin hfit;rw [Eu k1 k2 j e,B5 e,ew];show some (fK (iA x.op (s - 10) [(xK X a).n,(xK X b).n] x.n))=_;rw [hn1,H,h,w]
 rw [two0 e,two1 e];by_cases gy:x.op=17
 .rw [if_pos gy];refine⟨_,yl (g:=(· && ·)) (λM σ ρ y y' b c G h w=>qV G h w) m l E,key (v:=((wv f &&& wv cs:Nat):Int)) ?_ (by rw [V8 hl])⟩;rw [gy];rfl
 rw [if_neg gy];by_cases K:x.op=18
 .rw [if_pos K];refine⟨_,yl (g:=(· || ·)) (λM σ ρ y y' b c G h w=>CA G h w) m l E,key (v:=((wv f ||| wv cs:Nat):Int)) ?_ (by rw [V9 hl])⟩;rw [K];rfl
 rw [if_neg K];by_cases L:x.op=19
 .rw [if_pos L];refine⟨_,yl (g:=(· ^^ ·)) (λM σ ρ y y' b c G h w=>DM G h w) m l E,key (v:=((wv f ^^^ wv cs:Nat):Int)) ?_ (by rw [Wc hl])⟩;rw [L];rfl
 rw [if_neg L];by_cases N:x.op=20
 .rw [if_pos N];refine⟨_,Ku m l E,key (v:=((wv f:Int)+ (wv cs:Int)) % pw (s - 10)) ?_ ?_⟩
  .rw [N];rfl
  .rw [DK hl,wJ r,<-Cu,Int.natCast_add,Int.natCast_add];simp [bN]
 rw [if_neg N,if_pos (by omega)];have c21:x.op=21:=by omega
 refine⟨_,UJ m l E,key (v:=((wv f:Int) * (wv cs:Int)) % pw (s - 10)) ?_ ?_⟩
 .rw [c21];rfl
 .rw [Wb hl.symm,wJ r,<-Cu,Int.natCast_mul]
theorem L7(ok:oe c i x 1)(A:Wr c.ds c.p W0 W1)(o:py c i x 1)(r:cG c t M i)(u:Lv c t σ ρ X i)(ho:x.op < 15\/23 < x.op){b:Int}{v:Vv}(j:dK P W0 x.op x.n x.d x.nm (kv X x) b=some v):∃z,v=bM z:=by
 have l:x.op≠9->(1:Int)=bc x.op x.d (x.ks.map λk=>(c.ss.take i).getD k.toNat 0) [] 0:=λK=>by
  have h:bU c.ds x (i:Int) (c.ss.take i)= (1,0):=o;unfold bU at h;split at h
  .simp at h
  split at h
  .simp at h
  obtain⟨_,_,_,w,_⟩:=l9 (by rw [h]);rw [h] at w;exact w
 have f:∀{z:Bool},some (bM z)=some v->∃z,v=bM z:=λ{z} h=>⟨z,by simpa using h.symm⟩;have q:=ok.op;rcases tZ q with e | e | e | e | e | e | e | e | e | e | e | e | e | e | e | e | e | e | e | e | e | e | e | e | e
 .rw [e] at j;exact f j
 .rw [e] at j;exact f j
 .rw [e] at j;exact f j
 .rw [e] at j;exact f j
 .rw [e] at j;exact f j
 .rw [e] at j;exact f j
 .rw [e] at j;obtain⟨a,b,d,B,k1,k2,k3⟩:=ok.c7 e;obtain⟨z,_,m⟩:=k2.Aw r u;obtain⟨y,_,G⟩:=k3.Aw r u;rw [HP B] at j;replace j:some (if iJ (xK X a)=true then xK X b else xK X d)=some v:=j;rw [m,G] at j;split at j
  .exact f j
  .exact f j
 .rw [e] at j;exact f j
 .obtain⟨k,d,H,C,E,F,I,J⟩:=oL o e (by decide);rw [e] at j;replace j:some (W0 x.nm ((kv X x).map λv=>v.n))=some v:=j;obtain⟨z,m⟩:=A.bo d (Wx C) F ((kv X x).map λv=>v.n);rw [E] at m;rw [m] at j;exact f j
 .have g:=l (by omega);rw [e] at g;replace g:(1:Int)=if x.d=1 then 2 else 3:=g;split at g <;> simp at g
 .have g:=l (by omega);rw [e] at g;replace g:(1:Int)=if(List.all _ pN)=true then(if(List.all _ pI)=true then 2 else 3) else 0:=g;split at g
  .split at g <;> simp at g
  .simp at g
 .have g:=l (by omega);rw [e] at g;replace g:(1:Int)=if pN _=true then(if _/\x.d=1 then 2 else 3) else 0:=g;split at g
  .split at g <;> simp at g
  .simp at g
 .rw [e] at j;exact f j
 .rw [e] at j;exact f j
 iterate 9 omega
 .have g:=l (by omega);rw [e] at g;replace g:(1:Int)=if(x.ks.map λk=>(c.ss.take i).getD k.toNat 0)= [5,4] then 4 else 0:=g;split at g <;> simp at g
 .have g:=l (by omega);rw [e] at g;replace g:(1:Int)=if(x.ks.map λk=>(c.ss.take i).getD k.toNat 0)= [5,4,4] then 5 else 0:=g;split at g <;> simp at g
theorem Si(hP:sR P)(dk:qH c.ds D c.p)(T:Wr c.ds c.p W0 W1)(ok:oe c i x s)(o:py c i x s)(l:aE s=false)(j:cG c t M i)(r:Lv c t σ ρ X i)(m:Mv P D W1 M σ ρ){v:Vv}(f:dK P W0 x.op x.n x.d x.nm (kv X x) (jF (c.ss.take i) s x.ks)=some v):
  RV P D W1 σ ρ (gZ t M x) s v/\(s=1->∃z,v=bM z):=by
 obtain⟨C,B,Z⟩:=qn o;have K:∀{a b:Int},x.ks= [a,b]->x.ks.getD 0 0=a:=λh=>by rw [h];rfl
 have L:∀{a b:Int},x.ks= [a,b]->x.ks.getD 1 0=b:=λh=>by rw [h];rfl
 have R:x.op≠9->s=bc x.op x.d (x.ks.map λk=>(c.ss.take i).getD k.toNat 0) [] 0:=λh9=>by
  have h:bU c.ds x (i:Int) (c.ss.take i)= (s,0):=o;unfold bU at h;split at h
  .simp at h
  split at h
  .simp at h
  obtain⟨_,_,_,q4,_⟩:=l9 (by rw [h]);rw [h] at q4;exact q4
 have rb:∀{p:Int×Mk} {z:Bool},RB P D W1 σ ρ p z->v=bM z->s=1->RV P D W1 σ ρ p s v/\(s=1->∃z,v=bM z):=λ{p z} h hz hs=>by subst hs hz;obtain⟨σ',ρ',m',p',q',h'⟩:=h;exact⟨⟨σ',ρ',m',p',q',h'.s,h'.v⟩,λ_=>⟨z,rfl⟩⟩
 have w:(∀k∈x.ks,∃s',KW c i k s'/\aE s'=false)->(x.op < 15\/23 < x.op)->RV P D W1 σ ρ (dA M x.op x.nm x.n x.d (x.ks.map (bp t))) s v/\(s=1->∃z,v=bM z):=λA ho=>by
  have S:s=1->∃z,v=bM z:=λe=>by subst e;exact L7 ok T o j r ho f
  have Q:((x.ks.map (bp t)).map λk=>ρ.getD k.toNat v0)=kv X x:=by rw [XW];apply W8;intro y J;obtain⟨s',q,E⟩:=A y J;exact(q.sd j r E).2.get
  refine⟨Ji m ⟨?_,l,ho, ?_⟩ ?_ S,S⟩
  .refine Cs o C rfl ?_ rfl rfl rfl ?_ ?_
   .show(x.ks.map (bp t)).map _=_;rw [XW];apply W8;intro y J;obtain⟨s',q,E⟩:=A y J;show σ.getD (bp t y).toNat 0=_;rw [(q.sd j r E).1.getD,jh q]
   .intro k hk';obtain⟨y,J,rfl⟩:=WU.1 (show k∈x.ks.map (bp t) from hk');obtain⟨s',q,E⟩:=A y J;exact⟨(q.sd j r E).1.1,(q.sd j r E).1.lt⟩
   .intro u _ hso;obtain⟨k,d,f1,G,H,I,f5,Y⟩:=oL o u C;have:=dk.pl d (Wx G) (by rw [I];exact l);rw [H,I] at this;rw [Y];exact this
  .by_cases u:x.op=9
   .obtain⟨k,d,f1,G,H,I,f5,Y⟩:=oL o u C;have:=dk.sp d (Wx G);rw [H] at this;exact this
   .rcases(yz B Z).2.2 with e | e
    .show jz x.nm;rw [e];exact qm
    .exact absurd e u
  .rw [Q];by_cases u:x.op=9
   .obtain⟨k,d,f1,G,H,I,f5,Y⟩:=oL o u C;rw [u] at f⊢;replace f:some (W0 x.nm ((kv X x).map λv=>v.n))=some v:=f;show some (W1 x.nm ((kv X x).map λv=>v.n))=some v;have:=T.pl d (Wx G) (by rw [I];exact l) ((kv X x).map λv=>v.n);rw [H] at this;rw [this];exact f
   .have e1:dK P W1 x.op x.n x.d x.nm (kv X x) 0=dK P W0 x.op x.n x.d x.nm (kv X x) 0:=by
     unfold dK;simp only [if_neg u]
    rw [e1,GG (b':=jF (c.ss.take i) s x.ks) ho ok.op];exact f
 unfold gZ;by_cases dP:x.op=22
 .rw [if_pos dP];obtain⟨_,a,b,s',g,e,k1,k2⟩:=ok.dP dP;have hs:s=1:=by
   have:=R (by omega);rw [dP,e] at this;simp only [WL,Xj,jh k1,jh k2] at this;rw [this];simp [bc,g]
  obtain⟨F,U,N,b3⟩:=k1.n9 j r g;obtain⟨cs,V,O,d3⟩:=k2.n9 j r g;rw [K e,L e];refine rb (PZ m U V) ?_ hs;have hwl:=gL g;have hin:∀v∈[xK X a,xK X b],0<=v.n/\v.n < pw (s' - 10):=by
   intro v f;simp only [WC,XE,or_false] at f;rcases f with rfl | rfl
   .rw [N];exact uL b3
   .rw [O];exact uL d3
  have ew:=vG (W:=W0) hP (op:=22) (n:=x.n) (d:=x.d) (b:=s' - 10) (nm:=x.nm) (ks:= [xK X a,xK X b]) (by omega) (by omega) rfl hin (show x.n=0 from Cq B (by omega) (by omega) (by omega) (by omega));rw [dP,Eu k1 k2 g e,B5 e,ew] at f;replace f:some (fK (if(xK X a).n < (xK X b).n then 1 else 0))=some v:=f;rw [show(xK X a).n= (wv F:Int) by rw [N];rfl,show(xK X b).n= (wv cs:Int) by rw [O];rfl] at f;simp only [Wj] at f;rw [<-f,Lc (by omega),Xn,Y7];by_cases hl:wv F < wv cs
  .rw [if_pos (by omega),decide_eq_true hl];rfl
  .rw [if_neg (by omega),decide_eq_false hl];rfl
 rw [if_neg dP];by_cases c8:x.op=8
 .obtain⟨_,a,b,s',e,h⟩:=ok.c8 c8;rw [K e,L e];rcases h with⟨g,k1,k2⟩ | h
  .have hl:=(k1.word j g).2.1;have q:=gL g;rw [if_pos ⟨c8,yY (by omega)⟩];have hs:s=1:=by
    have:=R (by omega);rw [c8,e] at this;simp only [WL,Xj,jh k1,jh k2] at this;rw [this];simp [bc,g]
   obtain⟨F,U,N,b3⟩:=k1.n9 j r g;obtain⟨cs,V,O,d3⟩:=k2.n9 j r g;refine rb (Uc m U V) ?_ hs;rw [c8,B5 e] at f;replace f:some (bM ((xK X a).n== (xK X b).n && (xK X a).d== (xK X b).d))=some v:=f;rw [N,O] at f;replace f:some (bM ((wv F:Int)== (wv cs:Int) && (1:Int)==1))=some v:=f;simp only [Wj] at f;rw [<-f,Lf (by omega)];congr 1;by_cases he:wv F=wv cs
   .rw [he];simp
   .rw [decide_eq_false he];simp;omega
  .obtain⟨s1,k1,hw1⟩:=h a (by rw [e];exact Wl);have hb:aG t a= []:=by
    have:=(k1.plain j hw1).1;unfold aG;rw [Wp,this];rfl
   rw [if_neg (by rw [hb];simp)];exact w h (by omega)
 rw [if_neg (by omega)];by_cases c7:x.op=7
 .obtain⟨a,b,d,e,k1,k2,k3⟩:=ok.c7 c7;refine w (λk A=> ?_) (by omega);rw [e] at A;simp only [WC,XE,or_false] at A;rcases A with rfl | rfl | rfl
  .exact⟨1,k1,rfl⟩
  .exact⟨s,k2,l⟩
  .exact⟨s,k3,l⟩
 have hr:x.op < 15\/24<=x.op:=by
  rcases YN (x.op < 15\/24<=x.op) with h | h
  .exact h
  exfalso;by_cases fh:x.op=15
  .have:=ok.fh fh;have q:aE s=true:=by unfold aE;simp;omega
   rw [q] at l;cases l
  by_cases dZ:x.op=16\/x.op=23
  .rw [(ok.dZ dZ).1] at l;cases l
  rw [(ok.gy (by omega) (by omega)).1] at l;cases l
 exact w (ok.pl c7 c8 hr).2 (by omega)
end
end Go.Aev.Gen
