import Derived.Test.YticjdhgokemdlaaGreatMostWeakQ5
import Derived.Test.YticjdhgokemdlaaGreatMostWeakQ14
set_option linter.all false
namespace Go.Aev.Tb
open Go Go.Aev
def sm:Nat->(Nat->Rat)->Rat
 | 0,_=>0
 | n+1,f=>sm n f+f n
theorem eJ{f g:Nat->Rat}:∀{n:Nat},(∀i,i < n->f i=g i)->sm n f=sm n g
 | 0,_=>rfl
 | n+1,h=>by rw [sm,sm,eJ (n:=n) (λi hi=>h i (by omega)),h n (by omega)]
theorem DH:∀(n:Nat),sm n (λ_=>0)=0
 | 0=>rfl
 | n+1=>by rw [sm,DH n];grind
theorem mU{n:Nat}{f:Nat->Rat}(h:∀i,i < n->f i=0):sm n f=0:=by rw [eJ h,DH]
theorem mj(x y:Rat)(f g:Nat->Rat):∀(n:Nat),sm n (λi=>x * f i+y * g i)=x * sm n f+y * sm n g
 | 0=>by simp only [sm];grind
 | n+1=>by have:=mj x y f g n;simp only [sm];grind
theorem zQ(f g:Nat->Rat)(n:Nat):sm n (λi=>f i+g i)=sm n f+sm n g:=by have:=mj 1 1 f g n;simp only [Yo] at this;exact this
theorem DG(x:Rat)(f:Nat->Rat)(n:Nat):sm n (λi=>x * f i)=x * sm n f:=by have:=mj x 0 f (λ_=>0) n;simp only [VQ,XV] at this;exact this
theorem kI{f:Nat->Rat}{v:Nat}:∀{n:Nat},v < n->(∀i,i < n->i≠v->f i=0)->sm n f=f v
 | 0,h,_=>by omega
 | n+1,h,hz=>by
  rw [sm];by_cases hv:v=n
  .subst hv;rw [mU (λi hi=>hz i (by omega) (by omega)),XA]
  .rw [kI (n:=n) (by omega) (λi hi a=>hz i (by omega) a),hz n (by omega) (by omega),XV]
theorem nW{n v:Nat}(hv:v < n)(f:Nat->Rat):sm n (λi=>if i=v then f i else 0)=f v:=by rw [kI hv (λi _ a=>if_neg a),if_pos rfl]
theorem Kn(f:Nat->Nat->Rat)(m:Nat):∀(n:Nat),sm n (λi=>sm m (λj=>f i j))=sm m (λj=>sm n (λi=>f i j))
 | 0=>by simp only [sm];exact(DH m).symm
 | n+1=>by simp only [sm];rw [Kn f m n,zQ]
theorem Km{N n:Nat}{nb:Nat->Nat}{f:Nat->Rat}(hb:∀r,r < n->nb r < N)(hi:∀r s,r < n->s < n->nb r=nb s->r=s)
  (hz:∀v,v < N->(∀r,r < n->nb r≠v)->f v=0):sm N f=sm n (λr=>f (nb r)):=by
 have h1:sm N f=sm N (λv=>sm n (λr=>if nb r=v then f v else 0)):=by
  refine eJ (λv hv=> ?_);by_cases h:∃r,r < n/\nb r=v
  .obtain⟨r,a,e⟩:=h;rw [kI a (λi b c=>if_neg (λe'=>c (hi _ _ b a (by rw [e',e])))),if_pos e]
  .have d:∀r,r < n->nb r≠v:=λr a e=>h ⟨r,a,e⟩;rw [hz v hv d,mU (λi b=>if_neg (d i b))]
 rw [h1,Kn];refine eJ (λr a=> ?_);rw [kI (hb r a) (λi _ c=>if_neg (λe=>c e.symm)),if_pos rfl]
def skip(i r:Nat):Nat:=if r < i then r else r+1
def sg:Nat->Rat
 | 0=>1
 | i+1=> - sg i
def cU:Nat->(Nat->Nat->Rat)->Rat
 | 0,_=>1
 | n+1,M=>sm (n+1) (λi=>sg i * M i 0 * cU n (λr c=>M (skip i r) (c+1)))
theorem Kk(i r:Nat):skip i r≠i:=by unfold skip;split <;> omega
theorem Sr{i r s:Nat}(h:skip i r=skip i s):r=s:=by unfold skip at h;split at h <;> split at h <;> omega
theorem Fw:∀(n:Nat) (M a b:Nat->Nat->Rat) (p:Nat) (x y:Rat),p < n->(∀r,r≠p->M r=a r/\M r=b r)->(∀c,M p c=x * a p c+y * b p c)->
  cU n M=x * cU n a+y * cU n b
 | 0,_,_,_,_,_,_,h,_,_=>by omega
 | n+1,M,a,b,p,x,y,s,d,g=>by
  simp only [cU];rw [<-mj];refine eJ (λi hi=> ?_);by_cases e:i=p
  .subst e;have o:(λr c=>M (skip i r) (c+1))= (λr c=>a (skip i r) (c+1)):=by
    funext r c;rw [(d _ (Kk i r)).1]
   have e2:(λr c=>M (skip i r) (c+1))= (λr c=>b (skip i r) (c+1)):=by funext r c;rw [(d _ (Kk i r)).2]
   rw [<-o,<-e2,g 0];grind
  .obtain⟨q,k,l⟩:∃q,skip i q=p/\q < n:=by
    by_cases j:p < i
    .exact⟨p,by unfold skip;rw [if_pos j],by omega⟩
    .exact⟨p - 1,by unfold skip;rw [if_neg (by omega)];omega,by omega⟩
   have:=Fw n (λr c=>M (skip i r) (c+1)) (λr c=>a (skip i r) (c+1)) (λr c=>b (skip i r) (c+1)) q x y l
    (λr m=>by
     have f:skip i r≠p:=λh=>m (Sr (by rw [h,k]));exact⟨by funext c;rw [(d _ f).1],by funext c;rw [(d _ f).2]⟩)
    (λc=>by rw [k];exact g _)
   rw [this,<-(d i e).1,<-(d i e).2];grind
theorem yf:∀(n:Nat) (M:Nat->Nat->Rat) (p:Nat),p+1 < n->M p=M (p+1)->cU n M=0
 | 0,_,_,h,_=>by omega
 | n+1,M,p,j,f=>by
  simp only [cU];have e:(λr c=>M (skip (p+1) r) (c+1))= (λr c=>M (skip p r) (c+1)):=by
   funext r c;by_cases h1:r < p
   .have a:skip (p+1) r=r:=by unfold skip;rw [if_pos (by omega)]
    have b:skip p r=r:=by unfold skip;rw [if_pos h1]
    rw [a,b]
   .by_cases d:r=p
    .subst d;have a:skip (r+1) r=r:=by unfold skip;rw [if_pos (by omega)]
     have b:skip r r=r+1:=by unfold skip;rw [if_neg (by omega)]
     rw [a,b,f]
    .have a:skip (p+1) r=r+1:=by unfold skip;rw [if_neg (by omega)]
     have b:skip p r=r+1:=by unfold skip;rw [if_neg (by omega)]
     rw [a,b]
  have h1:sm (n+1) (λi=>sg i * M i 0 * cU n (λr c=>M (skip i r) (c+1)))=
    sm (n+1) (λi=>(if i=p then sg p * M p 0 * cU n (λr c=>M (skip p r) (c+1)) else 0)+ (if i=p+1 then -(sg p * M p 0 * cU n (λr c=>M (skip p r) (c+1))) else 0)):=by
   refine eJ (λi hi=> ?_);by_cases h1:i=p
   .subst h1;rw [if_pos rfl,if_neg (by omega),XV]
   .by_cases d:i=p+1
    .subst d;rw [if_neg (by omega),if_pos rfl,e,<-f];simp only [sg];grind
    .rw [if_neg h1,if_neg d];have:cU n (λr c=>M (skip i r) (c+1))=0:=by
      by_cases g:p+1 < i
      .refine yf n _ p (by omega) ?_;have a:skip i p=p:=by unfold skip;rw [if_pos (by omega)]
       have b:skip i (p+1)=p+1:=by unfold skip;rw [if_pos g]
       funext c;rw [a,b,f]
      .refine yf n _ (p - 1) (by omega) ?_;have a:skip i (p - 1)=p:=by unfold skip;rw [if_neg (by omega)];omega
       have b:skip i (p - 1+1)=p+1:=by unfold skip;rw [if_neg (by omega)];omega
       funext c;rw [a,b,f]
     rw [this];grind
  rw [h1,zQ,nW (v:=p) (by omega) (λ_=>sg p * M p 0 * cU n (λr c=>M (skip p r) (c+1))),nW (v:=p+1) (by omega) (λ_=> -(sg p * M p 0 * cU n (λr c=>M (skip p r) (c+1))))];grind
def aE(M:Nat->Nat->Rat)(p:Nat)(v:Nat->Rat):Nat->Nat->Rat:=λr=>if r=p then v else M r
theorem lJ(M:Nat->Nat->Rat)(p:Nat)(v:Nat->Rat):aE M p v p=v:=if_pos rfl
theorem jA{M:Nat->Nat->Rat}{p r:Nat}(v:Nat->Rat)(h:r≠p):aE M p v r=M r:=if_neg h
theorem Aa(M:Nat->Nat->Rat)(p:Nat):aE M p (M p)=M:=by
 funext r;by_cases h:r=p
 .subst h;exact lJ _ _ _
 .exact jA _ h
theorem rM{n:Nat}(M:Nat->Nat->Rat){p:Nat}(b:p < n)(x y:Rat)(u v:Nat->Rat):
  cU n (aE M p (λk=>x * u k+y * v k))=x * cU n (aE M p u)+y * cU n (aE M p v):=by
 refine Fw n _ _ _ p x y b (λr a=> ?_) (λc=> ?_)
 .rw [jA _ a,jA _ a,jA _ a];exact⟨rfl,rfl⟩
 .rw [lJ,lJ,lJ]
theorem Ms{n:Nat}(M:Nat->Nat->Rat){p:Nat}(e:p+1 < n)(u v:Nat->Rat):
  cU n (aE (aE M p u) (p+1) v)= - cU n (aE (aE M p v) (p+1) u):=by
 have z:∀w,cU n (aE (aE M p w) (p+1) w)=0:=λw=>yf n _ p e (by rw [lJ,jA _ (by omega),lJ]);have c:∀a b,aE (aE M p a) (p+1) b=aE (aE M (p+1) b) p a:=λa b=>by
  funext r;by_cases h1:r=p
  .subst h1;rw [jA _ (by omega),lJ,lJ]
  .by_cases d:r=p+1
   .subst d;rw [lJ,jA _ h1,lJ]
   .rw [jA _ d,jA _ h1,jA _ h1,jA _ d]
 have f:=z (λk=>1 * u k+1 * v k);have i:=rM (n:=n) (aE M p (λk=>1 * u k+1 * v k)) e 1 1 u v;have k2:=rM (n:=n) (aE M p (λk=>1 * u k+1 * v k)) (p:=p+1) e 1 1 u v;rw [f] at k2;rw [c,c] at k2;have g:=rM (n:=n) (aE M (p+1) u) (p:=p) (by omega) 1 1 u v;have h:=rM (n:=n) (aE M (p+1) v) (p:=p) (by omega) 1 1 u v;rw [g,h,<-c,<-c,<-c,<-c,z,z] at k2;grind
theorem Bu{n:Nat}:∀(d:Nat) (M:Nat->Nat->Rat) (p:Nat),p+d+1 < n->M p=M (p+d+1)->cU n M=0
 | 0,M,p,b,a=>yf n M p b a
 | d+1,M,p,b,a=>by
  have e:M=aE (aE M (p+d+1) (M (p+d+1))) (p+d+1+1) (M (p+d+1+1)):=by rw [Aa,Aa]
  rw [e,Ms M (p:=p+d+1) b];rw [Bu d _ p (by omega)]
  .grind
  .rw [jA _ (by omega),jA _ (by omega),jA _ (by omega),lJ];exact a
theorem Mr{n:Nat}{M:Nat->Nat->Rat}{p q:Nat}(c:p < n)(d:q < n)(b:p≠q)(a:M p=M q):cU n M=0:=by
 by_cases h:p < q
 .refine Bu (q - p - 1) M p (by omega) ?_;rw [a];congr 1;omega
 .refine Bu (p - q - 1) M q (by omega) ?_;rw [<-a];congr 1;omega
theorem Fx{n:Nat}(M:Nat->Nat->Rat){p:Nat}(a:p < n)(c:Nat->Rat)(w:Nat->Nat->Rat):
  ∀(m:Nat),cU n (aE M p (λk=>sm m (λr=>c r * w r k)))=sm m (λr=>c r * cU n (aE M p (w r)))
 | 0=>by
  have:=rM (n:=n) M a 0 0 (λ_=>0) (λ_=>0);simp only [sm];have e:(λk:Nat=>(0:Rat) * (λ_=>(0:Rat)) k+0 * (λ_=>(0:Rat)) k)= (λ_=>0):=by funext k;grind
  rw [e] at this;rw [this];grind
 | m+1=>by have:=rM (n:=n) M a 1 (c m) (λk=>sm m (λr=>c r * w r k)) (w m);simp only [Yo] at this;simp only [sm];rw [this,Fx M a c w m]
theorem Fm{n:Nat}(M:Nat->Nat->Rat){p:Nat}(b:p < n)(c:Nat->Rat)(u:Nat->Rat)(d:∀k,u k=sm n (λr=>c r * M r k)):
  cU n (aE M p u)=c p * cU n M:=by
 have e:u=λk=>sm n (λr=>c r * M r k):=funext d;rw [e,Fx M b c M n,kI b (λi hi a=> ?_),Aa];rw [Mr (p:=p) (q:=i) b hi (λh=>a h.symm) (by rw [lJ,jA _ a])];grind
def bw(B:Nat)(q:Rat):Prop:= ∃z:Int,q= (z:Rat)/\z.natAbs<=B
theorem bw.add{A B:Nat}{p q:Rat}(h:bw A p)(k:bw B q):bw (A+B) (p+q):=by obtain⟨x,rfl,a⟩:=h;obtain⟨y,rfl,hy⟩:=k;exact⟨x+y,by rw [Rat.intCast_add],by omega⟩
theorem bw.mul{A B:Nat}{p q:Rat}(h:bw A p)(k:bw B q):bw (A * B) (p * q):=by obtain⟨x,rfl,a⟩:=h;obtain⟨y,rfl,hy⟩:=k;exact⟨x * y,by rw [Rat.intCast_mul],by rw [UZ];exact XX a hy⟩
theorem bw.neg{A:Nat}{p:Rat}(h:bw A p):bw A (-p):=by obtain⟨x,rfl,a⟩:=h;exact⟨-x,by rw [Rat.intCast_neg],by omega⟩
theorem bw.mono{A B:Nat}{p:Rat}(h:bw A p)(a:A<=B):bw B p:=by obtain⟨x,e,b⟩:=h;exact⟨x,e,by omega⟩
theorem bw.zero(B:Nat):bw B 0:=⟨0,rfl,by omega⟩
theorem bw.int{z:Int}{B:Nat}(h:z.natAbs<=B):bw B (z:Rat):=⟨z,rfl,h⟩
theorem Kh:∀(i:Nat),bw 1 (sg i)
 | 0=>⟨1,rfl,by decide⟩
 | i+1=>(Kh i).neg
theorem DF{B:Nat}{f:Nat->Rat}:∀{n:Nat},(∀i,i < n->bw B (f i))->bw (n * B) (sm n f)
 | 0,_=>bw.zero _
 | n+1,h=>by rw [sm,Vp];exact(DF (λi hi=>h i (by omega))).add (h n (by omega))
def bd(K:Nat):Nat->Nat
 | 0=>1
 | n+1=>(n+1) * (K * bd K n)
theorem Bv{K:Nat}:∀(n:Nat) (M:Nat->Nat->Rat),(∀r c,r < n->bw K (M r c))->bw (bd K n) (cU n M)
 | 0,_,_=>⟨1,rfl,UC _⟩
 | n+1,M,h=>by rw [cU,bd];refine DF (λi hi=> ?_);have h1:=((Kh i).mul (h i 0 hi)).mul (Bv n (λr c=>M (skip i r) (c+1)) (λr c a=>h _ _ (by unfold skip;split <;> omega)));rw [Nat.one_mul] at h1;exact h1
open Go Go.Aev
theorem Kl{n N:Nat}{f:Nat->Rat}(h:n<=N)(hz:∀k,n<=k->k < N->f k=0):sm N f=sm n f:=
 Km (nb:=λr=>r) (λr c=>by omega) (λr s _ _ e=>e) (λv hv b=>hz v (by
  by_cases a:v < n
  .exact absurd rfl (b v a)
  .omega) hv)
def av(n:Nat)(A:Nat->Nat->Rat)(v:Nat):Nat->Rat:=λk=>if k < n then(if v < n then(if k=v then 1 else 0) else A (v - n) k) else 0
def gg(n m:Nat)(A:Nat->Nat->Rat)(y:Nat->Rat):Prop:= ∀i,i < m->y (n+i)=sm n (λk=>A i k * y k)
def Ak(N m:Nat)(ah:Nat->Nat)(c:Nat->Nat->Rat)(y:Nat->Rat):Prop:= ∀i,i < m->y (ah i)=sm N (λk=>c i k * y k)
structure WF (n m:Nat) (A:Nat->Nat->Rat) (ah:Nat->Nat) (c:Nat->Nat->Rat):Prop where
 hb:∀i,i < m->ah i < n+m
 inj:∀i j,i < m->j < m->ah i=ah j->i=j
 z:∀i j,i < m->j < m->c i (ah j)=0
 same:∀y,Ak (n+m) m ah c y↔gg n m A y
 nb:∃nb:Nat->Nat,(∀r,r < n->nb r < n+m)/\(∀r s,r < n->s < n->nb r=nb s->r=s)/\(∀r i,r < n->i < m->nb r≠ah i)/\
  (∀v,v < n+m->(∃r,r < n/\nb r=v)\/∃i,i < m/\ah i=v)/\cU n (λr=>av n A (nb r))≠0
theorem Fv:∀(n:Nat),cU n (λr c=>if c < n then(if c=r then 1 else 0) else 0)=1
 | 0=>rfl
 | n+1=>by
  rw [cU,kI (v:=0) (by omega)]
  .have e:(λr c=>if c+1 < n+1 then(if c+1=skip 0 r then(1:Rat) else 0) else 0)= (λr c=>if c < n then(if c=r then 1 else 0) else 0):=by
    funext r c;have hs:skip 0 r=r+1:=by unfold skip;rw [if_neg (by omega)]
    rw [hs];have h1:(c+1 < n+1)= (c < n):=by simp
    have b:(c+1=r+1)= (c=r):=by simp
    simp only [h1,b]
   rw [e,Fv n,if_pos (by omega),if_pos rfl];simp only [sg];grind
  .intro i hi a;rw [if_pos (by omega),if_neg (λh=>a h.symm)];grind
theorem T7(n m:Nat)(A:Nat->Nat->Rat):WF n m A (λi=>n+i) (λi k=>if k < n then A i k else 0) where
 hb:=λi hi=>by omega
 inj:=λi j _ _ h=>by omega
 z:=λi j _ _=>if_neg (by omega)
 same:=λy=>by
  have e:∀i,sm (n+m) (λk=>(if k < n then A i k else 0) * y k)=sm n (λk=>A i k * y k):=λi=>by rw [Kl (n:=n) (by omega) (λk h _=>by rw [if_neg (by omega),VQ])];exact eJ (λk hk=>by rw [if_pos hk])
  unfold Ak gg;constructor
  .intro h i hi;rw [h i hi,e]
  .intro h i hi;rw [h i hi,e]
 nb:=by
  refine⟨λr=>r,λr hr=>by dsimp only;omega,λr s _ _ e=>e,λr i hr _=>by dsimp only;omega,λv hv=> ?_, ?_⟩
  .by_cases h:v < n
   .exact .inl ⟨v,h,rfl⟩
   .exact .inr ⟨v - n,by omega,by omega⟩
  .have e:∀(N:Nat) (M M':Nat->Nat->Rat),(∀r,r < N->M r=M' r)->cU N M=cU N M':=by
    intro N;induction N with
    | zero=>intros;rfl
    | succ N ih=>intro M M' h;rw [cU,cU];refine eJ (λi hi=> ?_);rw [h i hi,ih _ (λr c=>M' (skip i r) (c+1)) (λr hr=>by funext c;rw [h _ (by unfold skip;split <;> omega)])]
   rw [e n (λr=>av n A r) (λr c=>if c < n then(if c=r then 1 else 0) else 0) (λr hr=>by
    funext c;unfold av;rw [if_pos hr]),Fv]
   grind
theorem A7{n m:Nat}(A:Nat->Nat->Rat)(k:Nat):gg n m A (λv=>av n A v k):=by
 intro i _;unfold av;dsimp only;by_cases a:k < n
 .rw [if_pos a,if_neg (by omega)];have e:n+i - n=i:=by omega
  rw [e,kI a]
  .rw [if_pos a,if_pos a,if_pos rfl];grind
  .intro j c b;rw [if_pos a,if_pos c,if_neg (λh=>b h.symm)];grind
 .rw [if_neg a];exact(mU (λj _=>by rw [if_neg a];grind)).symm
theorem WF.sum{n m:Nat}{A:Nat->Nat->Rat}{ah:Nat->Nat}{c:Nat->Nat->Rat}{nb:Nat->Nat}
  (h1:∀r,r < n->nb r < n+m) (a:∀r s,r < n->s < n->nb r=nb s->r=s) (b:∀v,v < n+m->(∃r,r < n/\nb r=v)\/∃i,i < m/\ah i=v)
  {l:Nat->Rat} (hz:∀j,j < m->l (ah j)=0) (y:Nat->Rat):sm (n+m) (λk=>l k * y k)=sm n (λr=>l (nb r) * y (nb r)):=by
 refine Km h1 a (λv hv d=> ?_);rcases b v hv with⟨r,f,e⟩ | ⟨i,hi,e⟩
 .exact absurd e (d r f)
 .rw [<-e,hz i hi,VQ]
def gF(x:Nat->Rat)(b v:Nat)(k:Nat):Rat:=if k=b then 1 / x v else if k=v then 0 else -(x k / x v)
def kC(row:Nat->Rat)(v:Nat)(l:Nat->Rat)(k:Nat):Rat:=if k=v then 0 else l k+l v * row k
theorem Jk{N:Nat}{x:Nat->Rat}{b v:Nat}(hb:b < N)(hv:v < N)(c:b≠v)(d:x b=0)(f:x v≠0)(y:Nat->Rat):
  sm N (λk=>gF x b v k * y k)= (y b - sm N (λk=>x k * y k)) / x v+y v:=by
 have e:sm N (λk=>gF x b v k * y k)=sm N (λk=>(-(1 / x v) * (x k * y k)+1 * (if k=v then y k else 0))+ (1 / x v) * (if k=b then y k else 0)):=by
  refine eJ (λk _=> ?_);unfold gF;by_cases h1:k=b
  .subst h1;rw [if_pos rfl,if_neg c,if_pos rfl,d];grind
  .by_cases a:k=v
   .subst a;rw [if_neg h1,if_pos rfl,if_pos rfl,if_neg h1];have: 1 / x k * x k=1:=by rw [VN,Yo];exact Rat.inv_mul_cancel _ f
    grind
   .rw [if_neg h1,if_neg a,if_neg a,if_neg h1,VN,VN];grind
 have e2:=zQ (λk=> -(1 / x v) * (x k * y k)+1 * (if k=v then y k else 0)) (λk=>(1 / x v) * (if k=b then y k else 0)) N;rw [e,e2,mj,DG,nW hv y,nW hb y,VN,VN];grind
theorem C2{N:Nat}{row l:Nat->Rat}{v:Nat}(hv:v < N)(b:row v=0)(y:Nat->Rat):
  sm N (λk=>kC row v l k * y k)=sm N (λk=>l k * y k)+l v * (sm N (λk=>row k * y k) - y v):=by
 have e:sm N (λk=>kC row v l k * y k)=sm N (λk=>(1 * (l k * y k)+l v * (row k * y k))+ (-(l v)) * (if k=v then y k else 0)):=by
  refine eJ (λk _=> ?_);unfold kC;by_cases a:k=v
  .subst a;rw [if_pos rfl,if_pos rfl,b];grind
  .rw [if_neg a,if_neg a];grind
 have e2:=zQ (λk=>1 * (l k * y k)+l v * (row k * y k)) (λk=>(-(l v)) * (if k=v then y k else 0)) N;rw [e,e2,mj,DG,nW hv y];grind
def gW(ah:Nat->Nat)(i v:Nat):Nat->Nat:=λj=>if j=i then v else ah j
def o9(c:Nat->Nat->Rat)(ah:Nat->Nat)(i v:Nat):Nat->Nat->Rat:=λj=>if j=i then gF (c i) (ah i) v else kC (gF (c i) (ah i) v) v (c j)
theorem vq{x:Nat->Rat}{b v:Nat}(a:b≠v):gF x b v v=0:=by unfold gF;rw [if_neg (λh=>a h.symm),if_pos rfl]
theorem T8{n m:Nat}{A:Nat->Nat->Rat}{ah:Nat->Nat}{c:Nat->Nat->Rat}(w:WF n m A ah c){i v:Nat}(hi:i < m)(hv:v < n+m)
  (t:c i v≠0):WF n m A (gW ah i v) (o9 c ah i v):=by
 have b:∀j,j < m->ah j≠v:=λj a e=>t (by rw [<-e];exact w.z i j hi a);have B:=w.hb i hi;have K:=w.z i i hi hi;refine⟨λj a=> ?_,λj k a f e=> ?_,λj k a f=> ?_,λy=> ?_, ?_⟩
 .unfold gW;split
  .exact hv
  .exact w.hb j a
 .unfold gW at e;split at e <;> split at e
  .omega
  .exact absurd e.symm (b k f)
  .exact absurd e (b j a)
  .exact w.inj j k a f e
 .unfold gW o9;by_cases h1:k=i
  .subst h1;rw [if_pos rfl];split
   .exact vq (b k hi)
   .unfold kC;rw [if_pos rfl]
  .rw [if_neg h1];have J:ah k≠ah i:=λe=>h1 (w.inj k i f hi e);have I:gF (c i) (ah i) v (ah k)=0:=by
    unfold gF;rw [if_neg J,if_neg (b k f),w.z i k hi f,VN];grind
   split
   .exact I
   .unfold kC;rw [if_neg (b k f),w.z j k a f,I];grind
 .rw [<-w.same y];have q:=Jk B hv (b i hi) K t y;have C:=vq (x:=c i) (b i hi);have M:c i v * (c i v)⁻¹ =1:=XW _ t;constructor
  .intro h;have g:y v=sm (n+m) (λk=>gF (c i) (ah i) v k * y k):=by
    have:=h i hi;unfold gW o9 at this;rw [if_pos rfl] at this;simpa using this
   have o:y (ah i)=sm (n+m) (λk=>c i k * y k):=by
    rw [g.symm,VN] at q;have:(y (ah i) - sm (n+m) (λk=>c i k * y k)) * (c i v)⁻¹ * c i v=0:=by
     have:(y (ah i) - sm (n+m) (λk=>c i k * y k)) * (c i v)⁻¹ =0:=by grind
     rw [this];grind
    grind
   intro j a;by_cases h1:j=i
   .subst h1;exact o
   .have:=h j a;unfold gW o9 at this;rw [if_neg h1] at this;simp only [if_neg h1] at this;rw [C2 hv C,<-g] at this;grind
  .intro h;have o:=h i hi;have g:sm (n+m) (λk=>gF (c i) (ah i) v k * y k)=y v:=by
    rw [q,<-o,VN];grind
   intro j a;by_cases h1:j=i
   .subst h1;unfold gW o9;rw [if_pos rfl];simp only [if_pos rfl];exact g.symm
   .unfold gW o9;rw [if_neg h1];simp only [if_neg h1];rw [C2 hv C,g,h j a];grind
 .obtain⟨nb,L,F,G,H,O⟩:=w.nb;obtain⟨p,E,D⟩:∃r,r < n/\nb r=v:=by
   rcases H v hv with h | ⟨j,a,e⟩
   .exact h
   .exact absurd e (b j a)
  refine⟨λr=>if r=p then ah i else nb r,λr d=> ?_,λr s d hs e=> ?_,λr j d a e=> ?_,λu N=> ?_, ?_⟩
  .dsimp only;split
   .exact B
   .exact L r d
  .dsimp only at e;split at e <;> split at e
   .omega
   .exact absurd e.symm (G s i hs hi)
   .exact absurd e (G r i d hi)
   .exact F r s d hs e
  .dsimp only at e;unfold gW at e;split at e <;> split at e
   .exact b i hi e
   .rename_i h1 l;exact l (w.inj j i a hi e.symm)
   .rename_i h1 l;exact h1 (F r p d E (by rw [e,D]))
   .exact G r j d a e
  .by_cases h1:u=v
   .exact .inr ⟨i,hi,by unfold gW;rw [if_pos rfl,h1]⟩
   .by_cases l:u=ah i
    .exact .inl ⟨p,E,by dsimp only;rw [if_pos rfl,l]⟩
    .rcases H u N with⟨r,d,e⟩ | ⟨j,a,e⟩
     .refine .inl ⟨r,d, ?_⟩;dsimp only;rw [if_neg (λh=>h1 (by rw [<-e,h,D])),e]
     .refine .inr ⟨j,a, ?_⟩;unfold gW;rw [if_neg (λh=>l (by rw [<-e,h])),e]
  .have e:(λr=>av n A (if r=p then ah i else nb r))=aE (λr=>av n A (nb r)) p (av n A (ah i)):=by
    funext r;unfold aE;split <;> rfl
   rw [e,Fm (λr=>av n A (nb r)) E (λr=>c i (nb r)) (av n A (ah i)) (λk=> ?_)]
   .rw [D];intro h;rcases Rat.mul_eq_zero.1 h with h | h
    .exact t h
    .exact O h
   .have:=(w.same _).2 (A7 (m:=m) A k) i hi;rw [this];exact WF.sum (A:=A) (ah:=ah) (c:=c) L F H (w.z i · hi) _
theorem A8{n m K:Nat}{A:Nat->Nat->Rat}(b: 1<=K)(a:∀i k,i < m->k < n->bw K (A i k)){v:Nat}(hv:v < n+m)(k:Nat):bw K (av n A v k):=by
 unfold av;split
 .split
  .split
   .exact⟨1,rfl,b⟩
   .exact bw.zero _
  .exact a _ _ (by omega) (by assumption)
 .exact bw.zero _
theorem WF.den{n m K:Nat}{A:Nat->Nat->Rat}{ah:Nat->Nat}{c:Nat->Nat->Rat}(w:WF n m A ah c)(d: 1<=K)(b:∀i k,i < m->k < n->bw K (A i k)):
  ∃D:Rat,D≠0/\bw (bd K n) D/\(∀i v,i < m->v < n+m->bw (bd K n) (D * c i v))/\
   (∀(g G:Nat->Rat),(∀j,j < m->g (ah j)=0)->(∀k,k < n->bw K (G k))->(∀y,gg n m A y->sm (n+m) (λk=>g k * y k)=sm n (λk=>G k * y k))->
    ∀v,v < n+m->bw (bd K n) (D * g v)):=by
 obtain⟨nb,o,C,F,s,E⟩:=w.nb
 have key:∀(g:Nat->Rat) (u:Nat->Rat),(∀j,j < m->g (ah j)=0)->(∀k,bw K (u k))->(∀k,u k=sm (n+m) (λv=>g v * av n A v k))->
   ∀v,v < n+m->bw (bd K n) (cU n (λr=>av n A (nb r)) * g v):=by
  intro g u hz B hs v hv;rcases s v hv with⟨p,x,e⟩ | ⟨j,f,e⟩
  .have:=Fm (λr=>av n A (nb r)) x (λr=>g (nb r)) u (λk=>by rw [hs];exact WF.sum (A:=A) (ah:=ah) (c:=c) o C s hz _);rw [<-e,Yh,<-this];refine Bv n _ (λr k l=> ?_);unfold aE;split
   .exact B k
   .exact A8 d b (o r l) k
  .rw [<-e,hz j f,V8];exact bw.zero _
 refine⟨_,E,Bv n _ (λr k l=>A8 d b (o r l) k),λi v hi hv=> ?_,λg G hz t hs v hv=> ?_⟩
 .refine key (c i) (av n A (ah i)) (w.z i · hi) (A8 d b (w.hb i hi)) (λk=> ?_) v hv;exact(w.same _).2 (A7 (m:=m) A k) i hi
 .refine key g (λk=>if k < n then G k else 0) hz (λk=> ?_) (λk=> ?_) v hv
  .split
   .exact t k (by assumption)
   .exact bw.zero _
  .rw [hs _ (A7 (m:=m) A k)];unfold av;by_cases a:k < n
   .rw [if_pos a,kI a]
    .rw [if_pos a,if_pos a,if_pos rfl];grind
    .intro j f q;rw [if_pos a,if_pos f,if_neg (λh=>q h.symm)];grind
   .rw [if_neg a];exact(mU (λj _=>by rw [if_neg a];grind)).symm
open Go Go.Aev
structure Sy where
 n:Nat
 m:Nat
 A:Nat->Nat->Rat
 kd:Nat->Int
 to:Nat->Rat
structure cw where
 ah:Nat->Nat
 c:Nat->Nat->Rat
 y:Nat->Rat
 z:Nat->Rat
def cw.val(t:cw)(v:Nat):Rat×Rat:=(t.y v,t.z v)
def Sy.up(S:Sy)(v:Nat):Rat×Rat:=(S.to (v - S.n),if S.kd (v - S.n)=2 then -1 else 0)
def eL(a b:Rat×Rat):Prop:=a.1 < b.1\/a.1=b.1/\a.2 < b.2
instance (a b:Rat×Rat):Decidable (eL a b):=by unfold eL;infer_instance
def Sy.gf(S:Sy)(t:cw)(v:Nat):Prop:=S.n<=v/\(eL (S.up v) (t.val v)\/S.kd (v - S.n)=3/\eL (t.val v) (S.up v))
def Sy.tw(S:Sy)(t:cw)(v:Nat):Prop:=v < S.n\/eL (t.val v) (S.up v)
def Sy.tu(S:Sy)(t:cw)(v:Nat):Prop:=v < S.n\/S.kd (v - S.n)≠3\/eL (S.up v) (t.val v)
def Sy.fx(S:Sy)(v:Nat):Rat×Rat:=if v < S.n then(0,0) else S.up v
structure Sy.OK (S:Sy) (t:cw):Prop where
 wf:WF S.n S.m S.A t.ah t.c
 hy:gg S.n S.m S.A t.y
 hz:gg S.n S.m S.A t.z
 fix:∀v,v < S.n+S.m->(∀i,i < S.m->t.ah i≠v)->t.val v=S.fx v
def Sy.aj(S:Sy)(t:cw)(b:Nat):Rat:=if eL (S.up b) (t.val b) then -1 else 1
def Sy.Can(S:Sy)(t:cw)(w:Rat)(v:Nat):Prop:=(0 < w->S.tw t v)/\(w < 0->S.tu t v)
structure Sy.Step (S:Sy) (t t':cw) (i v:Nat):Prop where
 hi:i < S.m
 hv:v < S.n+S.m
 Uf:S.gf t (t.ah i)
 low:∀j,j < S.m->t.ah j < t.ah i->¬S.gf t (t.ah j)
 ne:t.c i v≠0
 can:S.Can t (S.aj t (t.ah i) * t.c i v) v
 Ug:∀u,u < v->t.c i u≠0->¬S.Can t (S.aj t (t.ah i) * t.c i u) u
 ah:t'.ah=gW t.ah i v
def cw.fZ(t:cw)(m:Nat)(v:Nat):Prop:= ∃i,i < m/\t.ah i=v
def Ps(p q:Rat):Prop:=0 < p\/p=0/\0<=q
theorem Ps.sum{f g:Nat->Rat}:∀{n:Nat},(∀i,i < n->Ps (f i) (g i))->Ps (sm n f) (sm n g)
 | 0,_=> .inr ⟨rfl,WN⟩
 | n+1,h=>by
  have h1:=Ps.sum (n:=n) (λi hi=>h i (by omega));have a:=h n (by omega);unfold Ps at *
  simp only [sm];grind
theorem Ps.mul{a p q:Rat}(b: 0<=a)(h:Ps p q):Ps (a * p) (a * q):=by
 rcases Rat.le_iff_lt_or_eq.1 b with b | b
 .unfold Ps at *
  rcases h with h | ⟨h,c⟩
  .exact .inl (Rat.mul_pos b h)
  .exact .inr ⟨by rw [h,V8],Yn (YK b) c⟩
 .subst b;exact .inr ⟨by grind,by grind⟩
theorem Ps.zero:Ps 0 0:= .inr ⟨rfl,WN⟩
structure xF (m:Nat) (s:Nat->cw) (l e:Nat->Nat) (a b:Nat):Prop where
 aE:∀t,a<=t->t < b->∀v,(s (t+1)).fZ m v↔((s t).fZ m v/\v≠l t)\/v=e t
 lb:∀t,a<=t->t < b->(s t).fZ m (l t)
 eb:∀t,a<=t->t < b->¬(s t).fZ m (e t)
 back:∀v,(s a).fZ m v↔(s b).fZ m v
theorem xF.Cr{m:Nat}{s:Nat->cw}{l e:Nat->Nat}{a b:Nat}(R:xF m s l e a b){v:Nat}(h:∀t,a<=t->t < b->l t≠v){x:Nat}(f:a<=x):∀(d:Nat),x+d<=b->(s x).fZ m v->(s (x+d)).fZ m v
 | 0,_,c=>c
 | d+1,g,c=>by have:=R.Cr h f d (by omega) c;exact(R.aE (x+d) (by omega) (by omega) v).2 (.inl ⟨this,λh1=>h (x+d) (by omega) (by omega) h1.symm⟩)
theorem xF.leaves{m:Nat}{s:Nat->cw}{l e:Nat->Nat}{a b:Nat}(R:xF m s l e a b){p:Nat}(h1:a<=p)(d:p < b):∃q,a<=q/\q < b/\l q=e p:=by refine XS λj=> ?_;have c:∀t,a<=t->t < b->l t≠e p:=λt i hb h=>j ⟨t,i,hb,h⟩;have k:(s (p+1)).fZ m (e p):=(R.aE p h1 d _).2 (.inr rfl);have f:=R.Cr c (x:=p+1) (by omega) (b - (p+1)) (by omega) k;rw [show p+1+ (b - (p+1))=b by omega] at f;have g:=R.Cr c (x:=a) (by omega) (p - a) (by omega) ((R.back _).2 f);rw [show a+ (p - a)=p by omega] at g;exact R.eb p h1 d g
theorem Ae(a:Rat×Rat):¬eL a a:=by unfold eL;grind
open Go Go.Aev
structure Sy.wD (S:Sy) (G:Nat->Rat) (t:cw) (g:Nat->Rat):Prop where
 z:∀j,j < S.m->g (t.ah j)=0
 same:∀y,gg S.n S.m S.A y->sm (S.n+S.m) (λk=>g k * y k)=sm S.n (λk=>G k * y k)
def Sy.tU(S:Sy)(t:cw)(v:Nat):Prop:=v < S.n\/t.y v < S.to (v - S.n)
def Sy.tz(S:Sy)(t:cw)(v:Nat):Prop:=v < S.n\/S.kd (v - S.n)≠3\/S.to (v - S.n) < t.y v
def Sy.tq(S:Sy)(t:cw)(w:Rat)(v:Nat):Prop:=(0 < w->S.tU t v)/\(w < 0->S.tz t v)
def Sy.tA(S:Sy)(t:cw):Prop:= ∀v,S.n<=v->v < S.n+S.m->t.y v<=S.to (v - S.n)/\(S.kd (v - S.n)=3->t.y v=S.to (v - S.n))
def kH(q:Rat):Rat:=if 0 < q then 1 else -1
noncomputable def cw.dir(t:cw)(m v:Nat)(w:Rat):Nat->Rat:=λk=>open Classical in if k=v then w else if h:∃j,j < m/\t.ah j=k then t.c h.choose v * w else 0
theorem rO(t:cw)(m v:Nat)(w:Rat):t.dir m v w v=w:=by unfold cw.dir;rw [if_pos rfl]
theorem uu{S:Sy}{t:cw}(ok:S.OK t){v:Nat}(w:Rat){j:Nat}(b:j < S.m)(hv:¬t.fZ S.m v):t.dir S.m v w (t.ah j)=t.c j v * w:=by unfold cw.dir;have d:t.ah j≠v:=λe=>hv ⟨j,b,e⟩;have a:∃k,k < S.m/\t.ah k=t.ah j:=⟨j,b,rfl⟩;rw [if_neg d,dif_pos a];have hs:=a.choose_spec;have:a.choose=j:=ok.wf.inj _ _ hs.1 b hs.2;rw [this]
theorem rN{m:Nat}(t:cw){v:Nat}(w:Rat){k:Nat}(b:k≠v)(c:¬t.fZ m k):t.dir m v w k=0:=by unfold cw.dir;have a:¬∃j,j < m/\t.ah j=k:=c;rw [if_neg b,dif_neg a]
theorem Mv{S:Sy}{t:cw}(ok:S.OK t){v:Nat}(w:Rat)(hv:¬t.fZ S.m v)(c:v < S.n+S.m):gg S.n S.m S.A (t.dir S.m v w):=by
 refine(ok.wf.same _).1 (λj a=> ?_);rw [uu ok w a hv,kI c,rO];intro k d b;by_cases hb:t.fZ S.m k
 .obtain⟨i,hi,e⟩:=hb;rw [<-e,ok.wf.z j i a hi,VQ]
 .rw [rN t w b hb,V8]
theorem Pp{S:Sy}{G:Nat->Rat}{t:cw}{g:Nat->Rat}(c:S.wD G t g){v:Nat}(w:Rat)(b:v < S.n+S.m):
  sm (S.n+S.m) (λk=>g k * t.dir S.m v w k)=g v * w:=by
 rw [kI b,rO];intro k d a;by_cases hb:t.fZ S.m k
 .obtain⟨i,hi,e⟩:=hb;rw [<-e,c.z i hi,VQ]
 .rw [rN t w a hb,V8]
structure Sy.AN (S:Sy) (t:cw) (g:Nat->Rat) (t':cw) (i v:Nat):Prop where
 hi:i < S.m
 hv:v < S.n+S.m
 ne:g v≠0
 can:S.tq t (g v) v
 low:∀u,u < v->g u≠0->¬S.tq t (g u) u
 bn:S.n<=t.ah i
 bd: 0 < t.c i v * kH (g v)\/t.c i v * kH (g v) < 0/\S.kd (t.ah i - S.n)=3
 iA:∀j,j < S.m->S.n<=t.ah j->(0 < t.c j v * kH (g v)\/t.c j v * kH (g v) < 0/\S.kd (t.ah j - S.n)=3)->
  (S.to (t.ah i - S.n) - t.y (t.ah i)) / (t.c i v * kH (g v))<=(S.to (t.ah j - S.n) - t.y (t.ah j)) / (t.c j v * kH (g v))/\
  ((S.to (t.ah i - S.n) - t.y (t.ah i)) / (t.c i v * kH (g v))= (S.to (t.ah j - S.n) - t.y (t.ah j)) / (t.c j v * kH (g v))->t.ah i<=t.ah j)
 ah:t'.ah=gW t.ah i v
 y':∀k,k < S.n+S.m->t'.y k=t.y k+ (S.to (t.ah i - S.n) - t.y (t.ah i)) / (t.c i v * kH (g v)) * t.dir S.m v (kH (g v)) k
theorem AN.nb{S:Sy}{G:Nat->Rat}{t c:cw}{g:Nat->Rat}{i v:Nat}(a:S.wD G t g)(k:S.AN t g c i v):¬t.fZ S.m v:=by rintro⟨j,b,e⟩;exact k.ne (by rw [<-e];exact a.z j b)
theorem Rq{a d:Rat}(h: 0 < d/\0<=a\/a=0): 0<=a / d:=by
 rcases h with⟨h1,b⟩ | h
 .rw [VN];exact Yn b (YK (Rat.inv_pos.2 h1))
 .rw [h,VN,VQ];exact WN
open Go Go.Aev
end Go.Aev.Tb
namespace Go.Aev.Wd.Lg
open Go Go.Aev Go.Aev.Gen Go.Aev.Wd Go.Aev.Tb
def aN(n:Nat)(rows:List R):Sy:=⟨n,rows.length,λi k=>(((bf rows i).of.getD k 0:Int):Rat),λi=>(bf rows i).kd,λi=>((bf rows i).tv:Rat)⟩
def TL.st(t:TL):cw:=⟨λi=>t.ah.getD i 0,λi k=>nv (aq (az t.al i) k),λv=>nv (aI t.val v).1,λv=>nv (aI t.val v).2⟩
structure gm (n:Nat) (rows:List R):Prop where
 sz:Sz n rows
 of:∀r∈rows,∀c∈r.of, -1000000<=c/\c<=1000000
 len:∀r∈rows,r.of.length<=n
 kd:∀r∈rows,r.kd=1\/r.kd=2\/r.kd=3
def vv(a:Vl):Rat×Rat:=(nv a.1,nv a.2)
theorem uk(p q:Rat):cq p q < 0↔p < q:=by
 unfold cq;by_cases h:p < q
 .rw [if_pos h];exact⟨λ_=>h,λ_=>by decide⟩
 .rw [if_neg h];by_cases b:p=q
  .rw [if_pos b];exact⟨λa=>absurd a (by decide),λa=>absurd a h⟩
  .rw [if_neg b];exact⟨λa=>absurd a (by decide),λa=>absurd a h⟩
theorem ke(p q:Rat):cq p q=0↔p=q:=by
 unfold cq;by_cases h:p < q
 .rw [if_pos h];exact⟨λa=>absurd a (by decide),λa=>by rw [a] at h;exact absurd h (by grind)⟩
 .rw [if_neg h];by_cases b:p=q
  .rw [if_pos b];exact⟨λ_=>b,λ_=>rfl⟩
  .rw [if_neg b];exact⟨λa=>absurd a (by decide),λa=>absurd a b⟩
theorem Bo(p q:Rat):cq p q > 0↔q < p:=by
 have h1:=uk p q;have d:=ke p q;constructor
 .intro h;have a:¬p < q:=λc=>by have:=h1.2 c;omega
  have b:¬p=q:=λc=>by have:=d.2 c;omega
  grind
 .intro h;have a:¬cq p q < 0:=λc=>by have:=h1.1 c;grind
  have b:¬cq p q=0:=λc=>by have:=d.1 c;grind
  omega
theorem xY(a b:Vl):eF a b < 0↔eL (vv a) (vv b):=by
 unfold eF eL vv;by_cases h:cq (nv a.1) (nv b.1)=0
 .rw [if_pos h,uk];have:=(ke _ _).1 h;constructor
  .intro c;exact .inr ⟨this,c⟩
  .rintro(c | ⟨_,c⟩)
   .simp only at c;rw [this] at c;exact absurd c (by grind)
   .exact c
 .rw [if_neg h,uk];constructor
  .intro c;exact .inl c
  .rintro(c | ⟨c,_⟩)
   .exact c
   .exact absurd ((ke _ _).2 c) h
theorem xX(a b:Vl):eF a b > 0↔eL (vv b) (vv a):=by
 unfold eF eL vv;by_cases h:cq (nv a.1) (nv b.1)=0
 .rw [if_pos h,Bo];have:=(ke _ _).1 h;constructor
  .intro c;exact .inr ⟨this.symm,c⟩
  .rintro(c | ⟨_,c⟩)
   .simp only at c;rw [this] at c;exact absurd c (by grind)
   .exact c
 .rw [if_neg h,Bo];constructor
  .intro c;exact .inl c
  .rintro(c | ⟨c,_⟩)
   .exact c
   .exact absurd ((ke _ _).2 c.symm) h
theorem vW{n:Nat}{rows:List R}{v:Nat}(h:¬v < n):vv (bP n rows v)= (aN n rows).up v:=by
 unfold vv bP Sy.up aN;simp only [if_neg h];by_cases a:(bf rows (v - n)).kd=2
 .simp only [a,if_true];rfl
 .simp only [a,if_false];rfl
theorem lX{n:Nat}{rows:List R}{v:Nat}:fb n rows v=true↔¬v < n/\(aN n rows).kd (v - n)=3:=by unfold fb aN;simp
theorem uV{n:Nat}{rows:List R}{v:Nat}(h:fb n rows v=true):vv (iD n rows v)= (aN n rows).up v:=by
 have a:=lX.1 h;unfold vv iD Sy.up;simp only [if_pos h];have b:¬(aN n rows).kd (v - (aN n rows).n)=2:=by show ¬(aN n rows).kd (v - n)=2;rw [a.2];decide
 rw [if_neg b];rfl
theorem tp(t:TL)(v:Nat):t.st.val v=vv (aI t.val v):=rfl
theorem Bl{n:Nat}{rows:List R}(t:TL)(v:Nat){w:Int}(d:w≠0):e9 n rows t.val v w=true↔(if w > 0 then(aN n rows).tw t.st v else(aN n rows).tu t.st v):=by
 unfold e9;by_cases h:w > 0
 .rw [if_pos h,if_pos h];unfold Sy.tw;show _↔v < n\/_;by_cases hv:v < n
  .simp [hv]
  .rw [<-vW hv,tp,<-xY];simp [hv]
 .rw [if_neg h,if_neg h];unfold Sy.tu;show _↔v < n\/_\/_;cases b:fb n rows v
  .have:¬(¬v < n/\(aN n rows).kd (v - n)=3):=λc=>by rw [lX.2 c] at b;cases b
   simp only [UE,YD,true_iff];by_cases hv:v < n
   .exact .inl hv
   .exact .inr (.inl λc=>this ⟨hv,c⟩)
  .have c:=lX.1 b;have e:=uV b;simp only [Uz,VD,decide_eq_true_eq];rw [xX,e,<-tp];constructor
   .intro a;exact .inr (.inr a)
   .rintro(a | a | a)
    .exact absurd a c.1
    .exact absurd c.2 a
    .exact a
def bE(n:Nat)(rows:List R)(t:TL)(b:Nat):Int:=if eL ((aN n rows).up b) (t.st.val b) then -1 else 1
theorem Ag(n:Nat)(rows:List R)(t:TL)(b:Nat):(aN n rows).aj t.st b= ((bE n rows t b:Int):Rat):=by unfold Sy.aj bE;split <;> rfl
theorem T3{a b:Rat×Rat}(h:eL a b):¬eL b a:=by unfold eL at *;grind
theorem ET{n:Nat}{rows:List R}(t:TL)(b:Nat)(r:List Nat)(p:Int×Int)(hs:¬(p.1>=0/\(b:Int) > p.1)):
  ((aN n rows).gf t.st b/\cM n rows t.val (b::r) p=cM n rows t.val r ((b:Int),bE n rows t b))\/
  (¬(aN n rows).gf t.st b/\cM n rows t.val (b::r) p=cM n rows t.val r p):=by
 rw [cM,if_neg hs];by_cases h1:fb n rows b=true/\eF (aI t.val b) (iD n rows b) < 0
 .rw [if_pos h1];have f:=lX.1 h1.1;have a:=(xY _ _).1 h1.2;rw [uV h1.1,<-tp] at a;refine .inl ⟨⟨WW f.1, .inr ⟨f.2,a⟩⟩, ?_⟩;unfold bE;rw [if_neg (T3 a)]
 .rw [if_neg h1];by_cases d:¬b < n/\eF (aI t.val b) (bP n rows b) > 0
  .rw [if_pos d];have a:=(xX _ _).1 d.2;rw [vW d.1,<-tp] at a;refine .inl ⟨⟨WW d.1, .inl a⟩, ?_⟩;unfold bE;rw [if_pos a]
  .rw [if_neg d];refine .inr ⟨?_,rfl⟩;rintro⟨g,h | ⟨i,h⟩⟩
   .have c:¬b < n:=WJ.2 g;refine d ⟨c,(xX _ _).2 ?_⟩;rw [vW c,<-tp];exact h
   .have c:¬b < n:=WJ.2 g;have e:fb n rows b=true:=lX.2 ⟨c,i⟩;refine h1 ⟨e,(xY _ _).2 ?_⟩;rw [uV e,<-tp];exact h
theorem xO{n:Nat}{rows:List R}(t:TL):∀(l:List Nat) (a:Nat),(aN n rows).gf t.st a->
  ∃b,(b=a\/b∈l)/\(aN n rows).gf t.st b/\b<=a/\(∀u∈l,(aN n rows).gf t.st u->b<=u)/\cM n rows t.val l ((a:Int),bE n rows t a)= ((b:Int),bE n rows t b)
 | [],a,h=>⟨a, .inl rfl,h,UC _,(λu hu=>by cases hu),rfl⟩
 | c::l,a,h=>by
  by_cases hs:((a:Int),bE n rows t a).1>=0/\(c:Int) > ((a:Int),bE n rows t a).1
  .obtain⟨b,h1,f,g,i,j⟩:=xO t l a h;refine⟨b, ?_,f,g,λu hu d=> ?_,by rw [cM,if_pos hs];exact j⟩
   .rcases h1 with h1 | h1
    .exact .inl h1
    .exact .inr (Um _ h1)
   .rcases Uw.1 hu with rfl | hu
    .have:=hs.2;simp only at this;omega
    .exact i u hu d
  .have m:c<=a:=by simp only at hs;omega
   rcases ET (n:=n) (rows:=rows) t c l _ hs with⟨k,e⟩ | ⟨k,e⟩
   .obtain⟨b,h1,f,g,i,j⟩:=xO t l c k;refine⟨b, ?_,f,by omega,λu hu d=> ?_,by rw [e];exact j⟩
    .rcases h1 with h1 | h1
     .exact .inr (by rw [h1];exact Uk)
     .exact .inr (Um _ h1)
    .rcases Uw.1 hu with rfl | hu
     .exact g
     .exact i u hu d
   .obtain⟨b,h1,f,g,i,j⟩:=xO t l a h;refine⟨b, ?_,f,g,λu hu d=> ?_,by rw [e];exact j⟩
    .rcases h1 with h1 | h1
     .exact .inl h1
     .exact .inr (Um _ h1)
    .rcases Uw.1 hu with rfl | hu
     .exact absurd d k
     .exact i u hu d
theorem ES{n:Nat}{rows:List R}(t:TL):∀(l:List Nat),
  ((∀u∈l,¬(aN n rows).gf t.st u)/\cM n rows t.val l (-1,0)= (-1,0))\/
  ∃b,b∈l/\(aN n rows).gf t.st b/\(∀u∈l,(aN n rows).gf t.st u->b<=u)/\cM n rows t.val l (-1,0)= ((b:Int),bE n rows t b)
 | []=> .inl ⟨λu hu=>(by cases hu),rfl⟩
 | c::l=>by
  have hs:¬(((-1:Int),(0:Int)).1>=0/\(c:Int) > ((-1:Int),(0:Int)).1):=λh=>absurd h.1 (by decide);rcases ET (n:=n) (rows:=rows) t c l _ hs with⟨f,e⟩ | ⟨f,e⟩
  .obtain⟨b,h1,d,g,i,j⟩:=xO t l c f;refine .inr ⟨b, ?_,d,λu hu a=> ?_,by rw [e];exact j⟩
   .rcases h1 with h1 | h1
    .rw [h1];exact Uk
    .exact Um _ h1
   .rcases Uw.1 hu with rfl | hu
    .exact g
    .exact i u hu a
  .rcases ES t l with⟨h1,d⟩ | ⟨b,h1,d,g,i⟩
   .refine .inl ⟨λu hu=> ?_,by rw [e];exact d⟩;rcases Uw.1 hu with rfl | hu
    .exact f
    .exact h1 u hu
   .refine .inr ⟨b,Um _ h1,d,λu hu a=> ?_,by rw [e];exact i⟩;rcases Uw.1 hu with rfl | hu
    .exact absurd a f
    .exact g u hu a
theorem kT{n:Nat}{rows:List R}{val:List Vl}{aj:Int}:∀{row:List Nm} {k v:Nat},aV n rows val aj row k=some v->
  k<=v/\v < k+row.length/\nv (aq row (v - k))≠0/\e9 n rows val v (aj * (nv (aq row (v - k))).num.sign)=true/\
  ∀u,k<=u->u < v->nv (aq row (u - k))≠0->e9 n rows val u (aj * (nv (aq row (u - k))).num.sign)=false
 | [],_,_,h=>by simp [aV] at h
 | x::xs,k,v,h=>by
  rw [aV] at h;by_cases b:nv x≠0/\e9 n rows val k (aj * (nv x).num.sign)=true
  .rw [if_pos b] at h;obtain rfl:k=v:=Vb h;refine⟨UC _,by simp, ?_, ?_,λu h1 f=>by omega⟩
   .rw [W2];exact b.1
   .rw [W2];exact b.2
  .rw [if_neg b] at h;obtain⟨h1,f,g,i,j⟩:=kT h;have e:∀u,k+1<=u->aq (x::xs) (u - k)=aq xs (u - (k+1)):=λu c=>by
    have:u - k= (u - (k+1))+1:=by omega
    rw [this];rfl
   refine⟨by omega,by simp only [UH];omega,by rw [e v h1];exact g,by rw [e v h1];exact i,λu m d a=> ?_⟩;by_cases c:u=k
   .subst c;rw [W2] at a⊢;have:aq (x::xs) 0=x:=rfl;rw [this] at a⊢;cases l:e9 n rows val u (aj * (nv x).num.sign)
    .rfl
    .exact absurd ⟨a,l⟩ b
   .rw [e u (by omega)] at a⊢;exact j u (by omega) d a
theorem yA{n:Nat}{rows:List R}{val:List Vl}{aj:Int}:∀{row:List Nm} {k:Nat},aV n rows val aj row k=none->
  ∀u,k<=u->nv (aq row (u - k))≠0->e9 n rows val u (aj * (nv (aq row (u - k))).num.sign)=false
 | [],_,_,u,_,a=>absurd rfl a
 | x::xs,k,h,u,f,a=>by
  rw [aV] at h;by_cases b:nv x≠0/\e9 n rows val k (aj * (nv x).num.sign)=true
  .rw [if_pos b] at h;cases h
  .rw [if_neg b] at h;by_cases c:u=k
   .subst c;rw [W2] at a⊢;have:aq (x::xs) 0=x:=rfl;rw [this] at a⊢;cases d:e9 n rows val u (aj * (nv x).num.sign)
    .rfl
    .exact absurd ⟨a,d⟩ b
   .have e:aq (x::xs) (u - k)=aq xs (u - (k+1)):=by
     have:u - k= (u - (k+1))+1:=by omega
     rw [this];rfl
    rw [e] at a⊢;exact yA h u (by omega) a
end Go.Aev.Wd.Lg
