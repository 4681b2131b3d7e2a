import Derived.Test.YticjdhgokemdlaaGreatMostTrueQ5
import Derived.Test.YticjdhgokemdlaaGreatMostTrueQ14
set_option linter.all false
namespace Go.Aev.Tb
open Go Go.Aev
def sm:Nat->(Nat->Rat)->Rat
 | 0,_=>0
 | n+1,f=>sm n f+f n
theorem ef{f g:Nat->Rat}:∀{n:Nat},(∀i,i < n->f i=g i)->sm n f=sm n g
 | 0,_=>rfl
 | n+1,h=>by rw [sm,sm,ef (n:=n) (λi hi=>h i (by omega)),h n (by omega)]
theorem Ev:∀(n:Nat),sm n (λ_=>0)=0
 | 0=>rfl
 | n+1=>by rw [sm,Ev n];grind
theorem my{n:Nat}{f:Nat->Rat}(h:∀i,i < n->f i=0):sm n f=0:=by rw [ef h,Ev]
theorem mw(x y:Rat)(f g:Nat->Rat):∀(n:Nat),sm n (λi=>x * f i+y * g i)=x * sm n f+y * sm n g
 | 0=>by simp only [sm];grind
 | n+1=>by have:=mw x y f g n;simp only [sm];grind
theorem AF(f g:Nat->Rat)(n:Nat):sm n (λi=>f i+g i)=sm n f+sm n g:=by have:=mw 1 1 f g n;simp only [Zj] at this;exact this
theorem wC(x:Rat)(f:Nat->Rat)(n:Nat):sm n (λi=>x * f i)=x * sm n f:=by have:=mw x 0 f (λ_=>0) n;simp only [WQ,YG] at this;exact this
theorem kM{f:Nat->Rat}{v:Nat}:∀{n:Nat},v < n->(∀i,i < n->i≠v->f i=0)->sm n f=f v
 | 0,h,_=>by omega
 | n+1,h,hz=>by
  rw [sm];by_cases hv:v=n
  .subst hv;rw [my (λi hi=>hz i (by omega) (by omega)),X6]
  .rw [kM (n:=n) (by omega) (λi hi a=>hz i (by omega) a),hz n (by omega) (by omega),YG]
theorem oe{n v:Nat}(hv:v < n)(f:Nat->Rat):sm n (λi=>if i=v then f i else 0)=f v:=by rw [kM hv (λi _ a=>if_neg a),if_pos rfl]
theorem Eu(f:Nat->Nat->Rat)(m:Nat):∀(n:Nat),sm n (λi=>sm m (λj=>f i j))=sm m (λj=>sm n (λi=>f i j))
 | 0=>by simp only [sm];exact(Ev m).symm
 | n+1=>by simp only [sm];rw [Eu f m n,AF]
theorem KZ{N n:Nat}{nb:Nat->Nat}{f:Nat->Rat}(hb:∀r,r < n->nb r < N)(hi:∀r s,r < n->s < n->nb r=nb s->r=s)
  (hz:∀v,v < N->(∀r,r < n->nb r≠v)->f v=0):sm N f=sm n (λr=>f (nb r)):=by
 have h1:sm N f=sm N (λv=>sm n (λr=>if nb r=v then f v else 0)):=by
  refine ef (λv hv=> ?_);by_cases h:∃r,r < n/\nb r=v
  .obtain⟨r,a,e⟩:=h;rw [kM a (λi b c=>if_neg (λe'=>c (hi _ _ b a (by rw [e',e])))),if_pos e]
  .have d:∀r,r < n->nb r≠v:=λr a e=>h ⟨r,a,e⟩;rw [hz v hv d,my (λi b=>if_neg (d i b))]
 rw [h1,Eu];refine ef (λr a=> ?_);rw [kM (hb r a) (λi _ c=>if_neg (λe=>c e.symm)),if_pos rfl]
def skip(i r:Nat):Nat:=if r < i then r else r+1
def sg:Nat->Rat
 | 0=>1
 | i+1=> - sg i
def dc:Nat->(Nat->Nat->Rat)->Rat
 | 0,_=>1
 | n+1,M=>sm (n+1) (λi=>sg i * M i 0 * dc n (λr c=>M (skip i r) (c+1)))
theorem KX(i r:Nat):skip i r≠i:=by unfold skip;split <;> omega
theorem Tn{i r s:Nat}(h:skip i r=skip i s):r=s:=by unfold skip at h;split at h <;> split at h <;> omega
theorem F8:∀(n:Nat) (M a b:Nat->Nat->Rat) (p:Nat) (x y:Rat),p < n->(∀r,r≠p->M r=a r/\M r=b r)->(∀c,M p c=x * a p c+y * b p c)->
  dc n M=x * dc n a+y * dc n b
 | 0,_,_,_,_,_,_,h,_,_=>by omega
 | n+1,M,a,b,p,x,y,s,d,g=>by
  simp only [dc];rw [<-mw];refine ef (λi hi=> ?_);by_cases e:i=p
  .subst e;have o:(λr c=>M (skip i r) (c+1))= (λr c=>a (skip i r) (c+1)):=by
    funext r c;rw [(d _ (KX i r)).1]
   have e2:(λr c=>M (skip i r) (c+1))= (λr c=>b (skip i r) (c+1)):=by funext r c;rw [(d _ (KX i r)).2]
   rw [<-o,<-e2,g 0];grind
  .obtain⟨q,k,l⟩:∃q,skip i q=p/\q < n:=by
    by_cases j:p < i
    .exact⟨p,by unfold skip;rw [if_pos j],by omega⟩
    .exact⟨p - 1,by unfold skip;rw [if_neg (by omega)];omega,by omega⟩
   have:=F8 n (λr c=>M (skip i r) (c+1)) (λr c=>a (skip i r) (c+1)) (λr c=>b (skip i r) (c+1)) q x y l
    (λr m=>by
     have f:skip i r≠p:=λh=>m (Tn (by rw [h,k]));exact⟨by funext c;rw [(d _ f).1],by funext c;rw [(d _ f).2]⟩)
    (λc=>by rw [k];exact g _)
   rw [this,<-(d i e).1,<-(d i e).2];grind
theorem yR:∀(n:Nat) (M:Nat->Nat->Rat) (p:Nat),p+1 < n->M p=M (p+1)->dc n M=0
 | 0,_,_,h,_=>by omega
 | n+1,M,p,j,f=>by
  simp only [dc];have e:(λr c=>M (skip (p+1) r) (c+1))= (λr c=>M (skip p r) (c+1)):=by
   funext r c;by_cases h1:r < p
   .have a:skip (p+1) r=r:=by unfold skip;rw [if_pos (by omega)]
    have b:skip p r=r:=by unfold skip;rw [if_pos h1]
    rw [a,b]
   .by_cases d:r=p
    .subst d;have a:skip (r+1) r=r:=by unfold skip;rw [if_pos (by omega)]
     have b:skip r r=r+1:=by unfold skip;rw [if_neg (by omega)]
     rw [a,b,f]
    .have a:skip (p+1) r=r+1:=by unfold skip;rw [if_neg (by omega)]
     have b:skip p r=r+1:=by unfold skip;rw [if_neg (by omega)]
     rw [a,b]
  have h1:sm (n+1) (λi=>sg i * M i 0 * dc n (λr c=>M (skip i r) (c+1)))=
    sm (n+1) (λi=>(if i=p then sg p * M p 0 * dc n (λr c=>M (skip p r) (c+1)) else 0)+ (if i=p+1 then -(sg p * M p 0 * dc n (λr c=>M (skip p r) (c+1))) else 0)):=by
   refine ef (λi hi=> ?_);by_cases h1:i=p
   .subst h1;rw [if_pos rfl,if_neg (by omega),YG]
   .by_cases d:i=p+1
    .subst d;rw [if_neg (by omega),if_pos rfl,e,<-f];simp only [sg];grind
    .rw [if_neg h1,if_neg d];have:dc n (λr c=>M (skip i r) (c+1))=0:=by
      by_cases g:p+1 < i
      .refine yR n _ p (by omega) ?_;have a:skip i p=p:=by unfold skip;rw [if_pos (by omega)]
       have b:skip i (p+1)=p+1:=by unfold skip;rw [if_pos g]
       funext c;rw [a,b,f]
      .refine yR n _ (p - 1) (by omega) ?_;have a:skip i (p - 1)=p:=by unfold skip;rw [if_neg (by omega)];omega
       have b:skip i (p - 1+1)=p+1:=by unfold skip;rw [if_neg (by omega)];omega
       funext c;rw [a,b,f]
     rw [this];grind
  rw [h1,AF,oe (v:=p) (by omega) (λ_=>sg p * M p 0 * dc n (λr c=>M (skip p r) (c+1))),oe (v:=p+1) (by omega) (λ_=> -(sg p * M p 0 * dc n (λr c=>M (skip p r) (c+1))))];grind
def aE(M:Nat->Nat->Rat)(p:Nat)(v:Nat->Rat):Nat->Nat->Rat:=λr=>if r=p then v else M r
theorem lL(M:Nat->Nat->Rat)(p:Nat)(v:Nat->Rat):aE M p v p=v:=if_pos rfl
theorem jE{M:Nat->Nat->Rat}{p r:Nat}(v:Nat->Rat)(h:r≠p):aE M p v r=M r:=if_neg h
theorem AT(M:Nat->Nat->Rat)(p:Nat):aE M p (M p)=M:=by
 funext r;by_cases h:r=p
 .subst h;exact lL _ _ _
 .exact jE _ h
theorem rW{n:Nat}(M:Nat->Nat->Rat){p:Nat}(b:p < n)(x y:Rat)(u v:Nat->Rat):
  dc n (aE M p (λk=>x * u k+y * v k))=x * dc n (aE M p u)+y * dc n (aE M p v):=by
 refine F8 n _ _ _ p x y b (λr a=> ?_) (λc=> ?_)
 .rw [jE _ a,jE _ a,jE _ a];exact⟨rfl,rfl⟩
 .rw [lL,lL,lL]
theorem Ni{n:Nat}(M:Nat->Nat->Rat){p:Nat}(e:p+1 < n)(u v:Nat->Rat):
  dc n (aE (aE M p u) (p+1) v)= - dc n (aE (aE M p v) (p+1) u):=by
 have z:∀w,dc n (aE (aE M p w) (p+1) w)=0:=λw=>yR n _ p e (by rw [lL,jE _ (by omega),lL]);have c:∀a b,aE (aE M p a) (p+1) b=aE (aE M (p+1) b) p a:=λa b=>by
  funext r;by_cases h1:r=p
  .subst h1;rw [jE _ (by omega),lL,lL]
  .by_cases d:r=p+1
   .subst d;rw [lL,jE _ h1,lL]
   .rw [jE _ d,jE _ h1,jE _ h1,jE _ d]
 have f:=z (λk=>1 * u k+1 * v k);have i:=rW (n:=n) (aE M p (λk=>1 * u k+1 * v k)) e 1 1 u v;have k2:=rW (n:=n) (aE M p (λk=>1 * u k+1 * v k)) (p:=p+1) e 1 1 u v;rw [f] at k2;rw [c,c] at k2;have g:=rW (n:=n) (aE M (p+1) u) (p:=p) (by omega) 1 1 u v;have h:=rW (n:=n) (aE M (p+1) v) (p:=p) (by omega) 1 1 u v;rw [g,h,<-c,<-c,<-c,<-c,z,z] at k2;grind
theorem Ce{n:Nat}:∀(d:Nat) (M:Nat->Nat->Rat) (p:Nat),p+d+1 < n->M p=M (p+d+1)->dc n M=0
 | 0,M,p,b,a=>yR n M p b a
 | d+1,M,p,b,a=>by
  have e:M=aE (aE M (p+d+1) (M (p+d+1))) (p+d+1+1) (M (p+d+1+1)):=by rw [AT,AT]
  rw [e,Ni M (p:=p+d+1) b];rw [Ce d _ p (by omega)]
  .grind
  .rw [jE _ (by omega),jE _ (by omega),jE _ (by omega),lL];exact a
theorem Nh{n:Nat}{M:Nat->Nat->Rat}{p q:Nat}(c:p < n)(d:q < n)(b:p≠q)(a:M p=M q):dc n M=0:=by
 by_cases h:p < q
 .refine Ce (q - p - 1) M p (by omega) ?_;rw [a];congr 1;omega
 .refine Ce (p - q - 1) M q (by omega) ?_;rw [<-a];congr 1;omega
theorem F9{n:Nat}(M:Nat->Nat->Rat){p:Nat}(a:p < n)(c:Nat->Rat)(w:Nat->Nat->Rat):
  ∀(m:Nat),dc n (aE M p (λk=>sm m (λr=>c r * w r k)))=sm m (λr=>c r * dc n (aE M p (w r)))
 | 0=>by
  have:=rW (n:=n) M a 0 0 (λ_=>0) (λ_=>0);simp only [sm];have e:(λk:Nat=>(0:Rat) * (λ_=>(0:Rat)) k+0 * (λ_=>(0:Rat)) k)= (λ_=>0):=by funext k;grind
  rw [e] at this;rw [this];grind
 | m+1=>by have:=rW (n:=n) M a 1 (c m) (λk=>sm m (λr=>c r * w r k)) (w m);simp only [Zj] at this;simp only [sm];rw [this,F9 M a c w m]
theorem FY{n:Nat}(M:Nat->Nat->Rat){p:Nat}(b:p < n)(c:Nat->Rat)(u:Nat->Rat)(d:∀k,u k=sm n (λr=>c r * M r k)):
  dc n (aE M p u)=c p * dc n M:=by
 have e:u=λk=>sm n (λr=>c r * M r k):=funext d;rw [e,F9 M b c M n,kM b (λi hi a=> ?_),AT];rw [Nh (p:=p) (q:=i) b hi (λh=>a h.symm) (by rw [lL,jE _ a])];grind
def bz(B:Nat)(q:Rat):Prop:= ∃z:Int,q= (z:Rat)/\z.natAbs<=B
theorem bz.add{A B:Nat}{p q:Rat}(h:bz A p)(k:bz B q):bz (A+B) (p+q):=by obtain⟨x,rfl,a⟩:=h;obtain⟨y,rfl,hy⟩:=k;exact⟨x+y,by rw [Rat.intCast_add],by omega⟩
theorem bz.mul{A B:Nat}{p q:Rat}(h:bz A p)(k:bz B q):bz (A * B) (p * q):=by obtain⟨x,rfl,a⟩:=h;obtain⟨y,rfl,hy⟩:=k;exact⟨x * y,by rw [Rat.intCast_mul],by rw [VP];exact YI a hy⟩
theorem bz.neg{A:Nat}{p:Rat}(h:bz A p):bz A (-p):=by obtain⟨x,rfl,a⟩:=h;exact⟨-x,by rw [Rat.intCast_neg],by omega⟩
theorem bz.mono{A B:Nat}{p:Rat}(h:bz A p)(a:A<=B):bz B p:=by obtain⟨x,e,b⟩:=h;exact⟨x,e,by omega⟩
theorem bz.zero(B:Nat):bz B 0:=⟨0,rfl,by omega⟩
theorem bz.int{z:Int}{B:Nat}(h:z.natAbs<=B):bz B (z:Rat):=⟨z,rfl,h⟩
theorem KU:∀(i:Nat),bz 1 (sg i)
 | 0=>⟨1,rfl,by decide⟩
 | i+1=>(KU i).neg
theorem Et{B:Nat}{f:Nat->Rat}:∀{n:Nat},(∀i,i < n->bz B (f i))->bz (n * B) (sm n f)
 | 0,_=>bz.zero _
 | n+1,h=>by rw [sm,Wn];exact(Et (λi hi=>h i (by omega))).add (h n (by omega))
def bd(K:Nat):Nat->Nat
 | 0=>1
 | n+1=>(n+1) * (K * bd K n)
theorem Cf{K:Nat}:∀(n:Nat) (M:Nat->Nat->Rat),(∀r c,r < n->bz K (M r c))->bz (bd K n) (dc n M)
 | 0,_,_=>⟨1,rfl,Vs _⟩
 | n+1,M,h=>by rw [dc,bd];refine Et (λi hi=> ?_);have h1:=((KU i).mul (h i 0 hi)).mul (Cf n (λr c=>M (skip i r) (c+1)) (λr c a=>h _ _ (by unfold skip;split <;> omega)));rw [Nat.one_mul] at h1;exact h1
open Go Go.Aev
theorem KY{n N:Nat}{f:Nat->Rat}(h:n<=N)(hz:∀k,n<=k->k < N->f k=0):sm N f=sm n f:=
 KZ (nb:=λr=>r) (λr c=>by omega) (λr s _ _ e=>e) (λv hv b=>hz v (by
  by_cases a:v < n
  .exact absurd rfl (b v a)
  .omega) hv)
def av(n:Nat)(A:Nat->Nat->Rat)(v:Nat):Nat->Rat:=λk=>if k < n then(if v < n then(if k=v then 1 else 0) else A (v - n) k) else 0
def gr(n m:Nat)(A:Nat->Nat->Rat)(y:Nat->Rat):Prop:= ∀i,i < m->y (n+i)=sm n (λk=>A i k * y k)
def A5(N m:Nat)(ah:Nat->Nat)(c:Nat->Nat->Rat)(y:Nat->Rat):Prop:= ∀i,i < m->y (ah i)=sm N (λk=>c i k * y k)
structure WF (n m:Nat) (A:Nat->Nat->Rat) (ah:Nat->Nat) (c:Nat->Nat->Rat):Prop where
 hb:∀i,i < m->ah i < n+m
 inj:∀i j,i < m->j < m->ah i=ah j->i=j
 z:∀i j,i < m->j < m->c i (ah j)=0
 same:∀y,A5 (n+m) m ah c y↔gr n m A y
 nb:∃nb:Nat->Nat,(∀r,r < n->nb r < n+m)/\(∀r s,r < n->s < n->nb r=nb s->r=s)/\(∀r i,r < n->i < m->nb r≠ah i)/\
  (∀v,v < n+m->(∃r,r < n/\nb r=v)\/∃i,i < m/\ah i=v)/\dc n (λr=>av n A (nb r))≠0
theorem F7:∀(n:Nat),dc n (λr c=>if c < n then(if c=r then 1 else 0) else 0)=1
 | 0=>rfl
 | n+1=>by
  rw [dc,kM (v:=0) (by omega)]
  .have e:(λr c=>if c+1 < n+1 then(if c+1=skip 0 r then(1:Rat) else 0) else 0)= (λr c=>if c < n then(if c=r then 1 else 0) else 0):=by
    funext r c;have hs:skip 0 r=r+1:=by unfold skip;rw [if_neg (by omega)]
    rw [hs];have h1:(c+1 < n+1)= (c < n):=by simp
    have b:(c+1=r+1)= (c=r):=by simp
    simp only [h1,b]
   rw [e,F7 n,if_pos (by omega),if_pos rfl];simp only [sg];grind
  .intro i hi a;rw [if_pos (by omega),if_neg (λh=>a h.symm)];grind
theorem UR(n m:Nat)(A:Nat->Nat->Rat):WF n m A (λi=>n+i) (λi k=>if k < n then A i k else 0) where
 hb:=λi hi=>by omega
 inj:=λi j _ _ h=>by omega
 z:=λi j _ _=>if_neg (by omega)
 same:=λy=>by
  have e:∀i,sm (n+m) (λk=>(if k < n then A i k else 0) * y k)=sm n (λk=>A i k * y k):=λi=>by rw [KY (n:=n) (by omega) (λk h _=>by rw [if_neg (by omega),WQ])];exact ef (λk hk=>by rw [if_pos hk])
  unfold A5 gr;constructor
  .intro h i hi;rw [h i hi,e]
  .intro h i hi;rw [h i hi,e]
 nb:=by
  refine⟨λr=>r,λr hr=>by dsimp only;omega,λr s _ _ e=>e,λr i hr _=>by dsimp only;omega,λv hv=> ?_, ?_⟩
  .by_cases h:v < n
   .exact .inl ⟨v,h,rfl⟩
   .exact .inr ⟨v - n,by omega,by omega⟩
  .have e:∀(N:Nat) (M M':Nat->Nat->Rat),(∀r,r < N->M r=M' r)->dc N M=dc N M':=by
    intro N;induction N with
    | zero=>intros;rfl
    | succ N ih=>intro M M' h;rw [dc,dc];refine ef (λi hi=> ?_);rw [h i hi,ih _ (λr c=>M' (skip i r) (c+1)) (λr hr=>by funext c;rw [h _ (by unfold skip;split <;> omega)])]
   rw [e n (λr=>av n A r) (λr c=>if c < n then(if c=r then 1 else 0) else 0) (λr hr=>by
    funext c;unfold av;rw [if_pos hr]),F7]
   grind
theorem BM{n m:Nat}(A:Nat->Nat->Rat)(k:Nat):gr n m A (λv=>av n A v k):=by
 intro i _;unfold av;dsimp only;by_cases a:k < n
 .rw [if_pos a,if_neg (by omega)];have e:n+i - n=i:=by omega
  rw [e,kM a]
  .rw [if_pos a,if_pos a,if_pos rfl];grind
  .intro j c b;rw [if_pos a,if_pos c,if_neg (λh=>b h.symm)];grind
 .rw [if_neg a];exact(my (λj _=>by rw [if_neg a];grind)).symm
theorem WF.sum{n m:Nat}{A:Nat->Nat->Rat}{ah:Nat->Nat}{c:Nat->Nat->Rat}{nb:Nat->Nat}
  (h1:∀r,r < n->nb r < n+m) (a:∀r s,r < n->s < n->nb r=nb s->r=s) (b:∀v,v < n+m->(∃r,r < n/\nb r=v)\/∃i,i < m/\ah i=v)
  {l:Nat->Rat} (hz:∀j,j < m->l (ah j)=0) (y:Nat->Rat):sm (n+m) (λk=>l k * y k)=sm n (λr=>l (nb r) * y (nb r)):=by
 refine KZ h1 a (λv hv d=> ?_);rcases b v hv with⟨r,f,e⟩ | ⟨i,hi,e⟩
 .exact absurd e (d r f)
 .rw [<-e,hz i hi,WQ]
def gP(x:Nat->Rat)(b v:Nat)(k:Nat):Rat:=if k=b then 1 / x v else if k=v then 0 else -(x k / x v)
def kH(row:Nat->Rat)(v:Nat)(l:Nat->Rat)(k:Nat):Rat:=if k=v then 0 else l k+l v * row k
theorem J1{N:Nat}{x:Nat->Rat}{b v:Nat}(hb:b < N)(hv:v < N)(c:b≠v)(d:x b=0)(f:x v≠0)(y:Nat->Rat):
  sm N (λk=>gP x b v k * y k)= (y b - sm N (λk=>x k * y k)) / x v+y v:=by
 have e:sm N (λk=>gP x b v k * y k)=sm N (λk=>(-(1 / x v) * (x k * y k)+1 * (if k=v then y k else 0))+ (1 / x v) * (if k=b then y k else 0)):=by
  refine ef (λk _=> ?_);unfold gP;by_cases h1:k=b
  .subst h1;rw [if_pos rfl,if_neg c,if_pos rfl,d];grind
  .by_cases a:k=v
   .subst a;rw [if_neg h1,if_pos rfl,if_pos rfl,if_neg h1];have: 1 / x k * x k=1:=by rw [WM,Zj];exact Rat.inv_mul_cancel _ f
    grind
   .rw [if_neg h1,if_neg a,if_neg a,if_neg h1,WM,WM];grind
 have e2:=AF (λk=> -(1 / x v) * (x k * y k)+1 * (if k=v then y k else 0)) (λk=>(1 / x v) * (if k=b then y k else 0)) N;rw [e,e2,mw,wC,oe hv y,oe hb y,WM,WM];grind
theorem DP{N:Nat}{row l:Nat->Rat}{v:Nat}(hv:v < N)(b:row v=0)(y:Nat->Rat):
  sm N (λk=>kH row v l k * y k)=sm N (λk=>l k * y k)+l v * (sm N (λk=>row k * y k) - y v):=by
 have e:sm N (λk=>kH row v l k * y k)=sm N (λk=>(1 * (l k * y k)+l v * (row k * y k))+ (-(l v)) * (if k=v then y k else 0)):=by
  refine ef (λk _=> ?_);unfold kH;by_cases a:k=v
  .subst a;rw [if_pos rfl,if_pos rfl,b];grind
  .rw [if_neg a,if_neg a];grind
 have e2:=AF (λk=>1 * (l k * y k)+l v * (row k * y k)) (λk=>(-(l v)) * (if k=v then y k else 0)) N;rw [e,e2,mw,wC,oe hv y];grind
def ic(ah:Nat->Nat)(i v:Nat):Nat->Nat:=λj=>if j=i then v else ah j
def pg(c:Nat->Nat->Rat)(ah:Nat->Nat)(i v:Nat):Nat->Nat->Rat:=λj=>if j=i then gP (c i) (ah i) v else kH (gP (c i) (ah i) v) v (c j)
theorem vR{x:Nat->Rat}{b v:Nat}(a:b≠v):gP x b v v=0:=by unfold gP;rw [if_neg (λh=>a h.symm),if_pos rfl]
theorem US{n m:Nat}{A:Nat->Nat->Rat}{ah:Nat->Nat}{c:Nat->Nat->Rat}(w:WF n m A ah c){i v:Nat}(hi:i < m)(hv:v < n+m)
  (t:c i v≠0):WF n m A (ic ah i v) (pg c ah i v):=by
 have b:∀j,j < m->ah j≠v:=λj a e=>t (by rw [<-e];exact w.z i j hi a);have B:=w.hb i hi;have K:=w.z i i hi hi;refine⟨λj a=> ?_,λj k a f e=> ?_,λj k a f=> ?_,λy=> ?_, ?_⟩
 .unfold ic;split
  .exact hv
  .exact w.hb j a
 .unfold ic at e;split at e <;> split at e
  .omega
  .exact absurd e.symm (b k f)
  .exact absurd e (b j a)
  .exact w.inj j k a f e
 .unfold ic pg;by_cases h1:k=i
  .subst h1;rw [if_pos rfl];split
   .exact vR (b k hi)
   .unfold kH;rw [if_pos rfl]
  .rw [if_neg h1];have J:ah k≠ah i:=λe=>h1 (w.inj k i f hi e);have I:gP (c i) (ah i) v (ah k)=0:=by
    unfold gP;rw [if_neg J,if_neg (b k f),w.z i k hi f,WM];grind
   split
   .exact I
   .unfold kH;rw [if_neg (b k f),w.z j k a f,I];grind
 .rw [<-w.same y];have q:=J1 B hv (b i hi) K t y;have C:=vR (x:=c i) (b i hi);have M:c i v * (c i v)⁻¹ =1:=YH _ t;constructor
  .intro h;have g:y v=sm (n+m) (λk=>gP (c i) (ah i) v k * y k):=by
    have:=h i hi;unfold ic pg at this;rw [if_pos rfl] at this;simpa using this
   have o:y (ah i)=sm (n+m) (λk=>c i k * y k):=by
    rw [g.symm,WM] at q;have:(y (ah i) - sm (n+m) (λk=>c i k * y k)) * (c i v)⁻¹ * c i v=0:=by
     have:(y (ah i) - sm (n+m) (λk=>c i k * y k)) * (c i v)⁻¹ =0:=by grind
     rw [this];grind
    grind
   intro j a;by_cases h1:j=i
   .subst h1;exact o
   .have:=h j a;unfold ic pg at this;rw [if_neg h1] at this;simp only [if_neg h1] at this;rw [DP hv C,<-g] at this;grind
  .intro h;have o:=h i hi;have g:sm (n+m) (λk=>gP (c i) (ah i) v k * y k)=y v:=by
    rw [q,<-o,WM];grind
   intro j a;by_cases h1:j=i
   .subst h1;unfold ic pg;rw [if_pos rfl];simp only [];exact g.symm
   .unfold ic pg;rw [if_neg h1];simp only [if_neg h1];rw [DP hv C,g,h j a];grind
 .obtain⟨nb,L,F,G,H,O⟩:=w.nb;obtain⟨p,E,D⟩:∃r,r < n/\nb r=v:=by
   rcases H v hv with h | ⟨j,a,e⟩
   .exact h
   .exact absurd e (b j a)
  refine⟨λr=>if r=p then ah i else nb r,λr d=> ?_,λr s d hs e=> ?_,λr j d a e=> ?_,λu N=> ?_, ?_⟩
  .dsimp only;split
   .exact B
   .exact L r d
  .dsimp only at e;split at e <;> split at e
   .omega
   .exact absurd e.symm (G s i hs hi)
   .exact absurd e (G r i d hi)
   .exact F r s d hs e
  .dsimp only at e;unfold ic at e;split at e <;> split at e
   .exact b i hi e
   .rename_i h1 l;exact l (w.inj j i a hi e.symm)
   .rename_i h1 l;exact h1 (F r p d E (by rw [e,D]))
   .exact G r j d a e
  .by_cases h1:u=v
   .exact .inr ⟨i,hi,by unfold ic;rw [if_pos rfl,h1]⟩
   .by_cases l:u=ah i
    .exact .inl ⟨p,E,by dsimp only;rw [if_pos rfl,l]⟩
    .rcases H u N with⟨r,d,e⟩ | ⟨j,a,e⟩
     .refine .inl ⟨r,d, ?_⟩;dsimp only;rw [if_neg (λh=>h1 (by rw [<-e,h,D])),e]
     .refine .inr ⟨j,a, ?_⟩;unfold ic;rw [if_neg (λh=>l (by rw [<-e,h])),e]
  .have e:(λr=>av n A (if r=p then ah i else nb r))=aE (λr=>av n A (nb r)) p (av n A (ah i)):=by
    funext r;unfold aE;split <;> rfl
   rw [e,FY (λr=>av n A (nb r)) E (λr=>c i (nb r)) (av n A (ah i)) (λk=> ?_)]
   .rw [D];intro h;rcases Rat.mul_eq_zero.1 h with h | h
    .exact t h
    .exact O h
   .have:=(w.same _).2 (BM (m:=m) A k) i hi;rw [this];exact WF.sum (A:=A) (ah:=ah) (c:=c) L F H (w.z i · hi) _
theorem BN{n m K:Nat}{A:Nat->Nat->Rat}(b: 1<=K)(a:∀i k,i < m->k < n->bz K (A i k)){v:Nat}(hv:v < n+m)(k:Nat):bz K (av n A v k):=by
 unfold av;split
 .split
  .split
   .exact⟨1,rfl,b⟩
   .exact bz.zero _
  .exact a _ _ (by omega) (by assumption)
 .exact bz.zero _
theorem WF.den{n m K:Nat}{A:Nat->Nat->Rat}{ah:Nat->Nat}{c:Nat->Nat->Rat}(w:WF n m A ah c)(d: 1<=K)(b:∀i k,i < m->k < n->bz K (A i k)):
  ∃D:Rat,D≠0/\bz (bd K n) D/\(∀i v,i < m->v < n+m->bz (bd K n) (D * c i v))/\
   (∀(g G:Nat->Rat),(∀j,j < m->g (ah j)=0)->(∀k,k < n->bz K (G k))->(∀y,gr n m A y->sm (n+m) (λk=>g k * y k)=sm n (λk=>G k * y k))->
    ∀v,v < n+m->bz (bd K n) (D * g v)):=by
 obtain⟨nb,o,C,F,s,E⟩:=w.nb
 have key:∀(g:Nat->Rat) (u:Nat->Rat),(∀j,j < m->g (ah j)=0)->(∀k,bz K (u k))->(∀k,u k=sm (n+m) (λv=>g v * av n A v k))->
   ∀v,v < n+m->bz (bd K n) (dc n (λr=>av n A (nb r)) * g v):=by
  intro g u hz B hs v hv;rcases s v hv with⟨p,x,e⟩ | ⟨j,f,e⟩
  .have:=FY (λr=>av n A (nb r)) x (λr=>g (nb r)) u (λk=>by rw [hs];exact WF.sum (A:=A) (ah:=ah) (c:=c) o C s hz _);rw [<-e,Rat.mul_comm,<-this];refine Cf n _ (λr k l=> ?_);unfold aE;split
   .exact B k
   .exact BN d b (o r l) k
  .rw [<-e,hz j f,WT];exact bz.zero _
 refine⟨_,E,Cf n _ (λr k l=>BN d b (o r l) k),λi v hi hv=> ?_,λg G hz t hs v hv=> ?_⟩
 .refine key (c i) (av n A (ah i)) (w.z i · hi) (BN d b (w.hb i hi)) (λk=> ?_) v hv;exact(w.same _).2 (BM (m:=m) A k) i hi
 .refine key g (λk=>if k < n then G k else 0) hz (λk=> ?_) (λk=> ?_) v hv
  .split
   .exact t k (by assumption)
   .exact bz.zero _
  .rw [hs _ (BM (m:=m) A k)];unfold av;by_cases a:k < n
   .rw [if_pos a,kM a]
    .rw [if_pos a,if_pos a,if_pos rfl];grind
    .intro j f q;rw [if_pos a,if_pos f,if_neg (λh=>q h.symm)];grind
   .rw [if_neg a];exact(my (λj _=>by rw [if_neg a];grind)).symm
open Go Go.Aev
structure Sy where
 n:Nat
 m:Nat
 A:Nat->Nat->Rat
 kd:Nat->Int
 to:Nat->Rat
structure cD where
 ah:Nat->Nat
 c:Nat->Nat->Rat
 y:Nat->Rat
 z:Nat->Rat
def cD.val(t:cD)(v:Nat):Rat×Rat:=(t.y v,t.z v)
def Sy.up(S:Sy)(v:Nat):Rat×Rat:=(S.to (v - S.n),if S.kd (v - S.n)=2 then -1 else 0)
def eY(a b:Rat×Rat):Prop:=a.1 < b.1\/a.1=b.1/\a.2 < b.2
instance (a b:Rat×Rat):Decidable (eY a b):=by unfold eY;infer_instance
def Sy.gD(S:Sy)(t:cD)(v:Nat):Prop:=S.n<=v/\(eY (S.up v) (t.val v)\/S.kd (v - S.n)=3/\eY (t.val v) (S.up v))
def Sy.tJ(S:Sy)(t:cD)(v:Nat):Prop:=v < S.n\/eY (t.val v) (S.up v)
def Sy.tI(S:Sy)(t:cD)(v:Nat):Prop:=v < S.n\/S.kd (v - S.n)≠3\/eY (S.up v) (t.val v)
def Sy.fx(S:Sy)(v:Nat):Rat×Rat:=if v < S.n then(0,0) else S.up v
structure Sy.OK (S:Sy) (t:cD):Prop where
 wf:WF S.n S.m S.A t.ah t.c
 hy:gr S.n S.m S.A t.y
 hz:gr S.n S.m S.A t.z
 fix:∀v,v < S.n+S.m->(∀i,i < S.m->t.ah i≠v)->t.val v=S.fx v
def Sy.ak(S:Sy)(t:cD)(b:Nat):Rat:=if eY (S.up b) (t.val b) then -1 else 1
def Sy.Can(S:Sy)(t:cD)(w:Rat)(v:Nat):Prop:=(0 < w->S.tJ t v)/\(w < 0->S.tI t v)
structure Sy.Step (S:Sy) (t t':cD) (i v:Nat):Prop where
 hi:i < S.m
 hv:v < S.n+S.m
 U3:S.gD t (t.ah i)
 low:∀j,j < S.m->t.ah j < t.ah i->¬S.gD t (t.ah j)
 ne:t.c i v≠0
 can:S.Can t (S.ak t (t.ah i) * t.c i v) v
 U4:∀u,u < v->t.c i u≠0->¬S.Can t (S.ak t (t.ah i) * t.c i u) u
 ah:t'.ah=ic t.ah i v
def cD.gB(t:cD)(m:Nat)(v:Nat):Prop:= ∃i,i < m/\t.ah i=v
def Ps(p q:Rat):Prop:=0 < p\/p=0/\0<=q
theorem Ps.sum{f g:Nat->Rat}:∀{n:Nat},(∀i,i < n->Ps (f i) (g i))->Ps (sm n f) (sm n g)
 | 0,_=> .inr ⟨rfl,XM⟩
 | n+1,h=>by
  have h1:=Ps.sum (n:=n) (λi hi=>h i (by omega));have a:=h n (by omega);unfold Ps at *
  simp only [sm];grind
theorem Ps.mul{a p q:Rat}(b: 0<=a)(h:Ps p q):Ps (a * p) (a * q):=by
 rcases Rat.le_iff_lt_or_eq.1 b with b | b
 .unfold Ps at *
  rcases h with h | ⟨h,c⟩
  .exact .inl (Rat.mul_pos b h)
  .exact .inr ⟨by rw [h,WT],Zi (ZF b) c⟩
 .subst b;exact .inr ⟨by grind,by grind⟩
theorem Ps.zero:Ps 0 0:= .inr ⟨rfl,XM⟩
structure yo (m:Nat) (s:Nat->cD) (l e:Nat->Nat) (a b:Nat):Prop where
 aE:∀t,a<=t->t < b->∀v,(s (t+1)).gB m v↔((s t).gB m v/\v≠l t)\/v=e t
 lb:∀t,a<=t->t < b->(s t).gB m (l t)
 eb:∀t,a<=t->t < b->¬(s t).gB m (e t)
 back:∀v,(s a).gB m v↔(s b).gB m v
theorem yo.C9{m:Nat}{s:Nat->cD}{l e:Nat->Nat}{a b:Nat}(R:yo m s l e a b){v:Nat}(h:∀t,a<=t->t < b->l t≠v){x:Nat}(f:a<=x):∀(d:Nat),x+d<=b->(s x).gB m v->(s (x+d)).gB m v
 | 0,_,c=>c
 | d+1,g,c=>by have:=R.C9 h f d (by omega) c;exact(R.aE (x+d) (by omega) (by omega) v).2 (.inl ⟨this,λh1=>h (x+d) (by omega) (by omega) h1.symm⟩)
theorem yo.leaves{m:Nat}{s:Nat->cD}{l e:Nat->Nat}{a b:Nat}(R:yo m s l e a b){p:Nat}(h1:a<=p)(d:p < b):∃q,a<=q/\q < b/\l q=e p:=by refine YD λj=> ?_;have c:∀t,a<=t->t < b->l t≠e p:=λt i hb h=>j ⟨t,i,hb,h⟩;have k:(s (p+1)).gB m (e p):=(R.aE p h1 d _).2 (.inr rfl);have f:=R.C9 c (x:=p+1) (by omega) (b - (p+1)) (by omega) k;rw [show p+1+ (b - (p+1))=b by omega] at f;have g:=R.C9 c (x:=a) (by omega) (p - a) (by omega) ((R.back _).2 f);rw [show a+ (p - a)=p by omega] at g;exact R.eb p h1 d g
theorem AX(a:Rat×Rat):¬eY a a:=by unfold eY;grind
open Go Go.Aev
structure Sy.xf (S:Sy) (G:Nat->Rat) (t:cD) (g:Nat->Rat):Prop where
 z:∀j,j < S.m->g (t.ah j)=0
 same:∀y,gr S.n S.m S.A y->sm (S.n+S.m) (λk=>g k * y k)=sm S.n (λk=>G k * y k)
def Sy.uo(S:Sy)(t:cD)(v:Nat):Prop:=v < S.n\/t.y v < S.to (v - S.n)
def Sy.tK(S:Sy)(t:cD)(v:Nat):Prop:=v < S.n\/S.kd (v - S.n)≠3\/S.to (v - S.n) < t.y v
def Sy.tH(S:Sy)(t:cD)(w:Rat)(v:Nat):Prop:=(0 < w->S.uo t v)/\(w < 0->S.tK t v)
def Sy.rf(S:Sy)(t:cD):Prop:= ∀v,S.n<=v->v < S.n+S.m->t.y v<=S.to (v - S.n)/\(S.kd (v - S.n)=3->t.y v=S.to (v - S.n))
def kL(q:Rat):Rat:=if 0 < q then 1 else -1
noncomputable def cD.dir(t:cD)(m v:Nat)(w:Rat):Nat->Rat:=λk=>open Classical in if k=v then w else if h:∃j,j < m/\t.ah j=k then t.c h.choose v * w else 0
theorem rY(t:cD)(m v:Nat)(w:Rat):t.dir m v w v=w:=by unfold cD.dir;rw [if_pos rfl]
theorem uJ{S:Sy}{t:cD}(ok:S.OK t){v:Nat}(w:Rat){j:Nat}(b:j < S.m)(hv:¬t.gB S.m v):t.dir S.m v w (t.ah j)=t.c j v * w:=by unfold cD.dir;have d:t.ah j≠v:=λe=>hv ⟨j,b,e⟩;have a:∃k,k < S.m/\t.ah k=t.ah j:=⟨j,b,rfl⟩;rw [if_neg d,dif_pos a];have hs:=a.choose_spec;have:a.choose=j:=ok.wf.inj _ _ hs.1 b hs.2;rw [this]
theorem rX{m:Nat}(t:cD){v:Nat}(w:Rat){k:Nat}(b:k≠v)(c:¬t.gB m k):t.dir m v w k=0:=by unfold cD.dir;have a:¬∃j,j < m/\t.ah j=k:=c;rw [if_neg b,dif_neg a]
theorem Nl{S:Sy}{t:cD}(ok:S.OK t){v:Nat}(w:Rat)(hv:¬t.gB S.m v)(c:v < S.n+S.m):gr S.n S.m S.A (t.dir S.m v w):=by
 refine(ok.wf.same _).1 (λj a=> ?_);rw [uJ ok w a hv,kM c,rY];intro k d b;by_cases hb:t.gB S.m k
 .obtain⟨i,hi,e⟩:=hb;rw [<-e,ok.wf.z j i a hi,WQ]
 .rw [rX t w b hb,WT]
theorem P9{S:Sy}{G:Nat->Rat}{t:cD}{g:Nat->Rat}(c:S.xf G t g){v:Nat}(w:Rat)(b:v < S.n+S.m):
  sm (S.n+S.m) (λk=>g k * t.dir S.m v w k)=g v * w:=by
 rw [kM b,rY];intro k d a;by_cases hb:t.gB S.m k
 .obtain⟨i,hi,e⟩:=hb;rw [<-e,c.z i hi,WQ]
 .rw [rX t w a hb,WT]
structure Sy.Bt (S:Sy) (t:cD) (g:Nat->Rat) (t':cD) (i v:Nat):Prop where
 hi:i < S.m
 hv:v < S.n+S.m
 ne:g v≠0
 can:S.tH t (g v) v
 low:∀u,u < v->g u≠0->¬S.tH t (g u) u
 bn:S.n<=t.ah i
 bd: 0 < t.c i v * kL (g v)\/t.c i v * kL (g v) < 0/\S.kd (t.ah i - S.n)=3
 iI:∀j,j < S.m->S.n<=t.ah j->(0 < t.c j v * kL (g v)\/t.c j v * kL (g v) < 0/\S.kd (t.ah j - S.n)=3)->
  (S.to (t.ah i - S.n) - t.y (t.ah i)) / (t.c i v * kL (g v))<=(S.to (t.ah j - S.n) - t.y (t.ah j)) / (t.c j v * kL (g v))/\
  ((S.to (t.ah i - S.n) - t.y (t.ah i)) / (t.c i v * kL (g v))= (S.to (t.ah j - S.n) - t.y (t.ah j)) / (t.c j v * kL (g v))->t.ah i<=t.ah j)
 ah:t'.ah=ic t.ah i v
 y':∀k,k < S.n+S.m->t'.y k=t.y k+ (S.to (t.ah i - S.n) - t.y (t.ah i)) / (t.c i v * kL (g v)) * t.dir S.m v (kL (g v)) k
theorem Bt.nb{S:Sy}{G:Nat->Rat}{t c:cD}{g:Nat->Rat}{i v:Nat}(a:S.xf G t g)(k:S.Bt t g c i v):¬t.gB S.m v:=by rintro⟨j,b,e⟩;exact k.ne (by rw [<-e];exact a.z j b)
theorem R8{a d:Rat}(h: 0 < d/\0<=a\/a=0): 0<=a / d:=by
 rcases h with⟨h1,b⟩ | h
 .rw [WM];exact Zi b (ZF (Rat.inv_pos.2 h1))
 .rw [h,WM,WQ];exact XM
open Go Go.Aev
end Go.Aev.Tb
namespace Go.Aev.Wd.Lg
open Go Go.Aev Go.Aev.Gen Go.Aev.Wd Go.Aev.Tb
def aM(n:Nat)(rows:List R):Sy:=⟨n,rows.length,λi k=>(((bc rows i).of.getD k 0:Int):Rat),λi=>(bc rows i).kd,λi=>((bc rows i).tv:Rat)⟩
def TL.st(t:TL):cD:=⟨λi=>t.ah.getD i 0,λi k=>nv (aq (az t.al i) k),λv=>nv (aI t.val v).1,λv=>nv (aI t.val v).2⟩
structure gv (n:Nat) (rows:List R):Prop where
 sz:Sz n rows
 of:∀r∈rows,∀c∈r.of, -1000000<=c/\c<=1000000
 len:∀r∈rows,r.of.length<=n
 kd:∀r∈rows,r.kd=1\/r.kd=2\/r.kd=3
def vv(a:Vl):Rat×Rat:=(nv a.1,nv a.2)
theorem uE(p q:Rat):cq p q < 0↔p < q:=by
 unfold cq;by_cases h:p < q
 .rw [if_pos h];exact⟨λ_=>h,λ_=>by decide⟩
 .rw [if_neg h];by_cases b:p=q
  .rw [if_pos b];exact⟨λa=>absurd a (by decide),λa=>absurd a h⟩
  .rw [if_neg b];exact⟨λa=>absurd a (by decide),λa=>absurd a h⟩
theorem ko(p q:Rat):cq p q=0↔p=q:=by
 unfold cq;by_cases h:p < q
 .rw [if_pos h];exact⟨λa=>absurd a (by decide),λa=>by rw [a] at h;exact absurd h (by grind)⟩
 .rw [if_neg h];by_cases b:p=q
  .rw [if_pos b];exact⟨λ_=>b,λ_=>rfl⟩
  .rw [if_neg b];exact⟨λa=>absurd a (by decide),λa=>absurd a b⟩
theorem B4(p q:Rat):cq p q > 0↔q < p:=by
 have h1:=uE p q;have d:=ko p q;constructor
 .intro h;have a:¬p < q:=λc=>by have:=h1.2 c;omega
  have b:¬p=q:=λc=>by have:=d.2 c;omega
  grind
 .intro h;have a:¬cq p q < 0:=λc=>by have:=h1.1 c;grind
  have b:¬cq p q=0:=λc=>by have:=d.1 c;grind
  omega
theorem yI(a b:Vl):eU a b < 0↔eY (vv a) (vv b):=by
 unfold eU eY vv;by_cases h:cq (nv a.1) (nv b.1)=0
 .rw [if_pos h,uE];have:=(ko _ _).1 h;constructor
  .intro c;exact .inr ⟨this,c⟩
  .rintro(c | ⟨_,c⟩)
   .simp only at c;rw [this] at c;exact absurd c (by grind)
   .exact c
 .rw [if_neg h,uE];constructor
  .intro c;exact .inl c
  .rintro(c | ⟨c,_⟩)
   .exact c
   .exact absurd ((ko _ _).2 c) h
theorem yH(a b:Vl):eU a b > 0↔eY (vv b) (vv a):=by
 unfold eU eY vv;by_cases h:cq (nv a.1) (nv b.1)=0
 .rw [if_pos h,B4];have:=(ko _ _).1 h;constructor
  .intro c;exact .inr ⟨this.symm,c⟩
  .rintro(c | ⟨_,c⟩)
   .simp only at c;rw [this] at c;exact absurd c (by grind)
   .exact c
 .rw [if_neg h,B4];constructor
  .intro c;exact .inl c
  .rintro(c | ⟨c,_⟩)
   .exact c
   .exact absurd ((ko _ _).2 c.symm) h
theorem wK{n:Nat}{rows:List R}{v:Nat}(h:¬v < n):vv (bU n rows v)= (aM n rows).up v:=by
 unfold vv bU Sy.up aM;simp only [if_neg h];by_cases a:(bc rows (v - n)).kd=2
 .simp only [a,if_true];rfl
 .simp only [a,if_false];rfl
theorem l8{n:Nat}{rows:List R}{v:Nat}:fy n rows v=true↔¬v < n/\(aM n rows).kd (v - n)=3:=by unfold fy aM;simp
theorem vD{n:Nat}{rows:List R}{v:Nat}(h:fy n rows v=true):vv (iL n rows v)= (aM n rows).up v:=by
 have a:=l8.1 h;unfold vv iL Sy.up;simp only [if_pos h];have b:¬(aM n rows).kd (v - (aM n rows).n)=2:=by show ¬(aM n rows).kd (v - n)=2;rw [a.2];decide
 rw [if_neg b];rfl
theorem tG(t:TL)(v:Nat):t.st.val v=vv (aI t.val v):=rfl
theorem BZ{n:Nat}{rows:List R}(t:TL)(v:Nat){w:Int}(d:w≠0):fq n rows t.val v w=true↔(if w > 0 then(aM n rows).tJ t.st v else(aM n rows).tI t.st v):=by
 unfold fq;by_cases h:w > 0
 .rw [if_pos h,if_pos h];unfold Sy.tJ;show _↔v < n\/_;by_cases hv:v < n
  .simp [hv]
  .rw [<-wK hv,tG,<-yI];simp [hv]
 .rw [if_neg h,if_neg h];unfold Sy.tI;show _↔v < n\/_\/_;cases b:fy n rows v
  .have:¬(¬v < n/\(aM n rows).kd (v - n)=3):=λc=>by rw [l8.2 c] at b;cases b
   simp only [Vp,Zy,true_iff];by_cases hv:v < n
   .exact .inl hv
   .exact .inr (.inl λc=>this ⟨hv,c⟩)
  .have c:=l8.1 b;have e:=vD b;simp only [Vn,Wz,decide_eq_true_eq];rw [yH,e,<-tG];constructor
   .intro a;exact .inr (.inr a)
   .rintro(a | a | a)
    .exact absurd a c.1
    .exact absurd c.2 a
    .exact a
def bF(n:Nat)(rows:List R)(t:TL)(b:Nat):Int:=if eY ((aM n rows).up b) (t.st.val b) then -1 else 1
theorem AZ(n:Nat)(rows:List R)(t:TL)(b:Nat):(aM n rows).ak t.st b= ((bF n rows t b:Int):Rat):=by unfold Sy.ak bF;split <;> rfl
theorem UN{a b:Rat×Rat}(h:eY a b):¬eY b a:=by unfold eY at *;grind
theorem FE{n:Nat}{rows:List R}(t:TL)(b:Nat)(r:List Nat)(p:Int×Int)(hs:¬(p.1>=0/\(b:Int) > p.1)):
  ((aM n rows).gD t.st b/\cS n rows t.val (b::r) p=cS n rows t.val r ((b:Int),bF n rows t b))\/
  (¬(aM n rows).gD t.st b/\cS n rows t.val (b::r) p=cS n rows t.val r p):=by
 rw [cS,if_neg hs];by_cases h1:fy n rows b=true/\eU (aI t.val b) (iL n rows b) < 0
 .rw [if_pos h1];have f:=l8.1 h1.1;have a:=(yI _ _).1 h1.2;rw [vD h1.1,<-tG] at a;refine .inl ⟨⟨XJ f.1, .inr ⟨f.2,a⟩⟩, ?_⟩;unfold bF;rw [if_neg (UN a)]
 .rw [if_neg h1];by_cases d:¬b < n/\eU (aI t.val b) (bU n rows b) > 0
  .rw [if_pos d];have a:=(yH _ _).1 d.2;rw [wK d.1,<-tG] at a;refine .inl ⟨⟨XJ d.1, .inl a⟩, ?_⟩;unfold bF;rw [if_pos a]
  .rw [if_neg d];refine .inr ⟨?_,rfl⟩;rintro⟨g,h | ⟨i,h⟩⟩
   .have c:¬b < n:=Xu.2 g;refine d ⟨c,(yH _ _).2 ?_⟩;rw [wK c,<-tG];exact h
   .have c:¬b < n:=Xu.2 g;have e:fy n rows b=true:=l8.2 ⟨c,i⟩;refine h1 ⟨e,(yI _ _).2 ?_⟩;rw [vD e,<-tG];exact h
theorem yA{n:Nat}{rows:List R}(t:TL):∀(l:List Nat) (a:Nat),(aM n rows).gD t.st a->
  ∃b,(b=a\/b∈l)/\(aM n rows).gD t.st b/\b<=a/\(∀u∈l,(aM n rows).gD t.st u->b<=u)/\cS n rows t.val l ((a:Int),bF n rows t a)= ((b:Int),bF n rows t b)
 | [],a,h=>⟨a, .inl rfl,h,Vs _,(λu hu=>by cases hu),rfl⟩
 | c::l,a,h=>by
  by_cases hs:((a:Int),bF n rows t a).1>=0/\(c:Int) > ((a:Int),bF n rows t a).1
  .obtain⟨b,h1,f,g,i,j⟩:=yA t l a h;refine⟨b, ?_,f,g,λu hu d=> ?_,by rw [cS,if_pos hs];exact j⟩
   .rcases h1 with h1 | h1
    .exact .inl h1
    .exact .inr (Va _ h1)
   .rcases Vk.1 hu with rfl | hu
    .have:=hs.2;simp only at this;omega
    .exact i u hu d
  .have m:c<=a:=by simp only at hs;omega
   rcases FE (n:=n) (rows:=rows) t c l _ hs with⟨k,e⟩ | ⟨k,e⟩
   .obtain⟨b,h1,f,g,i,j⟩:=yA t l c k;refine⟨b, ?_,f,by omega,λu hu d=> ?_,by rw [e];exact j⟩
    .rcases h1 with h1 | h1
     .exact .inr (by rw [h1];exact U9)
     .exact .inr (Va _ h1)
    .rcases Vk.1 hu with rfl | hu
     .exact g
     .exact i u hu d
   .obtain⟨b,h1,f,g,i,j⟩:=yA t l a h;refine⟨b, ?_,f,g,λu hu d=> ?_,by rw [e];exact j⟩
    .rcases h1 with h1 | h1
     .exact .inl h1
     .exact .inr (Va _ h1)
    .rcases Vk.1 hu with rfl | hu
     .exact absurd d k
     .exact i u hu d
theorem FD{n:Nat}{rows:List R}(t:TL):∀(l:List Nat),
  ((∀u∈l,¬(aM n rows).gD t.st u)/\cS n rows t.val l (-1,0)= (-1,0))\/
  ∃b,b∈l/\(aM n rows).gD t.st b/\(∀u∈l,(aM n rows).gD t.st u->b<=u)/\cS n rows t.val l (-1,0)= ((b:Int),bF n rows t b)
 | []=> .inl ⟨λu hu=>(by cases hu),rfl⟩
 | c::l=>by
  have hs:¬(((-1:Int),(0:Int)).1>=0/\(c:Int) > ((-1:Int),(0:Int)).1):=λh=>absurd h.1 (by decide);rcases FE (n:=n) (rows:=rows) t c l _ hs with⟨f,e⟩ | ⟨f,e⟩
  .obtain⟨b,h1,d,g,i,j⟩:=yA t l c f;refine .inr ⟨b, ?_,d,λu hu a=> ?_,by rw [e];exact j⟩
   .rcases h1 with h1 | h1
    .rw [h1];exact U9
    .exact Va _ h1
   .rcases Vk.1 hu with rfl | hu
    .exact g
    .exact i u hu a
  .rcases FD t l with⟨h1,d⟩ | ⟨b,h1,d,g,i⟩
   .refine .inl ⟨λu hu=> ?_,by rw [e];exact d⟩;rcases Vk.1 hu with rfl | hu
    .exact f
    .exact h1 u hu
   .refine .inr ⟨b,Va _ h1,d,λu hu a=> ?_,by rw [e];exact i⟩;rcases Vk.1 hu with rfl | hu
    .exact absurd a f
    .exact g u hu a
theorem kW{n:Nat}{rows:List R}{val:List Vl}{ak:Int}:∀{row:List Nm} {k v:Nat},aW n rows val ak row k=some v->
  k<=v/\v < k+row.length/\nv (aq row (v - k))≠0/\fq n rows val v (ak * (nv (aq row (v - k))).num.sign)=true/\
  ∀u,k<=u->u < v->nv (aq row (u - k))≠0->fq n rows val u (ak * (nv (aq row (u - k))).num.sign)=false
 | [],_,_,h=>by simp [aW] at h
 | x::xs,k,v,h=>by
  rw [aW] at h;by_cases b:nv x≠0/\fq n rows val k (ak * (nv x).num.sign)=true
  .rw [if_pos b] at h;obtain rfl:k=v:=V5 h;refine⟨Vs _,by simp, ?_, ?_,λu h1 f=>by omega⟩
   .rw [XQ];exact b.1
   .rw [XQ];exact b.2
  .rw [if_neg b] at h;obtain⟨h1,f,g,i,j⟩:=kW h;have e:∀u,k+1<=u->aq (x::xs) (u - k)=aq xs (u - (k+1)):=λu c=>by
    have:u - k= (u - (k+1))+1:=by omega
    rw [this];rfl
   refine⟨by omega,by simp only [Vw];omega,by rw [e v h1];exact g,by rw [e v h1];exact i,λu m d a=> ?_⟩;by_cases c:u=k
   .subst c;rw [XQ] at a⊢;have:aq (x::xs) 0=x:=rfl;rw [this] at a⊢;cases l:fq n rows val u (ak * (nv x).num.sign)
    .rfl
    .exact absurd ⟨a,l⟩ b
   .rw [e u (by omega)] at a⊢;exact j u (by omega) d a
theorem zf{n:Nat}{rows:List R}{val:List Vl}{ak:Int}:∀{row:List Nm} {k:Nat},aW n rows val ak row k=none->
  ∀u,k<=u->nv (aq row (u - k))≠0->fq n rows val u (ak * (nv (aq row (u - k))).num.sign)=false
 | [],_,_,u,_,a=>absurd rfl a
 | x::xs,k,h,u,f,a=>by
  rw [aW] at h;by_cases b:nv x≠0/\fq n rows val k (ak * (nv x).num.sign)=true
  .rw [if_pos b] at h;cases h
  .rw [if_neg b] at h;by_cases c:u=k
   .subst c;rw [XQ] at a⊢;have:aq (x::xs) 0=x:=rfl;rw [this] at a⊢;cases d:fq n rows val u (ak * (nv x).num.sign)
    .rfl
    .exact absurd ⟨a,d⟩ b
   .have e:aq (x::xs) (u - k)=aq xs (u - (k+1)):=by
     have:u - k= (u - (k+1))+1:=by omega
     rw [this];rfl
    rw [e] at a⊢;exact zf h u (by omega) a
end Go.Aev.Wd.Lg
