import Derived.Test.YticjdhgokemdlaaGreatMostTwiceQ5
import Derived.Test.YticjdhgokemdlaaGreatMostTwiceQ14
set_option linter.all false
namespace Go.Aev.Tb
open Go Go.Aev
def sm:Nat->(Nat->Rat)->Rat
 | 0,_=>0
 | n+1,f=>sm n f+f n
theorem dv{f g:Nat->Rat}:∀{n:Nat},(∀i,i < n->f i=g i)->sm n f=sm n g
 | 0,_=>rfl
 | n+1,h=>by rw [sm,sm,dv (n:=n) (λi hi=>h i (by omega)),h n (by omega)]
theorem Eo:∀(n:Nat),sm n (λ_=>0)=0
 | 0=>rfl
 | n+1=>by rw [sm,Eo n];grind
theorem mz{n:Nat}{f:Nat->Rat}(h:∀i,i < n->f i=0):sm n f=0:=by rw [dv h,Eo]
theorem lG(x y:Rat)(f g:Nat->Rat):∀(n:Nat),sm n (λi=>x * f i+y * g i)=x * sm n f+y * sm n g
 | 0=>by simp only [sm];grind
 | n+1=>by have:=lG x y f g n;simp only [sm];grind
theorem wC(f g:Nat->Rat)(n:Nat):sm n (λi=>f i+g i)=sm n f+sm n g:=by have:=lG 1 1 f g n;simp only [Zp] at this;exact this
theorem pK(x:Rat)(f:Nat->Rat)(n:Nat):sm n (λi=>x * f i)=x * sm n f:=by have:=lG x 0 f (λ_=>0) n;simp only [V8,Ys] at this;exact this
theorem kI{f:Nat->Rat}{v:Nat}:∀{n:Nat},v < n->(∀i,i < n->i≠v->f i=0)->sm n f=f v
 | 0,h,_=>by omega
 | n+1,h,hz=>by
  rw [sm];by_cases hv:v=n
  .subst hv;rw [mz (λi hi=>hz i (by omega) (by omega)),Zh]
  .rw [kI (n:=n) (by omega) (λi hi a=>hz i (by omega) a),hz n (by omega) (by omega),Ys]
theorem oe{n v:Nat}(hv:v < n)(f:Nat->Rat):sm n (λi=>if i=v then f i else 0)=f v:=by rw [kI hv (λi _ a=>if_neg a),if_pos rfl]
theorem En(f:Nat->Nat->Rat)(m:Nat):∀(n:Nat),sm n (λi=>sm m (λj=>f i j))=sm m (λj=>sm n (λi=>f i j))
 | 0=>by simp only [sm];exact(Eo m).symm
 | n+1=>by simp only [sm];rw [En f m n,wC]
theorem Lb{N n:Nat}{nb:Nat->Nat}{f:Nat->Rat}(hb:∀r,r < n->nb r < N)(hi:∀r s,r < n->s < n->nb r=nb s->r=s)
  (hz:∀v,v < N->(∀r,r < n->nb r≠v)->f v=0):sm N f=sm n (λr=>f (nb r)):=by
 have h1:sm N f=sm N (λv=>sm n (λr=>if nb r=v then f v else 0)):=by
  refine dv (λv hv=> ?_);by_cases h:∃r,r < n/\nb r=v
  .obtain⟨r,a,e⟩:=h;rw [kI a (λi b c=>if_neg (λe'=>c (hi _ _ b a (by rw [e',e])))),if_pos e]
  .have d:∀r,r < n->nb r≠v:=λr a e=>h ⟨r,a,e⟩;rw [hz v hv d,mz (λi b=>if_neg (d i b))]
 rw [h1,En];refine dv (λr a=> ?_);rw [kI (hb r a) (λi _ c=>if_neg (λe=>c e.symm)),if_pos rfl]
def skip(i r:Nat):Nat:=if r < i then r else r+1
def sg:Nat->Rat
 | 0=>1
 | i+1=> - sg i
def df:Nat->(Nat->Nat->Rat)->Rat
 | 0,_=>1
 | n+1,M=>sm (n+1) (λi=>sg i * M i 0 * df n (λr c=>M (skip i r) (c+1)))
theorem K9(i r:Nat):skip i r≠i:=by unfold skip;split <;> omega
theorem Tq{i r s:Nat}(h:skip i r=skip i s):r=s:=by unfold skip at h;split at h <;> split at h <;> omega
theorem Ga:∀(n:Nat) (M a b:Nat->Nat->Rat) (p:Nat) (x y:Rat),p < n->(∀r,r≠p->M r=a r/\M r=b r)->(∀c,M p c=x * a p c+y * b p c)->
  df n M=x * df n a+y * df n b
 | 0,_,_,_,_,_,_,h,_,_=>by omega
 | n+1,M,a,b,p,x,y,s,d,g=>by
  simp only [df];rw [<-lG];refine dv (λi hi=> ?_);by_cases e:i=p
  .subst e;have o:(λr c=>M (skip i r) (c+1))= (λr c=>a (skip i r) (c+1)):=by
    funext r c;rw [(d _ (K9 i r)).1]
   have e2:(λr c=>M (skip i r) (c+1))= (λr c=>b (skip i r) (c+1)):=by funext r c;rw [(d _ (K9 i r)).2]
   rw [<-o,<-e2,g 0];grind
  .obtain⟨q,k,l⟩:∃q,skip i q=p/\q < n:=by
    by_cases j:p < i
    .exact⟨p,by unfold skip;rw [if_pos j],by omega⟩
    .exact⟨p - 1,by unfold skip;rw [if_neg (by omega)];omega,by omega⟩
   have:=Ga n (λr c=>M (skip i r) (c+1)) (λr c=>a (skip i r) (c+1)) (λr c=>b (skip i r) (c+1)) q x y l
    (λr m=>by
     have f:skip i r≠p:=λh=>m (Tq (by rw [h,k]));exact⟨by funext c;rw [(d _ f).1],by funext c;rw [(d _ f).2]⟩)
    (λc=>by rw [k];exact g _)
   rw [this,<-(d i e).1,<-(d i e).2];grind
theorem yE:∀(n:Nat) (M:Nat->Nat->Rat) (p:Nat),p+1 < n->M p=M (p+1)->df n M=0
 | 0,_,_,h,_=>by omega
 | n+1,M,p,j,f=>by
  simp only [df];have e:(λr c=>M (skip (p+1) r) (c+1))= (λr c=>M (skip p r) (c+1)):=by
   funext r c;by_cases h1:r < p
   .have a:skip (p+1) r=r:=by unfold skip;rw [if_pos (by omega)]
    have b:skip p r=r:=by unfold skip;rw [if_pos h1]
    rw [a,b]
   .by_cases d:r=p
    .subst d;have a:skip (r+1) r=r:=by unfold skip;rw [if_pos (by omega)]
     have b:skip r r=r+1:=by unfold skip;rw [if_neg (by omega)]
     rw [a,b,f]
    .have a:skip (p+1) r=r+1:=by unfold skip;rw [if_neg (by omega)]
     have b:skip p r=r+1:=by unfold skip;rw [if_neg (by omega)]
     rw [a,b]
  have h1:sm (n+1) (λi=>sg i * M i 0 * df n (λr c=>M (skip i r) (c+1)))=
    sm (n+1) (λi=>(if i=p then sg p * M p 0 * df n (λr c=>M (skip p r) (c+1)) else 0)+ (if i=p+1 then -(sg p * M p 0 * df n (λr c=>M (skip p r) (c+1))) else 0)):=by
   refine dv (λi hi=> ?_);by_cases h1:i=p
   .subst h1;rw [if_pos rfl,if_neg (by omega),Ys]
   .by_cases d:i=p+1
    .subst d;rw [if_neg (by omega),if_pos rfl,e,<-f];simp only [sg];grind
    .rw [if_neg h1,if_neg d];have:df n (λr c=>M (skip i r) (c+1))=0:=by
      by_cases g:p+1 < i
      .refine yE n _ p (by omega) ?_;have a:skip i p=p:=by unfold skip;rw [if_pos (by omega)]
       have b:skip i (p+1)=p+1:=by unfold skip;rw [if_pos g]
       funext c;rw [a,b,f]
      .refine yE n _ (p - 1) (by omega) ?_;have a:skip i (p - 1)=p:=by unfold skip;rw [if_neg (by omega)];omega
       have b:skip i (p - 1+1)=p+1:=by unfold skip;rw [if_neg (by omega)];omega
       funext c;rw [a,b,f]
     rw [this];grind
  rw [h1,wC,oe (v:=p) (by omega) (λ_=>sg p * M p 0 * df n (λr c=>M (skip p r) (c+1))),oe (v:=p+1) (by omega) (λ_=> -(sg p * M p 0 * df n (λr c=>M (skip p r) (c+1))))];grind
def aE(M:Nat->Nat->Rat)(p:Nat)(v:Nat->Rat):Nat->Nat->Rat:=λr=>if r=p then v else M r
theorem lN(M:Nat->Nat->Rat)(p:Nat)(v:Nat->Rat):aE M p v p=v:=if_pos rfl
theorem jC{M:Nat->Nat->Rat}{p r:Nat}(v:Nat->Rat)(h:r≠p):aE M p v r=M r:=if_neg h
theorem Ay(M:Nat->Nat->Rat)(p:Nat):aE M p (M p)=M:=by
 funext r;by_cases h:r=p
 .subst h;exact lN _ _ _
 .exact jC _ h
theorem sA{n:Nat}(M:Nat->Nat->Rat){p:Nat}(b:p < n)(x y:Rat)(u v:Nat->Rat):
  df n (aE M p (λk=>x * u k+y * v k))=x * df n (aE M p u)+y * df n (aE M p v):=by
 refine Ga n _ _ _ p x y b (λr a=> ?_) (λc=> ?_)
 .rw [jC _ a,jC _ a,jC _ a];exact⟨rfl,rfl⟩
 .rw [lN,lN,lN]
theorem Nl{n:Nat}(M:Nat->Nat->Rat){p:Nat}(e:p+1 < n)(u v:Nat->Rat):
  df n (aE (aE M p u) (p+1) v)= - df n (aE (aE M p v) (p+1) u):=by
 have z:∀w,df n (aE (aE M p w) (p+1) w)=0:=λw=>yE n _ p e (by rw [lN,jC _ (by omega),lN]);have c:∀a b,aE (aE M p a) (p+1) b=aE (aE M (p+1) b) p a:=λa b=>by
  funext r;by_cases h1:r=p
  .subst h1;rw [jC _ (by omega),lN,lN]
  .by_cases d:r=p+1
   .subst d;rw [lN,jC _ h1,lN]
   .rw [jC _ d,jC _ h1,jC _ h1,jC _ d]
 have f:=z (λk=>1 * u k+1 * v k);have i:=sA (n:=n) (aE M p (λk=>1 * u k+1 * v k)) e 1 1 u v;have k2:=sA (n:=n) (aE M p (λk=>1 * u k+1 * v k)) (p:=p+1) e 1 1 u v;rw [f] at k2;rw [c,c] at k2;have g:=sA (n:=n) (aE M (p+1) u) (p:=p) (by omega) 1 1 u v;have h:=sA (n:=n) (aE M (p+1) v) (p:=p) (by omega) 1 1 u v;rw [g,h,<-c,<-c,<-c,<-c,z,z] at k2;grind
theorem BW{n:Nat}:∀(d:Nat) (M:Nat->Nat->Rat) (p:Nat),p+d+1 < n->M p=M (p+d+1)->df n M=0
 | 0,M,p,b,a=>yE n M p b a
 | d+1,M,p,b,a=>by
  have e:M=aE (aE M (p+d+1) (M (p+d+1))) (p+d+1+1) (M (p+d+1+1)):=by rw [Ay,Ay]
  rw [e,Nl M (p:=p+d+1) b];rw [BW d _ p (by omega)]
  .grind
  .rw [jC _ (by omega),jC _ (by omega),jC _ (by omega),lN];exact a
theorem Nk{n:Nat}{M:Nat->Nat->Rat}{p q:Nat}(c:p < n)(d:q < n)(b:p≠q)(a:M p=M q):df n M=0:=by
 by_cases h:p < q
 .refine BW (q - p - 1) M p (by omega) ?_;rw [a];congr 1;omega
 .refine BW (p - q - 1) M q (by omega) ?_;rw [<-a];congr 1;omega
theorem Gb{n:Nat}(M:Nat->Nat->Rat){p:Nat}(a:p < n)(c:Nat->Rat)(w:Nat->Nat->Rat):
  ∀(m:Nat),df n (aE M p (λk=>sm m (λr=>c r * w r k)))=sm m (λr=>c r * df n (aE M p (w r)))
 | 0=>by
  have:=sA (n:=n) M a 0 0 (λ_=>0) (λ_=>0);simp only [sm];have e:(λk:Nat=>(0:Rat) * (λ_=>(0:Rat)) k+0 * (λ_=>(0:Rat)) k)= (λ_=>0):=by funext k;grind
  rw [e] at this;rw [this];grind
 | m+1=>by have:=sA (n:=n) M a 1 (c m) (λk=>sm m (λr=>c r * w r k)) (w m);simp only [Zp] at this;simp only [sm];rw [this,Gb M a c w m]
theorem F2{n:Nat}(M:Nat->Nat->Rat){p:Nat}(b:p < n)(c:Nat->Rat)(u:Nat->Rat)(d:∀k,u k=sm n (λr=>c r * M r k)):
  df n (aE M p u)=c p * df n M:=by
 have e:u=λk=>sm n (λr=>c r * M r k):=funext d;rw [e,Gb M b c M n,kI b (λi hi a=> ?_),Ay];rw [Nk (p:=p) (q:=i) b hi (λh=>a h.symm) (by rw [lN,jC _ a])];grind
def aU(B:Nat)(q:Rat):Prop:= ∃z:Int,q= (z:Rat)/\z.natAbs<=B
theorem aU.add{A B:Nat}{p q:Rat}(h:aU A p)(k:aU B q):aU (A+B) (p+q):=by obtain⟨x,rfl,a⟩:=h;obtain⟨y,rfl,hy⟩:=k;exact⟨x+y,by rw [Rat.intCast_add],by omega⟩
theorem aU.mul{A B:Nat}{p q:Rat}(h:aU A p)(k:aU B q):aU (A * B) (p * q):=by obtain⟨x,rfl,a⟩:=h;obtain⟨y,rfl,hy⟩:=k;exact⟨x * y,by rw [ZP],by rw [Wi];exact YL a hy⟩
theorem aU.neg{A:Nat}{p:Rat}(h:aU A p):aU A (-p):=by obtain⟨x,rfl,a⟩:=h;exact⟨-x,by rw [Rat.intCast_neg],by omega⟩
theorem aU.mono{A B:Nat}{p:Rat}(h:aU A p)(a:A<=B):aU B p:=by obtain⟨x,e,b⟩:=h;exact⟨x,e,by omega⟩
theorem aU.zero(B:Nat):aU B 0:=⟨0,rfl,by omega⟩
theorem aU.int{z:Int}{B:Nat}(h:z.natAbs<=B):aU B (z:Rat):=⟨z,rfl,h⟩
theorem K6:∀(i:Nat),aU 1 (sg i)
 | 0=>⟨1,rfl,by decide⟩
 | i+1=>(K6 i).neg
theorem wE{B:Nat}{f:Nat->Rat}:∀{n:Nat},(∀i,i < n->aU B (f i))->aU (n * B) (sm n f)
 | 0,_=>aU.zero _
 | n+1,h=>by rw [sm,Wm];exact(wE (λi hi=>h i (by omega))).add (h n (by omega))
def bd(K:Nat):Nat->Nat
 | 0=>1
 | n+1=>(n+1) * (K * bd K n)
theorem BX{K:Nat}:∀(n:Nat) (M:Nat->Nat->Rat),(∀r c,r < n->aU K (M r c))->aU (bd K n) (df n M)
 | 0,_,_=>⟨1,rfl,Vq _⟩
 | n+1,M,h=>by rw [df,bd];refine wE (λi hi=> ?_);have h1:=((K6 i).mul (h i 0 hi)).mul (BX n (λr c=>M (skip i r) (c+1)) (λr c a=>h _ _ (by unfold skip;split <;> omega)));rw [Nat.one_mul] at h1;exact h1
open Go Go.Aev
theorem La{n N:Nat}{f:Nat->Rat}(h:n<=N)(hz:∀k,n<=k->k < N->f k=0):sm N f=sm n f:=
 Lb (nb:=λr=>r) (λr c=>by omega) (λr s _ _ e=>e) (λv hv b=>hz v (by
  by_cases a:v < n
  .exact absurd rfl (b v a)
  .omega) hv)
def av(n:Nat)(A:Nat->Nat->Rat)(v:Nat):Nat->Rat:=λk=>if k < n then(if v < n then(if k=v then 1 else 0) else A (v - n) k) else 0
def eW(n m:Nat)(A:Nat->Nat->Rat)(y:Nat->Rat):Prop:= ∀i,i < m->y (n+i)=sm n (λk=>A i k * y k)
def AI(N m:Nat)(af:Nat->Nat)(c:Nat->Nat->Rat)(y:Nat->Rat):Prop:= ∀i,i < m->y (af i)=sm N (λk=>c i k * y k)
structure WF (n m:Nat) (A:Nat->Nat->Rat) (af:Nat->Nat) (c:Nat->Nat->Rat):Prop where
 hb:∀i,i < m->af i < n+m
 inj:∀i j,i < m->j < m->af i=af j->i=j
 z:∀i j,i < m->j < m->c i (af j)=0
 same:∀y,AI (n+m) m af c y↔eW n m A y
 nb:∃nb:Nat->Nat,(∀r,r < n->nb r < n+m)/\(∀r s,r < n->s < n->nb r=nb s->r=s)/\(∀r i,r < n->i < m->nb r≠af i)/\
  (∀v,v < n+m->(∃r,r < n/\nb r=v)\/∃i,i < m/\af i=v)/\df n (λr=>av n A (nb r))≠0
theorem F9:∀(n:Nat),df n (λr c=>if c < n then(if c=r then 1 else 0) else 0)=1
 | 0=>rfl
 | n+1=>by
  rw [df,kI (v:=0) (by omega)]
  .have e:(λr c=>if c+1 < n+1 then(if c+1=skip 0 r then(1:Rat) else 0) else 0)= (λr c=>if c < n then(if c=r then 1 else 0) else 0):=by
    funext r c;have hs:skip 0 r=r+1:=by unfold skip;rw [if_neg (by omega)]
    rw [hs];have h1:(c+1 < n+1)= (c < n):=by simp
    have b:(c+1=r+1)= (c=r):=by simp
    simp only [h1,b]
   rw [e,F9 n,if_pos (by omega),if_pos rfl];simp only [sg];grind
  .intro i hi a;rw [if_pos (by omega),if_neg (λh=>a h.symm)];grind
theorem UW(n m:Nat)(A:Nat->Nat->Rat):WF n m A (λi=>n+i) (λi k=>if k < n then A i k else 0) where
 hb:=λi hi=>by omega
 inj:=λi j _ _ h=>by omega
 z:=λi j _ _=>if_neg (by omega)
 same:=λy=>by
  have e:∀i,sm (n+m) (λk=>(if k < n then A i k else 0) * y k)=sm n (λk=>A i k * y k):=λi=>by rw [La (n:=n) (by omega) (λk h _=>by rw [if_neg (by omega),V8])];exact dv (λk hk=>by rw [if_pos hk])
  unfold AI eW;constructor
  .intro h i hi;rw [h i hi,e]
  .intro h i hi;rw [h i hi,e]
 nb:=by
  refine⟨λr=>r,λr hr=>by dsimp only;omega,λr s _ _ e=>e,λr i hr _=>by dsimp only;omega,λv hv=> ?_, ?_⟩
  .by_cases h:v < n
   .exact .inl ⟨v,h,rfl⟩
   .exact .inr ⟨v - n,by omega,by omega⟩
  .have e:∀(N:Nat) (M M':Nat->Nat->Rat),(∀r,r < N->M r=M' r)->df N M=df N M':=by
    intro N;induction N with
    | zero=>intros;rfl
    | succ N ih=>intro M M' h;rw [df,df];refine dv (λi hi=> ?_);rw [h i hi,ih _ (λr c=>M' (skip i r) (c+1)) (λr hr=>by funext c;rw [h _ (by unfold skip;split <;> omega)])]
   rw [e n (λr=>av n A r) (λr c=>if c < n then(if c=r then 1 else 0) else 0) (λr hr=>by
    funext c;unfold av;rw [if_pos hr]),F9]
   grind
theorem Bx{n m:Nat}(A:Nat->Nat->Rat)(k:Nat):eW n m A (λv=>av n A v k):=by
 intro i _;unfold av;dsimp only;by_cases a:k < n
 .rw [if_pos a,if_neg (by omega)];have e:n+i - n=i:=by omega
  rw [e,kI a]
  .rw [if_pos a,if_pos a,if_pos rfl];grind
  .intro j c b;rw [if_pos a,if_pos c,if_neg (λh=>b h.symm)];grind
 .rw [if_neg a];exact(mz (λj _=>by rw [if_neg a];grind)).symm
theorem WF.sum{n m:Nat}{A:Nat->Nat->Rat}{af:Nat->Nat}{c:Nat->Nat->Rat}{nb:Nat->Nat}
  (h1:∀r,r < n->nb r < n+m) (a:∀r s,r < n->s < n->nb r=nb s->r=s) (b:∀v,v < n+m->(∃r,r < n/\nb r=v)\/∃i,i < m/\af i=v)
  {l:Nat->Rat} (hz:∀j,j < m->l (af j)=0) (y:Nat->Rat):sm (n+m) (λk=>l k * y k)=sm n (λr=>l (nb r) * y (nb r)):=by
 refine Lb h1 a (λv hv d=> ?_);rcases b v hv with⟨r,f,e⟩ | ⟨i,hi,e⟩
 .exact absurd e (d r f)
 .rw [<-e,hz i hi,V8]
def gJ(x:Nat->Rat)(b v:Nat)(k:Nat):Rat:=if k=b then 1 / x v else if k=v then 0 else -(x k / x v)
def kE(row:Nat->Rat)(v:Nat)(l:Nat->Rat)(k:Nat):Rat:=if k=v then 0 else l k+l v * row k
theorem Kd{N:Nat}{x:Nat->Rat}{b v:Nat}(hb:b < N)(hv:v < N)(c:b≠v)(d:x b=0)(f:x v≠0)(y:Nat->Rat):
  sm N (λk=>gJ x b v k * y k)= (y b - sm N (λk=>x k * y k)) / x v+y v:=by
 have e:sm N (λk=>gJ x b v k * y k)=sm N (λk=>(-(1 / x v) * (x k * y k)+1 * (if k=v then y k else 0))+ (1 / x v) * (if k=b then y k else 0)):=by
  refine dv (λk _=> ?_);unfold gJ;by_cases h1:k=b
  .subst h1;rw [if_pos rfl,if_neg c,if_pos rfl,d];grind
  .by_cases a:k=v
   .subst a;rw [if_neg h1,if_pos rfl,if_pos rfl,if_neg h1];have: 1 / x k * x k=1:=by rw [Wv,Zp];exact Rat.inv_mul_cancel _ f
    grind
   .rw [if_neg h1,if_neg a,if_neg a,if_neg h1,Wv,Wv];grind
 have e2:=wC (λk=> -(1 / x v) * (x k * y k)+1 * (if k=v then y k else 0)) (λk=>(1 / x v) * (if k=b then y k else 0)) N;rw [e,e2,lG,pK,oe hv y,oe hb y,Wv,Wv];grind
theorem DD{N:Nat}{row l:Nat->Rat}{v:Nat}(hv:v < N)(b:row v=0)(y:Nat->Rat):
  sm N (λk=>kE row v l k * y k)=sm N (λk=>l k * y k)+l v * (sm N (λk=>row k * y k) - y v):=by
 have e:sm N (λk=>kE row v l k * y k)=sm N (λk=>(1 * (l k * y k)+l v * (row k * y k))+ (-(l v)) * (if k=v then y k else 0)):=by
  refine dv (λk _=> ?_);unfold kE;by_cases a:k=v
  .subst a;rw [if_pos rfl,if_pos rfl,b];grind
  .rw [if_neg a,if_neg a];grind
 have e2:=wC (λk=>1 * (l k * y k)+l v * (row k * y k)) (λk=>(-(l v)) * (if k=v then y k else 0)) N;rw [e,e2,lG,pK,oe hv y];grind
def gh(af:Nat->Nat)(i v:Nat):Nat->Nat:=λj=>if j=i then v else af j
def pA(c:Nat->Nat->Rat)(af:Nat->Nat)(i v:Nat):Nat->Nat->Rat:=λj=>if j=i then gJ (c i) (af i) v else kE (gJ (c i) (af i) v) v (c j)
theorem vT{x:Nat->Rat}{b v:Nat}(a:b≠v):gJ x b v v=0:=by unfold gJ;rw [if_neg (λh=>a h.symm),if_pos rfl]
theorem UX{n m:Nat}{A:Nat->Nat->Rat}{af:Nat->Nat}{c:Nat->Nat->Rat}(w:WF n m A af c){i v:Nat}(hi:i < m)(hv:v < n+m)
  (t:c i v≠0):WF n m A (gh af i v) (pA c af i v):=by
 have b:∀j,j < m->af j≠v:=λj a e=>t (by rw [<-e];exact w.z i j hi a);have B:=w.hb i hi;have K:=w.z i i hi hi;refine⟨λj a=> ?_,λj k a f e=> ?_,λj k a f=> ?_,λy=> ?_, ?_⟩
 .unfold gh;split
  .exact hv
  .exact w.hb j a
 .unfold gh at e;split at e <;> split at e
  .omega
  .exact absurd e.symm (b k f)
  .exact absurd e (b j a)
  .exact w.inj j k a f e
 .unfold gh pA;by_cases h1:k=i
  .subst h1;rw [if_pos rfl];split
   .exact vT (b k hi)
   .unfold kE;rw [if_pos rfl]
  .rw [if_neg h1];have J:af k≠af i:=λe=>h1 (w.inj k i f hi e);have I:gJ (c i) (af i) v (af k)=0:=by
    unfold gJ;rw [if_neg J,if_neg (b k f),w.z i k hi f,Wv];grind
   split
   .exact I
   .unfold kE;rw [if_neg (b k f),w.z j k a f,I];grind
 .rw [<-w.same y];have q:=Kd B hv (b i hi) K t y;have C:=vT (x:=c i) (b i hi);have M:c i v * (c i v)⁻¹ =1:=Yf _ t;constructor
  .intro h;have g:y v=sm (n+m) (λk=>gJ (c i) (af i) v k * y k):=by
    have:=h i hi;unfold gh pA at this;rw [if_pos rfl] at this;simpa using this
   have o:y (af i)=sm (n+m) (λk=>c i k * y k):=by
    rw [g.symm,Wv] at q;have:(y (af i) - sm (n+m) (λk=>c i k * y k)) * (c i v)⁻¹ * c i v=0:=by
     have:(y (af i) - sm (n+m) (λk=>c i k * y k)) * (c i v)⁻¹ =0:=by grind
     rw [this];grind
    grind
   intro j a;by_cases h1:j=i
   .subst h1;exact o
   .have:=h j a;unfold gh pA at this;rw [if_neg h1] at this;simp only [if_neg h1] at this;rw [DD hv C,<-g] at this;grind
  .intro h;have o:=h i hi;have g:sm (n+m) (λk=>gJ (c i) (af i) v k * y k)=y v:=by
    rw [q,<-o,Wv];grind
   intro j a;by_cases h1:j=i
   .subst h1;unfold gh pA;rw [if_pos rfl];simp only [if_pos rfl];exact g.symm
   .unfold gh pA;rw [if_neg h1];simp only [if_neg h1];rw [DD hv C,g,h j a];grind
 .obtain⟨nb,L,F,G,H,O⟩:=w.nb;obtain⟨p,E,D⟩:∃r,r < n/\nb r=v:=by
   rcases H v hv with h | ⟨j,a,e⟩
   .exact h
   .exact absurd e (b j a)
  refine⟨λr=>if r=p then af i else nb r,λr d=> ?_,λr s d hs e=> ?_,λr j d a e=> ?_,λu N=> ?_, ?_⟩
  .dsimp only;split
   .exact B
   .exact L r d
  .dsimp only at e;split at e <;> split at e
   .omega
   .exact absurd e.symm (G s i hs hi)
   .exact absurd e (G r i d hi)
   .exact F r s d hs e
  .dsimp only at e;unfold gh at e;split at e <;> split at e
   .exact b i hi e
   .rename_i h1 l;exact l (w.inj j i a hi e.symm)
   .rename_i h1 l;exact h1 (F r p d E (by rw [e,D]))
   .exact G r j d a e
  .by_cases h1:u=v
   .exact .inr ⟨i,hi,by unfold gh;rw [if_pos rfl,h1]⟩
   .by_cases l:u=af i
    .exact .inl ⟨p,E,by dsimp only;rw [if_pos rfl,l]⟩
    .rcases H u N with⟨r,d,e⟩ | ⟨j,a,e⟩
     .refine .inl ⟨r,d, ?_⟩;dsimp only;rw [if_neg (λh=>h1 (by rw [<-e,h,D])),e]
     .refine .inr ⟨j,a, ?_⟩;unfold gh;rw [if_neg (λh=>l (by rw [<-e,h])),e]
  .have e:(λr=>av n A (if r=p then af i else nb r))=aE (λr=>av n A (nb r)) p (av n A (af i)):=by
    funext r;unfold aE;split <;> rfl
   rw [e,F2 (λr=>av n A (nb r)) E (λr=>c i (nb r)) (av n A (af i)) (λk=> ?_)]
   .rw [D];intro h;rcases ZQ.1 h with h | h
    .exact t h
    .exact O h
   .have:=(w.same _).2 (Bx (m:=m) A k) i hi;rw [this];exact WF.sum (A:=A) (af:=af) (c:=c) L F H (w.z i · hi) _
theorem By{n m K:Nat}{A:Nat->Nat->Rat}(b: 1<=K)(a:∀i k,i < m->k < n->aU K (A i k)){v:Nat}(hv:v < n+m)(k:Nat):aU K (av n A v k):=by
 unfold av;split
 .split
  .split
   .exact⟨1,rfl,b⟩
   .exact aU.zero _
  .exact a _ _ (by omega) (by assumption)
 .exact aU.zero _
theorem WF.den{n m K:Nat}{A:Nat->Nat->Rat}{af:Nat->Nat}{c:Nat->Nat->Rat}(w:WF n m A af c)(d: 1<=K)(b:∀i k,i < m->k < n->aU K (A i k)):
  ∃D:Rat,D≠0/\aU (bd K n) D/\(∀i v,i < m->v < n+m->aU (bd K n) (D * c i v))/\
   (∀(g G:Nat->Rat),(∀j,j < m->g (af j)=0)->(∀k,k < n->aU K (G k))->(∀y,eW n m A y->sm (n+m) (λk=>g k * y k)=sm n (λk=>G k * y k))->
    ∀v,v < n+m->aU (bd K n) (D * g v)):=by
 obtain⟨nb,o,C,F,s,E⟩:=w.nb
 have key:∀(g:Nat->Rat) (u:Nat->Rat),(∀j,j < m->g (af j)=0)->(∀k,aU K (u k))->(∀k,u k=sm (n+m) (λv=>g v * av n A v k))->
   ∀v,v < n+m->aU (bd K n) (df n (λr=>av n A (nb r)) * g v):=by
  intro g u hz B hs v hv;rcases s v hv with⟨p,x,e⟩ | ⟨j,f,e⟩
  .have:=F2 (λr=>av n A (nb r)) x (λr=>g (nb r)) u (λk=>by rw [hs];exact WF.sum (A:=A) (af:=af) (c:=c) o C s hz _);rw [<-e,Zi,<-this];refine BX n _ (λr k l=> ?_);unfold aE;split
   .exact B k
   .exact By d b (o r l) k
  .rw [<-e,hz j f,Wz];exact aU.zero _
 refine⟨_,E,BX n _ (λr k l=>By d b (o r l) k),λi v hi hv=> ?_,λg G hz t hs v hv=> ?_⟩
 .refine key (c i) (av n A (af i)) (w.z i · hi) (By d b (w.hb i hi)) (λk=> ?_) v hv;exact(w.same _).2 (Bx (m:=m) A k) i hi
 .refine key g (λk=>if k < n then G k else 0) hz (λk=> ?_) (λk=> ?_) v hv
  .split
   .exact t k (by assumption)
   .exact aU.zero _
  .rw [hs _ (Bx (m:=m) A k)];unfold av;by_cases a:k < n
   .rw [if_pos a,kI a]
    .rw [if_pos a,if_pos a,if_pos rfl];grind
    .intro j f q;rw [if_pos a,if_pos f,if_neg (λh=>q h.symm)];grind
   .rw [if_neg a];exact(mz (λj _=>by rw [if_neg a];grind)).symm
open Go Go.Aev
structure Sy where
 n:Nat
 m:Nat
 A:Nat->Nat->Rat
 kd:Nat->Int
 to:Nat->Rat
structure bx where
 af:Nat->Nat
 c:Nat->Nat->Rat
 y:Nat->Rat
 z:Nat->Rat
def bx.val(t:bx)(v:Nat):Rat×Rat:=(t.y v,t.z v)
def Sy.up(S:Sy)(v:Nat):Rat×Rat:=(S.to (v - S.n),if S.kd (v - S.n)=2 then -1 else 0)
def dc(a b:Rat×Rat):Prop:=a.1 < b.1\/a.1=b.1/\a.2 < b.2
instance (a b:Rat×Rat):Decidable (dc a b):=by unfold dc;infer_instance
def Sy.fV(S:Sy)(t:bx)(v:Nat):Prop:=S.n<=v/\(dc (S.up v) (t.val v)\/S.kd (v - S.n)=3/\dc (t.val v) (S.up v))
def Sy.tV(S:Sy)(t:bx)(v:Nat):Prop:=v < S.n\/dc (t.val v) (S.up v)
def Sy.tU(S:Sy)(t:bx)(v:Nat):Prop:=v < S.n\/S.kd (v - S.n)≠3\/dc (S.up v) (t.val v)
def Sy.fx(S:Sy)(v:Nat):Rat×Rat:=if v < S.n then(0,0) else S.up v
structure Sy.OK (S:Sy) (t:bx):Prop where
 wf:WF S.n S.m S.A t.af t.c
 hy:eW S.n S.m S.A t.y
 hz:eW S.n S.m S.A t.z
 fix:∀v,v < S.n+S.m->(∀i,i < S.m->t.af i≠v)->t.val v=S.fx v
def Sy.aj(S:Sy)(t:bx)(b:Nat):Rat:=if dc (S.up b) (t.val b) then -1 else 1
def Sy.Can(S:Sy)(t:bx)(w:Rat)(v:Nat):Prop:=(0 < w->S.tV t v)/\(w < 0->S.tU t v)
structure Sy.Step (S:Sy) (t t':bx) (i v:Nat):Prop where
 hi:i < S.m
 hv:v < S.n+S.m
 BF:S.fV t (t.af i)
 low:∀j,j < S.m->t.af j < t.af i->¬S.fV t (t.af j)
 ne:t.c i v≠0
 can:S.Can t (S.aj t (t.af i) * t.c i v) v
 QM:∀u,u < v->t.c i u≠0->¬S.Can t (S.aj t (t.af i) * t.c i u) u
 af:t'.af=gh t.af i v
def bx.bN(t:bx)(m:Nat)(v:Nat):Prop:= ∃i,i < m/\t.af i=v
theorem Cv{P:Nat->Prop}:∀(N:Nat),(∃v,P v)->(∀v,P v->v < N)->∃r,P r/\∀v,P v->v<=r
 | 0,⟨v,h⟩,hb=>absurd (hb v h) (by omega)
 | N+1,a,hb=>by
  by_cases h:P N
  .exact⟨N,h,λv hv=>by have:=hb v hv;omega⟩
  .exact Cv N a (λv hv=>by
    have:=hb v hv;by_cases e:v=N
    .subst e;exact absurd hv h
    .omega)
def Ps(p q:Rat):Prop:=0 < p\/p=0/\0<=q
theorem Ps.sum{f g:Nat->Rat}:∀{n:Nat},(∀i,i < n->Ps (f i) (g i))->Ps (sm n f) (sm n g)
 | 0,_=> .inr ⟨rfl,WQ⟩
 | n+1,h=>by
  have h1:=Ps.sum (n:=n) (λi hi=>h i (by omega));have a:=h n (by omega);unfold Ps at *
  simp only [sm];grind
theorem Ps.mul{a p q:Rat}(b: 0<=a)(h:Ps p q):Ps (a * p) (a * q):=by
 rcases Rat.le_iff_lt_or_eq.1 b with b | b
 .unfold Ps at *
  rcases h with h | ⟨h,c⟩
  .exact .inl (Rat.mul_pos b h)
  .exact .inr ⟨by rw [h,Wz],XQ (Yt b) c⟩
 .subst b;exact .inr ⟨by grind,by grind⟩
theorem Ps.QY{a p q:Rat}(c:a<=0)(h:Ps (-p) (-q)):Ps (a * p) (a * q):=by
 have:=Ps.mul (a:= -a) (by grind) h;have b: -a * -p=a * p:=by grind
 have e2: -a * -q=a * q:=by grind
 rw [b,e2] at this;exact this
theorem Ps.zero:Ps 0 0:= .inr ⟨rfl,WQ⟩
theorem Kw{S:Sy}{t:bx}(ok:S.OK t){y y':Nat->Rat}(h:eW S.n S.m S.A y)(d:eW S.n S.m S.A y'){i:Nat}(hi:i < S.m):
  y (t.af i) - y' (t.af i)=sm (S.n+S.m) (λk=>t.c i k * (y k - y' k)):=by
 have a:=(ok.wf.same y).2 h i hi;have b:=(ok.wf.same y').2 d i hi;rw [a,b];have e:(λk=>t.c i k * (y k - y' k))= (λk=>1 * (t.c i k * y k)+ (-1) * (t.c i k * y' k)):=by funext k;grind
 rw [e,lG];grind
structure kO (m:Nat) (s:Nat->bx) (l e:Nat->Nat) (a b:Nat):Prop where
 aE:∀t,a<=t->t < b->∀v,(s (t+1)).bN m v↔((s t).bN m v/\v≠l t)\/v=e t
 lb:∀t,a<=t->t < b->(s t).bN m (l t)
 eb:∀t,a<=t->t < b->¬(s t).bN m (e t)
 back:∀v,(s a).bN m v↔(s b).bN m v
theorem kO.CW{m:Nat}{s:Nat->bx}{l e:Nat->Nat}{a b:Nat}(R:kO m s l e a b){v:Nat}(h:∀t,a<=t->t < b->e t≠v){x:Nat}(g:a<=x):∀(d:Nat),x+d<=b->¬(s x).bN m v->¬(s (x+d)).bN m v
 | 0,_,c=>c
 | d+1,i,c=>by
  have:=R.CW h g d (by omega) c;intro h1;rcases(R.aE (x+d) (by omega) (by omega) v).1 h1 with⟨f,_⟩ | f
  .exact this f
  .exact h (x+d) (by omega) (by omega) f.symm
theorem kO.vu{m:Nat}{s:Nat->bx}{l e:Nat->Nat}{a b:Nat}(R:kO m s l e a b){v:Nat}(h:∀t,a<=t->t < b->l t≠v){x:Nat}(f:a<=x):∀(d:Nat),x+d<=b->(s x).bN m v->(s (x+d)).bN m v
 | 0,_,c=>c
 | d+1,g,c=>by have:=R.vu h f d (by omega) c;exact(R.aE (x+d) (by omega) (by omega) v).2 (.inl ⟨this,λh1=>h (x+d) (by omega) (by omega) h1.symm⟩)
theorem kO.enters{m:Nat}{s:Nat->bx}{l e:Nat->Nat}{a b:Nat}(R:kO m s l e a b){p:Nat}(h1:a<=p)(d:p < b):∃q,a<=q/\q < b/\e q=l p:=by
 refine Xo λk=> ?_;have c:∀t,a<=t->t < b->e t≠l p:=λt j hb h=>k ⟨t,j,hb,h⟩;have n:¬(s (p+1)).bN m (l p):=λh=>by
  rcases(R.aE p h1 d _).1 h with⟨_,f⟩ | f
  .exact f rfl
  .exact c p h1 d f.symm
 have g:=R.CW c (x:=p+1) (by omega) (b - (p+1)) (by omega) n;rw [show p+1+ (b - (p+1))=b by omega] at g;have o:¬(s a).bN m (l p):=λh=>g ((R.back _).1 h);have i:=R.CW c (x:=a) (by omega) (p - a) (by omega) o;rw [show a+ (p - a)=p by omega] at i;exact i (R.lb p h1 d)
theorem kO.leaves{m:Nat}{s:Nat->bx}{l e:Nat->Nat}{a b:Nat}(R:kO m s l e a b){p:Nat}(h1:a<=p)(d:p < b):∃q,a<=q/\q < b/\l q=e p:=by refine Xo λj=> ?_;have c:∀t,a<=t->t < b->l t≠e p:=λt i hb h=>j ⟨t,i,hb,h⟩;have k:(s (p+1)).bN m (e p):=(R.aE p h1 d _).2 (.inr rfl);have f:=R.vu c (x:=p+1) (by omega) (b - (p+1)) (by omega) k;rw [show p+1+ (b - (p+1))=b by omega] at f;have g:=R.vu c (x:=a) (by omega) (p - a) (by omega) ((R.back _).2 f);rw [show a+ (p - a)=p by omega] at g;exact R.eb p h1 d g
theorem kO.still{m:Nat}{s:Nat->bx}{l e:Nat->Nat}{a b:Nat}(R:kO m s l e a b){v:Nat}(h:∀t,a<=t->t < b->l t≠v){p q:Nat}
  (f:a<=p) (g:p<=b) (j:a<=q) (i:q<=b) (hb:(s p).bN m v):(s q).bN m v:=by
 have c:=R.vu h f (b - p) (by omega) hb;rw [show p+ (b - p)=b by omega] at c;have d:=R.vu h (x:=a) (by omega) (q - a) (by omega) ((R.back _).2 c);rw [show a+ (q - a)=q by omega] at d;exact d
theorem J7{S:Sy}{t c:bx}(ok:S.OK t){i v:Nat}(hi:i < S.m)(d:¬t.bN S.m v)(h:c.af=gh t.af i v)(u:Nat):c.bN S.m u↔(t.bN S.m u/\u≠t.af i)\/u=v:=by
 unfold bx.bN;rw [h];unfold gh;constructor
 .rintro⟨j,b,e⟩;split at e
  .exact .inr e.symm
  .rename_i a;exact .inl ⟨⟨j,b,e⟩,λh1=>a (ok.wf.inj j i b hi (by rw [e,h1]))⟩
 .rintro(⟨⟨j,b,e⟩,a⟩ | e)
  .exact⟨j,b,by rw [if_neg (λh1=>a (by rw [<-e,h1])),e]⟩
  .exact⟨i,hi,by rw [if_pos rfl,e]⟩
theorem Fu{S:Sy}{t:bx}(ok:S.OK t){v:Nat}(h:t.bN S.m v):v < S.n+S.m:=by obtain⟨i,hi,rfl⟩:=h;exact ok.wf.hb i hi
theorem OK.qF{S:Sy}{t:bx}(ok:S.OK t){v:Nat}(hv:v < S.n+S.m)(h:¬t.bN S.m v):t.val v=S.fx v:=
 ok.fix v hv (λi hi e=>h ⟨i,hi,e⟩)
theorem pS(a:Rat×Rat):¬dc a a:=by unfold dc;grind
theorem MH{S:Sy}{s:Nat->bx}{ii ee:Nat->Nat}{a b:Nat}(hab:a < b)(ok:∀t,S.OK (s t))
  (st:∀t,a<=t->t < b->S.Step (s t) (s (t+1)) (ii t) (ee t)) (back:∀v,(s a).bN S.m v↔(s b).bN S.m v):False:=by
 have C:∀t,a<=t->t < b->¬(s t).bN S.m (ee t):=by rintro t h1 d ⟨j,I,e⟩;have k:=st t h1 d;exact k.ne (by rw [<-e];exact(ok t).wf.z _ _ k.hi I)
 have R:kO S.m s (λt=>(s t).af (ii t)) ee a b:=
  ⟨λt h1 d v=>J7 (ok t) (st t h1 d).hi (C t h1 d) (st t h1 d).af v,λt h1 d=>⟨ii t,(st t h1 d).hi,rfl⟩,C,back⟩
 obtain⟨r,⟨p,K,Q,L⟩,J⟩:=Cv (P:=λv=>∃t,a<=t/\t < b/\(s t).af (ii t)=v) (S.n+S.m) ⟨_,a,Vq _,hab,rfl⟩
  (by rintro v ⟨t,h1,d,rfl⟩;exact(ok t).wf.hb _ (st t h1 d).hi)
 obtain⟨q,g,w,E⟩:=R.enters K Q;simp only [L] at E;have kind:∀t,a<=t->t < b->S.n<=ee t/\S.kd (ee t - S.n)≠3/\S.aj (s t) ((s t).af (ii t)) * (s t).c (ii t) (ee t) < 0:=by
  intro t h1 d;have k:=st t h1 d;obtain⟨q',Y,Z,hl⟩:=R.leaves h1 d;have hn:S.n<=ee t:=by rw [<-hl];exact(st q' Y Z).BF.1
  have hv:=OK.qF (ok t) k.hv (C t h1 d);unfold Sy.fx at hv;rw [if_neg (by omega)] at hv;have hc:=k.can;have hwne:S.aj (s t) ((s t).af (ii t))≠0:=by unfold Sy.aj;split <;> grind
  have hpne:S.aj (s t) ((s t).af (ii t)) * (s t).c (ii t) (ee t)≠0:=λo=>by
   rcases ZQ.1 o with h | h
   .exact hwne h
   .exact k.ne h
  have hneg:¬0 < S.aj (s t) ((s t).af (ii t)) * (s t).c (ii t) (ee t):=λo=>by
   rcases hc.1 o with h | h
   .omega
   .rw [hv] at h;exact pS _ h
  have u:S.aj (s t) ((s t).af (ii t)) * (s t).c (ii t) (ee t) < 0:=by grind
  refine⟨hn, ?_,u⟩;rcases hc.2 u with h | h | h
  .omega
  .exact h
  .rw [hv] at h;exact absurd h (pS _)
 have B:=st q g w;have kp:=st p K Q;obtain⟨t',h1',h2',hs⟩:=R.enters g w;obtain⟨sn,s3,_⟩:=kind t' h1' h2';rw [hs] at sn s3;have sle:(s q).af (ii q)<=r:=J _ ⟨q,g,w,rfl⟩;have slt:(s q).af (ii q) < r:=by
  rcases Nat.lt_or_eq_of_le sle with h | h
  .exact h
  .exact absurd ⟨ii q,B.hi,by rw [h,E]⟩ (C q g w)
 have O:dc (S.up ((s q).af (ii q))) ((s q).val ((s q).af (ii q))):=by
  rcases B.BF.2 with h | ⟨h,_⟩
  .exact h
  .exact absurd h s3
 have N:S.aj (s q) ((s q).af (ii q))= -1:=by unfold Sy.aj;rw [if_pos O]
 have G:∀v,v < r->v < S.n+S.m->S.n<=v->¬S.fV (s p) v:=by
  intro v hvr hvN hvn hb;by_cases f:(s p).bN S.m v
  .obtain⟨j,I,e⟩:=f;exact kp.low j I (by rw [e,L];exact hvr) (by rw [e];exact hb)
  .have:=OK.qF (ok p) hvN f;unfold Sy.fx at this;rw [if_neg (by omega)] at this;rcases hb.2 with h | ⟨_,h⟩
   .rw [this] at h;exact pS _ h
   .rw [this] at h;exact pS _ h
 obtain⟨rn,r3,U⟩:=kind q g w;rw [E] at rn r3 U;have dy:=Kw (ok q) (ok p).hy (ok q).hy B.hi;have dz:=Kw (ok q) (ok p).hz (ok q).hz B.hi;have M:Ps (sm (S.n+S.m) (λk=>(s q).c (ii q) k * ((s p).y k - (s q).y k))) (sm (S.n+S.m) (λk=>(s q).c (ii q) k * ((s p).z k - (s q).z k))):=by
  refine Ps.sum (λk W=> ?_);by_cases f:(s q).bN S.m k
  .obtain⟨j,I,e⟩:=f;have o:(s q).c (ii q) k=0:=by rw [<-e];exact(ok q).wf.z _ _ B.hi I
   rw [o,V8,V8];exact Ps.zero
  .have x:=OK.qF (ok q) W f;by_cases hkr:k=r
   .subst hkr;unfold Sy.fx at x;rw [if_neg (by omega)] at x;have T:=kp.BF;rw [L] at T;rcases T.2 with h | ⟨h,_⟩
    .rw [N] at U;refine Ps.mul (by grind) ?_;rw [<-x] at h;unfold dc bx.val at h;unfold Ps;simp only at h;grind
    .exact absurd h r3
   .by_cases u:k < r
    .by_cases o:(s q).c (ii q) k=0
     .rw [o,V8,V8];exact Ps.zero
     .have A:=B.QM k (by rw [E];exact u) o;rw [N] at A;have D:S.n<=k:=by
       refine Xg λh=>A ⟨λ_=> .inl h,λ_=> .inl h⟩
      unfold Sy.fx at x;rw [if_neg (by omega)] at x;have H:=G k u W D;by_cases X: 0 < (s q).c (ii q) k
      .have V:S.kd (k - S.n)=3:=Xo λV=>A ⟨λh=>by grind,λ_=> .inr (.inl V)⟩;have i:(s p).val k=S.up k:=by
        have l:¬dc (S.up k) ((s p).val k):=λh=>H ⟨D, .inl h⟩;have a2:¬dc ((s p).val k) (S.up k):=λh=>H ⟨D, .inr ⟨V,h⟩⟩;unfold dc at l a2;refine Yj ?_ ?_ <;> grind
       rw [<-x] at i;unfold bx.val at i;have F:=congrArg Prod.fst i;have e2:=congrArg Prod.snd i;simp only at F e2;rw [F,e2];refine Ps.mul (Yt X) ?_;exact .inr ⟨by grind,by grind⟩
      .refine Ps.QY (by grind) ?_;have l:¬dc (S.up k) ((s p).val k):=λh=>H ⟨D, .inl h⟩;rw [<-x] at l;unfold dc bx.val at l;unfold Ps;simp only at l;grind
    .have hnl:∀t,a<=t->t < b->(s t).af (ii t)≠k:=λt h1 d e=>by
      have:=J k ⟨t,h1,d,e⟩;omega
     have hbp:¬(s p).bN S.m k:=λh=>f (R.still hnl K (by omega) g (by omega) h);have i:=OK.qF (ok p) W hbp;rw [<-x] at i;unfold bx.val at i;have F:=congrArg Prod.fst i;have e2:=congrArg Prod.snd i;simp only at F e2;rw [F,e2];exact .inr ⟨by grind,by grind⟩
 rw [<-dy,<-dz] at M;have hsN:=(ok q).wf.hb _ B.hi;have H:=G _ slt hsN sn;have l:¬dc (S.up ((s q).af (ii q))) ((s p).val ((s q).af (ii q))):=λh=>H ⟨sn, .inl h⟩;unfold dc bx.val at O l;unfold Ps at M;simp only at O l;grind
open Go Go.Aev
structure Sy.uc (S:Sy) (G:Nat->Rat) (t:bx) (g:Nat->Rat):Prop where
 z:∀j,j < S.m->g (t.af j)=0
 same:∀y,eW S.n S.m S.A y->sm (S.n+S.m) (λk=>g k * y k)=sm S.n (λk=>G k * y k)
def Sy.uA(S:Sy)(t:bx)(v:Nat):Prop:=v < S.n\/t.y v < S.to (v - S.n)
def Sy.tW(S:Sy)(t:bx)(v:Nat):Prop:=v < S.n\/S.kd (v - S.n)≠3\/S.to (v - S.n) < t.y v
def Sy.tT(S:Sy)(t:bx)(w:Rat)(v:Nat):Prop:=(0 < w->S.uA t v)/\(w < 0->S.tW t v)
def Sy.oD(S:Sy)(t:bx):Prop:= ∀v,S.n<=v->v < S.n+S.m->t.y v<=S.to (v - S.n)/\(S.kd (v - S.n)=3->t.y v=S.to (v - S.n))
def cW(q:Rat):Rat:=if 0 < q then 1 else -1
noncomputable def bx.dir(t:bx)(m v:Nat)(w:Rat):Nat->Rat:=λk=>open Classical in if k=v then w else if h:∃j,j < m/\t.af j=k then t.c h.choose v * w else 0
theorem oT(t:bx)(m v:Nat)(w:Rat):t.dir m v w v=w:=by unfold bx.dir;rw [if_pos rfl]
theorem oS{S:Sy}{t:bx}(ok:S.OK t){v:Nat}(w:Rat){j:Nat}(b:j < S.m)(hv:¬t.bN S.m v):t.dir S.m v w (t.af j)=t.c j v * w:=by unfold bx.dir;have d:t.af j≠v:=λe=>hv ⟨j,b,e⟩;have a:∃k,k < S.m/\t.af k=t.af j:=⟨j,b,rfl⟩;rw [if_neg d,dif_pos a];have hs:=a.choose_spec;have:a.choose=j:=ok.wf.inj _ _ hs.1 b hs.2;rw [this]
theorem nC{m:Nat}(t:bx){v:Nat}(w:Rat){k:Nat}(b:k≠v)(c:¬t.bN m k):t.dir m v w k=0:=by unfold bx.dir;have a:¬∃j,j < m/\t.af j=k:=c;rw [if_neg b,dif_neg a]
theorem Gc{S:Sy}{t:bx}(ok:S.OK t){v:Nat}(w:Rat)(hv:¬t.bN S.m v)(c:v < S.n+S.m):eW S.n S.m S.A (t.dir S.m v w):=by
 refine(ok.wf.same _).1 (λj a=> ?_);rw [oS ok w a hv,kI c,oT];intro k d b;by_cases hb:t.bN S.m k
 .obtain⟨i,hi,e⟩:=hb;rw [<-e,ok.wf.z j i a hi,V8]
 .rw [nC t w b hb,Wz]
theorem CN{S:Sy}{G:Nat->Rat}{t:bx}{g:Nat->Rat}(c:S.uc G t g){v:Nat}(w:Rat)(b:v < S.n+S.m):
  sm (S.n+S.m) (λk=>g k * t.dir S.m v w k)=g v * w:=by
 rw [kI b,oT];intro k d a;by_cases hb:t.bN S.m k
 .obtain⟨i,hi,e⟩:=hb;rw [<-e,c.z i hi,V8]
 .rw [nC t w a hb,Wz]
structure Sy.kR (S:Sy) (t:bx) (g:Nat->Rat) (t':bx) (i v:Nat):Prop where
 hi:i < S.m
 hv:v < S.n+S.m
 ne:g v≠0
 can:S.tT t (g v) v
 low:∀u,u < v->g u≠0->¬S.tT t (g u) u
 bn:S.n<=t.af i
 bd: 0 < t.c i v * cW (g v)\/t.c i v * cW (g v) < 0/\S.kd (t.af i - S.n)=3
 ig:∀j,j < S.m->S.n<=t.af j->(0 < t.c j v * cW (g v)\/t.c j v * cW (g v) < 0/\S.kd (t.af j - S.n)=3)->
  (S.to (t.af i - S.n) - t.y (t.af i)) / (t.c i v * cW (g v))<=(S.to (t.af j - S.n) - t.y (t.af j)) / (t.c j v * cW (g v))/\
  ((S.to (t.af i - S.n) - t.y (t.af i)) / (t.c i v * cW (g v))= (S.to (t.af j - S.n) - t.y (t.af j)) / (t.c j v * cW (g v))->t.af i<=t.af j)
 af:t'.af=gh t.af i v
 y':∀k,k < S.n+S.m->t'.y k=t.y k+ (S.to (t.af i - S.n) - t.y (t.af i)) / (t.c i v * cW (g v)) * t.dir S.m v (cW (g v)) k
theorem Eh{q:Rat}(h:q≠0): 0 < q * cW q:=by unfold cW;split <;> grind
theorem kR.nb{S:Sy}{G:Nat->Rat}{t c:bx}{g:Nat->Rat}{i v:Nat}(a:S.uc G t g)(k:S.kR t g c i v):¬t.bN S.m v:=by rintro⟨j,b,e⟩;exact k.ne (by rw [<-e];exact a.z j b)
theorem Km{a d:Rat}(h: 0 < d/\0<=a\/a=0): 0<=a / d:=by
 rcases h with⟨h1,b⟩ | h
 .rw [Wv];exact XQ b (Yt (Rat.inv_pos.2 h1))
 .rw [h,Wv,V8];exact WQ
theorem kR.nn{S:Sy}{t b:bx}{g:Nat->Rat}{i v:Nat}(ok:S.OK t)(fe:S.oD t)(k:S.kR t g b i v):
  0<=(S.to (t.af i - S.n) - t.y (t.af i)) / (t.c i v * cW (g v)):=by
 obtain⟨h1,a⟩:=fe _ k.bn (ok.wf.hb i k.hi);refine Km ?_;rcases k.bd with h | ⟨_,h⟩
 .exact .inl ⟨h,by grind⟩
 .exact .inr (by rw [a h];grind)
theorem UP{S:Sy}{t c:bx}(ok:S.OK t)(f:S.OK c)(h:∀v,t.bN S.m v↔c.bN S.m v){v:Nat}(hv:v < S.n+S.m):t.y v=c.y v:=by
 have l:∀u,u < S.n+S.m->¬t.bN S.m u->t.y u=c.y u:=λu o hb=>by have a:=OK.qF ok o hb;have b:=OK.qF f o (λp=>hb ((h u).2 p));rw [<-b] at a;exact congrArg Prod.fst a
 by_cases hb:t.bN S.m v
 .obtain⟨j,g,e⟩:=hb;have a:=(ok.wf.same _).2 ok.hy j g;have b:=(ok.wf.same _).2 f.hy j g;rw [<-e,a,b];refine dv (λk q=> ?_);by_cases d:t.bN S.m k
  .obtain⟨i,hi,e'⟩:=d;rw [<-e',ok.wf.z j i g hi,V8,V8]
  .rw [l k q d]
 .exact l v hv hb
theorem MI{S:Sy}{G:Nat->Rat}{s:Nat->bx}{g:Nat->Nat->Rat}{ii ee:Nat->Nat}{a b:Nat}(hab:a < b)(ok:∀t,S.OK (s t))(fe:∀t,S.oD (s t))
  (I:∀t,S.uc G (s t) (g t))
  (st:∀t,a<=t->t < b->S.kR (s t) (g t) (s (t+1)) (ii t) (ee t)) (back:∀v,(s a).bN S.m v↔(s b).bN S.m v):False:=by
 have F:∀t,a<=t->t < b->¬(s t).bN S.m (ee t):=λt h1 i=>kR.nb (I t) (st t h1 i);have R:kO S.m s (λt=>(s t).af (ii t)) ee a b:=
  ⟨λt h1 i v=>J7 (ok t) (st t h1 i).hi (F t h1 i) (st t h1 i).af v,λt h1 i=>⟨ii t,(st t h1 i).hi,rfl⟩,F,back⟩
 have step:∀t,a<=t->t < b->sm (S.n+S.m) (λk=>g t k * (s (t+1)).y k)=
   sm (S.n+S.m) (λk=>g t k * (s t).y k)+ (S.to ((s t).af (ii t) - S.n) - (s t).y ((s t).af (ii t))) / ((s t).c (ii t) (ee t) * cW (g t (ee t))) * (g t (ee t) * cW (g t (ee t))):=by
  intro t h1 i;have k:=st t h1 i;rw [<-CN (I t) (cW (g t (ee t))) k.hv,<-pK,<-wC];refine dv (λu hu=> ?_);rw [k.y' u hu];grind
 have Z:∀t,a<=t->t < b->sm S.n (λk=>G k * (s (t+1)).y k)=
   sm S.n (λk=>G k * (s t).y k)+ (S.to ((s t).af (ii t) - S.n) - (s t).y ((s t).af (ii t))) / ((s t).c (ii t) (ee t) * cW (g t (ee t))) * (g t (ee t) * cW (g t (ee t))):=by
  intro t h1 i;have:=step t h1 i;rw [(I t).same _ (ok (t+1)).hy,(I t).same _ (ok t).hy] at this;exact this
 have inc:∀t,a<=t->t < b->sm S.n (λk=>G k * (s t).y k)<=sm S.n (λk=>G k * (s (t+1)).y k):=by intro t h1 i;have h:=Z t h1 i;have o:=kR.nn (ok t) (fe t) (st t h1 i);have O:=XQ o (Yt (Eh (st t h1 i).ne));grind
 have mono:∀d x,a<=x->x+d<=b->sm S.n (λk=>G k * (s x).y k)<=sm S.n (λk=>G k * (s (x+d)).y k):=by
  intro d;induction d with
  | zero=>intro x _ _;exact WQ
  | succ d W=>intro x h1 i;exact Rat.le_trans (W x h1 (by omega)) (inc (x+d) (by omega) (by omega))
 have ends:sm S.n (λk=>G k * (s a).y k)=sm S.n (λk=>G k * (s b).y k):=
  dv (λk D=>by rw [UP (ok a) (ok b) back (by omega)])
 have flat:∀t,a<=t->t < b->(S.to ((s t).af (ii t) - S.n) - (s t).y ((s t).af (ii t))) / ((s t).c (ii t) (ee t) * cW (g t (ee t)))=0:=by
  intro t h1 i;have m1:=mono (t - a) a (Vq _) (by omega);have m2:=mono (b - (t+1)) (t+1) (by omega) (by omega);rw [show a+ (t - a)=t by omega] at m1;rw [show t+1+ (b - (t+1))=b by omega] at m2;have h:=Z t h1 i;have o:=kR.nn (ok t) (fe t) (st t h1 i);have O:=Eh (st t h1 i).ne;have h5:=XQ o (Yt O);have h6:(S.to ((s t).af (ii t) - S.n) - (s t).y ((s t).af (ii t))) / ((s t).c (ii t) (ee t) * cW (g t (ee t))) * (g t (ee t) * cW (g t (ee t)))=0:=by grind
  rcases ZQ.1 h6 with h7 | h7
  .exact h7
  .rw [h7] at O;exact absurd O (by grind)
 have M:∀d x,a<=x->x+d<=b->∀k,k < S.n+S.m->(s (x+d)).y k= (s x).y k:=by
  intro d;induction d with
  | zero=>intro x _ _ k _;rfl
  | succ d W=>intro x h1 i k D;have o:=(st (x+d) (by omega) (by omega)).y' k D;rw [flat (x+d) (by omega) (by omega),V8,Ys] at o;rw [<-W x h1 (by omega) k D];exact o
 have yall:∀p q,a<=p->p<=b->a<=q->q<=b->∀k,k < S.n+S.m->(s p).y k= (s q).y k:=by intro p q h1 i o O k D;have e1:=M (p - a) a (Vq _) (by omega) k D;have e2:=M (q - a) a (Vq _) (by omega) k D;rw [show a+ (p - a)=p by omega] at e1;rw [show a+ (q - a)=q by omega] at e2;rw [e1,e2]
 obtain⟨r,⟨p,w,B,J⟩,T⟩:=Cv (P:=λv=>∃t,a<=t/\t < b/\(s t).af (ii t)=v) (S.n+S.m) ⟨_,a,Vq _,hab,rfl⟩
  (by rintro v ⟨t,h1,i,rfl⟩;exact(ok t).wf.hb _ (st t h1 i).hi)
 obtain⟨q,U,hq2,L⟩:=R.enters w B;simp only [J] at L;have X:=st q U hq2;have E:=st p w B;have N:∀t k,k < S.n+S.m->S.n<=k->¬(s t).bN S.m k->(s t).y k=S.to (k - S.n):=by intro t k h1 i o;have:=OK.qF (ok t) h1 o;unfold Sy.fx at this;rw [if_neg (by omega)] at this;exact congrArg Prod.fst this
 have ele:ee p<=r:=by obtain⟨t',h1',h2',hl⟩:=R.leaves w B;exact T _ ⟨t',h1',h2',hl⟩
 have hrn:S.n<=r:=by rw [<-J];exact E.bn
 have hpos: 0 < sm (S.n+S.m) (λk=>g q k * (s p).dir S.m (ee p) (cW (g p (ee p))) k):=by have l:=Gc (ok p) (cW (g p (ee p))) (F p w B) E.hv;rw [(I q).same _ l,<-(I p).same _ l,CN (I p) _ E.hv];exact Eh E.ne
 have hneg:∀k,k < S.n+S.m->g q k * (s p).dir S.m (ee p) (cW (g p (ee p))) k<=0:=by
  intro k D;by_cases K:(s q).bN S.m k
  .obtain⟨j,H,e⟩:=K;rw [<-e,(I q).z j H,V8];exact WQ
  .by_cases hkr:k=r
   .subst hkr;have hy:=N q k D hrn K;have hg:g q k < 0:=by
     have h1:=X.ne;have i:=X.can.1;rw [L] at h1 i;have:¬0 < g q k:=λh=>by
      rcases i h with h | h
      .omega
      .rw [hy] at h;grind
     grind
    have o:S.kd (k - S.n)≠3:=by
     have i:=X.can.2;rw [L] at i;rcases i hg with h | h | h
     .omega
     .exact h
     .rw [hy] at h;exact absurd h (by grind)
    have l: 0 < (s p).dir S.m (ee p) (cW (g p (ee p))) k:=by
     have hb:=E.bd;rw [<-J,oS (ok p) _ E.hi (F p w B)];rcases hb with h | ⟨_,h⟩
     .exact h
     .rw [J] at h;exact absurd h o
    have:=Rat.mul_pos (a:= -(g q k)) (b:=(s p).dir S.m (ee p) (cW (g p (ee p))) k) (by grind) l;grind
   .by_cases hlt:k < r
    .by_cases h0:g q k=0
     .rw [h0,V8];exact WQ
     .have Q:=X.low k (by rw [L];exact hlt) h0;have Y:S.n<=k:=Xg λh=>Q ⟨λ_=> .inl h,λ_=> .inl h⟩;have hyq:=N q k D Y K;have V:(s p).y k=S.to (k - S.n):=by rw [yall p q w (by omega) U (by omega) k D];exact hyq
      have block:∀j,j < S.m->(s p).af j=k->¬(0 < (s p).c j (ee p) * cW (g p (ee p))\/(s p).c j (ee p) * cW (g p (ee p)) < 0/\S.kd (k - S.n)=3):=by
       intro j H e hb;have h1:=(E.ig j H (by rw [e];exact Y) (by rw [e];exact hb)).2 (by
        rw [flat p w B,e,V,Rat.sub_self,Wv,V8])
       rw [J,e] at h1;omega
      by_cases hgp: 0 < g q k
      .have l:(s p).dir S.m (ee p) (cW (g p (ee p))) k<=0:=by
        refine Zg.1 λl=> ?_;by_cases A:k=ee p
        .rw [A,oT] at l;have h1: 0 < g p (ee p):=by unfold cW at l;split at l;assumption;exact absurd l (by grind)
         rcases E.can.1 h1 with h | h
         .omega
         .rw [<-A,V] at h;grind
        .by_cases C:(s p).bN S.m k
         .obtain⟨j,H,e⟩:=C;rw [<-e,oS (ok p) _ H (F p w B)] at l;exact block j H e (.inl l)
         .rw [nC _ _ A C] at l;grind
       have:=XQ (a:=g q k) (b:= -((s p).dir S.m (ee p) (cW (g p (ee p))) k)) (by grind) (by grind);grind
      .have hgn:g q k < 0:=by grind
       have o:S.kd (k - S.n)=3:=Xo λo=>Q ⟨λh=>by grind,λ_=> .inr (.inl o)⟩;have l: 0<=(s p).dir S.m (ee p) (cW (g p (ee p))) k:=by
        refine Zg.1 λl=> ?_;by_cases A:k=ee p
        .rw [A,oT] at l;have h1:g p (ee p) < 0:=by have:=E.ne;unfold cW at l;split at l <;> grind
         rcases E.can.2 h1 with h | h | h
         .omega
         .rw [<-A] at h;exact h o
         .rw [<-A,V] at h;grind
        .by_cases C:(s p).bN S.m k
         .obtain⟨j,H,e⟩:=C;rw [<-e,oS (ok p) _ H (F p w B)] at l;exact block j H e (.inr ⟨l,o⟩)
         .rw [nC _ _ A C] at l;grind
       have:=XQ (a:= -(g q k)) (b:=(s p).dir S.m (ee p) (cW (g p (ee p))) k) (by grind) l;grind
    .have hnl:∀t,a<=t->t < b->(s t).af (ii t)≠k:=λt h1 i e=>by
      have:=T k ⟨t,h1,i,e⟩;omega
     have C:¬(s p).bN S.m k:=λh=>K (R.still hnl w (by omega) U (by omega) h);rw [nC _ _ (by omega) C,Wz];exact WQ
 have hle:∀n (f:Nat->Rat),(∀k,k < n->f k<=0)->sm n f<=0:=by
  intro n f;induction n with
  | zero=>intro _;exact WQ
  | succ n W=>intro h;rw [sm];have:=W (λk D=>h k (by omega));have:=h n (by omega);grind
 have:=hle _ _ hneg;grind
open Go Go.Aev
theorem DB:∀(K T:Nat) (f:Nat->Nat),(∀t,t < T->f t < K)->(∀s t,s < t->t < T->f s≠f t)->T<=K
 | 0,T,f,h,_=>by refine Xg λi=> ?_;have:=h 0 i;omega
 | K+1,T,f,h,hi=>by
  by_cases b:∃t,t < T/\f t=K
  .obtain⟨c,g,e0⟩:=b;have:=DB K (T - 1) (λt=>if t < c then f t else f (t+1)) (λt a=>by
    split
    .have h1:=h t (by omega);have d:=hi t c (by omega) g;omega
    .have h1:=h (t+1) (by omega);have d:=hi c (t+1) (by omega) (by omega);omega) (λs t hs a=>by
    split <;> split
    .exact hi s t hs (by omega)
    .exact hi s (t+1) (by omega) (by omega)
    .omega
    .exact hi (s+1) (t+1) (by omega) (by omega))
   omega
  .have:=DB K T f (λt a=>by
    have h1:=h t a;have d:f t≠K:=λe=>b ⟨t,a,e⟩;omega) hi
   omega
def jK(N:Nat)(nb:Nat->Nat):Nat->Nat
 | 0=>0
 | r+1=>jK N nb r * N+nb r
theorem FO{N:Nat}{nb:Nat->Nat}:∀{n:Nat},(∀r,r < n->nb r < N)->jK N nb n < N ^ n
 | 0,_=>by simp [jK]
 | n+1,h=>by have h1:=FO (n:=n) (λr c=>h r (by omega));have b:=h n (by omega);rw [jK,Nat.pow_succ];have a:(jK N nb n+1) * N<=N ^ n * N:=V5 _ h1;rw [XI] at a;omega
theorem FN{N:Nat}{nb c:Nat->Nat}:∀{n:Nat},(∀r,r < n->nb r < N)->(∀r,r < n->c r < N)->jK N nb n=jK N c n->∀r,r < n->nb r=c r
 | 0,_,_,_=>λr d=>by omega
 | n+1,h,f,e=>by
  rw [jK,jK] at e;have a:=h n (by omega);have b:=f n (by omega);have hm:(jK N nb n * N+nb n) % N= (jK N c n * N+c n) % N:=by rw [e]
  rw [ZB,ZB,XD a,XD b] at hm;have i: 0 < N:=by omega
  have e2:jK N nb n=jK N c n:=Nat.eq_of_mul_eq_mul_right i (by omega);intro r d;by_cases g:r=n
  .subst g;exact hm
  .exact FN (λr d=>h r (by omega)) (λr d=>f r (by omega)) e2 r (by omega)
theorem F1{S:Sy}{s:Nat->bx}{T:Nat}(ok:∀t,S.OK (s t))(k:∀a b,a < b->b < T->¬∀v,(s a).bN S.m v↔(s b).bN S.m v):T<=(S.n+S.m) ^ S.n:=by
 let nb:Nat->Nat->Nat:=λt=>(ok t).wf.nb.choose;have f:∀t,_:=λt=>(ok t).wf.nb.choose_spec;refine DB _ T (λt=>jK (S.n+S.m) (nb t) S.n) (λt _=>FO (f t).1) (λa b g hb e=>k a b g hb (λv=> ?_));have j:=FN (f a).1 (f b).1 e;have key:∀t v,v < S.n+S.m->((s t).bN S.m v↔¬∃r,r < S.n/\nb t r=v):=by
  intro t v hv;constructor
  .rintro⟨i,hi,c⟩ ⟨r,d,e2⟩;exact(f t).2.2.1 r i d hi (by show nb t r=_;rw [e2,c])
  .intro h;rcases(f t).2.2.2.1 v hv with h1 | ⟨i,hi,c⟩
   .exact absurd h1 h
   .exact⟨i,hi,c⟩
 by_cases hv:v < S.n+S.m
 .rw [key a v hv,key b v hv];refine not_congr ?_;constructor
  .rintro⟨r,d,c⟩;exact⟨r,d,by rw [<-c];exact(j r d).symm⟩
  .rintro⟨r,d,c⟩;exact⟨r,d,by rw [<-c];exact j r d⟩
 .exact⟨λh=>absurd (Fu (ok a) h) hv,λh=>absurd (Fu (ok b) h) hv⟩
end Go.Aev.Tb
namespace Go.Aev.Wd.Lg
open Go Go.Aev Go.Aev.Gen Go.Aev.Wd Go.Aev.Tb
def aI(n:Nat)(rows:List R):Sy:=⟨n,rows.length,λi k=>(((aY rows i).of.getD k 0:Int):Rat),λi=>(aY rows i).kd,λi=>((aY rows i).tv:Rat)⟩
def TL.st(t:TL):bx:=⟨λi=>t.af.getD i 0,λi k=>nv (aq (ay t.ak i) k),λv=>nv (aJ t.val v).1,λv=>nv (aJ t.val v).2⟩
structure fy (n:Nat) (rows:List R):Prop where
 sz:Sz n rows
 of:∀r∈rows,∀c∈r.of, -1000000<=c/\c<=1000000
 len:∀r∈rows,r.of.length<=n
 kd:∀r∈rows,r.kd=1\/r.kd=2\/r.kd=3
def vv(a:Vl):Rat×Rat:=(nv a.1,nv a.2)
theorem uL(p q:Rat):cq p q < 0↔p < q:=by
 unfold cq;by_cases h:p < q
 .rw [if_pos h];exact⟨λ_=>h,λ_=>by decide⟩
 .rw [if_neg h];by_cases b:p=q
  .rw [if_pos b];exact⟨λa=>absurd a (by decide),λa=>absurd a h⟩
  .rw [if_neg b];exact⟨λa=>absurd a (by decide),λa=>absurd a h⟩
theorem kf(p q:Rat):cq p q=0↔p=q:=by
 unfold cq;by_cases h:p < q
 .rw [if_pos h];exact⟨λa=>absurd a (by decide),λa=>by rw [a] at h;exact absurd h (by grind)⟩
 .rw [if_neg h];by_cases b:p=q
  .rw [if_pos b];exact⟨λ_=>b,λ_=>rfl⟩
  .rw [if_neg b];exact⟨λa=>absurd a (by decide),λa=>absurd a b⟩
theorem BQ(p q:Rat):cq p q > 0↔q < p:=by
 have h1:=uL p q;have d:=kf p q;constructor
 .intro h;have a:¬p < q:=λc=>by have:=h1.2 c;omega
  have b:¬p=q:=λc=>by have:=d.2 c;omega
  grind
 .intro h;have a:¬cq p q < 0:=λc=>by have:=h1.1 c;grind
  have b:¬cq p q=0:=λc=>by have:=d.1 c;grind
  omega
theorem yv(a b:Vl):eL a b < 0↔dc (vv a) (vv b):=by
 unfold eL dc vv;by_cases h:cq (nv a.1) (nv b.1)=0
 .rw [if_pos h,uL];have:=(kf _ _).1 h;constructor
  .intro c;exact .inr ⟨this,c⟩
  .rintro(c | ⟨_,c⟩)
   .simp only at c;rw [this] at c;exact absurd c (by grind)
   .exact c
 .rw [if_neg h,uL];constructor
  .intro c;exact .inl c
  .rintro(c | ⟨c,_⟩)
   .exact c
   .exact absurd ((kf _ _).2 c) h
theorem yu(a b:Vl):eL a b > 0↔dc (vv b) (vv a):=by
 unfold eL dc vv;by_cases h:cq (nv a.1) (nv b.1)=0
 .rw [if_pos h,BQ];have:=(kf _ _).1 h;constructor
  .intro c;exact .inr ⟨this.symm,c⟩
  .rintro(c | ⟨_,c⟩)
   .simp only at c;rw [this] at c;exact absurd c (by grind)
   .exact c
 .rw [if_neg h,BQ];constructor
  .intro c;exact .inl c
  .rintro(c | ⟨c,_⟩)
   .exact c
   .exact absurd ((kf _ _).2 c.symm) h
theorem wM{n:Nat}{rows:List R}{v:Nat}(h:¬v < n):vv (bR n rows v)= (aI n rows).up v:=by
 unfold vv bR Sy.up aI;simp only [if_neg h];by_cases a:(aY rows (v - n)).kd=2
 .simp only [a,if_true];rfl
 .simp only [a,if_false];rfl
theorem l9{n:Nat}{rows:List R}{v:Nat}:fi n rows v=true↔¬v < n/\(aI n rows).kd (v - n)=3:=by unfold fi aI;simp
theorem vG{n:Nat}{rows:List R}{v:Nat}(h:fi n rows v=true):vv (iF n rows v)= (aI n rows).up v:=by
 have a:=l9.1 h;unfold vv iF Sy.up;simp only [if_pos h];have b:¬(aI n rows).kd (v - (aI n rows).n)=2:=by show ¬(aI n rows).kd (v - n)=2;rw [a.2];decide
 rw [if_neg b];rfl
theorem tS(t:TL)(v:Nat):t.st.val v=vv (aJ t.val v):=rfl
theorem BM{n:Nat}{rows:List R}(t:TL)(v:Nat){w:Int}(d:w≠0):fg n rows t.val v w=true↔(if w > 0 then(aI n rows).tV t.st v else(aI n rows).tU t.st v):=by
 unfold fg;by_cases h:w > 0
 .rw [if_pos h,if_pos h];unfold Sy.tV;show _↔v < n\/_;by_cases hv:v < n
  .simp [hv]
  .rw [<-wM hv,tS,<-yv];simp [hv]
 .rw [if_neg h,if_neg h];unfold Sy.tU;show _↔v < n\/_\/_;cases b:fi n rows v
  .have:¬(¬v < n/\(aI n rows).kd (v - n)=3):=λc=>by rw [l9.2 c] at b;cases b
   simp only [Vv,ZF,true_iff];by_cases hv:v < n
   .exact .inl hv
   .exact .inr (.inl λc=>this ⟨hv,c⟩)
  .have c:=l9.1 b;have e:=vG b;simp only [Vs,WA,decide_eq_true_eq];rw [yu,e,<-tS];constructor
   .intro a;exact .inr (.inr a)
   .rintro(a | a | a)
    .exact absurd a c.1
    .exact absurd c.2 a
    .exact a
def bB(n:Nat)(rows:List R)(t:TL)(b:Nat):Int:=if dc ((aI n rows).up b) (t.st.val b) then -1 else 1
theorem AD(n:Nat)(rows:List R)(t:TL)(b:Nat):(aI n rows).aj t.st b= ((bB n rows t b:Int):Rat):=by unfold Sy.aj bB;split <;> rfl
theorem UQ{a b:Rat×Rat}(h:dc a b):¬dc b a:=by unfold dc at *;grind
theorem FA{n:Nat}{rows:List R}(t:TL)(b:Nat)(r:List Nat)(p:Int×Int)(hs:¬(p.1>=0/\(b:Int) > p.1)):
  ((aI n rows).fV t.st b/\cP n rows t.val (b::r) p=cP n rows t.val r ((b:Int),bB n rows t b))\/
  (¬(aI n rows).fV t.st b/\cP n rows t.val (b::r) p=cP n rows t.val r p):=by
 rw [cP,if_neg hs];by_cases h1:fi n rows b=true/\eL (aJ t.val b) (iF n rows b) < 0
 .rw [if_pos h1];have f:=l9.1 h1.1;have a:=(yv _ _).1 h1.2;rw [vG h1.1,<-tS] at a;refine .inl ⟨⟨Xg f.1, .inr ⟨f.2,a⟩⟩, ?_⟩;unfold bB;rw [if_neg (UQ a)]
 .rw [if_neg h1];by_cases d:¬b < n/\eL (aJ t.val b) (bR n rows b) > 0
  .rw [if_pos d];have a:=(yu _ _).1 d.2;rw [wM d.1,<-tS] at a;refine .inl ⟨⟨Xg d.1, .inl a⟩, ?_⟩;unfold bB;rw [if_pos a]
  .rw [if_neg d];refine .inr ⟨?_,rfl⟩;rintro⟨g,h | ⟨i,h⟩⟩
   .have c:¬b < n:=XC.2 g;refine d ⟨c,(yu _ _).2 ?_⟩;rw [wM c,<-tS];exact h
   .have c:¬b < n:=XC.2 g;have e:fi n rows b=true:=l9.2 ⟨c,i⟩;refine h1 ⟨e,(yv _ _).2 ?_⟩;rw [vG e,<-tS];exact h
theorem yh{n:Nat}{rows:List R}(t:TL):∀(l:List Nat) (a:Nat),(aI n rows).fV t.st a->
  ∃b,(b=a\/b∈l)/\(aI n rows).fV t.st b/\b<=a/\(∀u∈l,(aI n rows).fV t.st u->b<=u)/\cP n rows t.val l ((a:Int),bB n rows t a)= ((b:Int),bB n rows t b)
 | [],a,h=>⟨a, .inl rfl,h,Vq _,(λu hu=>by cases hu),rfl⟩
 | c::l,a,h=>by
  by_cases hs:((a:Int),bB n rows t a).1>=0/\(c:Int) > ((a:Int),bB n rows t a).1
  .obtain⟨b,h1,f,g,i,j⟩:=yh t l a h;refine⟨b, ?_,f,g,λu hu d=> ?_,by rw [cP,if_pos hs];exact j⟩
   .rcases h1 with h1 | h1
    .exact .inl h1
    .exact .inr (Vc _ h1)
   .rcases Vo.1 hu with rfl | hu
    .have:=hs.2;simp only at this;omega
    .exact i u hu d
  .have m:c<=a:=by simp only at hs;omega
   rcases FA (n:=n) (rows:=rows) t c l _ hs with⟨k,e⟩ | ⟨k,e⟩
   .obtain⟨b,h1,f,g,i,j⟩:=yh t l c k;refine⟨b, ?_,f,by omega,λu hu d=> ?_,by rw [e];exact j⟩
    .rcases h1 with h1 | h1
     .exact .inr (by rw [h1];exact Vb)
     .exact .inr (Vc _ h1)
    .rcases Vo.1 hu with rfl | hu
     .exact g
     .exact i u hu d
   .obtain⟨b,h1,f,g,i,j⟩:=yh t l a h;refine⟨b, ?_,f,g,λu hu d=> ?_,by rw [e];exact j⟩
    .rcases h1 with h1 | h1
     .exact .inl h1
     .exact .inr (Vc _ h1)
    .rcases Vo.1 hu with rfl | hu
     .exact absurd d k
     .exact i u hu d
theorem Fz{n:Nat}{rows:List R}(t:TL):∀(l:List Nat),
  ((∀u∈l,¬(aI n rows).fV t.st u)/\cP n rows t.val l (-1,0)= (-1,0))\/
  ∃b,b∈l/\(aI n rows).fV t.st b/\(∀u∈l,(aI n rows).fV t.st u->b<=u)/\cP n rows t.val l (-1,0)= ((b:Int),bB n rows t b)
 | []=> .inl ⟨λu hu=>(by cases hu),rfl⟩
 | c::l=>by
  have hs:¬(((-1:Int),(0:Int)).1>=0/\(c:Int) > ((-1:Int),(0:Int)).1):=λh=>absurd h.1 (by decide);rcases FA (n:=n) (rows:=rows) t c l _ hs with⟨f,e⟩ | ⟨f,e⟩
  .obtain⟨b,h1,d,g,i,j⟩:=yh t l c f;refine .inr ⟨b, ?_,d,λu hu a=> ?_,by rw [e];exact j⟩
   .rcases h1 with h1 | h1
    .rw [h1];exact Vb
    .exact Vc _ h1
   .rcases Vo.1 hu with rfl | hu
    .exact g
    .exact i u hu a
  .rcases Fz t l with⟨h1,d⟩ | ⟨b,h1,d,g,i⟩
   .refine .inl ⟨λu hu=> ?_,by rw [e];exact d⟩;rcases Vo.1 hu with rfl | hu
    .exact f
    .exact h1 u hu
   .refine .inr ⟨b,Vc _ h1,d,λu hu a=> ?_,by rw [e];exact i⟩;rcases Vo.1 hu with rfl | hu
    .exact absurd a f
    .exact g u hu a
theorem jo{n:Nat}{rows:List R}{val:List Vl}{aj:Int}:∀{row:List Nm} {k v:Nat},aV n rows val aj row k=some v->
  k<=v/\v < k+row.length/\nv (aq row (v - k))≠0/\fg n rows val v (aj * (nv (aq row (v - k))).num.sign)=true/\
  ∀u,k<=u->u < v->nv (aq row (u - k))≠0->fg n rows val u (aj * (nv (aq row (u - k))).num.sign)=false
 | [],_,_,h=>by simp [aV] at h
 | x::xs,k,v,h=>by
  rw [aV] at h;by_cases b:nv x≠0/\fg n rows val k (aj * (nv x).num.sign)=true
  .rw [if_pos b] at h;obtain rfl:k=v:=VR h;refine⟨Vq _,by simp, ?_, ?_,λu h1 f=>by omega⟩
   .rw [XW];exact b.1
   .rw [XW];exact b.2
  .rw [if_neg b] at h;obtain⟨h1,f,g,i,j⟩:=jo h;have e:∀u,k+1<=u->aq (x::xs) (u - k)=aq xs (u - (k+1)):=λu c=>by
    have:u - k= (u - (k+1))+1:=by omega
    rw [this];rfl
   refine⟨by omega,by simp only [Vy];omega,by rw [e v h1];exact g,by rw [e v h1];exact i,λu m d a=> ?_⟩;by_cases c:u=k
   .subst c;rw [XW] at a⊢;have:aq (x::xs) 0=x:=rfl;rw [this] at a⊢;cases l:fg n rows val u (aj * (nv x).num.sign)
    .rfl
    .exact absurd ⟨a,l⟩ b
   .rw [e u (by omega)] at a⊢;exact j u (by omega) d a
theorem yV{n:Nat}{rows:List R}{val:List Vl}{aj:Int}:∀{row:List Nm} {k:Nat},aV n rows val aj row k=none->
  ∀u,k<=u->nv (aq row (u - k))≠0->fg n rows val u (aj * (nv (aq row (u - k))).num.sign)=false
 | [],_,_,u,_,a=>absurd rfl a
 | x::xs,k,h,u,f,a=>by
  rw [aV] at h;by_cases b:nv x≠0/\fg n rows val k (aj * (nv x).num.sign)=true
  .rw [if_pos b] at h;cases h
  .rw [if_neg b] at h;by_cases c:u=k
   .subst c;rw [XW] at a⊢;have:aq (x::xs) 0=x:=rfl;rw [this] at a⊢;cases d:fg n rows val u (aj * (nv x).num.sign)
    .rfl
    .exact absurd ⟨a,d⟩ b
   .have e:aq (x::xs) (u - k)=aq xs (u - (k+1)):=by
     have:u - k= (u - (k+1))+1:=by omega
     rw [this];rfl
    rw [e] at a⊢;exact yV h u (by omega) a
end Go.Aev.Wd.Lg
