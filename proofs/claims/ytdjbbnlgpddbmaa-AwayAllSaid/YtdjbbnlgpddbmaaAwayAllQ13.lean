import Derived.Test.YtdjbbnlgpddbmaaAwayAllQ5
import Derived.Test.YtdjbbnlgpddbmaaAwayAllQ12
set_option linter.all false
namespace Go.Aev.Tb
open Go Go.Aev
def sm:Nat->(Nat->Rat)->Rat
 | 0,_=>0
 | n+1,f=>sm n f+f n
theorem eJ{f g:Nat->Rat}:∀{n:Nat},(∀i,i < n->f i=g i)->sm n f=sm n g
 | 0,_=>rfl
 | n+1,h=>by rw [sm,sm,eJ (n:=n) (λi hi=>h i (by omega)),h n (by omega)]
theorem BG:∀(n:Nat),sm n (λ_=>0)=0
 | 0=>rfl
 | n+1=>by rw [sm,BG n];grind
theorem l7{n:Nat}{f:Nat->Rat}(h:∀i,i < n->f i=0):sm n f=0:=by rw [eJ h,BG]
theorem k9(x y:Rat)(f g:Nat->Rat):∀(n:Nat),sm n (λi=>x * f i+y * g i)=x * sm n f+y * sm n g
 | 0=>by simp only [sm];grind
 | n+1=>by have:=k9 x y f g n;simp only [sm];grind
theorem xy(f g:Nat->Rat)(n:Nat):sm n (λi=>f i+g i)=sm n f+sm n g:=by have:=k9 1 1 f g n;simp only [Vd] at this;exact this
theorem tw(x:Rat)(f:Nat->Rat)(n:Nat):sm n (λi=>x * f i)=x * sm n f:=by have:=k9 x 0 f (λ_=>0) n;simp only [T6,U0] at this;exact this
theorem m7{f:Nat->Rat}{v:Nat}:∀{n:Nat},v < n->(∀i,i < n->i≠v->f i=0)->sm n f=f v
 | 0,h,_=>by omega
 | n+1,h,hz=>by
  rw [sm];by_cases hv:v=n
  .subst hv;rw [l7 (λi hi=>hz i (by omega) (by omega)),Rat.zero_add]
  .rw [m7 (n:=n) (by omega) (λi hi hn=>hz i (by omega) hn),hz n (by omega) (by omega),U0]
theorem og{n v:Nat}(hv:v < n)(f:Nat->Rat):sm n (λi=>if i=v then f i else 0)=f v:=by rw [m7 hv (λi _ hn=>if_neg hn),if_pos rfl]
theorem BF(f:Nat->Nat->Rat)(m:Nat):∀(n:Nat),sm n (λi=>sm m (λj=>f i j))=sm m (λj=>sm n (λi=>f i j))
 | 0=>by simp only [sm];exact(BG m).symm
 | n+1=>by simp only [sm];rw [BF f m n,xy]
theorem IG{N n:Nat}{nb:Nat->Nat}{f:Nat->Rat}(hb:∀r,r < n->nb r < N)(hi:∀r s,r < n->s < n->nb r=nb s->r=s)
  (hz:∀v,v < N->(∀r,r < n->nb r≠v)->f v=0):sm N f=sm n (λr=>f (nb r)):=by
 have h1:sm N f=sm N (λv=>sm n (λr=>if nb r=v then f v else 0)):=by
  refine eJ (λv hv=> ?_);by_cases h:∃r,r < n/\nb r=v
  .obtain⟨r,hr,e⟩:=h;rw [m7 hr (λi a b=>if_neg (λd=>b (hi _ _ a hr (by rw [d,e])))),if_pos e]
  .have c:∀r,r < n->nb r≠v:=λr hr e=>h ⟨r,hr,e⟩;rw [hz v hv c,l7 (λi a=>if_neg (c i a))]
 rw [h1,BF];refine eJ (λr hr=> ?_);rw [m7 (hb r hr) (λi _ b=>if_neg (λe=>b e.symm)),if_pos rfl]
def skip(i r:Nat):Nat:=if r < i then r else r+1
def sg:Nat->Rat
 | 0=>1
 | i+1=> - sg i
def ct:Nat->(Nat->Nat->Rat)->Rat
 | 0,_=>1
 | n+1,M=>sm (n+1) (λi=>sg i * M i 0 * ct n (λr c=>M (skip i r) (c+1)))
theorem IE(i r:Nat):skip i r≠i:=by unfold skip;split <;> omega
theorem P6{i r s:Nat}(h:skip i r=skip i s):r=s:=by unfold skip at h;split at h <;> split at h <;> omega
theorem DP:∀(n:Nat) (M a b:Nat->Nat->Rat) (p:Nat) (x y:Rat),p < n->(∀r,r≠p->M r=a r/\M r=b r)->(∀c,M p c=x * a p c+y * b p c)->
  ct n M=x * ct n a+y * ct n b
 | 0,_,_,_,_,_,_,h,_,_=>by omega
 | n+1,M,a,b,p,x,y,s,hr,f=>by
  simp only [ct];rw [<-k9];refine eJ (λi hi=> ?_);by_cases d:i=p
  .subst d;have m:(λr c=>M (skip i r) (c+1))= (λr c=>a (skip i r) (c+1)):=by
    funext r c;rw [(hr _ (IE i r)).1]
   have o:(λr c=>M (skip i r) (c+1))= (λr c=>b (skip i r) (c+1)):=by funext r c;rw [(hr _ (IE i r)).2]
   rw [<-m,<-o,f 0];grind
  .obtain⟨q,j,k⟩:∃q,skip i q=p/\q < n:=by
    by_cases g:p < i
    .exact⟨p,by unfold skip;rw [if_pos g],by omega⟩
    .exact⟨p - 1,by unfold skip;rw [if_neg (by omega)];omega,by omega⟩
   have:=DP n (λr c=>M (skip i r) (c+1)) (λr c=>a (skip i r) (c+1)) (λr c=>b (skip i r) (c+1)) q x y k
    (λr l=>by
     have e:skip i r≠p:=λh=>l (P6 (by rw [h,j]));exact⟨by funext c;rw [(hr _ e).1],by funext c;rw [(hr _ e).2]⟩)
    (λc=>by rw [j];exact f _)
   rw [this,<-(hr i d).1,<-(hr i d).2];grind
theorem vq:∀(n:Nat) (M:Nat->Nat->Rat) (p:Nat),p+1 < n->M p=M (p+1)->ct n M=0
 | 0,_,_,h,_=>by omega
 | n+1,M,p,j,f=>by
  simp only [ct];have e:(λr c=>M (skip (p+1) r) (c+1))= (λr c=>M (skip p r) (c+1)):=by
   funext r c;by_cases h1:r < p
   .have a:skip (p+1) r=r:=by unfold skip;rw [if_pos (by omega)]
    have b:skip p r=r:=by unfold skip;rw [if_pos h1]
    rw [a,b]
   .by_cases d:r=p
    .subst d;have a:skip (r+1) r=r:=by unfold skip;rw [if_pos (by omega)]
     have b:skip r r=r+1:=by unfold skip;rw [if_neg (by omega)]
     rw [a,b,f]
    .have a:skip (p+1) r=r+1:=by unfold skip;rw [if_neg (by omega)]
     have b:skip p r=r+1:=by unfold skip;rw [if_neg (by omega)]
     rw [a,b]
  have h1:sm (n+1) (λi=>sg i * M i 0 * ct n (λr c=>M (skip i r) (c+1)))=
    sm (n+1) (λi=>(if i=p then sg p * M p 0 * ct n (λr c=>M (skip p r) (c+1)) else 0)+ (if i=p+1 then -(sg p * M p 0 * ct n (λr c=>M (skip p r) (c+1))) else 0)):=by
   refine eJ (λi hi=> ?_);by_cases h1:i=p
   .subst h1;rw [if_pos rfl,if_neg (by omega),U0]
   .by_cases d:i=p+1
    .subst d;rw [if_neg (by omega),if_pos rfl,e,<-f];simp only [sg];grind
    .rw [if_neg h1,if_neg d];have:ct n (λr c=>M (skip i r) (c+1))=0:=by
      by_cases g:p+1 < i
      .refine vq n _ p (by omega) ?_;have a:skip i p=p:=by unfold skip;rw [if_pos (by omega)]
       have b:skip i (p+1)=p+1:=by unfold skip;rw [if_pos g]
       funext c;rw [a,b,f]
      .refine vq n _ (p - 1) (by omega) ?_;have a:skip i (p - 1)=p:=by unfold skip;rw [if_neg (by omega)];omega
       have b:skip i (p - 1+1)=p+1:=by unfold skip;rw [if_neg (by omega)];omega
       funext c;rw [a,b,f]
     rw [this];grind
  rw [h1,xy,og (v:=p) (by omega) (λ_=>sg p * M p 0 * ct n (λr c=>M (skip p r) (c+1))),og (v:=p+1) (by omega) (λ_=> -(sg p * M p 0 * ct n (λr c=>M (skip p r) (c+1))))];grind
def aA(M:Nat->Nat->Rat)(p:Nat)(v:Nat->Rat):Nat->Nat->Rat:=λr=>if r=p then v else M r
theorem kA(M:Nat->Nat->Rat)(p:Nat)(v:Nat->Rat):aA M p v p=v:=if_pos rfl
theorem iH{M:Nat->Nat->Rat}{p r:Nat}(v:Nat->Rat)(h:r≠p):aA M p v r=M r:=if_neg h
theorem xW(M:Nat->Nat->Rat)(p:Nat):aA M p (M p)=M:=by
 funext r;by_cases h:r=p
 .subst h;exact kA _ _ _
 .exact iH _ h
theorem p9{n:Nat}(M:Nat->Nat->Rat){p:Nat}(a:p < n)(x y:Rat)(u v:Nat->Rat):
  ct n (aA M p (λk=>x * u k+y * v k))=x * ct n (aA M p u)+y * ct n (aA M p v):=by
 refine DP n _ _ _ p x y a (λr hr=> ?_) (λc=> ?_)
 .rw [iH _ hr,iH _ hr,iH _ hr];exact⟨rfl,rfl⟩
 .rw [kA,kA,kA]
theorem KS{n:Nat}(M:Nat->Nat->Rat){p:Nat}(e:p+1 < n)(u v:Nat->Rat):
  ct n (aA (aA M p u) (p+1) v)= - ct n (aA (aA M p v) (p+1) u):=by
 have z:∀w,ct n (aA (aA M p w) (p+1) w)=0:=λw=>vq n _ p e (by rw [kA,iH _ (by omega),kA]);have c:∀a b,aA (aA M p a) (p+1) b=aA (aA M (p+1) b) p a:=λa b=>by
  funext r;by_cases h1:r=p
  .subst h1;rw [iH _ (by omega),kA,kA]
  .by_cases d:r=p+1
   .subst d;rw [kA,iH _ h1,kA]
   .rw [iH _ d,iH _ h1,iH _ h1,iH _ d]
 have f:=z (λk=>1 * u k+1 * v k);have i:=p9 (n:=n) (aA M p (λk=>1 * u k+1 * v k)) e 1 1 u v;have k2:=p9 (n:=n) (aA M p (λk=>1 * u k+1 * v k)) (p:=p+1) e 1 1 u v;rw [f] at k2;rw [c,c] at k2;have g:=p9 (n:=n) (aA M (p+1) u) (p:=p) (by omega) 1 1 u v;have h:=p9 (n:=n) (aA M (p+1) v) (p:=p) (by omega) 1 1 u v;rw [g,h,<-c,<-c,<-c,<-c,z,z] at k2;grind
theorem zg{n:Nat}:∀(d:Nat) (M:Nat->Nat->Rat) (p:Nat),p+d+1 < n->M p=M (p+d+1)->ct n M=0
 | 0,M,p,b,a=>vq n M p b a
 | d+1,M,p,b,a=>by
  have e:M=aA (aA M (p+d+1) (M (p+d+1))) (p+d+1+1) (M (p+d+1+1)):=by rw [xW,xW]
  rw [e,KS M (p:=p+d+1) b];rw [zg d _ p (by omega)]
  .grind
  .rw [iH _ (by omega),iH _ (by omega),iH _ (by omega),kA];exact a
theorem KR{n:Nat}{M:Nat->Nat->Rat}{p q:Nat}(c:p < n)(d:q < n)(b:p≠q)(a:M p=M q):ct n M=0:=by
 by_cases h:p < q
 .refine zg (q - p - 1) M p (by omega) ?_;rw [a];congr 1;omega
 .refine zg (p - q - 1) M q (by omega) ?_;rw [<-a];congr 1;omega
theorem DQ{n:Nat}(M:Nat->Nat->Rat){p:Nat}(a:p < n)(c:Nat->Rat)(w:Nat->Nat->Rat):
  ∀(m:Nat),ct n (aA M p (λk=>sm m (λr=>c r * w r k)))=sm m (λr=>c r * ct n (aA M p (w r)))
 | 0=>by
  have:=p9 (n:=n) M a 0 0 (λ_=>0) (λ_=>0);simp only [sm];have e:(λk:Nat=>(0:Rat) * (λ_=>(0:Rat)) k+0 * (λ_=>(0:Rat)) k)= (λ_=>0):=by funext k;grind
  rw [e] at this;rw [this];grind
 | m+1=>by have:=p9 (n:=n) M a 1 (c m) (λk=>sm m (λr=>c r * w r k)) (w m);simp only [Vd] at this;simp only [sm];rw [this,DQ M a c w m]
theorem DF{n:Nat}(M:Nat->Nat->Rat){p:Nat}(b:p < n)(c:Nat->Rat)(u:Nat->Rat)(d:∀k,u k=sm n (λr=>c r * M r k)):
  ct n (aA M p u)=c p * ct n M:=by
 have e:u=λk=>sm n (λr=>c r * M r k):=funext d;rw [e,DQ M b c M n,m7 b (λi hi a=> ?_),xW];rw [KR (p:=p) (q:=i) b hi (λh=>a h.symm) (by rw [kA,iH _ a])];grind
def ba(B:Nat)(q:Rat):Prop:= ∃z:Int,q= (z:Rat)/\z.natAbs<=B
theorem ba.add{A B:Nat}{p q:Rat}(h:ba A p)(k:ba B q):ba (A+B) (p+q):=by obtain⟨x,rfl,a⟩:=h;obtain⟨y,rfl,hy⟩:=k;exact⟨x+y,by rw [VG],by omega⟩
theorem ba.mul{A B:Nat}{p q:Rat}(h:ba A p)(k:ba B q):ba (A * B) (p * q):=by obtain⟨x,rfl,a⟩:=h;obtain⟨y,rfl,hy⟩:=k;exact⟨x * y,by rw [S9],by rw [Ss];exact Vn a hy⟩
theorem ba.neg{A:Nat}{p:Rat}(h:ba A p):ba A (-p):=by obtain⟨x,rfl,a⟩:=h;exact⟨-x,by rw [Uu],by omega⟩
theorem ba.mono{A B:Nat}{p:Rat}(h:ba A p)(a:A<=B):ba B p:=by obtain⟨x,e,b⟩:=h;exact⟨x,e,by omega⟩
theorem ba.zero(B:Nat):ba B 0:=⟨0,rfl,by omega⟩
theorem ba.int{z:Int}{B:Nat}(h:z.natAbs<=B):ba B (z:Rat):=⟨z,rfl,h⟩
theorem Iz:∀(i:Nat),ba 1 (sg i)
 | 0=>⟨1,rfl,by decide⟩
 | i+1=>(Iz i).neg
theorem BD{B:Nat}{f:Nat->Rat}:∀{n:Nat},(∀i,i < n->ba B (f i))->ba (n * B) (sm n f)
 | 0,_=>ba.zero _
 | n+1,h=>by rw [sm,SH];exact(BD (λi hi=>h i (by omega))).add (h n (by omega))
def bd(K:Nat):Nat->Nat
 | 0=>1
 | n+1=>(n+1) * (K * bd K n)
theorem zh{K:Nat}:∀(n:Nat) (M:Nat->Nat->Rat),(∀r c,r < n->ba K (M r c))->ba (bd K n) (ct n M)
 | 0,_,_=>⟨1,rfl,R3 _⟩
 | n+1,M,h=>by rw [ct,bd];refine BD (λi hi=> ?_);have h1:=((Iz i).mul (h i 0 hi)).mul (zh n (λr c=>M (skip i r) (c+1)) (λr c hr=>h _ _ (by unfold skip;split <;> omega)));rw [Nat.one_mul] at h1;exact h1
open Go Go.Aev
theorem Qb{n N:Nat}{f:Nat->Rat}(h:n<=N)(hz:∀k,n<=k->k < N->f k=0):sm N f=sm n f:=
 IG (nb:=λr=>r) (λr hr=>by omega) (λr s _ _ e=>e) (λv hv hn=>hz v (by
  by_cases a:v < n
  .exact absurd rfl (hn v a)
  .omega) hv)
def av(n:Nat)(A:Nat->Nat->Rat)(v:Nat):Nat->Rat:=λk=>if k < n then(if v < n then(if k=v then 1 else 0) else A (v - n) k) else 0
def fg(n m:Nat)(A:Nat->Nat->Rat)(y:Nat->Rat):Prop:= ∀i,i < m->y (n+i)=sm n (λk=>A i k * y k)
def x9(N m:Nat)(ah:Nat->Nat)(c:Nat->Nat->Rat)(y:Nat->Rat):Prop:= ∀i,i < m->y (ah i)=sm N (λk=>c i k * y k)
structure WF (n m:Nat) (A:Nat->Nat->Rat) (ah:Nat->Nat) (c:Nat->Nat->Rat):Prop where
 hb:∀i,i < m->ah i < n+m
 inj:∀i j,i < m->j < m->ah i=ah j->i=j
 z:∀i j,i < m->j < m->c i (ah j)=0
 same:∀y,x9 (n+m) m ah c y↔fg n m A y
 nb:∃nb:Nat->Nat,(∀r,r < n->nb r < n+m)/\(∀r s,r < n->s < n->nb r=nb s->r=s)/\(∀r i,r < n->i < m->nb r≠ah i)/\
  (∀v,v < n+m->(∃r,r < n/\nb r=v)\/∃i,i < m/\ah i=v)/\ct n (λr=>av n A (nb r))≠0
theorem DO:∀(n:Nat),ct n (λr c=>if c < n then(if c=r then 1 else 0) else 0)=1
 | 0=>rfl
 | n+1=>by
  rw [ct,m7 (v:=0) (by omega)]
  .have e:(λr c=>if c+1 < n+1 then(if c+1=skip 0 r then(1:Rat) else 0) else 0)= (λr c=>if c < n then(if c=r then 1 else 0) else 0):=by
    funext r c;have hs:skip 0 r=r+1:=by unfold skip;rw [if_neg (by omega)]
    rw [hs];have h1:(c+1 < n+1)= (c < n):=by simp
    have b:(c+1=r+1)= (c=r):=by simp
    simp only [h1,b]
   rw [e,DO n,if_pos (by omega),if_pos rfl];simp only [sg];grind
  .intro i hi a;rw [if_pos (by omega),if_neg (λh=>a h.symm)];grind
theorem Rp(n m:Nat)(A:Nat->Nat->Rat):WF n m A (λi=>n+i) (λi k=>if k < n then A i k else 0) where
 hb:=λi hi=>by omega
 inj:=λi j _ _ h=>by omega
 z:=λi j _ _=>if_neg (by omega)
 same:=λy=>by
  have e:∀i,sm (n+m) (λk=>(if k < n then A i k else 0) * y k)=sm n (λk=>A i k * y k):=λi=>by rw [Qb (n:=n) (by omega) (λk h _=>by rw [if_neg (by omega),T6])];exact eJ (λk hk=>by rw [if_pos hk])
  unfold x9 fg;constructor
  .intro h i hi;rw [h i hi,e]
  .intro h i hi;rw [h i hi,e]
 nb:=by
  refine⟨λr=>r,λr hr=>by dsimp only;omega,λr s _ _ e=>e,λr i hr _=>by dsimp only;omega,λv hv=> ?_, ?_⟩
  .by_cases h:v < n
   .exact .inl ⟨v,h,rfl⟩
   .exact .inr ⟨v - n,by omega,by omega⟩
  .have e:∀(N:Nat) (M M':Nat->Nat->Rat),(∀r,r < N->M r=M' r)->ct N M=ct N M':=by
    intro N;induction N with
    | zero=>intros;rfl
    | succ N ih=>intro M M' h;rw [ct,ct];refine eJ (λi hi=> ?_);rw [h i hi,ih _ (λr c=>M' (skip i r) (c+1)) (λr hr=>by funext c;rw [h _ (by unfold skip;split <;> omega)])]
   rw [e n (λr=>av n A r) (λr c=>if c < n then(if c=r then 1 else 0) else 0) (λr hr=>by
    funext c;unfold av;rw [if_pos hr]),DO]
   grind
theorem yK{n m:Nat}(A:Nat->Nat->Rat)(k:Nat):fg n m A (λv=>av n A v k):=by
 intro i _;unfold av;dsimp only;by_cases hk:k < n
 .rw [if_pos hk,if_neg (by omega)];have e:n+i - n=i:=by omega
  rw [e,m7 hk]
  .rw [if_pos hk,if_pos hk,if_pos rfl];grind
  .intro j b a;rw [if_pos hk,if_pos b,if_neg (λh=>a h.symm)];grind
 .rw [if_neg hk];exact(l7 (λj _=>by rw [if_neg hk];grind)).symm
theorem WF.sum{n m:Nat}{A:Nat->Nat->Rat}{ah:Nat->Nat}{c:Nat->Nat->Rat}{nb:Nat->Nat}
  (h1:∀r,r < n->nb r < n+m) (a:∀r s,r < n->s < n->nb r=nb s->r=s) (b:∀v,v < n+m->(∃r,r < n/\nb r=v)\/∃i,i < m/\ah i=v)
  {l:Nat->Rat} (hz:∀j,j < m->l (ah j)=0) (y:Nat->Rat):sm (n+m) (λk=>l k * y k)=sm n (λr=>l (nb r) * y (nb r)):=by
 refine IG h1 a (λv hv hn=> ?_);rcases b v hv with⟨r,hr,e⟩ | ⟨i,hi,e⟩
 .exact absurd e (hn r hr)
 .rw [<-e,hz i hi,T6]
def fH(x:Nat->Rat)(b v:Nat)(k:Nat):Rat:=if k=b then 1 / x v else if k=v then 0 else -(x k / x v)
def ju(row:Nat->Rat)(v:Nat)(l:Nat->Rat)(k:Nat):Rat:=if k=v then 0 else l k+l v * row k
theorem HG{N:Nat}{x:Nat->Rat}{b v:Nat}(hb:b < N)(hv:v < N)(c:b≠v)(d:x b=0)(g:x v≠0)(y:Nat->Rat):
  sm N (λk=>fH x b v k * y k)= (y b - sm N (λk=>x k * y k)) / x v+y v:=by
 have e:sm N (λk=>fH x b v k * y k)=sm N (λk=>(-(1 / x v) * (x k * y k)+1 * (if k=v then y k else 0))+ (1 / x v) * (if k=b then y k else 0)):=by
  refine eJ (λk _=> ?_);unfold fH;by_cases h1:k=b
  .subst h1;rw [if_pos rfl,if_neg c,if_pos rfl,d];grind
  .by_cases a:k=v
   .subst a;rw [if_neg h1,if_pos rfl,if_pos rfl,if_neg h1];have: 1 / x k * x k=1:=by rw [SF,Vd];exact UP _ g
    grind
   .rw [if_neg h1,if_neg a,if_neg a,if_neg h1,SF,SF];grind
 have f:=xy (λk=> -(1 / x v) * (x k * y k)+1 * (if k=v then y k else 0)) (λk=>(1 / x v) * (if k=b then y k else 0)) N;rw [e,f,k9,tw,og hv y,og hb y,SF,SF];grind
theorem AY{N:Nat}{row l:Nat->Rat}{v:Nat}(hv:v < N)(hr:row v=0)(y:Nat->Rat):
  sm N (λk=>ju row v l k * y k)=sm N (λk=>l k * y k)+l v * (sm N (λk=>row k * y k) - y v):=by
 have e:sm N (λk=>ju row v l k * y k)=sm N (λk=>(1 * (l k * y k)+l v * (row k * y k))+ (-(l v)) * (if k=v then y k else 0)):=by
  refine eJ (λk _=> ?_);unfold ju;by_cases a:k=v
  .subst a;rw [if_pos rfl,if_pos rfl,hr];grind
  .rw [if_neg a,if_neg a];grind
 have b:=xy (λk=>1 * (l k * y k)+l v * (row k * y k)) (λk=>(-(l v)) * (if k=v then y k else 0)) N;rw [e,b,k9,tw,og hv y];grind
def fZ(ah:Nat->Nat)(i v:Nat):Nat->Nat:=λj=>if j=i then v else ah j
def n8(c:Nat->Nat->Rat)(ah:Nat->Nat)(i v:Nat):Nat->Nat->Rat:=λj=>if j=i then fH (c i) (ah i) v else ju (fH (c i) (ah i) v) v (c j)
theorem sV{x:Nat->Rat}{b v:Nat}(a:b≠v):fH x b v v=0:=by unfold fH;rw [if_neg (λh=>a h.symm),if_pos rfl]
theorem Rq{n m:Nat}{A:Nat->Nat->Rat}{ah:Nat->Nat}{c:Nat->Nat->Rat}(w:WF n m A ah c){i v:Nat}(hi:i < m)(hv:v < n+m)
  (o:c i v≠0):WF n m A (fZ ah i v) (n8 c ah i v):=by
 have b:∀j,j < m->ah j≠v:=λj a e=>o (by rw [<-e];exact w.z i j hi a);have q:=w.hb i hi;have I:=w.z i i hi hi;refine⟨λj a=> ?_,λj k a hk e=> ?_,λj k a hk=> ?_,λy=> ?_, ?_⟩
 .unfold fZ;split
  .exact hv
  .exact w.hb j a
 .unfold fZ at e;split at e <;> split at e
  .omega
  .exact absurd e.symm (b k hk)
  .exact absurd e (b j a)
  .exact w.inj j k a hk e
 .unfold fZ n8;by_cases h1:k=i
  .subst h1;rw [if_pos rfl];split
   .exact sV (b k hi)
   .unfold ju;rw [if_pos rfl]
  .rw [if_neg h1];have H:ah k≠ah i:=λe=>h1 (w.inj k i hk hi e);have G:fH (c i) (ah i) v (ah k)=0:=by
    unfold fH;rw [if_neg H,if_neg (b k hk),w.z i k hi hk,SF];grind
   split
   .exact G
   .unfold ju;rw [if_neg (b k hk),w.z j k a hk,G];grind
 .rw [<-w.same y];have l:=HG q hv (b i hi) I o y;have t:=sV (x:=c i) (b i hi);have K:c i v * (c i v)⁻¹ =1:=Vm _ o;constructor
  .intro h;have d:y v=sm (n+m) (λk=>fH (c i) (ah i) v k * y k):=by
    have:=h i hi;unfold fZ n8 at this;rw [if_pos rfl] at this;simpa using this
   have g:y (ah i)=sm (n+m) (λk=>c i k * y k):=by
    rw [d.symm,SF] at l;have:(y (ah i) - sm (n+m) (λk=>c i k * y k)) * (c i v)⁻¹ * c i v=0:=by
     have:(y (ah i) - sm (n+m) (λk=>c i k * y k)) * (c i v)⁻¹ =0:=by grind
     rw [this];grind
    grind
   intro j a;by_cases h1:j=i
   .subst h1;exact g
   .have:=h j a;unfold fZ n8 at this;rw [if_neg h1] at this;simp only [if_neg h1] at this;rw [AY hv t,<-d] at this;grind
  .intro h;have g:=h i hi;have d:sm (n+m) (λk=>fH (c i) (ah i) v k * y k)=y v:=by
    rw [l,<-g,SF];grind
   intro j a;by_cases h1:j=i
   .subst h1;unfold fZ n8;rw [if_pos rfl];simp only [if_pos rfl];exact d.symm
   .unfold fZ n8;rw [if_neg h1];simp only [if_neg h1];rw [AY hv t,d,h j a];grind
 .obtain⟨nb,J,D,E,F,M⟩:=w.nb;obtain⟨p,C,B⟩:∃r,r < n/\nb r=v:=by
   rcases F v hv with h | ⟨j,a,e⟩
   .exact h
   .exact absurd e (b j a)
  refine⟨λr=>if r=p then ah i else nb r,λr hr=> ?_,λr s hr hs e=> ?_,λr j hr a e=> ?_,λu L=> ?_, ?_⟩
  .dsimp only;split
   .exact q
   .exact J r hr
  .dsimp only at e;split at e <;> split at e
   .omega
   .exact absurd e.symm (E s i hs hi)
   .exact absurd e (E r i hr hi)
   .exact D r s hr hs e
  .dsimp only at e;unfold fZ at e;split at e <;> split at e
   .exact b i hi e
   .rename_i h1 f;exact f (w.inj j i a hi e.symm)
   .rename_i h1 f;exact h1 (D r p hr C (by rw [e,B]))
   .exact E r j hr a e
  .by_cases h1:u=v
   .exact .inr ⟨i,hi,by unfold fZ;rw [if_pos rfl,h1]⟩
   .by_cases f:u=ah i
    .exact .inl ⟨p,C,by dsimp only;rw [if_pos rfl,f]⟩
    .rcases F u L with⟨r,hr,e⟩ | ⟨j,a,e⟩
     .refine .inl ⟨r,hr, ?_⟩;dsimp only;rw [if_neg (λh=>h1 (by rw [<-e,h,B])),e]
     .refine .inr ⟨j,a, ?_⟩;unfold fZ;rw [if_neg (λh=>f (by rw [<-e,h])),e]
  .have e:(λr=>av n A (if r=p then ah i else nb r))=aA (λr=>av n A (nb r)) p (av n A (ah i)):=by
    funext r;unfold aA;split <;> rfl
   rw [e,DF (λr=>av n A (nb r)) C (λr=>c i (nb r)) (av n A (ah i)) (λk=> ?_)]
   .rw [B];intro h;rcases Rat.mul_eq_zero.1 h with h | h
    .exact o h
    .exact M h
   .have:=(w.same _).2 (yK (m:=m) A k) i hi;rw [this];exact WF.sum (A:=A) (ah:=ah) (c:=c) J D F (w.z i · hi) _
theorem yL{n m K:Nat}{A:Nat->Nat->Rat}(b: 1<=K)(a:∀i k,i < m->k < n->ba K (A i k)){v:Nat}(hv:v < n+m)(k:Nat):ba K (av n A v k):=by
 unfold av;split
 .split
  .split
   .exact⟨1,rfl,b⟩
   .exact ba.zero _
  .exact a _ _ (by omega) (by assumption)
 .exact ba.zero _
theorem WF.den{n m K:Nat}{A:Nat->Nat->Rat}{ah:Nat->Nat}{c:Nat->Nat->Rat}(w:WF n m A ah c)(b: 1<=K)(a:∀i k,i < m->k < n->ba K (A i k)):
  ∃D:Rat,D≠0/\ba (bd K n) D/\(∀i v,i < m->v < n+m->ba (bd K n) (D * c i v))/\
   (∀(g G:Nat->Rat),(∀j,j < m->g (ah j)=0)->(∀k,k < n->ba K (G k))->(∀y,fg n m A y->sm (n+m) (λk=>g k * y k)=sm n (λk=>G k * y k))->
    ∀v,v < n+m->ba (bd K n) (D * g v)):=by
 obtain⟨nb,f,x,C,o,B⟩:=w.nb
 have key:∀(g:Nat->Rat) (u:Nat->Rat),(∀j,j < m->g (ah j)=0)->(∀k,ba K (u k))->(∀k,u k=sm (n+m) (λv=>g v * av n A v k))->
   ∀v,v < n+m->ba (bd K n) (ct n (λr=>av n A (nb r)) * g v):=by
  intro g u hz t hs v hv;rcases o v hv with⟨p,s,e⟩ | ⟨j,d,e⟩
  .have:=DF (λr=>av n A (nb r)) s (λr=>g (nb r)) u (λk=>by rw [hs];exact WF.sum (A:=A) (ah:=ah) (c:=c) f x o hz _);rw [<-e,Rat.mul_comm,<-this];refine zh n _ (λr k hr=> ?_);unfold aA;split
   .exact t k
   .exact yL b a (f r hr) k
  .rw [<-e,hz j d,Tm];exact ba.zero _
 refine⟨_,B,zh n _ (λr k hr=>yL b a (f r hr) k),λi v hi hv=> ?_,λg G hz q hs v hv=> ?_⟩
 .refine key (c i) (av n A (ah i)) (w.z i · hi) (yL b a (w.hb i hi)) (λk=> ?_) v hv;exact(w.same _).2 (yK (m:=m) A k) i hi
 .refine key g (λk=>if k < n then G k else 0) hz (λk=> ?_) (λk=> ?_) v hv
  .split
   .exact q k (by assumption)
   .exact ba.zero _
  .rw [hs _ (yK (m:=m) A k)];unfold av;by_cases hk:k < n
   .rw [if_pos hk,m7 hk]
    .rw [if_pos hk,if_pos hk,if_pos rfl];grind
    .intro j d l;rw [if_pos hk,if_pos d,if_neg (λh=>l h.symm)];grind
   .rw [if_neg hk];exact(l7 (λj _=>by rw [if_neg hk];grind)).symm
open Go Go.Aev
structure Sy where
 n:Nat
 m:Nat
 A:Nat->Nat->Rat
 kd:Nat->Int
 to:Nat->Rat
structure bV where
 ah:Nat->Nat
 c:Nat->Nat->Rat
 y:Nat->Rat
 z:Nat->Rat
def bV.val(t:bV)(v:Nat):Rat×Rat:=(t.y v,t.z v)
def Sy.up(S:Sy)(v:Nat):Rat×Rat:=(S.to (v - S.n),if S.kd (v - S.n)=2 then -1 else 0)
def cH(a b:Rat×Rat):Prop:=a.1 < b.1\/a.1=b.1/\a.2 < b.2
instance (a b:Rat×Rat):Decidable (cH a b):=by unfold cH;infer_instance
def Sy.fO(S:Sy)(t:bV)(v:Nat):Prop:=S.n<=v/\(cH (S.up v) (t.val v)\/S.kd (v - S.n)=3/\cH (t.val v) (S.up v))
def Sy.rz(S:Sy)(t:bV)(v:Nat):Prop:=v < S.n\/cH (t.val v) (S.up v)
def Sy.ry(S:Sy)(t:bV)(v:Nat):Prop:=v < S.n\/S.kd (v - S.n)≠3\/cH (S.up v) (t.val v)
def Sy.fx(S:Sy)(v:Nat):Rat×Rat:=if v < S.n then(0,0) else S.up v
structure Sy.OK (S:Sy) (t:bV):Prop where
 wf:WF S.n S.m S.A t.ah t.c
 hy:fg S.n S.m S.A t.y
 hz:fg S.n S.m S.A t.z
 fix:∀v,v < S.n+S.m->(∀i,i < S.m->t.ah i≠v)->t.val v=S.fx v
def Sy.ao(S:Sy)(t:bV)(b:Nat):Rat:=if cH (S.up b) (t.val b) then -1 else 1
def Sy.Can(S:Sy)(t:bV)(w:Rat)(v:Nat):Prop:=(0 < w->S.rz t v)/\(w < 0->S.ry t v)
structure Sy.Step (S:Sy) (t t':bV) (i v:Nat):Prop where
 hi:i < S.m
 hv:v < S.n+S.m
 RG:S.fO t (t.ah i)
 low:∀j,j < S.m->t.ah j < t.ah i->¬S.fO t (t.ah j)
 ne:t.c i v≠0
 can:S.Can t (S.ao t (t.ah i) * t.c i v) v
 RI:∀u,u < v->t.c i u≠0->¬S.Can t (S.ao t (t.ah i) * t.c i u) u
 ah:t'.ah=fZ t.ah i v
def bV.lr(t:bV)(m:Nat)(v:Nat):Prop:= ∃i,i < m/\t.ah i=v
def Ps(p q:Rat):Prop:=0 < p\/p=0/\0<=q
theorem Ps.sum{f g:Nat->Rat}:∀{n:Nat},(∀i,i < n->Ps (f i) (g i))->Ps (sm n f) (sm n g)
 | 0,_=> .inr ⟨rfl,To⟩
 | n+1,h=>by
  have h1:=Ps.sum (n:=n) (λi hi=>h i (by omega));have a:=h n (by omega);unfold Ps at *
  simp only [sm];grind
theorem Ps.mul{a p q:Rat}(b: 0<=a)(h:Ps p q):Ps (a * p) (a * q):=by
 rcases Vg.1 b with b | b
 .unfold Ps at *
  rcases h with h | ⟨h,c⟩
  .exact .inl (Wq b h)
  .exact .inr ⟨by rw [h,Tm],TU (Tn b) c⟩
 .subst b;exact .inr ⟨by grind,by grind⟩
theorem Ps.zero:Ps 0 0:= .inr ⟨rfl,To⟩
structure RD (m:Nat) (s:Nat->bV) (l e:Nat->Nat) (a b:Nat):Prop where
 aA:∀t,a<=t->t < b->∀v,(s (t+1)).lr m v↔((s t).lr m v/\v≠l t)\/v=e t
 lb:∀t,a<=t->t < b->(s t).lr m (l t)
 eb:∀t,a<=t->t < b->¬(s t).lr m (e t)
 back:∀v,(s a).lr m v↔(s b).lr m v
theorem xX(a:Rat×Rat):¬cH a a:=by unfold cH;grind
open Go Go.Aev
structure Sy.CE (S:Sy) (G:Nat->Rat) (t:bV) (g:Nat->Rat):Prop where
 z:∀j,j < S.m->g (t.ah j)=0
 same:∀y,fg S.n S.m S.A y->sm (S.n+S.m) (λk=>g k * y k)=sm S.n (λk=>G k * y k)
def Sy.yy(S:Sy)(t:bV)(v:Nat):Prop:=v < S.n\/t.y v < S.to (v - S.n)
def Sy.yc(S:Sy)(t:bV)(v:Nat):Prop:=v < S.n\/S.kd (v - S.n)≠3\/S.to (v - S.n) < t.y v
def Sy.tN(S:Sy)(t:bV)(w:Rat)(v:Nat):Prop:=(0 < w->S.yy t v)/\(w < 0->S.yc t v)
def Sy.B6(S:Sy)(t:bV):Prop:= ∀v,S.n<=v->v < S.n+S.m->t.y v<=S.to (v - S.n)/\(S.kd (v - S.n)=3->t.y v=S.to (v - S.n))
def ja(q:Rat):Rat:=if 0 < q then 1 else -1
noncomputable def bV.dir(t:bV)(m v:Nat)(w:Rat):Nat->Rat:=λk=>open Classical in if k=v then w else if h:∃j,j < m/\t.ah j=k then t.c h.choose v * w else 0
theorem DT(t:bV)(m v:Nat)(w:Rat):t.dir m v w v=w:=by unfold bV.dir;rw [if_pos rfl]
theorem DR{S:Sy}{t:bV}(ok:S.OK t){v:Nat}(w:Rat){j:Nat}(b:j < S.m)(hv:¬t.lr S.m v):t.dir S.m v w (t.ah j)=t.c j v * w:=by unfold bV.dir;have d:t.ah j≠v:=λe=>hv ⟨j,b,e⟩;have a:∃k,k < S.m/\t.ah k=t.ah j:=⟨j,b,rfl⟩;rw [if_neg d,dif_pos a];have hs:=a.choose_spec;have:a.choose=j:=ok.wf.inj _ _ hs.1 b hs.2;rw [this]
theorem DS{m:Nat}(t:bV){v:Nat}(w:Rat){k:Nat}(hk:k≠v)(hn:¬t.lr m k):t.dir m v w k=0:=by unfold bV.dir;have a:¬∃j,j < m/\t.ah j=k:=hn;rw [if_neg hk,dif_neg a]
structure Sy.rN (S:Sy) (t:bV) (g:Nat->Rat) (t':bV) (i v:Nat):Prop where
 hi:i < S.m
 hv:v < S.n+S.m
 ne:g v≠0
 can:S.tN t (g v) v
 low:∀u,u < v->g u≠0->¬S.tN t (g u) u
 bn:S.n<=t.ah i
 bd: 0 < t.c i v * ja (g v)\/t.c i v * ja (g v) < 0/\S.kd (t.ah i - S.n)=3
 RH:∀j,j < S.m->S.n<=t.ah j->(0 < t.c j v * ja (g v)\/t.c j v * ja (g v) < 0/\S.kd (t.ah j - S.n)=3)->
  (S.to (t.ah i - S.n) - t.y (t.ah i)) / (t.c i v * ja (g v))<=(S.to (t.ah j - S.n) - t.y (t.ah j)) / (t.c j v * ja (g v))/\
  ((S.to (t.ah i - S.n) - t.y (t.ah i)) / (t.c i v * ja (g v))= (S.to (t.ah j - S.n) - t.y (t.ah j)) / (t.c j v * ja (g v))->t.ah i<=t.ah j)
 ah:t'.ah=fZ t.ah i v
 y':∀k,k < S.n+S.m->t'.y k=t.y k+ (S.to (t.ah i - S.n) - t.y (t.ah i)) / (t.c i v * ja (g v)) * t.dir S.m v (ja (g v)) k
theorem rN.nb{S:Sy}{G:Nat->Rat}{t c:bV}{g:Nat->Rat}{i v:Nat}(a:S.CE G t g)(k:S.rN t g c i v):¬t.lr S.m v:=by rintro⟨j,b,e⟩;exact k.ne (by rw [<-e];exact a.z j b)
theorem HP{a d:Rat}(h: 0 < d/\0<=a\/a=0): 0<=a / d:=by
 rcases h with⟨h1,b⟩ | h
 .rw [SF];exact TU b (Tn (Rat.inv_pos.2 h1))
 .rw [h,SF,T6];exact To
theorem rN.nn{S:Sy}{t b:bV}{g:Nat->Rat}{i v:Nat}(ok:S.OK t)(fe:S.B6 t)(k:S.rN t g b i v):
  0<=(S.to (t.ah i - S.n) - t.y (t.ah i)) / (t.c i v * ja (g v)):=by
 obtain⟨h1,a⟩:=fe _ k.bn (ok.wf.hb i k.hi);refine HP ?_;rcases k.bd with h | ⟨_,h⟩
 .exact .inl ⟨h,by grind⟩
 .exact .inr (by rw [a h];grind)
open Go Go.Aev
end Go.Aev.Tb
namespace Go.Aev.Wd.Lg
open Go Go.Aev Go.Aev.Gen Go.Aev.Wd Go.Aev.Tb
def aQ(n:Nat)(rows:List R):Sy:=⟨n,rows.length,λi k=>(((rowAt rows i).of.getD k 0:Int):Rat),λi=>(rowAt rows i).kd,λi=>((rowAt rows i).tv:Rat)⟩
def TL.st(t:TL):bV:=⟨λi=>t.ah.getD i 0,λi k=>nv (aF (ay t.ak i) k),λv=>nv (aH t.val v).1,λv=>nv (aH t.val v).2⟩
structure eM (n:Nat) (rows:List R):Prop where
 sz:Sz n rows
 of:∀r∈rows,∀c∈r.of, -1000000<=c/\c<=1000000
 len:∀r∈rows,r.of.length<=n
 kd:∀r∈rows,r.kd=1\/r.kd=2\/r.kd=3
def vv(a:Vl):Rat×Rat:=(nv a.1,nv a.2)
theorem rZ(p q:Rat):cq p q < 0↔p < q:=by
 unfold cq;by_cases h:p < q
 .rw [if_pos h];exact⟨λ_=>h,λ_=>by decide⟩
 .rw [if_neg h];by_cases b:p=q
  .rw [if_pos b];exact⟨λa=>absurd a (by decide),λa=>absurd a h⟩
  .rw [if_neg b];exact⟨λa=>absurd a (by decide),λa=>absurd a h⟩
theorem p6(p q:Rat):cq p q=0↔p=q:=by
 unfold cq;by_cases h:p < q
 .rw [if_pos h];exact⟨λa=>absurd a (by decide),λa=>by rw [a] at h;exact absurd h (by grind)⟩
 .rw [if_neg h];by_cases b:p=q
  .rw [if_pos b];exact⟨λ_=>b,λ_=>rfl⟩
  .rw [if_neg b];exact⟨λa=>absurd a (by decide),λa=>absurd a b⟩
theorem za(p q:Rat):cq p q > 0↔q < p:=by
 have h1:=rZ p q;have d:=p6 p q;constructor
 .intro h;have a:¬p < q:=λc=>by have:=h1.2 c;omega
  have b:¬p=q:=λc=>by have:=d.2 c;omega
  grind
 .intro h;have a:¬cq p q < 0:=λc=>by have:=h1.1 c;grind
  have b:¬cq p q=0:=λc=>by have:=d.1 c;grind
  omega
theorem vd(a b:Vl):eE a b < 0↔cH (vv a) (vv b):=by
 unfold eE cH vv;by_cases h:cq (nv a.1) (nv b.1)=0
 .rw [if_pos h,rZ];have:=(p6 _ _).1 h;constructor
  .intro c;exact .inr ⟨this,c⟩
  .rintro(c | ⟨_,c⟩)
   .simp only at c;rw [this] at c;exact absurd c (by grind)
   .exact c
 .rw [if_neg h,rZ];constructor
  .intro c;exact .inl c
  .rintro(c | ⟨c,_⟩)
   .exact c
   .exact absurd ((p6 _ _).2 c) h
theorem u9(a b:Vl):eE a b > 0↔cH (vv b) (vv a):=by
 unfold eE cH vv;by_cases h:cq (nv a.1) (nv b.1)=0
 .rw [if_pos h,za];have:=(p6 _ _).1 h;constructor
  .intro c;exact .inr ⟨this.symm,c⟩
  .rintro(c | ⟨_,c⟩)
   .simp only at c;rw [this] at c;exact absurd c (by grind)
   .exact c
 .rw [if_neg h,za];constructor
  .intro c;exact .inl c
  .rintro(c | ⟨c,_⟩)
   .exact c
   .exact absurd ((p6 _ _).2 c.symm) h
theorem tI{n:Nat}{rows:List R}{v:Nat}(h:¬v < n):vv (bC n rows v)= (aQ n rows).up v:=by
 unfold vv bC Sy.up aQ;simp only [if_neg h];by_cases hk:(rowAt rows (v - n)).kd=2
 .simp only [hk,if_true];rfl
 .simp only [hk,if_false];rfl
theorem lV{n:Nat}{rows:List R}{v:Nat}:e9 n rows v=true↔¬v < n/\(aQ n rows).kd (v - n)=3:=by unfold e9 aQ;simp
theorem sF{n:Nat}{rows:List R}{v:Nat}(h:e9 n rows v=true):vv (gY n rows v)= (aQ n rows).up v:=by
 have a:=lV.1 h;unfold vv gY Sy.up;simp only [if_pos h];have hk:¬(aQ n rows).kd (v - (aQ n rows).n)=2:=by show ¬(aQ n rows).kd (v - n)=2;rw [a.2];decide
 rw [if_neg hk];rfl
theorem rv(t:TL)(v:Nat):t.st.val v=vv (aH t.val v):=rfl
theorem yY{n:Nat}{rows:List R}(t:TL)(v:Nat){w:Int}(d:w≠0):fp n rows t.val v w=true↔(if w > 0 then(aQ n rows).rz t.st v else(aQ n rows).ry t.st v):=by
 unfold fp;by_cases h:w > 0
 .rw [if_pos h,if_pos h];unfold Sy.rz;show _↔v < n\/_;by_cases hv:v < n
  .simp [hv]
  .rw [<-tI hv,rv,<-vd];simp [hv]
 .rw [if_neg h,if_neg h];unfold Sy.ry;show _↔v < n\/_\/_;cases b:e9 n rows v
  .have:¬(¬v < n/\(aQ n rows).kd (v - n)=3):=λc=>by rw [lV.2 c] at b;cases b
   simp only [Sw,V8,true_iff];by_cases hv:v < n
   .exact .inl hv
   .exact .inr (.inl λc=>this ⟨hv,c⟩)
  .have c:=lV.1 b;have e:=sF b;simp only [Sl,SP,decide_eq_true_eq];rw [u9,e,<-rv];constructor
   .intro a;exact .inr (.inr a)
   .rintro(a | a | a)
    .exact absurd a c.1
    .exact absurd c.2 a
    .exact a
def bu(n:Nat)(rows:List R)(t:TL)(b:Nat):Int:=if cH ((aQ n rows).up b) (t.st.val b) then -1 else 1
theorem BX(n:Nat)(rows:List R)(t:TL)(b:Nat):(aQ n rows).ao t.st b= ((bu n rows t b:Int):Rat):=by unfold Sy.ao bu;split <;> rfl
theorem Rk{a b:Rat×Rat}(h:cH a b):¬cH b a:=by unfold cH at *;grind
theorem Di{n:Nat}{rows:List R}(t:TL)(b:Nat)(r:List Nat)(p:Int×Int)(hs:¬(p.1>=0/\(b:Int) > p.1)):
  ((aQ n rows).fO t.st b/\b8 n rows t.val (b::r) p=b8 n rows t.val r ((b:Int),bu n rows t b))\/
  (¬(aQ n rows).fO t.st b/\b8 n rows t.val (b::r) p=b8 n rows t.val r p):=by
 rw [b8,if_neg hs];by_cases h1:e9 n rows b=true/\eE (aH t.val b) (gY n rows b) < 0
 .rw [if_pos h1];have f:=lV.1 h1.1;have a:=(vd _ _).1 h1.2;rw [sF h1.1,<-rv] at a;refine .inl ⟨⟨UH f.1, .inr ⟨f.2,a⟩⟩, ?_⟩;unfold bu;rw [if_neg (Rk a)]
 .rw [if_neg h1];by_cases d:¬b < n/\eE (aH t.val b) (bC n rows b) > 0
  .rw [if_pos d];have a:=(u9 _ _).1 d.2;rw [tI d.1,<-rv] at a;refine .inl ⟨⟨UH d.1, .inl a⟩, ?_⟩;unfold bu;rw [if_pos a]
  .rw [if_neg d];refine .inr ⟨?_,rfl⟩;rintro⟨hn,h | ⟨hk,h⟩⟩
   .have c:¬b < n:=T2.2 hn;refine d ⟨c,(u9 _ _).2 ?_⟩;rw [tI c,<-rv];exact h
   .have c:¬b < n:=T2.2 hn;have e:e9 n rows b=true:=lV.2 ⟨c,hk⟩;refine h1 ⟨e,(vd _ _).2 ?_⟩;rw [sF e,<-rv];exact h
theorem uY{n:Nat}{rows:List R}(t:TL):∀(l:List Nat) (a:Nat),(aQ n rows).fO t.st a->
  ∃b,(b=a\/b∈l)/\(aQ n rows).fO t.st b/\b<=a/\(∀u∈l,(aQ n rows).fO t.st u->b<=u)/\b8 n rows t.val l ((a:Int),bu n rows t a)= ((b:Int),bu n rows t b)
 | [],a,h=>⟨a, .inl rfl,h,R3 _,(λu hu=>by cases hu),rfl⟩
 | c::l,a,h=>by
  by_cases hs:((a:Int),bu n rows t a).1>=0/\(c:Int) > ((a:Int),bu n rows t a).1
  .obtain⟨b,h1,f,g,i,j⟩:=uY t l a h;refine⟨b, ?_,f,g,λu hu d=> ?_,by rw [b8,if_pos hs];exact j⟩
   .rcases h1 with h1 | h1
    .exact .inl h1
    .exact .inr (RM _ h1)
   .rcases RV.1 hu with rfl | hu
    .have:=hs.2;simp only at this;omega
    .exact i u hu d
  .have m:c<=a:=by simp only at hs;omega
   rcases Di (n:=n) (rows:=rows) t c l _ hs with⟨k,e⟩ | ⟨k,e⟩
   .obtain⟨b,h1,f,g,i,j⟩:=uY t l c k;refine⟨b, ?_,f,by omega,λu hu d=> ?_,by rw [e];exact j⟩
    .rcases h1 with h1 | h1
     .exact .inr (by rw [h1];exact RL)
     .exact .inr (RM _ h1)
    .rcases RV.1 hu with rfl | hu
     .exact g
     .exact i u hu d
   .obtain⟨b,h1,f,g,i,j⟩:=uY t l a h;refine⟨b, ?_,f,g,λu hu d=> ?_,by rw [e];exact j⟩
    .rcases h1 with h1 | h1
     .exact .inl h1
     .exact .inr (RM _ h1)
    .rcases RV.1 hu with rfl | hu
     .exact absurd d k
     .exact i u hu d
theorem Dh{n:Nat}{rows:List R}(t:TL):∀(l:List Nat),
  ((∀u∈l,¬(aQ n rows).fO t.st u)/\b8 n rows t.val l (-1,0)= (-1,0))\/
  ∃b,b∈l/\(aQ n rows).fO t.st b/\(∀u∈l,(aQ n rows).fO t.st u->b<=u)/\b8 n rows t.val l (-1,0)= ((b:Int),bu n rows t b)
 | []=> .inl ⟨λu hu=>(by cases hu),rfl⟩
 | c::l=>by
  have hs:¬(((-1:Int),(0:Int)).1>=0/\(c:Int) > ((-1:Int),(0:Int)).1):=λh=>absurd h.1 (by decide);rcases Di (n:=n) (rows:=rows) t c l _ hs with⟨f,e⟩ | ⟨f,e⟩
  .obtain⟨b,h1,d,g,i,j⟩:=uY t l c f;refine .inr ⟨b, ?_,d,λu hu a=> ?_,by rw [e];exact j⟩
   .rcases h1 with h1 | h1
    .rw [h1];exact RL
    .exact RM _ h1
   .rcases RV.1 hu with rfl | hu
    .exact g
    .exact i u hu a
  .rcases Dh t l with⟨h1,d⟩ | ⟨b,h1,d,g,i⟩
   .refine .inl ⟨λu hu=> ?_,by rw [e];exact d⟩;rcases RV.1 hu with rfl | hu
    .exact f
    .exact h1 u hu
   .refine .inr ⟨b,RM _ h1,d,λu hu a=> ?_,by rw [e];exact i⟩;rcases RV.1 hu with rfl | hu
    .exact absurd a f
    .exact g u hu a
theorem mB{n:Nat}{rows:List R}{val:List Vl}{ao:Int}:∀{row:List Nm} {k v:Nat},bx n rows val ao row k=some v->
  k<=v/\v < k+row.length/\nv (aF row (v - k))≠0/\fp n rows val v (ao * (nv (aF row (v - k))).num.sign)=true/\
  ∀u,k<=u->u < v->nv (aF row (u - k))≠0->fp n rows val u (ao * (nv (aF row (u - k))).num.sign)=false
 | [],_,_,h=>by simp [bx] at h
 | x::xs,k,v,h=>by
  rw [bx] at h;by_cases b:nv x≠0/\fp n rows val k (ao * (nv x).num.sign)=true
  .rw [if_pos b] at h;obtain rfl:k=v:=Tx h;refine⟨R3 _,by simp, ?_, ?_,λu h1 f=>by omega⟩
   .rw [Uq];exact b.1
   .rw [Uq];exact b.2
  .rw [if_neg b] at h;obtain⟨h1,f,g,i,j⟩:=mB h;have e:∀u,k+1<=u->aF (x::xs) (u - k)=aF xs (u - (k+1)):=λu c=>by
    have:u - k= (u - (k+1))+1:=by omega
    rw [this];rfl
   refine⟨by omega,by simp only [Sc];omega,by rw [e v h1];exact g,by rw [e v h1];exact i,λu m d a=> ?_⟩;by_cases c:u=k
   .subst c;rw [Uq] at a⊢;have:aF (x::xs) 0=x:=rfl;rw [this] at a⊢;cases l:fp n rows val u (ao * (nv x).num.sign)
    .rfl
    .exact absurd ⟨a,l⟩ b
   .rw [e u (by omega)] at a⊢;exact j u (by omega) d a
theorem zB{n:Nat}{rows:List R}{val:List Vl}{ao:Int}:∀{row:List Nm} {k:Nat},bx n rows val ao row k=none->
  ∀u,k<=u->nv (aF row (u - k))≠0->fp n rows val u (ao * (nv (aF row (u - k))).num.sign)=false
 | [],_,_,u,_,a=>absurd rfl a
 | x::xs,k,h,u,f,a=>by
  rw [bx] at h;by_cases b:nv x≠0/\fp n rows val k (ao * (nv x).num.sign)=true
  .rw [if_pos b] at h;cases h
  .rw [if_neg b] at h;by_cases c:u=k
   .subst c;rw [Uq] at a⊢;have:aF (x::xs) 0=x:=rfl;rw [this] at a⊢;cases d:fp n rows val u (ao * (nv x).num.sign)
    .rfl
    .exact absurd ⟨a,d⟩ b
   .have e:aF (x::xs) (u - k)=aF xs (u - (k+1)):=by
     have:u - k= (u - (k+1))+1:=by omega
     rw [this];rfl
    rw [e] at a⊢;exact zB h u (by omega) a
end Go.Aev.Wd.Lg
