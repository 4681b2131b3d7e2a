import Derived.Test.YtgkhhafdkdmlpaaGreatTopMostQ5
import Derived.Test.YtgkhhafdkdmlpaaGreatTopMostQ12
set_option linter.all false
namespace Go.Aev.Tb
open Go Go.Aev
def sm:Nat->(Nat->Rat)->Rat
 | 0,_=>0
 | n+1,f=>sm n f+f n
theorem de{f g:Nat->Rat}:∀{n:Nat},(∀i,i < n->f i=g i)->sm n f=sm n g
 | 0,_=>rfl
 | n+1,h=>by rw [sm,sm,de (n:=n) (λi hi=>h i (by omega)),h n (by omega)]
theorem B6:∀(n:Nat),sm n (λ_=>0)=0
 | 0=>rfl
 | n+1=>by rw [sm,B6 n];grind
theorem lJ{n:Nat}{f:Nat->Rat}(h:∀i,i < n->f i=0):sm n f=0:=by rw [de h,B6]
theorem kG(x y:Rat)(f g:Nat->Rat):∀(n:Nat),sm n (λi=>x * f i+y * g i)=x * sm n f+y * sm n g
 | 0=>by simp only [sm];grind
 | n+1=>by have:=kG x y f g n;simp only [sm];grind
theorem uw(f g:Nat->Rat)(n:Nat):sm n (λi=>f i+g i)=sm n f+sm n g:=by have:=kG 1 1 f g n;simp only [Vr] at this;exact this
theorem oX(x:Rat)(f:Nat->Rat)(n:Nat):sm n (λi=>x * f i)=x * sm n f:=by have:=kG x 0 f (λ_=>0) n;simp only [Se,UH] at this;exact this
theorem jP{f:Nat->Rat}{v:Nat}:∀{n:Nat},v < n->(∀i,i < n->i≠v->f i=0)->sm n f=f v
 | 0,h,_=>by omega
 | n+1,h,hz=>by
  rw [sm];by_cases hv:v=n
  .subst hv;rw [lJ (λi hi=>hz i (by omega) (by omega)),Vh]
  .rw [jP (n:=n) (by omega) (λi hi a=>hz i (by omega) a),hz n (by omega) (by omega),UH]
theorem nG{n v:Nat}(hv:v < n)(f:Nat->Rat):sm n (λi=>if i=v then f i else 0)=f v:=by rw [jP hv (λi _ a=>if_neg a),if_pos rfl]
theorem B5(f:Nat->Nat->Rat)(m:Nat):∀(n:Nat),sm n (λi=>sm m (λj=>f i j))=sm m (λj=>sm n (λi=>f i j))
 | 0=>by simp only [sm];exact(B6 m).symm
 | n+1=>by simp only [sm];rw [B5 f m n,uw]
theorem Iq{N n:Nat}{nb:Nat->Nat}{f:Nat->Rat}(hb:∀r,r < n->nb r < N)(hi:∀r s,r < n->s < n->nb r=nb s->r=s)
  (hz:∀v,v < N->(∀r,r < n->nb r≠v)->f v=0):sm N f=sm n (λr=>f (nb r)):=by
 have h1:sm N f=sm N (λv=>sm n (λr=>if nb r=v then f v else 0)):=by
  refine de (λv hv=> ?_);by_cases h:∃r,r < n/\nb r=v
  .obtain⟨r,a,e⟩:=h;rw [jP a (λi b c=>if_neg (λg=>c (hi _ _ b a (by rw [g,e])))),if_pos e]
  .have d:∀r,r < n->nb r≠v:=λr a e=>h ⟨r,a,e⟩;rw [hz v hv d,lJ (λi b=>if_neg (d i b))]
 rw [h1,B5];refine de (λr a=> ?_);rw [jP (hb r a) (λi _ c=>if_neg (λe=>c e.symm)),if_pos rfl]
def skip(i r:Nat):Nat:=if r < i then r else r+1
def sg:Nat->Rat
 | 0=>1
 | i+1=> - sg i
def cS:Nat->(Nat->Nat->Rat)->Rat
 | 0,_=>1
 | n+1,M=>sm (n+1) (λi=>sg i * M i 0 * cS n (λr c=>M (skip i r) (c+1)))
theorem Io(i r:Nat):skip i r≠i:=by unfold skip;split <;> omega
theorem PE{i r s:Nat}(h:skip i r=skip i s):r=s:=by unfold skip at h;split at h <;> split at h <;> omega
theorem D0:∀(n:Nat) (M a b:Nat->Nat->Rat) (p:Nat) (x y:Rat),p < n->(∀r,r≠p->M r=a r/\M r=b r)->(∀c,M p c=x * a p c+y * b p c)->
  cS n M=x * cS n a+y * cS n b
 | 0,_,_,_,_,_,_,h,_,_=>by omega
 | n+1,M,a,b,p,x,y,t,d,g=>by
  simp only [cS];rw [<-kG];refine de (λi hi=> ?_);by_cases e:i=p
  .subst e;have o:(λr c=>M (skip i r) (c+1))= (λr c=>a (skip i r) (c+1)):=by
    funext r c;rw [(d _ (Io i r)).1]
   have s:(λr c=>M (skip i r) (c+1))= (λr c=>b (skip i r) (c+1)):=by funext r c;rw [(d _ (Io i r)).2]
   rw [<-o,<-s,g 0];grind
  .obtain⟨q,k,l⟩:∃q,skip i q=p/\q < n:=by
    by_cases j:p < i
    .exact⟨p,by unfold skip;rw [if_pos j],by omega⟩
    .exact⟨p - 1,by unfold skip;rw [if_neg (by omega)];omega,by omega⟩
   have:=D0 n (λr c=>M (skip i r) (c+1)) (λr c=>a (skip i r) (c+1)) (λr c=>b (skip i r) (c+1)) q x y l
    (λr m=>by
     have f:skip i r≠p:=λh=>m (PE (by rw [h,k]));exact⟨by funext c;rw [(d _ f).1],by funext c;rw [(d _ f).2]⟩)
    (λc=>by rw [k];exact g _)
   rw [this,<-(d i e).1,<-(d i e).2];grind
theorem wD:∀(n:Nat) (M:Nat->Nat->Rat) (p:Nat),p+1 < n->M p=M (p+1)->cS n M=0
 | 0,_,_,h,_=>by omega
 | n+1,M,p,j,f=>by
  simp only [cS];have e:(λr c=>M (skip (p+1) r) (c+1))= (λr c=>M (skip p r) (c+1)):=by
   funext r c;by_cases h1:r < p
   .have a:skip (p+1) r=r:=by unfold skip;rw [if_pos (by omega)]
    have b:skip p r=r:=by unfold skip;rw [if_pos h1]
    rw [a,b]
   .by_cases d:r=p
    .subst d;have a:skip (r+1) r=r:=by unfold skip;rw [if_pos (by omega)]
     have b:skip r r=r+1:=by unfold skip;rw [if_neg (by omega)]
     rw [a,b,f]
    .have a:skip (p+1) r=r+1:=by unfold skip;rw [if_neg (by omega)]
     have b:skip p r=r+1:=by unfold skip;rw [if_neg (by omega)]
     rw [a,b]
  have h1:sm (n+1) (λi=>sg i * M i 0 * cS n (λr c=>M (skip i r) (c+1)))=
    sm (n+1) (λi=>(if i=p then sg p * M p 0 * cS n (λr c=>M (skip p r) (c+1)) else 0)+ (if i=p+1 then -(sg p * M p 0 * cS n (λr c=>M (skip p r) (c+1))) else 0)):=by
   refine de (λi hi=> ?_);by_cases h1:i=p
   .subst h1;rw [if_pos rfl,if_neg (by omega),UH]
   .by_cases d:i=p+1
    .subst d;rw [if_neg (by omega),if_pos rfl,e,<-f];simp only [sg];grind
    .rw [if_neg h1,if_neg d];have:cS n (λr c=>M (skip i r) (c+1))=0:=by
      by_cases g:p+1 < i
      .refine wD n _ p (by omega) ?_;have a:skip i p=p:=by unfold skip;rw [if_pos (by omega)]
       have b:skip i (p+1)=p+1:=by unfold skip;rw [if_pos g]
       funext c;rw [a,b,f]
      .refine wD n _ (p - 1) (by omega) ?_;have a:skip i (p - 1)=p:=by unfold skip;rw [if_neg (by omega)];omega
       have b:skip i (p - 1+1)=p+1:=by unfold skip;rw [if_neg (by omega)];omega
       funext c;rw [a,b,f]
     rw [this];grind
  rw [h1,uw,nG (v:=p) (by omega) (λ_=>sg p * M p 0 * cS n (λr c=>M (skip p r) (c+1))),nG (v:=p+1) (by omega) (λ_=> -(sg p * M p 0 * cS n (λr c=>M (skip p r) (c+1))))];grind
def aA(M:Nat->Nat->Rat)(p:Nat)(v:Nat->Rat):Nat->Nat->Rat:=λr=>if r=p then v else M r
theorem kN(M:Nat->Nat->Rat)(p:Nat)(v:Nat->Rat):aA M p v p=v:=if_pos rfl
theorem iZ{M:Nat->Nat->Rat}{p r:Nat}(v:Nat->Rat)(h:r≠p):aA M p v r=M r:=if_neg h
theorem yC(M:Nat->Nat->Rat)(p:Nat):aA M p (M p)=M:=by
 funext r;by_cases h:r=p
 .subst h;exact kN _ _ _
 .exact iZ _ h
theorem qR{n:Nat}(M:Nat->Nat->Rat){p:Nat}(b:p < n)(x y:Rat)(u v:Nat->Rat):
  cS n (aA M p (λk=>x * u k+y * v k))=x * cS n (aA M p u)+y * cS n (aA M p v):=by
 refine D0 n _ _ _ p x y b (λr a=> ?_) (λc=> ?_)
 .rw [iZ _ a,iZ _ a,iZ _ a];exact⟨rfl,rfl⟩
 .rw [kN,kN,kN]
theorem Kq{n:Nat}(M:Nat->Nat->Rat){p:Nat}(e:p+1 < n)(u v:Nat->Rat):
  cS n (aA (aA M p u) (p+1) v)= - cS n (aA (aA M p v) (p+1) u):=by
 have z:∀w,cS n (aA (aA M p w) (p+1) w)=0:=λw=>wD n _ p e (by rw [kN,iZ _ (by omega),kN]);have c:∀a b,aA (aA M p a) (p+1) b=aA (aA M (p+1) b) p a:=λa b=>by
  funext r;by_cases h1:r=p
  .subst h1;rw [iZ _ (by omega),kN,kN]
  .by_cases d:r=p+1
   .subst d;rw [kN,iZ _ h1,kN]
   .rw [iZ _ d,iZ _ h1,iZ _ h1,iZ _ d]
 have f:=z (λk=>1 * u k+1 * v k);have i:=qR (n:=n) (aA M p (λk=>1 * u k+1 * v k)) e 1 1 u v;have k2:=qR (n:=n) (aA M p (λk=>1 * u k+1 * v k)) (p:=p+1) e 1 1 u v;rw [f] at k2;rw [c,c] at k2;have g:=qR (n:=n) (aA M (p+1) u) (p:=p) (by omega) 1 1 u v;have h:=qR (n:=n) (aA M (p+1) v) (p:=p) (by omega) 1 1 u v;rw [g,h,<-c,<-c,<-c,<-c,z,z] at k2;grind
theorem zT{n:Nat}:∀(d:Nat) (M:Nat->Nat->Rat) (p:Nat),p+d+1 < n->M p=M (p+d+1)->cS n M=0
 | 0,M,p,b,a=>wD n M p b a
 | d+1,M,p,b,a=>by
  have e:M=aA (aA M (p+d+1) (M (p+d+1))) (p+d+1+1) (M (p+d+1+1)):=by rw [yC,yC]
  rw [e,Kq M (p:=p+d+1) b];rw [zT d _ p (by omega)]
  .grind
  .rw [iZ _ (by omega),iZ _ (by omega),iZ _ (by omega),kN];exact a
theorem Kp{n:Nat}{M:Nat->Nat->Rat}{p q:Nat}(c:p < n)(d:q < n)(b:p≠q)(a:M p=M q):cS n M=0:=by
 by_cases h:p < q
 .refine zT (q - p - 1) M p (by omega) ?_;rw [a];congr 1;omega
 .refine zT (p - q - 1) M q (by omega) ?_;rw [<-a];congr 1;omega
theorem D1{n:Nat}(M:Nat->Nat->Rat){p:Nat}(a:p < n)(c:Nat->Rat)(w:Nat->Nat->Rat):
  ∀(m:Nat),cS n (aA M p (λk=>sm m (λr=>c r * w r k)))=sm m (λr=>c r * cS n (aA M p (w r)))
 | 0=>by
  have:=qR (n:=n) M a 0 0 (λ_=>0) (λ_=>0);simp only [sm];have e:(λk:Nat=>(0:Rat) * (λ_=>(0:Rat)) k+0 * (λ_=>(0:Rat)) k)= (λ_=>0):=by funext k;grind
  rw [e] at this;rw [this];grind
 | m+1=>by have:=qR (n:=n) M a 1 (c m) (λk=>sm m (λr=>c r * w r k)) (w m);simp only [Vr] at this;simp only [sm];rw [this,D1 M a c w m]
theorem DR{n:Nat}(M:Nat->Nat->Rat){p:Nat}(b:p < n)(c:Nat->Rat)(u:Nat->Rat)(d:∀k,u k=sm n (λr=>c r * M r k)):
  cS n (aA M p u)=c p * cS n M:=by
 have e:u=λk=>sm n (λr=>c r * M r k):=funext d;rw [e,D1 M b c M n,jP b (λi hi a=> ?_),yC];rw [Kp (p:=p) (q:=i) b hi (λh=>a h.symm) (by rw [kN,iZ _ a])];grind
def aQ(B:Nat)(q:Rat):Prop:= ∃z:Int,q= (z:Rat)/\z.natAbs<=B
theorem aQ.add{A B:Nat}{p q:Rat}(h:aQ A p)(k:aQ B q):aQ (A+B) (p+q):=by obtain⟨x,rfl,a⟩:=h;obtain⟨y,rfl,hy⟩:=k;exact⟨x+y,by rw [Rat.intCast_add],by omega⟩
theorem aQ.mul{A B:Nat}{p q:Rat}(h:aQ A p)(k:aQ B q):aQ (A * B) (p * q):=by obtain⟨x,rfl,a⟩:=h;obtain⟨y,rfl,hy⟩:=k;exact⟨x * y,by rw [VP],by rw [Sq];exact UD a hy⟩
theorem aQ.neg{A:Nat}{p:Rat}(h:aQ A p):aQ A (-p):=by obtain⟨x,rfl,a⟩:=h;exact⟨-x,by rw [Rat.intCast_neg],by omega⟩
theorem aQ.mono{A B:Nat}{p:Rat}(h:aQ A p)(a:A<=B):aQ B p:=by obtain⟨x,e,b⟩:=h;exact⟨x,e,by omega⟩
theorem aQ.zero(B:Nat):aQ B 0:=⟨0,rfl,by omega⟩
theorem aQ.int{z:Int}{B:Nat}(h:z.natAbs<=B):aQ B (z:Rat):=⟨z,rfl,h⟩
theorem Ih:∀(i:Nat),aQ 1 (sg i)
 | 0=>⟨1,rfl,by decide⟩
 | i+1=>(Ih i).neg
theorem uy{B:Nat}{f:Nat->Rat}:∀{n:Nat},(∀i,i < n->aQ B (f i))->aQ (n * B) (sm n f)
 | 0,_=>aQ.zero _
 | n+1,h=>by rw [sm,Sn];exact(uy (λi hi=>h i (by omega))).add (h n (by omega))
def bd(K:Nat):Nat->Nat
 | 0=>1
 | n+1=>(n+1) * (K * bd K n)
theorem zU{K:Nat}:∀(n:Nat) (M:Nat->Nat->Rat),(∀r c,r < n->aQ K (M r c))->aQ (bd K n) (cS n M)
 | 0,_,_=>⟨1,rfl,RI _⟩
 | n+1,M,h=>by rw [cS,bd];refine uy (λi hi=> ?_);have h1:=((Ih i).mul (h i 0 hi)).mul (zU n (λr c=>M (skip i r) (c+1)) (λr c a=>h _ _ (by unfold skip;split <;> omega)));rw [Nat.one_mul] at h1;exact h1
open Go Go.Aev
theorem Ip{n N:Nat}{f:Nat->Rat}(h:n<=N)(hz:∀k,n<=k->k < N->f k=0):sm N f=sm n f:=
 Iq (nb:=λr=>r) (λr c=>by omega) (λr s _ _ e=>e) (λv hv b=>hz v (by
  by_cases a:v < n
  .exact absurd rfl (b v a)
  .omega) hv)
def av(n:Nat)(A:Nat->Nat->Rat)(v:Nat):Nat->Rat:=λk=>if k < n then(if v < n then(if k=v then 1 else 0) else A (v - n) k) else 0
def eN(n m:Nat)(A:Nat->Nat->Rat)(y:Nat->Rat):Prop:= ∀i,i < m->y (n+i)=sm n (λk=>A i k * y k)
def yH(N m:Nat)(af:Nat->Nat)(c:Nat->Nat->Rat)(y:Nat->Rat):Prop:= ∀i,i < m->y (af i)=sm N (λk=>c i k * y k)
structure WF (n m:Nat) (A:Nat->Nat->Rat) (af:Nat->Nat) (c:Nat->Nat->Rat):Prop where
 hb:∀i,i < m->af i < n+m
 inj:∀i j,i < m->j < m->af i=af j->i=j
 z:∀i j,i < m->j < m->c i (af j)=0
 same:∀y,yH (n+m) m af c y↔eN n m A y
 nb:∃nb:Nat->Nat,(∀r,r < n->nb r < n+m)/\(∀r s,r < n->s < n->nb r=nb s->r=s)/\(∀r i,r < n->i < m->nb r≠af i)/\
  (∀v,v < n+m->(∃r,r < n/\nb r=v)\/∃i,i < m/\af i=v)/\cS n (λr=>av n A (nb r))≠0
theorem DZ:∀(n:Nat),cS n (λr c=>if c < n then(if c=r then 1 else 0) else 0)=1
 | 0=>rfl
 | n+1=>by
  rw [cS,jP (v:=0) (by omega)]
  .have e:(λr c=>if c+1 < n+1 then(if c+1=skip 0 r then(1:Rat) else 0) else 0)= (λr c=>if c < n then(if c=r then 1 else 0) else 0):=by
    funext r c;have hs:skip 0 r=r+1:=by unfold skip;rw [if_neg (by omega)]
    rw [hs];have h1:(c+1 < n+1)= (c < n):=by simp
    have b:(c+1=r+1)= (c=r):=by simp
    simp only [h1,b]
   rw [e,DZ n,if_pos (by omega),if_pos rfl];simp only [sg];grind
  .intro i hi a;rw [if_pos (by omega),if_neg (λh=>a h.symm)];grind
theorem Re(n m:Nat)(A:Nat->Nat->Rat):WF n m A (λi=>n+i) (λi k=>if k < n then A i k else 0) where
 hb:=λi hi=>by omega
 inj:=λi j _ _ h=>by omega
 z:=λi j _ _=>if_neg (by omega)
 same:=λy=>by
  have e:∀i,sm (n+m) (λk=>(if k < n then A i k else 0) * y k)=sm n (λk=>A i k * y k):=λi=>by rw [Ip (n:=n) (by omega) (λk h _=>by rw [if_neg (by omega),Se])];exact de (λk hk=>by rw [if_pos hk])
  unfold yH eN;constructor
  .intro h i hi;rw [h i hi,e]
  .intro h i hi;rw [h i hi,e]
 nb:=by
  refine⟨λr=>r,λr hr=>by dsimp only;omega,λr s _ _ e=>e,λr i hr _=>by dsimp only;omega,λv hv=> ?_, ?_⟩
  .by_cases h:v < n
   .exact .inl ⟨v,h,rfl⟩
   .exact .inr ⟨v - n,by omega,by omega⟩
  .have e:∀(N:Nat) (M M':Nat->Nat->Rat),(∀r,r < N->M r=M' r)->cS N M=cS N M':=by
    intro N;induction N with
    | zero=>intros;rfl
    | succ N ih=>intro M M' h;rw [cS,cS];refine de (λi hi=> ?_);rw [h i hi,ih _ (λr c=>M' (skip i r) (c+1)) (λr hr=>by funext c;rw [h _ (by unfold skip;split <;> omega)])]
   rw [e n (λr=>av n A r) (λr c=>if c < n then(if c=r then 1 else 0) else 0) (λr hr=>by
    funext c;unfold av;rw [if_pos hr]),DZ]
   grind
theorem zr{n m:Nat}(A:Nat->Nat->Rat)(k:Nat):eN n m A (λv=>av n A v k):=by
 intro i _;unfold av;dsimp only;by_cases a:k < n
 .rw [if_pos a,if_neg (by omega)];have e:n+i - n=i:=by omega
  rw [e,jP a]
  .rw [if_pos a,if_pos a,if_pos rfl];grind
  .intro j c b;rw [if_pos a,if_pos c,if_neg (λh=>b h.symm)];grind
 .rw [if_neg a];exact(lJ (λj _=>by rw [if_neg a];grind)).symm
theorem WF.sum{n m:Nat}{A:Nat->Nat->Rat}{af:Nat->Nat}{c:Nat->Nat->Rat}{nb:Nat->Nat}
  (h1:∀r,r < n->nb r < n+m) (a:∀r s,r < n->s < n->nb r=nb s->r=s) (b:∀v,v < n+m->(∃r,r < n/\nb r=v)\/∃i,i < m/\af i=v)
  {l:Nat->Rat} (hz:∀j,j < m->l (af j)=0) (y:Nat->Rat):sm (n+m) (λk=>l k * y k)=sm n (λr=>l (nb r) * y (nb r)):=by
 refine Iq h1 a (λv hv d=> ?_);rcases b v hv with⟨r,f,e⟩ | ⟨i,hi,e⟩
 .exact absurd e (d r f)
 .rw [<-e,hz i hi,Se]
def fZ(x:Nat->Rat)(b v:Nat)(k:Nat):Rat:=if k=b then 1 / x v else if k=v then 0 else -(x k / x v)
def jL(row:Nat->Rat)(v:Nat)(l:Nat->Rat)(k:Nat):Rat:=if k=v then 0 else l k+l v * row k
theorem Hz{N:Nat}{x:Nat->Rat}{b v:Nat}(hb:b < N)(hv:v < N)(c:b≠v)(d:x b=0)(g:x v≠0)(y:Nat->Rat):
  sm N (λk=>fZ x b v k * y k)= (y b - sm N (λk=>x k * y k)) / x v+y v:=by
 have e:sm N (λk=>fZ x b v k * y k)=sm N (λk=>(-(1 / x v) * (x k * y k)+1 * (if k=v then y k else 0))+ (1 / x v) * (if k=b then y k else 0)):=by
  refine de (λk _=> ?_);unfold fZ;by_cases h1:k=b
  .subst h1;rw [if_pos rfl,if_neg c,if_pos rfl,d];grind
  .by_cases a:k=v
   .subst a;rw [if_neg h1,if_pos rfl,if_pos rfl,if_neg h1];have: 1 / x k * x k=1:=by rw [Sv,Vr];exact Rat.inv_mul_cancel _ g
    grind
   .rw [if_neg h1,if_neg a,if_neg a,if_neg h1,Sv,Sv];grind
 have f:=uw (λk=> -(1 / x v) * (x k * y k)+1 * (if k=v then y k else 0)) (λk=>(1 / x v) * (if k=b then y k else 0)) N;rw [e,f,kG,oX,nG hv y,nG hb y,Sv,Sv];grind
theorem Bu{N:Nat}{row l:Nat->Rat}{v:Nat}(hv:v < N)(c:row v=0)(y:Nat->Rat):
  sm N (λk=>jL row v l k * y k)=sm N (λk=>l k * y k)+l v * (sm N (λk=>row k * y k) - y v):=by
 have e:sm N (λk=>jL row v l k * y k)=sm N (λk=>(1 * (l k * y k)+l v * (row k * y k))+ (-(l v)) * (if k=v then y k else 0)):=by
  refine de (λk _=> ?_);unfold jL;by_cases a:k=v
  .subst a;rw [if_pos rfl,if_pos rfl,c];grind
  .rw [if_neg a,if_neg a];grind
 have b:=uw (λk=>1 * (l k * y k)+l v * (row k * y k)) (λk=>(-(l v)) * (if k=v then y k else 0)) N;rw [e,b,kG,oX,nG hv y];grind
def fF(af:Nat->Nat)(i v:Nat):Nat->Nat:=λj=>if j=i then v else af j
def oN(c:Nat->Nat->Rat)(af:Nat->Nat)(i v:Nat):Nat->Nat->Rat:=λj=>if j=i then fZ (c i) (af i) v else jL (fZ (c i) (af i) v) v (c j)
theorem uc{x:Nat->Rat}{b v:Nat}(a:b≠v):fZ x b v v=0:=by unfold fZ;rw [if_neg (λh=>a h.symm),if_pos rfl]
theorem Rg{n m:Nat}{A:Nat->Nat->Rat}{af:Nat->Nat}{c:Nat->Nat->Rat}(w:WF n m A af c){i v:Nat}(hi:i < m)(hv:v < n+m)
  (t:c i v≠0):WF n m A (fF af i v) (oN c af i v):=by
 have b:∀j,j < m->af j≠v:=λj a e=>t (by rw [<-e];exact w.z i j hi a);have B:=w.hb i hi;have K:=w.z i i hi hi;refine⟨λj a=> ?_,λj k a f e=> ?_,λj k a f=> ?_,λy=> ?_, ?_⟩
 .unfold fF;split
  .exact hv
  .exact w.hb j a
 .unfold fF at e;split at e <;> split at e
  .omega
  .exact absurd e.symm (b k f)
  .exact absurd e (b j a)
  .exact w.inj j k a f e
 .unfold fF oN;by_cases h1:k=i
  .subst h1;rw [if_pos rfl];split
   .exact uc (b k hi)
   .unfold jL;rw [if_pos rfl]
  .rw [if_neg h1];have J:af k≠af i:=λe=>h1 (w.inj k i f hi e);have I:fZ (c i) (af i) v (af k)=0:=by
    unfold fZ;rw [if_neg J,if_neg (b k f),w.z i k hi f,Sv];grind
   split
   .exact I
   .unfold jL;rw [if_neg (b k f),w.z j k a f,I];grind
 .rw [<-w.same y];have q:=Hz B hv (b i hi) K t y;have C:=uc (x:=c i) (b i hi);have M:c i v * (c i v)⁻¹ =1:=Uw _ t;constructor
  .intro h;have g:y v=sm (n+m) (λk=>fZ (c i) (af i) v k * y k):=by
    have:=h i hi;unfold fF oN at this;rw [if_pos rfl] at this;simpa using this
   have o:y (af i)=sm (n+m) (λk=>c i k * y k):=by
    rw [g.symm,Sv] at q;have:(y (af i) - sm (n+m) (λk=>c i k * y k)) * (c i v)⁻¹ * c i v=0:=by
     have:(y (af i) - sm (n+m) (λk=>c i k * y k)) * (c i v)⁻¹ =0:=by grind
     rw [this];grind
    grind
   intro j a;by_cases h1:j=i
   .subst h1;exact o
   .have:=h j a;unfold fF oN at this;rw [if_neg h1] at this;simp only [if_neg h1] at this;rw [Bu hv C,<-g] at this;grind
  .intro h;have o:=h i hi;have g:sm (n+m) (λk=>fZ (c i) (af i) v k * y k)=y v:=by
    rw [q,<-o,Sv];grind
   intro j a;by_cases h1:j=i
   .subst h1;unfold fF oN;rw [if_pos rfl];simp only [if_pos rfl];exact g.symm
   .unfold fF oN;rw [if_neg h1];simp only [if_neg h1];rw [Bu hv C,g,h j a];grind
 .obtain⟨nb,L,F,G,H,O⟩:=w.nb;obtain⟨p,E,D⟩:∃r,r < n/\nb r=v:=by
   rcases H v hv with h | ⟨j,a,e⟩
   .exact h
   .exact absurd e (b j a)
  refine⟨λr=>if r=p then af i else nb r,λr d=> ?_,λr s d hs e=> ?_,λr j d a e=> ?_,λu N=> ?_, ?_⟩
  .dsimp only;split
   .exact B
   .exact L r d
  .dsimp only at e;split at e <;> split at e
   .omega
   .exact absurd e.symm (G s i hs hi)
   .exact absurd e (G r i d hi)
   .exact F r s d hs e
  .dsimp only at e;unfold fF at e;split at e <;> split at e
   .exact b i hi e
   .rename_i h1 l;exact l (w.inj j i a hi e.symm)
   .rename_i h1 l;exact h1 (F r p d E (by rw [e,D]))
   .exact G r j d a e
  .by_cases h1:u=v
   .exact .inr ⟨i,hi,by unfold fF;rw [if_pos rfl,h1]⟩
   .by_cases l:u=af i
    .exact .inl ⟨p,E,by dsimp only;rw [if_pos rfl,l]⟩
    .rcases H u N with⟨r,d,e⟩ | ⟨j,a,e⟩
     .refine .inl ⟨r,d, ?_⟩;dsimp only;rw [if_neg (λh=>h1 (by rw [<-e,h,D])),e]
     .refine .inr ⟨j,a, ?_⟩;unfold fF;rw [if_neg (λh=>l (by rw [<-e,h])),e]
  .have e:(λr=>av n A (if r=p then af i else nb r))=aA (λr=>av n A (nb r)) p (av n A (af i)):=by
    funext r;unfold aA;split <;> rfl
   rw [e,DR (λr=>av n A (nb r)) E (λr=>c i (nb r)) (av n A (af i)) (λk=> ?_)]
   .rw [D];intro h;rcases VQ.1 h with h | h
    .exact t h
    .exact O h
   .have:=(w.same _).2 (zr (m:=m) A k) i hi;rw [this];exact WF.sum (A:=A) (af:=af) (c:=c) L F H (w.z i · hi) _
theorem zt{n m K:Nat}{A:Nat->Nat->Rat}(b: 1<=K)(a:∀i k,i < m->k < n->aQ K (A i k)){v:Nat}(hv:v < n+m)(k:Nat):aQ K (av n A v k):=by
 unfold av;split
 .split
  .split
   .exact⟨1,rfl,b⟩
   .exact aQ.zero _
  .exact a _ _ (by omega) (by assumption)
 .exact aQ.zero _
theorem WF.den{n m K:Nat}{A:Nat->Nat->Rat}{af:Nat->Nat}{c:Nat->Nat->Rat}(w:WF n m A af c)(d: 1<=K)(b:∀i k,i < m->k < n->aQ K (A i k)):
  ∃D:Rat,D≠0/\aQ (bd K n) D/\(∀i v,i < m->v < n+m->aQ (bd K n) (D * c i v))/\
   (∀(g G:Nat->Rat),(∀j,j < m->g (af j)=0)->(∀k,k < n->aQ K (G k))->(∀y,eN n m A y->sm (n+m) (λk=>g k * y k)=sm n (λk=>G k * y k))->
    ∀v,v < n+m->aQ (bd K n) (D * g v)):=by
 obtain⟨nb,o,C,F,s,E⟩:=w.nb
 have key:∀(g:Nat->Rat) (u:Nat->Rat),(∀j,j < m->g (af j)=0)->(∀k,aQ K (u k))->(∀k,u k=sm (n+m) (λv=>g v * av n A v k))->
   ∀v,v < n+m->aQ (bd K n) (cS n (λr=>av n A (nb r)) * g v):=by
  intro g u hz B hs v hv;rcases s v hv with⟨p,x,e⟩ | ⟨j,f,e⟩
  .have:=DR (λr=>av n A (nb r)) x (λr=>g (nb r)) u (λk=>by rw [hs];exact WF.sum (A:=A) (af:=af) (c:=c) o C s hz _);rw [<-e,Vi,<-this];refine zU n _ (λr k l=> ?_);unfold aA;split
   .exact B k
   .exact zt d b (o r l) k
  .rw [<-e,hz j f,SG];exact aQ.zero _
 refine⟨_,E,zU n _ (λr k l=>zt d b (o r l) k),λi v hi hv=> ?_,λg G hz t hs v hv=> ?_⟩
 .refine key (c i) (av n A (af i)) (w.z i · hi) (zt d b (w.hb i hi)) (λk=> ?_) v hv;exact(w.same _).2 (zr (m:=m) A k) i hi
 .refine key g (λk=>if k < n then G k else 0) hz (λk=> ?_) (λk=> ?_) v hv
  .split
   .exact t k (by assumption)
   .exact aQ.zero _
  .rw [hs _ (zr (m:=m) A k)];unfold av;by_cases a:k < n
   .rw [if_pos a,jP a]
    .rw [if_pos a,if_pos a,if_pos rfl];grind
    .intro j f q;rw [if_pos a,if_pos f,if_neg (λh=>q h.symm)];grind
   .rw [if_neg a];exact(lJ (λj _=>by rw [if_neg a];grind)).symm
open Go Go.Aev
structure Sy where
 n:Nat
 m:Nat
 A:Nat->Nat->Rat
 kd:Nat->Int
 to:Nat->Rat
structure bm where
 af:Nat->Nat
 c:Nat->Nat->Rat
 y:Nat->Rat
 z:Nat->Rat
def bm.val(t:bm)(v:Nat):Rat×Rat:=(t.y v,t.z v)
def Sy.up(S:Sy)(v:Nat):Rat×Rat:=(S.to (v - S.n),if S.kd (v - S.n)=2 then -1 else 0)
def cQ(a b:Rat×Rat):Prop:=a.1 < b.1\/a.1=b.1/\a.2 < b.2
instance (a b:Rat×Rat):Decidable (cQ a b):=by unfold cQ;infer_instance
def Sy.fq(S:Sy)(t:bm)(v:Nat):Prop:=S.n<=v/\(cQ (S.up v) (t.val v)\/S.kd (v - S.n)=3/\cQ (t.val v) (S.up v))
def Sy.sv(S:Sy)(t:bm)(v:Nat):Prop:=v < S.n\/cQ (t.val v) (S.up v)
def Sy.su(S:Sy)(t:bm)(v:Nat):Prop:=v < S.n\/S.kd (v - S.n)≠3\/cQ (S.up v) (t.val v)
def Sy.fx(S:Sy)(v:Nat):Rat×Rat:=if v < S.n then(0,0) else S.up v
structure Sy.OK (S:Sy) (t:bm):Prop where
 wf:WF S.n S.m S.A t.af t.c
 hy:eN S.n S.m S.A t.y
 hz:eN S.n S.m S.A t.z
 fix:∀v,v < S.n+S.m->(∀i,i < S.m->t.af i≠v)->t.val v=S.fx v
def Sy.ai(S:Sy)(t:bm)(b:Nat):Rat:=if cQ (S.up b) (t.val b) then -1 else 1
def Sy.Can(S:Sy)(t:bm)(w:Rat)(v:Nat):Prop:=(0 < w->S.sv t v)/\(w < 0->S.su t v)
structure Sy.Step (S:Sy) (t t':bm) (i v:Nat):Prop where
 hi:i < S.m
 hv:v < S.n+S.m
 zA:S.fq t (t.af i)
 low:∀j,j < S.m->t.af j < t.af i->¬S.fq t (t.af j)
 ne:t.c i v≠0
 can:S.Can t (S.ai t (t.af i) * t.c i v) v
 Ni:∀u,u < v->t.c i u≠0->¬S.Can t (S.ai t (t.af i) * t.c i u) u
 af:t'.af=fF t.af i v
def bm.bD(t:bm)(m:Nat)(v:Nat):Prop:= ∃i,i < m/\t.af i=v
theorem Aq{P:Nat->Prop}:∀(N:Nat),(∃v,P v)->(∀v,P v->v < N)->∃r,P r/\∀v,P v->v<=r
 | 0,⟨v,h⟩,hb=>absurd (hb v h) (by omega)
 | N+1,a,hb=>by
  by_cases h:P N
  .exact⟨N,h,λv hv=>by have:=hb v hv;omega⟩
  .exact Aq N a (λv hv=>by
    have:=hb v hv;by_cases e:v=N
    .subst e;exact absurd hv h
    .omega)
def Ps(p q:Rat):Prop:=0 < p\/p=0/\0<=q
theorem Ps.sum{f g:Nat->Rat}:∀{n:Nat},(∀i,i < n->Ps (f i) (g i))->Ps (sm n f) (sm n g)
 | 0,_=> .inr ⟨rfl,SN⟩
 | n+1,h=>by
  have h1:=Ps.sum (n:=n) (λi hi=>h i (by omega));have a:=h n (by omega);unfold Ps at *
  simp only [sm];grind
theorem Ps.mul{a p q:Rat}(b: 0<=a)(h:Ps p q):Ps (a * p) (a * q):=by
 rcases Rat.le_iff_lt_or_eq.1 b with b | b
 .unfold Ps at *
  rcases h with h | ⟨h,c⟩
  .exact .inl (Rat.mul_pos b h)
  .exact .inr ⟨by rw [h,SG],T0 (Uq b) c⟩
 .subst b;exact .inr ⟨by grind,by grind⟩
theorem Ps.Ns{a p q:Rat}(d:a<=0)(h:Ps (-p) (-q)):Ps (a * p) (a * q):=by
 have:=Ps.mul (a:= -a) (by grind) h;have b: -a * -p=a * p:=by grind
 have c: -a * -q=a * q:=by grind
 rw [b,c] at this;exact this
theorem Ps.zero:Ps 0 0:= .inr ⟨rfl,SN⟩
theorem HR{S:Sy}{t:bm}(ok:S.OK t){y y':Nat->Rat}(h:eN S.n S.m S.A y)(d:eN S.n S.m S.A y'){i:Nat}(hi:i < S.m):
  y (t.af i) - y' (t.af i)=sm (S.n+S.m) (λk=>t.c i k * (y k - y' k)):=by
 have a:=(ok.wf.same y).2 h i hi;have b:=(ok.wf.same y').2 d i hi;rw [a,b];have e:(λk=>t.c i k * (y k - y' k))= (λk=>1 * (t.c i k * y k)+ (-1) * (t.c i k * y' k)):=by funext k;grind
 rw [e,kG];grind
structure jV (m:Nat) (s:Nat->bm) (l e:Nat->Nat) (a b:Nat):Prop where
 aA:∀t,a<=t->t < b->∀v,(s (t+1)).bD m v↔((s t).bD m v/\v≠l t)\/v=e t
 lb:∀t,a<=t->t < b->(s t).bD m (l t)
 eb:∀t,a<=t->t < b->¬(s t).bD m (e t)
 back:∀v,(s a).bD m v↔(s b).bD m v
theorem jV.AQ{m:Nat}{s:Nat->bm}{l e:Nat->Nat}{a b:Nat}(R:jV m s l e a b){v:Nat}(h:∀t,a<=t->t < b->e t≠v){x:Nat}(g:a<=x):∀(d:Nat),x+d<=b->¬(s x).bD m v->¬(s (x+d)).bD m v
 | 0,_,c=>c
 | d+1,i,c=>by
  have:=R.AQ h g d (by omega) c;intro h1;rcases(R.aA (x+d) (by omega) (by omega) v).1 h1 with⟨f,_⟩ | f
  .exact this f
  .exact h (x+d) (by omega) (by omega) f.symm
theorem jV.tD{m:Nat}{s:Nat->bm}{l e:Nat->Nat}{a b:Nat}(R:jV m s l e a b){v:Nat}(h:∀t,a<=t->t < b->l t≠v){x:Nat}(f:a<=x):∀(d:Nat),x+d<=b->(s x).bD m v->(s (x+d)).bD m v
 | 0,_,c=>c
 | d+1,g,c=>by have:=R.tD h f d (by omega) c;exact(R.aA (x+d) (by omega) (by omega) v).2 (.inl ⟨this,λh1=>h (x+d) (by omega) (by omega) h1.symm⟩)
theorem jV.enters{m:Nat}{s:Nat->bm}{l e:Nat->Nat}{a b:Nat}(R:jV m s l e a b){p:Nat}(h1:a<=p)(d:p < b):∃q,a<=q/\q < b/\e q=l p:=by
 refine Tu λk=> ?_;have c:∀t,a<=t->t < b->e t≠l p:=λt j hb h=>k ⟨t,j,hb,h⟩;have n:¬(s (p+1)).bD m (l p):=λh=>by
  rcases(R.aA p h1 d _).1 h with⟨_,f⟩ | f
  .exact f rfl
  .exact c p h1 d f.symm
 have g:=R.AQ c (x:=p+1) (by omega) (b - (p+1)) (by omega) n;rw [show p+1+ (b - (p+1))=b by omega] at g;have o:¬(s a).bD m (l p):=λh=>g ((R.back _).1 h);have i:=R.AQ c (x:=a) (by omega) (p - a) (by omega) o;rw [show a+ (p - a)=p by omega] at i;exact i (R.lb p h1 d)
theorem jV.leaves{m:Nat}{s:Nat->bm}{l e:Nat->Nat}{a b:Nat}(R:jV m s l e a b){p:Nat}(h1:a<=p)(d:p < b):∃q,a<=q/\q < b/\l q=e p:=by refine Tu λj=> ?_;have c:∀t,a<=t->t < b->l t≠e p:=λt i hb h=>j ⟨t,i,hb,h⟩;have k:(s (p+1)).bD m (e p):=(R.aA p h1 d _).2 (.inr rfl);have f:=R.tD c (x:=p+1) (by omega) (b - (p+1)) (by omega) k;rw [show p+1+ (b - (p+1))=b by omega] at f;have g:=R.tD c (x:=a) (by omega) (p - a) (by omega) ((R.back _).2 f);rw [show a+ (p - a)=p by omega] at g;exact R.eb p h1 d g
theorem jV.still{m:Nat}{s:Nat->bm}{l e:Nat->Nat}{a b:Nat}(R:jV m s l e a b){v:Nat}(h:∀t,a<=t->t < b->l t≠v){p q:Nat}
  (f:a<=p) (g:p<=b) (j:a<=q) (i:q<=b) (hb:(s p).bD m v):(s q).bD m v:=by
 have c:=R.tD h f (b - p) (by omega) hb;rw [show p+ (b - p)=b by omega] at c;have d:=R.tD h (x:=a) (by omega) (q - a) (by omega) ((R.back _).2 c);rw [show a+ (q - a)=q by omega] at d;exact d
theorem Ht{S:Sy}{t c:bm}(ok:S.OK t){i v:Nat}(hi:i < S.m)(d:¬t.bD S.m v)(h:c.af=fF t.af i v)(u:Nat):c.bD S.m u↔(t.bD S.m u/\u≠t.af i)\/u=v:=by
 unfold bm.bD;rw [h];unfold fF;constructor
 .rintro⟨j,b,e⟩;split at e
  .exact .inr e.symm
  .rename_i a;exact .inl ⟨⟨j,b,e⟩,λh1=>a (ok.wf.inj j i b hi (by rw [e,h1]))⟩
 .rintro(⟨⟨j,b,e⟩,a⟩ | e)
  .exact⟨j,b,by rw [if_neg (λh1=>a (by rw [<-e,h1])),e]⟩
  .exact⟨i,hi,by rw [if_pos rfl,e]⟩
theorem Dk{S:Sy}{t:bm}(ok:S.OK t){v:Nat}(h:t.bD S.m v):v < S.n+S.m:=by obtain⟨i,hi,rfl⟩:=h;exact ok.wf.hb i hi
theorem OK.pG{S:Sy}{t:bm}(ok:S.OK t){v:Nat}(hv:v < S.n+S.m)(h:¬t.bD S.m v):t.val v=S.fx v:=
 ok.fix v hv (λi hi e=>h ⟨i,hi,e⟩)
theorem o9(a:Rat×Rat):¬cQ a a:=by unfold cQ;grind
theorem JO{S:Sy}{s:Nat->bm}{ii ee:Nat->Nat}{a b:Nat}(hab:a < b)(ok:∀t,S.OK (s t))
  (st:∀t,a<=t->t < b->S.Step (s t) (s (t+1)) (ii t) (ee t)) (back:∀v,(s a).bD S.m v↔(s b).bD S.m v):False:=by
 have C:∀t,a<=t->t < b->¬(s t).bD S.m (ee t):=by rintro t h1 d ⟨j,J,e⟩;have k:=st t h1 d;exact k.ne (by rw [<-e];exact(ok t).wf.z _ _ k.hi J)
 have R:jV S.m s (λt=>(s t).af (ii t)) ee a b:=
  ⟨λt h1 d v=>Ht (ok t) (st t h1 d).hi (C t h1 d) (st t h1 d).af v,λt h1 d=>⟨ii t,(st t h1 d).hi,rfl⟩,C,back⟩
 obtain⟨r,⟨p,L,T,M⟩,K⟩:=Aq (P:=λv=>∃t,a<=t/\t < b/\(s t).af (ii t)=v) (S.n+S.m) ⟨_,a,RI _,hab,rfl⟩
  (by rintro v ⟨t,h1,d,rfl⟩;exact(ok t).wf.hb _ (st t h1 d).hi)
 obtain⟨q,g,w,E⟩:=R.enters L T;simp only [M] at E;have kind:∀t,a<=t->t < b->S.n<=ee t/\S.kd (ee t - S.n)≠3/\S.ai (s t) ((s t).af (ii t)) * (s t).c (ii t) (ee t) < 0:=by
  intro t h1 d;have k:=st t h1 d;obtain⟨q',Z,hq2',hl⟩:=R.leaves h1 d;have hn:S.n<=ee t:=by rw [<-hl];exact(st q' Z hq2').zA.1
  have hv:=OK.pG (ok t) k.hv (C t h1 d);unfold Sy.fx at hv;rw [if_neg (by omega)] at hv;have hc:=k.can;have hwne:S.ai (s t) ((s t).af (ii t))≠0:=by unfold Sy.ai;split <;> grind
  have hpne:S.ai (s t) ((s t).af (ii t)) * (s t).c (ii t) (ee t)≠0:=λo=>by
   rcases VQ.1 o with h | h
   .exact hwne h
   .exact k.ne h
  have hneg:¬0 < S.ai (s t) ((s t).af (ii t)) * (s t).c (ii t) (ee t):=λo=>by
   rcases hc.1 o with h | h
   .omega
   .rw [hv] at h;exact o9 _ h
  have u:S.ai (s t) ((s t).af (ii t)) * (s t).c (ii t) (ee t) < 0:=by grind
  refine⟨hn, ?_,u⟩;rcases hc.2 u with h | h | h
  .omega
  .exact h
  .rw [hv] at h;exact absurd h (o9 _)
 have B:=st q g w;have kp:=st p L T;obtain⟨t',h1',h2',hs⟩:=R.enters g w;obtain⟨sn,s3,_⟩:=kind t' h1' h2';rw [hs] at sn s3;have sle:(s q).af (ii q)<=r:=K _ ⟨q,g,w,rfl⟩;have slt:(s q).af (ii q) < r:=by
  rcases Nat.lt_or_eq_of_le sle with h | h
  .exact h
  .exact absurd ⟨ii q,B.hi,by rw [h,E]⟩ (C q g w)
 have Q:cQ (S.up ((s q).af (ii q))) ((s q).val ((s q).af (ii q))):=by
  rcases B.zA.2 with h | ⟨h,_⟩
  .exact h
  .exact absurd h s3
 have O:S.ai (s q) ((s q).af (ii q))= -1:=by unfold Sy.ai;rw [if_pos Q]
 have H:∀v,v < r->v < S.n+S.m->S.n<=v->¬S.fq (s p) v:=by
  intro v hvr hvN hvn hb;by_cases f:(s p).bD S.m v
  .obtain⟨j,J,e⟩:=f;exact kp.low j J (by rw [e,M];exact hvr) (by rw [e];exact hb)
  .have:=OK.pG (ok p) hvN f;unfold Sy.fx at this;rw [if_neg (by omega)] at this;rcases hb.2 with h | ⟨_,h⟩
   .rw [this] at h;exact o9 _ h
   .rw [this] at h;exact o9 _ h
 obtain⟨rn,r3,V⟩:=kind q g w;rw [E] at rn r3 V;have dy:=HR (ok q) (ok p).hy (ok q).hy B.hi;have dz:=HR (ok q) (ok p).hz (ok q).hz B.hi;have N:Ps (sm (S.n+S.m) (λk=>(s q).c (ii q) k * ((s p).y k - (s q).y k))) (sm (S.n+S.m) (λk=>(s q).c (ii q) k * ((s p).z k - (s q).z k))):=by
  refine Ps.sum (λk X=> ?_);by_cases f:(s q).bD S.m k
  .obtain⟨j,J,e⟩:=f;have o:(s q).c (ii q) k=0:=by rw [<-e];exact(ok q).wf.z _ _ B.hi J
   rw [o,Se,Se];exact Ps.zero
  .have x:=OK.pG (ok q) X f;by_cases hkr:k=r
   .subst hkr;unfold Sy.fx at x;rw [if_neg (by omega)] at x;have U:=kp.zA;rw [M] at U;rcases U.2 with h | ⟨h,_⟩
    .rw [O] at V;refine Ps.mul (by grind) ?_;rw [<-x] at h;unfold cQ bm.val at h;unfold Ps;simp only at h;grind
    .exact absurd h r3
   .by_cases u:k < r
    .by_cases o:(s q).c (ii q) k=0
     .rw [o,Se,Se];exact Ps.zero
     .have A:=B.Ni k (by rw [E];exact u) o;rw [O] at A;have D:S.n<=k:=by
       refine To λh=>A ⟨λ_=> .inl h,λ_=> .inl h⟩
      unfold Sy.fx at x;rw [if_neg (by omega)] at x;have I:=H k u X D;by_cases Y: 0 < (s q).c (ii q) k
      .have W:S.kd (k - S.n)=3:=Tu λW=>A ⟨λh=>by grind,λ_=> .inr (.inl W)⟩;have i:(s p).val k=S.up k:=by
        have l:¬cQ (S.up k) ((s p).val k):=λh=>I ⟨D, .inl h⟩;have a2:¬cQ ((s p).val k) (S.up k):=λh=>I ⟨D, .inr ⟨W,h⟩⟩;unfold cQ at l a2;refine Uz ?_ ?_ <;> grind
       rw [<-x] at i;unfold bm.val at i;have F:=congrArg Prod.fst i;have G:=congrArg Prod.snd i;simp only at F G;rw [F,G];refine Ps.mul (Uq Y) ?_;exact .inr ⟨by grind,by grind⟩
      .refine Ps.Ns (by grind) ?_;have l:¬cQ (S.up k) ((s p).val k):=λh=>I ⟨D, .inl h⟩;rw [<-x] at l;unfold cQ bm.val at l;unfold Ps;simp only at l;grind
    .have hnl:∀t,a<=t->t < b->(s t).af (ii t)≠k:=λt h1 d e=>by
      have:=K k ⟨t,h1,d,e⟩;omega
     have hbp:¬(s p).bD S.m k:=λh=>f (R.still hnl L (by omega) g (by omega) h);have i:=OK.pG (ok p) X hbp;rw [<-x] at i;unfold bm.val at i;have F:=congrArg Prod.fst i;have G:=congrArg Prod.snd i;simp only at F G;rw [F,G];exact .inr ⟨by grind,by grind⟩
 rw [<-dy,<-dz] at N;have hsN:=(ok q).wf.hb _ B.hi;have I:=H _ slt hsN sn;have l:¬cQ (S.up ((s q).af (ii q))) ((s p).val ((s q).af (ii q))):=λh=>I ⟨sn, .inl h⟩;unfold cQ bm.val at Q l;unfold Ps at N;simp only at Q l;grind
open Go Go.Aev
structure Sy.sB (S:Sy) (G:Nat->Rat) (t:bm) (g:Nat->Rat):Prop where
 z:∀j,j < S.m->g (t.af j)=0
 same:∀y,eN S.n S.m S.A y->sm (S.n+S.m) (λk=>g k * y k)=sm S.n (λk=>G k * y k)
def Sy.sM(S:Sy)(t:bm)(v:Nat):Prop:=v < S.n\/t.y v < S.to (v - S.n)
def Sy.sw(S:Sy)(t:bm)(v:Nat):Prop:=v < S.n\/S.kd (v - S.n)≠3\/S.to (v - S.n) < t.y v
def Sy.sr(S:Sy)(t:bm)(w:Rat)(v:Nat):Prop:=(0 < w->S.sM t v)/\(w < 0->S.sw t v)
def Sy.nP(S:Sy)(t:bm):Prop:= ∀v,S.n<=v->v < S.n+S.m->t.y v<=S.to (v - S.n)/\(S.kd (v - S.n)=3->t.y v=S.to (v - S.n))
def cN(q:Rat):Rat:=if 0 < q then 1 else -1
noncomputable def bm.dir(t:bm)(m v:Nat)(w:Rat):Nat->Rat:=λk=>open Classical in if k=v then w else if h:∃j,j < m/\t.af j=k then t.c h.choose v * w else 0
theorem n9(t:bm)(m v:Nat)(w:Rat):t.dir m v w v=w:=by unfold bm.dir;rw [if_pos rfl]
theorem n8{S:Sy}{t:bm}(ok:S.OK t){v:Nat}(w:Rat){j:Nat}(b:j < S.m)(hv:¬t.bD S.m v):t.dir S.m v w (t.af j)=t.c j v * w:=by unfold bm.dir;have d:t.af j≠v:=λe=>hv ⟨j,b,e⟩;have a:∃k,k < S.m/\t.af k=t.af j:=⟨j,b,rfl⟩;rw [if_neg d,dif_pos a];have hs:=a.choose_spec;have:a.choose=j:=ok.wf.inj _ _ hs.1 b hs.2;rw [this]
theorem mP{m:Nat}(t:bm){v:Nat}(w:Rat){k:Nat}(b:k≠v)(c:¬t.bD m k):t.dir m v w k=0:=by unfold bm.dir;have a:¬∃j,j < m/\t.af j=k:=c;rw [if_neg b,dif_neg a]
theorem D2{S:Sy}{t:bm}(ok:S.OK t){v:Nat}(w:Rat)(hv:¬t.bD S.m v)(c:v < S.n+S.m):eN S.n S.m S.A (t.dir S.m v w):=by
 refine(ok.wf.same _).1 (λj a=> ?_);rw [n8 ok w a hv,jP c,n9];intro k d b;by_cases hb:t.bD S.m k
 .obtain⟨i,hi,e⟩:=hb;rw [<-e,ok.wf.z j i a hi,Se]
 .rw [mP t w b hb,SG]
theorem AI{S:Sy}{G:Nat->Rat}{t:bm}{g:Nat->Rat}(c:S.sB G t g){v:Nat}(w:Rat)(b:v < S.n+S.m):
  sm (S.n+S.m) (λk=>g k * t.dir S.m v w k)=g v * w:=by
 rw [jP b,n9];intro k d a;by_cases hb:t.bD S.m k
 .obtain⟨i,hi,e⟩:=hb;rw [<-e,c.z i hi,Se]
 .rw [mP t w a hb,SG]
structure Sy.jX (S:Sy) (t:bm) (g:Nat->Rat) (t':bm) (i v:Nat):Prop where
 hi:i < S.m
 hv:v < S.n+S.m
 ne:g v≠0
 can:S.sr t (g v) v
 low:∀u,u < v->g u≠0->¬S.sr t (g u) u
 bn:S.n<=t.af i
 bd: 0 < t.c i v * cN (g v)\/t.c i v * cN (g v) < 0/\S.kd (t.af i - S.n)=3
 gL:∀j,j < S.m->S.n<=t.af j->(0 < t.c j v * cN (g v)\/t.c j v * cN (g v) < 0/\S.kd (t.af j - S.n)=3)->
  (S.to (t.af i - S.n) - t.y (t.af i)) / (t.c i v * cN (g v))<=(S.to (t.af j - S.n) - t.y (t.af j)) / (t.c j v * cN (g v))/\
  ((S.to (t.af i - S.n) - t.y (t.af i)) / (t.c i v * cN (g v))= (S.to (t.af j - S.n) - t.y (t.af j)) / (t.c j v * cN (g v))->t.af i<=t.af j)
 af:t'.af=fF t.af i v
 y':∀k,k < S.n+S.m->t'.y k=t.y k+ (S.to (t.af i - S.n) - t.y (t.af i)) / (t.c i v * cN (g v)) * t.dir S.m v (cN (g v)) k
theorem BY{q:Rat}(h:q≠0): 0 < q * cN q:=by unfold cN;split <;> grind
theorem jX.nb{S:Sy}{G:Nat->Rat}{t c:bm}{g:Nat->Rat}{i v:Nat}(a:S.sB G t g)(k:S.jX t g c i v):¬t.bD S.m v:=by rintro⟨j,b,e⟩;exact k.ne (by rw [<-e];exact a.z j b)
theorem HI{a d:Rat}(h: 0 < d/\0<=a\/a=0): 0<=a / d:=by
 rcases h with⟨h1,b⟩ | h
 .rw [Sv];exact T0 b (Uq (Rat.inv_pos.2 h1))
 .rw [h,Sv,Se];exact SN
theorem jX.nn{S:Sy}{t b:bm}{g:Nat->Rat}{i v:Nat}(ok:S.OK t)(fe:S.nP t)(k:S.jX t g b i v):
  0<=(S.to (t.af i - S.n) - t.y (t.af i)) / (t.c i v * cN (g v)):=by
 obtain⟨h1,a⟩:=fe _ k.bn (ok.wf.hb i k.hi);refine HI ?_;rcases k.bd with h | ⟨_,h⟩
 .exact .inl ⟨h,by grind⟩
 .exact .inr (by rw [a h];grind)
theorem Q8{S:Sy}{t c:bm}(ok:S.OK t)(f:S.OK c)(h:∀v,t.bD S.m v↔c.bD S.m v){v:Nat}(hv:v < S.n+S.m):t.y v=c.y v:=by
 have l:∀u,u < S.n+S.m->¬t.bD S.m u->t.y u=c.y u:=λu o hb=>by have a:=OK.pG ok o hb;have b:=OK.pG f o (λq=>hb ((h u).2 q));rw [<-b] at a;exact congrArg Prod.fst a
 by_cases hb:t.bD S.m v
 .obtain⟨j,g,e⟩:=hb;have a:=(ok.wf.same _).2 ok.hy j g;have b:=(ok.wf.same _).2 f.hy j g;rw [<-e,a,b];refine de (λk r=> ?_);by_cases d:t.bD S.m k
  .obtain⟨i,hi,p⟩:=d;rw [<-p,ok.wf.z j i g hi,Se,Se]
  .rw [l k r d]
 .exact l v hv hb
theorem JP{S:Sy}{G:Nat->Rat}{s:Nat->bm}{g:Nat->Nat->Rat}{ii ee:Nat->Nat}{a b:Nat}(hab:a < b)(ok:∀t,S.OK (s t))(fe:∀t,S.nP (s t))
  (I:∀t,S.sB G (s t) (g t))
  (st:∀t,a<=t->t < b->S.jX (s t) (g t) (s (t+1)) (ii t) (ee t)) (back:∀v,(s a).bD S.m v↔(s b).bD S.m v):False:=by
 have F:∀t,a<=t->t < b->¬(s t).bD S.m (ee t):=λt h1 i=>jX.nb (I t) (st t h1 i);have R:jV S.m s (λt=>(s t).af (ii t)) ee a b:=
  ⟨λt h1 i v=>Ht (ok t) (st t h1 i).hi (F t h1 i) (st t h1 i).af v,λt h1 i=>⟨ii t,(st t h1 i).hi,rfl⟩,F,back⟩
 have step:∀t,a<=t->t < b->sm (S.n+S.m) (λk=>g t k * (s (t+1)).y k)=
   sm (S.n+S.m) (λk=>g t k * (s t).y k)+ (S.to ((s t).af (ii t) - S.n) - (s t).y ((s t).af (ii t))) / ((s t).c (ii t) (ee t) * cN (g t (ee t))) * (g t (ee t) * cN (g t (ee t))):=by
  intro t h1 i;have k:=st t h1 i;rw [<-AI (I t) (cN (g t (ee t))) k.hv,<-oX,<-uw];refine de (λu hu=> ?_);rw [k.y' u hu];grind
 have Z:∀t,a<=t->t < b->sm S.n (λk=>G k * (s (t+1)).y k)=
   sm S.n (λk=>G k * (s t).y k)+ (S.to ((s t).af (ii t) - S.n) - (s t).y ((s t).af (ii t))) / ((s t).c (ii t) (ee t) * cN (g t (ee t))) * (g t (ee t) * cN (g t (ee t))):=by
  intro t h1 i;have:=step t h1 i;rw [(I t).same _ (ok (t+1)).hy,(I t).same _ (ok t).hy] at this;exact this
 have inc:∀t,a<=t->t < b->sm S.n (λk=>G k * (s t).y k)<=sm S.n (λk=>G k * (s (t+1)).y k):=by intro t h1 i;have h:=Z t h1 i;have o:=jX.nn (ok t) (fe t) (st t h1 i);have O:=T0 o (Uq (BY (st t h1 i).ne));grind
 have mono:∀d x,a<=x->x+d<=b->sm S.n (λk=>G k * (s x).y k)<=sm S.n (λk=>G k * (s (x+d)).y k):=by
  intro d;induction d with
  | zero=>intro x _ _;exact SN
  | succ d W=>intro x h1 i;exact Rat.le_trans (W x h1 (by omega)) (inc (x+d) (by omega) (by omega))
 have ends:sm S.n (λk=>G k * (s a).y k)=sm S.n (λk=>G k * (s b).y k):=
  de (λk D=>by rw [Q8 (ok a) (ok b) back (by omega)])
 have flat:∀t,a<=t->t < b->(S.to ((s t).af (ii t) - S.n) - (s t).y ((s t).af (ii t))) / ((s t).c (ii t) (ee t) * cN (g t (ee t)))=0:=by
  intro t h1 i;have m1:=mono (t - a) a (RI _) (by omega);have m2:=mono (b - (t+1)) (t+1) (by omega) (by omega);rw [show a+ (t - a)=t by omega] at m1;rw [show t+1+ (b - (t+1))=b by omega] at m2;have h:=Z t h1 i;have o:=jX.nn (ok t) (fe t) (st t h1 i);have O:=BY (st t h1 i).ne;have h5:=T0 o (Uq O);have h6:(S.to ((s t).af (ii t) - S.n) - (s t).y ((s t).af (ii t))) / ((s t).c (ii t) (ee t) * cN (g t (ee t))) * (g t (ee t) * cN (g t (ee t)))=0:=by grind
  rcases VQ.1 h6 with h7 | h7
  .exact h7
  .rw [h7] at O;exact absurd O (by grind)
 have M:∀d x,a<=x->x+d<=b->∀k,k < S.n+S.m->(s (x+d)).y k= (s x).y k:=by
  intro d;induction d with
  | zero=>intro x _ _ k _;rfl
  | succ d W=>intro x h1 i k D;have o:=(st (x+d) (by omega) (by omega)).y' k D;rw [flat (x+d) (by omega) (by omega),Se,UH] at o;rw [<-W x h1 (by omega) k D];exact o
 have yall:∀p q,a<=p->p<=b->a<=q->q<=b->∀k,k < S.n+S.m->(s p).y k= (s q).y k:=by intro p q h1 i o O k D;have e1:=M (p - a) a (RI _) (by omega) k D;have e2:=M (q - a) a (RI _) (by omega) k D;rw [show a+ (p - a)=p by omega] at e1;rw [show a+ (q - a)=q by omega] at e2;rw [e1,e2]
 obtain⟨r,⟨p,w,B,J⟩,T⟩:=Aq (P:=λv=>∃t,a<=t/\t < b/\(s t).af (ii t)=v) (S.n+S.m) ⟨_,a,RI _,hab,rfl⟩
  (by rintro v ⟨t,h1,i,rfl⟩;exact(ok t).wf.hb _ (st t h1 i).hi)
 obtain⟨q,U,hq2,L⟩:=R.enters w B;simp only [J] at L;have X:=st q U hq2;have E:=st p w B;have N:∀t k,k < S.n+S.m->S.n<=k->¬(s t).bD S.m k->(s t).y k=S.to (k - S.n):=by intro t k h1 i o;have:=OK.pG (ok t) h1 o;unfold Sy.fx at this;rw [if_neg (by omega)] at this;exact congrArg Prod.fst this
 have ele:ee p<=r:=by obtain⟨t',h1',h2',hl⟩:=R.leaves w B;exact T _ ⟨t',h1',h2',hl⟩
 have hrn:S.n<=r:=by rw [<-J];exact E.bn
 have hpos: 0 < sm (S.n+S.m) (λk=>g q k * (s p).dir S.m (ee p) (cN (g p (ee p))) k):=by have l:=D2 (ok p) (cN (g p (ee p))) (F p w B) E.hv;rw [(I q).same _ l,<-(I p).same _ l,AI (I p) _ E.hv];exact BY E.ne
 have hneg:∀k,k < S.n+S.m->g q k * (s p).dir S.m (ee p) (cN (g p (ee p))) k<=0:=by
  intro k D;by_cases K:(s q).bD S.m k
  .obtain⟨j,H,e⟩:=K;rw [<-e,(I q).z j H,Se];exact SN
  .by_cases hkr:k=r
   .subst hkr;have hy:=N q k D hrn K;have hg:g q k < 0:=by
     have h1:=X.ne;have i:=X.can.1;rw [L] at h1 i;have:¬0 < g q k:=λh=>by
      rcases i h with h | h
      .omega
      .rw [hy] at h;grind
     grind
    have o:S.kd (k - S.n)≠3:=by
     have i:=X.can.2;rw [L] at i;rcases i hg with h | h | h
     .omega
     .exact h
     .rw [hy] at h;exact absurd h (by grind)
    have l: 0 < (s p).dir S.m (ee p) (cN (g p (ee p))) k:=by
     have hb:=E.bd;rw [<-J,n8 (ok p) _ E.hi (F p w B)];rcases hb with h | ⟨_,h⟩
     .exact h
     .rw [J] at h;exact absurd h o
    have:=Rat.mul_pos (a:= -(g q k)) (b:=(s p).dir S.m (ee p) (cN (g p (ee p))) k) (by grind) l;grind
   .by_cases hlt:k < r
    .by_cases h0:g q k=0
     .rw [h0,Se];exact SN
     .have Q:=X.low k (by rw [L];exact hlt) h0;have Y:S.n<=k:=To λh=>Q ⟨λ_=> .inl h,λ_=> .inl h⟩;have hyq:=N q k D Y K;have V:(s p).y k=S.to (k - S.n):=by rw [yall p q w (by omega) U (by omega) k D];exact hyq
      have block:∀j,j < S.m->(s p).af j=k->¬(0 < (s p).c j (ee p) * cN (g p (ee p))\/(s p).c j (ee p) * cN (g p (ee p)) < 0/\S.kd (k - S.n)=3):=by
       intro j H e hb;have h1:=(E.gL j H (by rw [e];exact Y) (by rw [e];exact hb)).2 (by
        rw [flat p w B,e,V,Rat.sub_self,Sv,Se])
       rw [J,e] at h1;omega
      by_cases hgp: 0 < g q k
      .have l:(s p).dir S.m (ee p) (cN (g p (ee p))) k<=0:=by
        refine Vg.1 λl=> ?_;by_cases A:k=ee p
        .rw [A,n9] at l;have h1: 0 < g p (ee p):=by unfold cN at l;split at l;assumption;exact absurd l (by grind)
         rcases E.can.1 h1 with h | h
         .omega
         .rw [<-A,V] at h;grind
        .by_cases C:(s p).bD S.m k
         .obtain⟨j,H,e⟩:=C;rw [<-e,n8 (ok p) _ H (F p w B)] at l;exact block j H e (.inl l)
         .rw [mP _ _ A C] at l;grind
       have:=T0 (a:=g q k) (b:= -((s p).dir S.m (ee p) (cN (g p (ee p))) k)) (by grind) (by grind);grind
      .have hgn:g q k < 0:=by grind
       have o:S.kd (k - S.n)=3:=Tu λo=>Q ⟨λh=>by grind,λ_=> .inr (.inl o)⟩;have l: 0<=(s p).dir S.m (ee p) (cN (g p (ee p))) k:=by
        refine Vg.1 λl=> ?_;by_cases A:k=ee p
        .rw [A,n9] at l;have h1:g p (ee p) < 0:=by have:=E.ne;unfold cN at l;split at l <;> grind
         rcases E.can.2 h1 with h | h | h
         .omega
         .rw [<-A] at h;exact h o
         .rw [<-A,V] at h;grind
        .by_cases C:(s p).bD S.m k
         .obtain⟨j,H,e⟩:=C;rw [<-e,n8 (ok p) _ H (F p w B)] at l;exact block j H e (.inr ⟨l,o⟩)
         .rw [mP _ _ A C] at l;grind
       have:=T0 (a:= -(g q k)) (b:=(s p).dir S.m (ee p) (cN (g p (ee p))) k) (by grind) l;grind
    .have hnl:∀t,a<=t->t < b->(s t).af (ii t)≠k:=λt h1 i e=>by
      have:=T k ⟨t,h1,i,e⟩;omega
     have C:¬(s p).bD S.m k:=λh=>K (R.still hnl w (by omega) U (by omega) h);rw [mP _ _ (by omega) C,SG];exact SN
 have hle:∀n (f:Nat->Rat),(∀k,k < n->f k<=0)->sm n f<=0:=by
  intro n f;induction n with
  | zero=>intro _;exact SN
  | succ n W=>intro h;rw [sm];have:=W (λk D=>h k (by omega));have:=h n (by omega);grind
 have:=hle _ _ hneg;grind
open Go Go.Aev
theorem Br:∀(K T:Nat) (f:Nat->Nat),(∀t,t < T->f t < K)->(∀s t,s < t->t < T->f s≠f t)->T<=K
 | 0,T,f,h,_=>by refine To λi=> ?_;have:=h 0 i;omega
 | K+1,T,f,h,hi=>by
  by_cases b:∃t,t < T/\f t=K
  .obtain⟨c,g,e0⟩:=b;have:=Br K (T - 1) (λt=>if t < c then f t else f (t+1)) (λt a=>by
    split
    .have h1:=h t (by omega);have d:=hi t c (by omega) g;omega
    .have h1:=h (t+1) (by omega);have d:=hi c (t+1) (by omega) (by omega);omega) (λs t hs a=>by
    split <;> split
    .exact hi s t hs (by omega)
    .exact hi s (t+1) (by omega) (by omega)
    .omega
    .exact hi (s+1) (t+1) (by omega) (by omega))
   omega
  .have:=Br K T f (λt a=>by
    have h1:=h t a;have d:f t≠K:=λe=>b ⟨t,a,e⟩;omega) hi
   omega
def jf(N:Nat)(nb:Nat->Nat):Nat->Nat
 | 0=>0
 | r+1=>jf N nb r * N+nb r
theorem DF{N:Nat}{nb:Nat->Nat}:∀{n:Nat},(∀r,r < n->nb r < N)->jf N nb n < N ^ n
 | 0,_=>by simp [jf]
 | n+1,h=>by have h1:=DF (n:=n) (λr c=>h r (by omega));have b:=h n (by omega);rw [jf,Nat.pow_succ];have a:(jf N nb n+1) * N<=N ^ n * N:=Sc _ h1;rw [TO] at a;omega
theorem DE{N:Nat}{nb c:Nat->Nat}:∀{n:Nat},(∀r,r < n->nb r < N)->(∀r,r < n->c r < N)->jf N nb n=jf N c n->∀r,r < n->nb r=c r
 | 0,_,_,_=>λr d=>by omega
 | n+1,h,f,e=>by
  rw [jf,jf] at e;have a:=h n (by omega);have b:=f n (by omega);have hm:(jf N nb n * N+nb n) % N= (jf N c n * N+c n) % N:=by rw [e]
  rw [VD,VD,TI a,TI b] at hm;have j: 0 < N:=by omega
  have i:jf N nb n=jf N c n:=Nat.eq_of_mul_eq_mul_right j (by omega);intro r d;by_cases g:r=n
  .subst g;exact hm
  .exact DE (λr d=>h r (by omega)) (λr d=>f r (by omega)) i r (by omega)
theorem DQ{S:Sy}{s:Nat->bm}{T:Nat}(ok:∀t,S.OK (s t))(l:∀a b,a < b->b < T->¬∀v,(s a).bD S.m v↔(s b).bD S.m v):T<=(S.n+S.m) ^ S.n:=by
 let nb:Nat->Nat->Nat:=λt=>(ok t).wf.nb.choose;have f:∀t,_:=λt=>(ok t).wf.nb.choose_spec;refine Br _ T (λt=>jf (S.n+S.m) (nb t) S.n) (λt _=>DF (f t).1) (λa b g hb e=>l a b g hb (λv=> ?_));have j:=DE (f a).1 (f b).1 e;have key:∀t v,v < S.n+S.m->((s t).bD S.m v↔¬∃r,r < S.n/\nb t r=v):=by
  intro t v hv;constructor
  .rintro⟨i,hi,c⟩ ⟨r,d,k⟩;exact(f t).2.2.1 r i d hi (by show nb t r=_;rw [k,c])
  .intro h;rcases(f t).2.2.2.1 v hv with h1 | ⟨i,hi,c⟩
   .exact absurd h1 h
   .exact⟨i,hi,c⟩
 by_cases hv:v < S.n+S.m
 .rw [key a v hv,key b v hv];refine not_congr ?_;constructor
  .rintro⟨r,d,c⟩;exact⟨r,d,by rw [<-c];exact(j r d).symm⟩
  .rintro⟨r,d,c⟩;exact⟨r,d,by rw [<-c];exact j r d⟩
 .exact⟨λh=>absurd (Dk (ok a) h) hv,λh=>absurd (Dk (ok b) h) hv⟩
end Go.Aev.Tb
namespace Go.Aev.Wd.Lg
open Go Go.Aev Go.Aev.Gen Go.Aev.Wd Go.Aev.Tb
def aI(n:Nat)(rows:List R):Sy:=⟨n,rows.length,λi k=>(((aW rows i).of.getD k 0:Int):Rat),λi=>(aW rows i).kd,λi=>((aW rows i).tv:Rat)⟩
def TL.st(t:TL):bm:=⟨λi=>t.af.getD i 0,λi k=>nv (an (au t.aj i) k),λv=>nv (aH t.val v).1,λv=>nv (aH t.val v).2⟩
structure fv (n:Nat) (rows:List R):Prop where
 sz:Sz n rows
 of:∀r∈rows,∀c∈r.of, -1000000<=c/\c<=1000000
 len:∀r∈rows,r.of.length<=n
 kd:∀r∈rows,r.kd=1\/r.kd=2\/r.kd=3
def vv(a:Vl):Rat×Rat:=(nv a.1,nv a.2)
theorem sZ(p q:Rat):cq p q < 0↔p < q:=by
 unfold cq;by_cases h:p < q
 .rw [if_pos h];exact⟨λ_=>h,λ_=>by decide⟩
 .rw [if_neg h];by_cases b:p=q
  .rw [if_pos b];exact⟨λa=>absurd a (by decide),λa=>absurd a h⟩
  .rw [if_neg b];exact⟨λa=>absurd a (by decide),λa=>absurd a h⟩
theorem jx(p q:Rat):cq p q=0↔p=q:=by
 unfold cq;by_cases h:p < q
 .rw [if_pos h];exact⟨λa=>absurd a (by decide),λa=>by rw [a] at h;exact absurd h (by grind)⟩
 .rw [if_neg h];by_cases b:p=q
  .rw [if_pos b];exact⟨λ_=>b,λ_=>rfl⟩
  .rw [if_neg b];exact⟨λa=>absurd a (by decide),λa=>absurd a b⟩
theorem zM(p q:Rat):cq p q > 0↔q < p:=by
 have h1:=sZ p q;have d:=jx p q;constructor
 .intro h;have a:¬p < q:=λc=>by have:=h1.2 c;omega
  have b:¬p=q:=λc=>by have:=d.2 c;omega
  grind
 .intro h;have a:¬cq p q < 0:=λc=>by have:=h1.1 c;grind
  have b:¬cq p q=0:=λc=>by have:=d.1 c;grind
  omega
theorem wh(a b:Vl):dY a b < 0↔cQ (vv a) (vv b):=by
 unfold dY cQ vv;by_cases h:cq (nv a.1) (nv b.1)=0
 .rw [if_pos h,sZ];have:=(jx _ _).1 h;constructor
  .intro c;exact .inr ⟨this,c⟩
  .rintro(c | ⟨_,c⟩)
   .simp only at c;rw [this] at c;exact absurd c (by grind)
   .exact c
 .rw [if_neg h,sZ];constructor
  .intro c;exact .inl c
  .rintro(c | ⟨c,_⟩)
   .exact c
   .exact absurd ((jx _ _).2 c) h
theorem wg(a b:Vl):dY a b > 0↔cQ (vv b) (vv a):=by
 unfold dY cQ vv;by_cases h:cq (nv a.1) (nv b.1)=0
 .rw [if_pos h,zM];have:=(jx _ _).1 h;constructor
  .intro c;exact .inr ⟨this.symm,c⟩
  .rintro(c | ⟨_,c⟩)
   .simp only at c;rw [this] at c;exact absurd c (by grind)
   .exact c
 .rw [if_neg h,zM];constructor
  .intro c;exact .inl c
  .rintro(c | ⟨c,_⟩)
   .exact c
   .exact absurd ((jx _ _).2 c.symm) h
theorem uH{n:Nat}{rows:List R}{v:Nat}(h:¬v < n):vv (bJ n rows v)= (aI n rows).up v:=by
 unfold vv bJ Sy.up aI;simp only [if_neg h];by_cases a:(aW rows (v - n)).kd=2
 .simp only [a,if_true];rfl
 .simp only [a,if_false];rfl
theorem lk{n:Nat}{rows:List R}{v:Nat}:eT n rows v=true↔¬v < n/\(aI n rows).kd (v - n)=3:=by unfold eT aI;simp
theorem tL{n:Nat}{rows:List R}{v:Nat}(h:eT n rows v=true):vv (gY n rows v)= (aI n rows).up v:=by
 have a:=lk.1 h;unfold vv gY Sy.up;simp only [if_pos h];have b:¬(aI n rows).kd (v - (aI n rows).n)=2:=by show ¬(aI n rows).kd (v - n)=2;rw [a.2];decide
 rw [if_neg b];rfl
theorem sq(t:TL)(v:Nat):t.st.val v=vv (aH t.val v):=rfl
theorem zH{n:Nat}{rows:List R}(t:TL)(v:Nat){w:Int}(d:w≠0):eP n rows t.val v w=true↔(if w > 0 then(aI n rows).sv t.st v else(aI n rows).su t.st v):=by
 unfold eP;by_cases h:w > 0
 .rw [if_pos h,if_pos h];unfold Sy.sv;show _↔v < n\/_;by_cases hv:v < n
  .simp [hv]
  .rw [<-uH hv,sq,<-wh];simp [hv]
 .rw [if_neg h,if_neg h];unfold Sy.su;show _↔v < n\/_\/_;cases b:eT n rows v
  .have:¬(¬v < n/\(aI n rows).kd (v - n)=3):=λc=>by rw [lk.2 c] at b;cases b
   simp only [RJ,VG,true_iff];by_cases hv:v < n
   .exact .inl hv
   .exact .inr (.inl λc=>this ⟨hv,c⟩)
  .have c:=lk.1 b;have e:=tL b;simp only [RH,Sx,decide_eq_true_eq];rw [wg,e,<-sq];constructor
   .intro a;exact .inr (.inr a)
   .rintro(a | a | a)
    .exact absurd a c.1
    .exact absurd c.2 a
    .exact a
def bu(n:Nat)(rows:List R)(t:TL)(b:Nat):Int:=if cQ ((aI n rows).up b) (t.st.val b) then -1 else 1
theorem yD(n:Nat)(rows:List R)(t:TL)(b:Nat):(aI n rows).ai t.st b= ((bu n rows t b:Int):Rat):=by unfold Sy.ai bu;split <;> rfl
theorem Q9{a b:Rat×Rat}(h:cQ a b):¬cQ b a:=by unfold cQ at *;grind
theorem Ds{n:Nat}{rows:List R}(t:TL)(b:Nat)(r:List Nat)(p:Int×Int)(hs:¬(p.1>=0/\(b:Int) > p.1)):
  ((aI n rows).fq t.st b/\cI n rows t.val (b::r) p=cI n rows t.val r ((b:Int),bu n rows t b))\/
  (¬(aI n rows).fq t.st b/\cI n rows t.val (b::r) p=cI n rows t.val r p):=by
 rw [cI,if_neg hs];by_cases h1:eT n rows b=true/\dY (aH t.val b) (gY n rows b) < 0
 .rw [if_pos h1];have f:=lk.1 h1.1;have a:=(wh _ _).1 h1.2;rw [tL h1.1,<-sq] at a;refine .inl ⟨⟨To f.1, .inr ⟨f.2,a⟩⟩, ?_⟩;unfold bu;rw [if_neg (Q9 a)]
 .rw [if_neg h1];by_cases d:¬b < n/\dY (aH t.val b) (bJ n rows b) > 0
  .rw [if_pos d];have a:=(wg _ _).1 d.2;rw [uH d.1,<-sq] at a;refine .inl ⟨⟨To d.1, .inl a⟩, ?_⟩;unfold bu;rw [if_pos a]
  .rw [if_neg d];refine .inr ⟨?_,rfl⟩;rintro⟨g,h | ⟨i,h⟩⟩
   .have c:¬b < n:=TG.2 g;refine d ⟨c,(wg _ _).2 ?_⟩;rw [uH c,<-sq];exact h
   .have c:¬b < n:=TG.2 g;have e:eT n rows b=true:=lk.2 ⟨c,i⟩;refine h1 ⟨e,(wh _ _).2 ?_⟩;rw [tL e,<-sq];exact h
theorem vW{n:Nat}{rows:List R}(t:TL):∀(l:List Nat) (a:Nat),(aI n rows).fq t.st a->
  ∃b,(b=a\/b∈l)/\(aI n rows).fq t.st b/\b<=a/\(∀u∈l,(aI n rows).fq t.st u->b<=u)/\cI n rows t.val l ((a:Int),bu n rows t a)= ((b:Int),bu n rows t b)
 | [],a,h=>⟨a, .inl rfl,h,RI _,(λu hu=>by cases hu),rfl⟩
 | c::l,a,h=>by
  by_cases hs:((a:Int),bu n rows t a).1>=0/\(c:Int) > ((a:Int),bu n rows t a).1
  .obtain⟨b,h1,f,g,i,j⟩:=vW t l a h;refine⟨b, ?_,f,g,λu hu d=> ?_,by rw [cI,if_pos hs];exact j⟩
   .rcases h1 with h1 | h1
    .exact .inl h1
    .exact .inr (Ru _ h1)
   .rcases RC.1 hu with rfl | hu
    .have:=hs.2;simp only at this;omega
    .exact i u hu d
  .have m:c<=a:=by simp only at hs;omega
   rcases Ds (n:=n) (rows:=rows) t c l _ hs with⟨k,e⟩ | ⟨k,e⟩
   .obtain⟨b,h1,f,g,i,j⟩:=vW t l c k;refine⟨b, ?_,f,by omega,λu hu d=> ?_,by rw [e];exact j⟩
    .rcases h1 with h1 | h1
     .exact .inr (by rw [h1];exact Rs)
     .exact .inr (Ru _ h1)
    .rcases RC.1 hu with rfl | hu
     .exact g
     .exact i u hu d
   .obtain⟨b,h1,f,g,i,j⟩:=vW t l a h;refine⟨b, ?_,f,g,λu hu d=> ?_,by rw [e];exact j⟩
    .rcases h1 with h1 | h1
     .exact .inl h1
     .exact .inr (Ru _ h1)
    .rcases RC.1 hu with rfl | hu
     .exact absurd d k
     .exact i u hu d
theorem Dr{n:Nat}{rows:List R}(t:TL):∀(l:List Nat),
  ((∀u∈l,¬(aI n rows).fq t.st u)/\cI n rows t.val l (-1,0)= (-1,0))\/
  ∃b,b∈l/\(aI n rows).fq t.st b/\(∀u∈l,(aI n rows).fq t.st u->b<=u)/\cI n rows t.val l (-1,0)= ((b:Int),bu n rows t b)
 | []=> .inl ⟨λu hu=>(by cases hu),rfl⟩
 | c::l=>by
  have hs:¬(((-1:Int),(0:Int)).1>=0/\(c:Int) > ((-1:Int),(0:Int)).1):=λh=>absurd h.1 (by decide);rcases Ds (n:=n) (rows:=rows) t c l _ hs with⟨f,e⟩ | ⟨f,e⟩
  .obtain⟨b,h1,d,g,i,j⟩:=vW t l c f;refine .inr ⟨b, ?_,d,λu hu a=> ?_,by rw [e];exact j⟩
   .rcases h1 with h1 | h1
    .rw [h1];exact Rs
    .exact Ru _ h1
   .rcases RC.1 hu with rfl | hu
    .exact g
    .exact i u hu a
  .rcases Dr t l with⟨h1,d⟩ | ⟨b,h1,d,g,i⟩
   .refine .inl ⟨λu hu=> ?_,by rw [e];exact d⟩;rcases RC.1 hu with rfl | hu
    .exact f
    .exact h1 u hu
   .refine .inr ⟨b,Ru _ h1,d,λu hu a=> ?_,by rw [e];exact i⟩;rcases RC.1 hu with rfl | hu
    .exact absurd a f
    .exact g u hu a
theorem iJ{n:Nat}{rows:List R}{val:List Vl}{ai:Int}:∀{row:List Nm} {k v:Nat},aR n rows val ai row k=some v->
  k<=v/\v < k+row.length/\nv (an row (v - k))≠0/\eP n rows val v (ai * (nv (an row (v - k))).num.sign)=true/\
  ∀u,k<=u->u < v->nv (an row (u - k))≠0->eP n rows val u (ai * (nv (an row (u - k))).num.sign)=false
 | [],_,_,h=>by simp [aR] at h
 | x::xs,k,v,h=>by
  rw [aR] at h;by_cases b:nv x≠0/\eP n rows val k (ai * (nv x).num.sign)=true
  .rw [if_pos b] at h;obtain rfl:k=v:=R1 h;refine⟨RI _,by simp, ?_, ?_,λu h1 f=>by omega⟩
   .rw [TU];exact b.1
   .rw [TU];exact b.2
  .rw [if_neg b] at h;obtain⟨h1,f,g,i,j⟩:=iJ h;have e:∀u,k+1<=u->an (x::xs) (u - k)=an xs (u - (k+1)):=λu c=>by
    have:u - k= (u - (k+1))+1:=by omega
    rw [this];rfl
   refine⟨by omega,by simp only [RP];omega,by rw [e v h1];exact g,by rw [e v h1];exact i,λu m d a=> ?_⟩;by_cases c:u=k
   .subst c;rw [TU] at a⊢;have:an (x::xs) 0=x:=rfl;rw [this] at a⊢;cases l:eP n rows val u (ai * (nv x).num.sign)
    .rfl
    .exact absurd ⟨a,l⟩ b
   .rw [e u (by omega)] at a⊢;exact j u (by omega) d a
theorem wO{n:Nat}{rows:List R}{val:List Vl}{ai:Int}:∀{row:List Nm} {k:Nat},aR n rows val ai row k=none->
  ∀u,k<=u->nv (an row (u - k))≠0->eP n rows val u (ai * (nv (an row (u - k))).num.sign)=false
 | [],_,_,u,_,a=>absurd rfl a
 | x::xs,k,h,u,f,a=>by
  rw [aR] at h;by_cases b:nv x≠0/\eP n rows val k (ai * (nv x).num.sign)=true
  .rw [if_pos b] at h;cases h
  .rw [if_neg b] at h;by_cases c:u=k
   .subst c;rw [TU] at a⊢;have:an (x::xs) 0=x:=rfl;rw [this] at a⊢;cases d:eP n rows val u (ai * (nv x).num.sign)
    .rfl
    .exact absurd ⟨a,d⟩ b
   .have e:an (x::xs) (u - k)=an xs (u - (k+1)):=by
     have:u - k= (u - (k+1))+1:=by omega
     rw [this];rfl
    rw [e] at a⊢;exact wO h u (by omega) a
end Go.Aev.Wd.Lg
