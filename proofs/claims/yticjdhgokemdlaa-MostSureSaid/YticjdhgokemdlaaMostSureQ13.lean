import Derived.Test.YticjdhgokemdlaaMostSureQ5
import Derived.Test.YticjdhgokemdlaaMostSureQ12
set_option linter.all false
namespace Go.Aev.Tb
open Go Go.Aev
def sm:Nat->(Nat->Rat)->Rat
 | 0,_=>0
 | n+1,f=>sm n f+f n
theorem cf{f g:Nat->Rat}:∀{n:Nat},(∀i,i < n->f i=g i)->sm n f=sm n g
 | 0,_=>rfl
 | n+1,h=>by rw [sm,sm,cf (n:=n) (λi hi=>h i (by omega)),h n (by omega)]
theorem CN:∀(n:Nat),sm n (λ_=>0)=0
 | 0=>rfl
 | n+1=>by rw [sm,CN n];grind
theorem jD{n:Nat}{f:Nat->Rat}(h:∀i,i < n->f i=0):sm n f=0:=by rw [cf h,CN]
theorem ik(x y:Rat)(f g:Nat->Rat):∀(n:Nat),sm n (λi=>x * f i+y * g i)=x * sm n f+y * sm n g
 | 0=>by simp only [sm];grind
 | n+1=>by have:=ik x y f g n;simp only [sm];grind
theorem uP(f g:Nat->Rat)(n:Nat):sm n (λi=>f i+g i)=sm n f+sm n g:=by have:=ik 1 1 f g n;simp only [WE] at this;exact this
theorem kW(x:Rat)(f:Nat->Rat)(n:Nat):sm n (λi=>x * f i)=x * sm n f:=by have:=ik x 0 f (λ_=>0) n;simp only [TI,Wf] at this;exact this
theorem jg{f:Nat->Rat}{v:Nat}:∀{n:Nat},v < n->(∀i,i < n->i≠v->f i=0)->sm n f=f v
 | 0,h,_=>by omega
 | n+1,h,hz=>by
  rw [sm];by_cases hv:v=n
  .subst hv;rw [jD (λi hi=>hz i (by omega) (by omega)),WQ]
  .rw [jg (n:=n) (by omega) (λi hi a=>hz i (by omega) a),hz n (by omega) (by omega),Wf]
theorem l0{n v:Nat}(hv:v < n)(f:Nat->Rat):sm n (λi=>if i=v then f i else 0)=f v:=by rw [jg hv (λi _ a=>if_neg a),if_pos rfl]
theorem yQ(f:Nat->Nat->Rat)(m:Nat):∀(n:Nat),sm n (λi=>sm m (λj=>f i j))=sm m (λj=>sm n (λi=>f i j))
 | 0=>by simp only [sm];exact(CN m).symm
 | n+1=>by simp only [sm];rw [yQ f m n,uP]
theorem Jj{N n:Nat}{nb:Nat->Nat}{f:Nat->Rat}(hb:∀r,r < n->nb r < N)(hi:∀r s,r < n->s < n->nb r=nb s->r=s)
  (hz:∀v,v < N->(∀r,r < n->nb r≠v)->f v=0):sm N f=sm n (λr=>f (nb r)):=by
 have h1:sm N f=sm N (λv=>sm n (λr=>if nb r=v then f v else 0)):=by
  refine cf (λv hv=> ?_);by_cases h:∃r,r < n/\nb r=v
  .obtain⟨r,hr,e⟩:=h;rw [jg hr (λi a b=>if_neg (λd=>b (hi _ _ a hr (by rw [d,e])))),if_pos e]
  .have c:∀r,r < n->nb r≠v:=λr hr e=>h ⟨r,hr,e⟩;rw [hz v hv c,jD (λi a=>if_neg (c i a))]
 rw [h1,yQ];refine cf (λr hr=> ?_);rw [jg (hb r hr) (λi _ b=>if_neg (λe=>b e.symm)),if_pos rfl]
def skip(i r:Nat):Nat:=if r < i then r else r+1
def sg:Nat->Rat
 | 0=>1
 | i+1=> - sg i
def cS:Nat->(Nat->Nat->Rat)->Rat
 | 0,_=>1
 | n+1,M=>sm (n+1) (λi=>sg i * M i 0 * cS n (λr c=>M (skip i r) (c+1)))
theorem Jd(i r:Nat):skip i r≠i:=by unfold skip;split <;> omega
theorem Q8{i r s:Nat}(h:skip i r=skip i s):r=s:=by unfold skip at h;split at h <;> split at h <;> omega
theorem ED:∀(n:Nat) (M a b:Nat->Nat->Rat) (p:Nat) (x y:Rat),p < n->(∀r,r≠p->M r=a r/\M r=b r)->(∀c,M p c=x * a p c+y * b p c)->
  cS n M=x * cS n a+y * cS n b
 | 0,_,_,_,_,_,_,h,_,_=>by omega
 | n+1,M,a,b,p,x,y,s,hr,f=>by
  simp only [cS];rw [<-ik];refine cf (λi hi=> ?_);by_cases d:i=p
  .subst d;have m:(λr c=>M (skip i r) (c+1))= (λr c=>a (skip i r) (c+1)):=by
    funext r c;rw [(hr _ (Jd i r)).1]
   have o:(λr c=>M (skip i r) (c+1))= (λr c=>b (skip i r) (c+1)):=by funext r c;rw [(hr _ (Jd i r)).2]
   rw [<-m,<-o,f 0];grind
  .obtain⟨q,j,k⟩:∃q,skip i q=p/\q < n:=by
    by_cases g:p < i
    .exact⟨p,by unfold skip;rw [if_pos g],by omega⟩
    .exact⟨p - 1,by unfold skip;rw [if_neg (by omega)];omega,by omega⟩
   have:=ED n (λr c=>M (skip i r) (c+1)) (λr c=>a (skip i r) (c+1)) (λr c=>b (skip i r) (c+1)) q x y k
    (λr l=>by
     have e:skip i r≠p:=λh=>l (Q8 (by rw [h,j]));exact⟨by funext c;rw [(hr _ e).1],by funext c;rw [(hr _ e).2]⟩)
    (λc=>by rw [j];exact f _)
   rw [this,<-(hr i d).1,<-(hr i d).2];grind
theorem xn:∀(n:Nat) (M:Nat->Nat->Rat) (p:Nat),p+1 < n->M p=M (p+1)->cS n M=0
 | 0,_,_,h,_=>by omega
 | n+1,M,p,j,f=>by
  simp only [cS];have e:(λr c=>M (skip (p+1) r) (c+1))= (λr c=>M (skip p r) (c+1)):=by
   funext r c;by_cases h1:r < p
   .have a:skip (p+1) r=r:=by unfold skip;rw [if_pos (by omega)]
    have b:skip p r=r:=by unfold skip;rw [if_pos h1]
    rw [a,b]
   .by_cases d:r=p
    .subst d;have a:skip (r+1) r=r:=by unfold skip;rw [if_pos (by omega)]
     have b:skip r r=r+1:=by unfold skip;rw [if_neg (by omega)]
     rw [a,b,f]
    .have a:skip (p+1) r=r+1:=by unfold skip;rw [if_neg (by omega)]
     have b:skip p r=r+1:=by unfold skip;rw [if_neg (by omega)]
     rw [a,b]
  have h1:sm (n+1) (λi=>sg i * M i 0 * cS n (λr c=>M (skip i r) (c+1)))=
    sm (n+1) (λi=>(if i=p then sg p * M p 0 * cS n (λr c=>M (skip p r) (c+1)) else 0)+ (if i=p+1 then -(sg p * M p 0 * cS n (λr c=>M (skip p r) (c+1))) else 0)):=by
   refine cf (λi hi=> ?_);by_cases h1:i=p
   .subst h1;rw [if_pos rfl,if_neg (by omega),Wf]
   .by_cases d:i=p+1
    .subst d;rw [if_neg (by omega),if_pos rfl,e,<-f];simp only [sg];grind
    .rw [if_neg h1,if_neg d];have:cS n (λr c=>M (skip i r) (c+1))=0:=by
      by_cases g:p+1 < i
      .refine xn n _ p (by omega) ?_;have a:skip i p=p:=by unfold skip;rw [if_pos (by omega)]
       have b:skip i (p+1)=p+1:=by unfold skip;rw [if_pos g]
       funext c;rw [a,b,f]
      .refine xn n _ (p - 1) (by omega) ?_;have a:skip i (p - 1)=p:=by unfold skip;rw [if_neg (by omega)];omega
       have b:skip i (p - 1+1)=p+1:=by unfold skip;rw [if_neg (by omega)];omega
       funext c;rw [a,b,f]
     rw [this];grind
  rw [h1,uP,l0 (v:=p) (by omega) (λ_=>sg p * M p 0 * cS n (λr c=>M (skip p r) (c+1))),l0 (v:=p+1) (by omega) (λ_=> -(sg p * M p 0 * cS n (λr c=>M (skip p r) (c+1))))];grind
def aB(M:Nat->Nat->Rat)(p:Nat)(v:Nat->Rat):Nat->Nat->Rat:=λr=>if r=p then v else M r
theorem lk(M:Nat->Nat->Rat)(p:Nat)(v:Nat->Rat):aB M p v p=v:=if_pos rfl
theorem jl{M:Nat->Nat->Rat}{p r:Nat}(v:Nat->Rat)(h:r≠p):aB M p v r=M r:=if_neg h
theorem zb(M:Nat->Nat->Rat)(p:Nat):aB M p (M p)=M:=by
 funext r;by_cases h:r=p
 .subst h;exact lk _ _ _
 .exact jl _ h
theorem rq{n:Nat}(M:Nat->Nat->Rat){p:Nat}(a:p < n)(x y:Rat)(u v:Nat->Rat):
  cS n (aB M p (λk=>x * u k+y * v k))=x * cS n (aB M p u)+y * cS n (aB M p v):=by
 refine ED n _ _ _ p x y a (λr hr=> ?_) (λc=> ?_)
 .rw [jl _ hr,jl _ hr,jl _ hr];exact⟨rfl,rfl⟩
 .rw [lk,lk,lk]
theorem Lr{n:Nat}(M:Nat->Nat->Rat){p:Nat}(e:p+1 < n)(u v:Nat->Rat):
  cS n (aB (aB M p u) (p+1) v)= - cS n (aB (aB M p v) (p+1) u):=by
 have z:∀w,cS n (aB (aB M p w) (p+1) w)=0:=λw=>xn n _ p e (by rw [lk,jl _ (by omega),lk]);have c:∀a b,aB (aB M p a) (p+1) b=aB (aB M (p+1) b) p a:=λa b=>by
  funext r;by_cases h1:r=p
  .subst h1;rw [jl _ (by omega),lk,lk]
  .by_cases d:r=p+1
   .subst d;rw [lk,jl _ h1,lk]
   .rw [jl _ d,jl _ h1,jl _ h1,jl _ d]
 have f:=z (λk=>1 * u k+1 * v k);have i:=rq (n:=n) (aB M p (λk=>1 * u k+1 * v k)) e 1 1 u v;have k2:=rq (n:=n) (aB M p (λk=>1 * u k+1 * v k)) (p:=p+1) e 1 1 u v;rw [f] at k2;rw [c,c] at k2;have g:=rq (n:=n) (aB M (p+1) u) (p:=p) (by omega) 1 1 u v;have h:=rq (n:=n) (aB M (p+1) v) (p:=p) (by omega) 1 1 u v;rw [g,h,<-c,<-c,<-c,<-c,z,z] at k2;grind
theorem Ay{n:Nat}:∀(d:Nat) (M:Nat->Nat->Rat) (p:Nat),p+d+1 < n->M p=M (p+d+1)->cS n M=0
 | 0,M,p,b,a=>xn n M p b a
 | d+1,M,p,b,a=>by
  have e:M=aB (aB M (p+d+1) (M (p+d+1))) (p+d+1+1) (M (p+d+1+1)):=by rw [zb,zb]
  rw [e,Lr M (p:=p+d+1) b];rw [Ay d _ p (by omega)]
  .grind
  .rw [jl _ (by omega),jl _ (by omega),jl _ (by omega),lk];exact a
theorem Lq{n:Nat}{M:Nat->Nat->Rat}{p q:Nat}(c:p < n)(d:q < n)(b:p≠q)(a:M p=M q):cS n M=0:=by
 by_cases h:p < q
 .refine Ay (q - p - 1) M p (by omega) ?_;rw [a];congr 1;omega
 .refine Ay (p - q - 1) M q (by omega) ?_;rw [<-a];congr 1;omega
theorem EE{n:Nat}(M:Nat->Nat->Rat){p:Nat}(a:p < n)(c:Nat->Rat)(w:Nat->Nat->Rat):
  ∀(m:Nat),cS n (aB M p (λk=>sm m (λr=>c r * w r k)))=sm m (λr=>c r * cS n (aB M p (w r)))
 | 0=>by
  have:=rq (n:=n) M a 0 0 (λ_=>0) (λ_=>0);simp only [sm];have e:(λk:Nat=>(0:Rat) * (λ_=>(0:Rat)) k+0 * (λ_=>(0:Rat)) k)= (λ_=>0):=by funext k;grind
  rw [e] at this;rw [this];grind
 | m+1=>by have:=rq (n:=n) M a 1 (c m) (λk=>sm m (λr=>c r * w r k)) (w m);simp only [WE] at this;simp only [sm];rw [this,EE M a c w m]
theorem Et{n:Nat}(M:Nat->Nat->Rat){p:Nat}(b:p < n)(c:Nat->Rat)(u:Nat->Rat)(d:∀k,u k=sm n (λr=>c r * M r k)):
  cS n (aB M p u)=c p * cS n M:=by
 have e:u=λk=>sm n (λr=>c r * M r k):=funext d;rw [e,EE M b c M n,jg b (λi hi a=> ?_),zb];rw [Lq (p:=p) (q:=i) b hi (λh=>a h.symm) (by rw [lk,jl _ a])];grind
def aJ(B:Nat)(q:Rat):Prop:= ∃z:Int,q= (z:Rat)/\z.natAbs<=B
theorem aJ.add{A B:Nat}{p q:Rat}(h:aJ A p)(k:aJ B q):aJ (A+B) (p+q):=by obtain⟨x,rfl,a⟩:=h;obtain⟨y,rfl,hy⟩:=k;exact⟨x+y,by rw [Rat.intCast_add],by omega⟩
theorem aJ.mul{A B:Nat}{p q:Rat}(h:aJ A p)(k:aJ B q):aJ (A * B) (p * q):=by obtain⟨x,rfl,a⟩:=h;obtain⟨y,rfl,hy⟩:=k;exact⟨x * y,by rw [Xu],by rw [T8];exact Wz a hy⟩
theorem aJ.neg{A:Nat}{p:Rat}(h:aJ A p):aJ A (-p):=by obtain⟨x,rfl,a⟩:=h;exact⟨-x,by rw [WS],by omega⟩
theorem aJ.mono{A B:Nat}{p:Rat}(h:aJ A p)(a:A<=B):aJ B p:=by obtain⟨x,e,b⟩:=h;exact⟨x,e,by omega⟩
theorem aJ.zero(B:Nat):aJ B 0:=⟨0,rfl,by omega⟩
theorem aJ.int{z:Int}{B:Nat}(h:z.natAbs<=B):aJ B (z:Rat):=⟨z,rfl,h⟩
theorem I7:∀(i:Nat),aJ 1 (sg i)
 | 0=>⟨1,rfl,by decide⟩
 | i+1=>(I7 i).neg
theorem su{B:Nat}{f:Nat->Rat}:∀{n:Nat},(∀i,i < n->aJ B (f i))->aJ (n * B) (sm n f)
 | 0,_=>aJ.zero _
 | n+1,h=>by rw [sm,T2];exact(su (λi hi=>h i (by omega))).add (h n (by omega))
def bd(K:Nat):Nat->Nat
 | 0=>1
 | n+1=>(n+1) * (K * bd K n)
theorem Az{K:Nat}:∀(n:Nat) (M:Nat->Nat->Rat),(∀r c,r < n->aJ K (M r c))->aJ (bd K n) (cS n M)
 | 0,_,_=>⟨1,rfl,Tl _⟩
 | n+1,M,h=>by rw [cS,bd];refine su (λi hi=> ?_);have h1:=((I7 i).mul (h i 0 hi)).mul (Az n (λr c=>M (skip i r) (c+1)) (λr c hr=>h _ _ (by unfold skip;split <;> omega)));rw [Nat.one_mul] at h1;exact h1
open Go Go.Aev
theorem Jh{n N:Nat}{f:Nat->Rat}(h:n<=N)(hz:∀k,n<=k->k < N->f k=0):sm N f=sm n f:=
 Jj (nb:=λr=>r) (λr hr=>by omega) (λr s _ _ e=>e) (λv hv b=>hz v (by
  by_cases a:v < n
  .exact absurd rfl (b v a)
  .omega) hv)
def av(n:Nat)(A:Nat->Nat->Rat)(v:Nat):Nat->Rat:=λk=>if k < n then(if v < n then(if k=v then 1 else 0) else A (v - n) k) else 0
def df(n m:Nat)(A:Nat->Nat->Rat)(y:Nat->Rat):Prop:= ∀i,i < m->y (n+i)=sm n (λk=>A i k * y k)
def zh(N m:Nat)(af:Nat->Nat)(c:Nat->Nat->Rat)(y:Nat->Rat):Prop:= ∀i,i < m->y (af i)=sm N (λk=>c i k * y k)
structure WF (n m:Nat) (A:Nat->Nat->Rat) (af:Nat->Nat) (c:Nat->Nat->Rat):Prop where
 hb:∀i,i < m->af i < n+m
 inj:∀i j,i < m->j < m->af i=af j->i=j
 z:∀i j,i < m->j < m->c i (af j)=0
 same:∀y,zh (n+m) m af c y↔df n m A y
 nb:∃nb:Nat->Nat,(∀r,r < n->nb r < n+m)/\(∀r s,r < n->s < n->nb r=nb s->r=s)/\(∀r i,r < n->i < m->nb r≠af i)/\
  (∀v,v < n+m->(∃r,r < n/\nb r=v)\/∃i,i < m/\af i=v)/\cS n (λr=>av n A (nb r))≠0
theorem EC:∀(n:Nat),cS n (λr c=>if c < n then(if c=r then 1 else 0) else 0)=1
 | 0=>rfl
 | n+1=>by
  rw [cS,jg (v:=0) (by omega)]
  .have e:(λr c=>if c+1 < n+1 then(if c+1=skip 0 r then(1:Rat) else 0) else 0)= (λr c=>if c < n then(if c=r then 1 else 0) else 0):=by
    funext r c;have hs:skip 0 r=r+1:=by unfold skip;rw [if_neg (by omega)]
    rw [hs];have h1:(c+1 < n+1)= (c < n):=by simp
    have b:(c+1=r+1)= (c=r):=by simp
    simp only [h1,b]
   rw [e,EC n,if_pos (by omega),if_pos rfl];simp only [sg];grind
  .intro i hi a;rw [if_pos (by omega),if_neg (λh=>a h.symm)];grind
theorem SH(n m:Nat)(A:Nat->Nat->Rat):WF n m A (λi=>n+i) (λi k=>if k < n then A i k else 0) where
 hb:=λi hi=>by omega
 inj:=λi j _ _ h=>by omega
 z:=λi j _ _=>if_neg (by omega)
 same:=λy=>by
  have e:∀i,sm (n+m) (λk=>(if k < n then A i k else 0) * y k)=sm n (λk=>A i k * y k):=λi=>by rw [Jh (n:=n) (by omega) (λk h _=>by rw [if_neg (by omega),TI])];exact cf (λk hk=>by rw [if_pos hk])
  unfold zh df;constructor
  .intro h i hi;rw [h i hi,e]
  .intro h i hi;rw [h i hi,e]
 nb:=by
  refine⟨λr=>r,λr hr=>by dsimp only;omega,λr s _ _ e=>e,λr i hr _=>by dsimp only;omega,λv hv=> ?_, ?_⟩
  .by_cases h:v < n
   .exact .inl ⟨v,h,rfl⟩
   .exact .inr ⟨v - n,by omega,by omega⟩
  .have e:∀(N:Nat) (M M':Nat->Nat->Rat),(∀r,r < N->M r=M' r)->cS N M=cS N M':=by
    intro N;induction N with
    | zero=>intros;rfl
    | succ N ih=>intro M M' h;rw [cS,cS];refine cf (λi hi=> ?_);rw [h i hi,ih _ (λr c=>M' (skip i r) (c+1)) (λr hr=>by funext c;rw [h _ (by unfold skip;split <;> omega)])]
   rw [e n (λr=>av n A r) (λr c=>if c < n then(if c=r then 1 else 0) else 0) (λr hr=>by
    funext c;unfold av;rw [if_pos hr]),EC]
   grind
theorem z4{n m:Nat}(A:Nat->Nat->Rat)(k:Nat):df n m A (λv=>av n A v k):=by
 intro i _;unfold av;dsimp only;by_cases a:k < n
 .rw [if_pos a,if_neg (by omega)];have e:n+i - n=i:=by omega
  rw [e,jg a]
  .rw [if_pos a,if_pos a,if_pos rfl];grind
  .intro j c b;rw [if_pos a,if_pos c,if_neg (λh=>b h.symm)];grind
 .rw [if_neg a];exact(jD (λj _=>by rw [if_neg a];grind)).symm
theorem WF.sum{n m:Nat}{A:Nat->Nat->Rat}{af:Nat->Nat}{c:Nat->Nat->Rat}{nb:Nat->Nat}
  (h1:∀r,r < n->nb r < n+m) (a:∀r s,r < n->s < n->nb r=nb s->r=s) (b:∀v,v < n+m->(∃r,r < n/\nb r=v)\/∃i,i < m/\af i=v)
  {l:Nat->Rat} (hz:∀j,j < m->l (af j)=0) (y:Nat->Rat):sm (n+m) (λk=>l k * y k)=sm n (λr=>l (nb r) * y (nb r)):=by
 refine Jj h1 a (λv hv d=> ?_);rcases b v hv with⟨r,hr,e⟩ | ⟨i,hi,e⟩
 .exact absurd e (d r hr)
 .rw [<-e,hz i hi,TI]
def gp(x:Nat->Rat)(b v:Nat)(k:Nat):Rat:=if k=b then 1 / x v else if k=v then 0 else -(x k / x v)
def ke(row:Nat->Rat)(v:Nat)(l:Nat->Rat)(k:Nat):Rat:=if k=v then 0 else l k+l v * row k
theorem Im{N:Nat}{x:Nat->Rat}{b v:Nat}(hb:b < N)(hv:v < N)(c:b≠v)(d:x b=0)(g:x v≠0)(y:Nat->Rat):
  sm N (λk=>gp x b v k * y k)= (y b - sm N (λk=>x k * y k)) / x v+y v:=by
 have e:sm N (λk=>gp x b v k * y k)=sm N (λk=>(-(1 / x v) * (x k * y k)+1 * (if k=v then y k else 0))+ (1 / x v) * (if k=b then y k else 0)):=by
  refine cf (λk _=> ?_);unfold gp;by_cases h1:k=b
  .subst h1;rw [if_pos rfl,if_neg c,if_pos rfl,d];grind
  .by_cases a:k=v
   .subst a;rw [if_neg h1,if_pos rfl,if_pos rfl,if_neg h1];have: 1 / x k * x k=1:=by rw [TR,WE];exact V5 _ g
    grind
   .rw [if_neg h1,if_neg a,if_neg a,if_neg h1,TR,TR];grind
 have f:=uP (λk=> -(1 / x v) * (x k * y k)+1 * (if k=v then y k else 0)) (λk=>(1 / x v) * (if k=b then y k else 0)) N;rw [e,f,ik,kW,l0 hv y,l0 hb y,TR,TR];grind
theorem Cc{N:Nat}{row l:Nat->Rat}{v:Nat}(hv:v < N)(hr:row v=0)(y:Nat->Rat):
  sm N (λk=>ke row v l k * y k)=sm N (λk=>l k * y k)+l v * (sm N (λk=>row k * y k) - y v):=by
 have e:sm N (λk=>ke row v l k * y k)=sm N (λk=>(1 * (l k * y k)+l v * (row k * y k))+ (-(l v)) * (if k=v then y k else 0)):=by
  refine cf (λk _=> ?_);unfold ke;by_cases a:k=v
  .subst a;rw [if_pos rfl,if_pos rfl,hr];grind
  .rw [if_neg a,if_neg a];grind
 have b:=uP (λk=>1 * (l k * y k)+l v * (row k * y k)) (λk=>(-(l v)) * (if k=v then y k else 0)) N;rw [e,b,ik,kW,l0 hv y];grind
def fJ(af:Nat->Nat)(i v:Nat):Nat->Nat:=λj=>if j=i then v else af j
def oZ(c:Nat->Nat->Rat)(af:Nat->Nat)(i v:Nat):Nat->Nat->Rat:=λj=>if j=i then gp (c i) (af i) v else ke (gp (c i) (af i) v) v (c j)
theorem uB{x:Nat->Rat}{b v:Nat}(a:b≠v):gp x b v v=0:=by unfold gp;rw [if_neg (λh=>a h.symm),if_pos rfl]
theorem SI{n m:Nat}{A:Nat->Nat->Rat}{af:Nat->Nat}{c:Nat->Nat->Rat}(w:WF n m A af c){i v:Nat}(hi:i < m)(hv:v < n+m)
  (q:c i v≠0):WF n m A (fJ af i v) (oZ c af i v):=by
 have b:∀j,j < m->af j≠v:=λj a e=>q (by rw [<-e];exact w.z i j hi a);have t:=w.hb i hi;have J:=w.z i i hi hi;refine⟨λj a=> ?_,λj k a d e=> ?_,λj k a d=> ?_,λy=> ?_, ?_⟩
 .unfold fJ;split
  .exact hv
  .exact w.hb j a
 .unfold fJ at e;split at e <;> split at e
  .omega
  .exact absurd e.symm (b k d)
  .exact absurd e (b j a)
  .exact w.inj j k a d e
 .unfold fJ oZ;by_cases h1:k=i
  .subst h1;rw [if_pos rfl];split
   .exact uB (b k hi)
   .unfold ke;rw [if_pos rfl]
  .rw [if_neg h1];have I:af k≠af i:=λe=>h1 (w.inj k i d hi e);have H:gp (c i) (af i) v (af k)=0:=by
    unfold gp;rw [if_neg I,if_neg (b k d),w.z i k hi d,TR];grind
   split
   .exact H
   .unfold ke;rw [if_neg (b k d),w.z j k a d,H];grind
 .rw [<-w.same y];have o:=Im t hv (b i hi) J q y;have B:=uB (x:=c i) (b i hi);have L:c i v * (c i v)⁻¹ =1:=VG _ q;constructor
  .intro h;have f:y v=sm (n+m) (λk=>gp (c i) (af i) v k * y k):=by
    have:=h i hi;unfold fJ oZ at this;rw [if_pos rfl] at this;simpa using this
   have l:y (af i)=sm (n+m) (λk=>c i k * y k):=by
    rw [f.symm,TR] at o;have:(y (af i) - sm (n+m) (λk=>c i k * y k)) * (c i v)⁻¹ * c i v=0:=by
     have:(y (af i) - sm (n+m) (λk=>c i k * y k)) * (c i v)⁻¹ =0:=by grind
     rw [this];grind
    grind
   intro j a;by_cases h1:j=i
   .subst h1;exact l
   .have:=h j a;unfold fJ oZ at this;rw [if_neg h1] at this;simp only [if_neg h1] at this;rw [Cc hv B,<-f] at this;grind
  .intro h;have l:=h i hi;have f:sm (n+m) (λk=>gp (c i) (af i) v k * y k)=y v:=by
    rw [o,<-l,TR];grind
   intro j a;by_cases h1:j=i
   .subst h1;unfold fJ oZ;rw [if_pos rfl];simp only [if_pos rfl];exact f.symm
   .unfold fJ oZ;rw [if_neg h1];simp only [if_neg h1];rw [Cc hv B,f,h j a];grind
 .obtain⟨nb,K,E,F,G,N⟩:=w.nb;obtain⟨p,D,C⟩:∃r,r < n/\nb r=v:=by
   rcases G v hv with h | ⟨j,a,e⟩
   .exact h
   .exact absurd e (b j a)
  refine⟨λr=>if r=p then af i else nb r,λr hr=> ?_,λr s hr hs e=> ?_,λr j hr a e=> ?_,λu M=> ?_, ?_⟩
  .dsimp only;split
   .exact t
   .exact K r hr
  .dsimp only at e;split at e <;> split at e
   .omega
   .exact absurd e.symm (F s i hs hi)
   .exact absurd e (F r i hr hi)
   .exact E r s hr hs e
  .dsimp only at e;unfold fJ at e;split at e <;> split at e
   .exact b i hi e
   .rename_i h1 g;exact g (w.inj j i a hi e.symm)
   .rename_i h1 g;exact h1 (E r p hr D (by rw [e,C]))
   .exact F r j hr a e
  .by_cases h1:u=v
   .exact .inr ⟨i,hi,by unfold fJ;rw [if_pos rfl,h1]⟩
   .by_cases g:u=af i
    .exact .inl ⟨p,D,by dsimp only;rw [if_pos rfl,g]⟩
    .rcases G u M with⟨r,hr,e⟩ | ⟨j,a,e⟩
     .refine .inl ⟨r,hr, ?_⟩;dsimp only;rw [if_neg (λh=>h1 (by rw [<-e,h,C])),e]
     .refine .inr ⟨j,a, ?_⟩;unfold fJ;rw [if_neg (λh=>g (by rw [<-e,h])),e]
  .have e:(λr=>av n A (if r=p then af i else nb r))=aB (λr=>av n A (nb r)) p (av n A (af i)):=by
    funext r;unfold aB;split <;> rfl
   rw [e,Et (λr=>av n A (nb r)) D (λr=>c i (nb r)) (av n A (af i)) (λk=> ?_)]
   .rw [C];intro h;rcases V6.1 h with h | h
    .exact q h
    .exact N h
   .have:=(w.same _).2 (z4 (m:=m) A k) i hi;rw [this];exact WF.sum (A:=A) (af:=af) (c:=c) K E G (w.z i · hi) _
theorem z5{n m K:Nat}{A:Nat->Nat->Rat}(b: 1<=K)(a:∀i k,i < m->k < n->aJ K (A i k)){v:Nat}(hv:v < n+m)(k:Nat):aJ K (av n A v k):=by
 unfold av;split
 .split
  .split
   .exact⟨1,rfl,b⟩
   .exact aJ.zero _
  .exact a _ _ (by omega) (by assumption)
 .exact aJ.zero _
theorem WF.den{n m K:Nat}{A:Nat->Nat->Rat}{af:Nat->Nat}{c:Nat->Nat->Rat}(w:WF n m A af c)(d: 1<=K)(b:∀i k,i < m->k < n->aJ K (A i k)):
  ∃D:Rat,D≠0/\aJ (bd K n) D/\(∀i v,i < m->v < n+m->aJ (bd K n) (D * c i v))/\
   (∀(g G:Nat->Rat),(∀j,j < m->g (af j)=0)->(∀k,k < n->aJ K (G k))->(∀y,df n m A y->sm (n+m) (λk=>g k * y k)=sm n (λk=>G k * y k))->
    ∀v,v < n+m->aJ (bd K n) (D * g v)):=by
 obtain⟨nb,l,B,E,q,C⟩:=w.nb
 have key:∀(g:Nat->Rat) (u:Nat->Rat),(∀j,j < m->g (af j)=0)->(∀k,aJ K (u k))->(∀k,u k=sm (n+m) (λv=>g v * av n A v k))->
   ∀v,v < n+m->aJ (bd K n) (cS n (λr=>av n A (nb r)) * g v):=by
  intro g u hz x hs v hv;rcases q v hv with⟨p,t,e⟩ | ⟨j,f,e⟩
  .have:=Et (λr=>av n A (nb r)) t (λr=>g (nb r)) u (λk=>by rw [hs];exact WF.sum (A:=A) (af:=af) (c:=c) l B q hz _);rw [<-e,WT,<-this];refine Az n _ (λr k hr=> ?_);unfold aB;split
   .exact x k
   .exact z5 d b (l r hr) k
  .rw [<-e,hz j f,TV];exact aJ.zero _
 refine⟨_,C,Az n _ (λr k hr=>z5 d b (l r hr) k),λi v hi hv=> ?_,λg G hz s hs v hv=> ?_⟩
 .refine key (c i) (av n A (af i)) (w.z i · hi) (z5 d b (w.hb i hi)) (λk=> ?_) v hv;exact(w.same _).2 (z4 (m:=m) A k) i hi
 .refine key g (λk=>if k < n then G k else 0) hz (λk=> ?_) (λk=> ?_) v hv
  .split
   .exact s k (by assumption)
   .exact aJ.zero _
  .rw [hs _ (z4 (m:=m) A k)];unfold av;by_cases a:k < n
   .rw [if_pos a,jg a]
    .rw [if_pos a,if_pos a,if_pos rfl];grind
    .intro j f o;rw [if_pos a,if_pos f,if_neg (λh=>o h.symm)];grind
   .rw [if_neg a];exact(jD (λj _=>by rw [if_neg a];grind)).symm
open Go Go.Aev
structure Sy where
 n:Nat
 m:Nat
 A:Nat->Nat->Rat
 kd:Nat->Int
 to:Nat->Rat
structure bh where
 af:Nat->Nat
 c:Nat->Nat->Rat
 y:Nat->Rat
 z:Nat->Rat
def bh.val(t:bh)(v:Nat):Rat×Rat:=(t.y v,t.z v)
def Sy.up(S:Sy)(v:Nat):Rat×Rat:=(S.to (v - S.n),if S.kd (v - S.n)=2 then -1 else 0)
def bW(a b:Rat×Rat):Prop:=a.1 < b.1\/a.1=b.1/\a.2 < b.2
instance (a b:Rat×Rat):Decidable (bW a b):=by unfold bW;infer_instance
def Sy.eQ(S:Sy)(t:bh)(v:Nat):Prop:=S.n<=v/\(bW (S.up v) (t.val v)\/S.kd (v - S.n)=3/\bW (t.val v) (S.up v))
def Sy.sP(S:Sy)(t:bh)(v:Nat):Prop:=v < S.n\/bW (t.val v) (S.up v)
def Sy.sO(S:Sy)(t:bh)(v:Nat):Prop:=v < S.n\/S.kd (v - S.n)≠3\/bW (S.up v) (t.val v)
def Sy.fx(S:Sy)(v:Nat):Rat×Rat:=if v < S.n then(0,0) else S.up v
structure Sy.OK (S:Sy) (t:bh):Prop where
 wf:WF S.n S.m S.A t.af t.c
 hy:df S.n S.m S.A t.y
 hz:df S.n S.m S.A t.z
 fix:∀v,v < S.n+S.m->(∀i,i < S.m->t.af i≠v)->t.val v=S.fx v
def Sy.ai(S:Sy)(t:bh)(b:Nat):Rat:=if bW (S.up b) (t.val b) then -1 else 1
def Sy.Can(S:Sy)(t:bh)(w:Rat)(v:Nat):Prop:=(0 < w->S.sP t v)/\(w < 0->S.sO t v)
structure Sy.Step (S:Sy) (t t':bh) (i v:Nat):Prop where
 hi:i < S.m
 hv:v < S.n+S.m
 Ab:S.eQ t (t.af i)
 low:∀j,j < S.m->t.af j < t.af i->¬S.eQ t (t.af j)
 ne:t.c i v≠0
 can:S.Can t (S.ai t (t.af i) * t.c i v) v
 Ow:∀u,u < v->t.c i u≠0->¬S.Can t (S.ai t (t.af i) * t.c i u) u
 af:t'.af=fJ t.af i v
def bh.bG(t:bh)(m:Nat)(v:Nat):Prop:= ∃i,i < m/\t.af i=v
theorem A6{P:Nat->Prop}:∀(N:Nat),(∃v,P v)->(∀v,P v->v < N)->∃r,P r/\∀v,P v->v<=r
 | 0,⟨v,h⟩,hb=>absurd (hb v h) (by omega)
 | N+1,a,hb=>by
  by_cases h:P N
  .exact⟨N,h,λv hv=>by have:=hb v hv;omega⟩
  .exact A6 N a (λv hv=>by
    have:=hb v hv;by_cases e:v=N
    .subst e;exact absurd hv h
    .omega)
def Ps(p q:Rat):Prop:=0 < p\/p=0/\0<=q
theorem Ps.sum{f g:Nat->Rat}:∀{n:Nat},(∀i,i < n->Ps (f i) (g i))->Ps (sm n f) (sm n g)
 | 0,_=> .inr ⟨rfl,Uc⟩
 | n+1,h=>by
  have h1:=Ps.sum (n:=n) (λi hi=>h i (by omega));have a:=h n (by omega);unfold Ps at *
  simp only [sm];grind
theorem Ps.mul{a p q:Rat}(b: 0<=a)(h:Ps p q):Ps (a * p) (a * q):=by
 rcases Rat.le_iff_lt_or_eq.1 b with b | b
 .unfold Ps at *
  rcases h with h | ⟨h,c⟩
  .exact .inl (Rat.mul_pos b h)
  .exact .inr ⟨by rw [h,TV],Un (Wg b) c⟩
 .subst b;exact .inr ⟨by grind,by grind⟩
theorem Ps.OG{a p q:Rat}(d:a<=0)(h:Ps (-p) (-q)):Ps (a * p) (a * q):=by
 have:=Ps.mul (a:= -a) (by grind) h;have b: -a * -p=a * p:=by grind
 have c: -a * -q=a * q:=by grind
 rw [b,c] at this;exact this
theorem Ps.zero:Ps 0 0:= .inr ⟨rfl,Uc⟩
theorem IH{S:Sy}{t:bh}(ok:S.OK t){y y':Nat->Rat}(h:df S.n S.m S.A y)(d:df S.n S.m S.A y'){i:Nat}(hi:i < S.m):
  y (t.af i) - y' (t.af i)=sm (S.n+S.m) (λk=>t.c i k * (y k - y' k)):=by
 have a:=(ok.wf.same y).2 h i hi;have b:=(ok.wf.same y').2 d i hi;rw [a,b];have e:(λk=>t.c i k * (y k - y' k))= (λk=>1 * (t.c i k * y k)+ (-1) * (t.c i k * y' k)):=by funext k;grind
 rw [e,ik];grind
structure kB (m:Nat) (s:Nat->bh) (l e:Nat->Nat) (a b:Nat):Prop where
 aB:∀t,a<=t->t < b->∀v,(s (t+1)).bG m v↔((s t).bG m v/\v≠l t)\/v=e t
 lb:∀t,a<=t->t < b->(s t).bG m (l t)
 eb:∀t,a<=t->t < b->¬(s t).bG m (e t)
 back:∀v,(s a).bG m v↔(s b).bG m v
theorem kB.Bu{m:Nat}{s:Nat->bh}{l e:Nat->Nat}{a b:Nat}(R:kB m s l e a b){v:Nat}(h:∀t,a<=t->t < b->e t≠v){x:Nat}(g:a<=x):∀(d:Nat),x+d<=b->¬(s x).bG m v->¬(s (x+d)).bG m v
 | 0,_,c=>c
 | d+1,i,c=>by
  have:=R.Bu h g d (by omega) c;intro h1;rcases(R.aB (x+d) (by omega) (by omega) v).1 h1 with⟨f,_⟩ | f
  .exact this f
  .exact h (x+d) (by omega) (by omega) f.symm
theorem kB.tW{m:Nat}{s:Nat->bh}{l e:Nat->Nat}{a b:Nat}(R:kB m s l e a b){v:Nat}(h:∀t,a<=t->t < b->l t≠v){x:Nat}(f:a<=x):∀(d:Nat),x+d<=b->(s x).bG m v->(s (x+d)).bG m v
 | 0,_,c=>c
 | d+1,g,c=>by have:=R.tW h f d (by omega) c;exact(R.aB (x+d) (by omega) (by omega) v).2 (.inl ⟨this,λh1=>h (x+d) (by omega) (by omega) h1.symm⟩)
theorem kB.enters{m:Nat}{s:Nat->bh}{l e:Nat->Nat}{a b:Nat}(R:kB m s l e a b){p:Nat}(h1:a<=p)(d:p < b):∃q,a<=q/\q < b/\e q=l p:=by
 refine UW λk=> ?_;have c:∀t,a<=t->t < b->e t≠l p:=λt j hb h=>k ⟨t,j,hb,h⟩;have n:¬(s (p+1)).bG m (l p):=λh=>by
  rcases(R.aB p h1 d _).1 h with⟨_,f⟩ | f
  .exact f rfl
  .exact c p h1 d f.symm
 have g:=R.Bu c (x:=p+1) (by omega) (b - (p+1)) (by omega) n;rw [show p+1+ (b - (p+1))=b by omega] at g;have o:¬(s a).bG m (l p):=λh=>g ((R.back _).1 h);have i:=R.Bu c (x:=a) (by omega) (p - a) (by omega) o;rw [show a+ (p - a)=p by omega] at i;exact i (R.lb p h1 d)
theorem kB.leaves{m:Nat}{s:Nat->bh}{l e:Nat->Nat}{a b:Nat}(R:kB m s l e a b){p:Nat}(h1:a<=p)(d:p < b):∃q,a<=q/\q < b/\l q=e p:=by refine UW λj=> ?_;have c:∀t,a<=t->t < b->l t≠e p:=λt i hb h=>j ⟨t,i,hb,h⟩;have k:(s (p+1)).bG m (e p):=(R.aB p h1 d _).2 (.inr rfl);have f:=R.tW c (x:=p+1) (by omega) (b - (p+1)) (by omega) k;rw [show p+1+ (b - (p+1))=b by omega] at f;have g:=R.tW c (x:=a) (by omega) (p - a) (by omega) ((R.back _).2 f);rw [show a+ (p - a)=p by omega] at g;exact R.eb p h1 d g
theorem kB.still{m:Nat}{s:Nat->bh}{l e:Nat->Nat}{a b:Nat}(R:kB m s l e a b){v:Nat}(h:∀t,a<=t->t < b->l t≠v){p q:Nat}
  (f:a<=p) (g:p<=b) (j:a<=q) (i:q<=b) (hb:(s p).bG m v):(s q).bG m v:=by
 have c:=R.tW h f (b - p) (by omega) hb;rw [show p+ (b - p)=b by omega] at c;have d:=R.tW h (x:=a) (by omega) (q - a) (by omega) ((R.back _).2 c);rw [show a+ (q - a)=q by omega] at d;exact d
theorem Ih{S:Sy}{t c:bh}(ok:S.OK t){i v:Nat}(hi:i < S.m)(d:¬t.bG S.m v)(h:c.af=fJ t.af i v)(u:Nat):c.bG S.m u↔(t.bG S.m u/\u≠t.af i)\/u=v:=by
 unfold bh.bG;rw [h];unfold fJ;constructor
 .rintro⟨j,b,e⟩;split at e
  .exact .inr e.symm
  .rename_i a;exact .inl ⟨⟨j,b,e⟩,λh1=>a (ok.wf.inj j i b hi (by rw [e,h1]))⟩
 .rintro(⟨⟨j,b,e⟩,a⟩ | e)
  .exact⟨j,b,by rw [if_neg (λh1=>a (by rw [<-e,h1])),e]⟩
  .exact⟨i,hi,by rw [if_pos rfl,e]⟩
theorem DU{S:Sy}{t:bh}(ok:S.OK t){v:Nat}(h:t.bG S.m v):v < S.n+S.m:=by obtain⟨i,hi,rfl⟩:=h;exact ok.wf.hb i hi
theorem OK.pO{S:Sy}{t:bh}(ok:S.OK t){v:Nat}(hv:v < S.n+S.m)(h:¬t.bG S.m v):t.val v=S.fx v:=
 ok.fix v hv (λi hi e=>h ⟨i,hi,e⟩)
theorem pj(a:Rat×Rat):¬bW a a:=by unfold bW;grind
theorem KI{S:Sy}{s:Nat->bh}{ii ee:Nat->Nat}{a b:Nat}(hab:a < b)(ok:∀t,S.OK (s t))
  (st:∀t,a<=t->t < b->S.Step (s t) (s (t+1)) (ii t) (ee t)) (back:∀v,(s a).bG S.m v↔(s b).bG S.m v):False:=by
 have C:∀t,a<=t->t < b->¬(s t).bG S.m (ee t):=by rintro t h1 d ⟨j,J,e⟩;have k:=st t h1 d;exact k.ne (by rw [<-e];exact(ok t).wf.z _ _ k.hi J)
 have R:kB S.m s (λt=>(s t).af (ii t)) ee a b:=
  ⟨λt h1 d v=>Ih (ok t) (st t h1 d).hi (C t h1 d) (st t h1 d).af v,λt h1 d=>⟨ii t,(st t h1 d).hi,rfl⟩,C,back⟩
 obtain⟨r,⟨p,L,T,M⟩,K⟩:=A6 (P:=λv=>∃t,a<=t/\t < b/\(s t).af (ii t)=v) (S.n+S.m) ⟨_,a,Tl _,hab,rfl⟩
  (by rintro v ⟨t,h1,d,rfl⟩;exact(ok t).wf.hb _ (st t h1 d).hi)
 obtain⟨q,g,w,E⟩:=R.enters L T;simp only [M] at E;have kind:∀t,a<=t->t < b->S.n<=ee t/\S.kd (ee t - S.n)≠3/\S.ai (s t) ((s t).af (ii t)) * (s t).c (ii t) (ee t) < 0:=by
  intro t h1 d;have k:=st t h1 d;obtain⟨q',Z,hq2',hl⟩:=R.leaves h1 d;have hn:S.n<=ee t:=by rw [<-hl];exact(st q' Z hq2').Ab.1
  have hv:=OK.pO (ok t) k.hv (C t h1 d);unfold Sy.fx at hv;rw [if_neg (by omega)] at hv;have hc:=k.can;have hwne:S.ai (s t) ((s t).af (ii t))≠0:=by unfold Sy.ai;split <;> grind
  have hpne:S.ai (s t) ((s t).af (ii t)) * (s t).c (ii t) (ee t)≠0:=λo=>by
   rcases V6.1 o with h | h
   .exact hwne h
   .exact k.ne h
  have hneg:¬0 < S.ai (s t) ((s t).af (ii t)) * (s t).c (ii t) (ee t):=λo=>by
   rcases hc.1 o with h | h
   .omega
   .rw [hv] at h;exact pj _ h
  have u:S.ai (s t) ((s t).af (ii t)) * (s t).c (ii t) (ee t) < 0:=by grind
  refine⟨hn, ?_,u⟩;rcases hc.2 u with h | h | h
  .omega
  .exact h
  .rw [hv] at h;exact absurd h (pj _)
 have B:=st q g w;have kp:=st p L T;obtain⟨t',h1',h2',hs⟩:=R.enters g w;obtain⟨sn,s3,_⟩:=kind t' h1' h2';rw [hs] at sn s3;have sle:(s q).af (ii q)<=r:=K _ ⟨q,g,w,rfl⟩;have slt:(s q).af (ii q) < r:=by
  rcases Nat.lt_or_eq_of_le sle with h | h
  .exact h
  .exact absurd ⟨ii q,B.hi,by rw [h,E]⟩ (C q g w)
 have Q:bW (S.up ((s q).af (ii q))) ((s q).val ((s q).af (ii q))):=by
  rcases B.Ab.2 with h | ⟨h,_⟩
  .exact h
  .exact absurd h s3
 have O:S.ai (s q) ((s q).af (ii q))= -1:=by unfold Sy.ai;rw [if_pos Q]
 have H:∀v,v < r->v < S.n+S.m->S.n<=v->¬S.eQ (s p) v:=by
  intro v hvr hvN hvn hb;by_cases f:(s p).bG S.m v
  .obtain⟨j,J,e⟩:=f;exact kp.low j J (by rw [e,M];exact hvr) (by rw [e];exact hb)
  .have:=OK.pO (ok p) hvN f;unfold Sy.fx at this;rw [if_neg (by omega)] at this;rcases hb.2 with h | ⟨_,h⟩
   .rw [this] at h;exact pj _ h
   .rw [this] at h;exact pj _ h
 obtain⟨rn,r3,V⟩:=kind q g w;rw [E] at rn r3 V;have dy:=IH (ok q) (ok p).hy (ok q).hy B.hi;have dz:=IH (ok q) (ok p).hz (ok q).hz B.hi;have N:Ps (sm (S.n+S.m) (λk=>(s q).c (ii q) k * ((s p).y k - (s q).y k))) (sm (S.n+S.m) (λk=>(s q).c (ii q) k * ((s p).z k - (s q).z k))):=by
  refine Ps.sum (λk X=> ?_);by_cases f:(s q).bG S.m k
  .obtain⟨j,J,e⟩:=f;have o:(s q).c (ii q) k=0:=by rw [<-e];exact(ok q).wf.z _ _ B.hi J
   rw [o,TI,TI];exact Ps.zero
  .have x:=OK.pO (ok q) X f;by_cases hkr:k=r
   .subst hkr;unfold Sy.fx at x;rw [if_neg (by omega)] at x;have U:=kp.Ab;rw [M] at U;rcases U.2 with h | ⟨h,_⟩
    .rw [O] at V;refine Ps.mul (by grind) ?_;rw [<-x] at h;unfold bW bh.val at h;unfold Ps;simp only at h;grind
    .exact absurd h r3
   .by_cases u:k < r
    .by_cases o:(s q).c (ii q) k=0
     .rw [o,TI,TI];exact Ps.zero
     .have A:=B.Ow k (by rw [E];exact u) o;rw [O] at A;have D:S.n<=k:=by
       refine UN λh=>A ⟨λ_=> .inl h,λ_=> .inl h⟩
      unfold Sy.fx at x;rw [if_neg (by omega)] at x;have I:=H k u X D;by_cases Y: 0 < (s q).c (ii q) k
      .have W:S.kd (k - S.n)=3:=UW λW=>A ⟨λh=>by grind,λ_=> .inr (.inl W)⟩;have i:(s p).val k=S.up k:=by
        have l:¬bW (S.up k) ((s p).val k):=λh=>I ⟨D, .inl h⟩;have a2:¬bW ((s p).val k) (S.up k):=λh=>I ⟨D, .inr ⟨W,h⟩⟩;unfold bW at l a2;refine V9 ?_ ?_ <;> grind
       rw [<-x] at i;unfold bh.val at i;have F:=congrArg Prod.fst i;have G:=congrArg Prod.snd i;simp only at F G;rw [F,G];refine Ps.mul (Wg Y) ?_;exact .inr ⟨by grind,by grind⟩
      .refine Ps.OG (by grind) ?_;have l:¬bW (S.up k) ((s p).val k):=λh=>I ⟨D, .inl h⟩;rw [<-x] at l;unfold bW bh.val at l;unfold Ps;simp only at l;grind
    .have hnl:∀t,a<=t->t < b->(s t).af (ii t)≠k:=λt h1 d e=>by
      have:=K k ⟨t,h1,d,e⟩;omega
     have hbp:¬(s p).bG S.m k:=λh=>f (R.still hnl L (by omega) g (by omega) h);have i:=OK.pO (ok p) X hbp;rw [<-x] at i;unfold bh.val at i;have F:=congrArg Prod.fst i;have G:=congrArg Prod.snd i;simp only at F G;rw [F,G];exact .inr ⟨by grind,by grind⟩
 rw [<-dy,<-dz] at N;have hsN:=(ok q).wf.hb _ B.hi;have I:=H _ slt hsN sn;have l:¬bW (S.up ((s q).af (ii q))) ((s p).val ((s q).af (ii q))):=λh=>I ⟨sn, .inl h⟩;unfold bW bh.val at Q l;unfold Ps at N;simp only at Q l;grind
open Go Go.Aev
structure Sy.sT (S:Sy) (G:Nat->Rat) (t:bh) (g:Nat->Rat):Prop where
 z:∀j,j < S.m->g (t.af j)=0
 same:∀y,df S.n S.m S.A y->sm (S.n+S.m) (λk=>g k * y k)=sm S.n (λk=>G k * y k)
def Sy.tf(S:Sy)(t:bh)(v:Nat):Prop:=v < S.n\/t.y v < S.to (v - S.n)
def Sy.sQ(S:Sy)(t:bh)(v:Nat):Prop:=v < S.n\/S.kd (v - S.n)≠3\/S.to (v - S.n) < t.y v
def Sy.sN(S:Sy)(t:bh)(w:Rat)(v:Nat):Prop:=(0 < w->S.tf t v)/\(w < 0->S.sQ t v)
def Sy.n6(S:Sy)(t:bh):Prop:= ∀v,S.n<=v->v < S.n+S.m->t.y v<=S.to (v - S.n)/\(S.kd (v - S.n)=3->t.y v=S.to (v - S.n))
def cN(q:Rat):Rat:=if 0 < q then 1 else -1
noncomputable def bh.dir(t:bh)(m v:Nat)(w:Rat):Nat->Rat:=λk=>open Classical in if k=v then w else if h:∃j,j < m/\t.af j=k then t.c h.choose v * w else 0
theorem oz(t:bh)(m v:Nat)(w:Rat):t.dir m v w v=w:=by unfold bh.dir;rw [if_pos rfl]
theorem ow{S:Sy}{t:bh}(ok:S.OK t){v:Nat}(w:Rat){j:Nat}(b:j < S.m)(hv:¬t.bG S.m v):t.dir S.m v w (t.af j)=t.c j v * w:=by unfold bh.dir;have d:t.af j≠v:=λe=>hv ⟨j,b,e⟩;have a:∃k,k < S.m/\t.af k=t.af j:=⟨j,b,rfl⟩;rw [if_neg d,dif_pos a];have hs:=a.choose_spec;have:a.choose=j:=ok.wf.inj _ _ hs.1 b hs.2;rw [this]
theorem m8{m:Nat}(t:bh){v:Nat}(w:Rat){k:Nat}(b:k≠v)(c:¬t.bG m k):t.dir m v w k=0:=by unfold bh.dir;have a:¬∃j,j < m/\t.af j=k:=c;rw [if_neg b,dif_neg a]
theorem EF{S:Sy}{t:bh}(ok:S.OK t){v:Nat}(w:Rat)(hv:¬t.bG S.m v)(c:v < S.n+S.m):df S.n S.m S.A (t.dir S.m v w):=by
 refine(ok.wf.same _).1 (λj a=> ?_);rw [ow ok w a hv,jg c,oz];intro k d b;by_cases hb:t.bG S.m k
 .obtain⟨i,hi,e⟩:=hb;rw [<-e,ok.wf.z j i a hi,TI]
 .rw [m8 t w b hb,TV]
theorem Bl{S:Sy}{G:Nat->Rat}{t:bh}{g:Nat->Rat}(c:S.sT G t g){v:Nat}(w:Rat)(b:v < S.n+S.m):
  sm (S.n+S.m) (λk=>g k * t.dir S.m v w k)=g v * w:=by
 rw [jg b,oz];intro k d a;by_cases hb:t.bG S.m k
 .obtain⟨i,hi,e⟩:=hb;rw [<-e,c.z i hi,TI]
 .rw [m8 t w a hb,TV]
structure Sy.kD (S:Sy) (t:bh) (g:Nat->Rat) (t':bh) (i v:Nat):Prop where
 hi:i < S.m
 hv:v < S.n+S.m
 ne:g v≠0
 can:S.sN t (g v) v
 low:∀u,u < v->g u≠0->¬S.sN t (g u) u
 bn:S.n<=t.af i
 bd: 0 < t.c i v * cN (g v)\/t.c i v * cN (g v) < 0/\S.kd (t.af i - S.n)=3
 gP:∀j,j < S.m->S.n<=t.af j->(0 < t.c j v * cN (g v)\/t.c j v * cN (g v) < 0/\S.kd (t.af j - S.n)=3)->
  (S.to (t.af i - S.n) - t.y (t.af i)) / (t.c i v * cN (g v))<=(S.to (t.af j - S.n) - t.y (t.af j)) / (t.c j v * cN (g v))/\
  ((S.to (t.af i - S.n) - t.y (t.af i)) / (t.c i v * cN (g v))= (S.to (t.af j - S.n) - t.y (t.af j)) / (t.c j v * cN (g v))->t.af i<=t.af j)
 af:t'.af=fJ t.af i v
 y':∀k,k < S.n+S.m->t'.y k=t.y k+ (S.to (t.af i - S.n) - t.y (t.af i)) / (t.c i v * cN (g v)) * t.dir S.m v (cN (g v)) k
theorem CI{q:Rat}(h:q≠0): 0 < q * cN q:=by unfold cN;split <;> grind
theorem kD.nb{S:Sy}{G:Nat->Rat}{t c:bh}{g:Nat->Rat}{i v:Nat}(a:S.sT G t g)(k:S.kD t g c i v):¬t.bG S.m v:=by rintro⟨j,b,e⟩;exact k.ne (by rw [<-e];exact a.z j b)
theorem Iw{a d:Rat}(h: 0 < d/\0<=a\/a=0): 0<=a / d:=by
 rcases h with⟨h1,b⟩ | h
 .rw [TR];exact Un b (Wg (Rat.inv_pos.2 h1))
 .rw [h,TR,TI];exact Uc
theorem kD.nn{S:Sy}{t b:bh}{g:Nat->Rat}{i v:Nat}(ok:S.OK t)(fe:S.n6 t)(k:S.kD t g b i v):
  0<=(S.to (t.af i - S.n) - t.y (t.af i)) / (t.c i v * cN (g v)):=by
 obtain⟨h1,a⟩:=fe _ k.bn (ok.wf.hb i k.hi);refine Iw ?_;rcases k.bd with h | ⟨_,h⟩
 .exact .inl ⟨h,by grind⟩
 .exact .inr (by rw [a h];grind)
theorem SC{S:Sy}{t c:bh}(ok:S.OK t)(f:S.OK c)(h:∀v,t.bG S.m v↔c.bG S.m v){v:Nat}(hv:v < S.n+S.m):t.y v=c.y v:=by
 have l:∀u,u < S.n+S.m->¬t.bG S.m u->t.y u=c.y u:=λu o hb=>by have a:=OK.pO ok o hb;have b:=OK.pO f o (λq=>hb ((h u).2 q));rw [<-b] at a;exact congrArg Prod.fst a
 by_cases hb:t.bG S.m v
 .obtain⟨j,g,e⟩:=hb;have a:=(ok.wf.same _).2 ok.hy j g;have b:=(ok.wf.same _).2 f.hy j g;rw [<-e,a,b];refine cf (λk r=> ?_);by_cases d:t.bG S.m k
  .obtain⟨i,hi,p⟩:=d;rw [<-p,ok.wf.z j i g hi,TI,TI]
  .rw [l k r d]
 .exact l v hv hb
theorem KJ{S:Sy}{G:Nat->Rat}{s:Nat->bh}{g:Nat->Nat->Rat}{ii ee:Nat->Nat}{a b:Nat}(hab:a < b)(ok:∀t,S.OK (s t))(fe:∀t,S.n6 (s t))
  (I:∀t,S.sT G (s t) (g t))
  (st:∀t,a<=t->t < b->S.kD (s t) (g t) (s (t+1)) (ii t) (ee t)) (back:∀v,(s a).bG S.m v↔(s b).bG S.m v):False:=by
 have F:∀t,a<=t->t < b->¬(s t).bG S.m (ee t):=λt h1 i=>kD.nb (I t) (st t h1 i);have R:kB S.m s (λt=>(s t).af (ii t)) ee a b:=
  ⟨λt h1 i v=>Ih (ok t) (st t h1 i).hi (F t h1 i) (st t h1 i).af v,λt h1 i=>⟨ii t,(st t h1 i).hi,rfl⟩,F,back⟩
 have step:∀t,a<=t->t < b->sm (S.n+S.m) (λk=>g t k * (s (t+1)).y k)=
   sm (S.n+S.m) (λk=>g t k * (s t).y k)+ (S.to ((s t).af (ii t) - S.n) - (s t).y ((s t).af (ii t))) / ((s t).c (ii t) (ee t) * cN (g t (ee t))) * (g t (ee t) * cN (g t (ee t))):=by
  intro t h1 i;have k:=st t h1 i;rw [<-Bl (I t) (cN (g t (ee t))) k.hv,<-kW,<-uP];refine cf (λu hu=> ?_);rw [k.y' u hu];grind
 have Z:∀t,a<=t->t < b->sm S.n (λk=>G k * (s (t+1)).y k)=
   sm S.n (λk=>G k * (s t).y k)+ (S.to ((s t).af (ii t) - S.n) - (s t).y ((s t).af (ii t))) / ((s t).c (ii t) (ee t) * cN (g t (ee t))) * (g t (ee t) * cN (g t (ee t))):=by
  intro t h1 i;have:=step t h1 i;rw [(I t).same _ (ok (t+1)).hy,(I t).same _ (ok t).hy] at this;exact this
 have inc:∀t,a<=t->t < b->sm S.n (λk=>G k * (s t).y k)<=sm S.n (λk=>G k * (s (t+1)).y k):=by intro t h1 i;have h:=Z t h1 i;have o:=kD.nn (ok t) (fe t) (st t h1 i);have O:=Un o (Wg (CI (st t h1 i).ne));grind
 have mono:∀d x,a<=x->x+d<=b->sm S.n (λk=>G k * (s x).y k)<=sm S.n (λk=>G k * (s (x+d)).y k):=by
  intro d;induction d with
  | zero=>intro x _ _;exact Uc
  | succ d W=>intro x h1 i;exact Rat.le_trans (W x h1 (by omega)) (inc (x+d) (by omega) (by omega))
 have ends:sm S.n (λk=>G k * (s a).y k)=sm S.n (λk=>G k * (s b).y k):=
  cf (λk D=>by rw [SC (ok a) (ok b) back (by omega)])
 have flat:∀t,a<=t->t < b->(S.to ((s t).af (ii t) - S.n) - (s t).y ((s t).af (ii t))) / ((s t).c (ii t) (ee t) * cN (g t (ee t)))=0:=by
  intro t h1 i;have m1:=mono (t - a) a (Tl _) (by omega);have m2:=mono (b - (t+1)) (t+1) (by omega) (by omega);rw [show a+ (t - a)=t by omega] at m1;rw [show t+1+ (b - (t+1))=b by omega] at m2;have h:=Z t h1 i;have o:=kD.nn (ok t) (fe t) (st t h1 i);have O:=CI (st t h1 i).ne;have h5:=Un o (Wg O);have h6:(S.to ((s t).af (ii t) - S.n) - (s t).y ((s t).af (ii t))) / ((s t).c (ii t) (ee t) * cN (g t (ee t))) * (g t (ee t) * cN (g t (ee t)))=0:=by grind
  rcases V6.1 h6 with h7 | h7
  .exact h7
  .rw [h7] at O;exact absurd O (by grind)
 have M:∀d x,a<=x->x+d<=b->∀k,k < S.n+S.m->(s (x+d)).y k= (s x).y k:=by
  intro d;induction d with
  | zero=>intro x _ _ k _;rfl
  | succ d W=>intro x h1 i k D;have o:=(st (x+d) (by omega) (by omega)).y' k D;rw [flat (x+d) (by omega) (by omega),TI,Wf] at o;rw [<-W x h1 (by omega) k D];exact o
 have yall:∀p q,a<=p->p<=b->a<=q->q<=b->∀k,k < S.n+S.m->(s p).y k= (s q).y k:=by intro p q h1 i o O k D;have e1:=M (p - a) a (Tl _) (by omega) k D;have e2:=M (q - a) a (Tl _) (by omega) k D;rw [show a+ (p - a)=p by omega] at e1;rw [show a+ (q - a)=q by omega] at e2;rw [e1,e2]
 obtain⟨r,⟨p,w,B,J⟩,T⟩:=A6 (P:=λv=>∃t,a<=t/\t < b/\(s t).af (ii t)=v) (S.n+S.m) ⟨_,a,Tl _,hab,rfl⟩
  (by rintro v ⟨t,h1,i,rfl⟩;exact(ok t).wf.hb _ (st t h1 i).hi)
 obtain⟨q,U,hq2,L⟩:=R.enters w B;simp only [J] at L;have X:=st q U hq2;have E:=st p w B;have N:∀t k,k < S.n+S.m->S.n<=k->¬(s t).bG S.m k->(s t).y k=S.to (k - S.n):=by intro t k h1 i o;have:=OK.pO (ok t) h1 o;unfold Sy.fx at this;rw [if_neg (by omega)] at this;exact congrArg Prod.fst this
 have ele:ee p<=r:=by obtain⟨t',h1',h2',hl⟩:=R.leaves w B;exact T _ ⟨t',h1',h2',hl⟩
 have hrn:S.n<=r:=by rw [<-J];exact E.bn
 have hpos: 0 < sm (S.n+S.m) (λk=>g q k * (s p).dir S.m (ee p) (cN (g p (ee p))) k):=by have l:=EF (ok p) (cN (g p (ee p))) (F p w B) E.hv;rw [(I q).same _ l,<-(I p).same _ l,Bl (I p) _ E.hv];exact CI E.ne
 have hneg:∀k,k < S.n+S.m->g q k * (s p).dir S.m (ee p) (cN (g p (ee p))) k<=0:=by
  intro k D;by_cases K:(s q).bG S.m k
  .obtain⟨j,H,e⟩:=K;rw [<-e,(I q).z j H,TI];exact Uc
  .by_cases hkr:k=r
   .subst hkr;have hy:=N q k D hrn K;have hg:g q k < 0:=by
     have h1:=X.ne;have i:=X.can.1;rw [L] at h1 i;have:¬0 < g q k:=λh=>by
      rcases i h with h | h
      .omega
      .rw [hy] at h;grind
     grind
    have o:S.kd (k - S.n)≠3:=by
     have i:=X.can.2;rw [L] at i;rcases i hg with h | h | h
     .omega
     .exact h
     .rw [hy] at h;exact absurd h (by grind)
    have l: 0 < (s p).dir S.m (ee p) (cN (g p (ee p))) k:=by
     have hb:=E.bd;rw [<-J,ow (ok p) _ E.hi (F p w B)];rcases hb with h | ⟨_,h⟩
     .exact h
     .rw [J] at h;exact absurd h o
    have:=Rat.mul_pos (a:= -(g q k)) (b:=(s p).dir S.m (ee p) (cN (g p (ee p))) k) (by grind) l;grind
   .by_cases hlt:k < r
    .by_cases h0:g q k=0
     .rw [h0,TI];exact Uc
     .have Q:=X.low k (by rw [L];exact hlt) h0;have Y:S.n<=k:=UN λh=>Q ⟨λ_=> .inl h,λ_=> .inl h⟩;have hyq:=N q k D Y K;have V:(s p).y k=S.to (k - S.n):=by rw [yall p q w (by omega) U (by omega) k D];exact hyq
      have block:∀j,j < S.m->(s p).af j=k->¬(0 < (s p).c j (ee p) * cN (g p (ee p))\/(s p).c j (ee p) * cN (g p (ee p)) < 0/\S.kd (k - S.n)=3):=by
       intro j H e hb;have h1:=(E.gP j H (by rw [e];exact Y) (by rw [e];exact hb)).2 (by
        rw [flat p w B,e,V,Rat.sub_self,TR,TI])
       rw [J,e] at h1;omega
      by_cases hgp: 0 < g q k
      .have l:(s p).dir S.m (ee p) (cN (g p (ee p))) k<=0:=by
        refine Wk.1 λl=> ?_;by_cases A:k=ee p
        .rw [A,oz] at l;have h1: 0 < g p (ee p):=by unfold cN at l;split at l;assumption;exact absurd l (by grind)
         rcases E.can.1 h1 with h | h
         .omega
         .rw [<-A,V] at h;grind
        .by_cases C:(s p).bG S.m k
         .obtain⟨j,H,e⟩:=C;rw [<-e,ow (ok p) _ H (F p w B)] at l;exact block j H e (.inl l)
         .rw [m8 _ _ A C] at l;grind
       have:=Un (a:=g q k) (b:= -((s p).dir S.m (ee p) (cN (g p (ee p))) k)) (by grind) (by grind);grind
      .have hgn:g q k < 0:=by grind
       have o:S.kd (k - S.n)=3:=UW λo=>Q ⟨λh=>by grind,λ_=> .inr (.inl o)⟩;have l: 0<=(s p).dir S.m (ee p) (cN (g p (ee p))) k:=by
        refine Wk.1 λl=> ?_;by_cases A:k=ee p
        .rw [A,oz] at l;have h1:g p (ee p) < 0:=by have:=E.ne;unfold cN at l;split at l <;> grind
         rcases E.can.2 h1 with h | h | h
         .omega
         .rw [<-A] at h;exact h o
         .rw [<-A,V] at h;grind
        .by_cases C:(s p).bG S.m k
         .obtain⟨j,H,e⟩:=C;rw [<-e,ow (ok p) _ H (F p w B)] at l;exact block j H e (.inr ⟨l,o⟩)
         .rw [m8 _ _ A C] at l;grind
       have:=Un (a:= -(g q k)) (b:=(s p).dir S.m (ee p) (cN (g p (ee p))) k) (by grind) l;grind
    .have hnl:∀t,a<=t->t < b->(s t).af (ii t)≠k:=λt h1 i e=>by
      have:=T k ⟨t,h1,i,e⟩;omega
     have C:¬(s p).bG S.m k:=λh=>K (R.still hnl w (by omega) U (by omega) h);rw [m8 _ _ (by omega) C,TV];exact Uc
 have hle:∀n (f:Nat->Rat),(∀k,k < n->f k<=0)->sm n f<=0:=by
  intro n f;induction n with
  | zero=>intro _;exact Uc
  | succ n W=>intro h;rw [sm];have:=W (λk D=>h k (by omega));have:=h n (by omega);grind
 have:=hle _ _ hneg;grind
open Go Go.Aev
theorem B8:∀(K T:Nat) (f:Nat->Nat),(∀t,t < T->f t < K)->(∀s t,s < t->t < T->f s≠f t)->T<=K
 | 0,T,f,h,_=>by refine UN λi=> ?_;have:=h 0 i;omega
 | K+1,T,f,h,hi=>by
  by_cases b:∃t,t < T/\f t=K
  .obtain⟨c,g,e0⟩:=b;have:=B8 K (T - 1) (λt=>if t < c then f t else f (t+1)) (λt a=>by
    split
    .have h1:=h t (by omega);have d:=hi t c (by omega) g;omega
    .have h1:=h (t+1) (by omega);have d:=hi c (t+1) (by omega) (by omega);omega) (λs t hs a=>by
    split <;> split
    .exact hi s t hs (by omega)
    .exact hi s (t+1) (by omega) (by omega)
    .omega
    .exact hi (s+1) (t+1) (by omega) (by omega))
   omega
  .have:=B8 K T f (λt a=>by
    have h1:=h t a;have d:f t≠K:=λe=>b ⟨t,a,e⟩;omega) hi
   omega
def js(N:Nat)(nb:Nat->Nat):Nat->Nat
 | 0=>0
 | r+1=>js N nb r * N+nb r
theorem Ef{N:Nat}{nb:Nat->Nat}:∀{n:Nat},(∀r,r < n->nb r < N)->js N nb n < N ^ n
 | 0,_=>by simp [js]
 | n+1,h=>by have h1:=Ef (n:=n) (λr hr=>h r (by omega));have b:=h n (by omega);rw [js,Nat.pow_succ];have a:(js N nb n+1) * N<=N ^ n * N:=TK _ h1;rw [Vi] at a;omega
theorem Ee{N:Nat}{nb c:Nat->Nat}:∀{n:Nat},(∀r,r < n->nb r < N)->(∀r,r < n->c r < N)->js N nb n=js N c n->∀r,r < n->nb r=c r
 | 0,_,_,_=>λr hr=>by omega
 | n+1,h,d,e=>by
  rw [js,js] at e;have a:=h n (by omega);have b:=d n (by omega);have hm:(js N nb n * N+nb n) % N= (js N c n * N+c n) % N:=by rw [e]
  rw [Xd,Xd,Vd a,Vd b] at hm;have i: 0 < N:=by omega
  have g:js N nb n=js N c n:=Nat.eq_of_mul_eq_mul_right i (by omega);intro r hr;by_cases f:r=n
  .subst f;exact hm
  .exact Ee (λr hr=>h r (by omega)) (λr hr=>d r (by omega)) g r (by omega)
theorem Es{S:Sy}{s:Nat->bh}{T:Nat}(ok:∀t,S.OK (s t))(k:∀a b,a < b->b < T->¬∀v,(s a).bG S.m v↔(s b).bG S.m v):T<=(S.n+S.m) ^ S.n:=by
 let nb:Nat->Nat->Nat:=λt=>(ok t).wf.nb.choose;have d:∀t,_:=λt=>(ok t).wf.nb.choose_spec;refine B8 _ T (λt=>js (S.n+S.m) (nb t) S.n) (λt _=>Ef (d t).1) (λa b f hb e=>k a b f hb (λv=> ?_));have g:=Ee (d a).1 (d b).1 e;have key:∀t v,v < S.n+S.m->((s t).bG S.m v↔¬∃r,r < S.n/\nb t r=v):=by
  intro t v hv;constructor
  .rintro⟨i,hi,c⟩ ⟨r,hr,j⟩;exact(d t).2.2.1 r i hr hi (by show nb t r=_;rw [j,c])
  .intro h;rcases(d t).2.2.2.1 v hv with h1 | ⟨i,hi,c⟩
   .exact absurd h1 h
   .exact⟨i,hi,c⟩
 by_cases hv:v < S.n+S.m
 .rw [key a v hv,key b v hv];refine not_congr ?_;constructor
  .rintro⟨r,hr,c⟩;exact⟨r,hr,by rw [<-c];exact(g r hr).symm⟩
  .rintro⟨r,hr,c⟩;exact⟨r,hr,by rw [<-c];exact g r hr⟩
 .exact⟨λh=>absurd (DU (ok a) h) hv,λh=>absurd (DU (ok b) h) hv⟩
end Go.Aev.Tb
namespace Go.Aev.Wd.Lg
open Go Go.Aev Go.Aev.Gen Go.Aev.Wd Go.Aev.Tb
def aI(n:Nat)(rows:List R):Sy:=⟨n,rows.length,λi k=>(((aS rows i).of.getD k 0:Int):Rat),λi=>(aS rows i).kd,λi=>((aS rows i).tv:Rat)⟩
def TL.st(t:TL):bh:=⟨λi=>t.af.getD i 0,λi k=>nv (ao (au t.aj i) k),λv=>nv (aG t.val v).1,λv=>nv (aG t.val v).2⟩
structure ef (n:Nat) (rows:List R):Prop where
 sz:Sz n rows
 of:∀r∈rows,∀c∈r.of, -1000000<=c/\c<=1000000
 len:∀r∈rows,r.of.length<=n
 kd:∀r∈rows,r.kd=1\/r.kd=2\/r.kd=3
def vv(a:Vl):Rat×Rat:=(nv a.1,nv a.2)
theorem tA(p q:Rat):cq p q < 0↔p < q:=by
 unfold cq;by_cases h:p < q
 .rw [if_pos h];exact⟨λ_=>h,λ_=>by decide⟩
 .rw [if_neg h];by_cases b:p=q
  .rw [if_pos b];exact⟨λa=>absurd a (by decide),λa=>absurd a h⟩
  .rw [if_neg b];exact⟨λa=>absurd a (by decide),λa=>absurd a h⟩
theorem jM(p q:Rat):cq p q=0↔p=q:=by
 unfold cq;by_cases h:p < q
 .rw [if_pos h];exact⟨λa=>absurd a (by decide),λa=>by rw [a] at h;exact absurd h (by grind)⟩
 .rw [if_neg h];by_cases b:p=q
  .rw [if_pos b];exact⟨λ_=>b,λ_=>rfl⟩
  .rw [if_neg b];exact⟨λa=>absurd a (by decide),λa=>absurd a b⟩
theorem Ap(p q:Rat):cq p q > 0↔q < p:=by
 have h1:=tA p q;have d:=jM p q;constructor
 .intro h;have a:¬p < q:=λc=>by have:=h1.2 c;omega
  have b:¬p=q:=λc=>by have:=d.2 c;omega
  grind
 .intro h;have a:¬cq p q < 0:=λc=>by have:=h1.1 c;grind
  have b:¬cq p q=0:=λc=>by have:=d.1 c;grind
  omega
theorem w9(a b:Vl):eu a b < 0↔bW (vv a) (vv b):=by
 unfold eu bW vv;by_cases h:cq (nv a.1) (nv b.1)=0
 .rw [if_pos h,tA];have:=(jM _ _).1 h;constructor
  .intro c;exact .inr ⟨this,c⟩
  .rintro(c | ⟨_,c⟩)
   .simp only at c;rw [this] at c;exact absurd c (by grind)
   .exact c
 .rw [if_neg h,tA];constructor
  .intro c;exact .inl c
  .rintro(c | ⟨c,_⟩)
   .exact c
   .exact absurd ((jM _ _).2 c) h
theorem w7(a b:Vl):eu a b > 0↔bW (vv b) (vv a):=by
 unfold eu bW vv;by_cases h:cq (nv a.1) (nv b.1)=0
 .rw [if_pos h,Ap];have:=(jM _ _).1 h;constructor
  .intro c;exact .inr ⟨this.symm,c⟩
  .rintro(c | ⟨_,c⟩)
   .simp only at c;rw [this] at c;exact absurd c (by grind)
   .exact c
 .rw [if_neg h,Ap];constructor
  .intro c;exact .inl c
  .rintro(c | ⟨c,_⟩)
   .exact c
   .exact absurd ((jM _ _).2 c.symm) h
theorem uZ{n:Nat}{rows:List R}{v:Nat}(h:¬v < n):vv (bu n rows v)= (aI n rows).up v:=by
 unfold vv bu Sy.up aI;simp only [if_neg h];by_cases a:(aS rows (v - n)).kd=2
 .simp only [a,if_true];rfl
 .simp only [a,if_false];rfl
theorem lP{n:Nat}{rows:List R}{v:Nat}:eV n rows v=true↔¬v < n/\(aI n rows).kd (v - n)=3:=by unfold eV aI;simp
theorem ug{n:Nat}{rows:List R}{v:Nat}(h:eV n rows v=true):vv (hJ n rows v)= (aI n rows).up v:=by
 have a:=lP.1 h;unfold vv hJ Sy.up;simp only [if_pos h];have b:¬(aI n rows).kd (v - (aI n rows).n)=2:=by show ¬(aI n rows).kd (v - n)=2;rw [a.2];decide
 rw [if_neg b];rfl
theorem sL(t:TL)(v:Nat):t.st.val v=vv (aG t.val v):=rfl
theorem Aj{n:Nat}{rows:List R}(t:TL)(v:Nat){w:Int}(d:w≠0):eT n rows t.val v w=true↔(if w > 0 then(aI n rows).sP t.st v else(aI n rows).sO t.st v):=by
 unfold eT;by_cases h:w > 0
 .rw [if_pos h,if_pos h];unfold Sy.sP;show _↔v < n\/_;by_cases hv:v < n
  .simp [hv]
  .rw [<-uZ hv,sL,<-w9];simp [hv]
 .rw [if_neg h,if_neg h];unfold Sy.sO;show _↔v < n\/_\/_;cases b:eV n rows v
  .have:¬(¬v < n/\(aI n rows).kd (v - n)=3):=λc=>by rw [lP.2 c] at b;cases b
   simp only [Tj,Xj,true_iff];by_cases hv:v < n
   .exact .inl hv
   .exact .inr (.inl λc=>this ⟨hv,c⟩)
  .have c:=lP.1 b;have e:=ug b;simp only [Th,Ua,decide_eq_true_eq];rw [w7,e,<-sL];constructor
   .intro a;exact .inr (.inr a)
   .rintro(a | a | a)
    .exact absurd a c.1
    .exact absurd c.2 a
    .exact a
def bp(n:Nat)(rows:List R)(t:TL)(b:Nat):Int:=if bW ((aI n rows).up b) (t.st.val b) then -1 else 1
theorem u5(n:Nat)(rows:List R)(t:TL)(b:Nat):(aI n rows).ai t.st b= ((bp n rows t b:Int):Rat):=by unfold Sy.ai bp;split <;> rfl
theorem SD{a b:Rat×Rat}(h:bW a b):¬bW b a:=by unfold bW at *;grind
theorem D1{n:Nat}{rows:List R}(t:TL)(b:Nat)(r:List Nat)(p:Int×Int)(hs:¬(p.1>=0/\(b:Int) > p.1)):
  ((aI n rows).eQ t.st b/\cG n rows t.val (b::r) p=cG n rows t.val r ((b:Int),bp n rows t b))\/
  (¬(aI n rows).eQ t.st b/\cG n rows t.val (b::r) p=cG n rows t.val r p):=by
 rw [cG,if_neg hs];by_cases h1:eV n rows b=true/\eu (aG t.val b) (hJ n rows b) < 0
 .rw [if_pos h1];have f:=lP.1 h1.1;have a:=(w9 _ _).1 h1.2;rw [ug h1.1,<-sL] at a;refine .inl ⟨⟨UN f.1, .inr ⟨f.2,a⟩⟩, ?_⟩;unfold bp;rw [if_neg (SD a)]
 .rw [if_neg h1];by_cases d:¬b < n/\eu (aG t.val b) (bu n rows b) > 0
  .rw [if_pos d];have a:=(w7 _ _).1 d.2;rw [uZ d.1,<-sL] at a;refine .inl ⟨⟨UN d.1, .inl a⟩, ?_⟩;unfold bp;rw [if_pos a]
  .rw [if_neg d];refine .inr ⟨?_,rfl⟩;rintro⟨g,h | ⟨i,h⟩⟩
   .have c:¬b < n:=Vb.2 g;refine d ⟨c,(w7 _ _).2 ?_⟩;rw [uZ c,<-sL];exact h
   .have c:¬b < n:=Vb.2 g;have e:eV n rows b=true:=lP.2 ⟨c,i⟩;refine h1 ⟨e,(w9 _ _).2 ?_⟩;rw [ug e,<-sL];exact h
theorem wS{n:Nat}{rows:List R}(t:TL):∀(l:List Nat) (a:Nat),(aI n rows).eQ t.st a->
  ∃b,(b=a\/b∈l)/\(aI n rows).eQ t.st b/\b<=a/\(∀u∈l,(aI n rows).eQ t.st u->b<=u)/\cG n rows t.val l ((a:Int),bp n rows t a)= ((b:Int),bp n rows t b)
 | [],a,h=>⟨a, .inl rfl,h,Tl _,(λu hu=>by cases hu),rfl⟩
 | c::l,a,h=>by
  by_cases hs:((a:Int),bp n rows t a).1>=0/\(c:Int) > ((a:Int),bp n rows t a).1
  .obtain⟨b,h1,f,g,i,j⟩:=wS t l a h;refine⟨b, ?_,f,g,λu hu d=> ?_,by rw [cG,if_pos hs];exact j⟩
   .rcases h1 with h1 | h1
    .exact .inl h1
    .exact .inr (SY _ h1)
   .rcases Tg.1 hu with rfl | hu
    .have:=hs.2;simp only at this;omega
    .exact i u hu d
  .have m:c<=a:=by simp only at hs;omega
   rcases D1 (n:=n) (rows:=rows) t c l _ hs with⟨k,e⟩ | ⟨k,e⟩
   .obtain⟨b,h1,f,g,i,j⟩:=wS t l c k;refine⟨b, ?_,f,by omega,λu hu d=> ?_,by rw [e];exact j⟩
    .rcases h1 with h1 | h1
     .exact .inr (by rw [h1];exact SW)
     .exact .inr (SY _ h1)
    .rcases Tg.1 hu with rfl | hu
     .exact g
     .exact i u hu d
   .obtain⟨b,h1,f,g,i,j⟩:=wS t l a h;refine⟨b, ?_,f,g,λu hu d=> ?_,by rw [e];exact j⟩
    .rcases h1 with h1 | h1
     .exact .inl h1
     .exact .inr (SY _ h1)
    .rcases Tg.1 hu with rfl | hu
     .exact absurd d k
     .exact i u hu d
theorem D0{n:Nat}{rows:List R}(t:TL):∀(l:List Nat),
  ((∀u∈l,¬(aI n rows).eQ t.st u)/\cG n rows t.val l (-1,0)= (-1,0))\/
  ∃b,b∈l/\(aI n rows).eQ t.st b/\(∀u∈l,(aI n rows).eQ t.st u->b<=u)/\cG n rows t.val l (-1,0)= ((b:Int),bp n rows t b)
 | []=> .inl ⟨λu hu=>(by cases hu),rfl⟩
 | c::l=>by
  have hs:¬(((-1:Int),(0:Int)).1>=0/\(c:Int) > ((-1:Int),(0:Int)).1):=λh=>absurd h.1 (by decide);rcases D1 (n:=n) (rows:=rows) t c l _ hs with⟨f,e⟩ | ⟨f,e⟩
  .obtain⟨b,h1,d,g,i,j⟩:=wS t l c f;refine .inr ⟨b, ?_,d,λu hu a=> ?_,by rw [e];exact j⟩
   .rcases h1 with h1 | h1
    .rw [h1];exact SW
    .exact SY _ h1
   .rcases Tg.1 hu with rfl | hu
    .exact g
    .exact i u hu a
  .rcases D0 t l with⟨h1,d⟩ | ⟨b,h1,d,g,i⟩
   .refine .inl ⟨λu hu=> ?_,by rw [e];exact d⟩;rcases Tg.1 hu with rfl | hu
    .exact f
    .exact h1 u hu
   .refine .inr ⟨b,SY _ h1,d,λu hu a=> ?_,by rw [e];exact i⟩;rcases Tg.1 hu with rfl | hu
    .exact absurd a f
    .exact g u hu a
theorem iB{n:Nat}{rows:List R}{val:List Vl}{ai:Int}:∀{row:List Nm} {k v:Nat},aT n rows val ai row k=some v->
  k<=v/\v < k+row.length/\nv (ao row (v - k))≠0/\eT n rows val v (ai * (nv (ao row (v - k))).num.sign)=true/\
  ∀u,k<=u->u < v->nv (ao row (u - k))≠0->eT n rows val u (ai * (nv (ao row (u - k))).num.sign)=false
 | [],_,_,h=>by simp [aT] at h
 | x::xs,k,v,h=>by
  rw [aT] at h;by_cases b:nv x≠0/\eT n rows val k (ai * (nv x).num.sign)=true
  .rw [if_pos b] at h;obtain rfl:k=v:=TE h;refine⟨Tl _,by simp, ?_, ?_,λu h1 f=>by omega⟩
   .rw [VF];exact b.1
   .rw [VF];exact b.2
  .rw [if_neg b] at h;obtain⟨h1,f,g,i,j⟩:=iB h;have e:∀u,k+1<=u->ao (x::xs) (u - k)=ao xs (u - (k+1)):=λu c=>by
    have:u - k= (u - (k+1))+1:=by omega
    rw [this];rfl
   refine⟨by omega,by simp only [Tr];omega,by rw [e v h1];exact g,by rw [e v h1];exact i,λu m d a=> ?_⟩;by_cases c:u=k
   .subst c;rw [VF] at a⊢;have:ao (x::xs) 0=x:=rfl;rw [this] at a⊢;cases l:eT n rows val u (ai * (nv x).num.sign)
    .rfl
    .exact absurd ⟨a,l⟩ b
   .rw [e u (by omega)] at a⊢;exact j u (by omega) d a
theorem tH{n:Nat}{rows:List R}{val:List Vl}{ai:Int}:∀{row:List Nm} {k:Nat},aT n rows val ai row k=none->
  ∀u,k<=u->nv (ao row (u - k))≠0->eT n rows val u (ai * (nv (ao row (u - k))).num.sign)=false
 | [],_,_,u,_,a=>absurd rfl a
 | x::xs,k,h,u,f,a=>by
  rw [aT] at h;by_cases b:nv x≠0/\eT n rows val k (ai * (nv x).num.sign)=true
  .rw [if_pos b] at h;cases h
  .rw [if_neg b] at h;by_cases c:u=k
   .subst c;rw [VF] at a⊢;have:ao (x::xs) 0=x:=rfl;rw [this] at a⊢;cases d:eT n rows val u (ai * (nv x).num.sign)
    .rfl
    .exact absurd ⟨a,d⟩ b
   .have e:ao (x::xs) (u - k)=ao xs (u - (k+1)):=by
     have:u - k= (u - (k+1))+1:=by omega
     rw [this];rfl
    rw [e] at a⊢;exact tH h u (by omega) a
end Go.Aev.Wd.Lg
