import Derived.Test.YticjdhgokemdlaaMostSureQ13
set_option linter.all false
namespace Go.Aev.Wd.Lg
open Go Go.Aev Go.Aev.Gen Go.Aev.Wd Go.Aev.Tb Go.IntKind
theorem WF.congr{n m:Nat}{A:Nat->Nat->Rat}{af bas':Nat->Nat}{c c':Nat->Nat->Rat}(h1:∀i,i < m->af i=bas' i)(h2:∀i k,i < m->k < n+m->c i k=c' i k)
  (w:WF n m A af c):WF n m A bas' c' where
 hb:=λi hi=>by rw [<-h1 i hi];exact w.hb i hi
 inj:=λi j hi hj e=>w.inj i j hi hj (by rw [h1 i hi,h1 j hj];exact e)
 z:=λi j hi hj=>by rw [<-h1 j hj,<-h2 i _ hi (w.hb j hj)];exact w.z i j hi hj
 same:=λy=>by
  rw [<-w.same y];unfold zh;constructor
  .intro h i hi;rw [h1 i hi,h i hi];exact cf (λk hk=>by rw [h2 i k hi hk])
  .intro h i hi;rw [<-h1 i hi,h i hi];exact cf (λk hk=>by rw [h2 i k hi hk])
 nb:=by
  obtain⟨nb,n1,n2,n3,n4,n5⟩:=w.nb;refine⟨nb,n1,n2,λr i hr hi=>by rw [<-h1 i hi];exact n3 r i hr hi,λv hv=> ?_,n5⟩;rcases n4 v hv with h | ⟨i,hi,e⟩
  .exact .inl h
  .exact .inr ⟨i,hi,by rw [<-h1 i hi];exact e⟩
theorem iL{t:TL}{i:Nat}(hi:i < t.af.length):t.af[i]? =some (t.st.af i):=by show _=some (t.af.getD i 0);rw [SV,SZ hi];rfl
theorem Pd{l:List Nat}(h:l.Nodup){i j:Nat}{b:Nat}(hi:l[i]? =some b)(g:l[j]? =some b):i=j:=by
 have h1:i < l.length:=(Ta.1 hi).1;have d:j < l.length:=(Ta.1 g).1;have a:l[i]=b:=(Ta.1 hi).2;have c:l[j]=b:=(Ta.1 g).2;rcases Nat.lt_trichotomy i j with k | heq | e
 .exact absurd (by rw [a,c]) (Vh.1 h i j h1 d k)
 .exact heq
 .exact absurd (by rw [a,c]) (Vh.1 h j i d h1 e)
theorem uk{l:List Nm}{i:Nat}(h:i < l.length)(x:Nm)(j:Nat):ao (l.set i x) j=if j=i then x else ao l j:=by
 unfold ao;rw [SV,SV,Ue];by_cases a:j=i
 .subst a;simp [h]
 .have:¬i=j:=λe=>a e.symm;simp [a,this]
theorem KS{l:List (List Nm)}{i:Nat}(h:i < l.length)(x:List Nm)(j:Nat):au (l.set i x) j=if j=i then x else au l j:=by
 unfold au;rw [SV,SV,Ue];by_cases a:j=i
 .subst a;simp [h]
 .have:¬i=j:=λe=>a e.symm;simp [a,this]
theorem O7{l:List Nm}(g:Nm->Nm){k:Nat}(h:k < l.length):ao (l.map g) k=g (ao l k):=by unfold ao;rw [SV,SV,TM,SZ h];rfl
theorem Ij{x:List Nm}{v b k:Nat}(hv:v < x.length)(hb:b < x.length)(c:k < x.length)(d:b≠v):nv (ao (ct x v b) k)=gp (λj=>nv (ao x j)) b v k:=by
 unfold ct gp;rw [uk (by simp;exact hb),uk (by simp;exact hv),O7 _ c];by_cases h1:k=b
 .rw [if_pos h1,if_pos h1];rfl
 .rw [if_neg h1,if_neg h1];by_cases a:k=v
  .rw [if_pos a,if_pos a];rfl
  .rw [if_neg a,if_neg a];rfl
theorem I3(c:Nm):∀(b a:List Nm),(ij c b a).length=a.length
 | [],_=>by simp [ij]
 | _::_,[]=>by simp [ij]
 | r::b,y::a=>by simp [ij,I3 c b a]
theorem I2(c:Nm):∀(b a:List Nm) (k:Nat),k < a.length->a.length<=b.length->nv (ao (ij c b a) k)=nv (ao a k)+nv c * nv (ao b k)
 | [],a,k,h,d=>by simp at d;rw [d] at h;simp at h
 | _::_,[],k,h,_=>by simp at h
 | r::b,y::a,0,_,_=>by
  rw [ij];by_cases e:nv r=0
  .rw [if_pos e];show nv y=nv y+nv c * nv r;rw [e];grind
  .rw [if_neg e];rfl
 | r::b,y::a,k+1,h,d=>by rw [ij];exact I2 c b a k (by simpa using h) (by simpa using d)
theorem JE(row:List Nm)(v:Nat)(l:List Nm):(ji row v l).length=l.length:=by
 unfold ji;split
 .rfl
 .rw [I3,TT]
theorem JD{row l:List Nm}{v k:Nat}(d:row.length=l.length)(hv:v < l.length)(c:k < l.length)(hr:nv (ao row v)=0):
  nv (ao (ji row v l) k)=ke (λj=>nv (ao row j)) v (λj=>nv (ao l j)) k:=by
 unfold ji ke;by_cases b:nv (ao l v)=0
 .rw [if_pos b];by_cases a:k=v
  .rw [if_pos a,a];exact b
  .rw [if_neg a];show nv (ao l k)=nv (ao l k)+nv (ao l v) * nv (ao row k);rw [b];grind
 .rw [if_neg b,I2 _ _ _ _ (by rw [TT];exact c) (by rw [TT];omega),uk hv];by_cases a:k=v
  .rw [if_pos a,if_pos a,a,hr,rY];grind
  .rw [if_neg a,if_neg a]
theorem I4(row:List Nm)(v i:Nat):∀(xs:List (List Nm)) (k j:Nat),j < xs.length->au (fL row v i k xs) j=if k+j=i then au xs j else ji row v (au xs j)
 | [],_,_,h=>by simp at h
 | x::xs,k,0,_=>by rw [fL];rfl
 | x::xs,k,j+1,h=>by rw [fL];have:=I4 row v i xs (k+1) j (by simpa using h);rw [show k+ (j+1)=k+1+j by omega];exact this
theorem BO(v:Nat)(w:Vl):∀(bs:List Nat) (xs:List (List Nm)) (val:List Vl) (u:Nat),(∀b∈bs,b < val.length)->u∉bs->aG (gI v w bs xs val) u=aG val u
 | [],_,_,_,_,_=>by simp [gI]
 | _::_,[],_,_,_,_=>by simp [gI]
 | b::bs,x::xs,val,u,c,d=>by
  rw [gI,BO v w bs xs _ u (λg a=>by rw [TT];exact c g (SY _ a)) (λh=>d (SY _ h)),
   qA (c b SW),if_neg (λe=>d (by rw [e];exact SW))]
theorem Hy(v:Nat)(w:Vl):∀(bs:List Nat) (xs:List (List Nm)) (val:List Vl) (j b:Nat),(∀b∈bs,b < val.length)->bs.Nodup->bs[j]? =some b->bs.length=xs.length->
  aG (gI v w bs xs val) b=kE (aG val b) (fg w (ao (au xs j) v))
 | [],_,_,_,_,_,_,h,_=>by simp at h
 | _::_,[],_,_,_,_,_,_,h=>by simp at h
 | c::bs,x::xs,val,0,b,g,k,h,m=>by simp only [U1,SR] at h;subst h;have a:=(Ud.1 k).1;rw [gI,BO v w bs xs _ c (λi d=>by rw [TT];exact g i (SY _ d)) a,qA (g c SW),if_pos rfl];rfl
 | c::bs,x::xs,val,j+1,b,g,k,h,m=>by simp only [U3] at h;have a:=Ud.1 k;have l:b≠c:=λe=>a.1 (by rw [<-e];exact SX h);rw [gI,Hy v w bs xs _ j b (λi d=>by rw [TT];exact g i (SY _ d)) a.2 h (by simpa using m),qA (g c SW),if_neg l];rfl
structure bq (n:Nat) (rows:List R) (t:TL):Prop where
 aW:cF n rows.length t
 ok:(aI n rows).OK t.st
 ln:∀i b,t.af[i]? =some b->bV b t.mp=some i
 ue:∀v,v∉t.af->bV v t.mp=none
 ky:oa t.mp
theorem K8{n:Nat}{rows:List R}(ro:ef n rows)(i k:Nat)(hi:i < rows.length):aJ 1000000 ((aI n rows).A i k):=by
 refine aJ.int ?_;by_cases a:k < (aS rows i).of.length
 .have:=ro.of _ (eG hi) ((aS rows i).of.getD k 0) (by
   rw [SV,SZ a];exact UA a)
  omega
 .rw [SV,TU (by omega)];decide
theorem wJ{a:Nat}{D q:Rat}(c:D≠0)(h1:aJ (2 ^ a) D)(g:aJ (2 ^ a) (D * q)):QB a q:=by
 obtain⟨d,b,j⟩:=h1;obtain⟨u,e,k⟩:=g;have i:d≠0:=λh=>c (by rw [b,h];rfl);have:q=Rat.divInt u d:=by rw [Xf,<-e,<-b,TR];have:=VG _ c;grind
 rw [this];exact QB.divInt i k j
theorem z7{K:Nat}(c: 1<=K):∀{a b:Nat},a<=b->bd K a<=bd K b
 | a,0,h=>by
  obtain rfl:a=0:=by omega
  exact Tl _
 | a,b+1,h=>by
  by_cases e:a=b+1
  .subst e;exact Tl _
  .have:=z7 c (a:=a) (b:=b) (by omega);rw [bd];have h1:bd K b<=K * bd K b:=Nat.le_mul_of_pos_left _ (by omega);have d:K * bd K b<=(b+1) * (K * bd K b):=Nat.le_mul_of_pos_left _ (by omega);omega
theorem KB{n:Nat}(h:n<=12):bd 1000000 n<=2 ^ 270:=Tz (z7 (by decide) h) (by decide+kernel)
theorem bq.den{n:Nat}{rows:List R}{t:TL}(ro:ef n rows)(h:bq n rows t):∃D:Rat,D≠0/\aJ (2 ^ 270) D/\
  (∀i v,i < rows.length->v < n+rows.length->aJ (2 ^ 270) (D * nv (ao (au t.aj i) v)))/\
  (∀(g G:Nat->Rat),(∀j,j < rows.length->g (t.st.af j)=0)->(∀k,k < n->aJ 1000000 (G k))->
   (∀y,df n rows.length (aI n rows).A y->sm (n+rows.length) (λk=>g k * y k)=sm n (λk=>G k * y k))->∀v,v < n+rows.length->aJ (2 ^ 270) (D * g v)):=by
 obtain⟨D,h1,d,e,l⟩:=h.ok.wf.den (K:=1000000) (by decide) (λi k hi _=>K8 ro i k hi);have hb:=KB ro.sz.n;exact⟨D,h1,d.mono hb,λi v hi hv=>(e i v hi hv).mono hb,λg G a b c v hv=>(l g G a b c v hv).mono hb⟩
theorem bq.aj{n:Nat}{rows:List R}{t:TL}(ro:ef n rows)(h:bq n rows t):∀x∈t.aj,∀y∈x,QN 270 y:=by
 obtain⟨D,h1,d,g,_⟩:=h.den ro;intro x a y hy;obtain⟨i,hi,e⟩:=TY a;obtain⟨k,l,b⟩:=TY hy;have o:=h.aW.c;have hr:=h.aW.r x a;have j:au t.aj i=x:=by unfold au;rw [SV,SZ hi];exact e
 have m:ao x k=y:=by unfold ao;rw [SV,SZ l];exact b
 have:=g i k (by omega) (by omega);rw [j,m] at this;exact wJ h1 d this
theorem Gt{n:Nat}{rows:List R}(ro:ef n rows)(v:Nat)(hv:v < n+rows.length):aJ 1000000 ((aI n rows).fx v).1/\aJ 1000000 ((aI n rows).fx v).2:=by
 unfold Sy.fx;show aJ 1000000 (if v < n then(0,0) else(aI n rows).up v:Rat×Rat).1/\aJ 1000000 (if v < n then(0,0) else(aI n rows).up v:Rat×Rat).2;by_cases h:v < n
 .rw [if_pos h];exact⟨aJ.zero _,aJ.zero _⟩
 .rw [if_neg h];have:=ro.sz.tv _ (eG (rows:=rows) (i:=v - n) (by omega));refine⟨aJ.int (z:=(aS rows (v - n)).tv) (by omega), ?_⟩;unfold Sy.up;dsimp only;split
  .exact⟨-1,rfl,by decide⟩
  .exact aJ.zero _
set_option exponentiation.threshold 400 in
theorem J8{n:Nat}{rows:List R}{t:TL}(h:bq n rows t){D:Rat}(p:aJ (2 ^ 270) D)
  (q:∀i v,i < rows.length->v < n+rows.length->aJ (2 ^ 270) (D * nv (ao (au t.aj i) v))) (sz:Sz n rows) {y:Nat->Rat} (hy:df n rows.length (aI n rows).A y)
  (l:∀v,v < n+rows.length->(∀i,i < rows.length->t.st.af i≠v)->aJ 1000000 (y v)) {v:Nat} (hv:v < n+rows.length):aJ (2 ^ 300) (D * y v):=by
 have r:=sz.n;have hm:=sz.m;by_cases hb:∃i,i < rows.length/\t.st.af i=v
 .obtain⟨i,hi,e⟩:=hb;have:=(h.ok.wf.same y).2 hy i hi;rw [<-e,this,<-kW];have hs:aJ ((n+rows.length) * (2 ^ 270 * 1000000)) (sm (n+rows.length) (λk=>D * (t.st.c i k * y k))):=by
   refine su (λk o=> ?_);by_cases g:∃j,j < rows.length/\t.st.af j=k
   .obtain⟨j,d,b⟩:=g;rw [<-b,h.ok.wf.z i j hi d,TI,TV];exact aJ.zero _
   .have a:=(q i k hi o).mul (l k o (λj d b=>g ⟨j,d,b⟩));rw [<-Xe];exact a
  refine hs.mono ?_;have:(n+rows.length) * (2 ^ 270 * 1000000)<=52 * (2 ^ 270 * 1000000):=TK _ (by omega);exact Tz this (by decide+kernel)
 .have a:=p.mul (l v hv (λj d b=>hb ⟨j,d,b⟩));exact a.mono (by decide+kernel)
theorem bq.val{n:Nat}{rows:List R}{t:TL}(ro:ef n rows)(h:bq n rows t):∀u,u < n+rows.length->VB 300 (aG t.val u):=by
 obtain⟨D,h1,a,b,_⟩:=h.den ro;intro u c;have hm: 2 ^ 270<=2 ^ 300:=by decide+kernel
 refine⟨wJ h1 (a.mono hm) (J8 h a b ro.sz h.ok.hy (λv hv hb=> ?_) c),wJ h1 (a.mono hm) (J8 h a b ro.sz h.ok.hz (λv hv hb=> ?_) c)⟩
 .have:=congrArg Prod.fst (h.ok.fix v hv hb);show aJ _ (t.st.val v).1;rw [this];exact(Gt ro v hv).1
 .have:=congrArg Prod.snd (h.ok.fix v hv hb);show aJ _ (t.st.val v).2;rw [this];exact(Gt ro v hv).2
open Go Go.Aev Go.Aev.Gen Go.Aev.Wd Go.Aev.Tb
theorem jK{t:TL}{n m:Nat}(h:cF n m t){i:Nat}(hi:i < m):t.st.af i∈t.af:=SX (iL (by rw [h.b];exact hi))
theorem lQ{t:TL}{n m:Nat}(h:cF n m t){b:Nat}(hb:b∈t.af):∃i,i < m/\t.st.af i=b/\t.af[i]? =some b:=by
 obtain⟨i,hi,e⟩:=TY hb;have h1:t.af[i]? =some b:=by rw [SZ hi,e]
 have a:=iL (t:=t) hi;rw [h1] at a;exact⟨i,by rw [<-h.b];exact hi,(TE a).symm,h1⟩
theorem bq.yh{n:Nat}{rows:List R}{t:TL}(h:bq n rows t){i v:Nat}(hi:i < rows.length)(a:nv (ao (au t.aj i) v)≠0):v∉t.af:=by intro hb;obtain⟨j,b,e,_⟩:=lQ h.aW hb;exact a (by rw [<-e];exact h.ok.wf.z i j hi b)
theorem BP{n m:Nat}{t:TL}(h:cF n m t)(v:Nat)(w:Vl){u:Nat}(hv:v < n+m)(a:u∉t.af):aG (dG v w t).val u=if u=v then kE (aG t.val v) w else aG t.val u:=by show aG (gI v w t.af t.aj (t.val.set v _)) u=_;rw [BO v w t.af t.aj _ u (λb hb=>by rw [TT,h.v];exact h.lt b hb) a,qA (by rw [h.v];exact hv)]
theorem yf{n m:Nat}{t:TL}(h:cF n m t)(v:Nat)(w:Vl){j b:Nat}(hv:v < n+m)(d:v∉t.af)(a:t.af[j]? =some b):
  aG (dG v w t).val b=kE (aG t.val b) (fg w (ao (au t.aj j) v)):=by
 show aG (gI v w t.af t.aj (t.val.set v _)) b=_;rw [Hy v w t.af t.aj _ j b (λb hb=>by rw [TT,h.v];exact h.lt b hb) h.nd a (by rw [h.b,h.c]),qA (by rw [h.v];exact hv),
  if_neg (λe=>d (by rw [<-e];exact SX a))]
theorem OH{n:Nat}{rows:List R}{t:TL}(h:bq n rows t)(v:Nat)(w:Vl)(hv:v < n+rows.length)(m:v∉t.af):
  df n rows.length (aI n rows).A (dG v w t).st.y/\df n rows.length (aI n rows).A (dG v w t).st.z:=by
 have key:∀(g:Vl->Rat) (q:Rat),(∀a,g (kE a w)=g a+q)->(∀a k,g (kE a (fg w k))=g a+q * nv k)->df n rows.length (aI n rows).A (λu=>g (aG t.val u))->
   df n rows.length (aI n rows).A (λu=>g (aG (dG v w t).val u)):=by
  intro g q x B r;refine(h.ok.wf.same _).1 (λj o=> ?_);have C:=(h.ok.wf.same _).2 r j o;have hb:=iL (t:=t) (i:=j) (by rw [h.aW.b];exact o);show g (aG (dG v w t).val (t.st.af j))=_;rw [yf h.aW v w hv m hb,B];have p:g (aG t.val (t.st.af j))=sm (n+rows.length) (λk=>t.st.c j k * g (aG t.val k)):=C;rw [p];have e:sm (n+rows.length) (λk=>t.st.c j k * g (aG (dG v w t).val k))=sm (n+rows.length) (λk=>1 * (t.st.c j k * g (aG t.val k))+q * (if k=v then t.st.c j k else 0)):=by
   refine cf (λk D=> ?_);by_cases l:k∈t.af
   .obtain⟨i,hi,e,_⟩:=lQ h.aW l;have hz:t.st.c j k=0:=by rw [<-e];exact h.ok.wf.z j i o hi
    have d:k≠v:=λs=>m (by rw [<-s];exact l);rw [hz,if_neg d];grind
   .rw [BP h.aW v w hv l];by_cases d:k=v
    .subst d;rw [if_pos rfl,if_pos rfl,x];grind
    .rw [if_neg d,if_neg d];grind
  show _=sm (n+rows.length) (λk=>t.st.c j k * g (aG (dG v w t).val k));rw [e,ik,l0 hv];show _+q * nv (ao (au t.aj j) v)=1 * _+q * nv (ao (au t.aj j) v);grind
 exact⟨key (λa=>nv a.1) (nv w.1) (λa=>rfl) (λa k=>rfl) h.ok.hy,key (λa=>nv a.2) (nv w.2) (λa=>rfl) (λa k=>rfl) h.ok.hz⟩
theorem PT{n m:Nat}{t:TL}(h:cF n m t){i v b:Nat}(row:List Nm)(eg:Bool)(hi:i < m)(j:Nat):(eX i v b row eg t).st.af j=fJ t.st.af i v j:=by
 show(t.af.set i v).getD j 0=if j=i then v else t.af.getD j 0;rw [SV,SV,Ue];have hb:=h.b;by_cases a:j=i
 .subst a;simp [hb,hi]
 .have:¬i=j:=λe=>a e.symm;simp [a,this]
theorem PU{n m:Nat}{t:TL}(h:cF n m t){i v:Nat}(eg:Bool)(hi:i < m)(hv:v < n+m)(e:t.st.af i≠v){j k:Nat}(o:j < m)(g:k < n+m):
  (eX i v (t.st.af i) (ct (au t.aj i) v (t.st.af i)) eg t).st.c j k=oZ t.st.c t.st.af i v j k:=by
 have l:=h.row hi;have s:=h.row o;have q:=h.c;have p:=h.lt _ (jK h hi);show nv (ao (au ((fL (ct (au t.aj i) v (t.st.af i)) v i 0 t.aj).set i (ct (au t.aj i) v (t.st.af i))) j) k)=_;rw [KS (by rw [CH];omega)];unfold oZ;have r:(ct (au t.aj i) v (t.st.af i)).length=n+m:=by unfold ct;simp;exact l
 have d:∀k,k < n+m->nv (ao (ct (au t.aj i) v (t.st.af i)) k)=gp (t.st.c i) (t.st.af i) v k:=λk g=>Ij (by omega) (by omega) (by omega) e;by_cases a:j=i
 .rw [if_pos a,if_pos a];exact d k g
 .rw [if_neg a,if_neg a,I4 _ _ _ _ _ _ (by omega),if_neg (by omega)];rw [JD (by omega) (by omega) (by omega) (by rw [d v hv];exact uB e)];unfold ke;by_cases b:k=v
  .rw [if_pos b,if_pos b]
  .rw [if_neg b,if_neg b];show nv (ao (au t.aj j) k)+nv (ao (au t.aj j) v) * nv (ao (ct (au t.aj i) v (t.st.af i)) k)=_;rw [d k g];rfl
theorem PV{n m:Nat}{t:TL}(h:cF n m t){i v b:Nat}(row:List Nm)(eg:Bool)(hi:i < m)(hv:v < n+m)(hvb:v∉t.af)(hrow:row.length=n+m):cF n m (eX i v b row eg t) where
 b:=by show(t.af.set i v).length=m;rw [TT];exact h.b
 c:=by show((fL row v i 0 t.aj).set i row).length=m;rw [TT,CH];exact h.c
 r:=λx hx=>by
  have hx:x∈(fL row v i 0 t.aj).set i row:=hx;rcases Ty hx with hx | hx
  .have gen:∀(xs:List (List Nm)) (k:Nat),(∀x∈xs,x.length=n+m)->∀x∈fL row v i k xs,x.length=n+m:=by
    intro xs;induction xs with
    | nil=>intro k _ x hx;simp [fL] at hx
    | cons y ys ih=>
     intro k hl x hx;rw [fL] at hx;rcases Tg.1 hx with hx | hx
     .rw [hx];split
      .exact hl y SW
      .rw [JE];exact hl y SW
     .exact ih (k+1) (λx hx=>hl x (SY _ hx)) x hx
   exact gen t.aj 0 h.r x hx
  .rw [hx];exact hrow
 v:=h.v
 lt:=λb hb=>by
  rcases Ty hb with hb | hb
  .exact h.lt b hb
  .rw [hb];exact hv
 nd:=by
  show(t.af.set i v).Nodup;refine Vh.2 (λa b ha hb hab=> ?_);rw [List.getElem_set,List.getElem_set];have ha':a < t.af.length:=by simpa using ha
  have hb':b < t.af.length:=by simpa using hb
  split <;> split
  .omega
  .exact λe=>hvb (by rw [e];exact UA hb')
  .exact λe=>hvb (by rw [<-e];exact UA ha')
  .exact Vh.1 h.nd a b ha' hb' hab
theorem bq.Ii{n:Nat}{rows:List R}{t:TL}(h:bq n rows t){i v:Nat}(w:Vl)(eg:Bool)(hi:i < rows.length)(hv:v < n+rows.length)(s:nv (ao (au t.aj i) v)≠0)
  (z:vv (aG (dG v w t).val (t.st.af i))= (aI n rows).fx (t.st.af i)):
  bq n rows (eX i v (t.st.af i) (ct (au t.aj i) v (t.st.af i)) eg (dG v w t))/\
   ∀j,(eX i v (t.st.af i) (ct (au t.aj i) v (t.st.af i)) eg (dG v w t)).st.af j=fJ t.st.af i v j:=by
 have l:=h.yh hi s;have A:=jK h.aW hi;have C:t.st.af i≠v:=λe=>l (by rw [<-e];exact A);have p:cF n rows.length (dG v w t):=h.aW.mv v w;have E:=h.aW.row hi;have D:(ct (au t.aj i) v (t.st.af i)).length=n+rows.length:=by unfold ct;simp;exact E
 have F:cF n rows.length (eX i v (t.st.af i) (ct (au t.aj i) v (t.st.af i)) eg (dG v w t)):=PV p _ _ hi hv l D;have d:∀j,(eX i v (t.st.af i) (ct (au t.aj i) v (t.st.af i)) eg (dG v w t)).st.af j=fJ t.st.af i v j:=λj=>PT p (b:=t.st.af i) (ct (au t.aj i) v (t.st.af i)) eg hi j;obtain⟨G,H⟩:=OH h v w hv l;refine⟨⟨F,⟨?_,G,H,λu m x=> ?_⟩, ?_, ?_, ?_⟩,d⟩
 .refine WF.congr (λj _=>(d j).symm) (λj k a K=> ?_) (SI h.ok.wf (i:=i) (v:=v) hi hv s);exact(PU p eg hi hv C a K).symm
 .have q:u≠v:=λe=>x i hi (by rw [d];unfold fJ;rw [if_pos rfl,e]);show vv (aG (dG v w t).val u)=_;by_cases g:u∈t.af
  .obtain⟨j,a,e,_⟩:=lQ h.aW g;by_cases r:j=i
   .rw [<-e,r];exact z
   .exact absurd (by rw [d];unfold fJ;rw [if_neg r,e]) (x j a)
  .rw [BP h.aW v w hv g,if_neg q];exact h.ok.fix u m (λj a e=>g (by rw [<-e];exact jK h.aW a))
 .intro j b a;have a:(t.af.set i v)[j]? =some b:=a;show bV b (jb v i (kJ (t.st.af i) t.mp))=some j;rw [ye,yd _ _ _ h.ky];rw [Ue] at a;by_cases c:i=j
  .rw [if_pos c] at a;have o:i < t.af.length:=by rw [h.aW.b];exact hi
   rw [if_pos o] at a;obtain rfl:=TE a;rw [if_pos rfl,c]
  .rw [if_neg c] at a;have B:=SX a;rw [if_neg (λe=>l (by rw [<-e];exact B)),if_neg (λe=>c (Pd h.aW.nd (iL (by rw [h.aW.b];exact hi)) (by rw [a,e])))];exact h.ln j b a
 .intro u m;have m:u∉t.af.set i v:=m;show bV u (jb v i (kJ (t.st.af i) t.mp))=none;have o:i < t.af.length:=by rw [h.aW.b];exact hi
  have q:u≠v:=λe=>m (by rw [e];exact List.mem_set o _);rw [ye,if_neg q,yd _ _ _ h.ky];split
  .rfl
  .rename_i y;refine h.ue u (λhm=>m ?_);obtain⟨j,a,e,J⟩:=lQ h.aW hm;have c:i≠j:=λI=>y (by rw [<-e,I]);refine SX (i:=j) ?_;rw [Wl c];exact J
 .exact By _ _ _ (GX _ _ h.ky)
theorem I8{w:Int}(c:w=1\/w= -1){q:Rat}(e:q≠0):w * q.num.sign≠0/\(w * q.num.sign > 0↔0 < (w:Rat) * q):=by
 have d:q.num≠0:=λh=>e (Xt.1 h);rcases Int.lt_or_gt_of_ne d with h | h
 .have hs:=Up h;have b:q < 0:=by
   refine Rat.not_le.1 λa=> ?_;have:=WB.2 a;omega
  rw [hs];rcases c with rfl | rfl
  .refine⟨by decide,⟨λh=>absurd h (by decide),λh=> ?_⟩⟩;have:((1:Int):Rat)=1:=rfl;rw [this] at h;exact absurd h (by grind)
  .refine⟨by decide,⟨λ_=> ?_,λ_=>by decide⟩⟩;have:((-1:Int):Rat)= -1:=rfl;rw [this];grind
 .have hs:=Us h;have b: 0 < q:=by
   have h1: 0<=q:=WB.1 (by omega);grind
  rw [hs];rcases c with rfl | rfl
  .refine⟨by decide,⟨λ_=> ?_,λ_=>by decide⟩⟩;have:((1:Int):Rat)=1:=rfl;rw [this];grind
  .refine⟨by decide,⟨λh=>absurd h (by decide),λh=> ?_⟩⟩;have:((-1:Int):Rat)= -1:=rfl;rw [this] at h;exact absurd h (by grind)
theorem rf{n:Nat}{rows:List R}(t:TL){w:Int}(e:w=1\/w= -1){q:Rat}(g:q≠0){v:Nat}:
  eT n rows t.val v (w * q.num.sign)=true↔(aI n rows).Can t.st ((w:Rat) * q) v:=by
 obtain⟨h1,d⟩:=I8 e g;have i:(w:Rat) * q≠0:=by
  rcases e with rfl | rfl
  .have:((1:Int):Rat)=1:=rfl;rw [this];grind
  .have:((-1:Int):Rat)= -1:=rfl;rw [this];grind
 rw [Aj t v h1];unfold Sy.Can;by_cases b:w * q.num.sign > 0
 .have a:=d.1 b;rw [if_pos b];exact⟨λh=>⟨λ_=>h,λc=>absurd c (by grind)⟩,λh=>h.1 a⟩
 .have a:¬0 < (w:Rat) * q:=λh=>b (d.2 h);rw [if_neg b];exact⟨λh=>⟨λc=>absurd c a,λ_=>h⟩,λh=>h.2 (by grind)⟩
theorem bq.step{n:Nat}{rows:List R}{t:TL}(h:bq n rows t){i v:Nat}(eg:Bool)(hi:i < rows.length)(hv:v < n+rows.length)
  (c:(aI n rows).eQ t.st (t.st.af i)) (r:aT n rows t.val (bp n rows t (t.st.af i)) (au t.aj i) 0=some v) (l:∀j,j < rows.length->t.st.af j < t.st.af i->¬(aI n rows).eQ t.st (t.st.af j)):
  bq n rows (gv n rows eg (t.st.af i) (bp n rows t (t.st.af i)) i v t)/\(aI n rows).Step t.st (gv n rows eg (t.st.af i) (bp n rows t (t.st.af i)) i v t).st i v:=by
 obtain⟨_,_,e3,o,x⟩:=iB r;rw [TZ] at e3 o;have w:=h.yh hi e3;have a:¬t.st.af i < n:=Vb.2 c.1;have z:=iL (t:=t) (i:=i) (by rw [h.aW.b];exact hi);have g:bp n rows t (t.st.af i)=1\/bp n rows t (t.st.af i)= -1:=by unfold bp;split;exact .inr rfl;exact .inl rfl
 have s:vv (if bp n rows t (t.st.af i) > 0 then hJ n rows (t.st.af i) else bu n rows (t.st.af i))= (aI n rows).fx (t.st.af i):=by
  unfold Sy.fx;show _=if t.st.af i < n then((0:Rat),(0:Rat)) else _;rw [if_neg a];by_cases d:bW ((aI n rows).up (t.st.af i)) (t.st.val (t.st.af i))
  .have:bp n rows t (t.st.af i)= -1:=by unfold bp;rw [if_pos d]
   rw [this,if_neg (by decide)];exact uZ a
  .have:bp n rows t (t.st.af i)=1:=by unfold bp;rw [if_neg d]
   rw [this,if_pos (by decide)];rcases c.2 with k | ⟨k,_⟩
   .exact absurd k d
   .exact ug (lP.2 ⟨a,k⟩)
 have m:vv (aG (dG v (pc n rows (t.st.af i) (bp n rows t (t.st.af i)) i v t) t).val (t.st.af i))= (aI n rows).fx (t.st.af i):=by
  rw [yf h.aW v _ hv w z,<-s];unfold pc;generalize (if bp n rows t (t.st.af i) > 0 then hJ n rows (t.st.af i) else bu n rows (t.st.af i))=to at *
  have D:nv (ao (au t.aj i) v) * (nv (ao (au t.aj i) v))⁻¹ =1:=VG _ e3;refine V9 ?_ ?_
  .show nv (aG t.val (t.st.af i)).1+ (nv to.1 - nv (aG t.val (t.st.af i)).1) * (((1:Int):Rat) / nv (ao (au t.aj i) v)) * nv (ao (au t.aj i) v)=nv to.1;rw [TR];have:((1:Int):Rat)=1:=rfl;rw [this];grind
  .show nv (aG t.val (t.st.af i)).2+ (nv to.2 - nv (aG t.val (t.st.af i)).2) * (((1:Int):Rat) / nv (ao (au t.aj i) v)) * nv (ao (au t.aj i) v)=nv to.2;rw [TR];have:((1:Int):Rat)=1:=rfl;rw [this];grind
 obtain⟨B,C⟩:=h.Ii (i:=i) (v:=v) (pc n rows (t.st.af i) (bp n rows t (t.st.af i)) i v t) eg hi hv e3 m;refine⟨B,⟨hi,hv,c,l,e3, ?_,λu A e=> ?_,funext C⟩⟩
 .rw [u5];exact(rf t g e3).1 o
 .rw [u5];intro y;have h1:=x u (Vx _) A (by rw [TZ];exact e);rw [TZ] at h1;have p:=(rf (n:=n) (rows:=rows) t g (q:=nv (ao (au t.aj i) u)) (v:=u) e).2 y;rw [h1] at p;cases p
open Go Go.Aev Go.Aev.Gen Go.Aev.Wd Go.Aev.Tb
def bU(n:Nat)(rows:List R)(eg:Bool):Nat->TL->Option (List Nm)×Bool×TL
 | p,t=>if(iw n rows t.val t.af).1 < 0 then(none,true,t) else
  match p with
  | 0=>(none,false,t)
  | p+1=>match aT n rows t.val (iw n rows t.val t.af).2 (au t.aj ((bV (iw n rows t.val t.af).1.toNat t.mp).getD 0)) 0 with
   | none=>(some (iE n rows.length (iw n rows t.val t.af).2 (iw n rows t.val t.af).1.toNat (au t.aj ((bV (iw n rows t.val t.af).1.toNat t.mp).getD 0))),true,t)
   | some v=>bU n rows eg p (gv n rows eg (iw n rows t.val t.af).1.toNat (iw n rows t.val t.af).2 ((bV (iw n rows t.val t.af).1.toNat t.mp).getD 0) v t)
def eD:Option (List Nm)->T
 | none=>T.aO true
 | some l=>T.ae 4 false (aQ l)
theorem kG{n:Nat}{rows:List R}{t:TL}(h:bq n rows t):
  ((∀j,j < rows.length->¬(aI n rows).eQ t.st (t.st.af j))/\iw n rows t.val t.af= (-1,0))\/
  ∃i,i < rows.length/\(aI n rows).eQ t.st (t.st.af i)/\(∀j,j < rows.length->t.st.af j < t.st.af i->¬(aI n rows).eQ t.st (t.st.af j))/\
   iw n rows t.val t.af= ((t.st.af i:Int),bp n rows t (t.st.af i))/\bV (t.st.af i) t.mp=some i:=by
 rcases D0 (n:=n) (rows:=rows) t t.af with⟨h1,a⟩ | ⟨b,h1,a,d,g⟩
 .exact .inl ⟨λj c=>h1 _ (jK h.aW c),a⟩
 .obtain⟨i,hi,e,k⟩:=lQ h.aW h1;subst e;exact .inr ⟨i,hi,a,λj c l hb=>by have:=d _ (jK h.aW c) hb;omega,g,h.ln i _ k⟩
theorem kM{n:Nat}{rows:List R}{t:TL}(eg:Bool)(p:Nat)(h:iw n rows t.val t.af= (-1,0)):bU n rows eg p t= (none,true,t):=by
 cases p with
 | zero=>rw [bU,h,if_pos (by decide)]
 | succ p=>rw [bU,h,if_pos (by decide)]
theorem oE{n:Nat}{rows:List R}{t:TL}(eg:Bool){b:Nat}{w:Int}(h:iw n rows t.val t.af= ((b:Int),w)):bU n rows eg 0 t= (none,false,t):=by rw [bU,h,if_neg (by show ¬(b:Int) < 0;omega)]
theorem nr{n:Nat}{rows:List R}{t:TL}(eg:Bool)(p:Nat){b i:Nat}{w:Int}(h:iw n rows t.val t.af= ((b:Int),w))(a:bV b t.mp=some i):
  bU n rows eg (p+1) t=match aT n rows t.val w (au t.aj i) 0 with
   | none=>(some (iE n rows.length w b (au t.aj i)),true,t)
   | some v=>bU n rows eg p (gv n rows eg b w i v t):=by
 have hb:((b:Nat):Int).toNat=b:=by omega
 rw [bU,h,if_neg (by show ¬(b:Int) < 0;omega)];simp only [hb,a,Ts]
theorem HO{n:Nat}{rows:List R}(t:TL){w:Int}(c:w=1\/w= -1){row:List Nm}(h:aT n rows t.val w row 0=none){v:Nat}(hv:v < n):nv (ao row v)=0:=by refine UW λa=> ?_;have h1:=tH h v (Vx _) (by rw [TZ];exact a);rw [TZ] at h1;have b:=(rf (n:=n) (rows:=rows) t c (q:=nv (ao row v)) (v:=v) a).2 ⟨λ_=> .inl hv,λ_=> .inl hv⟩;rw [h1] at b;cases b
theorem sM(n:Nat)(rows:List R)(t:TL)(b:Nat):bp n rows t b=1\/bp n rows t b= -1:=by unfold bp;split;exact .inr rfl;exact .inl rfl
theorem RU{n:Nat}{rows:List R}(f:Fl)(ro:ef n rows)(o:f.eg=true):∀(p:Nat) (t:TL),p<=100000->bq n rows t->
  Or pA [r0,I (p:Int)] (S2 n rows f t)=some (eD (bU n rows true p t).1::tb (bU n rows true p t).2.1::fi n rows f (bU n rows true p t).2.2):=by
 intro p;induction p using Nat.strongRecOn with
 | _ p B=>
 intro t H h;have a:=ro.sz;have d:=h.val ro;have r:=h.aj ro;have hm:=a.m;have kb:=J1 a f.er f.eb f.ev f.eg t.af t.val t.aw h.aW.v d (by omega) h.aW.lt (by rw [h.aW.b];omega);rcases kG h with⟨_,hb⟩ | ⟨i,hi,k,s,hb,y⟩
 .rw [hb] at kb;rw [kM true _ hb,dJ];have h1:(-1:Int) < 0:=by decide
  refine an ?_;rw [AR];simp only [ak,↓reduceIte,Int.reduceBEq,Int.reduceEq,GD,kb,h1,cu,cA,eD]
 .rw [hb] at kb;have h1:¬(t.st.af i:Int) < 0:=by omega
  cases p with
  | zero=>rw [oE true hb,dJ];have q:((0:Nat):Int)=0:=rfl;refine an ?_;rw [AR];simp only [ak,↓reduceIte,Int.reduceBEq,Int.reduceEq,GD,kb,h1,q,cu,cA,eD]
  | succ p=>
   have D:=h.aW.c;have q:¬((p+1:Nat):Int)=0:=by omega
   have z:i64.wrap (((p+1:Nat):Int) - 1)= (p:Int):=by rw [Go.Aev.wr (by omega)];omega
   have x: 0<=(i:Int)/\(i:Int) < (t.aj.length:Int):=by omega
   have w:=kQ (aj:=t.aj) (i:=i) (by omega);have u:=jx (aj:=t.aj) (i:=i) (by omega);have l:=tP (t.st.af i) t.mp;rw [y] at l;have A:=iL (t:=t) (i:=i) (by rw [h.aW.b];exact hi);have g:=sM n rows t (t.st.af i);have E:bp n rows t (t.st.af i)≠0:=by rcases g with e | e <;> rw [e] <;> decide
   rw [nr true p hb y];have:=RW (n:=n) (rows:=rows) f t a h.aW hi A k.1 g o d r (λv hv=>h.yh hi hv) (by omega) (by omega) (by omega) (p:Int)
    (λj v hv=>HO t g j hv)
    (res:=eD (match aT n rows t.val (bp n rows t (t.st.af i)) (au t.aj i) 0 with
     | none=>(some (iE n rows.length (bp n rows t (t.st.af i)) (t.st.af i) (au t.aj i)),true,t)
     | some v=>bU n rows true p (gv n rows true (t.st.af i) (bp n rows t (t.st.af i)) i v t)).1::
     tb (match aT n rows t.val (bp n rows t (t.st.af i)) (au t.aj i) 0 with
     | none=>(some (iE n rows.length (bp n rows t (t.st.af i)) (t.st.af i) (au t.aj i)),true,t)
     | some v=>bU n rows true p (gv n rows true (t.st.af i) (bp n rows t (t.st.af i)) i v t)).2.1::
     fi n rows f (match aT n rows t.val (bp n rows t (t.st.af i)) (au t.aj i) 0 with
     | none=>(some (iE n rows.length (bp n rows t (t.st.af i)) (t.st.af i) (au t.aj i)),true,t)
     | some v=>bU n rows true p (gv n rows true (t.st.af i) (bp n rows t (t.st.af i)) i v t)).2.2)
    (by
     cases j:aT n rows t.val (bp n rows t (t.st.af i)) (au t.aj i) 0 with
     | none=>rfl
     | some v=>
      obtain⟨F,G,_⟩:=iB j;obtain⟨C,_⟩:=h.step true hi (v:=v) (by have:=h.aW.row hi;omega) k j s;rw [o];exact B p (UM p) _ (by omega) C)
    (au t.aj i) 0 rfl rfl
   refine an ?_;rw [AR];simp only [ak,↓reduceIte,Int.reduceBEq,Int.reduceEq,GD,kb,h1,q,z,l,UR,Ts,x,and_self,cB,w,u,bA];exact this
theorem RT{n:Nat}{rows:List R}(f:Fl)(ro:ef n rows)(a:f.eg=true):∀(p:Nat) (t:TL),p<=100000->bq n rows t->
  Or pA [r0,I (p:Int)] (S1 n rows f t)=some (eD (bU n rows true p t).1::tb (bU n rows true p t).2.1::fi n rows f (bU n rows true p t).2.2):=by
 intro p
 skip
 intro t G h;have d:=ro.sz;have g:=h.val ro;have r:=h.aj ro;have hm:=d.m;have kb:=J1 d f.er f.eb f.ev f.eg t.af t.val t.aw h.aW.v g (by omega) h.aW.lt (by rw [h.aW.b];omega);rcases kG h with⟨_,hb⟩ | ⟨i,hi,l,s,hb,y⟩
 .rw [hb] at kb;rw [kM true _ hb,dJ];have h1:(-1:Int) < 0:=by decide
  refine an ?_;rw [AQ];simp only [ak,↓reduceIte,Int.reduceBEq,Int.reduceEq,GD,kb,h1,cu,cA,eD]
 .rw [hb] at kb;have h1:¬(t.st.af i:Int) < 0:=by omega
  cases p with
  | zero=>rw [oE true hb,dJ];have q:((0:Nat):Int)=0:=rfl;refine an ?_;rw [AQ];simp only [ak,↓reduceIte,Int.reduceBEq,Int.reduceEq,GD,kb,h1,q,cu,cA,eD]
  | succ p=>
   have C:=h.aW.c;have q:¬((p+1:Nat):Int)=0:=by omega
   have z:i64.wrap (((p+1:Nat):Int) - 1)= (p:Int):=by rw [Go.Aev.wr (by omega)];omega
   have x: 0<=(i:Int)/\(i:Int) < (t.aj.length:Int):=by omega
   have w:=kQ (aj:=t.aj) (i:=i) (by omega);have u:=jx (aj:=t.aj) (i:=i) (by omega);have o:=tP (t.st.af i) t.mp;rw [y] at o;have A:=iL (t:=t) (i:=i) (by rw [h.aW.b];exact hi);have j:=sM n rows t (t.st.af i);have D:bp n rows t (t.st.af i)≠0:=by rcases j with e | e <;> rw [e] <;> decide
   rw [nr true p hb y];have:=RV (n:=n) (rows:=rows) f t d h.aW hi A l.1 j a g r (λv hv=>h.yh hi hv) (by omega) (by omega) (by omega) (p:Int)
    (λk v hv=>HO t j k hv)
    (res:=eD (match aT n rows t.val (bp n rows t (t.st.af i)) (au t.aj i) 0 with
     | none=>(some (iE n rows.length (bp n rows t (t.st.af i)) (t.st.af i) (au t.aj i)),true,t)
     | some v=>bU n rows true p (gv n rows true (t.st.af i) (bp n rows t (t.st.af i)) i v t)).1::
     tb (match aT n rows t.val (bp n rows t (t.st.af i)) (au t.aj i) 0 with
     | none=>(some (iE n rows.length (bp n rows t (t.st.af i)) (t.st.af i) (au t.aj i)),true,t)
     | some v=>bU n rows true p (gv n rows true (t.st.af i) (bp n rows t (t.st.af i)) i v t)).2.1::
     fi n rows f (match aT n rows t.val (bp n rows t (t.st.af i)) (au t.aj i) 0 with
     | none=>(some (iE n rows.length (bp n rows t (t.st.af i)) (t.st.af i) (au t.aj i)),true,t)
     | some v=>bU n rows true p (gv n rows true (t.st.af i) (bp n rows t (t.st.af i)) i v t)).2.2)
    (by
     cases k:aT n rows t.val (bp n rows t (t.st.af i)) (au t.aj i) 0 with
     | none=>rfl
     | some v=>
      obtain⟨E,F,_⟩:=iB k;obtain⟨B,_⟩:=h.step true hi (v:=v) (by have:=h.aW.row hi;omega) l k s;rw [a];exact RU f ro a p _ (by omega) B)
    (au t.aj i) 0 rfl rfl
   refine an ?_;rw [AQ];simp only [ak,↓reduceIte,Int.reduceBEq,Int.reduceEq,GD,kb,h1,q,z,o,UR,Ts,x,and_self,cB,w,u,bA];exact this
theorem J0{n:Nat}{rows:List R}(f:Fl)(ro:ef n rows)(a:f.eg=true)(p:Nat)(t:TL)(b:p<=100000)(h:bq n rows t):
  Or (.call 16) [r0,I (p:Int)] (S1 n rows f t)=some (eD (bU n rows true p t).1::tb (bU n rows true p t).2.1::fi n rows f (bU n rows true p t).2.2):=by
 have:=RT (n:=n) (rows:=rows) f ro a p t b h;refine an ?_;rw [ME];exact this
open Go Go.Aev Go.Aev.Gen Go.Aev.Wd Go.Aev.Tb
def gm(n m:Nat)(r:R):List Nm:=r.of.map iN++List.replicate (n+m - r.of.length) none
def ix(n k:Nat):List Nat:=(List.range k).map λi=>n+i
def hZ(n k:Nat):Ln:=(List.range k).map λi=>(n+i,i)
def cM(n:Nat)(rows:List R):TL:=⟨ix n rows.length,hZ n rows.length,rows.map (gm n rows.length),List.replicate (n+rows.length) (none,none),[]⟩
def mE(er:Bool)(rows:List R):Fl:=⟨er,decide (rows.length=0),decide (rows.length=0),false,true⟩
theorem KN(n k:Nat):ix n (k+1)=ix n k++ [n+k]:=by simp [ix,WU]
theorem BF(n v:Nat):∀(k:Nat),bV v (hZ n k)=if n<=v/\v < n+k then some (v - n) else none:=by
 have app:∀(l:Ln) (p:Nat×Nat),bV v (l++ [p])=match bV v l with | some i=>some i | none=>if v=p.1 then some p.2 else none:=by
  intro l p;induction l with
  | nil=>rfl
  | cons q l a=>
   simp only [S7,bV];by_cases h:v=q.1
   .simp [h]
   .simp only [if_neg h];exact a
 intro k;induction k with
 | zero=>simp [hZ,bV]
 | succ k a=>
  have:hZ n (k+1)=hZ n k++ [(n+k,k)]:=by simp [hZ,WU]
  rw [this,app,a];by_cases h1:n<=v/\v < n+k
  .rw [if_pos h1];show some (v - n)=_;rw [if_pos (by omega)]
  .rw [if_neg h1];by_cases b:v=n+k
   .simp only [b,if_true];rw [if_pos (by omega)];congr 1;omega
   .simp only [if_neg b];rw [if_neg (by omega)]
theorem Iv(n k:Nat):jb (n+k) k (hZ n k)=hZ n (k+1):=by
 have app:∀(l:Ln) (v i:Nat),bV v l=none->jb v i l=l++ [(v,i)]:=by
  intro l v i;induction l with
  | nil=>intro _;rfl
  | cons q l b=>
   intro h;rw [bV] at h;by_cases a:v=q.1
   .rw [if_pos a] at h;cases h
   .rw [if_neg a] at h;rw [jb,if_neg a,b h];rfl
 rw [app _ _ _ (by rw [BF];rw [if_neg (by omega)])];simp [hZ,WU]
theorem Ho:∀(l:List (List Nm)) (s:Nat) (x:List Nm),bE s l++ [⟨s+l.length,[T.aC],some (false,aQ x)⟩]=bE s (l++ [x])
 | [],s,x=>rfl
 | y::l,s,x=>by have:=Ho l (s+1) x;simp only [bE,S7,Tr];rw [show s+ (l.length+1)=s+1+l.length by omega,this]
theorem OE(l:List (List Nm))(x:List Nm):bE 0 l++ [⟨l.length,[T.aC],some (false,aQ x)⟩]=bE 0 (l++ [x]):=by have:=Ho l 0 x;rwa [TC] at this
theorem Mo(l:List Nat)(x:Nat):cP l++ [[ti (x:Int)]]=cP (l++ [x]):=by simp [cP]
theorem Ms(n:Nat):List.replicate n [tb false,T.str (ByteArray.mk #[]),tb false,T.str (ByteArray.mk #[]),tb false,T.str (ByteArray.mk #[]),tb false,T.str (ByteArray.mk #[])]=dF (List.replicate n (none,none)):=by unfold dF;rw [List.map_replicate];rfl
def zI(n:Nat)(rows:List R)(f:Fl)(t:TL):List T:=
 [ti (n:Int),T.ae 3 f.er (cV rows),T.ae 1 f.eb (cP t.af),bK (bP t.mp),bI f.ec (bE 0 t.aj),T.ae 8 f.ev (dF t.val),T.ae 4 f.eg (aQ t.aw)]
theorem B5(n:Nat)(rows:List R)(f:Fl)(t:TL):zI n rows f t= [ti (n:Int),T.ae 3 f.er (cV rows),T.ae 1 f.eb (cP t.af),bK (bP t.mp),bI f.ec (bE 0 t.aj),T.ae 8 f.ev (dF t.val),T.ae 4 f.eg (aQ t.aw)]:=rfl
section
variable {n:Nat} {rows:List R} (er:Bool)
theorem RR(ro:ef n rows)(k:Nat)(w:k < rows.length)(eb ec:Bool)(val:List Vl){res:List T}
  (r:Or sY [LR er rows,I (n:Int),r0,r0,r0,LR er rows,I (rows.length:Int),I ((k+1:Nat):Int)]
   (S1 n rows ⟨er,false,false,false,true⟩ ⟨ix n (k+1),hZ n (k+1),(rows.take (k+1)).map (gm n rows.length),val,[]⟩)=some res):
  ∀(xs:List Int) (j:Nat),(aS rows k).of.drop j=xs->j<=(aS rows k).of.length->
  Or wv [LR er rows,I (n:Int),r0,r0,r0,I (k:Int),AV.own (Id.c 1),LR er rows,I (rows.length:Int),I (k:Int),ae (aS rows k).e (aS rows k).of,I ((aS rows k).of.length:Int),I (j:Int)]
   [aa.box [I (n:Int),LR er rows,AV.own (Id.c 2),AV.own (Id.c 3),AV.own (Id.c 4),AV.own (Id.c 5),AV.own (Id.c 6)],
    aa.sl false 4 false (aQ (((aS rows k).of.take j).map iN++List.replicate (n+rows.length - j) none)),aa.sl false 1 eb (cP (ix n k)),aa.mp false [Ck.i .i64] (Ck.i .i64) (bP (hZ n k)),
    aa.rows ec 1 0 4 ((rows.take k).map (gm n rows.length)).length (bE 0 ((rows.take k).map (gm n rows.length))),aa.sl false 8 false (dF val),aa.sl false 4 true (aQ [])]=some res:=by
 have M:=ro.sz.n;have hm:=ro.sz.m;have b:=eG w;have J:=ro.len _ b;intro xs;induction xs with
 | nil=>
  intro j h q;have s:=bF h;have h1:¬(j:Int) < ((aS rows k).of.length:Int):=by omega
  have A:(aS rows k).of.take j= (aS rows k).of:=Um s;have E:i64.wrap ((n:Int)+ (k:Int))= ((n+k:Nat):Int):=by rw [Go.Aev.wr (by omega)];omega
  have g:=jE (bs:=24) (n:=((rows.take (k+1)).map (gm n rows.length)).length) (by simp;omega);have H:small 8 ((cP (ix n k)).length+ [[ti ((n+k:Nat):Int)]].length)=some ():=jE (by simp [cP,ix];omega);have d:(rows.take k).map (gm n rows.length)++ [gm n rows.length (aS rows k)]= (rows.take (k+1)).map (gm n rows.length):=by rw [U7,o7 w,US];rfl
  have C:(aS rows k).of.map iN++List.replicate (n+rows.length - j) none=gm n rows.length (aS rows k):=by unfold gm;rw [show j= (aS rows k).of.length by omega]
  have hb:cP (ix n k)++ [[ti ((n+k:Nat):Int)]]=cP (ix n (k+1)):=by rw [KN,Mo]
  have D:gJ [ti ((n+k:Nat):Int)] (ti (k:Int)) (bP (hZ n k))=bP (hZ n (k+1)):=by rw [yy,Iv]
  rw [A,C];have o:=OE ((rows.take k).map (gm n rows.length)) (gm n rows.length (aS rows k));rw [d] at o;have x:((rows.take k).map (gm n rows.length)).length+1= ((rows.take (k+1)).map (gm n rows.length)).length:=by rw [<-d];simp
  refine an ?_;rw [FQ];simp only [ak,↓reduceIte,Int.reduceBEq,Int.reduceEq,GD,h1,bN,cB,g,E,H,hb,D,o,x,next k (by omega)];exact r
 | cons c xs F=>
  intro j h q;obtain⟨p,K,B⟩:=bz h;have h1:(j:Int) < ((aS rows k).of.length:Int):=by omega
  have u: 0<=(j:Int):=by omega
  have L:=ro.of _ b c (SX p);have G:=fy c (by omega);have a:(((aS rows k).of.take j).map iN).length=j:=by simp;omega
  have y:List.replicate (n+rows.length - j) (none:Nm)=none::List.replicate (n+rows.length - (j+1)) none:=by rw [show n+rows.length - j= (n+rows.length - (j+1))+1 by omega,TX]
  have v:(j:Int) < ((((aS rows k).of.take j).map iN++none::List.replicate (n+rows.length - (j+1)) none).length:Int):=by rw [Uh,a];simp;omega
  have g:=jQ (l:=((aS rows k).of.take j).map iN++none::List.replicate (n+rows.length - (j+1)) none) (i:=j) (by omega) (iN c);rw [qm _ _ _ _ _ a] at g;have z:((aS rows k).of.take j).map iN++iN c::List.replicate (n+rows.length - (j+1)) none= ((aS rows k).of.take (j+1)).map iN++List.replicate (n+rows.length - (j+1)) none:=by rw [U7,p,US];simp
  rw [z] at g;have:=F (j+1) B (by omega);rw [y];refine an ?_;rw [FQ];simp only [ak,↓reduceIte,Int.reduceBEq,Int.reduceEq,GD,h1,u,v,and_self,bN,fW p,G,bA,g,next j (by omega)];exact this
theorem RS(ro:ef n rows):∀(d k:Nat),d+k=rows.length->
  Or sY [LR er rows,I (n:Int),r0,r0,r0,LR er rows,I (rows.length:Int),I (k:Int)]
   (S1 n rows ⟨er,decide (k=0),decide (k=0),false,true⟩ ⟨ix n k,hZ n k,(rows.take k).map (gm n rows.length),List.replicate (n+rows.length) (none,none),[]⟩)=some (zI n rows (mE er rows) (cM n rows)):=by
 have q:=ro.sz.n;have hm:=ro.sz.m;intro d;induction d with
 | zero=>
  intro k j;obtain rfl:k=rows.length:=by omega
  have h1:¬(rows.length:Int) < (rows.length:Int):=by omega
  have h:rows.take rows.length=rows:=Um (Tl _);rw [h,B5];refine an ?_;rw [FP];simp only [ak,↓reduceIte,Int.reduceBEq,Int.reduceEq,GD,h1,cu,cA];rfl
 | succ d p=>
  intro k j;have b:k < rows.length:=by omega
  have h1:(k:Int) < (rows.length:Int):=by omega
  have c: 0<=(k:Int):=by omega
  have l:=eC (o7 b);have o:i64.wrap ((n:Int)+ (rows.length:Int))= ((n+rows.length:Nat):Int):=by rw [Go.Aev.wr (by omega)];omega
  have g:=pW (k:=n+rows.length) (by omega);have i:((n+rows.length:Nat):Int).toNat=n+rows.length:=by omega
  have e:decide (k+1=0)=false:=by simp
  have a:=p (k+1) (by omega);rw [e] at a;have:=RR er ro k b (decide (k=0)) (decide (k=0)) _ a (aS rows k).of 0 rfl (Vx _);simp only [Vs,VA,S8,TZ] at this;refine an ?_;rw [FP];simp only [ak,↓reduceIte,Int.reduceBEq,Int.reduceEq,GD,h1,c,and_self,bB,l,o,g,i,rz,bN];exact this
theorem JZ(ro:ef n rows):Or (.call 15) [LR er rows,I (n:Int)] []=some (zI n rows (mE er rows) (cM n rows)):=by
 have d:=ro.sz.n;have hm:=ro.sz.m;have c:i64.wrap ((n:Int)+ (rows.length:Int))= ((n+rows.length:Nat):Int):=by rw [Go.Aev.wr (by omega)];omega
 have a:=pW (k:=n+rows.length) (by omega);have b:((n+rows.length:Nat):Int).toNat=n+rows.length:=by omega
 have:=RS er ro rows.length 0 rfl;refine an ?_;rw [MD];simp only [ak,↓reduceIte,Int.reduceBEq,Int.reduceEq,GD,bB,c,a,b,Ms];exact this
end
open Go Go.Aev Go.Aev.Gen Go.Aev.Wd Go.Aev.Tb
abbrev LF:=Int×Vl×Bool
def lG(n:Nat)(rows:List R)(x:Nat)(a:Nm):Vl:=if nv a < 0 then hJ n rows x else bu n rows x
def iM(n:Nat)(rows:List R)(x:Nat)(a:Nm):Bool:=if nv a < 0 then eV n rows x else !decide (x < n)
def fk(n:Nat)(rows:List R)(t:TL)(x:Nat)(a:Nm):Vl:=fg (nT (lG n rows x a) (aG t.val x)) (ov (iN 1) a)
def eK(n:Nat)(rows:List R)(t:TL)(x:Nat)(a:Nm)(i:Int)(s:LF):Prop:=
 (if s.2.2=true then eu s.2.1 (fk n rows t x a) else 1) > 0\/((if s.2.2=true then eu s.2.1 (fk n rows t x a) else 1)=0/\i>=0/\(s.1 < 0\/(x:Int) < (t.af.getD s.1.toNat 0:Nat)))
instance (n:Nat) (rows:List R) (t:TL) (x:Nat) (a:Nm) (i:Int) (s:LF):Decidable (eK n rows t x a i s):=by unfold eK;infer_instance
def dm(n:Nat)(rows:List R)(t:TL)(x:Nat)(a:Nm)(i:Int)(s:LF):LF:=
 if nv a=0\/iM n rows x a=false then s else if eK n rows t x a i s then(i,fk n rows t x a,true) else s
abbrev S5(n:Nat)(rows:List R)(f:Fl)(t:TL)(s:LF):List aa:=
 [aa.box [AV.ref (Id.c 4) 0],aa.box [B s.2.2],wU s.2.1,aa.box [I s.1],
  aa.box [I (n:Int),AV.t (T.ae 3 f.er (cV rows)),AV.own (Id.c 5),AV.own (Id.c 6),AV.own (Id.c 7),AV.own (Id.c 8),AV.own (Id.c 9)],aa.sl false 1 f.eb (cP t.af),aa.mp false [Ck.i .i64] (Ck.i .i64) (bP t.mp),
   aa.rows f.ec 1 0 4 t.aj.length (bE 0 t.aj),aa.sl false 8 f.ev (dF t.val),aa.sl false 4 f.eg (aQ t.aw)]
theorem DV{n:Nat}{rows:List R}(sz:Sz n rows){x:Nat}(b:x < n+rows.length)(a:Nm):VB 20 (lG n rows x a):=by
 unfold lG;split
 .exact uf sz b
 .exact qz sz b
theorem rW(q:Rat):q.num.sign < 0↔q < 0:=by
 constructor
 .intro h;refine Rat.not_le.1 λb=> ?_;have h1:=WB.2 b;rcases Int.lt_or_eq_of_le h1 with a | a
  .rw [Us a] at h;exact absurd h (by decide)
  .rw [<-a] at h;exact absurd h (by decide)
 .intro h;have h1:¬0<=q.num:=λh1=>by have:=WB.1 h1;grind
  rw [Up (by omega)];decide
section
variable {n:Nat} {rows:List R} (f:Fl) (t:TL)
set_option maxRecDepth 20000 in
theorem JW{mv Z ms:Nat}(sz:Sz n rows)(P:cF n rows.length t)(hq:∀u,u < n+rows.length->VB mv (aG t.val u)){x:Nat}(V:x < n+rows.length){a:Nm}(ha:QN Z a)(i:Int)(s:LF)
  (hs:VB ms s.2.1) (hl:s.1 < (rows.length:Int)) (h1s: 20<=mv) (h2s:mv+20+1+ (2+Z)<=3000) (h3s:ms<=3000):
  Or (.call 71) [I (x:Int),EN a,I i,AV.ref (Id.c 0) 0,AV.ref (Id.c 1) 0,AV.ref (Id.c 2) 0,AV.ref (Id.c 3) 0] (S5 n rows f t s)=
   some (T.aC::tb (dm n rows t x a i s).2.2:: (VC (dm n rows t x a i s).2.1++ti (dm n rows t x a i s).1::fi n rows f t)):=by
 obtain⟨ln,gP,H⟩:=s;have hn:=sz.n;have hm:=sz.m;have B:=sF sz f.er f.eb f.ev f.eg t.af t.val t.aw V;have D:=uX sz f.er f.eb f.ev f.eg t.af t.val t.aw V;have ks:=lf a;have w: 0<=(x:Int)/\(x:Int) < (t.val.length:Int):=by have:=P.v;omega
 have G:=mz (mR (val:=t.val) (i:=x) (by have:=P.v;omega));rw [cC] at B D;simp only [S7,S8] at B D;rw [dJ,cC];simp only [S7,S8];by_cases Q:nv a=0
 .have j:=(fO (nv a)).2 Q;have e:dm n rows t x a i (ln,gP,H)= (ln,gP,H):=by unfold dm;rw [if_pos (.inl Q)]
  have X:¬(0:Int) < 0:=by omega
  rw [e];refine an ?_;rw [gZ];cases L:decide (x < n)
  .simp only [bD,ak,↓reduceIte,Int.reduceBEq,Int.reduceEq,GD,bX,B,ks,j,L,X,Tj,Th,cu,cA]
  .simp only [bD,ak,↓reduceIte,Int.reduceBEq,Int.reduceEq,GD,bX,B,ks,j,L,X,Tj,Th,cu,cA]
 .have j:¬(nv a).num.sign=0:=λh'=>Q ((fO _).1 h');have y:=fy 1 (by omega);have q1:QN 2 (iN 1):=dS (by decide);obtain⟨z,Y⟩:=mH q1 ha (by omega) Q;have qb:=DV sz V a;have k:=uU qb (hq x V) (by omega);have qs:=sB qb (hq x V);have g:=pd (b:=ov (iN 1) a) qs Y (by omega);have qd:VB (20+mv+1+ (2+Z)) (fk n rows t x a):=nD (b:=ov (iN 1) a) qs Y;have d:=uT hs qd (by omega);rw [show fg (nT (lG n rows x a) (aG t.val x)) (ov (iN 1) a)=fk n rows t x a from rfl] at g;rw [cC] at k g;have q:¬(0:Int) > 0:=by decide
  have r:¬(0:Int) < 0:=by decide
  have W:(1:Int) > 0:=by decide
  by_cases K:nv a < 0
  .have p:(nv a).num.sign < 0:=(rW _).2 K;have S:lG n rows x a=hJ n rows x:=by unfold lG;rw [if_pos K]
   have M:iM n rows x a= (eV n rows x):=by unfold iM;rw [if_pos K]
   rw [S] at k g;cases F:(eV n rows x)
   .have e:dm n rows t x a i (ln,gP,H)= (ln,gP,H):=by unfold dm;rw [if_pos (.inr (by rw [M,F]))]
    rw [e];rw [F] at D;refine an ?_;rw [gZ];simp only [bD,ak,↓reduceIte,Int.reduceBEq,Int.reduceEq,GD,bX,B,D,ks,j,w,G,and_self,cD,dc,k,y,z,g,d,Tj,Th,cu,cA,Ts,TS,q,r,cC,p,decide_true,decide_false]
   .have e:dm n rows t x a i (ln,gP,H)=if eK n rows t x a i (ln,gP,H) then(i,fk n rows t x a,true) else(ln,gP,H):=by
     unfold dm;rw [if_neg];rintro(h | h)
     .exact Q h
     .rw [M,F] at h;cases h
    rw [F] at D;cases H
    .rw [e,if_pos (by unfold eK;exact .inl (by simp))];refine an ?_;rw [gZ];simp only [bD,ak,↓reduceIte,Int.reduceBEq,Int.reduceEq,GD,bX,B,D,ks,j,w,G,and_self,cD,dc,k,y,z,g,d,Tj,Th,cu,cA,Ts,TS,q,r,cC,p,decide_true,decide_false,W]
    .by_cases C:eu gP (fk n rows t x a) > 0
     .rw [e,if_pos (by unfold eK;exact .inl (by simpa using C))];refine an ?_;rw [gZ];simp only [bD,ak,↓reduceIte,Int.reduceBEq,Int.reduceEq,GD,bX,B,D,ks,j,w,G,and_self,cD,dc,k,y,z,g,d,Tj,Th,cu,cA,Ts,TS,q,r,cC,p,decide_true,decide_false,C]
     .by_cases o:eu gP (fk n rows t x a)=0
      .by_cases A:i>=0
       .by_cases E:ln < 0
        .rw [e,if_pos (by unfold eK;exact .inr ⟨by simpa using o,A, .inl E⟩)];refine an ?_;rw [gZ];simp only [bD,ak,↓reduceIte,Int.reduceBEq,Int.reduceEq,GD,bX,B,D,ks,j,w,G,and_self,cD,dc,k,y,z,g,d,Tj,Th,cu,cA,Ts,TS,q,r,cC,p,decide_true,decide_false,o,A,E]
        .obtain⟨l,rfl⟩:∃l:Nat,ln= (l:Int):=⟨ln.toNat,by omega⟩;have U:l < t.af.length:=by rw [P.b];simp only at hl;omega
         have O: 0<=(l:Int)/\(l:Int) < (t.af.length:Int):=by omega
         have N:=jv (iL (t:=t) U);have hbl:t.af.getD ((l:Int)).toNat 0=t.st.af l:=rfl;by_cases J:(x:Int) < (t.st.af l:Int)
         .rw [e,if_pos (by unfold eK;exact .inr ⟨by simpa using o,A, .inr J⟩)];refine an ?_;rw [gZ];simp only [bD,ak,↓reduceIte,Int.reduceBEq,Int.reduceEq,GD,bX,B,D,ks,j,w,G,and_self,cD,dc,k,y,z,g,d,Tj,Th,cu,cA,Ts,TS,q,r,cC,p,decide_true,decide_false,o,A,E,O,N,J]
         .rw [e,if_neg (by unfold eK;rintro(h | ⟨_,_,h | h⟩);exact C (by simpa using h);exact E h;exact J h)];refine an ?_;rw [gZ];simp only [bD,ak,↓reduceIte,Int.reduceBEq,Int.reduceEq,GD,bX,B,D,ks,j,w,G,and_self,cD,dc,k,y,z,g,d,Tj,Th,cu,cA,Ts,TS,q,r,cC,p,decide_true,decide_false,o,A,E,O,N,J]
       .rw [e,if_neg (by unfold eK;rintro(h | ⟨_,h,_⟩);exact C (by simpa using h);exact A h)];refine an ?_;rw [gZ];simp only [bD,ak,↓reduceIte,Int.reduceBEq,Int.reduceEq,GD,bX,B,D,ks,j,w,G,and_self,cD,dc,k,y,z,g,d,Tj,Th,cu,cA,Ts,TS,q,r,cC,p,decide_true,decide_false,o,A]
      .rw [e,if_neg (by unfold eK;rintro(h | ⟨h,_⟩);exact C (by simpa using h);exact o (by simpa using h))];refine an ?_;rw [gZ];simp only [bD,ak,↓reduceIte,Int.reduceBEq,Int.reduceEq,GD,bX,B,D,ks,j,w,G,and_self,cD,dc,k,y,z,g,d,Tj,Th,cu,cA,Ts,TS,q,r,cC,p,decide_true,decide_false,C,o]
  .have p:¬(nv a).num.sign < 0:=λh=>K ((rW _).1 h);have S:lG n rows x a=bu n rows x:=by unfold lG;rw [if_neg K]
   have M:iM n rows x a= (!decide (x < n)):=by unfold iM;rw [if_neg K]
   rw [S] at k g;cases F:(!decide (x < n))
   .have e:dm n rows t x a i (ln,gP,H)= (ln,gP,H):=by unfold dm;rw [if_pos (.inr (by rw [M,F]))]
    rw [e];have L:decide (x < n)=true:=by cases h:decide (x < n);rw [h] at F;cases F;rfl
    rw [L] at B;refine an ?_;rw [gZ];simp only [bD,ak,↓reduceIte,Int.reduceBEq,Int.reduceEq,GD,bX,B,D,ks,j,w,G,and_self,cD,dc,k,y,z,g,d,Tj,Th,cu,cA,Ts,TS,q,r,cC,p,decide_true,decide_false]
   .have e:dm n rows t x a i (ln,gP,H)=if eK n rows t x a i (ln,gP,H) then(i,fk n rows t x a,true) else(ln,gP,H):=by
     unfold dm;rw [if_neg];rintro(h | h)
     .exact Q h
     .rw [M,F] at h;cases h
    have L:decide (x < n)=false:=by cases h:decide (x < n);rfl;rw [h] at F;cases F
    rw [L] at B;cases H
    .rw [e,if_pos (by unfold eK;exact .inl (by simp))];refine an ?_;rw [gZ];simp only [bD,ak,↓reduceIte,Int.reduceBEq,Int.reduceEq,GD,bX,B,D,ks,j,w,G,and_self,cD,dc,k,y,z,g,d,Tj,Th,cu,cA,Ts,TS,q,r,cC,p,decide_true,decide_false,W]
    .by_cases C:eu gP (fk n rows t x a) > 0
     .rw [e,if_pos (by unfold eK;exact .inl (by simpa using C))];refine an ?_;rw [gZ];simp only [bD,ak,↓reduceIte,Int.reduceBEq,Int.reduceEq,GD,bX,B,D,ks,j,w,G,and_self,cD,dc,k,y,z,g,d,Tj,Th,cu,cA,Ts,TS,q,r,cC,p,decide_true,decide_false,C]
     .by_cases o:eu gP (fk n rows t x a)=0
      .by_cases A:i>=0
       .by_cases E:ln < 0
        .rw [e,if_pos (by unfold eK;exact .inr ⟨by simpa using o,A, .inl E⟩)];refine an ?_;rw [gZ];simp only [bD,ak,↓reduceIte,Int.reduceBEq,Int.reduceEq,GD,bX,B,D,ks,j,w,G,and_self,cD,dc,k,y,z,g,d,Tj,Th,cu,cA,Ts,TS,q,r,cC,p,decide_true,decide_false,o,A,E]
        .obtain⟨l,rfl⟩:∃l:Nat,ln= (l:Int):=⟨ln.toNat,by omega⟩;have U:l < t.af.length:=by rw [P.b];simp only at hl;omega
         have O: 0<=(l:Int)/\(l:Int) < (t.af.length:Int):=by omega
         have N:=jv (iL (t:=t) U);have hbl:t.af.getD ((l:Int)).toNat 0=t.st.af l:=rfl;by_cases J:(x:Int) < (t.st.af l:Int)
         .rw [e,if_pos (by unfold eK;exact .inr ⟨by simpa using o,A, .inr J⟩)];refine an ?_;rw [gZ];simp only [bD,ak,↓reduceIte,Int.reduceBEq,Int.reduceEq,GD,bX,B,D,ks,j,w,G,and_self,cD,dc,k,y,z,g,d,Tj,Th,cu,cA,Ts,TS,q,r,cC,p,decide_true,decide_false,o,A,E,O,N,J]
         .rw [e,if_neg (by unfold eK;rintro(h | ⟨_,_,h | h⟩);exact C (by simpa using h);exact E h;exact J h)];refine an ?_;rw [gZ];simp only [bD,ak,↓reduceIte,Int.reduceBEq,Int.reduceEq,GD,bX,B,D,ks,j,w,G,and_self,cD,dc,k,y,z,g,d,Tj,Th,cu,cA,Ts,TS,q,r,cC,p,decide_true,decide_false,o,A,E,O,N,J]
       .rw [e,if_neg (by unfold eK;rintro(h | ⟨_,h,_⟩);exact C (by simpa using h);exact A h)];refine an ?_;rw [gZ];simp only [bD,ak,↓reduceIte,Int.reduceBEq,Int.reduceEq,GD,bX,B,D,ks,j,w,G,and_self,cD,dc,k,y,z,g,d,Tj,Th,cu,cA,Ts,TS,q,r,cC,p,decide_true,decide_false,o,A]
      .rw [e,if_neg (by unfold eK;rintro(h | ⟨h,_⟩);exact C (by simpa using h);exact o (by simpa using h))];refine an ?_;rw [gZ];simp only [bD,ak,↓reduceIte,Int.reduceBEq,Int.reduceEq,GD,bX,B,D,ks,j,w,G,and_self,cD,dc,k,y,z,g,d,Tj,Th,cu,cA,Ts,TS,q,r,cC,p,decide_true,decide_false,C,o]
end
open Go Go.Aev Go.Aev.Gen Go.Aev.Wd Go.Aev.Tb
def gH(n:Nat)(rows:List R)(t:TL)(v:Nat)(ai:Int):List Nat->List (List Nm)->Nat->LF->LF
 | b::bs,x::xs,i,s=>gH n rows t v ai bs xs (i+1) (dm n rows t b (tm (ao x v) (iN ai)) (i:Int) s)
 | _,_,_,s=>s
def bf(n:Nat)(rows:List R)(t:TL)(v:Nat)(ai:Int):LF:=gH n rows t v ai t.af t.aj 0 (dm n rows t v (iN ai) (-1) (-1,(none,none),false))
abbrev Ae:aa:=aa.box [B false,AV.t (T.str (ByteArray.mk #[])),B false,AV.t (T.str (ByteArray.mk #[])),B false,AV.t (T.str (ByteArray.mk #[])),B false,AV.t (T.str (ByteArray.mk #[]))]
abbrev S6(n:Nat)(rows:List R)(f:Fl)(t:TL)(s:LF):List aa:=
 [aa.box [I (n:Int),AV.t (T.ae 3 f.er (cV rows)),AV.own (Id.c 1),AV.own (Id.c 2),AV.own (Id.c 11),AV.own (Id.c 4),AV.own (Id.c 5)],aa.sl false 1 f.eb (cP t.af),aa.mp false [Ck.i .i64] (Ck.i .i64) (bP t.mp),
  aa.dead,aa.sl false 8 f.ev (dF t.val),aa.sl false 4 f.eg (aQ t.aw),aa.box [AV.ref (Id.c 0) 0],Ae,aa.box [I s.1],aa.box [B s.2.2],wU s.2.1,aa.rows f.ec 1 0 4 t.aj.length (bE 0 t.aj)]
theorem Db(m:Nat):VB m (none,none):=⟨im _,im _⟩
theorem xd{n:Nat}{rows:List R}(sz:Sz n rows){t:TL}{mv c M:Nat}{x:Nat}(l:x < n+rows.length)(k:VB mv (aG t.val x)){a:Nm}(j:QN c a)(h1:mv+c+25<=M)(m:M<=6000)(i:Int){s:LF}(hs:VB M s.2.1):
  VB M (dm n rows t x a i s).2.1:=by
 unfold dm;by_cases h:nv a=0\/iM n rows x a=false
 .rw [if_pos h];exact hs
 .rw [if_neg h];split
  .have g:nv a≠0:=λe=>h (.inl e);have q1:QN 2 (iN 1):=dS (by decide);obtain⟨_,d⟩:=mH q1 j (by omega) g;exact(nD (b:=ov (iN 1) a) (sB (DV sz l a) k) d).mono (by omega)
  .exact hs
theorem Aq(n:Nat)(rows:List R)(t:TL)(x:Nat)(a:Nm)(i:Int)(s:LF):(dm n rows t x a i s).1=i\/(dm n rows t x a i s).1=s.1:=by
 unfold dm;split
 .exact .inr rfl
 .split
  .exact .inl rfl
  .exact .inr rfl
section
variable {n:Nat} {rows:List R} (f:Fl) (t:TL)
set_option maxRecDepth 20000 in
theorem Sl{mv mc:Nat}(sz:Sz n rows)(d:cF n rows.length t)(F:∀u,u < n+rows.length->VB mv (aG t.val u))(Q:∀x∈t.aj,∀y∈x,QN mc y)
  {v:Nat} (hv:v < n+rows.length) {ai:Int} (H:ai=1\/ai= -1) (w: 20<=mv) (V:mv+mc+40<=2000):
  ∀(bs:List Nat) (xs:List (List Nm)) (i:Nat) (s:LF),t.af.drop i=bs->t.aj.drop i=xs->VB (mv+mc+40) s.2.1->s.1 < (rows.length:Int)->
  Or zH [I (v:Int),I ai,AV.ref (Id.c 6) 0,AV.ref (Id.c 7) 0,AV.ref (Id.c 8) 0,AV.ref (Id.c 9) 0,AV.ref (Id.c 10) 0,AV.fn 71 [] [AV.ref (Id.c 6) 0,AV.ref (Id.c 9) 0,AV.ref (Id.c 10) 0,AV.ref (Id.c 8) 0],AV.own (Id.c 1),I (t.af.length:Int),I (i:Int)] (S6 n rows f t s)=
   some (ti (gH n rows t v ai bs xs i s).1:: (VC (gH n rows t v ai bs xs i s).2.1++tb (gH n rows t v ai bs xs i s).2.2::fi n rows f t)):=by
 have hn:=sz.n;have hm:=sz.m;have W:=d.b;have X:=d.c;intro bs;induction bs with
 | nil=>
  intro xs i s hb o h j;have h1:¬(i:Int) < (t.af.length:Int):=by have:=bF hb;omega
  have E:gH n rows t v ai [] xs i s=s:=by cases xs <;> rfl
  rw [E,dJ,cC];refine an ?_;rw [FZ];simp only [ak,↓reduceIte,Int.reduceBEq,Int.reduceEq,GD,h1,cu,cA];rfl
 | cons b bs S=>
  intro xs i s hb o h j;obtain⟨q,Z,P⟩:=bz hb;cases xs with
  | nil=>have:=bF o;omega
  | cons x xs=>
   obtain⟨p,x2,U⟩:=bz o;have Y:=d.r x (SX p);have g:=d.lt b (SX q);have h1:(i:Int) < (t.af.length:Int):=by omega
   have C: 0<=(i:Int):=by omega
   have D:(i:Int) < (t.aj.length:Int):=by omega
   have G: 0<=(v:Int)/\(v:Int) < (x.length:Int):=by omega
   have z:au t.aj i=x:=by have:=iQ (aj:=t.aj) (i:=i) (by omega);rw [p] at this;exact(TE this).symm
   have B:=kQ (aj:=t.aj) (i:=i) (by omega);have A:=jx (aj:=t.aj) (i:=i) (by omega);rw [z] at B A;have J:=fy ai (by rcases H with rfl | rfl <;> decide);have O:QN 2 (iN ai):=by rcases H with rfl | rfl <;> exact dS (by decide)
   have L:QN mc (ao x v):=Q x (SX p) _ (SX (gg (by omega)));have K:=kT L O (by omega);have N:QN (mc+2) (tm (ao x v) (iN ai)):=L.mul O;have a:=JW (n:=n) (rows:=rows) f t sz d F g N (i:Int) s h j w (by omega) (by omega);have T:=xd sz (t:=t) g (F b g) N (M:=mv+mc+40) (by omega) (by omega) (i:Int) h;have k:(dm n rows t b (tm (ao x v) (iN ai)) (i:Int) s).1 < (rows.length:Int):=by
    rcases Aq n rows t b (tm (ao x v) (iN ai)) (i:Int) s with e | e <;> rw [e]
    .omega
    .exact j
   have:=S xs (i+1) (dm n rows t b (tm (ao x v) (iN ai)) (i:Int) s) P U T k;rw [gH];generalize dm n rows t b (tm (ao x v) (iN ai)) (i:Int) s=s2 at a this⊢;rw [dJ,cC] at a;simp only [S7,S8] at a;refine an ?_;rw [FZ];simp only [ak,↓reduceIte,Int.reduceBEq,Int.reduceEq,GD,dB,bX,h1,C,D,and_self,dc,jv q,cB,B,A,G,bA,cg (gg (l:=x) (i:=v) (by omega)),J,K,a,dA,cZ,S9,next i (by omega)];exact this
set_option maxRecDepth 20000 in
theorem J3{mv mc:Nat}(sz:Sz n rows)(g:cF n rows.length t)(h:∀u,u < n+rows.length->VB mv (aG t.val u))(q:∀x∈t.aj,∀y∈x,QN mc y)
  {v:Nat} (hv:v < n+rows.length) {ai:Int} (k:ai=1\/ai= -1) (d: 20<=mv) (l:mv+mc+40<=2000):
  Or (.call 48) [r0,I (v:Int),I ai] (S1 n rows f t)=
   some (ti (bf n rows t v ai).1:: (VC (bf n rows t v ai).2.1++tb (bf n rows t v ai).2.2::fi n rows f t)):=by
 have w:=sz.n;have hm:=sz.m;have o:=fy ai (by rcases k with rfl | rfl <;> decide);have p:QN 2 (iN ai):=by rcases k with rfl | rfl <;> exact dS (by decide)
 have a:=JW (n:=n) (rows:=rows) f t sz g h hv p (-1) (-1,(none,none),false) (Db 2) (by show(-1:Int) < _;omega) d (by omega) (by omega);have r:=xd sz (t:=t) hv (h v hv) p (M:=mv+mc+40) (by omega) (by omega) (-1) (s:=(-1,(none,none),false)) (Db _);have j:(dm n rows t v (iN ai) (-1) (-1,(none,none),false)).1 < (rows.length:Int):=by
  rcases Aq n rows t v (iN ai) (-1) (-1,(none,none),false) with e | e <;> rw [e]
  .omega
  .show(-1:Int) < _;omega
 have:=Sl (n:=n) (rows:=rows) f t sz g h q hv k d l t.af t.aj 0 _ rfl rfl r j;unfold bf;generalize dm n rows t v (iN ai) (-1) (-1,(none,none),false)=z at a this⊢;rw [dJ,cC] at a;simp only [S7,S8] at a;have hz:wU ((-1:Int),((none,none):Vl),false).2.1=Ae:=rfl;have b:Or (.call 71) [I (v:Int),EN (iN ai),I (-1),AV.ref (Id.c 0) 0,AV.ref (Id.c 1) 0,AV.ref (Id.c 2) 0,AV.ref (Id.c 3) 0]
  [aa.box [AV.ref (Id.c 4) 0],aa.box [B false],Ae,aa.box [I (-1)],
  aa.box [I (n:Int),AV.t (T.ae 3 f.er (cV rows)),AV.own (Id.c 5),AV.own (Id.c 6),AV.own (Id.c 7),AV.own (Id.c 8),AV.own (Id.c 9)],aa.sl false 1 f.eb (cP t.af),aa.mp false [Ck.i .i64] (Ck.i .i64) (bP t.mp),
   aa.rows f.ec 1 0 4 t.aj.length (bE 0 t.aj),aa.sl false 8 f.ev (dF t.val),aa.sl false 4 f.eg (aQ t.aw)]=_:=a
 refine an ?_;rw [M5];simp only [ak,↓reduceIte,Int.reduceBEq,Int.reduceEq,GD,dB,bX,o,b,dA,cZ,S9,cB,dc];exact this
def gK(t:TL)(v:Nat)(ai:Int)(k:Nat):Nm:=match bV k t.mp with
 | some i=>tm (ao (au t.aj i) v) (iN ai)
 | none=>none
def je(n:Nat)(t:TL)(v:Nat)(ai:Int):List Nm:=if v < n then((List.range n).map (gK t v ai)).set v (iN ai) else(List.range n).map (gK t v ai)
theorem Sn{mc:Nat}(p:cF n rows.length t)(M:n<=12)(hm:rows.length<=40)(E:∀x∈t.aj,∀y∈x,QN mc y)(B:∀k i,bV k t.mp=some i->i < rows.length)
  {v:Nat} (hv:v < n+rows.length) {ai:Int} (C:ai=1\/ai= -1) (s:mc+2<=6300):
  ∀(d k:Nat),d+k=n->
  Or tc [r0,I (v:Int),I ai,AV.own (Id.c 6),I (n:Int),I (k:Int)] (S1 n rows f t++ [aa.sl false 4 false (aQ ((List.range k).map (gK t v ai)++List.replicate d none))])=
   some (T.ae 4 false (aQ (je n t v ai))::fi n rows f t):=by
 have L:=p.c;have r:=fy ai (by rcases C with rfl | rfl <;> decide);have K:QN 2 (iN ai):=by rcases C with rfl | rfl <;> exact dS (by decide)
 intro d;induction d with
 | zero=>
  intro k F;obtain rfl:k=n:=by omega
  have h1:¬(k:Int) < (k:Int):=by omega
  simp only [Vr,T7];rw [dJ];unfold je;by_cases q:v < k
  .have a:(v:Int) < (k:Int):=by omega
   have j: 0<=(v:Int)/\(v:Int) < (((List.range k).map (gK t v ai)).length:Int):=by simp;omega
   have m:=jQ (l:=(List.range k).map (gK t v ai)) (i:=v) (by simp;omega) (iN ai);rw [if_pos q];refine an ?_;simp only [S7,S8];rw [xD];simp only [ak,↓reduceIte,Int.reduceBEq,Int.reduceEq,GD,h1,a,j,and_self,bA,r,m,cu,cA]
  .have a:¬(v:Int) < (k:Int):=by omega
   rw [if_neg q];refine an ?_;simp only [S7,S8];rw [xD];simp only [ak,↓reduceIte,Int.reduceBEq,Int.reduceEq,GD,h1,a,cu,cA]
 | succ d H=>
  intro k F;have h1:(k:Int) < (n:Int):=by omega
  have A: 0<=(k:Int):=by omega
  have g:((List.range k).map (gK t v ai)).length=k:=by simp
  have o:(k:Int) < (((List.range k).map (gK t v ai)++List.replicate (d+1) none).length:Int):=by rw [Uh,g];simp;omega
  have:=H (k+1) (by omega);rw [WU,US] at this;simp only [TQ,VA,TN,S7,S8] at this;have b:=tP k t.mp;cases e:bV k t.mp with
  | none=>
   have h:gK t v ai k=none:=by unfold gK;rw [e]
   rw [e] at b;rw [h] at this;refine an ?_;simp only [S7,S8];rw [xD];simp only [ak,↓reduceIte,Int.reduceBEq,Int.reduceEq,GD,h1,b,Ww,TS,W6,next k (by omega)];rw [TX];exact this
  | some i=>
   have hi:=B k i e;have h:gK t v ai k=tm (ao (au t.aj i) v) (iN ai):=by unfold gK;rw [e]
   rw [e] at b;rw [h] at this;have G:=p.row hi;have z: 0<=(i:Int)/\(i:Int) < (t.aj.length:Int):=by omega
   have w:=kQ (aj:=t.aj) (i:=i) (by omega);have u:=jx (aj:=t.aj) (i:=i) (by omega);have j: 0<=(v:Int)/\(v:Int) < ((au t.aj i).length:Int):=by omega
   have J:QN mc (ao (au t.aj i) v):=E _ (SX (iQ (by omega))) _ (SX (gg (by omega)));have D:=kT J K s;have m:=jQ (l:=(List.range k).map (gK t v ai)++List.replicate (d+1) none) (i:=k) (by omega) (tm (ao (au t.aj i) v) (iN ai));rw [TX,qm _ _ _ _ _ g] at m;rw [TX] at o⊢;refine an ?_;simp only [S7,S8];rw [xD];simp only [ak,↓reduceIte,Int.reduceBEq,Int.reduceEq,GD,h1,A,o,b,UR,Ts,W7,z,and_self,cB,w,u,j,bA,cg (gg (l:=au t.aj i) (i:=v) (by omega)),r,D,m,next k (by omega)];exact this
theorem J4{mc:Nat}(d:cF n rows.length t)(h:n<=12)(hm:rows.length<=40)(g:∀x∈t.aj,∀y∈x,QN mc y)(b:∀k i,bV k t.mp=some i->i < rows.length)
  {v:Nat} (hv:v < n+rows.length) {ai:Int} (j:ai=1\/ai= -1) (a:mc+2<=6300):
  Or (.call 49) [r0,I (v:Int),I ai] (S1 n rows f t)=some (T.ae 4 false (aQ (je n t v ai))::fi n rows f t):=by
 have:=Sn (n:=n) (rows:=rows) f t d h hm g b hv j a n 0 rfl;have c:=pW (k:=n) (by omega);have e:((n:Nat):Int).toNat=n:=by omega
 simp only [S7,S8,List.range_zero,VA] at this;refine an ?_;rw [M6];simp only [ak,↓reduceIte,Int.reduceBEq,Int.reduceEq,GD,c,e,rz,bA,UD];exact this
end
end Go.Aev.Wd.Lg
