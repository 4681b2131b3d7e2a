import Derived.Test.YticjdhgokemdlaaGreatMostWeakQ15
set_option linter.all false
namespace Go.Aev.Wd.Lg
open Go Go.Aev Go.Aev.Gen Go.Aev.Wd Go.Aev.Tb Go.IntKind
theorem WF.congr{n m:Nat}{A:Nat->Nat->Rat}{ah bas':Nat->Nat}{c c':Nat->Nat->Rat}(h1:∀i,i < m->ah i=bas' i)(h2:∀i k,i < m->k < n+m->c i k=c' i k)
  (w:WF n m A ah c):WF n m A bas' c' where
 hb:=λi hi=>by rw [<-h1 i hi];exact w.hb i hi
 inj:=λi j hi hj e=>w.inj i j hi hj (by rw [h1 i hi,h1 j hj];exact e)
 z:=λi j hi hj=>by rw [<-h1 j hj,<-h2 i _ hi (w.hb j hj)];exact w.z i j hi hj
 same:=λy=>by
  rw [<-w.same y];unfold Ak;constructor
  .intro h i hi;rw [h1 i hi,h i hi];exact eJ (λk hk=>by rw [h2 i k hi hk])
  .intro h i hi;rw [<-h1 i hi,h i hi];exact eJ (λk hk=>by rw [h2 i k hi hk])
 nb:=by
  obtain⟨nb,n1,n2,n3,n4,n5⟩:=w.nb;refine⟨nb,n1,n2,λr i hr hi=>by rw [<-h1 i hi];exact n3 r i hr hi,λv hv=> ?_,n5⟩;rcases n4 v hv with h | ⟨i,hi,e⟩
  .exact .inl h
  .exact .inr ⟨i,hi,by rw [<-h1 i hi];exact e⟩
theorem iY{t:TL}{i:Nat}(hi:i < t.ah.length):t.ah[i]? =some (t.st.ah i):=by show _=some (t.ah.getD i 0);rw [Ul,Up hi];rfl
theorem QG{l:List Nat}(h:l.Nodup){i j:Nat}{b:Nat}(hi:l[i]? =some b)(e:l[j]? =some b):i=j:=by
 have h1:i < l.length:=(Us.1 hi).1;have c:j < l.length:=(Us.1 e).1;have a:l[i]=b:=(Us.1 hi).2;have e2:l[j]=b:=(Us.1 e).2;rcases Nat.lt_trichotomy i j with g | heq | d
 .exact absurd (by rw [a,e2]) (WM.1 h i j h1 c g)
 .exact heq
 .exact absurd (by rw [a,e2]) (WM.1 h j i c h1 d)
theorem uX{l:List Nm}{i:Nat}(h:i < l.length)(x:Nm)(j:Nat):aq (l.set i x) j=if j=i then x else aq l j:=by
 unfold aq;rw [Ul,Ul,VG];by_cases a:j=i
 .subst a;simp [h]
 .have:¬i=j:=λe=>a e.symm;simp [a,this]
theorem LX{l:List (List Nm)}{i:Nat}(h:i < l.length)(x:List Nm)(j:Nat):az (l.set i x) j=if j=i then x else az l j:=by
 unfold az;rw [Ul,Ul,VG];by_cases a:j=i
 .subst a;simp [h]
 .have:¬i=j:=λe=>a e.symm;simp [a,this]
theorem QA{l:List Nm}(g:Nm->Nm){k:Nat}(h:k < l.length):aq (l.map g) k=g (aq l k):=by unfold aq;rw [Ul,Ul,U9,Up h];rfl
theorem Jf{x:List Nm}{v b k:Nat}(hv:v < x.length)(hb:b < x.length)(c:k < x.length)(d:b≠v):nv (aq (cC x v b) k)=gF (λj=>nv (aq x j)) b v k:=by
 unfold cC gF;rw [uX (by simp;exact hb),uX (by simp;exact hv),QA _ c];by_cases h1:k=b
 .rw [if_pos h1,if_pos h1];rfl
 .rw [if_neg h1,if_neg h1];by_cases a:k=v
  .rw [if_pos a,if_pos a];rfl
  .rw [if_neg a,if_neg a];rfl
theorem Kd(c:Nm):∀(b a:List Nm),(iH c b a).length=a.length
 | [],_=>by simp [iH]
 | _::_,[]=>by simp [iH]
 | r::b,y::a=>by simp [iH,Kd c b a]
theorem Kc(c:Nm):∀(b a:List Nm) (k:Nat),k < a.length->a.length<=b.length->nv (aq (iH c b a) k)=nv (aq a k)+nv c * nv (aq b k)
 | [],a,k,h,d=>by simp at d;rw [d] at h;simp at h
 | _::_,[],k,h,_=>by simp at h
 | r::b,y::a,0,_,_=>by
  rw [iH];by_cases e:nv r=0
  .rw [if_pos e];show nv y=nv y+nv c * nv r;rw [e];grind
  .rw [if_neg e];rfl
 | r::b,y::a,k+1,h,d=>by rw [iH];exact Kc c b a k (by simpa using h) (by simpa using d)
theorem KA(row:List Nm)(v:Nat)(l:List Nm):(jy row v l).length=l.length:=by
 unfold jy;split
 .rfl
 .rw [Kd,Vc]
theorem Kz{row l:List Nm}{v k:Nat}(e:row.length=l.length)(hv:v < l.length)(c:k < l.length)(d:nv (aq row v)=0):
  nv (aq (jy row v l) k)=kC (λj=>nv (aq row j)) v (λj=>nv (aq l j)) k:=by
 unfold jy kC;by_cases b:nv (aq l v)=0
 .rw [if_pos b];by_cases a:k=v
  .rw [if_pos a,a];exact b
  .rw [if_neg a];show nv (aq l k)=nv (aq l k)+nv (aq l v) * nv (aq row k);rw [b];grind
 .rw [if_neg b,Kc _ _ _ _ (by rw [Vc];exact c) (by rw [Vc];omega),uX hv];by_cases a:k=v
  .rw [if_pos a,if_pos a,a,d,u5];grind
  .rw [if_neg a,if_neg a]
theorem Ke(row:List Nm)(v i:Nat):∀(xs:List (List Nm)) (k j:Nat),j < xs.length->az (fX row v i k xs) j=if k+j=i then az xs j else jy row v (az xs j)
 | [],_,_,h=>by simp at h
 | x::xs,k,0,_=>by rw [fX];rfl
 | x::xs,k,j+1,h=>by rw [fX];have:=Ke row v i xs (k+1) j (by simpa using h);rw [show k+ (j+1)=k+1+j by omega];exact this
theorem CN(v:Nat)(w:Vl):∀(bs:List Nat) (xs:List (List Nm)) (val:List Vl) (u:Nat),(∀b∈bs,b < val.length)->u∉bs->aI (gV v w bs xs val) u=aI val u
 | [],_,_,_,_,_=>by simp [gV]
 | _::_,[],_,_,_,_=>by simp [gV]
 | b::bs,x::xs,val,u,c,d=>by
  rw [gV,CN v w bs xs _ u (λg a=>by rw [Vc];exact c g (Um _ a)) (λh=>d (Um _ h)),
   qM (c b Uk),if_neg (λe=>d (by rw [e];exact Uk))]
theorem It(v:Nat)(w:Vl):∀(bs:List Nat) (xs:List (List Nm)) (val:List Vl) (j b:Nat),(∀b∈bs,b < val.length)->bs.Nodup->bs[j]? =some b->bs.length=xs.length->
  aI (gV v w bs xs val) b=kN (aI val b) (fB w (aq (az xs j) v))
 | [],_,_,_,_,_,_,h,_=>by simp at h
 | _::_,[],_,_,_,_,_,_,h=>by simp at h
 | c::bs,x::xs,val,0,b,g,k,h,m=>by simp only [Wy,Uh] at h;subst h;have a:=(VE.1 k).1;rw [gV,CN v w bs xs _ c (λi d=>by rw [Vc];exact g i (Um _ d)) a,qM (g c Uk),if_pos rfl];rfl
 | c::bs,x::xs,val,j+1,b,g,k,h,m=>by simp only [Wz] at h;have a:=VE.1 k;have l:b≠c:=λe=>a.1 (by rw [<-e];exact Uj h);rw [gV,It v w bs xs _ j b (λi d=>by rw [Vc];exact g i (Um _ d)) a.2 h (by simpa using m),qM (g c Uk),if_neg l];rfl
structure b8 (n:Nat) (rows:List R) (t:TL):Prop where
 aZ:cL n rows.length t
 ok:(aN n rows).OK t.st
 ln:∀i b,t.ah[i]? =some b->cg b t.mp=some i
 uS:∀v,v∉t.ah->cg v t.mp=none
 ky:ot t.mp
theorem Mf{n:Nat}{rows:List R}(ro:gm n rows)(i k:Nat)(hi:i < rows.length):bw 1000000 ((aN n rows).A i k):=by
 refine bw.int ?_;by_cases a:k < (bf rows i).of.length
 .have:=ro.of _ (jt hi) ((bf rows i).of.getD k 0) (by
   rw [Ul,Up a];exact Wu a)
  omega
 .rw [Ul,VI (by omega)];decide
theorem xE{a:Nat}{D q:Rat}(c:D≠0)(h1:bw (2 ^ a) D)(e:bw (2 ^ a) (D * q)):QB a q:=by
 obtain⟨d,b,i⟩:=h1;obtain⟨u,e2,j⟩:=e;have g:d≠0:=λh=>c (by rw [b,h];rfl);have:q=Rat.divInt u d:=by rw [Rat.divInt_eq_div,<-e2,<-b,VN];have:=XW _ c;grind
 rw [this];exact QB.divInt g j i
theorem EO{K:Nat}(c: 1<=K):∀{a b:Nat},a<=b->bd K a<=bd K b
 | a,0,h=>by
  obtain rfl:a=0:=by omega
  exact UC _
 | a,b+1,h=>by
  by_cases e:a=b+1
  .subst e;exact UC _
  .have:=EO c (a:=a) (b:=b) (by omega);rw [bd];have h1:bd K b<=K * bd K b:=Nat.le_mul_of_pos_left _ (by omega);have d:K * bd K b<=(b+1) * (K * bd K b):=Nat.le_mul_of_pos_left _ (by omega);omega
theorem LA{n:Nat}(h:n<=12):bd 1000000 n<=2 ^ 270:=UY (EO (by decide) h) (by decide+kernel)
theorem b8.den{n:Nat}{rows:List R}{t:TL}(ro:gm n rows)(h:b8 n rows t):∃D:Rat,D≠0/\bw (2 ^ 270) D/\
  (∀i v,i < rows.length->v < n+rows.length->bw (2 ^ 270) (D * nv (aq (az t.al i) v)))/\
  (∀(g G:Nat->Rat),(∀j,j < rows.length->g (t.st.ah j)=0)->(∀k,k < n->bw 1000000 (G k))->
   (∀y,gg n rows.length (aN n rows).A y->sm (n+rows.length) (λk=>g k * y k)=sm n (λk=>G k * y k))->∀v,v < n+rows.length->bw (2 ^ 270) (D * g v)):=by
 obtain⟨D,h1,d,e,l⟩:=h.ok.wf.den (K:=1000000) (by decide) (λi k hi _=>Mf ro i k hi);have hb:=LA ro.sz.n;exact⟨D,h1,d.mono hb,λi v hi hv=>(e i v hi hv).mono hb,λg G a b c v hv=>(l g G a b c v hv).mono hb⟩
theorem b8.al{n:Nat}{rows:List R}{t:TL}(ro:gm n rows)(h:b8 n rows t):∀x∈t.al,∀y∈x,QN 270 y:=by
 obtain⟨D,h1,b,d,_⟩:=h.den ro;intro x a y hy;obtain⟨i,hi,e⟩:=Wa a;obtain⟨k,j,e2⟩:=Wa hy;have m:=h.aZ.c;have o:=h.aZ.r x a;have g:az t.al i=x:=by unfold az;rw [Ul,Up hi];exact e
 have l:aq x k=y:=by unfold aq;rw [Ul,Up j];exact e2
 have:=d i k (by omega) (by omega);rw [g,l] at this;exact xE h1 b this
theorem HB{n:Nat}{rows:List R}(ro:gm n rows)(v:Nat)(hv:v < n+rows.length):bw 1000000 ((aN n rows).fx v).1/\bw 1000000 ((aN n rows).fx v).2:=by
 unfold Sy.fx;show bw 1000000 (if v < n then(0,0) else(aN n rows).up v:Rat×Rat).1/\bw 1000000 (if v < n then(0,0) else(aN n rows).up v:Rat×Rat).2;by_cases h:v < n
 .rw [if_pos h];exact⟨bw.zero _,bw.zero _⟩
 .rw [if_neg h];have:=ro.sz.tv _ (jt (rows:=rows) (i:=v - n) (by omega));refine⟨bw.int (z:=(bf rows (v - n)).tv) (by omega), ?_⟩;unfold Sy.up;dsimp only;split
  .exact⟨-1,rfl,by decide⟩
  .exact bw.zero _
set_option exponentiation.threshold 400 in
theorem K0{n:Nat}{rows:List R}{t:TL}(h:b8 n rows t){D:Rat}(o:bw (2 ^ 270) D)
  (p:∀i v,i < rows.length->v < n+rows.length->bw (2 ^ 270) (D * nv (aq (az t.al i) v))) (sz:Sz n rows) {y:Nat->Rat} (hy:gg n rows.length (aN n rows).A y)
  (g:∀v,v < n+rows.length->(∀i,i < rows.length->t.st.ah i≠v)->bw 1000000 (y v)) {v:Nat} (hv:v < n+rows.length):bw (2 ^ 300) (D * y v):=by
 have q:=sz.n;have hm:=sz.m;by_cases hb:∃i,i < rows.length/\t.st.ah i=v
 .obtain⟨i,hi,e⟩:=hb;have:=(h.ok.wf.same y).2 hy i hi;rw [<-e,this,<-DG];have hs:bw ((n+rows.length) * (2 ^ 270 * 1000000)) (sm (n+rows.length) (λk=>D * (t.st.c i k * y k))):=by
   refine DF (λk l=> ?_);by_cases d:∃j,j < rows.length/\t.st.ah j=k
   .obtain⟨j,b,e'⟩:=d;rw [<-e',h.ok.wf.z i j hi b,VQ,V8];exact bw.zero _
   .have a:=(p i k hi l).mul (g k l (λj b e'=>d ⟨j,b,e'⟩));rw [<-Rat.mul_assoc];exact a
  refine hs.mono ?_;have:(n+rows.length) * (2 ^ 270 * 1000000)<=52 * (2 ^ 270 * 1000000):=Vm _ (by omega);exact UY this (by decide+kernel)
 .have a:=o.mul (g v hv (λj b e'=>hb ⟨j,b,e'⟩));exact a.mono (by decide+kernel)
theorem b8.val{n:Nat}{rows:List R}{t:TL}(ro:gm n rows)(h:b8 n rows t):∀u,u < n+rows.length->VB 300 (aI t.val u):=by
 obtain⟨D,h1,a,b,_⟩:=h.den ro;intro u c;have hm: 2 ^ 270<=2 ^ 300:=by decide+kernel
 refine⟨xE h1 (a.mono hm) (K0 h a b ro.sz h.ok.hy (λv hv hb=> ?_) c),xE h1 (a.mono hm) (K0 h a b ro.sz h.ok.hz (λv hv hb=> ?_) c)⟩
 .have:=congrArg Prod.fst (h.ok.fix v hv hb);show bw _ (t.st.val v).1;rw [this];exact(HB ro v hv).1
 .have:=congrArg Prod.snd (h.ok.fix v hv hb);show bw _ (t.st.val v).2;rw [this];exact(HB ro v hv).2
open Go Go.Aev Go.Aev.Gen Go.Aev.Wd Go.Aev.Tb
theorem jX{t:TL}{n m:Nat}(h:cL n m t){i:Nat}(hi:i < m):t.st.ah i∈t.ah:=Uj (iY (by rw [h.b];exact hi))
theorem lY{t:TL}{n m:Nat}(h:cL n m t){b:Nat}(hb:b∈t.ah):∃i,i < m/\t.st.ah i=b/\t.ah[i]? =some b:=by
 obtain⟨i,hi,e⟩:=Wa hb;have h1:t.ah[i]? =some b:=by rw [Up hi,e]
 have a:=iY (t:=t) hi;rw [h1] at a;exact⟨i,by rw [<-h.b];exact hi,(Vb a).symm,h1⟩
theorem b8.zn{n:Nat}{rows:List R}{t:TL}(h:b8 n rows t){i v:Nat}(hi:i < rows.length)(a:nv (aq (az t.al i) v)≠0):v∉t.ah:=by intro hb;obtain⟨j,b,e,_⟩:=lY h.aZ hb;exact a (by rw [<-e];exact h.ok.wf.z i j hi b)
theorem CO{n m:Nat}{t:TL}(h:cL n m t)(v:Nat)(w:Vl){u:Nat}(hv:v < n+m)(a:u∉t.ah):aI (dP v w t).val u=if u=v then kN (aI t.val v) w else aI t.val u:=by show aI (gV v w t.ah t.al (t.val.set v _)) u=_;rw [CN v w t.ah t.al _ u (λb hb=>by rw [Vc,h.v];exact h.lt b hb) a,qM (by rw [h.v];exact hv)]
theorem zl{n m:Nat}{t:TL}(h:cL n m t)(v:Nat)(w:Vl){j b:Nat}(hv:v < n+m)(d:v∉t.ah)(a:t.ah[j]? =some b):
  aI (dP v w t).val b=kN (aI t.val b) (fB w (aq (az t.al j) v)):=by
 show aI (gV v w t.ah t.al (t.val.set v _)) b=_;rw [It v w t.ah t.al _ j b (λb hb=>by rw [Vc,h.v];exact h.lt b hb) h.nd a (by rw [h.b,h.c]),qM (by rw [h.v];exact hv),
  if_neg (λe=>d (by rw [<-e];exact Uj a))]
theorem P9{n:Nat}{rows:List R}{t:TL}(h:b8 n rows t)(v:Nat)(w:Vl)(hv:v < n+rows.length)(m:v∉t.ah):
  gg n rows.length (aN n rows).A (dP v w t).st.y/\gg n rows.length (aN n rows).A (dP v w t).st.z:=by
 have key:∀(g:Vl->Rat) (q:Rat),(∀a,g (kN a w)=g a+q)->(∀a k,g (kN a (fB w k))=g a+q * nv k)->gg n rows.length (aN n rows).A (λu=>g (aI t.val u))->
   gg n rows.length (aN n rows).A (λu=>g (aI (dP v w t).val u)):=by
  intro g q s x r;refine(h.ok.wf.same _).1 (λj o=> ?_);have B:=(h.ok.wf.same _).2 r j o;have hb:=iY (t:=t) (i:=j) (by rw [h.aZ.b];exact o);show g (aI (dP v w t).val (t.st.ah j))=_;rw [zl h.aZ v w hv m hb,x];have p:g (aI t.val (t.st.ah j))=sm (n+rows.length) (λk=>t.st.c j k * g (aI t.val k)):=B;rw [p];have e:sm (n+rows.length) (λk=>t.st.c j k * g (aI (dP v w t).val k))=sm (n+rows.length) (λk=>1 * (t.st.c j k * g (aI t.val k))+q * (if k=v then t.st.c j k else 0)):=by
   refine eJ (λk C=> ?_);by_cases l:k∈t.ah
   .obtain⟨i,hi,e,_⟩:=lY h.aZ l;have hz:t.st.c j k=0:=by rw [<-e];exact h.ok.wf.z j i o hi
    have d:k≠v:=λe'=>m (by rw [<-e'];exact l);rw [hz,if_neg d];grind
   .rw [CO h.aZ v w hv l];by_cases d:k=v
    .subst d;rw [if_pos rfl,if_pos rfl,s];grind
    .rw [if_neg d,if_neg d];grind
  show _=sm (n+rows.length) (λk=>t.st.c j k * g (aI (dP v w t).val k));rw [e,mj,nW hv];show _+q * nv (aq (az t.al j) v)=1 * _+q * nv (aq (az t.al j) v);grind
 exact⟨key (λa=>nv a.1) (nv w.1) (λa=>rfl) (λa k=>rfl) h.ok.hy,key (λa=>nv a.2) (nv w.2) (λa=>rfl) (λa k=>rfl) h.ok.hz⟩
theorem Rj{n m:Nat}{t:TL}(h:cL n m t){i v b:Nat}(row:List Nm)(eg:Bool)(hi:i < m)(j:Nat):(fg i v b row eg t).st.ah j=gW t.st.ah i v j:=by
 show(t.ah.set i v).getD j 0=if j=i then v else t.ah.getD j 0;rw [Ul,Ul,VG];have hb:=h.b;by_cases a:j=i
 .subst a;simp [hb,hi]
 .have:¬i=j:=λe=>a e.symm;simp [a,this]
theorem Rk{n m:Nat}{t:TL}(h:cL n m t){i v:Nat}(eg:Bool)(hi:i < m)(hv:v < n+m)(e:t.st.ah i≠v){j k:Nat}(o:j < m)(g:k < n+m):
  (fg i v (t.st.ah i) (cC (az t.al i) v (t.st.ah i)) eg t).st.c j k=o9 t.st.c t.st.ah i v j k:=by
 have l:=h.row hi;have s:=h.row o;have q:=h.c;have p:=h.lt _ (jX h hi);show nv (aq (az ((fX (cC (az t.al i) v (t.st.ah i)) v i 0 t.al).set i (cC (az t.al i) v (t.st.ah i))) j) k)=_;rw [LX (by rw [DA];omega)];unfold o9;have r:(cC (az t.al i) v (t.st.ah i)).length=n+m:=by unfold cC;simp;exact l
 have d:∀k,k < n+m->nv (aq (cC (az t.al i) v (t.st.ah i)) k)=gF (t.st.c i) (t.st.ah i) v k:=λk g=>Jf (by omega) (by omega) (by omega) e;by_cases a:j=i
 .rw [if_pos a,if_pos a];exact d k g
 .rw [if_neg a,if_neg a,Ke _ _ _ _ _ _ (by omega),if_neg (by omega)];rw [Kz (by omega) (by omega) (by omega) (by rw [d v hv];exact vq e)];unfold kC;by_cases b:k=v
  .rw [if_pos b,if_pos b]
  .rw [if_neg b,if_neg b];show nv (aq (az t.al j) k)+nv (aq (az t.al j) v) * nv (aq (cC (az t.al i) v (t.st.ah i)) k)=_;rw [d k g];rfl
theorem Rl{n m:Nat}{t:TL}(h:cL n m t){i v b:Nat}(row:List Nm)(eg:Bool)(hi:i < m)(hv:v < n+m)(hvb:v∉t.ah)(hrow:row.length=n+m):cL n m (fg i v b row eg t) where
 b:=by show(t.ah.set i v).length=m;rw [Vc];exact h.b
 c:=by show((fX row v i 0 t.al).set i row).length=m;rw [Vc,DA];exact h.c
 r:=λx hx=>by
  have hx:x∈(fX row v i 0 t.al).set i row:=hx;rcases U1 hx with hx | hx
  .have gen:∀(xs:List (List Nm)) (k:Nat),(∀x∈xs,x.length=n+m)->∀x∈fX row v i k xs,x.length=n+m:=by
    intro xs;induction xs with
    | nil=>intro k _ x hx;simp [fX] at hx
    | cons y ys ih=>
     intro k hl x hx;rw [fX] at hx;rcases Uw.1 hx with hx | hx
     .rw [hx];split
      .exact hl y Uk
      .rw [KA];exact hl y Uk
     .exact ih (k+1) (λx hx=>hl x (Um _ hx)) x hx
   exact gen t.al 0 h.r x hx
  .rw [hx];exact hrow
 v:=h.v
 lt:=λb hb=>by
  rcases U1 hb with hb | hb
  .exact h.lt b hb
  .rw [hb];exact hv
 nd:=by
  show(t.ah.set i v).Nodup;refine WM.2 (λa b ha hb hab=> ?_);rw [List.getElem_set,List.getElem_set];have ha':a < t.ah.length:=by simpa using ha
  have hb':b < t.ah.length:=by simpa using hb
  split <;> split
  .omega
  .exact λe=>hvb (by rw [e];exact Wu hb')
  .exact λe=>hvb (by rw [<-e];exact Wu ha')
  .exact WM.1 h.nd a b ha' hb' hab
theorem b8.Je{n:Nat}{rows:List R}{t:TL}(h:b8 n rows t){i v:Nat}(w:Vl)(eg:Bool)(hi:i < rows.length)(hv:v < n+rows.length)(s:nv (aq (az t.al i) v)≠0)
  (z:vv (aI (dP v w t).val (t.st.ah i))= (aN n rows).fx (t.st.ah i)):
  b8 n rows (fg i v (t.st.ah i) (cC (az t.al i) v (t.st.ah i)) eg (dP v w t))/\
   ∀j,(fg i v (t.st.ah i) (cC (az t.al i) v (t.st.ah i)) eg (dP v w t)).st.ah j=gW t.st.ah i v j:=by
 have l:=h.zn hi s;have A:=jX h.aZ hi;have C:t.st.ah i≠v:=λe=>l (by rw [<-e];exact A);have p:cL n rows.length (dP v w t):=h.aZ.mv v w;have E:=h.aZ.row hi;have D:(cC (az t.al i) v (t.st.ah i)).length=n+rows.length:=by unfold cC;simp;exact E
 have F:cL n rows.length (fg i v (t.st.ah i) (cC (az t.al i) v (t.st.ah i)) eg (dP v w t)):=Rl p _ _ hi hv l D;have d:∀j,(fg i v (t.st.ah i) (cC (az t.al i) v (t.st.ah i)) eg (dP v w t)).st.ah j=gW t.st.ah i v j:=λj=>Rj p (b:=t.st.ah i) (cC (az t.al i) v (t.st.ah i)) eg hi j;obtain⟨G,H⟩:=P9 h v w hv l;refine⟨⟨F,⟨?_,G,H,λu m x=> ?_⟩, ?_, ?_, ?_⟩,d⟩
 .refine WF.congr (λj _=>(d j).symm) (λj k a J=> ?_) (T8 h.ok.wf (i:=i) (v:=v) hi hv s);exact(Rk p eg hi hv C a J).symm
 .have q:u≠v:=λe=>x i hi (by rw [d];unfold gW;rw [if_pos rfl,e]);show vv (aI (dP v w t).val u)=_;by_cases g:u∈t.ah
  .obtain⟨j,a,e,_⟩:=lY h.aZ g;by_cases r:j=i
   .rw [<-e,r];exact z
   .exact absurd (by rw [d];unfold gW;rw [if_neg r,e]) (x j a)
  .rw [CO h.aZ v w hv g,if_neg q];exact h.ok.fix u m (λj a e=>g (by rw [<-e];exact jX h.aZ a))
 .intro j b a;have a:(t.ah.set i v)[j]? =some b:=a;show cg b (jo v i (kS (t.st.ah i) t.mp))=some j;rw [zj,zi _ _ _ h.ky];rw [VG] at a;by_cases c:i=j
  .rw [if_pos c] at a;have o:i < t.ah.length:=by rw [h.aZ.b];exact hi
   rw [if_pos o] at a;obtain rfl:=Vb a;rw [if_pos rfl,c]
  .rw [if_neg c] at a;have B:=Uj a;rw [if_neg (λe=>l (by rw [<-e];exact B)),if_neg (λe=>c (QG h.aZ.nd (iY (by rw [h.aZ.b];exact hi)) (by rw [a,e])))];exact h.ln j b a
 .intro u m;have m:u∉t.ah.set i v:=m;show cg u (jo v i (kS (t.st.ah i) t.mp))=none;have o:i < t.ah.length:=by rw [h.aZ.b];exact hi
  have q:u≠v:=λe=>m (by rw [e];exact List.mem_set o _);rw [zj,if_neg q,zi _ _ _ h.ky];split
  .rfl
  .rename_i y;refine h.uS u (λhm=>m ?_);obtain⟨j,a,e,I⟩:=lY h.aZ hm;have c:i≠j:=λe'=>y (by rw [<-e,e']);refine Uj (i:=j) ?_;rw [XG c];exact I
 .exact Cv _ _ _ (H8 _ _ h.ky)
theorem Ki{w:Int}(c:w=1\/w= -1){q:Rat}(e:q≠0):w * q.num.sign≠0/\(w * q.num.sign > 0↔0 < (w:Rat) * q):=by
 have d:q.num≠0:=λh=>e (Yg.1 h);rcases Int.lt_or_gt_of_ne d with h | h
 .have hs:=Vx h;have b:q < 0:=by
   refine Rat.not_le.1 λa=> ?_;have:=Xz.2 a;omega
  rw [hs];rcases c with rfl | rfl
  .refine⟨by decide,⟨λh=>absurd h (by decide),λh=> ?_⟩⟩;have:((1:Int):Rat)=1:=rfl;rw [this] at h;exact absurd h (by grind)
  .refine⟨by decide,⟨λ_=> ?_,λ_=>by decide⟩⟩;have:((-1:Int):Rat)= -1:=rfl;rw [this];grind
 .have hs:=Vj h;have b: 0 < q:=by
   have h1: 0<=q:=Xz.1 (by omega);grind
  rw [hs];rcases c with rfl | rfl
  .refine⟨by decide,⟨λ_=> ?_,λ_=>by decide⟩⟩;have:((1:Int):Rat)=1:=rfl;rw [this];grind
  .refine⟨by decide,⟨λh=>absurd h (by decide),λh=> ?_⟩⟩;have:((-1:Int):Rat)= -1:=rfl;rw [this] at h;exact absurd h (by grind)
theorem uf{n:Nat}{rows:List R}(t:TL){w:Int}(e:w=1\/w= -1){q:Rat}(g:q≠0){v:Nat}:
  e9 n rows t.val v (w * q.num.sign)=true↔(aN n rows).Can t.st ((w:Rat) * q) v:=by
 obtain⟨h1,d⟩:=Ki e g;have i:(w:Rat) * q≠0:=by
  rcases e with rfl | rfl
  .have:((1:Int):Rat)=1:=rfl;rw [this];grind
  .have:((-1:Int):Rat)= -1:=rfl;rw [this];grind
 rw [Bl t v h1];unfold Sy.Can;by_cases b:w * q.num.sign > 0
 .have a:=d.1 b;rw [if_pos b];exact⟨λh=>⟨λ_=>h,λc=>absurd c (by grind)⟩,λh=>h.1 a⟩
 .have a:¬0 < (w:Rat) * q:=λh=>b (d.2 h);rw [if_neg b];exact⟨λh=>⟨λc=>absurd c a,λ_=>h⟩,λh=>h.2 (by grind)⟩
theorem b8.step{n:Nat}{rows:List R}{t:TL}(h:b8 n rows t){i v:Nat}(eg:Bool)(hi:i < rows.length)(hv:v < n+rows.length)
  (c:(aN n rows).gf t.st (t.st.ah i)) (r:aV n rows t.val (bE n rows t (t.st.ah i)) (az t.al i) 0=some v) (l:∀j,j < rows.length->t.st.ah j < t.st.ah i->¬(aN n rows).gf t.st (t.st.ah j)):
  b8 n rows (gJ n rows eg (t.st.ah i) (bE n rows t (t.st.ah i)) i v t)/\(aN n rows).Step t.st (gJ n rows eg (t.st.ah i) (bE n rows t (t.st.ah i)) i v t).st i v:=by
 obtain⟨_,_,e3,o,x⟩:=kT r;rw [Vv] at e3 o;have w:=h.zn hi e3;have a:¬t.st.ah i < n:=WJ.2 c.1;have z:=iY (t:=t) (i:=i) (by rw [h.aZ.b];exact hi);have g:bE n rows t (t.st.ah i)=1\/bE n rows t (t.st.ah i)= -1:=by unfold bE;split;exact .inr rfl;exact .inl rfl
 have s:vv (if bE n rows t (t.st.ah i) > 0 then iD n rows (t.st.ah i) else bP n rows (t.st.ah i))= (aN n rows).fx (t.st.ah i):=by
  unfold Sy.fx;show _=if t.st.ah i < n then((0:Rat),(0:Rat)) else _;rw [if_neg a];by_cases d:eL ((aN n rows).up (t.st.ah i)) (t.st.val (t.st.ah i))
  .have:bE n rows t (t.st.ah i)= -1:=by unfold bE;rw [if_pos d]
   rw [this,if_neg (by decide)];exact vW a
  .have:bE n rows t (t.st.ah i)=1:=by unfold bE;rw [if_neg d]
   rw [this,if_pos (by decide)];rcases c.2 with k | ⟨k,_⟩
   .exact absurd k d
   .exact uV (lX.2 ⟨a,k⟩)
 have m:vv (aI (dP v (po n rows (t.st.ah i) (bE n rows t (t.st.ah i)) i v t) t).val (t.st.ah i))= (aN n rows).fx (t.st.ah i):=by
  rw [zl h.aZ v _ hv w z,<-s];unfold po;generalize (if bE n rows t (t.st.ah i) > 0 then iD n rows (t.st.ah i) else bP n rows (t.st.ah i))=to at *
  have D:nv (aq (az t.al i) v) * (nv (aq (az t.al i) v))⁻¹ =1:=XW _ e3;refine XH ?_ ?_
  .show nv (aI t.val (t.st.ah i)).1+ (nv to.1 - nv (aI t.val (t.st.ah i)).1) * (((1:Int):Rat) / nv (aq (az t.al i) v)) * nv (aq (az t.al i) v)=nv to.1;rw [VN];have:((1:Int):Rat)=1:=rfl;rw [this];grind
  .show nv (aI t.val (t.st.ah i)).2+ (nv to.2 - nv (aI t.val (t.st.ah i)).2) * (((1:Int):Rat) / nv (aq (az t.al i) v)) * nv (aq (az t.al i) v)=nv to.2;rw [VN];have:((1:Int):Rat)=1:=rfl;rw [this];grind
 obtain⟨B,C⟩:=h.Je (i:=i) (v:=v) (po n rows (t.st.ah i) (bE n rows t (t.st.ah i)) i v t) eg hi hv e3 m;refine⟨B,⟨hi,hv,c,l,e3, ?_,λu A e=> ?_,funext C⟩⟩
 .rw [Ag];exact(uf t g e3).1 o
 .rw [Ag];intro y;have h1:=x u (Xr _) A (by rw [Vv];exact e);rw [Vv] at h1;have p:=(uf (n:=n) (rows:=rows) t g (q:=nv (aq (az t.al i) u)) (v:=u) e).2 y;rw [h1] at p;cases p
open Go Go.Aev Go.Aev.Gen Go.Aev.Wd Go.Aev.Tb
def cG(n:Nat)(rows:List R)(eg:Bool):Nat->TL->Option (List Nm)×Bool×TL
 | p,t=>if(iL n rows t.val t.ah).1 < 0 then(none,true,t) else
  match p with
  | 0=>(none,false,t)
  | p+1=>match aV n rows t.val (iL n rows t.val t.ah).2 (az t.al ((cg (iL n rows t.val t.ah).1.toNat t.mp).getD 0)) 0 with
   | none=>(some (jr n rows.length (iL n rows t.val t.ah).2 (iL n rows t.val t.ah).1.toNat (az t.al ((cg (iL n rows t.val t.ah).1.toNat t.mp).getD 0))),true,t)
   | some v=>cG n rows eg p (gJ n rows eg (iL n rows t.val t.ah).1.toNat (iL n rows t.val t.ah).2 ((cg (iL n rows t.val t.ah).1.toNat t.mp).getD 0) v t)
def fW:Option (List Nm)->T
 | none=>T.aJ true
 | some l=>T.aa 4 false (aR l)
theorem pL{n:Nat}{rows:List R}{t:TL}(h:b8 n rows t):
  ((∀j,j < rows.length->¬(aN n rows).gf t.st (t.st.ah j))/\iL n rows t.val t.ah= (-1,0))\/
  ∃i,i < rows.length/\(aN n rows).gf t.st (t.st.ah i)/\(∀j,j < rows.length->t.st.ah j < t.st.ah i->¬(aN n rows).gf t.st (t.st.ah j))/\
   iL n rows t.val t.ah= ((t.st.ah i:Int),bE n rows t (t.st.ah i))/\cg (t.st.ah i) t.mp=some i:=by
 rcases ES (n:=n) (rows:=rows) t t.ah with⟨h1,a⟩ | ⟨b,h1,a,d,g⟩
 .exact .inl ⟨λj c=>h1 _ (jX h.aZ c),a⟩
 .obtain⟨i,hi,e,k⟩:=lY h.aZ h1;subst e;exact .inr ⟨i,hi,a,λj c l hb=>by have:=d _ (jX h.aZ c) hb;omega,g,h.ln i _ k⟩
theorem pZ{n:Nat}{rows:List R}{t:TL}(eg:Bool)(p:Nat)(h:iL n rows t.val t.ah= (-1,0)):cG n rows eg p t= (none,true,t):=by
 cases p with
 | zero=>rw [cG,h,if_pos (by decide)]
 | succ p=>rw [cG,h,if_pos (by decide)]
theorem sd{n:Nat}{rows:List R}{t:TL}(eg:Bool){b:Nat}{w:Int}(h:iL n rows t.val t.ah= ((b:Int),w)):cG n rows eg 0 t= (none,false,t):=by rw [cG,h,if_neg (by show ¬(b:Int) < 0;omega)]
theorem sc{n:Nat}{rows:List R}{t:TL}(eg:Bool)(p:Nat){b i:Nat}{w:Int}(h:iL n rows t.val t.ah= ((b:Int),w))(a:cg b t.mp=some i):
  cG n rows eg (p+1) t=match aV n rows t.val w (az t.al i) 0 with
   | none=>(some (jr n rows.length w b (az t.al i)),true,t)
   | some v=>cG n rows eg p (gJ n rows eg b w i v t):=by
 have hb:((b:Nat):Int).toNat=b:=by omega
 rw [cG,h,if_neg (by show ¬(b:Int) < 0;omega)];simp only [hb,a,UK]
theorem IS{n:Nat}{rows:List R}(t:TL){w:Int}(c:w=1\/w= -1){row:List Nm}(h:aV n rows t.val w row 0=none){v:Nat}(hv:v < n):nv (aq row v)=0:=by refine XS λa=> ?_;have h1:=yA h v (Xr _) (by rw [Vv];exact a);rw [Vv] at h1;have b:=(uf (n:=n) (rows:=rows) t c (q:=nv (aq row v)) (v:=v) a).2 ⟨λ_=> .inl hv,λ_=> .inl hv⟩;rw [h1] at b;cases b
theorem Af(n:Nat)(rows:List R)(t:TL)(b:Nat):bE n rows t b=1\/bE n rows t b= -1:=by unfold bE;split;exact .inr rfl;exact .inl rfl
theorem To{n:Nat}{rows:List R}(f:Fl)(ro:gm n rows)(o:f.eg=true):∀(p:Nat) (t:TL),p<=100000->b8 n rows t->
  Or pH [r0,I (p:Int)] (S2 n rows f t)=some (fW (cG n rows true p t).1::tb (cG n rows true p t).2.1::gh n rows f (cG n rows true p t).2.2):=by
 intro p;induction p using Nat.strongRecOn with
 | _ p B=>
 intro t G h;have a:=ro.sz;have d:=h.val ro;have r:=h.al ro;have hm:=a.m;have kb:=KU a f.er f.eb f.ev f.eg t.ah t.val t.aB h.aZ.v d (by omega) h.aZ.lt (by rw [h.aZ.b];omega);rcases pL h with⟨_,hb⟩ | ⟨i,hi,k,s,hb,y⟩
 .rw [hb] at kb;rw [pZ true _ hb,eI];have h1:(-1:Int) < 0:=by decide
  refine ak ?_;rw [BU];simp only [ai,↓reduceIte,Int.reduceBEq,Int.reduceEq,GD,kb,h1,cF,cH,fW]
 .rw [hb] at kb;have h1:¬(t.st.ah i:Int) < 0:=by omega
  cases p with
  | zero=>rw [sd true hb,eI];have q:((0:Nat):Int)=0:=rfl;refine ak ?_;rw [BU];simp only [ai,↓reduceIte,Int.reduceBEq,Int.reduceEq,GD,kb,h1,q,cF,cH,fW]
  | succ p=>
   have D:=h.aZ.c;have q:¬((p+1:Nat):Int)=0:=by omega
   have z:i64.wrap (((p+1:Nat):Int) - 1)= (p:Int):=by rw [Go.Aev.wr (by omega)];omega
   have x: 0<=(i:Int)/\(i:Int) < (t.al.length:Int):=by omega
   have w:=lf (al:=t.al) (i:=i) (by omega);have u:=jL (al:=t.al) (i:=i) (by omega);have l:=uF (t.st.ah i) t.mp;rw [y] at l;have A:=iY (t:=t) (i:=i) (by rw [h.aZ.b];exact hi);have g:=Af n rows t (t.st.ah i);have E:bE n rows t (t.st.ah i)≠0:=by rcases g with e | e <;> rw [e] <;> decide
   rw [sc true p hb y];have:=Tq (n:=n) (rows:=rows) f t a h.aZ hi A k.1 g o d r (λv hv=>h.zn hi hv) (by omega) (by omega) (by omega) (p:Int)
    (λj v hv=>IS t g j hv)
    (res:=fW (match aV n rows t.val (bE n rows t (t.st.ah i)) (az t.al i) 0 with
     | none=>(some (jr n rows.length (bE n rows t (t.st.ah i)) (t.st.ah i) (az t.al i)),true,t)
     | some v=>cG n rows true p (gJ n rows true (t.st.ah i) (bE n rows t (t.st.ah i)) i v t)).1::
     tb (match aV n rows t.val (bE n rows t (t.st.ah i)) (az t.al i) 0 with
     | none=>(some (jr n rows.length (bE n rows t (t.st.ah i)) (t.st.ah i) (az t.al i)),true,t)
     | some v=>cG n rows true p (gJ n rows true (t.st.ah i) (bE n rows t (t.st.ah i)) i v t)).2.1::
     gh n rows f (match aV n rows t.val (bE n rows t (t.st.ah i)) (az t.al i) 0 with
     | none=>(some (jr n rows.length (bE n rows t (t.st.ah i)) (t.st.ah i) (az t.al i)),true,t)
     | some v=>cG n rows true p (gJ n rows true (t.st.ah i) (bE n rows t (t.st.ah i)) i v t)).2.2)
    (by
     cases j:aV n rows t.val (bE n rows t (t.st.ah i)) (az t.al i) 0 with
     | none=>rfl
     | some v=>
      obtain⟨F,e2,_⟩:=kT j;obtain⟨C,_⟩:=h.step true hi (v:=v) (by have:=h.aZ.row hi;omega) k j s;rw [o];exact B p (Wl p) _ (by omega) C)
    (az t.al i) 0 rfl rfl
   refine ak ?_;rw [BU];simp only [ai,↓reduceIte,Int.reduceBEq,Int.reduceEq,GD,kb,h1,q,z,l,Wp,UK,x,and_self,cX,w,u,bH];exact this
theorem Tn{n:Nat}{rows:List R}(f:Fl)(ro:gm n rows)(a:f.eg=true):∀(p:Nat) (t:TL),p<=100000->b8 n rows t->
  Or pH [r0,I (p:Int)] (S1 n rows f t)=some (fW (cG n rows true p t).1::tb (cG n rows true p t).2.1::gh n rows f (cG n rows true p t).2.2):=by
 intro p
 skip
 intro t F h;have d:=ro.sz;have g:=h.val ro;have r:=h.al ro;have hm:=d.m;have kb:=KU d f.er f.eb f.ev f.eg t.ah t.val t.aB h.aZ.v g (by omega) h.aZ.lt (by rw [h.aZ.b];omega);rcases pL h with⟨_,hb⟩ | ⟨i,hi,l,s,hb,y⟩
 .rw [hb] at kb;rw [pZ true _ hb,eI];have h1:(-1:Int) < 0:=by decide
  refine ak ?_;rw [BT];simp only [ai,↓reduceIte,Int.reduceBEq,Int.reduceEq,GD,kb,h1,cF,cH,fW]
 .rw [hb] at kb;have h1:¬(t.st.ah i:Int) < 0:=by omega
  cases p with
  | zero=>rw [sd true hb,eI];have q:((0:Nat):Int)=0:=rfl;refine ak ?_;rw [BT];simp only [ai,↓reduceIte,Int.reduceBEq,Int.reduceEq,GD,kb,h1,q,cF,cH,fW]
  | succ p=>
   have C:=h.aZ.c;have q:¬((p+1:Nat):Int)=0:=by omega
   have z:i64.wrap (((p+1:Nat):Int) - 1)= (p:Int):=by rw [Go.Aev.wr (by omega)];omega
   have x: 0<=(i:Int)/\(i:Int) < (t.al.length:Int):=by omega
   have w:=lf (al:=t.al) (i:=i) (by omega);have u:=jL (al:=t.al) (i:=i) (by omega);have o:=uF (t.st.ah i) t.mp;rw [y] at o;have A:=iY (t:=t) (i:=i) (by rw [h.aZ.b];exact hi);have j:=Af n rows t (t.st.ah i);have D:bE n rows t (t.st.ah i)≠0:=by rcases j with e | e <;> rw [e] <;> decide
   rw [sc true p hb y];have:=Tp (n:=n) (rows:=rows) f t d h.aZ hi A l.1 j a g r (λv hv=>h.zn hi hv) (by omega) (by omega) (by omega) (p:Int)
    (λk v hv=>IS t j k hv)
    (res:=fW (match aV n rows t.val (bE n rows t (t.st.ah i)) (az t.al i) 0 with
     | none=>(some (jr n rows.length (bE n rows t (t.st.ah i)) (t.st.ah i) (az t.al i)),true,t)
     | some v=>cG n rows true p (gJ n rows true (t.st.ah i) (bE n rows t (t.st.ah i)) i v t)).1::
     tb (match aV n rows t.val (bE n rows t (t.st.ah i)) (az t.al i) 0 with
     | none=>(some (jr n rows.length (bE n rows t (t.st.ah i)) (t.st.ah i) (az t.al i)),true,t)
     | some v=>cG n rows true p (gJ n rows true (t.st.ah i) (bE n rows t (t.st.ah i)) i v t)).2.1::
     gh n rows f (match aV n rows t.val (bE n rows t (t.st.ah i)) (az t.al i) 0 with
     | none=>(some (jr n rows.length (bE n rows t (t.st.ah i)) (t.st.ah i) (az t.al i)),true,t)
     | some v=>cG n rows true p (gJ n rows true (t.st.ah i) (bE n rows t (t.st.ah i)) i v t)).2.2)
    (by
     cases k:aV n rows t.val (bE n rows t (t.st.ah i)) (az t.al i) 0 with
     | none=>rfl
     | some v=>
      obtain⟨E,e2,_⟩:=kT k;obtain⟨B,_⟩:=h.step true hi (v:=v) (by have:=h.aZ.row hi;omega) l k s;rw [a];exact To f ro a p _ (by omega) B)
    (az t.al i) 0 rfl rfl
   refine ak ?_;rw [BT];simp only [ai,↓reduceIte,Int.reduceBEq,Int.reduceEq,GD,kb,h1,q,z,o,Wp,UK,x,and_self,cX,w,u,bH];exact this
theorem Tm{n:Nat}{rows:List R}(f:Fl)(ro:gm n rows)(a:f.eg=true)(p:Nat)(t:TL)(b:p<=100000)(h:b8 n rows t):
  Or (.call 39) [r0,I (p:Int)] (S1 n rows f t)=some (fW (cG n rows true p t).1::tb (cG n rows true p t).2.1::gh n rows f (cG n rows true p t).2.2):=by
 have:=Tn (n:=n) (rows:=rows) f ro a p t b h;refine ak ?_;rw [N2];exact this
open Go Go.Aev Go.Aev.Gen Go.Aev.Wd Go.Aev.Tb
def gD(n m:Nat)(r:R):List Nm:=r.of.map iN++List.replicate (n+m - r.of.length) none
def iM(n k:Nat):List Nat:=(List.range k).map λi=>n+i
def iF(n k:Nat):Ln:=(List.range k).map λi=>(n+i,i)
def eO(n:Nat)(rows:List R):TL:=⟨iM n rows.length,iF n rows.length,rows.map (gD n rows.length),List.replicate (n+rows.length) (none,none),[]⟩
def oW(er:Bool)(rows:List R):Fl:=⟨er,decide (rows.length=0),decide (rows.length=0),false,true⟩
theorem LL(n k:Nat):iM n (k+1)=iM n k++ [n+k]:=by simp [iM,Yi]
theorem Cy(n v:Nat):∀(k:Nat),cg v (iF n k)=if n<=v/\v < n+k then some (v - n) else none:=by
 have app:∀(l:Ln) (p:Nat×Nat),cg v (l++ [p])=match cg v l with | some i=>some i | none=>if v=p.1 then some p.2 else none:=by
  intro l p;induction l with
  | nil=>rfl
  | cons q l a=>
   simp only [Uo,cg];by_cases h:v=q.1
   .simp [h]
   .simp only [if_neg h];exact a
 intro k;induction k with
 | zero=>simp [iF,cg]
 | succ k a=>
  have:iF n (k+1)=iF n k++ [(n+k,k)]:=by simp [iF,Yi]
  rw [this,app,a];by_cases h1:n<=v/\v < n+k
  .rw [if_pos h1];show some (v - n)=_;rw [if_pos (by omega)]
  .rw [if_neg h1];by_cases b:v=n+k
   .simp only [b,if_true];rw [if_pos (by omega)];congr 1;omega
   .simp only [if_neg b];rw [if_neg (by omega)]
theorem Jx(n k:Nat):jo (n+k) k (iF n k)=iF n (k+1):=by
 have app:∀(l:Ln) (v i:Nat),cg v l=none->jo v i l=l++ [(v,i)]:=by
  intro l v i;induction l with
  | nil=>intro _;rfl
  | cons q l b=>
   intro h;rw [cg] at h;by_cases a:v=q.1
   .rw [if_pos a] at h;cases h
   .rw [if_neg a] at h;rw [jo,if_neg a,b h];rfl
 rw [app _ _ _ (by rw [Cy];rw [if_neg (by omega)])];simp [iF,Yi]
theorem Ip:∀(l:List (List Nm)) (s:Nat) (x:List Nm),bI s l++ [⟨s+l.length,[T.aw],some (false,aR x)⟩]=bI s (l++ [x])
 | [],s,x=>rfl
 | y::l,s,x=>by have:=Ip l (s+1) x;simp only [bI,Uo,UH];rw [show s+ (l.length+1)=s+1+l.length by omega,this]
theorem P7(l:List (List Nm))(x:List Nm):bI 0 l++ [⟨l.length,[T.aw],some (false,aR x)⟩]=bI 0 (l++ [x]):=by have:=Ip l 0 x;rwa [UW] at this
theorem NK(l:List Nat)(x:Nat):cS l++ [[ti (x:Int)]]=cS (l++ [x]):=by simp [cS]
theorem NP(n:Nat):List.replicate n [tb false,T.str (ByteArray.mk #[]),tb false,T.str (ByteArray.mk #[]),tb false,T.str (ByteArray.mk #[]),tb false,T.str (ByteArray.mk #[])]=dO (List.replicate n (none,none)):=by unfold dO;rw [List.map_replicate];rfl
def AM(n:Nat)(rows:List R)(f:Fl)(t:TL):List T:=
 [ti (n:Int),T.aa 3 f.er (dC rows),T.aa 1 f.eb (cS t.ah),bQ (bW t.mp),bK f.ec (bI 0 t.al),T.aa 8 f.ev (dO t.val),T.aa 4 f.eg (aR t.aB)]
theorem I6(n:Nat)(rows:List R)(f:Fl)(t:TL):AM n rows f t= [ti (n:Int),T.aa 3 f.er (dC rows),T.aa 1 f.eb (cS t.ah),bQ (bW t.mp),bK f.ec (bI 0 t.al),T.aa 8 f.ev (dO t.val),T.aa 4 f.eg (aR t.aB)]:=rfl
section
variable {n:Nat} {rows:List R} (er:Bool)
theorem Tk(ro:gm n rows)(k:Nat)(w:k < rows.length)(eb ec:Bool)(val:List Vl){res:List T}
  (r:Or tM [LR er rows,I (n:Int),r0,r0,r0,LR er rows,I (rows.length:Int),I ((k+1:Nat):Int)]
   (S1 n rows ⟨er,false,false,false,true⟩ ⟨iM n (k+1),iF n (k+1),(rows.take (k+1)).map (gD n rows.length),val,[]⟩)=some res):
  ∀(xs:List Int) (j:Nat),(bf rows k).of.drop j=xs->j<=(bf rows k).of.length->
  Or xt [LR er rows,I (n:Int),r0,r0,r0,I (k:Int),AV.own (Id.c 1),LR er rows,I (rows.length:Int),I (k:Int),aa (bf rows k).e (bf rows k).of,I ((bf rows k).of.length:Int),I (j:Int)]
   [ab.box [I (n:Int),LR er rows,AV.own (Id.c 2),AV.own (Id.c 3),AV.own (Id.c 4),AV.own (Id.c 5),AV.own (Id.c 6)],
    ab.sl false 4 false (aR (((bf rows k).of.take j).map iN++List.replicate (n+rows.length - j) none)),ab.sl false 1 eb (cS (iM n k)),ab.mp false [Ck.i .i64] (Ck.i .i64) (bW (iF n k)),
    ab.rows ec 1 0 4 ((rows.take k).map (gD n rows.length)).length (bI 0 ((rows.take k).map (gD n rows.length))),ab.sl false 8 false (dO val),ab.sl false 4 true (aR [])]=some res:=by
 have M:=ro.sz.n;have hm:=ro.sz.m;have b:=jt w;have J:=ro.len _ b;intro xs;induction xs with
 | nil=>
  intro j h q;have s:=bu h;have h1:¬(j:Int) < ((bf rows k).of.length:Int):=by omega
  have A:(bf rows k).of.take j= (bf rows k).of:=Vh s;have E:i64.wrap ((n:Int)+ (k:Int))= ((n+k:Nat):Int):=by rw [Go.Aev.wr (by omega)];omega
  have g:=jw (bs:=24) (n:=((rows.take (k+1)).map (gD n rows.length)).length) (by simp;omega);have H:bL 8 ((cS (iM n k)).length+ [[ti ((n+k:Nat):Int)]].length)=some ():=jw (by simp [cS,iM];omega);have d:(rows.take k).map (gD n rows.length)++ [gD n rows.length (bf rows k)]= (rows.take (k+1)).map (gD n rows.length):=by rw [W6,pg w,Wg];rfl
  have C:(bf rows k).of.map iN++List.replicate (n+rows.length - j) none=gD n rows.length (bf rows k):=by unfold gD;rw [show j= (bf rows k).of.length by omega]
  have hb:cS (iM n k)++ [[ti ((n+k:Nat):Int)]]=cS (iM n (k+1)):=by rw [LL,NK]
  have D:gY [ti ((n+k:Nat):Int)] (ti (k:Int)) (bW (iF n k))=bW (iF n (k+1)):=by rw [zB,Jx]
  rw [A,C];have o:=P7 ((rows.take k).map (gD n rows.length)) (gD n rows.length (bf rows k));rw [d] at o;have x:((rows.take k).map (gD n rows.length)).length+1= ((rows.take (k+1)).map (gD n rows.length)).length:=by rw [<-d];simp
  refine ak ?_;rw [GP];simp only [ai,↓reduceIte,Int.reduceBEq,Int.reduceEq,GD,h1,cW,cX,g,E,H,hb,D,o,x,next k (by omega)];exact r
 | cons c xs F=>
  intro j h q;obtain⟨p,K,B⟩:=bq h;have h1:(j:Int) < ((bf rows k).of.length:Int):=by omega
  have u: 0<=(j:Int):=by omega
  have L:=ro.of _ b c (Uj p);have G:=fK c (by omega);have a:(((bf rows k).of.take j).map iN).length=j:=by simp;omega
  have y:List.replicate (n+rows.length - j) (none:Nm)=none::List.replicate (n+rows.length - (j+1)) none:=by rw [show n+rows.length - j= (n+rows.length - (j+1))+1 by omega,U7]
  have v:(j:Int) < ((((bf rows k).of.take j).map iN++none::List.replicate (n+rows.length - (j+1)) none).length:Int):=by rw [Vu,a];simp;omega
  have g:=kj (l:=((bf rows k).of.take j).map iN++none::List.replicate (n+rows.length - (j+1)) none) (i:=j) (by omega) (iN c);rw [qF _ _ _ _ _ a] at g;have z:((bf rows k).of.take j).map iN++iN c::List.replicate (n+rows.length - (j+1)) none= ((bf rows k).of.take (j+1)).map iN++List.replicate (n+rows.length - (j+1)) none:=by rw [W6,p,Wg];simp
  rw [z] at g;have:=F (j+1) B (by omega);rw [y];refine ak ?_;rw [GP];simp only [ai,↓reduceIte,Int.reduceBEq,Int.reduceEq,GD,h1,u,v,and_self,cW,jg p,G,bH,g,next j (by omega)];exact this
theorem Tl(ro:gm n rows):∀(d k:Nat),d+k=rows.length->
  Or tM [LR er rows,I (n:Int),r0,r0,r0,LR er rows,I (rows.length:Int),I (k:Int)]
   (S1 n rows ⟨er,decide (k=0),decide (k=0),false,true⟩ ⟨iM n k,iF n k,(rows.take k).map (gD n rows.length),List.replicate (n+rows.length) (none,none),[]⟩)=some (AM n rows (oW er rows) (eO n rows)):=by
 have q:=ro.sz.n;have hm:=ro.sz.m;intro d;induction d with
 | zero=>
  intro k j;obtain rfl:k=rows.length:=by omega
  have h1:¬(rows.length:Int) < (rows.length:Int):=by omega
  have h:rows.take rows.length=rows:=Vh (UC _);rw [h,I6];refine ak ?_;rw [GO];simp only [ai,↓reduceIte,Int.reduceBEq,Int.reduceEq,GD,h1,cF,cH];rfl
 | succ d p=>
  intro k j;have b:k < rows.length:=by omega
  have h1:(k:Int) < (rows.length:Int):=by omega
  have c: 0<=(k:Int):=by omega
  have l:=ic (pg b);have o:i64.wrap ((n:Int)+ (rows.length:Int))= ((n+rows.length:Nat):Int):=by rw [Go.Aev.wr (by omega)];omega
  have g:=qe (k:=n+rows.length) (by omega);have i:((n+rows.length:Nat):Int).toNat=n+rows.length:=by omega
  have e:decide (k+1=0)=false:=by simp
  have a:=p (k+1) (by omega);rw [e] at a;have:=Tk er ro k b (decide (k=0)) (decide (k=0)) _ a (bf rows k).of 0 rfl (Xr _);simp only [Xb,Xf,Uq,Vv] at this;refine ak ?_;rw [GO];simp only [ai,↓reduceIte,Int.reduceBEq,Int.reduceEq,GD,h1,c,and_self,cR,l,o,g,i,rT,cW];exact this
theorem Tj(ro:gm n rows):Or (.call 38) [LR er rows,I (n:Int)] []=some (AM n rows (oW er rows) (eO n rows)):=by
 have d:=ro.sz.n;have hm:=ro.sz.m;have c:i64.wrap ((n:Int)+ (rows.length:Int))= ((n+rows.length:Nat):Int):=by rw [Go.Aev.wr (by omega)];omega
 have a:=qe (k:=n+rows.length) (by omega);have b:((n+rows.length:Nat):Int).toNat=n+rows.length:=by omega
 have:=Tl er ro rows.length 0 rfl;refine ak ?_;rw [N1];simp only [ai,↓reduceIte,Int.reduceBEq,Int.reduceEq,GD,cR,c,a,b,NP];exact this
end
open Go Go.Aev Go.Aev.Gen Go.Aev.Wd Go.Aev.Tb
abbrev LF:=Int×Vl×Bool
def lQ(n:Nat)(rows:List R)(x:Nat)(a:Nm):Vl:=if nv a < 0 then iD n rows x else bP n rows x
def iZ(n:Nat)(rows:List R)(x:Nat)(a:Nm):Bool:=if nv a < 0 then fb n rows x else !decide (x < n)
def fE(n:Nat)(rows:List R)(t:TL)(x:Nat)(a:Nm):Vl:=fB (nX (lQ n rows x a) (aI t.val x)) (ov (iN 1) a)
def eU(n:Nat)(rows:List R)(t:TL)(x:Nat)(a:Nm)(i:Int)(s:LF):Prop:=
 (if s.2.2=true then eF s.2.1 (fE n rows t x a) else 1) > 0\/((if s.2.2=true then eF s.2.1 (fE n rows t x a) else 1)=0/\i>=0/\(s.1 < 0\/(x:Int) < (t.ah.getD s.1.toNat 0:Nat)))
instance (n:Nat) (rows:List R) (t:TL) (x:Nat) (a:Nm) (i:Int) (s:LF):Decidable (eU n rows t x a i s):=by unfold eU;infer_instance
def dB(n:Nat)(rows:List R)(t:TL)(x:Nat)(a:Nm)(i:Int)(s:LF):LF:=
 if nv a=0\/iZ n rows x a=false then s else if eU n rows t x a i s then(i,fE n rows t x a,true) else s
abbrev S5(n:Nat)(rows:List R)(f:Fl)(t:TL)(s:LF):List ab:=
 [ab.box [AV.ref (Id.c 4) 0],ab.box [B s.2.2],xQ s.2.1,ab.box [I s.1],
  ab.box [I (n:Int),AV.t (T.aa 3 f.er (dC rows)),AV.own (Id.c 5),AV.own (Id.c 6),AV.own (Id.c 7),AV.own (Id.c 8),AV.own (Id.c 9)],ab.sl false 1 f.eb (cS t.ah),ab.mp false [Ck.i .i64] (Ck.i .i64) (bW t.mp),
   ab.rows f.ec 1 0 4 t.al.length (bI 0 t.al),ab.sl false 8 f.ev (dO t.val),ab.sl false 4 f.eg (aR t.aB)]
theorem EL{n:Nat}{rows:List R}(sz:Sz n rows){x:Nat}(b:x < n+rows.length)(a:Nm):VB 20 (lQ n rows x a):=by
 unfold lQ;split
 .exact uU sz b
 .exact qK sz b
theorem sG(q:Rat):q.num.sign < 0↔q < 0:=by
 constructor
 .intro h;refine Rat.not_le.1 λb=> ?_;have h1:=Xz.2 b;rcases Int.lt_or_eq_of_le h1 with a | a
  .rw [Vj a] at h;exact absurd h (by decide)
  .rw [<-a] at h;exact absurd h (by decide)
 .intro h;have h1:¬0<=q.num:=λh1=>by have:=Xz.1 h1;grind
  rw [Vx (by omega)];decide
section
variable {n:Nat} {rows:List R} (f:Fl) (t:TL)
set_option maxRecDepth 20000 in
theorem KS{mv Z ms:Nat}(sz:Sz n rows)(P:cL n rows.length t)(hq:∀u,u < n+rows.length->VB mv (aI t.val u)){x:Nat}(V:x < n+rows.length){a:Nm}(ha:QN Z a)(i:Int)(s:LF)
  (hs:VB ms s.2.1) (hl:s.1 < (rows.length:Int)) (h1s: 20<=mv) (h2s:mv+20+1+ (2+Z)<=3000) (h3s:ms<=3000):
  Or (.call 124) [I (x:Int),EN a,I i,AV.ref (Id.c 0) 0,AV.ref (Id.c 1) 0,AV.ref (Id.c 2) 0,AV.ref (Id.c 3) 0] (S5 n rows f t s)=
   some (T.aw::tb (dB n rows t x a i s).2.2:: (VC (dB n rows t x a i s).2.1++ti (dB n rows t x a i s).1::gh n rows f t)):=by
 obtain⟨ln,iA,H⟩:=s;have hn:=sz.n;have hm:=sz.m;have B:=td sz f.er f.eb f.ev f.eg t.ah t.val t.aB V;have D:=vU sz f.er f.eb f.ev f.eg t.ah t.val t.aB V;have ks:=lH a;have w: 0<=(x:Int)/\(x:Int) < (t.val.length:Int):=by have:=P.v;omega
 have G:=np (n8 (val:=t.val) (i:=x) (by have:=P.v;omega));rw [cE] at B D;simp only [Uo,Uq] at B D;rw [eI,cE];simp only [Uo,Uq];by_cases Q:nv a=0
 .have j:=(fY (nv a)).2 Q;have e:dB n rows t x a i (ln,iA,H)= (ln,iA,H):=by unfold dB;rw [if_pos (.inl Q)]
  have X:¬(0:Int) < 0:=by omega
  rw [e];refine ak ?_;rw [iz];cases L:decide (x < n)
  .simp only [bT,ai,↓reduceIte,Int.reduceBEq,Int.reduceEq,GD,cf,B,ks,j,L,X,UE,Uz,cF,cH]
  .simp only [bT,ai,↓reduceIte,Int.reduceBEq,Int.reduceEq,GD,cf,B,ks,j,L,X,UE,Uz,cF,cH]
 .have j:¬(nv a).num.sign=0:=λh'=>Q ((fY _).1 h');have y:=fK 1 (by omega);have q1:QN 2 (iN 1):=eu (by decide);obtain⟨z,Y⟩:=mO q1 ha (by omega) Q;have qb:=EL sz V a;have k:=vR qb (hq x V) (by omega);have qs:=sW qb (hq x V);have g:=pq (b:=ov (iN 1) a) qs Y (by omega);have qd:VB (20+mv+1+ (2+Z)) (fE n rows t x a):=nF (b:=ov (iN 1) a) qs Y;have d:=vQ hs qd (by omega);rw [show fB (nX (lQ n rows x a) (aI t.val x)) (ov (iN 1) a)=fE n rows t x a from rfl] at g;rw [cE] at k g;have q:¬(0:Int) > 0:=by decide
  have r:¬(0:Int) < 0:=by decide
  have W:(1:Int) > 0:=by decide
  by_cases K:nv a < 0
  .have p:(nv a).num.sign < 0:=(sG _).2 K;have S:lQ n rows x a=iD n rows x:=by unfold lQ;rw [if_pos K]
   have M:iZ n rows x a= (fb n rows x):=by unfold iZ;rw [if_pos K]
   rw [S] at k g;cases F:(fb n rows x)
   .have e:dB n rows t x a i (ln,iA,H)= (ln,iA,H):=by unfold dB;rw [if_pos (.inr (by rw [M,F]))]
    rw [e];rw [F] at D;refine ak ?_;rw [iz];simp only [bT,ai,↓reduceIte,Int.reduceBEq,Int.reduceEq,GD,cf,B,D,ks,j,w,G,and_self,cN,df,k,y,z,g,d,UE,Uz,cF,cH,UK,Va,q,r,cE,p,decide_true,decide_false]
   .have e:dB n rows t x a i (ln,iA,H)=if eU n rows t x a i (ln,iA,H) then(i,fE n rows t x a,true) else(ln,iA,H):=by
     unfold dB;rw [if_neg];rintro(h | h)
     .exact Q h
     .rw [M,F] at h;cases h
    rw [F] at D;cases H
    .rw [e,if_pos (by unfold eU;exact .inl (by simp))];refine ak ?_;rw [iz];simp only [bT,ai,↓reduceIte,Int.reduceBEq,Int.reduceEq,GD,cf,B,D,ks,j,w,G,and_self,cN,df,k,y,z,g,d,UE,Uz,cF,cH,UK,Va,q,r,cE,p,decide_true,decide_false,W]
    .by_cases C:eF iA (fE n rows t x a) > 0
     .rw [e,if_pos (by unfold eU;exact .inl (by simpa using C))];refine ak ?_;rw [iz];simp only [bT,ai,↓reduceIte,Int.reduceBEq,Int.reduceEq,GD,cf,B,D,ks,j,w,G,and_self,cN,df,k,y,z,g,d,UE,Uz,cF,cH,UK,Va,q,r,cE,p,decide_true,decide_false,C]
     .by_cases o:eF iA (fE n rows t x a)=0
      .by_cases A:i>=0
       .by_cases E:ln < 0
        .rw [e,if_pos (by unfold eU;exact .inr ⟨by simpa using o,A, .inl E⟩)];refine ak ?_;rw [iz];simp only [bT,ai,↓reduceIte,Int.reduceBEq,Int.reduceEq,GD,cf,B,D,ks,j,w,G,and_self,cN,df,k,y,z,g,d,UE,Uz,cF,cH,UK,Va,q,r,cE,p,decide_true,decide_false,o,A,E]
        .obtain⟨l,rfl⟩:∃l:Nat,ln= (l:Int):=⟨ln.toNat,by omega⟩;have U:l < t.ah.length:=by rw [P.b];simp only at hl;omega
         have O: 0<=(l:Int)/\(l:Int) < (t.ah.length:Int):=by omega
         have N:=jJ (iY (t:=t) U);have hbl:t.ah.getD ((l:Int)).toNat 0=t.st.ah l:=rfl;by_cases J:(x:Int) < (t.st.ah l:Int)
         .rw [e,if_pos (by unfold eU;exact .inr ⟨by simpa using o,A, .inr J⟩)];refine ak ?_;rw [iz];simp only [bT,ai,↓reduceIte,Int.reduceBEq,Int.reduceEq,GD,cf,B,D,ks,j,w,G,and_self,cN,df,k,y,z,g,d,UE,Uz,cF,cH,UK,Va,q,r,cE,p,decide_true,decide_false,o,A,E,O,N,J]
         .rw [e,if_neg (by unfold eU;rintro(h | ⟨_,_,h | h⟩);exact C (by simpa using h);exact E h;exact J h)];refine ak ?_;rw [iz];simp only [bT,ai,↓reduceIte,Int.reduceBEq,Int.reduceEq,GD,cf,B,D,ks,j,w,G,and_self,cN,df,k,y,z,g,d,UE,Uz,cF,cH,UK,Va,q,r,cE,p,decide_true,decide_false,o,A,E,O,N,J]
       .rw [e,if_neg (by unfold eU;rintro(h | ⟨_,h,_⟩);exact C (by simpa using h);exact A h)];refine ak ?_;rw [iz];simp only [bT,ai,↓reduceIte,Int.reduceBEq,Int.reduceEq,GD,cf,B,D,ks,j,w,G,and_self,cN,df,k,y,z,g,d,UE,Uz,cF,cH,UK,Va,q,r,cE,p,decide_true,decide_false,o,A]
      .rw [e,if_neg (by unfold eU;rintro(h | ⟨h,_⟩);exact C (by simpa using h);exact o (by simpa using h))];refine ak ?_;rw [iz];simp only [bT,ai,↓reduceIte,Int.reduceBEq,Int.reduceEq,GD,cf,B,D,ks,j,w,G,and_self,cN,df,k,y,z,g,d,UE,Uz,cF,cH,UK,Va,q,r,cE,p,decide_true,decide_false,C,o]
  .have p:¬(nv a).num.sign < 0:=λh=>K ((sG _).1 h);have S:lQ n rows x a=bP n rows x:=by unfold lQ;rw [if_neg K]
   have M:iZ n rows x a= (!decide (x < n)):=by unfold iZ;rw [if_neg K]
   rw [S] at k g;cases F:(!decide (x < n))
   .have e:dB n rows t x a i (ln,iA,H)= (ln,iA,H):=by unfold dB;rw [if_pos (.inr (by rw [M,F]))]
    rw [e];have L:decide (x < n)=true:=by cases h:decide (x < n);rw [h] at F;cases F;rfl
    rw [L] at B;refine ak ?_;rw [iz];simp only [bT,ai,↓reduceIte,Int.reduceBEq,Int.reduceEq,GD,cf,B,D,ks,j,w,G,and_self,cN,df,k,y,z,g,d,UE,Uz,cF,cH,UK,Va,q,r,cE,p,decide_true,decide_false]
   .have e:dB n rows t x a i (ln,iA,H)=if eU n rows t x a i (ln,iA,H) then(i,fE n rows t x a,true) else(ln,iA,H):=by
     unfold dB;rw [if_neg];rintro(h | h)
     .exact Q h
     .rw [M,F] at h;cases h
    have L:decide (x < n)=false:=by cases h:decide (x < n);rfl;rw [h] at F;cases F
    rw [L] at B;cases H
    .rw [e,if_pos (by unfold eU;exact .inl (by simp))];refine ak ?_;rw [iz];simp only [bT,ai,↓reduceIte,Int.reduceBEq,Int.reduceEq,GD,cf,B,D,ks,j,w,G,and_self,cN,df,k,y,z,g,d,UE,Uz,cF,cH,UK,Va,q,r,cE,p,decide_true,decide_false,W]
    .by_cases C:eF iA (fE n rows t x a) > 0
     .rw [e,if_pos (by unfold eU;exact .inl (by simpa using C))];refine ak ?_;rw [iz];simp only [bT,ai,↓reduceIte,Int.reduceBEq,Int.reduceEq,GD,cf,B,D,ks,j,w,G,and_self,cN,df,k,y,z,g,d,UE,Uz,cF,cH,UK,Va,q,r,cE,p,decide_true,decide_false,C]
     .by_cases o:eF iA (fE n rows t x a)=0
      .by_cases A:i>=0
       .by_cases E:ln < 0
        .rw [e,if_pos (by unfold eU;exact .inr ⟨by simpa using o,A, .inl E⟩)];refine ak ?_;rw [iz];simp only [bT,ai,↓reduceIte,Int.reduceBEq,Int.reduceEq,GD,cf,B,D,ks,j,w,G,and_self,cN,df,k,y,z,g,d,UE,Uz,cF,cH,UK,Va,q,r,cE,p,decide_true,decide_false,o,A,E]
        .obtain⟨l,rfl⟩:∃l:Nat,ln= (l:Int):=⟨ln.toNat,by omega⟩;have U:l < t.ah.length:=by rw [P.b];simp only at hl;omega
         have O: 0<=(l:Int)/\(l:Int) < (t.ah.length:Int):=by omega
         have N:=jJ (iY (t:=t) U);have hbl:t.ah.getD ((l:Int)).toNat 0=t.st.ah l:=rfl;by_cases J:(x:Int) < (t.st.ah l:Int)
         .rw [e,if_pos (by unfold eU;exact .inr ⟨by simpa using o,A, .inr J⟩)];refine ak ?_;rw [iz];simp only [bT,ai,↓reduceIte,Int.reduceBEq,Int.reduceEq,GD,cf,B,D,ks,j,w,G,and_self,cN,df,k,y,z,g,d,UE,Uz,cF,cH,UK,Va,q,r,cE,p,decide_true,decide_false,o,A,E,O,N,J]
         .rw [e,if_neg (by unfold eU;rintro(h | ⟨_,_,h | h⟩);exact C (by simpa using h);exact E h;exact J h)];refine ak ?_;rw [iz];simp only [bT,ai,↓reduceIte,Int.reduceBEq,Int.reduceEq,GD,cf,B,D,ks,j,w,G,and_self,cN,df,k,y,z,g,d,UE,Uz,cF,cH,UK,Va,q,r,cE,p,decide_true,decide_false,o,A,E,O,N,J]
       .rw [e,if_neg (by unfold eU;rintro(h | ⟨_,h,_⟩);exact C (by simpa using h);exact A h)];refine ak ?_;rw [iz];simp only [bT,ai,↓reduceIte,Int.reduceBEq,Int.reduceEq,GD,cf,B,D,ks,j,w,G,and_self,cN,df,k,y,z,g,d,UE,Uz,cF,cH,UK,Va,q,r,cE,p,decide_true,decide_false,o,A]
      .rw [e,if_neg (by unfold eU;rintro(h | ⟨h,_⟩);exact C (by simpa using h);exact o (by simpa using h))];refine ak ?_;rw [iz];simp only [bT,ai,↓reduceIte,Int.reduceBEq,Int.reduceEq,GD,cf,B,D,ks,j,w,G,and_self,cN,df,k,y,z,g,d,UE,Uz,cF,cH,UK,Va,q,r,cE,p,decide_true,decide_false,C,o]
end
open Go Go.Aev Go.Aev.Gen Go.Aev.Wd Go.Aev.Tb
def gU(n:Nat)(rows:List R)(t:TL)(v:Nat)(aj:Int):List Nat->List (List Nm)->Nat->LF->LF
 | b::bs,x::xs,i,s=>gU n rows t v aj bs xs (i+1) (dB n rows t b (tm (aq x v) (iN aj)) (i:Int) s)
 | _,_,_,s=>s
def bo(n:Nat)(rows:List R)(t:TL)(v:Nat)(aj:Int):LF:=gU n rows t v aj t.ah t.al 0 (dB n rows t v (iN aj) (-1) (-1,(none,none),false))
abbrev Bg:ab:=ab.box [B false,AV.t (T.str (ByteArray.mk #[])),B false,AV.t (T.str (ByteArray.mk #[])),B false,AV.t (T.str (ByteArray.mk #[])),B false,AV.t (T.str (ByteArray.mk #[]))]
abbrev S6(n:Nat)(rows:List R)(f:Fl)(t:TL)(s:LF):List ab:=
 [ab.box [I (n:Int),AV.t (T.aa 3 f.er (dC rows)),AV.own (Id.c 1),AV.own (Id.c 2),AV.own (Id.c 11),AV.own (Id.c 4),AV.own (Id.c 5)],ab.sl false 1 f.eb (cS t.ah),ab.mp false [Ck.i .i64] (Ck.i .i64) (bW t.mp),
  ab.dead,ab.sl false 8 f.ev (dO t.val),ab.sl false 4 f.eg (aR t.aB),ab.box [AV.ref (Id.c 0) 0],Bg,ab.box [I s.1],ab.box [B s.2.2],xQ s.2.1,ab.rows f.ec 1 0 4 t.al.length (bI 0 t.al)]
theorem D6(m:Nat):VB m (none,none):=⟨iI _,iI _⟩
theorem x7{n:Nat}{rows:List R}(sz:Sz n rows){t:TL}{mv c M:Nat}{x:Nat}(l:x < n+rows.length)(k:VB mv (aI t.val x)){a:Nm}(j:QN c a)(h1:mv+c+25<=M)(m:M<=6000)(i:Int){s:LF}(hs:VB M s.2.1):
  VB M (dB n rows t x a i s).2.1:=by
 unfold dB;by_cases h:nv a=0\/iZ n rows x a=false
 .rw [if_pos h];exact hs
 .rw [if_neg h];split
  .have g:nv a≠0:=λe=>h (.inl e);have q1:QN 2 (iN 1):=eu (by decide);obtain⟨_,d⟩:=mO q1 j (by omega) g;exact(nF (b:=ov (iN 1) a) (sW (EL sz l a) k) d).mono (by omega)
  .exact hs
theorem Bp(n:Nat)(rows:List R)(t:TL)(x:Nat)(a:Nm)(i:Int)(s:LF):(dB n rows t x a i s).1=i\/(dB n rows t x a i s).1=s.1:=by
 unfold dB;split
 .exact .inr rfl
 .split
  .exact .inl rfl
  .exact .inr rfl
section
variable {n:Nat} {rows:List R} (f:Fl) (t:TL)
set_option maxRecDepth 20000 in
theorem TO{mv mc:Nat}(sz:Sz n rows)(d:cL n rows.length t)(F:∀u,u < n+rows.length->VB mv (aI t.val u))(Q:∀x∈t.al,∀y∈x,QN mc y)
  {v:Nat} (hv:v < n+rows.length) {aj:Int} (H:aj=1\/aj= -1) (w: 20<=mv) (V:mv+mc+40<=2000):
  ∀(bs:List Nat) (xs:List (List Nm)) (i:Nat) (s:LF),t.ah.drop i=bs->t.al.drop i=xs->VB (mv+mc+40) s.2.1->s.1 < (rows.length:Int)->
  Or AK [I (v:Int),I aj,AV.ref (Id.c 6) 0,AV.ref (Id.c 7) 0,AV.ref (Id.c 8) 0,AV.ref (Id.c 9) 0,AV.ref (Id.c 10) 0,AV.fn 124 [] [AV.ref (Id.c 6) 0,AV.ref (Id.c 9) 0,AV.ref (Id.c 10) 0,AV.ref (Id.c 8) 0],AV.own (Id.c 1),I (t.ah.length:Int),I (i:Int)] (S6 n rows f t s)=
   some (ti (gU n rows t v aj bs xs i s).1:: (VC (gU n rows t v aj bs xs i s).2.1++tb (gU n rows t v aj bs xs i s).2.2::gh n rows f t)):=by
 have hn:=sz.n;have hm:=sz.m;have W:=d.b;have X:=d.c;intro bs;induction bs with
 | nil=>
  intro xs i s hb o h j;have h1:¬(i:Int) < (t.ah.length:Int):=by have:=bu hb;omega
  have E:gU n rows t v aj [] xs i s=s:=by cases xs <;> rfl
  rw [E,eI,cE];refine ak ?_;rw [GX];simp only [ai,↓reduceIte,Int.reduceBEq,Int.reduceEq,GD,h1,cF,cH];rfl
 | cons b bs S=>
  intro xs i s hb o h j;obtain⟨q,Z,P⟩:=bq hb;cases xs with
  | nil=>have:=bu o;omega
  | cons x xs=>
   obtain⟨p,x2,U⟩:=bq o;have Y:=d.r x (Uj p);have g:=d.lt b (Uj q);have h1:(i:Int) < (t.ah.length:Int):=by omega
   have C: 0<=(i:Int):=by omega
   have D:(i:Int) < (t.al.length:Int):=by omega
   have G: 0<=(v:Int)/\(v:Int) < (x.length:Int):=by omega
   have z:az t.al i=x:=by have:=jc (al:=t.al) (i:=i) (by omega);rw [p] at this;exact(Vb this).symm
   have B:=lf (al:=t.al) (i:=i) (by omega);have A:=jL (al:=t.al) (i:=i) (by omega);rw [z] at B A;have J:=fK aj (by rcases H with rfl | rfl <;> decide);have O:QN 2 (iN aj):=by rcases H with rfl | rfl <;> exact eu (by decide)
   have L:QN mc (aq x v):=Q x (Uj p) _ (Uj (gA (by omega)));have K:=l9 L O (by omega);have N:QN (mc+2) (tm (aq x v) (iN aj)):=L.mul O;have a:=KS (n:=n) (rows:=rows) f t sz d F g N (i:Int) s h j w (by omega) (by omega);have T:=x7 sz (t:=t) g (F b g) N (M:=mv+mc+40) (by omega) (by omega) (i:Int) h;have k:(dB n rows t b (tm (aq x v) (iN aj)) (i:Int) s).1 < (rows.length:Int):=by
    rcases Bp n rows t b (tm (aq x v) (iN aj)) (i:Int) s with e | e <;> rw [e]
    .omega
    .exact j
   have:=S xs (i+1) (dB n rows t b (tm (aq x v) (iN aj)) (i:Int) s) P U T k;rw [gU];generalize dB n rows t b (tm (aq x v) (iN aj)) (i:Int) s=s2 at a this⊢;rw [eI,cE] at a;simp only [Uo,Uq] at a;refine ak ?_;rw [GX];simp only [ai,↓reduceIte,Int.reduceBEq,Int.reduceEq,GD,eW,cf,h1,C,D,and_self,df,jJ q,cX,B,A,G,bH,cu (gA (l:=x) (i:=v) (by omega)),J,K,a,eV,eG,Ut,next i (by omega)];exact this
set_option maxRecDepth 20000 in
theorem KW{mv mc:Nat}(sz:Sz n rows)(g:cL n rows.length t)(h:∀u,u < n+rows.length->VB mv (aI t.val u))(q:∀x∈t.al,∀y∈x,QN mc y)
  {v:Nat} (hv:v < n+rows.length) {aj:Int} (k:aj=1\/aj= -1) (d: 20<=mv) (l:mv+mc+40<=2000):
  Or (.call 86) [r0,I (v:Int),I aj] (S1 n rows f t)=
   some (ti (bo n rows t v aj).1:: (VC (bo n rows t v aj).2.1++tb (bo n rows t v aj).2.2::gh n rows f t)):=by
 have w:=sz.n;have hm:=sz.m;have o:=fK aj (by rcases k with rfl | rfl <;> decide);have p:QN 2 (iN aj):=by rcases k with rfl | rfl <;> exact eu (by decide)
 have a:=KS (n:=n) (rows:=rows) f t sz g h hv p (-1) (-1,(none,none),false) (D6 2) (by show(-1:Int) < _;omega) d (by omega) (by omega);have r:=x7 sz (t:=t) hv (h v hv) p (M:=mv+mc+40) (by omega) (by omega) (-1) (s:=(-1,(none,none),false)) (D6 _);have j:(dB n rows t v (iN aj) (-1) (-1,(none,none),false)).1 < (rows.length:Int):=by
  rcases Bp n rows t v (iN aj) (-1) (-1,(none,none),false) with e | e <;> rw [e]
  .omega
  .show(-1:Int) < _;omega
 have:=TO (n:=n) (rows:=rows) f t sz g h q hv k d l t.ah t.al 0 _ rfl rfl r j;unfold bo;generalize dB n rows t v (iN aj) (-1) (-1,(none,none),false)=z at a this⊢;rw [eI,cE] at a;simp only [Uo,Uq] at a;have hz:xQ ((-1:Int),((none,none):Vl),false).2.1=Bg:=rfl;have b:Or (.call 124) [I (v:Int),EN (iN aj),I (-1),AV.ref (Id.c 0) 0,AV.ref (Id.c 1) 0,AV.ref (Id.c 2) 0,AV.ref (Id.c 3) 0]
  [ab.box [AV.ref (Id.c 4) 0],ab.box [B false],Bg,ab.box [I (-1)],
  ab.box [I (n:Int),AV.t (T.aa 3 f.er (dC rows)),AV.own (Id.c 5),AV.own (Id.c 6),AV.own (Id.c 7),AV.own (Id.c 8),AV.own (Id.c 9)],ab.sl false 1 f.eb (cS t.ah),ab.mp false [Ck.i .i64] (Ck.i .i64) (bW t.mp),
   ab.rows f.ec 1 0 4 t.al.length (bI 0 t.al),ab.sl false 8 f.ev (dO t.val),ab.sl false 4 f.eg (aR t.aB)]=_:=a
 refine ak ?_;rw [Ou];simp only [ai,↓reduceIte,Int.reduceBEq,Int.reduceEq,GD,eW,cf,o,b,eV,eG,Ut,cX,df];exact this
def iG(t:TL)(v:Nat)(aj:Int)(k:Nat):Nm:=match cg k t.mp with
 | some i=>tm (aq (az t.al i) v) (iN aj)
 | none=>none
def jQ(n:Nat)(t:TL)(v:Nat)(aj:Int):List Nm:=if v < n then((List.range n).map (iG t v aj)).set v (iN aj) else(List.range n).map (iG t v aj)
theorem TQ{mc:Nat}(p:cL n rows.length t)(M:n<=12)(hm:rows.length<=40)(E:∀x∈t.al,∀y∈x,QN mc y)(B:∀k i,cg k t.mp=some i->i < rows.length)
  {v:Nat} (hv:v < n+rows.length) {aj:Int} (C:aj=1\/aj= -1) (s:mc+2<=6300):
  ∀(d k:Nat),d+k=n->
  Or tP [r0,I (v:Int),I aj,AV.own (Id.c 6),I (n:Int),I (k:Int)] (S1 n rows f t++ [ab.sl false 4 false (aR ((List.range k).map (iG t v aj)++List.replicate d none))])=
   some (T.aa 4 false (aR (jQ n t v aj))::gh n rows f t):=by
 have L:=p.c;have r:=fK aj (by rcases C with rfl | rfl <;> decide);have K:QN 2 (iN aj):=by rcases C with rfl | rfl <;> exact eu (by decide)
 intro d;induction d with
 | zero=>
  intro k F;obtain rfl:k=n:=by omega
  have h1:¬(k:Int) < (k:Int):=by omega
  simp only [VW,Ve];rw [eI];unfold jQ;by_cases q:v < k
  .have a:(v:Int) < (k:Int):=by omega
   have j: 0<=(v:Int)/\(v:Int) < (((List.range k).map (iG t v aj)).length:Int):=by simp;omega
   have m:=kj (l:=(List.range k).map (iG t v aj)) (i:=v) (by simp;omega) (iN aj);rw [if_pos q];refine ak ?_;simp only [Uo,Uq];rw [yE];simp only [ai,↓reduceIte,Int.reduceBEq,Int.reduceEq,GD,h1,a,j,and_self,bH,r,m,cF,cH]
  .have a:¬(v:Int) < (k:Int):=by omega
   rw [if_neg q];refine ak ?_;simp only [Uo,Uq];rw [yE];simp only [ai,↓reduceIte,Int.reduceBEq,Int.reduceEq,GD,h1,a,cF,cH]
 | succ d H=>
  intro k F;have h1:(k:Int) < (n:Int):=by omega
  have A: 0<=(k:Int):=by omega
  have g:((List.range k).map (iG t v aj)).length=k:=by simp
  have o:(k:Int) < (((List.range k).map (iG t v aj)++List.replicate (d+1) none).length:Int):=by rw [Vu,g];simp;omega
  have:=H (k+1) (by omega);rw [Yi,Wg] at this;simp only [U5,Xf,UR,Uo,Uq] at this;have b:=uF k t.mp;cases e:cg k t.mp with
  | none=>
   have h:iG t v aj k=none:=by unfold iG;rw [e]
   rw [e] at b;rw [h] at this;refine ak ?_;simp only [Uo,Uq];rw [yE];simp only [ai,↓reduceIte,Int.reduceBEq,Int.reduceEq,GD,h1,b,XQ,Va,Ys,next k (by omega)];rw [U7];exact this
  | some i=>
   have hi:=B k i e;have h:iG t v aj k=tm (aq (az t.al i) v) (iN aj):=by unfold iG;rw [e]
   rw [e] at b;rw [h] at this;have G:=p.row hi;have z: 0<=(i:Int)/\(i:Int) < (t.al.length:Int):=by omega
   have w:=lf (al:=t.al) (i:=i) (by omega);have u:=jL (al:=t.al) (i:=i) (by omega);have j: 0<=(v:Int)/\(v:Int) < ((az t.al i).length:Int):=by omega
   have J:QN mc (aq (az t.al i) v):=E _ (Uj (jc (by omega))) _ (Uj (gA (by omega)));have D:=l9 J K s;have m:=kj (l:=(List.range k).map (iG t v aj)++List.replicate (d+1) none) (i:=k) (by omega) (tm (aq (az t.al i) v) (iN aj));rw [U7,qF _ _ _ _ _ g] at m;rw [U7] at o⊢;refine ak ?_;simp only [Uo,Uq];rw [yE];simp only [ai,↓reduceIte,Int.reduceBEq,Int.reduceEq,GD,h1,A,o,b,Wp,UK,Yt,z,and_self,cX,w,u,j,bH,cu (gA (l:=az t.al i) (i:=v) (by omega)),r,D,m,next k (by omega)];exact this
theorem KX{mc:Nat}(d:cL n rows.length t)(h:n<=12)(hm:rows.length<=40)(g:∀x∈t.al,∀y∈x,QN mc y)(b:∀k i,cg k t.mp=some i->i < rows.length)
  {v:Nat} (hv:v < n+rows.length) {aj:Int} (j:aj=1\/aj= -1) (a:mc+2<=6300):
  Or (.call 87) [r0,I (v:Int),I aj] (S1 n rows f t)=some (T.aa 4 false (aR (jQ n t v aj))::gh n rows f t):=by
 have:=TQ (n:=n) (rows:=rows) f t d h hm g b hv j a n 0 rfl;have c:=qe (k:=n) (by omega);have e:((n:Nat):Int).toNat=n:=by omega
 simp only [Uo,Uq,List.range_zero,Xf] at this;refine ak ?_;rw [Ov];simp only [ai,↓reduceIte,Int.reduceBEq,Int.reduceEq,GD,c,e,rT,bH,We];exact this
end
end Go.Aev.Wd.Lg
