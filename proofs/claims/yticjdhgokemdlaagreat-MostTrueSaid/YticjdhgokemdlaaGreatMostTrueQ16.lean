import Derived.Test.YticjdhgokemdlaaGreatMostTrueQ15
set_option linter.all false
namespace Go.Aev.Wd.Lg
open Go Go.Aev Go.Aev.Gen Go.Aev.Wd Go.Aev.Tb Go.IntKind
theorem WF.congr{n m:Nat}{A:Nat->Nat->Rat}{ah bas':Nat->Nat}{c c':Nat->Nat->Rat}(h1:∀i,i < m->ah i=bas' i)(h2:∀i k,i < m->k < n+m->c i k=c' i k)
  (w:WF n m A ah c):WF n m A bas' c' where
 hb:=λi hi=>by rw [<-h1 i hi];exact w.hb i hi
 inj:=λi j hi hj e=>w.inj i j hi hj (by rw [h1 i hi,h1 j hj];exact e)
 z:=λi j hi hj=>by rw [<-h1 j hj,<-h2 i _ hi (w.hb j hj)];exact w.z i j hi hj
 same:=λy=>by
  rw [<-w.same y];unfold A5;constructor
  .intro h i hi;rw [h1 i hi,h i hi];exact ef (λk hk=>by rw [h2 i k hi hk])
  .intro h i hi;rw [<-h1 i hi,h i hi];exact ef (λk hk=>by rw [h2 i k hi hk])
 nb:=by
  obtain⟨nb,n1,n2,n3,n4,n5⟩:=w.nb;refine⟨nb,n1,n2,λr i hr hi=>by rw [<-h1 i hi];exact n3 r i hr hi,λv hv=> ?_,n5⟩;rcases n4 v hv with h | ⟨i,hi,e⟩
  .exact .inl h
  .exact .inr ⟨i,hi,by rw [<-h1 i hi];exact e⟩
theorem jg{t:TL}{i:Nat}(hi:i < t.ah.length):t.ah[i]? =some (t.st.ah i):=by show _=some (t.ah.getD i 0);rw [U7,Vb hi];rfl
theorem Rv{l:List Nat}(h:l.Nodup){i j:Nat}{b:Nat}(hi:l[i]? =some b)(e:l[j]? =some b):i=j:=by
 have h1:i < l.length:=(Vh.1 hi).1;have c:j < l.length:=(Vh.1 e).1;have a:l[i]=b:=(Vh.1 hi).2;have e2:l[j]=b:=(Vh.1 e).2;rcases Nat.lt_trichotomy i j with g | heq | d
 .exact absurd (by rw [a,e2]) (Xy.1 h i j h1 c g)
 .exact heq
 .exact absurd (by rw [a,e2]) (Xy.1 h j i c h1 d)
theorem vG{l:List Nm}{i:Nat}(h:i < l.length)(x:Nm)(j:Nat):aq (l.set i x) j=if j=i then x else aq l j:=by
 unfold aq;rw [U7,U7,WE];by_cases a:j=i
 .subst a;simp [h]
 .have:¬i=j:=λe=>a e.symm;simp [a,this]
theorem MB{l:List (List Nm)}{i:Nat}(h:i < l.length)(x:List Nm)(j:Nat):az (l.set i x) j=if j=i then x else az l j:=by
 unfold az;rw [U7,U7,WE];by_cases a:j=i
 .subst a;simp [h]
 .have:¬i=j:=λe=>a e.symm;simp [a,this]
theorem Rq{l:List Nm}(g:Nm->Nm){k:Nat}(h:k < l.length):aq (l.map g) k=g (aq l k):=by unfold aq;rw [U7,U7,VS,Vb h];rfl
theorem JY{x:List Nm}{v b k:Nat}(hv:v < x.length)(hb:b < x.length)(c:k < x.length)(d:b≠v):nv (aq (cH x v b) k)=gP (λj=>nv (aq x j)) b v k:=by
 unfold cH gP;rw [vG (by simp;exact hb),vG (by simp;exact hv),Rq _ c];by_cases h1:k=b
 .rw [if_pos h1,if_pos h1];rfl
 .rw [if_neg h1,if_neg h1];by_cases a:k=v
  .rw [if_pos a,if_pos a];rfl
  .rw [if_neg a,if_neg a];rfl
theorem KQ(c:Nm):∀(b a:List Nm),(iQ c b a).length=a.length
 | [],_=>by simp [iQ]
 | _::_,[]=>by simp [iQ]
 | r::b,y::a=>by simp [iQ,KQ c b a]
theorem KP(c:Nm):∀(b a:List Nm) (k:Nat),k < a.length->a.length<=b.length->nv (aq (iQ c b a) k)=nv (aq a k)+nv c * nv (aq b k)
 | [],a,k,h,d=>by simp at d;rw [d] at h;simp at h
 | _::_,[],k,h,_=>by simp at h
 | r::b,y::a,0,_,_=>by
  rw [iQ];by_cases e:nv r=0
  .rw [if_pos e];show nv y=nv y+nv c * nv r;rw [e];grind
  .rw [if_neg e];rfl
 | r::b,y::a,k+1,h,d=>by rw [iQ];exact KP c b a k (by simpa using h) (by simpa using d)
theorem Ld(row:List Nm)(v:Nat)(l:List Nm):(jC row v l).length=l.length:=by
 unfold jC;split
 .rfl
 .rw [KQ,V6]
theorem Lc{row l:List Nm}{v k:Nat}(e:row.length=l.length)(hv:v < l.length)(c:k < l.length)(d:nv (aq row v)=0):
  nv (aq (jC row v l) k)=kH (λj=>nv (aq row j)) v (λj=>nv (aq l j)) k:=by
 unfold jC kH;by_cases b:nv (aq l v)=0
 .rw [if_pos b];by_cases a:k=v
  .rw [if_pos a,a];exact b
  .rw [if_neg a];show nv (aq l k)=nv (aq l k)+nv (aq l v) * nv (aq row k);rw [b];grind
 .rw [if_neg b,KP _ _ _ _ (by rw [V6];exact c) (by rw [V6];omega),vG hv];by_cases a:k=v
  .rw [if_pos a,if_pos a,a,d,vK];grind
  .rw [if_neg a,if_neg a]
theorem KR(row:List Nm)(v i:Nat):∀(xs:List (List Nm)) (k j:Nat),j < xs.length->az (gA row v i k xs) j=if k+j=i then az xs j else jC row v (az xs j)
 | [],_,_,h=>by simp at h
 | x::xs,k,0,_=>by rw [gA];rfl
 | x::xs,k,j+1,h=>by rw [gA];have:=KR row v i xs (k+1) j (by simpa using h);rw [show k+ (j+1)=k+1+j by omega];exact this
theorem Dz(v:Nat)(w:Vl):∀(bs:List Nat) (xs:List (List Nm)) (val:List Vl) (u:Nat),(∀b∈bs,b < val.length)->u∉bs->aI (hZ v w bs xs val) u=aI val u
 | [],_,_,_,_,_=>by simp [hZ]
 | _::_,[],_,_,_,_=>by simp [hZ]
 | b::bs,x::xs,val,u,c,d=>by
  rw [hZ,Dz v w bs xs _ u (λg a=>by rw [V6];exact c g (Va _ a)) (λh=>d (Va _ h)),
   qY (c b U9),if_neg (λe=>d (by rw [e];exact U9))]
theorem I8(v:Nat)(w:Vl):∀(bs:List Nat) (xs:List (List Nm)) (val:List Vl) (j b:Nat),(∀b∈bs,b < val.length)->bs.Nodup->bs[j]? =some b->bs.length=xs.length->
  aI (hZ v w bs xs val) b=kR (aI val b) (fM w (aq (az xs j) v))
 | [],_,_,_,_,_,_,h,_=>by simp at h
 | _::_,[],_,_,_,_,_,_,h=>by simp at h
 | c::bs,x::xs,val,0,b,g,k,h,m=>by simp only [Xn,U5] at h;subst h;have a:=(WA.1 k).1;rw [hZ,Dz v w bs xs _ c (λi d=>by rw [V6];exact g i (Va _ d)) a,qY (g c U9),if_pos rfl];rfl
 | c::bs,x::xs,val,j+1,b,g,k,h,m=>by simp only [Xo] at h;have a:=WA.1 k;have l:b≠c:=λe=>a.1 (by rw [<-e];exact U8 h);rw [hZ,I8 v w bs xs _ j b (λi d=>by rw [V6];exact g i (Va _ d)) a.2 h (by simpa using m),qY (g c U9),if_neg l];rfl
structure cr (n:Nat) (rows:List R) (t:TL):Prop where
 aZ:cR n rows.length t
 ok:(aM n rows).OK t.st
 ln:∀i b,t.ah[i]? =some b->cv b t.mp=some i
 vA:∀v,v∉t.ah->cv v t.mp=none
 ky:oE t.mp
theorem MQ{n:Nat}{rows:List R}(ro:gv n rows)(i k:Nat)(hi:i < rows.length):bz 1000000 ((aM n rows).A i k):=by
 refine bz.int ?_;by_cases a:k < (bc rows i).of.length
 .have:=ro.of _ (jy hi) ((bc rows i).of.getD k 0) (by
   rw [U7,Vb a];exact W2 a)
  omega
 .rw [U7,V8 (by omega)];decide
theorem yn{a:Nat}{D q:Rat}(c:D≠0)(h1:bz (2 ^ a) D)(e:bz (2 ^ a) (D * q)):QB a q:=by
 obtain⟨d,b,i⟩:=h1;obtain⟨u,e2,j⟩:=e;have g:d≠0:=λh=>c (by rw [b,h];rfl);have:q=Rat.divInt u d:=by rw [Rat.divInt_eq_div,<-e2,<-b,WM];have:=YH _ c;grind
 rw [this];exact QB.divInt g j i
theorem FA{K:Nat}(c: 1<=K):∀{a b:Nat},a<=b->bd K a<=bd K b
 | a,0,h=>by
  obtain rfl:a=0:=by omega
  exact Vs _
 | a,b+1,h=>by
  by_cases e:a=b+1
  .subst e;exact Vs _
  .have:=FA c (a:=a) (b:=b) (by omega);rw [bd];have h1:bd K b<=K * bd K b:=Nat.le_mul_of_pos_left _ (by omega);have d:K * bd K b<=(b+1) * (K * bd K b):=Nat.le_mul_of_pos_left _ (by omega);omega
theorem Mm{n:Nat}(h:n<=12):bd 1000000 n<=2 ^ 270:=VU (FA (by decide) h) (by decide+kernel)
theorem cr.den{n:Nat}{rows:List R}{t:TL}(ro:gv n rows)(h:cr n rows t):∃D:Rat,D≠0/\bz (2 ^ 270) D/\
  (∀i v,i < rows.length->v < n+rows.length->bz (2 ^ 270) (D * nv (aq (az t.al i) v)))/\
  (∀(g G:Nat->Rat),(∀j,j < rows.length->g (t.st.ah j)=0)->(∀k,k < n->bz 1000000 (G k))->
   (∀y,gr n rows.length (aM n rows).A y->sm (n+rows.length) (λk=>g k * y k)=sm n (λk=>G k * y k))->∀v,v < n+rows.length->bz (2 ^ 270) (D * g v)):=by
 obtain⟨D,h1,d,e,l⟩:=h.ok.wf.den (K:=1000000) (by decide) (λi k hi _=>MQ ro i k hi);have hb:=Mm ro.sz.n;exact⟨D,h1,d.mono hb,λi v hi hv=>(e i v hi hv).mono hb,λg G a b c v hv=>(l g G a b c v hv).mono hb⟩
theorem cr.al{n:Nat}{rows:List R}{t:TL}(ro:gv n rows)(h:cr n rows t):∀x∈t.al,∀y∈x,QN 270 y:=by
 obtain⟨D,h1,b,d,_⟩:=h.den ro;intro x a y hy;obtain⟨i,hi,e⟩:=WU a;obtain⟨k,j,e2⟩:=WU hy;have m:=h.aZ.c;have o:=h.aZ.r x a;have g:az t.al i=x:=by unfold az;rw [U7,Vb hi];exact e
 have l:aq x k=y:=by unfold aq;rw [U7,Vb j];exact e2
 have:=d i k (by omega) (by omega);rw [g,l] at this;exact yn h1 b this
theorem Ig{n:Nat}{rows:List R}(ro:gv n rows)(v:Nat)(hv:v < n+rows.length):bz 1000000 ((aM n rows).fx v).1/\bz 1000000 ((aM n rows).fx v).2:=by
 unfold Sy.fx;show bz 1000000 (if v < n then(0,0) else(aM n rows).up v:Rat×Rat).1/\bz 1000000 (if v < n then(0,0) else(aM n rows).up v:Rat×Rat).2;by_cases h:v < n
 .rw [if_pos h];exact⟨bz.zero _,bz.zero _⟩
 .rw [if_neg h];have:=ro.sz.tv _ (jy (rows:=rows) (i:=v - n) (by omega));refine⟨bz.int (z:=(bc rows (v - n)).tv) (by omega), ?_⟩;unfold Sy.up;dsimp only;split
  .exact⟨-1,rfl,by decide⟩
  .exact bz.zero _
set_option exponentiation.threshold 400 in
theorem LJ{n:Nat}{rows:List R}{t:TL}(h:cr n rows t){D:Rat}(o:bz (2 ^ 270) D)
  (p:∀i v,i < rows.length->v < n+rows.length->bz (2 ^ 270) (D * nv (aq (az t.al i) v))) (sz:Sz n rows) {y:Nat->Rat} (hy:gr n rows.length (aM n rows).A y)
  (g:∀v,v < n+rows.length->(∀i,i < rows.length->t.st.ah i≠v)->bz 1000000 (y v)) {v:Nat} (hv:v < n+rows.length):bz (2 ^ 300) (D * y v):=by
 have q:=sz.n;have hm:=sz.m;by_cases hb:∃i,i < rows.length/\t.st.ah i=v
 .obtain⟨i,hi,e⟩:=hb;have:=(h.ok.wf.same y).2 hy i hi;rw [<-e,this,<-wC];have hs:bz ((n+rows.length) * (2 ^ 270 * 1000000)) (sm (n+rows.length) (λk=>D * (t.st.c i k * y k))):=by
   refine Et (λk l=> ?_);by_cases d:∃j,j < rows.length/\t.st.ah j=k
   .obtain⟨j,b,e'⟩:=d;rw [<-e',h.ok.wf.z i j hi b,WQ,WT];exact bz.zero _
   .have a:=(p i k hi l).mul (g k l (λj b e'=>d ⟨j,b,e'⟩));rw [<-Rat.mul_assoc];exact a
  refine hs.mono ?_;have:(n+rows.length) * (2 ^ 270 * 1000000)<=52 * (2 ^ 270 * 1000000):=Wj _ (by omega);exact VU this (by decide+kernel)
 .have a:=o.mul (g v hv (λj b e'=>hb ⟨j,b,e'⟩));exact a.mono (by decide+kernel)
theorem cr.val{n:Nat}{rows:List R}{t:TL}(ro:gv n rows)(h:cr n rows t):∀u,u < n+rows.length->VB 300 (aI t.val u):=by
 obtain⟨D,h1,a,b,_⟩:=h.den ro;intro u c;have hm: 2 ^ 270<=2 ^ 300:=by decide+kernel
 refine⟨yn h1 (a.mono hm) (LJ h a b ro.sz h.ok.hy (λv hv hb=> ?_) c),yn h1 (a.mono hm) (LJ h a b ro.sz h.ok.hz (λv hv hb=> ?_) c)⟩
 .have:=congrArg Prod.fst (h.ok.fix v hv hb);show bz _ (t.st.val v).1;rw [this];exact(Ig ro v hv).1
 .have:=congrArg Prod.snd (h.ok.fix v hv hb);show bz _ (t.st.val v).2;rw [this];exact(Ig ro v hv).2
open Go Go.Aev Go.Aev.Gen Go.Aev.Wd Go.Aev.Tb
theorem kf{t:TL}{n m:Nat}(h:cR n m t){i:Nat}(hi:i < m):t.st.ah i∈t.ah:=U8 (jg (by rw [h.b];exact hi))
theorem l9{t:TL}{n m:Nat}(h:cR n m t){b:Nat}(hb:b∈t.ah):∃i,i < m/\t.st.ah i=b/\t.ah[i]? =some b:=by
 obtain⟨i,hi,e⟩:=WU hb;have h1:t.ah[i]? =some b:=by rw [Vb hi,e]
 have a:=jg (t:=t) hi;rw [h1] at a;exact⟨i,by rw [<-h.b];exact hi,(V5 a).symm,h1⟩
theorem cr.z7{n:Nat}{rows:List R}{t:TL}(h:cr n rows t){i v:Nat}(hi:i < rows.length)(a:nv (aq (az t.al i) v)≠0):v∉t.ah:=by intro hb;obtain⟨j,b,e,_⟩:=l9 h.aZ hb;exact a (by rw [<-e];exact h.ok.wf.z i j hi b)
theorem DA{n m:Nat}{t:TL}(h:cR n m t)(v:Nat)(w:Vl){u:Nat}(hv:v < n+m)(a:u∉t.ah):aI (eC v w t).val u=if u=v then kR (aI t.val v) w else aI t.val u:=by show aI (hZ v w t.ah t.al (t.val.set v _)) u=_;rw [Dz v w t.ah t.al _ u (λb hb=>by rw [V6,h.v];exact h.lt b hb) a,qY (by rw [h.v];exact hv)]
theorem z5{n m:Nat}{t:TL}(h:cR n m t)(v:Nat)(w:Vl){j b:Nat}(hv:v < n+m)(d:v∉t.ah)(a:t.ah[j]? =some b):
  aI (eC v w t).val b=kR (aI t.val b) (fM w (aq (az t.al j) v)):=by
 show aI (hZ v w t.ah t.al (t.val.set v _)) b=_;rw [I8 v w t.ah t.al _ j b (λb hb=>by rw [V6,h.v];exact h.lt b hb) h.nd a (by rw [h.b,h.c]),qY (by rw [h.v];exact hv),
  if_neg (λe=>d (by rw [<-e];exact U8 a))]
theorem QQ{n:Nat}{rows:List R}{t:TL}(h:cr n rows t)(v:Nat)(w:Vl)(hv:v < n+rows.length)(m:v∉t.ah):
  gr n rows.length (aM n rows).A (eC v w t).st.y/\gr n rows.length (aM n rows).A (eC v w t).st.z:=by
 have key:∀(g:Vl->Rat) (q:Rat),(∀a,g (kR a w)=g a+q)->(∀a k,g (kR a (fM w k))=g a+q * nv k)->gr n rows.length (aM n rows).A (λu=>g (aI t.val u))->
   gr n rows.length (aM n rows).A (λu=>g (aI (eC v w t).val u)):=by
  intro g q s x r;refine(h.ok.wf.same _).1 (λj o=> ?_);have B:=(h.ok.wf.same _).2 r j o;have hb:=jg (t:=t) (i:=j) (by rw [h.aZ.b];exact o);show g (aI (eC v w t).val (t.st.ah j))=_;rw [z5 h.aZ v w hv m hb,x];have p:g (aI t.val (t.st.ah j))=sm (n+rows.length) (λk=>t.st.c j k * g (aI t.val k)):=B;rw [p];have e:sm (n+rows.length) (λk=>t.st.c j k * g (aI (eC v w t).val k))=sm (n+rows.length) (λk=>1 * (t.st.c j k * g (aI t.val k))+q * (if k=v then t.st.c j k else 0)):=by
   refine ef (λk C=> ?_);by_cases l:k∈t.ah
   .obtain⟨i,hi,e,_⟩:=l9 h.aZ l;have hz:t.st.c j k=0:=by rw [<-e];exact h.ok.wf.z j i o hi
    have d:k≠v:=λe'=>m (by rw [<-e'];exact l);rw [hz,if_neg d];grind
   .rw [DA h.aZ v w hv l];by_cases d:k=v
    .subst d;rw [if_pos rfl,if_pos rfl,s];grind
    .rw [if_neg d,if_neg d];grind
  show _=sm (n+rows.length) (λk=>t.st.c j k * g (aI (eC v w t).val k));rw [e,mw,oe hv];show _+q * nv (aq (az t.al j) v)=1 * _+q * nv (aq (az t.al j) v);grind
 exact⟨key (λa=>nv a.1) (nv w.1) (λa=>rfl) (λa k=>rfl) h.ok.hy,key (λa=>nv a.2) (nv w.2) (λa=>rfl) (λa k=>rfl) h.ok.hz⟩
theorem R2{n m:Nat}{t:TL}(h:cR n m t){i v b:Nat}(row:List Nm)(eg:Bool)(hi:i < m)(j:Nat):(fB i v b row eg t).st.ah j=ic t.st.ah i v j:=by
 show(t.ah.set i v).getD j 0=if j=i then v else t.ah.getD j 0;rw [U7,U7,WE];have hb:=h.b;by_cases a:j=i
 .subst a;simp [hb,hi]
 .have:¬i=j:=λe=>a e.symm;simp [a,this]
theorem R3{n m:Nat}{t:TL}(h:cR n m t){i v:Nat}(eg:Bool)(hi:i < m)(hv:v < n+m)(e:t.st.ah i≠v){j k:Nat}(o:j < m)(g:k < n+m):
  (fB i v (t.st.ah i) (cH (az t.al i) v (t.st.ah i)) eg t).st.c j k=pg t.st.c t.st.ah i v j k:=by
 have l:=h.row hi;have s:=h.row o;have q:=h.c;have p:=h.lt _ (kf h hi);show nv (aq (az ((gA (cH (az t.al i) v (t.st.ah i)) v i 0 t.al).set i (cH (az t.al i) v (t.st.ah i))) j) k)=_;rw [MB (by rw [En];omega)];unfold pg;have r:(cH (az t.al i) v (t.st.ah i)).length=n+m:=by unfold cH;simp;exact l
 have d:∀k,k < n+m->nv (aq (cH (az t.al i) v (t.st.ah i)) k)=gP (t.st.c i) (t.st.ah i) v k:=λk g=>JY (by omega) (by omega) (by omega) e;by_cases a:j=i
 .rw [if_pos a,if_pos a];exact d k g
 .rw [if_neg a,if_neg a,KR _ _ _ _ _ _ (by omega),if_neg (by omega)];rw [Lc (by omega) (by omega) (by omega) (by rw [d v hv];exact vR e)];unfold kH;by_cases b:k=v
  .rw [if_pos b,if_pos b]
  .rw [if_neg b,if_neg b];show nv (aq (az t.al j) k)+nv (aq (az t.al j) v) * nv (aq (cH (az t.al i) v (t.st.ah i)) k)=_;rw [d k g];rfl
theorem R4{n m:Nat}{t:TL}(h:cR n m t){i v b:Nat}(row:List Nm)(eg:Bool)(hi:i < m)(hv:v < n+m)(hvb:v∉t.ah)(hrow:row.length=n+m):cR n m (fB i v b row eg t) where
 b:=by show(t.ah.set i v).length=m;rw [V6];exact h.b
 c:=by show((gA row v i 0 t.al).set i row).length=m;rw [V6,En];exact h.c
 r:=λx hx=>by
  have hx:x∈(gA row v i 0 t.al).set i row:=hx;rcases VR hx with hx | hx
  .have gen:∀(xs:List (List Nm)) (k:Nat),(∀x∈xs,x.length=n+m)->∀x∈gA row v i k xs,x.length=n+m:=by
    intro xs;induction xs with
    | nil=>intro k _ x hx;simp [gA] at hx
    | cons y ys ih=>
     intro k hl x hx;rw [gA] at hx;rcases Vk.1 hx with hx | hx
     .rw [hx];split
      .exact hl y U9
      .rw [Ld];exact hl y U9
     .exact ih (k+1) (λx hx=>hl x (Va _ hx)) x hx
   exact gen t.al 0 h.r x hx
  .rw [hx];exact hrow
 v:=h.v
 lt:=λb hb=>by
  rcases VR hb with hb | hb
  .exact h.lt b hb
  .rw [hb];exact hv
 nd:=by
  show(t.ah.set i v).Nodup;refine Xy.2 (λa b ha hb hab=> ?_);rw [List.getElem_set,List.getElem_set];have ha':a < t.ah.length:=by simpa using ha
  have hb':b < t.ah.length:=by simpa using hb
  split <;> split
  .omega
  .exact λe=>hvb (by rw [e];exact W2 hb')
  .exact λe=>hvb (by rw [<-e];exact W2 ha')
  .exact Xy.1 h.nd a b ha' hb' hab
theorem cr.JX{n:Nat}{rows:List R}{t:TL}(h:cr n rows t){i v:Nat}(w:Vl)(eg:Bool)(hi:i < rows.length)(hv:v < n+rows.length)(s:nv (aq (az t.al i) v)≠0)
  (z:vv (aI (eC v w t).val (t.st.ah i))= (aM n rows).fx (t.st.ah i)):
  cr n rows (fB i v (t.st.ah i) (cH (az t.al i) v (t.st.ah i)) eg (eC v w t))/\
   ∀j,(fB i v (t.st.ah i) (cH (az t.al i) v (t.st.ah i)) eg (eC v w t)).st.ah j=ic t.st.ah i v j:=by
 have l:=h.z7 hi s;have A:=kf h.aZ hi;have C:t.st.ah i≠v:=λe=>l (by rw [<-e];exact A);have p:cR n rows.length (eC v w t):=h.aZ.mv v w;have E:=h.aZ.row hi;have D:(cH (az t.al i) v (t.st.ah i)).length=n+rows.length:=by unfold cH;simp;exact E
 have F:cR n rows.length (fB i v (t.st.ah i) (cH (az t.al i) v (t.st.ah i)) eg (eC v w t)):=R4 p _ _ hi hv l D;have d:∀j,(fB i v (t.st.ah i) (cH (az t.al i) v (t.st.ah i)) eg (eC v w t)).st.ah j=ic t.st.ah i v j:=λj=>R2 p (b:=t.st.ah i) (cH (az t.al i) v (t.st.ah i)) eg hi j;obtain⟨G,H⟩:=QQ h v w hv l;refine⟨⟨F,⟨?_,G,H,λu m x=> ?_⟩, ?_, ?_, ?_⟩,d⟩
 .refine WF.congr (λj _=>(d j).symm) (λj k a J=> ?_) (US h.ok.wf (i:=i) (v:=v) hi hv s);exact(R3 p eg hi hv C a J).symm
 .have q:u≠v:=λe=>x i hi (by rw [d];unfold ic;rw [if_pos rfl,e]);show vv (aI (eC v w t).val u)=_;by_cases g:u∈t.ah
  .obtain⟨j,a,e,_⟩:=l9 h.aZ g;by_cases r:j=i
   .rw [<-e,r];exact z
   .exact absurd (by rw [d];unfold ic;rw [if_neg r,e]) (x j a)
  .rw [DA h.aZ v w hv g,if_neg q];exact h.ok.fix u m (λj a e=>g (by rw [<-e];exact kf h.aZ a))
 .intro j b a;have a:(t.ah.set i v)[j]? =some b:=a;show cv b (jv v i (kV (t.st.ah i) t.mp))=some j;rw [zY,zX _ _ _ h.ky];rw [WE] at a;by_cases c:i=j
  .rw [if_pos c] at a;have o:i < t.ah.length:=by rw [h.aZ.b];exact hi
   rw [if_pos o] at a;obtain rfl:=V5 a;rw [if_pos rfl,c]
  .rw [if_neg c] at a;have B:=U8 a;rw [if_neg (λe=>l (by rw [<-e];exact B)),if_neg (λe=>c (Rv h.aZ.nd (jg (by rw [h.aZ.b];exact hi)) (by rw [a,e])))];exact h.ln j b a
 .intro u m;have m:u∉t.ah.set i v:=m;show cv u (jv v i (kV (t.st.ah i) t.mp))=none;have o:i < t.ah.length:=by rw [h.aZ.b];exact hi
  have q:u≠v:=λe=>m (by rw [e];exact List.mem_set o _);rw [zY,if_neg q,zX _ _ _ h.ky];split
  .rfl
  .rename_i y;refine h.vA u (λhm=>m ?_);obtain⟨j,a,e,I⟩:=l9 h.aZ hm;have c:i≠j:=λe'=>y (by rw [<-e,e']);refine U8 (i:=j) ?_;rw [Yr c];exact I
 .exact Dd _ _ _ (IM _ _ h.ky)
theorem KV{w:Int}(c:w=1\/w= -1){q:Rat}(e:q≠0):w * q.num.sign≠0/\(w * q.num.sign > 0↔0 < (w:Rat) * q):=by
 have d:q.num≠0:=λh=>e (Zc.1 h);rcases Int.lt_or_gt_of_ne d with h | h
 .have hs:=Wv h;have b:q < 0:=by
   refine Rat.not_le.1 λa=> ?_;have:=X0.2 a;omega
  rw [hs];rcases c with rfl | rfl
  .refine⟨by decide,⟨λh=>absurd h (by decide),λh=> ?_⟩⟩;have:((1:Int):Rat)=1:=rfl;rw [this] at h;exact absurd h (by grind)
  .refine⟨by decide,⟨λ_=> ?_,λ_=>by decide⟩⟩;have:((-1:Int):Rat)= -1:=rfl;rw [this];grind
 .have hs:=Wh h;have b: 0 < q:=by
   have h1: 0<=q:=X0.1 (by omega);grind
  rw [hs];rcases c with rfl | rfl
  .refine⟨by decide,⟨λ_=> ?_,λ_=>by decide⟩⟩;have:((1:Int):Rat)=1:=rfl;rw [this];grind
  .refine⟨by decide,⟨λh=>absurd h (by decide),λh=> ?_⟩⟩;have:((-1:Int):Rat)= -1:=rfl;rw [this] at h;exact absurd h (by grind)
theorem uA{n:Nat}{rows:List R}(t:TL){w:Int}(e:w=1\/w= -1){q:Rat}(g:q≠0){v:Nat}:
  fq n rows t.val v (w * q.num.sign)=true↔(aM n rows).Can t.st ((w:Rat) * q) v:=by
 obtain⟨h1,d⟩:=KV e g;have i:(w:Rat) * q≠0:=by
  rcases e with rfl | rfl
  .have:((1:Int):Rat)=1:=rfl;rw [this];grind
  .have:((-1:Int):Rat)= -1:=rfl;rw [this];grind
 rw [BZ t v h1];unfold Sy.Can;by_cases b:w * q.num.sign > 0
 .have a:=d.1 b;rw [if_pos b];exact⟨λh=>⟨λ_=>h,λc=>absurd c (by grind)⟩,λh=>h.1 a⟩
 .have a:¬0 < (w:Rat) * q:=λh=>b (d.2 h);rw [if_neg b];exact⟨λh=>⟨λc=>absurd c a,λ_=>h⟩,λh=>h.2 (by grind)⟩
theorem cr.step{n:Nat}{rows:List R}{t:TL}(h:cr n rows t){i v:Nat}(eg:Bool)(hi:i < rows.length)(hv:v < n+rows.length)
  (c:(aM n rows).gD t.st (t.st.ah i)) (r:aW n rows t.val (bF n rows t (t.st.ah i)) (az t.al i) 0=some v) (l:∀j,j < rows.length->t.st.ah j < t.st.ah i->¬(aM n rows).gD t.st (t.st.ah j)):
  cr n rows (gU n rows eg (t.st.ah i) (bF n rows t (t.st.ah i)) i v t)/\(aM n rows).Step t.st (gU n rows eg (t.st.ah i) (bF n rows t (t.st.ah i)) i v t).st i v:=by
 obtain⟨_,_,e3,o,x⟩:=kW r;rw [Ws] at e3 o;have w:=h.z7 hi e3;have a:¬t.st.ah i < n:=Xu.2 c.1;have z:=jg (t:=t) (i:=i) (by rw [h.aZ.b];exact hi);have g:bF n rows t (t.st.ah i)=1\/bF n rows t (t.st.ah i)= -1:=by unfold bF;split;exact .inr rfl;exact .inl rfl
 have s:vv (if bF n rows t (t.st.ah i) > 0 then iL n rows (t.st.ah i) else bU n rows (t.st.ah i))= (aM n rows).fx (t.st.ah i):=by
  unfold Sy.fx;show _=if t.st.ah i < n then((0:Rat),(0:Rat)) else _;rw [if_neg a];by_cases d:eY ((aM n rows).up (t.st.ah i)) (t.st.val (t.st.ah i))
  .have:bF n rows t (t.st.ah i)= -1:=by unfold bF;rw [if_pos d]
   rw [this,if_neg (by decide)];exact wK a
  .have:bF n rows t (t.st.ah i)=1:=by unfold bF;rw [if_neg d]
   rw [this,if_pos (by decide)];rcases c.2 with k | ⟨k,_⟩
   .exact absurd k d
   .exact vD (l8.2 ⟨a,k⟩)
 have m:vv (aI (eC v (py n rows (t.st.ah i) (bF n rows t (t.st.ah i)) i v t) t).val (t.st.ah i))= (aM n rows).fx (t.st.ah i):=by
  rw [z5 h.aZ v _ hv w z,<-s];unfold py;generalize (if bF n rows t (t.st.ah i) > 0 then iL n rows (t.st.ah i) else bU n rows (t.st.ah i))=to at *
  have D:nv (aq (az t.al i) v) * (nv (aq (az t.al i) v))⁻¹ =1:=YH _ e3;refine Ys ?_ ?_
  .show nv (aI t.val (t.st.ah i)).1+ (nv to.1 - nv (aI t.val (t.st.ah i)).1) * (((1:Int):Rat) / nv (aq (az t.al i) v)) * nv (aq (az t.al i) v)=nv to.1;rw [WM];have:((1:Int):Rat)=1:=rfl;rw [this];grind
  .show nv (aI t.val (t.st.ah i)).2+ (nv to.2 - nv (aI t.val (t.st.ah i)).2) * (((1:Int):Rat) / nv (aq (az t.al i) v)) * nv (aq (az t.al i) v)=nv to.2;rw [WM];have:((1:Int):Rat)=1:=rfl;rw [this];grind
 obtain⟨B,C⟩:=h.JX (i:=i) (v:=v) (py n rows (t.st.ah i) (bF n rows t (t.st.ah i)) i v t) eg hi hv e3 m;refine⟨B,⟨hi,hv,c,l,e3, ?_,λu A e=> ?_,funext C⟩⟩
 .rw [AZ];exact(uA t g e3).1 o
 .rw [AZ];intro y;have h1:=x u (Ye _) A (by rw [Ws];exact e);rw [Ws] at h1;have p:=(uA (n:=n) (rows:=rows) t g (q:=nv (aq (az t.al i) u)) (v:=u) e).2 y;rw [h1] at p;cases p
open Go Go.Aev Go.Aev.Gen Go.Aev.Wd Go.Aev.Tb
def cI(n:Nat)(rows:List R)(eg:Bool):Nat->TL->Option (List Nm)×Bool×TL
 | p,t=>if(iU n rows t.val t.ah).1 < 0 then(none,true,t) else
  match p with
  | 0=>(none,false,t)
  | p+1=>match aW n rows t.val (iU n rows t.val t.ah).2 (az t.al ((cv (iU n rows t.val t.ah).1.toNat t.mp).getD 0)) 0 with
   | none=>(some (jw n rows.length (iU n rows t.val t.ah).2 (iU n rows t.val t.ah).1.toNat (az t.al ((cv (iU n rows t.val t.ah).1.toNat t.mp).getD 0))),true,t)
   | some v=>cI n rows eg p (gU n rows eg (iU n rows t.val t.ah).1.toNat (iU n rows t.val t.ah).2 ((cv (iU n rows t.val t.ah).1.toNat t.mp).getD 0) v t)
def e9:Option (List Nm)->T
 | none=>T.aJ true
 | some l=>T.aa 4 false (aS l)
theorem pU{n:Nat}{rows:List R}{t:TL}(h:cr n rows t):
  ((∀j,j < rows.length->¬(aM n rows).gD t.st (t.st.ah j))/\iU n rows t.val t.ah= (-1,0))\/
  ∃i,i < rows.length/\(aM n rows).gD t.st (t.st.ah i)/\(∀j,j < rows.length->t.st.ah j < t.st.ah i->¬(aM n rows).gD t.st (t.st.ah j))/\
   iU n rows t.val t.ah= ((t.st.ah i:Int),bF n rows t (t.st.ah i))/\cv (t.st.ah i) t.mp=some i:=by
 rcases FD (n:=n) (rows:=rows) t t.ah with⟨h1,a⟩ | ⟨b,h1,a,d,g⟩
 .exact .inl ⟨λj c=>h1 _ (kf h.aZ c),a⟩
 .obtain⟨i,hi,e,k⟩:=l9 h.aZ h1;subst e;exact .inr ⟨i,hi,a,λj c l hb=>by have:=d _ (kf h.aZ c) hb;omega,g,h.ln i _ k⟩
theorem qm{n:Nat}{rows:List R}{t:TL}(eg:Bool)(p:Nat)(h:iU n rows t.val t.ah= (-1,0)):cI n rows eg p t= (none,true,t):=by
 cases p with
 | zero=>rw [cI,h,if_pos (by decide)]
 | succ p=>rw [cI,h,if_pos (by decide)]
theorem sF{n:Nat}{rows:List R}{t:TL}(eg:Bool){b:Nat}{w:Int}(h:iU n rows t.val t.ah= ((b:Int),w)):cI n rows eg 0 t= (none,false,t):=by rw [cI,h,if_neg (by show ¬(b:Int) < 0;omega)]
theorem sE{n:Nat}{rows:List R}{t:TL}(eg:Bool)(p:Nat){b i:Nat}{w:Int}(h:iU n rows t.val t.ah= ((b:Int),w))(a:cv b t.mp=some i):
  cI n rows eg (p+1) t=match aW n rows t.val w (az t.al i) 0 with
   | none=>(some (jw n rows.length w b (az t.al i)),true,t)
   | some v=>cI n rows eg p (gU n rows eg b w i v t):=by
 have hb:((b:Nat):Int).toNat=b:=by omega
 rw [cI,h,if_neg (by show ¬(b:Int) < 0;omega)];simp only [hb,a,Vx]
theorem JD{n:Nat}{rows:List R}(t:TL){w:Int}(c:w=1\/w= -1){row:List Nm}(h:aW n rows t.val w row 0=none){v:Nat}(hv:v < n):nv (aq row v)=0:=by refine YD λa=> ?_;have h1:=zf h v (Ye _) (by rw [Ws];exact a);rw [Ws] at h1;have b:=(uA (n:=n) (rows:=rows) t c (q:=nv (aq row v)) (v:=v) a).2 ⟨λ_=> .inl hv,λ_=> .inl hv⟩;rw [h1] at b;cases b
theorem AY(n:Nat)(rows:List R)(t:TL)(b:Nat):bF n rows t b=1\/bF n rows t b= -1:=by unfold bF;split;exact .inr rfl;exact .inl rfl
theorem Ua{n:Nat}{rows:List R}(f:Fl)(ro:gv n rows)(o:f.eg=true):∀(p:Nat) (t:TL),p<=100000->cr n rows t->
  Or pQ [r0,I (p:Int)] (S2 n rows f t)=some (e9 (cI n rows true p t).1::tb (cI n rows true p t).2.1::fO n rows f (cI n rows true p t).2.2):=by
 intro p;induction p using Nat.strongRecOn with
 | _ p B=>
 intro t G h;have a:=ro.sz;have d:=h.val ro;have r:=h.al ro;have hm:=a.m;have kb:=LB a f.er f.eb f.ev f.eg t.ah t.val t.aB h.aZ.v d (by omega) h.aZ.lt (by rw [h.aZ.b];omega);rcases pU h with⟨_,hb⟩ | ⟨i,hi,k,s,hb,y⟩
 .rw [hb] at kb;rw [qm true _ hb,eE];have h1:(-1:Int) < 0:=by decide
  refine aj ?_;rw [CH];simp only [ai,↓reduceIte,GD,kb,h1,cK,e9]
 .rw [hb] at kb;have h1:¬(t.st.ah i:Int) < 0:=by omega
  cases p with
  | zero=>rw [sF true hb,eE];have q:((0:Nat):Int)=0:=rfl;refine aj ?_;rw [CH];simp only [ai,↓reduceIte,GD,kb,h1,q,cK,e9]
  | succ p=>
   have D:=h.aZ.c;have q:¬((p+1:Nat):Int)=0:=by omega
   have z:i64.wrap (((p+1:Nat):Int) - 1)= (p:Int):=by rw [Go.Aev.wr (by omega)];omega
   have x: 0<=(i:Int)/\(i:Int) < (t.al.length:Int):=by omega
   have w:=lj (al:=t.al) (i:=i) (by omega);have u:=jQ (al:=t.al) (i:=i) (by omega);have l:=uY (t.st.ah i) t.mp;rw [y] at l;have A:=jg (t:=t) (i:=i) (by rw [h.aZ.b];exact hi);have g:=AY n rows t (t.st.ah i);have E:bF n rows t (t.st.ah i)≠0:=by rcases g with e | e <;> rw [e] <;> decide
   rw [sE true p hb y];have:=Uc (n:=n) (rows:=rows) f t a h.aZ hi A k.1 g o d r (λv hv=>h.z7 hi hv) (by omega) (by omega) (by omega) (p:Int)
    (λj v hv=>JD t g j hv)
    (res:=e9 (match aW n rows t.val (bF n rows t (t.st.ah i)) (az t.al i) 0 with
     | none=>(some (jw n rows.length (bF n rows t (t.st.ah i)) (t.st.ah i) (az t.al i)),true,t)
     | some v=>cI n rows true p (gU n rows true (t.st.ah i) (bF n rows t (t.st.ah i)) i v t)).1::
     tb (match aW n rows t.val (bF n rows t (t.st.ah i)) (az t.al i) 0 with
     | none=>(some (jw n rows.length (bF n rows t (t.st.ah i)) (t.st.ah i) (az t.al i)),true,t)
     | some v=>cI n rows true p (gU n rows true (t.st.ah i) (bF n rows t (t.st.ah i)) i v t)).2.1::
     fO n rows f (match aW n rows t.val (bF n rows t (t.st.ah i)) (az t.al i) 0 with
     | none=>(some (jw n rows.length (bF n rows t (t.st.ah i)) (t.st.ah i) (az t.al i)),true,t)
     | some v=>cI n rows true p (gU n rows true (t.st.ah i) (bF n rows t (t.st.ah i)) i v t)).2.2)
    (by
     cases j:aW n rows t.val (bF n rows t (t.st.ah i)) (az t.al i) 0 with
     | none=>rfl
     | some v=>
      obtain⟨F,e2,_⟩:=kW j;obtain⟨C,_⟩:=h.step true hi (v:=v) (by have:=h.aZ.row hi;omega) k j s;rw [o];exact B p (Xc p) _ (by omega) C)
    (az t.al i) 0 rfl rfl
   refine aj ?_;rw [CH];simp only [ai,↓reduceIte,GD,kb,h1,q,z,l,Xg,Vx,x,and_self,cM,w,u,bH];exact this
theorem T9{n:Nat}{rows:List R}(f:Fl)(ro:gv n rows)(a:f.eg=true):∀(p:Nat) (t:TL),p<=100000->cr n rows t->
  Or pQ [r0,I (p:Int)] (S1 n rows f t)=some (e9 (cI n rows true p t).1::tb (cI n rows true p t).2.1::fO n rows f (cI n rows true p t).2.2):=by
 intro p
 skip
 intro t F h;have d:=ro.sz;have g:=h.val ro;have r:=h.al ro;have hm:=d.m;have kb:=LB d f.er f.eb f.ev f.eg t.ah t.val t.aB h.aZ.v g (by omega) h.aZ.lt (by rw [h.aZ.b];omega);rcases pU h with⟨_,hb⟩ | ⟨i,hi,l,s,hb,y⟩
 .rw [hb] at kb;rw [qm true _ hb,eE];have h1:(-1:Int) < 0:=by decide
  refine aj ?_;rw [CG];simp only [ai,↓reduceIte,GD,kb,h1,cK,e9]
 .rw [hb] at kb;have h1:¬(t.st.ah i:Int) < 0:=by omega
  cases p with
  | zero=>rw [sF true hb,eE];have q:((0:Nat):Int)=0:=rfl;refine aj ?_;rw [CG];simp only [ai,↓reduceIte,GD,kb,h1,q,cK,e9]
  | succ p=>
   have C:=h.aZ.c;have q:¬((p+1:Nat):Int)=0:=by omega
   have z:i64.wrap (((p+1:Nat):Int) - 1)= (p:Int):=by rw [Go.Aev.wr (by omega)];omega
   have x: 0<=(i:Int)/\(i:Int) < (t.al.length:Int):=by omega
   have w:=lj (al:=t.al) (i:=i) (by omega);have u:=jQ (al:=t.al) (i:=i) (by omega);have o:=uY (t.st.ah i) t.mp;rw [y] at o;have A:=jg (t:=t) (i:=i) (by rw [h.aZ.b];exact hi);have j:=AY n rows t (t.st.ah i);have D:bF n rows t (t.st.ah i)≠0:=by rcases j with e | e <;> rw [e] <;> decide
   rw [sE true p hb y];have:=Ub (n:=n) (rows:=rows) f t d h.aZ hi A l.1 j a g r (λv hv=>h.z7 hi hv) (by omega) (by omega) (by omega) (p:Int)
    (λk v hv=>JD t j k hv)
    (res:=e9 (match aW n rows t.val (bF n rows t (t.st.ah i)) (az t.al i) 0 with
     | none=>(some (jw n rows.length (bF n rows t (t.st.ah i)) (t.st.ah i) (az t.al i)),true,t)
     | some v=>cI n rows true p (gU n rows true (t.st.ah i) (bF n rows t (t.st.ah i)) i v t)).1::
     tb (match aW n rows t.val (bF n rows t (t.st.ah i)) (az t.al i) 0 with
     | none=>(some (jw n rows.length (bF n rows t (t.st.ah i)) (t.st.ah i) (az t.al i)),true,t)
     | some v=>cI n rows true p (gU n rows true (t.st.ah i) (bF n rows t (t.st.ah i)) i v t)).2.1::
     fO n rows f (match aW n rows t.val (bF n rows t (t.st.ah i)) (az t.al i) 0 with
     | none=>(some (jw n rows.length (bF n rows t (t.st.ah i)) (t.st.ah i) (az t.al i)),true,t)
     | some v=>cI n rows true p (gU n rows true (t.st.ah i) (bF n rows t (t.st.ah i)) i v t)).2.2)
    (by
     cases k:aW n rows t.val (bF n rows t (t.st.ah i)) (az t.al i) 0 with
     | none=>rfl
     | some v=>
      obtain⟨E,e2,_⟩:=kW k;obtain⟨B,_⟩:=h.step true hi (v:=v) (by have:=h.aZ.row hi;omega) l k s;rw [a];exact Ua f ro a p _ (by omega) B)
    (az t.al i) 0 rfl rfl
   refine aj ?_;rw [CG];simp only [ai,↓reduceIte,GD,kb,h1,q,z,o,Xg,Vx,x,and_self,cM,w,u,bH];exact this
theorem LA{n:Nat}{rows:List R}(f:Fl)(ro:gv n rows)(a:f.eg=true)(p:Nat)(t:TL)(b:p<=100000)(h:cr n rows t):
  Or (.call 39) [r0,I (p:Int)] (S1 n rows f t)=some (e9 (cI n rows true p t).1::tb (cI n rows true p t).2.1::fO n rows f (cI n rows true p t).2.2):=by
 have:=T9 (n:=n) (rows:=rows) f ro a p t b h;refine aj ?_;rw [OW];exact this
open Go Go.Aev Go.Aev.Gen Go.Aev.Wd Go.Aev.Tb
def gN(n m:Nat)(r:R):List Nm:=r.of.map iN++List.replicate (n+m - r.of.length) none
def iV(n k:Nat):List Nat:=(List.range k).map λi=>n+i
def iO(n k:Nat):Ln:=(List.range k).map λi=>(n+i,i)
def dN(n:Nat)(rows:List R):TL:=⟨iV n rows.length,iO n rows.length,rows.map (gN n rows.length),List.replicate (n+rows.length) (none,none),[]⟩
def mU(er:Bool)(rows:List R):Fl:=⟨er,decide (rows.length=0),decide (rows.length=0),false,true⟩
theorem Mv(n k:Nat):iV n (k+1)=iV n k++ [n+k]:=by simp [iV,Zd]
theorem Di(n v:Nat):∀(k:Nat),cv v (iO n k)=if n<=v/\v < n+k then some (v - n) else none:=by
 have app:∀(l:Ln) (p:Nat×Nat),cv v (l++ [p])=match cv v l with | some i=>some i | none=>if v=p.1 then some p.2 else none:=by
  intro l p;induction l with
  | nil=>rfl
  | cons q l a=>
   simp only [Vc,cv];by_cases h:v=q.1
   .simp [h]
   .simp only [if_neg h];exact a
 intro k;induction k with
 | zero=>simp [iO,cv]
 | succ k a=>
  have:iO n (k+1)=iO n k++ [(n+k,k)]:=by simp [iO,Zd]
  rw [this,app,a];by_cases h1:n<=v/\v < n+k
  .rw [if_pos h1];show some (v - n)=_;rw [if_pos (by omega)]
  .rw [if_neg h1];by_cases b:v=n+k
   .simp only [b,if_true];rw [if_pos (by omega)];congr 1;omega
   .simp only [if_neg b];rw [if_neg (by omega)]
theorem J9(n k:Nat):jv (n+k) k (iO n k)=iO n (k+1):=by
 have app:∀(l:Ln) (v i:Nat),cv v l=none->jv v i l=l++ [(v,i)]:=by
  intro l v i;induction l with
  | nil=>intro _;rfl
  | cons q l b=>
   intro h;rw [cv] at h;by_cases a:v=q.1
   .rw [if_pos a] at h;cases h
   .rw [if_neg a] at h;rw [jv,if_neg a,b h];rfl
 rw [app _ _ _ (by rw [Di];rw [if_neg (by omega)])];simp [iO,Zd]
theorem I4:∀(l:List (List Nm)) (s:Nat) (x:List Nm),bK s l++ [⟨s+l.length,[T.ax],some (false,aS x)⟩]=bK s (l++ [x])
 | [],s,x=>rfl
 | y::l,s,x=>by have:=I4 l (s+1) x;simp only [bK,Vc,Vw];rw [show s+ (l.length+1)=s+1+l.length by omega,this]
theorem QP(l:List (List Nm))(x:List Nm):bK 0 l++ [⟨l.length,[T.ax],some (false,aS x)⟩]=bK 0 (l++ [x]):=by have:=I4 l 0 x;rwa [VM] at this
theorem OB(l:List Nat)(x:Nat):cX l++ [[ti (x:Int)]]=cX (l++ [x]):=by simp [cX]
theorem OG(n:Nat):List.replicate n [tb false,T.str (ByteArray.mk #[]),tb false,T.str (ByteArray.mk #[]),tb false,T.str (ByteArray.mk #[]),tb false,T.str (ByteArray.mk #[])]=eB (List.replicate n (none,none)):=by unfold eB;rw [List.map_replicate];rfl
def Bs(n:Nat)(rows:List R)(f:Fl)(t:TL):List T:=
 [ti (n:Int),T.aa 3 f.er (dK rows),T.aa 1 f.eb (cX t.ah),bS (bZ t.mp),bN f.ec (bK 0 t.al),T.aa 8 f.ev (eB t.val),T.aa 4 f.eg (aS t.aB)]
theorem DL(n:Nat)(rows:List R)(f:Fl)(t:TL):Bs n rows f t= [ti (n:Int),T.aa 3 f.er (dK rows),T.aa 1 f.eb (cX t.ah),bS (bZ t.mp),bN f.ec (bK 0 t.al),T.aa 8 f.ev (eB t.val),T.aa 4 f.eg (aS t.aB)]:=rfl
section
variable {n:Nat} {rows:List R} (er:Bool)
theorem T7(ro:gv n rows)(k:Nat)(w:k < rows.length)(eb ec:Bool)(val:List Vl){res:List T}
  (r:Or uc [LR er rows,I (n:Int),r0,r0,r0,LR er rows,I (rows.length:Int),I ((k+1:Nat):Int)]
   (S1 n rows ⟨er,false,false,false,true⟩ ⟨iV n (k+1),iO n (k+1),(rows.take (k+1)).map (gN n rows.length),val,[]⟩)=some res):
  ∀(xs:List Int) (j:Nat),(bc rows k).of.drop j=xs->j<=(bc rows k).of.length->
  Or x8 [LR er rows,I (n:Int),r0,r0,r0,I (k:Int),AV.own (Id.c 1),LR er rows,I (rows.length:Int),I (k:Int),aa (bc rows k).e (bc rows k).of,I ((bc rows k).of.length:Int),I (j:Int)]
   [ab.box [I (n:Int),LR er rows,AV.own (Id.c 2),AV.own (Id.c 3),AV.own (Id.c 4),AV.own (Id.c 5),AV.own (Id.c 6)],
    ab.sl false 4 false (aS (((bc rows k).of.take j).map iN++List.replicate (n+rows.length - j) none)),ab.sl false 1 eb (cX (iV n k)),ab.mp false [Ck.i .i64] (Ck.i .i64) (bZ (iO n k)),
    ab.rows ec 1 0 4 ((rows.take k).map (gN n rows.length)).length (bK 0 ((rows.take k).map (gN n rows.length))),ab.sl false 8 false (eB val),ab.sl false 4 true (aS [])]=some res:=by
 have M:=ro.sz.n;have hm:=ro.sz.m;have b:=jy w;have J:=ro.len _ b;intro xs;induction xs with
 | nil=>
  intro j h q;have s:=bm h;have h1:¬(j:Int) < ((bc rows k).of.length:Int):=by omega
  have A:(bc rows k).of.take j= (bc rows k).of:=We s;have E:i64.wrap ((n:Int)+ (k:Int))= ((n+k:Nat):Int):=by rw [Go.Aev.wr (by omega)];omega
  have g:=jb (bs:=24) (n:=((rows.take (k+1)).map (gN n rows.length)).length) (by simp;omega);have H:bM 8 ((cX (iV n k)).length+ [[ti ((n+k:Nat):Int)]].length)=some ():=jb (by simp [cX,iV];omega);have d:(rows.take k).map (gN n rows.length)++ [gN n rows.length (bc rows k)]= (rows.take (k+1)).map (gN n rows.length):=by rw [XE,pq w,W0];rfl
  have C:(bc rows k).of.map iN++List.replicate (n+rows.length - j) none=gN n rows.length (bc rows k):=by unfold gN;rw [show j= (bc rows k).of.length by omega]
  have hb:cX (iV n k)++ [[ti ((n+k:Nat):Int)]]=cX (iV n (k+1)):=by rw [Mv,OB]
  have D:ig [ti ((n+k:Nat):Int)] (ti (k:Int)) (bZ (iO n k))=bZ (iO n (k+1)):=by rw [Al,J9]
  rw [A,C];have o:=QP ((rows.take k).map (gN n rows.length)) (gN n rows.length (bc rows k));rw [d] at o;have x:((rows.take k).map (gN n rows.length)).length+1= ((rows.take (k+1)).map (gN n rows.length)).length:=by rw [<-d];simp
  refine aj ?_;rw [HB];simp only [ai,↓reduceIte,GD,h1,bT,cM,g,E,H,hb,D,o,x,next k (by omega)];exact r
 | cons c xs F=>
  intro j h q;obtain⟨p,K,B⟩:=bh h;have h1:(j:Int) < ((bc rows k).of.length:Int):=by omega
  have u: 0<=(j:Int):=by omega
  have L:=ro.of _ b c (U8 p);have G:=gh c (by omega);have a:(((bc rows k).of.take j).map iN).length=j:=by simp;omega
  have y:List.replicate (n+rows.length - j) (none:Nm)=none::List.replicate (n+rows.length - (j+1)) none:=by rw [show n+rows.length - j= (n+rows.length - (j+1))+1 by omega,VX]
  have v:(j:Int) < ((((bc rows k).of.take j).map iN++none::List.replicate (n+rows.length - (j+1)) none).length:Int):=by rw [Wr,a];simp;omega
  have g:=kz (l:=((bc rows k).of.take j).map iN++none::List.replicate (n+rows.length - (j+1)) none) (i:=j) (by omega) (iN c);rw [qQ _ _ _ _ _ a] at g;have z:((bc rows k).of.take j).map iN++iN c::List.replicate (n+rows.length - (j+1)) none= ((bc rows k).of.take (j+1)).map iN++List.replicate (n+rows.length - (j+1)) none:=by rw [XE,p,W0];simp
  rw [z] at g;have:=F (j+1) B (by omega);rw [y];refine aj ?_;rw [HB];simp only [ai,↓reduceIte,GD,h1,u,v,and_self,bT,gy p,G,bH,g,next j (by omega)];exact this
theorem T8(ro:gv n rows):∀(d k:Nat),d+k=rows.length->
  Or uc [LR er rows,I (n:Int),r0,r0,r0,LR er rows,I (rows.length:Int),I (k:Int)]
   (S1 n rows ⟨er,decide (k=0),decide (k=0),false,true⟩ ⟨iV n k,iO n k,(rows.take k).map (gN n rows.length),List.replicate (n+rows.length) (none,none),[]⟩)=some (Bs n rows (mU er rows) (dN n rows)):=by
 have q:=ro.sz.n;have hm:=ro.sz.m;intro d;induction d with
 | zero=>
  intro k j;obtain rfl:k=rows.length:=by omega
  have h1:¬(rows.length:Int) < (rows.length:Int):=by omega
  have h:rows.take rows.length=rows:=We (Vs _);rw [h,DL];refine aj ?_;rw [HA];simp only [ai,↓reduceIte,GD,h1,cK];rfl
 | succ d p=>
  intro k j;have b:k < rows.length:=by omega
  have h1:(k:Int) < (rows.length:Int):=by omega
  have c: 0<=(k:Int):=by omega
  have l:=cV (pq b);have o:i64.wrap ((n:Int)+ (rows.length:Int))= ((n+rows.length:Nat):Int):=by rw [Go.Aev.wr (by omega)];omega
  have g:=qy (k:=n+rows.length) (by omega);have i:((n+rows.length:Nat):Int).toNat=n+rows.length:=by omega
  have e:decide (k+1=0)=false:=by simp
  have a:=p (k+1) (by omega);rw [e] at a;have:=T7 er ro k b (decide (k=0)) (decide (k=0)) _ a (bc rows k).of 0 rfl (Ye _);simp only [XI,XA,Ve,Ws] at this;refine aj ?_;rw [HA];simp only [ai,↓reduceIte,GD,h1,c,and_self,bq,l,o,g,i,r9,bT];exact this
theorem Lz(ro:gv n rows):Or (.call 38) [LR er rows,I (n:Int)] []=some (Bs n rows (mU er rows) (dN n rows)):=by
 have d:=ro.sz.n;have hm:=ro.sz.m;have c:i64.wrap ((n:Int)+ (rows.length:Int))= ((n+rows.length:Nat):Int):=by rw [Go.Aev.wr (by omega)];omega
 have a:=qy (k:=n+rows.length) (by omega);have b:((n+rows.length:Nat):Int).toNat=n+rows.length:=by omega
 have:=T8 er ro rows.length 0 rfl;refine aj ?_;rw [OV];simp only [GD,bq,c,a,b,OG];exact this
end
open Go Go.Aev Go.Aev.Gen Go.Aev.Wd Go.Aev.Tb
abbrev LF:=Int×Vl×Bool
def lU(n:Nat)(rows:List R)(x:Nat)(a:Nm):Vl:=if nv a < 0 then iL n rows x else bU n rows x
def jh(n:Nat)(rows:List R)(x:Nat)(a:Nm):Bool:=if nv a < 0 then fy n rows x else !decide (x < n)
def fV(n:Nat)(rows:List R)(t:TL)(x:Nat)(a:Nm):Vl:=fM (og (lU n rows x a) (aI t.val x)) (ov (iN 1) a)
def fh(n:Nat)(rows:List R)(t:TL)(x:Nat)(a:Nm)(i:Int)(s:LF):Prop:=
 (if s.2.2=true then eU s.2.1 (fV n rows t x a) else 1) > 0\/((if s.2.2=true then eU s.2.1 (fV n rows t x a) else 1)=0/\i>=0/\(s.1 < 0\/(x:Int) < (t.ah.getD s.1.toNat 0:Nat)))
instance (n:Nat) (rows:List R) (t:TL) (x:Nat) (a:Nm) (i:Int) (s:LF):Decidable (fh n rows t x a i s):=by unfold fh;infer_instance
def dJ(n:Nat)(rows:List R)(t:TL)(x:Nat)(a:Nm)(i:Int)(s:LF):LF:=
 if nv a=0\/jh n rows x a=false then s else if fh n rows t x a i s then(i,fV n rows t x a,true) else s
abbrev S5(n:Nat)(rows:List R)(f:Fl)(t:TL)(s:LF):List ab:=
 [ab.box [AV.ref (Id.c 4) 0],ab.box [B s.2.2],yC s.2.1,ab.box [I s.1],
  ab.box [I (n:Int),AV.t (T.aa 3 f.er (dK rows)),AV.own (Id.c 5),AV.own (Id.c 6),AV.own (Id.c 7),AV.own (Id.c 8),AV.own (Id.c 9)],ab.sl false 1 f.eb (cX t.ah),ab.mp false [Ck.i .i64] (Ck.i .i64) (bZ t.mp),
   ab.rows f.ec 1 0 4 t.al.length (bK 0 t.al),ab.sl false 8 f.ev (eB t.val),ab.sl false 4 f.eg (aS t.aB)]
theorem Fy{n:Nat}{rows:List R}(sz:Sz n rows){x:Nat}(b:x < n+rows.length)(a:Nm):VB 20 (lU n rows x a):=by
 unfold lU;split
 .exact vC sz b
 .exact qX sz b
theorem o7(q:Rat):q.num.sign < 0↔q < 0:=by
 constructor
 .intro h;refine Rat.not_le.1 λb=> ?_;have h1:=X0.2 b;rcases Int.lt_or_eq_of_le h1 with a | a
  .rw [Wh a] at h;exact absurd h (by decide)
  .rw [<-a] at h;exact absurd h (by decide)
 .intro h;have h1:¬0<=q.num:=λh1=>by have:=X0.1 h1;grind
  rw [Wv (by omega)];decide
section
variable {n:Nat} {rows:List R} (f:Fl) (t:TL)
set_option maxRecDepth 20000 in
theorem Lx{mv Z ms:Nat}(sz:Sz n rows)(P:cR n rows.length t)(hq:∀u,u < n+rows.length->VB mv (aI t.val u)){x:Nat}(V:x < n+rows.length){a:Nm}(ha:QN Z a)(i:Int)(s:LF)
  (hs:VB ms s.2.1) (hl:s.1 < (rows.length:Int)) (h1s: 20<=mv) (h2s:mv+20+1+ (2+Z)<=3000) (h3s:ms<=3000):
  Or (.call 124) [I (x:Int),EN a,I i,AV.ref (Id.c 0) 0,AV.ref (Id.c 1) 0,AV.ref (Id.c 2) 0,AV.ref (Id.c 3) 0] (S5 n rows f t s)=
   some (T.ax::tb (dJ n rows t x a i s).2.2:: (VC (dJ n rows t x a i s).2.1++ti (dJ n rows t x a i s).1::fO n rows f t)):=by
 obtain⟨ln,iI,H⟩:=s;have hn:=sz.n;have hm:=sz.m;have B:=tB sz f.er f.eb f.ev f.eg t.ah t.val t.aB V;have D:=wI sz f.er f.eb f.ev f.eg t.ah t.val t.aB V;have ks:=lK a;have w: 0<=(x:Int)/\(x:Int) < (t.val.length:Int):=by have:=P.v;omega
 have G:=mO (nf (val:=t.val) (i:=x) (by have:=P.v;omega));rw [cN] at B D;simp only [Vc,Ve] at B D;rw [eE,cN];simp only [Vc,Ve];by_cases Q:nv a=0
 .have j:=(gm (nv a)).2 Q;have e:dJ n rows t x a i (ln,iI,H)= (ln,iI,H):=by unfold dJ;rw [if_pos (.inl Q)]
  have X:¬(0:Int) < 0:=by omega
  rw [e];refine aj ?_;rw [iH];cases L:decide (x < n)
  .simp only [bL,ai,↓reduceIte,GD,cu,B,ks,j,L,X,cK]
  .simp only [bL,ai,↓reduceIte,GD,cu,B,ks,j,L,X,cK]
 .have j:¬(nv a).num.sign=0:=λh'=>Q ((gm _).1 h');have y:=gh 1 (by omega);have q1:QN 2 (iN 1):=eM (by decide);obtain⟨z,Y⟩:=mX q1 ha (by omega) Q;have qb:=Fy sz V a;have k:=wF qb (hq x V) (by omega);have qs:=tp qb (hq x V);have g:=pA (b:=ov (iN 1) a) qs Y (by omega);have qd:VB (20+mv+1+ (2+Z)) (fV n rows t x a):=nQ (b:=ov (iN 1) a) qs Y;have d:=wE hs qd (by omega);rw [show fM (og (lU n rows x a) (aI t.val x)) (ov (iN 1) a)=fV n rows t x a from rfl] at g;rw [cN] at k g;have q:¬(0:Int) > 0:=by decide
  have r:¬(0:Int) < 0:=by decide
  have W:(1:Int) > 0:=by decide
  by_cases K:nv a < 0
  .have p:(nv a).num.sign < 0:=(o7 _).2 K;have S:lU n rows x a=iL n rows x:=by unfold lU;rw [if_pos K]
   have M:jh n rows x a= (fy n rows x):=by unfold jh;rw [if_pos K]
   rw [S] at k g;cases F:(fy n rows x)
   .have e:dJ n rows t x a i (ln,iI,H)= (ln,iI,H):=by unfold dJ;rw [if_pos (.inr (by rw [M,F]))]
    rw [e];rw [F] at D;refine aj ?_;rw [iH];simp only [bL,ai,↓reduceIte,GD,cu,B,D,ks,w,G,and_self,cO,dC,y,z,cK,p]
   .have e:dJ n rows t x a i (ln,iI,H)=if fh n rows t x a i (ln,iI,H) then(i,fV n rows t x a,true) else(ln,iI,H):=by
     unfold dJ;rw [if_neg];rintro(h | h)
     .exact Q h
     .rw [M,F] at h;cases h
    rw [F] at D;cases H
    .rw [e,if_pos (by unfold fh;exact .inl (by simp))];refine aj ?_;rw [iH];simp only [bL,ai,↓reduceIte,GD,cu,B,D,ks,j,w,G,and_self,cO,dC,k,y,z,g,cK,p]
    .by_cases C:eU iI (fV n rows t x a) > 0
     .rw [e,if_pos (by unfold fh;exact .inl (by simpa using C))];refine aj ?_;rw [iH];simp only [bL,ai,↓reduceIte,GD,cu,B,D,ks,j,w,G,and_self,cO,dC,k,y,z,g,d,cK,p,C]
     .by_cases o:eU iI (fV n rows t x a)=0
      .by_cases A:i>=0
       .by_cases E:ln < 0
        .rw [e,if_pos (by unfold fh;exact .inr ⟨by simpa using o,A, .inl E⟩)];refine aj ?_;rw [iH];simp only [bL,ai,↓reduceIte,GD,cu,B,D,ks,j,w,G,and_self,cO,dC,k,y,z,g,d,cK,q,p,decide_true,o,A,E]
        .obtain⟨l,rfl⟩:∃l:Nat,ln= (l:Int):=⟨ln.toNat,by omega⟩;have U:l < t.ah.length:=by rw [P.b];simp only at hl;omega
         have O: 0<=(l:Int)/\(l:Int) < (t.ah.length:Int):=by omega
         have N:=jO (jg (t:=t) U);have hbl:t.ah.getD ((l:Int)).toNat 0=t.st.ah l:=rfl;by_cases J:(x:Int) < (t.st.ah l:Int)
         .rw [e,if_pos (by unfold fh;exact .inr ⟨by simpa using o,A, .inr J⟩)];refine aj ?_;rw [iH];simp only [bL,ai,↓reduceIte,GD,cu,B,D,ks,j,w,G,and_self,cO,dC,k,y,z,g,d,cK,q,p,decide_true,decide_false,o,A,E,O,N,J]
         .rw [e,if_neg (by unfold fh;rintro(h | ⟨_,_,h | h⟩);exact C (by simpa using h);exact E h;exact J h)];refine aj ?_;rw [iH];simp only [bL,ai,↓reduceIte,GD,cu,B,D,ks,j,w,G,and_self,cO,dC,k,y,z,g,d,cK,q,p,decide_true,decide_false,o,A,E,O,N,J]
       .rw [e,if_neg (by unfold fh;rintro(h | ⟨_,h,_⟩);exact C (by simpa using h);exact A h)];refine aj ?_;rw [iH];simp only [bL,ai,↓reduceIte,GD,cu,B,D,ks,j,w,G,and_self,cO,dC,k,y,z,g,d,cK,q,p,decide_false,o,A]
      .rw [e,if_neg (by unfold fh;rintro(h | ⟨h,_⟩);exact C (by simpa using h);exact o (by simpa using h))];refine aj ?_;rw [iH];simp only [bL,ai,↓reduceIte,GD,cu,B,D,ks,j,w,G,and_self,cO,dC,k,y,z,g,d,cK,p,C,o]
  .have p:¬(nv a).num.sign < 0:=λh=>K ((o7 _).1 h);have S:lU n rows x a=bU n rows x:=by unfold lU;rw [if_neg K]
   have M:jh n rows x a= (!decide (x < n)):=by unfold jh;rw [if_neg K]
   rw [S] at k g;cases F:(!decide (x < n))
   .have e:dJ n rows t x a i (ln,iI,H)= (ln,iI,H):=by unfold dJ;rw [if_pos (.inr (by rw [M,F]))]
    rw [e];have L:decide (x < n)=true:=by cases h:decide (x < n);rw [h] at F;cases F;rfl
    rw [L] at B;refine aj ?_;rw [iH];simp only [bL,ai,↓reduceIte,GD,cu,B,D,ks,w,G,and_self,cO,dC,y,z,cK,p]
   .have e:dJ n rows t x a i (ln,iI,H)=if fh n rows t x a i (ln,iI,H) then(i,fV n rows t x a,true) else(ln,iI,H):=by
     unfold dJ;rw [if_neg];rintro(h | h)
     .exact Q h
     .rw [M,F] at h;cases h
    have L:decide (x < n)=false:=by cases h:decide (x < n);rfl;rw [h] at F;cases F
    rw [L] at B;cases H
    .rw [e,if_pos (by unfold fh;exact .inl (by simp))];refine aj ?_;rw [iH];simp only [bL,ai,↓reduceIte,GD,cu,B,D,ks,j,w,G,and_self,cO,dC,k,y,z,g,cK,p]
    .by_cases C:eU iI (fV n rows t x a) > 0
     .rw [e,if_pos (by unfold fh;exact .inl (by simpa using C))];refine aj ?_;rw [iH];simp only [bL,ai,↓reduceIte,GD,cu,B,D,ks,j,w,G,and_self,cO,dC,k,y,z,g,d,cK,p,C]
     .by_cases o:eU iI (fV n rows t x a)=0
      .by_cases A:i>=0
       .by_cases E:ln < 0
        .rw [e,if_pos (by unfold fh;exact .inr ⟨by simpa using o,A, .inl E⟩)];refine aj ?_;rw [iH];simp only [bL,ai,↓reduceIte,GD,cu,B,D,ks,j,w,G,and_self,cO,dC,k,y,z,g,d,cK,q,p,decide_true,o,A,E]
        .obtain⟨l,rfl⟩:∃l:Nat,ln= (l:Int):=⟨ln.toNat,by omega⟩;have U:l < t.ah.length:=by rw [P.b];simp only at hl;omega
         have O: 0<=(l:Int)/\(l:Int) < (t.ah.length:Int):=by omega
         have N:=jO (jg (t:=t) U);have hbl:t.ah.getD ((l:Int)).toNat 0=t.st.ah l:=rfl;by_cases J:(x:Int) < (t.st.ah l:Int)
         .rw [e,if_pos (by unfold fh;exact .inr ⟨by simpa using o,A, .inr J⟩)];refine aj ?_;rw [iH];simp only [bL,ai,↓reduceIte,GD,cu,B,D,ks,j,w,G,and_self,cO,dC,k,y,z,g,d,cK,q,p,decide_true,decide_false,o,A,E,O,N,J]
         .rw [e,if_neg (by unfold fh;rintro(h | ⟨_,_,h | h⟩);exact C (by simpa using h);exact E h;exact J h)];refine aj ?_;rw [iH];simp only [bL,ai,↓reduceIte,GD,cu,B,D,ks,j,w,G,and_self,cO,dC,k,y,z,g,d,cK,q,p,decide_true,decide_false,o,A,E,O,N,J]
       .rw [e,if_neg (by unfold fh;rintro(h | ⟨_,h,_⟩);exact C (by simpa using h);exact A h)];refine aj ?_;rw [iH];simp only [bL,ai,↓reduceIte,GD,cu,B,D,ks,j,w,G,and_self,cO,dC,k,y,z,g,d,cK,q,p,decide_false,o,A]
      .rw [e,if_neg (by unfold fh;rintro(h | ⟨h,_⟩);exact C (by simpa using h);exact o (by simpa using h))];refine aj ?_;rw [iH];simp only [bL,ai,↓reduceIte,GD,cu,B,D,ks,j,w,G,and_self,cO,dC,k,y,z,g,d,cK,p,C,o]
end
open Go Go.Aev Go.Aev.Gen Go.Aev.Wd Go.Aev.Tb
def hY(n:Nat)(rows:List R)(t:TL)(v:Nat)(ak:Int):List Nat->List (List Nm)->Nat->LF->LF
 | b::bs,x::xs,i,s=>hY n rows t v ak bs xs (i+1) (dJ n rows t b (tm (aq x v) (iN ak)) (i:Int) s)
 | _,_,_,s=>s
def br(n:Nat)(rows:List R)(t:TL)(v:Nat)(ak:Int):LF:=hY n rows t v ak t.ah t.al 0 (dJ n rows t v (iN ak) (-1) (-1,(none,none),false))
abbrev BU:ab:=ab.box [B false,AV.t (T.str (ByteArray.mk #[])),B false,AV.t (T.str (ByteArray.mk #[])),B false,AV.t (T.str (ByteArray.mk #[])),B false,AV.t (T.str (ByteArray.mk #[]))]
abbrev S6(n:Nat)(rows:List R)(f:Fl)(t:TL)(s:LF):List ab:=
 [ab.box [I (n:Int),AV.t (T.aa 3 f.er (dK rows)),AV.own (Id.c 1),AV.own (Id.c 2),AV.own (Id.c 11),AV.own (Id.c 4),AV.own (Id.c 5)],ab.sl false 1 f.eb (cX t.ah),ab.mp false [Ck.i .i64] (Ck.i .i64) (bZ t.mp),
  ab.dead,ab.sl false 8 f.ev (eB t.val),ab.sl false 4 f.eg (aS t.aB),ab.box [AV.ref (Id.c 0) 0],BU,ab.box [I s.1],ab.box [B s.2.2],yC s.2.1,ab.rows f.ec 1 0 4 t.al.length (bK 0 t.al)]
theorem EU(m:Nat):VB m (none,none):=⟨iC _,iC _⟩
theorem yK{n:Nat}{rows:List R}(sz:Sz n rows){t:TL}{mv c M:Nat}{x:Nat}(l:x < n+rows.length)(k:VB mv (aI t.val x)){a:Nm}(j:QN c a)(h1:mv+c+25<=M)(m:M<=6000)(i:Int){s:LF}(hs:VB M s.2.1):
  VB M (dJ n rows t x a i s).2.1:=by
 unfold dJ;by_cases h:nv a=0\/jh n rows x a=false
 .rw [if_pos h];exact hs
 .rw [if_neg h];split
  .have g:nv a≠0:=λe=>h (.inl e);have q1:QN 2 (iN 1):=eM (by decide);obtain⟨_,d⟩:=mX q1 j (by omega) g;exact(nQ (b:=ov (iN 1) a) (tp (Fy sz l a) k) d).mono (by omega)
  .exact hs
theorem B5(n:Nat)(rows:List R)(t:TL)(x:Nat)(a:Nm)(i:Int)(s:LF):(dJ n rows t x a i s).1=i\/(dJ n rows t x a i s).1=s.1:=by
 unfold dJ;split
 .exact .inr rfl
 .split
  .exact .inl rfl
  .exact .inr rfl
section
variable {n:Nat} {rows:List R} (f:Fl) (t:TL)
set_option maxRecDepth 20000 in
theorem UA{mv mc:Nat}(sz:Sz n rows)(d:cR n rows.length t)(F:∀u,u < n+rows.length->VB mv (aI t.val u))(Q:∀x∈t.al,∀y∈x,QN mc y)
  {v:Nat} (hv:v < n+rows.length) {ak:Int} (H:ak=1\/ak= -1) (w: 20<=mv) (V:mv+mc+40<=2000):
  ∀(bs:List Nat) (xs:List (List Nm)) (i:Nat) (s:LF),t.ah.drop i=bs->t.al.drop i=xs->VB (mv+mc+40) s.2.1->s.1 < (rows.length:Int)->
  Or Bq [I (v:Int),I ak,AV.ref (Id.c 6) 0,AV.ref (Id.c 7) 0,AV.ref (Id.c 8) 0,AV.ref (Id.c 9) 0,AV.ref (Id.c 10) 0,AV.fn 124 [] [AV.ref (Id.c 6) 0,AV.ref (Id.c 9) 0,AV.ref (Id.c 10) 0,AV.ref (Id.c 8) 0],AV.own (Id.c 1),I (t.ah.length:Int),I (i:Int)] (S6 n rows f t s)=
   some (ti (hY n rows t v ak bs xs i s).1:: (VC (hY n rows t v ak bs xs i s).2.1++tb (hY n rows t v ak bs xs i s).2.2::fO n rows f t)):=by
 have hn:=sz.n;have hm:=sz.m;have W:=d.b;have X:=d.c;intro bs;induction bs with
 | nil=>
  intro xs i s hb o h j;have h1:¬(i:Int) < (t.ah.length:Int):=by have:=bm hb;omega
  have E:hY n rows t v ak [] xs i s=s:=by cases xs <;> rfl
  rw [E,eE,cN];refine aj ?_;rw [HJ];simp only [ai,↓reduceIte,GD,h1,cK];rfl
 | cons b bs S=>
  intro xs i s hb o h j;obtain⟨q,Z,P⟩:=bh hb;cases xs with
  | nil=>have:=bm o;omega
  | cons x xs=>
   obtain⟨p,x2,U⟩:=bh o;have Y:=d.r x (U8 p);have g:=d.lt b (U8 q);have h1:(i:Int) < (t.ah.length:Int):=by omega
   have C: 0<=(i:Int):=by omega
   have D:(i:Int) < (t.al.length:Int):=by omega
   have G: 0<=(v:Int)/\(v:Int) < (x.length:Int):=by omega
   have z:az t.al i=x:=by have:=jm (al:=t.al) (i:=i) (by omega);rw [p] at this;exact(V5 this).symm
   have B:=lj (al:=t.al) (i:=i) (by omega);have A:=jQ (al:=t.al) (i:=i) (by omega);rw [z] at B A;have J:=gh ak (by rcases H with rfl | rfl <;> decide);have O:QN 2 (iN ak):=by rcases H with rfl | rfl <;> exact eM (by decide)
   have L:QN mc (aq x v):=Q x (U8 p) _ (U8 (gL (by omega)));have K:=lB L O (by omega);have N:QN (mc+2) (tm (aq x v) (iN ak)):=L.mul O;have a:=Lx (n:=n) (rows:=rows) f t sz d F g N (i:Int) s h j w (by omega) (by omega);have T:=yK sz (t:=t) g (F b g) N (M:=mv+mc+40) (by omega) (by omega) (i:Int) h;have k:(dJ n rows t b (tm (aq x v) (iN ak)) (i:Int) s).1 < (rows.length:Int):=by
    rcases B5 n rows t b (tm (aq x v) (iN ak)) (i:Int) s with e | e <;> rw [e]
    .omega
    .exact j
   have:=S xs (i+1) (dJ n rows t b (tm (aq x v) (iN ak)) (i:Int) s) P U T k;rw [hY];generalize dJ n rows t b (tm (aq x v) (iN ak)) (i:Int) s=s2 at a this⊢;rw [eE,cN] at a;simp only [Vc,Ve] at a;refine aj ?_;rw [HJ];simp only [ai,↓reduceIte,GD,dZ,cu,h1,C,D,and_self,dC,jO q,cM,B,A,G,bH,cE (gL (l:=x) (i:=v) (by omega)),J,K,a,dY,dB,Vf,next i (by omega)];exact this
set_option maxRecDepth 20000 in
theorem LD{mv mc:Nat}(sz:Sz n rows)(g:cR n rows.length t)(h:∀u,u < n+rows.length->VB mv (aI t.val u))(q:∀x∈t.al,∀y∈x,QN mc y)
  {v:Nat} (hv:v < n+rows.length) {ak:Int} (k:ak=1\/ak= -1) (d: 20<=mv) (l:mv+mc+40<=2000):
  Or (.call 86) [r0,I (v:Int),I ak] (S1 n rows f t)=
   some (ti (br n rows t v ak).1:: (VC (br n rows t v ak).2.1++tb (br n rows t v ak).2.2::fO n rows f t)):=by
 have w:=sz.n;have hm:=sz.m;have o:=gh ak (by rcases k with rfl | rfl <;> decide);have p:QN 2 (iN ak):=by rcases k with rfl | rfl <;> exact eM (by decide)
 have a:=Lx (n:=n) (rows:=rows) f t sz g h hv p (-1) (-1,(none,none),false) (EU 2) (by show(-1:Int) < _;omega) d (by omega) (by omega);have r:=yK sz (t:=t) hv (h v hv) p (M:=mv+mc+40) (by omega) (by omega) (-1) (s:=(-1,(none,none),false)) (EU _);have j:(dJ n rows t v (iN ak) (-1) (-1,(none,none),false)).1 < (rows.length:Int):=by
  rcases B5 n rows t v (iN ak) (-1) (-1,(none,none),false) with e | e <;> rw [e]
  .omega
  .show(-1:Int) < _;omega
 have:=UA (n:=n) (rows:=rows) f t sz g h q hv k d l t.ah t.al 0 _ rfl rfl r j;unfold br;generalize dJ n rows t v (iN ak) (-1) (-1,(none,none),false)=z at a this⊢;rw [eE,cN] at a;simp only [Vc,Ve] at a;have hz:yC ((-1:Int),((none,none):Vl),false).2.1=BU:=rfl;have b:Or (.call 124) [I (v:Int),EN (iN ak),I (-1),AV.ref (Id.c 0) 0,AV.ref (Id.c 1) 0,AV.ref (Id.c 2) 0,AV.ref (Id.c 3) 0]
  [ab.box [AV.ref (Id.c 4) 0],ab.box [B false],BU,ab.box [I (-1)],
  ab.box [I (n:Int),AV.t (T.aa 3 f.er (dK rows)),AV.own (Id.c 5),AV.own (Id.c 6),AV.own (Id.c 7),AV.own (Id.c 8),AV.own (Id.c 9)],ab.sl false 1 f.eb (cX t.ah),ab.mp false [Ck.i .i64] (Ck.i .i64) (bZ t.mp),
   ab.rows f.ec 1 0 4 t.al.length (bK 0 t.al),ab.sl false 8 f.ev (eB t.val),ab.sl false 4 f.eg (aS t.aB)]=_:=a
 refine aj ?_;rw [Pt];simp only [ai,GD,dZ,cu,o,b,dY,dB,Vf,cM,dC];exact this
def iP(t:TL)(v:Nat)(ak:Int)(k:Nat):Nm:=match cv k t.mp with
 | some i=>tm (aq (az t.al i) v) (iN ak)
 | none=>none
def jV(n:Nat)(t:TL)(v:Nat)(ak:Int):List Nm:=if v < n then((List.range n).map (iP t v ak)).set v (iN ak) else(List.range n).map (iP t v ak)
theorem UB{mc:Nat}(p:cR n rows.length t)(M:n<=12)(hm:rows.length<=40)(E:∀x∈t.al,∀y∈x,QN mc y)(B:∀k i,cv k t.mp=some i->i < rows.length)
  {v:Nat} (hv:v < n+rows.length) {ak:Int} (C:ak=1\/ak= -1) (s:mc+2<=6300):
  ∀(d k:Nat),d+k=n->
  Or uf [r0,I (v:Int),I ak,AV.own (Id.c 6),I (n:Int),I (k:Int)] (S1 n rows f t++ [ab.sl false 4 false (aS ((List.range k).map (iP t v ak)++List.replicate d none))])=
   some (T.aa 4 false (aS (jV n t v ak))::fO n rows f t):=by
 have L:=p.c;have r:=gh ak (by rcases C with rfl | rfl <;> decide);have K:QN 2 (iN ak):=by rcases C with rfl | rfl <;> exact eM (by decide)
 intro d;induction d with
 | zero=>
  intro k F;obtain rfl:k=n:=by omega
  have h1:¬(k:Int) < (k:Int):=by omega
  simp only [WV,V9];rw [eE];unfold jV;by_cases q:v < k
  .have a:(v:Int) < (k:Int):=by omega
   have j: 0<=(v:Int)/\(v:Int) < (((List.range k).map (iP t v ak)).length:Int):=by simp;omega
   have m:=kz (l:=(List.range k).map (iP t v ak)) (i:=v) (by simp;omega) (iN ak);rw [if_pos q];refine aj ?_;simp only [Vc,Ve];rw [zm];simp only [ai,↓reduceIte,GD,h1,a,j,and_self,bH,r,m,cK]
  .have a:¬(v:Int) < (k:Int):=by omega
   rw [if_neg q];refine aj ?_;simp only [Vc,Ve];rw [zm];simp only [ai,↓reduceIte,GD,h1,a,cK]
 | succ d H=>
  intro k F;have h1:(k:Int) < (n:Int):=by omega
  have A: 0<=(k:Int):=by omega
  have g:((List.range k).map (iP t v ak)).length=k:=by simp
  have o:(k:Int) < (((List.range k).map (iP t v ak)++List.replicate (d+1) none).length:Int):=by rw [Wr,g];simp;omega
  have:=H (k+1) (by omega);rw [Zd,W0] at this;simp only [VN,XA,VI,Vc,Ve] at this;have b:=uY k t.mp;cases e:cv k t.mp with
  | none=>
   have h:iP t v ak k=none:=by unfold iP;rw [e]
   rw [e] at b;rw [h] at this;refine aj ?_;simp only [Vc,Ve];rw [zm];simp only [ai,↓reduceIte,GD,h1,b,YB,VZ,Zn,next k (by omega)];rw [VX];exact this
  | some i=>
   have hi:=B k i e;have h:iP t v ak k=tm (aq (az t.al i) v) (iN ak):=by unfold iP;rw [e]
   rw [e] at b;rw [h] at this;have G:=p.row hi;have z: 0<=(i:Int)/\(i:Int) < (t.al.length:Int):=by omega
   have w:=lj (al:=t.al) (i:=i) (by omega);have u:=jQ (al:=t.al) (i:=i) (by omega);have j: 0<=(v:Int)/\(v:Int) < ((az t.al i).length:Int):=by omega
   have J:QN mc (aq (az t.al i) v):=E _ (U8 (jm (by omega))) _ (U8 (gL (by omega)));have D:=lB J K s;have m:=kz (l:=(List.range k).map (iP t v ak)++List.replicate (d+1) none) (i:=k) (by omega) (tm (aq (az t.al i) v) (iN ak));rw [VX,qQ _ _ _ _ _ g] at m;rw [VX] at o⊢;refine aj ?_;simp only [Vc,Ve];rw [zm];simp only [ai,↓reduceIte,GD,h1,A,o,b,Xg,Vx,Zo,z,and_self,cM,w,u,j,bH,cE (gL (l:=az t.al i) (i:=v) (by omega)),r,D,m,next k (by omega)];exact this
theorem LG{mc:Nat}(d:cR n rows.length t)(h:n<=12)(hm:rows.length<=40)(g:∀x∈t.al,∀y∈x,QN mc y)(b:∀k i,cv k t.mp=some i->i < rows.length)
  {v:Nat} (hv:v < n+rows.length) {ak:Int} (j:ak=1\/ak= -1) (a:mc+2<=6300):
  Or (.call 87) [r0,I (v:Int),I ak] (S1 n rows f t)=some (T.aa 4 false (aS (jV n t v ak))::fO n rows f t):=by
 have:=UB (n:=n) (rows:=rows) f t d h hm g b hv j a n 0 rfl;have c:=qy (k:=n) (by omega);have e:((n:Nat):Int).toNat=n:=by omega
 simp only [Vc,Ve,List.range_zero,XA] at this;refine aj ?_;rw [Pu];simp only [GD,c,e,r9,bH,W7];exact this
end
end Go.Aev.Wd.Lg
