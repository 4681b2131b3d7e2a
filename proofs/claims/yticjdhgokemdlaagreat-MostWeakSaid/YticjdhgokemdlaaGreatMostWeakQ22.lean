import Derived.Test.YticjdhgokemdlaaGreatMostWeakQ21
import Derived.Test.YticjdhgokemdlaaGreatMostWeakQ15
import Derived.Test.YticjdhgokemdlaaGreatMostWeakQ18
set_option linter.all false
namespace Go.Aev.Wd.Lg
open Go Go.Aev Go.Aev.Gen Go.Aev.Wd Go.Aev.Tb
end Go.Aev.Wd.Lg
namespace Go.Aev.Tb
open Go Go.Aev
theorem zR(f:Nat->Rat)(n:Nat):∀(m:Nat),sm (n+m) f=sm n f+sm m (λi=>f (n+i))
 | 0=>by show sm n f=sm n f+0;grind
 | m+1=>by show sm (n+m) f+f (n+m)=sm n f+ (sm m (λi=>f (n+i))+f (n+m));rw [zR f n m];grind
structure Sy.D7 (S:Sy) (G:Nat->Rat) (t:cw) (g:Nat->Rat):Prop where
 free:∀u,u < S.n->g u=0
 sg:∀i,i < S.m->S.kd i≠3->0<=g (S.n+i)
 aD:∀k,k < S.n->sm S.m (λi=>g (S.n+i) * S.A i k)=G k
 val:sm S.n (λk=>G k * t.y k)=sm S.m (λi=>g (S.n+i) * S.to i)
theorem LD{S:Sy}{G:Nat->Rat}{t:cw}{g:Nat->Rat}(hy:gg S.n S.m S.A t.y)(q:S.wD G t g)(r:S.tA t)(f:∀u,u < S.n+S.m->g u≠0->¬S.tq t (g u) u):S.D7 G t g:=by
 have free:∀u,u < S.n->g u=0:=λu w=>by refine Wq λc=>f u (by omega) c ⟨λ_=> .inl w,λ_=> .inl w⟩
 have neg:∀i,i < S.m->g (S.n+i) < 0->S.kd i=3/\t.y (S.n+i)=S.to i:=λi hi h=>by have p:=f (S.n+i) (by omega) (by grind);have a:¬S.tz t (S.n+i):=λa=>p ⟨λd=>by grind,λ_=>a⟩;unfold Sy.tz at a;rw [U4] at a;have x:S.kd i=3:=Wq λd=>a (.inr (.inl d));have:=(r (S.n+i) (by omega) (by omega)).2;rw [U4] at this;exact⟨x,this x⟩
 have pos:∀i,i < S.m->0 < g (S.n+i)->t.y (S.n+i)=S.to i:=λi hi h=>by have p:=f (S.n+i) (by omega) (by grind);have a:¬S.tU t (S.n+i):=λa=>p ⟨λ_=>a,λd=>by grind⟩;unfold Sy.tU at a;rw [U4] at a;have:=(r (S.n+i) (by omega) (by omega)).1;rw [U4] at this;have C:¬t.y (S.n+i) < S.to i:=λd=>a (.inr d);grind
 have sum:∀y:Nat->Rat,sm (S.n+S.m) (λk=>g k * y k)=sm S.m (λi=>g (S.n+i) * y (S.n+i)):=λy=>by
  rw [zR (λk=>g k * y k) S.n S.m];have:sm S.n (λk=>g k * y k)=0:=mU λk b=>by rw [free k b,VQ]
  rw [this];grind
 refine⟨free,λi hi b=> ?_,λk b=> ?_, ?_⟩
 .refine Wq λh=>b (neg i hi (by grind)).1
 .let y:Nat->Rat:=λv=>if v < S.n then(if v=k then 1 else 0) else S.A (v - S.n) k;have l:∀i,y (S.n+i)=S.A i k:=λi=>by
   show(if S.n+i < S.n then _ else _)=_;rw [if_neg (by omega),U4]
  have s:gg S.n S.m S.A y:=λi _=>by
   rw [l,kI b]
   .show S.A i k=S.A i k * (if k < S.n then(if k=k then 1 else 0) else _);rw [if_pos b,if_pos rfl,YN]
   .intro j o c;show S.A i j * (if j < S.n then(if j=k then 1 else 0) else _)=0;rw [if_pos o,if_neg c,V8]
  have e:=q.same y s;rw [sum y] at e;have e2:sm S.n (λj=>G j * y j)=G k:=by
   rw [kI b]
   .show G k * (if k < S.n then(if k=k then 1 else 0) else _)=G k;rw [if_pos b,if_pos rfl,YN]
   .intro j o c;show G j * (if j < S.n then(if j=k then 1 else 0) else _)=0;rw [if_pos o,if_neg c,V8]
  rw [<-e2,<-e];exact eJ λi _=>by rw [l]
 .rw [<-q.same t.y hy,sum];refine eJ λi hi=> ?_;by_cases z:g (S.n+i)=0
  .rw [z,VQ,VQ]
  .by_cases B: 0 < g (S.n+i)
   .rw [pos i hi B]
   .rw [(neg i hi (by grind)).2]
open Go Go.Aev
def Sy.mul(S:Sy)(t:cw)(i:Nat):Nat->Rat:=λj=>if S.n+j=t.ah i then -(S.aj t (t.ah i)) else S.aj t (t.ah i) * t.c i (S.n+j)
structure Sy.Ref (S:Sy) (T:Nat->Rat):Prop where
 sg:∀j,j < S.m->S.kd j≠3->0<=T j
 aD:∀k,k < S.n->sm S.m (λj=>T j * S.A j k)=0
 val:sm S.m (λj=>T j * S.to j) < 0
theorem T6(S:Sy)(t:cw)(b:Nat):S.aj t b=1\/S.aj t b= -1:=by
 unfold Sy.aj;split
 .exact .inr rfl
 .exact .inl rfl
theorem Ru{S:Sy}{t:cw}(ok:S.OK t)(k2:∀j,j < S.m->S.kd j≠2)(hz:∀v,v < S.n+S.m->t.z v=0){i:Nat}(hi:i < S.m)(hb:S.gf t (t.ah i))
  (no:∀u,u < S.n+S.m->t.c i u≠0->¬S.Can t (S.aj t (t.ah i) * t.c i u) u):S.Ref (S.mul t i):=by
 have K:S.n<=t.ah i:=hb.1;have D:=ok.wf.hb i hi;have L:=T6 S t (t.ah i);have up:∀j,j < S.m->S.up (S.n+j)= (S.to j,0):=λj d=>by unfold Sy.up;rw [U4,if_neg (k2 j d)]
 have G:t.c i (t.ah i)=0:=ok.wf.z i i hi hi;have free:∀u,u < S.n->t.c i u=0:=λu r=>Wq λg=>no u (by omega) g ⟨λ_=> .inl r,λ_=> .inl r⟩;have C:∀j,j < S.m->t.c i (S.n+j)≠0->t.y (S.n+j)=S.to j:=λj d g=>by have nb:∀q,q < S.m->t.ah q≠S.n+j:=λq a e=>g (by rw [<-e];exact ok.wf.z i q hi a);have f:=ok.fix (S.n+j) (by omega) nb;unfold Sy.fx at f;rw [if_neg (by omega),up j d] at f;exact congrArg Prod.fst f
 have B:∀y:Nat->Rat,gg S.n S.m S.A y->sm S.m (λj=>S.mul t i j * y (S.n+j))=0:=λy hy=>by
  have h1:=(ok.wf.same y).2 hy i hi;rw [zR (λk=>t.c i k * y k) S.n S.m] at h1;have o:sm S.n (λk=>t.c i k * y k)=0:=mU λk s=>by rw [free k s,VQ]
  rw [o] at h1;obtain⟨q,a⟩:∃q,t.ah i=S.n+q:=⟨t.ah i - S.n,by omega⟩;have l:q < S.m:=by omega
  have e:sm S.m (λj=>S.mul t i j * y (S.n+j))=sm S.m (λj=>S.aj t (t.ah i) * (t.c i (S.n+j) * y (S.n+j))+ -(S.aj t (t.ah i)) * (if j=q then y (t.ah i) else 0)):=by
   refine eJ λj d=> ?_;unfold Sy.mul;by_cases b:j=q
   .subst b;rw [if_pos a.symm,if_pos rfl,<-a,G];grind
   .rw [if_neg (by omega),if_neg b];grind
  rw [e,mj,nW l,h1];grind
 have val:sm S.m (λj=>S.mul t i j * S.to j)=S.aj t (t.ah i) * (t.y (t.ah i) - S.to (t.ah i - S.n)):=by
  have h:=B t.y ok.hy;obtain⟨q,a⟩:∃q,t.ah i=S.n+q:=⟨t.ah i - S.n,by omega⟩;have l:q < S.m:=by omega
  have e:sm S.m (λj=>S.mul t i j * S.to j)=sm S.m (λj=>1 * (S.mul t i j * t.y (S.n+j))+S.aj t (t.ah i) * (if j=q then t.y (t.ah i) - S.to (t.ah i - S.n) else 0)):=by
   refine eJ λj d=> ?_;by_cases b:j=q
   .subst b;unfold Sy.mul;rw [if_pos a.symm,if_pos rfl,a,U4];grind
   .rw [if_neg b];by_cases o:t.c i (S.n+j)=0
    .unfold Sy.mul;rw [if_neg (by omega),o];grind
    .rw [C j d o];grind
  rw [e,mj,nW l,h];grind
 refine⟨λj d F=> ?_,λk s=> ?_, ?_⟩
 .unfold Sy.mul;by_cases b:S.n+j=t.ah i
  .rw [if_pos b];rcases hb.2 with h | ⟨h,_⟩
   .unfold Sy.aj;rw [if_pos h];grind
   .rw [<-b,U4] at h;exact absurd h F
  .rw [if_neg b];by_cases o:t.c i (S.n+j)=0
   .rw [o,V8];exact WN
   .refine Wq λJ=>no (S.n+j) (by omega) o ⟨λh=>absurd h (by grind),λ_=> .inr (.inl ?_)⟩;rw [U4];exact F
 .let y:Nat->Rat:=λv=>if v < S.n then(if v=k then 1 else 0) else S.A (v - S.n) k;have w:∀i,y (S.n+i)=S.A i k:=λi=>by
   show(if S.n+i < S.n then _ else _)=_;rw [if_neg (by omega),U4]
  have E:gg S.n S.m S.A y:=λi _=>by
   rw [w,kI s]
   .show S.A i k=S.A i k * (if k < S.n then(if k=k then 1 else 0) else _);rw [if_pos s,if_pos rfl,YN]
   .intro j d g;show S.A i j * (if j < S.n then(if j=k then 1 else 0) else _)=0;rw [if_pos d,if_neg g,V8]
  rw [<-B y E];exact eJ λi _=>by rw [w]
 .rw [val];obtain⟨q,a⟩:∃q,t.ah i=S.n+q:=⟨t.ah i - S.n,by omega⟩;have l:q < S.m:=by omega
  have r:=up q l;have x:=hz (t.ah i) D;rcases hb.2 with h | ⟨_,h⟩
  .have p:S.aj t (t.ah i)= -1:=by unfold Sy.aj;rw [if_pos h]
   rw [p];rw [a,r,<-a] at h;unfold eL cw.val at h;rw [x] at h;rw [a,U4,<-a];rcases h with h | ⟨_,h⟩
   .simp only at h;grind
   .exact absurd h (by simp)
  .have I:¬eL (S.up (t.ah i)) (t.val (t.ah i)):=λH=>by
    unfold eL at h H;grind
   have p:S.aj t (t.ah i)=1:=by unfold Sy.aj;rw [if_neg I]
   rw [p];rw [a,r,<-a] at h;unfold eL cw.val at h;rw [x] at h;rw [a,U4,<-a];rcases h with h | ⟨_,h⟩
   .simp only at h;grind
   .exact absurd h (by simp)
end Go.Aev.Tb
namespace Go.Aev.Wd.Lg
open Go Go.Aev Go.Aev.Gen Go.Aev.Wd
def fT(g:Nat->Rat):Nat->List Rat->Rat
 | _,[]=>0
 | k,x::xs=>g k * x+fT g (k+1) xs
theorem Fz{f g:Nat->Rat}:∀(xs:List Rat) (k:Nat),(∀j,k<=j->j < k+xs.length->f j=g j)->fT f k xs=fT g k xs
 | [],_,_=>rfl
 | x::xs,k,h=>by rw [fT,fT,h k (UC k) (by simp),Fz xs (k+1) λj h1 a=>h j (by omega) (by simp;omega)]
theorem Fy(f g:Nat->Rat):∀(xs:List Rat) (k:Nat),fT (λj=>f j+g j) k xs=fT f k xs+fT g k xs
 | [],_=>by simp only [fT];grind
 | x::xs,k=>by simp only [fT];rw [Fy f g xs (k+1)];grind
theorem FB(f:Nat->Rat)(c:Rat):∀(xs:List Rat) (k:Nat),fT (λj=>f j * c) k xs=c * fT f k xs
 | [],_=>by simp only [fT];grind
 | x::xs,k=>by simp only [fT];rw [FB f c xs (k+1)];grind
theorem Bz:∀(xs:List Rat) (k:Nat),fT (λ_=>0) k xs=0
 | [],_=>rfl
 | x::xs,k=>by simp only [fT];rw [Bz xs (k+1)];grind
theorem FA(of:List Int):∀(xs:List Rat) (k:Nat),of.length<=k+xs.length->fT (λj=>((of.getD j 0:Int):Rat)) k xs=bt (of.drop k) xs
 | [],k,h=>by rw [WE (by simpa using h),oG];rfl
 | x::xs,k,h=>by
  rw [fT,FA of xs (k+1) (by simp at h;omega)];by_cases a:k < of.length
  .rw [VR a,bt,Ul,Up a];rfl
  .rw [WE (by omega),WE (by omega),oG,oG,Ul,VI (by omega)];show((0:Int):Rat) * x+0=0;have:((0:Int):Rat)=0:=rfl;grind
theorem FC{of:List Int}{xs:List Rat}(h:of.length<=xs.length):fT (λj=>((of.getD j 0:Int):Rat)) 0 xs=bt of xs:=FA of xs 0 (by omega)
def wc:List R->List Rat->List Rat->Rat
 | r::a,t::ts,xs=>t * bt r.of xs+wc a ts xs
 | _,_,_=>0
theorem Ff{xs:List Rat}:∀(a:List R) (ts:List Rat),(∀r∈a,r.of.length<=xs.length)->fT (λk=>jd a ts k) 0 xs=wc a ts xs
 | [],ts,_=>by
  have:(λk=>jd [] ts k)=λ_=>0:=by funext k;cases ts <;> rfl
  rw [this,Bz];cases ts <;> rfl
 | r::a,[],_=>by
  have:(λk=>jd (r::a) [] k)=λ_=>0:=by funext k;rfl
  rw [this,Bz];rfl
 | r::a,t::ts,h=>by show fT (λk=>((r.of.getD k 0:Int):Rat) * t+jd a ts k) 0 xs=_;rw [Fy (λk=>((r.of.getD k 0:Int):Rat) * t) (λk=>jd a ts k),FB (λk=>((r.of.getD k 0:Int):Rat)) t,FC (h r Uk),Ff a ts λr b=>h r (Um _ b)];rfl
theorem OY{x:Fr}(h:bg x)(a:¬x.1 < 0): 0<=aW x:=by unfold aW;have h1:=h.1;exact(Rat.divInt_nonneg_iff_of_pos_right (by omega)).2 (by omega)
theorem K3{xs:List Rat}:∀(a:List R) (ts:List Fr),(∀r∈a,r.kd=1\/r.kd=3)->(∀r∈a,fU r (bt r.of xs)=true)->jm a ts=true->(∀t∈ts,bg t)->wc a (ts.map aW) xs<=lI a (ts.map aW)
 | [],ts,_,_,_,_=>by cases ts <;> exact WN
 | r::a,[],_,_,_,_=>WN
 | r::a,t::ts,g,f,c,i=>by
  rw [jm,Un] at c;have l:=K3 a ts (λr d=>g r (Um _ d)) (λr d=>f r (Um _ d)) c.2 λt h=>i t (Um _ h);show aW t * bt r.of xs+wc a (ts.map aW) xs<=(r.tv:Rat) * aW t+lI a (ts.map aW);have h1:=f r Uk;have k:aW t * bt r.of xs<=(r.tv:Rat) * aW t:=by
   rcases g r Uk with e | e
   .have b:bt r.of xs<=(r.tv:Rat):=by simpa [fU,e] using h1
    have j: 0<=aW t:=OY (i t Uk) (by simpa [e] using c.1);rw [Yh (r.tv:Rat)];exact Rat.mul_le_mul_of_nonneg_left b j
   .have b:bt r.of xs= (r.tv:Rat):=by simpa [fU,e] using h1
    rw [b,Yh];exact WN
  grind
theorem weak{n:Nat}{rows:List R}{gl:List Int}{v:Fr}{b times a:List Fr}(hs:kG n rows gl v b times=true)(l:∀r∈rows,r.kd=1\/r.kd=3)(m:∀r∈rows,r.of.length<=n)(h:gl.length<=n)
  (o:∀t∈times,bg t) (c:a.length=n) (i:∀r∈rows,fU r (bt r.of (a.map aW))=true):bt gl (a.map aW)<=aW v:=by
 unfold kG at hs;simp only [Un,decide_eq_true_eq,UD,Wx] at hs;obtain⟨⟨⟨⟨_,_⟩,d⟩,f⟩,g⟩:=hs;have e:bt gl (a.map aW)=wc rows (times.map aW) (a.map aW):=by rw [<-Ff rows (times.map aW) (by simpa [c] using m),<-FC (by simpa [c] using h)];exact Fz _ 0 λj _ k=>(f j (by simpa [c] using k)).symm
 rw [e,<-g];exact K3 rows times l i d o
open Go Go.Aev Go.Aev.Gen Go.Aev.Wd Go.Aev.Tb
theorem LC{n:Nat}{rows:List R}{gl:List Int}{t:TL}(go:iv n rows gl)(h:fu n rows gl t)(e:aV n rows t.val 1 t.aB 0=none):(aN n rows).D7 (gR gl) t.st (λv=>nv (aq t.aB v)):=by refine LD h.tok.ok.hy h.g h.fe (λu f c d=> ?_);have a:=yA e u (Xr u) (by rw [Vv];exact c);rw [Vv] at a;have b:=(Bj h.tok go.k2 (u:=u) f c).2 d;rw [a] at b;cases b
theorem DE(f:Nat->Rat)(n:Nat):sm (n+1) f=f 0+sm n (λi=>f (i+1)):=by
 rw [Yb,zR f 1 n];have:(λi=>f (1+i))=λi=>f (i+1):=by funext i;rw [Yb]
 rw [this];show(0+f 0)+ _=_;grind
theorem Fe(k:Nat):∀(rows:List R) (ts:List Rat),ts.length=rows.length->jd rows ts k=sm rows.length (λi=>ts.getD i 0 * (((bf rows i).of.getD k 0:Int):Rat))
 | [],ts,_=>by cases ts <;> rfl
 | r::a,[],h=>by simp at h
 | r::a,t::ts,h=>by rw [UH,DE];show((r.of.getD k 0:Int):Rat) * t+jd a ts k=t * ((r.of.getD k 0:Int):Rat)+sm a.length (λi=>ts.getD i 0 * (((bf a i).of.getD k 0:Int):Rat));rw [Fe k a ts (by simpa using h),Yh]
theorem KJ:∀(rows:List R) (ts:List Rat),ts.length=rows.length->lI rows ts=sm rows.length (λi=>ts.getD i 0 * ((bf rows i).tv:Rat))
 | [],ts,_=>by cases ts <;> rfl
 | r::a,[],h=>by simp at h
 | r::a,t::ts,h=>by rw [UH,DE];show(r.tv:Rat) * t+lI a ts=t * (r.tv:Rat)+sm a.length (λi=>ts.getD i 0 * ((bf a i).tv:Rat));rw [KJ a ts (by simpa using h),Yh]
theorem uv:∀(of:List Int) (xs:List Rat),of.length<=xs.length->bt of xs=sm xs.length (λk=>((of.getD k 0:Int):Rat) * xs.getD k 0)
 | [],xs,_=>by rw [oG];refine(mU λk _=> ?_).symm;show((0:Int):Rat) * _=0;have:((0:Int):Rat)=0:=rfl;rw [this,VQ]
 | c::of,[],h=>by simp at h
 | c::of,x::xs,h=>by rw [UH,DE];show(c:Rat) * x+bt of xs= (c:Rat) * x+sm xs.length (λk=>((of.getD k 0:Int):Rat) * xs.getD k 0);rw [uv of xs (by simpa using h)]
theorem IN:∀(rows:List R) (ts:List Fr),ts.length=rows.length->(∀i,i < rows.length->(bf rows i).kd=1->¬(ts.getD i (0,1)).1 < 0)->jm rows ts=true
 | [],ts,_,_=>by cases ts <;> rfl
 | r::c,[],h,_=>by simp at h
 | r::c,t::ts,h,b=>by
  rw [jm,Un];refine⟨?_,IN c ts (by simpa using h) λi hi a=>b (i+1) (by simp;omega) a⟩;by_cases a:r.kd=1
  .have:=b 0 (by simp) a;have d:¬t.1 < 0:=this;simp [a,d]
  .simp [a]
theorem OX{x:Nm}(h:dK (nv x)=true):aW (dh x)=nv x:=by unfold dh;rw [if_pos h];exact V7 _
theorem Ca{l:List Nm}(h:eE l=true):(l.map dh).map aW=l.map nv:=by rw [Xh];exact Wo λx a=>OX (UD.1 h x a)
section
variable {n:Nat} {rows:List R} {gl:List Int} {t:TL}
theorem Ra(go:iv n rows gl)(h:b8 n rows t):(cI n rows t.val).map nv= (List.range n).map t.st.y:=by
 have hv:=h.aZ.v;refine List.ext_getElem (by unfold cI;simp;omega) (λk h1 a=> ?_);have b:k < n:=by simpa using a
 have hz:=z0 h go.k2 (v:=k) (by omega);unfold cI;simp only [Xh,Xj,List.getElem_take,W0];have e:t.val[k]'(by omega)=aI t.val k:=by unfold aI;rw [Ul,Up (by omega)];rfl
 show nv (gX _ (t.val[k]'(by omega)))=_;rw [e];exact EJ _ _ hz
theorem K5(k:Nat)(a:k < n):((List.range n).map t.st.y).getD k 0=t.st.y k:=by rw [Ul,U9,XO a];rfl
theorem Sh(go:iv n rows gl)(h:fu n rows gl t)(p:aV n rows t.val 1 t.aB 0=none)(s:eE (cI n rows t.val)=true)(v:eE (t.aB.drop n)=true)(z:dK (gO gl (cI n rows t.val))=true):
  kG n rows gl ((gO gl (cI n rows t.val)).num,((gO gl (cI n rows t.val)).den:Int)) ((cI n rows t.val).map dh) ((t.aB.drop n).map dh)=true:=by
 have B:=LC go h p;have q:=h.len;have c:=Ra go h.tok;have j:gO gl (cI n rows t.val)=sm n (λk=>gR gl k * t.st.y k):=by unfold gO;rw [c,uv gl _ (by simpa using go.gl)];rw [WC,X1];exact eJ λk a=>by rw [K5 k a];rfl
 have g:((t.aB.drop n).map nv).length=rows.length:=by simp;omega
 have f:∀i,((t.aB.drop n).map nv).getD i 0=nv (aq t.aB (n+i)):=λi=>by unfold aq;rw [Ul,Ul,U9,W1];cases t.aB[n+i]? <;> rfl
 have u:aW ((gO gl (cI n rows t.val)).num,((gO gl (cI n rows t.val)).den:Int))=gO gl (cI n rows t.val):=V7 _;unfold kG;rw [u,Ca s,Ca v,c];simp only [Un,decide_eq_true_eq,UD,Wx];refine⟨⟨⟨⟨λr d=> ?_, ?_⟩, ?_⟩,λk a=> ?_⟩, ?_⟩
 .obtain⟨i,hi,e⟩:=Wa d;have er:bf rows i=r:=by unfold bf;rw [Ul,Up hi];exact e
  have hy:=h.tok.ok.hy i hi;have o:bt r.of ((List.range n).map t.st.y)=t.st.y (n+i):=by rw [uv r.of _ (by simpa using go.ro.len r d),WC,X1];refine Eq.trans ?_ hy.symm;exact eJ λk a=>by rw [K5 k a,<-er];rfl
  have b:=h.fe (n+i) (Xi n i) (Nat.add_lt_add_left hi n);have m:(aN n rows).to (n+i - (aN n rows).n)= (r.tv:Rat):=by show((bf rows (n+i - n)).tv:Rat)=_;rw [U4,er]
  have e2:(aN n rows).kd (n+i - (aN n rows).n)=r.kd:=by show(bf rows (n+i - n)).kd=_;rw [U4,er]
  rw [m,e2] at b;rw [o];unfold fU;rcases go.ro.kd r d with k | k | k
  .rw [if_pos k];exact decide_eq_true b.1
  .exact absurd k (go.k2 r d)
  .rw [if_neg (by omega),if_neg (by omega)];exact decide_eq_true (b.2 k)
 .rw [<-c];rfl
 .refine IN rows _ (by simp;omega) λi hi a=> ?_;have hb:=B.sg i hi (by show(bf rows i).kd≠3;omega);have w:((t.aB.drop n).map dh).getD i (0,1)=dh (aq t.aB (n+i)):=by
   unfold aq;rw [Ul,Ul,U9,W1,Up (by omega)];rfl
  rw [w];have l: 0<=nv (aq t.aB (n+i)):=hb;have x:=Xz.2 l;unfold dh;split
  .show ¬(nv (aq t.aB (n+i))).num < 0;omega
  .show ¬(0:Int) < 0;omega
 .rw [Fe k rows _ g];refine Eq.trans ?_ (B.aD k a);exact eJ λi _=>by rw [f];rfl
 .rw [KJ rows _ g,j];refine Eq.trans ?_ B.val.symm;exact eJ λi _=>by rw [f];rfl
end
open Go Go.Aev Go.Aev.Gen Go.Aev.Wd Go.Aev.Tb
section
variable {n:Nat} {rows:List R} {gl:List Int} {t:TL}
theorem RK(h:b8 n rows t){v:Nat}(aj:Int)(j:¬t.st.fZ rows.length v):(jQ n t v aj).map nv= (List.range n).map (t.st.dir rows.length v (aj:Rat)):=by
 have base:∀k,k < n->k≠v->nv (iG t v aj k)=t.st.dir rows.length v (aj:Rat) k:=λk a l=>by
  by_cases hb:t.st.fZ rows.length k
  .obtain⟨i,hi,e⟩:=hb;have g:i < (aN n rows).m:=hi;have d:=h.ln i k (by rw [<-e];exact iY (by rw [h.aZ.b];exact hi));have p:=uu h.ok (aj:Rat) g j;have f:t.st.dir rows.length v (aj:Rat) (t.st.ah i)=t.st.c i v * (aj:Rat):=p;unfold iG;rw [d,<-e,f];rfl
  .have d:cg k t.mp=none:=h.uS k λhm=>hb (by
    obtain⟨i,hi,e⟩:=Wa hm;refine⟨i,by rw [<-h.aZ.b];exact hi, ?_⟩;show t.ah.getD i 0=k;rw [Ul,Up hi];exact e)
   unfold iG;rw [d,rN t.st (aj:Rat) l hb];rfl
 refine List.ext_getElem (by unfold jQ;split <;> simp) (λk h1 o=> ?_);have a:k < n:=by simpa using o
 rw [Xj,Xj,W0];by_cases e:k=v
 .subst e;rw [rO];unfold jQ;simp only [if_pos a,List.getElem_set_self];rfl
 .rw [<-base k a e];unfold jQ;split
  .rw [List.getElem_set_ne (λe'=>e e'.symm),Xj,W0]
  .rw [Xj,W0]
theorem Si(go:iv n rows gl)(h:fu n rows gl t){v:Nat}(K:aV n rows t.val 1 t.aB 0=some v)(L:(bo n rows t v (nv (aq t.aB v)).num.sign).2.2=false)
  (a:iZ n rows v (iN (nv (aq t.aB v)).num.sign)=false) (M:eE (jQ n t v (nv (aq t.aB v)).num.sign)=true):
  pb rows gl ((jQ n t v (nv (aq t.aB v)).num.sign).map dh)=true:=by
 obtain⟨_,x,d,_,_⟩:=kT K;rw [Vv] at d;rw [UW,h.len] at x;have w:v < (aN n rows).n+ (aN n rows).m:=x;have l:¬t.st.fZ rows.length v:=by rintro⟨i,hi,e⟩;have hz:nv (aq t.aB (t.st.ah i))=0:=h.g.z i hi;rw [e] at hz;exact d hz
 have A:∀j,j < rows.length->¬ir n rows t v (nv (aq t.aB v)).num.sign j:=by
  rcases Ig h.tok go.k2 a with⟨_,b⟩ | ⟨i,_,_,b,_⟩
  .exact b
  .rw [L] at b;cases b
 have B: 0 < nv (aq t.aB v) * (((nv (aq t.aB v)).num.sign:Int):Rat):=by
  have y:((1:Int):Rat)=1:=rfl;have o:((-1:Int):Rat)= -1:=rfl;rcases vL d with e | e
  .have:=(vo (nv (aq t.aB v))).1 (by omega);rw [e,y];grind
  .have h1:¬0 < nv (aq t.aB v):=λb=>by have:=(vo (nv (aq t.aB v))).2 b;omega
   rw [e,o];grind
 have G:=vL d;generalize N:(nv (aq t.aB v)).num.sign=aj at *
 have u:=Mv h.tok.ok (aj:Rat) l w;have s:=Pp h.g (aj:Rat) w;rw [h.g.same _ u] at s;have I:(jQ n t v aj).map nv= (List.range n).map (t.st.dir rows.length v (aj:Rat)):=RK h.tok aj l;have get:∀k,k < n->((List.range n).map (t.st.dir rows.length v (aj:Rat))).getD k 0=t.st.dir rows.length v (aj:Rat) k:=λk f=>by rw [Ul,U9,XO f];rfl
 unfold pb;rw [Ca M,I];simp only [Un,decide_eq_true_eq,UD,UT];refine⟨?_, ?_⟩
 .rintro _ ⟨r,q,rfl⟩;obtain⟨i,hi,e⟩:=Wa q;have er:bf rows i=r:=by unfold bf;rw [Ul,Up hi];exact e
  have J:bt r.of ((List.range n).map (t.st.dir rows.length v (aj:Rat)))=t.st.dir rows.length v (aj:Rat) (n+i):=by rw [uv r.of _ (by simpa using go.ro.len r q),WC,X1];refine Eq.trans ?_ (u i hi).symm;exact eJ λk f=>by rw [get k f,<-er];rfl
  have key:t.st.dir rows.length v (aj:Rat) (n+i)<=0/\(r.kd=3->t.st.dir rows.length v (aj:Rat) (n+i)=0):=by
   by_cases ev:n+i=v
   .rw [ev,rO];unfold iZ at a;have H:nv (iN aj)= (aj:Rat):=rfl;rw [H] at a;have y:((1:Int):Rat)=1:=rfl;have o:((-1:Int):Rat)= -1:=rfl;rcases G with e' | e'
    .rw [e',y,if_neg (by grind)] at a;have:¬v < n:=by omega
     simp [this] at a
    .rw [e',o,if_pos (by grind)] at a;rw [e',o];refine⟨by grind,λC=> ?_⟩;have:fb n rows v=true:=lX.2 ⟨by omega,by rw [<-ev,U4];show(bf rows i).kd=3;rw [er];exact C⟩;rw [this] at a;cases a
   .by_cases hb:t.st.fZ rows.length (n+i)
    .obtain⟨j,F,D⟩:=hb;have E:t.st.dir rows.length v (aj:Rat) (t.st.ah j)=t.st.c j v * (aj:Rat):=uu h.tok.ok (aj:Rat) (j:=j) F l;rw [<-D,E];have p:=A j F;unfold ir at p;have e3:(aN n rows).kd (t.st.ah j - n)=r.kd:=by
      rw [D];show(bf rows (n+i - n)).kd=_;rw [U4,er]
     rw [e3] at p;have h1:¬0 < t.st.c j v * (aj:Rat):=λb=>p ⟨by omega, .inl b⟩;refine⟨by grind,λC=> ?_⟩;have O:¬t.st.c j v * (aj:Rat) < 0:=λb=>p ⟨by omega, .inr ⟨b,C⟩⟩;grind
    .rw [rN t.st (aj:Rat) ev hb];exact⟨WN,λ_=>rfl⟩
  show fU (oa r) (bt r.of _)=true;rw [J];unfold fU oa;have z:((0:Int):Rat)=0:=rfl;simp only [z];rcases go.ro.kd r q with k | k | k
  .rw [if_pos k];exact decide_eq_true key.1
  .exact absurd k (go.k2 r q)
  .rw [if_neg (by omega),if_neg (by omega)];exact decide_eq_true (key.2 k)
 .rw [uv gl _ (by simpa using go.gl),WC,X1];have:sm n (λk=>((gl.getD k 0:Int):Rat) * ((List.range n).map (t.st.dir rows.length v (aj:Rat))).getD k 0)=nv (aq t.aB v) * (aj:Rat):=by
   refine Eq.trans ?_ s;exact eJ λk f=>by rw [get k f];rfl
  rw [this];exact B
end
open Go Go.Aev Go.Aev.Gen Go.Aev.Wd Go.Aev.Tb
theorem Dj{n j:Nat}{s:Nm}:∀(xs:List Nm) (v:Nat) (a:List Nm),(∀u,v<=u->u < n->nv (aq xs (u - v))=0)->j < a.length->
  nv (aq (gZ n s xs v a) j)=if v<=n+j/\nv (aq xs (n+j - v))≠0 then -(nv (aq xs (n+j - v)) * nv s) else nv (aq a j)
 | [],v,a,_,_=>by have h:nv (aq [] (n+j - v))=0:=rfl;rw [gZ,if_neg (λb=>b.2 h)]
 | x::xs,v,a,hz,i=>by
  have g:∀u,v+1<=u->u < n->nv (aq xs (u - (v+1)))=0:=λu h1 c=>by have:=hz u (by omega) c;obtain⟨k,rfl⟩:∃k,u=v+1+k:=⟨u - (v+1),by omega⟩;rw [show v+1+k - v=k+1 by omega] at this;rw [show v+1+k - (v+1)=k by omega];exact this
  have tail:v+1<=n+j->aq (x::xs) (n+j - v)=aq xs (n+j - (v+1)):=λh=>by rw [show n+j - v= (n+j - (v+1))+1 by omega];rfl
  by_cases f:nv x=0
  .rw [gZ,if_pos f,Dj xs (v+1) a g i];by_cases h1:v+1<=n+j
   .rw [tail h1];simp only [h1,show v<=n+j by omega,true_and]
   .rw [if_neg (λb=>h1 b.1)];by_cases c:v<=n+j
    .have e:n+j - v=0:=by omega
     rw [e,if_neg (λb=>b.2 f)]
    .rw [if_neg (λb=>c b.1)]
  .have o:n<=v:=WW λb=>f (by have:=hz v (UC v) b;rw [W2] at this;exact this);rw [gZ,if_neg f,Dj xs (v+1) _ g (by rw [Vc];exact i)];by_cases h1:v+1<=n+j
   .have d:v - n≠j:=by omega
    have e2:aq (a.set (v - n) (ng (tm x s))) j=aq a j:=by unfold aq;rw [Ul,Ul,XG d]
    rw [tail h1,e2];simp only [h1,show v<=n+j by omega,true_and]
   .rw [if_neg (λb=>h1 b.1)];by_cases c:v<=n+j
    .have e:n+j - v=0:=by omega
     have m:v - n=j:=by omega
     have l:nv (aq (x::xs) 0)≠0:=f;rw [e,if_pos ⟨c,l⟩,m];have e2:aq (a.set j (ng (tm x s))) j=ng (tm x s):=by unfold aq;rw [Ul,List.getElem?_set_self i];rfl
     rw [e2];rfl
    .rw [if_neg (λb=>c b.1)];have d:v - n≠j:=by omega
     unfold aq;rw [Ul,Ul,XG d]
section
variable {n:Nat} {rows:List R} {t:TL}
theorem Rt(h:b8 n rows t)(k2:∀r∈rows,r.kd≠2){i:Nat}(hi:i < rows.length)(hb:(aN n rows).gf t.st (t.st.ah i))(q:aV n rows t.val (bE n rows t (t.st.ah i)) (az t.al i) 0=none):
  (aN n rows).Ref ((aN n rows).mul t.st i)/\∀j,j < rows.length->nv (aq (jr n rows.length (bE n rows t (t.st.ah i)) (t.st.ah i) (az t.al i)) j)= (aN n rows).mul t.st i j:=by
 have e:∀u,t.st.c i u≠0->¬(aN n rows).Can t.st ((aN n rows).aj t.st (t.st.ah i) * t.st.c i u) u:=λu d o=>by have a:=yA q u (Xr u) (by rw [Vv];exact d);rw [Vv] at a;rw [Ag] at o;have b:=(uf (n:=n) (rows:=rows) t (Af n rows t _) d (v:=u)).2 o;exact Bool.noConfusion (a.symm.trans b)
 have R:(aN n rows).Ref ((aN n rows).mul t.st i):=Ru h.ok (λj f=>k2 _ (jt f)) (λv hv=>z0 h k2 hv) hi hb (λu _=>e u);refine⟨R,λj f=> ?_⟩;have s:n<=t.st.ah i:=hb.1;have free:∀u,u < n->t.st.c i u=0:=λu g=>Wq λd=>e u d ⟨λ_=> .inl g,λ_=> .inl g⟩;have p:t.st.c i (t.st.ah i)=0:=h.ok.wf.z i i hi hi;unfold jr;rw [Dj (az t.al i) 0 _ (λu _ g=>free u g) (by simpa using f)];rw [Vv];have e0:nv (aq (az t.al i) (n+j))=t.st.c i (n+j):=rfl;have es:nv (iN (-(bE n rows t (t.st.ah i))))= -((bE n rows t (t.st.ah i):Int):Rat):=Rat.intCast_neg _;rw [e0,es];unfold Sy.mul;rw [Ag];show _=if n+j=t.st.ah i then _ else _ * t.st.c i (n+j);by_cases k:n+j=t.st.ah i
 .rw [if_neg (λl=>l.2 (by rw [k];exact p)),if_pos k];have:aq ((List.replicate rows.length (none:Nm)).set (t.st.ah i - n) (iN (-(bE n rows t (t.st.ah i))))) j=iN (-(bE n rows t (t.st.ah i))):=by
   rw [show t.st.ah i - n=j by omega];unfold aq;rw [Ul,List.getElem?_set_self (by simpa using f)];rfl
  rw [this];exact es
 .rw [if_neg k];by_cases m:t.st.c i (n+j)=0
  .rw [if_neg (λl=>l.2 m),m,V8];have d:t.st.ah i - n≠j:=by omega
   unfold aq;rw [Ul,XG d,Wi];split <;> rfl
  .rw [if_pos ⟨Xr _,m⟩];grind
end
open Go Go.Aev Go.Aev.Gen Go.Aev.Wd Go.Aev.Tb
section
variable {n:Nat} {rows:List R} {gl:List Int}
end
open Go Go.Aev Go.Aev.Gen Go.Aev.Wd Go.Aev.Tb
section
variable {n:Nat} {rows:List R} {gl:List Int}
theorem Qa(go:iv n rows gl):∀(p:Nat) (t:TL) (l:List Nm),fu n rows gl t->(dF n rows p t).1=some l->
  fu n rows gl (dF n rows p t).2.2.2/\aV n rows (dF n rows p t).2.2.2.val 1 (dF n rows p t).2.2.2.aB 0=none/\l= (dF n rows p t).2.2.2.aB.drop n:=by
 intro p;induction p with
 | zero=>
  intro t l h a;cases b:aV n rows t.val 1 t.aB 0 with
  | none=>rw [mM 0 b] at a⊢;exact⟨h,b,(Vb a).symm⟩
  | some v=>rw [ql b] at a;cases a
 | succ p d=>
  intro t l h a;cases b:aV n rows t.val 1 t.aB 0 with
  | none=>rw [mM _ b] at a⊢;exact⟨h,b,(Vb a).symm⟩
  | some v=>
   cases c:(bo n rows t v (nv (aq t.aB v)).num.sign).2.2
   .rw [qf p b c] at a;cases a
   .rw [qg p b c] at a⊢;exact d _ l (h.step go b c).1 a
theorem Qb(go:iv n rows gl):∀(p:Nat) (t:TL) (l:List Nm),fu n rows gl t->(dF n rows p t).2.1=some l->eE l=true->
  fu n rows gl (dF n rows p t).2.2.2/\pb rows gl (l.map dh)=true:=by
 intro p;induction p with
 | zero=>
  intro t l h a e;cases b:aV n rows t.val 1 t.aB 0 with
  | none=>rw [mM 0 b] at a;cases a
  | some v=>rw [ql b] at a;cases a
 | succ p f=>
  intro t l h a e;cases b:aV n rows t.val 1 t.aB 0 with
  | none=>rw [mM _ b] at a;cases a
  | some v=>
   cases c:(bo n rows t v (nv (aq t.aB v)).num.sign).2.2
   .rw [qf p b c] at a⊢;obtain rfl:=Vb a;obtain⟨_,e2,e3,d,_⟩:=kT b;rw [Vv] at e3 d;rw [Vy] at d;rw [UW,h.len] at e2;exact⟨h,Si go h b c (h.self go e2 e3 d) e⟩
   .rw [qg p b c] at a⊢;exact f _ l (h.step go b c).1 a e
theorem Pc(k2:∀r∈rows,r.kd≠2):∀(p:Nat) (t:TL) (l:List Nm),b8 n rows t->(cG n rows true p t).1=some l->
  ∃T,(aN n rows).Ref T/\∀j,j < rows.length->nv (aq l j)=T j:=by
 intro p;induction p with
 | zero=>
  intro t l h a;rcases pL h with⟨_,hb⟩ | ⟨i,hi,b,d,hb,f⟩
  .rw [pZ true _ hb] at a;cases a
  .rw [sd true hb] at a;cases a
 | succ p g=>
  intro t l h a;rcases pL h with⟨_,hb⟩ | ⟨i,hi,b,d,hb,f⟩
  .rw [pZ true _ hb] at a;cases a
  .rw [sc true p hb f] at a;cases c:aV n rows t.val (bE n rows t (t.st.ah i)) (az t.al i) 0 with
   | none=>rw [c] at a;obtain rfl:=Vb a;obtain⟨R,e⟩:=Rt h k2 hi b c;exact⟨_,R,e⟩
   | some v=>rw [c] at a;obtain⟨m,e2,_⟩:=kT c;obtain⟨k,_⟩:=h.step true hi (v:=v) (by have:=h.aZ.row hi;omega) b c d;exact g _ l k a
theorem OW{x:Nm}(h:dK (nv x)=true):bg (dh x):=by unfold dh;rw [if_pos h];exact(yL _).2 h
theorem Mx(go:iv n rows gl)(p:Nat):nh n rows gl p=Cl\/nh n rows gl p=sD\/
  (∃(v:Fr) (pl d:List Nm),nh n rows gl p= [ti 1,ti v.1,ti v.2,lF pl,lF d,ti 0,ti 0]/\bg v/\pl.length=n/\d.length=rows.length/\eE pl=true/\eE d=true/\kG n rows gl v (pl.map dh) (d.map dh)=true)\/
  (∃(d:List Nm) (s:Nat->Rat),nh n rows gl p= [ti 2,ti 0,ti 0,T.aJ true,lF d,ti 0,ti 0]/\d.length=rows.length/\eE d=true/\(aN n rows).Ref s/\∀j,j < rows.length->nv (aq d j)=s j)\/
  ∃(pl:List Nm) (t:TL),nh n rows gl p= [ti 3,ti 0,ti 0,lF pl,T.aJ true,ti 0,ti 0]/\pl.length=n/\eE pl=true/\pb rows gl (pl.map dh)=true/\fu n rows gl t:=by
 have ro:=go.ro;have c:=IL ro;have o:=HC ro p (eO n rows) c;have g:=HE ro p c;have k:=HD ro p (eO n rows) c;have q:=λl=>Pc go.k2 p (eO n rows) l c;unfold nh;generalize cG n rows true p (eO n rows)=r1 at o g k q⊢;obtain⟨no,done,B⟩:=r1;simp only at o g k q;cases done with
 | false=>exact .inl rfl
 | true=>
  cases no with
  | some l=>
   simp only;by_cases a:eE l=true
   .rw [if_pos a];obtain⟨s,R,e⟩:=q l rfl;exact .inr (.inr (.inr (.inl ⟨l,s,rfl,(o l rfl).1,a,R,e⟩)))
   .rw [if_neg a];exact .inr (.inl rfl)
  | none=>
   have x:=Cg g (Hh g go.k2 (k rfl rfl)) go.gl;have f:=Iv go p _ x;have i:=Iw (n:=n) (rows:=rows) p (uK n rows gl B);have m:=λl=>Qa go p _ l x;have r:=λl=>Qb go p _ l x;simp only;generalize dF n rows p (uK n rows gl B)=D at f i m r⊢;obtain⟨h,A,u,b⟩:=D;simp only at f i m r;cases u with
   | false=>exact .inl (by cases h <;> cases A <;> rfl)
   | true=>
    cases A with
    | some l=>
     have hm:sC n rows gl (h,some l,true,b)=if eE l=true then [ti 3,ti 0,ti 0,lF l,T.aJ true,ti 0,ti 0] else sD:=by cases h <;> rfl
     rw [hm];by_cases a:eE l=true
     .rw [if_pos a];obtain⟨w,k2⟩:=r l rfl a;exact .inr (.inr (.inr (.inr ⟨l,b,rfl,(f.2 l rfl).1,a,k2,w⟩)))
     .rw [if_neg a];exact .inr (.inl rfl)
    | none=>
     cases h with
     | none=>exact(i rfl rfl rfl).elim
     | some l=>
      obtain⟨w,k2,C⟩:=m l rfl
      have hm:sC n rows gl (some l,none,true,b)=if(dK (gO gl (cI n rows b.val)) && eE (cI n rows b.val) && eE l)=true then
        [ti 1,ti (gO gl (cI n rows b.val)).num,ti ((gO gl (cI n rows b.val)).den:Int),lF (cI n rows b.val),lF l,ti 0,ti 0] else sD:=rfl
      rw [hm];by_cases a:(dK (gO gl (cI n rows b.val)) && eE (cI n rows b.val) && eE l)=true
      .rw [if_pos a];simp only [Un] at a;obtain⟨⟨h1,y⟩,z⟩:=a;refine .inr (.inr (.inl ⟨_,cI n rows b.val,l,rfl,(yL _).2 h1, ?_,(f.1 l rfl).1,y,z, ?_⟩))
       .have:=w.tok.aZ.v;unfold cI;simp;omega
       .subst C;exact Sh go w k2 y z h1
      .rw [if_neg a];exact .inr (.inl rfl)
end
open Go Go.Aev Go.Aev.Gen Go.Aev.Wd Go.Aev.Tb
section
variable (rows:List R) (er et:Bool) (n:Nat) (times:List Fr)
end
end Go.Aev.Wd.Lg
