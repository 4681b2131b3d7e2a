import Derived.Test.YticjdhgokemdlaaGreatMostTwiceQ15
import Derived.Test.YticjdhgokemdlaaGreatMostTwiceQ18
import Derived.Test.YticjdhgokemdlaaGreatMostTwiceQ21
set_option linter.all false
namespace Go.Aev.Tb
open Go Go.Aev
theorem Ah(f:Nat->Rat)(n:Nat):∀(m:Nat),sm (n+m) f=sm n f+sm m (λi=>f (n+i))
 | 0=>by show sm n f=sm n f+0;grind
 | m+1=>by show sm (n+m) f+f (n+m)=sm n f+ (sm m (λi=>f (n+i))+f (n+m));rw [Ah f n m];grind
structure Sy.EO (S:Sy) (G:Nat->Rat) (t:bx) (g:Nat->Rat):Prop where
 free:∀u,u < S.n->g u=0
 sg:∀i,i < S.m->S.kd i≠3->0<=g (S.n+i)
 aD:∀k,k < S.n->sm S.m (λi=>g (S.n+i) * S.A i k)=G k
 val:sm S.n (λk=>G k * t.y k)=sm S.m (λi=>g (S.n+i) * S.to i)
theorem ME{S:Sy}{G:Nat->Rat}{t:bx}{g:Nat->Rat}(hy:eW S.n S.m S.A t.y)(q:S.uc G t g)(r:S.oD t)(f:∀u,u < S.n+S.m->g u≠0->¬S.tT t (g u) u):S.EO G t g:=by
 have free:∀u,u < S.n->g u=0:=λu w=>by refine Xp λc=>f u (by omega) c ⟨λ_=> .inl w,λ_=> .inl w⟩
 have neg:∀i,i < S.m->g (S.n+i) < 0->S.kd i=3/\t.y (S.n+i)=S.to i:=λi hi h=>by have p:=f (S.n+i) (by omega) (by grind);have a:¬S.tW t (S.n+i):=λa=>p ⟨λd=>by grind,λ_=>a⟩;unfold Sy.tW at a;rw [VL] at a;have x:S.kd i=3:=Xp λd=>a (.inr (.inl d));have:=(r (S.n+i) (by omega) (by omega)).2;rw [VL] at this;exact⟨x,this x⟩
 have pos:∀i,i < S.m->0 < g (S.n+i)->t.y (S.n+i)=S.to i:=λi hi h=>by have p:=f (S.n+i) (by omega) (by grind);have a:¬S.uA t (S.n+i):=λa=>p ⟨λ_=>a,λd=>by grind⟩;unfold Sy.uA at a;rw [VL] at a;have:=(r (S.n+i) (by omega) (by omega)).1;rw [VL] at this;have C:¬t.y (S.n+i) < S.to i:=λd=>a (.inr d);grind
 have sum:∀y:Nat->Rat,sm (S.n+S.m) (λk=>g k * y k)=sm S.m (λi=>g (S.n+i) * y (S.n+i)):=λy=>by
  rw [Ah (λk=>g k * y k) S.n S.m];have:sm S.n (λk=>g k * y k)=0:=mz λk b=>by rw [free k b,V8]
  rw [this];grind
 refine⟨free,λi hi b=> ?_,λk b=> ?_, ?_⟩
 .refine Xp λh=>b (neg i hi (by grind)).1
 .let y:Nat->Rat:=λv=>if v < S.n then(if v=k then 1 else 0) else S.A (v - S.n) k;have l:∀i,y (S.n+i)=S.A i k:=λi=>by
   show(if S.n+i < S.n then _ else _)=_;rw [if_neg (by omega),VL]
  have s:eW S.n S.m S.A y:=λi _=>by
   rw [l,kI b]
   .show S.A i k=S.A i k * (if k < S.n then(if k=k then 1 else 0) else _);rw [if_pos b,if_pos rfl,ZS]
   .intro j o c;show S.A i j * (if j < S.n then(if j=k then 1 else 0) else _)=0;rw [if_pos o,if_neg c,Wz]
  have e:=q.same y s;rw [sum y] at e;have e2:sm S.n (λj=>G j * y j)=G k:=by
   rw [kI b]
   .show G k * (if k < S.n then(if k=k then 1 else 0) else _)=G k;rw [if_pos b,if_pos rfl,ZS]
   .intro j o c;show G j * (if j < S.n then(if j=k then 1 else 0) else _)=0;rw [if_pos o,if_neg c,Wz]
  rw [<-e2,<-e];exact dv λi _=>by rw [l]
 .rw [<-q.same t.y hy,sum];refine dv λi hi=> ?_;by_cases z:g (S.n+i)=0
  .rw [z,V8,V8]
  .by_cases B: 0 < g (S.n+i)
   .rw [pos i hi B]
   .rw [(neg i hi (by grind)).2]
open Go Go.Aev
def Sy.mul(S:Sy)(t:bx)(i:Nat):Nat->Rat:=λj=>if S.n+j=t.af i then -(S.aj t (t.af i)) else S.aj t (t.af i) * t.c i (S.n+j)
structure Sy.Ref (S:Sy) (T:Nat->Rat):Prop where
 sg:∀j,j < S.m->S.kd j≠3->0<=T j
 aD:∀k,k < S.n->sm S.m (λj=>T j * S.A j k)=0
 val:sm S.m (λj=>T j * S.to j) < 0
theorem UT(S:Sy)(t:bx)(b:Nat):S.aj t b=1\/S.aj t b= -1:=by
 unfold Sy.aj;split
 .exact .inr rfl
 .exact .inl rfl
theorem Si{S:Sy}{t:bx}(ok:S.OK t)(k2:∀j,j < S.m->S.kd j≠2)(hz:∀v,v < S.n+S.m->t.z v=0){i:Nat}(hi:i < S.m)(hb:S.fV t (t.af i))
  (no:∀u,u < S.n+S.m->t.c i u≠0->¬S.Can t (S.aj t (t.af i) * t.c i u) u):S.Ref (S.mul t i):=by
 have K:S.n<=t.af i:=hb.1;have D:=ok.wf.hb i hi;have L:=UT S t (t.af i);have up:∀j,j < S.m->S.up (S.n+j)= (S.to j,0):=λj d=>by unfold Sy.up;rw [VL,if_neg (k2 j d)]
 have G:t.c i (t.af i)=0:=ok.wf.z i i hi hi;have free:∀u,u < S.n->t.c i u=0:=λu r=>Xp λg=>no u (by omega) g ⟨λ_=> .inl r,λ_=> .inl r⟩;have C:∀j,j < S.m->t.c i (S.n+j)≠0->t.y (S.n+j)=S.to j:=λj d g=>by have nb:∀q,q < S.m->t.af q≠S.n+j:=λq a e=>g (by rw [<-e];exact ok.wf.z i q hi a);have f:=ok.fix (S.n+j) (by omega) nb;unfold Sy.fx at f;rw [if_neg (by omega),up j d] at f;exact congrArg Prod.fst f
 have B:∀y:Nat->Rat,eW S.n S.m S.A y->sm S.m (λj=>S.mul t i j * y (S.n+j))=0:=λy hy=>by
  have h1:=(ok.wf.same y).2 hy i hi;rw [Ah (λk=>t.c i k * y k) S.n S.m] at h1;have o:sm S.n (λk=>t.c i k * y k)=0:=mz λk s=>by rw [free k s,V8]
  rw [o] at h1;obtain⟨q,a⟩:∃q,t.af i=S.n+q:=⟨t.af i - S.n,by omega⟩;have l:q < S.m:=by omega
  have e:sm S.m (λj=>S.mul t i j * y (S.n+j))=sm S.m (λj=>S.aj t (t.af i) * (t.c i (S.n+j) * y (S.n+j))+ -(S.aj t (t.af i)) * (if j=q then y (t.af i) else 0)):=by
   refine dv λj d=> ?_;unfold Sy.mul;by_cases b:j=q
   .subst b;rw [if_pos a.symm,if_pos rfl,<-a,G];grind
   .rw [if_neg (by omega),if_neg b];grind
  rw [e,lG,oe l,h1];grind
 have val:sm S.m (λj=>S.mul t i j * S.to j)=S.aj t (t.af i) * (t.y (t.af i) - S.to (t.af i - S.n)):=by
  have h:=B t.y ok.hy;obtain⟨q,a⟩:∃q,t.af i=S.n+q:=⟨t.af i - S.n,by omega⟩;have l:q < S.m:=by omega
  have e:sm S.m (λj=>S.mul t i j * S.to j)=sm S.m (λj=>1 * (S.mul t i j * t.y (S.n+j))+S.aj t (t.af i) * (if j=q then t.y (t.af i) - S.to (t.af i - S.n) else 0)):=by
   refine dv λj d=> ?_;by_cases b:j=q
   .subst b;unfold Sy.mul;rw [if_pos a.symm,if_pos rfl,a,VL];grind
   .rw [if_neg b];by_cases o:t.c i (S.n+j)=0
    .unfold Sy.mul;rw [if_neg (by omega),o];grind
    .rw [C j d o];grind
  rw [e,lG,oe l,h];grind
 refine⟨λj d F=> ?_,λk s=> ?_, ?_⟩
 .unfold Sy.mul;by_cases b:S.n+j=t.af i
  .rw [if_pos b];rcases hb.2 with h | ⟨h,_⟩
   .unfold Sy.aj;rw [if_pos h];grind
   .rw [<-b,VL] at h;exact absurd h F
  .rw [if_neg b];by_cases o:t.c i (S.n+j)=0
   .rw [o,Wz];exact WQ
   .refine Xp λJ=>no (S.n+j) (by omega) o ⟨λh=>absurd h (by grind),λ_=> .inr (.inl ?_)⟩;rw [VL];exact F
 .let y:Nat->Rat:=λv=>if v < S.n then(if v=k then 1 else 0) else S.A (v - S.n) k;have w:∀i,y (S.n+i)=S.A i k:=λi=>by
   show(if S.n+i < S.n then _ else _)=_;rw [if_neg (by omega),VL]
  have E:eW S.n S.m S.A y:=λi _=>by
   rw [w,kI s]
   .show S.A i k=S.A i k * (if k < S.n then(if k=k then 1 else 0) else _);rw [if_pos s,if_pos rfl,ZS]
   .intro j d g;show S.A i j * (if j < S.n then(if j=k then 1 else 0) else _)=0;rw [if_pos d,if_neg g,Wz]
  rw [<-B y E];exact dv λi _=>by rw [w]
 .rw [val];obtain⟨q,a⟩:∃q,t.af i=S.n+q:=⟨t.af i - S.n,by omega⟩;have l:q < S.m:=by omega
  have r:=up q l;have x:=hz (t.af i) D;rcases hb.2 with h | ⟨_,h⟩
  .have p:S.aj t (t.af i)= -1:=by unfold Sy.aj;rw [if_pos h]
   rw [p];rw [a,r,<-a] at h;unfold dc bx.val at h;rw [x] at h;rw [a,VL,<-a];rcases h with h | ⟨_,h⟩
   .simp only at h;grind
   .exact absurd h (by simp)
  .have I:¬dc (S.up (t.af i)) (t.val (t.af i)):=λH=>by
    unfold dc at h H;grind
   have p:S.aj t (t.af i)=1:=by unfold Sy.aj;rw [if_neg I]
   rw [p];rw [a,r,<-a] at h;unfold dc bx.val at h;rw [x] at h;rw [a,VL,<-a];rcases h with h | ⟨_,h⟩
   .simp only at h;grind
   .exact absurd h (by simp)
theorem Lc{f g:Nat->Rat}:∀{n:Nat},(∀i,i < n->f i<=g i)->sm n f<=sm n g
 | 0,_=>WQ
 | n+1,h=>by have h1:=Lc (n:=n) λi hi=>h i (by omega);have a:=h n (by omega);show sm n f+f n<=sm n g+g n;grind
theorem Sh{S:Sy}{T:Nat->Rat}(R:S.Ref T){t:bx}(hy:eW S.n S.m S.A t.y)(d:S.oD t):False:=by
 have e:sm S.m (λj=>T j * t.y (S.n+j))=0:=by
  have h1:sm S.m (λj=>T j * t.y (S.n+j))=sm S.m (λj=>sm S.n (λk=>T j * (S.A j k * t.y k))):=dv λj a=>by rw [hy j a,pK]
  rw [h1,En];refine mz λk f=> ?_;have c:sm S.m (λj=>T j * (S.A j k * t.y k))=sm S.m (λj=>t.y k * (T j * S.A j k)):=dv λj _=>by grind
  rw [c,pK,R.aD k f,Wz]
 have h:sm S.m (λj=>T j * t.y (S.n+j))<=sm S.m (λj=>T j * S.to j):=Lc λj a=>by
  have hb:=d (S.n+j) (by omega) (by omega);rw [VL] at hb;by_cases b:S.kd j=3
  .rw [hb.2 b];exact WQ
  .exact Zk hb.1 (R.sg j a b)
 have:=R.val;grind
end Go.Aev.Tb
namespace Go.Aev.Wd.Lg
open Go Go.Aev Go.Aev.Gen Go.Aev.Wd
def fZ(g:Nat->Rat):Nat->List Rat->Rat
 | _,[]=>0
 | k,x::xs=>g k * x+fZ g (k+1) xs
theorem Gf{f g:Nat->Rat}:∀(xs:List Rat) (k:Nat),(∀j,k<=j->j < k+xs.length->f j=g j)->fZ f k xs=fZ g k xs
 | [],_,_=>rfl
 | x::xs,k,h=>by rw [fZ,fZ,h k (Vq k) (by simp),Gf xs (k+1) λj h1 a=>h j (by omega) (by simp;omega)]
theorem Ge(f g:Nat->Rat):∀(xs:List Rat) (k:Nat),fZ (λj=>f j+g j) k xs=fZ f k xs+fZ g k xs
 | [],_=>by simp only [fZ];grind
 | x::xs,k=>by simp only [fZ];rw [Ge f g xs (k+1)];grind
theorem Gh(f:Nat->Rat)(c:Rat):∀(xs:List Rat) (k:Nat),fZ (λj=>f j * c) k xs=c * fZ f k xs
 | [],_=>by simp only [fZ];grind
 | x::xs,k=>by simp only [fZ];rw [Gh f c xs (k+1)];grind
theorem BZ:∀(xs:List Rat) (k:Nat),fZ (λ_=>0) k xs=0
 | [],_=>rfl
 | x::xs,k=>by simp only [fZ];rw [BZ xs (k+1)];grind
theorem Gg(of:List Int):∀(xs:List Rat) (k:Nat),of.length<=k+xs.length->fZ (λj=>((of.getD j 0:Int):Rat)) k xs=bh (of.drop k) xs
 | [],k,h=>by rw [Xz (by simpa using h),qz];rfl
 | x::xs,k,h=>by
  rw [fZ,Gg of xs (k+1) (by simp at h;omega)];by_cases a:k < of.length
  .rw [W5 a,bh,U9,Vd a];rfl
  .rw [Xz (by omega),Xz (by omega),qz,qz,U9,Wc (by omega)];show((0:Int):Rat) * x+0=0;have:((0:Int):Rat)=0:=rfl;grind
theorem Gi{of:List Int}{xs:List Rat}(h:of.length<=xs.length):fZ (λj=>((of.getD j 0:Int):Rat)) 0 xs=bh of xs:=Gg of xs 0 (by omega)
def oz:List R->List Rat->List Rat->Rat
 | r::a,t::ts,xs=>t * bh r.of xs+oz a ts xs
 | _,_,_=>0
theorem FV{xs:List Rat}:∀(a:List R) (ts:List Rat),(∀r∈a,r.of.length<=xs.length)->fZ (λk=>ji a ts k) 0 xs=oz a ts xs
 | [],ts,_=>by
  have:(λk=>ji [] ts k)=λ_=>0:=by funext k;cases ts <;> rfl
  rw [this,BZ];cases ts <;> rfl
 | r::a,[],_=>by
  have:(λk=>ji (r::a) [] k)=λ_=>0:=by funext k;rfl
  rw [this,BZ];rfl
 | r::a,t::ts,h=>by show fZ (λk=>((r.of.getD k 0:Int):Rat) * t+ji a ts k) 0 xs=_;rw [Ge (λk=>((r.of.getD k 0:Int):Rat) * t) (λk=>ji a ts k),Gh (λk=>((r.of.getD k 0:Int):Rat)) t,Gi (h r Vb),FV a ts λr b=>h r (Vc _ b)];rfl
theorem PR{x:Fr}(h:bI x)(a:¬x.1 < 0): 0<=aW x:=by unfold aW;have h1:=h.1;exact(Rat.divInt_nonneg_iff_of_pos_right (by omega)).2 (by omega)
theorem EI{xs:List Rat}:∀(a:List R) (ts:List Fr),(∀r∈a,r.kd=1\/r.kd=3)->(∀r∈a,fC r (bh r.of xs)=true)->hH a ts=true->(∀t∈ts,bI t)->oz a (ts.map aW) xs<=jT a (ts.map aW)
 | [],ts,_,_,_,_=>by cases ts <;> exact WQ
 | r::a,[],_,_,_,_=>WQ
 | r::a,t::ts,g,f,c,i=>by
  rw [hH,Ve] at c;have l:=EI a ts (λr d=>g r (Vc _ d)) (λr d=>f r (Vc _ d)) c.2 λt h=>i t (Vc _ h);show aW t * bh r.of xs+oz a (ts.map aW) xs<=(r.tv:Rat) * aW t+jT a (ts.map aW);have h1:=f r Vb;have k:aW t * bh r.of xs<=(r.tv:Rat) * aW t:=by
   rcases g r Vb with e | e
   .have b:bh r.of xs<=(r.tv:Rat):=by simpa [fC,e] using h1
    have j: 0<=aW t:=PR (i t Vb) (by simpa [e] using c.1);rw [Zi (r.tv:Rat)];exact Zk b j
   .have b:bh r.of xs= (r.tv:Rat):=by simpa [fC,e] using h1
    rw [b,Zi];exact WQ
  grind
open Go Go.Aev Go.Aev.Gen Go.Aev.Wd Go.Aev.Tb
theorem MD{n:Nat}{rows:List R}{gl:List Int}{t:TL}(go:ez n rows gl)(h:eA n rows gl t)(e:aV n rows t.val 1 t.aA 0=none):(aI n rows).EO (gR gl) t.st (λv=>nv (aq t.aA v)):=by refine ME h.tok.ok.hy h.g h.fe (λu f c d=> ?_);have a:=yV e u (Yk u) (by rw [Wq];exact c);rw [Wq] at a;have b:=(BK h.tok go.k2 (u:=u) f c).2 d;rw [a] at b;cases b
theorem Em(f:Nat->Rat)(n:Nat):sm (n+1) f=f 0+sm n (λi=>f (i+1)):=by
 rw [Za,Ah f 1 n];have:(λi=>f (1+i))=λi=>f (i+1):=by funext i;rw [Za]
 rw [this];show(0+f 0)+ _=_;grind
theorem FU(k:Nat):∀(rows:List R) (ts:List Rat),ts.length=rows.length->ji rows ts k=sm rows.length (λi=>ts.getD i 0 * (((aY rows i).of.getD k 0:Int):Rat))
 | [],ts,_=>by cases ts <;> rfl
 | r::a,[],h=>by simp at h
 | r::a,t::ts,h=>by rw [Vy,Em];show((r.of.getD k 0:Int):Rat) * t+ji a ts k=t * ((r.of.getD k 0:Int):Rat)+sm a.length (λi=>ts.getD i 0 * (((aY a i).of.getD k 0:Int):Rat));rw [FU k a ts (by simpa using h),Zi]
theorem LC:∀(rows:List R) (ts:List Rat),ts.length=rows.length->jT rows ts=sm rows.length (λi=>ts.getD i 0 * ((aY rows i).tv:Rat))
 | [],ts,_=>by cases ts <;> rfl
 | r::a,[],h=>by simp at h
 | r::a,t::ts,h=>by rw [Vy,Em];show(r.tv:Rat) * t+jT a ts=t * (r.tv:Rat)+sm a.length (λi=>ts.getD i 0 * ((aY a i).tv:Rat));rw [LC a ts (by simpa using h),Zi]
theorem oU:∀(of:List Int) (xs:List Rat),of.length<=xs.length->bh of xs=sm xs.length (λk=>((of.getD k 0:Int):Rat) * xs.getD k 0)
 | [],xs,_=>by rw [qz];refine(mz λk _=> ?_).symm;show((0:Int):Rat) * _=0;have:((0:Int):Rat)=0:=rfl;rw [this,V8]
 | c::of,[],h=>by simp at h
 | c::of,x::xs,h=>by rw [Vy,Em];show(c:Rat) * x+bh of xs= (c:Rat) * x+sm xs.length (λk=>((of.getD k 0:Int):Rat) * xs.getD k 0);rw [oU of xs (by simpa using h)]
theorem JD:∀(rows:List R) (ts:List Fr),ts.length=rows.length->(∀i,i < rows.length->(aY rows i).kd=1->¬(ts.getD i (0,1)).1 < 0)->hH rows ts=true
 | [],ts,_,_=>by cases ts <;> rfl
 | r::c,[],h,_=>by simp at h
 | r::c,t::ts,h,b=>by
  rw [hH,Ve];refine⟨?_,JD c ts (by simpa using h) λi hi a=>b (i+1) (by simp;omega) a⟩;by_cases a:r.kd=1
  .have:=b 0 (by simp) a;have d:¬t.1 < 0:=this;simp [a,d]
  .simp [a]
theorem PQ{x:Nm}(h:cZ (nv x)=true):aW (cK x)=nv x:=by unfold cK;rw [if_pos h];exact Xb _
theorem CB{l:List Nm}(h:cG l=true):(l.map cK).map aW=l.map nv:=by rw [XV];exact Xl λx a=>PQ (Vu.1 h x a)
section
variable {n:Nat} {rows:List R} {gl:List Int} {t:TL}
theorem RY(go:ez n rows gl)(h:bL n rows t):(bU n rows t.val).map nv= (List.range n).map t.st.y:=by
 have hv:=h.be.v;refine ZM (by unfold bU;simp;omega) (λk h1 a=> ?_);have b:k < n:=by simpa using a
 have hz:=z0 h go.k2 (v:=k) (by omega);unfold bU;simp only [XV,XR,List.getElem_take,XF];have e:t.val[k]'(by omega)=aJ t.val k:=by unfold aJ;rw [U9,Vd (by omega)];rfl
 show nv (gK _ (t.val[k]'(by omega)))=_;rw [e];exact Bw _ _ hz
theorem AF(k:Nat)(a:k < n):((List.range n).map t.st.y).getD k 0=t.st.y k:=by rw [U9,VZ,YF a];rfl
theorem Th(go:ez n rows gl)(h:eA n rows gl t)(p:aV n rows t.val 1 t.aA 0=none)(s:cG (bU n rows t.val)=true)(v:cG (t.aA.drop n)=true)(z:cZ (eY gl (bU n rows t.val))=true):
  iJ n rows gl ((eY gl (bU n rows t.val)).num,((eY gl (bU n rows t.val)).den:Int)) ((bU n rows t.val).map cK) ((t.aA.drop n).map cK)=true:=by
 have B:=MD go h p;have q:=h.len;have c:=RY go h.tok;have j:eY gl (bU n rows t.val)=sm n (λk=>gR gl k * t.st.y k):=by unfold eY;rw [c,oU gl _ (by simpa using go.gl)];rw [W9,X0];exact dv λk a=>by rw [AF k a];rfl
 have g:((t.aA.drop n).map nv).length=rows.length:=by simp;omega
 have f:∀i,((t.aA.drop n).map nv).getD i 0=nv (aq t.aA (n+i)):=λi=>by unfold aq;rw [U9,U9,VZ,XU];cases t.aA[n+i]? <;> rfl
 have u:aW ((eY gl (bU n rows t.val)).num,((eY gl (bU n rows t.val)).den:Int))=eY gl (bU n rows t.val):=Xb _;unfold iJ;rw [u,CB s,CB v,c];simp only [Ve,decide_eq_true_eq,Vu,Xi];refine⟨⟨⟨⟨λr d=> ?_, ?_⟩, ?_⟩,λk a=> ?_⟩, ?_⟩
 .obtain⟨i,hi,e⟩:=WB d;have er:aY rows i=r:=by unfold aY;rw [U9,Vd hi];exact e
  have hy:=h.tok.ok.hy i hi;have o:bh r.of ((List.range n).map t.st.y)=t.st.y (n+i):=by rw [oU r.of _ (by simpa using go.ro.len r d),W9,X0];refine ZN ?_ hy.symm;exact dv λk a=>by rw [AF k a,<-er];rfl
  have b:=h.fe (n+i) (XP n i) (Nat.add_lt_add_left hi n);have m:(aI n rows).to (n+i - (aI n rows).n)= (r.tv:Rat):=by show((aY rows (n+i - n)).tv:Rat)=_;rw [VL,er]
  have e2:(aI n rows).kd (n+i - (aI n rows).n)=r.kd:=by show(aY rows (n+i - n)).kd=_;rw [VL,er]
  rw [m,e2] at b;rw [o];unfold fC;rcases go.ro.kd r d with k | k | k
  .rw [if_pos k];exact decide_eq_true b.1
  .exact absurd k (go.k2 r d)
  .rw [if_neg (by omega),if_neg (by omega)];exact decide_eq_true (b.2 k)
 .rw [<-c];rfl
 .refine JD rows _ (by simp;omega) λi hi a=> ?_;have hb:=B.sg i hi (by show(aY rows i).kd≠3;omega);have w:((t.aA.drop n).map cK).getD i (0,1)=cK (aq t.aA (n+i)):=by
   unfold aq;rw [U9,U9,VZ,XU,Vd (by omega)];rfl
  rw [w];have l: 0<=nv (aq t.aA (n+i)):=hb;have x:=YO.2 l;unfold cK;split
  .show ¬(nv (aq t.aA (n+i))).num < 0;omega
  .show ¬(0:Int) < 0;omega
 .rw [FU k rows _ g];refine ZN ?_ (B.aD k a);exact dv λi _=>by rw [f];rfl
 .rw [LC rows _ g,j];refine ZN ?_ B.val.symm;exact dv λi _=>by rw [f];rfl
end
open Go Go.Aev Go.Aev.Gen Go.Aev.Wd Go.Aev.Tb
section
variable {n:Nat} {rows:List R} {gl:List Int} {t:TL}
theorem SE(h:bL n rows t){v:Nat}(aj:Int)(j:¬t.st.bN rows.length v):(jx n t v aj).map nv= (List.range n).map (t.st.dir rows.length v (aj:Rat)):=by
 have base:∀k,k < n->k≠v->nv (hJ t v aj k)=t.st.dir rows.length v (aj:Rat) k:=λk a l=>by
  by_cases hb:t.st.bN rows.length k
  .obtain⟨i,hi,e⟩:=hb;have g:i < (aI n rows).m:=hi;have d:=h.ln i k (by rw [<-e];exact jd (by rw [h.be.b];exact hi));have p:=oS h.ok (aj:Rat) g j;have f:t.st.dir rows.length v (aj:Rat) (t.st.af i)=t.st.c i v * (aj:Rat):=p;unfold hJ;rw [d,<-e,f];rfl
  .have d:cg k t.mp=none:=h.vE k λhm=>hb (by
    obtain⟨i,hi,e⟩:=WB hm;refine⟨i,by rw [<-h.be.b];exact hi, ?_⟩;show t.af.getD i 0=k;rw [U9,Vd hi];exact e)
   unfold hJ;rw [d,nC t.st (aj:Rat) l hb];rfl
 refine ZM (by unfold jx;split <;> simp) (λk h1 o=> ?_);have a:k < n:=by simpa using o
 rw [XR,XR,XF];by_cases e:k=v
 .subst e;rw [oT];unfold jx;simp only [if_pos a,List.getElem_set_self];rfl
 .rw [<-base k a e];unfold jx;split
  .rw [List.getElem_set_ne (λe'=>e e'.symm),XR,XF]
  .rw [XR,XF]
theorem Ti(go:ez n rows gl)(h:eA n rows gl t){v:Nat}(K:aV n rows t.val 1 t.aA 0=some v)(L:(bm n rows t v (nv (aq t.aA v)).num.sign).2.2=false)
  (a:je n rows v (iN (nv (aq t.aA v)).num.sign)=false) (M:cG (jx n t v (nv (aq t.aA v)).num.sign)=true):
  mq rows gl ((jx n t v (nv (aq t.aA v)).num.sign).map cK)=true:=by
 obtain⟨_,x,d,_,_⟩:=jo K;rw [Wq] at d;rw [VP,h.len] at x;have w:v < (aI n rows).n+ (aI n rows).m:=x;have l:¬t.st.bN rows.length v:=by rintro⟨i,hi,e⟩;have hz:nv (aq t.aA (t.st.af i))=0:=h.g.z i hi;rw [e] at hz;exact d hz
 have A:∀j,j < rows.length->¬iw n rows t v (nv (aq t.aA v)).num.sign j:=by
  rcases IX h.tok go.k2 a with⟨_,b⟩ | ⟨i,_,_,b,_⟩
  .exact b
  .rw [L] at b;cases b
 have B: 0 < nv (aq t.aA v) * (((nv (aq t.aA v)).num.sign:Int):Rat):=by
  have y:((1:Int):Rat)=1:=rfl;have o:((-1:Int):Rat)= -1:=rfl;rcases tB d with e | e
  .have:=(vR (nv (aq t.aA v))).1 (by omega);rw [e,y];grind
  .have h1:¬0 < nv (aq t.aA v):=λb=>by have:=(vR (nv (aq t.aA v))).2 b;omega
   rw [e,o];grind
 have G:=tB d;generalize N:(nv (aq t.aA v)).num.sign=aj at *
 have u:=Gc h.tok.ok (aj:Rat) l w;have s:=CN h.g (aj:Rat) w;rw [h.g.same _ u] at s;have I:(jx n t v aj).map nv= (List.range n).map (t.st.dir rows.length v (aj:Rat)):=SE h.tok aj l;have get:∀k,k < n->((List.range n).map (t.st.dir rows.length v (aj:Rat))).getD k 0=t.st.dir rows.length v (aj:Rat) k:=λk f=>by rw [U9,VZ,YF f];rfl
 unfold mq;rw [CB M,I];simp only [Ve,decide_eq_true_eq,Vu,VK];refine⟨?_, ?_⟩
 .rintro _ ⟨r,q,rfl⟩;obtain⟨i,hi,e⟩:=WB q;have er:aY rows i=r:=by unfold aY;rw [U9,Vd hi];exact e
  have J:bh r.of ((List.range n).map (t.st.dir rows.length v (aj:Rat)))=t.st.dir rows.length v (aj:Rat) (n+i):=by rw [oU r.of _ (by simpa using go.ro.len r q),W9,X0];refine ZN ?_ (u i hi).symm;exact dv λk f=>by rw [get k f,<-er];rfl
  have key:t.st.dir rows.length v (aj:Rat) (n+i)<=0/\(r.kd=3->t.st.dir rows.length v (aj:Rat) (n+i)=0):=by
   by_cases ev:n+i=v
   .rw [ev,oT];unfold je at a;have H:nv (iN aj)= (aj:Rat):=rfl;rw [H] at a;have y:((1:Int):Rat)=1:=rfl;have o:((-1:Int):Rat)= -1:=rfl;rcases G with e' | e'
    .rw [e',y,if_neg (by grind)] at a;have:¬v < n:=by omega
     simp [this] at a
    .rw [e',o,if_pos (by grind)] at a;rw [e',o];refine⟨by grind,λC=> ?_⟩;have:fi n rows v=true:=l9.2 ⟨by omega,by rw [<-ev,VL];show(aY rows i).kd=3;rw [er];exact C⟩;rw [this] at a;cases a
   .by_cases hb:t.st.bN rows.length (n+i)
    .obtain⟨j,F,D⟩:=hb;have E:t.st.dir rows.length v (aj:Rat) (t.st.af j)=t.st.c j v * (aj:Rat):=oS h.tok.ok (aj:Rat) (j:=j) F l;rw [<-D,E];have p:=A j F;unfold iw at p;have e3:(aI n rows).kd (t.st.af j - n)=r.kd:=by
      rw [D];show(aY rows (n+i - n)).kd=_;rw [VL,er]
     rw [e3] at p;have h1:¬0 < t.st.c j v * (aj:Rat):=λb=>p ⟨by omega, .inl b⟩;refine⟨by grind,λC=> ?_⟩;have O:¬t.st.c j v * (aj:Rat) < 0:=λb=>p ⟨by omega, .inr ⟨b,C⟩⟩;grind
    .rw [nC t.st (aj:Rat) ev hb];exact⟨WQ,λ_=>rfl⟩
  show fC (iu r) (bh r.of _)=true;rw [J];unfold fC iu;have z:((0:Int):Rat)=0:=rfl;simp only [z];rcases go.ro.kd r q with k | k | k
  .rw [if_pos k];exact decide_eq_true key.1
  .exact absurd k (go.k2 r q)
  .rw [if_neg (by omega),if_neg (by omega)];exact decide_eq_true (key.2 k)
 .rw [oU gl _ (by simpa using go.gl),W9,X0];have:sm n (λk=>((gl.getD k 0:Int):Rat) * ((List.range n).map (t.st.dir rows.length v (aj:Rat))).getD k 0)=nv (aq t.aA v) * (aj:Rat):=by
   refine ZN ?_ s;exact dv λk f=>by rw [get k f];rfl
  rw [this];exact B
end
open Go Go.Aev Go.Aev.Gen Go.Aev.Wd Go.Aev.Tb
theorem DV{n j:Nat}{s:Nm}:∀(xs:List Nm) (v:Nat) (a:List Nm),(∀u,v<=u->u < n->nv (aq xs (u - v))=0)->j < a.length->
  nv (aq (gm n s xs v a) j)=if v<=n+j/\nv (aq xs (n+j - v))≠0 then -(nv (aq xs (n+j - v)) * nv s) else nv (aq a j)
 | [],v,a,_,_=>by have h:nv (aq [] (n+j - v))=0:=rfl;rw [gm,if_neg (λb=>b.2 h)]
 | x::xs,v,a,hz,i=>by
  have g:∀u,v+1<=u->u < n->nv (aq xs (u - (v+1)))=0:=λu h1 c=>by have:=hz u (by omega) c;obtain⟨k,rfl⟩:∃k,u=v+1+k:=⟨u - (v+1),by omega⟩;rw [show v+1+k - v=k+1 by omega] at this;rw [show v+1+k - (v+1)=k by omega];exact this
  have tail:v+1<=n+j->aq (x::xs) (n+j - v)=aq xs (n+j - (v+1)):=λh=>by rw [show n+j - v= (n+j - (v+1))+1 by omega];rfl
  by_cases f:nv x=0
  .rw [gm,if_pos f,DV xs (v+1) a g i];by_cases h1:v+1<=n+j
   .rw [tail h1];simp only [h1,show v<=n+j by omega,true_and]
   .rw [if_neg (λb=>h1 b.1)];by_cases c:v<=n+j
    .have e:n+j - v=0:=by omega
     rw [e,if_neg (λb=>b.2 f)]
    .rw [if_neg (λb=>c b.1)]
  .have o:n<=v:=Xg λb=>f (by have:=hz v (Vq v) b;rw [XW] at this;exact this);rw [gm,if_neg f,DV xs (v+1) _ g (by rw [Wa];exact i)];by_cases h1:v+1<=n+j
   .have d:v - n≠j:=by omega
    have e2:aq (a.set (v - n) (ng (tm x s))) j=aq a j:=by unfold aq;rw [U9,U9,Yz d]
    rw [tail h1,e2];simp only [h1,show v<=n+j by omega,true_and]
   .rw [if_neg (λb=>h1 b.1)];by_cases c:v<=n+j
    .have e:n+j - v=0:=by omega
     have m:v - n=j:=by omega
     have l:nv (aq (x::xs) 0)≠0:=f;rw [e,if_pos ⟨c,l⟩,m];have e2:aq (a.set j (ng (tm x s))) j=ng (tm x s):=by unfold aq;rw [U9,List.getElem?_set_self i];rfl
     rw [e2];rfl
    .rw [if_neg (λb=>c b.1)];have d:v - n≠j:=by omega
     unfold aq;rw [U9,U9,Yz d]
section
variable {n:Nat} {rows:List R} {t:TL}
theorem Sg(h:bL n rows t)(k2:∀r∈rows,r.kd≠2){i:Nat}(hi:i < rows.length)(hb:(aI n rows).fV t.st (t.st.af i))(q:aV n rows t.val (bB n rows t (t.st.af i)) (ay t.ak i) 0=none):
  (aI n rows).Ref ((aI n rows).mul t.st i)/\∀j,j < rows.length->nv (aq (iY n rows.length (bB n rows t (t.st.af i)) (t.st.af i) (ay t.ak i)) j)= (aI n rows).mul t.st i j:=by
 have e:∀u,t.st.c i u≠0->¬(aI n rows).Can t.st ((aI n rows).aj t.st (t.st.af i) * t.st.c i u) u:=λu d o=>by have a:=yV q u (Yk u) (by rw [Wq];exact d);rw [Wq] at a;rw [AD] at o;have b:=(uJ (n:=n) (rows:=rows) t (wO n rows t _) d (v:=u)).2 o;exact Bool.noConfusion (a.symm.trans b)
 have R:(aI n rows).Ref ((aI n rows).mul t.st i):=Si h.ok (λj f=>k2 _ (gN f)) (λv hv=>z0 h k2 hv) hi hb (λu _=>e u);refine⟨R,λj f=> ?_⟩;have s:n<=t.st.af i:=hb.1;have free:∀u,u < n->t.st.c i u=0:=λu g=>Xp λd=>e u d ⟨λ_=> .inl g,λ_=> .inl g⟩;have p:t.st.c i (t.st.af i)=0:=h.ok.wf.z i i hi hi;unfold iY;rw [DV (ay t.ak i) 0 _ (λu _ g=>free u g) (by simpa using f)];rw [Wq];have e0:nv (aq (ay t.ak i) (n+j))=t.st.c i (n+j):=rfl;have es:nv (iN (-(bB n rows t (t.st.af i))))= -((bB n rows t (t.st.af i):Int):Rat):=Rat.intCast_neg _;rw [e0,es];unfold Sy.mul;rw [AD];show _=if n+j=t.st.af i then _ else _ * t.st.c i (n+j);by_cases k:n+j=t.st.af i
 .rw [if_neg (λl=>l.2 (by rw [k];exact p)),if_pos k];have:aq ((List.replicate rows.length (none:Nm)).set (t.st.af i - n) (iN (-(bB n rows t (t.st.af i))))) j=iN (-(bB n rows t (t.st.af i))):=by
   rw [show t.st.af i - n=j by omega];unfold aq;rw [U9,List.getElem?_set_self (by simpa using f)];rfl
  rw [this];exact es
 .rw [if_neg k];by_cases m:t.st.c i (n+j)=0
  .rw [if_neg (λl=>l.2 m),m,Wz];have d:t.st.af i - n≠j:=by omega
   unfold aq;rw [U9,Yz d,Xc];split <;> rfl
  .rw [if_pos ⟨Yk _,m⟩];grind
end
open Go Go.Aev Go.Aev.Gen Go.Aev.Wd Go.Aev.Tb
section
variable {n:Nat} {rows:List R} {gl:List Int}
theorem P1:∀(p:Nat) (t:TL),bL n rows t->(cA n rows true p t).2.1=false->
  ∃s:Nat->TL,s 0=t/\(∀k,bL n rows (s k))/\∀k,k < p->∃i v,(aI n rows).Step (s k).st (s (k+1)).st i v:=by
 intro p;induction p with
 | zero=>intro t h _;exact⟨λ_=>t,rfl,λ_=>h,λk e=>absurd e (by omega)⟩
 | succ p g=>
  intro t h a;rcases mN h with⟨_,hb⟩ | ⟨i,hi,d,c,hb,f⟩
  .rw [mR true _ hb] at a;cases a
  .rw [o6 true p hb f] at a;cases b:aV n rows t.val (bB n rows t (t.st.af i)) (ay t.ak i) 0 with
   | none=>rw [b] at a;cases a
   | some v=>
    rw [b] at a;obtain⟨q,e2,_⟩:=jo b;obtain⟨j,k2⟩:=h.step true hi (v:=v) (by have:=h.be.row hi;omega) d b c;obtain⟨s,l,m,o⟩:=g _ j a;refine⟨λk=>match k with | 0=>t | k+1=>s k,rfl,λk=> ?_,λk e=> ?_⟩
    .cases k with
     | zero=>exact h
     | succ k=>exact m k
    .cases k with
     | zero=>exact⟨i,v,by show(aI n rows).Step t.st (s 0).st i v;rw [l];exact k2⟩
     | succ k=>exact o k (by omega)
theorem PX{p:Nat}{t:TL}(h:bL n rows t)(q:(n+rows.length) ^ n<=p):(cA n rows true p t).2.1=true:=by
 cases m:(cA n rows true p t).2.1 with
 | true=>rfl
 | false=>
  exfalso;obtain⟨s,_,g,o⟩:=P1 p t h m;have st:∀k,∃f:Nat×Nat,k < p->(aI n rows).Step (s k).st (s (k+1)).st f.1 f.2:=λk=>by
   by_cases e:k < p
   .obtain⟨i,v,hv⟩:=o k e;exact⟨(i,v),λ_=>hv⟩
   .exact⟨(0,0),λj=>absurd j e⟩
  have:=F1 (S:=aI n rows) (s:=λk=>(s k).st) (T:=p+1) (λk=>(g k).ok) (λa b d hb c=>
   MH (S:=aI n rows) (s:=λk=>(s k).st) (ii:=λk=>(st k).choose.1) (ee:=λk=>(st k).choose.2) d (λk=>(g k).ok) (λk _ l=>(st k).choose_spec (by omega)) c)
  have l:p+1<=(n+rows.length) ^ n:=this;omega
theorem Q9(go:ez n rows gl):∀(p:Nat) (t:TL),eA n rows gl t->(cS n rows p t).2.2.1=false->
  ∃s:Nat->TL,s 0=t/\(∀k,eA n rows gl (s k))/\∀k,k < p->∃i v,(aI n rows).kR (s k).st (λu=>nv (aq (s k).aA u)) (s (k+1)).st i v:=by
 intro p;induction p with
 | zero=>intro t h _;exact⟨λ_=>t,rfl,λ_=>h,λk d=>absurd d (by omega)⟩
 | succ p e=>
  intro t h a;cases b:aV n rows t.val 1 t.aA 0 with
  | none=>rw [kB _ b] at a;cases a
  | some v=>
   cases c:(bm n rows t v (nv (aq t.aA v)).num.sign).2.2
   .rw [nQ p b c] at a;cases a
   .rw [nR p b c] at a;obtain⟨f,i,k2⟩:=h.step go b c;obtain⟨s,g,j,l⟩:=e _ f a;refine⟨λk=>match k with | 0=>t | k+1=>s k,rfl,λk=> ?_,λk d=> ?_⟩
    .cases k with
     | zero=>exact h
     | succ k=>exact j k
    .cases k with
     | zero=>exact⟨i,v,by show(aI n rows).kR t.st _ (s 0).st i v;rw [g];exact k2⟩
     | succ k=>exact l k (by omega)
theorem Q6(go:ez n rows gl){p:Nat}{t:TL}(h:eA n rows gl t)(r:(n+rows.length) ^ n<=p):(cS n rows p t).2.2.1=true:=by
 cases o:(cS n rows p t).2.2.1 with
 | true=>rfl
 | false=>
  exfalso;obtain⟨s,_,d,q⟩:=Q9 go p t h o;have st:∀k,∃j:Nat×Nat,k < p->(aI n rows).kR (s k).st (λu=>nv (aq (s k).aA u)) (s (k+1)).st j.1 j.2:=λk=>by
   by_cases f:k < p
   .obtain⟨i,v,hv⟩:=q k f;exact⟨(i,v),λ_=>hv⟩
   .exact⟨(0,0),λl=>absurd l f⟩
  have:=F1 (S:=aI n rows) (s:=λk=>(s k).st) (T:=p+1) (λk=>(d k).tok.ok) (λa b e hb c=>
   MI (S:=aI n rows) (G:=gR gl) (s:=λk=>(s k).st) (g:=λk u=>nv (aq (s k).aA u)) (ii:=λk=>(st k).choose.1) (ee:=λk=>(st k).choose.2) e (λk=>(d k).tok.ok) (λk=>(d k).fe) (λk=>(d k).g)
    (λk _ m=>(st k).choose_spec (by omega)) c)
  have m:p+1<=(n+rows.length) ^ n:=this;omega
end
open Go Go.Aev Go.Aev.Gen Go.Aev.Wd Go.Aev.Tb
section
variable {n:Nat} {rows:List R} {gl:List Int}
theorem Jh(go:ez n rows gl):∀(p:Nat) (t:TL) (l:List Nm),eA n rows gl t->(cS n rows p t).1=some l->
  eA n rows gl (cS n rows p t).2.2.2/\aV n rows (cS n rows p t).2.2.2.val 1 (cS n rows p t).2.2.2.aA 0=none/\l= (cS n rows p t).2.2.2.aA.drop n:=by
 intro p;induction p with
 | zero=>
  intro t l h a;cases b:aV n rows t.val 1 t.aA 0 with
  | none=>rw [kB 0 b] at a⊢;exact⟨h,b,(VR a).symm⟩
  | some v=>rw [pg b] at a;cases a
 | succ p d=>
  intro t l h a;cases b:aV n rows t.val 1 t.aA 0 with
  | none=>rw [kB _ b] at a⊢;exact⟨h,b,(VR a).symm⟩
  | some v=>
   cases c:(bm n rows t v (nv (aq t.aA v)).num.sign).2.2
   .rw [nQ p b c] at a;cases a
   .rw [nR p b c] at a⊢;exact d _ l (h.step go b c).1 a
theorem Q8(go:ez n rows gl):∀(p:Nat) (t:TL) (l:List Nm),eA n rows gl t->(cS n rows p t).2.1=some l->cG l=true->
  eA n rows gl (cS n rows p t).2.2.2/\mq rows gl (l.map cK)=true:=by
 intro p;induction p with
 | zero=>
  intro t l h a e;cases b:aV n rows t.val 1 t.aA 0 with
  | none=>rw [kB 0 b] at a;cases a
  | some v=>rw [pg b] at a;cases a
 | succ p f=>
  intro t l h a e;cases b:aV n rows t.val 1 t.aA 0 with
  | none=>rw [kB _ b] at a;cases a
  | some v=>
   cases c:(bm n rows t v (nv (aq t.aA v)).num.sign).2.2
   .rw [nQ p b c] at a⊢;obtain rfl:=VR a;obtain⟨_,e2,e3,d,_⟩:=jo b;rw [Wq] at e3 d;rw [Ww] at d;rw [VP,h.len] at e2;exact⟨h,Ti go h b c (h.self go e2 e3 d) e⟩
   .rw [nR p b c] at a⊢;exact f _ l (h.step go b c).1 a e
theorem P0(k2:∀r∈rows,r.kd≠2):∀(p:Nat) (t:TL) (l:List Nm),bL n rows t->(cA n rows true p t).1=some l->
  ∃T,(aI n rows).Ref T/\∀j,j < rows.length->nv (aq l j)=T j:=by
 intro p;induction p with
 | zero=>
  intro t l h a;rcases mN h with⟨_,hb⟩ | ⟨i,hi,b,d,hb,f⟩
  .rw [mR true _ hb] at a;cases a
  .rw [qI true hb] at a;cases a
 | succ p g=>
  intro t l h a;rcases mN h with⟨_,hb⟩ | ⟨i,hi,b,d,hb,f⟩
  .rw [mR true _ hb] at a;cases a
  .rw [o6 true p hb f] at a;cases c:aV n rows t.val (bB n rows t (t.st.af i)) (ay t.ak i) 0 with
   | none=>rw [c] at a;obtain rfl:=VR a;obtain⟨R,e⟩:=Sg h k2 hi b c;exact⟨_,R,e⟩
   | some v=>rw [c] at a;obtain⟨m,e2,_⟩:=jo c;obtain⟨k,_⟩:=h.step true hi (v:=v) (by have:=h.be.row hi;omega) b c d;exact g _ l k a
theorem PO{x:Nm}(h:cZ (nv x)=true):bI (cK x):=by unfold cK;rw [if_pos h];exact(zb _).2 h
theorem Gd(go:ez n rows gl)(p:Nat):iB n rows gl p=CQ\/iB n rows gl p=pf\/
  (∃(v:Fr) (pl d:List Nm),iB n rows gl p= [ti 1,ti v.1,ti v.2,lF pl,lF d,ti 0,ti 0]/\bI v/\pl.length=n/\d.length=rows.length/\cG pl=true/\cG d=true/\iJ n rows gl v (pl.map cK) (d.map cK)=true)\/
  (∃(d:List Nm) (s:Nat->Rat),iB n rows gl p= [ti 2,ti 0,ti 0,T.aK true,lF d,ti 0,ti 0]/\d.length=rows.length/\cG d=true/\(aI n rows).Ref s/\∀j,j < rows.length->nv (aq d j)=s j)\/
  ∃(pl:List Nm) (t:TL),iB n rows gl p= [ti 3,ti 0,ti 0,lF pl,T.aK true,ti 0,ti 0]/\pl.length=n/\cG pl=true/\mq rows gl (pl.map cK)=true/\eA n rows gl t:=by
 have ro:=go.ro;have c:=Dp ro;have o:=Io ro p (eG n rows) c;have g:=CF ro p c;have k:=CE ro p (eG n rows) c;have q:=λl=>P0 go.k2 p (eG n rows) l c;unfold iB;generalize cA n rows true p (eG n rows)=r1 at o g k q⊢;obtain⟨no,done,B⟩:=r1;simp only at o g k q;cases done with
 | false=>exact .inl rfl
 | true=>
  cases no with
  | some l=>
   simp only;by_cases a:cG l=true
   .rw [if_pos a];obtain⟨s,R,e⟩:=q l rfl;exact .inr (.inr (.inr (.inl ⟨l,s,rfl,(o l rfl).1,a,R,e⟩)))
   .rw [if_neg a];exact .inr (.inl rfl)
  | none=>
   have x:=zl g (Cw g go.k2 (k rfl rfl)) go.gl;have f:=Jf go p _ x;have i:=Dl (n:=n) (rows:=rows) p (qK n rows gl B);have m:=λl=>Jh go p _ l x;have r:=λl=>Q8 go p _ l x;simp only;generalize cS n rows p (qK n rows gl B)=D at f i m r⊢;obtain⟨h,A,u,b⟩:=D;simp only at f i m r;cases u with
   | false=>exact .inl (by cases h <;> cases A <;> rfl)
   | true=>
    cases A with
    | some l=>
     have hm:pd n rows gl (h,some l,true,b)=if cG l=true then [ti 3,ti 0,ti 0,lF l,T.aK true,ti 0,ti 0] else pf:=by cases h <;> rfl
     rw [hm];by_cases a:cG l=true
     .rw [if_pos a];obtain⟨w,k2⟩:=r l rfl a;exact .inr (.inr (.inr (.inr ⟨l,b,rfl,(f.2 l rfl).1,a,k2,w⟩)))
     .rw [if_neg a];exact .inr (.inl rfl)
    | none=>
     cases h with
     | none=>exact(i rfl rfl rfl).elim
     | some l=>
      obtain⟨w,k2,C⟩:=m l rfl
      have hm:pd n rows gl (some l,none,true,b)=if(cZ (eY gl (bU n rows b.val)) && cG (bU n rows b.val) && cG l)=true then
        [ti 1,ti (eY gl (bU n rows b.val)).num,ti ((eY gl (bU n rows b.val)).den:Int),lF (bU n rows b.val),lF l,ti 0,ti 0] else pf:=rfl
      rw [hm];by_cases a:(cZ (eY gl (bU n rows b.val)) && cG (bU n rows b.val) && cG l)=true
      .rw [if_pos a];simp only [Ve] at a;obtain⟨⟨h1,y⟩,z⟩:=a;refine .inr (.inr (.inl ⟨_,bU n rows b.val,l,rfl,(zb _).2 h1, ?_,(f.1 l rfl).1,y,z, ?_⟩))
       .have:=w.tok.be.v;unfold bU;simp;omega
       .subst C;exact Th go w k2 y z h1
      .rw [if_neg a];exact .inr (.inl rfl)
end
open Go Go.Aev Go.Aev.Gen Go.Aev.Wd Go.Aev.Tb
structure kQ (n:Nat) (rows:List R):Prop where
 n:n<=3
 m:rows.length<=8
 of:∀r∈rows,∀c∈r.of, -9<=c/\c<=9
 tv:∀r∈rows, -9<=r.tv/\r.tv<=9
theorem H9{B:Nat}{D q:Rat}(i:B<=1073741824)(e:D≠0)(h1:aU B D)(f:aU B (D * q)):cZ q=true:=by
 obtain⟨d,c,j⟩:=h1;obtain⟨u,e2,k⟩:=f;have g:d≠0:=λh=>e (by rw [c,h];rfl);have:q=Rat.divInt u d:=by rw [YQ,<-e2,<-c,Wv];have:=Yf _ e;grind
 obtain⟨a,b⟩:=yG (u:=u) g;rw [<-this] at a b;unfold cZ;rw [decide_eq_true_iff];omega
theorem uF{l:List Nm}{B:Nat}{D:Rat}(a:B<=1073741824)(b:D≠0)(h1:aU B D)(h:∀y∈l,aU B (D * nv y)):cG l=true:=Vu.2 λy hy=>H9 a b h1 (h y hy)
section
variable {n:Nat} {rows:List R} {gl:List Int}
theorem M7(s:kQ n rows)(i k:Nat)(hi:i < rows.length):aU 9 ((aI n rows).A i k):=by
 refine aU.int ?_;by_cases a:k < (aY rows i).of.length
 .have:=s.of _ (gN hi) ((aY rows i).of.getD k 0) (by
   rw [U9,Vd a];exact WT a)
  omega
 .rw [U9,Wc (by omega)];decide
theorem MB{n:Nat}(h:n<=3):bd 9 n<=4374:=VO (BA (by decide) h) (by decide)
theorem wD{t:TL}(s:kQ n rows)(h:bL n rows t):∃D:Rat,D≠0/\aU 4374 D/\
  (∀i v,i < rows.length->v < n+rows.length->aU 4374 (D * nv (aq (ay t.ak i) v)))/\
  (∀(g G:Nat->Rat),(∀j,j < rows.length->g (t.st.af j)=0)->(∀k,k < n->aU 9 (G k))->
   (∀y,eW n rows.length (aI n rows).A y->sm (n+rows.length) (λk=>g k * y k)=sm n (λk=>G k * y k))->∀v,v < n+rows.length->aU 4374 (D * g v)):=by
 obtain⟨D,h1,d,e,f⟩:=h.ok.wf.den (K:=9) (by decide) (λi k hi _=>M7 s i k hi);have hb:=MB s.n;exact⟨D,h1,d.mono hb,λi v hi hv=>(e i v hi hv).mono hb,λg G a b c v hv=>(f g G a b c v hv).mono hb⟩
theorem Tw{t:TL}{D:Rat}(h:bL n rows t)(a:∀i v,i < rows.length->v < n+rows.length->aU 4374 (D * nv (aq (ay t.ak i) v))){i:Nat}(hi:i < rows.length):∀y∈ay t.ak i,aU 4374 (D * nv y):=by
 intro y hy;obtain⟨k,b,e2⟩:=WB hy;have d:=h.be.row hi;have c:aq (ay t.ak i) k=y:=by unfold aq;rw [U9,Vd b];exact e2
 have:=a i k hi (by omega);rwa [c] at this
theorem I9{D:Rat}{B:Nat}{x:Nm}(h:aU B (D * nv x)){w:Int}(a:w=1\/w= -1):aU B (D * nv (tm x (iN w))):=by
 rw [JR,JQ];rcases a with rfl | rfl
 .have:D * (nv x * ((1:Int):Rat))=D * nv x:=by have e:((1:Int):Rat)=1:=rfl;rw [e];grind
  rw [this];exact h
 .have:D * (nv x * ((-1:Int):Rat))= -(D * nv x):=by have e:((-1:Int):Rat)= -1:=rfl;rw [e];grind
  rw [this];exact h.neg
theorem JU{D:Rat}{B:Nat}(h:aU B D){w:Int}(a:w=1\/w= -1):aU B (D * nv (iN w)):=by
 rw [JQ];rcases a with rfl | rfl
 .have:D * ((1:Int):Rat)=D:=by have e:((1:Int):Rat)=1:=rfl;rw [e];grind
  rw [this];exact h
 .have:D * ((-1:Int):Rat)= -D:=by have e:((-1:Int):Rat)= -1:=rfl;rw [e];grind
  rw [this];exact h.neg
theorem JJ(D:Rat)(B:Nat):aU B (D * nv none):=by rw [tc,Wz];exact aU.zero _
theorem Sj{m:Nat}{aj:Int}(k:aj=1\/aj= -1)(b:Nat){row:List Nm}{D:Rat}{B:Nat}(i:aU B D)(j:∀x∈row,aU B (D * nv x)):∀y∈iY n m aj b row,aU B (D * nv y):=by
 have d: -aj=1\/ -aj= -1:=by omega
 have f:∀(xs:List Nm) (v:Nat) (a:List Nm),(∀x∈xs,aU B (D * nv x))->(∀y∈a,aU B (D * nv y))->∀y∈gm n (iN (-aj)) xs v a,aU B (D * nv y):=by
  intro xs;induction xs with
  | nil=>intro v a _ c;exact c
  | cons x xs g=>
   intro v a e c;rw [gm];split
   .exact g _ _ (λx h=>e x (Vc _ h)) c
   .refine g _ _ (λx h=>e x (Vc _ h)) (λy hy=> ?_);rcases VM hy with hy | hy
    .exact c y hy
    .subst hy;have:=(I9 (e x Vb) d).neg;rw [RH,Rat.mul_neg];exact this
 refine f row 0 _ j (λy hy=> ?_);rcases VM hy with hy | hy
 .rw [WD hy];exact JJ _ _
 .subst hy;exact JU i d
theorem PY(s:kQ n rows):∀(p:Nat) (t:TL) (l:List Nm),bL n rows t->(cA n rows true p t).1=some l->cG l=true:=by
 intro p;induction p with
 | zero=>
  intro t l h a;rcases mN h with⟨_,hb⟩ | ⟨i,hi,d,b,hb,f⟩
  .rw [mR true _ hb] at a;cases a
  .rw [qI true hb] at a;cases a
 | succ p j=>
  intro t l h a;rcases mN h with⟨_,hb⟩ | ⟨i,hi,d,b,hb,f⟩
  .rw [mR true _ hb] at a;cases a
  .rw [o6 true p hb f] at a;cases c:aV n rows t.val (bB n rows t (t.st.af i)) (ay t.ak i) 0 with
   | none=>rw [c] at a;obtain rfl:=VR a;obtain⟨D,h1,e,g,_⟩:=wD s h;exact uF (by decide) h1 e (Sj (wO n rows t _) _ e (Tw h g hi))
   | some v=>rw [c] at a;obtain⟨m,e2,_⟩:=jo c;obtain⟨k,_⟩:=h.step true hi (v:=v) (by have:=h.be.row hi;omega) d c b;exact j _ l k a
theorem Q7(go:ez n rows gl)(s:kQ n rows)(q:∀c∈gl, -9<=c/\c<=9):∀(p:Nat) (t:TL),eA n rows gl t->
  (∀l,(cS n rows p t).1=some l->cG l=true)/\(∀l,(cS n rows p t).2.1=some l->cG l=true):=by
 intro p;induction p with
 | zero=>
  intro t h;cases b:aV n rows t.val 1 t.aA 0 with
  | some v=>rw [pg b];exact⟨(λl a=>by cases a),(λl a=>by cases a)⟩
  | none=>
   rw [kB _ b];refine⟨λl a=> ?_,(λl a=>by cases a)⟩;obtain rfl:=VR a;obtain⟨D,h1,d,_,j⟩:=wD s h.tok;refine uF (by decide) h1 d λy hy=> ?_;obtain⟨v,hv,e⟩:=WB (W1 hy);have o:aq t.aA v=y:=by unfold aq;rw [U9,Vd hv];exact e
   have:=j (λv=>nv (aq t.aA v)) (gR gl) h.g.z (λk _=>aU.int (by
    by_cases f:k < gl.length
    .have:=q (gl.getD k 0) (by rw [U9,Vd f];exact WT f);omega
    .rw [U9,Wc (by omega)];decide)) h.g.same v (by rw [<-h.len];exact hv)
   rwa [o] at this
 | succ p w=>
  intro t h;cases b:aV n rows t.val 1 t.aA 0 with
  | none=>
   rw [kB _ b];refine⟨λl a=> ?_,(λl a=>by cases a)⟩;obtain rfl:=VR a;obtain⟨D,h1,d,_,j⟩:=wD s h.tok;refine uF (by decide) h1 d λy hy=> ?_;obtain⟨v,hv,e⟩:=WB (W1 hy);have o:aq t.aA v=y:=by unfold aq;rw [U9,Vd hv];exact e
   have:=j (λv=>nv (aq t.aA v)) (gR gl) h.g.z (λk _=>aU.int (by
    by_cases f:k < gl.length
    .have:=q (gl.getD k 0) (by rw [U9,Vd f];exact WT f);omega
    .rw [U9,Wc (by omega)];decide)) h.g.same v (by rw [<-h.len];exact hv)
   rwa [o] at this
  | some v=>
   cases m:(bm n rows t v (nv (aq t.aA v)).num.sign).2.2
   .rw [nQ p b m];refine⟨(λl a=>by cases a),λl a=> ?_⟩;obtain rfl:=VR a;obtain⟨_,e2,e3,_,_⟩:=jo b;rw [Wq] at e3;rw [VP,h.len] at e2;have r:=tB e3;obtain⟨D,h1,d,u,_⟩:=wD s h.tok;refine uF (by decide) h1 d ?_;have base:∀y∈(List.range n).map (hJ t v (nv (aq t.aA v)).num.sign),aU 4374 (D * nv y):=by
     intro y hy;obtain⟨k,_,rfl⟩:=VK.1 hy;unfold hJ;cases a:cg k t.mp with
     | none=>exact JJ _ _
     | some i=>exact I9 (u i v (h.tok.sT a) e2) r
    unfold jx;split
    .intro y hy;rcases VM hy with hy | hy
     .exact base y hy
     .subst hy;exact JU d r
    .exact base
   .rw [nR p b m];exact w _ (h.step go b m).1
theorem Ld{t:TL}(s:kQ n rows)(h:bL n rows t){D:Rat}(l:aU 4374 D)
  (o:∀i v,i < rows.length->v < n+rows.length->aU 4374 (D * nv (aq (ay t.ak i) v))) {v:Nat} (hv:v < n+rows.length):aU 433026 (D * t.st.y v):=by
 have p:=s.n;have hm:=s.m;have f:∀v,v < n+rows.length->(∀i,i < rows.length->t.st.af i≠v)->aU 9 (t.st.y v):=λv hv hb=>by
  have:=congrArg Prod.fst (h.ok.fix v hv hb);show aU _ (t.st.val v).1;rw [this];unfold Sy.fx;show aU 9 (if v < n then(0,0) else(aI n rows).up v:Rat×Rat).1;by_cases h:v < n
  .rw [if_pos h];exact aU.zero _
  .rw [if_neg h];have:=s.tv _ (gN (rows:=rows) (i:=v - n) (by omega));exact aU.int (z:=(aY rows (v - n)).tv) (by omega)
 by_cases hb:∃i,i < rows.length/\t.st.af i=v
 .obtain⟨i,hi,e⟩:=hb;have:=(h.ok.wf.same t.st.y).2 h.ok.hy i hi;rw [<-e,this,<-pK];have hs:aU ((n+rows.length) * (4374 * 9)) (sm (n+rows.length) (λk=>D * (t.st.c i k * t.st.y k))):=by
   refine wE (λk g=> ?_);by_cases d:∃j,j < rows.length/\t.st.af j=k
   .obtain⟨j,b,e'⟩:=d;rw [<-e',h.ok.wf.z i j hi b,V8,Wz];exact aU.zero _
   .have a:=(o i k hi g).mul (f k g (λj b e'=>d ⟨j,b,e'⟩));rw [<-Rat.mul_assoc];exact a
  exact hs.mono (by omega)
 .have a:=l.mul (f v hv (λj b e'=>hb ⟨j,b,e'⟩));exact a.mono (by decide)
theorem RX{t:TL}(s:kQ n rows)(h:bL n rows t)(k2:∀r∈rows,r.kd≠2):cG (bU n rows t.val)=true/\(gl.length<=n->(∀c∈gl, -9<=c/\c<=9)->cZ (eY gl (bU n rows t.val))=true):=by
 obtain⟨D,h1,f,i,_⟩:=wD s h;have o:=h.be.v;have g:(bU n rows t.val).map nv= (List.range n).map t.st.y:=by
  refine ZM (by unfold bU;simp;omega) (λk p j=> ?_);have d:k < n:=by simpa using j
  have hz:=z0 h k2 (v:=k) (by omega);unfold bU;simp only [XV,XR,List.getElem_take,XF];have e:t.val[k]'(by omega)=aJ t.val k:=by unfold aJ;rw [U9,Vd (by omega)];rfl
  show nv (gK _ (t.val[k]'(by omega)))=_;rw [e];exact Bw _ _ hz
 refine⟨?_,λm l=> ?_⟩
 .refine uF (B:=433026) (by decide) h1 (f.mono (by decide)) λy hy=> ?_;have:nv y∈(List.range n).map t.st.y:=by rw [<-g];exact List.mem_map_of_mem hy
  obtain⟨k,d,e⟩:=VK.1 this;rw [<-e];exact Ld s h f i (by have:=Xi.1 d;omega)
 .refine H9 (B:=3 * (9 * 433026)) (by decide) h1 (f.mono (by decide)) ?_;unfold eY;rw [g,oU gl _ (by simpa using m),W9,X0,<-pK];have hs:aU (n * (9 * 433026)) (sm n (λk=>D * (((gl.getD k 0:Int):Rat) * ((List.range n).map t.st.y).getD k 0))):=by
   refine wE (λk d=> ?_);rw [AF k d];have a:aU 9 ((gl.getD k 0:Int):Rat):=aU.int (by
    by_cases d:k < gl.length
    .have:=l (gl.getD k 0) (by rw [U9,Vd d];exact WT d);omega
    .rw [U9,Wc (by omega)];decide)
   have b:=a.mul (Ld s h f i (v:=k) (by omega));have e:D * (((gl.getD k 0:Int):Rat) * t.st.y k)= ((gl.getD k 0:Int):Rat) * (D * t.st.y k):=by grind
   rw [e];exact b
  exact hs.mono (V5 _ s.n)
theorem J9(s:kQ n rows):(n+rows.length) ^ n<=2000:=by have h1:(n+rows.length) ^ n<=11 ^ n:=Nat.pow_le_pow_left (by have:=s.n;have:=s.m;omega) n;have a: 11 ^ n<=11 ^ 3:=Xt (by decide) s.n;exact VO h1 (VO a (by decide))
theorem qy(go:ez n rows gl)(s:kQ n rows)(y:∀c∈gl, -9<=c/\c<=9):
  (∃(v:Fr) (pl d:List Nm),iB n rows gl 2000= [ti 1,ti v.1,ti v.2,lF pl,lF d,ti 0,ti 0]/\bI v/\pl.length=n/\d.length=rows.length/\cG pl=true/\cG d=true/\iJ n rows gl v (pl.map cK) (d.map cK)=true)\/
  (∃(d:List Nm) (u:Nat->Rat),iB n rows gl 2000= [ti 2,ti 0,ti 0,T.aK true,lF d,ti 0,ti 0]/\(aI n rows).Ref u)\/
  ∃(pl:List Nm) (t:TL),iB n rows gl 2000= [ti 3,ti 0,ti 0,lF pl,T.aK true,ti 0,ti 0]/\pl.length=n/\cG pl=true/\mq rows gl (pl.map cK)=true/\eA n rows gl t:=by
 have key:∃s:Int,(iB n rows gl 2000).head? =some (ti s)/\(s=1\/s=2\/s=3):=by
  have ro:=go.ro;have a:=Dp ro;have g:=CF ro 2000 a;have m:=CE ro 2000 (eG n rows) a;have j:=PX a (J9 s);have i:=λl=>PY s 2000 (eG n rows) l a;unfold iB;generalize cA n rows true 2000 (eG n rows)=r1 at g m j i⊢;obtain⟨no,done,z⟩:=r1;simp only at g m j i;subst j;cases no with
  | some l=>simp only;rw [if_pos (i l rfl)];exact⟨2,rfl, .inr (.inl rfl)⟩
  | none=>
   have w:=zl g (Cw g go.k2 (m rfl rfl)) go.gl;have k:=Dl (n:=n) (rows:=rows) 2000 (qK n rows gl z);have p:=λl=>Jh go 2000 _ l w;have uU:=Q6 go w (J9 s);have f:=Q7 go s y 2000 _ w;simp only;generalize cS n rows 2000 (qK n rows gl z)=F at k p uU f⊢;obtain⟨q,G,A,b⟩:=F;simp only at k p uU f;subst uU;cases G with
   | some l=>
    have hm:pd n rows gl (q,some l,true,b)=if cG l=true then [ti 3,ti 0,ti 0,lF l,T.aK true,ti 0,ti 0] else pf:=by cases q <;> rfl
    rw [hm,if_pos (f.2 l rfl)];exact⟨3,rfl, .inr (.inr rfl)⟩
   | none=>
    cases q with
    | none=>exact(k rfl rfl rfl).elim
    | some l=>
     obtain⟨E,_,_⟩:=p l rfl;obtain⟨B,C⟩:=RX (gl:=gl) s E.tok go.k2;have D:(cZ (eY gl (bU n rows b.val)) && cG (bU n rows b.val) && cG l)=true:=by rw [B,C go.gl y,f.1 l rfl];rfl
     have hm:pd n rows gl (some l,none,true,b)=if(cZ (eY gl (bU n rows b.val)) && cG (bU n rows b.val) && cG l)=true then
       [ti 1,ti (eY gl (bU n rows b.val)).num,ti ((eY gl (bU n rows b.val)).den:Int),lF (bU n rows b.val),lF l,ti 0,ti 0] else pf:=rfl
     rw [hm,if_pos D];exact⟨1,rfl, .inl rfl⟩
 obtain⟨x,r,hs⟩:=key;rcases Gd go 2000 with e | e | h | ⟨d,u,e,_,_,R,_⟩ | h
 .rw [e] at r;have o:=VR r;have:x=4:=by injection o with _ h;exact h.symm
  omega
 .rw [e] at r;have o:=VR r;have:x=0:=by injection o with _ h;exact h.symm
  omega
 .exact .inl h
 .exact .inr (.inl ⟨d,u,e,R⟩)
 .exact .inr (.inr h)
end
open Go Go.Aev Go.Aev.Gen Go.Aev.Wd Go.Aev.Tb
def Pt(n:Nat)(rows:List R)(xs:List Rat):Prop:=xs.length=n/\∀r∈rows,fC r (bh r.of xs)=true
section
variable {n:Nat} {rows:List R} {gl:List Int}
theorem Sw{t:TL}(ro:fy n rows)(hy:eW n rows.length (aI n rows).A t.st.y){r:R}{i:Nat}(hi:i < rows.length)(er:aY rows i=r):bh r.of ((List.range n).map t.st.y)=t.st.y (n+i):=by have b:r∈rows:=er▸gN hi;rw [oU r.of _ (by simpa using ro.len r b),W9,X0];refine ZN ?_ (hy i hi).symm;exact dv λk a=>by rw [AF k a,<-er];rfl
theorem Qf(ro:fy n rows){r:R}(b:r∈rows)(k2:r.kd≠2){q:Rat}(h1:q<=(r.tv:Rat))(a:r.kd=3->q= (r.tv:Rat)):fC r q=true:=by
 unfold fC;rcases ro.kd r b with k | k | k
 .rw [if_pos k];exact decide_eq_true h1
 .exact absurd k k2
 .rw [if_neg (by omega),if_neg (by omega)];exact decide_eq_true (a k)
theorem DE(go:ez n rows gl){t:TL}(h:eA n rows gl t):Pt n rows ((List.range n).map t.st.y):=by
 refine⟨by simp,λr b=> ?_⟩;obtain⟨i,hi,e⟩:=WB b;have er:aY rows i=r:=by unfold aY;rw [U9,Vd hi];exact e
 have a:=h.fe (n+i) (XP n i) (Nat.add_lt_add_left hi n);have c:(aI n rows).to (n+i - (aI n rows).n)= (r.tv:Rat):=by show((aY rows (n+i - n)).tv:Rat)=_;rw [VL,er]
 have e2:(aI n rows).kd (n+i - (aI n rows).n)=r.kd:=by show(aY rows (n+i - n)).kd=_;rw [VL,er]
 rw [c,e2] at a;rw [Sw go.ro h.tok.ok.hy hi er];exact Qf go.ro b (go.k2 r b) a.1 a.2
theorem tf(ro:fy n rows)(k2:∀r∈rows,r.kd≠2){g:Nat->Rat}(R:(aI n rows).Ref g){xs:List Rat}(h:Pt n rows xs):False:=by
 let y:Nat->Rat:=λv=>if v < n then xs.getD v 0 else bh (aY rows (v - n)).of xs;have f:∀i,y (n+i)=bh (aY rows i).of xs:=λi=>by show(if n+i < n then _ else bh (aY rows (n+i - n)).of xs)=_;rw [if_neg (by omega),VL]
 refine Sh R (t:=⟨λ_=>0,λ_ _=>0,y,λ_=>0⟩) (λi hi=> ?_) (λv c d=> ?_)
 .have b:i < rows.length:=hi;show y (n+i)=_;rw [f,oU _ _ (by rw [h.1];exact ro.len _ (gN b)),h.1];exact dv λk j=>by
   show _=_ * (if k < n then xs.getD k 0 else _);rw [if_pos j];rfl
 .have l:n<=v:=c;have m:v < n+rows.length:=d;have hm:=gN (rows:=rows) (i:=v - n) (by omega);have a:=h.2 _ hm;have e:y v=bh (aY rows (v - n)).of xs:=if_neg (by omega);show y v<=((aY rows (v - n)).tv:Rat)/\((aY rows (v - n)).kd=3->y v= ((aY rows (v - n)).tv:Rat));rw [e];unfold fC at a;rcases ro.kd _ hm with k | k | k
  .rw [if_pos k,decide_eq_true_eq] at a;exact⟨a,λo=>by omega⟩
  .exact absurd k (k2 _ hm)
  .rw [if_neg (by omega),if_neg (by omega),decide_eq_true_eq] at a;exact⟨by rw [a];exact WQ,λ_=>a⟩
theorem L7(xs:List Rat):∀(a:List R) (ts:List Rat),oz (a.map iu) ts xs=oz a ts xs
 | [],ts=>by cases ts <;> rfl
 | r::a,[]=>rfl
 | r::a,t::ts=>by show t * bh r.of xs+oz (a.map iu) ts xs=t * bh r.of xs+oz a ts xs;rw [L7 xs a ts]
theorem LD:∀(a:List R) (ts:List Rat),jT (a.map iu) ts=0
 | [],ts=>by cases ts <;> rfl
 | r::a,[]=>rfl
 | r::a,t::ts=>by show((0:Int):Rat) * t+jT (a.map iu) ts=0;rw [LD a ts];have:((0:Int):Rat)=0:=rfl;rw [this];grind
theorem JE:∀(a:List R) (ts:List Fr),hH (a.map iu) ts=hH a ts
 | [],ts=>by cases ts <;> rfl
 | r::a,[]=>rfl
 | r::a,t::ts=>by show(!(decide (r.kd=1) && decide (t.1 < 0)) && hH (a.map iu) ts)= (!(decide (r.kd=1) && decide (t.1 < 0)) && hH a ts);rw [JE a ts]
theorem IL(go:ez n rows gl):∀r∈rows,r.kd=1\/r.kd=3:=λr a=>by have:=go.ro.kd r a;have:=go.k2 r a;omega
theorem K0(go:ez n rows gl){v:Fr}{p t:List Fr}(hs:iJ n rows gl v p t=true){xs:List Rat}(a:xs.length=n):bh gl xs=oz rows (t.map aW) xs:=by unfold iJ at hs;simp only [Ve,decide_eq_true_eq,Vu,Xi] at hs;obtain⟨⟨⟨⟨_,_⟩,_⟩,b⟩,_⟩:=hs;rw [<-FV rows (t.map aW) (by rw [a];exact go.ro.len),<-Gi (by rw [a];exact go.gl)];exact Gf _ 0 λj _ c=>(b j (by omega)).symm
theorem Ef(go:ez n rows gl){v:Fr}{p t:List Fr}(hs:iJ n rows gl v p t=true)(d:∀x∈t,bI x){xs:List Rat}(e:xs.length=n)(c:∀r∈rows.map iu,fC r (bh r.of xs)=true):bh gl xs<=0:=by rw [K0 go hs e,<-L7,<-LD rows (t.map aW)];have a:=hs;unfold iJ at a;simp only [Ve] at a;refine EI (rows.map iu) t (λr h=> ?_) c (by rw [JE];exact a.1.1.2) d;obtain⟨q,b,rfl⟩:=VK.1 h;exact IL go q b
theorem wu{v:Fr}{p t:List Fr}(hs:iJ n rows gl v p t=true)(a:p.length=n):Pt n rows (p.map aW)/\bh gl (p.map aW)=aW v:=by unfold iJ at hs;simp only [Ve,decide_eq_true_eq,Vu] at hs;exact⟨⟨by simpa using a,hs.1.1.1.1⟩,hs.1.1.1.2⟩
theorem DN{l:List Fr}(h:mq rows gl l=true):(∀r∈rows.map iu,fC r (bh r.of (l.map aW))=true)/\0 < bh gl (l.map aW):=by unfold mq at h;simp only [Ve,decide_eq_true_eq,Vu] at h;exact h
theorem EG(go:ez n rows gl){v:Fr}{p t:List Fr}(hs:iJ n rows gl v p t=true)(a:∀x∈t,bI x){xs:List Rat}(h:Pt n rows xs):bh gl xs<=aW v:=by rw [K0 go hs h.1];unfold iJ at hs;simp only [Ve,decide_eq_true_eq] at hs;rw [<-hs.2];exact EI rows t (IL go) h.2 hs.1.1.2 a
end
theorem r6{l:List Nm}(h:cG l=true):∀x∈l.map cK,bI x:=λx a=>by obtain⟨y,hy,rfl⟩:=VK.1 a;exact PO (Vu.1 h y hy)
def gv(gl:List Int):List Int:=gl.map λc=>2 * c
theorem uR:∀(gl:List Int) (xs:List Rat),bh (gv gl) xs=2 * bh gl xs
 | [],xs=>by show bh [] xs=_;rw [qz,Wz]
 | c::gl,[]=>by show(0:Rat)=2 * 0;rw [Wz]
 | c::gl,x::xs=>by show((2 * c:Int):Rat) * x+bh (gv gl) xs=2 * ((c:Rat) * x+bh gl xs);rw [uR gl xs,ZP];have:((2:Int):Rat)=2:=rfl;rw [this];grind
theorem PS(v:Fr):aW (2 * v.1,v.2)=2 * aW v:=by unfold aW;show Rat.divInt (2 * v.1) v.2=2 * Rat.divInt v.1 v.2;rw [YQ,YQ,ZP,Wv,Wv];have:((2:Int):Rat)=2:=rfl;rw [this];grind
section
variable {n:Nat} {rows:List R} {gl:List Int}
theorem Pt.left{r:R}{xs:List Rat}(h:Pt n (rows++ [r]) xs):Pt n rows xs:=⟨h.1,λq a=>h.2 q (Vn _ a)⟩
theorem TU(go:ez n rows gl)(f:ez n rows (gv gl))(s:kQ n rows)(g4:∀c∈gl, -4<=c/\c<=4):
  ∃(k:Int) (v w:Fr) (x y x' y':T),iB n rows gl 2000= [ti k,ti v.1,ti v.2,x,y,ti 0,ti 0]/\iB n rows (gv gl) 2000= [ti k,ti w.1,ti w.2,x',y',ti 0,ti 0]/\
   (∃b l,T.aQ 2 x=some (b,l))/\(∃b l,T.aQ 2 y=some (b,l))/\(∃b l,T.aQ 2 x'=some (b,l))/\(∃b l,T.aQ 2 y'=some (b,l))/\
   (k=1->bI v/\bI w/\aW w=2 * aW v)/\
   ∀(r:R),ez n (rows++ [r]) gl->kQ n (rows++ [r])->∃(k2:Int) (u:Fr) (P Q:T),iB n (rows++ [r]) gl 2000= [ti k2,ti u.1,ti u.2,P,Q,ti 0,ti 0]/\(∃b l,T.aQ 2 P=some (b,l))/\(∃b l,T.aQ 2 Q=some (b,l))/\
    (k=2->k2=2)/\(k=1->k2≠3)/\(k=1->k2=1->bI u/\aW u<=aW v):=by
 have A:∀c∈gl, -9<=c/\c<=9:=λc S=>by have:=g4 c S;omega
 have z:∀c∈gv gl, -9<=c/\c<=9:=λc S=>by obtain⟨d,hd,rfl⟩:=VK.1 S;have:=g4 d hd;omega
 have o:∃b l,T.aQ 2 (T.aK true)=some (b,l):=⟨_,_,cV 2 true⟩;have a:∀l,∃b l',T.aQ 2 (lF l)=some (b,l'):=λl=>⟨_,_,qP 2 _ _⟩;rcases qy go s A with⟨v,pl,tl,e,hv,h1,h2,h3,N,p⟩ | ⟨tl,T',e,R⟩ | ⟨pl,t,e,h1,h3,p,ht⟩
 .obtain⟨p1,p2⟩:=wu p (by simpa using h1);rcases qy f s z with⟨w,C,K,e',V,i,i2,G,O,g⟩ | ⟨K,X,e',M⟩ | ⟨C,t',e',i,G,g,E⟩
  .obtain⟨q1,q2⟩:=wu g (by simpa using i);have a1:=EG go p (r6 N) q1;have a2:=EG f g (r6 O) p1;rw [uR,p2] at a2;rw [uR] at q2;refine⟨1,v,w,_,_,_,_,e,e',a _,a _,a _,a _,λ_=>⟨hv,V,by grind⟩,λr B J=> ?_⟩;rcases qy B J A with⟨u,D,L,e2,U,j,j2,H,j4,m⟩ | ⟨L,Y,e2,W⟩ | ⟨D,t2,e2,j,H,m,F⟩
   .obtain⟨r1,I⟩:=wu m (by simpa using j);have Z:=EG go p (r6 N) r1.left;rw [I] at Z;exact⟨1,u,_,_,e2,a _,a _,λh=>absurd h (by decide),λ_=>by decide,λ_ _=>⟨U,Z⟩⟩
   .exact⟨2,(0,0),_,_,e2,o,a _,λ_=>rfl,λ_=>by decide,λ_ h=>absurd h (by decide)⟩
   .obtain⟨r1,I⟩:=DN m;have:=Ef go p (r6 N) (xs:=(D.map cK).map aW) (by simpa using j) (λq hq=>r1 q (by rw [W2];exact Vn _ hq));exact absurd this (by grind)
  .exact(tf f.ro f.k2 M p1).elim
  .obtain⟨r1,I⟩:=DN g;have:=Ef go p (r6 N) (xs:=(C.map cK).map aW) (by simpa using i) r1;rw [uR] at I;exact absurd this (by grind)
 .rcases qy f s z with⟨w,C,K,e',V,i,i2,G,O,g⟩ | ⟨K,X,e',M⟩ | ⟨C,t',e',i,G,g,E⟩
  .obtain⟨q1,_⟩:=wu g (by simpa using i);exact(tf go.ro go.k2 R q1).elim
  .refine⟨2,(0,0),(0,0),_,_,_,_,e,e',o,a _,o,a _,λh=>absurd h (by decide),λr B J=> ?_⟩;rcases qy B J A with⟨u,D,L,e2,U,j,j2,H,j4,m⟩ | ⟨L,Y,e2,W⟩ | ⟨D,t2,e2,j,H,m,F⟩
   .obtain⟨r1,_⟩:=wu m (by simpa using j);exact(tf go.ro go.k2 R r1.left).elim
   .exact⟨2,(0,0),_,_,e2,o,a _,λ_=>rfl,λh=>absurd h (by decide),λh=>absurd h (by decide)⟩
   .exact(tf go.ro go.k2 R (DE B F).left).elim
  .exact(tf go.ro go.k2 R (DE f E)).elim
 .rcases qy f s z with⟨w,C,K,e',V,i,i2,G,O,g⟩ | ⟨K,X,e',M⟩ | ⟨C,t',e',i,G,g,E⟩
  .obtain⟨r1,I⟩:=DN p;have:=Ef f g (r6 O) (xs:=(pl.map cK).map aW) (by simpa using h1) r1;rw [uR] at this;exact absurd this (by grind)
  .exact(tf f.ro f.k2 M (DE go ht)).elim
  .refine⟨3,(0,0),(0,0),_,_,_,_,e,e',a _,o,a _,o,λh=>absurd h (by decide),λr B J=> ?_⟩;rcases qy B J A with⟨u,D,L,e2,U,j,j2,H,j4,m⟩ | ⟨L,Y,e2,W⟩ | ⟨D,t2,e2,j,H,m,F⟩
   .exact⟨1,u,_,_,e2,a _,a _,λh=>absurd h (by decide),λh=>absurd h (by decide),λh=>absurd h (by decide)⟩
   .exact⟨2,(0,0),_,_,e2,o,a _,λh=>absurd h (by decide),λh=>absurd h (by decide),λh=>absurd h (by decide)⟩
   .exact⟨3,(0,0),_,_,e2,a _,o,λh=>absurd h (by decide),λh=>absurd h (by decide),λh=>absurd h (by decide)⟩
end
end Go.Aev.Wd.Lg
