import Derived.Test.YtdjbbnlgpddbmaaAwayAllQ19
import Derived.Test.YtdjbbnlgpddbmaaAwayAllQ5
import Derived.Test.YtdjbbnlgpddbmaaAwayAllQ8
set_option linter.all false
namespace Go.Aev.Gen
open Go Go.Aev
open Go Go.Aev
structure RF (n k:Nat) (hs ls:List Bn) (U D:List R):Prop where
 hn:n<=12
 hk:k < n
 up:∀b∈hs,Up n k b
 dn:∀b∈ls,Dn n k b
 hl:hs.length<=40
 ll:ls.length<=40
 u:U.map bo=hs.map Bn.c
 d:D.map bo=ls.map Bn.c
open Go Go.Aev Go.Proofs
theorem Kz{n:Nat}(hn:n<=12){r:R}(ok:cS n r):(gp 12 r).1=0:=by
 unfold gp;have h1:=ok.kd;have b:=ok.len;rw [if_neg (by omega),if_neg (by omega)];refine y8 λx a=> ?_;rcases RX.1 a with a | a
 .exact ok.of x a
 .rw [RP.1 a];exact ok.tv
def rX(n k:Int)(rows:List R):Int×Int:=if(iO n rows).1=0 then(if k < 0\/k>=n then(3, -1) else(0,0)) else iO n rows
theorem PE(rows:List R)(e:Bool)(n k:Int)(hr:∀r∈rows,r.e=true->r.of= []):Or (.call 18) [LR e rows,I n,I k] []=fl (rX n k rows):=by
 have h1:=Bt rows e n hr;unfold rX;by_cases a:(iO n rows).1=0
 .rw [if_pos a];by_cases hk:k < 0\/k>=n
  .rw [if_pos hk];refine an ?_;rw [zr];simp only [im,<-S7];simp only [aj,↓reduceIte,Int.reduceBEq,Int.reduceEq,GD,h1,a,hk]
  .rw [if_neg hk];refine an ?_;rw [zr];simp only [im,<-S7];simp only [aj,↓reduceIte,Int.reduceBEq,Int.reduceEq,GD,h1,a,hk]
 .rw [if_neg a];refine an ?_;rw [zr];simp only [aj,↓reduceIte,Int.reduceBEq,Int.reduceEq,GD,h1,a]
theorem PS(rows:List R)(e:Bool)(n k:Nat)(hn:n<=12)(hk:k < n)(hr:∀r∈rows,cS n r)(hl:rows.length<=40)(h:(rX n k rows).1=0):kB (Or (.call 7) [LR e rows,I (n:Int),I (k:Int)] []) (gP n k rows):=by have:=n6 rows e n k hn hk hr (λr h=>Kz hn (hr r h)) hl;refine kD ?_;rw [e6];simp only [aj,↓reduceIte,Int.reduceBEq,Int.reduceEq,GD,PE rows e n k (λr h=>(hr r h).e),h,cY];exact this
theorem N7(e c:Bool)(l m:List Int)(b:l=m)(hn:l.length<=1000):∀(a:List Int) (i:Nat),l.drop i=a->Or uw [ae e l,ae c m,I (i:Int)] []=some [tb true]:=by
 subst b;intro a;induction a with
 | nil=>
  intro i h;refine an ?_;rw [Ey];have h1:¬(i:Int) < (l.length:Int):=by have:=bU h;omega
  simp only [aj,↓reduceIte,Int.reduceBEq,Int.reduceEq,GD,h1,bH]
 | cons x a j=>
  intro i h;obtain⟨d,k,f⟩:=bR h;have h1:(i:Int) < (l.length:Int):=by omega
  have g: 0<=(i:Int):=by omega
  refine an ?_;rw [Ey];simp only [aj,↓reduceIte,Int.reduceBEq,Int.reduceEq,GD,h1,g,and_self,bH,dE d,next i (by omega),j (i+1) f]
theorem Ih(e a:Bool)(l:List Int)(hn:l.length<=1000):Or (.call 67) [ae e l,ae a l] []=some [tb true]:=by refine an ?_;rw [vI];simp only [aj,↓reduceIte,Int.reduceBEq,Int.reduceEq,GD,bH];exact N7 e a l l rfl hn l 0 rfl
theorem Ie(a b:R)(h:bo a=bo b)(hn:a.of.length<=1000):Or (.call 30) [AV.agg [ae a.e a.of,I a.kd,I a.tv],AV.agg [ae b.e b.of,I b.kd,I b.tv]] []=some [tb true]:=by simp only [bo,SA] at h;obtain⟨h1,c,d⟩:=h;refine an ?_;rw [vH];simp only [lJ,h1,c,d];rw [h1] at hn;simp only [aj,↓reduceIte,Int.reduceBEq,Int.reduceEq,GD,Ih a.e b.e b.of hn]
theorem GB(e d:Bool)(a b:List R)(h:a.map bo=b.map bo)(hn:a.length<=1000)(hs:∀r∈a,r.of.length<=1000):∀(c:List R) (i:Nat),a.drop i=c->Or yt [LR e a,LR d b,I (i:Int)] []=some [tb true]:=by
 have p:a.length=b.length:=by have:=congrArg List.length h;simpa using this
 intro c;induction c with
 | nil=>
  intro i h;refine an ?_;rw [Ea];have h1:¬(i:Int) < (a.length:Int):=by have:=bU h;omega
  simp only [aj,↓reduceIte,Int.reduceBEq,Int.reduceEq,GD,h1,cY]
 | cons x c q=>
  intro i o;obtain⟨f,s,l⟩:=bR o;have h1:(i:Int) < (a.length:Int):=by omega
  have n:(i:Int) < (b.length:Int):=by omega
  have m: 0<=(i:Int):=by omega
  obtain⟨y,hy⟩:∃y,b[i]? =some y:=⟨_,RR (by omega)⟩;have j:bo x=bo y:=by
   have g:(a.map bo)[i]? =some (bo x):=by rw [Sp,f];rfl
   have d:(b.map bo)[i]? =some (bo y):=by rw [Sp,hy];rfl
   rw [h,d] at g;simpa using g.symm
  have k:=Ie x y j (hs x (RN f));refine an ?_;rw [Ea];simp only [aj,↓reduceIte,Int.reduceBEq,Int.reduceEq,GD,h1,n,m,and_self,cY,fT f,fT hy,k,Sl,next i (by omega),q (i+1) l]
theorem RB(f:Int->Int->Int)(x y:List Int):(List.zipWith f x y).length<=x.length:=by simp;omega
theorem Kn{n k:Nat}{a b:Bn}(c:a.of.length=n):(cC a b k).1.length<=n:=by
 show(bh _ (bz (cL a b k))).length<=n;rw [KU];have:=u4 (cL a b k);have:=RB (λx y=>cQ a b k * x+cP a b k * y) a.of b.of;unfold cL at *
 omega
theorem Hq(k:Nat)(c:List Bn):∀(hs:List Bn) (b:List C),b.length<=40->(gv k c hs b).2.length<=40
 | [],_,h=>h
 | a::hs,b,h=>by
  rw [gv];have:=Ab k a c b h;split
  .exact Hq k c hs _ this
  .exact this
theorem Fv(k:Nat):∀rows:List R,(gr k rows).length<=rows.length
 | []=>by simp [gr]
 | r::a=>by have:=Fv k a;rw [gr];split <;> simp <;> omega
theorem QA(of:List Int)(kd tv:Int):(bY of kd tv).1.length<=of.length:=by
 unfold bY;split
 .simp
 .have:=u4 of;simpa using this
theorem J0{n k:Nat}{rows:List R}(hl:rows.length<=40):(gP n k rows).2.length<=40:=
 Hq _ _ _ _ (by have:=Fv k rows;omega)
open Go Go.Aev Go.Proofs
theorem z9{k:Nat}{P:C->Prop}{a:Bn}:∀(f:List Bn) (e:List C),(∀b∈f,lI a b k=true->P (cC a b k))->(∀c∈e,P c)->∀c∈(eP k a f e).2,P c
 | [],e,_,h=>h
 | b::f,e,i,h=>by
  have g:∀b∈f,lI a b k=true->P (cC a b k):=λb hb=>i b (RM _ hb);rw [eP];split
  .exact z9 f e g h
  .split
   .intro c d;cases d
   .rename_i j;split
    .intro c d;cases d
    .refine z9 f _ g λc d=> ?_;rcases RX.1 d with d | d
     .exact h c d
     .rw [RP.1 d];exact i b RL (by simpa using j)
theorem Hp{k:Nat}{P:C->Prop}(e:List Bn):∀(hs:List Bn) (d:List C),(∀a∈hs,∀b∈e,lI a b k=true->P (cC a b k))->(∀c∈d,P c)->∀c∈(gv k e hs d).2,P c
 | [],d,_,h=>h
 | a::hs,d,f,h=>by
  rw [gv];have:=z9 (k:=k) e d (f a RL) h;split
  .exact Hp e hs _ (λa g=>f a (RM _ g)) this
  .exact this
theorem Fu{k:Nat}{P:C->Prop}:∀rows:List R,(∀r∈rows,r.of.getD k 0=0->P (lh r))->∀c∈gr k rows,P c
 | [],_,c,a=>by cases a
 | r::d,h,c,a=>by
  have b:=Fu d (λr hr=>h r (RM _ hr));rw [gr] at a;split at a
  .rename_i hz;rcases RV.1 a with rfl | a
   .exact h r RL hz
   .exact b c a
  .exact b c a
theorem yM{n k:Nat}{P:C->Prop}{rows:List R}(h1:∀r∈rows,r.of.getD k 0=0->P (lh r))(d:∀a∈cA n k rows 0,∀b∈cD n k rows 0,lI a b k=true->P (cC a b k)):∀c∈(gP n k rows).2,P c:=
 Hp _ _ _ d (Fu rows h1)
theorem Kj{l:List Int}(h:l≠[]->l.getD (l.length - 1) 0≠0):bz l=l:=by
 unfold bz;cases hl:l.length with
 | zero=>rw [R4.1 hl];rfl
 | succ m=>have:=h (λe=>by rw [e] at hl;cases hl);rw [hl,Nat.add_sub_cancel] at this;rw [fm,if_neg this,<-hl,Ti]
theorem Kk{l:List Int}(h:bz l≠[]):(bz l).getD ((bz l).length - 1) 0≠0:=by
 unfold bz at h⊢;cases hk:fm l l.length with
 | zero=>rw [hk] at h;exact absurd rfl h
 | succ j=>obtain⟨h1,a⟩:=yU (R3 _) hk;rw [m9 (by omega),Nat.add_sub_cancel,RO,xJ a];exact h1
theorem sH{f:Int->Int}(a:f 0=0)(l:List Int)(k:Nat):(l.map f).getD k 0=f (l.getD k 0):=by simp only [RO,Sp];cases l[k]? <;> simp [a]
theorem Ki{l:List Int}{k:Nat}(h:l.getD k 0=0):(bz l).getD k 0=0:=by
 unfold bz;simp only [RO,TA] at h⊢;split
 .exact h
 .rfl
theorem xv(kd:Int)(l:List Int):sg kd l=1\/sg kd l= -1:=by unfold sg;split <;> simp
theorem FU{s:Int}(hs:s=1\/s= -1):∀(l:List Int) (g:Nat),gl g (l.map (s * ·))=gl g l
 | [],_=>rfl
 | x::l,g=>by
  have:(s * x).natAbs=x.natAbs:=by rcases hs with rfl | rfl <;> simp
  rw [Se,gl,gl,this,FU hs l]
theorem Fz{s:Int}(hs:s=1\/s= -1):∀(l:List Int),du (l.map (s * ·))=s * du l
 | []=>by simp [du]
 | x::l=>by
  rw [Se,du,du];by_cases a:x=0
  .subst a;rw [if_pos (by simp),if_pos rfl,Fz hs l]
  .rw [if_neg (by rcases hs with rfl | rfl <;> omega),if_neg a]
theorem Hb(kd tv:Int):dQ kd (dQ kd tv)=dQ kd tv:=by
 unfold dQ;by_cases h1:kd=1/\tv < 0
 .rw [if_pos h1];simp [h1.1]
 .rw [if_neg h1];by_cases a:kd=2/\tv > 0
  .rw [if_pos a];simp [a.1]
  .rw [if_neg a];by_cases b:kd=3/\tv≠0
   .rw [if_pos b];simp [b.1]
   .rw [if_neg b];simp
theorem Ha(kd tv:Int): -1<=dQ kd tv/\dQ kd tv<=1:=by unfold dQ;split <;> (try split) <;> (try split) <;> omega
theorem px{of:List Int}{kd tv:Int}(hz:bz of≠[]):bY of kd tv= ((bh (gl tv.natAbs (bz of)) (bz of)).map (sg kd (bz of) * ·),sg kd (bz of) * (tv / (gl tv.natAbs (bz of):Int))):=by unfold bY;rw [if_neg hz];simp [bh,Function.comp_def]
theorem xL{of:List Int}{kd tv:Int}(hz:bz of= []):bY of kd tv= ([],dQ kd tv):=by unfold bY;rw [if_pos hz]
theorem MX{l:List Int}{tv:Int}(b: 0 < gl tv.natAbs l):gl (tv / (gl tv.natAbs l:Int)).natAbs (bh (gl tv.natAbs l) l)=1:=by
 have e:(gl tv.natAbs l:Int) ∣ tv:=SB.2 (qD l tv.natAbs);have h1:=FT (gl tv.natAbs l) l (tv / (gl tv.natAbs l:Int)).natAbs (λx f=>mI f) b;have c:gl tv.natAbs l * (tv / (gl tv.natAbs l:Int)).natAbs=tv.natAbs:=by
  have a:((gl tv.natAbs l:Int) * (tv / (gl tv.natAbs l:Int))).natAbs=tv.natAbs:=by rw [Tg e]
  rw [Ss,Sb] at a;exact a
 rw [c] at h1;have d:gl tv.natAbs l * 1=gl tv.natAbs l * gl (tv / (gl tv.natAbs l:Int)).natAbs (bh (gl tv.natAbs l) l):=by rw [Wn];exact h1
 exact(Nat.eq_of_mul_eq_mul_left b d).symm
theorem I1(of:List Int)(kd tv:Int):bY (bY of kd tv).1 kd (bY of kd tv).2=bY of kd tv:=by
 by_cases hz:bz of= []
 .rw [xL hz];show bY [] kd (dQ kd tv)=_;rw [BS,Hb]
 .have hs:=xv kd (bz of);obtain⟨x,p,v⟩:=nA hz;have r:=o5 (g:=tv.natAbs) p v;have d:∀x∈bz of,(gl tv.natAbs (bz of):Int) ∣ x:=λx p=>mI p;have f:=Kk hz;have A:=Dq hz;rw [px hz];dsimp only;have w:=MX (l:=bz of) (tv:=tv) r;have t:=Iy (kd:=kd) (show(0:Int) < (gl tv.natAbs (bz of):Int) by omega) d;have z:=vU (show(0:Int) < (gl tv.natAbs (bz of):Int) by omega) d;have o:(bz of).getD ((bz of).length - 1) 0∈bz of:=by
   have: 0 < (bz of).length:=UI.2 hz;exact RN (lU (l:=bz of) (k:=(bz of).length - 1) (by omega))
  have a:((bh (gl tv.natAbs (bz of)) (bz of)).map (sg kd (bz of) * ·)).length= (bz of).length:=by simp [bh]
  have s:(bh (gl tv.natAbs (bz of)) (bz of)).map (sg kd (bz of) * ·)≠[]:=by intro h;rw [h] at a;exact hz (R4.1 a.symm)
  have i:bz ((bh (gl tv.natAbs (bz of)) (bz of)).map (sg kd (bz of) * ·))= (bh (gl tv.natAbs (bz of)) (bz of)).map (sg kd (bz of) * ·):=by
   refine Kj λ_=> ?_;rw [a,sH (by simp)];unfold bh;rw [sH (by simp)];obtain⟨c,n⟩:=d _ o;rw [n,TC _ (by omega)];intro h;have:c=0:=by rcases hs with b | b <;> rw [b] at h <;> omega
   rw [this] at n;exact f (by simpa using n)
  have q:gl (sg kd (bz of) * (tv / (gl tv.natAbs (bz of):Int))).natAbs ((bh (gl tv.natAbs (bz of)) (bz of)).map (sg kd (bz of) * ·))=1:=by
   rw [FU hs];have:(sg kd (bz of) * (tv / (gl tv.natAbs (bz of):Int))).natAbs= (tv / (gl tv.natAbs (bz of):Int)).natAbs:=by rcases hs with b | b <;> rw [b] <;> simp
   rw [this];exact w
  have u:sg kd ((bh (gl tv.natAbs (bz of)) (bz of)).map (sg kd (bz of) * ·))=1:=by
   have y:sg kd ((bh (gl tv.natAbs (bz of)) (bz of)).map (sg kd (bz of) * ·))=if kd=3/\sg kd (bz of) * du (bh (gl tv.natAbs (bz of)) (bz of)) < 0 then -1 else 1:=by rw [<-Fz hs];rfl
   rw [y];rw [if_neg];rintro⟨j,hn⟩;have m:sg kd (bh (gl tv.natAbs (bz of)) (bz of))=sg kd (bz of):=t;unfold sg at m hn;by_cases e:du (bh (gl tv.natAbs (bz of)) (bz of)) < 0
   .by_cases hb:du (bz of) < 0
    .rw [if_pos ⟨j,hb⟩] at hn;omega
    .rw [if_pos ⟨j,e⟩,if_neg (λh=>hb h.2)] at m;omega
   .by_cases hb:du (bz of) < 0
    .rw [if_neg (λh=>e h.2),if_pos ⟨j,hb⟩] at m;omega
    .rw [if_neg (λh=>hb h.2)] at hn;omega
  rw [px (by rw [i];exact s),i,q,u];simp [bh]
structure Good (n k:Nat) (c:C):Prop where
 kd:c.2.1=1\/c.2.1=2\/c.2.1=3
 len:c.1.length<=n
 of:Bd 1000000 c.1
 tv: -1000000<=c.2.2/\c.2.2<=1000000
 gone:c.1.getD k 0=0
 tidy:bY c.1 c.2.1 c.2.2= (c.1,c.2.2)
theorem Ix{s x b:Int}(hs:s=1\/s= -1)(a: -b<=x/\x<=b): -b<=s * x/\s * x<=b:=by rcases hs with rfl | rfl <;> omega
theorem Qz{of:List Int}{kd tv b:Int}(hb:Bd b of)(h1: 1<=b)(e: -b<=tv/\tv<=b):Bd b (bY of kd tv).1/\ -b<=(bY of kd tv).2/\(bY of kd tv).2<=b:=by
 by_cases hz:bz of= []
 .rw [xL hz];have:=Ha kd tv;exact⟨λx a=>by simp at a,by dsimp only;omega,by dsimp only;omega⟩
 .obtain⟨x,a,d⟩:=nA hz;have h:=o5 (g:=tv.natAbs) a d;rw [px hz];refine⟨λy hy=> ?_,Ix (xv kd _) (lO (by omega) e (by omega))⟩;obtain⟨z,c,rfl⟩:=Si.1 hy;obtain⟨w,f,rfl⟩:=Si.1 c;exact Ix (xv kd _) (lO (by omega) (yV hb w f) (by omega))
theorem xK{of:List Int}{kd tv:Int}{k:Nat}(h:of.getD k 0=0):(bY of kd tv).1.getD k 0=0:=by
 by_cases hz:bz of= []
 .rw [xL hz];simp
 .rw [px hz];unfold bh;rw [sH (by simp),sH (by simp),Ki h];simp
theorem MY{n k:Nat}{r:R}(ok:cS n r)(h:r.of.getD k 0=0):Good n k (lh r):=by have hb:=Qz (kd:=r.kd) (tv:=r.tv) ok.of (by omega) ok.tv;have:=QA r.of r.kd r.tv;have:=ok.len;exact⟨ok.kd,by show(bY r.of r.kd r.tv).1.length<=n;omega,hb.1,hb.2,xK h,I1 r.of r.kd r.tv⟩
theorem Ko{n k:Nat}{a b:Bn}(c:Up n k a)(hb:Dn n k b)(hk:k < n):(cL a b k).getD k 0=0:=by
 obtain⟨j,_,_⟩:=pq c hb;have f:=lU (l:=a.of) (k:=k) (by rw [c.len];exact hk);have g:=lU (l:=b.of) (k:=k) (by rw [hb.len];exact hk);have d:(cG a b k:Int) ∣ a.of.getD k 0:=SB.2 (Ug _ _);have e:(cG a b k:Int) ∣ -(b.of.getD k 0):=SB.2 (Uy _ _);have h1:(cG a b k:Int) * cP a b k=a.of.getD k 0:=Tg d;have i:(cG a b k:Int) * cQ a b k= -(b.of.getD k 0):=Tg e;have hz:(cL a b k)[k]? =some (cQ a b k * a.of.getD k 0+cP a b k * b.of.getD k 0):=by unfold cL;rw [List.getElem?_zipWith,f,g]
 rw [RO,hz,SJ,<-h1];have h:b.of.getD k 0= -((cG a b k:Int) * cQ a b k):=by omega
 rw [h];grind
theorem M0{n k:Nat}{a b:Bn}(hn:n<=12)(hk:k < n)(h:Up n k a)(hb:Dn n k b)(m:lI a b k=true):Good n k (cC a b k):=by
 have o:cB a b=1\/cB a b=2:=by unfold cB;split <;> simp
 have c:=Kn (k:=k) (b:=b) h.len;have j:=Ko h hb hk;by_cases hz:bz (cL a b k)= []
 .have e:(cC a b k).1= []:=by show bh _ (bz (cL a b k))= [];rw [hz];rfl
  have g:(cC a b k).2.2=dQ (cB a b) (gU (cT a b k)):=by show dJ _ _ _=_;unfold dJ;rw [if_pos hz]
  have hb:=Ha (cB a b) (gU (cT a b k));refine⟨by show cB a b=1\/cB a b=2\/cB a b=3;omega,c,(by rw [e];intro x f;cases f),(by rw [g];omega),(by rw [e];rfl), ?_⟩;rw [e,g];show bY [] (cB a b) _=_;rw [BS,Hb]
 .have i:sg (cB a b) (bz (cL a b k))=1:=by unfold sg;rw [if_neg (by omega)]
  have e0:bY (cL a b k) (cB a b) (cT a b k)= (gZ (cL a b k) (cT a b k),dJ (cL a b k) (cB a b) (cT a b k)):=by rw [px hz,i];unfold gZ dJ cV;rw [if_neg hz];simp
  have d:(jl (cT a b k / (cV (cL a b k) (cT a b k):Int)) && (gZ (cL a b k) (cT a b k)).all jl)=true:=by have:lW (cL a b k) (cT a b k)=true:=m;unfold lW at this;rw [if_neg hz] at this;exact this
  rw [RQ] at d;have l:dJ (cL a b k) (cB a b) (cT a b k)=cT a b k / (cV (cL a b k) (cT a b k):Int):=by unfold dJ;rw [if_neg hz]
  refine⟨by show cB a b=1\/cB a b=2\/cB a b=3;omega,c,λx f=> ?_, ?_, ?_, ?_⟩
  .have:=R7.1 d.2 x f;unfold jl at this;have:=of_decide_eq_true this;omega
  .have:jl (cT a b k / (cV (cL a b k) (cT a b k):Int))=true:=d.1;unfold jl at this;have:=of_decide_eq_true this;show -1000000<=dJ (cL a b k) (cB a b) (cT a b k)/\dJ (cL a b k) (cB a b) (cT a b k)<=1000000;rw [l];omega
  .have:=xK (kd:=cB a b) (tv:=cT a b k) j;rw [e0] at this;exact this
  .have:=I1 (cL a b k) (cB a b) (cT a b k);rw [e0] at this;exact this
theorem yN{n k:Nat}(hn:n<=12)(hk:k < n){rows:List R}(hr:∀r∈rows,cS n r):∀c∈(gP n k rows).2,Good n k c:=
 yM (λr h=>MY (hr r h)) (λa d b hb=>M0 hn hk (tH hk rows 0 hr a d) (r9 hk rows 0 hr b hb))
theorem again{n k:Nat}:∀(d:List R) (i:Nat),(∀r∈d,Good n k (bo r))->gr k d=d.map bo/\cA n k d i= []/\cD n k d i= []
 | [],_,_=>⟨rfl,rfl,rfl⟩
 | r::d,i,h=>by
  have g:=h r RL;have e:r.of.getD k 0=0:=g.gone;obtain⟨a,b,c⟩:=again d (i+1) (λr hr=>h r (RM _ hr));have j:bY r.of r.kd r.tv= (r.of,r.tv):=g.tidy;have l:fM n k i r= []:=by unfold fM;rw [if_neg (by omega),if_neg (by omega)]
  have f:ft n k i r= []:=by unfold ft;rw [if_neg (by omega),if_neg (by omega)]
  refine⟨?_,by rw [cA,l,b];rfl,by rw [cD,f,c];rfl⟩;rw [gr,if_pos e,a,Se];congr 1;show((bY r.of r.kd r.tv).1,r.kd,(bY r.of r.kd r.tv).2)=_;rw [j]
theorem KA{n:Nat}{r:R}(ok:cS n r):(gp n r).1=0:=by
 unfold gp;have h1:=ok.kd;have b:=ok.len;rw [if_neg (by omega),if_neg (by omega)];refine y8 λx a=> ?_;rcases RX.1 a with a | a
 .exact ok.of x a
 .rw [RP.1 a];exact ok.tv
theorem Dz{n:Nat}:∀{rows:List R} {i:Nat},(∀r∈rows,cS n r)->(mq n rows i).1=0
 | [],_,_=>rfl
 | r::rows,i,h=>by rw [mq,if_pos (KA (h r RL))];exact Dz λr hr=>h r (RM _ hr)
theorem Ky{n k:Nat}{rows:List R}(hn:n<=12)(hk:k < n)(hl:rows.length<=40)(h:∀r∈rows,cS n r):(rX (n:Int) (k:Int) rows).1=0:=by
 have h1:(iO (n:Int) rows).1=0:=by unfold iO rY;rw [if_neg (by omega),if_neg (by omega),Sr];exact Dz h
 unfold rX;rw [if_pos h1,if_neg (by omega)]
theorem MZ{n k:Nat}{r:R}(g:Good n k (bo r))(a:r.e=true->r.of= []):cS n r:=⟨a,g.kd,g.len,g.of,g.tv⟩
open Go Go.Aev Go.Proofs
abbrev Fr:=Int×Int
abbrev eU(x:Fr):Prop:=Wd.eU x
abbrev LN(e:Bool)(l:List Fr):AV:=AV.t (T.ae 2 e (Wd.eZ l))
def z5(r:C)(l:List Fr):Bool:=decide ((Wd.tB r.1 l 0 < (r.2.2:Rat)/\r.2.1≠3)\/(Wd.tB r.1 l 0= (r.2.2:Rat)/\r.2.1≠2))
def aX:List Int->List Rat->Rat
 | c::of,x::xs=>x * (c:Rat)+aX of xs
 | _,_=>0
theorem iQ(xs:List Rat):aX [] xs=0:=by cases xs <;> rfl
theorem zm(k:Nat):∀(l:List Int) (xs:List Rat),aX (l++List.replicate k 0) xs=aX l xs
 | [],xs=>by
  rw [R0,iQ];induction k generalizing xs with
  | zero=>rw [Tw,iQ]
  | succ k a=>
   cases xs with
   | nil=>rfl
   | cons x xs=>rw [Sv,aX,a xs];have:((0:Int):Rat)=0:=rfl;rw [this];grind
 | c::l,[]=>by simp [aX]
 | c::l,x::xs=>by rw [RU,aX,aX,zm k l xs]
theorem qb(l:List Int)(xs:List Rat):aX (bz l) xs=aX l xs:=by obtain⟨k,hk⟩:=Kl l;have:=zm k (bz l) xs;rw [<-hk] at this;exact this.symm
theorem vA(n:Nat)(l:List Int)(xs:List Rat):aX (cE n l) xs=aX l xs:=zm _ l xs
theorem zk(s:Int):∀(l:List Int) (xs:List Rat),aX (l.map (s * ·)) xs= (s:Rat) * aX l xs
 | [],xs=>by rw [T0,iQ];grind
 | c::l,[]=>by simp only [Se,aX];grind
 | c::l,x::xs=>by rw [Se,aX,aX,zk s l xs,S9];grind
theorem zl(l:List Int)(xs:List Rat):aX (cZ l) xs= -aX l xs:=by
 have h1:cZ l=l.map ((-1:Int) * ·):=by unfold cZ;congr 1;funext x;omega
 rw [h1,zk];have:((-1:Int):Rat)= -1:=rfl;rw [this];grind
theorem vw{g:Int}:∀{l:List Int} (xs:List Rat),(∀x∈l,g ∣ x)->(g:Rat) * aX (bh g l) xs=aX l xs
 | [],xs,_=>by unfold bh;rw [T0,iQ];grind
 | c::l,[],_=>by simp only [bh,Se,aX];grind
 | c::l,x::xs,h=>by
  have b:=vw (l:=l) xs (λy hy=>h y (RM _ hy));have a:g * (c / g)=c:=Tg (h c RL);have d:(g:Rat) * ((c / g:Int):Rat)= (c:Rat):=by rw [<-S9,a]
  unfold bh at b⊢;rw [Se,aX,aX];grind
theorem zn(p q:Int):∀(a b:List Int) (xs:List Rat),a.length=b.length->aX (List.zipWith (λx y=>q * x+p * y) a b) xs= (q:Rat) * aX a xs+ (p:Rat) * aX b xs
 | [],[],xs,_=>by simp only [List.zipWith_nil_left,iQ];grind
 | [],_::_,_,h=>by cases h
 | _::_,[],_,h=>by cases h
 | c::a,d::b,[],_=>by simp only [Vu,aX];grind
 | c::a,d::b,x::xs,h=>by have e:=zn p q a b xs (by simpa using h);rw [Vu,aX,aX,aX,e,VG,S9,S9];grind
def dy(c:C)(xs:List Rat):Prop:=(aX c.1 xs < (c.2.2:Rat)/\c.2.1≠3)\/(aX c.1 xs= (c.2.2:Rat)/\c.2.1≠2)
def BH(b:Bn)(xs:List Rat):Prop:=aX b.of xs<=(b.to:Rat)/\(b.less=true->aX b.of xs < (b.to:Rat))
theorem Dc{n:Nat}{r:R}{xs:List Rat}{i:Int}(h:dy (bo r) xs):BH ⟨true,cE n r.of,r.tv,r.kd==2,i⟩ xs:=by
 unfold BH dy at *
 simp only [bo,vA,beq_iff_eq] at *
 rcases h with⟨h1,a⟩ | ⟨h1,a⟩
 .exact⟨Tn h1,λ_=>h1⟩
 .exact⟨by rw [h1];exact To,λh=>absurd h a⟩
theorem Db{n:Nat}{r:R}{xs:List Rat}{i:Int}(h:dy (bo r) xs)(b:r.kd=3):BH ⟨true,cZ (cE n r.of), -r.tv,false,i⟩ xs:=by
 unfold BH dy at *
 simp only [bo,zl,vA,Uu] at *
 rcases h with⟨h1,a⟩ | ⟨h1,a⟩
 .exact absurd b a
 .exact⟨by rw [h1];exact To,λh=>by cases h⟩
theorem Jk{n k:Nat}{xs:List Rat}:∀{rows:List R} {i:Nat},(∀r∈rows,dy (bo r) xs)->∀b∈cA n k rows i,BH b xs
 | [],_,_,b,hb=>by simp [cA] at hb
 | r::c,i,h,b,hb=>by
  rw [cA] at hb;rcases RX.1 hb with hb | hb
  .have hr:=h r RL;unfold fM at hb;split at hb
   .rw [RP] at hb;subst hb;exact Dc hr
   .split at hb
    .rename_i a;rw [RP] at hb;subst hb;exact Db hr a.2
    .cases hb
  .exact Jk (λr hr=>h r (RM _ hr)) b hb
theorem DW{n k:Nat}{xs:List Rat}:∀{rows:List R} {i:Nat},(∀r∈rows,dy (bo r) xs)->∀b∈cD n k rows i,BH b xs
 | [],_,_,b,hb=>by simp [cD] at hb
 | r::c,i,h,b,hb=>by
  rw [cD] at hb;rcases RX.1 hb with hb | hb
  .have hr:=h r RL;unfold ft at hb;split at hb
   .rw [RP] at hb;subst hb;exact Dc hr
   .split at hb
    .rename_i a;rw [RP] at hb;subst hb;exact Db hr a.2
    .cases hb
  .exact DW (λr hr=>h r (RM _ hr)) b hb
theorem kI{g:Int}(h: 0 < g):(0:Rat) < (g:Rat):=by have:((0:Int):Rat) < (g:Rat):=UW.2 h;exact this
theorem Iu{g:Int}(a: 0 < g){x y:Rat}:(g:Rat) * x < (g:Rat) * y↔x < y:=VI (kI a)
theorem y5{g t:Int}(h:g ∣ t):(g:Rat) * ((t / g:Int):Rat)= (t:Rat):=by rw [<-S9,Tg h]
theorem FZ{r:R}{xs:List Rat}(hk:r.kd=1\/r.kd=2\/r.kd=3):dy (lh r) xs↔dy (bo r) xs:=by
 by_cases hz:bz r.of= []
 .have b:aX r.of xs=0:=by rw [<-qb,hz,iQ]
  have c:lh r= ([],r.kd,dQ r.kd r.tv):=by unfold lh;rw [xL hz]
  rw [c];unfold dy;simp only [bo,iQ,b];have f:∀m:Int,((0:Rat) < (m:Rat)↔0 < m):=λm=>by have:((0:Int):Rat) < (m:Rat)↔0 < m:=UW;exact this
  have i:∀m:Int,((0:Rat)= (m:Rat)↔0=m):=λm=>by have:((0:Int):Rat)= (m:Rat)↔0=m:=Rat.intCast_inj;exact this
  rw [f,f,i,i];unfold dQ;rcases hk with h | h | h <;> rw [h] <;> simp <;> (try split) <;> omega
 .obtain⟨x,e,b⟩:=nA hz;have s:=o5 (g:=r.tv.natAbs) e b;have q:(0:Int) < (gl r.tv.natAbs (bz r.of):Int):=by omega
  have l:∀x∈bz r.of,(gl r.tv.natAbs (bz r.of):Int) ∣ x:=λx e=>mI e;have k:(gl r.tv.natAbs (bz r.of):Int) ∣ r.tv:=SB.2 (qD _ r.tv.natAbs);have j:=vw xs l;rw [qb] at j;have n:=y5 k;have a:=kI q;have c:lh r= ((bh (gl r.tv.natAbs (bz r.of)) (bz r.of)).map (sg r.kd (bz r.of) * ·),r.kd,sg r.kd (bz r.of) * (r.tv / (gl r.tv.natAbs (bz r.of):Int))):=by unfold lh;rw [px hz]
  rw [c];unfold dy;simp only [bo,zk,S9];generalize aX (bh (gl r.tv.natAbs (bz r.of):Int) (bz r.of)) xs=X at *
  generalize ((r.tv / (gl r.tv.natAbs (bz r.of):Int):Int):Rat)=Y at *
  generalize (((gl r.tv.natAbs (bz r.of):Nat):Int):Rat)=G at *
  rw [<-j,<-n];rcases xv r.kd (bz r.of) with h | h
  .rw [h];have:((1:Int):Rat)=1:=rfl;rw [this,VI a];have d:(1 * X=1 * Y)↔(G * X=G * Y):=⟨λh=>by grind,λh=>by
    have:G≠0:=λb=>by rw [b] at a;exact absurd a (Rat.lt_irrefl)
    grind⟩
   rw [d];have e3:(1 * X < 1 * Y)↔X < Y:=by rw [Vd,Vd]
   rw [e3]
  .have p:r.kd=3:=by
    unfold sg at h;split at h
    .rename_i o;exact o.1
    .cases h
   rw [h,p];have:((-1:Int):Rat)= -1:=rfl;rw [this];have d:(-1 * X= -1 * Y)↔(G * X=G * Y):=⟨λh=>by grind,λh=>by
    have:G≠0:=λb=>by rw [b] at a;exact absurd a (Rat.lt_irrefl)
    grind⟩
   rw [d];simp
theorem M7{n k:Nat}{a b:Bn}{xs:List Rat}(t:Up n k a)(hb:Dn n k b)(h1:BH a xs)(s:BH b xs):dy (cC a b k) xs:=by
 obtain⟨B,_,_⟩:=pq t hb;have E: 0 < cP a b k:=by have d:(cG a b k:Int) ∣ a.of.getD k 0:=SB.2 (Ug _ _);have e:(cG a b k:Int) * cP a b k=a.of.getD k 0:=Tg d;have:=t.iL;rw [<-e] at this;rw [gt_iff_lt,Sd] at this;exact UJ this B
 have F: 0 < cQ a b k:=by
  have d:(cG a b k:Int) ∣ -(b.of.getD k 0):=SB.2 (Uy _ _);have e:(cG a b k:Int) * cQ a b k= -(b.of.getD k 0):=Tg d;have:=hb.iL;have i: 0 < (cG a b k:Int) * cQ a b k:=by rw [e];omega
  rw [Sd] at i;exact UJ i B
 have o:aX (cL a b k) xs= (cQ a b k:Rat) * aX a.of xs+ (cP a b k:Rat) * aX b.of xs:=zn _ _ _ _ _ (by rw [t.len,hb.len]);have y:(cT a b k:Rat)= (cQ a b k:Rat) * (a.to:Rat)+ (cP a b k:Rat) * (b.to:Rat):=by unfold cT;rw [VG,S9,S9]
 have j:=kI E;have l:=kI F;have f:aX (cL a b k) xs<=(cT a b k:Rat):=by rw [o,y];have G:=Tj h1.1 (Tn l);have H:=Tj s.1 (Tn j);grind
 have m:(a.less || b.less)=true->aX (cL a b k) xs < (cT a b k:Rat):=by
  intro h;rw [o,y];have G:=Tj h1.1 (Tn l);have H:=Tj s.1 (Tn j);rw [SV] at h;rcases h with h | h
  .have I:=Ux (h1.2 h) l;grind
  .have I:=Ux (s.2 h) j;grind
 have p:(cC a b k).2.1=if(a.less || b.less)=true then 2 else 1:=rfl;by_cases hz:bz (cL a b k)= []
 .have r:aX (cL a b k) xs=0:=by rw [<-qb,hz,iQ]
  have e:(cC a b k).1= []:=by show bh _ (bz (cL a b k))= [];rw [hz];rfl
  have q:(cC a b k).2.2=dQ (cB a b) (gU (cT a b k)):=by show dJ _ _ _=_;unfold dJ;rw [if_pos hz]
  rw [r] at f m;unfold dy;rw [e,iQ,q,p];unfold cB;by_cases c:(a.less || b.less)=true
  .have:=m c;have C: 0 < cT a b k:=by
    have:((0:Int):Rat) < (cT a b k:Rat):=this;exact UW.1 this
   rw [if_pos c];left;have i:dQ 2 (gU (cT a b k))=1:=by unfold dQ gU;rw [if_neg (by omega),if_pos (by omega)]
   rw [i];exact⟨by decide,by decide⟩
  .have C: 0<=cT a b k:=by
    have:((0:Int):Rat)<=(cT a b k:Rat):=f;exact Rat.intCast_le_intCast.1 this
   rw [if_neg c];right;have i:dQ 1 (gU (cT a b k))=0:=by unfold dQ gU;rw [if_neg (by omega),if_neg (by omega),if_neg (by omega)]
   rw [i];exact⟨rfl,by decide⟩
 .obtain⟨x,u,r⟩:=nA hz;have J:=o5 (g:=(cT a b k).natAbs) u r;have w:(0:Int) < (cV (cL a b k) (cT a b k):Int):=by unfold cV;omega
  have A:∀x∈bz (cL a b k),(cV (cL a b k) (cT a b k):Int) ∣ x:=λx u=>mI u;have z:(cV (cL a b k) (cT a b k):Int) ∣ cT a b k:=SB.2 (qD _ _);have d:=vw xs A;rw [qb] at d;have v:=y5 z;have e:(cC a b k).1=bh (cV (cL a b k) (cT a b k):Int) (bz (cL a b k)):=rfl;have q:(cC a b k).2.2=cT a b k / (cV (cL a b k) (cT a b k):Int):=by show dJ _ _ _=_;unfold dJ;rw [if_neg hz]
  unfold dy;rw [e,q,p];by_cases c:(a.less || b.less)=true
  .have:=m c;rw [<-d,<-v] at this;rw [if_pos c];exact .inl ⟨(Iu w).1 this,by decide⟩
  .rw [if_neg c];rw [<-d,<-v] at f;have D:=V7 f (kI w);rcases Vg.1 D with h | h
   .exact .inl ⟨h,by decide⟩
   .exact .inr ⟨h,by decide⟩
theorem JZ{n k:Nat}(hk:k < n){rows:List R}(hr:∀r∈rows,cS n r){xs:List Rat}(h:∀r∈rows,dy (bo r) xs):∀c∈(gP n k rows).2,dy c xs:=
 yM (λr hm _=>(FZ (hr r hm).kd).2 (h r hm)) (λa d b hb _=>M7 (tH hk rows 0 hr a d) (r9 hk rows 0 hr b hb) (Jk h a d) (DW h b hb))
end Go.Aev.Gen
namespace Go.Aev.Wd.Lg
open Go Go.Aev Go.Aev.Gen Go.Aev.Wd
theorem sa(v:Rat):∀(of:List Int) (xs:List Rat) (k:Nat) (y:Rat),xs[k]? =some y->aX of (xs.set k v)=aX of xs+ (v - y) * ((of.getD k 0:Int):Rat)
 | [],xs,k,y,h=>by
  have h1:(([]:List Int).getD k 0:Int)=0:=by simp
  have a:((0:Int):Rat)=0:=rfl;rw [iQ,iQ,h1,a];grind
 | c::of,[],k,y,h=>by simp at h
 | c::of,x::xs,0,y,h=>by simp only [Tq,RJ] at h;subst h;have h1:((c::of).getD 0 0:Int)=c:=rfl;rw [UK,aX,aX,h1];grind
 | c::of,x::xs,k+1,y,h=>by
  have b:=sa v of xs k y (by simpa using h);have h1:((c::of).getD (k+1) 0:Int)=of.getD k 0:=by simp
  rw [Uj,aX,aX,b,h1];grind
def bv(k:Nat)(X:List Rat)(b:Bn):Rat:=((b.to:Rat) - aX b.of X) / ((b.of.getD k 0:Int):Rat)
theorem pZ{k:Nat}{X:List Rat}{b:Bn}(h:((b.of.getD k 0:Int):Rat)≠0):bv k X b * ((b.of.getD k 0:Int):Rat)= (b.to:Rat) - aX b.of X:=by unfold bv;rw [SF,Rat.mul_assoc,UP _ h,Rat.mul_one]
theorem HB{c:Rat}(h: 0 < c):c≠0:=λe=>by rw [e] at h;exact absurd h Rat.lt_irrefl
theorem GR{c:Int}(h:c < 0): 0 < -((c:Int):Rat):=by have:=kI (g:= -c) (by omega);rwa [Uu] at this
theorem J5{k:Nat}{X:List Rat}{b:Bn}{v:Rat}(d:X[k]? =some 0)(f:b.of.getD k 0 > 0)(h:v<=bv k X b)(hs:b.less=true->v < bv k X b):BH b (X.set k v):=by
 have a:=kI f;have hm:=pZ (k:=k) (X:=X) (b:=b) (HB a);have e:=sa v b.of X k 0 d;unfold BH;rw [e];generalize bv k X b=q at *
 generalize ((b.of.getD k 0:Int):Rat)=c at *
 refine⟨?_,λhl=> ?_⟩
 .have:=Tj h (Tn a);grind
 .have:=Ux (hs hl) a;grind
theorem J4{k:Nat}{X:List Rat}{b:Bn}{v:Rat}(f:X[k]? =some 0)(i:b.of.getD k 0 < 0)(h:bv k X b<=v)(hs:b.less=true->bv k X b < v):BH b (X.set k v):=by
 have a:=GR i;have d:((b.of.getD k 0:Int):Rat)≠0:=λe=>by rw [e] at a;exact absurd a (by decide)
 have hm:=pZ (k:=k) (X:=X) (b:=b) d;have g:=sa v b.of X k 0 f;unfold BH;rw [g];generalize bv k X b=q at *
 generalize ((b.of.getD k 0:Int):Rat)=c at *
 refine⟨?_,λhl=> ?_⟩
 .have:=Tj h (Tn a);grind
 .have:=Ux (hs hl) a;grind
theorem OM{n k:Nat}{a b:Bn}{X:List Rat}(q:Up n k a)(hb:Dn n k b)(h:dy (cC a b k) X):bv k X b<=bv k X a/\((a.less || b.less)=true->bv k X b < bv k X a):=by
 obtain⟨r,_,_⟩:=pq q hb;have L:(cG a b k:Int) ∣ a.of.getD k 0:=SB.2 (Ug _ _);have v:(cG a b k:Int) * cP a b k=a.of.getD k 0:=Tg L;have M:(cG a b k:Int) ∣ -(b.of.getD k 0):=SB.2 (Uy _ _);have N:(cG a b k:Int) * cQ a b k= -(b.of.getD k 0):=Tg M;have A:=q.iL;have R:=hb.iL;have T: 0 < cP a b k:=by have:=A;rw [<-v] at this;rw [gt_iff_lt,Sd] at this;exact UJ this r
 have U: 0 < cQ a b k:=by
  have z: 0 < (cG a b k:Int) * cQ a b k:=by rw [N];omega
  rw [Sd] at z;exact UJ z r
 have s:aX (cL a b k) X= (cQ a b k:Rat) * aX a.of X+ (cP a b k:Rat) * aX b.of X:=zn _ _ _ _ _ (by rw [q.len,hb.len]);have V:(cT a b k:Rat)= (cQ a b k:Rat) * (a.to:Rat)+ (cP a b k:Rat) * (b.to:Rat):=by unfold cT;rw [VG,S9,S9]
 have j:(cC a b k).2.1=if(a.less || b.less)=true then 2 else 1:=rfl;have f:aX (cL a b k) X<=(cT a b k:Rat)/\((a.less || b.less)=true->aX (cL a b k) X < (cT a b k:Rat)):=by
  by_cases hz:bz (cL a b k)= []
  .have p:aX (cL a b k) X=0:=by rw [<-qb,hz,iQ]
   have l:(cC a b k).1= []:=by show bh _ (bz (cL a b k))= [];rw [hz];rfl
   have o:(cC a b k).2.2=dQ (cB a b) (gU (cT a b k)):=by show dJ _ _ _=_;unfold dJ;rw [if_pos hz]
   unfold dy at h;rw [l,iQ,o,j] at h;rw [p];have u:∀m:Int,((0:Rat) < (m:Rat)↔0 < m):=λm=>by have:((0:Int):Rat) < (m:Rat)↔0 < m:=UW;exact this
   have J:∀m:Int,((0:Rat)= (m:Rat)↔0=m):=λm=>by have:((0:Int):Rat)= (m:Rat)↔0=m:=Rat.intCast_inj;exact this
   have K:∀m:Int,((0:Rat)<=(m:Rat)↔0<=m):=λm=>by have:((0:Int):Rat)<=(m:Rat)↔0<=m:=Rat.intCast_le_intCast;exact this
   rw [u,J] at h;rw [K,u];unfold cB dQ gU at h;by_cases d:(a.less || b.less)=true
   .simp only [d,if_true] at h;have: 0 < cT a b k:=by
     rcases h with⟨h,_⟩ | ⟨_,h⟩
     .simp at h;split at h <;> omega
     .exact absurd rfl h
    exact⟨by omega,λ_=>this⟩
   .simp only [d] at h;have: 0<=cT a b k:=by
     rcases h with⟨h,_⟩ | ⟨h,_⟩
     .simp at h;omega
     .simp at h;omega
    exact⟨this,λh=>absurd h d⟩
  .obtain⟨x,t,p⟩:=nA hz;have hgp:=o5 (g:=(cT a b k).natAbs) t p;have S:(0:Int) < (cV (cL a b k) (cT a b k):Int):=by unfold cV;omega
   have F:∀x∈bz (cL a b k),(cV (cL a b k) (cT a b k):Int) ∣ x:=λx t=>mI t;have E:(cV (cL a b k) (cT a b k):Int) ∣ cT a b k:=SB.2 (qD _ _);have I:=vw X F;rw [qb] at I;have W:=y5 E;have l:(cC a b k).1=bh (cV (cL a b k) (cT a b k):Int) (bz (cL a b k)):=rfl;have o:(cC a b k).2.2=cT a b k / (cV (cL a b k) (cT a b k):Int):=by show dJ _ _ _=_;unfold dJ;rw [if_neg hz]
   unfold dy at h;rw [l,o,j] at h;rw [<-I,<-W];rcases h with⟨h,_⟩ | ⟨h,w⟩
   .have:=(Iu S).2 h;exact⟨Tn this,λ_=>this⟩
   .rw [h];refine⟨To,λd=> ?_⟩;rw [if_pos d] at w;exact absurd rfl w
 rw [s,V] at f;have H:=kI r;have C:=kI T;have D:=kI U;have Y:=pZ (k:=k) (X:=X) (b:=a) (HB (kI A));have i:=GR R;have Z:=pZ (k:=k) (X:=X) (b:=b) (λe=>by rw [e] at i;exact absurd i (by decide));have O:((a.of.getD k 0:Int):Rat)= ((cG a b k:Nat):Int) * (cP a b k:Rat):=by rw [<-v,S9]
 have eB:((b.of.getD k 0:Int):Rat)= -((((cG a b k:Nat):Int):Rat) * (cQ a b k:Rat)):=by rw [<-S9,<-Uu];congr 1;omega
 rw [O] at Y;rw [eB] at Z;have B:(0:Rat) < (((cG a b k:Nat):Int):Rat) * (cP a b k:Rat) * (cQ a b k:Rat):=Wq (Wq H C) D;generalize bv k X a=x at *
 generalize bv k X b=y at *
 generalize (((cG a b k:Nat):Int):Rat)=G at *
 generalize (cP a b k:Rat)=P at *
 generalize (cQ a b k:Rat)=Q at *
 have key:G * P * Q * (x - y)= (Q * (a.to:Rat)+P * (b.to:Rat)) - (Q * aX a.of X+P * aX b.of X):=by grind
 refine⟨?_,λd=> ?_⟩
 .refine V7 (c:=G * P * Q) ?_ B;have:=f.1;grind
 .refine(VI B).1 ?_;have:=f.2 d;grind
theorem Jm{n k:Nat}:∀(rows:List R) (i:Nat),∀b∈cA n k rows i,(i:Int)<=b.dv
 | [],_,b,h=>by simp [cA] at h
 | r::a,i,b,h=>by
  rw [cA] at h;rcases RX.1 h with h | h
  .unfold fM at h;split at h
   .rw [RP] at h;subst h;exact US _
   .split at h
    .rw [RP] at h;subst h;exact US _
    .cases h
  .have:=Jm a (i+1) b h;omega
theorem DX{n k:Nat}:∀(rows:List R) (i:Nat),∀b∈cD n k rows i,(i:Int)<=b.dv
 | [],_,b,h=>by simp [cD] at h
 | r::a,i,b,h=>by
  rw [cD] at h;rcases RX.1 h with h | h
  .unfold ft at h;split at h
   .rw [RP] at h;subst h;exact US _
   .split at h
    .rw [RP] at h;subst h;exact US _
    .cases h
  .have:=DX a (i+1) b h;omega
theorem Rh{n k i:Nat}{r:R}{b:Bn}(h:b∈fM n k i r):b.dv= (i:Int):=by
 unfold fM at h;split at h
 .rw [RP] at h;subst h;rfl
 .split at h
  .rw [RP] at h;subst h;rfl
  .cases h
theorem KV{n k i:Nat}{r:R}{b:Bn}(h:b∈ft n k i r):b.dv= (i:Int):=by
 unfold ft at h;split at h
 .rw [RP] at h;subst h;rfl
 .split at h
  .rw [RP] at h;subst h;rfl
  .cases h
def CH(a b:Bn):Prop:=((a.of=cZ b.of/\a.to= -b.to)\/(b.of=cZ a.of/\b.to= -a.to))/\a.less=false/\b.less=false
theorem Iq{n k:Nat}:∀(rows:List R) (i:Nat),∀a∈cA n k rows i,∀b∈cD n k rows i,a.dv=b.dv->CH a b
 | [],_,a,c,_,_,_=>by simp [cA] at c
 | r::e,i,a,c,b,hb,h=>by
  rw [cA] at c;rw [cD] at hb;rcases RX.1 c with c | c
  .rcases RX.1 hb with hb | hb
   .unfold fM at c;unfold ft at hb;by_cases f:r.of.getD k 0 > 0
    .rw [if_pos f,RP] at c;rw [if_neg (by omega)] at hb;split at hb
     .rename_i d;rw [RP] at hb;subst c hb;exact⟨.inr ⟨rfl,rfl⟩,by rw [d.2];rfl,rfl⟩
     .cases hb
    .rw [if_neg f] at c;split at c
     .rename_i d;rw [if_pos d.1,RP] at hb;rw [RP] at c;subst c hb;exact⟨.inl ⟨rfl,rfl⟩,rfl,by rw [d.2];rfl⟩
     .cases c
   .have h1:=Rh c;have g:=DX e (i+1) b hb;omega
  .rcases RX.1 hb with hb | hb
   .have h1:=KV hb;have g:=Jm e (i+1) a c;omega
   .exact Iq e (i+1) a c b hb h
theorem Oz{k:Nat}{a b:Bn}{X:List Rat}(h:CH a b)(l:a.of.getD k 0 > 0):bv k X b=bv k X a:=by
 have f:∀p q:Bn,q.of=cZ p.of->q.to= -p.to->p.of.getD k 0≠0->bv k X q=bv k X p:=by
  intro p q h1 d j;have hk:q.of.getD k 0= -(p.of.getD k 0):=by rw [h1,qM]
  have g:((p.of.getD k 0:Int):Rat)≠0:=λe=>j (Rat.intCast_eq_zero_iff.1 e);have i:((q.of.getD k 0:Int):Rat)= -((p.of.getD k 0:Int):Rat):=by rw [hk,Uu]
  have n:=pZ (k:=k) (X:=X) (b:=p) g;have m:=pZ (k:=k) (X:=X) (b:=q) (by rw [i];intro e;apply g;grind);rw [i,h1,zl,d,Uu] at m;generalize bv k X p=x at *
  generalize bv k X q=y at *
  generalize ((p.of.getD k 0:Int):Rat)=c at *
  grind
 rcases h.1 with⟨h1,d⟩ | ⟨h1,d⟩
 .have:b.of.getD k 0≠0:=by
   have:=l;rw [h1,qM] at this;omega
  exact(f b a h1 d this).symm
 .exact f a b h1 d (by omega)
theorem Ac{k:Nat}{a:Bn}:∀(f:List Bn) (d:List C),(eP k a f d).1=0->(∀c∈d,c∈(eP k a f d).2)/\∀b∈f,a.dv≠b.dv->cC a b k∈(eP k a f d).2
 | [],d,_=>⟨λc h=>h,λb h=>by cases h⟩
 | b::f,d,h=>by
  rw [eP] at h⊢;by_cases h1:a.dv=b.dv
  .rw [if_pos h1] at h⊢;obtain⟨g,i⟩:=Ac f d h;refine⟨g,λc e hn=> ?_⟩;rcases RV.1 e with rfl | e
   .exact absurd h1 hn
   .exact i c e hn
  .rw [if_neg h1] at h⊢;by_cases j:lI a b k=false
   .rw [if_pos j] at h;cases h
   .rw [if_neg j] at h⊢;by_cases l:d.length+1 > 40
    .rw [if_pos l] at h;cases h
    .rw [if_neg l] at h⊢;obtain⟨g,i⟩:=Ac f (d++ [cC a b k]) h;refine⟨λc e=>g c (RY _ e),λc e hn=> ?_⟩;rcases RV.1 e with rfl | e
     .exact g _ (RW _ (RP.2 rfl))
     .exact i c e hn
theorem Hr{k:Nat}(e:List Bn):∀(hs:List Bn) (d:List C),(gv k e hs d).1=0->(∀c∈d,c∈(gv k e hs d).2)/\∀a∈hs,∀b∈e,a.dv≠b.dv->cC a b k∈(gv k e hs d).2
 | [],d,_=>⟨λc h=>h,λa h=>by cases h⟩
 | a::hs,d,h=>by
  rw [gv] at h⊢;by_cases h1:(eP k a e d).1=0
  .rw [if_pos h1] at h⊢;obtain⟨i,j⟩:=Ac e d h1;obtain⟨o1,l⟩:=Hr e hs _ h;refine⟨λc g=>o1 c (i c g),λx f b hb hn=> ?_⟩;rcases RV.1 f with rfl | f
   .exact o1 _ (j b hb hn)
   .exact l x f b hb hn
  .rw [if_neg h1] at h;exact absurd h h1
theorem Fw{k:Nat}:∀(rows:List R),∀r∈rows,r.of.getD k 0=0->lh r∈gr k rows
 | [],r,h,_=>by cases h
 | q::b,r,h,a=>by
  rw [gr];rcases RV.1 h with rfl | h
  .rw [if_pos a];exact RL
  .have:=Fw b r h a;split
   .exact RM _ this
   .exact this
theorem H0{n k:Nat}{xs:List Rat}:∀(rows:List R) (i:Nat),(∀r∈rows,cS n r)->(∀b∈cA n k rows i,BH b xs)->(∀b∈cD n k rows i,BH b xs)->(∀r∈rows,r.of.getD k 0=0->dy (bo r) xs)->∀r∈rows,dy (bo r) xs
 | [],_,_,_,_,_,r,h=>by cases h
 | q::t,i,ok,l,g,m,r,h=>by
  rw [cA] at l;rw [cD] at g;rcases RV.1 h with rfl | h
  .have o:=(ok r RL).kd;have d:∀b∈fM n k i r,BH b xs:=λb hb=>l b (RY _ hb);have c:∀b∈ft n k i r,BH b xs:=λb hb=>g b (RY _ hb);unfold fM at d;unfold ft at c;have own:∀b:Bn,b= ⟨true,cE n r.of,r.tv,r.kd==2,(i:Int)⟩->BH b xs->(r.kd=3->BH ⟨true,cZ (cE n r.of), -r.tv,false,(i:Int)⟩ xs)->dy (bo r) xs:=by
    intro b hb h1 p;subst hb;unfold BH at h1;unfold dy;simp only [bo,vA,beq_iff_eq] at h1⊢;rcases o with a | a | a
    .rcases Vg.1 h1.1 with e | e
     .exact .inl ⟨e,by omega⟩
     .exact .inr ⟨e,by omega⟩
    .exact .inl ⟨h1.2 a,by omega⟩
    .have f:=p a;unfold BH at f;simp only [zl,vA,Uu] at f;have s:=h1.1;have u:=f.1;refine .inr ⟨Wl s ?_,by omega⟩;grind
   by_cases j:r.of.getD k 0 > 0
   .rw [if_pos j] at d;rw [if_neg (by omega)] at c;refine own _ rfl (d _ (RP.2 rfl)) λa=> ?_;rw [if_pos ⟨j,a⟩] at c;exact c _ (RP.2 rfl)
   .by_cases hm:r.of.getD k 0 < 0
    .rw [if_neg j] at d;rw [if_pos hm] at c;refine own _ rfl (c _ (RP.2 rfl)) λa=> ?_;rw [if_pos ⟨hm,a⟩] at d;exact d _ (RP.2 rfl)
    .exact m r RL (by omega)
  .exact H0 t (i+1) (λr hr=>ok r (RM _ hr)) (λb hb=>l b (RW _ hb)) (λb hb=>g b (RW _ hb)) (λr hr=>m r (RM _ hr)) r h
end Go.Aev.Wd.Lg
