import Derived.Test.YticjdhgokemdlaaGreatMostTwiceQ2
import Derived.MapKept
import Derived.ChangeMaps5
set_option linter.all false
namespace Go.Aev
open Go Go.IntKind
section
variable {P:Program} {w w':World} {A A':Nat->Prop} {c:Ctx} {ρ:Id->Option Value} {O:Id->Option Nat} {s:St} {cc:Option Bool} {h:Id->Option ab}
def iX(ρ:Id->Option Value)(i i':Id)(nx:Nat)(v vk:Value):Id->Option Value:=λx=>
 if x=i' then some v else match x with
  | .g y n=>if y=i' then(if n=nx then some vk else ρ (.g i n)) else ρ (.g y n)
  | x=>ρ x
def eT(O:Id->Option Nat)(i i' j src:Id)(nx:Nat)(ob:Option Nat):Id->Option Nat:=λx=>
 if x=i' then ob else if x=i\/x=j\/x=src then none else match x with
  | .g y n=>if y=i' then(if n=nx then O src else O (.g i n)) else if y=i then none else O (.g y n)
  | x=>O x
def vU(i i' j src:Id)(nx:Nat):Id->Option Id:=λx=>
 if x=i' then some i else if x=i\/x=j\/x=src then none else match x with
  | .g y n=>if y=i' then(if n=nx then some src else some (.g i n)) else if y=i then none else some (.g y n)
  | x=>some x
def nV(i i' src:Id)(nx:Nat):Id->Id:=λz=>
 if z=i then i' else if z=src then .g i' nx else match z with
  | .g y n=>if y=i then .g i' n else .g y n
  | z=>z
theorem zQ{i i' j src:Id}{nx:Nat}(p:src≠i)(o:∀n,src≠ .g i n)(m:i.real=true){x z:Id}(b:vU i i' j src nx x=some z):nV i i' src nx z=x:=by
 unfold vU at b;split at b
 .rename_i h;simp only [U7] at b;subst b;unfold nV;rw [if_pos rfl,h]
 .rename_i h1;split at b
  .cases b
  .rename_i l;have f:x≠i:=λe=>l (.inl e);have k:x≠src:=λe=>l (.inr (.inr e));cases x with
   | g y n=>
    dsimp only at b;split at b
    .rename_i e;subst e;split at b
     .rename_i e2;simp only [U7] at b;subst b;unfold nV;rw [if_neg p,if_pos rfl,e2]
     .simp only [U7] at b;subst b;unfold nV;rw [if_neg (aP m),if_neg (λe=>o n e.symm)];simp
    .split at b
     .cases b
     .rename_i e3;simp only [U7] at b;subst b;unfold nV;rw [if_neg f,if_neg k];simp [e3]
   | c a=>simp only [U7] at b;subst b;unfold nV;rw [if_neg f,if_neg k]
   | s d a=>simp only [U7] at b;subst b;unfold nV;rw [if_neg f,if_neg k]
theorem R0{i i' j src:Id}{nx:Nat}{ob:Option Nat}{x:Id}{d:Nat}(b:eT O i i' j src nx ob x=some d):(x=i'/\ob=some d)\/(x≠i'/\∃z,vU i i' j src nx x=some z/\O z=some d):=by
 unfold eT at b;unfold vU;split at b
 .exact .inl ⟨by assumption,b⟩
 .rename_i h1;right;refine⟨h1, ?_⟩;rw [if_neg h1];split at b
  .cases b
  .rename_i f;rw [if_neg f];cases x with
   | g y n=>
    dsimp only at b⊢;split at b
    .rename_i e;rw [if_pos e];split at b
     .rename_i e2;rw [if_pos e2];exact⟨_,rfl,b⟩
     .rename_i e2;rw [if_neg e2];exact⟨_,rfl,b⟩
    .rename_i e;rw [if_neg e];split at b
     .cases b
     .rename_i e3;rw [if_neg e3];exact⟨_,rfl,b⟩
   | c a=>exact⟨_,rfl,b⟩
   | s d a=>exact⟨_,rfl,b⟩
theorem HS.Kf{i i' j src s0:Id}{b:Bool}{sz aD rsz nx:Nat}{es:List Row}{l:List T}{bb:Bool}{xs:List (List T)}{vk:Value}{X:ab}{ah blk' off off' cap':Nat}{N:Array Value}{t':TypeId}{ob:Option Nat}{news:List Value}
  (hs:HS c w h ρ O) (hi:h i=some (.rows b sz aD rsz nx es)) (I:h i'=none) (hrl:i'.real=true) (hj:h j≠none) (hji:j≠i) (hs0:h s0≠none) (hs0i:s0≠i) (hs0j:s0≠j)
  (t:src=s0\/∃n,src= .g s0 n) (hvk:ρ src=some vk) (hsl:cT w (AA c w O) rsz bb xs vk (λd=>O src=some d))
  (hos:w'.os=w.os) (ho:w'.output=w.output) (htp:w'.tape=w.tape) (hsz:w.heap.size<=w'.heap.size) (W:∀k,k < w.heap.size->O i≠some k->w'.heap[k]? =w.heap[k]?)
  (Y:ob=O i\/(ob=some w.heap.size/\w.heap.size < w'.heap.size)) (hobs:ob=some blk') (hb:w'.heap[blk']? =some (.cells N t' (0,0))) (hfit:off'+cap' * sz<=N.size) (hcap:es.length+1<=cap')
  (hrows:cr w (AA c w O) ρ O i ah sz aD rsz off es) (hold:∀p,p < es.length * sz->w'.cell? ⟨blk',off'+p,none⟩=w.cell? ⟨ah,off+p,none⟩)
  (hcol:aD < sz) (hl:l.length=sz) (hnew:∀p v,news[p]? =some v->w'.cell? ⟨blk',off'+es.length * sz+p,none⟩=some v) (hnr:∀m x,m≠aD->l[m]? =some x->∃v,news[m]? =some v/\aB w (AA c w O) x v) (hnk:news[aD]? =some vk)
  (hX:(∀b,AA c w O b->AA c w' (eT O i i' j src nx ob) b/\w'.heap[b]? =w.heap[b]?)->de w' (AA c w' (eT O i i' j src nx ob)) (iX ρ i i' nx (.slice (some ⟨blk',off',none⟩) (es.length+1) cap') vk) (eT O i i' j src nx ob) s0 X):
  Le w ρ O w' (iX ρ i i' nx (.slice (some ⟨blk',off',none⟩) (es.length+1) cap') vk) (eT O i i' j src nx ob)/\
  HS c w' (aE (aE (aE (aE h i (some .dead)) j (some .dead)) s0 (some X)) i' (some (.rows false sz aD rsz (nx+1) (es++ [⟨nx,l,some (bb,xs)⟩])))) (iX ρ i i' nx (.slice (some ⟨blk',off',none⟩) (es.length+1) cap') vk) (eT O i i' j src nx ob):=by
 have B:=hs.real (i:=i) (by rw [hi];simp);have L:=hs.real hj;have K:=hs.real hs0;have hii:i'≠i:=λe=>by rw [e,hi] at I;cases I
 have hij:i'≠j:=λe=>hj (e▸I);have hi0:i'≠s0:=λe=>hs0 (e▸I);have M:src≠i:=by
  rcases t with rfl | ⟨n,rfl⟩
  .exact hs0i
  .exact aP B
 have hsj:src≠j:=by
  rcases t with rfl | ⟨n,rfl⟩
  .exact hs0j
  .exact aP L
 have hsi':src≠i':=by
  rcases t with rfl | ⟨n,rfl⟩
  .exact hi0.symm
  .exact aP hrl
 have Z:∀n,src≠ .g i n:=by
  intro n;rcases t with rfl | ⟨m,rfl⟩
  .exact(aP K).symm
  .intro e;simp only [Id.g.injEq] at e;exact hs0i e.1
 have hsg':∀n,src≠ .g i' n:=by
  intro n;rcases t with rfl | ⟨m,rfl⟩
  .exact(aP K).symm
  .intro e;simp only [Id.g.injEq] at e;exact hi0 e.1.symm
 obtain⟨a,cap,r1,r2,r3,⟨n1,n2,n3,n4⟩,r5⟩:=hs.ah i _ hi;obtain⟨V,hV⟩:∃V,V=iX ρ i i' nx (.slice (some ⟨blk',off',none⟩) (es.length+1) cap') vk:=⟨_,rfl⟩;obtain⟨Q,R⟩:∃Q,Q=eT O i i' j src nx ob:=⟨_,rfl⟩;rw [<-hV,<-R] at hX⊢;have V1:V i'=some (.slice (some ⟨blk',off',none⟩) (es.length+1) cap'):=by rw [hV];unfold iX;rw [if_pos rfl]
 have V2:∀x,x.real=true->x≠i'->V x=ρ x:=by
  intro x F o;rw [hV];unfold iX;rw [if_neg o];cases x with
  | g y n=>cases F
  | _=>rfl
 have V3:∀y n,y≠i'->V (.g y n)=ρ (.g y n):=by intro y n hy;rw [hV];unfold iX;rw [if_neg (aP hrl)];simp only [if_neg hy]
 have V4:∀n,V (.g i' n)=if n=nx then some vk else ρ (.g i n):=by intro n;rw [hV];unfold iX;rw [if_neg (aP hrl)];simp
 have Q1:Q i'=ob:=by rw [R];unfold eT;rw [if_pos rfl]
 have Q0:∀x,x≠i'->(x=i\/x=j\/x=src)->Q x=none:=by intro x o C;rw [R];unfold eT;rw [if_neg o,if_pos C]
 have Q2:∀x,x.real=true->x≠i'->x≠i->x≠j->x≠src->Q x=O x:=by
  intro x F o h1 C h3;rw [R];unfold eT;rw [if_neg o,if_neg (by rintro(h | h | h) <;> contradiction)];cases x with
  | g y n=>cases F
  | _=>rfl
 have Q3:∀y n,y≠i'->y≠i->Id.g y n≠src->Q (.g y n)=O (.g y n):=by intro y n hy hy2 h3;rw [R];unfold eT;rw [if_neg (aP hrl),if_neg (by rintro(h | h | h);exact aP B h;exact aP L h;exact h3 h)];simp only [if_neg hy,if_neg hy2]
 have Q4:∀n,Q (.g i' n)=if n=nx then O src else O (.g i n):=by intro n;rw [R];unfold eT;rw [if_neg (aP hrl),if_neg (by rintro(h | h | h);exact aP B h;exact aP L h;exact hsg' n h.symm)];simp
 have U:∀x d,Q x=some d->(x=i'/\ob=some d)\/(x≠i'/\∃z,vU i i' j src nx x=some z/\O z=some d):=λx d o=>R0 (by rw [<-R];exact o);have le:Le w ρ O w' V Q:=by
  refine⟨hos,ho,htp,hsz,λx u o=> ?_,λd r hn=>W d r (hn i),λx d o=> ?_⟩
  .cases F:x.real with
   | true=>
    have:x≠i':=λe=>by rw [e,(hs.cC i' hrl I).1] at o;cases o
    rw [V2 x F this];exact o
   | false=>
    cases x with
    | g y n=>
     have:y≠i':=λe=>by rw [e,(hs.fO i' n I).1] at o;cases o
     rw [V3 y n this];exact o
    | _=>cases F
  .rcases U x d o with⟨_,h1⟩ | ⟨_,z,_,C⟩
   .rcases Y with e | ⟨e,_⟩
    .exact .inl ⟨i,by rw [<-e];exact h1⟩
    .rw [e] at h1;cases h1;exact .inr (Vq _)
   .exact .inl ⟨z,C⟩
 have hA:∀d,AA c w O d->AA c w' Q d/\w'.heap[d]? =w.heap[d]?:=λd r=>le.A d r;have E:∀x d,x≠i->O x=some d->w'.heap[d]? =w.heap[d]?:=λx d o r=>W d (hs.lt x d r) λe=>o (hs.inj x i d r e);refine⟨le,hs.o7 le (λx y o=> ?_) (λx F o=> ?_) (λx n=> ?_) (λx n o=> ?_) (λx n u H=> ?_) (λx y d o hy=> ?_) (λx d o=> ?_)⟩
 .by_cases J:x=i'
  .subst J;rw [aF] at o;cases o;right;have hlen:(es++ [(⟨nx,l,some (bb,xs)⟩:Row)]).length=es.length+1:=by simp
   refine⟨some ⟨blk',off',none⟩,cap',by rw [hlen];exact V1,by rw [hlen];exact hcap,by simp,⟨?_,λf D=> ?_,λn hn=> ?_,λn d r=> ?_⟩, .inr ⟨blk',off',N,t',rfl,by rw [Q1];exact hobs,hb,hfit,cr.append ?_ ⟨?_,trivial⟩⟩⟩
   .rw [W2,W6];refine⟨n1,by simp,λa ha b hb=> ?_⟩;simp only [V6,X9,Vk] at hb;obtain⟨f,D,e⟩:=VK.1 ha;have:=n2 f D;omega
   .rcases Vr.1 D with D | D
    .have:=n2 f D;omega
    .simp only [Vk] at D;subst D;simp
   .rw [V4,if_neg (by omega)];exact n3 n (by omega)
   .rw [Q4] at r;by_cases en:n=nx
    .exact⟨_,Vp _ (Vk.2 rfl),en.symm⟩
    .rw [if_neg en] at r;obtain⟨f,D,hfn⟩:=n4 n d r;exact⟨f,Vn _ D,hfn⟩
   .refine cr.move hA hold (λf D=> ?_) hrows;have q:f.n≠nx:=by have:=n2 f D;omega
    exact⟨by rw [V4,if_neg q],by rw [Q4,if_neg q],λd r=>E _ d (aP B) r⟩
   .refine⟨hl,hcol,λm y hm hy=> ?_,vk,hnew aD vk hnk,by rw [V4];simp, ?_⟩
    .obtain⟨v,g1,g2⟩:=hnr m y hm hy;exact⟨v,hnew m v g1,aB.mono hA y v g2⟩
    .simp only;refine cT.mono hA (λd r=> ?_) hsl;rw [Q4];exact⟨by simpa using r,E src d M r⟩
  .rw [ar _ _ J] at o;by_cases e2:x=s0
   .subst e2;rw [aF] at o;cases o;exact .inr (hX hA)
   .rw [ar _ _ e2] at o;by_cases e3:x=j
    .subst e3;rw [aF] at o;cases o;obtain⟨y,hy⟩:=YA.1 hj;have:∃u,ρ x=some u:=by
      cases G:ρ x with
      | some u=>exact⟨u,rfl⟩
      | none=>
       exfalso;have:=hs.ah x y hy;cases y with
       | box cs=>obtain⟨b,_,_,h1,_⟩:=this;rw [G] at h1;cases h1
       | sl fz sz b xs=>obtain⟨v,h1,_⟩:=this;rw [G] at h1;cases h1
       | iW l=>obtain⟨b,h1,_⟩:=this;rw [G] at h1;cases h1
       | mp ag ks vk es=>obtain⟨b,_,_,h1,_⟩:=this;rw [G] at h1;cases h1
       | arr cs=>obtain⟨b,_,_,h1,_⟩:=this;rw [G] at h1;cases h1
       | rows _ _ _ _ _ _=>obtain⟨_,_,h1,_⟩:=this;rw [G] at h1;cases h1
       | dead=>obtain⟨⟨v,h1,_⟩,_⟩:=this;rw [G] at h1;cases h1
     obtain⟨u,H⟩:=this;exact .inr ⟨⟨u,by rw [V2 x L J];exact H,kF hs H⟩,Q0 x J (.inr (.inl rfl))⟩
    .rw [ar _ _ e3] at o;by_cases e4:x=i
     .subst e4;rw [aF] at o;cases o;exact .inr ⟨⟨_,by rw [V2 x B J];exact r1,rfl,rfl⟩,Q0 x J (.inl rfl)⟩
     .rw [ar _ _ e4] at o;have hrx:=hs.real (i:=x) (by rw [o];simp);have e5:x≠src:=by
       rcases t with rfl | ⟨n,rfl⟩
       .exact e2
       .exact(aP hrx).symm
      refine .inl ⟨o,Q2 x hrx J e4 e3 e5,λd r=>E x d e4 r,λn=>⟨V3 x n J,Q3 x n J e4 ?_,λd r=>E _ d (aP B) r⟩⟩;rcases t with rfl | ⟨m,rfl⟩
      .exact aP K
      .intro e;simp only [Id.g.injEq] at e;exact e2 e.1
 .have q:x≠i':=λe=>by rw [e,aF] at o;cases o
  rw [ar _ _ q] at o;have h0:x≠s0:=λe=>by rw [e,aF] at o;cases o
  rw [ar _ _ h0] at o;have h1:x≠j:=λe=>by rw [e,aF] at o;cases o
  rw [ar _ _ h1] at o;have C:x≠i:=λe=>by rw [e,aF] at o;cases o
  rw [ar _ _ C] at o;have h5:x≠src:=by
   rcases t with rfl | ⟨n,rfl⟩
   .exact h0
   .exact(aP F).symm
  rw [V2 x F q,Q2 x F q C h1 h5];exact hs.cC x F o
 .rw [ar _ _ (aP hrl),ar _ _ (aP K),ar _ _ (aP L),ar _ _ (aP B)];exact hs.eH x n
 .have q:x≠i':=λe=>by rw [e,aF] at o;cases o
  rw [ar _ _ q] at o;have h0:x≠s0:=λe=>by rw [e,aF] at o;cases o
  rw [ar _ _ h0] at o;have h1:x≠j:=λe=>by rw [e,aF] at o;cases o
  rw [ar _ _ h1] at o;have C:x≠i:=λe=>by rw [e,aF] at o;cases o
  rw [ar _ _ C] at o;have h5:Id.g x n≠src:=by
   rcases t with rfl | ⟨m,rfl⟩
   .exact aP K
   .intro e;simp only [Id.g.injEq] at e;exact h0 e.1
  rw [V3 x n q,Q3 x n q C h5];exact hs.fO x n o
 .by_cases q:x=i'
  .subst q;rw [V4] at H;split at H
   .simp only [U7] at H;subst H;exact kF hs hvk
   .exact hs.gone i n u H
  .rw [V3 x n q] at H;exact hs.gone x n u H
 .rcases U x d o with⟨x1,x2⟩ | ⟨x1,z,x2,x3⟩ <;> rcases U y d hy with⟨y1,S⟩ | ⟨y1,z',S,y3⟩
  .rw [x1,y1]
  .rcases Y with e | ⟨e,_⟩
   .rw [e] at x2;have:=hs.inj i z' d x2 y3;subst this;have:=zQ M Z B S;unfold nV at this;rw [if_pos rfl] at this;rw [x1];exact this
   .rw [e] at x2;cases x2;exact absurd (hs.lt _ _ y3) (XN _)
  .rcases Y with e | ⟨e,_⟩
   .rw [e] at S;have:=hs.inj i z d S x3;subst this;have:=zQ M Z B x2;unfold nV at this;rw [if_pos rfl] at this;rw [y1];exact this.symm
   .rw [e] at S;cases S;exact absurd (hs.lt _ _ x3) (XN _)
  .have:=hs.inj z z' d x3 y3;subst this;rw [<-zQ M Z B x2,<-zQ M Z B S]
 .rcases U x d o with⟨_,h1⟩ | ⟨_,z,_,C⟩
  .rcases Y with e | ⟨e,e2⟩
   .rw [e] at h1;have:=hs.lt i d h1;omega
   .rw [e] at h1;cases h1;exact e2
  .have:=hs.lt z d C;omega
end
open Go
section
variable {P:Program} {w w':World} {A A':Nat->Prop} {c:Ctx} {ρ:Id->Option Value} {O:Id->Option Nat} {s:St} {cc:Option Bool} {h:Id->Option ab}
theorem HS.move{i i':Id}(hs:HS c w h ρ O)(hi:h i≠none)(z:h i'=none)(v:Value)(f:Option Nat)(J:w'.os=w.os)(p:w'.output=w.output)(L:w'.tape=w.tape)(K:w.heap.size<=w'.heap.size)
  (m:∀k,k < w.heap.size->O i≠some k->w'.heap[k]? =w.heap[k]?) (r:f=none\/f=O i\/(f=some w.heap.size/\w.heap.size < w'.heap.size)) (x:ab)
  (S:de w' (AA c w' (aE (aE O i none) i' f)) (aE ρ i' (some v)) (aE (aE O i none) i' f) i' x) (hrl:i'.real=true:=by rfl):
  Le w ρ O w' (aE ρ i' (some v)) (aE (aE O i none) i' f)/\HS c w' (aE (aE h i' (some x)) i (some .dead)) (aE ρ i' (some v)) (aE (aE O i none) i' f):=by
 have B:i≠i':=λe=>hi (e▸z);have M:∀b,f=some b->b < w'.heap.size:=by
  intro b hb;rcases r with e | e | ⟨e,e2⟩
  .rw [e] at hb;cases hb
  .rw [e] at hb;have:=hs.lt i b hb;omega
  .rw [e] at hb;cases hb;exact e2
 have le:Le w ρ O w' (aE ρ i' (some v)) (aE (aE O i none) i' f):=by
  refine⟨J,p,L,K,λj u a=> ?_,λb hb R=>m b hb (R i),λj b a=> ?_⟩
  .by_cases e:j=i'
   .subst e;rw [(hs.cC _ hrl z).1] at a;cases a
   .rw [ar _ _ e];exact a
  .by_cases e:j=i'
   .subst e;rw [aF] at a;rcases r with e | e | ⟨e,_⟩
    .rw [e] at a;cases a
    .rw [e] at a;exact .inl ⟨i,a⟩
    .rw [e] at a;cases a;exact .inr (Vq _)
   .rw [ar _ _ e] at a;by_cases e2:j=i
    .subst e2;rw [aF] at a;cases a
    .rw [ar _ _ e2] at a;exact .inl ⟨j,a⟩
 have t:=hs.real hi;have N:GK w ρ O w' (aE ρ i' (some v)) (aE (aE O i none) i' f):=λj n=>⟨ar _ _ (aP hrl),by rw [ar _ _ (aP hrl),ar _ _ (aP t)],λb hb=>m b (hs.lt _ b hb) λe=>aP t (hs.inj _ i b hb e)⟩;refine⟨le,hs.go le N (λj T a=> ?_) (λj I a=> ?_) (λj a=> ?_) (λj n=>by rw [ar _ _ (aP t),ar _ _ (aP hrl)];exact hs.eH j n) (λj k d a D=> ?_) (λj d a=> ?_)⟩
 .by_cases e:j=i
  .subst e;rw [aF] at a;cases a;right;obtain⟨b,hb⟩:=YA.1 hi;have E:∃u,ρ j=some u/\u.oneCell'=true/\u.cells= #[u]:=by
    cases g:ρ j with
    | none=>
     exfalso;have:=hs.ah j b hb;cases b with
     | box cs=>obtain⟨b,_,_,h1,_⟩:=this;rw [g] at h1;cases h1
     | sl U sz b xs=>obtain⟨v,h1,_⟩:=this;rw [g] at h1;cases h1
     | iW l=>obtain⟨b,h1,_⟩:=this;rw [g] at h1;cases h1
     | mp ag ks vk es=>obtain⟨b,_,_,h1,_⟩:=this;rw [g] at h1;cases h1
     | arr cs=>obtain⟨b,_,_,h1,_⟩:=this;rw [g] at h1;cases h1
     | rows _ _ _ _ _ _=>obtain⟨_,_,h1,_⟩:=this;rw [g] at h1;cases h1
     | dead=>obtain⟨⟨v,h1,_⟩,_⟩:=this;rw [g] at h1;cases h1
    | some u=>exact⟨u,rfl,kF hs g⟩
   obtain⟨u,h1,Q⟩:=E;exact⟨⟨u,by rw [ar _ _ B];exact h1,Q⟩,by rw [ar _ _ B,aF]⟩
  .rw [ar _ _ e] at a;by_cases e2:j=i'
   .subst e2;rw [aF] at a;cases a;exact .inr S
   .rw [ar _ _ e2] at a;refine .inl ⟨a,by rw [ar _ _ e2,ar _ _ e],λah q=>m ah (hs.lt j ah q) (λp=>e (hs.inj j i ah q p))⟩
 .by_cases e:j=i
  .subst e;rw [aF] at a;cases a
  .rw [ar _ _ e] at a;by_cases e2:j=i'
   .subst e2;rw [aF] at a;cases a
   .rw [ar _ _ e2] at a;rw [ar _ _ e2,ar _ _ e2,ar _ _ e];exact hs.cC j I a
 .by_cases e:j=i
  .subst e;rw [aF] at a;cases a
  .rw [ar _ _ e] at a;by_cases e2:j=i'
   .subst e2;rw [aF] at a;cases a
   .rw [ar _ _ e2] at a;exact a
 .have y:∀j b,aE (aE O i none) i' f j=some b->(j=i'/\f=some b)\/(j≠i'/\j≠i/\O j=some b):=by
   intro j b a;by_cases e:j=i'
   .subst e;rw [aF] at a;exact .inl ⟨rfl,a⟩
   .rw [ar _ _ e] at a;by_cases e2:j=i
    .subst e2;rw [aF] at a;cases a
    .rw [ar _ _ e2] at a;exact .inr ⟨e,e2,a⟩
  have o:∀k b,f=some b->k≠i->O k=some b->False:=by
   intro k b hb D p;rcases r with e | e | ⟨e,_⟩
   .rw [e] at hb;cases hb
   .rw [e] at hb;exact D (hs.inj k i b p hb)
   .rw [e] at hb;cases hb;exact XN _ (hs.lt k _ p)
  rcases y j d a with⟨F,e2⟩ | ⟨F,e2,e3⟩ <;> rcases y k d D with⟨G,C⟩ | ⟨G,C,H⟩
  .rw [F,G]
  .exact(o k d e2 C H).elim
  .exact(o j d C e2 e3).elim
  .exact hs.inj j k d e3 H
 .by_cases e:j=i'
  .subst e;rw [aF] at a;exact M d a
  .rw [ar _ _ e] at a;by_cases e2:j=i
   .subst e2;rw [aF] at a;cases a
   .rw [ar _ _ e2] at a;have:=hs.lt j d a;omega
theorem Lj{v:AV}{x:T}{u:Value}{sz:Nat}{p:Bool×List (List T)}(hs:HS c w h ρ O)(hv:an w (AA c w O) ρ v u)(d:dK h v=some x)(E:x.aQ sz=some p):
  (p.2= []/\(u= .slice none 0 0\/∃a cap,u= .slice (some a) 0 cap))\/∃ah off cap,u= .slice (some ⟨ah,off,none⟩) p.2.length cap/\aZ w (AA c w O) ah sz off p.2:=by
 have f:aB w (λ_=>True) x u:=m8 hs hv d (λ_ _=>trivial) (λ_ _ _ _=>trivial);have bu:p.2= []->(u= .slice none 0 0\/∃a cap,u= .slice (some a) 0 cap):=by
  intro e;rcases T.qQ E with rfl | ⟨rfl,_⟩
  .simp only [aB] at f;rcases f with⟨_,_,rfl⟩ | ⟨_,ah,off,H,cap,rfl,_⟩
   .exact .inl rfl
   .rw [e];exact .inr ⟨_,_,rfl⟩
  .simp only [aB] at f;rcases f with⟨_,rfl⟩ | ⟨_,ah,off,H,rfl⟩
   .exact .inl rfl
   .exact .inr ⟨_,_,rfl⟩
 by_cases e:p.2= []
 .exact .inl ⟨e,bu e⟩
 right;have R:x= .aa sz p.1 p.2:=by
  rcases T.qQ E with h | ⟨_,h⟩
  .exact h
  .exact absurd h e
 subst R;cases v <;> simp only [dK,reduceCtorEq,U7] at d
 case t y=>
  subst d;simp only [an,aB] at hv;rcases hv with⟨_,h,_⟩ | ⟨_,ah,off,H,cap,rfl,_,r,g⟩
  .exact absurd h e
  .rcases r with r | ⟨rfl,_⟩
   .exact absurd r e
   exact⟨ah,off,cap,rfl,g⟩
 case own i=>
  split at d
  .rename_i Q m b xs hi;simp only [U7,T.aa.injEq] at d;obtain⟨rfl,rfl,rfl⟩:=d;obtain⟨Z,z,a,cap,q1,S,U,V,k⟩:=oa hs hi;simp only [an] at hv;rw [z] at hv;simp only [U7] at hv;subst hv;subst q1;rcases k with k | ⟨ah,off,arr,t,C,W,X,Y,j⟩
   .exact absurd (Vt.1 (by omega)) e
   .subst C;exact⟨ah,off,cap,rfl,j⟩
  .simp at d
 case ref i off=>
  split at d
  .obtain⟨l,_,d⟩:=U8.1 d;simp at d
  .simp at d
  .simp at d
 case part i sz1 off n=>
  split at d
  .rename_i Q m b xs hi;split at d
   .rename_i F;subst F;simp only [U7,T.aa.injEq] at d;obtain⟨rfl,rfl,G⟩:=d;obtain⟨Z,z,a,cap,q1,S,U,V,k⟩:=oa hs hi;simp only [an] at hv;obtain⟨a1,L,J,I,q,e2,e3,rfl,K⟩:=hv;rw [z] at q;simp only [U7] at q;subst q;simp only [WG] at q1;obtain⟨rfl,rfl,rfl⟩:=q1;have B:((xs.drop off).take n).length=n:=by simp only [Wb,Xd];omega
    rw [<-G] at e⊢;have hn:n≠0:=λh=>e (by rw [h];rfl);rcases k with k | ⟨ah,off',arr,t,C,W,X,Y,j⟩
    .omega
    .subst C;have N:I=some ⟨ah,off'+off * m,none⟩:=by
      rcases K with⟨rfl,rfl⟩ | ⟨rfl,_⟩ | ⟨b',o,D,M⟩
      .simp
      .omega
      .simp only [U7,Wr] at D;obtain⟨rfl,rfl,_⟩:=D;exact M
     subst N;exact⟨ah,_,_,by rw [B],(j.drop off).take n⟩
   .simp at d
  .simp at d
theorem SD{t k ty e:TypeId}{i:TypeInfo}(m:P.underlying t=some (.slice e))(hi:P.info? e=some i){b off a d:Nat}{arr:Array Value}{tt:TypeId}(hb:w.heap[b]? =some (.cells arr tt (0,0))){x:Value}{n:Nat}{news:List Value}
  (hs:Src P i.size k x n news w) (f:a+n<=d) (l:off+d * i.size<=arr.size):
  (Builtin.append_ #[t,k] ty #[.slice (some ⟨b,off,none⟩) a d,x]).run P w= .ok (.slice (some ⟨b,off,none⟩) (a+n) d) (w.setRow b (cd (off+a * i.size) news arr.toList).toArray):=by
 have o:=hs.newsLen;have hm:(a+n) * i.size<=d * i.size:=V5 _ f;have e:(a+n) * i.size=a * i.size+n * i.size:=XI _ _ _;have g:=run_storeCells_at P b (off+a * i.size) tt news 0 arr w hb (by omega) hs.one;simp only [X7] at g;rcases hs.kind with⟨e',j⟩ | j <;> simp [Builtin.append_,run_underlying m,run_underlying j,sizeOf,typeInfo,hi,hs.len,f,hs.cells,hZ,g,cd]
theorem SC{t j ty e:TypeId}{i:TypeInfo}(k:P.underlying t=some (.slice e))(hi:P.info? e=some i){base:Option Addr}{d b:Nat}{x:Value}(hs:Src P i.size j x 0 [] w)(f:d<=b):
  (Builtin.append_ #[t,j] ty #[.slice base d b,x]).run P w= .ok (.slice base d b) w:=by
 have l:∀a:Addr,(storeCells a []).run P w= .ok () w:=λa=>by simp [storeCells]
 cases base <;> rcases hs.kind with⟨e',g⟩ | g <;> simp [Builtin.append_,run_underlying k,run_underlying g,sizeOf,typeInfo,hi,hs.len,f,hs.cells,storeCells]
structure Ad (P:Program) (t tx e:TypeId) (i:TypeInfo) (x:Value) (n:Nat) (news:List Value) (w:World):Prop where
 newsLen:news.length=n * i.size
 one:∀u∈news,u.oneCell'=true
 idle:n=0->∀(ty:TypeId) (base:Option Addr) (sLen sCap:Nat),sLen<=sCap->(Builtin.append_ #[t,tx] ty #[.slice base sLen sCap,x]).run P w= .ok (.slice base sLen sCap) w
 CT:∀(ty:TypeId) (b off sLen sCap:Nat) (arr:Array Value) (tt:TypeId),w.heap[b]? =some (.cells arr tt (0,0))->sLen+n<=sCap->off+sCap * i.size<=arr.size->
  (Builtin.append_ #[t,tx] ty #[.slice (some ⟨b,off,none⟩) sLen sCap,x]).run P w= .ok (.slice (some ⟨b,off,none⟩) (sLen+n) sCap) (w.setRow b (cd (off+sLen * i.size) news arr.toList).toArray)
 grow:∀(ty:TypeId) (z:Value) (base:Option Addr) (sLen sCap:Nat) (olds:List Value),i.zero=some z->(Builtin.firstCells i.size sLen (.slice base sLen sCap)).run P w.drew= .ok olds.toArray w.drew->sCap < sLen+n->
  ((sLen+n:Nat):Int)<=9223372036854775807->Builtin.nextslicecap (sLen+n) sCap * i.bytes<=281474976710656->
  (Builtin.append_ #[t,tx] ty #[.slice base sLen sCap,x]).run P w=
   .ok (.slice (some ⟨w.heap.size,0,none⟩) (sLen+n) (grownCap w (sLen+n) sCap e))
    (w.drew.alloc (.cells ((olds++news).toArray++Builtin.zeroCells z.cells (grownCap w (sLen+n) sCap e - (sLen+n))) e))
theorem Ad.vM{t tx e:TypeId}{i:TypeInfo}{x:Value}{n:Nat}{news:List Value}(ht:P.underlying t=some (.slice e))(hi:P.info? e=some i)(hs:Src P i.size tx x n news w):Ad P t tx e i x n news w where
 newsLen:=hs.newsLen
 one:=hs.one
 idle:=by intro h ty base sLen sCap hr;subst h;have:news= []:=Vt.1 (by rw [hs.newsLen];simp);subst this;exact SC ht hi hs hr
 CT:=λty b off sLen sCap arr tt hb hr hf=>SD ht hi hb hs hr hf
 grow:=λty z base sLen sCap olds hz ho hg h63 hf=>run_append_grow_src w t tx ty e i z ht hi hz base sLen sCap olds ho x n news hs hg h63 hf
theorem U4{z:Array Value}{sz:Nat}(hz:z.size=sz)(n:Nat):(Builtin.zeroCells z n).toList= (List.replicate n z.toList).flatten:=by
 apply XL;intro p;by_cases d:p < n * sz
 .have h1:((List.replicate n z.toList).flatten).length=n * sz:=by simp [hz]
  have a:((List.replicate n z.toList).flatten)[p]? =some ((List.replicate n z.toList).flatten[p]'(by omega)):=Vd _;rw [a];have b:=C5 (zv:=z) hz n n (Vq _) p _ a;rw [<-b,Wl];simp [madeCells,Builtin.zeroCells,hz]
 .have h1:((List.replicate n z.toList).flatten).length=n * sz:=by simp [hz]
  have a:(Builtin.zeroCells z n).toList.length=n * sz:=by rw [VH,size_zeroCells,hz]
  rw [Wc (by omega),Wc (by omega)]
theorem RJ{n:Int}(a: 0<=n)(h1:n<=4294967296):i64.wrap n=n:=by rw [IntKind.wrap_i64];omega
theorem Ad.RK{t N e:TypeId}{i:TypeInfo}{zv:Value}{ki:IntKind}{n:Int}(B:P.underlying t=some (.slice e))(x:P.underlying N=some (.int ki))(hi:P.info? e=some i)(hz:i.zero=some zv)(E:zv.cells.size=i.size)(hb:i.bytes<=8192)
  (Q: 0<=n) (h1:n<=4294967296) (I:∀u∈zv.cells.toList,u.oneCell'=true):Ad P t N e i (.int .i64 n) n.toNat (List.replicate n.toNat zv.cells.toList).flatten w:=by
 have C:=RJ Q h1;have m:¬(n < 0):=by omega
 have f:¬(281474976710656 < n * (i.bytes:Int)):=by have W:n * (i.bytes:Int)<=4294967296 * 8192:=Int.le_trans (VA h1 (by omega)) (Vh (by omega) (by omega));omega
 have M:(List.replicate n.toNat zv.cells.toList).flatten.length=n.toNat * i.size:=by simp [E]
 have one:∀u∈(List.replicate n.toNat zv.cells.toList).flatten,u.oneCell'=true:=by intro u H;obtain⟨l,K,H⟩:=List.mem_flatten.1 H;rw [List.mem_replicate] at K;obtain⟨_,rfl⟩:=K;exact I u H
 have U:=U4 E n.toNat
 have F:Builtin.zeroCells zv.cells n.toNat= (List.replicate n.toNat zv.cells.toList).flatten.toArray:=by rw [<-U]
 have aK:n.toNat * i.size=0->(List.replicate n.toNat zv.cells.toList).flatten= []:=λh=>Vt.1 (by rw [M,h]);refine⟨M,one, ?_, ?_, ?_⟩
 .intro h ty base d j S;have R:∀a:Addr,(storeCells a []).run P w= .ok () w:=λa=>by simp [storeCells]
  cases base <;> simp [Builtin.append_,run_underlying B,run_underlying x,sizeOf,typeInfo,hi,asInt,asIntOf,C,m,f,h,S,R]
 .intro ty b off d j arr tt J k G;have hm:(d+n.toNat) * i.size<=j * i.size:=V5 _ k;have e:(d+n.toNat) * i.size=d * i.size+n.toNat * i.size:=XI _ _ _;have o:=run_storeCells_at P b (off+d * i.size) tt (List.replicate n.toNat zv.cells.toList).flatten 0 arr w J (by omega) one;simp only [X7] at o;by_cases g:n.toNat * i.size=0
  .have:=aK g;rw [this] at o⊢;simp [Builtin.append_,run_underlying B,run_underlying x,sizeOf,typeInfo,hi,asInt,asIntOf,C,m,f,k,g,hZ,o,cd]
  .simp [Builtin.append_,run_underlying B,run_underlying x,sizeOf,typeInfo,zeroValue,hi,hz,asInt,asIntOf,C,m,f,k,g,F,hZ,o,cd]
 .intro ty z base d j T D y X V G;rw [hz] at D;cases D;have L:¬(d+n.toNat<=j):=by omega
  have q:¬(9223372036854775807 < ((d:Int)+ (n.toNat:Int))):=by omega
  have v:¬(9223372036854775807 < ((d:Int)+max n 0)):=by omega
  have r:¬(i64.max < ((d:Int)+ (n.toNat:Int))):=by simp only [IntKind.max,IntKind.bits,IntKind.signed];omega
  have p:¬(281474976710656 < Builtin.nextslicecap (d+n.toNat) j * i.bytes):=by omega
  by_cases g:n.toNat * i.size=0
  .have:=aK g;rw [this];simp [Builtin.append_,run_underlying B,run_underlying x,sizeOf,typeInfo,zeroValue,hi,hz,asInt,asIntOf,C,m,f,L,q,v,r,p,Question.forced,g,y,newRow,grownCap]
  .simp [Builtin.append_,run_underlying B,run_underlying x,sizeOf,typeInfo,zeroValue,hi,hz,asInt,asIntOf,C,m,f,L,q,v,r,p,Question.forced,g,F,y,newRow,grownCap];congr 2;apply XJ;simp [VJ]
theorem I4{n m:Int}(h:br n m=some ()): 0<=n/\n<=m/\m<=dY:=by
 unfold br at h;split at h
 .assumption
 .simp at h
theorem Ms{R:Type}{t N e:TypeId}{sz:Nat}{z:List T}{ti:TypeInfo}{y:AV}{Q:Value}{K:List (List T)->Option R}{r:R}(hs:HS c w s.h ρ O)(m:P.underlying N=some (.slice e))(f:P.info? e=some ti)(k:ti.size=sz)(hz:jU P e=some z)(J:z.length=sz)(G:P.bytesOf e<=8192)(hy:an w (AA c w O) ρ y Q)(d:mK P s t sz z y K=some r):
  ∃E vss,K E=some r/\Ad P N t e ti Q E.length vss.flatten w/\cB w (AA c w O) sz E vss:=by
 subst k;unfold mK at d;split at d
 .rename_i e' i;obtain⟨x,q,d⟩:=U8.1 d;replace d:=aO d (.inl rfl);obtain⟨p,W,d⟩:=d;rcases Lj hs hy q W with⟨e,h⟩ | ⟨ah,off,cap,rfl,g⟩
  .rw [e] at d;refine⟨[],[],d, ?_,rfl⟩;rcases h with rfl | ⟨a,cap,rfl⟩
   .exact .vM m f (Src.ofNil w i 0)
   .exact .vM m f (Src.ofSlice w i a 0 cap [] (by simp) (by simp) (by simp))
  .obtain⟨vss,h1,B⟩:=g.bg;obtain⟨l1,Y⟩:=h1.length;exact⟨p.2,vss,d, .vM m f (Src.ofSlice w i ⟨ah,off,none⟩ _ cap _ (by rw [Y]) (λj u U=>by rw [hZ];exact B j u U) (λu i=>(h1.one u i).1)),h1⟩
 .rename_i i;split at d
  .rename_i k;obtain⟨x,q,d⟩:=U8.1 d;replace d:=aO d (.inl rfl);obtain⟨b,hb,d⟩:=d;have:=T.kK hb;subst this;rw [AV.mB q] at hy;simp only [an,aB] at hy;subst hy;have flat:∀l:List Value,(l.map λv=> [v]).flatten=l:=by intro l;induction l <;> simp_all
   refine⟨_,((b.data.toList.map λb=>Value.int .u8 b.toNat).map λv=> [v]),d, ?_, ?_⟩
   .rw [flat,W9];have:=Src.ofString (P:=P) w i b;have e:b.data.toList.length=b.size:=by rw [VH];rfl
    rw [e];exact .vM m f (by rw [k];exact this)
   .have F:∀l:List UInt8,cB w (AA c w O) 1 (l.map λu=> [T.int .u8 u.toNat]) ((l.map λb=>Value.int .u8 b.toNat).map λv=> [v]):=by
     intro l;induction l with
     | nil=>rfl
     | cons u l X=>exact⟨_,_,rfl,rfl,⟨_,[],rfl,gM _ _ _ _,rfl⟩,X⟩
    rw [k];exact F _
  .simp at d
 .rename_i ki i;obtain⟨x,q,d⟩:=U8.1 d;replace d:=aO d (.inl rfl);obtain⟨n,V,d⟩:=d;replace d:=aO d (.inl rfl);obtain⟨_,hb,d⟩:=d;have:=T.gA V;subst this;obtain⟨S,_,B⟩:=I4 hb;rw [AV.mB q] at hy;simp only [an,aB] at hy;subst hy;obtain⟨Z,zv,o,M,H⟩:=oA hz;rw [f] at o;cases o;have D:aR w (AA c w O) z zv.cells.toList:=po H;have L:zv.cells.size=ti.size:=by
   have:=D.length;rw [VH] at this;omega
  have I:=cB.replicate D J n.toNat
  have C:ti.bytes<=8192:=by simpa [Program.bytesOf,f] using G
  refine⟨_,_,d, ?_,I⟩;rw [W7];exact .RK m i f M L C S (by simpa [dY] using B) (λu i=>(D.one u i).1)
 .simp at d
theorem CO(z:Array Value)(l:List Value)(k:Nat):∀(p:Nat) (v:Value),l[p]? =some v->(l.toArray++Builtin.zeroCells z k)[p]? =some v:=by intro p v b;have a:=(Vi.1 b).1;rw [Array.getElem?_append_left (by simpa using a)];simpa using b
theorem Cy{bs n:Nat}(h:o4 bs n)(hb:bs<=8192):n * bs<=140737488355328:=by
 rcases h with h | ⟨_,h⟩
 .have:n * bs<=4294967296 * 8192:=YL h hb;omega
 .exact h
theorem Cz{bs n:Nat}(h:o4 bs n):n<=140737488355328:=by
 rcases h with h | ⟨a,h⟩
 .have:n<=4294967296:=h;omega
 .exact VO (Nat.le_mul_of_pos_right n a) h
theorem Fg{t tx ty e:TypeId}{ti:TypeInfo}{zs:List T}{y:Value}{i i':Id}{b:Bool}{xs d:List (List T)}{vss:List (List Value)}{base:Option Addr}{cap:Nat}
  (hs:HS c w h ρ O) (hi:h i≠none) (D:h i'=none) (ht:P.underlying t=some (.slice e)) (hz:jU P e=some zs) (hzl:zs.length=P.cellsOf e) (hby:P.bytesOf e<=8192)
  (U:o4 (P.bytesOf e) (xs.length+d.length)) (hcap:xs.length<=cap) (X:base=none↔b=true) (E:True)
  (x:cap=0\/∃ah off arr tt,base=some ⟨ah,off,none⟩/\O i=some ah/\w.heap[ah]? =some (.cells arr tt (0,0))/\off+cap * P.cellsOf e<=arr.size/\aZ w (AA c w O) ah (P.cellsOf e) off xs)
  (I:P.info? e=some ti) (src:Ad P t tx e ti y d.length vss.flatten w) (C:cB w (AA c w O) (P.cellsOf e) d vss) (hrl:i'.real=true:=by rfl):
  ∃v w' ρ' O',(Builtin.append_ #[t,tx] ty #[.slice base xs.length cap,y]).run P w= .ok v w'/\Le w ρ O w' ρ' O'/\ρ' i'=some v/\
   HS c w' (aE (aE h i' (some (.sl false (P.cellsOf e) (b && d.isEmpty) (xs++d)))) i (some .dead)) ρ' O':=by
 obtain⟨ti',zv,J,hzv,hof⟩:=oA hz;rw [I] at J;cases J;have n:P.cellsOf e=ti.size:=by simp [Program.cellsOf,I]
 have hne:i'≠i:=λe=>hi (e▸D);obtain⟨l1,l2⟩:=C.length;by_cases r:xs.length+d.length<=cap
 .rcases x with x | ⟨ah,off,arr,tt,rfl,M,hb,o,B⟩
  ·
   subst x;have V:xs= []:=Vt.1 (by omega);have ey:d= []:=Vt.1 (by omega);subst V;subst ey;have ev:vss= []:=by simpa using l1
   subst ev;obtain⟨F,G⟩:=HS.move (hrl:=hrl) (w':=w) hs hi D (.slice base 0 0) none rfl rfl rfl (Vq _) (λ_ _ _=>rfl) (.inl rfl) (.sl false (P.cellsOf e) (b && true) []) (by
    refine⟨_,by rw [aF];rfl,⟨base,0,rfl,by simp, ?_,E, .inl rfl⟩,by simp⟩;simpa using X)
   refine⟨_,w,_,_, ?_,F,by rw [aF],by simpa using G⟩;exact src.idle rfl ty base 0 0 (Vq _)
  ·
   rw [n] at o;have L:=src.CT ty ah off xs.length cap arr tt hb r o;have N:∀k,k < w.heap.size->O i≠some k->(w.setRow ah (cd (off+xs.length * ti.size) vss.flatten arr.toList).toArray).heap[k]? =w.heap[k]?:=λk _ W=>setRow_other w ah k _ (λe=>W (e▸M));have K:off+xs.length * ti.size+vss.flatten.length<=arr.toList.length:=by have l3:arr.toList.length=arr.size:=VH;rw [l2,n,l3];have hm:(xs.length+d.length) * ti.size<=cap * ti.size:=V5 _ r;rw [XI] at hm;omega
   obtain⟨F,G⟩:=HS.move (hrl:=hrl) (w':=w.setRow ah (cd (off+xs.length * ti.size) vss.flatten arr.toList).toArray) hs hi D (.slice (some ⟨ah,off,none⟩) (xs.length+d.length) cap) (O i) rfl rfl rfl (by rw [rq];exact Vq _) N (.inr (.inl rfl))
    (.sl false (P.cellsOf e) (b && d.isEmpty) (xs++d)) (by
     refine⟨_,by rw [aF],⟨some ⟨ah,off,none⟩,cap,by simp,by simpa using r, ?_,E, .inr ⟨ah,off,_,tt,rfl, ?_,setRow_heap w ah arr _ tt (0,0) hb, ?_, ?_⟩⟩,by simp⟩
     .have:b=false:=by cases b <;> simp_all
      simp [this]
     .simpa using M
     .simp only [WX];rw [rf _ _ _ K,n];simpa using o
     .have u:∀p,(w.setRow ah (cd (off+xs.length * ti.size) vss.flatten arr.toList).toArray).cell? ⟨ah,p,none⟩=if off+xs.length * ti.size<=p/\p < off+xs.length * ti.size+vss.flatten.length then vss.flatten[p - (off+xs.length * ti.size)]? else w.cell? ⟨ah,p,none⟩:=by
       intro p;rw [uK hb,XY,tp _ _ _ K,kU hb];simp
      have H:∀m,AA c w O m->AA c (w.setRow ah (cd (off+xs.length * ti.size) vss.flatten arr.toList).toArray) (aE (aE O i none) i' (O i)) m/\(w.setRow ah (cd (off+xs.length * ti.size) vss.flatten arr.toList).toArray).heap[m]? =w.heap[m]?:=by
       intro m g;refine⟨⟨g.1,by rw [rq];exact g.2.1,λj l=> ?_⟩,setRow_other w ah m _ (λe=>g.2.2 i (e▸M))⟩;by_cases z:j=i'
       .subst z;rw [aF] at l;exact g.2.2 i l
       .rw [ar _ _ z] at l;by_cases e2:j=i
        .subst e2;rw [aF] at l;cases l
        .rw [ar _ _ e2] at l;exact g.2.2 j l
      refine aZ.append (aZ.cells H (λp h1 h2=> ?_) B) ?_
      .rw [n] at h2;rw [u,if_neg (by omega)]
      .refine aZ.lA (cB.mono H C) (λp v R=> ?_);have hlt:=(Vi.1 R).1;rw [n,u,if_pos (by omega),show off+xs.length * ti.size+p - (off+xs.length * ti.size)=p by omega];exact R)
   exact⟨_,_,_,_,L,F,by rw [aF],G⟩
 ·
  have Q:(xs.length+d.length) * ti.bytes<=140737488355328:=by
   have z:P.bytesOf e=ti.bytes:=by simp [Program.bytesOf,I]
   rw [<-z];exact Cy U hby
  have Y:∃f:List (List Value),cB w (AA c w O) (P.cellsOf e) xs f/\(Builtin.firstCells ti.size xs.length (.slice base xs.length cap)).run P w.drew= .ok f.flatten.toArray w.drew:=by
   rcases x with x | ⟨ah,off,arr,tt,rfl,M,hb,o,B⟩
   .have V:xs= []:=Vt.1 (by omega);subst V;refine⟨[],rfl, ?_⟩;cases base with
    | none=>exact run_firstCells_none w.drew _ _ _ _
    | some a=>exact run_firstCells_some w.drew _ 0 a _ _ [] (by simp) (by simp)
   .obtain⟨f,k1,k2⟩:=B.bg;refine⟨f,k1, ?_⟩;obtain⟨m1,Z⟩:=k1.length;exact run_firstCells_some w.drew _ _ _ _ _ _ (by rw [Z,n]) (λj v l=>by rw [hZ];simpa using k2 j v l)
  obtain⟨f,S,ho2⟩:=Y;have q:cap < xs.length+d.length:=by omega
  have L:=src.grow ty zv base xs.length cap f.flatten hzv ho2 q (by have:=Cz U;omega) (growslice_fits q Q);obtain⟨m1,Z⟩:=S.length;have hzs:zv.cells.size=ti.size:=by have:=(po (w:=w) (A:=AA c w O) hof).length;rw [VH] at this;rw [this,hzl,n]
  have ys0:d.isEmpty=false:=by
   cases d with
   | nil=>simp at q;omega
   | cons=>rfl
  have hge:=grownCap_ge w (xs.length+d.length) cap e;obtain⟨F,G⟩:=HS.move (hrl:=hrl) (w':=w.drew.alloc (.cells ((f.flatten++vss.flatten).toArray++Builtin.zeroCells zv.cells (grownCap w (xs.length+d.length) cap e - (xs.length+d.length))) e)) hs hi D
   (.slice (some ⟨w.heap.size,0,none⟩) (xs.length+d.length) (grownCap w (xs.length+d.length) cap e)) (some w.heap.size) rfl rfl rfl (by simp) (λk W _=>VW w.drew _ k W) (.inr (.inr ⟨rfl,by simp⟩))
   (.sl false (P.cellsOf e) (b && d.isEmpty) (xs++d)) (by
    refine⟨_,by rw [aF],⟨some ⟨w.heap.size,0,none⟩,grownCap w (xs.length+d.length) cap e,by simp,by simpa using hge,by simp [ys0],trivial, .inr ⟨w.heap.size,0,_,e,rfl,by simp,kZ (w:=w.drew) _, ?_, ?_⟩⟩,by simp⟩
    .simp only [YP,WX,Ws,Z,l2,size_zeroCells,hzs,n,<-XI,VP];exact V5 _ (by omega)
    .have H:∀m,AA c w O m->AA c (w.drew.alloc (.cells ((f.flatten++vss.flatten).toArray++Builtin.zeroCells zv.cells (grownCap w (xs.length+d.length) cap e - (xs.length+d.length))) e)) (aE (aE O i none) i' (some w.heap.size)) m/\(w.drew.alloc (.cells ((f.flatten++vss.flatten).toArray++Builtin.zeroCells zv.cells (grownCap w (xs.length+d.length) cap e - (xs.length+d.length))) e)).heap[m]? =w.heap[m]?:=by
      intro m g;refine⟨⟨g.1,by have:=g.2.1;simp;omega,λj l=> ?_⟩,VW w.drew _ m g.2.1⟩;by_cases z:j=i'
      .subst z;rw [aF] at l;cases l;exact XN _ g.2.1
      .rw [ar _ _ z] at l;by_cases e2:j=i
       .subst e2;rw [aF] at l;cases l
       .rw [ar _ _ e2] at l;exact g.2.2 j l
     refine aZ.lA (vss:=f++vss) (cB.append (cB.mono H S) (cB.mono H C)) (λp v R=> ?_);refine(kU (w:=w.drew.alloc _) (b:=w.heap.size) (kZ (w:=w.drew) _) _).trans ?_;rw [VP];exact CO _ _ _ p v (by simpa using R))
  exact⟨_,_,_,_,L,F,by rw [aF],G⟩
theorem Mp{t V ty e:TypeId}{ti:TypeInfo}{X:List T}{y H:Value}{i':Id}{b:Bool}{g:List (List T)}{vss:List (List Value)}
  (hs:HS c w h ρ O) (B:h i'=none) (ht:P.underlying t=some (.slice e)) (hz:jU P e=some X) (Q:X.length=P.cellsOf e) (I:P.bytesOf e<=8192)
  (C:o4 (P.bytesOf e) g.length) (N:aB w A (.aK b) H)
  (m:P.info? e=some ti) (src:Ad P t V e ti y g.length vss.flatten w) (l:cB w (AA c w O) (P.cellsOf e) g vss) (hrl:i'.real=true:=by rfl):
  ∃v w' ρ' O',(Builtin.append_ #[t,V] ty #[H,y]).run P w= .ok v w'/\Le w ρ O w' ρ' O'/\ρ' i'=some v/\
   HS c w' (aE h i' (some (.sl false (P.cellsOf e) (b && g.isEmpty) g))) ρ' O':=by
 obtain⟨ti',zv,o,S,L⟩:=oA hz;rw [m] at o;cases o;have D:P.cellsOf e=ti.size:=by simp [Program.cellsOf,m]
 obtain⟨l1,l2⟩:=l.length;obtain⟨base,rfl,F,z⟩:∃base,H= .slice base 0 0/\(base=none↔b=true)/\True:=by
  simp only [aB] at N;rcases N with⟨rfl,rfl⟩ | ⟨rfl,ah,off,sp,rfl⟩
  .exact⟨none,rfl,by simp,trivial⟩
  .exact⟨some _,rfl,by simp,trivial⟩
 by_cases E:g= []
 .subst E;have ev:vss= []:=by simpa using l1
  subst ev;have le:Le w ρ O w (aE ρ i' (some (.slice base 0 0))) (aE O i' none):=by
   refine⟨rfl,rfl,rfl,Vq _,λj u f=> ?_,λb hb hn=>rfl,λj b f=> ?_⟩
   .by_cases e:j=i'
    .subst e;rw [(hs.cC _ hrl B).1] at f;cases f
    .rw [ar _ _ e];exact f
   .by_cases e:j=i'
    .subst e;rw [aF] at f;cases f
    .rw [ar _ _ e] at f;exact .inl ⟨j,f⟩
  refine⟨.slice base 0 0,w,_,_,src.idle rfl ty base 0 0 (Vq _),le,by rw [aF], ?_⟩;have gk:GK w ρ O w (aE ρ i' (some (.slice base 0 0))) (aE O i' none):=λj n=>⟨ar _ _ (aP hrl),ar _ _ (aP hrl),λ_ _=>rfl⟩;refine hs.go le gk (λj b' f=> ?_) (λj J f=> ?_) (λj f=> ?_) (λj n=>by rw [ar _ _ (aP hrl)];exact hs.eH j n) (λj k d f r=> ?_) (λj d f=> ?_)
  .by_cases e:j=i'
   .subst e;rw [aF] at f;cases f;right;refine⟨_,by rw [aF];rfl,⟨base,0,rfl,by simp, ?_,z, .inl rfl⟩,by simp⟩;simpa using F
   .rw [ar _ _ e] at f;exact .inl ⟨f,ar _ _ e,λ_ _=>rfl⟩
  .by_cases e:j=i'
   .subst e;rw [aF] at f;cases f
   .rw [ar _ _ e] at f;rw [ar _ _ e,ar _ _ e];exact hs.cC j J f
  .by_cases e:j=i'
   .subst e;rw [aF] at f;cases f
   .rw [ar _ _ e] at f;exact f
  .by_cases e:j=i'
   .subst e;rw [aF] at f;cases f
   .by_cases e':k=i'
    .subst e';rw [aF] at r;cases r
    .rw [ar _ _ e] at f;rw [ar _ _ e'] at r;exact hs.inj j k d f r
  .by_cases e:j=i'
   .subst e;rw [aF] at f;cases f
   .rw [ar _ _ e] at f;exact hs.lt j d f
 .have G: 0 < g.length:=XO.2 E;have x:(0+g.length) * ti.bytes<=140737488355328:=by
   have Y:P.bytesOf e=ti.bytes:=by simp [Program.bytesOf,m]
   rw [<-Y,VP];exact Cy C I
  have K:(Builtin.firstCells ti.size 0 (.slice base 0 0)).run P w.drew= .ok ([]:List Value).toArray w.drew:=by
   cases base with
   | none=>exact run_firstCells_none w.drew _ _ _ _
   | some a=>exact run_firstCells_some w.drew _ 0 a _ _ [] (by simp) (by simp)
  have U:=src.grow ty zv base 0 0 [] S K (by omega) (by have:=Cz C;omega) (growslice_fits (by omega) x);have R:zv.cells.size=ti.size:=by have:=(po (w:=w) (A:=AA c w O) L).length;rw [VH] at this;rw [this,Q,D]
  have W:g.isEmpty=false:=by
   cases g with
   | nil=>simp at G
   | cons=>rfl
  have hge:=grownCap_ge w (0+g.length) 0 e;have q:Le w ρ O w.drew ρ O:=⟨rfl,rfl,rfl,Vq _,λ_ _ h=>h,λ_ _ _=>rfl,λi b h=> .inl ⟨i,h⟩⟩;have M:HS c w.drew h ρ O:=hs.world q λ_ _ _=>rfl;obtain⟨Z,g2⟩:=M.Dm (hrl:=hrl) (sz:=P.cellsOf e) B e (([] ++vss.flatten).toArray++Builtin.zeroCells zv.cells (grownCap w (0+g.length) 0 e - (0+g.length))) (grownCap w (0+g.length) 0 e) (cB.mono (λb hb=>q.A b hb) l)
   (λp v hp=>CO _ _ _ p v (by simpa using hp)) (by omega) (by
    simp only [YP,WX,Vg,l2,size_zeroCells,R,D,<-XI];exact V5 _ (by omega))
  refine⟨_,_,_,_,U,q.trans Z, ?_, ?_⟩
  .rw [aF,VP];rfl
  .simpa [W] using g2
theorem L3(h:Id->Option ab)(i j:Id)(a b:ab):aL h [(i,a),(j,b)]=aE (aE h i (some a)) j (some b):=rfl
theorem kY{d:Nat}{us:aH}{k:Nat}{b:ab}(a:jq d h us=true)(hm:(Id.s d k,b)∈us):h (.s d k)=none:=by have:=Vu.1 a _ hm;simpa using this
set_option maxHeartbeats 1000000 in
theorem Kh{i i' x:Id}{nx:Nat}{v vk:Value}(a:x.real=true)(b:x≠i'):iX ρ i i' nx v vk x=ρ x:=by
 unfold iX;rw [if_neg b];cases x with
 | g y n=>cases a
 | _=>rfl
theorem Kg{i i':Id}{nx:Nat}{v vk:Value}:iX ρ i i' nx v vk i'=some v:=by unfold iX;rw [if_pos rfl]
theorem DG{i i' y:Id}{n nx:Nat}{v vk:Value}(hrl:i'.real=true)(hy:y≠i'):iX ρ i i' nx v vk (.g y n)=ρ (.g y n):=by unfold iX;rw [if_neg (aP hrl)];simp only [if_neg hy]
theorem DF{i i' j src:Id}{nx:Nat}{ob:Option Nat}(h:src≠i'):eT O i i' j src nx ob src=none:=by unfold eT;rw [if_neg h,if_pos (.inr (.inr rfl))]
theorem R1{i i' j src x:Id}{nx:Nat}{ob:Option Nat}(a:x.real=true)(b:x≠i')(h1:x≠i)(d:x≠j)(e:x≠src):eT O i i' j src nx ob x=O x:=by
 unfold eT;rw [if_neg b,if_neg (by rintro(h | h | h) <;> contradiction)];cases x with
 | g y n=>cases a
 | _=>rfl
theorem R3{i i' j src y:Id}{n nx:Nat}{ob:Option Nat}(a:i.real=true)(b:j.real=true)(hrl:i'.real=true)(hy:y≠i')(d:y≠i)(e:Id.g y n≠src):eT O i i' j src nx ob (.g y n)=O (.g y n):=by unfold eT;rw [if_neg (aP hrl),if_neg (by rintro(h | h | h);exact aP a h;exact aP b h;exact e h)];simp only [if_neg hy,if_neg d]
theorem de.gone{i i' j a:Id}{n nx:Nat}{ob:Option Nat}{v vk:Value}{b:Bool}{sz aD rsz K:Nat}{es:List Row}{p:Bool×List (List T)}(hs:HS c w h ρ O)(I:i.real=true)(V:j.real=true)(hrl:i'.real=true)(S:h a=some (.rows b sz aD rsz K es))(l:a≠i')(C:a≠i)(U:a≠j)(hf:bA n es=some p)
  (R:∀d,AA c w O d->AA c w' (eT O i i' j (.g a n) nx ob) d/\w'.heap[d]? =w.heap[d]?) (r:∀x d,x≠i->O x=some d->w'.heap[d]? =w.heap[d]?):
  de w' (AA c w' (eT O i i' j (.g a n) nx ob)) (iX ρ i i' nx v vk) (eT O i i' j (.g a n) nx ob) a (.rows b sz aD rsz K (dJ n none es)):=by
 have G:=hs.real (i:=a) (by rw [S];simp);obtain⟨k,e,B,H,heo,M⟩:=y8 hf;obtain⟨a',cap,r1,r2,r3,⟨W,X,n3,n4⟩,N⟩:=hs.ah a _ S;have Q:∀m,m≠n->eT O i i' j (.g a n) nx ob (.g a m)=O (.g a m):=λm hm=>R3 I V hrl l C (by intro h;simp only [Id.g.injEq] at h;exact hm h.2);have J:(.g a n:Id)≠i':=aP hrl;rw [M];have E:(es.set k {e with own:=none}).length=es.length:=by simp
 have F:(es.set k {e with own:=none}).map (·.n)=es.map (·.n):=by
  rw [X8];refine XL λm=> ?_;rw [WE];split
  .rename_i h;subst h;have:=(Vi.1 B).1;rw [if_pos (by simpa using this)];simp [B]
  .rfl
 refine⟨a',cap,by rw [E,Kh G l];exact r1,by rw [E];exact r2,r3,⟨by rw [F];exact W,λf o=> ?_,λm hm=>by rw [DG hrl l];exact n3 m hm,λm d z=> ?_⟩, ?_⟩
 .rcases VM o with o | rfl
  .exact X f o
  .exact X e (Va B)
 .by_cases hm:m=n
  .subst hm;rw [DF J] at z;cases z
  .rw [Q m hm] at z;obtain⟨f,o,D⟩:=n4 m d z;have:m∈(es.set k {e with own:=none}).map (·.n):=by rw [F];exact VK.2 ⟨f,o,D⟩
   obtain⟨f',h1,h2⟩:=VK.1 this;exact⟨f',h1,h2⟩
 .rcases N with N | ⟨ah,off,arr,t,q1,Y,q3,q4,Z⟩
  .exact .inl N
  .have q:w'.heap[ah]? =w.heap[ah]?:=r a ah C Y;refine .inr ⟨ah,off,arr,t,q1,by rw [R1 G l C U (aP G).symm];exact Y,by rw [q];exact q3,q4, ?_⟩;have L:=Z.get B;refine cr.set R (Vi.1 B).1 (λ_ _ _ _=>nu q) (λm f hm o=> ?_) ?_ Z
   .have D:f.n≠n:=λh=>hm (vL W o B (by rw [h,H]));exact⟨DG hrl l,Q _ D,λd z=>r _ d (aP I) z⟩
   .obtain⟨a1,a2,a3,u,a4,a5,a7⟩:=L;refine⟨a1,a2,λm y hm hy=> ?_,u,by rw [nu q];exact a4,by rw [DG hrl l];exact a5, ?_⟩
    .obtain⟨u',g1,g2⟩:=a3 m y hm hy;exact⟨u',by rw [nu q];exact g1,aB.mono R y u' g2⟩
    .simp only;rw [H];exact DF J
theorem Fa:∀{cs:List AV} {l:List T},ff cs=some l->l.length=cs.length/\∀(j:Nat) (x:T),l[j]? =some x->cs[j]? =some (AV.t x)
 | [],l,h=>by simp only [ff,U7] at h;subst h;simp
 | v::cs,l,h=>by
  cases v <;> simp only [ff,reduceCtorEq] at h;rename_i x;obtain⟨e,h1,h⟩:=U8.1 h;simp only [U7] at h;subst h;obtain⟨b,d⟩:=Fa h1;refine⟨by simp [b],λj y a=> ?_⟩;cases j with
  | zero=>simpa using a
  | succ j=>simpa using d j y (by simpa using a)
theorem Mo{R:Type}{d:Nat}{t ty tr e e':TypeId}{ti:TypeInfo}{zs:List T}{i j:Id}{b:Bool}{sz aD rsz nx:Nat}{es:List Row}{cs:List AV}{vx vy:Value}{K:AV->aH->Option R}{r:R}(hs:HS c w s.h ρ O)
  (ht:P.underlying t=some (.slice e)) (hty:P.underlying ty=some (.slice e')) (hz:jU P e=some zs) (hzl:zs.length=P.cellsOf e) (hby:P.bytesOf e<=8192) (Z:P.info? e=some ti)
  (hi:s.h i=some (.rows b sz aD rsz nx es)) (hj:s.h j=some (.arr cs)) (hx:ρ i=some vx) (hy:ρ j=some vy) (f:qf P s d e i sz aD rsz nx es j cs K=some r):
  ∃v us,K v us=some r/\(jq d s.h us=true->∃u w' ρ' O',(Builtin.append_ #[t,ty] tr #[vx,vy]).run P w= .ok u w'/\Le w ρ O w' ρ' O'/\HS c w' (aL s.h us) ρ' O'/\an w' (AA c w' O') ρ' v u):=by
 obtain⟨ti',zv,hti',hzv,hof⟩:=oA hz;rw [Z] at hti';cases hti';have C:P.cellsOf e=ti.size:=by simp [Program.cellsOf,Z]
 unfold qf at f;split at f
 .rename_i hcond;obtain⟨rfl,c1,c2,c3⟩:=hcond;replace f:=U8.1 f;obtain⟨l,hl,f⟩:=f;obtain⟨bj,q,tj,h1,h2,h3,h4,h5⟩:=hs.ah j _ hj;rw [hy] at h1;cases h1;obtain⟨a,cap,r1,r2,r3,r4,r5⟩:=hs.ah i _ hi;rw [hx] at r1;cases r1;have hri:=hs.real (i:=i) (by rw [hi];simp);have hrj:=hs.real (i:=j) (by rw [hj];simp);have hnl:q.toList.length=1 * ti.size:=by rw [h4.length,c1,C];omega
  obtain⟨ll,lg⟩:=Fa hl;have src:Ad P t ty e ti (.slice (some ⟨bj,0,none⟩) 1 1) 1 q.toList w:= .vM ht Z (Src.ofSlice w hty ⟨bj,0,none⟩ 1 1 _ hnl (λp u y=>by
   rw [hZ,VP,kU h3];simpa using y) (λu hu=>(h5 u hu).1))
  have G:∀n,bu (P.bytesOf e) n=some ()->o4 (P.bytesOf e) n:=by
   intro n hn;unfold bu at hn;split at hn
   .assumption
   .simp at hn
  have key:∀(z s0:Id) (bb:Bool) (xs:List (List T)) (vk:Value) (X:ab),s.h s0≠none->s0≠i->s0≠j->(z=s0\/∃n,z= .g s0 n)->ρ z=some vk->cT w (AA c w O) rsz bb xs vk (λd=>O z=some d)->
    q.toList[aD]? =some vk->bu (P.bytesOf e) (es.length+1)=some ()->s.h (.s d 0)=none->
    (∀w' ob v,(∀D,AA c w O D->AA c w' (eT O i (.s d 0) j z nx ob) D/\w'.heap[D]? =w.heap[D]?)->(∀x D,x≠i->O x=some D->w'.heap[D]? =w.heap[D]?)->de w' (AA c w' (eT O i (.s d 0) j z nx ob)) (iX ρ i (.s d 0) nx v vk) (eT O i (.s d 0) j z nx ob) s0 X)->
    ∃u w' ρ' O',(Builtin.append_ #[t,ty] tr #[.slice a es.length cap, .slice (some ⟨bj,0,none⟩) 1 1]).run P w= .ok u w'/\Le w ρ O w' ρ' O'/\
     HS c w' (aE (aE (aE (aE s.h i (some .dead)) j (some .dead)) s0 (some X)) (.s d 0) (some (.rows false (P.cellsOf e) aD rsz (nx+1) (es++ [⟨nx,l,some (bb,xs)⟩])))) ρ' O'/\an w' (AA c w' O') ρ' (.own (.s d 0)) u:=by
   intro z s0 bb xs vk X q1 q2 q3 q4 q5 q6 q7 Y o hX;have hlr:l.length=P.cellsOf e:=by rw [ll,Wa,c1]
   have hnr:∀m x,m≠aD->l[m]? =some x->∃v,q.toList[m]? =some v/\aB w (AA c w O) x v:=by intro m x hm hx;have:=lg m x hx;rw [WE,if_neg (Zn hm)] at this;obtain⟨v,H,I⟩:=h4.get this;exact⟨v,H,by simpa [an] using I⟩
   by_cases J:es.length+1<=cap
   .rcases r5 with r5 | ⟨ah,off,arr,t',k1,k2,k3,k4,k5⟩
    .omega
    .subst k1;have hm:(es.length+1) * ti.size<=cap * ti.size:=V5 _ J;rw [XI] at hm;rw [C] at k4;have run:=src.CT tr ah off es.length cap arr t' k3 J k4;have lfit:off+es.length * ti.size+q.toList.length<=arr.toList.length:=by rw [hnl,VH (xs:=arr)];omega
     have M:∀p,(w.setRow ah (cd (off+es.length * ti.size) q.toList arr.toList).toArray).cell? ⟨ah,p,none⟩=if off+es.length * ti.size<=p/\p < off+es.length * ti.size+q.toList.length then q.toList[p - (off+es.length * ti.size)]? else w.cell? ⟨ah,p,none⟩:=by intro p;rw [uK k3,XY,tp _ _ _ lfit,kU k3];simp
     obtain⟨H,I⟩:=HS.Kf (i':= .s d 0) (j:=j) (src:=z) (s0:=s0) (bb:=bb) (xs:=xs) (vk:=vk) (X:=X) (ah:=ah) (blk':=ah) (off:=off) (off':=off) (cap':=cap) (ob:=O i) (news:=q.toList) (l:=l) (w':=w.setRow ah (cd (off+es.length * ti.size) q.toList arr.toList).toArray)
      hs hi o rfl (by rw [hj];simp) (Zn c3) q1 q2 q3 q4 q5 q6 rfl rfl rfl (by rw [rq];exact Vq _) (λk _ f=>setRow_other w ah k _ λe=>f (e▸k2)) (.inl rfl) k2 (setRow_heap w ah arr _ t' (0,0) k3) (by rw [WX,rf _ _ _ lfit,C];simpa using k4) J k5
      (λp y=>by rw [C] at y;have y:p < es.length * ti.size:=y;rw [M,if_neg (by omega)]) c2 hlr (λp v y=>by
       have W:=(Vi.1 y).1;rw [C,M,if_pos (by omega),show off+es.length * ti.size+p - (off+es.length * ti.size)=p by omega];exact y) hnr q7
      (λhA=>hX _ _ _ hA λx D hx hd=>setRow_other w ah D _ λe=>hx (hs.inj x i D hd (e▸k2)))
     exact⟨_,_,_,_,run,H,I,by simp only [an];exact Kg⟩
   .have hneed:(es.length+1) * ti.bytes<=140737488355328:=by
     have e1:P.bytesOf e=ti.bytes:=by simp [Program.bytesOf,Z]
     rw [<-e1];exact Cy (G _ Y) hby
    have hold:∃(B:List Value) (ah off:Nat),B.length=es.length * ti.size/\(Builtin.firstCells ti.size es.length (.slice a es.length cap)).run P w.drew= .ok B.toArray w.drew/\cr w (AA c w O) ρ O i ah (P.cellsOf e) aD rsz off es/\∀p v,B[p]? =some v->w.cell? ⟨ah,off+p,none⟩=some v:=by
     rcases r5 with r5 | ⟨ah,off,arr,t',k1,k2,k3,k4,k5⟩
     .have ex:es= []:=Vt.1 (by omega);subst ex;refine⟨[],0,0,by simp, ?_,trivial,by simp⟩;cases a with
      | none=>exact run_firstCells_none w.drew _ _ _ _
      | some a=>exact run_firstCells_some w.drew _ 0 a _ _ [] (by simp) (by simp)
     .subst k1;have hm:es.length * ti.size<=cap * ti.size:=V5 _ r2;rw [C] at k4;have hlen:((arr.toList.drop off).take (es.length * ti.size)).length=es.length * ti.size:=by rw [Wb,Xd,VH (xs:=arr)];omega
      have S:∀p v,((arr.toList.drop off).take (es.length * ti.size))[p]? =some v->w.cell? ⟨ah,off+p,none⟩=some v:=by
       intro p v y;rw [XT] at y;split at y
       .rw [XU] at y;rw [kU k3];simpa using y
       .cases y
      refine⟨_,ah,off,hlen, ?_,k5,S⟩;exact run_firstCells_some w.drew _ _ _ _ _ _ hlen (λp v y=>by rw [hZ];simpa using S p v y)
    obtain⟨B,ah,off,ho1,ho2,ho3,ho4⟩:=hold;have U:cap < es.length+1:=by omega
    have run:=src.grow tr zv a es.length cap B hzv ho2 U (by have:=Cz (G _ Y);omega) (growslice_fits U hneed);have hzs:zv.cells.size=ti.size:=by have:=(po (w:=w) (A:=AA c w O) hof).length;rw [VH] at this;rw [this,hzl,C]
    have hge:=grownCap_ge w (es.length+1) cap e;have Q:∀p v,(B++q.toList)[p]? =some v->(w.drew.alloc (.cells ((B++q.toList).toArray++Builtin.zeroCells zv.cells (grownCap w (es.length+1) cap e - (es.length+1))) e)).cell? ⟨w.heap.size,p,none⟩=some v:=by intro p v y;refine(kU (w:=w.drew.alloc _) (b:=w.heap.size) (kZ (w:=w.drew) _) _).trans ?_;exact CO _ _ _ p v y
    obtain⟨H,I⟩:=HS.Kf (i':= .s d 0) (j:=j) (src:=z) (s0:=s0) (bb:=bb) (xs:=xs) (vk:=vk) (X:=X) (ah:=ah) (blk':=w.heap.size) (off:=off) (off':=0) (cap':=grownCap w (es.length+1) cap e) (ob:=some w.heap.size) (news:=q.toList) (l:=l)
     (w':=w.drew.alloc (.cells ((B++q.toList).toArray++Builtin.zeroCells zv.cells (grownCap w (es.length+1) cap e - (es.length+1))) e))
     hs hi o rfl (by rw [hj];simp) (Zn c3) q1 q2 q3 q4 q5 q6 rfl rfl rfl (by simp) (λk f _=>VW w.drew _ k f) (.inr ⟨rfl,by simp⟩) rfl (kZ (w:=w.drew) _) (by
      simp only [YP,WX,Ws,ho1,hnl,size_zeroCells,hzs,C,<-XI,VP];exact V5 _ (by omega)) hge ho3
     (λp y=>by
      rw [C] at y;have y:p < es.length * ti.size:=y;have W:p < B.length:=by omega
      rw [VP,ho4 p _ (Vd W)];exact Q p _ (by rw [WJ W];exact Vd W)) c2 hlr (λp v y=>by
      rw [C,VP];refine Q _ v ?_;rw [Wn (by omega),ho1,show es.length * ti.size+p - es.length * ti.size=p by omega];exact y) hnr q7
     (λhA=>hX _ _ _ hA λx D hx hd=>VW w.drew _ D (hs.lt x D hd))
    exact⟨_,_,_,_,run,H,I,by simp only [an];exact Kg⟩
  split at f
  .rename_i j2 N;split at f
   .rename_i rsz' b' xs E;split at f
    .rename_i hrsz;subst hrsz;replace f:=aO f (.inl rfl);obtain⟨_,Y,f⟩:=f;refine⟨_,_,f,λo=> ?_⟩;have o:=kY o (k:=0) (b:= .rows false (P.cellsOf e) aD rsz' (nx+1) (es++ [⟨nx,l,some (b',xs)⟩])) (by simp);obtain⟨vk,v1,L⟩:=h4.get N;simp only [an] at L;obtain⟨v',s1,s2⟩:=oa hs E;rw [L] at s1;cases s1;have hr2:=hs.real (i:=j2) (by rw [E];simp);have n2:j2≠ .s d 0:=λe=>by rw [e,o] at E;cases E
     obtain⟨u,w',ρ',O',H,I,g3,g4⟩:=key j2 j2 b' xs vk .dead (by rw [E];simp) (λe=>by rw [e,hi] at E;cases E) (λe=>by rw [e,hj] at E;cases E) (.inl rfl) L (by simpa using s2) v1 (by assumption) o
      (λw' ob v hA V=>⟨⟨vk,by rw [Kh hr2 n2];exact L,kF hs L⟩,DF n2⟩)
     exact⟨u,w',ρ',O',H,I,by rw [dA,dA,dA,eP];exact g3,g4⟩
    .simp at f
   .simp at f
  .rename_i a2 n N;split at f
   .rename_i b2 sz2 col2 rsz2 nx2 es2 F;split at f
    .rename_i hc2;obtain⟨rfl,hai⟩:=hc2;replace f:=aO f (.inl rfl);obtain⟨p,y,f⟩:=f;replace f:=aO f (.inl rfl);obtain⟨_,Y,f⟩:=f;refine⟨_,_,f,λo=> ?_⟩;have o:=kY o (k:=0) (b:= .rows false (P.cellsOf e) aD rsz2 (nx+1) (es++ [⟨nx,l,some p⟩])) (by simp);obtain⟨vk,v1,L⟩:=h4.get N;simp only [an] at L;obtain⟨v',s1,s2⟩:=z9 hs F y;rw [L] at s1;cases s1;have n2:a2≠ .s d 0:=λe=>by rw [e,o] at F;cases F
     have n3:a2≠j:=λe=>by rw [e,hj] at F;cases F
     obtain⟨u,w',ρ',O',H,I,g3,g4⟩:=key (.g a2 n) a2 p.1 p.2 vk (.rows b2 sz2 col2 rsz2 nx2 (dJ n none es2)) (by rw [F];simp) hai n3 (.inr ⟨n,rfl⟩) L s2 v1 (by assumption) o
      (λw' ob v hA V=>de.gone hs hri hrj rfl F n2 hai n3 y hA V)
     exact⟨u,w',ρ',O',H,I,by rw [dA,dA,dA,eP];exact g3,g4⟩
    .simp at f
   .simp at f
  .simp at f
 .simp at f
theorem Sx{h:Id->Option ab}{x:AV}{q:Id×Nat×Nat×Nat×Nat×List Row}(e:D5 h x=some q):x= .own q.1/\∃b,h q.1=some (.rows b q.2.1 q.2.2.1 q.2.2.2.1 q.2.2.2.2.1 q.2.2.2.2.2):=by
 unfold D5 at e;split at e
 .split at e
  .rename_i hi;simp only [U7] at e;subst e;exact⟨rfl,_,hi⟩
  .cases e
 .cases e
theorem RL{h:Id->Option ab}{x:AV}{q:Id×List AV}(e:Dy h x=some q):x= .own q.1/\h q.1=some (.arr q.2):=by
 unfold Dy at e;split at e
 .split at e
  .rename_i hi;simp only [U7] at e;subst e;exact⟨rfl,hi⟩
  .cases e
 .cases e
theorem Mm{R:Type}{d:Nat}{rw:Bool}{t ty tr:TypeId}{x y:AV}{T vy:Value}{K:AV->aH->Option R}{r:R}(hs:HS c w s.h ρ O)(k:an w (AA c w O) ρ x T)(hy:an w (AA c w O) ρ y vy)
  (f:kT P s d rw t ty x y K=some r):
  ∃v us,K v us=some r/\(jq d s.h us=true->∃u w' ρ' O',(Builtin.append_ #[t,ty] tr #[T,vy]).run P w= .ok u w'/\Le w ρ O w' ρ' O'/\HS c w' (aL s.h us) ρ' O'/\an w' (AA c w' O') ρ' v u):=by
 unfold kT at f;replace f:=U8.1 f;obtain⟨e,he,f⟩:=f;replace f:=U8.1 f;obtain⟨zs,hz,f⟩:=f;obtain⟨I,hok⟩:=yU he;split at f
 .rename_i N;obtain⟨q,B⟩:=N;obtain⟨ti0,_,l,_,_⟩:=oA hz;split at f
  .rename_i i sz aD rsz nx es j cs p e2;cases rw with
   | false=>cases p
   | true=>
   obtain⟨rfl,b,hi⟩:=Sx p;obtain⟨rfl,hj⟩:=RL e2;simp only [an] at k hy;split at f
   .rename_i e' hu';exact Mo hs I hu' hz B q l hi hj k hy f
   .cases f
  rename_i hnr;clear hnr;replace f:=Ms hs I l (by simp [Program.cellsOf,l]) hz B q hy f;obtain⟨ys,vss,f,src,D⟩:=f;have m:∀n,bu (P.bytesOf e) n=some ()->o4 (P.bytesOf e) n:=by
   intro n X;unfold bu at X;split at X
   .assumption
   .simp at X
  clear he hok;revert f;rcases x with _ | z | _ | _ | _ | _ | i | ⟨i,sz'',off,n⟩ | _ | _ | _ <;> intro f <;> (try dsimp only at f) <;> (try cases f)
  case own=>
   split at f
   .rename_i sz' b xs hi;split at f
    .rename_i H;subst H;replace f:=aO f (.inl rfl);obtain⟨_,hb,f⟩:=f;refine⟨_,_,f,λg=> ?_⟩;have g:=kY g Vb;obtain⟨v',W,a,cap,q1,q2,Z,q4,F⟩:=oa hs hi;simp only [an] at k;rw [W] at k;simp only [U7] at k;subst k;subst q1;obtain⟨v,w',ρ',O',p,e2,e3,G⟩:=Fg (ty:=tr) hs (by rw [hi];simp) g I hz B q (m _ hb) q2 Z q4 (by
      rcases F with F | ⟨ah,off,arr,tt,J,k2,k3,S,k5⟩
      .exact .inl F
      .exact .inr ⟨ah,off,arr,tt,J,by simpa using k2,k3,S,k5⟩) l src D
     exact⟨v,w',ρ',O',p,e2,by rw [L3];exact G,by simp only [an];exact e3⟩
    .simp at f
   .simp at f
  case part=>
   split at f
   .rename_i sz' b xs hi;split at f
    .rename_i H;obtain⟨rfl,rfl⟩:=H;replace f:=aO f (.inl rfl);obtain⟨_,hb,f⟩:=f;refine⟨_,_,f,λg=> ?_⟩;have g:=kY g Vb;obtain⟨v',W,a,cap,q1,q2,Z,q4,F⟩:=oa hs hi;simp only [an] at k;obtain⟨a1,L,C,a',J,k2,k3,rfl,S⟩:=k;rw [W] at J;simp only [U7] at J;subst J;simp only [WG] at q1;obtain⟨rfl,rfl,rfl⟩:=q1;have E:((xs.drop off).take n).length=n:=by simp only [Wb,Xd];omega
     have Y:a'=none↔b=true:=by
      rw [<-Z];rcases S with⟨_,rfl⟩ | ⟨_,M,_⟩ | ⟨U,o,rfl,rfl⟩
      .exact Zm
      .exact M
      .simp
     have Q:True:=trivial;obtain⟨v,w',ρ',O',p,e2,e3,G⟩:=Fg (ty:=tr) (xs:=(xs.drop off).take n) (base:=a') (cap:=C - off) hs (by rw [hi];simp) g I hz B q (by rw [E];exact m _ hb) (by rw [E];omega) Y Q (by
      rcases F with F | ⟨ah,off',arr,tt,j1,j2,j3,j4,j5⟩
      .exact .inl (by omega)
      .subst j1;rcases S with⟨rfl,rfl⟩ | ⟨rfl,_⟩ | ⟨U,o,M,rfl⟩
       .exact .inr ⟨ah,off',arr,tt,rfl,by simpa using j2,j3,by simpa using j4,by simpa using j5.take n⟩
       .exact .inl (by omega)
       .simp only [U7,Wr] at M;obtain⟨rfl,rfl,_⟩:=M;refine .inr ⟨ah,_,arr,tt,rfl,by simpa using j2,j3, ?_,(j5.drop off).take n⟩;have:(C - off) * P.cellsOf e+off * P.cellsOf e=C * P.cellsOf e:=by rw [<-XI];congr 1;omega
        omega) l src D
     rw [E] at p;exact⟨v,w',ρ',O',p,e2,by rw [L3];exact G,by simp only [an];exact e3⟩
    .simp at f
   .simp at f
  case t=>
   have V:∀b,aB w (AA c w O) (.aK b) T->(ae none (bu (P.bytesOf e) ys.length) λ_=>K (.own (.s d 0)) [(.s d 0, .sl false (P.cellsOf e) (b && ys.isEmpty) ys)])=some r->
     ∃v us,K v us=some r/\(jq d s.h us=true->∃u w' ρ' O',(Builtin.append_ #[t,ty] tr #[T,vy]).run P w= .ok u w'/\Le w ρ O w' ρ' O'/\HS c w' (aL s.h us) ρ' O'/\an w' (AA c w' O') ρ' v u):=by
    intro b k f;replace f:=aO f (.inl rfl);obtain⟨_,hb,f⟩:=f;refine⟨_,_,f,λg=> ?_⟩;have g:=kY g Vb;obtain⟨v,w',ρ',O',p,e2,e3,G⟩:=Mp (ty:=tr) hs g I hz B q (m _ hb) k l src D;exact⟨v,w',ρ',O',p,e2,by rw [eP];exact G,by simp only [an];exact e3⟩
   simp only [an] at k;replace f:=U8.1 f;obtain⟨b,hb,f⟩:=f;refine V b ?_ f;unfold JF at hb;split at hb
   .simp only [U7] at hb;subst hb;exact k
   .rename_i sz U xs;cases h:(U && xs.isEmpty) with
    | false=>rw [h] at hb;simp at hb
    | true=>
     rw [h] at hb;simp only [cond_true,U7] at hb;subst hb;simp only [Ve,YV] at h;simp only [aB] at k⊢;rcases k with⟨_,_,h1⟩ | ⟨h1,_⟩
     .exact .inl ⟨trivial,h1⟩
     .rw [h.1] at h1;cases h1
   .cases hb
 .simp at f
theorem QR{zv:Array Value}{sz:Nat}(hz:zv.size=sz)(n:Nat):(madeCells zv (n * sz)).toList= (List.replicate n zv.toList).flatten:=by
 refine XL λp=> ?_;by_cases a:p < n * sz
 .have h1:p < (List.replicate n zv.toList).flatten.length:=by simpa [hz] using a
  have:=C5 hz n n (Vq _) p _ (Vd h1);rw [Wl,this,Vd h1]
 .rw [Wc (by simp [madeCells];omega),Wc (by simp [hz];omega)]
theorem JG{rsz:Nat}{i:Id}{ah:Nat}:∀{k n base:Nat},(∀m,m < n->w.cell? ⟨ah,base+m,none⟩=some (.slice none 0 0))->(∀m,k<=m->m < k+n->ρ (.g i m)=some (.slice none 0 0))->
  cr w A ρ O i ah 1 0 rsz base ((List.range' k n).map λk=>⟨k,[.aw],some (true,[])⟩)
 | k,0,base,_,_=>trivial
 | k,n+1,base,a,b=>by
  rw [X6,V6];refine⟨⟨rfl,by omega,λj x f d=> ?_,_,a 0 (by omega),b k (by omega) (by omega),⟨none,0,rfl,by simp,by simp,trivial, .inl rfl⟩⟩,JG (λm hm=> ?_) (λm h1 e=>b m (by omega) (by omega))⟩
  .have:j < 1:=by simpa using (Vi.1 d).1
   omega
  .have:=a (m+1) (by omega);rw [show base+1+m=base+ (m+1) by omega];exact this
theorem HS.Rz{i:Id}{N cap rsz:Nat}{cells:Array Value}(hs:HS c w h ρ O)(hi:h i=none)(t:TypeId)(E:∀p,p < N->cells[p]? =some (.slice none 0 0))(I:cap<=cells.size)(D:N<=cap)(hrl:i.real=true:=by rfl):
  ∃ρ' O',Le w ρ O (w.alloc (.cells cells t)) ρ' O'/\HS c (w.alloc (.cells cells t)) (aE h i (some (.rows false 1 0 rsz N (qS N)))) ρ' O'/\ρ' i=some (.slice (some ⟨w.heap.size,0,none⟩) N cap):=by
 let V:Id->Option Value:=λx=>if x=i then some (.slice (some ⟨w.heap.size,0,none⟩) N cap) else match x with
  | .g y n=>if y=i then(if n < N then some (.slice none 0 0) else none) else ρ (.g y n)
  | x=>ρ x
 have z:V i=some (.slice (some ⟨w.heap.size,0,none⟩) N cap):=by simp only [V,if_true]
 have B:∀x,x.real=true->x≠i->V x=ρ x:=by
  intro x l a;simp only [V,if_neg a];cases x with
  | g y n=>cases l
  | _=>rfl
 have q:∀y n,y≠i->V (.g y n)=ρ (.g y n):=by intro y n hy;simp only [V,if_neg (aP hrl),if_neg hy]
 have v:∀n,V (.g i n)=if n < N then some (.slice none 0 0) else none:=by intro n;simp only [V,if_neg (aP hrl),if_true]
 have C:∀n,O (.g i n)=none:=λn=>(hs.fO i n hi).2;have le:Le w ρ O (w.alloc (.cells cells t)) V (aE O i (some w.heap.size)):=by
  refine⟨rfl,rfl,rfl,by simp,λx u a=> ?_,λd j _=>VW _ _ _ j,λx d a=> ?_⟩
  .cases l:x.real with
   | true=>
    have:x≠i:=λe=>by rw [e,(hs.cC i hrl hi).1] at a;cases a
    rw [B x l this];exact a
   | false=>
    cases x with
    | g y n=>
     have:y≠i:=λe=>by rw [e,(hs.fO i n hi).1] at a;cases a
     rw [q y n this];exact a
    | _=>cases l
  .by_cases e:x=i
   .rw [e,aF] at a;cases a;exact .inr (Vq _)
   .rw [ar _ _ e] at a;exact .inl ⟨x,a⟩
 have r:(qS N).length=N:=by simp [qS]
 refine⟨V,_,le,hs.o7 le (λx y a=> ?_) (λx l a=> ?_) (λx n=>by rw [ar _ _ (aP hrl)];exact hs.eH x n) (λx n a=> ?_) (λx n u o=> ?_) (λx y d a hy=> ?_) (λx d a=> ?_),z⟩
 .by_cases e:x=i
  .subst e;rw [aF] at a;cases a;right;refine⟨_,cap,by rw [r];exact z,by rw [r];exact D,by simp,⟨?_,λf F=> ?_,λn J=>by rw [v,if_neg (by omega)],λn d j=> ?_⟩, .inr ⟨w.heap.size,0,cells,t,rfl,by rw [aF],kZ _,by omega, ?_⟩⟩
   .have:(qS N).map (·.n)=List.range N:=by
     unfold qS;rw [XV];exact List.map_id _
    rw [this];exact List.nodup_range
   .obtain⟨k,G,rfl⟩:=VK.1 F;simpa using G
   .rw [ar _ _ (aP hrl),C] at j;cases j
   .unfold qS;rw [Yv];refine JG (λm hm=> ?_) (λm _ hm=>by rw [v,if_pos (by omega)]);rw [kU (kZ _),VP];exact E m hm
  .rw [ar _ _ e] at a;have H:=hs.real (i:=x) (by rw [a];simp);exact .inl ⟨a,ar _ _ e,λd j=>VW _ _ _ (hs.lt x d j),λn=>⟨q x n e,ar _ _ (aP hrl),λd j=>VW _ _ _ (hs.lt _ d j)⟩⟩
 .have b:x≠i:=λe=>by rw [e,aF] at a;cases a
  rw [ar _ _ b] at a;rw [B x l b,ar _ _ b];exact hs.cC x l a
 .have b:x≠i:=λe=>by rw [e,aF] at a;cases a
  rw [ar _ _ b] at a;rw [q x n b,ar _ _ (aP hrl)];exact hs.fO x n a
 .by_cases b:x=i
  .subst b;rw [v] at o;split at o
   .simp only [U7] at o;subst o;exact⟨rfl,rfl⟩
   .cases o
  .rw [q x n b] at o;exact hs.gone x n u o
 .by_cases e:x=i <;> by_cases e':y=i
  .rw [e,e']
  .rw [e,aF] at a;cases a;rw [ar _ _ e'] at hy;exact absurd (hs.lt _ _ hy) (XN _)
  .rw [e',aF] at hy;cases hy;rw [ar _ _ e] at a;exact absurd (hs.lt _ _ a) (XN _)
  .rw [ar _ _ e] at a;rw [ar _ _ e'] at hy;exact hs.inj x y d a hy
 .by_cases e:x=i
  .rw [e,aF] at a;cases a;simp
  .rw [ar _ _ e] at a;have:=hs.lt x d a;simp;omega
theorem QT{R:Type}{d:Nat}{t:TypeId}{Q:Nat}{n m:T}{vn vm:Value}{K:AV->aH->Option R}{r:R}(hs:HS c w s.h ρ O)(I:an w (AA c w O) ρ (.t n) vn)(hm:an w (AA c w O) ρ (.t m) vm)
  (a:sV P d t Q n m K=some r):
  ∃v us,K v us=some r/\(jq d s.h us=true->∃u w' ρ' O',(Instr.makeSlice t vn vm).run P w= .ok u w'/\Le w ρ O w' ρ' O'/\HS c w' (aL s.h us) ρ' O'/\an w' (AA c w' O') ρ' v u):=by
 unfold sV at a;replace a:=U8.1 a;obtain⟨e,V,a⟩:=a;replace a:=U8.1 a;obtain⟨zs,hz,a⟩:=a;obtain⟨L,X⟩:=yU V;replace a:=aO a (.inl rfl);obtain⟨N,J,a⟩:=a;replace a:=aO a (.inl rfl);obtain⟨j,H,a⟩:=a;have:=T.gA J;subst this;have:=T.gA H;subst this;simp only [an,aB] at I hm;subst I;subst hm;split at a
 .rename_i B;obtain⟨C,x⟩:=B;replace a:=aO a (.inl rfl);obtain⟨_,hb,a⟩:=a;obtain⟨E,h1,F⟩:=I4 hb;cases D:(Q==2) with
  | true=>
   simp only [D,cond_true] at a;split at a
   .rename_i u Y;split at a
    .rename_i G;refine⟨_,_,a,λb=> ?_⟩;have b:=kY b Vb;obtain⟨zv,g,z⟩:=KB (w:=w) (A:=AA c w O) (kn:= .i64) (km:= .i64) L hz C x E h1 F;have y:zv.cells.size=P.cellsOf e:=by have:=g.length;rw [VH] at this;omega
     have M:zv.cells.toList= [.slice none 0 0]:=by
      obtain⟨v,q,S,f,l⟩:=g;simp only [aR] at l;rw [S,l];simp only [aB] at f;rcases f with⟨_,f⟩ | ⟨f,_⟩
      .rw [f]
      .cases f
     have o:∀p,p < N.toNat->(madeCells zv.cells (j.toNat * P.cellsOf e))[p]? =some (.slice none 0 0):=by
      intro p Z;rw [<-Wl,QR y,M];have:(List.replicate j.toNat [Value.slice none 0 0]).flatten=List.replicate j.toNat (.slice none 0 0):=by
       induction j.toNat with
       | zero=>rfl
       | succ k W=>rw [VX,Xx,W];rfl
      rw [this,Xc,if_pos (by omega)]
     obtain⟨ρ',O',f,l,U⟩:=hs.Rz (i:= .s d 0) (rsz:=P.cellsOf u) b e o (cap:=j.toNat) (by simp [madeCells,G]) (by omega);refine⟨_,_,ρ',O',z,f, ?_, ?_⟩
     .rw [eP];with_reducible exact l
     .simp only [an];exact U
    .simp at a
   .simp at a
  | false=>
  simp only [D,cond_false] at a;refine⟨_,_,a,λb=> ?_⟩;have b:=kY b Vb;obtain⟨zv,g,z⟩:=KB (w:=w) (A:=AA c w O) (kn:= .i64) (km:= .i64) L hz C x E h1 F;have y:zv.cells.size=P.cellsOf e:=by have:=g.length;rw [VH] at this;omega
  obtain⟨f,l⟩:=hs.Dm (i:= .s d 0) (sz:=P.cellsOf e) b e (madeCells zv.cells (j.toNat * P.cellsOf e)) j.toNat (cB.replicate g x N.toNat)
   (C5 y _ _ (by omega)) (by simp;omega) (by simp [madeCells])
  refine⟨_,_,_,_,z,f,by rw [eP];exact l, ?_⟩;simp only [an];rw [aF,W7]
 .simp at a
end
open Go
section
variable {P:Program} {w w':World} {A A':Nat->Prop} {c:Ctx} {ρ:Id->Option Value} {O:Id->Option Nat} {s:St} {cc:Option Bool} {h:Id->Option ab}
theorem IH{t:TypeId}{x:AV}{i:Value}{b:Bool}(hs:HS c w s.h ρ O)(g:an w (AA c w O) ρ x i)(h:jP P s t x=some b)(o:Operand)(u:pk P t o=true)(a:Act)(m n:Operand):
  ((eqGuard .eql t m n i (a.eval o)).run P w= .ok () w/\(binOp .eql t i (a.eval o)).run P w= .ok (.bool b) w)/\
  ((eqGuard .neq t m n i (a.eval o)).run P w= .ok () w/\(binOp .neq t i (a.eval o)).run P w= .ok (.bool (!b)) w)/\
  ((eqGuard .eql t m n (a.eval o) i).run P w= .ok () w/\(binOp .eql t (a.eval o) i).run P w= .ok (.bool b) w)/\
  ((eqGuard .neq t m n (a.eval o) i).run P w= .ok () w/\(binOp .neq t (a.eval o) i).run P w= .ok (.bool (!b)) w):=by
 unfold pk at u;split at u
 .rename_i e j;have key:∃p l k,i= .slice p l k/\p.isNone=b:=by
   unfold jP at h;rw [j] at h;dsimp only at h;split at h
   .rename_i sz B xs;simp only [U7] at h;subst h;simp only [an,aB] at g;rcases g with⟨rfl,_,rfl⟩ | ⟨rfl,_,_,_,_,rfl,_⟩
    .exact⟨_,_,_,rfl,rfl⟩
    .exact⟨_,_,_,rfl,rfl⟩
   .simp only [U7] at h;subst h;simp only [an,aB] at g;rcases g with⟨rfl,rfl⟩ | ⟨rfl,_,_,_,rfl⟩
    .exact⟨_,_,_,rfl,rfl⟩
    .exact⟨_,_,_,rfl,rfl⟩
   .split at h
    .rename_i hi;simp only [U7] at h;subst h;obtain⟨G,z,a,cap,q1,C,v,D,F⟩:=oa hs hi;simp only [an] at g;rw [z] at g;simp only [U7] at g;subst g;subst q1;refine⟨_,_,_,rfl, ?_⟩;cases a with
     | none=>simpa using v
     | some a=>
      have:¬(_=true):=λe=>by have:=v.2 e;simp at this
      simpa using this
    .simp at h
   .simp at h
  obtain⟨p,l,k,rfl,rfl⟩:=key;simp only [Act.eval];have q:(Op.equal t (.slice p l k) (.slice none 0 0)).run P w= .ok p.isNone w:=by
   have:∀d,(Op.equalIn (d+1) t (.slice p l k) (.slice none 0 0)).run P w= .ok p.isNone w:=by intro d;cases p <;> simp [Op.equalIn,run_underlying j]
   exact this 9999
  have r:(Op.equal t (.slice none 0 0) (.slice p l k)).run P w= .ok p.isNone w:=by
   have:∀d,(Op.equalIn (d+1) t (.slice none 0 0) (.slice p l k)).run P w= .ok p.isNone w:=by intro d;simp [Op.equalIn,run_underlying j]
   exact this 9999
  refine⟨⟨by simp [eqGuard], ?_⟩,⟨by simp [eqGuard], ?_⟩,⟨by simp [eqGuard], ?_⟩,⟨by simp [eqGuard], ?_⟩⟩ <;> simp only [binOp] <;> simp [q,r]
 .rename_i e j;have key:∃p,i= .pointer p/\p.isNone=b:=by
   unfold jP at h;rw [j] at h;dsimp only at h;split at h
   .simp only [U7] at h;subst h;simp only [an,aB] at g;obtain⟨_,_,rfl,_⟩:=g;exact⟨_,rfl,rfl⟩
   .simp only [U7] at h;subst h;simp only [an,aB] at g;subst g;exact⟨_,rfl,rfl⟩
   .simp only [U7] at h;subst h;simp only [an] at g;obtain⟨_,_,rfl⟩:=g;exact⟨_,rfl,rfl⟩
   .simp only [U7] at h;subst h;simp only [an] at g;obtain⟨_,_,_,_,_,rfl⟩:=g;exact⟨_,rfl,rfl⟩
   .simp at h
  obtain⟨p,rfl,rfl⟩:=key;simp only [Act.eval];have q:(Op.equal t (.pointer p) (.pointer none)).run P w= .ok p.isNone w:=by
   have:∀d,(Op.equalIn (d+1) t (.pointer p) (.pointer none)).run P w= .ok p.isNone w:=by intro d;cases p <;> simp [Op.equalIn,run_underlying j]
   exact this 9999
  have r:(Op.equal t (.pointer none) (.pointer p)).run P w= .ok p.isNone w:=by
   have:∀d,(Op.equalIn (d+1) t (.pointer none) (.pointer p)).run P w= .ok p.isNone w:=by intro d;simp [Op.equalIn,run_underlying j]
   exact this 9999
  refine⟨⟨by simp [eqGuard], ?_⟩,⟨by simp [eqGuard], ?_⟩,⟨by simp [eqGuard], ?_⟩,⟨by simp [eqGuard], ?_⟩⟩ <;> simp only [binOp] <;> simp [q,r]
 .rename_i j;have key:(i= .nilFunc/\b=true)\/(∃f x y,i= .func f x y/\b=false):=by
   unfold jP at h;rw [j] at h;dsimp only at h;split at h
   .simp only [U7] at h;subst h;simp only [an,aB] at g;exact .inl ⟨g,rfl⟩
   .simp only [U7] at h;subst h;simp only [an] at g;obtain⟨_,_,rfl,_⟩:=g;exact .inr ⟨_,_,_,rfl,rfl⟩
   .simp at h
  simp only [Act.eval];have E:(Op.equal t i .nilFunc).run P w= .ok b w/\(Op.equal t .nilFunc i).run P w= .ok b w:=by
   constructor
   .have:∀d,(Op.equalIn (d+1) t i .nilFunc).run P w= .ok b w:=by intro d;rcases key with⟨rfl,rfl⟩ | ⟨f,x,y,rfl,rfl⟩ <;> simp [Op.equalIn,run_underlying j]
    exact this 9999
   .have:∀d,(Op.equalIn (d+1) t .nilFunc i).run P w= .ok b w:=by intro d;rcases key with⟨rfl,rfl⟩ | ⟨f,x,y,rfl,rfl⟩ <;> simp [Op.equalIn,run_underlying j]
    exact this 9999
  rcases key with⟨rfl,rfl⟩ | ⟨f,x,y,rfl,rfl⟩ <;>
  refine⟨⟨by simp [eqGuard], ?_⟩,⟨by simp [eqGuard], ?_⟩,⟨by simp [eqGuard], ?_⟩,⟨by simp [eqGuard], ?_⟩⟩ <;> simp only [binOp] <;> simp [E.1,E.2]
 .rename_i j;have key:i= .map none/\b=true:=by
   unfold jP at h;rw [j] at h;dsimp only at h;split at h
   .simp only [U7] at h;subst h;simp only [an,aB] at g;exact⟨g,rfl⟩
   .simp at h
  simp only [Act.eval];obtain⟨rfl,rfl⟩:=key;have E:(Op.equal t (.map none) (.map none)).run P w= .ok true w:=by
   have:∀d,(Op.equalIn (d+1) t (.map none) (.map none)).run P w= .ok true w:=by intro d;simp [Op.equalIn,run_underlying j]
   exact this 9999
  refine⟨⟨by simp [eqGuard], ?_⟩,⟨by simp [eqGuard], ?_⟩,⟨by simp [eqGuard], ?_⟩,⟨by simp [eqGuard], ?_⟩⟩ <;> simp only [binOp] <;> simp [E]
 .simp at u
theorem Na{R:Type}{src e:TypeId}{x:T}{j:Value}{K:T->Option R}{r:R}(i:cc=none\/cc=some true)(d:aB w A x j)(a:su P cc src e x K=some r):
  ∃z v,K z=some r/\(convert src e j).run P w= .ok v w/\aB w A z v:=by
 unfold su at a;split at a
 .rename_i k l g b;replace a:=aO a i;obtain⟨n,f,a⟩:=a;have:=T.gA f;subst this;simp only [aB] at d;subst d;exact⟨_,_,a,by simp [convert,run_underlying g,run_underlying b,Conv.intToInt],gM _ _ _ _⟩
 .rename_i g b;replace a:=aO a i;obtain⟨n,f,a⟩:=a;have:=T.kK f;subst this;simp only [aB] at d;subst d;exact⟨_,_,a,by simp [convert,run_underlying g,run_underlying b],mu _ _ _⟩
 .simp at a
theorem FF:∀{xs:List (List T)} {l:List UInt8} {vss:List (List Value)},bytesOf xs=some l->cB w A 1 xs vss->∃a:List Int,vss.flatten=a.map (Value.int .u8)/\l=a.map (λn=>UInt8.ofNat n.toNat)
 | [],l,vss,e,h=>by simp only [cB] at h;subst h;simp only [bytesOf,U7] at e;subst e;exact⟨[],rfl,rfl⟩
 | cs::xs,l,vss,e,⟨vs,r,g,e2,e3,i⟩=>by
  subst g;simp only [bytesOf] at e;obtain⟨x,f,e⟩:=U8.1 e;obtain⟨n,m,e⟩:=U8.1 e;obtain⟨q,o,e⟩:=U8.1 e;simp only [U7] at e;subst e;obtain⟨a,j,k⟩:=FF o i;have:=T.gA m;subst this;cases cs with
  | nil=>simp at e2
  | cons y cs=>simp only [WU,U7] at f;subst f;have:cs= []:=Vt.1 (by simpa using e2);subst this;obtain⟨v,p,rfl,b,d⟩:=e3;simp only [aR] at d;subst d;simp only [aB] at b;subst b;exact⟨n::a,by simp [j],by simp [k]⟩
theorem Ki:∀(a:List Int) (b:ByteArray),a.foldl (λr n=>r.push (UInt8.ofNat n.toNat)) b= ⟨b.data++ (a.map (λn=>UInt8.ofNat n.toNat)).toArray⟩
 | [],b=>by simp
 | n::a,b=>by rw [List.foldl_cons,Ki a];simp [ByteArray.push]
theorem MR{src b e:TypeId}{x:AV}{y:T}{o:Value}{p:Bool×List (List T)}{l:List UInt8}(hs:HS c w s.h ρ O)(m:P.underlying src=some (.slice e))(f:P.underlying b=some .string)(i:P.underlying e=some (.int .u8))
  (B:an w (AA c w O) ρ x o) (hy:dK s.h x=some y) (z:y.aQ 1=some p) (d:bytesOf p.2=some l):(convert src b o).run P w= .ok (.string ⟨l.toArray⟩) w:=by
 rcases Lj hs B hy z with⟨n,rfl | ⟨a,cap,rfl⟩⟩ | ⟨ah,off,cap,rfl,k⟩
 .rw [n] at d;simp only [bytesOf,U7] at d;subst d;rw [run_convert_bytes_string w src b e _ _ _ m i f];simp [Conv.bytesToString];rfl
 .rw [n] at d;simp only [bytesOf,U7] at d;subst d;rw [run_convert_bytes_string w src b e _ _ _ m i f,run_bytesToString w a 0 cap [] (run_loadCells_list (P:=P) w a [] (by simp))];rfl
 .obtain⟨vss,h1,t⟩:=k.bg;obtain⟨E,C⟩:=h1.length;obtain⟨D,q,r⟩:=FF d h1;rw [run_convert_bytes_string w src b e _ _ _ m i f,run_bytesToString w _ _ cap D ?_,Ki]
  .rw [r];simp
  .rw [<-q];have g:=run_loadCells_list (P:=P) w ⟨ah,off,none⟩ vss.flatten (λj v u=>by rw [hZ];exact t j v u);rw [C,YD] at g;exact g
theorem QG{R:Type}{t:TypeId}(i:bV P t=true){cs:List AV}{arr:Array Value}{off:Nat}{K:AV->Option R}{r:R}(f:aC w A ρ cs (arr.toList.drop off))(h1:∀u∈arr.toList,u.oneCell'=true/\u.cells= #[u])(h:nM P t cs K=some r):
  ∃av v,K av=some r/\(part t arr off).run P w= .ok v w/\an w A ρ av v:=by
 unfold nM at h;unfold part;simp only [Vz,tA i,Vm];cases hb:bp P t
 .simp only [hb,cond_false] at h;cases cs with
  | nil=>simp at h
  | cons y cs=>
   simp only [WU,Vj] at h;simp only [aC] at f;obtain⟨v,q,e,a,_⟩:=f;have b:off < arr.toList.length:=by
    rcases Xr off arr.toList.length with g | g
    .exact g
    .rw [Xz g] at e;simp at e
   rw [W5 b] at e;simp only [Xn] at e;have:arr[off]? =some v:=by rw [XG (by simpa using b)];rw [<-e.1];simp
   simp only [VF,if_false,this];exact⟨_,v,h,by simp,a⟩
 .simp only [hb,cond_true] at h;cases d:oo (P.cellsOf t) cs with
  | none=>simp [d] at h
  | some l=>simp only [d,Vj] at h;obtain⟨j,m⟩:=Ey d;have a:=f.take (P.cellsOf t);rw [<-j] at a;refine⟨_, .agg (arr.extract off (off+P.cellsOf t)),h,by simp only [if_true,Vz,jw i,Vm,VQ], ?_⟩;simp only [an];refine⟨_, ?_,a,λu k=>h1 u (W1 (Xe k))⟩;congr 1;apply XJ;simp [Yu,X1]
theorem PI{R:Type}{t:TypeId}{x:AV}{d:Value}{f:Nat}{K:AV->Option R}{r:R}(b:an w A ρ x d)(h:sK P t x f K=some r):
  ∃av v,K av=some r/\(Instr.field t d f).run P w= .ok v w/\an w A ρ av v:=by
 unfold sK at h;split at h
 .rename_i off u k;obtain⟨o,y,h1,i,a,j⟩:=Cx k;simp only [Wk] at a;obtain⟨rfl,rfl⟩:=a;split at h
  .rename_i vs;simp only [an] at b;obtain⟨n,rfl,e,g⟩:=b;obtain⟨av,v,l,k2,m⟩:=QG (arr:=n.toArray) j (by simpa using e.drop y.offset) (by simpa using g) h;exact⟨av,v,l,by simp [Instr.field,run_underlying h1,i,asAgg,k2],m⟩
  .simp at h
 .simp at h
theorem QF{R:Type}{t:TypeId}(j:bV P t=true){cs:List T}{arr:Array Value}{off:Nat}{K:AV->Option R}{r:R}(b:cc=none\/cc=some true)(i:aR w A cs (arr.toList.drop off))(h:lh P t cc cs K=some r):
  ∃av v,K av=some r/\(part t arr off).run P w= .ok v w/\an w A ρ av v:=by
 unfold lh at h;unfold part;simp only [Vz,tA j,Vm];cases hb:bp P t
 .simp only [hb,cond_false] at h;replace h:=aO h b;obtain⟨x,f,h⟩:=h;cases cs with
  | nil=>simp at f
  | cons y cs=>
   simp only [WU,U7] at f;subst f;obtain⟨v,q,e,a,_⟩:=i;have d:off < arr.toList.length:=by
    rcases Xr off arr.toList.length with g | g
    .exact g
    .rw [Xz g] at e;simp at e
   rw [W5 d] at e;simp only [Xn] at e;have:arr[off]? =some v:=by rw [XG (by simpa using d)];rw [<-e.1];simp
   simp only [VF,if_false,this];obtain⟨z,h,a⟩:=pQ b a h;exact⟨_,v,h,by simp,by simpa [an] using a⟩
 .simp only [hb,cond_true] at h;obtain⟨l,m,n,h⟩:=Ak b h;have a:=i.take (P.cellsOf t);rw [<-m] at a;obtain⟨o,h,k⟩:=wJ b a h;refine⟨_, .agg (arr.extract off (off+P.cellsOf t)),h,by simp only [if_true,Vz,jw j,Vm,VQ], ?_⟩;simp only [an];refine⟨_, ?_,aC.mn k,a.one⟩;congr 1;apply XJ;simp [Yu,X1]
theorem C9{R:Type}{k:IntKind}(f:cc=none\/cc=some true)(d:Bool):∀{l:List T} {a:Int} {vs:List Value} {K:T->Option R} {r:R},aR w A l vs->pe k cc d a l K=some r->
  ∃n,K (.int k n)=some r/\(vs.foldlM (cond d Builtin.max2 Builtin.min2) (.int k a)).run P w= .ok (.int k n) w
 | [],a,vs,K,r,hv,h=>by simp only [aR] at hv;subst hv;exact⟨a,h,by simp⟩
 | y::l,a,vs,K,r,⟨v,q,e,h1,i⟩,h=>by
  subst e;simp only [pe] at h;replace h:=aO h f;obtain⟨b,hb,h⟩:=h;have:=T.gA hb;subst this;simp only [aB] at h1;subst h1;obtain⟨n,g,e2⟩:=C9 f d i h;refine⟨n,g, ?_⟩;rw [List.foldlM_cons];have:((cond d Builtin.max2 Builtin.min2) (.int k a) (.int k b)).run P w= .ok (.int k (mm d a b)) w:=by cases d <;> simp [Builtin.max2,Builtin.min2,mm]
  simp only [Vz,this,Vm];exact e2
end
open Go
def fW(O:Id->Option Nat)(b:Nat):Prop:= ∃i,O i=some b
def ke(a:List ab):Id->Option ab
 | .c j=>a[j]?
 | _=>none
section
variable {P:Program} {w w':World} {A A':Nat->Prop} {c:Ctx} {ρ:Id->Option Value} {O:Id->Option Nat} {s s':St} {h:Id->Option ab}
def nK:Option ab->List Id
 | some (.box cs)=>b8 cs
 | some (.arr cs)=>b8 cs
 | _=> []
theorem vX:∀{n:Nat} {todo d seen:List Id},fm h n todo d=some seen->d.Nodup->(∀i∈d,h i≠none)->(∀i∈d,∀j∈nK (h i),j∈d\/j∈todo)->
  seen.Nodup/\(∀i∈d,i∈seen)/\(∀i∈todo,i∈seen)/\(∀i∈seen,h i≠none)/\∀i∈seen,∀j∈nK (h i),j∈seen
 | 0,todo,d,seen,e,_,_,_=>by simp [fm] at e
 | n+1,[],d,seen,e,t,r,q=>by simp only [fm,U7] at e;subst e;exact⟨t,λ_ h=>h,by simp,r,λi hi j m=>by rcases q i hi j m with h | h;exact h;cases h⟩
 | n+1,i::todo,d,seen,e,t,r,q=>by
  simp only [fm] at e;cases l:d.contains i with
  | true=>
   rw [l,cond_true] at e;have hi:i∈d:=by simpa using l
   obtain⟨u,p,v,x,y⟩:=vX e t r (λk f j m=>by
    rcases q k f j m with h | h
    .exact .inl h
    .rcases Vo.1 h with rfl | h
     .exact .inl hi
     .exact .inr h)
   refine⟨u,p,λk f=> ?_,x,y⟩;rcases Vo.1 f with rfl | f
   .exact p _ hi
   .exact v k f
  | false=>
   rw [l,cond_false] at e;have E:i∉d:=by
    intro hm;have:d.contains i=true:=by simpa using hm
    rw [this] at l;cases l
   have C:(d++ [i]).Nodup:=W6.2 ⟨t,by simp,λa F b hb z=>by simp only [Vk] at hb;exact E (by rw [<-hb,<-z];exact F)⟩;have go:∀g:List Id,h i≠none->nK (h i)=g->fm h n (todo++g) (d++ [i])=some seen->_:=λg D hm e=>
    vX e C (λk f=>by
     rcases Vr.1 f with f | f
     .exact r k f
     .simp only [Vk] at f;subst f;exact D) (λk f j m=>by
     rcases Vr.1 f with f | f
     .rcases q k f j m with h | h
      .exact .inl (Vn _ h)
      .rcases Vo.1 h with rfl | h
       .exact .inl (Vp _ (Vk.2 rfl))
       .exact .inr (Vn _ h)
     .simp only [Vk] at f;subst f;rw [hm] at m;exact .inr (Vp _ m))
   have o:∀g:List Id,(seen.Nodup/\(∀k∈d++ [i],k∈seen)/\(∀k∈todo++g,k∈seen)/\(∀k∈seen,h k≠none)/\∀k∈seen,∀j∈nK (h k),j∈seen)->
     seen.Nodup/\(∀i∈d,i∈seen)/\(∀k∈i::todo,k∈seen)/\(∀i∈seen,h i≠none)/\∀i∈seen,∀j∈nK (h i),j∈seen:=by
    rintro g ⟨u,p,v,x,y⟩;refine⟨u,λk f=>p k (Vn _ f),λk f=> ?_,x,y⟩;rcases Vo.1 f with rfl | f
    .exact p _ (Vp _ (Vk.2 rfl))
    .exact v k (Vn _ f)
   split at e
   .rename_i cs hi;exact o _ (go (b8 cs) (by rw [hi];simp) (by rw [hi];rfl) e)
   .rename_i cs hi;exact o _ (go (b8 cs) (by rw [hi];simp) (by rw [hi];rfl) e)
   .rename_i b hb B hi;refine o [] (go [] (by rw [hi];simp) ?_ (by simpa using e));rw [hi];cases b with
    | box cs=>exact(hb cs rfl).elim
    | arr cs=>exact(B cs rfl).elim
    | _=>rfl
   .simp at e
def cv{a:Type}(m:List Id)(f:Id->Option a):Id->Option a
 | .c j=>(m[j]?).bind f
 | .g (.c j) n=>(m[j]?).bind λi=>f (.g i n)
 | _=>none
theorem zZ{a:Type}{m:List Id}{f:Id->Option a}{i:Id}(hi:i∈m):cv m f (.c (m.idxOf i))=f i:=by simp only [cv];have:m.idxOf i < m.length:=ZH.2 hi;rw [Vd this];simp
theorem Kt{a:Type}{m:List Id}{f:Id->Option a}{i:Id}{n:Nat}(hi:i∈m):cv m f (.g (.c (m.idxOf i)) n)=f (.g i n):=by simp only [cv];have:m.idxOf i < m.length:=ZH.2 hi;rw [Vd this];simp
def pR(seen:List Id):Id->Option Id
 | .c j=>seen[j]?
 | .g (.c j) n=>(seen[j]?).map λi=> .g i n
 | _=>none
theorem Ku{a:Type}{m:List Id}{f:Id->Option a}(i:Id):cv m f i= (pR m i).bind f:=by
 cases i with
 | c j=>rfl
 | s d j=>rfl
 | g i n=>
  cases i with
  | c j=>simp only [cv,pR];cases m[j]? <;> rfl
  | _=>rfl
theorem UM{seen:List Id}(t:seen.Nodup){i j k:Id}(p:∀x∈seen,x.real=true)(hi:pR seen i=some k)(r:pR seen j=some k):i=j:=by
 have inj:∀{a b:Nat} {x:Id},seen[a]? =some x->seen[b]? =some x->a=b:=by intro a b x h1 e;obtain⟨u,q⟩:=Vi.1 h1;obtain⟨v,e2⟩:=Vi.1 e;exact(List.getElem_inj t).1 (q.trans e2.symm)
 have l:∀i,pR seen i=some k->(∃a,i= .c a/\seen[a]? =some k)\/∃a n x,i= .g (.c a) n/\seen[a]? =some x/\k= .g x n:=by
  intro i hi;cases i with
  | c a=>exact .inl ⟨a,rfl,hi⟩
  | s d a=>cases hi
  | g i n=>
   cases i with
   | c a=>simp only [pR,XS] at hi;obtain⟨x,h1,e⟩:=hi;exact .inr ⟨a,n,x,rfl,h1,e.symm⟩
   | _=>cases hi
 rcases l i hi with⟨a,rfl,h1⟩ | ⟨a,n,x,rfl,h1,e⟩ <;> rcases l j r with⟨b,rfl,f⟩ | ⟨b,m,y,rfl,f,o⟩
 .rw [inj h1 f]
 .have:=p k (Va h1);rw [o] at this;cases this
 .have:=p k (Va f);rw [e] at this;cases this
 .rw [e] at o;cases o;rw [inj h1 f]
mutual
theorem an.rn{m:List Id}(d:∀b,A b->A' b):∀(v:AV) (u:Value),(∀i∈v.ids,i∈m)->an w A ρ v u->an w A' (cv m ρ) (v.rn m) u
 | .top,_,_,_=>by simp [AV.rn,an]
 | .t x,u,_,hv=>by simp only [AV.rn,an] at hv⊢;exact aB.mono (λb hb=>⟨d b hb,rfl⟩) x u hv
 | .mD vs,u,hi,hv=>by simp only [AV.rn,an] at hv⊢;obtain⟨g,e,h1⟩:=hv;exact⟨g,e,aC.rn d vs g (by simpa [AV.ids] using hi) h1⟩
 | .agg vs,u,hi,hv=>by simp only [AV.rn,an] at hv⊢;obtain⟨g,e,h1,j⟩:=hv;exact⟨g,e,aC.rn d vs g (by simpa [AV.ids] using hi) h1,j⟩
 | .ref i off,u,hi,hv=>by simp only [AV.rn,an] at hv⊢;rw [zZ (hi i (by simp [AV.ids]))];exact hv
 | .el i sz k off,u,hi,hv=>by simp only [AV.rn,an] at hv⊢;rw [zZ (hi i (by simp [AV.ids]))];exact hv
 | .own i,u,hi,hv=>by simp only [AV.rn,an] at hv⊢;rw [zZ (hi i (by simp [AV.ids]))];exact hv
 | .part i sz off n,u,hi,hv=>by simp only [AV.rn,an] at hv⊢;rw [zZ (hi i (by simp [AV.ids]))];exact hv
 | .row i n,u,hi,hv=>by simp only [AV.rn,an] at hv⊢;rw [Kt (hi i (by simp [AV.ids]))];exact hv
 | .rel i sz n k off,u,hi,hv=>by simp only [AV.rn,an] at hv⊢;rw [Kt (hi i (by simp [AV.ids]))];exact hv
 | .fn f a b,u,hi,hv=>by simp only [AV.rn,an] at hv⊢;obtain⟨l,y',e,h1,j⟩:=hv;simp only [AV.ids,Vr] at hi;exact⟨l,y',e,aC.rn d a l (λi h=>hi i (.inl h)) h1,aC.rn d b y' (λi h=>hi i (.inr h)) j⟩
theorem aC.rn{m:List Id}(a:∀b,A b->A' b):∀(vs:List AV) (us:List Value),(∀i∈b8 vs,i∈m)->aC w A ρ vs us->aC w A' (cv m ρ) (kG m vs) us
 | [],us,_,hv=>by simpa [kG,aC] using hv
 | v::vs,us,hi,hv=>by simp only [kG,aC] at hv⊢;obtain⟨u,r,e,h1,d⟩:=hv;simp only [b8,Vr] at hi;exact⟨u,r,e,an.rn a v u (λi h=>hi i (.inl h)) h1,aC.rn a vs r (λi h=>hi i (.inr h)) d⟩
end
def Of(seen:List Id)(k:Id):Prop:=k∈seen\/∃i n,i∈seen/\k= .g i n
theorem UN{seen:List Id}{i k:Id}(h:pR seen i=some k):Of seen k:=by
 cases i with
 | c a=>exact .inl (Va h)
 | s d a=>cases h
 | g i n=>
  cases i with
  | c a=>simp only [pR,XS] at h;obtain⟨x,h1,b⟩:=h;exact .inr ⟨x,n,Va h1,b.symm⟩
  | _=>cases h
theorem vZ{seen:List Id}{b:Nat}(h:fW (cv seen O) b):∃k,Of seen k/\O k=some b:=by obtain⟨i,hi⟩:=h;rw [Ku] at hi;obtain⟨k,a,d⟩:=U8.1 hi;exact⟨k,UN a,d⟩
theorem cr.rn{seen:List Id}{i:Id}{j:Nat}{ah sz aD rsz:Nat}(a:∀b,A b->A' b)(d:seen[j]? =some i):∀{es:List Row} {base:Nat},cr w A ρ O i ah sz aD rsz base es->
  cr w A' (cv seen ρ) (cv seen O) (.c j) ah sz aD rsz base es
 | [],_,_=>trivial
 | e::es,base,⟨⟨h1,o,q,v,r,t,y⟩,B⟩=>by
  have f:cv seen ρ (.g (.c j) e.n)=ρ (.g i e.n):=by simp [cv,d]
  refine⟨⟨h1,o,λk x z C=> ?_,v,r,by rw [f];exact t, ?_⟩,cr.rn a d B⟩
  .obtain⟨u,l,m⟩:=q k x z C;exact⟨u,l,aB.mono (λb hb=>⟨a b hb,rfl⟩) x u m⟩
  .have e2:cv seen O (.g (.c j) e.n)=O (.g i e.n):=by simp [cv,d]
   rw [e2];revert y;cases e.own with
   | none=>exact λh=>h
   | some p=>exact λh=>h.mono (λb hb=>⟨a b hb,rfl⟩) λb hb=>⟨hb,rfl⟩
theorem oN.rn{seen:List Id}{i:Id}{j nx:Nat}{es:List Row}(d:seen[j]? =some i)(h:oN ρ O i nx es):oN (cv seen ρ) (cv seen O) (.c j) nx es:=by
 have e:∀n,cv seen ρ (.g (.c j) n)=ρ (.g i n):=λn=>by simp [cv,d]
 have e2:∀n,cv seen O (.g (.c j) n)=O (.g i n):=λn=>by simp [cv,d]
 exact⟨h.1,h.2.1,λn a=>by rw [e];exact h.2.2.1 n a,λn b a=>by rw [e2] at a;exact h.2.2.2 n b a⟩
theorem HS.Ks{c':Ctx}{seen:List Id}(hs:HS c w h ρ O)(W:seen.Nodup)(J:∀i∈seen,h i≠none)(V:∀i∈seen,∀j∈nK (h i),j∈seen)
  (z:∀b,AA c w O b->AA c' w (cv seen O) b) (T:∀b,fW (cv seen O) b->c'.MO b) (U:c'.N0<=w.heap.size):HS c' w (ke (seen.map λi=>ir seen (h i))) (cv seen ρ) (cv seen O):=by
 have H:∀b,fW (cv seen O) b->fW O b:=λb h=>let⟨k,_,B⟩:=vZ h;⟨k,B⟩;refine⟨λi b hb=> ?_,λi X hi=> ?_,λi n=>rfl,λi n hi=> ?_,λi n u I=> ?_,λi j b hi K=> ?_,λi b hi=> ?_,λi b hi=> ?_,U⟩
 .cases i with
  | s d j=>simp [ke] at hb
  | g i n=>simp [ke] at hb
  | c j=>
   simp only [ke,VZ,XS] at hb;obtain⟨i,hi,e⟩:=hb;have E:i∈seen:=Va hi;have m:cv seen ρ (.c j)=ρ i:=by simp [cv,hi]
   have y:cv seen O (.c j)=O i:=by simp [cv,hi]
   cases D:h i with
   | none=>exact(J i E D).elim
   | some x=>
    have r:=hs.ah i x D;have C:=V i E;rw [D] at e C;cases x with
    | box cs=>simp only [ir] at e;subst e;obtain⟨o,arr,t,f,e2,e3,p,q⟩:=r;exact⟨o,arr,t,by rw [m];exact f,by rw [y];exact e2,e3,aC.rn z cs _ (λk B=>C k (by simpa [nK] using B)) p,q⟩
    | sl R sz bb xs=>
     simp only [ir] at e;subst e;obtain⟨v,f,e2,e3⟩:=r;refine⟨v,by rw [m];exact f,e2.mono (λb hb=>⟨z b hb,rfl⟩) (λb hb=>⟨?_,rfl⟩),by rw [y];exact e3⟩;cases R
     .simp only [VF,if_false] at hb⊢;rw [y];exact hb
     .simp only [if_true] at hb⊢;exact z b hb
    | iW l=>simp only [ir] at e;subst e;obtain⟨o,f,e2,e3,p⟩:=r;exact⟨o,by rw [m];exact f,by rw [y];exact e2,z o e3,aX.mono (λb hb=>⟨z b hb,rfl⟩) o e3 0 l p⟩
    | mp ag ks vk es=>simp only [ir] at e;subst e;obtain⟨o,G,F,f,e2,e3,p,q⟩:=r;exact⟨o,G,F,by rw [m];exact f,by rw [y];exact e2,e3,p,q⟩
    | arr cs=>simp only [ir] at e;subst e;obtain⟨o,arr,t,f,e2,e3,p,q⟩:=r;exact⟨o,arr,t,by rw [m];exact f,by rw [y];exact e2,e3,aC.rn z cs _ (λk B=>C k (by simpa [nK] using B)) p,q⟩
    | rows bb sz aD rsz nx es=>
     simp only [ir] at e;subst e;obtain⟨a,cap,f,e2,e3,p,q⟩:=r;refine⟨a,cap,by rw [m];exact f,e2,e3,p.rn hi, ?_⟩;rcases q with q | ⟨ah,off,arr,t,q1,Z,q3,q4,q5⟩
     .exact .inl q
     .exact .inr ⟨ah,off,arr,t,q1,by rw [y];exact Z,q3,q4,q5.rn z hi⟩
    | dead=>simp only [ir] at e;subst e;obtain⟨f,e2⟩:=r;exact⟨by rw [m];exact f,by rw [y];exact e2⟩
 .cases i with
  | s d j=>exact⟨rfl,rfl⟩
  | g i n=>cases X
  | c j=>simp only [ke,VZ,Option.map_eq_none_iff] at hi;simp [cv,hi]
 .cases i with
  | c j=>simp only [ke,VZ,Option.map_eq_none_iff] at hi;simp [cv,hi]
  | _=>exact⟨rfl,rfl⟩
 .cases i with
  | c j=>simp only [cv] at I;obtain⟨k,h1,S⟩:=U8.1 I;exact hs.gone k n u S
  | _=>cases I
 .rw [Ku] at hi K;obtain⟨Y,L,N⟩:=U8.1 hi;obtain⟨k2,M,Q⟩:=U8.1 K;have:=hs.inj Y k2 b N Q;subst this;exact UM W (λx r=>hs.real (J x r)) L M
 .obtain⟨k,B⟩:=H b ⟨i,hi⟩;exact hs.lt k b B
 .exact T b ⟨i,hi⟩
theorem HS.rn{seen:List Id}(hs:HS c w h ρ O)(g:seen.Nodup)(f:∀i∈seen,h i≠none)(e:∀i∈seen,∀j∈nK (h i),j∈seen):
  HS c w (ke (seen.map λi=>ir seen (h i))) (cv seen ρ) (cv seen O)/\(∀b,fW (cv seen O) b->fW O b):=by
 have a:∀b,fW (cv seen O) b->fW O b:=λb h=>let⟨k,_,d⟩:=vZ h;⟨k,d⟩;refine⟨hs.Ks g f e (λb hb=>⟨hb.1,hb.2.1,λi hi=> ?_⟩) (λb hb=> ?_) hs.size,a⟩
 .obtain⟨k,d⟩:=a b ⟨i,hi⟩;exact hb.2.2 k d
 .obtain⟨k,d⟩:=a b hb;exact hs.own k b d
theorem pC:∀{n:Nat} {todo a seen:List Id},fm h n todo a=some seen->a <+:seen
 | 0,todo,a,seen,e=>by simp [fm] at e
 | n+1,[],a,seen,e=>by simp only [fm,U7] at e;subst e;exact List.prefix_refl _
 | n+1,i::todo,a,seen,e=>by
  simp only [fm] at e;cases b:a.contains i with
  | true=>rw [b,cond_true] at e;exact pC e
  | false=>
   rw [b,cond_false] at e;split at e
   .exact(Zr _ _).trans (pC e)
   .exact(Zr _ _).trans (pC e)
   .exact(Zr _ _).trans (pC e)
   .simp at e
theorem Kn:∀{l:List Id} {n:Nat} {todo a seen:List Id},fm h n (l++todo) a=some seen->l.Nodup->(∀i∈l,i∉a)->(a++l) <+:seen
 | [],n,todo,a,seen,e,_,_=>by rw [We];exact pC e
 | i::l,0,todo,a,seen,e,_,_=>by simp [fm] at e
 | i::l,n+1,todo,a,seen,e,k,d=>by
  obtain⟨m,o⟩:=WC.1 k;simp only [Vf,fm] at e;have f:a.contains i=false:=by have:=d i Vb;simpa using this
  rw [f,cond_false] at e;have go:∀b:List Id,fm h n (l++todo++b) (a++ [i])=some seen->(a++i::l) <+:seen:=by
   intro b e;rw [VJ] at e;have:=Kn e o (λj g hm=>by
    rcases Vr.1 hm with hm | hm
    .exact d j (Vc _ g) hm
    .simp only [Vk] at hm;subst hm;exact m g)
   simpa using this
  split at e
  .exact go _ e
  .exact go _ e
  .exact go [] (by simpa using e)
  .simp at e
theorem HS.Ll(hs:HS c w h ρ O){i:Id}{b:ab}(hi:h i=some b):∃v,ρ i=some v/\v.oneCell'=true/\v.cells= #[v]:=by
 cases a:ρ i with
 | some u=>exact⟨u,rfl,kF hs a⟩
 | none=>
  exfalso;have:=hs.ah i b hi;cases b with
  | box cs=>obtain⟨b,_,_,h1,_⟩:=this;rw [a] at h1;cases h1
  | sl d sz b xs=>obtain⟨v,h1,_⟩:=this;rw [a] at h1;cases h1
  | iW l=>obtain⟨b,h1,_⟩:=this;rw [a] at h1;cases h1
  | mp ag ks vk es=>obtain⟨b,_,_,h1,_⟩:=this;rw [a] at h1;cases h1
  | arr cs=>obtain⟨b,_,_,h1,_⟩:=this;rw [a] at h1;cases h1
  | rows _ _ _ _ _ _=>obtain⟨_,_,h1,_⟩:=this;rw [a] at h1;cases h1
  | dead=>obtain⟨⟨v,h1,_⟩,_⟩:=this;rw [a] at h1;cases h1
theorem aC.set:∀{as:List AV} {us:List Value} {k:Nat} {v:AV} {u:Value},aC w A ρ as us->us[k]? =some u->an w A ρ v u->aC w A ρ (as.set k v) us
 | [],us,k,v,u,h,b,hv=>by simp only [aC] at h;subst h;simp at b
 | a::as,us,0,v,u,h,b,hv=>by simp only [aC] at h;obtain⟨x,r,rfl,h1,d⟩:=h;simp only [Xu,U7] at b;subst b;simp only [Zq,aC];exact⟨_,_,rfl,hv,d⟩
 | a::as,us,k+1,v,u,h,b,hv=>by simp only [aC] at h;obtain⟨x,r,rfl,h1,d⟩:=h;simp only [Xv] at b;simp only [Yc,aC];exact⟨_,_,rfl,h1,aC.set d b hv⟩
theorem Oz{b:Bool}{sz:Nat}{u:Value}{Q:Nat->Prop}(h:aB w A (.aK b) u):cT w A sz b [] u Q:=by
 simp only [aB] at h;rcases h with⟨rfl,rfl⟩ | ⟨rfl,ah,off,a,rfl⟩
 .exact⟨none,0,rfl,by simp,by simp,by simp, .inl rfl⟩
 .exact⟨some ⟨ah,off,a⟩,0,rfl,by simp,by simp,trivial, .inl rfl⟩
theorem zf{new i:Id}{k:Nat}{cs:List AV}{X:ab}{us:aH}{bb:Bool}(o:new.real=true)(hs:HS c w h ρ O)(hi:h i=some (.box cs))
  (E:h new=none->∀u,aB w (AA c w O) (.aK bb) u->de w (AA c w O) (aE ρ new (some u)) O new X) (m:cs[k]? =some (.t (.aK bb))\/(∃z,cs[k]? =some (.t (.aa z true []))/\bb=true))
  (e:(cond (h new).isNone (some [(new,X),(i,ab.box (cs.set k (.own new)))]) none)=some us):∃ρ' O',Le w ρ O w ρ' O'/\HS c w (aL h us) ρ' O':=by
 obtain⟨b,arr,t,h1,B,C,p,D⟩:=hs.ah i _ hi;cases l:h new with
 | some x=>rw [l] at e;simp at e
 | none=>
  rw [l] at e;simp only [Zs,cond_true,U7] at e;subst e;have F:∃u,arr.toList[k]? =some u/\aB w (AA c w O) (.aK bb) u:=by
   rcases m with m | ⟨z,m,rfl⟩
   .obtain⟨u,f,d⟩:=p.get m;exact⟨u,f,by simpa [an] using d⟩
   .obtain⟨u,f,d⟩:=p.get m;refine⟨u,f, ?_⟩;simp only [an,aB] at d⊢;rcases d with⟨_,_,g⟩ | ⟨g,_⟩
    .exact .inl ⟨trivial,g⟩
    .cases g
  obtain⟨u,f,d⟩:=F;obtain⟨G,I⟩:=hs.cC new o l;have H:i≠new:=λe=>by rw [e,l] at hi;cases hi
  have le:Le w ρ O w (aE ρ new (some u)) O:=⟨rfl,rfl,rfl,Vq _,λj v a=>by
   by_cases e:j=new
   .subst e;rw [G] at a;cases a
   .rw [ar _ _ e];exact a,λ_ _ _=>rfl,λj b h=> .inl ⟨j,h⟩⟩
  refine⟨_,O,le, ?_⟩;rw [dA,eP];have r:=hs.real (i:=i) (by rw [hi];simp);have y:GK w ρ O w (aE ρ new (some u)) O:=λj n=>⟨ar _ _ (aP o),rfl,λ_ _=>rfl⟩;refine hs.go le y (λj x a=> ?_) (λj q a=> ?_) (λj a=> ?_) (λj n=>by rw [ar _ _ (aP r),ar _ _ (aP o)];exact hs.eH j n) hs.inj hs.lt
  .by_cases e:j=i
   .subst e;rw [aF] at a;cases a;right;refine⟨b,arr,t,le.eU _ _ h1,B,C,aC.set (aC.mono (λb hb=>le.A b hb) le.eU _ _ p) f ?_,D⟩;simp only [an];exact aF _ _ _
   .rw [ar _ _ e] at a;by_cases e2:j=new
    .subst e2;rw [aF] at a;cases a;exact .inr (E l u d)
    .rw [ar _ _ e2] at a;exact .inl ⟨a,rfl,λ_ _=>rfl⟩
  .by_cases e:j=i
   .subst e;rw [aF] at a;cases a
   .rw [ar _ _ e] at a;by_cases e2:j=new
    .subst e2;rw [aF] at a;cases a
    .rw [ar _ _ e2] at a;rw [ar _ _ e2];exact hs.cC j q a
  .by_cases e:j=i
   .subst e;rw [aF] at a;cases a
   .rw [ar _ _ e] at a;by_cases e2:j=new
    .subst e2;rw [aF] at a;cases a
    .rw [ar _ _ e2] at a;exact a
theorem Ss{new i:Id}{k sz aD rsz:Nat}{us:aH}(a:new.real=true)(hs:HS c w h ρ O)(e:tw h new i k sz aD rsz=some us):∃ρ' O',Le w ρ O w ρ' O'/\HS c w (aL h us) ρ' O':=by
 have j:∀{bb:Bool},h new=none->∀u,aB w (AA c w O) (.aK bb) u->de w (AA c w O) (aE ρ new (some u)) O new (.rows bb sz aD rsz 0 []):=by
  intro bb b u o;have m:oN (aE ρ new (some u)) O new 0 []:=⟨by simp,(λf b=>by cases b),λn _=>by rw [ar _ _ (aP a)];exact(hs.fO new n b).1,λn d l=>by rw [(hs.fO new n b).2] at l;cases l⟩;simp only [aB] at o;rcases o with⟨rfl,rfl⟩ | ⟨rfl,ah,off,p,rfl⟩
  .exact⟨none,0,aF _ _ _,by simp,by simp,m, .inl rfl⟩
  .exact⟨some ⟨ah,off,p⟩,0,aF _ _ _,by simp,by simp,m, .inl rfl⟩
 unfold tw at e;split at e
 .rename_i cs hi;split at e
  .simp only [U7] at e;subst e;exact⟨ρ,O,Le.refl,hs⟩
  .rename_i bb g;exact zf a hs hi j (.inl g) e
  .rename_i z g;exact zf a hs hi j (.inr ⟨z,g,rfl⟩) e
  .simp at e
 .simp at e
theorem RV{new i:Id}{k sz:Nat}{us:aH}(f:new.real=true)(hs:HS c w h ρ O)(e:px h new i k sz=some us):∃ρ' O',Le w ρ O w ρ' O'/\HS c w (aL h us) ρ' O':=by
 unfold px at e;cases hb:Nat.ble 100000 sz with
 | true=>rw [hb] at e;exact Ss f hs e
 | false=>
 rw [hb,cond_false] at e;split at e
 .rename_i cs hi;obtain⟨b,arr,t,h1,h2,h3,R,h5⟩:=hs.ah i _ hi;have S:∀{bb:Bool},h new=none->∀u,aB w (AA c w O) (.aK bb) u->de w (AA c w O) (aE ρ new (some u)) O new (.sl false sz bb []):=
   λ_ u hu=>⟨u,aF _ _ _,Oz hu,by simp⟩
  split at e
  .simp only [U7] at e;subst e;exact⟨ρ,O,Le.refl,hs⟩
  .rename_i bb d;exact zf f hs hi S (.inl d) e
  .rename_i z d;exact zf f hs hi S (.inr ⟨z,d,rfl⟩) e
  .rename_i j sz' n d;split at e
   .rename_i sz'' bb xs g;split at e
    .rename_i C;obtain⟨rfl,rfl,T⟩:=C;cases r:h new with
     | some x=>rw [r] at e;simp at e
     | none=>
      rw [r] at e;simp only [Zs,cond_true,U7] at e;subst e;obtain⟨u,g1,Q⟩:=R.get d;obtain⟨n1,n2⟩:=hs.cC new f r;have W:i≠new:=λe=>by rw [e,r] at hi;cases hi
      have X:j≠new:=λe=>by rw [e,r] at g;cases g
      obtain⟨v,N,⟨a,cap,rfl,f2,f3,_,I⟩,_⟩:=hs.ah j _ g;simp only [an] at Q;obtain⟨a1,L,Z,p,H,e2,e3,rfl,K⟩:=Q;rw [N] at H;simp only [U7,WG] at H;obtain⟨rfl,rfl,rfl⟩:=H;have y:(xs.take n).length=n:=by rw [Wb];omega
      have ha:p=none↔a=none:=by
       rcases K with⟨_,rfl⟩ | ⟨_,h,_⟩ | ⟨_,_,rfl,rfl⟩
       .exact Zm
       .exact h
       .simp
      have le:Le w ρ O w (aE ρ new (some (.slice p n (cap - 0)))) (aE (aE O j none) new (O j)):=by
       refine⟨rfl,rfl,rfl,Vq _,λk v d=> ?_,λ_ _ _=>rfl,λk b d=> ?_⟩
       .by_cases e:k=new
        .subst e;rw [n1] at d;cases d
        .rw [ar _ _ e];exact d
       .by_cases e:k=new
        .subst e;rw [aF] at d;exact .inl ⟨j,d⟩
        .rw [ar _ _ e] at d;by_cases e2:k=j
         .subst e2;rw [aF] at d;cases d
         .rw [ar _ _ e2] at d;exact .inl ⟨k,d⟩
      have q:∀k b,aE (aE O j none) new (O j) k=some b->(k=new/\O j=some b)\/(k≠new/\k≠j/\O k=some b):=by
       intro k b d;by_cases e:k=new
       .subst e;rw [aF] at d;exact .inl ⟨rfl,d⟩
       .rw [ar _ _ e] at d;by_cases e2:k=j
        .subst e2;rw [aF] at d;cases d
        .rw [ar _ _ e2] at d;exact .inr ⟨e,e2,d⟩
      refine⟨_,_,le, ?_⟩;rw [dA,dA,eP];have Y:=hs.real (i:=i) (by rw [hi];simp);have F:=hs.real (i:=j) (by rw [g];simp);have gk:GK w ρ O w (aE ρ new (some (.slice p n (cap - 0)))) (aE (aE O j none) new (O j)):=λk m=>⟨ar _ _ (aP f),by rw [ar _ _ (aP f),ar _ _ (aP F)],λ_ _=>rfl⟩;refine hs.go le gk (λk x d=> ?_) (λk V d=> ?_) (λk d=> ?_) (λk m=>by rw [ar _ _ (aP Y),ar _ _ (aP f),ar _ _ (aP F)];exact hs.eH k m) (λk J b d U=> ?_) (λk b d=> ?_)
      .by_cases e:k=i
       .subst e;rw [aF] at d;cases d;right;refine⟨b,arr,t,le.eU _ _ h1,by rw [ar _ _ W,ar _ _ (Zn T)];exact h2,h3,aC.set (aC.mono (λb hb=>le.A b hb) le.eU _ _ R) g1 ?_,h5⟩;simp only [an];exact aF _ _ _
       .rw [ar _ _ e] at d;by_cases e2:k=new
        .subst e2;rw [aF] at d;cases d;right;refine⟨_,aF _ _ _,⟨p,cap,by rw [y];rfl,by rw [y];omega,by rw [ha];exact f3,trivial, ?_⟩,by simp⟩;rcases I with I | ⟨ah,off,G,t',q1,B,q3,q4,q5⟩
         .exact .inl I
         .by_cases E:cap=0
          .exact .inl E
          .right;subst q1;have:p=some ⟨ah,off,none⟩:=by
            rcases K with⟨_,rfl⟩ | ⟨h,_⟩ | ⟨b',o,M,rfl⟩
            .rfl
            .exact absurd h.symm E
            .simp only [U7,Wr] at M;obtain⟨rfl,rfl,_⟩:=M;simp
           refine⟨ah,off,G,t',this, ?_,q3,q4,(aZ.nO (λb hb=>le.A b hb) ah _ rfl off xs q5).take n⟩;simp only [VF,if_false] at B⊢;rw [aF];exact B
        .rw [ar _ _ e2] at d;by_cases e3:k=j
         .subst e3;rw [aF] at d;cases d;exact .inr ⟨⟨_,le.eU _ _ N,rfl,rfl⟩,by rw [ar _ _ X,aF]⟩
         .rw [ar _ _ e3] at d;exact .inl ⟨d,by rw [ar _ _ e2,ar _ _ e3],λ_ _=>rfl⟩
      .by_cases e:k=i
       .subst e;rw [aF] at d;cases d
       .rw [ar _ _ e] at d;by_cases e2:k=new
        .subst e2;rw [aF] at d;cases d
        .rw [ar _ _ e2] at d;by_cases e3:k=j
         .subst e3;rw [aF] at d;cases d
         .rw [ar _ _ e3] at d;rw [ar _ _ e2,ar _ _ e2,ar _ _ e3];exact hs.cC k V d
      .by_cases e:k=i
       .subst e;rw [aF] at d;cases d
       .rw [ar _ _ e] at d;by_cases e2:k=new
        .subst e2;rw [aF] at d;cases d
        .rw [ar _ _ e2] at d;by_cases e3:k=j
         .subst e3;rw [aF] at d;cases d
         .rw [ar _ _ e3] at d;exact d
      .rcases q k b d with⟨rfl,l⟩ | ⟨p0,l,D⟩ <;> rcases q J b U with⟨rfl,q1⟩ | ⟨q0,q1,B⟩
       .rfl
       .exact(q1 (hs.inj J j b B l)).elim
       .exact(l (hs.inj k j b D q1)).elim
       .exact hs.inj k J b D B
      .rcases q k b d with⟨rfl,l⟩ | ⟨p0,l,D⟩
       .exact hs.lt j b l
       .exact hs.lt k b D
    .simp at e
   .simp at e
  .simp at e
 .simp at e
theorem Sr{new i x:Id}{k sz aD rsz:Nat}{us:aH}(e:tw h new i k sz aD rsz=some us)(a:h x=none)(j:x≠new):aL h us x=none:=by
 unfold tw at e;split at e
 .rename_i cs hi;have g:x≠i:=λe=>by rw [e,hi] at a;cases a
  have d:∀{b:Bool},(cond (h new).isNone (some [(new,ab.rows b sz aD rsz 0 []),(i,ab.box (cs.set k (.own new)))]) none)=some us->aL h us x=none:=by
   intro b e;cases f:(h new).isNone with
   | false=>rw [f] at e;simp at e
   | true=>rw [f] at e;simp only [cond_true,U7] at e;subst e;rw [dA,eP,ar _ _ g,ar _ _ j];exact a
  split at e
  .simp only [U7] at e;subst e;exact a
  .exact d e
  .exact d e
  .simp at e
 .simp at e
theorem RU{new i x:Id}{k sz:Nat}{us:aH}(e:px h new i k sz=some us)(a:h x=none)(l:x≠new):aL h us x=none:=by
 unfold px at e;cases hb:Nat.ble 100000 sz with
 | true=>rw [hb] at e;exact Sr e a l
 | false=>
 rw [hb,cond_false] at e;split at e
 .rename_i cs hi;have g:x≠i:=λe=>by rw [e,hi] at a;cases a
  have f:∀{b:Bool},(cond (h new).isNone (some [(new,ab.sl false sz b []),(i,ab.box (cs.set k (.own new)))]) none)=some us->aL h us x=none:=by
   intro b e;cases d:(h new).isNone with
   | false=>rw [d] at e;simp at e
   | true=>rw [d] at e;simp only [cond_true,U7] at e;subst e;rw [dA,eP,ar _ _ g,ar _ _ l];exact a
  split at e
  .simp only [U7] at e;subst e;exact a
  .exact f e
  .exact f e
  .rename_i j q n r;split at e
   .rename_i p bb xs m;have o:x≠j:=λe=>by rw [e,m] at a;cases a
    split at e
    .cases d:(h new).isNone with
     | false=>rw [d] at e;simp at e
     | true=>rw [d] at e;simp only [cond_true,U7] at e;subst e;rw [dA,dA,eP,ar _ _ g,ar _ _ l,ar _ _ o];exact a
    .simp at e
   .simp at e
  .simp at e
 .simp at e
theorem DC{n:Nat}:∀{l:List (Id×Nat×Nat)} {j:Nat} {h:Id->Option ab} {ρ:Id->Option Value} {O:Id->Option Nat} {us:aH},HS c w h ρ O->kD n j h l=some us->∃ρ' O',Le w ρ O w ρ' O'/\HS c w (aL h us) ρ' O'
 | [],j,h,ρ,O,us,hs,e=>by simp only [kD,U7] at e;subst e;exact⟨ρ,O,Le.refl,hs⟩
 | (i,k,sz)::l,j,h,ρ,O,us,hs,e=>by simp only [kD] at e;obtain⟨q,m,e⟩:=U8.1 e;obtain⟨r,e2,e⟩:=U8.1 e;simp only [U7] at e;subst e;obtain⟨o,p,cV,a⟩:=RV rfl hs m;obtain⟨f,g,d,b⟩:=DC a e2;exact⟨f,g,cV.trans d,by rw [mE];exact b⟩
theorem Kc{d:Nat}{x:Id}(b:∀k,x≠ .s d k):∀{l:List (Id×Nat×Nat)} {j:Nat} {h:Id->Option ab} {us:aH},kD d j h l=some us->h x=none->aL h us x=none
 | [],j,h,us,e,a=>by simp only [kD,U7] at e;subst e;exact a
 | (i,k,sz)::l,j,h,us,e,a=>by simp only [kD] at e;obtain⟨g,f,e⟩:=U8.1 e;obtain⟨m,e2,e⟩:=U8.1 e;simp only [U7] at e;subst e;rw [mE];exact Kc b e2 (RU f a (b j))
end
open Go
section
variable {P:Program} {w w':World} {A A':Nat->Prop} {c:Ctx} {ρ:Id->Option Value} {O:Id->Option Nat} {s:St} {cc:Option Bool} {h:Id->Option ab}
theorem zM{k:Ck}{x:T}(a:ef k x=true):aB w A x (dL x):=by cases x <;> cases k <;> simp_all [ef,aB,dL]
theorem Dv:∀{ks:List Ck} {xs:List T},b9 ks xs=true->aR w A xs (xs.map dL)
 | [],[],_=>rfl
 | k::ks,x::xs,a=>by simp only [b9,Ve] at a;exact⟨_,_,rfl,zM a.1,Dv a.2⟩
 | [],_::_,a=>by simp [b9] at a
 | _::_,[],a=>by simp [b9] at a
theorem Du:∀{ks:List Ck} {xs:List T},b9 ks xs=true->xs.length=ks.length
 | [],[],_=>rfl
 | k::ks,x::xs,a=>by simp only [b9,Ve] at a;simp [Du a.2]
 | [],_::_,a=>by simp [b9] at a
 | _::_,[],a=>by simp [b9] at a
theorem Ap{R:Type}{k:Ck}{x:T}{v:Value}{K:T->Option R}{r:R}(e:cc=none\/cc=some true)(hs:m5 k=true)(a:aB w A x v)(h:ft k cc x K=some r):
  ∃y,K y=some r/\ef k y=true/\v=dL y:=by
 unfold ft at h;cases k with
 | i k=>simp only at h;replace h:=aO h e;obtain⟨n,d,h⟩:=h;rw [T.gA d] at a;exact⟨_,h,by simp [ef],by simpa [aB,dL] using a⟩
 | b=>simp only at h;replace h:=aO h e;obtain⟨n,d,h⟩:=h;rw [T.jf d] at a;exact⟨_,h,by simp [ef],by simpa [aB,dL] using a⟩
 | s=>simp only at h;replace h:=aO h e;obtain⟨n,d,h⟩:=h;rw [T.kK d] at a;exact⟨_,h,by simp [ef],by simpa [aB,dL] using a⟩
 | l _=>simp [m5] at hs
 | x=>simp [m5] at hs
theorem EB{R:Type}(e:cc=none\/cc=some true):∀{ks:List Ck} {xs:List T} {vs:List Value} {K:List T->Option R} {r:R},ks.all m5=true->xs.length=ks.length->aR w A xs vs->fc cc ks xs K=some r->
  ∃d,K d=some r/\b9 ks d=true/\vs=d.map dL
 | [],[],vs,K,r,_,_,b,h=>⟨[],h,rfl,by simpa [aR] using b⟩
 | [],_::_,vs,K,r,_,a,b,h=>by simp at a
 | _::_,[],vs,K,r,_,a,b,h=>by simp at a
 | k::ks,x::xs,vs,K,r,hs,a,b,h=>by obtain⟨v,q,rfl,h1,l⟩:=b;simp only [WV,Ve] at hs;simp only [fc] at h;obtain⟨y,h,f,g⟩:=Ap e hs.1 h1 h;obtain⟨d,h,i,j⟩:=EB e hs.2 (by simpa using a) l h;exact⟨y::d,h,by simp [b9,f,i],by rw [g,j];rfl⟩
theorem IN{k:TypeId}{q:Bool×List Ck}(h:lf P k=some q):q.2.all m5=true/\(q.1=false->q.2.length=1):=by
 unfold lf at h;split at h
 .simp only [U7] at h;subst h;simp [m5]
 .simp only [U7] at h;subst h;simp [m5]
 .split at h
  .split at h
   .simp only [U7] at h;subst h;refine⟨?_,by simp⟩;rw [Vu];intro b a;rw [WD a];rfl
   .cases h
  .cases h
 .cases h
theorem CY{R:Type}{k:TypeId}{v:AV}{u:Value}{K:Bool->List Ck->List T->Option R}{r:R}(i:cc=none\/cc=some true)(hv:an w A ρ v u)(h:pb P k cc v K=some r):
  ∃ag ks cs,K ag ks cs=some r/\lf P k=some (ag,ks)/\b9 ks cs=true/\u=dr ag cs:=by
 unfold pb at h;obtain⟨q,f,h⟩:=U8.1 h;obtain⟨q1,j⟩:=q;have a:=IN f;simp only at h a;split at h
 .rename_i x _;obtain⟨g,h,b,d⟩:=EB (vs:= [u]) i a.1 (by simpa using (a.2 rfl).symm) (show aR w A [x] [u] from⟨u,[],rfl,by simpa [an] using hv,rfl⟩) h;refine⟨false,j,g,h,f,b, ?_⟩;unfold dr;rw [<-d];rfl
 .rename_i vs _;obtain⟨l,m,h⟩:=U8.1 h;split at h
  .rename_i e;simp only [an] at hv;obtain⟨o,rfl,h1,n⟩:=hv;obtain⟨g,h,b,d⟩:=EB i a.1 e (aR.mj m h1) h;refine⟨true,j,g,h,f,b, ?_⟩;unfold dr;rw [d];rfl
  .cases h
 .cases h
theorem MP{a b:ByteArray}(e:(a==b)=true):a=b:=by
 cases a with
 | mk x=>cases b with
  | mk y=>have e':(x==y)=true:=e;rw [eq_of_beq e']
theorem Pw{k:Ck}{x y:T}(a:ef k x=true)(hy:ef k y=true)(e:nG x y=true):x=y:=by
 cases x <;> cases k <;> simp [ef] at a <;> cases y <;> simp [ef] at hy <;> simp [nG] at e
 .subst a;subst hy;subst e;rfl
 .subst e;rfl
 .rw [MP e]
theorem HX:∀{ks:List Ck} {xs b:List T},b9 ks xs=true->b9 ks b=true->eE xs b=true->xs=b
 | [],[],[],_,_,_=>rfl
 | k::ks,x::xs,y::b,a,hy,e=>by simp only [b9,Ve] at a hy;simp only [eE,Ve] at e;rw [Pw a.1 hy.1 e.1,HX a.2 hy.2 e.2]
 | [],_::_,_,a,_,_=>by simp [b9] at a
 | [],[],_::_,_,hy,_=>by simp [b9] at hy
 | _::_,[],_,a,_,_=>by simp [b9] at a
 | _::_,_::_,[],_,hy,_=>by simp [b9] at hy
theorem Pr{t:TypeId}{i:IntKind}(b:P.underlying t=some (.int i)){x y:T}(a:ef (.i i) x=true)(hy:ef (.i i) y=true){R:Type}(K:Bool->Option R):lZ P none t x y K=K (nG x y):=by cases x <;> simp [ef] at a;cases y <;> simp [ef] at hy;subst a;subst hy;simp [lZ,b,ae,T.int?,nG]
theorem HU{e:TypeId}{i:IntKind}(d:P.underlying e=some (.int i)){R:Type}:∀(n:Nat) (xs b:List T) (K:Bool->Option R),b9 (List.replicate n (.i i)) xs=true->b9 (List.replicate n (.i i)) b=true->eN P none (List.replicate n e) xs b K=K (eE xs b)
 | 0,[],[],K,_,_=>rfl
 | n+1,x::xs,y::b,K,a,hy=>by simp only [VX,b9,Ve] at a hy;simp only [VX,eN,eE];rw [Pr d a.1 hy.1,HU d n xs b _ a.2 hy.2]
 | 0,_::_,_,_,a,_=>by simp [b9] at a
 | 0,[],_::_,_,_,hy=>by simp [b9] at hy
 | n+1,[],_,_,a,_=>by simp [VX,b9] at a
 | n+1,_::_,[],_,_,hy=>by simp [VX,b9] at hy
theorem vw{ag:Bool}{ks:List Ck}{cs:List T}(b:ag=false->ks.length=1)(h:b9 ks cs=true)(a:ag=false):∃x,cs= [x]/\dr ag cs=dL x:=by have d:=Du h;rw [b a] at d;obtain⟨x,rfl⟩:=List.length_eq_one_iff.1 d;exact⟨x,rfl,by rw [a];rfl⟩
theorem Px{k:TypeId}{ag:Bool}{ks:List Ck}(f:lf P k=some (ag,ks)){a b:List T}(g:b9 ks a=true)(hb:b9 ks b=true)(w:World):
  (Op.equal k (dr ag a) (dr ag b)).run P w= .ok (eE a b) w:=by
 unfold lf at f;split at f
 .rename_i i j;simp only [U7,Wk] at f;obtain⟨rfl,rfl⟩:=f;obtain⟨x,rfl,o⟩:=vw (ag:=false) (by simp) g rfl;obtain⟨y,rfl,r⟩:=vw (ag:=false) (by simp) hb rfl;rw [o,r];simp only [b9,Yb] at g hb;have key:∀d (p q:Int),(Op.equalIn (d+1) k (.int i p) (.int i q)).run P w= .ok (p==q) w:=λd p q=>by simp [Op.equalIn,run_underlying j]
  cases x <;> simp [ef] at g;cases y <;> simp [ef] at hb;rename_i D q1;subst g;subst hb;rw [show ∀a b:T,eE [a] [b]=nG a b from λa b=>by simp [eE]];exact key 9999 _ _
 .rename_i j;simp only [U7,Wk] at f;obtain⟨rfl,rfl⟩:=f;obtain⟨x,rfl,o⟩:=vw (ag:=false) (by simp) g rfl;obtain⟨y,rfl,r⟩:=vw (ag:=false) (by simp) hb rfl;rw [o,r];simp only [b9,Yb] at g hb;cases x <;> simp [ef] at g;cases y <;> simp [ef] at hb;rename_i p q;have:∀d,(Op.equalIn (d+1) k (.string p) (.string q)).run P w= .ok (p==q) w:=λd=>by simp [Op.equalIn,run_underlying j]
  rw [show ∀a b:T,eE [a] [b]=nG a b from λa b=>by simp [eE]];exact this 9999
 .rename_i n e j;split at f
  .rename_i i l;split at f
   .rename_i m;simp only [U7,Wk] at f;obtain⟨rfl,rfl⟩:=f;have B:fM P 7 e=some [e]:=by simp [fM,l]
    have z:fM P 8 k=some (List.replicate n e):=by
     simp only [fM,j,l,Vj,List.length_singleton,m.1,if_true];congr 1;induction n with
     | zero=>rfl
     | succ n C=>simp [VX]
    obtain⟨bb,t,v⟩:=Cu (P:=P) (w:=w) (A:=λ_=>True) 8 k _ z 10000 (by omega) Bool none (.inl rfl) a b (a.map dL) (b.map dL) (λb=>some b) _ (Dv g) (Dv hb) (HU l n a b _ g hb);have u:bp P k=true:=by simp [bp,j]
    simp only [U7] at t;subst t;simpa [kL,u,dr,Op.equal,Op.maxDepth] using v
   .cases f
  .cases f
 .cases f
theorem y7{k:TypeId}{ag:Bool}{ks:List Ck}(t:lf P k=some (ag,ks)){a:List T}(o:b9 ks a=true)(w:World):∀(b:List MapEntry) (es:List (List T×T)) (j:Nat),b.map (λe=>(e.key,e.val))=es.map (λp=>(dr ag p.1,dL p.2))->(∀p∈es,b9 ks p.1=true)->
  ((Instr.findAsking k (dr ag a) b j).run P w= .ok none w/\fB a es=none)\/∃i x e p,(Instr.findAsking k (dr ag a) b j).run P w= .ok (some (j+i,dL x)) w/\fB a es=some x/\b[i]? =some e/\es[i]? =some p/\eE a p.1=true/\(∀i' g,i' < i->es[i']? =some g->eE a g.1=false)
 | [],[],j,_,_=> .inl ⟨by simp [Instr.findAsking],rfl⟩
 | [],_::_,j,h,_=>by simp at h
 | _::_,[],j,h,_=>by simp at h
 | e::b,(q,x)::es,j,h,l=>by
  simp only [V6,Xn,Wk] at h;obtain⟨⟨h1,D⟩,E⟩:=h;have d:=Px t o (l _ Vb) w;simp only at d;cases hb:eE a q
  .rw [hb] at d;rcases y7 t o w b es (j+1) E (λp F=>l p (Vc _ F)) with⟨m,n⟩ | ⟨i,y,e',g,m,n,v,z,B,C⟩
   .exact .inl ⟨by simp [Instr.findAsking,h1,d,m],by simp [fB,hb,n]⟩
   .refine .inr ⟨i+1,y,e',g,by simp [Instr.findAsking,h1,d,m];omega,by simp [fB,hb,n],by simpa using v,by simpa using z,B, ?_⟩;intro i' u r f;cases i' with
    | zero=>simp at f;subst f;exact hb
    | succ i'=>exact C i' u (by omega) (by simpa using f)
  .rw [hb] at d;exact .inr ⟨0,x,e,(q,x),by simp [Instr.findAsking,h1,d,D],by simp [fB,hb],rfl,rfl,hb,λi' _ r=>by omega⟩
theorem KA{f:Nat->Sem Unit}:∀(l:List Nat),(∀i∈l,(f i).run P w= .ok () w)->(forIn l PUnit.unit λi _=>do f i;pure (ForInStep.yield PUnit.unit)).run P w= .ok PUnit.unit w
 | [],_=>by simp
 | i::l,h=>by simp only [List.forIn_cons,Vz,h i Vb,Vm,VQ];have:=KA (f:=f) l λj a=>h j (Vc _ a);simpa using this
theorem BN{k:TypeId}{ag:Bool}{ks:List Ck}(f:lf P k=some (ag,ks)){a:List T}(q:b9 ks a=true)(em:Bool)(w:World):
  (Instr.checkKey em 10000 k (dr ag a)).run P w= .ok () w:=by
 unfold lf at f;split at f
 .rename_i i g;have:∀d,(Instr.checkKey em (d+1) k (dr ag a)).run P w= .ok () w:=λd=>by simp [Instr.checkKey,run_underlying g]
  exact this 9999
 .rename_i g;have:∀d,(Instr.checkKey em (d+1) k (dr ag a)).run P w= .ok () w:=λd=>by simp [Instr.checkKey,run_underlying g]
  exact this 9999
 .rename_i n e g;split at f
  .rename_i i l;split at f
   .rename_i b;simp only [U7,Wk] at f;obtain⟨rfl,rfl⟩:=f;have m:bV P e=true:=by simp [bV,l]
    have u:bp P e=false:=by simp [bp,l]
    have p:=Du q;rw [W7] at p;have one:∀d v,(Instr.checkKey em (d+1) e v).run P w= .ok () w:=λd v=>by simp [Instr.checkKey,run_underlying l]
    have t:∀d,∀j∈List.range' 0 n 1,(do Instr.checkKey em (d+1) e (<-part e (a.map dL).toArray (j * (<-sizeOf e)))).run P w= .ok () w:=by
     intro d j o;have o:j < n:=by simpa using o
     have:=wh (P:=P) m (a.map dL).toArray (j * 1) (λ_=>b.1) (by simp [b.1,p];omega) w;simp only [Vz,jw m,Vm,b.1,this,one d]
    have r:∀d,(Instr.checkKey em (d+2) k (dr true a)).run P w= .ok () w:=by intro d;have:=KA (P:=P) (w:=w) _ (t d);rw [Instr.checkKey];simp only [dr,cond_true,Vz,run_underlying g,Vm];simp only [Std.Legacy.Range.forIn_eq_forIn_range',Std.Legacy.Range.size,Wq,Nat.add_one_sub_one,Nat.div_one];simp at this;simp [this]
    exact r 9998
   .cases f
  .cases f
 .cases f
theorem H5{f:TypeId}{d:TypeDesc}(a:P.underlying f=some d)(k:Value):∀(es:List MapEntry) (j:Nat) (r:Option (Nat×Value)),Instr.findNow d k es j=some r->(Instr.findAsking f k es j).run P w= .ok r w
 | [],j,r,h=>by simp [Instr.findNow] at h;subst h;simp [Instr.findAsking]
 | e::es,j,r,h=>by
  have key:∀b,Instr.sameNow d k e.key=some b->(Op.equal f k e.key).run P w= .ok b w:=by
   intro b hb;generalize e.key=g at hb⊢;have:∀n,(Op.equalIn (n+1) f k g).run P w= .ok b w:=by
    intro n;unfold Instr.sameNow at hb;split at hb
    .split at hb
     .rename_i h1;simp only [U7] at hb;subst hb;subst h1;simp [Op.equalIn,run_underlying a]
     .cases hb
    .simp only [U7] at hb;subst hb;simp [Op.equalIn,run_underlying a]
    .simp only [U7] at hb;subst hb;simp [Op.equalIn,run_underlying a]
    .cases hb
   exact this 9999
  simp only [Instr.findNow] at h;split at h
  .rename_i hb;simp only [U7] at h;subst h;simp [Instr.findAsking,key _ hb]
  .rename_i hb;simp [Instr.findAsking,key _ hb,H5 a k es (j+1) r h]
  .cases h
theorem sM{a:TypeId}{d:TypeDesc}(b:P.underlying a=some d)(k:Value)(es:List MapEntry)(r:Option (Nat×Value))(h:(Instr.findAsking a k es 0).run P w= .ok r w):(Instr.findKey a k es).run P w= .ok r w:=by
 unfold Instr.findKey;simp only [Vz,run_underlying b,Vm];cases e:Instr.findNow d k es 0 with
 | none=>simpa using h
 | some f=>have:=H5 (w:=w) b k es 0 f e;rw [this] at h;simpa using h
theorem CZ{k:TypeId}{q:Bool×List Ck}(h:lf P k=some q):∃d,P.underlying k=some d:=by
 unfold lf at h;split at h
 .exact⟨_,by assumption⟩
 .exact⟨_,by assumption⟩
 .exact⟨_,by assumption⟩
 .cases h
theorem C6{t:TypeId}{q:TypeId×TypeId}(h:sX P t=some q):P.underlying t=some (.map q.1 q.2):=by
 unfold sX at h;split at h
 .rename_i k e b;cases a:bV P k && bV P e
  .simp [a] at h
  .simp only [a,cond_true,U7] at h;subst h;exact b
 .cases h
theorem U5{t:TypeId}{z:T}(h:EL P t=some z):∃v,(zeroValue t).run P w= .ok v w/\aB w A z v:=by
 unfold EL at h;split at h
 .rename_i i hi;split at h
  .rename_i v hv;refine⟨v, ?_,JS h⟩;simp [zeroValue,typeInfo,run_program,hi,hv]
  .cases h
 .cases h
theorem Dc{i:Id}{ag:Bool}{ks:List Ck}{vk:Ck}{es:List (List T×T)}(hs:HS c w s.h ρ O)(hi:s.h i=some (.mp ag ks vk es)):∃b d a,ρ i=some (.map (some b))/\O i=some b/\w.heap[b]? =some (.map d a)/\
   d.toList.map (λe=>(e.key,e.val))=es.map (λp=>(dr ag p.1,dL p.2))/\(∀p∈es,b9 ks p.1=true/\ef vk p.2=true):=by
 obtain⟨b,d,a,h1,f,g,j,k⟩:=hs.ah i _ hi;exact⟨b,d,a,h1,f,g,j,λp l=>by simpa using Vu.1 k p l⟩
theorem H4{a:List T}:∀{es:List (List T×T)} {x:T},fB a es=some x->∃p∈es,p.2=x
 | [],x,h=>by simp [fB] at h
 | (k,v)::r,x,h=>by
  simp only [fB] at h;cases hb:eE a k
  .rw [hb,cond_false] at h;obtain⟨p,b,e⟩:=H4 h;exact⟨p,Vc _ b,e⟩
  .rw [hb,cond_true] at h;simp only [U7] at h;exact⟨_,Vb,h⟩
theorem QL{R:Type}{t:TypeId}{x key:AV}{ok:Bool}{S vk:Value}{K:AV->Option R}{r:R}(hs:HS c w s.h ρ O)(m:an w (AA c w O) ρ x S)(F:an w (AA c w O) ρ key vk)(E:cc=none\/cc=some true)
  (h:nN P s cc t x key ok K=some r):∃av v,K av=some r/\(Instr.lookup t S vk ok).run P w= .ok v w/\an w (AA c w O) ρ av v:=by
 unfold nN at h;obtain⟨q,Y,h⟩:=U8.1 h;obtain⟨z,hz,h⟩:=U8.1 h;obtain⟨ag,ks,cs,h,g,o,rfl⟩:=CY E F h;split at h
 .rename_i i;split at h
  .rename_i ag' ks' Q es hi;split at h
   .rename_i l;obtain⟨rfl,rfl,hvk,B,_⟩:=l;obtain⟨b,a,T,V,g2,G,W,H⟩:=Dc hs hi;simp only [an] at m;rw [V] at m;simp only [U7] at m;subst m;obtain⟨zv,M,N⟩:=U5 (w:=w) (A:=AA c w O) hz;obtain⟨d,I⟩:=CZ g;have L:=C6 Y;have n:=BN g o a.isEmpty w;rcases y7 g o w a.toList es 0 W (λp X=>(H p X).1) with⟨D,k⟩ | ⟨j,y,e,p,D,k,f3,f4,f5,f6⟩
    .have f:=sM I _ _ _ D;rw [k] at h;simp only [V7,Zt] at h;obtain⟨u,h,C,e2⟩:=Ap E B N h;refine⟨_,cond ok (.tuple #[zv, .bool false]) zv,h, ?_, ?_⟩
     .cases ok <;> simp [Instr.lookup,run_underlying L,XA G,n,f,M]
     .have:aB w (AA c w O) u zv:=by rw [e2];exact zM C
      cases ok
      .simpa [an] using this
      .simp only [cond_true,an];exact⟨[zv, .bool false],rfl,by simp only [aC,an];exact⟨zv,[.bool false],rfl,this, .bool false,[],rfl,by simp [aB],rfl⟩⟩
    .have f:=sM I _ _ _ D;rw [k] at h;simp only [VD,Zu] at h;obtain⟨Z,J,U⟩:=H4 k;have hy:ef Q y=true:=by rw [<-U];exact(H Z J).2
     obtain⟨u,h,C,e2⟩:=Ap E B (zM (w:=w) (A:=AA c w O) hy) h;refine⟨_,cond ok (.tuple #[dL y, .bool true]) (dL y),h, ?_, ?_⟩
     .cases ok <;> simp [Instr.lookup,run_underlying L,XA G,n,f]
     .have:aB w (AA c w O) u (dL y):=by rw [e2];exact zM C
      cases ok
      .simpa [an] using this
      .simp only [cond_true,an];exact⟨[dL y, .bool true],rfl,by simp only [aC,an];exact⟨dL y,[.bool true],rfl,this, .bool true,[],rfl,by simp [aB],rfl⟩⟩
   .cases h
  .cases h
 .cases h
theorem MQ(a:ByteArray):(a==a)=true:=by
 cases a with
 | mk x=>show(x==x)=true;simp
theorem KZ{k:Ck}{x:T}(h:ef k x=true)(n:Nat):Instr.sameBits n (dL x) (dL x)=true:=by cases x <;> cases k <;> simp [ef] at h <;> cases n <;> simp [Instr.sameBits,dL,MQ]
theorem Tg{ag:Bool}{ks:List Ck}(a:ag=false->ks.length=1){cs:List T}(h:b9 ks cs=true)(n:Nat):Instr.sameBits (n+1) (dr ag cs) (dr ag cs)=true:=by
 cases ag with
 | false=>
  obtain⟨x,rfl,e⟩:=vw a h rfl;rw [e];cases ks with
  | nil=>simp [b9] at h
  | cons k ks=>simp only [b9,Ve] at h;exact KZ h.1 _
 | true=>
  simp only [dr,cond_true,Instr.sameBits,beq_self_eq_true,WS];clear a;induction ks generalizing cs with
  | nil=>cases cs with
   | nil=>rfl
   | cons x cs=>simp [b9] at h
  | cons k ks b=>cases cs with
   | nil=>simp [b9] at h
   | cons x cs=>simp only [b9,Ve] at h;have:=b h.2;simp only [V6,List.zip_cons_cons,WV,KZ h.1,WS];simpa using this
theorem TB{ag:Bool}{ks:List Ck}(a:ag=false->ks.length=1){cs:List T}(h:b9 ks cs=true):(Instr.keyThatStays (dr ag cs) (dr ag cs)).run P w= .ok (dr ag cs) w:=by unfold Instr.keyThatStays;have:Instr.sameBits 10000 (dr ag cs) (dr ag cs)=true:=Tg a h 9999;simp [this]
theorem Kj{a:List T}{v:T}:∀{es:List (List T×T)},fB a es=none->hI a v es=es++ [(a,v)]
 | [],_=>rfl
 | (k,x)::r,h=>by
  simp only [fB] at h;cases hb:eE a k
  .rw [hb,cond_false] at h;simp [hI,hb,Kj h]
  .simp [hb] at h
theorem Kk{a:List T}{v:T}:∀{es:List (List T×T)} {i:Nat} {p:List T×T},es[i]? =some p->eE a p.1=true->(∀i' b,i' < i->es[i']? =some b->eE a b.1=false)->hI a v es=es.set i (a,v)
 | [],i,p,h,_,_=>by simp at h
 | (k,x)::r,0,p,h,h1,_=>by simp at h;subst h;simp only at h1;simp [hI,h1]
 | (k,x)::r,i+1,p,h,h1,d=>by have hb:eE a k=false:=d 0 (k,x) (by omega) rfl;have:=Kk (v:=v) (es:=r) (i:=i) (p:=p) (by simpa using h) h1 λi' b hi e=>d (i'+1) b (by omega) (by simpa using e);simp [hI,hb,this]
theorem DH{ks:List Ck}{vk:Ck}{a:List T}{v:T}(d:b9 ks a=true)(hv:ef vk v=true):∀{es:List (List T×T)},(∀p∈es,b9 ks p.1=true/\ef vk p.2=true)->∀p∈hI a v es,b9 ks p.1=true/\ef vk p.2=true
 | [],_,p,b=>by simp [hI] at b;subst b;exact⟨d,hv⟩
 | (k,x)::r,h,p,b=>by
  simp only [hI] at b;cases hb:eE a k
  .rw [hb,cond_false] at b;rcases Vo.1 b with rfl | b
   .exact h _ Vb
   .exact DH d hv (λq e=>h q (Vc _ e)) p b
  .rw [hb,cond_true] at b;rcases Vo.1 b with rfl | b
   .exact⟨d,hv⟩
   .exact h p (Vc _ b)
theorem HS.AE{i:Id}{b:Nat}{f ents':Array MapEntry}{d clock':Nat}{ag:Bool}{ks:List Ck}{vk:Ck}{es':List (List T×T)}{j:Id->Option ab}(hs:HS c w j ρ O)(hi:j i≠none)
  (m:ρ i=some (.map (some b))) (g:O i=some b) (l:w.heap[b]? =some (.map f d)) (n:ents'.toList.map (λe=>(e.key,e.val))=es'.map (λp=>(dr ag p.1,dL p.2))) (o:∀p∈es',b9 ks p.1=true/\ef vk p.2=true):
  Le w ρ O {w with heap:=w.heap.setIfInBounds b (.map ents' clock')} ρ O/\HS c {w with heap:=w.heap.setIfInBounds b (.map ents' clock')} (aE j i (some (.mp ag ks vk es'))) ρ O:=by
 have a:∀k,k≠b->(w.heap.setIfInBounds b (.map ents' clock'))[k]? =w.heap[k]?:=λk q=>Go.ChangeMaps.heap_setBlock_other l _ q;have le:Le w ρ O {w with heap:=w.heap.setIfInBounds b (.map ents' clock')} ρ O:=Le.write g rfl rfl rfl (by simp) a;refine⟨le,hs.write g le a _ ?_ hi⟩;exact⟨b,ents',clock',m,g,Go.ChangeMaps.heap_setBlock_same l _,n,by rw [Vu];exact λp r=>by simpa using o p r⟩
theorem R6{R:Type}{t:TypeId}{x key v:AV}{vx vk vv:Value}{K:aH->Option R}{r:R}(hs:HS c w s.h ρ O)(F:an w (AA c w O) ρ x vx)(Q:an w (AA c w O) ρ key vk)(hv:an w (AA c w O) ρ v vv)
  (h:nW P s t x key v K=some r):∃us w',K us=some r/\(Instr.mapUpdate t vx vk vv).run P w= .ok () w'/\Le w ρ O w' ρ O/\HS c w' (aL s.h us) ρ O:=by
 unfold nW at h;obtain⟨q,hq,h⟩:=U8.1 h;obtain⟨ag,ks,cs,h,n,g,rfl⟩:=CY (cc:=none) (.inl rfl) Q h;split at h
 .rename_i i;split at h
  .rename_i f I J es hi;split at h
   .rename_i E;obtain⟨rfl,rfl,hvk,hsc⟩:=E;obtain⟨y,hy,h⟩:=U8.1 h;rw [AV.mB hy] at hv;simp only [an] at hv;obtain⟨u,h,T,e2⟩:=Ap (cc:=none) (.inl rfl) hsc hv h;obtain⟨b,a,l,N,X,o,C,D⟩:=Dc hs hi;simp only [an] at F;rw [N] at F;simp only [U7] at F;subst F;obtain⟨d,Z⟩:=CZ n;have hu:=C6 hq;have G:=BN n g false w;have Y:=(IN n).2;rcases y7 n g w a.toList es 0 C (λp hp=>(D p hp).1) with⟨L,U⟩ | ⟨j,y',e,p,L,U,M,B,W,f6⟩
    .have m:=sM Z _ _ _ L;obtain⟨le,z⟩:=HS.AE (ag:=f) (ks:=I) (vk:=J) (es':=hI cs u es) (ents':=a.push {key:=dr f cs,val:=vv,born:=l}) (clock':=l+1) hs (by rw [hi];simp) N X o
      (by rw [Kj U];simp [C,e2]) (DH g T D)
     refine⟨_,_,h, ?_,le,z⟩;simp [Instr.mapUpdate,run_underlying hu,XA o,G,m,Yg _ o]
    .have m:=sM Z _ _ _ L;have hlt:j < es.length:=(Vi.1 B).1;have hpk:p.1=cs:=(HX g (D p (Va B)).1 W).symm;have hek:e.key=dr f cs:=by
      have h1:(a.toList.map λe=>(e.key,e.val))[j]? =some (e.key,e.val):=by simp [VZ,M]
      rw [C] at h1;simp only [VZ,B,Xm,U7,Wk] at h1;rw [<-h1.1,hpk]
     have S:(a.modify j λe=>{e with key:=dr f cs,val:=vv}).toList.map (λe=>(e.key,e.val))= (hI cs u es).map (λp=>(dr f p.1,dL p.2)):=by
      rw [Kk B W f6];refine XL λk=> ?_;have H:(a.toList.map λe=>(e.key,e.val))[k]? = (es.map λp=>(dr f p.1,dL p.2))[k]?:=by rw [C]
      simp only [VZ,Array.toList_modify,List.getElem?_modify,WE] at H⊢;by_cases e0:j=k
      .subst e0;simp [M,hlt,e2]
      .simp only [e0,if_false];simpa using H
     obtain⟨le,z⟩:=HS.AE (ag:=f) (ks:=I) (vk:=J) (es':=hI cs u es) (ents':=a.modify j λe=>{e with key:=dr f cs,val:=vv}) (clock':=l) hs (by rw [hi];simp) N X o S (DH g T D);refine⟨_,_,h, ?_,le,z⟩;have hst:=TB (P:=P) (w:=w) Y g;have V:a[j]? =some e:=by simpa using M
     rw [VP] at m;simp [Instr.mapUpdate,run_underlying hu,XA o,G,m,V,hek,hst,Yg _ o]
   .cases h
  .cases h
 .cases h
theorem F8{a:List T}:∀{es:List (List T×T)},fB a es=none->jn a es=es
 | [],_=>rfl
 | p::es,h=>by
  unfold fB at h;unfold jn;cases b:eE a p.1 with
  | true=>rw [b] at h;simp at h
  | false=>rw [b] at h;simp only [cond_false] at h⊢;rw [F8 h]
theorem F7{a:List T}:∀{es:List (List T×T)} {i:Nat} {p:List T×T},es[i]? =some p->eE a p.1=true->(∀i' b,i' < i->es[i']? =some b->eE a b.1=false)->jn a es=es.eraseIdx i
 | [],_,_,h,_,_=>by simp at h
 | q::es,0,p,h,d,_=>by simp only [Xu,U7] at h;subst h;simp [jn,d]
 | q::es,i+1,p,h,d,hb=>by have e:=hb 0 q (by omega) rfl;unfold jn;rw [e,cond_false,F7 (by simpa using h) d (λi' b hi f=>hb (i'+1) b (by omega) (by simpa using f))];rfl
theorem C7{a b:Type}(f:a->b):∀(l:List a) (i:Nat),(l.eraseIdx i).map f= (l.map f).eraseIdx i
 | [],_=>rfl
 | _::_,0=>rfl
 | x::l,i+1=>by simp only [List.eraseIdx_cons_succ,V6,C7 f l i]
theorem BU{a:List T}:∀{es:List (List T×T)},∀p∈jn a es,p∈es
 | [],p,h=>h
 | q::es,p,h=>by
  unfold jn at h;cases b:eE a q.1 with
  | true=>rw [b] at h;exact Vc _ h
  | false=>
   rw [b] at h;rcases Vo.1 h with rfl | h
   .exact Vb
   .exact Vc _ (BU p h)
theorem Ni{R:Type}{t ty tr:TypeId}{x key:AV}{T vk:Value}{K:aH->Option R}{r:R}(hs:HS c w s.h ρ O)(v:an w (AA c w O) ρ x T)(H:an w (AA c w O) ρ key vk)
  (h:nA P s t x key K=some r):∃us w',K us=some r/\(Builtin.delete_ #[t,ty] tr #[T,vk]).run P w= .ok (.tuple #[]) w'/\Le w ρ O w' ρ O/\HS c w' (aL s.h us) ρ O:=by
 unfold nA at h;obtain⟨q,X,h⟩:=U8.1 h;obtain⟨ag,ks,cs,h,l,B,rfl⟩:=CY (cc:=none) (.inl rfl) H h;split at h
 .rename_i i;split at h
  .rename_i y C D es hi;split at h
   .rename_i u;obtain⟨rfl,rfl⟩:=u;obtain⟨b,a,f,F,L,k,o,G⟩:=Dc hs hi;simp only [an] at v;rw [F] at v;simp only [U7] at v;subst v;obtain⟨d,M⟩:=CZ l;have S:=C6 X;have z:=BN l B a.isEmpty w;rcases y7 l B w a.toList es 0 o (λp m=>(G p m).1) with⟨E,I⟩ | ⟨j,y',e,p,E,I,Y,J,U,V⟩
    .have g:=sM M _ _ _ E;obtain⟨le,n⟩:=HS.AE (ag:=y) (ks:=C) (vk:=D) (es':=jn cs es) (ents':=a) (clock':=f) hs (by rw [hi];simp) F L k (by rw [F8 I];exact o) (λp m=>G p (BU p m));refine⟨_,_,h, ?_,le,n⟩;simp [Builtin.delete_,run_underlying S,XA k,z,g,Yg _ k]
    .have g:=sM M _ _ _ E;have Q:j < es.length:=(Vi.1 J).1;have N:a.toList.length=es.length:=by simpa using congrArg List.length o
     have W:j < a.size:=by rw [<-VH,N];exact Q
     obtain⟨le,n⟩:=HS.AE (ag:=y) (ks:=C) (vk:=D) (es':=jn cs es) (ents':=a.eraseIdxIfInBounds j) (clock':=f) hs (by rw [hi];simp) F L k (by
       rw [F7 J U V,C7,<-o,<-C7];simp only [Array.eraseIdxIfInBounds,W,dif_pos,Array.toList_eraseIdx]) (λp m=>G p (BU p m))
     refine⟨_,_,h, ?_,le,n⟩;rw [VP] at g;simp [Builtin.delete_,run_underlying S,XA k,z,g,Yg _ k]
   .cases h
  .cases h
 .cases h
theorem QV{R:Type}{d:Nat}{t:TypeId}{K:AV->aH->Option R}{r:R}(hs:HS c w s.h ρ O)(h:sW P d t K=some r):
  ∃v us,K v us=some r/\(jq d s.h us=true->∃u w' ρ' O',(Instr.makeMap t none).run P w= .ok u w'/\Le w ρ O w' ρ' O'/\HS c w' (aL s.h us) ρ' O'/\an w' (AA c w' O') ρ' v u):=by
 unfold sW at h;obtain⟨q,g,h⟩:=U8.1 h;obtain⟨p,f,h⟩:=U8.1 h;split at h
 .rename_i e;refine⟨_,_,h,λa=> ?_⟩;have a:=kY a Vb;have le:=Le.alloc hs (i:= .s d 0) rfl a (.map #[] 0) (.map (some w.heap.size)) (some w.heap.size) (.inr rfl);have b:=hs.alloc (i:= .s d 0) rfl a (.map #[] 0) (.map (some w.heap.size)) (some w.heap.size) (.inr rfl) (.mp p.1 p.2 (lW P q.2) []) ⟨w.heap.size,#[],0,by simp,by simp,kZ _,by simp,by simp⟩;refine⟨.map (some w.heap.size),_,_,_,rfl,le,by rw [eP];exact b, ?_⟩;simp only [an];rw [aF]
 .cases h
end
end Go.Aev
