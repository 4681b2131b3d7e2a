import Derived.Test.YticjdhgokemdlaaGreatMostTrueQ2
import Derived.MapKept
import Derived.ChangeMaps5
set_option linter.all false
namespace Go.Aev
open Go Go.IntKind
section
variable {P:Program} {w w':World} {A A':Nat->Prop} {c:Ctx} {ρ:Id->Option Value} {O:Id->Option Nat} {s:St} {cc:Option Bool} {h:Id->Option ab}
def ja(ρ:Id->Option Value)(i i':Id)(nx:Nat)(v vk:Value):Id->Option Value:=λx=>
 if x=i' then some v else match x with
  | .g y n=>if y=i' then(if n=nx then some vk else ρ (.g i n)) else ρ (.g y n)
  | x=>ρ x
def fa(O:Id->Option Nat)(i i' j src:Id)(nx:Nat)(ob:Option Nat):Id->Option Nat:=λx=>
 if x=i' then ob else if x=i\/x=j\/x=src then none else match x with
  | .g y n=>if y=i' then(if n=nx then O src else O (.g i n)) else if y=i then none else O (.g y n)
  | x=>O x
def vS(i i' j src:Id)(nx:Nat):Id->Option Id:=λx=>
 if x=i' then some i else if x=i\/x=j\/x=src then none else match x with
  | .g y n=>if y=i' then(if n=nx then some src else some (.g i n)) else if y=i then none else some (.g y n)
  | x=>some x
def nT(i i' src:Id)(nx:Nat):Id->Id:=λz=>
 if z=i then i' else if z=src then .g i' nx else match z with
  | .g y n=>if y=i then .g i' n else .g y n
  | z=>z
theorem Aj{i i' j src:Id}{nx:Nat}(p:src≠i)(o:∀n,src≠ .g i n)(m:i.real=true){x z:Id}(b:vS i i' j src nx x=some z):nT i i' src nx z=x:=by
 unfold vS at b;split at b
 .rename_i h;simp only [U5] at b;subst b;unfold nT;rw [if_pos rfl,h]
 .rename_i h1;split at b
  .cases b
  .rename_i l;have f:x≠i:=λe=>l (.inl e);have k:x≠src:=λe=>l (.inr (.inr e));cases x with
   | g y n=>
    dsimp only at b;split at b
    .rename_i e;subst e;split at b
     .rename_i e2;simp only [U5] at b;subst b;unfold nT;rw [if_neg p,if_pos rfl,e2]
     .simp only [U5] at b;subst b;unfold nT;rw [if_neg (aR m),if_neg (λe=>o n e.symm)];simp
    .split at b
     .cases b
     .rename_i e3;simp only [U5] at b;subst b;unfold nT;rw [if_neg f,if_neg k];simp [e3]
   | c a=>simp only [U5] at b;subst b;unfold nT;rw [if_neg f,if_neg k]
   | s d a=>simp only [U5] at b;subst b;unfold nT;rw [if_neg f,if_neg k]
theorem RU{i i' j src:Id}{nx:Nat}{ob:Option Nat}{x:Id}{d:Nat}(b:fa O i i' j src nx ob x=some d):(x=i'/\ob=some d)\/(x≠i'/\∃z,vS i i' j src nx x=some z/\O z=some d):=by
 unfold fa at b;unfold vS;split at b
 .exact .inl ⟨by assumption,b⟩
 .rename_i h1;right;refine⟨h1, ?_⟩;rw [if_neg h1];split at b
  .cases b
  .rename_i f;rw [if_neg f];cases x with
   | g y n=>
    dsimp only at b⊢;split at b
    .rename_i e;rw [if_pos e];split at b
     .rename_i e2;rw [if_pos e2];exact⟨_,rfl,b⟩
     .rename_i e2;rw [if_neg e2];exact⟨_,rfl,b⟩
    .rename_i e;rw [if_neg e];split at b
     .cases b
     .rename_i e3;rw [if_neg e3];exact⟨_,rfl,b⟩
   | c a=>exact⟨_,rfl,b⟩
   | s d a=>exact⟨_,rfl,b⟩
theorem HS.J3{i i' j src s0:Id}{b:Bool}{sz aD rsz nx:Nat}{es:List Row}{l:List T}{bb:Bool}{xs:List (List T)}{vk:Value}{X:ab}{af blk' off off' cap':Nat}{N:Array Value}{t':TypeId}{ob:Option Nat}{news:List Value}
  (hs:HS c w h ρ O) (hi:h i=some (.rows b sz aD rsz nx es)) (I:h i'=none) (hrl:i'.real=true) (hj:h j≠none) (hji:j≠i) (hs0:h s0≠none) (hs0i:s0≠i) (hs0j:s0≠j)
  (t:src=s0\/∃n,src= .g s0 n) (hvk:ρ src=some vk) (hsl:cU w (AA c w O) rsz bb xs vk (λd=>O src=some d))
  (hos:w'.os=w.os) (ho:w'.output=w.output) (htp:w'.tape=w.tape) (hsz:w.heap.size<=w'.heap.size) (W:∀k,k < w.heap.size->O i≠some k->w'.heap[k]? =w.heap[k]?)
  (Y:ob=O i\/(ob=some w.heap.size/\w.heap.size < w'.heap.size)) (hobs:ob=some blk') (hb:w'.heap[blk']? =some (.cells N t' (0,0))) (hfit:off'+cap' * sz<=N.size) (hcap:es.length+1<=cap')
  (hrows:cw w (AA c w O) ρ O i af sz aD rsz off es) (hold:∀p,p < es.length * sz->w'.cell? ⟨blk',off'+p,none⟩=w.cell? ⟨af,off+p,none⟩)
  (hcol:aD < sz) (hl:l.length=sz) (hnew:∀p v,news[p]? =some v->w'.cell? ⟨blk',off'+es.length * sz+p,none⟩=some v) (hnr:∀m x,m≠aD->l[m]? =some x->∃v,news[m]? =some v/\aA w (AA c w O) x v) (hnk:news[aD]? =some vk)
  (hX:(∀b,AA c w O b->AA c w' (fa O i i' j src nx ob) b/\w'.heap[b]? =w.heap[b]?)->cZ w' (AA c w' (fa O i i' j src nx ob)) (ja ρ i i' nx (.slice (some ⟨blk',off',none⟩) (es.length+1) cap') vk) (fa O i i' j src nx ob) s0 X):
  Le w ρ O w' (ja ρ i i' nx (.slice (some ⟨blk',off',none⟩) (es.length+1) cap') vk) (fa O i i' j src nx ob)/\
  HS c w' (aE (aE (aE (aE h i (some .dead)) j (some .dead)) s0 (some X)) i' (some (.rows false sz aD rsz (nx+1) (es++ [⟨nx,l,some (bb,xs)⟩])))) (ja ρ i i' nx (.slice (some ⟨blk',off',none⟩) (es.length+1) cap') vk) (fa O i i' j src nx ob):=by
 have B:=hs.real (i:=i) (by rw [hi];simp);have L:=hs.real hj;have K:=hs.real hs0;have hii:i'≠i:=λe=>by rw [e,hi] at I;cases I
 have hij:i'≠j:=λe=>hj (e▸I);have hi0:i'≠s0:=λe=>hs0 (e▸I);have M:src≠i:=by
  rcases t with rfl | ⟨n,rfl⟩
  .exact hs0i
  .exact aR B
 have hsj:src≠j:=by
  rcases t with rfl | ⟨n,rfl⟩
  .exact hs0j
  .exact aR L
 have hsi':src≠i':=by
  rcases t with rfl | ⟨n,rfl⟩
  .exact hi0.symm
  .exact aR hrl
 have Z:∀n,src≠ .g i n:=by
  intro n;rcases t with rfl | ⟨m,rfl⟩
  .exact(aR K).symm
  .intro e;simp only [Id.g.injEq] at e;exact hs0i e.1
 have hsg':∀n,src≠ .g i' n:=by
  intro n;rcases t with rfl | ⟨m,rfl⟩
  .exact(aR K).symm
  .intro e;simp only [Id.g.injEq] at e;exact hi0 e.1.symm
 obtain⟨a,cap,r1,r2,r3,⟨n1,n2,n3,n4⟩,r5⟩:=hs.af i _ hi;obtain⟨V,hV⟩:∃V,V=ja ρ i i' nx (.slice (some ⟨blk',off',none⟩) (es.length+1) cap') vk:=⟨_,rfl⟩;obtain⟨Q,R⟩:∃Q,Q=fa O i i' j src nx ob:=⟨_,rfl⟩;rw [<-hV,<-R] at hX⊢;have V1:V i'=some (.slice (some ⟨blk',off',none⟩) (es.length+1) cap'):=by rw [hV];unfold ja;rw [if_pos rfl]
 have V2:∀x,x.real=true->x≠i'->V x=ρ x:=by
  intro x F o;rw [hV];unfold ja;rw [if_neg o];cases x with
  | g y n=>cases F
  | _=>rfl
 have V3:∀y n,y≠i'->V (.g y n)=ρ (.g y n):=by intro y n hy;rw [hV];unfold ja;rw [if_neg (aR hrl)];simp only [if_neg hy]
 have V4:∀n,V (.g i' n)=if n=nx then some vk else ρ (.g i n):=by intro n;rw [hV];unfold ja;rw [if_neg (aR hrl)];simp
 have Q1:Q i'=ob:=by rw [R];unfold fa;rw [if_pos rfl]
 have Q0:∀x,x≠i'->(x=i\/x=j\/x=src)->Q x=none:=by intro x o C;rw [R];unfold fa;rw [if_neg o,if_pos C]
 have Q2:∀x,x.real=true->x≠i'->x≠i->x≠j->x≠src->Q x=O x:=by
  intro x F o h1 C h3;rw [R];unfold fa;rw [if_neg o,if_neg (by rintro(h | h | h) <;> contradiction)];cases x with
  | g y n=>cases F
  | _=>rfl
 have Q3:∀y n,y≠i'->y≠i->Id.g y n≠src->Q (.g y n)=O (.g y n):=by intro y n hy hy2 h3;rw [R];unfold fa;rw [if_neg (aR hrl),if_neg (by rintro(h | h | h);exact aR B h;exact aR L h;exact h3 h)];simp only [if_neg hy,if_neg hy2]
 have Q4:∀n,Q (.g i' n)=if n=nx then O src else O (.g i n):=by intro n;rw [R];unfold fa;rw [if_neg (aR hrl),if_neg (by rintro(h | h | h);exact aR B h;exact aR L h;exact hsg' n h.symm)];simp
 have U:∀x d,Q x=some d->(x=i'/\ob=some d)\/(x≠i'/\∃z,vS i i' j src nx x=some z/\O z=some d):=λx d o=>RU (by rw [<-R];exact o);have le:Le w ρ O w' V Q:=by
  refine⟨hos,ho,htp,hsz,λx u o=> ?_,λd r hn=>W d r (hn i),λx d o=> ?_⟩
  .cases F:x.real with
   | true=>
    have:x≠i':=λe=>by rw [e,(hs.cG i' hrl I).1] at o;cases o
    rw [V2 x F this];exact o
   | false=>
    cases x with
    | g y n=>
     have:y≠i':=λe=>by rw [e,(hs.fY i' n I).1] at o;cases o
     rw [V3 y n this];exact o
    | _=>cases F
  .rcases U x d o with⟨_,h1⟩ | ⟨_,z,_,C⟩
   .rcases Y with e | ⟨e,_⟩
    .exact .inl ⟨i,by rw [<-e];exact h1⟩
    .rw [e] at h1;cases h1;exact .inr (Vs _)
   .exact .inl ⟨z,C⟩
 have hA:∀d,AA c w O d->AA c w' Q d/\w'.heap[d]? =w.heap[d]?:=λd r=>le.A d r;have E:∀x d,x≠i->O x=some d->w'.heap[d]? =w.heap[d]?:=λx d o r=>W d (hs.lt x d r) λe=>o (hs.inj x i d r e);refine⟨le,hs.oU le (λx y o=> ?_) (λx F o=> ?_) (λx n=> ?_) (λx n o=> ?_) (λx n u H=> ?_) (λx y d o hy=> ?_) (λx d o=> ?_)⟩
 .by_cases J:x=i'
  .subst J;rw [aF] at o;cases o;right;have hlen:(es++ [(⟨nx,l,some (bb,xs)⟩:Row)]).length=es.length+1:=by simp
   refine⟨some ⟨blk',off',none⟩,cap',by rw [hlen];exact V1,by rw [hlen];exact hcap,by simp,⟨?_,λf D=> ?_,λn hn=> ?_,λn d r=> ?_⟩, .inr ⟨blk',off',N,t',rfl,by rw [Q1];exact hobs,hb,hfit,cw.append ?_ ⟨?_,trivial⟩⟩⟩
   .rw [W0,W5];refine⟨n1,by simp,λa ha b hb=> ?_⟩;simp only [VN,XA,Vj] at hb;obtain⟨f,D,e⟩:=VJ.1 ha;have:=n2 f D;omega
   .rcases Vr.1 D with D | D
    .have:=n2 f D;omega
    .simp only [Vj] at D;subst D;simp
   .rw [V4,if_neg (by omega)];exact n3 n (by omega)
   .rw [Q4] at r;by_cases en:n=nx
    .exact⟨_,Vm _ (Vj.2 rfl),en.symm⟩
    .rw [if_neg en] at r;obtain⟨f,D,hfn⟩:=n4 n d r;exact⟨f,Vo _ D,hfn⟩
   .refine cw.move hA hold (λf D=> ?_) hrows;have q:f.n≠nx:=by have:=n2 f D;omega
    exact⟨by rw [V4,if_neg q],by rw [Q4,if_neg q],λd r=>E _ d (aR B) r⟩
   .refine⟨hl,hcol,λm y hm hy=> ?_,vk,hnew aD vk hnk,by rw [V4];simp, ?_⟩
    .obtain⟨v,g1,g2⟩:=hnr m y hm hy;exact⟨v,hnew m v g1,aA.mono hA y v g2⟩
    .simp only;refine cU.mono hA (λd r=> ?_) hsl;rw [Q4];exact⟨by simpa using r,E src d M r⟩
  .rw [au _ _ J] at o;by_cases e2:x=s0
   .subst e2;rw [aF] at o;cases o;exact .inr (hX hA)
   .rw [au _ _ e2] at o;by_cases e3:x=j
    .subst e3;rw [aF] at o;cases o;obtain⟨y,hy⟩:=Yt.1 hj;have:∃u,ρ x=some u:=by
      cases G:ρ x with
      | some u=>exact⟨u,rfl⟩
      | none=>
       exfalso;have:=hs.af x y hy;cases y with
       | box cs=>obtain⟨b,_,_,h1,_⟩:=this;rw [G] at h1;cases h1
       | sl fz sz b xs=>obtain⟨v,h1,_⟩:=this;rw [G] at h1;cases h1
       | iZ l=>obtain⟨b,h1,_⟩:=this;rw [G] at h1;cases h1
       | mp ag ks vk es=>obtain⟨b,_,_,h1,_⟩:=this;rw [G] at h1;cases h1
       | arr cs=>obtain⟨b,_,_,h1,_⟩:=this;rw [G] at h1;cases h1
       | rows _ _ _ _ _ _=>obtain⟨_,_,h1,_⟩:=this;rw [G] at h1;cases h1
       | dead=>obtain⟨⟨v,h1,_⟩,_⟩:=this;rw [G] at h1;cases h1
     obtain⟨u,H⟩:=this;exact .inr ⟨⟨u,by rw [V2 x L J];exact H,kI hs H⟩,Q0 x J (.inr (.inl rfl))⟩
    .rw [au _ _ e3] at o;by_cases e4:x=i
     .subst e4;rw [aF] at o;cases o;exact .inr ⟨⟨_,by rw [V2 x B J];exact r1,rfl,rfl⟩,Q0 x J (.inl rfl)⟩
     .rw [au _ _ e4] at o;have hrx:=hs.real (i:=x) (by rw [o];simp);have e5:x≠src:=by
       rcases t with rfl | ⟨n,rfl⟩
       .exact e2
       .exact(aR hrx).symm
      refine .inl ⟨o,Q2 x hrx J e4 e3 e5,λd r=>E x d e4 r,λn=>⟨V3 x n J,Q3 x n J e4 ?_,λd r=>E _ d (aR B) r⟩⟩;rcases t with rfl | ⟨m,rfl⟩
      .exact aR K
      .intro e;simp only [Id.g.injEq] at e;exact e2 e.1
 .have q:x≠i':=λe=>by rw [e,aF] at o;cases o
  rw [au _ _ q] at o;have h0:x≠s0:=λe=>by rw [e,aF] at o;cases o
  rw [au _ _ h0] at o;have h1:x≠j:=λe=>by rw [e,aF] at o;cases o
  rw [au _ _ h1] at o;have C:x≠i:=λe=>by rw [e,aF] at o;cases o
  rw [au _ _ C] at o;have h5:x≠src:=by
   rcases t with rfl | ⟨n,rfl⟩
   .exact h0
   .exact(aR F).symm
  rw [V2 x F q,Q2 x F q C h1 h5];exact hs.cG x F o
 .rw [au _ _ (aR hrl),au _ _ (aR K),au _ _ (aR L),au _ _ (aR B)];exact hs.eO x n
 .have q:x≠i':=λe=>by rw [e,aF] at o;cases o
  rw [au _ _ q] at o;have h0:x≠s0:=λe=>by rw [e,aF] at o;cases o
  rw [au _ _ h0] at o;have h1:x≠j:=λe=>by rw [e,aF] at o;cases o
  rw [au _ _ h1] at o;have C:x≠i:=λe=>by rw [e,aF] at o;cases o
  rw [au _ _ C] at o;have h5:Id.g x n≠src:=by
   rcases t with rfl | ⟨m,rfl⟩
   .exact aR K
   .intro e;simp only [Id.g.injEq] at e;exact h0 e.1
  rw [V3 x n q,Q3 x n q C h5];exact hs.fY x n o
 .by_cases q:x=i'
  .subst q;rw [V4] at H;split at H
   .simp only [U5] at H;subst H;exact kI hs hvk
   .exact hs.gone i n u H
  .rw [V3 x n q] at H;exact hs.gone x n u H
 .rcases U x d o with⟨x1,x2⟩ | ⟨x1,z,x2,x3⟩ <;> rcases U y d hy with⟨y1,S⟩ | ⟨y1,z',S,y3⟩
  .rw [x1,y1]
  .rcases Y with e | ⟨e,_⟩
   .rw [e] at x2;have:=hs.inj i z' d x2 y3;subst this;have:=Aj M Z B S;unfold nT at this;rw [if_pos rfl] at this;rw [x1];exact this
   .rw [e] at x2;cases x2;exact absurd (hs.lt _ _ y3) (XF _)
  .rcases Y with e | ⟨e,_⟩
   .rw [e] at S;have:=hs.inj i z d S x3;subst this;have:=Aj M Z B x2;unfold nT at this;rw [if_pos rfl] at this;rw [y1];exact this.symm
   .rw [e] at S;cases S;exact absurd (hs.lt _ _ x3) (XF _)
  .have:=hs.inj z z' d x3 y3;subst this;rw [<-Aj M Z B x2,<-Aj M Z B S]
 .rcases U x d o with⟨_,h1⟩ | ⟨_,z,_,C⟩
  .rcases Y with e | ⟨e,e2⟩
   .rw [e] at h1;have:=hs.lt i d h1;omega
   .rw [e] at h1;cases h1;exact e2
  .have:=hs.lt z d C;omega
end
open Go
section
variable {P:Program} {w w':World} {A A':Nat->Prop} {c:Ctx} {ρ:Id->Option Value} {O:Id->Option Nat} {s:St} {cc:Option Bool} {h:Id->Option ab}
theorem HS.move{i i':Id}(hs:HS c w h ρ O)(hi:h i≠none)(z:h i'=none)(v:Value)(f:Option Nat)(J:w'.os=w.os)(p:w'.output=w.output)(L:w'.tape=w.tape)(K:w.heap.size<=w'.heap.size)
  (m:∀k,k < w.heap.size->O i≠some k->w'.heap[k]? =w.heap[k]?) (r:f=none\/f=O i\/(f=some w.heap.size/\w.heap.size < w'.heap.size)) (x:ab)
  (S:cZ w' (AA c w' (aE (aE O i none) i' f)) (aE ρ i' (some v)) (aE (aE O i none) i' f) i' x) (hrl:i'.real=true:=by rfl):
  Le w ρ O w' (aE ρ i' (some v)) (aE (aE O i none) i' f)/\HS c w' (aE (aE h i' (some x)) i (some .dead)) (aE ρ i' (some v)) (aE (aE O i none) i' f):=by
 have B:i≠i':=λe=>hi (e▸z);have M:∀b,f=some b->b < w'.heap.size:=by
  intro b hb;rcases r with e | e | ⟨e,e2⟩
  .rw [e] at hb;cases hb
  .rw [e] at hb;have:=hs.lt i b hb;omega
  .rw [e] at hb;cases hb;exact e2
 have le:Le w ρ O w' (aE ρ i' (some v)) (aE (aE O i none) i' f):=by
  refine⟨J,p,L,K,λj u a=> ?_,λb hb R=>m b hb (R i),λj b a=> ?_⟩
  .by_cases e:j=i'
   .subst e;rw [(hs.cG _ hrl z).1] at a;cases a
   .rw [au _ _ e];exact a
  .by_cases e:j=i'
   .subst e;rw [aF] at a;rcases r with e | e | ⟨e,_⟩
    .rw [e] at a;cases a
    .rw [e] at a;exact .inl ⟨i,a⟩
    .rw [e] at a;cases a;exact .inr (Vs _)
   .rw [au _ _ e] at a;by_cases e2:j=i
    .subst e2;rw [aF] at a;cases a
    .rw [au _ _ e2] at a;exact .inl ⟨j,a⟩
 have t:=hs.real hi;have N:GK w ρ O w' (aE ρ i' (some v)) (aE (aE O i none) i' f):=λj n=>⟨au _ _ (aR hrl),by rw [au _ _ (aR hrl),au _ _ (aR t)],λb hb=>m b (hs.lt _ b hb) λe=>aR t (hs.inj _ i b hb e)⟩;refine⟨le,hs.go le N (λj T a=> ?_) (λj I a=> ?_) (λj a=> ?_) (λj n=>by rw [au _ _ (aR t),au _ _ (aR hrl)];exact hs.eO j n) (λj k d a D=> ?_) (λj d a=> ?_)⟩
 .by_cases e:j=i
  .subst e;rw [aF] at a;cases a;right;obtain⟨b,hb⟩:=Yt.1 hi;have E:∃u,ρ j=some u/\u.oneCell'=true/\u.cells= #[u]:=by
    cases g:ρ j with
    | none=>
     exfalso;have:=hs.af j b hb;cases b with
     | box cs=>obtain⟨b,_,_,h1,_⟩:=this;rw [g] at h1;cases h1
     | sl U sz b xs=>obtain⟨v,h1,_⟩:=this;rw [g] at h1;cases h1
     | iZ l=>obtain⟨b,h1,_⟩:=this;rw [g] at h1;cases h1
     | mp ag ks vk es=>obtain⟨b,_,_,h1,_⟩:=this;rw [g] at h1;cases h1
     | arr cs=>obtain⟨b,_,_,h1,_⟩:=this;rw [g] at h1;cases h1
     | rows _ _ _ _ _ _=>obtain⟨_,_,h1,_⟩:=this;rw [g] at h1;cases h1
     | dead=>obtain⟨⟨v,h1,_⟩,_⟩:=this;rw [g] at h1;cases h1
    | some u=>exact⟨u,rfl,kI hs g⟩
   obtain⟨u,h1,Q⟩:=E;exact⟨⟨u,by rw [au _ _ B];exact h1,Q⟩,by rw [au _ _ B,aF]⟩
  .rw [au _ _ e] at a;by_cases e2:j=i'
   .subst e2;rw [aF] at a;cases a;exact .inr S
   .rw [au _ _ e2] at a;refine .inl ⟨a,by rw [au _ _ e2,au _ _ e],λaf q=>m af (hs.lt j af q) (λp=>e (hs.inj j i af q p))⟩
 .by_cases e:j=i
  .subst e;rw [aF] at a;cases a
  .rw [au _ _ e] at a;by_cases e2:j=i'
   .subst e2;rw [aF] at a;cases a
   .rw [au _ _ e2] at a;rw [au _ _ e2,au _ _ e2,au _ _ e];exact hs.cG j I a
 .by_cases e:j=i
  .subst e;rw [aF] at a;cases a
  .rw [au _ _ e] at a;by_cases e2:j=i'
   .subst e2;rw [aF] at a;cases a
   .rw [au _ _ e2] at a;exact a
 .have y:∀j b,aE (aE O i none) i' f j=some b->(j=i'/\f=some b)\/(j≠i'/\j≠i/\O j=some b):=by
   intro j b a;by_cases e:j=i'
   .subst e;rw [aF] at a;exact .inl ⟨rfl,a⟩
   .rw [au _ _ e] at a;by_cases e2:j=i
    .subst e2;rw [aF] at a;cases a
    .rw [au _ _ e2] at a;exact .inr ⟨e,e2,a⟩
  have o:∀k b,f=some b->k≠i->O k=some b->False:=by
   intro k b hb D p;rcases r with e | e | ⟨e,_⟩
   .rw [e] at hb;cases hb
   .rw [e] at hb;exact D (hs.inj k i b p hb)
   .rw [e] at hb;cases hb;exact XF _ (hs.lt k _ p)
  rcases y j d a with⟨F,e2⟩ | ⟨F,e2,e3⟩ <;> rcases y k d D with⟨G,C⟩ | ⟨G,C,H⟩
  .rw [F,G]
  .exact(o k d e2 C H).elim
  .exact(o j d C e2 e3).elim
  .exact hs.inj j k d e3 H
 .by_cases e:j=i'
  .subst e;rw [aF] at a;exact M d a
  .rw [au _ _ e] at a;by_cases e2:j=i
   .subst e2;rw [aF] at a;cases a
   .rw [au _ _ e2] at a;have:=hs.lt j d a;omega
theorem K4{v:AV}{x:T}{u:Value}{sz:Nat}{p:Bool×List (List T)}(hs:HS c w h ρ O)(hv:ao w (AA c w O) ρ v u)(d:dP h v=some x)(E:x.aU sz=some p):
  (p.2= []/\(u= .slice none 0 0\/∃a cap,u= .slice (some a) 0 cap))\/∃af off cap,u= .slice (some ⟨af,off,none⟩) p.2.length cap/\aY w (AA c w O) af sz off p.2:=by
 have f:aA w (λ_=>True) x u:=m7 hs hv d (λ_ _=>trivial) (λ_ _ _ _=>trivial);have bM:p.2= []->(u= .slice none 0 0\/∃a cap,u= .slice (some a) 0 cap):=by
  intro e;rcases T.qq E with rfl | ⟨rfl,_⟩
  .simp only [aA] at f;rcases f with⟨_,_,rfl⟩ | ⟨_,af,off,H,cap,rfl,_⟩
   .exact .inl rfl
   .rw [e];exact .inr ⟨_,_,rfl⟩
  .simp only [aA] at f;rcases f with⟨_,rfl⟩ | ⟨_,af,off,H,rfl⟩
   .exact .inl rfl
   .exact .inr ⟨_,_,rfl⟩
 by_cases e:p.2= []
 .exact .inl ⟨e,bM e⟩
 right;have R:x= .aa sz p.1 p.2:=by
  rcases T.qq E with h | ⟨_,h⟩
  .exact h
  .exact absurd h e
 subst R;cases v <;> simp only [dP,reduceCtorEq,U5] at d
 case t y=>
  subst d;simp only [ao,aA] at hv;rcases hv with⟨_,h,_⟩ | ⟨_,af,off,H,cap,rfl,_,r,g⟩
  .exact absurd h e
  .rcases r with r | ⟨rfl,_⟩
   .exact absurd r e
   exact⟨af,off,cap,rfl,g⟩
 case own i=>
  split at d
  .rename_i Q m b xs hi;simp only [U5,T.aa.injEq] at d;obtain⟨rfl,rfl,rfl⟩:=d;obtain⟨Z,z,a,cap,q1,S,U,V,k⟩:=oa hs hi;simp only [ao] at hv;rw [z] at hv;simp only [U5] at hv;subst hv;subst q1;rcases k with k | ⟨af,off,arr,t,C,W,X,Y,j⟩
   .exact absurd (Vq.1 (by omega)) e
   .subst C;exact⟨af,off,cap,rfl,j⟩
  .simp at d
 case ref i off=>
  split at d
  .obtain⟨l,_,d⟩:=U6.1 d;simp at d
  .simp at d
  .simp at d
 case part i sz1 off n=>
  split at d
  .rename_i Q m b xs hi;split at d
   .rename_i F;subst F;simp only [U5,T.aa.injEq] at d;obtain⟨rfl,rfl,G⟩:=d;obtain⟨Z,z,a,cap,q1,S,U,V,k⟩:=oa hs hi;simp only [ao] at hv;obtain⟨a1,L,J,I,q,e2,e3,rfl,K⟩:=hv;rw [z] at q;simp only [U5] at q;subst q;simp only [WG] at q1;obtain⟨rfl,rfl,rfl⟩:=q1;have B:((xs.drop off).take n).length=n:=by simp only [V7,Xb];omega
    rw [<-G] at e⊢;have hn:n≠0:=λh=>e (by rw [h];rfl);rcases k with k | ⟨af,off',arr,t,C,W,X,Y,j⟩
    .omega
    .subst C;have N:I=some ⟨af,off'+off * m,none⟩:=by
      rcases K with⟨rfl,rfl⟩ | ⟨rfl,_⟩ | ⟨b',o,D,M⟩
      .simp
      .omega
      .simp only [U5,Wq] at D;obtain⟨rfl,rfl,_⟩:=D;exact M
     subst N;exact⟨af,_,_,by rw [B],(j.drop off).take n⟩
   .simp at d
  .simp at d
theorem Su{t k ty e:TypeId}{i:TypeInfo}(m:P.underlying t=some (.slice e))(hi:P.info? e=some i){b off a d:Nat}{arr:Array Value}{tt:TypeId}(hb:w.heap[b]? =some (.cells arr tt (0,0))){x:Value}{n:Nat}{news:List Value}
  (hs:Src P i.size k x n news w) (f:a+n<=d) (l:off+d * i.size<=arr.size):
  (Builtin.append_ #[t,k] ty #[.slice (some ⟨b,off,none⟩) a d,x]).run P w= .ok (.slice (some ⟨b,off,none⟩) (a+n) d) (w.setRow b (cg (off+a * i.size) news arr.toList).toArray):=by
 have o:=hs.newsLen;have hm:(a+n) * i.size<=d * i.size:=Wj _ f;have e:(a+n) * i.size=a * i.size+n * i.size:=XL _ _ _;have g:=run_storeCells_at P b (off+a * i.size) tt news 0 arr w hb (by omega) hs.one;simp only [X1] at g;rcases hs.kind with⟨e',j⟩ | j <;> simp [Builtin.append_,run_underlying m,run_underlying j,sizeOf,typeInfo,hi,hs.len,f,hs.cells,iu,g,cg]
theorem Ss{t j ty e:TypeId}{i:TypeInfo}(k:P.underlying t=some (.slice e))(hi:P.info? e=some i){base:Option Addr}{d b:Nat}{x:Value}(hs:Src P i.size j x 0 [] w)(f:d<=b):
  (Builtin.append_ #[t,j] ty #[.slice base d b,x]).run P w= .ok (.slice base d b) w:=by
 have l:∀a:Addr,(storeCells a []).run P w= .ok () w:=λa=>by simp [storeCells]
 cases base <;> rcases hs.kind with⟨e',g⟩ | g <;> simp [Builtin.append_,run_underlying k,run_underlying g,sizeOf,typeInfo,hi,hs.len,f,hs.cells,storeCells]
structure Ad (P:Program) (t tx e:TypeId) (i:TypeInfo) (x:Value) (n:Nat) (news:List Value) (w:World):Prop where
 newsLen:news.length=n * i.size
 one:∀u∈news,u.oneCell'=true
 idle:n=0->∀(ty:TypeId) (base:Option Addr) (sLen sCap:Nat),sLen<=sCap->(Builtin.append_ #[t,tx] ty #[.slice base sLen sCap,x]).run P w= .ok (.slice base sLen sCap) w
 C6:∀(ty:TypeId) (b off sLen sCap:Nat) (arr:Array Value) (tt:TypeId),w.heap[b]? =some (.cells arr tt (0,0))->sLen+n<=sCap->off+sCap * i.size<=arr.size->
  (Builtin.append_ #[t,tx] ty #[.slice (some ⟨b,off,none⟩) sLen sCap,x]).run P w= .ok (.slice (some ⟨b,off,none⟩) (sLen+n) sCap) (w.setRow b (cg (off+sLen * i.size) news arr.toList).toArray)
 grow:∀(ty:TypeId) (z:Value) (base:Option Addr) (sLen sCap:Nat) (olds:List Value),i.zero=some z->(Builtin.firstCells i.size sLen (.slice base sLen sCap)).run P w.drew= .ok olds.toArray w.drew->sCap < sLen+n->
  ((sLen+n:Nat):Int)<=9223372036854775807->Builtin.nextslicecap (sLen+n) sCap * i.bytes<=281474976710656->
  (Builtin.append_ #[t,tx] ty #[.slice base sLen sCap,x]).run P w=
   .ok (.slice (some ⟨w.heap.size,0,none⟩) (sLen+n) (grownCap w (sLen+n) sCap e))
    (w.drew.alloc (.cells ((olds++news).toArray++Builtin.zeroCells z.cells (grownCap w (sLen+n) sCap e - (sLen+n))) e))
theorem Ad.vL{t tx e:TypeId}{i:TypeInfo}{x:Value}{n:Nat}{news:List Value}(ht:P.underlying t=some (.slice e))(hi:P.info? e=some i)(hs:Src P i.size tx x n news w):Ad P t tx e i x n news w where
 newsLen:=hs.newsLen
 one:=hs.one
 idle:=by intro h ty base sLen sCap hr;subst h;have:news= []:=Vq.1 (by rw [hs.newsLen];simp);subst this;exact Ss ht hi hs hr
 C6:=λty b off sLen sCap arr tt hb hr hf=>Su ht hi hb hs hr hf
 grow:=λty z base sLen sCap olds hz ho hg h63 hf=>run_append_grow_src w t tx ty e i z ht hi hz base sLen sCap olds ho x n news hs hg h63 hf
theorem UZ{z:Array Value}{sz:Nat}(hz:z.size=sz)(n:Nat):(Builtin.zeroCells z n).toList= (List.replicate n z.toList).flatten:=by
 apply XD;intro p;by_cases d:p < n * sz
 .have h1:((List.replicate n z.toList).flatten).length=n * sz:=by simp [hz]
  have a:((List.replicate n z.toList).flatten)[p]? =some ((List.replicate n z.toList).flatten[p]'(by omega)):=Vb _;rw [a];have b:=Dj (zv:=z) hz n n (Vs _) p _ a;rw [<-b,Wl];simp [madeCells,Builtin.zeroCells,hz]
 .have h1:((List.replicate n z.toList).flatten).length=n * sz:=by simp [hz]
  have a:(Builtin.zeroCells z n).toList.length=n * sz:=by rw [VG,size_zeroCells,hz]
  rw [V8 (by omega),V8 (by omega)]
theorem RD{n:Int}(a: 0<=n)(h1:n<=4294967296):i64.wrap n=n:=by rw [IntKind.wrap_i64];omega
theorem Ad.RE{t N e:TypeId}{i:TypeInfo}{zv:Value}{ki:IntKind}{n:Int}(B:P.underlying t=some (.slice e))(x:P.underlying N=some (.int ki))(hi:P.info? e=some i)(hz:i.zero=some zv)(E:zv.cells.size=i.size)(hb:i.bytes<=8192)
  (Q: 0<=n) (h1:n<=4294967296) (I:∀u∈zv.cells.toList,u.oneCell'=true):Ad P t N e i (.int .i64 n) n.toNat (List.replicate n.toNat zv.cells.toList).flatten w:=by
 have C:=RD Q h1;have m:¬(n < 0):=by omega
 have f:¬(281474976710656 < n * (i.bytes:Int)):=by have W:n * (i.bytes:Int)<=4294967296 * 8192:=Int.le_trans (Vz h1 (by omega)) (Vg (by omega) (by omega));omega
 have M:(List.replicate n.toNat zv.cells.toList).flatten.length=n.toNat * i.size:=by simp [E]
 have one:∀u∈(List.replicate n.toNat zv.cells.toList).flatten,u.oneCell'=true:=by intro u H;obtain⟨l,K,H⟩:=List.mem_flatten.1 H;rw [List.mem_replicate] at K;obtain⟨_,rfl⟩:=K;exact I u H
 have U:=UZ E n.toNat
 have F:Builtin.zeroCells zv.cells n.toNat= (List.replicate n.toNat zv.cells.toList).flatten.toArray:=by rw [<-U]
 have aJ:n.toNat * i.size=0->(List.replicate n.toNat zv.cells.toList).flatten= []:=λh=>Vq.1 (by rw [M,h]);refine⟨M,one, ?_, ?_, ?_⟩
 .intro h ty base d j S;have R:∀a:Addr,(storeCells a []).run P w= .ok () w:=λa=>by simp [storeCells]
  cases base <;> simp [Builtin.append_,run_underlying B,run_underlying x,sizeOf,typeInfo,hi,asInt,asIntOf,C,m,f,h,S,R]
 .intro ty b off d j arr tt J k G;have hm:(d+n.toNat) * i.size<=j * i.size:=Wj _ k;have e:(d+n.toNat) * i.size=d * i.size+n.toNat * i.size:=XL _ _ _;have o:=run_storeCells_at P b (off+d * i.size) tt (List.replicate n.toNat zv.cells.toList).flatten 0 arr w J (by omega) one;simp only [X1] at o;by_cases g:n.toNat * i.size=0
  .have:=aJ g;rw [this] at o⊢;simp [Builtin.append_,run_underlying B,run_underlying x,sizeOf,typeInfo,hi,asInt,asIntOf,C,m,f,k,g,iu,o,cg]
  .simp [Builtin.append_,run_underlying B,run_underlying x,sizeOf,typeInfo,zeroValue,hi,hz,asInt,asIntOf,C,m,f,k,g,F,iu,o,cg]
 .intro ty z base d j T D y X V G;rw [hz] at D;cases D;have L:¬(d+n.toNat<=j):=by omega
  have q:¬(9223372036854775807 < ((d:Int)+ (n.toNat:Int))):=by omega
  have v:¬(9223372036854775807 < ((d:Int)+max n 0)):=by omega
  have r:¬(i64.max < ((d:Int)+ (n.toNat:Int))):=by simp only [IntKind.max,IntKind.bits,IntKind.signed];omega
  have p:¬(281474976710656 < Builtin.nextslicecap (d+n.toNat) j * i.bytes):=by omega
  by_cases g:n.toNat * i.size=0
  .have:=aJ g;rw [this];simp [Builtin.append_,run_underlying B,run_underlying x,sizeOf,typeInfo,zeroValue,hi,hz,asInt,asIntOf,C,m,f,L,v,p,Question.forced,g,y,newRow,grownCap]
  .simp [Builtin.append_,run_underlying B,run_underlying x,sizeOf,typeInfo,zeroValue,hi,hz,asInt,asIntOf,C,m,f,L,v,p,Question.forced,g,F,y,newRow,grownCap];congr 2;apply Xz;simp []
theorem I3{n m:Int}(h:bu n m=some ()): 0<=n/\n<=m/\m<=du:=by
 unfold bu at h;split at h
 .assumption
 .simp at h
theorem Mf{R:Type}{t N e:TypeId}{sz:Nat}{z:List T}{ti:TypeInfo}{y:AV}{Q:Value}{K:List (List T)->Option R}{r:R}(hs:HS c w s.h ρ O)(m:P.underlying N=some (.slice e))(f:P.info? e=some ti)(k:ti.size=sz)(hz:jX P e=some z)(J:z.length=sz)(G:P.bytesOf e<=8192)(hy:ao w (AA c w O) ρ y Q)(d:mI P s t sz z y K=some r):
  ∃E vss,K E=some r/\Ad P N t e ti Q E.length vss.flatten w/\cF w (AA c w O) sz E vss:=by
 subst k;unfold mI at d;split at d
 .rename_i e' i;obtain⟨x,q,d⟩:=U6.1 d;replace d:=aO d (.inl rfl);obtain⟨p,W,d⟩:=d;rcases K4 hs hy q W with⟨e,h⟩ | ⟨af,off,cap,rfl,g⟩
  .rw [e] at d;refine⟨[],[],d, ?_,rfl⟩;rcases h with rfl | ⟨a,cap,rfl⟩
   .exact .vL m f (Src.ofNil w i 0)
   .exact .vL m f (Src.ofSlice w i a 0 cap [] (by simp) (by simp) (by simp))
  .obtain⟨vss,h1,B⟩:=g.bg;obtain⟨l1,Y⟩:=h1.length;exact⟨p.2,vss,d, .vL m f (Src.ofSlice w i ⟨af,off,none⟩ _ cap _ (by rw [Y]) (λj u U=>by rw [iu];exact B j u U) (λu i=>(h1.one u i).1)),h1⟩
 .rename_i i;split at d
  .rename_i k;obtain⟨x,q,d⟩:=U6.1 d;replace d:=aO d (.inl rfl);obtain⟨b,hb,d⟩:=d;have:=T.kO hb;subst this;rw [AV.mA q] at hy;simp only [ao,aA] at hy;subst hy;have flat:∀l:List Value,(l.map λv=> [v]).flatten=l:=by intro l;induction l <;> simp_all
   refine⟨_,((b.data.toList.map λb=>Value.int .u8 b.toNat).map λv=> [v]),d, ?_, ?_⟩
   .rw [flat,WB];have:=Src.ofString (P:=P) w i b;have e:b.data.toList.length=b.size:=by rw [VG];rfl
    rw [e];exact .vL m f (by rw [k];exact this)
   .have F:∀l:List UInt8,cF w (AA c w O) 1 (l.map λu=> [T.int .u8 u.toNat]) ((l.map λb=>Value.int .u8 b.toNat).map λv=> [v]):=by
     intro l;induction l with
     | nil=>rfl
     | cons u l X=>exact⟨_,_,rfl,rfl,⟨_,[],rfl,gS _ _ _ _,rfl⟩,X⟩
    rw [k];exact F _
  .simp at d
 .rename_i ki i;obtain⟨x,q,d⟩:=U6.1 d;replace d:=aO d (.inl rfl);obtain⟨n,V,d⟩:=d;replace d:=aO d (.inl rfl);obtain⟨_,hb,d⟩:=d;have:=T.gH V;subst this;obtain⟨S,_,B⟩:=I3 hb;rw [AV.mA q] at hy;simp only [ao,aA] at hy;subst hy;obtain⟨Z,zv,o,M,H⟩:=ow hz;rw [f] at o;cases o;have D:aT w (AA c w O) z zv.cells.toList:=pa H;have L:zv.cells.size=ti.size:=by
   have:=D.length;rw [VG] at this;omega
  have I:=cF.replicate D J n.toNat
  have C:ti.bytes<=8192:=by simpa [Program.bytesOf,f] using G
  refine⟨_,_,d, ?_,I⟩;rw [W7];exact .RE m i f M L C S (by simpa [du] using B) (λu i=>(D.one u i).1)
 .simp at d
theorem C2(z:Array Value)(l:List Value)(k:Nat):∀(p:Nat) (v:Value),l[p]? =some v->(l.toArray++Builtin.zeroCells z k)[p]? =some v:=by intro p v b;have a:=(Vh.1 b).1;rw [Array.getElem?_append_left (by simpa using a)];simpa using b
theorem CU{bs n:Nat}(h:oS bs n)(hb:bs<=8192):n * bs<=140737488355328:=by
 rcases h with h | ⟨_,h⟩
 .have:n * bs<=4294967296 * 8192:=YI h hb;omega
 .exact h
theorem CV{bs n:Nat}(h:oS bs n):n<=140737488355328:=by
 rcases h with h | ⟨a,h⟩
 .have:n<=4294967296:=h;omega
 .exact VU (Nat.le_mul_of_pos_right n a) h
theorem Fj{t tx ty e:TypeId}{ti:TypeInfo}{zs:List T}{y:Value}{i i':Id}{b:Bool}{xs d:List (List T)}{vss:List (List Value)}{base:Option Addr}{cap:Nat}
  (hs:HS c w h ρ O) (hi:h i≠none) (D:h i'=none) (ht:P.underlying t=some (.slice e)) (hz:jX P e=some zs) (hzl:zs.length=P.cellsOf e) (hby:P.bytesOf e<=8192)
  (U:oS (P.bytesOf e) (xs.length+d.length)) (hcap:xs.length<=cap) (X:base=none↔b=true) (E:True)
  (x:cap=0\/∃af off arr tt,base=some ⟨af,off,none⟩/\O i=some af/\w.heap[af]? =some (.cells arr tt (0,0))/\off+cap * P.cellsOf e<=arr.size/\aY w (AA c w O) af (P.cellsOf e) off xs)
  (I:P.info? e=some ti) (src:Ad P t tx e ti y d.length vss.flatten w) (C:cF w (AA c w O) (P.cellsOf e) d vss) (hrl:i'.real=true:=by rfl):
  ∃v w' ρ' O',(Builtin.append_ #[t,tx] ty #[.slice base xs.length cap,y]).run P w= .ok v w'/\Le w ρ O w' ρ' O'/\ρ' i'=some v/\
   HS c w' (aE (aE h i' (some (.sl false (P.cellsOf e) (b && d.isEmpty) (xs++d)))) i (some .dead)) ρ' O':=by
 obtain⟨ti',zv,J,hzv,hof⟩:=ow hz;rw [I] at J;cases J;have n:P.cellsOf e=ti.size:=by simp [Program.cellsOf,I]
 have hne:i'≠i:=λe=>hi (e▸D);obtain⟨l1,l2⟩:=C.length;by_cases r:xs.length+d.length<=cap
 .rcases x with x | ⟨af,off,arr,tt,rfl,M,hb,o,B⟩
  ·
   subst x;have V:xs= []:=Vq.1 (by omega);have ey:d= []:=Vq.1 (by omega);subst V;subst ey;have ev:vss= []:=by simpa using l1
   subst ev;obtain⟨F,G⟩:=HS.move (hrl:=hrl) (w':=w) hs hi D (.slice base 0 0) none rfl rfl rfl (Vs _) (λ_ _ _=>rfl) (.inl rfl) (.sl false (P.cellsOf e) (b && true) []) (by
    refine⟨_,by rw [aF];rfl,⟨base,0,rfl,by simp, ?_,E, .inl rfl⟩,by simp⟩;simpa using X)
   refine⟨_,w,_,_, ?_,F,by rw [aF],by simpa using G⟩;exact src.idle rfl ty base 0 0 (Vs _)
  ·
   rw [n] at o;have L:=src.C6 ty af off xs.length cap arr tt hb r o;have N:∀k,k < w.heap.size->O i≠some k->(w.setRow af (cg (off+xs.length * ti.size) vss.flatten arr.toList).toArray).heap[k]? =w.heap[k]?:=λk _ W=>setRow_other w af k _ (λe=>W (e▸M));have K:off+xs.length * ti.size+vss.flatten.length<=arr.toList.length:=by have l3:arr.toList.length=arr.size:=VG;rw [l2,n,l3];have hm:(xs.length+d.length) * ti.size<=cap * ti.size:=Wj _ r;rw [XL] at hm;omega
   obtain⟨F,G⟩:=HS.move (hrl:=hrl) (w':=w.setRow af (cg (off+xs.length * ti.size) vss.flatten arr.toList).toArray) hs hi D (.slice (some ⟨af,off,none⟩) (xs.length+d.length) cap) (O i) rfl rfl rfl (by rw [qP];exact Vs _) N (.inr (.inl rfl))
    (.sl false (P.cellsOf e) (b && d.isEmpty) (xs++d)) (by
     refine⟨_,by rw [aF],⟨some ⟨af,off,none⟩,cap,by simp,by simpa using r, ?_,E, .inr ⟨af,off,_,tt,rfl, ?_,setRow_heap w af arr _ tt (0,0) hb, ?_, ?_⟩⟩,by simp⟩
     .have:b=false:=by cases b <;> simp_all
      simp [this]
     .simpa using M
     .simp only [WW];rw [qK _ _ _ K,n];simpa using o
     .have u:∀p,(w.setRow af (cg (off+xs.length * ti.size) vss.flatten arr.toList).toArray).cell? ⟨af,p,none⟩=if off+xs.length * ti.size<=p/\p < off+xs.length * ti.size+vss.flatten.length then vss.flatten[p - (off+xs.length * ti.size)]? else w.cell? ⟨af,p,none⟩:=by
       intro p;rw [uC hb,XS,sX _ _ _ K,kT hb];simp
      have H:∀m,AA c w O m->AA c (w.setRow af (cg (off+xs.length * ti.size) vss.flatten arr.toList).toArray) (aE (aE O i none) i' (O i)) m/\(w.setRow af (cg (off+xs.length * ti.size) vss.flatten arr.toList).toArray).heap[m]? =w.heap[m]?:=by
       intro m g;refine⟨⟨g.1,by rw [qP];exact g.2.1,λj l=> ?_⟩,setRow_other w af m _ (λe=>g.2.2 i (e▸M))⟩;by_cases z:j=i'
       .subst z;rw [aF] at l;exact g.2.2 i l
       .rw [au _ _ z] at l;by_cases e2:j=i
        .subst e2;rw [aF] at l;cases l
        .rw [au _ _ e2] at l;exact g.2.2 j l
      refine aY.append (aY.cells H (λp h1 h2=> ?_) B) ?_
      .rw [n] at h2;rw [u,if_neg (by omega)]
      .refine aY.lA (cF.mono H C) (λp v R=> ?_);have hlt:=(Vh.1 R).1;rw [n,u,if_pos (by omega),show off+xs.length * ti.size+p - (off+xs.length * ti.size)=p by omega];exact R)
   exact⟨_,_,_,_,L,F,by rw [aF],G⟩
 ·
  have Q:(xs.length+d.length) * ti.bytes<=140737488355328:=by
   have z:P.bytesOf e=ti.bytes:=by simp [Program.bytesOf,I]
   rw [<-z];exact CU U hby
  have Y:∃f:List (List Value),cF w (AA c w O) (P.cellsOf e) xs f/\(Builtin.firstCells ti.size xs.length (.slice base xs.length cap)).run P w.drew= .ok f.flatten.toArray w.drew:=by
   rcases x with x | ⟨af,off,arr,tt,rfl,M,hb,o,B⟩
   .have V:xs= []:=Vq.1 (by omega);subst V;refine⟨[],rfl, ?_⟩;cases base with
    | none=>exact run_firstCells_none w.drew _ _ _ _
    | some a=>exact run_firstCells_some w.drew _ 0 a _ _ [] (by simp) (by simp)
   .obtain⟨f,k1,k2⟩:=B.bg;refine⟨f,k1, ?_⟩;obtain⟨m1,Z⟩:=k1.length;exact run_firstCells_some w.drew _ _ _ _ _ _ (by rw [Z,n]) (λj v l=>by rw [iu];simpa using k2 j v l)
  obtain⟨f,S,ho2⟩:=Y;have q:cap < xs.length+d.length:=by omega
  have L:=src.grow ty zv base xs.length cap f.flatten hzv ho2 q (by have:=CV U;omega) (growslice_fits q Q);obtain⟨m1,Z⟩:=S.length;have hzs:zv.cells.size=ti.size:=by have:=(pa (w:=w) (A:=AA c w O) hof).length;rw [VG] at this;rw [this,hzl,n]
  have ys0:d.isEmpty=false:=by
   cases d with
   | nil=>simp at q;omega
   | cons=>rfl
  have hge:=grownCap_ge w (xs.length+d.length) cap e;obtain⟨F,G⟩:=HS.move (hrl:=hrl) (w':=w.drew.alloc (.cells ((f.flatten++vss.flatten).toArray++Builtin.zeroCells zv.cells (grownCap w (xs.length+d.length) cap e - (xs.length+d.length))) e)) hs hi D
   (.slice (some ⟨w.heap.size,0,none⟩) (xs.length+d.length) (grownCap w (xs.length+d.length) cap e)) (some w.heap.size) rfl rfl rfl (by simp) (λk W _=>VW w.drew _ k W) (.inr (.inr ⟨rfl,by simp⟩))
   (.sl false (P.cellsOf e) (b && d.isEmpty) (xs++d)) (by
    refine⟨_,by rw [aF],⟨some ⟨w.heap.size,0,none⟩,grownCap w (xs.length+d.length) cap e,by simp,by simpa using hge,by simp [ys0],trivial, .inr ⟨w.heap.size,0,_,e,rfl,by simp,kZ (w:=w.drew) _, ?_, ?_⟩⟩,by simp⟩
    .simp only [YL,WW,Wr,Z,l2,size_zeroCells,hzs,n,<-XL,VM];exact Wj _ (by omega)
    .have H:∀m,AA c w O m->AA c (w.drew.alloc (.cells ((f.flatten++vss.flatten).toArray++Builtin.zeroCells zv.cells (grownCap w (xs.length+d.length) cap e - (xs.length+d.length))) e)) (aE (aE O i none) i' (some w.heap.size)) m/\(w.drew.alloc (.cells ((f.flatten++vss.flatten).toArray++Builtin.zeroCells zv.cells (grownCap w (xs.length+d.length) cap e - (xs.length+d.length))) e)).heap[m]? =w.heap[m]?:=by
      intro m g;refine⟨⟨g.1,by have:=g.2.1;simp;omega,λj l=> ?_⟩,VW w.drew _ m g.2.1⟩;by_cases z:j=i'
      .subst z;rw [aF] at l;cases l;exact XF _ g.2.1
      .rw [au _ _ z] at l;by_cases e2:j=i
       .subst e2;rw [aF] at l;cases l
       .rw [au _ _ e2] at l;exact g.2.2 j l
     refine aY.lA (vss:=f++vss) (cF.append (cF.mono H S) (cF.mono H C)) (λp v R=> ?_);refine(kT (w:=w.drew.alloc _) (b:=w.heap.size) (kZ (w:=w.drew) _) _).trans ?_;rw [VM];exact C2 _ _ _ p v (by simpa using R))
  exact⟨_,_,_,_,L,F,by rw [aF],G⟩
theorem Mc{t V ty e:TypeId}{ti:TypeInfo}{X:List T}{y H:Value}{i':Id}{b:Bool}{g:List (List T)}{vss:List (List Value)}
  (hs:HS c w h ρ O) (B:h i'=none) (ht:P.underlying t=some (.slice e)) (hz:jX P e=some X) (Q:X.length=P.cellsOf e) (I:P.bytesOf e<=8192)
  (C:oS (P.bytesOf e) g.length) (N:aA w A (.aJ b) H)
  (m:P.info? e=some ti) (src:Ad P t V e ti y g.length vss.flatten w) (l:cF w (AA c w O) (P.cellsOf e) g vss) (hrl:i'.real=true:=by rfl):
  ∃v w' ρ' O',(Builtin.append_ #[t,V] ty #[H,y]).run P w= .ok v w'/\Le w ρ O w' ρ' O'/\ρ' i'=some v/\
   HS c w' (aE h i' (some (.sl false (P.cellsOf e) (b && g.isEmpty) g))) ρ' O':=by
 obtain⟨ti',zv,o,S,L⟩:=ow hz;rw [m] at o;cases o;have D:P.cellsOf e=ti.size:=by simp [Program.cellsOf,m]
 obtain⟨l1,l2⟩:=l.length;obtain⟨base,rfl,F,z⟩:∃base,H= .slice base 0 0/\(base=none↔b=true)/\True:=by
  simp only [aA] at N;rcases N with⟨rfl,rfl⟩ | ⟨rfl,af,off,sp,rfl⟩
  .exact⟨none,rfl,by simp,trivial⟩
  .exact⟨some _,rfl,by simp,trivial⟩
 by_cases E:g= []
 .subst E;have ev:vss= []:=by simpa using l1
  subst ev;have le:Le w ρ O w (aE ρ i' (some (.slice base 0 0))) (aE O i' none):=by
   refine⟨rfl,rfl,rfl,Vs _,λj u f=> ?_,λb hb hn=>rfl,λj b f=> ?_⟩
   .by_cases e:j=i'
    .subst e;rw [(hs.cG _ hrl B).1] at f;cases f
    .rw [au _ _ e];exact f
   .by_cases e:j=i'
    .subst e;rw [aF] at f;cases f
    .rw [au _ _ e] at f;exact .inl ⟨j,f⟩
  refine⟨.slice base 0 0,w,_,_,src.idle rfl ty base 0 0 (Vs _),le,by rw [aF], ?_⟩;have gk:GK w ρ O w (aE ρ i' (some (.slice base 0 0))) (aE O i' none):=λj n=>⟨au _ _ (aR hrl),au _ _ (aR hrl),λ_ _=>rfl⟩;refine hs.go le gk (λj b' f=> ?_) (λj J f=> ?_) (λj f=> ?_) (λj n=>by rw [au _ _ (aR hrl)];exact hs.eO j n) (λj k d f r=> ?_) (λj d f=> ?_)
  .by_cases e:j=i'
   .subst e;rw [aF] at f;cases f;right;refine⟨_,by rw [aF];rfl,⟨base,0,rfl,by simp, ?_,z, .inl rfl⟩,by simp⟩;simpa using F
   .rw [au _ _ e] at f;exact .inl ⟨f,au _ _ e,λ_ _=>rfl⟩
  .by_cases e:j=i'
   .subst e;rw [aF] at f;cases f
   .rw [au _ _ e] at f;rw [au _ _ e,au _ _ e];exact hs.cG j J f
  .by_cases e:j=i'
   .subst e;rw [aF] at f;cases f
   .rw [au _ _ e] at f;exact f
  .by_cases e:j=i'
   .subst e;rw [aF] at f;cases f
   .by_cases e':k=i'
    .subst e';rw [aF] at r;cases r
    .rw [au _ _ e] at f;rw [au _ _ e'] at r;exact hs.inj j k d f r
  .by_cases e:j=i'
   .subst e;rw [aF] at f;cases f
   .rw [au _ _ e] at f;exact hs.lt j d f
 .have G: 0 < g.length:=XG.2 E;have x:(0+g.length) * ti.bytes<=140737488355328:=by
   have Y:P.bytesOf e=ti.bytes:=by simp [Program.bytesOf,m]
   rw [<-Y,VM];exact CU C I
  have K:(Builtin.firstCells ti.size 0 (.slice base 0 0)).run P w.drew= .ok ([]:List Value).toArray w.drew:=by
   cases base with
   | none=>exact run_firstCells_none w.drew _ _ _ _
   | some a=>exact run_firstCells_some w.drew _ 0 a _ _ [] (by simp) (by simp)
  have U:=src.grow ty zv base 0 0 [] S K (by omega) (by have:=CV C;omega) (growslice_fits (by omega) x);have R:zv.cells.size=ti.size:=by have:=(pa (w:=w) (A:=AA c w O) L).length;rw [VG] at this;rw [this,Q,D]
  have W:g.isEmpty=false:=by
   cases g with
   | nil=>simp at G
   | cons=>rfl
  have hge:=grownCap_ge w (0+g.length) 0 e;have q:Le w ρ O w.drew ρ O:=⟨rfl,rfl,rfl,Vs _,λ_ _ h=>h,λ_ _ _=>rfl,λi b h=> .inl ⟨i,h⟩⟩;have M:HS c w.drew h ρ O:=hs.world q λ_ _ _=>rfl;obtain⟨Z,g2⟩:=M.DB (hrl:=hrl) (sz:=P.cellsOf e) B e (([] ++vss.flatten).toArray++Builtin.zeroCells zv.cells (grownCap w (0+g.length) 0 e - (0+g.length))) (grownCap w (0+g.length) 0 e) (cF.mono (λb hb=>q.A b hb) l)
   (λp v hp=>C2 _ _ _ p v (by simpa using hp)) (by omega) (by
    simp only [YL,WW,Ve,l2,size_zeroCells,R,D,<-XL];exact Wj _ (by omega))
  refine⟨_,_,_,_,U,q.trans Z, ?_, ?_⟩
  .rw [aF,VM];rfl
  .simpa [W] using g2
theorem LI(h:Id->Option ab)(i j:Id)(a b:ab):aK h [(i,a),(j,b)]=aE (aE h i (some a)) j (some b):=rfl
theorem kY{d:Nat}{us:aH}{k:Nat}{b:ab}(a:jr d h us=true)(hm:(Id.s d k,b)∈us):h (.s d k)=none:=by have:=Vt.1 a _ hm;simpa using this
set_option maxHeartbeats 1000000 in
theorem J5{i i' x:Id}{nx:Nat}{v vk:Value}(a:x.real=true)(b:x≠i'):ja ρ i i' nx v vk x=ρ x:=by
 unfold ja;rw [if_neg b];cases x with
 | g y n=>cases a
 | _=>rfl
theorem J4{i i':Id}{nx:Nat}{v vk:Value}:ja ρ i i' nx v vk i'=some v:=by unfold ja;rw [if_pos rfl]
theorem DR{i i' y:Id}{n nx:Nat}{v vk:Value}(hrl:i'.real=true)(hy:y≠i'):ja ρ i i' nx v vk (.g y n)=ρ (.g y n):=by unfold ja;rw [if_neg (aR hrl)];simp only [if_neg hy]
theorem DQ{i i' j src:Id}{nx:Nat}{ob:Option Nat}(h:src≠i'):fa O i i' j src nx ob src=none:=by unfold fa;rw [if_neg h,if_pos (.inr (.inr rfl))]
theorem RV{i i' j src x:Id}{nx:Nat}{ob:Option Nat}(a:x.real=true)(b:x≠i')(h1:x≠i)(d:x≠j)(e:x≠src):fa O i i' j src nx ob x=O x:=by
 unfold fa;rw [if_neg b,if_neg (by rintro(h | h | h) <;> contradiction)];cases x with
 | g y n=>cases a
 | _=>rfl
theorem RW{i i' j src y:Id}{n nx:Nat}{ob:Option Nat}(a:i.real=true)(b:j.real=true)(hrl:i'.real=true)(hy:y≠i')(d:y≠i)(e:Id.g y n≠src):fa O i i' j src nx ob (.g y n)=O (.g y n):=by unfold fa;rw [if_neg (aR hrl),if_neg (by rintro(h | h | h);exact aR a h;exact aR b h;exact e h)];simp only [if_neg hy,if_neg d]
theorem cZ.gone{i i' j a:Id}{n nx:Nat}{ob:Option Nat}{v vk:Value}{b:Bool}{sz aD rsz K:Nat}{es:List Row}{p:Bool×List (List T)}(hs:HS c w h ρ O)(I:i.real=true)(V:j.real=true)(hrl:i'.real=true)(S:h a=some (.rows b sz aD rsz K es))(l:a≠i')(C:a≠i)(U:a≠j)(hf:bC n es=some p)
  (R:∀d,AA c w O d->AA c w' (fa O i i' j (.g a n) nx ob) d/\w'.heap[d]? =w.heap[d]?) (r:∀x d,x≠i->O x=some d->w'.heap[d]? =w.heap[d]?):
  cZ w' (AA c w' (fa O i i' j (.g a n) nx ob)) (ja ρ i i' nx v vk) (fa O i i' j (.g a n) nx ob) a (.rows b sz aD rsz K (dO n none es)):=by
 have G:=hs.real (i:=a) (by rw [S];simp);obtain⟨k,e,B,H,heo,M⟩:=zr hf;obtain⟨a',cap,r1,r2,r3,⟨W,X,n3,n4⟩,N⟩:=hs.af a _ S;have Q:∀m,m≠n->fa O i i' j (.g a n) nx ob (.g a m)=O (.g a m):=λm hm=>RW I V hrl l C (by intro h;simp only [Id.g.injEq] at h;exact hm h.2);have J:(.g a n:Id)≠i':=aR hrl;rw [M];have E:(es.set k {e with own:=none}).length=es.length:=by simp
 have F:(es.set k {e with own:=none}).map (·.n)=es.map (·.n):=by
  rw [X2];refine XD λm=> ?_;rw [WE];split
  .rename_i h;subst h;have:=(Vh.1 B).1;rw [if_pos (by simpa using this)];simp [B]
  .rfl
 refine⟨a',cap,by rw [E,J5 G l];exact r1,by rw [E];exact r2,r3,⟨by rw [F];exact W,λf o=> ?_,λm hm=>by rw [DR hrl l];exact n3 m hm,λm d z=> ?_⟩, ?_⟩
 .rcases VR o with o | rfl
  .exact X f o
  .exact X e (U8 B)
 .by_cases hm:m=n
  .subst hm;rw [DQ J] at z;cases z
  .rw [Q m hm] at z;obtain⟨f,o,D⟩:=n4 m d z;have:m∈(es.set k {e with own:=none}).map (·.n):=by rw [F];exact VJ.2 ⟨f,o,D⟩
   obtain⟨f',h1,h2⟩:=VJ.1 this;exact⟨f',h1,h2⟩
 .rcases N with N | ⟨af,off,arr,t,q1,Y,q3,q4,Z⟩
  .exact .inl N
  .have q:w'.heap[af]? =w.heap[af]?:=r a af C Y;refine .inr ⟨af,off,arr,t,q1,by rw [RV G l C U (aR G).symm];exact Y,by rw [q];exact q3,q4, ?_⟩;have L:=Z.get B;refine cw.set R (Vh.1 B).1 (λ_ _ _ _=>ny q) (λm f hm o=> ?_) ?_ Z
   .have D:f.n≠n:=λh=>hm (vJ W o B (by rw [h,H]));exact⟨DR hrl l,Q _ D,λd z=>r _ d (aR I) z⟩
   .obtain⟨a1,a2,a3,u,a4,a5,a7⟩:=L;refine⟨a1,a2,λm y hm hy=> ?_,u,by rw [ny q];exact a4,by rw [DR hrl l];exact a5, ?_⟩
    .obtain⟨u',g1,g2⟩:=a3 m y hm hy;exact⟨u',by rw [ny q];exact g1,aA.mono R y u' g2⟩
    .simp only;rw [H];exact DQ J
theorem Fe:∀{cs:List AV} {l:List T},fp cs=some l->l.length=cs.length/\∀(j:Nat) (x:T),l[j]? =some x->cs[j]? =some (AV.t x)
 | [],l,h=>by simp only [fp,U5] at h;subst h;simp
 | v::cs,l,h=>by
  cases v <;> simp only [fp,reduceCtorEq] at h;rename_i x;obtain⟨e,h1,h⟩:=U6.1 h;simp only [U5] at h;subst h;obtain⟨b,d⟩:=Fe h1;refine⟨by simp [b],λj y a=> ?_⟩;cases j with
  | zero=>simpa using a
  | succ j=>simpa using d j y (by simpa using a)
theorem Mb{R:Type}{d:Nat}{t ty tr e e':TypeId}{ti:TypeInfo}{zs:List T}{i j:Id}{b:Bool}{sz aD rsz nx:Nat}{es:List Row}{cs:List AV}{vx vy:Value}{K:AV->aH->Option R}{r:R}(hs:HS c w s.h ρ O)
  (ht:P.underlying t=some (.slice e)) (hty:P.underlying ty=some (.slice e')) (hz:jX P e=some zs) (hzl:zs.length=P.cellsOf e) (hby:P.bytesOf e<=8192) (Z:P.info? e=some ti)
  (hi:s.h i=some (.rows b sz aD rsz nx es)) (hj:s.h j=some (.arr cs)) (hx:ρ i=some vx) (hy:ρ j=some vy) (f:pT P s d e i sz aD rsz nx es j cs K=some r):
  ∃v us,K v us=some r/\(jr d s.h us=true->∃u w' ρ' O',(Builtin.append_ #[t,ty] tr #[vx,vy]).run P w= .ok u w'/\Le w ρ O w' ρ' O'/\HS c w' (aK s.h us) ρ' O'/\ao w' (AA c w' O') ρ' v u):=by
 obtain⟨ti',zv,hti',hzv,hof⟩:=ow hz;rw [Z] at hti';cases hti';have C:P.cellsOf e=ti.size:=by simp [Program.cellsOf,Z]
 unfold pT at f;split at f
 .rename_i hcond;obtain⟨rfl,c1,c2,c3⟩:=hcond;replace f:=U6.1 f;obtain⟨l,hl,f⟩:=f;obtain⟨bj,q,tj,h1,h2,h3,h4,h5⟩:=hs.af j _ hj;rw [hy] at h1;cases h1;obtain⟨a,cap,r1,r2,r3,r4,r5⟩:=hs.af i _ hi;rw [hx] at r1;cases r1;have hri:=hs.real (i:=i) (by rw [hi];simp);have hrj:=hs.real (i:=j) (by rw [hj];simp);have hnl:q.toList.length=1 * ti.size:=by rw [h4.length,c1,C];omega
  obtain⟨ll,lg⟩:=Fe hl;have src:Ad P t ty e ti (.slice (some ⟨bj,0,none⟩) 1 1) 1 q.toList w:= .vL ht Z (Src.ofSlice w hty ⟨bj,0,none⟩ 1 1 _ hnl (λp u y=>by
   rw [iu,VM,kT h3];simpa using y) (λu hu=>(h5 u hu).1))
  have G:∀n,bM (P.bytesOf e) n=some ()->oS (P.bytesOf e) n:=by
   intro n hn;unfold bM at hn;split at hn
   .assumption
   .simp at hn
  have key:∀(z s0:Id) (bb:Bool) (xs:List (List T)) (vk:Value) (X:ab),s.h s0≠none->s0≠i->s0≠j->(z=s0\/∃n,z= .g s0 n)->ρ z=some vk->cU w (AA c w O) rsz bb xs vk (λd=>O z=some d)->
    q.toList[aD]? =some vk->bM (P.bytesOf e) (es.length+1)=some ()->s.h (.s d 0)=none->
    (∀w' ob v,(∀D,AA c w O D->AA c w' (fa O i (.s d 0) j z nx ob) D/\w'.heap[D]? =w.heap[D]?)->(∀x D,x≠i->O x=some D->w'.heap[D]? =w.heap[D]?)->cZ w' (AA c w' (fa O i (.s d 0) j z nx ob)) (ja ρ i (.s d 0) nx v vk) (fa O i (.s d 0) j z nx ob) s0 X)->
    ∃u w' ρ' O',(Builtin.append_ #[t,ty] tr #[.slice a es.length cap, .slice (some ⟨bj,0,none⟩) 1 1]).run P w= .ok u w'/\Le w ρ O w' ρ' O'/\
     HS c w' (aE (aE (aE (aE s.h i (some .dead)) j (some .dead)) s0 (some X)) (.s d 0) (some (.rows false (P.cellsOf e) aD rsz (nx+1) (es++ [⟨nx,l,some (bb,xs)⟩])))) ρ' O'/\ao w' (AA c w' O') ρ' (.own (.s d 0)) u:=by
   intro z s0 bb xs vk X q1 q2 q3 q4 q5 q6 q7 Y o hX;have hlr:l.length=P.cellsOf e:=by rw [ll,V6,c1]
   have hnr:∀m x,m≠aD->l[m]? =some x->∃v,q.toList[m]? =some v/\aA w (AA c w O) x v:=by intro m x hm hx;have:=lg m x hx;rw [WE,if_neg (Zg hm)] at this;obtain⟨v,H,I⟩:=h4.get this;exact⟨v,H,by simpa [ao] using I⟩
   by_cases J:es.length+1<=cap
   .rcases r5 with r5 | ⟨af,off,arr,t',k1,k2,k3,k4,k5⟩
    .omega
    .subst k1;have hm:(es.length+1) * ti.size<=cap * ti.size:=Wj _ J;rw [XL] at hm;rw [C] at k4;have run:=src.C6 tr af off es.length cap arr t' k3 J k4;have lfit:off+es.length * ti.size+q.toList.length<=arr.toList.length:=by rw [hnl,VG (xs:=arr)];omega
     have M:∀p,(w.setRow af (cg (off+es.length * ti.size) q.toList arr.toList).toArray).cell? ⟨af,p,none⟩=if off+es.length * ti.size<=p/\p < off+es.length * ti.size+q.toList.length then q.toList[p - (off+es.length * ti.size)]? else w.cell? ⟨af,p,none⟩:=by intro p;rw [uC k3,XS,sX _ _ _ lfit,kT k3];simp
     obtain⟨H,I⟩:=HS.J3 (i':= .s d 0) (j:=j) (src:=z) (s0:=s0) (bb:=bb) (xs:=xs) (vk:=vk) (X:=X) (af:=af) (blk':=af) (off:=off) (off':=off) (cap':=cap) (ob:=O i) (news:=q.toList) (l:=l) (w':=w.setRow af (cg (off+es.length * ti.size) q.toList arr.toList).toArray)
      hs hi o rfl (by rw [hj];simp) (Zg c3) q1 q2 q3 q4 q5 q6 rfl rfl rfl (by rw [qP];exact Vs _) (λk _ f=>setRow_other w af k _ λe=>f (e▸k2)) (.inl rfl) k2 (setRow_heap w af arr _ t' (0,0) k3) (by rw [WW,qK _ _ _ lfit,C];simpa using k4) J k5
      (λp y=>by rw [C] at y;have y:p < es.length * ti.size:=y;rw [M,if_neg (by omega)]) c2 hlr (λp v y=>by
       have W:=(Vh.1 y).1;rw [C,M,if_pos (by omega),show off+es.length * ti.size+p - (off+es.length * ti.size)=p by omega];exact y) hnr q7
      (λhA=>hX _ _ _ hA λx D hx hd=>setRow_other w af D _ λe=>hx (hs.inj x i D hd (e▸k2)))
     exact⟨_,_,_,_,run,H,I,by simp only [ao];exact J4⟩
   .have hneed:(es.length+1) * ti.bytes<=140737488355328:=by
     have e1:P.bytesOf e=ti.bytes:=by simp [Program.bytesOf,Z]
     rw [<-e1];exact CU (G _ Y) hby
    have hold:∃(B:List Value) (af off:Nat),B.length=es.length * ti.size/\(Builtin.firstCells ti.size es.length (.slice a es.length cap)).run P w.drew= .ok B.toArray w.drew/\cw w (AA c w O) ρ O i af (P.cellsOf e) aD rsz off es/\∀p v,B[p]? =some v->w.cell? ⟨af,off+p,none⟩=some v:=by
     rcases r5 with r5 | ⟨af,off,arr,t',k1,k2,k3,k4,k5⟩
     .have ex:es= []:=Vq.1 (by omega);subst ex;refine⟨[],0,0,by simp, ?_,trivial,by simp⟩;cases a with
      | none=>exact run_firstCells_none w.drew _ _ _ _
      | some a=>exact run_firstCells_some w.drew _ 0 a _ _ [] (by simp) (by simp)
     .subst k1;have hm:es.length * ti.size<=cap * ti.size:=Wj _ r2;rw [C] at k4;have hlen:((arr.toList.drop off).take (es.length * ti.size)).length=es.length * ti.size:=by rw [V7,Xb,VG (xs:=arr)];omega
      have S:∀p v,((arr.toList.drop off).take (es.length * ti.size))[p]? =some v->w.cell? ⟨af,off+p,none⟩=some v:=by
       intro p v y;rw [XN] at y;split at y
       .rw [XP] at y;rw [kT k3];simpa using y
       .cases y
      refine⟨_,af,off,hlen, ?_,k5,S⟩;exact run_firstCells_some w.drew _ _ _ _ _ _ hlen (λp v y=>by rw [iu];simpa using S p v y)
    obtain⟨B,af,off,ho1,ho2,ho3,ho4⟩:=hold;have U:cap < es.length+1:=by omega
    have run:=src.grow tr zv a es.length cap B hzv ho2 U (by have:=CV (G _ Y);omega) (growslice_fits U hneed);have hzs:zv.cells.size=ti.size:=by have:=(pa (w:=w) (A:=AA c w O) hof).length;rw [VG] at this;rw [this,hzl,C]
    have hge:=grownCap_ge w (es.length+1) cap e;have Q:∀p v,(B++q.toList)[p]? =some v->(w.drew.alloc (.cells ((B++q.toList).toArray++Builtin.zeroCells zv.cells (grownCap w (es.length+1) cap e - (es.length+1))) e)).cell? ⟨w.heap.size,p,none⟩=some v:=by intro p v y;refine(kT (w:=w.drew.alloc _) (b:=w.heap.size) (kZ (w:=w.drew) _) _).trans ?_;exact C2 _ _ _ p v y
    obtain⟨H,I⟩:=HS.J3 (i':= .s d 0) (j:=j) (src:=z) (s0:=s0) (bb:=bb) (xs:=xs) (vk:=vk) (X:=X) (af:=af) (blk':=w.heap.size) (off:=off) (off':=0) (cap':=grownCap w (es.length+1) cap e) (ob:=some w.heap.size) (news:=q.toList) (l:=l)
     (w':=w.drew.alloc (.cells ((B++q.toList).toArray++Builtin.zeroCells zv.cells (grownCap w (es.length+1) cap e - (es.length+1))) e))
     hs hi o rfl (by rw [hj];simp) (Zg c3) q1 q2 q3 q4 q5 q6 rfl rfl rfl (by simp) (λk f _=>VW w.drew _ k f) (.inr ⟨rfl,by simp⟩) rfl (kZ (w:=w.drew) _) (by
      simp only [YL,WW,Wr,ho1,hnl,size_zeroCells,hzs,C,<-XL,VM];exact Wj _ (by omega)) hge ho3
     (λp y=>by
      rw [C] at y;have y:p < es.length * ti.size:=y;have W:p < B.length:=by omega
      rw [VM,ho4 p _ (Vb W)];exact Q p _ (by rw [WH W];exact Vb W)) c2 hlr (λp v y=>by
      rw [C,VM];refine Q _ v ?_;rw [Wo (by omega),ho1,show es.length * ti.size+p - es.length * ti.size=p by omega];exact y) hnr q7
     (λhA=>hX _ _ _ hA λx D hx hd=>VW w.drew _ D (hs.lt x D hd))
    exact⟨_,_,_,_,run,H,I,by simp only [ao];exact J4⟩
  split at f
  .rename_i j2 N;split at f
   .rename_i rsz' b' xs E;split at f
    .rename_i hrsz;subst hrsz;replace f:=aO f (.inl rfl);obtain⟨_,Y,f⟩:=f;refine⟨_,_,f,λo=> ?_⟩;have o:=kY o (k:=0) (b:= .rows false (P.cellsOf e) aD rsz' (nx+1) (es++ [⟨nx,l,some (b',xs)⟩])) (by simp);obtain⟨vk,v1,L⟩:=h4.get N;simp only [ao] at L;obtain⟨v',s1,s2⟩:=oa hs E;rw [L] at s1;cases s1;have hr2:=hs.real (i:=j2) (by rw [E];simp);have n2:j2≠ .s d 0:=λe=>by rw [e,o] at E;cases E
     obtain⟨u,w',ρ',O',H,I,g3,g4⟩:=key j2 j2 b' xs vk .dead (by rw [E];simp) (λe=>by rw [e,hi] at E;cases E) (λe=>by rw [e,hj] at E;cases E) (.inl rfl) L (by simpa using s2) v1 (by assumption) o
      (λw' ob v hA V=>⟨⟨vk,by rw [J5 hr2 n2];exact L,kI hs L⟩,DQ n2⟩)
     exact⟨u,w',ρ',O',H,I,by rw [dA,dA,dA,eX];exact g3,g4⟩
    .simp at f
   .simp at f
  .rename_i a2 n N;split at f
   .rename_i b2 sz2 col2 rsz2 nx2 es2 F;split at f
    .rename_i hc2;obtain⟨rfl,hai⟩:=hc2;replace f:=aO f (.inl rfl);obtain⟨p,y,f⟩:=f;replace f:=aO f (.inl rfl);obtain⟨_,Y,f⟩:=f;refine⟨_,_,f,λo=> ?_⟩;have o:=kY o (k:=0) (b:= .rows false (P.cellsOf e) aD rsz2 (nx+1) (es++ [⟨nx,l,some p⟩])) (by simp);obtain⟨vk,v1,L⟩:=h4.get N;simp only [ao] at L;obtain⟨v',s1,s2⟩:=Au hs F y;rw [L] at s1;cases s1;have n2:a2≠ .s d 0:=λe=>by rw [e,o] at F;cases F
     have n3:a2≠j:=λe=>by rw [e,hj] at F;cases F
     obtain⟨u,w',ρ',O',H,I,g3,g4⟩:=key (.g a2 n) a2 p.1 p.2 vk (.rows b2 sz2 col2 rsz2 nx2 (dO n none es2)) (by rw [F];simp) hai n3 (.inr ⟨n,rfl⟩) L s2 v1 (by assumption) o
      (λw' ob v hA V=>cZ.gone hs hri hrj rfl F n2 hai n3 y hA V)
     exact⟨u,w',ρ',O',H,I,by rw [dA,dA,dA,eX];exact g3,g4⟩
    .simp at f
   .simp at f
  .simp at f
 .simp at f
theorem Sq{h:Id->Option ab}{x:AV}{q:Id×Nat×Nat×Nat×Nat×List Row}(e:Ef h x=some q):x= .own q.1/\∃b,h q.1=some (.rows b q.2.1 q.2.2.1 q.2.2.2.1 q.2.2.2.2.1 q.2.2.2.2.2):=by
 unfold Ef at e;split at e
 .split at e
  .rename_i hi;simp only [U5] at e;subst e;exact⟨rfl,_,hi⟩
  .cases e
 .cases e
theorem RF{h:Id->Option ab}{x:AV}{q:Id×List AV}(e:DK h x=some q):x= .own q.1/\h q.1=some (.arr q.2):=by
 unfold DK at e;split at e
 .split at e
  .rename_i hi;simp only [U5] at e;subst e;exact⟨rfl,hi⟩
  .cases e
 .cases e
theorem L9{R:Type}{d:Nat}{rw:Bool}{t ty tr:TypeId}{x y:AV}{T vy:Value}{K:AV->aH->Option R}{r:R}(hs:HS c w s.h ρ O)(k:ao w (AA c w O) ρ x T)(hy:ao w (AA c w O) ρ y vy)
  (f:kS P s d rw t ty x y K=some r):
  ∃v us,K v us=some r/\(jr d s.h us=true->∃u w' ρ' O',(Builtin.append_ #[t,ty] tr #[T,vy]).run P w= .ok u w'/\Le w ρ O w' ρ' O'/\HS c w' (aK s.h us) ρ' O'/\ao w' (AA c w' O') ρ' v u):=by
 unfold kS at f;replace f:=U6.1 f;obtain⟨e,he,f⟩:=f;replace f:=U6.1 f;obtain⟨zs,hz,f⟩:=f;obtain⟨I,hok⟩:=ze he;split at f
 .rename_i N;obtain⟨q,B⟩:=N;obtain⟨ti0,_,l,_,_⟩:=ow hz;split at f
  .rename_i i sz aD rsz nx es j cs p e2;cases rw with
   | false=>cases p
   | true=>
   obtain⟨rfl,b,hi⟩:=Sq p;obtain⟨rfl,hj⟩:=RF e2;simp only [ao] at k hy;split at f
   .rename_i e' hu';exact Mb hs I hu' hz B q l hi hj k hy f
   .cases f
  rename_i hnr;clear hnr;replace f:=Mf hs I l (by simp [Program.cellsOf,l]) hz B q hy f;obtain⟨ys,vss,f,src,D⟩:=f;have m:∀n,bM (P.bytesOf e) n=some ()->oS (P.bytesOf e) n:=by
   intro n X;unfold bM at X;split at X
   .assumption
   .simp at X
  clear he hok;revert f;rcases x with _ | z | _ | _ | _ | _ | i | ⟨i,sz'',off,n⟩ | _ | _ | _ <;> intro f <;> (try dsimp only at f) <;> (try cases f)
  case own=>
   split at f
   .rename_i sz' b xs hi;split at f
    .rename_i H;subst H;replace f:=aO f (.inl rfl);obtain⟨_,hb,f⟩:=f;refine⟨_,_,f,λg=> ?_⟩;have g:=kY g U9;obtain⟨v',W,a,cap,q1,q2,Z,q4,F⟩:=oa hs hi;simp only [ao] at k;rw [W] at k;simp only [U5] at k;subst k;subst q1;obtain⟨v,w',ρ',O',p,e2,e3,G⟩:=Fj (ty:=tr) hs (by rw [hi];simp) g I hz B q (m _ hb) q2 Z q4 (by
      rcases F with F | ⟨af,off,arr,tt,J,k2,k3,S,k5⟩
      .exact .inl F
      .exact .inr ⟨af,off,arr,tt,J,by simpa using k2,k3,S,k5⟩) l src D
     exact⟨v,w',ρ',O',p,e2,by rw [LI];exact G,by simp only [ao];exact e3⟩
    .simp at f
   .simp at f
  case part=>
   split at f
   .rename_i sz' b xs hi;split at f
    .rename_i H;obtain⟨rfl,rfl⟩:=H;replace f:=aO f (.inl rfl);obtain⟨_,hb,f⟩:=f;refine⟨_,_,f,λg=> ?_⟩;have g:=kY g U9;obtain⟨v',W,a,cap,q1,q2,Z,q4,F⟩:=oa hs hi;simp only [ao] at k;obtain⟨a1,L,C,a',J,k2,k3,rfl,S⟩:=k;rw [W] at J;simp only [U5] at J;subst J;simp only [WG] at q1;obtain⟨rfl,rfl,rfl⟩:=q1;have E:((xs.drop off).take n).length=n:=by simp only [V7,Xb];omega
     have Y:a'=none↔b=true:=by
      rw [<-Z];rcases S with⟨_,rfl⟩ | ⟨_,M,_⟩ | ⟨U,o,rfl,rfl⟩
      .exact Zf
      .exact M
      .simp
     have Q:True:=trivial;obtain⟨v,w',ρ',O',p,e2,e3,G⟩:=Fj (ty:=tr) (xs:=(xs.drop off).take n) (base:=a') (cap:=C - off) hs (by rw [hi];simp) g I hz B q (by rw [E];exact m _ hb) (by rw [E];omega) Y Q (by
      rcases F with F | ⟨af,off',arr,tt,j1,j2,j3,j4,j5⟩
      .exact .inl (by omega)
      .subst j1;rcases S with⟨rfl,rfl⟩ | ⟨rfl,_⟩ | ⟨U,o,M,rfl⟩
       .exact .inr ⟨af,off',arr,tt,rfl,by simpa using j2,j3,by simpa using j4,by simpa using j5.take n⟩
       .exact .inl (by omega)
       .simp only [U5,Wq] at M;obtain⟨rfl,rfl,_⟩:=M;refine .inr ⟨af,_,arr,tt,rfl,by simpa using j2,j3, ?_,(j5.drop off).take n⟩;have:(C - off) * P.cellsOf e+off * P.cellsOf e=C * P.cellsOf e:=by rw [<-XL];congr 1;omega
        omega) l src D
     rw [E] at p;exact⟨v,w',ρ',O',p,e2,by rw [LI];exact G,by simp only [ao];exact e3⟩
    .simp at f
   .simp at f
  case t=>
   have V:∀b,aA w (AA c w O) (.aJ b) T->(ae none (bM (P.bytesOf e) ys.length) λ_=>K (.own (.s d 0)) [(.s d 0, .sl false (P.cellsOf e) (b && ys.isEmpty) ys)])=some r->
     ∃v us,K v us=some r/\(jr d s.h us=true->∃u w' ρ' O',(Builtin.append_ #[t,ty] tr #[T,vy]).run P w= .ok u w'/\Le w ρ O w' ρ' O'/\HS c w' (aK s.h us) ρ' O'/\ao w' (AA c w' O') ρ' v u):=by
    intro b k f;replace f:=aO f (.inl rfl);obtain⟨_,hb,f⟩:=f;refine⟨_,_,f,λg=> ?_⟩;have g:=kY g U9;obtain⟨v,w',ρ',O',p,e2,e3,G⟩:=Mc (ty:=tr) hs g I hz B q (m _ hb) k l src D;exact⟨v,w',ρ',O',p,e2,by rw [eX];exact G,by simp only [ao];exact e3⟩
   simp only [ao] at k;replace f:=U6.1 f;obtain⟨b,hb,f⟩:=f;refine V b ?_ f;unfold JB at hb;split at hb
   .simp only [U5] at hb;subst hb;exact k
   .rename_i sz U xs;cases h:(U && xs.isEmpty) with
    | false=>rw [h] at hb;simp at hb
    | true=>
     rw [h] at hb;simp only [cond_true,U5] at hb;subst hb;simp only [Vd,YS] at h;simp only [aA] at k⊢;rcases k with⟨_,_,h1⟩ | ⟨h1,_⟩
     .exact .inl ⟨trivial,h1⟩
     .rw [h.1] at h1;cases h1
   .cases hb
 .simp at f
theorem QI{zv:Array Value}{sz:Nat}(hz:zv.size=sz)(n:Nat):(madeCells zv (n * sz)).toList= (List.replicate n zv.toList).flatten:=by
 refine XD λp=> ?_;by_cases a:p < n * sz
 .have h1:p < (List.replicate n zv.toList).flatten.length:=by simpa [hz] using a
  have:=Dj hz n n (Vs _) p _ (Vb h1);rw [Wl,this,Vb h1]
 .rw [V8 (by simp [madeCells];omega),V8 (by simp [hz];omega)]
theorem JC{rsz:Nat}{i:Id}{af:Nat}:∀{k n base:Nat},(∀m,m < n->w.cell? ⟨af,base+m,none⟩=some (.slice none 0 0))->(∀m,k<=m->m < k+n->ρ (.g i m)=some (.slice none 0 0))->
  cw w A ρ O i af 1 0 rsz base ((List.range' k n).map λk=>⟨k,[.ax],some (true,[])⟩)
 | k,0,base,_,_=>trivial
 | k,n+1,base,a,b=>by
  rw [XH,VN];refine⟨⟨rfl,by omega,λj x f d=> ?_,_,a 0 (by omega),b k (by omega) (by omega),⟨none,0,rfl,by simp,by simp,trivial, .inl rfl⟩⟩,JC (λm hm=> ?_) (λm h1 e=>b m (by omega) (by omega))⟩
  .have:j < 1:=by simpa using (Vh.1 d).1
   omega
  .have:=a (m+1) (by omega);rw [show base+1+m=base+ (m+1) by omega];exact this
theorem HS.Rt{i:Id}{N cap rsz:Nat}{cells:Array Value}(hs:HS c w h ρ O)(hi:h i=none)(t:TypeId)(E:∀p,p < N->cells[p]? =some (.slice none 0 0))(I:cap<=cells.size)(D:N<=cap)(hrl:i.real=true:=by rfl):
  ∃ρ' O',Le w ρ O (w.alloc (.cells cells t)) ρ' O'/\HS c (w.alloc (.cells cells t)) (aE h i (some (.rows false 1 0 rsz N (qD N)))) ρ' O'/\ρ' i=some (.slice (some ⟨w.heap.size,0,none⟩) N cap):=by
 let V:Id->Option Value:=λx=>if x=i then some (.slice (some ⟨w.heap.size,0,none⟩) N cap) else match x with
  | .g y n=>if y=i then(if n < N then some (.slice none 0 0) else none) else ρ (.g y n)
  | x=>ρ x
 have z:V i=some (.slice (some ⟨w.heap.size,0,none⟩) N cap):=by simp only [V,if_true]
 have B:∀x,x.real=true->x≠i->V x=ρ x:=by
  intro x l a;simp only [V,if_neg a];cases x with
  | g y n=>cases l
  | _=>rfl
 have q:∀y n,y≠i->V (.g y n)=ρ (.g y n):=by intro y n hy;simp only [V,if_neg (aR hrl),if_neg hy]
 have v:∀n,V (.g i n)=if n < N then some (.slice none 0 0) else none:=by intro n;simp only [V,if_neg (aR hrl),if_true]
 have C:∀n,O (.g i n)=none:=λn=>(hs.fY i n hi).2;have le:Le w ρ O (w.alloc (.cells cells t)) V (aE O i (some w.heap.size)):=by
  refine⟨rfl,rfl,rfl,by simp,λx u a=> ?_,λd j _=>VW _ _ _ j,λx d a=> ?_⟩
  .cases l:x.real with
   | true=>
    have:x≠i:=λe=>by rw [e,(hs.cG i hrl hi).1] at a;cases a
    rw [B x l this];exact a
   | false=>
    cases x with
    | g y n=>
     have:y≠i:=λe=>by rw [e,(hs.fY i n hi).1] at a;cases a
     rw [q y n this];exact a
    | _=>cases l
  .by_cases e:x=i
   .rw [e,aF] at a;cases a;exact .inr (Vs _)
   .rw [au _ _ e] at a;exact .inl ⟨x,a⟩
 have r:(qD N).length=N:=by simp [qD]
 refine⟨V,_,le,hs.oU le (λx y a=> ?_) (λx l a=> ?_) (λx n=>by rw [au _ _ (aR hrl)];exact hs.eO x n) (λx n a=> ?_) (λx n u o=> ?_) (λx y d a hy=> ?_) (λx d a=> ?_),z⟩
 .by_cases e:x=i
  .subst e;rw [aF] at a;cases a;right;refine⟨_,cap,by rw [r];exact z,by rw [r];exact D,by simp,⟨?_,λf F=> ?_,λn J=>by rw [v,if_neg (by omega)],λn d j=> ?_⟩, .inr ⟨w.heap.size,0,cells,t,rfl,by rw [aF],kZ _,by omega, ?_⟩⟩
   .have:(qD N).map (·.n)=List.range N:=by
     unfold qD;rw [X4];exact List.map_id _
    rw [this];exact List.nodup_range
   .obtain⟨k,G,rfl⟩:=VJ.1 F;simpa using G
   .rw [au _ _ (aR hrl),C] at j;cases j
   .unfold qD;rw [XW];refine JC (λm hm=> ?_) (λm _ hm=>by rw [v,if_pos (by omega)]);rw [kT (kZ _),VM];exact E m hm
  .rw [au _ _ e] at a;have H:=hs.real (i:=x) (by rw [a];simp);exact .inl ⟨a,au _ _ e,λd j=>VW _ _ _ (hs.lt x d j),λn=>⟨q x n e,au _ _ (aR hrl),λd j=>VW _ _ _ (hs.lt _ d j)⟩⟩
 .have b:x≠i:=λe=>by rw [e,aF] at a;cases a
  rw [au _ _ b] at a;rw [B x l b,au _ _ b];exact hs.cG x l a
 .have b:x≠i:=λe=>by rw [e,aF] at a;cases a
  rw [au _ _ b] at a;rw [q x n b,au _ _ (aR hrl)];exact hs.fY x n a
 .by_cases b:x=i
  .subst b;rw [v] at o;split at o
   .simp only [U5] at o;subst o;exact⟨rfl,rfl⟩
   .cases o
  .rw [q x n b] at o;exact hs.gone x n u o
 .by_cases e:x=i <;> by_cases e':y=i
  .rw [e,e']
  .rw [e,aF] at a;cases a;rw [au _ _ e'] at hy;exact absurd (hs.lt _ _ hy) (XF _)
  .rw [e',aF] at hy;cases hy;rw [au _ _ e] at a;exact absurd (hs.lt _ _ a) (XF _)
  .rw [au _ _ e] at a;rw [au _ _ e'] at hy;exact hs.inj x y d a hy
 .by_cases e:x=i
  .rw [e,aF] at a;cases a;simp
  .rw [au _ _ e] at a;have:=hs.lt x d a;simp;omega
theorem QK{R:Type}{d:Nat}{t:TypeId}{Q:Nat}{n m:T}{vn vm:Value}{K:AV->aH->Option R}{r:R}(hs:HS c w s.h ρ O)(I:ao w (AA c w O) ρ (.t n) vn)(hm:ao w (AA c w O) ρ (.t m) vm)
  (a:sL P d t Q n m K=some r):
  ∃v us,K v us=some r/\(jr d s.h us=true->∃u w' ρ' O',(Instr.makeSlice t vn vm).run P w= .ok u w'/\Le w ρ O w' ρ' O'/\HS c w' (aK s.h us) ρ' O'/\ao w' (AA c w' O') ρ' v u):=by
 unfold sL at a;replace a:=U6.1 a;obtain⟨e,V,a⟩:=a;replace a:=U6.1 a;obtain⟨zs,hz,a⟩:=a;obtain⟨L,X⟩:=ze V;replace a:=aO a (.inl rfl);obtain⟨N,J,a⟩:=a;replace a:=aO a (.inl rfl);obtain⟨j,H,a⟩:=a;have:=T.gH J;subst this;have:=T.gH H;subst this;simp only [ao,aA] at I hm;subst I;subst hm;split at a
 .rename_i B;obtain⟨C,x⟩:=B;replace a:=aO a (.inl rfl);obtain⟨_,hb,a⟩:=a;obtain⟨E,h1,F⟩:=I3 hb;cases D:(Q==2) with
  | true=>
   simp only [D,cond_true] at a;split at a
   .rename_i u Y;split at a
    .rename_i G;refine⟨_,_,a,λb=> ?_⟩;have b:=kY b U9;obtain⟨zv,g,z⟩:=Kn (w:=w) (A:=AA c w O) (kn:= .i64) (km:= .i64) L hz C x E h1 F;have y:zv.cells.size=P.cellsOf e:=by have:=g.length;rw [VG] at this;omega
     have M:zv.cells.toList= [.slice none 0 0]:=by
      obtain⟨v,q,S,f,l⟩:=g;simp only [aT] at l;rw [S,l];simp only [aA] at f;rcases f with⟨_,f⟩ | ⟨f,_⟩
      .rw [f]
      .cases f
     have o:∀p,p < N.toNat->(madeCells zv.cells (j.toNat * P.cellsOf e))[p]? =some (.slice none 0 0):=by
      intro p Z;rw [<-Wl,QI y,M];have:(List.replicate j.toNat [Value.slice none 0 0]).flatten=List.replicate j.toNat (.slice none 0 0):=by
       induction j.toNat with
       | zero=>rfl
       | succ k W=>rw [VX,Xq,W];rfl
      rw [this,Xa,if_pos (by omega)]
     obtain⟨ρ',O',f,l,U⟩:=hs.Rt (i:= .s d 0) (rsz:=P.cellsOf u) b e o (cap:=j.toNat) (by simp [madeCells,G]) (by omega);refine⟨_,_,ρ',O',z,f, ?_, ?_⟩
     .rw [eX];with_reducible exact l
     .simp only [ao];exact U
    .simp at a
   .simp at a
  | false=>
  simp only [D,cond_false] at a;refine⟨_,_,a,λb=> ?_⟩;have b:=kY b U9;obtain⟨zv,g,z⟩:=Kn (w:=w) (A:=AA c w O) (kn:= .i64) (km:= .i64) L hz C x E h1 F;have y:zv.cells.size=P.cellsOf e:=by have:=g.length;rw [VG] at this;omega
  obtain⟨f,l⟩:=hs.DB (i:= .s d 0) (sz:=P.cellsOf e) b e (madeCells zv.cells (j.toNat * P.cellsOf e)) j.toNat (cF.replicate g x N.toNat)
   (Dj y _ _ (by omega)) (by simp;omega) (by simp [madeCells])
  refine⟨_,_,_,_,z,f,by rw [eX];exact l, ?_⟩;simp only [ao];rw [aF,W7]
 .simp at a
end
open Go
section
variable {P:Program} {w w':World} {A A':Nat->Prop} {c:Ctx} {ρ:Id->Option Value} {O:Id->Option Nat} {s:St} {cc:Option Bool} {h:Id->Option ab}
theorem IG{t:TypeId}{x:AV}{i:Value}{b:Bool}(hs:HS c w s.h ρ O)(g:ao w (AA c w O) ρ x i)(h:jS P s t x=some b)(o:Operand)(u:o8 P t o=true)(a:Act)(m n:Operand):
  ((eqGuard .eql t m n i (a.eval o)).run P w= .ok () w/\(binOp .eql t i (a.eval o)).run P w= .ok (.bool b) w)/\
  ((eqGuard .neq t m n i (a.eval o)).run P w= .ok () w/\(binOp .neq t i (a.eval o)).run P w= .ok (.bool (!b)) w)/\
  ((eqGuard .eql t m n (a.eval o) i).run P w= .ok () w/\(binOp .eql t (a.eval o) i).run P w= .ok (.bool b) w)/\
  ((eqGuard .neq t m n (a.eval o) i).run P w= .ok () w/\(binOp .neq t (a.eval o) i).run P w= .ok (.bool (!b)) w):=by
 unfold o8 at u;split at u
 .rename_i e j;have key:∃p l k,i= .slice p l k/\p.isNone=b:=by
   unfold jS at h;rw [j] at h;dsimp only at h;split at h
   .rename_i sz B xs;simp only [U5] at h;subst h;simp only [ao,aA] at g;rcases g with⟨rfl,_,rfl⟩ | ⟨rfl,_,_,_,_,rfl,_⟩
    .exact⟨_,_,_,rfl,rfl⟩
    .exact⟨_,_,_,rfl,rfl⟩
   .simp only [U5] at h;subst h;simp only [ao,aA] at g;rcases g with⟨rfl,rfl⟩ | ⟨rfl,_,_,_,rfl⟩
    .exact⟨_,_,_,rfl,rfl⟩
    .exact⟨_,_,_,rfl,rfl⟩
   .split at h
    .rename_i hi;simp only [U5] at h;subst h;obtain⟨G,z,a,cap,q1,C,v,D,F⟩:=oa hs hi;simp only [ao] at g;rw [z] at g;simp only [U5] at g;subst g;subst q1;refine⟨_,_,_,rfl, ?_⟩;cases a with
     | none=>simpa using v
     | some a=>
      have:¬(_=true):=λe=>by have:=v.2 e;simp at this
      simpa using this
    .simp at h
   .simp at h
  obtain⟨p,l,k,rfl,rfl⟩:=key;simp only [Act.eval];have q:(Op.equal t (.slice p l k) (.slice none 0 0)).run P w= .ok p.isNone w:=by
   have:∀d,(Op.equalIn (d+1) t (.slice p l k) (.slice none 0 0)).run P w= .ok p.isNone w:=by intro d;cases p <;> simp [Op.equalIn,run_underlying j]
   exact this 9999
  have r:(Op.equal t (.slice none 0 0) (.slice p l k)).run P w= .ok p.isNone w:=by
   have:∀d,(Op.equalIn (d+1) t (.slice none 0 0) (.slice p l k)).run P w= .ok p.isNone w:=by intro d;simp [Op.equalIn,run_underlying j]
   exact this 9999
  refine⟨⟨by simp [eqGuard], ?_⟩,⟨by simp [eqGuard], ?_⟩,⟨by simp [eqGuard], ?_⟩,⟨by simp [eqGuard], ?_⟩⟩ <;> simp only [binOp] <;> simp [q,r]
 .rename_i e j;have key:∃p,i= .pointer p/\p.isNone=b:=by
   unfold jS at h;rw [j] at h;dsimp only at h;split at h
   .simp only [U5] at h;subst h;simp only [ao,aA] at g;obtain⟨_,_,rfl,_⟩:=g;exact⟨_,rfl,rfl⟩
   .simp only [U5] at h;subst h;simp only [ao,aA] at g;subst g;exact⟨_,rfl,rfl⟩
   .simp only [U5] at h;subst h;simp only [ao] at g;obtain⟨_,_,rfl⟩:=g;exact⟨_,rfl,rfl⟩
   .simp only [U5] at h;subst h;simp only [ao] at g;obtain⟨_,_,_,_,_,rfl⟩:=g;exact⟨_,rfl,rfl⟩
   .simp at h
  obtain⟨p,rfl,rfl⟩:=key;simp only [Act.eval];have q:(Op.equal t (.pointer p) (.pointer none)).run P w= .ok p.isNone w:=by
   have:∀d,(Op.equalIn (d+1) t (.pointer p) (.pointer none)).run P w= .ok p.isNone w:=by intro d;cases p <;> simp [Op.equalIn,run_underlying j]
   exact this 9999
  have r:(Op.equal t (.pointer none) (.pointer p)).run P w= .ok p.isNone w:=by
   have:∀d,(Op.equalIn (d+1) t (.pointer none) (.pointer p)).run P w= .ok p.isNone w:=by intro d;simp [Op.equalIn,run_underlying j]
   exact this 9999
  refine⟨⟨by simp [eqGuard], ?_⟩,⟨by simp [eqGuard], ?_⟩,⟨by simp [eqGuard], ?_⟩,⟨by simp [eqGuard], ?_⟩⟩ <;> simp only [binOp] <;> simp [q,r]
 .rename_i j;have key:(i= .nilFunc/\b=true)\/(∃f x y,i= .func f x y/\b=false):=by
   unfold jS at h;rw [j] at h;dsimp only at h;split at h
   .simp only [U5] at h;subst h;simp only [ao,aA] at g;exact .inl ⟨g,rfl⟩
   .simp only [U5] at h;subst h;simp only [ao] at g;obtain⟨_,_,rfl,_⟩:=g;exact .inr ⟨_,_,_,rfl,rfl⟩
   .simp at h
  simp only [Act.eval];have E:(Op.equal t i .nilFunc).run P w= .ok b w/\(Op.equal t .nilFunc i).run P w= .ok b w:=by
   constructor
   .have:∀d,(Op.equalIn (d+1) t i .nilFunc).run P w= .ok b w:=by intro d;rcases key with⟨rfl,rfl⟩ | ⟨f,x,y,rfl,rfl⟩ <;> simp [Op.equalIn,run_underlying j]
    exact this 9999
   .have:∀d,(Op.equalIn (d+1) t .nilFunc i).run P w= .ok b w:=by intro d;rcases key with⟨rfl,rfl⟩ | ⟨f,x,y,rfl,rfl⟩ <;> simp [Op.equalIn,run_underlying j]
    exact this 9999
  rcases key with⟨rfl,rfl⟩ | ⟨f,x,y,rfl,rfl⟩ <;>
  refine⟨⟨by simp [eqGuard], ?_⟩,⟨by simp [eqGuard], ?_⟩,⟨by simp [eqGuard], ?_⟩,⟨by simp [eqGuard], ?_⟩⟩ <;> simp only [binOp] <;> simp [E.1,E.2]
 .rename_i j;have key:i= .map none/\b=true:=by
   unfold jS at h;rw [j] at h;dsimp only at h;split at h
   .simp only [U5] at h;subst h;simp only [ao,aA] at g;exact⟨g,rfl⟩
   .simp at h
  simp only [Act.eval];obtain⟨rfl,rfl⟩:=key;have E:(Op.equal t (.map none) (.map none)).run P w= .ok true w:=by
   have:∀d,(Op.equalIn (d+1) t (.map none) (.map none)).run P w= .ok true w:=by intro d;simp [Op.equalIn,run_underlying j]
   exact this 9999
  refine⟨⟨by simp [eqGuard], ?_⟩,⟨by simp [eqGuard], ?_⟩,⟨by simp [eqGuard], ?_⟩,⟨by simp [eqGuard], ?_⟩⟩ <;> simp only [binOp] <;> simp [E]
 .simp at u
theorem MS{R:Type}{src e:TypeId}{x:T}{j:Value}{K:T->Option R}{r:R}(i:cc=none\/cc=some true)(d:aA w A x j)(a:rS P cc src e x K=some r):
  ∃z v,K z=some r/\(convert src e j).run P w= .ok v w/\aA w A z v:=by
 unfold rS at a;split at a
 .rename_i k l g b;replace a:=aO a i;obtain⟨n,f,a⟩:=a;have:=T.gH f;subst this;simp only [aA] at d;subst d;exact⟨_,_,a,by simp [convert,run_underlying g,run_underlying b,Conv.intToInt],gS _ _ _ _⟩
 .rename_i g b;replace a:=aO a i;obtain⟨n,f,a⟩:=a;have:=T.kO f;subst this;simp only [aA] at d;subst d;exact⟨_,_,a,by simp [convert,run_underlying g,run_underlying b],mn _ _ _⟩
 .simp at a
theorem FI:∀{xs:List (List T)} {l:List UInt8} {vss:List (List Value)},bytesOf xs=some l->cF w A 1 xs vss->∃a:List Int,vss.flatten=a.map (Value.int .u8)/\l=a.map (λn=>UInt8.ofNat n.toNat)
 | [],l,vss,e,h=>by simp only [cF] at h;subst h;simp only [bytesOf,U5] at e;subst e;exact⟨[],rfl,rfl⟩
 | cs::xs,l,vss,e,⟨vs,r,g,e2,e3,i⟩=>by
  subst g;simp only [bytesOf] at e;obtain⟨x,f,e⟩:=U6.1 e;obtain⟨n,m,e⟩:=U6.1 e;obtain⟨q,o,e⟩:=U6.1 e;simp only [U5] at e;subst e;obtain⟨a,j,k⟩:=FI o i;have:=T.gH m;subst this;cases cs with
  | nil=>simp at e2
  | cons y cs=>simp only [WS,U5] at f;subst f;have:cs= []:=Vq.1 (by simpa using e2);subst this;obtain⟨v,p,rfl,b,d⟩:=e3;simp only [aT] at d;subst d;simp only [aA] at b;subst b;exact⟨n::a,by simp [j],by simp [k]⟩
theorem J6:∀(a:List Int) (b:ByteArray),a.foldl (λr n=>r.push (UInt8.ofNat n.toNat)) b= ⟨b.data++ (a.map (λn=>UInt8.ofNat n.toNat)).toArray⟩
 | [],b=>by simp
 | n::a,b=>by rw [List.foldl_cons,J6 a];simp [ByteArray.push]
theorem MA{src b e:TypeId}{x:AV}{y:T}{o:Value}{p:Bool×List (List T)}{l:List UInt8}(hs:HS c w s.h ρ O)(m:P.underlying src=some (.slice e))(f:P.underlying b=some .string)(i:P.underlying e=some (.int .u8))
  (B:ao w (AA c w O) ρ x o) (hy:dP s.h x=some y) (z:y.aU 1=some p) (d:bytesOf p.2=some l):(convert src b o).run P w= .ok (.string ⟨l.toArray⟩) w:=by
 rcases K4 hs B hy z with⟨n,rfl | ⟨a,cap,rfl⟩⟩ | ⟨af,off,cap,rfl,k⟩
 .rw [n] at d;simp only [bytesOf,U5] at d;subst d;rw [run_convert_bytes_string w src b e _ _ _ m i f];simp [Conv.bytesToString];rfl
 .rw [n] at d;simp only [bytesOf,U5] at d;subst d;rw [run_convert_bytes_string w src b e _ _ _ m i f,run_bytesToString w a 0 cap [] (run_loadCells_list (P:=P) w a [] (by simp))];rfl
 .obtain⟨vss,h1,t⟩:=k.bg;obtain⟨E,C⟩:=h1.length;obtain⟨D,q,r⟩:=FI d h1;rw [run_convert_bytes_string w src b e _ _ _ m i f,run_bytesToString w _ _ cap D ?_,J6]
  .rw [r];simp
  .rw [<-q];have g:=run_loadCells_list (P:=P) w ⟨af,off,none⟩ vss.flatten (λj v u=>by rw [iu];exact t j v u);rw [C,Yw] at g;exact g
theorem Qy{R:Type}{t:TypeId}(i:bV P t=true){cs:List AV}{arr:Array Value}{off:Nat}{K:AV->Option R}{r:R}(f:aC w A ρ cs (arr.toList.drop off))(h1:∀u∈arr.toList,u.oneCell'=true/\u.cells= #[u])(h:nN P t cs K=some r):
  ∃av v,K av=some r/\(part t arr off).run P w= .ok v w/\ao w A ρ av v:=by
 unfold nN at h;unfold part;simp only [Vy,td i,Vi];cases hb:bw P t
 .simp only [hb,cond_false] at h;cases cs with
  | nil=>simp at h
  | cons y cs=>
   simp only [WS,Vf] at h;simp only [aC] at f;obtain⟨v,q,e,a,_⟩:=f;have b:off < arr.toList.length:=by
    rcases Xk off arr.toList.length with g | g
    .exact g
    .rw [YN g] at e;simp at e
   rw [W4 b] at e;simp only [Xh] at e;have:arr[off]? =some v:=by rw [Xx (by simpa using b)];rw [<-e.1];simp
   simp only [VD,if_false,this];exact⟨_,v,h,by simp,a⟩
 .simp only [hb,cond_true] at h;cases d:oo (P.cellsOf t) cs with
  | none=>simp [d] at h
  | some l=>simp only [d,Vf] at h;obtain⟨j,m⟩:=EF d;have a:=f.take (P.cellsOf t);rw [<-j] at a;refine⟨_, .agg (arr.extract off (off+P.cellsOf t)),h,by simp only [if_true,Vy,jz i,Vi,VK], ?_⟩;simp only [ao];refine⟨_, ?_,a,λu k=>h1 u (Xm (WZ k))⟩;congr 1;apply Xz;simp []
theorem PN{R:Type}{t:TypeId}{x:AV}{d:Value}{f:Nat}{K:AV->Option R}{r:R}(b:ao w A ρ x d)(h:su P t x f K=some r):
  ∃av v,K av=some r/\(Instr.field t d f).run P w= .ok v w/\ao w A ρ av v:=by
 unfold su at h;split at h
 .rename_i off u k;obtain⟨o,y,h1,i,a,j⟩:=CT k;simp only [Wk] at a;obtain⟨rfl,rfl⟩:=a;split at h
  .rename_i vs;simp only [ao] at b;obtain⟨n,rfl,e,g⟩:=b;obtain⟨av,v,l,k2,m⟩:=Qy (arr:=n.toArray) j (by simpa using e.drop y.offset) (by simpa using g) h;exact⟨av,v,l,by simp [Instr.field,run_underlying h1,i,asAgg,k2],m⟩
  .simp at h
 .simp at h
theorem Qx{R:Type}{t:TypeId}(j:bV P t=true){cs:List T}{arr:Array Value}{off:Nat}{K:AV->Option R}{r:R}(b:cc=none\/cc=some true)(i:aT w A cs (arr.toList.drop off))(h:lh P t cc cs K=some r):
  ∃av v,K av=some r/\(part t arr off).run P w= .ok v w/\ao w A ρ av v:=by
 unfold lh at h;unfold part;simp only [Vy,td j,Vi];cases hb:bw P t
 .simp only [hb,cond_false] at h;replace h:=aO h b;obtain⟨x,f,h⟩:=h;cases cs with
  | nil=>simp at f
  | cons y cs=>
   simp only [WS,U5] at f;subst f;obtain⟨v,q,e,a,_⟩:=i;have d:off < arr.toList.length:=by
    rcases Xk off arr.toList.length with g | g
    .exact g
    .rw [YN g] at e;simp at e
   rw [W4 d] at e;simp only [Xh] at e;have:arr[off]? =some v:=by rw [Xx (by simpa using d)];rw [<-e.1];simp
   simp only [VD,if_false,this];obtain⟨z,h,a⟩:=pE b a h;exact⟨_,v,h,by simp,by simpa [ao] using a⟩
 .simp only [hb,cond_true] at h;obtain⟨l,m,n,h⟩:=AJ b h;have a:=i.take (P.cellsOf t);rw [<-m] at a;obtain⟨o,h,k⟩:=wH b a h;refine⟨_, .agg (arr.extract off (off+P.cellsOf t)),h,by simp only [if_true,Vy,jz j,Vi,VK], ?_⟩;simp only [ao];refine⟨_, ?_,aC.mj k,a.one⟩;congr 1;apply Xz;simp []
theorem Dn{R:Type}{k:IntKind}(f:cc=none\/cc=some true)(d:Bool):∀{l:List T} {a:Int} {vs:List Value} {K:T->Option R} {r:R},aT w A l vs->o5 k cc d a l K=some r->
  ∃n,K (.int k n)=some r/\(vs.foldlM (cond d Builtin.max2 Builtin.min2) (.int k a)).run P w= .ok (.int k n) w
 | [],a,vs,K,r,hv,h=>by simp only [aT] at hv;subst hv;exact⟨a,h,by simp⟩
 | y::l,a,vs,K,r,⟨v,q,e,h1,i⟩,h=>by
  subst e;simp only [o5] at h;replace h:=aO h f;obtain⟨b,hb,h⟩:=h;have:=T.gH hb;subst this;simp only [aA] at h1;subst h1;obtain⟨n,g,e2⟩:=Dn f d i h;refine⟨n,g, ?_⟩;rw [List.foldlM_cons];have:((cond d Builtin.max2 Builtin.min2) (.int k a) (.int k b)).run P w= .ok (.int k (mm d a b)) w:=by cases d <;> simp [Builtin.max2,Builtin.min2,mm]
  simp only [Vy,this,Vi];exact e2
end
open Go
def gu(O:Id->Option Nat)(b:Nat):Prop:= ∃i,O i=some b
def kj(a:List ab):Id->Option ab
 | .c j=>a[j]?
 | _=>none
section
variable {P:Program} {w w':World} {A A':Nat->Prop} {c:Ctx} {ρ:Id->Option Value} {O:Id->Option Nat} {s s':St} {h:Id->Option ab}
def nL:Option ab->List Id
 | some (.box cs)=>b9 cs
 | some (.arr cs)=>b9 cs
 | _=> []
theorem vV:∀{n:Nat} {todo d seen:List Id},fC h n todo d=some seen->d.Nodup->(∀i∈d,h i≠none)->(∀i∈d,∀j∈nL (h i),j∈d\/j∈todo)->
  seen.Nodup/\(∀i∈d,i∈seen)/\(∀i∈todo,i∈seen)/\(∀i∈seen,h i≠none)/\∀i∈seen,∀j∈nL (h i),j∈seen
 | 0,todo,d,seen,e,_,_,_=>by simp [fC] at e
 | n+1,[],d,seen,e,t,r,q=>by simp only [fC,U5] at e;subst e;exact⟨t,λ_ h=>h,by simp,r,λi hi j m=>by rcases q i hi j m with h | h;exact h;cases h⟩
 | n+1,i::todo,d,seen,e,t,r,q=>by
  simp only [fC] at e;cases l:d.contains i with
  | true=>
   rw [l,cond_true] at e;have hi:i∈d:=by simpa using l
   obtain⟨u,p,v,x,y⟩:=vV e t r (λk f j m=>by
    rcases q k f j m with h | h
    .exact .inl h
    .rcases Vk.1 h with rfl | h
     .exact .inl hi
     .exact .inr h)
   refine⟨u,p,λk f=> ?_,x,y⟩;rcases Vk.1 f with rfl | f
   .exact p _ hi
   .exact v k f
  | false=>
   rw [l,cond_false] at e;have E:i∉d:=by
    intro hm;have:d.contains i=true:=by simpa using hm
    rw [this] at l;cases l
   have C:(d++ [i]).Nodup:=W5.2 ⟨t,by simp,λa F b hb z=>by simp only [Vj] at hb;exact E (by rw [<-hb,<-z];exact F)⟩;have go:∀g:List Id,h i≠none->nL (h i)=g->fC h n (todo++g) (d++ [i])=some seen->_:=λg D hm e=>
    vV e C (λk f=>by
     rcases Vr.1 f with f | f
     .exact r k f
     .simp only [Vj] at f;subst f;exact D) (λk f j m=>by
     rcases Vr.1 f with f | f
     .rcases q k f j m with h | h
      .exact .inl (Vo _ h)
      .rcases Vk.1 h with rfl | h
       .exact .inl (Vm _ (Vj.2 rfl))
       .exact .inr (Vo _ h)
     .simp only [Vj] at f;subst f;rw [hm] at m;exact .inr (Vm _ m))
   have o:∀g:List Id,(seen.Nodup/\(∀k∈d++ [i],k∈seen)/\(∀k∈todo++g,k∈seen)/\(∀k∈seen,h k≠none)/\∀k∈seen,∀j∈nL (h k),j∈seen)->
     seen.Nodup/\(∀i∈d,i∈seen)/\(∀k∈i::todo,k∈seen)/\(∀i∈seen,h i≠none)/\∀i∈seen,∀j∈nL (h i),j∈seen:=by
    rintro g ⟨u,p,v,x,y⟩;refine⟨u,λk f=>p k (Vo _ f),λk f=> ?_,x,y⟩;rcases Vk.1 f with rfl | f
    .exact p _ (Vm _ (Vj.2 rfl))
    .exact v k (Vo _ f)
   split at e
   .rename_i cs hi;exact o _ (go (b9 cs) (by rw [hi];simp) (by rw [hi];rfl) e)
   .rename_i cs hi;exact o _ (go (b9 cs) (by rw [hi];simp) (by rw [hi];rfl) e)
   .rename_i b hb B hi;refine o [] (go [] (by rw [hi];simp) ?_ (by simpa using e));rw [hi];cases b with
    | box cs=>exact(hb cs rfl).elim
    | arr cs=>exact(B cs rfl).elim
    | _=>rfl
   .simp at e
def cC{a:Type}(m:List Id)(f:Id->Option a):Id->Option a
 | .c j=>(m[j]?).bind f
 | .g (.c j) n=>(m[j]?).bind λi=>f (.g i n)
 | _=>none
theorem At{a:Type}{m:List Id}{f:Id->Option a}{i:Id}(hi:i∈m):cC m f (.c (m.idxOf i))=f i:=by simp only [cC];have:m.idxOf i < m.length:=Zz.2 hi;rw [Vb this];simp
theorem Kg{a:Type}{m:List Id}{f:Id->Option a}{i:Id}{n:Nat}(hi:i∈m):cC m f (.g (.c (m.idxOf i)) n)=f (.g i n):=by simp only [cC];have:m.idxOf i < m.length:=Zz.2 hi;rw [Vb this];simp
def pF(seen:List Id):Id->Option Id
 | .c j=>seen[j]?
 | .g (.c j) n=>(seen[j]?).map λi=> .g i n
 | _=>none
theorem Kh{a:Type}{m:List Id}{f:Id->Option a}(i:Id):cC m f i= (pF m i).bind f:=by
 cases i with
 | c j=>rfl
 | s d j=>rfl
 | g i n=>
  cases i with
  | c j=>simp only [cC,pF];cases m[j]? <;> rfl
  | _=>rfl
theorem UK{seen:List Id}(t:seen.Nodup){i j k:Id}(p:∀x∈seen,x.real=true)(hi:pF seen i=some k)(r:pF seen j=some k):i=j:=by
 have inj:∀{a b:Nat} {x:Id},seen[a]? =some x->seen[b]? =some x->a=b:=by intro a b x h1 e;obtain⟨u,q⟩:=Vh.1 h1;obtain⟨v,e2⟩:=Vh.1 e;exact(List.getElem_inj t).1 (q.trans e2.symm)
 have l:∀i,pF seen i=some k->(∃a,i= .c a/\seen[a]? =some k)\/∃a n x,i= .g (.c a) n/\seen[a]? =some x/\k= .g x n:=by
  intro i hi;cases i with
  | c a=>exact .inl ⟨a,rfl,hi⟩
  | s d a=>cases hi
  | g i n=>
   cases i with
   | c a=>simp only [pF,XK] at hi;obtain⟨x,h1,e⟩:=hi;exact .inr ⟨a,n,x,rfl,h1,e.symm⟩
   | _=>cases hi
 rcases l i hi with⟨a,rfl,h1⟩ | ⟨a,n,x,rfl,h1,e⟩ <;> rcases l j r with⟨b,rfl,f⟩ | ⟨b,m,y,rfl,f,o⟩
 .rw [inj h1 f]
 .have:=p k (U8 h1);rw [o] at this;cases this
 .have:=p k (U8 f);rw [e] at this;cases this
 .rw [e] at o;cases o;rw [inj h1 f]
mutual
theorem ao.rn{m:List Id}(d:∀b,A b->A' b):∀(v:AV) (u:Value),(∀i∈v.ids,i∈m)->ao w A ρ v u->ao w A' (cC m ρ) (v.rn m) u
 | .top,_,_,_=>by simp [AV.rn,ao]
 | .t x,u,_,hv=>by simp only [AV.rn,ao] at hv⊢;exact aA.mono (λb hb=>⟨d b hb,rfl⟩) x u hv
 | .mC vs,u,hi,hv=>by simp only [AV.rn,ao] at hv⊢;obtain⟨g,e,h1⟩:=hv;exact⟨g,e,aC.rn d vs g (by simpa [AV.ids] using hi) h1⟩
 | .agg vs,u,hi,hv=>by simp only [AV.rn,ao] at hv⊢;obtain⟨g,e,h1,j⟩:=hv;exact⟨g,e,aC.rn d vs g (by simpa [AV.ids] using hi) h1,j⟩
 | .ref i off,u,hi,hv=>by simp only [AV.rn,ao] at hv⊢;rw [At (hi i (by simp [AV.ids]))];exact hv
 | .el i sz k off,u,hi,hv=>by simp only [AV.rn,ao] at hv⊢;rw [At (hi i (by simp [AV.ids]))];exact hv
 | .own i,u,hi,hv=>by simp only [AV.rn,ao] at hv⊢;rw [At (hi i (by simp [AV.ids]))];exact hv
 | .part i sz off n,u,hi,hv=>by simp only [AV.rn,ao] at hv⊢;rw [At (hi i (by simp [AV.ids]))];exact hv
 | .row i n,u,hi,hv=>by simp only [AV.rn,ao] at hv⊢;rw [Kg (hi i (by simp [AV.ids]))];exact hv
 | .rel i sz n k off,u,hi,hv=>by simp only [AV.rn,ao] at hv⊢;rw [Kg (hi i (by simp [AV.ids]))];exact hv
 | .fn f a b,u,hi,hv=>by simp only [AV.rn,ao] at hv⊢;obtain⟨l,y',e,h1,j⟩:=hv;simp only [AV.ids,Vr] at hi;exact⟨l,y',e,aC.rn d a l (λi h=>hi i (.inl h)) h1,aC.rn d b y' (λi h=>hi i (.inr h)) j⟩
theorem aC.rn{m:List Id}(a:∀b,A b->A' b):∀(vs:List AV) (us:List Value),(∀i∈b9 vs,i∈m)->aC w A ρ vs us->aC w A' (cC m ρ) (kJ m vs) us
 | [],us,_,hv=>by simpa [kJ,aC] using hv
 | v::vs,us,hi,hv=>by simp only [kJ,aC] at hv⊢;obtain⟨u,r,e,h1,d⟩:=hv;simp only [b9,Vr] at hi;exact⟨u,r,e,ao.rn a v u (λi h=>hi i (.inl h)) h1,aC.rn a vs r (λi h=>hi i (.inr h)) d⟩
end
def Of(seen:List Id)(k:Id):Prop:=k∈seen\/∃i n,i∈seen/\k= .g i n
theorem UL{seen:List Id}{i k:Id}(h:pF seen i=some k):Of seen k:=by
 cases i with
 | c a=>exact .inl (U8 h)
 | s d a=>cases h
 | g i n=>
  cases i with
  | c a=>simp only [pF,XK] at h;obtain⟨x,h1,b⟩:=h;exact .inr ⟨x,n,U8 h1,b.symm⟩
  | _=>cases h
theorem vX{seen:List Id}{b:Nat}(h:gu (cC seen O) b):∃k,Of seen k/\O k=some b:=by obtain⟨i,hi⟩:=h;rw [Kh] at hi;obtain⟨k,a,d⟩:=U6.1 hi;exact⟨k,UL a,d⟩
theorem cw.rn{seen:List Id}{i:Id}{j:Nat}{af sz aD rsz:Nat}(a:∀b,A b->A' b)(d:seen[j]? =some i):∀{es:List Row} {base:Nat},cw w A ρ O i af sz aD rsz base es->
  cw w A' (cC seen ρ) (cC seen O) (.c j) af sz aD rsz base es
 | [],_,_=>trivial
 | e::es,base,⟨⟨h1,o,q,v,r,t,y⟩,B⟩=>by
  have f:cC seen ρ (.g (.c j) e.n)=ρ (.g i e.n):=by simp [cC,d]
  refine⟨⟨h1,o,λk x z C=> ?_,v,r,by rw [f];exact t, ?_⟩,cw.rn a d B⟩
  .obtain⟨u,l,m⟩:=q k x z C;exact⟨u,l,aA.mono (λb hb=>⟨a b hb,rfl⟩) x u m⟩
  .have e2:cC seen O (.g (.c j) e.n)=O (.g i e.n):=by simp [cC,d]
   rw [e2];revert y;cases e.own with
   | none=>exact λh=>h
   | some p=>exact λh=>h.mono (λb hb=>⟨a b hb,rfl⟩) λb hb=>⟨hb,rfl⟩
theorem oK.rn{seen:List Id}{i:Id}{j nx:Nat}{es:List Row}(d:seen[j]? =some i)(h:oK ρ O i nx es):oK (cC seen ρ) (cC seen O) (.c j) nx es:=by
 have e:∀n,cC seen ρ (.g (.c j) n)=ρ (.g i n):=λn=>by simp [cC,d]
 have e2:∀n,cC seen O (.g (.c j) n)=O (.g i n):=λn=>by simp [cC,d]
 exact⟨h.1,h.2.1,λn a=>by rw [e];exact h.2.2.1 n a,λn b a=>by rw [e2] at a;exact h.2.2.2 n b a⟩
theorem HS.Kf{c':Ctx}{seen:List Id}(hs:HS c w h ρ O)(W:seen.Nodup)(J:∀i∈seen,h i≠none)(V:∀i∈seen,∀j∈nL (h i),j∈seen)
  (z:∀b,AA c w O b->AA c' w (cC seen O) b) (T:∀b,gu (cC seen O) b->c'.MO b) (U:c'.N0<=w.heap.size):HS c' w (kj (seen.map λi=>iB seen (h i))) (cC seen ρ) (cC seen O):=by
 have H:∀b,gu (cC seen O) b->gu O b:=λb h=>let⟨k,_,B⟩:=vX h;⟨k,B⟩;refine⟨λi b hb=> ?_,λi X hi=> ?_,λi n=>rfl,λi n hi=> ?_,λi n u I=> ?_,λi j b hi K=> ?_,λi b hi=> ?_,λi b hi=> ?_,U⟩
 .cases i with
  | s d j=>simp [kj] at hb
  | g i n=>simp [kj] at hb
  | c j=>
   simp only [kj,VS,XK] at hb;obtain⟨i,hi,e⟩:=hb;have E:i∈seen:=U8 hi;have m:cC seen ρ (.c j)=ρ i:=by simp [cC,hi]
   have y:cC seen O (.c j)=O i:=by simp [cC,hi]
   cases D:h i with
   | none=>exact(J i E D).elim
   | some x=>
    have r:=hs.af i x D;have C:=V i E;rw [D] at e C;cases x with
    | box cs=>simp only [iB] at e;subst e;obtain⟨o,arr,t,f,e2,e3,p,q⟩:=r;exact⟨o,arr,t,by rw [m];exact f,by rw [y];exact e2,e3,aC.rn z cs _ (λk B=>C k (by simpa [nL] using B)) p,q⟩
    | sl R sz bb xs=>
     simp only [iB] at e;subst e;obtain⟨v,f,e2,e3⟩:=r;refine⟨v,by rw [m];exact f,e2.mono (λb hb=>⟨z b hb,rfl⟩) (λb hb=>⟨?_,rfl⟩),by rw [y];exact e3⟩;cases R
     .simp only [VD,if_false] at hb⊢;rw [y];exact hb
     .simp only [if_true] at hb⊢;exact z b hb
    | iZ l=>simp only [iB] at e;subst e;obtain⟨o,f,e2,e3,p⟩:=r;exact⟨o,by rw [m];exact f,by rw [y];exact e2,z o e3,aV.mono (λb hb=>⟨z b hb,rfl⟩) o e3 0 l p⟩
    | mp ag ks vk es=>simp only [iB] at e;subst e;obtain⟨o,G,F,f,e2,e3,p,q⟩:=r;exact⟨o,G,F,by rw [m];exact f,by rw [y];exact e2,e3,p,q⟩
    | arr cs=>simp only [iB] at e;subst e;obtain⟨o,arr,t,f,e2,e3,p,q⟩:=r;exact⟨o,arr,t,by rw [m];exact f,by rw [y];exact e2,e3,aC.rn z cs _ (λk B=>C k (by simpa [nL] using B)) p,q⟩
    | rows bb sz aD rsz nx es=>
     simp only [iB] at e;subst e;obtain⟨a,cap,f,e2,e3,p,q⟩:=r;refine⟨a,cap,by rw [m];exact f,e2,e3,p.rn hi, ?_⟩;rcases q with q | ⟨af,off,arr,t,q1,Z,q3,q4,q5⟩
     .exact .inl q
     .exact .inr ⟨af,off,arr,t,q1,by rw [y];exact Z,q3,q4,q5.rn z hi⟩
    | dead=>simp only [iB] at e;subst e;obtain⟨f,e2⟩:=r;exact⟨by rw [m];exact f,by rw [y];exact e2⟩
 .cases i with
  | s d j=>exact⟨rfl,rfl⟩
  | g i n=>cases X
  | c j=>simp only [kj,VS,Option.map_eq_none_iff] at hi;simp [cC,hi]
 .cases i with
  | c j=>simp only [kj,VS,Option.map_eq_none_iff] at hi;simp [cC,hi]
  | _=>exact⟨rfl,rfl⟩
 .cases i with
  | c j=>simp only [cC] at I;obtain⟨k,h1,S⟩:=U6.1 I;exact hs.gone k n u S
  | _=>cases I
 .rw [Kh] at hi K;obtain⟨Y,L,N⟩:=U6.1 hi;obtain⟨k2,M,Q⟩:=U6.1 K;have:=hs.inj Y k2 b N Q;subst this;exact UK W (λx r=>hs.real (J x r)) L M
 .obtain⟨k,B⟩:=H b ⟨i,hi⟩;exact hs.lt k b B
 .exact T b ⟨i,hi⟩
theorem HS.rn{seen:List Id}(hs:HS c w h ρ O)(g:seen.Nodup)(f:∀i∈seen,h i≠none)(e:∀i∈seen,∀j∈nL (h i),j∈seen):
  HS c w (kj (seen.map λi=>iB seen (h i))) (cC seen ρ) (cC seen O)/\(∀b,gu (cC seen O) b->gu O b):=by
 have a:∀b,gu (cC seen O) b->gu O b:=λb h=>let⟨k,_,d⟩:=vX h;⟨k,d⟩;refine⟨hs.Kf g f e (λb hb=>⟨hb.1,hb.2.1,λi hi=> ?_⟩) (λb hb=> ?_) hs.size,a⟩
 .obtain⟨k,d⟩:=a b ⟨i,hi⟩;exact hb.2.2 k d
 .obtain⟨k,d⟩:=a b hb;exact hs.own k b d
theorem pj:∀{n:Nat} {todo a seen:List Id},fC h n todo a=some seen->a <+:seen
 | 0,todo,a,seen,e=>by simp [fC] at e
 | n+1,[],a,seen,e=>by simp only [fC,U5] at e;subst e;exact List.prefix_refl _
 | n+1,i::todo,a,seen,e=>by
  simp only [fC] at e;cases b:a.contains i with
  | true=>rw [b,cond_true] at e;exact pj e
  | false=>
   rw [b,cond_false] at e;split at e
   .exact(Zl _ _).trans (pj e)
   .exact(Zl _ _).trans (pj e)
   .exact(Zl _ _).trans (pj e)
   .simp at e
theorem Ka:∀{l:List Id} {n:Nat} {todo a seen:List Id},fC h n (l++todo) a=some seen->l.Nodup->(∀i∈l,i∉a)->(a++l) <+:seen
 | [],n,todo,a,seen,e,_,_=>by rw [V9];exact pj e
 | i::l,0,todo,a,seen,e,_,_=>by simp [fC] at e
 | i::l,n+1,todo,a,seen,e,k,d=>by
  obtain⟨m,o⟩:=WA.1 k;simp only [Vc,fC] at e;have f:a.contains i=false:=by have:=d i U9;simpa using this
  rw [f,cond_false] at e;have go:∀b:List Id,fC h n (l++todo++b) (a++ [i])=some seen->(a++i::l) <+:seen:=by
   intro b e;rw [VI] at e;have:=Ka e o (λj g hm=>by
    rcases Vr.1 hm with hm | hm
    .exact d j (Va _ g) hm
    .simp only [Vj] at hm;subst hm;exact m g)
   simpa using this
  split at e
  .exact go _ e
  .exact go _ e
  .exact go [] (by simpa using e)
  .simp at e
theorem HS.K6(hs:HS c w h ρ O){i:Id}{b:ab}(hi:h i=some b):∃v,ρ i=some v/\v.oneCell'=true/\v.cells= #[v]:=by
 cases a:ρ i with
 | some u=>exact⟨u,rfl,kI hs a⟩
 | none=>
  exfalso;have:=hs.af i b hi;cases b with
  | box cs=>obtain⟨b,_,_,h1,_⟩:=this;rw [a] at h1;cases h1
  | sl d sz b xs=>obtain⟨v,h1,_⟩:=this;rw [a] at h1;cases h1
  | iZ l=>obtain⟨b,h1,_⟩:=this;rw [a] at h1;cases h1
  | mp ag ks vk es=>obtain⟨b,_,_,h1,_⟩:=this;rw [a] at h1;cases h1
  | arr cs=>obtain⟨b,_,_,h1,_⟩:=this;rw [a] at h1;cases h1
  | rows _ _ _ _ _ _=>obtain⟨_,_,h1,_⟩:=this;rw [a] at h1;cases h1
  | dead=>obtain⟨⟨v,h1,_⟩,_⟩:=this;rw [a] at h1;cases h1
theorem aC.set:∀{as:List AV} {us:List Value} {k:Nat} {v:AV} {u:Value},aC w A ρ as us->us[k]? =some u->ao w A ρ v u->aC w A ρ (as.set k v) us
 | [],us,k,v,u,h,b,hv=>by simp only [aC] at h;subst h;simp at b
 | a::as,us,0,v,u,h,b,hv=>by simp only [aC] at h;obtain⟨x,r,rfl,h1,d⟩:=h;simp only [Xn,U5] at b;subst b;simp only [Zk,aC];exact⟨_,_,rfl,hv,d⟩
 | a::as,us,k+1,v,u,h,b,hv=>by simp only [aC] at h;obtain⟨x,r,rfl,h1,d⟩:=h;simp only [Xo] at b;simp only [X9,aC];exact⟨_,_,rfl,h1,aC.set d b hv⟩
theorem OA{b:Bool}{sz:Nat}{u:Value}{Q:Nat->Prop}(h:aA w A (.aJ b) u):cU w A sz b [] u Q:=by
 simp only [aA] at h;rcases h with⟨rfl,rfl⟩ | ⟨rfl,af,off,a,rfl⟩
 .exact⟨none,0,rfl,by simp,by simp,by simp, .inl rfl⟩
 .exact⟨some ⟨af,off,a⟩,0,rfl,by simp,by simp,trivial, .inl rfl⟩
theorem zy{new i:Id}{k:Nat}{cs:List AV}{X:ab}{us:aH}{bb:Bool}(o:new.real=true)(hs:HS c w h ρ O)(hi:h i=some (.box cs))
  (E:h new=none->∀u,aA w (AA c w O) (.aJ bb) u->cZ w (AA c w O) (aE ρ new (some u)) O new X) (m:cs[k]? =some (.t (.aJ bb))\/(∃z,cs[k]? =some (.t (.aa z true []))/\bb=true))
  (e:(cond (h new).isNone (some [(new,X),(i,ab.box (cs.set k (.own new)))]) none)=some us):∃ρ' O',Le w ρ O w ρ' O'/\HS c w (aK h us) ρ' O':=by
 obtain⟨b,arr,t,h1,B,C,p,D⟩:=hs.af i _ hi;cases l:h new with
 | some x=>rw [l] at e;simp at e
 | none=>
  rw [l] at e;simp only [Zm,cond_true,U5] at e;subst e;have F:∃u,arr.toList[k]? =some u/\aA w (AA c w O) (.aJ bb) u:=by
   rcases m with m | ⟨z,m,rfl⟩
   .obtain⟨u,f,d⟩:=p.get m;exact⟨u,f,by simpa [ao] using d⟩
   .obtain⟨u,f,d⟩:=p.get m;refine⟨u,f, ?_⟩;simp only [ao,aA] at d⊢;rcases d with⟨_,_,g⟩ | ⟨g,_⟩
    .exact .inl ⟨trivial,g⟩
    .cases g
  obtain⟨u,f,d⟩:=F;obtain⟨G,I⟩:=hs.cG new o l;have H:i≠new:=λe=>by rw [e,l] at hi;cases hi
  have le:Le w ρ O w (aE ρ new (some u)) O:=⟨rfl,rfl,rfl,Vs _,λj v a=>by
   by_cases e:j=new
   .subst e;rw [G] at a;cases a
   .rw [au _ _ e];exact a,λ_ _ _=>rfl,λj b h=> .inl ⟨j,h⟩⟩
  refine⟨_,O,le, ?_⟩;rw [dA,eX];have r:=hs.real (i:=i) (by rw [hi];simp);have y:GK w ρ O w (aE ρ new (some u)) O:=λj n=>⟨au _ _ (aR o),rfl,λ_ _=>rfl⟩;refine hs.go le y (λj x a=> ?_) (λj q a=> ?_) (λj a=> ?_) (λj n=>by rw [au _ _ (aR r),au _ _ (aR o)];exact hs.eO j n) hs.inj hs.lt
  .by_cases e:j=i
   .subst e;rw [aF] at a;cases a;right;refine⟨b,arr,t,le.fb _ _ h1,B,C,aC.set (aC.mono (λb hb=>le.A b hb) le.fb _ _ p) f ?_,D⟩;simp only [ao];exact aF _ _ _
   .rw [au _ _ e] at a;by_cases e2:j=new
    .subst e2;rw [aF] at a;cases a;exact .inr (E l u d)
    .rw [au _ _ e2] at a;exact .inl ⟨a,rfl,λ_ _=>rfl⟩
  .by_cases e:j=i
   .subst e;rw [aF] at a;cases a
   .rw [au _ _ e] at a;by_cases e2:j=new
    .subst e2;rw [aF] at a;cases a
    .rw [au _ _ e2] at a;rw [au _ _ e2];exact hs.cG j q a
  .by_cases e:j=i
   .subst e;rw [aF] at a;cases a
   .rw [au _ _ e] at a;by_cases e2:j=new
    .subst e2;rw [aF] at a;cases a
    .rw [au _ _ e2] at a;exact a
theorem Sn{new i:Id}{k sz aD rsz:Nat}{us:aH}(a:new.real=true)(hs:HS c w h ρ O)(e:s9 h new i k sz aD rsz=some us):∃ρ' O',Le w ρ O w ρ' O'/\HS c w (aK h us) ρ' O':=by
 have j:∀{bb:Bool},h new=none->∀u,aA w (AA c w O) (.aJ bb) u->cZ w (AA c w O) (aE ρ new (some u)) O new (.rows bb sz aD rsz 0 []):=by
  intro bb b u o;have m:oK (aE ρ new (some u)) O new 0 []:=⟨by simp,(λf b=>by cases b),λn _=>by rw [au _ _ (aR a)];exact(hs.fY new n b).1,λn d l=>by rw [(hs.fY new n b).2] at l;cases l⟩;simp only [aA] at o;rcases o with⟨rfl,rfl⟩ | ⟨rfl,af,off,p,rfl⟩
  .exact⟨none,0,aF _ _ _,by simp,by simp,m, .inl rfl⟩
  .exact⟨some ⟨af,off,p⟩,0,aF _ _ _,by simp,by simp,m, .inl rfl⟩
 unfold s9 at e;split at e
 .rename_i cs hi;split at e
  .simp only [U5] at e;subst e;exact⟨ρ,O,Le.refl,hs⟩
  .rename_i bb g;exact zy a hs hi j (.inl g) e
  .rename_i z g;exact zy a hs hi j (.inr ⟨z,g,rfl⟩) e
  .simp at e
 .simp at e
theorem RP{new i:Id}{k sz:Nat}{us:aH}(f:new.real=true)(hs:HS c w h ρ O)(e:pe h new i k sz=some us):∃ρ' O',Le w ρ O w ρ' O'/\HS c w (aK h us) ρ' O':=by
 unfold pe at e;cases hb:Nat.ble 100000 sz with
 | true=>rw [hb] at e;exact Sn f hs e
 | false=>
 rw [hb,cond_false] at e;split at e
 .rename_i cs hi;obtain⟨b,arr,t,h1,h2,h3,R,h5⟩:=hs.af i _ hi;have S:∀{bb:Bool},h new=none->∀u,aA w (AA c w O) (.aJ bb) u->cZ w (AA c w O) (aE ρ new (some u)) O new (.sl false sz bb []):=
   λ_ u hu=>⟨u,aF _ _ _,OA hu,by simp⟩
  split at e
  .simp only [U5] at e;subst e;exact⟨ρ,O,Le.refl,hs⟩
  .rename_i bb d;exact zy f hs hi S (.inl d) e
  .rename_i z d;exact zy f hs hi S (.inr ⟨z,d,rfl⟩) e
  .rename_i j sz' n d;split at e
   .rename_i sz'' bb xs g;split at e
    .rename_i C;obtain⟨rfl,rfl,T⟩:=C;cases r:h new with
     | some x=>rw [r] at e;simp at e
     | none=>
      rw [r] at e;simp only [Zm,cond_true,U5] at e;subst e;obtain⟨u,g1,Q⟩:=R.get d;obtain⟨n1,n2⟩:=hs.cG new f r;have W:i≠new:=λe=>by rw [e,r] at hi;cases hi
      have X:j≠new:=λe=>by rw [e,r] at g;cases g
      obtain⟨v,N,⟨a,cap,rfl,f2,f3,_,I⟩,_⟩:=hs.af j _ g;simp only [ao] at Q;obtain⟨a1,L,Z,p,H,e2,e3,rfl,K⟩:=Q;rw [N] at H;simp only [U5,WG] at H;obtain⟨rfl,rfl,rfl⟩:=H;have y:(xs.take n).length=n:=by rw [V7];omega
      have ha:p=none↔a=none:=by
       rcases K with⟨_,rfl⟩ | ⟨_,h,_⟩ | ⟨_,_,rfl,rfl⟩
       .exact Zf
       .exact h
       .simp
      have le:Le w ρ O w (aE ρ new (some (.slice p n (cap - 0)))) (aE (aE O j none) new (O j)):=by
       refine⟨rfl,rfl,rfl,Vs _,λk v d=> ?_,λ_ _ _=>rfl,λk b d=> ?_⟩
       .by_cases e:k=new
        .subst e;rw [n1] at d;cases d
        .rw [au _ _ e];exact d
       .by_cases e:k=new
        .subst e;rw [aF] at d;exact .inl ⟨j,d⟩
        .rw [au _ _ e] at d;by_cases e2:k=j
         .subst e2;rw [aF] at d;cases d
         .rw [au _ _ e2] at d;exact .inl ⟨k,d⟩
      have q:∀k b,aE (aE O j none) new (O j) k=some b->(k=new/\O j=some b)\/(k≠new/\k≠j/\O k=some b):=by
       intro k b d;by_cases e:k=new
       .subst e;rw [aF] at d;exact .inl ⟨rfl,d⟩
       .rw [au _ _ e] at d;by_cases e2:k=j
        .subst e2;rw [aF] at d;cases d
        .rw [au _ _ e2] at d;exact .inr ⟨e,e2,d⟩
      refine⟨_,_,le, ?_⟩;rw [dA,dA,eX];have Y:=hs.real (i:=i) (by rw [hi];simp);have F:=hs.real (i:=j) (by rw [g];simp);have gk:GK w ρ O w (aE ρ new (some (.slice p n (cap - 0)))) (aE (aE O j none) new (O j)):=λk m=>⟨au _ _ (aR f),by rw [au _ _ (aR f),au _ _ (aR F)],λ_ _=>rfl⟩;refine hs.go le gk (λk x d=> ?_) (λk V d=> ?_) (λk d=> ?_) (λk m=>by rw [au _ _ (aR Y),au _ _ (aR f),au _ _ (aR F)];exact hs.eO k m) (λk J b d U=> ?_) (λk b d=> ?_)
      .by_cases e:k=i
       .subst e;rw [aF] at d;cases d;right;refine⟨b,arr,t,le.fb _ _ h1,by rw [au _ _ W,au _ _ (Zg T)];exact h2,h3,aC.set (aC.mono (λb hb=>le.A b hb) le.fb _ _ R) g1 ?_,h5⟩;simp only [ao];exact aF _ _ _
       .rw [au _ _ e] at d;by_cases e2:k=new
        .subst e2;rw [aF] at d;cases d;right;refine⟨_,aF _ _ _,⟨p,cap,by rw [y];rfl,by rw [y];omega,by rw [ha];exact f3,trivial, ?_⟩,by simp⟩;rcases I with I | ⟨af,off,G,t',q1,B,q3,q4,q5⟩
         .exact .inl I
         .by_cases E:cap=0
          .exact .inl E
          .right;subst q1;have:p=some ⟨af,off,none⟩:=by
            rcases K with⟨_,rfl⟩ | ⟨h,_⟩ | ⟨b',o,M,rfl⟩
            .rfl
            .exact absurd h.symm E
            .simp only [U5,Wq] at M;obtain⟨rfl,rfl,_⟩:=M;simp
           refine⟨af,off,G,t',this, ?_,q3,q4,(aY.nP (λb hb=>le.A b hb) af _ rfl off xs q5).take n⟩;simp only [VD,if_false] at B⊢;rw [aF];exact B
        .rw [au _ _ e2] at d;by_cases e3:k=j
         .subst e3;rw [aF] at d;cases d;exact .inr ⟨⟨_,le.fb _ _ N,rfl,rfl⟩,by rw [au _ _ X,aF]⟩
         .rw [au _ _ e3] at d;exact .inl ⟨d,by rw [au _ _ e2,au _ _ e3],λ_ _=>rfl⟩
      .by_cases e:k=i
       .subst e;rw [aF] at d;cases d
       .rw [au _ _ e] at d;by_cases e2:k=new
        .subst e2;rw [aF] at d;cases d
        .rw [au _ _ e2] at d;by_cases e3:k=j
         .subst e3;rw [aF] at d;cases d
         .rw [au _ _ e3] at d;rw [au _ _ e2,au _ _ e2,au _ _ e3];exact hs.cG k V d
      .by_cases e:k=i
       .subst e;rw [aF] at d;cases d
       .rw [au _ _ e] at d;by_cases e2:k=new
        .subst e2;rw [aF] at d;cases d
        .rw [au _ _ e2] at d;by_cases e3:k=j
         .subst e3;rw [aF] at d;cases d
         .rw [au _ _ e3] at d;exact d
      .rcases q k b d with⟨rfl,l⟩ | ⟨p0,l,D⟩ <;> rcases q J b U with⟨rfl,q1⟩ | ⟨q0,q1,B⟩
       .rfl
       .exact(q1 (hs.inj J j b B l)).elim
       .exact(l (hs.inj k j b D q1)).elim
       .exact hs.inj k J b D B
      .rcases q k b d with⟨rfl,l⟩ | ⟨p0,l,D⟩
       .exact hs.lt j b l
       .exact hs.lt k b D
    .simp at e
   .simp at e
  .simp at e
 .simp at e
theorem Sl{new i x:Id}{k sz aD rsz:Nat}{us:aH}(e:s9 h new i k sz aD rsz=some us)(a:h x=none)(j:x≠new):aK h us x=none:=by
 unfold s9 at e;split at e
 .rename_i cs hi;have g:x≠i:=λe=>by rw [e,hi] at a;cases a
  have d:∀{b:Bool},(cond (h new).isNone (some [(new,ab.rows b sz aD rsz 0 []),(i,ab.box (cs.set k (.own new)))]) none)=some us->aK h us x=none:=by
   intro b e;cases f:(h new).isNone with
   | false=>rw [f] at e;simp at e
   | true=>rw [f] at e;simp only [cond_true,U5] at e;subst e;rw [dA,eX,au _ _ g,au _ _ j];exact a
  split at e
  .simp only [U5] at e;subst e;exact a
  .exact d e
  .exact d e
  .simp at e
 .simp at e
theorem RO{new i x:Id}{k sz:Nat}{us:aH}(e:pe h new i k sz=some us)(a:h x=none)(l:x≠new):aK h us x=none:=by
 unfold pe at e;cases hb:Nat.ble 100000 sz with
 | true=>rw [hb] at e;exact Sl e a l
 | false=>
 rw [hb,cond_false] at e;split at e
 .rename_i cs hi;have g:x≠i:=λe=>by rw [e,hi] at a;cases a
  have f:∀{b:Bool},(cond (h new).isNone (some [(new,ab.sl false sz b []),(i,ab.box (cs.set k (.own new)))]) none)=some us->aK h us x=none:=by
   intro b e;cases d:(h new).isNone with
   | false=>rw [d] at e;simp at e
   | true=>rw [d] at e;simp only [cond_true,U5] at e;subst e;rw [dA,eX,au _ _ g,au _ _ l];exact a
  split at e
  .simp only [U5] at e;subst e;exact a
  .exact f e
  .exact f e
  .rename_i j q n r;split at e
   .rename_i p bb xs m;have o:x≠j:=λe=>by rw [e,m] at a;cases a
    split at e
    .cases d:(h new).isNone with
     | false=>rw [d] at e;simp at e
     | true=>rw [d] at e;simp only [cond_true,U5] at e;subst e;rw [dA,dA,eX,au _ _ g,au _ _ l,au _ _ o];exact a
    .simp at e
   .simp at e
  .simp at e
 .simp at e
theorem DO{n:Nat}:∀{l:List (Id×Nat×Nat)} {j:Nat} {h:Id->Option ab} {ρ:Id->Option Value} {O:Id->Option Nat} {us:aH},HS c w h ρ O->kG n j h l=some us->∃ρ' O',Le w ρ O w ρ' O'/\HS c w (aK h us) ρ' O'
 | [],j,h,ρ,O,us,hs,e=>by simp only [kG,U5] at e;subst e;exact⟨ρ,O,Le.refl,hs⟩
 | (i,k,sz)::l,j,h,ρ,O,us,hs,e=>by simp only [kG] at e;obtain⟨q,m,e⟩:=U6.1 e;obtain⟨r,e2,e⟩:=U6.1 e;simp only [U5] at e;subst e;obtain⟨o,p,df,a⟩:=RP rfl hs m;obtain⟨f,g,d,b⟩:=DO a e2;exact⟨f,g,df.trans d,by rw [mD];exact b⟩
theorem J0{d:Nat}{x:Id}(b:∀k,x≠ .s d k):∀{l:List (Id×Nat×Nat)} {j:Nat} {h:Id->Option ab} {us:aH},kG d j h l=some us->h x=none->aK h us x=none
 | [],j,h,us,e,a=>by simp only [kG,U5] at e;subst e;exact a
 | (i,k,sz)::l,j,h,us,e,a=>by simp only [kG] at e;obtain⟨g,f,e⟩:=U6.1 e;obtain⟨m,e2,e⟩:=U6.1 e;simp only [U5] at e;subst e;rw [mD];exact J0 b e2 (RO f a (b j))
end
open Go
section
variable {P:Program} {w w':World} {A A':Nat->Prop} {c:Ctx} {ρ:Id->Option Value} {O:Id->Option Nat} {s:St} {cc:Option Bool} {h:Id->Option ab}
theorem Af{k:Ck}{x:T}(a:eD k x=true):aA w A x (dQ x):=by cases x <;> cases k <;> simp_all [eD,aA,dQ]
theorem DH:∀{ks:List Ck} {xs:List T},cd ks xs=true->aT w A xs (xs.map dQ)
 | [],[],_=>rfl
 | k::ks,x::xs,a=>by simp only [cd,Vd] at a;exact⟨_,_,rfl,Af a.1,DH a.2⟩
 | [],_::_,a=>by simp [cd] at a
 | _::_,[],a=>by simp [cd] at a
theorem DG:∀{ks:List Ck} {xs:List T},cd ks xs=true->xs.length=ks.length
 | [],[],_=>rfl
 | k::ks,x::xs,a=>by simp only [cd,Vd] at a;simp [DG a.2]
 | [],_::_,a=>by simp [cd] at a
 | _::_,[],a=>by simp [cd] at a
theorem AN{R:Type}{k:Ck}{x:T}{v:Value}{K:T->Option R}{r:R}(e:cc=none\/cc=some true)(hs:m5 k=true)(a:aA w A x v)(h:fG k cc x K=some r):
  ∃y,K y=some r/\eD k y=true/\v=dQ y:=by
 unfold fG at h;cases k with
 | i k=>simp only at h;replace h:=aO h e;obtain⟨n,d,h⟩:=h;rw [T.gH d] at a;exact⟨_,h,by simp [eD],by simpa [aA,dQ] using a⟩
 | b=>simp only at h;replace h:=aO h e;obtain⟨n,d,h⟩:=h;rw [T.ji d] at a;exact⟨_,h,by simp [eD],by simpa [aA,dQ] using a⟩
 | s=>simp only at h;replace h:=aO h e;obtain⟨n,d,h⟩:=h;rw [T.kO d] at a;exact⟨_,h,by simp [eD],by simpa [aA,dQ] using a⟩
 | l _=>simp [m5] at hs
 | x=>simp [m5] at hs
theorem EJ{R:Type}(e:cc=none\/cc=some true):∀{ks:List Ck} {xs:List T} {vs:List Value} {K:List T->Option R} {r:R},ks.all m5=true->xs.length=ks.length->aT w A xs vs->fk cc ks xs K=some r->
  ∃d,K d=some r/\cd ks d=true/\vs=d.map dQ
 | [],[],vs,K,r,_,_,b,h=>⟨[],h,rfl,by simpa [aT] using b⟩
 | [],_::_,vs,K,r,_,a,b,h=>by simp at a
 | _::_,[],vs,K,r,_,a,b,h=>by simp at a
 | k::ks,x::xs,vs,K,r,hs,a,b,h=>by obtain⟨v,q,rfl,h1,l⟩:=b;simp only [WK,Vd] at hs;simp only [fk] at h;obtain⟨y,h,f,g⟩:=AN e hs.1 h1 h;obtain⟨d,h,i,j⟩:=EJ e hs.2 (by simpa using a) l h;exact⟨y::d,h,by simp [cd,f,i],by rw [g,j];rfl⟩
theorem IL{k:TypeId}{q:Bool×List Ck}(h:lf P k=some q):q.2.all m5=true/\(q.1=false->q.2.length=1):=by
 unfold lf at h;split at h
 .simp only [U5] at h;subst h;simp [m5]
 .simp only [U5] at h;subst h;simp [m5]
 .split at h
  .split at h
   .simp only [U5] at h;subst h;refine⟨?_,by simp⟩;rw [Vt];intro b a;rw [WN a];rfl
   .cases h
  .cases h
 .cases h
theorem Db{R:Type}{k:TypeId}{v:AV}{u:Value}{K:Bool->List Ck->List T->Option R}{r:R}(i:cc=none\/cc=some true)(hv:ao w A ρ v u)(h:oZ P k cc v K=some r):
  ∃ag ks cs,K ag ks cs=some r/\lf P k=some (ag,ks)/\cd ks cs=true/\u=dr ag cs:=by
 unfold oZ at h;obtain⟨q,f,h⟩:=U6.1 h;obtain⟨q1,j⟩:=q;have a:=IL f;simp only at h a;split at h
 .rename_i x _;obtain⟨g,h,b,d⟩:=EJ (vs:= [u]) i a.1 (by simpa using (a.2 rfl).symm) (show aT w A [x] [u] from⟨u,[],rfl,by simpa [ao] using hv,rfl⟩) h;refine⟨false,j,g,h,f,b, ?_⟩;unfold dr;rw [<-d];rfl
 .rename_i vs _;obtain⟨l,m,h⟩:=U6.1 h;split at h
  .rename_i e;simp only [ao] at hv;obtain⟨o,rfl,h1,n⟩:=hv;obtain⟨g,h,b,d⟩:=EJ i a.1 e (aT.mh m h1) h;refine⟨true,j,g,h,f,b, ?_⟩;unfold dr;rw [d];rfl
  .cases h
 .cases h
theorem My{a b:ByteArray}(e:(a==b)=true):a=b:=by
 cases a with
 | mk x=>cases b with
  | mk y=>have e':(x==y)=true:=e;rw [eq_of_beq e']
theorem PB{k:Ck}{x y:T}(a:eD k x=true)(hy:eD k y=true)(e:nG x y=true):x=y:=by
 cases x <;> cases k <;> simp [eD] at a <;> cases y <;> simp [eD] at hy <;> simp [nG] at e
 .subst a;subst hy;subst e;rfl
 .subst e;rfl
 .rw [My e]
theorem HQ:∀{ks:List Ck} {xs b:List T},cd ks xs=true->cd ks b=true->eL xs b=true->xs=b
 | [],[],[],_,_,_=>rfl
 | k::ks,x::xs,y::b,a,hy,e=>by simp only [cd,Vd] at a hy;simp only [eL,Vd] at e;rw [PB a.1 hy.1 e.1,HQ a.2 hy.2 e.2]
 | [],_::_,_,a,_,_=>by simp [cd] at a
 | [],[],_::_,_,hy,_=>by simp [cd] at hy
 | _::_,[],_,a,_,_=>by simp [cd] at a
 | _::_,_::_,[],_,hy,_=>by simp [cd] at hy
theorem Py{t:TypeId}{i:IntKind}(b:P.underlying t=some (.int i)){x y:T}(a:eD (.i i) x=true)(hy:eD (.i i) y=true){R:Type}(K:Bool->Option R):l0 P none t x y K=K (nG x y):=by cases x <;> simp [eD] at a;cases y <;> simp [eD] at hy;subst a;subst hy;simp [l0,b,ae,T.int?,nG]
theorem HN{e:TypeId}{i:IntKind}(d:P.underlying e=some (.int i)){R:Type}:∀(n:Nat) (xs b:List T) (K:Bool->Option R),cd (List.replicate n (.i i)) xs=true->cd (List.replicate n (.i i)) b=true->eW P none (List.replicate n e) xs b K=K (eL xs b)
 | 0,[],[],K,_,_=>rfl
 | n+1,x::xs,y::b,K,a,hy=>by simp only [VX,cd,Vd] at a hy;simp only [VX,eW,eL];rw [Py d a.1 hy.1,HN d n xs b _ a.2 hy.2]
 | 0,_::_,_,_,a,_=>by simp [cd] at a
 | 0,[],_::_,_,_,hy=>by simp [cd] at hy
 | n+1,[],_,_,a,_=>by simp [VX,cd] at a
 | n+1,_::_,[],_,_,hy=>by simp [VX,cd] at hy
theorem vp{ag:Bool}{ks:List Ck}{cs:List T}(b:ag=false->ks.length=1)(h:cd ks cs=true)(a:ag=false):∃x,cs= [x]/\dr ag cs=dQ x:=by have d:=DG h;rw [b a] at d;obtain⟨x,rfl⟩:=List.length_eq_one_iff.1 d;exact⟨x,rfl,by rw [a];rfl⟩
theorem PC{k:TypeId}{ag:Bool}{ks:List Ck}(f:lf P k=some (ag,ks)){a b:List T}(g:cd ks a=true)(hb:cd ks b=true)(w:World):
  (Op.equal k (dr ag a) (dr ag b)).run P w= .ok (eL a b) w:=by
 unfold lf at f;split at f
 .rename_i i j;simp only [U5,Wk] at f;obtain⟨rfl,rfl⟩:=f;obtain⟨x,rfl,o⟩:=vp (ag:=false) (by simp) g rfl;obtain⟨y,rfl,r⟩:=vp (ag:=false) (by simp) hb rfl;rw [o,r];simp only [cd,XU] at g hb;have key:∀d (p q:Int),(Op.equalIn (d+1) k (.int i p) (.int i q)).run P w= .ok (p==q) w:=λd p q=>by simp [Op.equalIn,run_underlying j]
  cases x <;> simp [eD] at g;cases y <;> simp [eD] at hb;rename_i D q1;subst g;subst hb;rw [show ∀a b:T,eL [a] [b]=nG a b from λa b=>by simp [eL]];exact key 9999 _ _
 .rename_i j;simp only [U5,Wk] at f;obtain⟨rfl,rfl⟩:=f;obtain⟨x,rfl,o⟩:=vp (ag:=false) (by simp) g rfl;obtain⟨y,rfl,r⟩:=vp (ag:=false) (by simp) hb rfl;rw [o,r];simp only [cd,XU] at g hb;cases x <;> simp [eD] at g;cases y <;> simp [eD] at hb;rename_i p q;have:∀d,(Op.equalIn (d+1) k (.string p) (.string q)).run P w= .ok (p==q) w:=λd=>by simp [Op.equalIn,run_underlying j]
  rw [show ∀a b:T,eL [a] [b]=nG a b from λa b=>by simp [eL]];exact this 9999
 .rename_i n e j;split at f
  .rename_i i l;split at f
   .rename_i m;simp only [U5,Wk] at f;obtain⟨rfl,rfl⟩:=f;have B:fX P 7 e=some [e]:=by simp [fX,l]
    have z:fX P 8 k=some (List.replicate n e):=by
     simp only [fX,j,l,Vf,List.length_singleton,m.1,if_true];congr 1;induction n with
     | zero=>rfl
     | succ n C=>simp [VX]
    obtain⟨bb,t,v⟩:=CS (P:=P) (w:=w) (A:=λ_=>True) 8 k _ z 10000 (by omega) Bool none (.inl rfl) a b (a.map dQ) (b.map dQ) (λb=>some b) _ (DH g) (DH hb) (HN l n a b _ g hb);have u:bw P k=true:=by simp [bw,j]
    simp only [U5] at t;subst t;simpa [kP,u,dr,Op.equal,Op.maxDepth] using v
   .cases f
  .cases f
 .cases f
theorem zq{k:TypeId}{ag:Bool}{ks:List Ck}(t:lf P k=some (ag,ks)){a:List T}(o:cd ks a=true)(w:World):∀(b:List MapEntry) (es:List (List T×T)) (j:Nat),b.map (λe=>(e.key,e.val))=es.map (λp=>(dr ag p.1,dQ p.2))->(∀p∈es,cd ks p.1=true)->
  ((Instr.findAsking k (dr ag a) b j).run P w= .ok none w/\fK a es=none)\/∃i x e p,(Instr.findAsking k (dr ag a) b j).run P w= .ok (some (j+i,dQ x)) w/\fK a es=some x/\b[i]? =some e/\es[i]? =some p/\eL a p.1=true/\(∀i' g,i' < i->es[i']? =some g->eL a g.1=false)
 | [],[],j,_,_=> .inl ⟨by simp [Instr.findAsking],rfl⟩
 | [],_::_,j,h,_=>by simp at h
 | _::_,[],j,h,_=>by simp at h
 | e::b,(q,x)::es,j,h,l=>by
  simp only [VN,Xh,Wk] at h;obtain⟨⟨h1,D⟩,E⟩:=h;have d:=PC t o (l _ U9) w;simp only at d;cases hb:eL a q
  .rw [hb] at d;rcases zq t o w b es (j+1) E (λp F=>l p (Va _ F)) with⟨m,n⟩ | ⟨i,y,e',g,m,n,v,z,B,C⟩
   .exact .inl ⟨by simp [Instr.findAsking,h1,d,m],by simp [fK,hb,n]⟩
   .refine .inr ⟨i+1,y,e',g,by simp [Instr.findAsking,h1,d,m];omega,by simp [fK,hb,n],by simpa using v,by simpa using z,B, ?_⟩;intro i' u r f;cases i' with
    | zero=>simp at f;subst f;exact hb
    | succ i'=>exact C i' u (by omega) (by simpa using f)
  .rw [hb] at d;exact .inr ⟨0,x,e,(q,x),by simp [Instr.findAsking,h1,d,D],by simp [fK,hb],rfl,rfl,hb,λi' _ r=>by omega⟩
theorem Km{f:Nat->Sem Unit}:∀(l:List Nat),(∀i∈l,(f i).run P w= .ok () w)->(forIn l PUnit.unit λi _=>do f i;pure (ForInStep.yield PUnit.unit)).run P w= .ok PUnit.unit w
 | [],_=>by simp
 | i::l,h=>by simp only [List.forIn_cons,Vy,h i U9,Vi,VK];have:=Km (f:=f) l λj a=>h j (Va _ a);simpa using this
theorem B0{k:TypeId}{ag:Bool}{ks:List Ck}(f:lf P k=some (ag,ks)){a:List T}(q:cd ks a=true)(em:Bool)(w:World):
  (Instr.checkKey em 10000 k (dr ag a)).run P w= .ok () w:=by
 unfold lf at f;split at f
 .rename_i i g;have:∀d,(Instr.checkKey em (d+1) k (dr ag a)).run P w= .ok () w:=λd=>by simp [Instr.checkKey,run_underlying g]
  exact this 9999
 .rename_i g;have:∀d,(Instr.checkKey em (d+1) k (dr ag a)).run P w= .ok () w:=λd=>by simp [Instr.checkKey,run_underlying g]
  exact this 9999
 .rename_i n e g;split at f
  .rename_i i l;split at f
   .rename_i b;simp only [U5,Wk] at f;obtain⟨rfl,rfl⟩:=f;have m:bV P e=true:=by simp [bV,l]
    have u:bw P e=false:=by simp [bw,l]
    have p:=DG q;rw [W7] at p;have one:∀d v,(Instr.checkKey em (d+1) e v).run P w= .ok () w:=λd v=>by simp [Instr.checkKey,run_underlying l]
    have t:∀d,∀j∈List.range' 0 n 1,(do Instr.checkKey em (d+1) e (<-part e (a.map dQ).toArray (j * (<-sizeOf e)))).run P w= .ok () w:=by
     intro d j o;have o:j < n:=by simpa using o
     have:=we (P:=P) m (a.map dQ).toArray (j * 1) (λ_=>b.1) (by simp [b.1,p];omega) w;simp only [Vy,jz m,Vi,b.1,this,one d]
    have r:∀d,(Instr.checkKey em (d+2) k (dr true a)).run P w= .ok () w:=by intro d;have:=Km (P:=P) (w:=w) _ (t d);rw [Instr.checkKey];simp only [dr,cond_true,Vy,run_underlying g,Vi];simp only [Std.Legacy.Range.forIn_eq_forIn_range',Std.Legacy.Range.size,Ws,Nat.add_one_sub_one,Nat.div_one];simp at this;simp [this]
    exact r 9998
   .cases f
  .cases f
 .cases f
theorem HX{f:TypeId}{d:TypeDesc}(a:P.underlying f=some d)(k:Value):∀(es:List MapEntry) (j:Nat) (r:Option (Nat×Value)),Instr.findNow d k es j=some r->(Instr.findAsking f k es j).run P w= .ok r w
 | [],j,r,h=>by simp [Instr.findNow] at h;subst h;simp [Instr.findAsking]
 | e::es,j,r,h=>by
  have key:∀b,Instr.sameNow d k e.key=some b->(Op.equal f k e.key).run P w= .ok b w:=by
   intro b hb;generalize e.key=g at hb⊢;have:∀n,(Op.equalIn (n+1) f k g).run P w= .ok b w:=by
    intro n;unfold Instr.sameNow at hb;split at hb
    .split at hb
     .rename_i h1;simp only [U5] at hb;subst hb;subst h1;simp [Op.equalIn,run_underlying a]
     .cases hb
    .simp only [U5] at hb;subst hb;simp [Op.equalIn,run_underlying a]
    .simp only [U5] at hb;subst hb;simp [Op.equalIn,run_underlying a]
    .cases hb
   exact this 9999
  simp only [Instr.findNow] at h;split at h
  .rename_i hb;simp only [U5] at h;subst h;simp [Instr.findAsking,key _ hb]
  .rename_i hb;simp [Instr.findAsking,key _ hb,HX a k es (j+1) r h]
  .cases h
theorem sw{a:TypeId}{d:TypeDesc}(b:P.underlying a=some d)(k:Value)(es:List MapEntry)(r:Option (Nat×Value))(h:(Instr.findAsking a k es 0).run P w= .ok r w):(Instr.findKey a k es).run P w= .ok r w:=by
 unfold Instr.findKey;simp only [Vy,run_underlying b,Vi];cases e:Instr.findNow d k es 0 with
 | none=>simpa using h
 | some f=>have:=HX (w:=w) b k es 0 f e;rw [this] at h;simpa using h
theorem Dc{k:TypeId}{q:Bool×List Ck}(h:lf P k=some q):∃d,P.underlying k=some d:=by
 unfold lf at h;split at h
 .exact⟨_,by assumption⟩
 .exact⟨_,by assumption⟩
 .exact⟨_,by assumption⟩
 .cases h
theorem Dk{t:TypeId}{q:TypeId×TypeId}(h:sN P t=some q):P.underlying t=some (.map q.1 q.2):=by
 unfold sN at h;split at h
 .rename_i k e b;cases a:bV P k && bV P e
  .simp [a] at h
  .simp only [a,cond_true,U5] at h;subst h;exact b
 .cases h
theorem U0{t:TypeId}{z:T}(h:ET P t=some z):∃v,(zeroValue t).run P w= .ok v w/\aA w A z v:=by
 unfold ET at h;split at h
 .rename_i i hi;split at h
  .rename_i v hv;refine⟨v, ?_,JK h⟩;simp [zeroValue,typeInfo,run_program,hi,hv]
  .cases h
 .cases h
theorem Dr{i:Id}{ag:Bool}{ks:List Ck}{vk:Ck}{es:List (List T×T)}(hs:HS c w s.h ρ O)(hi:s.h i=some (.mp ag ks vk es)):∃b d a,ρ i=some (.map (some b))/\O i=some b/\w.heap[b]? =some (.map d a)/\
   d.toList.map (λe=>(e.key,e.val))=es.map (λp=>(dr ag p.1,dQ p.2))/\(∀p∈es,cd ks p.1=true/\eD vk p.2=true):=by
 obtain⟨b,d,a,h1,f,g,j,k⟩:=hs.af i _ hi;exact⟨b,d,a,h1,f,g,j,λp l=>by simpa using Vt.1 k p l⟩
theorem HW{a:List T}:∀{es:List (List T×T)} {x:T},fK a es=some x->∃p∈es,p.2=x
 | [],x,h=>by simp [fK] at h
 | (k,v)::r,x,h=>by
  simp only [fK] at h;cases hb:eL a k
  .rw [hb,cond_false] at h;obtain⟨p,b,e⟩:=HW h;exact⟨p,Va _ b,e⟩
  .rw [hb,cond_true] at h;simp only [U5] at h;exact⟨_,U9,h⟩
theorem QE{R:Type}{t:TypeId}{x key:AV}{ok:Bool}{S vk:Value}{K:AV->Option R}{r:R}(hs:HS c w s.h ρ O)(m:ao w (AA c w O) ρ x S)(F:ao w (AA c w O) ρ key vk)(E:cc=none\/cc=some true)
  (h:nO P s cc t x key ok K=some r):∃av v,K av=some r/\(Instr.lookup t S vk ok).run P w= .ok v w/\ao w (AA c w O) ρ av v:=by
 unfold nO at h;obtain⟨q,Y,h⟩:=U6.1 h;obtain⟨z,hz,h⟩:=U6.1 h;obtain⟨ag,ks,cs,h,g,o,rfl⟩:=Db E F h;split at h
 .rename_i i;split at h
  .rename_i ag' ks' Q es hi;split at h
   .rename_i l;obtain⟨rfl,rfl,hvk,B,_⟩:=l;obtain⟨b,a,T,V,g2,G,W,H⟩:=Dr hs hi;simp only [ao] at m;rw [V] at m;simp only [U5] at m;subst m;obtain⟨zv,M,N⟩:=U0 (w:=w) (A:=AA c w O) hz;obtain⟨d,I⟩:=Dc g;have L:=Dk Y;have n:=B0 g o a.isEmpty w;rcases zq g o w a.toList es 0 W (λp X=>(H p X).1) with⟨D,k⟩ | ⟨j,y,e,p,D,k,f3,f4,f5,f6⟩
    .have f:=sw I _ _ _ D;rw [k] at h;simp only [VZ,Zn] at h;obtain⟨u,h,C,e2⟩:=AN E B N h;refine⟨_,cond ok (.tuple #[zv, .bool false]) zv,h, ?_, ?_⟩
     .cases ok <;> simp [Instr.lookup,run_underlying L,Xs G,n,f,M]
     .have:aA w (AA c w O) u zv:=by rw [e2];exact Af C
      cases ok
      .simpa [ao] using this
      .simp only [cond_true,ao];exact⟨[zv, .bool false],rfl,by simp only [aC,ao];exact⟨zv,[.bool false],rfl,this, .bool false,[],rfl,by simp [aA],rfl⟩⟩
    .have f:=sw I _ _ _ D;rw [k] at h;simp only [Vx,Zo] at h;obtain⟨Z,J,U⟩:=HW k;have hy:eD Q y=true:=by rw [<-U];exact(H Z J).2
     obtain⟨u,h,C,e2⟩:=AN E B (Af (w:=w) (A:=AA c w O) hy) h;refine⟨_,cond ok (.tuple #[dQ y, .bool true]) (dQ y),h, ?_, ?_⟩
     .cases ok <;> simp [Instr.lookup,run_underlying L,Xs G,n,f]
     .have:aA w (AA c w O) u (dQ y):=by rw [e2];exact Af C
      cases ok
      .simpa [ao] using this
      .simp only [cond_true,ao];exact⟨[dQ y, .bool true],rfl,by simp only [aC,ao];exact⟨dQ y,[.bool true],rfl,this, .bool true,[],rfl,by simp [aA],rfl⟩⟩
   .cases h
  .cases h
 .cases h
theorem Mz(a:ByteArray):(a==a)=true:=by
 cases a with
 | mk x=>show(x==x)=true;simp
theorem KO{k:Ck}{x:T}(h:eD k x=true)(n:Nat):Instr.sameBits n (dQ x) (dQ x)=true:=by cases x <;> cases k <;> simp [eD] at h <;> cases n <;> simp [Instr.sameBits,dQ,Mz]
theorem Tc{ag:Bool}{ks:List Ck}(a:ag=false->ks.length=1){cs:List T}(h:cd ks cs=true)(n:Nat):Instr.sameBits (n+1) (dr ag cs) (dr ag cs)=true:=by
 cases ag with
 | false=>
  obtain⟨x,rfl,e⟩:=vp a h rfl;rw [e];cases ks with
  | nil=>simp [cd] at h
  | cons k ks=>simp only [cd,Vd] at h;exact KO h.1 _
 | true=>
  simp only [dr,cond_true,Instr.sameBits,beq_self_eq_true,Wa];clear a;induction ks generalizing cs with
  | nil=>cases cs with
   | nil=>rfl
   | cons x cs=>simp [cd] at h
  | cons k ks b=>cases cs with
   | nil=>simp [cd] at h
   | cons x cs=>simp only [cd,Vd] at h;have:=b h.2;simp only [VN,List.zip_cons_cons,WK,KO h.1,Wa];simpa using this
theorem Tx{ag:Bool}{ks:List Ck}(a:ag=false->ks.length=1){cs:List T}(h:cd ks cs=true):(Instr.keyThatStays (dr ag cs) (dr ag cs)).run P w= .ok (dr ag cs) w:=by unfold Instr.keyThatStays;have:Instr.sameBits 10000 (dr ag cs) (dr ag cs)=true:=Tc a h 9999;simp [this]
theorem J7{a:List T}{v:T}:∀{es:List (List T×T)},fK a es=none->ig a v es=es++ [(a,v)]
 | [],_=>rfl
 | (k,x)::r,h=>by
  simp only [fK] at h;cases hb:eL a k
  .rw [hb,cond_false] at h;simp [ig,hb,J7 h]
  .simp [hb] at h
theorem J8{a:List T}{v:T}:∀{es:List (List T×T)} {i:Nat} {p:List T×T},es[i]? =some p->eL a p.1=true->(∀i' b,i' < i->es[i']? =some b->eL a b.1=false)->ig a v es=es.set i (a,v)
 | [],i,p,h,_,_=>by simp at h
 | (k,x)::r,0,p,h,h1,_=>by simp at h;subst h;simp only at h1;simp [ig,h1]
 | (k,x)::r,i+1,p,h,h1,d=>by have hb:eL a k=false:=d 0 (k,x) (by omega) rfl;have:=J8 (v:=v) (es:=r) (i:=i) (p:=p) (by simpa using h) h1 λi' b hi e=>d (i'+1) b (by omega) (by simpa using e);simp [ig,hb,this]
theorem DS{ks:List Ck}{vk:Ck}{a:List T}{v:T}(d:cd ks a=true)(hv:eD vk v=true):∀{es:List (List T×T)},(∀p∈es,cd ks p.1=true/\eD vk p.2=true)->∀p∈ig a v es,cd ks p.1=true/\eD vk p.2=true
 | [],_,p,b=>by simp [ig] at b;subst b;exact⟨d,hv⟩
 | (k,x)::r,h,p,b=>by
  simp only [ig] at b;cases hb:eL a k
  .rw [hb,cond_false] at b;rcases Vk.1 b with rfl | b
   .exact h _ U9
   .exact DS d hv (λq e=>h q (Va _ e)) p b
  .rw [hb,cond_true] at b;rcases Vk.1 b with rfl | b
   .exact⟨d,hv⟩
   .exact h p (Va _ b)
theorem HS.A2{i:Id}{b:Nat}{f ents':Array MapEntry}{d clock':Nat}{ag:Bool}{ks:List Ck}{vk:Ck}{es':List (List T×T)}{j:Id->Option ab}(hs:HS c w j ρ O)(hi:j i≠none)
  (m:ρ i=some (.map (some b))) (g:O i=some b) (l:w.heap[b]? =some (.map f d)) (n:ents'.toList.map (λe=>(e.key,e.val))=es'.map (λp=>(dr ag p.1,dQ p.2))) (o:∀p∈es',cd ks p.1=true/\eD vk p.2=true):
  Le w ρ O {w with heap:=w.heap.setIfInBounds b (.map ents' clock')} ρ O/\HS c {w with heap:=w.heap.setIfInBounds b (.map ents' clock')} (aE j i (some (.mp ag ks vk es'))) ρ O:=by
 have a:∀k,k≠b->(w.heap.setIfInBounds b (.map ents' clock'))[k]? =w.heap[k]?:=λk q=>Go.ChangeMaps.heap_setBlock_other l _ q;have le:Le w ρ O {w with heap:=w.heap.setIfInBounds b (.map ents' clock')} ρ O:=Le.write g rfl rfl rfl (by simp) a;refine⟨le,hs.write g le a _ ?_ hi⟩;exact⟨b,ents',clock',m,g,Go.ChangeMaps.heap_setBlock_same l _,n,by rw [Vt];exact λp r=>by simpa using o p r⟩
theorem R0{R:Type}{t:TypeId}{x key v:AV}{vx vk vv:Value}{K:aH->Option R}{r:R}(hs:HS c w s.h ρ O)(F:ao w (AA c w O) ρ x vx)(Q:ao w (AA c w O) ρ key vk)(hv:ao w (AA c w O) ρ v vv)
  (h:nU P s t x key v K=some r):∃us w',K us=some r/\(Instr.mapUpdate t vx vk vv).run P w= .ok () w'/\Le w ρ O w' ρ O/\HS c w' (aK s.h us) ρ O:=by
 unfold nU at h;obtain⟨q,hq,h⟩:=U6.1 h;obtain⟨ag,ks,cs,h,n,g,rfl⟩:=Db (cc:=none) (.inl rfl) Q h;split at h
 .rename_i i;split at h
  .rename_i f I J es hi;split at h
   .rename_i E;obtain⟨rfl,rfl,hvk,hsc⟩:=E;obtain⟨y,hy,h⟩:=U6.1 h;rw [AV.mA hy] at hv;simp only [ao] at hv;obtain⟨u,h,T,e2⟩:=AN (cc:=none) (.inl rfl) hsc hv h;obtain⟨b,a,l,N,X,o,C,D⟩:=Dr hs hi;simp only [ao] at F;rw [N] at F;simp only [U5] at F;subst F;obtain⟨d,Z⟩:=Dc n;have hu:=Dk hq;have G:=B0 n g false w;have Y:=(IL n).2;rcases zq n g w a.toList es 0 C (λp hp=>(D p hp).1) with⟨L,U⟩ | ⟨j,y',e,p,L,U,M,B,W,f6⟩
    .have m:=sw Z _ _ _ L;obtain⟨le,z⟩:=HS.A2 (ag:=f) (ks:=I) (vk:=J) (es':=ig cs u es) (ents':=a.push {key:=dr f cs,val:=vv,born:=l}) (clock':=l+1) hs (by rw [hi];simp) N X o
      (by rw [J7 U];simp [C,e2]) (DS g T D)
     refine⟨_,_,h, ?_,le,z⟩;simp [Instr.mapUpdate,run_underlying hu,Xs o,G,m,Yc _ o]
    .have m:=sw Z _ _ _ L;have hlt:j < es.length:=(Vh.1 B).1;have hpk:p.1=cs:=(HQ g (D p (U8 B)).1 W).symm;have hek:e.key=dr f cs:=by
      have h1:(a.toList.map λe=>(e.key,e.val))[j]? =some (e.key,e.val):=by simp [M]
      rw [C] at h1;simp only [VS,B,Xg,U5,Wk] at h1;rw [<-h1.1,hpk]
     have S:(a.modify j λe=>{e with key:=dr f cs,val:=vv}).toList.map (λe=>(e.key,e.val))= (ig cs u es).map (λp=>(dr f p.1,dQ p.2)):=by
      rw [J8 B W f6];refine XD λk=> ?_;have H:(a.toList.map λe=>(e.key,e.val))[k]? = (es.map λp=>(dr f p.1,dQ p.2))[k]?:=by rw [C]
      simp only [VS,Array.toList_modify,List.getElem?_modify,WE] at H⊢;by_cases e0:j=k
      .subst e0;simp [M,hlt,e2]
      .simp only [e0,if_false];simpa using H
     obtain⟨le,z⟩:=HS.A2 (ag:=f) (ks:=I) (vk:=J) (es':=ig cs u es) (ents':=a.modify j λe=>{e with key:=dr f cs,val:=vv}) (clock':=l) hs (by rw [hi];simp) N X o S (DS g T D);refine⟨_,_,h, ?_,le,z⟩;have hst:=Tx (P:=P) (w:=w) Y g;have V:a[j]? =some e:=by simpa using M
     rw [VM] at m;simp [Instr.mapUpdate,run_underlying hu,Xs o,G,m,V,hek,hst,Yc _ o]
   .cases h
  .cases h
 .cases h
theorem F6{a:List T}:∀{es:List (List T×T)},fK a es=none->jo a es=es
 | [],_=>rfl
 | p::es,h=>by
  unfold fK at h;unfold jo;cases b:eL a p.1 with
  | true=>rw [b] at h;simp at h
  | false=>rw [b] at h;simp only [cond_false] at h⊢;rw [F6 h]
theorem F5{a:List T}:∀{es:List (List T×T)} {i:Nat} {p:List T×T},es[i]? =some p->eL a p.1=true->(∀i' b,i' < i->es[i']? =some b->eL a b.1=false)->jo a es=es.eraseIdx i
 | [],_,_,h,_,_=>by simp at h
 | q::es,0,p,h,d,_=>by simp only [Xn,U5] at h;subst h;simp [jo,d]
 | q::es,i+1,p,h,d,hb=>by have e:=hb 0 q (by omega) rfl;unfold jo;rw [e,cond_false,F5 (by simpa using h) d (λi' b hi f=>hb (i'+1) b (by omega) (by simpa using f))];rfl
theorem Dl{a b:Type}(f:a->b):∀(l:List a) (i:Nat),(l.eraseIdx i).map f= (l.map f).eraseIdx i
 | [],_=>rfl
 | _::_,0=>rfl
 | x::l,i+1=>by simp only [List.eraseIdx_cons_succ,VN,Dl f l i]
theorem Cc{a:List T}:∀{es:List (List T×T)},∀p∈jo a es,p∈es
 | [],p,h=>h
 | q::es,p,h=>by
  unfold jo at h;cases b:eL a q.1 with
  | true=>rw [b] at h;exact Va _ h
  | false=>
   rw [b] at h;rcases Vk.1 h with rfl | h
   .exact U9
   .exact Va _ (Cc p h)
theorem Nf{R:Type}{t ty tr:TypeId}{x key:AV}{T vk:Value}{K:aH->Option R}{r:R}(hs:HS c w s.h ρ O)(v:ao w (AA c w O) ρ x T)(H:ao w (AA c w O) ρ key vk)
  (h:nB P s t x key K=some r):∃us w',K us=some r/\(Builtin.delete_ #[t,ty] tr #[T,vk]).run P w= .ok (.tuple #[]) w'/\Le w ρ O w' ρ O/\HS c w' (aK s.h us) ρ O:=by
 unfold nB at h;obtain⟨q,X,h⟩:=U6.1 h;obtain⟨ag,ks,cs,h,l,B,rfl⟩:=Db (cc:=none) (.inl rfl) H h;split at h
 .rename_i i;split at h
  .rename_i y C D es hi;split at h
   .rename_i u;obtain⟨rfl,rfl⟩:=u;obtain⟨b,a,f,F,L,k,o,G⟩:=Dr hs hi;simp only [ao] at v;rw [F] at v;simp only [U5] at v;subst v;obtain⟨d,M⟩:=Dc l;have S:=Dk X;have z:=B0 l B a.isEmpty w;rcases zq l B w a.toList es 0 o (λp m=>(G p m).1) with⟨E,I⟩ | ⟨j,y',e,p,E,I,Y,J,U,V⟩
    .have g:=sw M _ _ _ E;obtain⟨le,n⟩:=HS.A2 (ag:=y) (ks:=C) (vk:=D) (es':=jo cs es) (ents':=a) (clock':=f) hs (by rw [hi];simp) F L k (by rw [F6 I];exact o) (λp m=>G p (Cc p m));refine⟨_,_,h, ?_,le,n⟩;simp [Builtin.delete_,run_underlying S,Xs k,z,g,Yc _ k]
    .have g:=sw M _ _ _ E;have Q:j < es.length:=(Vh.1 J).1;have N:a.toList.length=es.length:=by simpa using congrArg List.length o
     have W:j < a.size:=by rw [<-VG,N];exact Q
     obtain⟨le,n⟩:=HS.A2 (ag:=y) (ks:=C) (vk:=D) (es':=jo cs es) (ents':=a.eraseIdxIfInBounds j) (clock':=f) hs (by rw [hi];simp) F L k (by
       rw [F5 J U V,Dl,<-o,<-Dl];simp only [Array.eraseIdxIfInBounds,W,dif_pos,Array.toList_eraseIdx]) (λp m=>G p (Cc p m))
     refine⟨_,_,h, ?_,le,n⟩;rw [VM] at g;simp [Builtin.delete_,run_underlying S,Xs k,z,g,Yc _ k]
   .cases h
  .cases h
 .cases h
theorem QM{R:Type}{d:Nat}{t:TypeId}{K:AV->aH->Option R}{r:R}(hs:HS c w s.h ρ O)(h:sM P d t K=some r):
  ∃v us,K v us=some r/\(jr d s.h us=true->∃u w' ρ' O',(Instr.makeMap t none).run P w= .ok u w'/\Le w ρ O w' ρ' O'/\HS c w' (aK s.h us) ρ' O'/\ao w' (AA c w' O') ρ' v u):=by
 unfold sM at h;obtain⟨q,g,h⟩:=U6.1 h;obtain⟨p,f,h⟩:=U6.1 h;split at h
 .rename_i e;refine⟨_,_,h,λa=> ?_⟩;have a:=kY a U9;have le:=Le.alloc hs (i:= .s d 0) rfl a (.map #[] 0) (.map (some w.heap.size)) (some w.heap.size) (.inr rfl);have b:=hs.alloc (i:= .s d 0) rfl a (.map #[] 0) (.map (some w.heap.size)) (some w.heap.size) (.inr rfl) (.mp p.1 p.2 (lW P q.2) []) ⟨w.heap.size,#[],0,by simp,by simp,kZ _,by simp,by simp⟩;refine⟨.map (some w.heap.size),_,_,_,rfl,le,by rw [eX];exact b, ?_⟩;simp only [ao];rw [aF]
 .cases h
end
end Go.Aev
