import Derived.Test.YtgkhhafdkdmlpaaGreatTopMostQ2
import Derived.MapKept
import Derived.ChangeMaps5
set_option linter.all false
namespace Go.Aev
open Go Go.IntKind
section
variable {P:Program} {w w':World} {A A':Nat->Prop} {c:Ctx} {ρ:Id->Option Value} {O:Id->Option Nat} {s:St} {cc:Option Bool} {h:Id->Option ab}
def iu(ρ:Id->Option Value)(i i':Id)(nx:Nat)(v vk:Value):Id->Option Value:=λx=>
 if x=i' then some v else match x with
  | .g y n=>if y=i' then(if n=nx then some vk else ρ (.g i n)) else ρ (.g y n)
  | x=>ρ x
def eA(O:Id->Option Nat)(i i' j src:Id)(nx:Nat)(ob:Option Nat):Id->Option Nat:=λx=>
 if x=i' then ob else if x=i\/x=j\/x=src then none else match x with
  | .g y n=>if y=i' then(if n=nx then O src else O (.g i n)) else if y=i then none else O (.g y n)
  | x=>O x
def ud(i i' j src:Id)(nx:Nat):Id->Option Id:=λx=>
 if x=i' then some i else if x=i\/x=j\/x=src then none else match x with
  | .g y n=>if y=i' then(if n=nx then some src else some (.g i n)) else if y=i then none else some (.g y n)
  | x=>some x
def nq(i i' src:Id)(nx:Nat):Id->Id:=λz=>
 if z=i then i' else if z=src then .g i' nx else match z with
  | .g y n=>if y=i then .g i' n else .g y n
  | z=>z
theorem xO{i i' j src:Id}{nx:Nat}(p:src≠i)(o:∀n,src≠ .g i n)(m:i.real=true){x z:Id}(b:ud i i' j src nx x=some z):nq i i' src nx z=x:=by
 unfold ud at b;split at b
 .rename_i h;simp only [Rp] at b;subst b;unfold nq;rw [if_pos rfl,h]
 .rename_i h1;split at b
  .cases b
  .rename_i l;have f:x≠i:=λe=>l (.inl e);have k:x≠src:=λe=>l (.inr (.inr e));cases x with
   | g y n=>
    dsimp only at b;split at b
    .rename_i e;subst e;split at b
     .rename_i q;simp only [Rp] at b;subst b;unfold nq;rw [if_neg p,if_pos rfl,q]
     .simp only [Rp] at b;subst b;unfold nq;rw [if_neg (aL m),if_neg (λe=>o n e.symm)];simp
    .split at b
     .cases b
     .rename_i e3;simp only [Rp] at b;subst b;unfold nq;rw [if_neg f,if_neg k];simp [e3]
   | c a=>simp only [Rp] at b;subst b;unfold nq;rw [if_neg f,if_neg k]
   | s d a=>simp only [Rp] at b;subst b;unfold nq;rw [if_neg f,if_neg k]
theorem Oi{i i' j src:Id}{nx:Nat}{ob:Option Nat}{x:Id}{d:Nat}(b:eA O i i' j src nx ob x=some d):(x=i'/\ob=some d)\/(x≠i'/\∃z,ud i i' j src nx x=some z/\O z=some d):=by
 unfold eA at b;unfold ud;split at b
 .exact .inl ⟨by assumption,b⟩
 .rename_i h1;right;refine⟨h1, ?_⟩;rw [if_neg h1];split at b
  .cases b
  .rename_i k;rw [if_neg k];cases x with
   | g y n=>
    dsimp only at b⊢;split at b
    .rename_i e;rw [if_pos e];split at b
     .rename_i f;rw [if_pos f];exact⟨_,rfl,b⟩
     .rename_i f;rw [if_neg f];exact⟨_,rfl,b⟩
    .rename_i e;rw [if_neg e];split at b
     .cases b
     .rename_i e3;rw [if_neg e3];exact⟨_,rfl,b⟩
   | c a=>exact⟨_,rfl,b⟩
   | s d a=>exact⟨_,rfl,b⟩
theorem HS.HB{i i' j src s0:Id}{b:Bool}{sz az rsz nx:Nat}{es:List Row}{l:List T}{bb:Bool}{xs:List (List T)}{vk:Value}{X:ab}{ah blk' off off' cap':Nat}{N:Array Value}{t':TypeId}{ob:Option Nat}{news:List Value}
  (hs:HS c w h ρ O) (hi:h i=some (.rows b sz az rsz nx es)) (I:h i'=none) (hrl:i'.real=true) (hj:h j≠none) (hji:j≠i) (hs0:h s0≠none) (hs0i:s0≠i) (hs0j:s0≠j)
  (t:src=s0\/∃n,src= .g s0 n) (hvk:ρ src=some vk) (hsl:cM w (AA c w O) rsz bb xs vk (λd=>O src=some d))
  (hos:w'.os=w.os) (ho:w'.output=w.output) (htp:w'.tape=w.tape) (hsz:w.heap.size<=w'.heap.size) (W:∀k,k < w.heap.size->O i≠some k->w'.heap[k]? =w.heap[k]?)
  (Y:ob=O i\/(ob=some w.heap.size/\w.heap.size < w'.heap.size)) (hobs:ob=some blk') (hb:w'.heap[blk']? =some (.cells N t' (0,0))) (hfit:off'+cap' * sz<=N.size) (hcap:es.length+1<=cap')
  (hrows:b9 w (AA c w O) ρ O i ah sz az rsz off es) (hold:∀p,p < es.length * sz->w'.cell? ⟨blk',off'+p,none⟩=w.cell? ⟨ah,off+p,none⟩)
  (hcol:az < sz) (hl:l.length=sz) (hnew:∀p v,news[p]? =some v->w'.cell? ⟨blk',off'+es.length * sz+p,none⟩=some v) (hnr:∀m x,m≠az->l[m]? =some x->∃v,news[m]? =some v/\aw w (AA c w O) x v) (hnk:news[az]? =some vk)
  (hX:(∀b,AA c w O b->AA c w' (eA O i i' j src nx ob) b/\w'.heap[b]? =w.heap[b]?)->cR w' (AA c w' (eA O i i' j src nx ob)) (iu ρ i i' nx (.slice (some ⟨blk',off',none⟩) (es.length+1) cap') vk) (eA O i i' j src nx ob) s0 X):
  Le w ρ O w' (iu ρ i i' nx (.slice (some ⟨blk',off',none⟩) (es.length+1) cap') vk) (eA O i i' j src nx ob)/\
  HS c w' (aA (aA (aA (aA h i (some .dead)) j (some .dead)) s0 (some X)) i' (some (.rows false sz az rsz (nx+1) (es++ [⟨nx,l,some (bb,xs)⟩])))) (iu ρ i i' nx (.slice (some ⟨blk',off',none⟩) (es.length+1) cap') vk) (eA O i i' j src nx ob):=by
 have B:=hs.real (i:=i) (by rw [hi];simp);have L:=hs.real hj;have K:=hs.real hs0;have hii:i'≠i:=λe=>by rw [e,hi] at I;cases I
 have hij:i'≠j:=λe=>hj (e▸I);have hi0:i'≠s0:=λe=>hs0 (e▸I);have M:src≠i:=by
  rcases t with rfl | ⟨n,rfl⟩
  .exact hs0i
  .exact aL B
 have hsj:src≠j:=by
  rcases t with rfl | ⟨n,rfl⟩
  .exact hs0j
  .exact aL L
 have hsi':src≠i':=by
  rcases t with rfl | ⟨n,rfl⟩
  .exact hi0.symm
  .exact aL hrl
 have Z:∀n,src≠ .g i n:=by
  intro n;rcases t with rfl | ⟨m,rfl⟩
  .exact(aL K).symm
  .intro e;simp only [Id.g.injEq] at e;exact hs0i e.1
 have hsg':∀n,src≠ .g i' n:=by
  intro n;rcases t with rfl | ⟨m,rfl⟩
  .exact(aL K).symm
  .intro e;simp only [Id.g.injEq] at e;exact hi0 e.1.symm
 obtain⟨a,cap,r1,r2,r3,⟨n1,n2,n3,n4⟩,r5⟩:=hs.ah i _ hi;obtain⟨V,hV⟩:∃V,V=iu ρ i i' nx (.slice (some ⟨blk',off',none⟩) (es.length+1) cap') vk:=⟨_,rfl⟩;obtain⟨Q,R⟩:∃Q,Q=eA O i i' j src nx ob:=⟨_,rfl⟩;rw [<-hV,<-R] at hX⊢;have V1:V i'=some (.slice (some ⟨blk',off',none⟩) (es.length+1) cap'):=by rw [hV];unfold iu;rw [if_pos rfl]
 have V2:∀x,x.real=true->x≠i'->V x=ρ x:=by
  intro x F o;rw [hV];unfold iu;rw [if_neg o];cases x with
  | g y n=>cases F
  | _=>rfl
 have V3:∀y n,y≠i'->V (.g y n)=ρ (.g y n):=by intro y n hy;rw [hV];unfold iu;rw [if_neg (aL hrl)];simp only [if_neg hy]
 have V4:∀n,V (.g i' n)=if n=nx then some vk else ρ (.g i n):=by intro n;rw [hV];unfold iu;rw [if_neg (aL hrl)];simp
 have Q1:Q i'=ob:=by rw [R];unfold eA;rw [if_pos rfl]
 have Q0:∀x,x≠i'->(x=i\/x=j\/x=src)->Q x=none:=by intro x o C;rw [R];unfold eA;rw [if_neg o,if_pos C]
 have Q2:∀x,x.real=true->x≠i'->x≠i->x≠j->x≠src->Q x=O x:=by
  intro x F o h1 C h3;rw [R];unfold eA;rw [if_neg o,if_neg (by rintro(h | h | h) <;> contradiction)];cases x with
  | g y n=>cases F
  | _=>rfl
 have Q3:∀y n,y≠i'->y≠i->Id.g y n≠src->Q (.g y n)=O (.g y n):=by intro y n hy hy2 h3;rw [R];unfold eA;rw [if_neg (aL hrl),if_neg (by rintro(h | h | h);exact aL B h;exact aL L h;exact h3 h)];simp only [if_neg hy,if_neg hy2]
 have Q4:∀n,Q (.g i' n)=if n=nx then O src else O (.g i n):=by intro n;rw [R];unfold eA;rw [if_neg (aL hrl),if_neg (by rintro(h | h | h);exact aL B h;exact aL L h;exact hsg' n h.symm)];simp
 have U:∀x d,Q x=some d->(x=i'/\ob=some d)\/(x≠i'/\∃z,ud i i' j src nx x=some z/\O z=some d):=λx d o=>Oi (by rw [<-R];exact o);have le:Le w ρ O w' V Q:=by
  refine⟨hos,ho,htp,hsz,λx u o=> ?_,λd r hn=>W d r (hn i),λx d o=> ?_⟩
  .cases F:x.real with
   | true=>
    have:x≠i':=λe=>by rw [e,(hs.cr i' hrl I).1] at o;cases o
    rw [V2 x F this];exact o
   | false=>
    cases x with
    | g y n=>
     have:y≠i':=λe=>by rw [e,(hs.fj i' n I).1] at o;cases o
     rw [V3 y n this];exact o
    | _=>cases F
  .rcases U x d o with⟨_,h1⟩ | ⟨_,z,_,C⟩
   .rcases Y with e | ⟨e,_⟩
    .exact .inl ⟨i,by rw [<-e];exact h1⟩
    .rw [e] at h1;cases h1;exact .inr (RI _)
   .exact .inl ⟨z,C⟩
 have hA:∀d,AA c w O d->AA c w' Q d/\w'.heap[d]? =w.heap[d]?:=λd r=>le.A d r;have E:∀x d,x≠i->O x=some d->w'.heap[d]? =w.heap[d]?:=λx d o r=>W d (hs.lt x d r) λe=>o (hs.inj x i d r e);refine⟨le,hs.oh le (λx y o=> ?_) (λx F o=> ?_) (λx n=> ?_) (λx n o=> ?_) (λx n u H=> ?_) (λx y d o hy=> ?_) (λx d o=> ?_)⟩
 .by_cases J:x=i'
  .subst J;rw [aC] at o;cases o;right;have hlen:(es++ [(⟨nx,l,some (bb,xs)⟩:Row)]).length=es.length+1:=by simp
   refine⟨some ⟨blk',off',none⟩,cap',by rw [hlen];exact V1,by rw [hlen];exact hcap,by simp,⟨?_,λf D=> ?_,λn hn=> ?_,λn d r=> ?_⟩, .inr ⟨blk',off',N,t',rfl,by rw [Q1];exact hobs,hb,hfit,b9.append ?_ ⟨?_,trivial⟩⟩⟩
   .rw [TC,Tc];refine⟨n1,by simp,λa ha b hb=> ?_⟩;simp only [RX,SX,RF] at hb;obtain⟨f,D,e⟩:=RU.1 ha;have:=n2 f D;omega
   .rcases RM.1 D with D | D
    .have:=n2 f D;omega
    .simp only [RF] at D;subst D;simp
   .rw [V4,if_neg (by omega)];exact n3 n (by omega)
   .rw [Q4] at r;by_cases en:n=nx
    .exact⟨_,RE _ (RF.2 rfl),en.symm⟩
    .rw [if_neg en] at r;obtain⟨f,D,hfn⟩:=n4 n d r;exact⟨f,RD _ D,hfn⟩
   .refine b9.move hA hold (λf D=> ?_) hrows;have q:f.n≠nx:=by have:=n2 f D;omega
    exact⟨by rw [V4,if_neg q],by rw [Q4,if_neg q],λd r=>E _ d (aL B) r⟩
   .refine⟨hl,hcol,λm y hm hy=> ?_,vk,hnew az vk hnk,by rw [V4];simp, ?_⟩
    .obtain⟨v,g1,g2⟩:=hnr m y hm hy;exact⟨v,hnew m v g1,aw.mono hA y v g2⟩
    .simp only;refine cM.mono hA (λd r=> ?_) hsl;rw [Q4];exact⟨by simpa using r,E src d M r⟩
  .rw [aq _ _ J] at o;by_cases e2:x=s0
   .subst e2;rw [aC] at o;cases o;exact .inr (hX hA)
   .rw [aq _ _ e2] at o;by_cases e3:x=j
    .subst e3;rw [aC] at o;cases o;obtain⟨y,hy⟩:=UM.1 hj;have:∃u,ρ x=some u:=by
      cases G:ρ x with
      | some u=>exact⟨u,rfl⟩
      | none=>
       exfalso;have:=hs.ah x y hy;cases y with
       | box cs=>obtain⟨b,_,_,h1,_⟩:=this;rw [G] at h1;cases h1
       | sl fz sz b xs=>obtain⟨v,h1,_⟩:=this;rw [G] at h1;cases h1
       | ir l=>obtain⟨b,h1,_⟩:=this;rw [G] at h1;cases h1
       | mp ag ks vk es=>obtain⟨b,_,_,h1,_⟩:=this;rw [G] at h1;cases h1
       | arr cs=>obtain⟨b,_,_,h1,_⟩:=this;rw [G] at h1;cases h1
       | rows _ _ _ _ _ _=>obtain⟨_,_,h1,_⟩:=this;rw [G] at h1;cases h1
       | dead=>obtain⟨⟨v,h1,_⟩,_⟩:=this;rw [G] at h1;cases h1
     obtain⟨u,H⟩:=this;exact .inr ⟨⟨u,by rw [V2 x L J];exact H,jM hs H⟩,Q0 x J (.inr (.inl rfl))⟩
    .rw [aq _ _ e3] at o;by_cases e4:x=i
     .subst e4;rw [aC] at o;cases o;exact .inr ⟨⟨_,by rw [V2 x B J];exact r1,rfl,rfl⟩,Q0 x J (.inl rfl)⟩
     .rw [aq _ _ e4] at o;have hrx:=hs.real (i:=x) (by rw [o];simp);have e5:x≠src:=by
       rcases t with rfl | ⟨n,rfl⟩
       .exact e2
       .exact(aL hrx).symm
      refine .inl ⟨o,Q2 x hrx J e4 e3 e5,λd r=>E x d e4 r,λn=>⟨V3 x n J,Q3 x n J e4 ?_,λd r=>E _ d (aL B) r⟩⟩;rcases t with rfl | ⟨m,rfl⟩
      .exact aL K
      .intro e;simp only [Id.g.injEq] at e;exact e2 e.1
 .have q:x≠i':=λe=>by rw [e,aC] at o;cases o
  rw [aq _ _ q] at o;have h0:x≠s0:=λe=>by rw [e,aC] at o;cases o
  rw [aq _ _ h0] at o;have h1:x≠j:=λe=>by rw [e,aC] at o;cases o
  rw [aq _ _ h1] at o;have C:x≠i:=λe=>by rw [e,aC] at o;cases o
  rw [aq _ _ C] at o;have h5:x≠src:=by
   rcases t with rfl | ⟨n,rfl⟩
   .exact h0
   .exact(aL F).symm
  rw [V2 x F q,Q2 x F q C h1 h5];exact hs.cr x F o
 .rw [aq _ _ (aL hrl),aq _ _ (aL K),aq _ _ (aL L),aq _ _ (aL B)];exact hs.dF x n
 .have q:x≠i':=λe=>by rw [e,aC] at o;cases o
  rw [aq _ _ q] at o;have h0:x≠s0:=λe=>by rw [e,aC] at o;cases o
  rw [aq _ _ h0] at o;have h1:x≠j:=λe=>by rw [e,aC] at o;cases o
  rw [aq _ _ h1] at o;have C:x≠i:=λe=>by rw [e,aC] at o;cases o
  rw [aq _ _ C] at o;have h5:Id.g x n≠src:=by
   rcases t with rfl | ⟨m,rfl⟩
   .exact aL K
   .intro e;simp only [Id.g.injEq] at e;exact h0 e.1
  rw [V3 x n q,Q3 x n q C h5];exact hs.fj x n o
 .by_cases q:x=i'
  .subst q;rw [V4] at H;split at H
   .simp only [Rp] at H;subst H;exact jM hs hvk
   .exact hs.gone i n u H
  .rw [V3 x n q] at H;exact hs.gone x n u H
 .rcases U x d o with⟨x1,x2⟩ | ⟨x1,z,x2,x3⟩ <;> rcases U y d hy with⟨y1,S⟩ | ⟨y1,z',S,y3⟩
  .rw [x1,y1]
  .rcases Y with e | ⟨e,_⟩
   .rw [e] at x2;have:=hs.inj i z' d x2 y3;subst this;have:=xO M Z B S;unfold nq at this;rw [if_pos rfl] at this;rw [x1];exact this
   .rw [e] at x2;cases x2;exact absurd (hs.lt _ _ y3) (TX _)
  .rcases Y with e | ⟨e,_⟩
   .rw [e] at S;have:=hs.inj i z d S x3;subst this;have:=xO M Z B x2;unfold nq at this;rw [if_pos rfl] at this;rw [y1];exact this.symm
   .rw [e] at S;cases S;exact absurd (hs.lt _ _ x3) (TX _)
  .have:=hs.inj z z' d x3 y3;subst this;rw [<-xO M Z B x2,<-xO M Z B S]
 .rcases U x d o with⟨_,h1⟩ | ⟨_,z,_,C⟩
  .rcases Y with e | ⟨e,e2⟩
   .rw [e] at h1;have:=hs.lt i d h1;omega
   .rw [e] at h1;cases h1;exact e2
  .have:=hs.lt z d C;omega
end
open Go Go.IntKind
section
variable {P:Program} {w w':World} {A A':Nat->Prop} {c:Ctx} {ρ:Id->Option Value} {O:Id->Option Nat} {s:St} {cc:Option Bool} {h:Id->Option ab}
theorem HS.move{i i':Id}(hs:HS c w h ρ O)(hi:h i≠none)(B:h i'=none)(v:Value)(g:Option Nat)(K:w'.os=w.os)(q:w'.output=w.output)(M:w'.tape=w.tape)(L:w.heap.size<=w'.heap.size)
  (o:∀k,k < w.heap.size->O i≠some k->w'.heap[k]? =w.heap[k]?) (t:g=none\/g=O i\/(g=some w.heap.size/\w.heap.size < w'.heap.size)) (x:ab)
  (T:cR w' (AA c w' (aA (aA O i none) i' g)) (aA ρ i' (some v)) (aA (aA O i none) i' g) i' x) (hrl:i'.real=true:=by rfl):
  Le w ρ O w' (aA ρ i' (some v)) (aA (aA O i none) i' g)/\HS c w' (aA (aA h i' (some x)) i (some .dead)) (aA ρ i' (some v)) (aA (aA O i none) i' g):=by
 have C:i≠i':=λe=>hi (e▸B);have N:∀b,g=some b->b < w'.heap.size:=by
  intro b hb;rcases t with e | e | ⟨e,f⟩
  .rw [e] at hb;cases hb
  .rw [e] at hb;have:=hs.lt i b hb;omega
  .rw [e] at hb;cases hb;exact f
 have le:Le w ρ O w' (aA ρ i' (some v)) (aA (aA O i none) i' g):=by
  refine⟨K,q,M,L,λj u a=> ?_,λb hb S=>o b hb (S i),λj b a=> ?_⟩
  .by_cases e:j=i'
   .subst e;rw [(hs.cr _ hrl B).1] at a;cases a
   .rw [aq _ _ e];exact a
  .by_cases e:j=i'
   .subst e;rw [aC] at a;rcases t with e | e | ⟨e,_⟩
    .rw [e] at a;cases a
    .rw [e] at a;exact .inl ⟨i,a⟩
    .rw [e] at a;cases a;exact .inr (RI _)
   .rw [aq _ _ e] at a;by_cases f:j=i
    .subst f;rw [aC] at a;cases a
    .rw [aq _ _ f] at a;exact .inl ⟨j,a⟩
 have y:=hs.real hi;have Q:GK w ρ O w' (aA ρ i' (some v)) (aA (aA O i none) i' g):=λj n=>⟨aq _ _ (aL hrl),by rw [aq _ _ (aL hrl),aq _ _ (aL y)],λb hb=>o b (hs.lt _ b hb) λe=>aL y (hs.inj _ i b hb e)⟩;refine⟨le,hs.go le Q (λj U a=> ?_) (λj J a=> ?_) (λj a=> ?_) (λj n=>by rw [aq _ _ (aL y),aq _ _ (aL hrl)];exact hs.dF j n) (λj k d a E=> ?_) (λj d a=> ?_)⟩
 .by_cases e:j=i
  .subst e;rw [aC] at a;cases a;right;obtain⟨b,hb⟩:=UM.1 hi;have F:∃u,ρ j=some u/\u.oneCell'=true/\u.cells= #[u]:=by
    cases m:ρ j with
    | none=>
     exfalso;have:=hs.ah j b hb;cases b with
     | box cs=>obtain⟨b,_,_,h1,_⟩:=this;rw [m] at h1;cases h1
     | sl V sz b xs=>obtain⟨v,h1,_⟩:=this;rw [m] at h1;cases h1
     | ir l=>obtain⟨b,h1,_⟩:=this;rw [m] at h1;cases h1
     | mp ag ks vk es=>obtain⟨b,_,_,h1,_⟩:=this;rw [m] at h1;cases h1
     | arr cs=>obtain⟨b,_,_,h1,_⟩:=this;rw [m] at h1;cases h1
     | rows _ _ _ _ _ _=>obtain⟨_,_,h1,_⟩:=this;rw [m] at h1;cases h1
     | dead=>obtain⟨⟨v,h1,_⟩,_⟩:=this;rw [m] at h1;cases h1
    | some u=>exact⟨u,rfl,jM hs m⟩
   obtain⟨u,h1,R⟩:=F;exact⟨⟨u,by rw [aq _ _ C];exact h1,R⟩,by rw [aq _ _ C,aC]⟩
  .rw [aq _ _ e] at a;by_cases f:j=i'
   .subst f;rw [aC] at a;cases a;exact .inr T
   .rw [aq _ _ f] at a;refine .inl ⟨a,by rw [aq _ _ f,aq _ _ e],λah r=>o ah (hs.lt j ah r) (λq=>e (hs.inj j i ah r q))⟩
 .by_cases e:j=i
  .subst e;rw [aC] at a;cases a
  .rw [aq _ _ e] at a;by_cases f:j=i'
   .subst f;rw [aC] at a;cases a
   .rw [aq _ _ f] at a;rw [aq _ _ f,aq _ _ f,aq _ _ e];exact hs.cr j J a
 .by_cases e:j=i
  .subst e;rw [aC] at a;cases a
  .rw [aq _ _ e] at a;by_cases f:j=i'
   .subst f;rw [aC] at a;cases a
   .rw [aq _ _ f] at a;exact a
 .have z:∀j b,aA (aA O i none) i' g j=some b->(j=i'/\g=some b)\/(j≠i'/\j≠i/\O j=some b):=by
   intro j b a;by_cases e:j=i'
   .subst e;rw [aC] at a;exact .inl ⟨rfl,a⟩
   .rw [aq _ _ e] at a;by_cases f:j=i
    .subst f;rw [aC] at a;cases a
    .rw [aq _ _ f] at a;exact .inr ⟨e,f,a⟩
  have p:∀k b,g=some b->k≠i->O k=some b->False:=by
   intro k b hb E q;rcases t with e | e | ⟨e,_⟩
   .rw [e] at hb;cases hb
   .rw [e] at hb;exact E (hs.inj k i b q hb)
   .rw [e] at hb;cases hb;exact TX _ (hs.lt k _ q)
  rcases z j d a with⟨G,f⟩ | ⟨G,f,e3⟩ <;> rcases z k d E with⟨H,D⟩ | ⟨H,D,I⟩
  .rw [G,H]
  .exact(p k d f D I).elim
  .exact(p j d D f e3).elim
  .exact hs.inj j k d e3 I
 .by_cases e:j=i'
  .subst e;rw [aC] at a;exact N d a
  .rw [aq _ _ e] at a;by_cases f:j=i
   .subst f;rw [aC] at a;cases a
   .rw [aq _ _ f] at a;have:=hs.lt j d a;omega
theorem Iw{v:AV}{x:T}{u:Value}{sz:Nat}{p:Bool×List (List T)}(hs:HS c w h ρ O)(hv:ak w (AA c w O) ρ v u)(d:dt h v=some x)(D:x.aP sz=some p):
  (p.2= []/\(u= .slice none 0 0\/∃a cap,u= .slice (some a) 0 cap))\/∃ah off cap,u= .slice (some ⟨ah,off,none⟩) p.2.length cap/\aU w (AA c w O) ah sz off p.2:=by
 have f:aw w (λ_=>True) x u:=mC hs hv d (λ_ _=>trivial) (λ_ _ _ _=>trivial);have bY:p.2= []->(u= .slice none 0 0\/∃a cap,u= .slice (some a) 0 cap):=by
  intro e;rcases T.pO D with rfl | ⟨rfl,_⟩
  .simp only [aw] at f;rcases f with⟨_,_,rfl⟩ | ⟨_,ah,off,G,cap,rfl,_⟩
   .exact .inl rfl
   .rw [e];exact .inr ⟨_,_,rfl⟩
  .simp only [aw] at f;rcases f with⟨_,rfl⟩ | ⟨_,ah,off,G,rfl⟩
   .exact .inl rfl
   .exact .inr ⟨_,_,rfl⟩
 by_cases e:p.2= []
 .exact .inl ⟨e,bY e⟩
 right;have N:x= .ae sz p.1 p.2:=by
  rcases T.pO D with h | ⟨_,h⟩
  .exact h
  .exact absurd h e
 subst N;cases v <;> simp only [dt,reduceCtorEq,Rp] at d
 case t y=>
  subst d;simp only [ak,aw] at hv;rcases hv with⟨_,h,_⟩ | ⟨_,ah,off,G,cap,rfl,_,r,g⟩
  .exact absurd h e
  .rcases r with r | ⟨rfl,_⟩
   .exact absurd r e
   exact⟨ah,off,cap,rfl,g⟩
 case own i=>
  split at d
  .rename_i M m b xs hi;simp only [Rp,T.ae.injEq] at d;obtain⟨rfl,rfl,rfl⟩:=d;obtain⟨W,z,a,cap,q1,Q,q3,R,k⟩:=nD hs hi;simp only [ak] at hv;rw [z] at hv;simp only [Rp] at hv;subst hv;subst q1;rcases k with k | ⟨ah,off,arr,t,C,S,U,V,j⟩
   .exact absurd (RN.1 (by omega)) e
   .subst C;exact⟨ah,off,cap,rfl,j⟩
  .simp at d
 case ref i off=>
  split at d
  .obtain⟨l,_,d⟩:=Rq.1 d;simp at d
  .simp at d
  .simp at d
 case part i X off n=>
  split at d
  .rename_i M m b xs hi;split at d
   .rename_i E;subst E;simp only [Rp,T.ae.injEq] at d;obtain⟨rfl,rfl,F⟩:=d;obtain⟨W,z,a,cap,q1,Q,q3,R,k⟩:=nD hs hi;simp only [ak] at hv;obtain⟨Y,L,I,H,q,e2,e3,rfl,e4⟩:=hv;rw [z] at q;simp only [Rp] at q;subst q;simp only [SD] at q1;obtain⟨rfl,rfl,rfl⟩:=q1;have B:((xs.drop off).take n).length=n:=by simp only [So,Tk];omega
    rw [<-F] at e⊢;have hn:n≠0:=λh=>e (by rw [h];rfl);rcases k with k | ⟨ah,off',arr,t,C,S,U,V,j⟩
    .omega
    .subst C;have K:H=some ⟨ah,off'+off * m,none⟩:=by
      rcases e4 with⟨rfl,rfl⟩ | ⟨rfl,_⟩ | ⟨Z,o,e5,J⟩
      .simp
      .omega
      .simp only [Rp,Ss] at e5;obtain⟨rfl,rfl,_⟩:=e5;exact J
     subst K;exact⟨ah,_,_,by rw [B],(j.drop off).take n⟩
   .simp at d
  .simp at d
theorem OV{t k ty e:TypeId}{i:TypeInfo}(m:P.underlying t=some (.slice e))(hi:P.info? e=some i){b off a d:Nat}{arr:Array Value}{tt:TypeId}(hb:w.heap[b]? =some (.cells arr tt (0,0))){x:Value}{n:Nat}{news:List Value}
  (hs:Src P i.size k x n news w) (f:a+n<=d) (l:off+d * i.size<=arr.size):
  (Builtin.append_ #[t,k] ty #[.slice (some ⟨b,off,none⟩) a d,x]).run P w= .ok (.slice (some ⟨b,off,none⟩) (a+n) d) (w.setRow b (bQ (off+a * i.size) news arr.toList).toArray):=by
 have p:=hs.newsLen;have hm:(a+n) * i.size<=d * i.size:=Sc _ f;have e:(a+n) * i.size=a * i.size+n * i.size:=TO _ _ _;have g:=run_storeCells_at P b (off+a * i.size) tt news 0 arr w hb (by omega) hs.one;simp only [Uj] at g;rcases hs.kind with⟨o,j⟩ | j <;> simp [Builtin.append_,run_underlying m,run_underlying j,sizeOf,typeInfo,hi,hs.len,f,hs.cells,gJ,g,bQ]
theorem OU{t j ty e:TypeId}{i:TypeInfo}(k:P.underlying t=some (.slice e))(hi:P.info? e=some i){base:Option Addr}{d b:Nat}{x:Value}(hs:Src P i.size j x 0 [] w)(f:d<=b):
  (Builtin.append_ #[t,j] ty #[.slice base d b,x]).run P w= .ok (.slice base d b) w:=by
 have m:∀a:Addr,(storeCells a []).run P w= .ok () w:=λa=>by simp [storeCells]
 cases base <;> rcases hs.kind with⟨l,g⟩ | g <;> simp [Builtin.append_,run_underlying k,run_underlying g,sizeOf,typeInfo,hi,hs.len,f,hs.cells,storeCells]
structure Ad (P:Program) (t tx e:TypeId) (i:TypeInfo) (x:Value) (n:Nat) (news:List Value) (w:World):Prop where
 newsLen:news.length=n * i.size
 one:∀u∈news,u.oneCell'=true
 idle:n=0->∀(ty:TypeId) (base:Option Addr) (sLen sCap:Nat),sLen<=sCap->(Builtin.append_ #[t,tx] ty #[.slice base sLen sCap,x]).run P w= .ok (.slice base sLen sCap) w
 lj:∀(ty:TypeId) (b off sLen sCap:Nat) (arr:Array Value) (tt:TypeId),w.heap[b]? =some (.cells arr tt (0,0))->sLen+n<=sCap->off+sCap * i.size<=arr.size->
  (Builtin.append_ #[t,tx] ty #[.slice (some ⟨b,off,none⟩) sLen sCap,x]).run P w= .ok (.slice (some ⟨b,off,none⟩) (sLen+n) sCap) (w.setRow b (bQ (off+sLen * i.size) news arr.toList).toArray)
 grow:∀(ty:TypeId) (z:Value) (base:Option Addr) (sLen sCap:Nat) (olds:List Value),i.zero=some z->(Builtin.firstCells i.size sLen (.slice base sLen sCap)).run P w.drew= .ok olds.toArray w.drew->sCap < sLen+n->
  ((sLen+n:Nat):Int)<=9223372036854775807->Builtin.nextslicecap (sLen+n) sCap * i.bytes<=281474976710656->
  (Builtin.append_ #[t,tx] ty #[.slice base sLen sCap,x]).run P w=
   .ok (.slice (some ⟨w.heap.size,0,none⟩) (sLen+n) (grownCap w (sLen+n) sCap e))
    (w.drew.alloc (.cells ((olds++news).toArray++Builtin.zeroCells z.cells (grownCap w (sLen+n) sCap e - (sLen+n))) e))
theorem Ad.tT{t tx e:TypeId}{i:TypeInfo}{x:Value}{n:Nat}{news:List Value}(ht:P.underlying t=some (.slice e))(hi:P.info? e=some i)(hs:Src P i.size tx x n news w):Ad P t tx e i x n news w where
 newsLen:=hs.newsLen
 one:=hs.one
 idle:=by intro h ty base sLen sCap hr;subst h;have:news= []:=RN.1 (by rw [hs.newsLen];simp);subst this;exact OU ht hi hs hr
 lj:=λty b off sLen sCap arr tt hb hr hf=>OV ht hi hb hs hr hf
 grow:=λty z base sLen sCap olds hz ho hg h63 hf=>run_append_grow_src w t tx ty e i z ht hi hz base sLen sCap olds ho x n news hs hg h63 hf
theorem Rm{z:Array Value}{sz:Nat}(hz:z.size=sz)(n:Nat):(Builtin.zeroCells z n).toList= (List.replicate n z.toList).flatten:=by
 apply TV;intro p;by_cases d:p < n * sz
 .have h1:((List.replicate n z.toList).flatten).length=n * sz:=by simp [hz]
  have a:((List.replicate n z.toList).flatten)[p]? =some ((List.replicate n z.toList).flatten[p]'(by omega)):=Rv _;rw [a];have b:=A6 (zv:=z) hz n n (RI _) p _ a;rw [<-b,Sl];simp [madeCells,Builtin.zeroCells,hz]
 .have h1:((List.replicate n z.toList).flatten).length=n * sz:=by simp [hz]
  have a:(Builtin.zeroCells z n).toList.length=n * sz:=by rw [RR,size_zeroCells,hz]
  rw [Sh (by omega),Sh (by omega)]
theorem N2{n:Int}(a: 0<=n)(h1:n<=4294967296):i64.wrap n=n:=by rw [IntKind.wrap_i64];omega
theorem Ad.N3{t N e:TypeId}{i:TypeInfo}{zv:Value}{ki:IntKind}{n:Int}(B:P.underlying t=some (.slice e))(x:P.underlying N=some (.int ki))(hi:P.info? e=some i)(hz:i.zero=some zv)(E:zv.cells.size=i.size)(hb:i.bytes<=8192)
  (Q: 0<=n) (h1:n<=4294967296) (I:∀u∈zv.cells.toList,u.oneCell'=true):Ad P t N e i (.int .i64 n) n.toNat (List.replicate n.toNat zv.cells.toList).flatten w:=by
 have C:=N2 Q h1;have m:¬(n < 0):=by omega
 have f:¬(281474976710656 < n * (i.bytes:Int)):=by have W:n * (i.bytes:Int)<=4294967296 * 8192:=Int.le_trans (R2 h1 (by omega)) (RG (by omega) (by omega));omega
 have M:(List.replicate n.toNat zv.cells.toList).flatten.length=n.toNat * i.size:=by simp [E]
 have one:∀u∈(List.replicate n.toNat zv.cells.toList).flatten,u.oneCell'=true:=by intro u H;obtain⟨l,K,H⟩:=List.mem_flatten.1 H;rw [List.mem_replicate] at K;obtain⟨_,rfl⟩:=K;exact I u H
 have U:=Rm E n.toNat
 have F:Builtin.zeroCells zv.cells n.toNat= (List.replicate n.toNat zv.cells.toList).flatten.toArray:=by rw [<-U]
 have aT:n.toNat * i.size=0->(List.replicate n.toNat zv.cells.toList).flatten= []:=λh=>RN.1 (by rw [M,h]);refine⟨M,one, ?_, ?_, ?_⟩
 .intro h ty base d j S;have R:∀a:Addr,(storeCells a []).run P w= .ok () w:=λa=>by simp [storeCells]
  cases base <;> simp [Builtin.append_,run_underlying B,run_underlying x,sizeOf,typeInfo,hi,asInt,asIntOf,C,m,f,h,S,R]
 .intro ty b off d j arr tt J k G;have hm:(d+n.toNat) * i.size<=j * i.size:=Sc _ k;have e:(d+n.toNat) * i.size=d * i.size+n.toNat * i.size:=TO _ _ _;have o:=run_storeCells_at P b (off+d * i.size) tt (List.replicate n.toNat zv.cells.toList).flatten 0 arr w J (by omega) one;simp only [Uj] at o;by_cases g:n.toNat * i.size=0
  .have:=aT g;rw [this] at o⊢;simp [Builtin.append_,run_underlying B,run_underlying x,sizeOf,typeInfo,hi,asInt,asIntOf,C,m,f,k,g,gJ,o,bQ]
  .simp [Builtin.append_,run_underlying B,run_underlying x,sizeOf,typeInfo,zeroValue,hi,hz,asInt,asIntOf,C,m,f,k,g,F,gJ,o,bQ]
 .intro ty z base d j T D y X V G;rw [hz] at D;cases D;have L:¬(d+n.toNat<=j):=by omega
  have q:¬(9223372036854775807 < ((d:Int)+ (n.toNat:Int))):=by omega
  have v:¬(9223372036854775807 < ((d:Int)+max n 0)):=by omega
  have r:¬(i64.max < ((d:Int)+ (n.toNat:Int))):=by simp only [IntKind.max,IntKind.bits,IntKind.signed];omega
  have p:¬(281474976710656 < Builtin.nextslicecap (d+n.toNat) j * i.bytes):=by omega
  by_cases g:n.toNat * i.size=0
  .have:=aT g;rw [this];simp [Builtin.append_,run_underlying B,run_underlying x,sizeOf,typeInfo,zeroValue,hi,hz,asInt,asIntOf,C,m,f,L,q,v,r,p,Question.forced,g,y,newRow,grownCap]
  .simp [Builtin.append_,run_underlying B,run_underlying x,sizeOf,typeInfo,zeroValue,hi,hz,asInt,asIntOf,C,m,f,L,q,v,r,p,Question.forced,g,F,y,newRow,grownCap];congr 2;apply TQ;simp [R6]
theorem Gm{n m:Int}(h:cv n m=some ()): 0<=n/\n<=m/\m<=fV:=by
 unfold cv at h;split at h
 .assumption
 .simp at h
theorem Jz{R:Type}{t N e:TypeId}{sz:Nat}{z:List T}{ti:TypeInfo}{y:AV}{Q:Value}{K:List (List T)->Option R}{r:R}(hs:HS c w s.h ρ O)(m:P.underlying N=some (.slice e))(f:P.info? e=some ti)(k:ti.size=sz)(hz:jq P e=some z)(J:z.length=sz)(G:P.bytesOf e<=8192)(hy:ak w (AA c w O) ρ y Q)(d:lW P s t sz z y K=some r):
  ∃E vss,K E=some r/\Ad P N t e ti Q E.length vss.flatten w/\ct w (AA c w O) sz E vss:=by
 subst k;unfold lW at d;split at d
 .rename_i e' i;obtain⟨x,q,d⟩:=Rq.1 d;replace d:=aK d (.inl rfl);obtain⟨p,W,d⟩:=d;rcases Iw hs hy q W with⟨e,h⟩ | ⟨ah,off,cap,rfl,g⟩
  .rw [e] at d;refine⟨[],[],d, ?_,rfl⟩;rcases h with rfl | ⟨a,cap,rfl⟩
   .exact .tT m f (Src.ofNil w i 0)
   .exact .tT m f (Src.ofSlice w i a 0 cap [] (by simp) (by simp) (by simp))
  .obtain⟨vss,h1,B⟩:=g.bc;obtain⟨l1,Y⟩:=h1.length;exact⟨p.2,vss,d, .tT m f (Src.ofSlice w i ⟨ah,off,none⟩ _ cap _ (by rw [Y]) (λj u U=>by rw [gJ];exact B j u U) (λu i=>(h1.one u i).1)),h1⟩
 .rename_i i;split at d
  .rename_i k;obtain⟨x,q,d⟩:=Rq.1 d;replace d:=aK d (.inl rfl);obtain⟨b,hb,d⟩:=d;have:=T.jR hb;subst this;rw [AV.lN q] at hy;simp only [ak,aw] at hy;subst hy;have flat:∀l:List Value,(l.map λv=> [v]).flatten=l:=by intro l;induction l <;> simp_all
   refine⟨_,((b.data.toList.map λb=>Value.int .u8 b.toNat).map λv=> [v]),d, ?_, ?_⟩
   .rw [flat,SI];have:=Src.ofString (P:=P) w i b;have e:b.data.toList.length=b.size:=by rw [RR];rfl
    rw [e];exact .tT m f (by rw [k];exact this)
   .have F:∀l:List UInt8,ct w (AA c w O) 1 (l.map λu=> [T.int .u8 u.toNat]) ((l.map λb=>Value.int .u8 b.toNat).map λv=> [v]):=by
     intro l;induction l with
     | nil=>rfl
     | cons u l X=>exact⟨_,_,rfl,rfl,⟨_,[],rfl,gg _ _ _ _,rfl⟩,X⟩
    rw [k];exact F _
  .simp at d
 .rename_i ki i;obtain⟨x,q,d⟩:=Rq.1 d;replace d:=aK d (.inl rfl);obtain⟨n,V,d⟩:=d;replace d:=aK d (.inl rfl);obtain⟨_,hb,d⟩:=d;have:=T.fS V;subst this;obtain⟨S,_,B⟩:=Gm hb;rw [AV.lN q] at hy;simp only [ak,aw] at hy;subst hy;obtain⟨Z,zv,o,M,H⟩:=nM hz;rw [f] at o;cases o;have D:aN w (AA c w O) z zv.cells.toList:=oH H;have L:zv.cells.size=ti.size:=by
   have:=D.length;rw [RR] at this;omega
  have I:=ct.replicate D J n.toNat
  have C:ti.bytes<=8192:=by simpa [Program.bytesOf,f] using G
  refine⟨_,_,d, ?_,I⟩;rw [Td];exact .N3 m i f M L C S (by simpa [fV] using B) (λu i=>(D.one u i).1)
 .simp at d
theorem AJ(z:Array Value)(l:List Value)(k:Nat):∀(p:Nat) (v:Value),l[p]? =some v->(l.toArray++Builtin.zeroCells z k)[p]? =some v:=by intro p v b;have a:=(Rz.1 b).1;rw [Array.getElem?_append_left (by simpa using a)];simpa using b
theorem Au{bs n:Nat}(h:oe bs n)(hb:bs<=8192):n * bs<=140737488355328:=by
 rcases h with h | ⟨_,h⟩
 .have:n * bs<=4294967296 * 8192:=UD h hb;omega
 .exact h
theorem Aw{bs n:Nat}(h:oe bs n):n<=140737488355328:=by
 rcases h with h | ⟨a,h⟩
 .have:n<=4294967296:=h;omega
 .exact R4 (Nat.le_mul_of_pos_right n a) h
theorem C8{t tx ty e:TypeId}{ti:TypeInfo}{zs:List T}{y:Value}{i i':Id}{b:Bool}{xs d:List (List T)}{vss:List (List Value)}{base:Option Addr}{cap:Nat}
  (hs:HS c w h ρ O) (hi:h i≠none) (D:h i'=none) (ht:P.underlying t=some (.slice e)) (hz:jq P e=some zs) (hzl:zs.length=P.cellsOf e) (hby:P.bytesOf e<=8192)
  (V:oe (P.bytesOf e) (xs.length+d.length)) (hcap:xs.length<=cap) (Y:base=none↔b=true) (E:True)
  (x:cap=0\/∃ah off arr tt,base=some ⟨ah,off,none⟩/\O i=some ah/\w.heap[ah]? =some (.cells arr tt (0,0))/\off+cap * P.cellsOf e<=arr.size/\aU w (AA c w O) ah (P.cellsOf e) off xs)
  (J:P.info? e=some ti) (src:Ad P t tx e ti y d.length vss.flatten w) (C:ct w (AA c w O) (P.cellsOf e) d vss) (hrl:i'.real=true:=by rfl):
  ∃v w' ρ' O',(Builtin.append_ #[t,tx] ty #[.slice base xs.length cap,y]).run P w= .ok v w'/\Le w ρ O w' ρ' O'/\ρ' i'=some v/\
   HS c w' (aA (aA h i' (some (.sl false (P.cellsOf e) (b && d.isEmpty) (xs++d)))) i (some .dead)) ρ' O':=by
 obtain⟨ti',zv,K,hzv,hof⟩:=nM hz;rw [J] at K;cases K;have n:P.cellsOf e=ti.size:=by simp [Program.cellsOf,J]
 have hne:i'≠i:=λe=>hi (e▸D);obtain⟨l1,l2⟩:=C.length;by_cases r:xs.length+d.length<=cap
 .rcases x with x | ⟨ah,off,arr,tt,rfl,N,hb,o,B⟩
  ·
   subst x;have W:xs= []:=RN.1 (by omega);have ey:d= []:=RN.1 (by omega);subst W;subst ey;have ev:vss= []:=by simpa using l1
   subst ev;obtain⟨G,H⟩:=HS.move (hrl:=hrl) (w':=w) hs hi D (.slice base 0 0) none rfl rfl rfl (RI _) (λ_ _ _=>rfl) (.inl rfl) (.sl false (P.cellsOf e) (b && true) []) (by
    refine⟨_,by rw [aC];rfl,⟨base,0,rfl,by simp, ?_,E, .inl rfl⟩,by simp⟩;simpa using Y)
   refine⟨_,w,_,_, ?_,G,by rw [aC],by simpa using H⟩;exact src.idle rfl ty base 0 0 (RI _)
  ·
   rw [n] at o;have M:=src.lj ty ah off xs.length cap arr tt hb r o;have Q:∀k,k < w.heap.size->O i≠some k->(w.setRow ah (bQ (off+xs.length * ti.size) vss.flatten arr.toList).toArray).heap[k]? =w.heap[k]?:=λk _ X=>setRow_other w ah k _ (λe=>X (e▸N));have L:off+xs.length * ti.size+vss.flatten.length<=arr.toList.length:=by have l3:arr.toList.length=arr.size:=RR;rw [l2,n,l3];have hm:(xs.length+d.length) * ti.size<=cap * ti.size:=Sc _ r;rw [TO] at hm;omega
   obtain⟨G,H⟩:=HS.move (hrl:=hrl) (w':=w.setRow ah (bQ (off+xs.length * ti.size) vss.flatten arr.toList).toArray) hs hi D (.slice (some ⟨ah,off,none⟩) (xs.length+d.length) cap) (O i) rfl rfl rfl (by rw [pY];exact RI _) Q (.inr (.inl rfl))
    (.sl false (P.cellsOf e) (b && d.isEmpty) (xs++d)) (by
     refine⟨_,by rw [aC],⟨some ⟨ah,off,none⟩,cap,by simp,by simpa using r, ?_,E, .inr ⟨ah,off,_,tt,rfl, ?_,setRow_heap w ah arr _ tt (0,0) hb, ?_, ?_⟩⟩,by simp⟩
     .have:b=false:=by cases b <;> simp_all
      simp [this]
     .simpa using N
     .simp only [SY];rw [pW _ _ _ L,n];simpa using o
     .have u:∀p,(w.setRow ah (bQ (off+xs.length * ti.size) vss.flatten arr.toList).toArray).cell? ⟨ah,p,none⟩=if off+xs.length * ti.size<=p/\p < off+xs.length * ti.size+vss.flatten.length then vss.flatten[p - (off+xs.length * ti.size)]? else w.cell? ⟨ah,p,none⟩:=by
       intro p;rw [sX hb,T8,rO _ _ _ L,ke hb];simp
      have I:∀m,AA c w O m->AA c (w.setRow ah (bQ (off+xs.length * ti.size) vss.flatten arr.toList).toArray) (aA (aA O i none) i' (O i)) m/\(w.setRow ah (bQ (off+xs.length * ti.size) vss.flatten arr.toList).toArray).heap[m]? =w.heap[m]?:=by
       intro m g;refine⟨⟨g.1,by rw [pY];exact g.2.1,λj l=> ?_⟩,setRow_other w ah m _ (λe=>g.2.2 i (e▸N))⟩;by_cases z:j=i'
       .subst z;rw [aC] at l;exact g.2.2 i l
       .rw [aq _ _ z] at l;by_cases F:j=i
        .subst F;rw [aC] at l;cases l
        .rw [aq _ _ F] at l;exact g.2.2 j l
      refine aU.append (aU.cells I (λp h1 h2=> ?_) B) ?_
      .rw [n] at h2;rw [u,if_neg (by omega)]
      .refine aU.kB (ct.mono I C) (λp v S=> ?_);have hlt:=(Rz.1 S).1;rw [n,u,if_pos (by omega),show off+xs.length * ti.size+p - (off+xs.length * ti.size)=p by omega];exact S)
   exact⟨_,_,_,_,M,G,by rw [aC],H⟩
 ·
  have R:(xs.length+d.length) * ti.bytes<=140737488355328:=by
   have z:P.bytesOf e=ti.bytes:=by simp [Program.bytesOf,J]
   rw [<-z];exact Au V hby
  have Z:∃f:List (List Value),ct w (AA c w O) (P.cellsOf e) xs f/\(Builtin.firstCells ti.size xs.length (.slice base xs.length cap)).run P w.drew= .ok f.flatten.toArray w.drew:=by
   rcases x with x | ⟨ah,off,arr,tt,rfl,N,hb,o,B⟩
   .have W:xs= []:=RN.1 (by omega);subst W;refine⟨[],rfl, ?_⟩;cases base with
    | none=>exact run_firstCells_none w.drew _ _ _ _
    | some a=>exact run_firstCells_some w.drew _ 0 a _ _ [] (by simp) (by simp)
   .obtain⟨f,k1,k2⟩:=B.bc;refine⟨f,k1, ?_⟩;obtain⟨m1,m2⟩:=k1.length;exact run_firstCells_some w.drew _ _ _ _ _ _ (by rw [m2,n]) (λj v l=>by rw [gJ];simpa using k2 j v l)
  obtain⟨f,U,ho2⟩:=Z;have q:cap < xs.length+d.length:=by omega
  have M:=src.grow ty zv base xs.length cap f.flatten hzv ho2 q (by have:=Aw V;omega) (growslice_fits q R);obtain⟨m1,m2⟩:=U.length;have hzs:zv.cells.size=ti.size:=by have:=(oH (w:=w) (A:=AA c w O) hof).length;rw [RR] at this;rw [this,hzl,n]
  have ys0:d.isEmpty=false:=by
   cases d with
   | nil=>simp at q;omega
   | cons=>rfl
  have hge:=grownCap_ge w (xs.length+d.length) cap e;obtain⟨G,H⟩:=HS.move (hrl:=hrl) (w':=w.drew.alloc (.cells ((f.flatten++vss.flatten).toArray++Builtin.zeroCells zv.cells (grownCap w (xs.length+d.length) cap e - (xs.length+d.length))) e)) hs hi D
   (.slice (some ⟨w.heap.size,0,none⟩) (xs.length+d.length) (grownCap w (xs.length+d.length) cap e)) (some w.heap.size) rfl rfl rfl (by simp) (λk X _=>R9 w.drew _ k X) (.inr (.inr ⟨rfl,by simp⟩))
   (.sl false (P.cellsOf e) (b && d.isEmpty) (xs++d)) (by
    refine⟨_,by rw [aC],⟨some ⟨w.heap.size,0,none⟩,grownCap w (xs.length+d.length) cap e,by simp,by simpa using hge,by simp [ys0],trivial, .inr ⟨w.heap.size,0,_,e,rfl,by simp,ko (w:=w.drew) _, ?_, ?_⟩⟩,by simp⟩
    .simp only [U3,SY,Sw,m2,l2,size_zeroCells,hzs,n,<-TO,RY];exact Sc _ (by omega)
    .have I:∀m,AA c w O m->AA c (w.drew.alloc (.cells ((f.flatten++vss.flatten).toArray++Builtin.zeroCells zv.cells (grownCap w (xs.length+d.length) cap e - (xs.length+d.length))) e)) (aA (aA O i none) i' (some w.heap.size)) m/\(w.drew.alloc (.cells ((f.flatten++vss.flatten).toArray++Builtin.zeroCells zv.cells (grownCap w (xs.length+d.length) cap e - (xs.length+d.length))) e)).heap[m]? =w.heap[m]?:=by
      intro m g;refine⟨⟨g.1,by have:=g.2.1;simp;omega,λj l=> ?_⟩,R9 w.drew _ m g.2.1⟩;by_cases z:j=i'
      .subst z;rw [aC] at l;cases l;exact TX _ g.2.1
      .rw [aq _ _ z] at l;by_cases F:j=i
       .subst F;rw [aC] at l;cases l
       .rw [aq _ _ F] at l;exact g.2.2 j l
     refine aU.kB (vss:=f++vss) (ct.append (ct.mono I U) (ct.mono I C)) (λp v S=> ?_);refine(ke (w:=w.drew.alloc _) (b:=w.heap.size) (ko (w:=w.drew) _) _).trans ?_;rw [RY];exact AJ _ _ _ p v (by simpa using S))
  exact⟨_,_,_,_,M,G,by rw [aC],H⟩
theorem Jv{t W ty e:TypeId}{ti:TypeInfo}{Y:List T}{y H:Value}{i':Id}{b:Bool}{g:List (List T)}{vss:List (List Value)}
  (hs:HS c w h ρ O) (B:h i'=none) (ht:P.underlying t=some (.slice e)) (hz:jq P e=some Y) (R:Y.length=P.cellsOf e) (J:P.bytesOf e<=8192)
  (C:oe (P.bytesOf e) g.length) (Q:aw w A (.aT b) H)
  (m:P.info? e=some ti) (src:Ad P t W e ti y g.length vss.flatten w) (l:ct w (AA c w O) (P.cellsOf e) g vss) (hrl:i'.real=true:=by rfl):
  ∃v w' ρ' O',(Builtin.append_ #[t,W] ty #[H,y]).run P w= .ok v w'/\Le w ρ O w' ρ' O'/\ρ' i'=some v/\
   HS c w' (aA h i' (some (.sl false (P.cellsOf e) (b && g.isEmpty) g))) ρ' O':=by
 obtain⟨ti',zv,o,U,M⟩:=nM hz;rw [m] at o;cases o;have D:P.cellsOf e=ti.size:=by simp [Program.cellsOf,m]
 obtain⟨l1,l2⟩:=l.length;obtain⟨base,rfl,F,z⟩:∃base,H= .slice base 0 0/\(base=none↔b=true)/\True:=by
  simp only [aw] at Q;rcases Q with⟨rfl,rfl⟩ | ⟨rfl,ah,off,sp,rfl⟩
  .exact⟨none,rfl,by simp,trivial⟩
  .exact⟨some _,rfl,by simp,trivial⟩
 by_cases E:g= []
 .subst E;have ev:vss= []:=by simpa using l1
  subst ev;have le:Le w ρ O w (aA ρ i' (some (.slice base 0 0))) (aA O i' none):=by
   refine⟨rfl,rfl,rfl,RI _,λj u f=> ?_,λb hb hn=>rfl,λj b f=> ?_⟩
   .by_cases e:j=i'
    .subst e;rw [(hs.cr _ hrl B).1] at f;cases f
    .rw [aq _ _ e];exact f
   .by_cases e:j=i'
    .subst e;rw [aC] at f;cases f
    .rw [aq _ _ e] at f;exact .inl ⟨j,f⟩
  refine⟨.slice base 0 0,w,_,_,src.idle rfl ty base 0 0 (RI _),le,by rw [aC], ?_⟩;have gk:GK w ρ O w (aA ρ i' (some (.slice base 0 0))) (aA O i' none):=λj n=>⟨aq _ _ (aL hrl),aq _ _ (aL hrl),λ_ _=>rfl⟩;refine hs.go le gk (λj b' f=> ?_) (λj K f=> ?_) (λj f=> ?_) (λj n=>by rw [aq _ _ (aL hrl)];exact hs.dF j n) (λj k d f r=> ?_) (λj d f=> ?_)
  .by_cases e:j=i'
   .subst e;rw [aC] at f;cases f;right;refine⟨_,by rw [aC];rfl,⟨base,0,rfl,by simp, ?_,z, .inl rfl⟩,by simp⟩;simpa using F
   .rw [aq _ _ e] at f;exact .inl ⟨f,aq _ _ e,λ_ _=>rfl⟩
  .by_cases e:j=i'
   .subst e;rw [aC] at f;cases f
   .rw [aq _ _ e] at f;rw [aq _ _ e,aq _ _ e];exact hs.cr j K f
  .by_cases e:j=i'
   .subst e;rw [aC] at f;cases f
   .rw [aq _ _ e] at f;exact f
  .by_cases e:j=i'
   .subst e;rw [aC] at f;cases f
   .by_cases I:k=i'
    .subst I;rw [aC] at r;cases r
    .rw [aq _ _ e] at f;rw [aq _ _ I] at r;exact hs.inj j k d f r
  .by_cases e:j=i'
   .subst e;rw [aC] at f;cases f
   .rw [aq _ _ e] at f;exact hs.lt j d f
 .have G: 0 < g.length:=US.2 E;have x:(0+g.length) * ti.bytes<=140737488355328:=by
   have Z:P.bytesOf e=ti.bytes:=by simp [Program.bytesOf,m]
   rw [<-Z,RY];exact Au C J
  have L:(Builtin.firstCells ti.size 0 (.slice base 0 0)).run P w.drew= .ok ([]:List Value).toArray w.drew:=by
   cases base with
   | none=>exact run_firstCells_none w.drew _ _ _ _
   | some a=>exact run_firstCells_some w.drew _ 0 a _ _ [] (by simp) (by simp)
  have V:=src.grow ty zv base 0 0 [] U L (by omega) (by have:=Aw C;omega) (growslice_fits (by omega) x);have S:zv.cells.size=ti.size:=by have:=(oH (w:=w) (A:=AA c w O) M).length;rw [RR] at this;rw [this,R,D]
  have X:g.isEmpty=false:=by
   cases g with
   | nil=>simp at G
   | cons=>rfl
  have hge:=grownCap_ge w (0+g.length) 0 e;have q:Le w ρ O w.drew ρ O:=⟨rfl,rfl,rfl,RI _,λ_ _ h=>h,λ_ _ _=>rfl,λi b h=> .inl ⟨i,h⟩⟩;have N:HS c w.drew h ρ O:=hs.world q λ_ _ _=>rfl;obtain⟨g1,g2⟩:=N.Bh (hrl:=hrl) (sz:=P.cellsOf e) B e (([] ++vss.flatten).toArray++Builtin.zeroCells zv.cells (grownCap w (0+g.length) 0 e - (0+g.length))) (grownCap w (0+g.length) 0 e) (ct.mono (λb hb=>q.A b hb) l)
   (λp v hp=>AJ _ _ _ p v (by simpa using hp)) (by omega) (by
    simp only [U3,SY,Ry,l2,size_zeroCells,S,D,<-TO];exact Sc _ (by omega))
  refine⟨_,_,_,_,V,q.trans g1, ?_, ?_⟩
  .rw [aC,RY];rfl
  .simpa [X] using g2
theorem I4(h:Id->Option ab)(i j:Id)(a b:ab):aJ h [(i,a),(j,b)]=aA (aA h i (some a)) j (some b):=rfl
theorem jC{d:Nat}{us:aG}{k:Nat}{b:ab}(a:iK d h us=true)(hm:(Id.s d k,b)∈us):h (.s d k)=none:=by have:=RK.1 a _ hm;simpa using this
set_option maxHeartbeats 1000000 in
theorem HD{i i' x:Id}{nx:Nat}{v vk:Value}(a:x.real=true)(b:x≠i'):iu ρ i i' nx v vk x=ρ x:=by
 unfold iu;rw [if_neg b];cases x with
 | g y n=>cases a
 | _=>rfl
theorem HC{i i':Id}{nx:Nat}{v vk:Value}:iu ρ i i' nx v vk i'=some v:=by unfold iu;rw [if_pos rfl]
theorem Bw{i i' y:Id}{n nx:Nat}{v vk:Value}(hrl:i'.real=true)(hy:y≠i'):iu ρ i i' nx v vk (.g y n)=ρ (.g y n):=by unfold iu;rw [if_neg (aL hrl)];simp only [if_neg hy]
theorem Bv{i i' j src:Id}{nx:Nat}{ob:Option Nat}(h:src≠i'):eA O i i' j src nx ob src=none:=by unfold eA;rw [if_neg h,if_pos (.inr (.inr rfl))]
theorem Oj{i i' j src x:Id}{nx:Nat}{ob:Option Nat}(a:x.real=true)(b:x≠i')(h1:x≠i)(d:x≠j)(e:x≠src):eA O i i' j src nx ob x=O x:=by
 unfold eA;rw [if_neg b,if_neg (by rintro(h | h | h) <;> contradiction)];cases x with
 | g y n=>cases a
 | _=>rfl
theorem Ok{i i' j src y:Id}{n nx:Nat}{ob:Option Nat}(a:i.real=true)(b:j.real=true)(hrl:i'.real=true)(hy:y≠i')(d:y≠i)(e:Id.g y n≠src):eA O i i' j src nx ob (.g y n)=O (.g y n):=by unfold eA;rw [if_neg (aL hrl),if_neg (by rintro(h | h | h);exact aL a h;exact aL b h;exact e h)];simp only [if_neg hy,if_neg d]
theorem cR.gone{i i' j a:Id}{n nx:Nat}{ob:Option Nat}{v vk:Value}{b:Bool}{sz az rsz K:Nat}{es:List Row}{p:Bool×List (List T)}(hs:HS c w h ρ O)(I:i.real=true)(V:j.real=true)(hrl:i'.real=true)(S:h a=some (.rows b sz az rsz K es))(l:a≠i')(C:a≠i)(U:a≠j)(hf:br n es=some p)
  (R:∀d,AA c w O d->AA c w' (eA O i i' j (.g a n) nx ob) d/\w'.heap[d]? =w.heap[d]?) (r:∀x d,x≠i->O x=some d->w'.heap[d]? =w.heap[d]?):
  cR w' (AA c w' (eA O i i' j (.g a n) nx ob)) (iu ρ i i' nx v vk) (eA O i i' j (.g a n) nx ob) a (.rows b sz az rsz K (dr n none es)):=by
 have G:=hs.real (i:=a) (by rw [S];simp);obtain⟨k,e,B,H,heo,M⟩:=wW hf;obtain⟨a',cap,r1,r2,r3,⟨W,X,n3,n4⟩,N⟩:=hs.ah a _ S;have Q:∀m,m≠n->eA O i i' j (.g a n) nx ob (.g a m)=O (.g a m):=λm hm=>Ok I V hrl l C (by intro h;simp only [Id.g.injEq] at h;exact hm h.2);have J:(.g a n:Id)≠i':=aL hrl;rw [M];have E:(es.set k {e with own:=none}).length=es.length:=by simp
 have F:(es.set k {e with own:=none}).map (·.n)=es.map (·.n):=by
  rw [Uk];refine TV λm=> ?_;rw [SC];split
  .rename_i h;subst h;have:=(Rz.1 B).1;rw [if_pos (by simpa using this)];simp [B]
  .rfl
 refine⟨a',cap,by rw [E,HD G l];exact r1,by rw [E];exact r2,r3,⟨by rw [F];exact W,λf o=> ?_,λm hm=>by rw [Bw hrl l];exact n3 m hm,λm d z=> ?_⟩, ?_⟩
 .rcases RV o with o | rfl
  .exact X f o
  .exact X e (Rt B)
 .by_cases hm:m=n
  .subst hm;rw [Bv J] at z;cases z
  .rw [Q m hm] at z;obtain⟨f,o,D⟩:=n4 m d z;have:m∈(es.set k {e with own:=none}).map (·.n):=by rw [F];exact RU.2 ⟨f,o,D⟩
   obtain⟨f',h1,h2⟩:=RU.1 this;exact⟨f',h1,h2⟩
 .rcases N with N | ⟨ah,off,arr,t,q1,Y,q3,q4,Z⟩
  .exact .inl N
  .have q:w'.heap[ah]? =w.heap[ah]?:=r a ah C Y;refine .inr ⟨ah,off,arr,t,q1,by rw [Oj G l C U (aL G).symm];exact Y,by rw [q];exact q3,q4, ?_⟩;have L:=Z.get B;refine b9.set R (Rz.1 B).1 (λ_ _ _ _=>mK q) (λm f hm o=> ?_) ?_ Z
   .have D:f.n≠n:=λh=>hm (tR W o B (by rw [h,H]));exact⟨Bw hrl l,Q _ D,λd z=>r _ d (aL I) z⟩
   .obtain⟨a1,a2,a3,u,a4,a5,a7⟩:=L;refine⟨a1,a2,λm y hm hy=> ?_,u,by rw [mK q];exact a4,by rw [Bw hrl l];exact a5, ?_⟩
    .obtain⟨u',g1,g2⟩:=a3 m y hm hy;exact⟨u',by rw [mK q];exact g1,aw.mono R y u' g2⟩
    .simp only;rw [H];exact Bv J
theorem C3:∀{cs:List AV} {l:List T},eO cs=some l->l.length=cs.length/\∀(j:Nat) (x:T),l[j]? =some x->cs[j]? =some (AV.t x)
 | [],l,h=>by simp only [eO,Rp] at h;subst h;simp
 | v::cs,l,h=>by
  cases v <;> simp only [eO,reduceCtorEq] at h;rename_i x;obtain⟨e,h1,h⟩:=Rq.1 h;simp only [Rp] at h;subst h;obtain⟨b,d⟩:=C3 h1;refine⟨by simp [b],λj y a=> ?_⟩;cases j with
  | zero=>simpa using a
  | succ j=>simpa using d j y (by simpa using a)
theorem Ju{R:Type}{d:Nat}{t ty tr e e':TypeId}{ti:TypeInfo}{zs:List T}{i j:Id}{b:Bool}{sz az rsz nx:Nat}{es:List Row}{cs:List AV}{vx vy:Value}{K:AV->aG->Option R}{r:R}(hs:HS c w s.h ρ O)
  (ht:P.underlying t=some (.slice e)) (hty:P.underlying ty=some (.slice e')) (hz:jq P e=some zs) (hzl:zs.length=P.cellsOf e) (hby:P.bytesOf e<=8192) (Z:P.info? e=some ti)
  (hi:s.h i=some (.rows b sz az rsz nx es)) (hj:s.h j=some (.arr cs)) (hx:ρ i=some vx) (hy:ρ j=some vy) (f:pq P s d e i sz az rsz nx es j cs K=some r):
  ∃v us,K v us=some r/\(iK d s.h us=true->∃u w' ρ' O',(Builtin.append_ #[t,ty] tr #[vx,vy]).run P w= .ok u w'/\Le w ρ O w' ρ' O'/\HS c w' (aJ s.h us) ρ' O'/\ak w' (AA c w' O') ρ' v u):=by
 obtain⟨ti',zv,hti',hzv,hof⟩:=nM hz;rw [Z] at hti';cases hti';have C:P.cellsOf e=ti.size:=by simp [Program.cellsOf,Z]
 unfold pq at f;split at f
 .rename_i hcond;obtain⟨rfl,c1,c2,c3⟩:=hcond;replace f:=Rq.1 f;obtain⟨l,hl,f⟩:=f;obtain⟨bj,q,tj,h1,h2,h3,h4,h5⟩:=hs.ah j _ hj;rw [hy] at h1;cases h1;obtain⟨a,cap,r1,r2,r3,r4,r5⟩:=hs.ah i _ hi;rw [hx] at r1;cases r1;have hri:=hs.real (i:=i) (by rw [hi];simp);have hrj:=hs.real (i:=j) (by rw [hj];simp);have hnl:q.toList.length=1 * ti.size:=by rw [h4.length,c1,C];omega
  obtain⟨ll,lg⟩:=C3 hl;have src:Ad P t ty e ti (.slice (some ⟨bj,0,none⟩) 1 1) 1 q.toList w:= .tT ht Z (Src.ofSlice w hty ⟨bj,0,none⟩ 1 1 _ hnl (λp u y=>by
   rw [gJ,RY,ke h3];simpa using y) (λu hu=>(h5 u hu).1))
  have G:∀n,bY (P.bytesOf e) n=some ()->oe (P.bytesOf e) n:=by
   intro n hn;unfold bY at hn;split at hn
   .assumption
   .simp at hn
  have key:∀(z s0:Id) (bb:Bool) (xs:List (List T)) (vk:Value) (X:ab),s.h s0≠none->s0≠i->s0≠j->(z=s0\/∃n,z= .g s0 n)->ρ z=some vk->cM w (AA c w O) rsz bb xs vk (λd=>O z=some d)->
    q.toList[az]? =some vk->bY (P.bytesOf e) (es.length+1)=some ()->s.h (.s d 0)=none->
    (∀w' ob v,(∀D,AA c w O D->AA c w' (eA O i (.s d 0) j z nx ob) D/\w'.heap[D]? =w.heap[D]?)->(∀x D,x≠i->O x=some D->w'.heap[D]? =w.heap[D]?)->cR w' (AA c w' (eA O i (.s d 0) j z nx ob)) (iu ρ i (.s d 0) nx v vk) (eA O i (.s d 0) j z nx ob) s0 X)->
    ∃u w' ρ' O',(Builtin.append_ #[t,ty] tr #[.slice a es.length cap, .slice (some ⟨bj,0,none⟩) 1 1]).run P w= .ok u w'/\Le w ρ O w' ρ' O'/\
     HS c w' (aA (aA (aA (aA s.h i (some .dead)) j (some .dead)) s0 (some X)) (.s d 0) (some (.rows false (P.cellsOf e) az rsz (nx+1) (es++ [⟨nx,l,some (bb,xs)⟩])))) ρ' O'/\ak w' (AA c w' O') ρ' (.own (.s d 0)) u:=by
   intro z s0 bb xs vk X q1 q2 q3 q4 q5 q6 q7 Y o hX;have hlr:l.length=P.cellsOf e:=by rw [ll,Sf,c1]
   have hnr:∀m x,m≠az->l[m]? =some x->∃v,q.toList[m]? =some v/\aw w (AA c w O) x v:=by intro m x hm hx;have:=lg m x hx;rw [SC,if_neg (Vp hm)] at this;obtain⟨v,H,I⟩:=h4.get this;exact⟨v,H,by simpa [ak] using I⟩
   by_cases J:es.length+1<=cap
   .rcases r5 with r5 | ⟨ah,off,arr,t',k1,k2,k3,k4,k5⟩
    .omega
    .subst k1;have hm:(es.length+1) * ti.size<=cap * ti.size:=Sc _ J;rw [TO] at hm;rw [C] at k4;have run:=src.lj tr ah off es.length cap arr t' k3 J k4;have lfit:off+es.length * ti.size+q.toList.length<=arr.toList.length:=by rw [hnl,RR (xs:=arr)];omega
     have M:∀p,(w.setRow ah (bQ (off+es.length * ti.size) q.toList arr.toList).toArray).cell? ⟨ah,p,none⟩=if off+es.length * ti.size<=p/\p < off+es.length * ti.size+q.toList.length then q.toList[p - (off+es.length * ti.size)]? else w.cell? ⟨ah,p,none⟩:=by intro p;rw [sX k3,T8,rO _ _ _ lfit,ke k3];simp
     obtain⟨H,I⟩:=HS.HB (i':= .s d 0) (j:=j) (src:=z) (s0:=s0) (bb:=bb) (xs:=xs) (vk:=vk) (X:=X) (ah:=ah) (blk':=ah) (off:=off) (off':=off) (cap':=cap) (ob:=O i) (news:=q.toList) (l:=l) (w':=w.setRow ah (bQ (off+es.length * ti.size) q.toList arr.toList).toArray)
      hs hi o rfl (by rw [hj];simp) (Vp c3) q1 q2 q3 q4 q5 q6 rfl rfl rfl (by rw [pY];exact RI _) (λk _ f=>setRow_other w ah k _ λe=>f (e▸k2)) (.inl rfl) k2 (setRow_heap w ah arr _ t' (0,0) k3) (by rw [SY,pW _ _ _ lfit,C];simpa using k4) J k5
      (λp y=>by rw [C] at y;have y:p < es.length * ti.size:=y;rw [M,if_neg (by omega)]) c2 hlr (λp v y=>by
       have W:=(Rz.1 y).1;rw [C,M,if_pos (by omega),show off+es.length * ti.size+p - (off+es.length * ti.size)=p by omega];exact y) hnr q7
      (λhA=>hX _ _ _ hA λx D hx hd=>setRow_other w ah D _ λe=>hx (hs.inj x i D hd (e▸k2)))
     exact⟨_,_,_,_,run,H,I,by simp only [ak];exact HC⟩
   .have hneed:(es.length+1) * ti.bytes<=140737488355328:=by
     have e1:P.bytesOf e=ti.bytes:=by simp [Program.bytesOf,Z]
     rw [<-e1];exact Au (G _ Y) hby
    have hold:∃(B:List Value) (ah off:Nat),B.length=es.length * ti.size/\(Builtin.firstCells ti.size es.length (.slice a es.length cap)).run P w.drew= .ok B.toArray w.drew/\b9 w (AA c w O) ρ O i ah (P.cellsOf e) az rsz off es/\∀p v,B[p]? =some v->w.cell? ⟨ah,off+p,none⟩=some v:=by
     rcases r5 with r5 | ⟨ah,off,arr,t',k1,k2,k3,k4,k5⟩
     .have ex:es= []:=RN.1 (by omega);subst ex;refine⟨[],0,0,by simp, ?_,trivial,by simp⟩;cases a with
      | none=>exact run_firstCells_none w.drew _ _ _ _
      | some a=>exact run_firstCells_some w.drew _ 0 a _ _ [] (by simp) (by simp)
     .subst k1;have hm:es.length * ti.size<=cap * ti.size:=Sc _ r2;rw [C] at k4;have hlen:((arr.toList.drop off).take (es.length * ti.size)).length=es.length * ti.size:=by rw [So,Tk,RR (xs:=arr)];omega
      have S:∀p v,((arr.toList.drop off).take (es.length * ti.size))[p]? =some v->w.cell? ⟨ah,off+p,none⟩=some v:=by
       intro p v y;rw [T4] at y;split at y
       .rw [T5] at y;rw [ke k3];simpa using y
       .cases y
      refine⟨_,ah,off,hlen, ?_,k5,S⟩;exact run_firstCells_some w.drew _ _ _ _ _ _ hlen (λp v y=>by rw [gJ];simpa using S p v y)
    obtain⟨B,ah,off,ho1,ho2,ho3,ho4⟩:=hold;have U:cap < es.length+1:=by omega
    have run:=src.grow tr zv a es.length cap B hzv ho2 U (by have:=Aw (G _ Y);omega) (growslice_fits U hneed);have hzs:zv.cells.size=ti.size:=by have:=(oH (w:=w) (A:=AA c w O) hof).length;rw [RR] at this;rw [this,hzl,C]
    have hge:=grownCap_ge w (es.length+1) cap e;have Q:∀p v,(B++q.toList)[p]? =some v->(w.drew.alloc (.cells ((B++q.toList).toArray++Builtin.zeroCells zv.cells (grownCap w (es.length+1) cap e - (es.length+1))) e)).cell? ⟨w.heap.size,p,none⟩=some v:=by intro p v y;refine(ke (w:=w.drew.alloc _) (b:=w.heap.size) (ko (w:=w.drew) _) _).trans ?_;exact AJ _ _ _ p v y
    obtain⟨H,I⟩:=HS.HB (i':= .s d 0) (j:=j) (src:=z) (s0:=s0) (bb:=bb) (xs:=xs) (vk:=vk) (X:=X) (ah:=ah) (blk':=w.heap.size) (off:=off) (off':=0) (cap':=grownCap w (es.length+1) cap e) (ob:=some w.heap.size) (news:=q.toList) (l:=l)
     (w':=w.drew.alloc (.cells ((B++q.toList).toArray++Builtin.zeroCells zv.cells (grownCap w (es.length+1) cap e - (es.length+1))) e))
     hs hi o rfl (by rw [hj];simp) (Vp c3) q1 q2 q3 q4 q5 q6 rfl rfl rfl (by simp) (λk f _=>R9 w.drew _ k f) (.inr ⟨rfl,by simp⟩) rfl (ko (w:=w.drew) _) (by
      simp only [U3,SY,Sw,ho1,hnl,size_zeroCells,hzs,C,<-TO,RY];exact Sc _ (by omega)) hge ho3
     (λp y=>by
      rw [C] at y;have y:p < es.length * ti.size:=y;have W:p < B.length:=by omega
      rw [RY,ho4 p _ (Rv W)];exact Q p _ (by rw [SH W];exact Rv W)) c2 hlr (λp v y=>by
      rw [C,RY];refine Q _ v ?_;rw [Sp (by omega),ho1,show es.length * ti.size+p - es.length * ti.size=p by omega];exact y) hnr q7
     (λhA=>hX _ _ _ hA λx D hx hd=>R9 w.drew _ D (hs.lt x D hd))
    exact⟨_,_,_,_,run,H,I,by simp only [ak];exact HC⟩
  split at f
  .rename_i j2 N;split at f
   .rename_i rsz' b' xs E;split at f
    .rename_i hrsz;subst hrsz;replace f:=aK f (.inl rfl);obtain⟨_,Y,f⟩:=f;refine⟨_,_,f,λo=> ?_⟩;have o:=jC o (k:=0) (b:= .rows false (P.cellsOf e) az rsz' (nx+1) (es++ [⟨nx,l,some (b',xs)⟩])) (by simp);obtain⟨vk,v1,L⟩:=h4.get N;simp only [ak] at L;obtain⟨v',s1,s2⟩:=nD hs E;rw [L] at s1;cases s1;have hr2:=hs.real (i:=j2) (by rw [E];simp);have n2:j2≠ .s d 0:=λe=>by rw [e,o] at E;cases E
     obtain⟨u,w',ρ',O',H,I,g3,g4⟩:=key j2 j2 b' xs vk .dead (by rw [E];simp) (λe=>by rw [e,hi] at E;cases E) (λe=>by rw [e,hj] at E;cases E) (.inl rfl) L (by simpa using s2) v1 (by assumption) o
      (λw' ob v hA V=>⟨⟨vk,by rw [HD hr2 n2];exact L,jM hs L⟩,Bv n2⟩)
     exact⟨u,w',ρ',O',H,I,by rw [cX,cX,cX,dH];exact g3,g4⟩
    .simp at f
   .simp at f
  .rename_i a2 n N;split at f
   .rename_i b2 sz2 col2 rsz2 nx2 es2 F;split at f
    .rename_i hc2;obtain⟨rfl,hai⟩:=hc2;replace f:=aK f (.inl rfl);obtain⟨p,y,f⟩:=f;replace f:=aK f (.inl rfl);obtain⟨_,Y,f⟩:=f;refine⟨_,_,f,λo=> ?_⟩;have o:=jC o (k:=0) (b:= .rows false (P.cellsOf e) az rsz2 (nx+1) (es++ [⟨nx,l,some p⟩])) (by simp);obtain⟨vk,v1,L⟩:=h4.get N;simp only [ak] at L;obtain⟨v',s1,s2⟩:=xZ hs F y;rw [L] at s1;cases s1;have n2:a2≠ .s d 0:=λe=>by rw [e,o] at F;cases F
     have n3:a2≠j:=λe=>by rw [e,hj] at F;cases F
     obtain⟨u,w',ρ',O',H,I,g3,g4⟩:=key (.g a2 n) a2 p.1 p.2 vk (.rows b2 sz2 col2 rsz2 nx2 (dr n none es2)) (by rw [F];simp) hai n3 (.inr ⟨n,rfl⟩) L s2 v1 (by assumption) o
      (λw' ob v hA V=>cR.gone hs hri hrj rfl F n2 hai n3 y hA V)
     exact⟨u,w',ρ',O',H,I,by rw [cX,cX,cX,dH];exact g3,g4⟩
    .simp at f
   .simp at f
  .simp at f
 .simp at f
theorem OS{h:Id->Option ab}{x:AV}{q:Id×Nat×Nat×Nat×Nat×List Row}(e:BR h x=some q):x= .own q.1/\∃b,h q.1=some (.rows b q.2.1 q.2.2.1 q.2.2.2.1 q.2.2.2.2.1 q.2.2.2.2.2):=by
 unfold BR at e;split at e
 .split at e
  .rename_i hi;simp only [Rp] at e;subst e;exact⟨rfl,_,hi⟩
  .cases e
 .cases e
theorem N4{h:Id->Option ab}{x:AV}{q:Id×List AV}(e:Bq h x=some q):x= .own q.1/\h q.1=some (.arr q.2):=by
 unfold Bq at e;split at e
 .split at e
  .rename_i hi;simp only [Rp] at e;subst e;exact⟨rfl,hi⟩
  .cases e
 .cases e
theorem Jq{R:Type}{d:Nat}{rw:Bool}{t ty tr:TypeId}{x y:AV}{S Y:Value}{K:AV->aG->Option R}{r:R}(hs:HS c w s.h ρ O)(k:ak w (AA c w O) ρ x S)(hy:ak w (AA c w O) ρ y Y)
  (f:jZ P s d rw t ty x y K=some r):
  ∃v us,K v us=some r/\(iK d s.h us=true->∃u w' ρ' O',(Builtin.append_ #[t,ty] tr #[S,Y]).run P w= .ok u w'/\Le w ρ O w' ρ' O'/\HS c w' (aJ s.h us) ρ' O'/\ak w' (AA c w' O') ρ' v u):=by
 unfold jZ at f;replace f:=Rq.1 f;obtain⟨e,he,f⟩:=f;replace f:=Rq.1 f;obtain⟨zs,hz,f⟩:=f;obtain⟨I,hok⟩:=wN he;split at f
 .rename_i M;obtain⟨q,B⟩:=M;obtain⟨ti0,_,l,_,_⟩:=nM hz;split at f
  .rename_i i sz az rsz nx es j cs p D;cases rw with
   | false=>cases p
   | true=>
   obtain⟨rfl,b,hi⟩:=OS p;obtain⟨rfl,hj⟩:=N4 D;simp only [ak] at k hy;split at f
   .rename_i e' hu';exact Ju hs I hu' hz B q l hi hj k hy f
   .cases f
  rename_i hnr;clear hnr;replace f:=Jz hs I l (by simp [Program.cellsOf,l]) hz B q hy f;obtain⟨Z,vss,f,src,E⟩:=f;have m:∀n,bY (P.bytesOf e) n=some ()->oe (P.bytesOf e) n:=by
   intro n W;unfold bY at W;split at W
   .assumption
   .simp at W
  clear he hok;revert f;rcases x with _ | z | _ | _ | _ | _ | i | ⟨i,sz'',off,n⟩ | _ | _ | _ <;> intro f <;> (try dsimp only at f) <;> (try cases f)
  case own=>
   split at f
   .rename_i sz' b xs hi;split at f
    .rename_i H;subst H;replace f:=aK f (.inl rfl);obtain⟨_,hb,f⟩:=f;refine⟨_,_,f,λg=> ?_⟩;have g:=jC g Rs;obtain⟨v',V,a,cap,q1,q2,q3,q4,G⟩:=nD hs hi;simp only [ak] at k;rw [V] at k;simp only [Rp] at k;subst k;subst q1;obtain⟨v,w',ρ',O',p,D,e3,e4⟩:=C8 (ty:=tr) hs (by rw [hi];simp) g I hz B q (m _ hb) q2 q3 q4 (by
      rcases G with G | ⟨ah,off,arr,tt,J,k2,k3,Q,k5⟩
      .exact .inl G
      .exact .inr ⟨ah,off,arr,tt,J,by simpa using k2,k3,Q,k5⟩) l src E
     exact⟨v,w',ρ',O',p,D,by rw [I4];exact e4,by simp only [ak];exact e3⟩
    .simp at f
   .simp at f
  case part=>
   split at f
   .rename_i sz' b xs hi;split at f
    .rename_i H;obtain⟨rfl,rfl⟩:=H;replace f:=aK f (.inl rfl);obtain⟨_,hb,f⟩:=f;refine⟨_,_,f,λg=> ?_⟩;have g:=jC g Rs;obtain⟨v',V,a,cap,q1,q2,q3,q4,G⟩:=nD hs hi;simp only [ak] at k;obtain⟨a1,L,C,a',J,k2,k3,rfl,Q⟩:=k;rw [V] at J;simp only [Rp] at J;subst J;simp only [SD] at q1;obtain⟨rfl,rfl,rfl⟩:=q1;have F:((xs.drop off).take n).length=n:=by simp only [So,Tk];omega
     have X:a'=none↔b=true:=by
      rw [<-q3];rcases Q with⟨_,rfl⟩ | ⟨_,e5,_⟩ | ⟨T,o,rfl,rfl⟩
      .exact Vo
      .exact e5
      .simp
     have N:True:=trivial;obtain⟨v,w',ρ',O',p,D,e3,e4⟩:=C8 (ty:=tr) (xs:=(xs.drop off).take n) (base:=a') (cap:=C - off) hs (by rw [hi];simp) g I hz B q (by rw [F];exact m _ hb) (by rw [F];omega) X N (by
      rcases G with G | ⟨ah,off',arr,tt,j1,j2,j3,j4,j5⟩
      .exact .inl (by omega)
      .subst j1;rcases Q with⟨rfl,rfl⟩ | ⟨rfl,_⟩ | ⟨T,o,e5,rfl⟩
       .exact .inr ⟨ah,off',arr,tt,rfl,by simpa using j2,j3,by simpa using j4,by simpa using j5.take n⟩
       .exact .inl (by omega)
       .simp only [Rp,Ss] at e5;obtain⟨rfl,rfl,_⟩:=e5;refine .inr ⟨ah,_,arr,tt,rfl,by simpa using j2,j3, ?_,(j5.drop off).take n⟩;have:(C - off) * P.cellsOf e+off * P.cellsOf e=C * P.cellsOf e:=by rw [<-TO];congr 1;omega
        omega) l src E
     rw [F] at p;exact⟨v,w',ρ',O',p,D,by rw [I4];exact e4,by simp only [ak];exact e3⟩
    .simp at f
   .simp at f
  case t=>
   have U:∀b,aw w (AA c w O) (.aT b) S->(aa none (bY (P.bytesOf e) Z.length) λ_=>K (.own (.s d 0)) [(.s d 0, .sl false (P.cellsOf e) (b && Z.isEmpty) Z)])=some r->
     ∃v us,K v us=some r/\(iK d s.h us=true->∃u w' ρ' O',(Builtin.append_ #[t,ty] tr #[S,Y]).run P w= .ok u w'/\Le w ρ O w' ρ' O'/\HS c w' (aJ s.h us) ρ' O'/\ak w' (AA c w' O') ρ' v u):=by
    intro b k f;replace f:=aK f (.inl rfl);obtain⟨_,hb,f⟩:=f;refine⟨_,_,f,λg=> ?_⟩;have g:=jC g Rs;obtain⟨v,w',ρ',O',p,D,e3,e4⟩:=Jv (ty:=tr) hs g I hz B q (m _ hb) k l src E;exact⟨v,w',ρ',O',p,D,by rw [dH];exact e4,by simp only [ak];exact e3⟩
   simp only [ak] at k;replace f:=Rq.1 f;obtain⟨b,hb,f⟩:=f;refine U b ?_ f;unfold GQ at hb;split at hb
   .simp only [Rp] at hb;subst hb;exact k
   .rename_i sz T xs;cases h:(T && xs.isEmpty) with
    | false=>rw [h] at hb;simp at hb
    | true=>
     rw [h] at hb;simp only [cond_true,Rp] at hb;subst hb;simp only [Rw,U8] at h;simp only [aw] at k⊢;rcases k with⟨_,_,h1⟩ | ⟨h1,_⟩
     .exact .inl ⟨trivial,h1⟩
     .rw [h.1] at h1;cases h1
   .cases hb
 .simp at f
theorem Nj{zv:Array Value}{sz:Nat}(hz:zv.size=sz)(n:Nat):(madeCells zv (n * sz)).toList= (List.replicate n zv.toList).flatten:=by
 refine TV λp=> ?_;by_cases a:p < n * sz
 .have h1:p < (List.replicate n zv.toList).flatten.length:=by simpa [hz] using a
  have:=A6 hz n n (RI _) p _ (Rv h1);rw [Sl,this,Rv h1]
 .rw [Sh (by simp [madeCells];omega),Sh (by simp [hz];omega)]
theorem GR{rsz:Nat}{i:Id}{ah:Nat}:∀{k n base:Nat},(∀m,m < n->w.cell? ⟨ah,base+m,none⟩=some (.slice none 0 0))->(∀m,k<=m->m < k+n->ρ (.g i m)=some (.slice none 0 0))->
  b9 w A ρ O i ah 1 0 rsz base ((List.range' k n).map λk=>⟨k,[.aD],some (true,[])⟩)
 | k,0,base,_,_=>trivial
 | k,n+1,base,a,b=>by
  rw [Ui,RX];refine⟨⟨rfl,by omega,λj x f d=> ?_,_,a 0 (by omega),b k (by omega) (by omega),⟨none,0,rfl,by simp,by simp,trivial, .inl rfl⟩⟩,GR (λm hm=> ?_) (λm h1 e=>b m (by omega) (by omega))⟩
  .have:j < 1:=by simpa using (Rz.1 d).1
   omega
  .have:=a (m+1) (by omega);rw [show base+1+m=base+ (m+1) by omega];exact this
theorem HS.NS{i:Id}{N cap rsz:Nat}{cells:Array Value}(hs:HS c w h ρ O)(hi:h i=none)(t:TypeId)(F:∀p,p < N->cells[p]? =some (.slice none 0 0))(J:cap<=cells.size)(E:N<=cap)(hrl:i.real=true:=by rfl):
  ∃ρ' O',Le w ρ O (w.alloc (.cells cells t)) ρ' O'/\HS c (w.alloc (.cells cells t)) (aA h i (some (.rows false 1 0 rsz N (pQ N)))) ρ' O'/\ρ' i=some (.slice (some ⟨w.heap.size,0,none⟩) N cap):=by
 let V:Id->Option Value:=λx=>if x=i then some (.slice (some ⟨w.heap.size,0,none⟩) N cap) else match x with
  | .g y n=>if y=i then(if n < N then some (.slice none 0 0) else none) else ρ (.g y n)
  | x=>ρ x
 have B:V i=some (.slice (some ⟨w.heap.size,0,none⟩) N cap):=by simp only [V,if_true]
 have C:∀x,x.real=true->x≠i->V x=ρ x:=by
  intro x l a;simp only [V,if_neg a];cases x with
  | g y n=>cases l
  | _=>rfl
 have q:∀y n,y≠i->V (.g y n)=ρ (.g y n):=by intro y n hy;simp only [V,if_neg (aL hrl),if_neg hy]
 have z:∀n,V (.g i n)=if n < N then some (.slice none 0 0) else none:=by intro n;simp only [V,if_neg (aL hrl),if_true]
 have D:∀n,O (.g i n)=none:=λn=>(hs.fj i n hi).2;have le:Le w ρ O (w.alloc (.cells cells t)) V (aA O i (some w.heap.size)):=by
  refine⟨rfl,rfl,rfl,by simp,λx u a=> ?_,λd j _=>R9 _ _ _ j,λx d a=> ?_⟩
  .cases l:x.real with
   | true=>
    have:x≠i:=λe=>by rw [e,(hs.cr i hrl hi).1] at a;cases a
    rw [C x l this];exact a
   | false=>
    cases x with
    | g y n=>
     have:y≠i:=λe=>by rw [e,(hs.fj i n hi).1] at a;cases a
     rw [q y n this];exact a
    | _=>cases l
  .by_cases e:x=i
   .rw [e,aC] at a;cases a;exact .inr (RI _)
   .rw [aq _ _ e] at a;exact .inl ⟨x,a⟩
 have v:(pQ N).length=N:=by simp [pQ]
 refine⟨V,_,le,hs.oh le (λx y a=> ?_) (λx l a=> ?_) (λx n=>by rw [aq _ _ (aL hrl)];exact hs.dF x n) (λx n a=> ?_) (λx n u o=> ?_) (λx y d a hy=> ?_) (λx d a=> ?_),B⟩
 .by_cases e:x=i
  .subst e;rw [aC] at a;cases a;right;refine⟨_,cap,by rw [v];exact B,by rw [v];exact E,by simp,⟨?_,λf G=> ?_,λn K=>by rw [z,if_neg (by omega)],λn d j=> ?_⟩, .inr ⟨w.heap.size,0,cells,t,rfl,by rw [aC],ko _,by omega, ?_⟩⟩
   .have:(pQ N).map (·.n)=List.range N:=by
     unfold pQ;rw [Ul];exact List.map_id _
    rw [this];exact List.nodup_range
   .obtain⟨k,H,rfl⟩:=RU.1 G;simpa using H
   .rw [aq _ _ (aL hrl),D] at j;cases j
   .unfold pQ;rw [UK];refine GR (λm hm=> ?_) (λm _ hm=>by rw [z,if_pos (by omega)]);rw [ke (ko _),RY];exact F m hm
  .rw [aq _ _ e] at a;have I:=hs.real (i:=x) (by rw [a];simp);exact .inl ⟨a,aq _ _ e,λd j=>R9 _ _ _ (hs.lt x d j),λn=>⟨q x n e,aq _ _ (aL hrl),λd j=>R9 _ _ _ (hs.lt _ d j)⟩⟩
 .have b:x≠i:=λe=>by rw [e,aC] at a;cases a
  rw [aq _ _ b] at a;rw [C x l b,aq _ _ b];exact hs.cr x l a
 .have b:x≠i:=λe=>by rw [e,aC] at a;cases a
  rw [aq _ _ b] at a;rw [q x n b,aq _ _ (aL hrl)];exact hs.fj x n a
 .by_cases b:x=i
  .subst b;rw [z] at o;split at o
   .simp only [Rp] at o;subst o;exact⟨rfl,rfl⟩
   .cases o
  .rw [q x n b] at o;exact hs.gone x n u o
 .by_cases e:x=i <;> by_cases r:y=i
  .rw [e,r]
  .rw [e,aC] at a;cases a;rw [aq _ _ r] at hy;exact absurd (hs.lt _ _ hy) (TX _)
  .rw [r,aC] at hy;cases hy;rw [aq _ _ e] at a;exact absurd (hs.lt _ _ a) (TX _)
  .rw [aq _ _ e] at a;rw [aq _ _ r] at hy;exact hs.inj x y d a hy
 .by_cases e:x=i
  .rw [e,aC] at a;cases a;simp
  .rw [aq _ _ e] at a;have:=hs.lt x d a;simp;omega
theorem Nl{R:Type}{d:Nat}{t:TypeId}{Q:Nat}{n m:T}{vn vm:Value}{K:AV->aG->Option R}{r:R}(hs:HS c w s.h ρ O)(I:ak w (AA c w O) ρ (.t n) vn)(hm:ak w (AA c w O) ρ (.t m) vm)
  (a:rC P d t Q n m K=some r):
  ∃v us,K v us=some r/\(iK d s.h us=true->∃u w' ρ' O',(Instr.makeSlice t vn vm).run P w= .ok u w'/\Le w ρ O w' ρ' O'/\HS c w' (aJ s.h us) ρ' O'/\ak w' (AA c w' O') ρ' v u):=by
 unfold rC at a;replace a:=Rq.1 a;obtain⟨e,V,a⟩:=a;replace a:=Rq.1 a;obtain⟨zs,hz,a⟩:=a;obtain⟨L,X⟩:=wN V;replace a:=aK a (.inl rfl);obtain⟨N,J,a⟩:=a;replace a:=aK a (.inl rfl);obtain⟨j,H,a⟩:=a;have:=T.fS J;subst this;have:=T.fS H;subst this;simp only [ak,aw] at I hm;subst I;subst hm;split at a
 .rename_i B;obtain⟨C,x⟩:=B;replace a:=aK a (.inl rfl);obtain⟨_,hb,a⟩:=a;obtain⟨E,h1,F⟩:=Gm hb;cases D:(Q==2) with
  | true=>
   simp only [D,cond_true] at a;split at a
   .rename_i u Y;split at a
    .rename_i G;refine⟨_,_,a,λb=> ?_⟩;have b:=jC b Rs;obtain⟨zv,g,z⟩:=HW (w:=w) (A:=AA c w O) (kn:= .i64) (km:= .i64) L hz C x E h1 F;have y:zv.cells.size=P.cellsOf e:=by have:=g.length;rw [RR] at this;omega
     have M:zv.cells.toList= [.slice none 0 0]:=by
      obtain⟨v,q,S,f,l⟩:=g;simp only [aN] at l;rw [S,l];simp only [aw] at f;rcases f with⟨_,f⟩ | ⟨f,_⟩
      .rw [f]
      .cases f
     have o:∀p,p < N.toNat->(madeCells zv.cells (j.toNat * P.cellsOf e))[p]? =some (.slice none 0 0):=by
      intro p Z;rw [<-Sl,Nj y,M];have:(List.replicate j.toNat [Value.slice none 0 0]).flatten=List.replicate j.toNat (.slice none 0 0):=by
       induction j.toNat with
       | zero=>rfl
       | succ k W=>rw [Sj,TB,W];rfl
      rw [this,Tj,if_pos (by omega)]
     obtain⟨ρ',O',f,l,U⟩:=hs.NS (i:= .s d 0) (rsz:=P.cellsOf u) b e o (cap:=j.toNat) (by simp [madeCells,G]) (by omega);refine⟨_,_,ρ',O',z,f, ?_, ?_⟩
     .rw [dH];with_reducible exact l
     .simp only [ak];exact U
    .simp at a
   .simp at a
  | false=>
  simp only [D,cond_false] at a;refine⟨_,_,a,λb=> ?_⟩;have b:=jC b Rs;obtain⟨zv,g,z⟩:=HW (w:=w) (A:=AA c w O) (kn:= .i64) (km:= .i64) L hz C x E h1 F;have y:zv.cells.size=P.cellsOf e:=by have:=g.length;rw [RR] at this;omega
  obtain⟨f,l⟩:=hs.Bh (i:= .s d 0) (sz:=P.cellsOf e) b e (madeCells zv.cells (j.toNat * P.cellsOf e)) j.toNat (ct.replicate g x N.toNat)
   (A6 y _ _ (by omega)) (by simp;omega) (by simp [madeCells])
  refine⟨_,_,_,_,z,f,by rw [dH];exact l, ?_⟩;simp only [ak];rw [aC,Td]
 .simp at a
end
open Go Go.IntKind
section
variable {P:Program} {w w':World} {A A':Nat->Prop} {c:Ctx} {ρ:Id->Option Value} {O:Id->Option Nat} {s:St} {cc:Option Bool} {h:Id->Option ab}
theorem F1{t:TypeId}{x:AV}{i:Value}{b:Bool}(hs:HS c w s.h ρ O)(g:ak w (AA c w O) ρ x i)(h:jl P s t x=some b)(o:Operand)(u:oF P t o=true)(a:Act)(m n:Operand):
  ((eqGuard .eql t m n i (a.eval o)).run P w= .ok () w/\(binOp .eql t i (a.eval o)).run P w= .ok (.bool b) w)/\
  ((eqGuard .neq t m n i (a.eval o)).run P w= .ok () w/\(binOp .neq t i (a.eval o)).run P w= .ok (.bool (!b)) w)/\
  ((eqGuard .eql t m n (a.eval o) i).run P w= .ok () w/\(binOp .eql t (a.eval o) i).run P w= .ok (.bool b) w)/\
  ((eqGuard .neq t m n (a.eval o) i).run P w= .ok () w/\(binOp .neq t (a.eval o) i).run P w= .ok (.bool (!b)) w):=by
 unfold oF at u;split at u
 .rename_i e j;have key:∃p l k,i= .slice p l k/\p.isNone=b:=by
   unfold jl at h;rw [j] at h;dsimp only at h;split at h
   .rename_i sz z xs;simp only [Rp] at h;subst h;simp only [ak,aw] at g;rcases g with⟨rfl,_,rfl⟩ | ⟨rfl,_,_,_,_,rfl,_⟩
    .exact⟨_,_,_,rfl,rfl⟩
    .exact⟨_,_,_,rfl,rfl⟩
   .simp only [Rp] at h;subst h;simp only [ak,aw] at g;rcases g with⟨rfl,rfl⟩ | ⟨rfl,_,_,_,rfl⟩
    .exact⟨_,_,_,rfl,rfl⟩
    .exact⟨_,_,_,rfl,rfl⟩
   .split at h
    .rename_i hi;simp only [Rp] at h;subst h;obtain⟨F,v,a,cap,q1,B,q3,C,D⟩:=nD hs hi;simp only [ak] at g;rw [v] at g;simp only [Rp] at g;subst g;subst q1;refine⟨_,_,_,rfl, ?_⟩;cases a with
     | none=>simpa using q3
     | some a=>
      have:¬(_=true):=λe=>by have:=q3.2 e;simp at this
      simpa using this
    .simp at h
   .simp at h
  obtain⟨p,l,k,rfl,rfl⟩:=key;simp only [Act.eval];have q:(Op.equal t (.slice p l k) (.slice none 0 0)).run P w= .ok p.isNone w:=by
   have:∀d,(Op.equalIn (d+1) t (.slice p l k) (.slice none 0 0)).run P w= .ok p.isNone w:=by intro d;cases p <;> simp [Op.equalIn,run_underlying j]
   exact this 9999
  have r:(Op.equal t (.slice none 0 0) (.slice p l k)).run P w= .ok p.isNone w:=by
   have:∀d,(Op.equalIn (d+1) t (.slice none 0 0) (.slice p l k)).run P w= .ok p.isNone w:=by intro d;simp [Op.equalIn,run_underlying j]
   exact this 9999
  refine⟨⟨by simp [eqGuard], ?_⟩,⟨by simp [eqGuard], ?_⟩,⟨by simp [eqGuard], ?_⟩,⟨by simp [eqGuard], ?_⟩⟩ <;> simp only [binOp] <;> simp [q,r]
 .rename_i e j;have key:∃p,i= .pointer p/\p.isNone=b:=by
   unfold jl at h;rw [j] at h;dsimp only at h;split at h
   .simp only [Rp] at h;subst h;simp only [ak,aw] at g;obtain⟨_,_,rfl,_⟩:=g;exact⟨_,rfl,rfl⟩
   .simp only [Rp] at h;subst h;simp only [ak,aw] at g;subst g;exact⟨_,rfl,rfl⟩
   .simp only [Rp] at h;subst h;simp only [ak] at g;obtain⟨_,_,rfl⟩:=g;exact⟨_,rfl,rfl⟩
   .simp only [Rp] at h;subst h;simp only [ak] at g;obtain⟨_,_,_,_,_,rfl⟩:=g;exact⟨_,rfl,rfl⟩
   .simp at h
  obtain⟨p,rfl,rfl⟩:=key;simp only [Act.eval];have q:(Op.equal t (.pointer p) (.pointer none)).run P w= .ok p.isNone w:=by
   have:∀d,(Op.equalIn (d+1) t (.pointer p) (.pointer none)).run P w= .ok p.isNone w:=by intro d;cases p <;> simp [Op.equalIn,run_underlying j]
   exact this 9999
  have r:(Op.equal t (.pointer none) (.pointer p)).run P w= .ok p.isNone w:=by
   have:∀d,(Op.equalIn (d+1) t (.pointer none) (.pointer p)).run P w= .ok p.isNone w:=by intro d;simp [Op.equalIn,run_underlying j]
   exact this 9999
  refine⟨⟨by simp [eqGuard], ?_⟩,⟨by simp [eqGuard], ?_⟩,⟨by simp [eqGuard], ?_⟩,⟨by simp [eqGuard], ?_⟩⟩ <;> simp only [binOp] <;> simp [q,r]
 .rename_i j;have key:(i= .nilFunc/\b=true)\/(∃f x y,i= .func f x y/\b=false):=by
   unfold jl at h;rw [j] at h;dsimp only at h;split at h
   .simp only [Rp] at h;subst h;simp only [ak,aw] at g;exact .inl ⟨g,rfl⟩
   .simp only [Rp] at h;subst h;simp only [ak] at g;obtain⟨_,_,rfl,_⟩:=g;exact .inr ⟨_,_,_,rfl,rfl⟩
   .simp at h
  simp only [Act.eval];have E:(Op.equal t i .nilFunc).run P w= .ok b w/\(Op.equal t .nilFunc i).run P w= .ok b w:=by
   constructor
   .have:∀d,(Op.equalIn (d+1) t i .nilFunc).run P w= .ok b w:=by intro d;rcases key with⟨rfl,rfl⟩ | ⟨f,x,y,rfl,rfl⟩ <;> simp [Op.equalIn,run_underlying j]
    exact this 9999
   .have:∀d,(Op.equalIn (d+1) t .nilFunc i).run P w= .ok b w:=by intro d;rcases key with⟨rfl,rfl⟩ | ⟨f,x,y,rfl,rfl⟩ <;> simp [Op.equalIn,run_underlying j]
    exact this 9999
  rcases key with⟨rfl,rfl⟩ | ⟨f,x,y,rfl,rfl⟩ <;>
  refine⟨⟨by simp [eqGuard], ?_⟩,⟨by simp [eqGuard], ?_⟩,⟨by simp [eqGuard], ?_⟩,⟨by simp [eqGuard], ?_⟩⟩ <;> simp only [binOp] <;> simp [E.1,E.2]
 .rename_i j;have key:i= .map none/\b=true:=by
   unfold jl at h;rw [j] at h;dsimp only at h;split at h
   .simp only [Rp] at h;subst h;simp only [ak,aw] at g;exact⟨g,rfl⟩
   .simp at h
  simp only [Act.eval];obtain⟨rfl,rfl⟩:=key;have E:(Op.equal t (.map none) (.map none)).run P w= .ok true w:=by
   have:∀d,(Op.equalIn (d+1) t (.map none) (.map none)).run P w= .ok true w:=by intro d;simp [Op.equalIn,run_underlying j]
   exact this 9999
  refine⟨⟨by simp [eqGuard], ?_⟩,⟨by simp [eqGuard], ?_⟩,⟨by simp [eqGuard], ?_⟩,⟨by simp [eqGuard], ?_⟩⟩ <;> simp only [binOp] <;> simp [E]
 .simp at u
theorem Kg{R:Type}{src e:TypeId}{x:T}{j:Value}{K:T->Option R}{r:R}(i:cc=none\/cc=some true)(d:aw w A x j)(a:qP P cc src e x K=some r):
  ∃z v,K z=some r/\(convert src e j).run P w= .ok v w/\aw w A z v:=by
 unfold qP at a;split at a
 .rename_i k l g b;replace a:=aK a i;obtain⟨n,f,a⟩:=a;have:=T.fS f;subst this;simp only [aw] at d;subst d;exact⟨_,_,a,by simp [convert,run_underlying g,run_underlying b,Conv.intToInt],gg _ _ _ _⟩
 .rename_i g b;replace a:=aK a i;obtain⟨n,f,a⟩:=a;have:=T.jR f;subst this;simp only [aw] at d;subst d;exact⟨_,_,a,by simp [convert,run_underlying g,run_underlying b],lG _ _ _⟩
 .simp at a
theorem Dw:∀{xs:List (List T)} {l:List UInt8} {vss:List (List Value)},bytesOf xs=some l->ct w A 1 xs vss->∃a:List Int,vss.flatten=a.map (Value.int .u8)/\l=a.map (λn=>UInt8.ofNat n.toNat)
 | [],l,vss,e,h=>by simp only [ct] at h;subst h;simp only [bytesOf,Rp] at e;subst e;exact⟨[],rfl,rfl⟩
 | cs::xs,l,vss,e,⟨vs,r,i,b,e3,e4⟩=>by
  subst i;simp only [bytesOf] at e;obtain⟨x,g,e⟩:=Rq.1 e;obtain⟨n,m,e⟩:=Rq.1 e;obtain⟨q,o,e⟩:=Rq.1 e;simp only [Rp] at e;subst e;obtain⟨a,j,k⟩:=Dw o e4;have:=T.fS m;subst this;cases cs with
  | nil=>simp at b
  | cons y cs=>simp only [SW,Rp] at g;subst g;have:cs= []:=RN.1 (by simpa using b);subst this;obtain⟨v,p,rfl,d,f⟩:=e3;simp only [aN] at f;subst f;simp only [aw] at d;subst d;exact⟨n::a,by simp [j],by simp [k]⟩
theorem HE:∀(a:List Int) (b:ByteArray),a.foldl (λr n=>r.push (UInt8.ofNat n.toNat)) b= ⟨b.data++ (a.map (λn=>UInt8.ofNat n.toNat)).toArray⟩
 | [],b=>by simp
 | n::a,b=>by rw [List.foldl_cons,HE a];simp [ByteArray.push]
theorem JX{src b e:TypeId}{x:AV}{y:T}{o:Value}{p:Bool×List (List T)}{l:List UInt8}(hs:HS c w s.h ρ O)(m:P.underlying src=some (.slice e))(f:P.underlying b=some .string)(i:P.underlying e=some (.int .u8))
  (B:ak w (AA c w O) ρ x o) (hy:dt s.h x=some y) (z:y.aP 1=some p) (d:bytesOf p.2=some l):(convert src b o).run P w= .ok (.string ⟨l.toArray⟩) w:=by
 rcases Iw hs B hy z with⟨n,rfl | ⟨a,cap,rfl⟩⟩ | ⟨ah,off,cap,rfl,k⟩
 .rw [n] at d;simp only [bytesOf,Rp] at d;subst d;rw [run_convert_bytes_string w src b e _ _ _ m i f];simp [Conv.bytesToString];rfl
 .rw [n] at d;simp only [bytesOf,Rp] at d;subst d;rw [run_convert_bytes_string w src b e _ _ _ m i f,run_bytesToString w a 0 cap [] (run_loadCells_list (P:=P) w a [] (by simp))];rfl
 .obtain⟨vss,h1,t⟩:=k.bc;obtain⟨E,C⟩:=h1.length;obtain⟨D,q,r⟩:=Dw d h1;rw [run_convert_bytes_string w src b e _ _ _ m i f,run_bytesToString w _ _ cap D ?_,HE]
  .rw [r];simp
  .rw [<-q];have g:=run_loadCells_list (P:=P) w ⟨ah,off,none⟩ vss.flatten (λj v u=>by rw [gJ];exact t j v u);rw [C,UO] at g;exact g
theorem Nb{R:Type}{t:TypeId}(i:bN P t=true){cs:List AV}{arr:Array Value}{off:Nat}{K:AV->Option R}{r:R}(f:ay w A ρ cs (arr.toList.drop off))(h1:∀u∈arr.toList,u.oneCell'=true/\u.cells= #[u])(h:m6 P t cs K=some r):
  ∃av v,K av=some r/\(part t arr off).run P w= .ok v w/\ak w A ρ av v:=by
 unfold m6 at h;unfold part;simp only [RO,rU i,RB];cases hb:bt P t
 .simp only [hb,cond_false] at h;cases cs with
  | nil=>simp at h
  | cons y cs=>
   simp only [SW,RA] at h;simp only [ay] at f;obtain⟨v,q,e,a,_⟩:=f;have b:off < arr.toList.length:=by
    rcases UE off arr.toList.length with g | g
    .exact g
    .rw [TE g] at e;simp at e
   rw [Ta b] at e;simp only [TD] at e;have:arr[off]? =some v:=by rw [TM (by simpa using b)];rw [<-e.1];simp
   simp only [RS,if_false,this];exact⟨_,v,h,by simp,a⟩
 .simp only [hb,cond_true] at h;cases d:nI (P.cellsOf t) cs with
  | none=>simp [d] at h
  | some l=>simp only [d,RA] at h;obtain⟨j,m⟩:=Cf d;have a:=f.take (P.cellsOf t);rw [<-j] at a;refine⟨_, .agg (arr.extract off (off+P.cellsOf t)),h,by simp only [if_true,RO,iT i,RB,R0], ?_⟩;simp only [ak];refine⟨_, ?_,a,λu k=>h1 u (Tm (Tl k))⟩;congr 1;apply TQ;simp [UJ,Uf]
theorem Mj{R:Type}{t:TypeId}{x:AV}{d:Value}{f:Nat}{K:AV->Option R}{r:R}(b:ak w A ρ x d)(h:rk P t x f K=some r):
  ∃av v,K av=some r/\(Instr.field t d f).run P w= .ok v w/\ak w A ρ av v:=by
 unfold rk at h;split at h
 .rename_i off u k;obtain⟨o,y,h1,i,a,j⟩:=At k;simp only [Sk] at a;obtain⟨rfl,rfl⟩:=a;split at h
  .rename_i vs;simp only [ak] at b;obtain⟨n,rfl,e,g⟩:=b;obtain⟨av,v,l,k2,m⟩:=Nb (arr:=n.toArray) j (by simpa using e.drop y.offset) (by simpa using g) h;exact⟨av,v,l,by simp [Instr.field,run_underlying h1,i,asAgg,k2],m⟩
  .simp at h
 .simp at h
theorem Na{R:Type}{t:TypeId}(j:bN P t=true){cs:List T}{arr:Array Value}{off:Nat}{K:AV->Option R}{r:R}(b:cc=none\/cc=some true)(i:aN w A cs (arr.toList.drop off))(h:kx P t cc cs K=some r):
  ∃av v,K av=some r/\(part t arr off).run P w= .ok v w/\ak w A ρ av v:=by
 unfold kx at h;unfold part;simp only [RO,rU j,RB];cases hb:bt P t
 .simp only [hb,cond_false] at h;replace h:=aK h b;obtain⟨x,f,h⟩:=h;cases cs with
  | nil=>simp at f
  | cons y cs=>
   simp only [SW,Rp] at f;subst f;obtain⟨v,q,e,a,_⟩:=i;have d:off < arr.toList.length:=by
    rcases UE off arr.toList.length with g | g
    .exact g
    .rw [TE g] at e;simp at e
   rw [Ta d] at e;simp only [TD] at e;have:arr[off]? =some v:=by rw [TM (by simpa using d)];rw [<-e.1];simp
   simp only [RS,if_false,this];obtain⟨z,h,a⟩:=o7 b a h;exact⟨_,v,h,by simp,by simpa [ak] using a⟩
 .simp only [hb,cond_true] at h;obtain⟨l,m,n,h⟩:=yq b h;have a:=i.take (P.cellsOf t);rw [<-m] at a;obtain⟨o,h,k⟩:=uE b a h;refine⟨_, .agg (arr.extract off (off+P.cellsOf t)),h,by simp only [if_true,RO,iT j,RB,R0], ?_⟩;simp only [ak];refine⟨_, ?_,ay.lD k,a.one⟩;congr 1;apply TQ;simp [UJ,Uf]
theorem Ba{R:Type}{k:IntKind}(f:cc=none\/cc=some true)(d:Bool):∀{l:List T} {a:Int} {vs:List Value} {K:T->Option R} {r:R},aN w A l vs->oA k cc d a l K=some r->
  ∃n,K (.int k n)=some r/\(vs.foldlM (cond d Builtin.max2 Builtin.min2) (.int k a)).run P w= .ok (.int k n) w
 | [],a,vs,K,r,hv,h=>by simp only [aN] at hv;subst hv;exact⟨a,h,by simp⟩
 | y::l,a,vs,K,r,⟨v,q,e,h1,j⟩,h=>by
  subst e;simp only [oA] at h;replace h:=aK h f;obtain⟨b,hb,h⟩:=h;have:=T.fS hb;subst this;simp only [aw] at h1;subst h1;obtain⟨n,g,i⟩:=Ba f d j h;refine⟨n,g, ?_⟩;rw [List.foldlM_cons];have:((cond d Builtin.max2 Builtin.min2) (.int k a) (.int k b)).run P w= .ok (.int k (mm d a b)) w:=by cases d <;> simp [Builtin.max2,Builtin.min2,mm]
  simp only [RO,this,RB];exact i
end
open Go Go.IntKind
def fu(O:Id->Option Nat)(b:Nat):Prop:= ∃i,O i=some b
def jw(a:List ab):Id->Option ab
 | .c j=>a[j]?
 | _=>none
section
variable {P:Program} {w w':World} {A A':Nat->Prop} {c:Ctx} {ρ:Id->Option Value} {O:Id->Option Nat} {s s':St} {h:Id->Option ab}
def mZ:Option ab->List Id
 | some (.box cs)=>bT cs
 | some (.arr cs)=>bT cs
 | _=> []
theorem ug:∀{n:Nat} {todo d seen:List Id},eW h n todo d=some seen->d.Nodup->(∀i∈d,h i≠none)->(∀i∈d,∀j∈mZ (h i),j∈d\/j∈todo)->
  seen.Nodup/\(∀i∈d,i∈seen)/\(∀i∈todo,i∈seen)/\(∀i∈seen,h i≠none)/\∀i∈seen,∀j∈mZ (h i),j∈seen
 | 0,todo,d,seen,e,_,_,_=>by simp [eW] at e
 | n+1,[],d,seen,e,t,r,q=>by simp only [eW,Rp] at e;subst e;exact⟨t,λ_ h=>h,by simp,r,λi hi j m=>by rcases q i hi j m with h | h;exact h;cases h⟩
 | n+1,i::todo,d,seen,e,t,r,q=>by
  simp only [eW] at e;cases l:d.contains i with
  | true=>
   rw [l,cond_true] at e;have hi:i∈d:=by simpa using l
   obtain⟨u,p,v,x,y⟩:=ug e t r (λk f j m=>by
    rcases q k f j m with h | h
    .exact .inl h
    .rcases RC.1 h with rfl | h
     .exact .inl hi
     .exact .inr h)
   refine⟨u,p,λk f=> ?_,x,y⟩;rcases RC.1 f with rfl | f
   .exact p _ hi
   .exact v k f
  | false=>
   rw [l,cond_false] at e;have E:i∉d:=by
    intro hm;have:d.contains i=true:=by simpa using hm
    rw [this] at l;cases l
   have C:(d++ [i]).Nodup:=Tc.2 ⟨t,by simp,λa F b hb z=>by simp only [RF] at hb;exact E (by rw [<-hb,<-z];exact F)⟩;have go:∀g:List Id,h i≠none->mZ (h i)=g->eW h n (todo++g) (d++ [i])=some seen->_:=λg D hm e=>
    ug e C (λk f=>by
     rcases RM.1 f with f | f
     .exact r k f
     .simp only [RF] at f;subst f;exact D) (λk f j m=>by
     rcases RM.1 f with f | f
     .rcases q k f j m with h | h
      .exact .inl (RD _ h)
      .rcases RC.1 h with rfl | h
       .exact .inl (RE _ (RF.2 rfl))
       .exact .inr (RD _ h)
     .simp only [RF] at f;subst f;rw [hm] at m;exact .inr (RE _ m))
   have o:∀g:List Id,(seen.Nodup/\(∀k∈d++ [i],k∈seen)/\(∀k∈todo++g,k∈seen)/\(∀k∈seen,h k≠none)/\∀k∈seen,∀j∈mZ (h k),j∈seen)->
     seen.Nodup/\(∀i∈d,i∈seen)/\(∀k∈i::todo,k∈seen)/\(∀i∈seen,h i≠none)/\∀i∈seen,∀j∈mZ (h i),j∈seen:=by
    rintro g ⟨u,p,v,x,y⟩;refine⟨u,λk f=>p k (RD _ f),λk f=> ?_,x,y⟩;rcases RC.1 f with rfl | f
    .exact p _ (RE _ (RF.2 rfl))
    .exact v k (RD _ f)
   split at e
   .rename_i cs hi;exact o _ (go (bT cs) (by rw [hi];simp) (by rw [hi];rfl) e)
   .rename_i cs hi;exact o _ (go (bT cs) (by rw [hi];simp) (by rw [hi];rfl) e)
   .rename_i b hb B hi;refine o [] (go [] (by rw [hi];simp) ?_ (by simpa using e));rw [hi];cases b with
    | box cs=>exact(hb cs rfl).elim
    | arr cs=>exact(B cs rfl).elim
    | _=>rfl
   .simp at e
def cf{a:Type}(m:List Id)(f:Id->Option a):Id->Option a
 | .c j=>(m[j]?).bind f
 | .g (.c j) n=>(m[j]?).bind λi=>f (.g i n)
 | _=>none
theorem xY{a:Type}{m:List Id}{f:Id->Option a}{i:Id}(hi:i∈m):cf m f (.c (m.idxOf i))=f i:=by simp only [cf];have:m.idxOf i < m.length:=VH.2 hi;rw [Rv this];simp
theorem HO{a:Type}{m:List Id}{f:Id->Option a}{i:Id}{n:Nat}(hi:i∈m):cf m f (.g (.c (m.idxOf i)) n)=f (.g i n):=by simp only [cf];have:m.idxOf i < m.length:=VH.2 hi;rw [Rv this];simp
def o8(seen:List Id):Id->Option Id
 | .c j=>seen[j]?
 | .g (.c j) n=>(seen[j]?).map λi=> .g i n
 | _=>none
theorem HP{a:Type}{m:List Id}{f:Id->Option a}(i:Id):cf m f i= (o8 m i).bind f:=by
 cases i with
 | c j=>rfl
 | s d j=>rfl
 | g i n=>
  cases i with
  | c j=>simp only [cf,o8];cases m[j]? <;> rfl
  | _=>rfl
theorem QZ{seen:List Id}(u:seen.Nodup){i j k:Id}(p:∀x∈seen,x.real=true)(hi:o8 seen i=some k)(t:o8 seen j=some k):i=j:=by
 have inj:∀{a b:Nat} {x:Id},seen[a]? =some x->seen[b]? =some x->a=b:=by intro a b x h1 e;obtain⟨v,q⟩:=Rz.1 h1;obtain⟨z,r⟩:=Rz.1 e;exact(List.getElem_inj u).1 (q.trans r.symm)
 have l:∀i,o8 seen i=some k->(∃a,i= .c a/\seen[a]? =some k)\/∃a n x,i= .g (.c a) n/\seen[a]? =some x/\k= .g x n:=by
  intro i hi;cases i with
  | c a=>exact .inl ⟨a,rfl,hi⟩
  | s d a=>cases hi
  | g i n=>
   cases i with
   | c a=>simp only [o8,T2] at hi;obtain⟨x,h1,e⟩:=hi;exact .inr ⟨a,n,x,rfl,h1,e.symm⟩
   | _=>cases hi
 rcases l i hi with⟨a,rfl,h1⟩ | ⟨a,n,x,rfl,h1,e⟩ <;> rcases l j t with⟨b,rfl,f⟩ | ⟨b,m,y,rfl,f,o⟩
 .rw [inj h1 f]
 .have:=p k (Rt h1);rw [o] at this;cases this
 .have:=p k (Rt f);rw [e] at this;cases this
 .rw [e] at o;cases o;rw [inj h1 f]
mutual
theorem ak.rn{m:List Id}(d:∀b,A b->A' b):∀(v:AV) (u:Value),(∀i∈v.ids,i∈m)->ak w A ρ v u->ak w A' (cf m ρ) (v.rn m) u
 | .top,_,_,_=>by simp [AV.rn,ak]
 | .t x,u,_,hv=>by simp only [AV.rn,ak] at hv⊢;exact aw.mono (λb hb=>⟨d b hb,rfl⟩) x u hv
 | .lR vs,u,hi,hv=>by simp only [AV.rn,ak] at hv⊢;obtain⟨g,e,h1⟩:=hv;exact⟨g,e,ay.rn d vs g (by simpa [AV.ids] using hi) h1⟩
 | .agg vs,u,hi,hv=>by simp only [AV.rn,ak] at hv⊢;obtain⟨g,e,h1,j⟩:=hv;exact⟨g,e,ay.rn d vs g (by simpa [AV.ids] using hi) h1,j⟩
 | .ref i off,u,hi,hv=>by simp only [AV.rn,ak] at hv⊢;rw [xY (hi i (by simp [AV.ids]))];exact hv
 | .el i sz k off,u,hi,hv=>by simp only [AV.rn,ak] at hv⊢;rw [xY (hi i (by simp [AV.ids]))];exact hv
 | .own i,u,hi,hv=>by simp only [AV.rn,ak] at hv⊢;rw [xY (hi i (by simp [AV.ids]))];exact hv
 | .part i sz off n,u,hi,hv=>by simp only [AV.rn,ak] at hv⊢;rw [xY (hi i (by simp [AV.ids]))];exact hv
 | .row i n,u,hi,hv=>by simp only [AV.rn,ak] at hv⊢;rw [HO (hi i (by simp [AV.ids]))];exact hv
 | .rel i sz n k off,u,hi,hv=>by simp only [AV.rn,ak] at hv⊢;rw [HO (hi i (by simp [AV.ids]))];exact hv
 | .fn f a b,u,hi,hv=>by simp only [AV.rn,ak] at hv⊢;obtain⟨l,y',e,h1,j⟩:=hv;simp only [AV.ids,RM] at hi;exact⟨l,y',e,ay.rn d a l (λi h=>hi i (.inl h)) h1,ay.rn d b y' (λi h=>hi i (.inr h)) j⟩
theorem ay.rn{m:List Id}(a:∀b,A b->A' b):∀(vs:List AV) (us:List Value),(∀i∈bT vs,i∈m)->ay w A ρ vs us->ay w A' (cf m ρ) (jN m vs) us
 | [],us,_,hv=>by simpa [jN,ay] using hv
 | v::vs,us,hi,hv=>by simp only [jN,ay] at hv⊢;obtain⟨u,r,e,h1,d⟩:=hv;simp only [bT,RM] at hi;exact⟨u,r,e,ak.rn a v u (λi h=>hi i (.inl h)) h1,ay.rn a vs r (λi h=>hi i (.inr h)) d⟩
end
def Of(seen:List Id)(k:Id):Prop:=k∈seen\/∃i n,i∈seen/\k= .g i n
theorem Q6{seen:List Id}{i k:Id}(h:o8 seen i=some k):Of seen k:=by
 cases i with
 | c a=>exact .inl (Rt h)
 | s d a=>cases h
 | g i n=>
  cases i with
  | c a=>simp only [o8,T2] at h;obtain⟨x,h1,b⟩:=h;exact .inr ⟨x,n,Rt h1,b.symm⟩
  | _=>cases h
theorem uk{seen:List Id}{b:Nat}(h:fu (cf seen O) b):∃k,Of seen k/\O k=some b:=by obtain⟨i,hi⟩:=h;rw [HP] at hi;obtain⟨k,a,d⟩:=Rq.1 hi;exact⟨k,Q6 a,d⟩
theorem b9.rn{seen:List Id}{i:Id}{j:Nat}{ah sz az rsz:Nat}(a:∀b,A b->A' b)(d:seen[j]? =some i):∀{es:List Row} {base:Nat},b9 w A ρ O i ah sz az rsz base es->
  b9 w A' (cf seen ρ) (cf seen O) (.c j) ah sz az rsz base es
 | [],_,_=>trivial
 | e::es,base,⟨⟨h1,q,r,v,t,y,z⟩,C⟩=>by
  have f:cf seen ρ (.g (.c j) e.n)=ρ (.g i e.n):=by simp [cf,d]
  refine⟨⟨h1,q,λk x B D=> ?_,v,t,by rw [f];exact y, ?_⟩,b9.rn a d C⟩
  .obtain⟨u,m,o⟩:=r k x B D;exact⟨u,m,aw.mono (λb hb=>⟨a b hb,rfl⟩) x u o⟩
  .have l:cf seen O (.g (.c j) e.n)=O (.g i e.n):=by simp [cf,d]
   rw [l];revert z;cases e.own with
   | none=>exact λh=>h
   | some p=>exact λh=>h.mono (λb hb=>⟨a b hb,rfl⟩) λb hb=>⟨hb,rfl⟩
theorem nZ.rn{seen:List Id}{i:Id}{j nx:Nat}{es:List Row}(d:seen[j]? =some i)(h:nZ ρ O i nx es):nZ (cf seen ρ) (cf seen O) (.c j) nx es:=by
 have e:∀n,cf seen ρ (.g (.c j) n)=ρ (.g i n):=λn=>by simp [cf,d]
 have f:∀n,cf seen O (.g (.c j) n)=O (.g i n):=λn=>by simp [cf,d]
 exact⟨h.1,h.2.1,λn a=>by rw [e];exact h.2.2.1 n a,λn b a=>by rw [f] at a;exact h.2.2.2 n b a⟩
theorem HS.HN{c':Ctx}{seen:List Id}(hs:HS c w h ρ O)(V:seen.Nodup)(I:∀i∈seen,h i≠none)(U:∀i∈seen,∀j∈mZ (h i),j∈seen)
  (y:∀b,AA c w O b->AA c' w (cf seen O) b) (S:∀b,fu (cf seen O) b->c'.MO b) (T:c'.N0<=w.heap.size):HS c' w (jw (seen.map λi=>gO seen (h i))) (cf seen ρ) (cf seen O):=by
 have G:∀b,fu (cf seen O) b->fu O b:=λb h=>let⟨k,_,z⟩:=uk h;⟨k,z⟩;refine⟨λi b hb=> ?_,λi W hi=> ?_,λi n=>rfl,λi n hi=> ?_,λi n u H=> ?_,λi j b hi J=> ?_,λi b hi=> ?_,λi b hi=> ?_,T⟩
 .cases i with
  | s d j=>simp [jw] at hb
  | g i n=>simp [jw] at hb
  | c j=>
   simp only [jw,Sb,T2] at hb;obtain⟨i,hi,e⟩:=hb;have D:i∈seen:=Rt hi;have o:cf seen ρ (.c j)=ρ i:=by simp [cf,hi]
   have r:cf seen O (.c j)=O i:=by simp [cf,hi]
   cases C:h i with
   | none=>exact(I i D C).elim
   | some x=>
    have q:=hs.ah i x C;have B:=U i D;rw [C] at e B;cases x with
    | box cs=>simp only [gO] at e;subst e;obtain⟨p,arr,t,f,m,e3,e4,e5⟩:=q;exact⟨p,arr,t,by rw [o];exact f,by rw [r];exact m,e3,ay.rn y cs _ (λk z=>B k (by simpa [mZ] using z)) e4,e5⟩
    | sl Q sz bb xs=>
     simp only [gO] at e;subst e;obtain⟨v,f,m,e3⟩:=q;refine⟨v,by rw [o];exact f,m.mono (λb hb=>⟨y b hb,rfl⟩) (λb hb=>⟨?_,rfl⟩),by rw [r];exact e3⟩;cases Q
     .simp only [RS,if_false] at hb⊢;rw [r];exact hb
     .simp only [if_true] at hb⊢;exact y b hb
    | ir l=>simp only [gO] at e;subst e;obtain⟨p,f,m,e3,e4⟩:=q;exact⟨p,by rw [o];exact f,by rw [r];exact m,y p e3,aS.mono (λb hb=>⟨y b hb,rfl⟩) p e3 0 l e4⟩
    | mp ag ks vk es=>simp only [gO] at e;subst e;obtain⟨p,F,E,f,m,e3,e4,e5⟩:=q;exact⟨p,F,E,by rw [o];exact f,by rw [r];exact m,e3,e4,e5⟩
    | arr cs=>simp only [gO] at e;subst e;obtain⟨p,arr,t,f,m,e3,e4,e5⟩:=q;exact⟨p,arr,t,by rw [o];exact f,by rw [r];exact m,e3,ay.rn y cs _ (λk z=>B k (by simpa [mZ] using z)) e4,e5⟩
    | rows bb sz az rsz nx es=>
     simp only [gO] at e;subst e;obtain⟨a,cap,f,m,e3,e4,e5⟩:=q;refine⟨a,cap,by rw [o];exact f,m,e3,e4.rn hi, ?_⟩;rcases e5 with e5 | ⟨ah,off,arr,t,q1,Y,q3,Z,q5⟩
     .exact .inl e5
     .exact .inr ⟨ah,off,arr,t,q1,by rw [r];exact Y,q3,Z,q5.rn y hi⟩
    | dead=>simp only [gO] at e;subst e;obtain⟨f,m⟩:=q;exact⟨by rw [o];exact f,by rw [r];exact m⟩
 .cases i with
  | s d j=>exact⟨rfl,rfl⟩
  | g i n=>cases W
  | c j=>simp only [jw,Sb,Option.map_eq_none_iff] at hi;simp [cf,hi]
 .cases i with
  | c j=>simp only [jw,Sb,Option.map_eq_none_iff] at hi;simp [cf,hi]
  | _=>exact⟨rfl,rfl⟩
 .cases i with
  | c j=>simp only [cf] at H;obtain⟨k,h1,R⟩:=Rq.1 H;exact hs.gone k n u R
  | _=>cases H
 .rw [HP] at hi J;obtain⟨X,K,M⟩:=Rq.1 hi;obtain⟨k2,L,N⟩:=Rq.1 J;have:=hs.inj X k2 b M N;subst this;exact QZ V (λx q=>hs.real (I x q)) K L
 .obtain⟨k,z⟩:=G b ⟨i,hi⟩;exact hs.lt k b z
 .exact S b ⟨i,hi⟩
theorem HS.rn{seen:List Id}(hs:HS c w h ρ O)(g:seen.Nodup)(f:∀i∈seen,h i≠none)(e:∀i∈seen,∀j∈mZ (h i),j∈seen):
  HS c w (jw (seen.map λi=>gO seen (h i))) (cf seen ρ) (cf seen O)/\(∀b,fu (cf seen O) b->fu O b):=by
 have a:∀b,fu (cf seen O) b->fu O b:=λb h=>let⟨k,_,d⟩:=uk h;⟨k,d⟩;refine⟨hs.HN g f e (λb hb=>⟨hb.1,hb.2.1,λi hi=> ?_⟩) (λb hb=> ?_) hs.size,a⟩
 .obtain⟨k,d⟩:=a b ⟨i,hi⟩;exact hb.2.2 k d
 .obtain⟨k,d⟩:=a b hb;exact hs.own k b d
theorem oQ:∀{n:Nat} {todo a seen:List Id},eW h n todo a=some seen->a <+:seen
 | 0,todo,a,seen,e=>by simp [eW] at e
 | n+1,[],a,seen,e=>by simp only [eW,Rp] at e;subst e;exact List.prefix_refl _
 | n+1,i::todo,a,seen,e=>by
  simp only [eW] at e;cases b:a.contains i with
  | true=>rw [b,cond_true] at e;exact oQ e
  | false=>
   rw [b,cond_false] at e;split at e
   .exact(Vt _ _).trans (oQ e)
   .exact(Vt _ _).trans (oQ e)
   .exact(Vt _ _).trans (oQ e)
   .simp at e
theorem HK:∀{l:List Id} {n:Nat} {todo a seen:List Id},eW h n (l++todo) a=some seen->l.Nodup->(∀i∈l,i∉a)->(a++l) <+:seen
 | [],n,todo,a,seen,e,_,_=>by rw [Sg];exact oQ e
 | i::l,0,todo,a,seen,e,_,_=>by simp [eW] at e
 | i::l,n+1,todo,a,seen,e,k,d=>by
  obtain⟨m,o⟩:=SB.1 k;simp only [Rx,eW] at e;have f:a.contains i=false:=by have:=d i Rs;simpa using this
  rw [f,cond_false] at e;have go:∀b:List Id,eW h n (l++todo++b) (a++ [i])=some seen->(a++i::l) <+:seen:=by
   intro b e;rw [R6] at e;have:=HK e o (λj g hm=>by
    rcases RM.1 hm with hm | hm
    .exact d j (Ru _ g) hm
    .simp only [RF] at hm;subst hm;exact m g)
   simpa using this
  split at e
  .exact go _ e
  .exact go _ e
  .exact go [] (by simpa using e)
  .simp at e
theorem HS.Iy(hs:HS c w h ρ O){i:Id}{b:ab}(hi:h i=some b):∃v,ρ i=some v/\v.oneCell'=true/\v.cells= #[v]:=by
 cases a:ρ i with
 | some u=>exact⟨u,rfl,jM hs a⟩
 | none=>
  exfalso;have:=hs.ah i b hi;cases b with
  | box cs=>obtain⟨b,_,_,h1,_⟩:=this;rw [a] at h1;cases h1
  | sl d sz b xs=>obtain⟨v,h1,_⟩:=this;rw [a] at h1;cases h1
  | ir l=>obtain⟨b,h1,_⟩:=this;rw [a] at h1;cases h1
  | mp ag ks vk es=>obtain⟨b,_,_,h1,_⟩:=this;rw [a] at h1;cases h1
  | arr cs=>obtain⟨b,_,_,h1,_⟩:=this;rw [a] at h1;cases h1
  | rows _ _ _ _ _ _=>obtain⟨_,_,h1,_⟩:=this;rw [a] at h1;cases h1
  | dead=>obtain⟨⟨v,h1,_⟩,_⟩:=this;rw [a] at h1;cases h1
theorem ay.set:∀{as:List AV} {us:List Value} {k:Nat} {v:AV} {u:Value},ay w A ρ as us->us[k]? =some u->ak w A ρ v u->ay w A ρ (as.set k v) us
 | [],us,k,v,u,h,b,hv=>by simp only [ay] at h;subst h;simp at b
 | a::as,us,0,v,u,h,b,hv=>by simp only [ay] at h;obtain⟨x,r,rfl,h1,d⟩:=h;simp only [SQ,Rp] at b;subst b;simp only [Vs,ay];exact⟨_,_,rfl,hv,d⟩
 | a::as,us,k+1,v,u,h,b,hv=>by simp only [ay] at h;obtain⟨x,r,rfl,h1,d⟩:=h;simp only [SR] at b;simp only [Ut,ay];exact⟨_,_,rfl,h1,ay.set d b hv⟩
theorem Lh{b:Bool}{sz:Nat}{u:Value}{Q:Nat->Prop}(h:aw w A (.aT b) u):cM w A sz b [] u Q:=by
 simp only [aw] at h;rcases h with⟨rfl,rfl⟩ | ⟨rfl,ah,off,a,rfl⟩
 .exact⟨none,0,rfl,by simp,by simp,by simp, .inl rfl⟩
 .exact⟨some ⟨ah,off,a⟩,0,rfl,by simp,by simp,trivial, .inl rfl⟩
theorem w9{new i:Id}{k:Nat}{cs:List AV}{X:ab}{us:aG}{bb:Bool}(p:new.real=true)(hs:HS c w h ρ O)(hi:h i=some (.box cs))
  (F:h new=none->∀u,aw w (AA c w O) (.aT bb) u->cR w (AA c w O) (aA ρ new (some u)) O new X) (o:cs[k]? =some (.t (.aT bb))\/(∃z,cs[k]? =some (.t (.ae z true []))/\bb=true))
  (e:(cond (h new).isNone (some [(new,X),(i,ab.box (cs.set k (.own new)))]) none)=some us):∃ρ' O',Le w ρ O w ρ' O'/\HS c w (aJ h us) ρ' O':=by
 obtain⟨b,arr,t,h1,C,D,q,E⟩:=hs.ah i _ hi;cases m:h new with
 | some x=>rw [m] at e;simp at e
 | none=>
  rw [m] at e;simp only [Vu,cond_true,Rp] at e;subst e;have G:∃u,arr.toList[k]? =some u/\aw w (AA c w O) (.aT bb) u:=by
   rcases o with o | ⟨z,o,rfl⟩
   .obtain⟨u,l,f⟩:=q.get o;exact⟨u,l,by simpa [ak] using f⟩
   .obtain⟨u,l,f⟩:=q.get o;refine⟨u,l, ?_⟩;simp only [ak,aw] at f⊢;rcases f with⟨_,_,g⟩ | ⟨g,_⟩
    .exact .inl ⟨trivial,g⟩
    .cases g
  obtain⟨u,l,f⟩:=G;obtain⟨H,J⟩:=hs.cr new p m;have I:i≠new:=λe=>by rw [e,m] at hi;cases hi
  have le:Le w ρ O w (aA ρ new (some u)) O:=⟨rfl,rfl,rfl,RI _,λj v a=>by
   by_cases e:j=new
   .subst e;rw [H] at a;cases a
   .rw [aq _ _ e];exact a,λ_ _ _=>rfl,λj b h=> .inl ⟨j,h⟩⟩
  refine⟨_,O,le, ?_⟩;rw [cX,dH];have y:=hs.real (i:=i) (by rw [hi];simp);have B:GK w ρ O w (aA ρ new (some u)) O:=λj n=>⟨aq _ _ (aL p),rfl,λ_ _=>rfl⟩;refine hs.go le B (λj x a=> ?_) (λj r a=> ?_) (λj a=> ?_) (λj n=>by rw [aq _ _ (aL y),aq _ _ (aL p)];exact hs.dF j n) hs.inj hs.lt
  .by_cases e:j=i
   .subst e;rw [aC] at a;cases a;right;refine⟨b,arr,t,le.eB _ _ h1,C,D,ay.set (ay.mono (λb hb=>le.A b hb) le.eB _ _ q) l ?_,E⟩;simp only [ak];exact aC _ _ _
   .rw [aq _ _ e] at a;by_cases d:j=new
    .subst d;rw [aC] at a;cases a;exact .inr (F m u f)
    .rw [aq _ _ d] at a;exact .inl ⟨a,rfl,λ_ _=>rfl⟩
  .by_cases e:j=i
   .subst e;rw [aC] at a;cases a
   .rw [aq _ _ e] at a;by_cases d:j=new
    .subst d;rw [aC] at a;cases a
    .rw [aq _ _ d] at a;rw [aq _ _ d];exact hs.cr j r a
  .by_cases e:j=i
   .subst e;rw [aC] at a;cases a
   .rw [aq _ _ e] at a;by_cases d:j=new
    .subst d;rw [aC] at a;cases a
    .rw [aq _ _ d] at a;exact a
theorem OQ{new i:Id}{k sz az rsz:Nat}{us:aG}(a:new.real=true)(hs:HS c w h ρ O)(e:rR h new i k sz az rsz=some us):∃ρ' O',Le w ρ O w ρ' O'/\HS c w (aJ h us) ρ' O':=by
 have j:∀{bb:Bool},h new=none->∀u,aw w (AA c w O) (.aT bb) u->cR w (AA c w O) (aA ρ new (some u)) O new (.rows bb sz az rsz 0 []):=by
  intro bb b u o;have m:nZ (aA ρ new (some u)) O new 0 []:=⟨by simp,(λf b=>by cases b),λn _=>by rw [aq _ _ (aL a)];exact(hs.fj new n b).1,λn d l=>by rw [(hs.fj new n b).2] at l;cases l⟩;simp only [aw] at o;rcases o with⟨rfl,rfl⟩ | ⟨rfl,ah,off,p,rfl⟩
  .exact⟨none,0,aC _ _ _,by simp,by simp,m, .inl rfl⟩
  .exact⟨some ⟨ah,off,p⟩,0,aC _ _ _,by simp,by simp,m, .inl rfl⟩
 unfold rR at e;split at e
 .rename_i cs hi;split at e
  .simp only [Rp] at e;subst e;exact⟨ρ,O,Le.refl,hs⟩
  .rename_i bb g;exact w9 a hs hi j (.inl g) e
  .rename_i z g;exact w9 a hs hi j (.inr ⟨z,g,rfl⟩) e
  .simp at e
 .simp at e
theorem Od{new i:Id}{k sz:Nat}{us:aG}(g:new.real=true)(hs:HS c w h ρ O)(e:oK h new i k sz=some us):∃ρ' O',Le w ρ O w ρ' O'/\HS c w (aJ h us) ρ' O':=by
 unfold oK at e;cases hb:Nat.ble 100000 sz with
 | true=>rw [hb] at e;exact OQ g hs e
 | false=>
 rw [hb,cond_false] at e;split at e
 .rename_i cs hi;obtain⟨b,arr,t,h1,h2,h3,Q,h5⟩:=hs.ah i _ hi;have R:∀{bb:Bool},h new=none->∀u,aw w (AA c w O) (.aT bb) u->cR w (AA c w O) (aA ρ new (some u)) O new (.sl false sz bb []):=
   λ_ u hu=>⟨u,aC _ _ _,Lh hu,by simp⟩
  split at e
  .simp only [Rp] at e;subst e;exact⟨ρ,O,Le.refl,hs⟩
  .rename_i bb d;exact w9 g hs hi R (.inl d) e
  .rename_i z d;exact w9 g hs hi R (.inr ⟨z,d,rfl⟩) e
  .rename_i j sz' n d;split at e
   .rename_i sz'' bb xs l;split at e
    .rename_i D;obtain⟨rfl,rfl,S⟩:=D;cases y:h new with
     | some x=>rw [y] at e;simp at e
     | none=>
      rw [y] at e;simp only [Vu,cond_true,Rp] at e;subst e;obtain⟨u,g1,N⟩:=Q.get d;obtain⟨n1,n2⟩:=hs.cr new g y;have V:i≠new:=λe=>by rw [e,y] at hi;cases hi
      have W:j≠new:=λe=>by rw [e,y] at l;cases l
      obtain⟨v,M,⟨a,cap,rfl,f2,Z,_,J⟩,_⟩:=hs.ah j _ l;simp only [ak] at N;obtain⟨a1,L,Y,q,I,f,e3,rfl,e4⟩:=N;rw [M] at I;simp only [Rp,SD] at I;obtain⟨rfl,rfl,rfl⟩:=I;have B:(xs.take n).length=n:=by rw [So];omega
      have ha:q=none↔a=none:=by
       rcases e4 with⟨_,rfl⟩ | ⟨_,h,_⟩ | ⟨_,_,rfl,rfl⟩
       .exact Vo
       .exact h
       .simp
      have le:Le w ρ O w (aA ρ new (some (.slice q n (cap - 0)))) (aA (aA O j none) new (O j)):=by
       refine⟨rfl,rfl,rfl,RI _,λk v d=> ?_,λ_ _ _=>rfl,λk b d=> ?_⟩
       .by_cases e:k=new
        .subst e;rw [n1] at d;cases d
        .rw [aq _ _ e];exact d
       .by_cases e:k=new
        .subst e;rw [aC] at d;exact .inl ⟨j,d⟩
        .rw [aq _ _ e] at d;by_cases f:k=j
         .subst f;rw [aC] at d;cases d
         .rw [aq _ _ f] at d;exact .inl ⟨k,d⟩
      have r:∀k b,aA (aA O j none) new (O j) k=some b->(k=new/\O j=some b)\/(k≠new/\k≠j/\O k=some b):=by
       intro k b d;by_cases e:k=new
       .subst e;rw [aC] at d;exact .inl ⟨rfl,d⟩
       .rw [aq _ _ e] at d;by_cases f:k=j
        .subst f;rw [aC] at d;cases d
        .rw [aq _ _ f] at d;exact .inr ⟨e,f,d⟩
      refine⟨_,_,le, ?_⟩;rw [cX,cX,dH];have X:=hs.real (i:=i) (by rw [hi];simp);have G:=hs.real (i:=j) (by rw [l];simp);have gk:GK w ρ O w (aA ρ new (some (.slice q n (cap - 0)))) (aA (aA O j none) new (O j)):=λk m=>⟨aq _ _ (aL g),by rw [aq _ _ (aL g),aq _ _ (aL G)],λ_ _=>rfl⟩;refine hs.go le gk (λk x d=> ?_) (λk U d=> ?_) (λk d=> ?_) (λk m=>by rw [aq _ _ (aL X),aq _ _ (aL g),aq _ _ (aL G)];exact hs.dF k m) (λk K b d T=> ?_) (λk b d=> ?_)
      .by_cases e:k=i
       .subst e;rw [aC] at d;cases d;right;refine⟨b,arr,t,le.eB _ _ h1,by rw [aq _ _ V,aq _ _ (Vp S)];exact h2,h3,ay.set (ay.mono (λb hb=>le.A b hb) le.eB _ _ Q) g1 ?_,h5⟩;simp only [ak];exact aC _ _ _
       .rw [aq _ _ e] at d;by_cases f:k=new
        .subst f;rw [aC] at d;cases d;right;refine⟨_,aC _ _ _,⟨q,cap,by rw [B];rfl,by rw [B];omega,by rw [ha];exact Z,trivial, ?_⟩,by simp⟩;rcases J with J | ⟨ah,off,H,t',q1,C,q3,q4,q5⟩
         .exact .inl J
         .by_cases F:cap=0
          .exact .inl F
          .right;subst q1;have:q=some ⟨ah,off,none⟩:=by
            rcases e4 with⟨_,rfl⟩ | ⟨h,_⟩ | ⟨b',o,e5,rfl⟩
            .rfl
            .exact absurd h.symm F
            .simp only [Rp,Ss] at e5;obtain⟨rfl,rfl,_⟩:=e5;simp
           refine⟨ah,off,H,t',this, ?_,q3,q4,(aU.m8 (λb hb=>le.A b hb) ah _ rfl off xs q5).take n⟩;simp only [RS,if_false] at C⊢;rw [aC];exact C
        .rw [aq _ _ f] at d;by_cases e3:k=j
         .subst e3;rw [aC] at d;cases d;exact .inr ⟨⟨_,le.eB _ _ M,rfl,rfl⟩,by rw [aq _ _ W,aC]⟩
         .rw [aq _ _ e3] at d;exact .inl ⟨d,by rw [aq _ _ f,aq _ _ e3],λ_ _=>rfl⟩
      .by_cases e:k=i
       .subst e;rw [aC] at d;cases d
       .rw [aq _ _ e] at d;by_cases f:k=new
        .subst f;rw [aC] at d;cases d
        .rw [aq _ _ f] at d;by_cases e3:k=j
         .subst e3;rw [aC] at d;cases d
         .rw [aq _ _ e3] at d;rw [aq _ _ f,aq _ _ f,aq _ _ e3];exact hs.cr k U d
      .by_cases e:k=i
       .subst e;rw [aC] at d;cases d
       .rw [aq _ _ e] at d;by_cases f:k=new
        .subst f;rw [aC] at d;cases d
        .rw [aq _ _ f] at d;by_cases e3:k=j
         .subst e3;rw [aC] at d;cases d
         .rw [aq _ _ e3] at d;exact d
      .rcases r k b d with⟨rfl,p⟩ | ⟨p0,p,E⟩ <;> rcases r K b T with⟨rfl,q1⟩ | ⟨q0,q1,C⟩
       .rfl
       .exact(q1 (hs.inj K j b C p)).elim
       .exact(p (hs.inj k j b E q1)).elim
       .exact hs.inj k K b E C
      .rcases r k b d with⟨rfl,p⟩ | ⟨p0,p,E⟩
       .exact hs.lt j b p
       .exact hs.lt k b E
    .simp at e
   .simp at e
  .simp at e
 .simp at e
theorem OP{new i x:Id}{k sz az rsz:Nat}{us:aG}(e:rR h new i k sz az rsz=some us)(a:h x=none)(j:x≠new):aJ h us x=none:=by
 unfold rR at e;split at e
 .rename_i cs hi;have g:x≠i:=λe=>by rw [e,hi] at a;cases a
  have d:∀{b:Bool},(cond (h new).isNone (some [(new,ab.rows b sz az rsz 0 []),(i,ab.box (cs.set k (.own new)))]) none)=some us->aJ h us x=none:=by
   intro b e;cases f:(h new).isNone with
   | false=>rw [f] at e;simp at e
   | true=>rw [f] at e;simp only [cond_true,Rp] at e;subst e;rw [cX,dH,aq _ _ g,aq _ _ j];exact a
  split at e
  .simp only [Rp] at e;subst e;exact a
  .exact d e
  .exact d e
  .simp at e
 .simp at e
theorem Oc{new i x:Id}{k sz:Nat}{us:aG}(e:oK h new i k sz=some us)(a:h x=none)(l:x≠new):aJ h us x=none:=by
 unfold oK at e;cases hb:Nat.ble 100000 sz with
 | true=>rw [hb] at e;exact OP e a l
 | false=>
 rw [hb,cond_false] at e;split at e
 .rename_i cs hi;have g:x≠i:=λe=>by rw [e,hi] at a;cases a
  have f:∀{b:Bool},(cond (h new).isNone (some [(new,ab.sl false sz b []),(i,ab.box (cs.set k (.own new)))]) none)=some us->aJ h us x=none:=by
   intro b e;cases d:(h new).isNone with
   | false=>rw [d] at e;simp at e
   | true=>rw [d] at e;simp only [cond_true,Rp] at e;subst e;rw [cX,dH,aq _ _ g,aq _ _ l];exact a
  split at e
  .simp only [Rp] at e;subst e;exact a
  .exact f e
  .exact f e
  .rename_i j q n r;split at e
   .rename_i p bb xs m;have o:x≠j:=λe=>by rw [e,m] at a;cases a
    split at e
    .cases d:(h new).isNone with
     | false=>rw [d] at e;simp at e
     | true=>rw [d] at e;simp only [cond_true,Rp] at e;subst e;rw [cX,cX,dH,aq _ _ g,aq _ _ l,aq _ _ o];exact a
    .simp at e
   .simp at e
  .simp at e
 .simp at e
theorem Bt{o:Nat}:∀{l:List (Id×Nat×Nat)} {j:Nat} {h:Id->Option ab} {ρ:Id->Option Value} {O:Id->Option Nat} {us:aG},HS c w h ρ O->jK o j h l=some us->∃ρ' O',Le w ρ O w ρ' O'/\HS c w (aJ h us) ρ' O'
 | [],j,h,ρ,O,us,hs,e=>by simp only [jK,Rp] at e;subst e;exact⟨ρ,O,Le.refl,hs⟩
 | (i,k,sz)::l,j,h,ρ,O,us,hs,e=>by simp only [jK] at e;obtain⟨r,m,e⟩:=Rq.1 e;obtain⟨t,n,e⟩:=Rq.1 e;simp only [Rp] at e;subst e;obtain⟨p,q,cC,a⟩:=Od rfl hs m;obtain⟨f,g,d,b⟩:=Bt a n;exact⟨f,g,cC.trans d,by rw [lS];exact b⟩
theorem Hy{d:Nat}{x:Id}(b:∀k,x≠ .s d k):∀{l:List (Id×Nat×Nat)} {j:Nat} {h:Id->Option ab} {us:aG},jK d j h l=some us->h x=none->aJ h us x=none
 | [],j,h,us,e,a=>by simp only [jK,Rp] at e;subst e;exact a
 | (i,k,sz)::l,j,h,us,e,a=>by simp only [jK] at e;obtain⟨m,f,e⟩:=Rq.1 e;obtain⟨n,g,e⟩:=Rq.1 e;simp only [Rp] at e;subst e;rw [lS];exact Hy b g (Oc f a (b j))
end
open Go Go.IntKind
section
variable {P:Program} {w w':World} {A A':Nat->Prop} {c:Ctx} {ρ:Id->Option Value} {O:Id->Option Nat} {s:St} {cc:Option Bool} {h:Id->Option ab}
theorem xJ{k:Ck}{x:T}(a:dG k x=true):aw w A x (du x):=by cases x <;> cases k <;> simp_all [dG,aw,du]
theorem Bo:∀{ks:List Ck} {xs:List T},bU ks xs=true->aN w A xs (xs.map du)
 | [],[],_=>rfl
 | k::ks,x::xs,a=>by simp only [bU,Rw] at a;exact⟨_,_,rfl,xJ a.1,Bo a.2⟩
 | [],_::_,a=>by simp [bU] at a
 | _::_,[],a=>by simp [bU] at a
theorem Bn:∀{ks:List Ck} {xs:List T},bU ks xs=true->xs.length=ks.length
 | [],[],_=>rfl
 | k::ks,x::xs,a=>by simp only [bU,Rw] at a;simp [Bn a.2]
 | [],_::_,a=>by simp [bU] at a
 | _::_,[],a=>by simp [bU] at a
theorem yv{R:Type}{k:Ck}{x:T}{v:Value}{K:T->Option R}{r:R}(e:cc=none\/cc=some true)(hs:my k=true)(a:aw w A x v)(h:eX k cc x K=some r):
  ∃y,K y=some r/\dG k y=true/\v=du y:=by
 unfold eX at h;cases k with
 | i k=>simp only at h;replace h:=aK h e;obtain⟨n,d,h⟩:=h;rw [T.fS d] at a;exact⟨_,h,by simp [dG],by simpa [aw,du] using a⟩
 | b=>simp only at h;replace h:=aK h e;obtain⟨n,d,h⟩:=h;rw [T.iD d] at a;exact⟨_,h,by simp [dG],by simpa [aw,du] using a⟩
 | s=>simp only at h;replace h:=aK h e;obtain⟨n,d,h⟩:=h;rw [T.jR d] at a;exact⟨_,h,by simp [dG],by simpa [aw,du] using a⟩
 | l _=>simp [my] at hs
 | x=>simp [my] at hs
theorem Ci{R:Type}(e:cc=none\/cc=some true):∀{ks:List Ck} {xs:List T} {vs:List Value} {K:List T->Option R} {r:R},ks.all my=true->xs.length=ks.length->aN w A xs vs->eM cc ks xs K=some r->
  ∃d,K d=some r/\bU ks d=true/\vs=d.map du
 | [],[],vs,K,r,_,_,b,h=>⟨[],h,rfl,by simpa [aN] using b⟩
 | [],_::_,vs,K,r,_,a,b,h=>by simp at a
 | _::_,[],vs,K,r,_,a,b,h=>by simp at a
 | k::ks,x::xs,vs,K,r,hs,a,b,h=>by obtain⟨v,q,rfl,h1,l⟩:=b;simp only [SZ,Rw] at hs;simp only [eM] at h;obtain⟨y,h,f,g⟩:=yv e hs.1 h1 h;obtain⟨d,h,i,j⟩:=Ci e hs.2 (by simpa using a) l h;exact⟨y::d,h,by simp [bU,f,i],by rw [g,j];rfl⟩
theorem F7{k:TypeId}{q:Bool×List Ck}(h:kr P k=some q):q.2.all my=true/\(q.1=false->q.2.length=1):=by
 unfold kr at h;split at h
 .simp only [Rp] at h;subst h;simp [my]
 .simp only [Rp] at h;subst h;simp [my]
 .split at h
  .split at h
   .simp only [Rp] at h;subst h;refine⟨?_,by simp⟩;rw [RK];intro b a;rw [Te a];rfl
   .cases h
  .cases h
 .cases h
theorem AS{R:Type}{k:TypeId}{v:AV}{u:Value}{K:Bool->List Ck->List T->Option R}{r:R}(i:cc=none\/cc=some true)(hv:ak w A ρ v u)(h:ou P k cc v K=some r):
  ∃ag ks cs,K ag ks cs=some r/\kr P k=some (ag,ks)/\bU ks cs=true/\u=cV ag cs:=by
 unfold ou at h;obtain⟨q,f,h⟩:=Rq.1 h;obtain⟨q1,j⟩:=q;have a:=F7 f;simp only at h a;split at h
 .rename_i x _;obtain⟨g,h,b,d⟩:=Ci (vs:= [u]) i a.1 (by simpa using (a.2 rfl).symm) (show aN w A [x] [u] from⟨u,[],rfl,by simpa [ak] using hv,rfl⟩) h;refine⟨false,j,g,h,f,b, ?_⟩;unfold cV;rw [<-d];rfl
 .rename_i vs _;obtain⟨l,m,h⟩:=Rq.1 h;split at h
  .rename_i e;simp only [ak] at hv;obtain⟨o,rfl,h1,n⟩:=hv;obtain⟨g,h,b,d⟩:=Ci i a.1 e (aN.lC m h1) h;refine⟨true,j,g,h,f,b, ?_⟩;unfold cV;rw [d];rfl
  .cases h
 .cases h
theorem JV{a b:ByteArray}(e:(a==b)=true):a=b:=by
 cases a with
 | mk x=>cases b with
  | mk y=>have d:(x==y)=true:=e;rw [eq_of_beq d]
theorem Me{k:Ck}{x y:T}(a:dG k x=true)(hy:dG k y=true)(e:mU x y=true):x=y:=by
 cases x <;> cases k <;> simp [dG] at a <;> cases y <;> simp [dG] at hy <;> simp [mU] at e
 .subst a;subst hy;subst e;rfl
 .subst e;rfl
 .rw [JV e]
theorem Fi:∀{ks:List Ck} {xs b:List T},bU ks xs=true->bU ks b=true->dO xs b=true->xs=b
 | [],[],[],_,_,_=>rfl
 | k::ks,x::xs,y::b,a,hy,e=>by simp only [bU,Rw] at a hy;simp only [dO,Rw] at e;rw [Me a.1 hy.1 e.1,Fi a.2 hy.2 e.2]
 | [],_::_,_,a,_,_=>by simp [bU] at a
 | [],[],_::_,_,hy,_=>by simp [bU] at hy
 | _::_,[],_,a,_,_=>by simp [bU] at a
 | _::_,_::_,[],_,hy,_=>by simp [bU] at hy
theorem Mb{t:TypeId}{i:IntKind}(b:P.underlying t=some (.int i)){x y:T}(a:dG (.i i) x=true)(hy:dG (.i i) y=true){R:Type}(K:Bool->Option R):lf P none t x y K=K (mU x y):=by cases x <;> simp [dG] at a;cases y <;> simp [dG] at hy;subst a;subst hy;simp [lf,b,aa,T.int?,mU]
theorem Ff{e:TypeId}{i:IntKind}(d:P.underlying e=some (.int i)){R:Type}:∀(n:Nat) (xs b:List T) (K:Bool->Option R),bU (List.replicate n (.i i)) xs=true->bU (List.replicate n (.i i)) b=true->ef P none (List.replicate n e) xs b K=K (dO xs b)
 | 0,[],[],K,_,_=>rfl
 | n+1,x::xs,y::b,K,a,hy=>by simp only [Sj,bU,Rw] at a hy;simp only [Sj,ef,dO];rw [Mb d a.1 hy.1,Ff d n xs b _ a.2 hy.2]
 | 0,_::_,_,_,a,_=>by simp [bU] at a
 | 0,[],_::_,_,_,hy=>by simp [bU] at hy
 | n+1,[],_,_,a,_=>by simp [Sj,bU] at a
 | n+1,_::_,[],_,_,hy=>by simp [Sj,bU] at hy
theorem tE{ag:Bool}{ks:List Ck}{cs:List T}(b:ag=false->ks.length=1)(h:bU ks cs=true)(a:ag=false):∃x,cs= [x]/\cV ag cs=du x:=by have d:=Bn h;rw [b a] at d;obtain⟨x,rfl⟩:=List.length_eq_one_iff.1 d;exact⟨x,rfl,by rw [a];rfl⟩
theorem Mf{k:TypeId}{ag:Bool}{ks:List Ck}(f:kr P k=some (ag,ks)){a b:List T}(g:bU ks a=true)(hb:bU ks b=true)(w:World):
  (Op.equal k (cV ag a) (cV ag b)).run P w= .ok (dO a b) w:=by
 unfold kr at f;split at f
 .rename_i i j;simp only [Rp,Sk] at f;obtain⟨rfl,rfl⟩:=f;obtain⟨x,rfl,o⟩:=tE (ag:=false) (by simp) g rfl;obtain⟨y,rfl,r⟩:=tE (ag:=false) (by simp) hb rfl;rw [o,r];simp only [bU,Us] at g hb;have key:∀d (p q:Int),(Op.equalIn (d+1) k (.int i p) (.int i q)).run P w= .ok (p==q) w:=λd p q=>by simp [Op.equalIn,run_underlying j]
  cases x <;> simp [dG] at g;cases y <;> simp [dG] at hb;rename_i D q1;subst g;subst hb;rw [show ∀a b:T,dO [a] [b]=mU a b from λa b=>by simp [dO]];exact key 9999 _ _
 .rename_i j;simp only [Rp,Sk] at f;obtain⟨rfl,rfl⟩:=f;obtain⟨x,rfl,o⟩:=tE (ag:=false) (by simp) g rfl;obtain⟨y,rfl,r⟩:=tE (ag:=false) (by simp) hb rfl;rw [o,r];simp only [bU,Us] at g hb;cases x <;> simp [dG] at g;cases y <;> simp [dG] at hb;rename_i p q;have:∀d,(Op.equalIn (d+1) k (.string p) (.string q)).run P w= .ok (p==q) w:=λd=>by simp [Op.equalIn,run_underlying j]
  rw [show ∀a b:T,dO [a] [b]=mU a b from λa b=>by simp [dO]];exact this 9999
 .rename_i n e j;split at f
  .rename_i i l;split at f
   .rename_i m;simp only [Rp,Sk] at f;obtain⟨rfl,rfl⟩:=f;have B:fi P 7 e=some [e]:=by simp [fi,l]
    have z:fi P 8 k=some (List.replicate n e):=by
     simp only [fi,j,l,RA,U9,m.1,if_true];congr 1;induction n with
     | zero=>rfl
     | succ n C=>simp [Sj]
    obtain⟨bb,t,v⟩:=Ap (P:=P) (w:=w) (A:=λ_=>True) 8 k _ z 10000 (by omega) Bool none (.inl rfl) a b (a.map du) (b.map du) (λb=>some b) _ (Bo g) (Bo hb) (Ff l n a b _ g hb);have u:bt P k=true:=by simp [bt,j]
    simp only [Rp] at t;subst t;simpa [jS,u,cV,Op.equal,Op.maxDepth] using v
   .cases f
  .cases f
 .cases f
theorem wV{k:TypeId}{ag:Bool}{ks:List Ck}(t:kr P k=some (ag,ks)){a:List T}(o:bU ks a=true)(w:World):∀(b:List MapEntry) (es:List (List T×T)) (j:Nat),b.map (λe=>(e.key,e.val))=es.map (λp=>(cV ag p.1,du p.2))->(∀p∈es,bU ks p.1=true)->
  ((Instr.findAsking k (cV ag a) b j).run P w= .ok none w/\e8 a es=none)\/∃i x e p,(Instr.findAsking k (cV ag a) b j).run P w= .ok (some (j+i,du x)) w/\e8 a es=some x/\b[i]? =some e/\es[i]? =some p/\dO a p.1=true/\(∀i' g,i' < i->es[i']? =some g->dO a g.1=false)
 | [],[],j,_,_=> .inl ⟨by simp [Instr.findAsking],rfl⟩
 | [],_::_,j,h,_=>by simp at h
 | _::_,[],j,h,_=>by simp at h
 | e::b,(q,x)::es,j,h,l=>by
  simp only [RX,TD,Sk] at h;obtain⟨⟨h1,E⟩,F⟩:=h;have d:=Mf t o (l _ Rs) w;simp only at d;cases hb:dO a q
  .rw [hb] at d;rcases wV t o w b es (j+1) F (λp G=>l p (Ru _ G)) with⟨m,n⟩ | ⟨i,y,v,g,m,n,z,B,C,D⟩
   .exact .inl ⟨by simp [Instr.findAsking,h1,d,m],by simp [e8,hb,n]⟩
   .refine .inr ⟨i+1,y,v,g,by simp [Instr.findAsking,h1,d,m];omega,by simp [e8,hb,n],by simpa using z,by simpa using B,C, ?_⟩;intro i' u r f;cases i' with
    | zero=>simp at f;subst f;exact hb
    | succ i'=>exact D i' u (by omega) (by simpa using f)
  .rw [hb] at d;exact .inr ⟨0,x,e,(q,x),by simp [Instr.findAsking,h1,d,E],by simp [e8,hb],rfl,rfl,hb,λi' _ r=>by omega⟩
theorem HV{f:Nat->Sem Unit}:∀(l:List Nat),(∀i∈l,(f i).run P w= .ok () w)->(forIn l PUnit.unit λi _=>do f i;pure (ForInStep.yield PUnit.unit)).run P w= .ok PUnit.unit w
 | [],_=>by simp
 | i::l,h=>by simp only [List.forIn_cons,RO,h i Rs,RB,R0];have:=HV (f:=f) l λj a=>h j (Ru _ a);simpa using this
theorem zJ{k:TypeId}{ag:Bool}{ks:List Ck}(f:kr P k=some (ag,ks)){a:List T}(q:bU ks a=true)(em:Bool)(w:World):
  (Instr.checkKey em 10000 k (cV ag a)).run P w= .ok () w:=by
 unfold kr at f;split at f
 .rename_i i g;have:∀d,(Instr.checkKey em (d+1) k (cV ag a)).run P w= .ok () w:=λd=>by simp [Instr.checkKey,run_underlying g]
  exact this 9999
 .rename_i g;have:∀d,(Instr.checkKey em (d+1) k (cV ag a)).run P w= .ok () w:=λd=>by simp [Instr.checkKey,run_underlying g]
  exact this 9999
 .rename_i n e g;split at f
  .rename_i i l;split at f
   .rename_i b;simp only [Rp,Sk] at f;obtain⟨rfl,rfl⟩:=f;have m:bN P e=true:=by simp [bN,l]
    have u:bt P e=false:=by simp [bt,l]
    have p:=Bn q;rw [Td] at p;have one:∀d v,(Instr.checkKey em (d+1) e v).run P w= .ok () w:=λd v=>by simp [Instr.checkKey,run_underlying l]
    have t:∀d,∀j∈List.range' 0 n 1,(do Instr.checkKey em (d+1) e (<-part e (a.map du).toArray (j * (<-sizeOf e)))).run P w= .ok () w:=by
     intro d j o;have o:j < n:=by simpa using o
     have:=uo (P:=P) m (a.map du).toArray (j * 1) (λ_=>b.1) (by simp [b.1,p];omega) w;simp only [RO,iT m,RB,b.1,this,one d]
    have r:∀d,(Instr.checkKey em (d+2) k (cV true a)).run P w= .ok () w:=by intro d;have:=HV (P:=P) (w:=w) _ (t d);rw [Instr.checkKey];simp only [cV,cond_true,RO,run_underlying g,RB];simp only [Std.Legacy.Range.forIn_eq_forIn_range',Std.Legacy.Range.size,Sr,Nat.add_one_sub_one,Nat.div_one];simp at this;simp [this]
    exact r 9998
   .cases f
  .cases f
 .cases f
theorem Fq{f:TypeId}{d:TypeDesc}(a:P.underlying f=some d)(k:Value):∀(es:List MapEntry) (j:Nat) (r:Option (Nat×Value)),Instr.findNow d k es j=some r->(Instr.findAsking f k es j).run P w= .ok r w
 | [],j,r,h=>by simp [Instr.findNow] at h;subst h;simp [Instr.findAsking]
 | e::es,j,r,h=>by
  have key:∀b,Instr.sameNow d k e.key=some b->(Op.equal f k e.key).run P w= .ok b w:=by
   intro b hb;generalize e.key=g at hb⊢;have:∀n,(Op.equalIn (n+1) f k g).run P w= .ok b w:=by
    intro n;unfold Instr.sameNow at hb;split at hb
    .split at hb
     .rename_i h1;simp only [Rp] at hb;subst hb;subst h1;simp [Op.equalIn,run_underlying a]
     .cases hb
    .simp only [Rp] at hb;subst hb;simp [Op.equalIn,run_underlying a]
    .simp only [Rp] at hb;subst hb;simp [Op.equalIn,run_underlying a]
    .cases hb
   exact this 9999
  simp only [Instr.findNow] at h;split at h
  .rename_i hb;simp only [Rp] at h;subst h;simp [Instr.findAsking,key _ hb]
  .rename_i hb;simp [Instr.findAsking,key _ hb,Fq a k es (j+1) r h]
  .cases h
theorem rm{a:TypeId}{d:TypeDesc}(b:P.underlying a=some d)(k:Value)(es:List MapEntry)(r:Option (Nat×Value))(h:(Instr.findAsking a k es 0).run P w= .ok r w):(Instr.findKey a k es).run P w= .ok r w:=by
 unfold Instr.findKey;simp only [RO,run_underlying b,RB];cases e:Instr.findNow d k es 0 with
 | none=>simpa using h
 | some f=>have:=Fq (w:=w) b k es 0 f e;rw [this] at h;simpa using h
theorem AT{k:TypeId}{q:Bool×List Ck}(h:kr P k=some q):∃d,P.underlying k=some d:=by
 unfold kr at h;split at h
 .exact⟨_,by assumption⟩
 .exact⟨_,by assumption⟩
 .exact⟨_,by assumption⟩
 .cases h
theorem A7{t:TypeId}{q:TypeId×TypeId}(h:rE P t=some q):P.underlying t=some (.map q.1 q.2):=by
 unfold rE at h;split at h
 .rename_i k e b;cases a:bN P k && bN P e
  .simp [a] at h
  .simp only [a,cond_true,Rp] at h;subst h;exact b
 .cases h
theorem Rn{t:TypeId}{z:T}(h:Ct P t=some z):∃v,(zeroValue t).run P w= .ok v w/\aw w A z v:=by
 unfold Ct at h;split at h
 .rename_i i hi;split at h
  .rename_i v hv;refine⟨v, ?_,Hc h⟩;simp [zeroValue,typeInfo,run_program,hi,hv]
  .cases h
 .cases h
theorem Bc{i:Id}{ag:Bool}{ks:List Ck}{vk:Ck}{es:List (List T×T)}(hs:HS c w s.h ρ O)(hi:s.h i=some (.mp ag ks vk es)):∃b d a,ρ i=some (.map (some b))/\O i=some b/\w.heap[b]? =some (.map d a)/\
   d.toList.map (λe=>(e.key,e.val))=es.map (λp=>(cV ag p.1,du p.2))/\(∀p∈es,bU ks p.1=true/\dG vk p.2=true):=by
 obtain⟨b,d,a,h1,f,g,j,k⟩:=hs.ah i _ hi;exact⟨b,d,a,h1,f,g,j,λp l=>by simpa using RK.1 k p l⟩
theorem Fp{a:List T}:∀{es:List (List T×T)} {x:T},e8 a es=some x->∃p∈es,p.2=x
 | [],x,h=>by simp [e8] at h
 | (k,v)::r,x,h=>by
  simp only [e8] at h;cases hb:dO a k
  .rw [hb,cond_false] at h;obtain⟨p,b,e⟩:=Fp h;exact⟨p,Ru _ b,e⟩
  .rw [hb,cond_true] at h;simp only [Rp] at h;exact⟨_,Rs,h⟩
theorem Nh{R:Type}{t:TypeId}{x key:AV}{ok:Bool}{T vk:Value}{K:AV->Option R}{r:R}(hs:HS c w s.h ρ O)(m:ak w (AA c w O) ρ x T)(G:ak w (AA c w O) ρ key vk)(F:cc=none\/cc=some true)
  (h:m7 P s cc t x key ok K=some r):∃av v,K av=some r/\(Instr.lookup t T vk ok).run P w= .ok v w/\ak w (AA c w O) ρ av v:=by
 unfold m7 at h;obtain⟨q,Z,h⟩:=Rq.1 h;obtain⟨z,hz,h⟩:=Rq.1 h;obtain⟨ag,ks,cs,h,g,o,rfl⟩:=AS F G h;split at h
 .rename_i i;split at h
  .rename_i ag' ks' S es hi;split at h
   .rename_i l;obtain⟨rfl,rfl,hvk,B,_⟩:=l;obtain⟨b,a,U,W,g2,H,X,I⟩:=Bc hs hi;simp only [ak] at m;rw [W] at m;simp only [Rp] at m;subst m;obtain⟨zv,N,Q⟩:=Rn (w:=w) (A:=AA c w O) hz;obtain⟨d,J⟩:=AT g;have M:=A7 Z;have n:=zJ g o a.isEmpty w;rcases wV g o w a.toList es 0 X (λp Y=>(I p Y).1) with⟨E,k⟩ | ⟨j,y,e,p,E,k,f3,f4,f5,f6⟩
    .have f:=rm J _ _ _ E;rw [k] at h;simp only [Sd,Vv] at h;obtain⟨u,h,C,D⟩:=yv F B Q h;refine⟨_,cond ok (.tuple #[zv, .bool false]) zv,h, ?_, ?_⟩
     .cases ok <;> simp [Instr.lookup,run_underlying M,TF H,n,f,N]
     .have:aw w (AA c w O) u zv:=by rw [D];exact xJ C
      cases ok
      .simpa [ak] using this
      .simp only [cond_true,ak];exact⟨[zv, .bool false],rfl,by simp only [ay,ak];exact⟨zv,[.bool false],rfl,this, .bool false,[],rfl,by simp [aw],rfl⟩⟩
    .have f:=rm J _ _ _ E;rw [k] at h;simp only [RQ,Vw] at h;obtain⟨p',L,V⟩:=Fp k;have hy:dG S y=true:=by rw [<-V];exact(I p' L).2
     obtain⟨u,h,C,D⟩:=yv F B (xJ (w:=w) (A:=AA c w O) hy) h;refine⟨_,cond ok (.tuple #[du y, .bool true]) (du y),h, ?_, ?_⟩
     .cases ok <;> simp [Instr.lookup,run_underlying M,TF H,n,f]
     .have:aw w (AA c w O) u (du y):=by rw [D];exact xJ C
      cases ok
      .simpa [ak] using this
      .simp only [cond_true,ak];exact⟨[du y, .bool true],rfl,by simp only [ay,ak];exact⟨du y,[.bool true],rfl,this, .bool true,[],rfl,by simp [aw],rfl⟩⟩
   .cases h
  .cases h
 .cases h
theorem JW(a:ByteArray):(a==a)=true:=by
 cases a with
 | mk x=>show(x==x)=true;simp
theorem Ia{k:Ck}{x:T}(h:dG k x=true)(n:Nat):Instr.sameBits n (du x) (du x)=true:=by cases x <;> cases k <;> simp [dG] at h <;> cases n <;> simp [Instr.sameBits,du,JW]
theorem Pq{ag:Bool}{ks:List Ck}(a:ag=false->ks.length=1){cs:List T}(h:bU ks cs=true)(n:Nat):Instr.sameBits (n+1) (cV ag cs) (cV ag cs)=true:=by
 cases ag with
 | false=>
  obtain⟨x,rfl,e⟩:=tE a h rfl;rw [e];cases ks with
  | nil=>simp [bU] at h
  | cons k ks=>simp only [bU,Rw] at h;exact Ia h.1 _
 | true=>
  simp only [cV,cond_true,Instr.sameBits,beq_self_eq_true,S0];clear a;induction ks generalizing cs with
  | nil=>cases cs with
   | nil=>rfl
   | cons x cs=>simp [bU] at h
  | cons k ks b=>cases cs with
   | nil=>simp [bU] at h
   | cons x cs=>simp only [bU,Rw] at h;have:=b h.2;simp only [RX,List.zip_cons_cons,SZ,Ia h.1,S0];simpa using this
theorem PO{ag:Bool}{ks:List Ck}(a:ag=false->ks.length=1){cs:List T}(h:bU ks cs=true):(Instr.keyThatStays (cV ag cs) (cV ag cs)).run P w= .ok (cV ag cs) w:=by unfold Instr.keyThatStays;have:Instr.sameBits 10000 (cV ag cs) (cV ag cs)=true:=Pq a h 9999;simp [this]
theorem HF{a:List T}{v:T}:∀{es:List (List T×T)},e8 a es=none->gE a v es=es++ [(a,v)]
 | [],_=>rfl
 | (k,x)::r,h=>by
  simp only [e8] at h;cases hb:dO a k
  .rw [hb,cond_false] at h;simp [gE,hb,HF h]
  .simp [hb] at h
theorem HG{a:List T}{v:T}:∀{es:List (List T×T)} {i:Nat} {p:List T×T},es[i]? =some p->dO a p.1=true->(∀i' b,i' < i->es[i']? =some b->dO a b.1=false)->gE a v es=es.set i (a,v)
 | [],i,p,h,_,_=>by simp at h
 | (k,x)::r,0,p,h,h1,_=>by simp at h;subst h;simp only at h1;simp [gE,h1]
 | (k,x)::r,i+1,p,h,h1,d=>by have hb:dO a k=false:=d 0 (k,x) (by omega) rfl;have:=HG (v:=v) (es:=r) (i:=i) (p:=p) (by simpa using h) h1 λi' b hi e=>d (i'+1) b (by omega) (by simpa using e);simp [gE,hb,this]
theorem Bx{ks:List Ck}{vk:Ck}{a:List T}{v:T}(d:bU ks a=true)(hv:dG vk v=true):∀{es:List (List T×T)},(∀p∈es,bU ks p.1=true/\dG vk p.2=true)->∀p∈gE a v es,bU ks p.1=true/\dG vk p.2=true
 | [],_,p,b=>by simp [gE] at b;subst b;exact⟨d,hv⟩
 | (k,x)::r,h,p,b=>by
  simp only [gE] at b;cases hb:dO a k
  .rw [hb,cond_false] at b;rcases RC.1 b with rfl | b
   .exact h _ Rs
   .exact Bx d hv (λq e=>h q (Ru _ e)) p b
  .rw [hb,cond_true] at b;rcases RC.1 b with rfl | b
   .exact⟨d,hv⟩
   .exact h p (Ru _ b)
theorem HS.yE{i:Id}{b:Nat}{f ents':Array MapEntry}{d clock':Nat}{ag:Bool}{ks:List Ck}{vk:Ck}{es':List (List T×T)}{j:Id->Option ab}(hs:HS c w j ρ O)(hi:j i≠none)
  (m:ρ i=some (.map (some b))) (g:O i=some b) (l:w.heap[b]? =some (.map f d)) (n:ents'.toList.map (λe=>(e.key,e.val))=es'.map (λp=>(cV ag p.1,du p.2))) (o:∀p∈es',bU ks p.1=true/\dG vk p.2=true):
  Le w ρ O {w with heap:=w.heap.setIfInBounds b (.map ents' clock')} ρ O/\HS c {w with heap:=w.heap.setIfInBounds b (.map ents' clock')} (aA j i (some (.mp ag ks vk es'))) ρ O:=by
 have a:∀k,k≠b->(w.heap.setIfInBounds b (.map ents' clock'))[k]? =w.heap[k]?:=λk q=>Go.ChangeMaps.heap_setBlock_other l _ q;have le:Le w ρ O {w with heap:=w.heap.setIfInBounds b (.map ents' clock')} ρ O:=Le.write g rfl rfl rfl (by simp) a;refine⟨le,hs.write g le a _ ?_ hi⟩;exact⟨b,ents',clock',m,g,Go.ChangeMaps.heap_setBlock_same l _,n,by rw [RK];exact λp r=>by simpa using o p r⟩
theorem On{R:Type}{t:TypeId}{x key v:AV}{vx vk vv:Value}{K:aG->Option R}{r:R}(hs:HS c w s.h ρ O)(F:ak w (AA c w O) ρ x vx)(Q:ak w (AA c w O) ρ key vk)(hv:ak w (AA c w O) ρ v vv)
  (h:nr P s t x key v K=some r):∃us w',K us=some r/\(Instr.mapUpdate t vx vk vv).run P w= .ok () w'/\Le w ρ O w' ρ O/\HS c w' (aJ s.h us) ρ O:=by
 unfold nr at h;obtain⟨q,hq,h⟩:=Rq.1 h;obtain⟨ag,ks,cs,h,n,g,rfl⟩:=AS (cc:=none) (.inl rfl) Q h;split at h
 .rename_i i;split at h
  .rename_i f I J es hi;split at h
   .rename_i E;obtain⟨rfl,rfl,hvk,hsc⟩:=E;obtain⟨y,hy,h⟩:=Rq.1 h;rw [AV.lN hy] at hv;simp only [ak] at hv;obtain⟨u,h,T,U⟩:=yv (cc:=none) (.inl rfl) hsc hv h;obtain⟨b,a,l,N,Y,o,C,D⟩:=Bc hs hi;simp only [ak] at F;rw [N] at F;simp only [Rp] at F;subst F;obtain⟨d,hd⟩:=AT n;have hu:=A7 hq;have G:=zJ n g false w;have Z:=(F7 n).2;rcases wV n g w a.toList es 0 C (λp hp=>(D p hp).1) with⟨L,V⟩ | ⟨j,y',e,p,L,V,M,B,X,f6⟩
    .have m:=rm hd _ _ _ L;obtain⟨le,z⟩:=HS.yE (ag:=f) (ks:=I) (vk:=J) (es':=gE cs u es) (ents':=a.push {key:=cV f cs,val:=vv,born:=l}) (clock':=l+1) hs (by rw [hi];simp) N Y o
      (by rw [HF V];simp [C,U]) (Bx g T D)
     refine⟨_,_,h, ?_,le,z⟩;simp [Instr.mapUpdate,run_underlying hu,TF o,G,m,Ux _ o]
    .have m:=rm hd _ _ _ L;have hlt:j < es.length:=(Rz.1 B).1;have hpk:p.1=cs:=(Fi g (D p (Rt B)).1 X).symm;have hek:e.key=cV f cs:=by
      have h1:(a.toList.map λe=>(e.key,e.val))[j]? =some (e.key,e.val):=by simp [Sb,M]
      rw [C] at h1;simp only [Sb,B,Ts,Rp,Sk] at h1;rw [<-h1.1,hpk]
     have S:(a.modify j λe=>{e with key:=cV f cs,val:=vv}).toList.map (λe=>(e.key,e.val))= (gE cs u es).map (λp=>(cV f p.1,du p.2)):=by
      rw [HG B X f6];refine TV λk=> ?_;have H:(a.toList.map λe=>(e.key,e.val))[k]? = (es.map λp=>(cV f p.1,du p.2))[k]?:=by rw [C]
      simp only [Sb,Array.toList_modify,List.getElem?_modify,SC] at H⊢;by_cases e0:j=k
      .subst e0;simp [M,hlt,U]
      .simp only [e0,if_false];simpa using H
     obtain⟨le,z⟩:=HS.yE (ag:=f) (ks:=I) (vk:=J) (es':=gE cs u es) (ents':=a.modify j λe=>{e with key:=cV f cs,val:=vv}) (clock':=l) hs (by rw [hi];simp) N Y o S (Bx g T D);refine⟨_,_,h, ?_,le,z⟩;have hst:=PO (P:=P) (w:=w) Z g;have W:a[j]? =some e:=by simpa using M
     rw [RY] at m;simp [Instr.mapUpdate,run_underlying hu,TF o,G,m,W,hek,hst,Ux _ o]
   .cases h
  .cases h
 .cases h
theorem DY{a:List T}:∀{es:List (List T×T)},e8 a es=none->iH a es=es
 | [],_=>rfl
 | p::es,h=>by
  unfold e8 at h;unfold iH;cases b:dO a p.1 with
  | true=>rw [b] at h;simp at h
  | false=>rw [b] at h;simp only [cond_false] at h⊢;rw [DY h]
theorem DX{a:List T}:∀{es:List (List T×T)} {i:Nat} {p:List T×T},es[i]? =some p->dO a p.1=true->(∀i' b,i' < i->es[i']? =some b->dO a b.1=false)->iH a es=es.eraseIdx i
 | [],_,_,h,_,_=>by simp at h
 | q::es,0,p,h,d,_=>by simp only [SQ,Rp] at h;subst h;simp [iH,d]
 | q::es,i+1,p,h,d,hb=>by have e:=hb 0 q (by omega) rfl;unfold iH;rw [e,cond_false,DX (by simpa using h) d (λi' b hi f=>hb (i'+1) b (by omega) (by simpa using f))];rfl
theorem A8{a b:Type}(f:a->b):∀(l:List a) (i:Nat),(l.eraseIdx i).map f= (l.map f).eraseIdx i
 | [],_=>rfl
 | _::_,0=>rfl
 | x::l,i+1=>by simp only [List.eraseIdx_cons_succ,RX,A8 f l i]
theorem zR{a:List T}:∀{es:List (List T×T)},∀p∈iH a es,p∈es
 | [],p,h=>h
 | q::es,p,h=>by
  unfold iH at h;cases b:dO a q.1 with
  | true=>rw [b] at h;exact Ru _ h
  | false=>
   rw [b] at h;rcases RC.1 h with rfl | h
   .exact Rs
   .exact Ru _ (zR p h)
theorem Kn{R:Type}{t ty tr:TypeId}{x key:AV}{T vk:Value}{K:aG->Option R}{r:R}(hs:HS c w s.h ρ O)(v:ak w (AA c w O) ρ x T)(H:ak w (AA c w O) ρ key vk)
  (h:mN P s t x key K=some r):∃us w',K us=some r/\(Builtin.delete_ #[t,ty] tr #[T,vk]).run P w= .ok (.tuple #[]) w'/\Le w ρ O w' ρ O/\HS c w' (aJ s.h us) ρ O:=by
 unfold mN at h;obtain⟨q,X,h⟩:=Rq.1 h;obtain⟨ag,ks,cs,h,l,B,rfl⟩:=AS (cc:=none) (.inl rfl) H h;split at h
 .rename_i i;split at h
  .rename_i y C D es hi;split at h
   .rename_i u;obtain⟨rfl,rfl⟩:=u;obtain⟨b,a,f,F,L,k,o,G⟩:=Bc hs hi;simp only [ak] at v;rw [F] at v;simp only [Rp] at v;subst v;obtain⟨d,M⟩:=AT l;have S:=A7 X;have z:=zJ l B a.isEmpty w;rcases wV l B w a.toList es 0 o (λp m=>(G p m).1) with⟨E,I⟩ | ⟨j,y',e,p,E,I,Y,J,U,V⟩
    .have g:=rm M _ _ _ E;obtain⟨le,n⟩:=HS.yE (ag:=y) (ks:=C) (vk:=D) (es':=iH cs es) (ents':=a) (clock':=f) hs (by rw [hi];simp) F L k (by rw [DY I];exact o) (λp m=>G p (zR p m));refine⟨_,_,h, ?_,le,n⟩;simp [Builtin.delete_,run_underlying S,TF k,z,g,Ux _ k]
    .have g:=rm M _ _ _ E;have Q:j < es.length:=(Rz.1 J).1;have N:a.toList.length=es.length:=by simpa using congrArg List.length o
     have W:j < a.size:=by rw [<-RR,N];exact Q
     obtain⟨le,n⟩:=HS.yE (ag:=y) (ks:=C) (vk:=D) (es':=iH cs es) (ents':=a.eraseIdxIfInBounds j) (clock':=f) hs (by rw [hi];simp) F L k (by
       rw [DX J U V,A8,<-o,<-A8];simp only [Array.eraseIdxIfInBounds,W,dif_pos,Array.toList_eraseIdx]) (λp m=>G p (zR p m))
     refine⟨_,_,h, ?_,le,n⟩;rw [RY] at g;simp [Builtin.delete_,run_underlying S,TF k,z,g,Ux _ k]
   .cases h
  .cases h
 .cases h
theorem Np{R:Type}{d:Nat}{t:TypeId}{K:AV->aG->Option R}{r:R}(hs:HS c w s.h ρ O)(h:rD P d t K=some r):
  ∃v us,K v us=some r/\(iK d s.h us=true->∃u w' ρ' O',(Instr.makeMap t none).run P w= .ok u w'/\Le w ρ O w' ρ' O'/\HS c w' (aJ s.h us) ρ' O'/\ak w' (AA c w' O') ρ' v u):=by
 unfold rD at h;obtain⟨q,g,h⟩:=Rq.1 h;obtain⟨p,f,h⟩:=Rq.1 h;split at h
 .rename_i e;refine⟨_,_,h,λa=> ?_⟩;have a:=jC a Rs;have le:=Le.alloc hs (i:= .s d 0) rfl a (.map #[] 0) (.map (some w.heap.size)) (some w.heap.size) (.inr rfl);have b:=hs.alloc (i:= .s d 0) rfl a (.map #[] 0) (.map (some w.heap.size)) (some w.heap.size) (.inr rfl) (.mp p.1 p.2 (kV P q.2) []) ⟨w.heap.size,#[],0,by simp,by simp,ko _,by simp,by simp⟩;refine⟨.map (some w.heap.size),_,_,_,rfl,le,by rw [dH];exact b, ?_⟩;simp only [ak];rw [aC]
 .refine⟨_,_,h,λa=> ?_⟩;have a:=jC a Rs;have le:=Le.alloc hs (i:= .s d 0) rfl a (.map #[] 0) (.map (some w.heap.size)) none (.inl rfl);have b:=hs.alloc (i:= .s d 0) rfl a (.map #[] 0) (.map (some w.heap.size)) none (.inl rfl) .dead ⟨⟨_,aC _ _ _,rfl,rfl⟩,aC _ _ _⟩;refine⟨.map (some w.heap.size),_,_,_,rfl,le,by rw [dH];exact b, ?_⟩;simp only [ak,aw];exact⟨rfl,rfl⟩
end
end Go.Aev
