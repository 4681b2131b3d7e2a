import Derived.Test.YticjdhgokemdlaaGreatMostWeakQ2
import Derived.MapKept
import Derived.ChangeMaps5
set_option linter.all false
namespace Go.Aev
open Go Go.IntKind
section
variable {P:Program} {w w':World} {A A':Nat->Prop} {c:Ctx} {ρ:Id->Option Value} {O:Id->Option Nat} {s:St} {cc:Option Bool} {h:Id->Option ab}
def iS(ρ:Id->Option Value)(i i':Id)(nx:Nat)(v vk:Value):Id->Option Value:=λx=>
 if x=i' then some v else match x with
  | .g y n=>if y=i' then(if n=nx then some vk else ρ (.g i n)) else ρ (.g y n)
  | x=>ρ x
def eP(O:Id->Option Nat)(i i' j src:Id)(nx:Nat)(ob:Option Nat):Id->Option Nat:=λx=>
 if x=i' then ob else if x=i\/x=j\/x=src then none else match x with
  | .g y n=>if y=i' then(if n=nx then O src else O (.g i n)) else if y=i then none else O (.g y n)
  | x=>O x
def vr(i i' j src:Id)(nx:Nat):Id->Option Id:=λx=>
 if x=i' then some i else if x=i\/x=j\/x=src then none else match x with
  | .g y n=>if y=i' then(if n=nx then some src else some (.g i n)) else if y=i then none else some (.g y n)
  | x=>some x
def nJ(i i' src:Id)(nx:Nat):Id->Id:=λz=>
 if z=i then i' else if z=src then .g i' nx else match z with
  | .g y n=>if y=i then .g i' n else .g y n
  | z=>z
theorem zz{i i' j src:Id}{nx:Nat}(p:src≠i)(o:∀n,src≠ .g i n)(m:i.real=true){x z:Id}(b:vr i i' j src nx x=some z):nJ i i' src nx z=x:=by
 unfold vr at b;split at b
 .rename_i h;simp only [Uh] at b;subst b;unfold nJ;rw [if_pos rfl,h]
 .rename_i h1;split at b
  .cases b
  .rename_i l;have f:x≠i:=λe=>l (.inl e);have k:x≠src:=λe=>l (.inr (.inr e));cases x with
   | g y n=>
    dsimp only at b;split at b
    .rename_i e;subst e;split at b
     .rename_i e2;simp only [Uh] at b;subst b;unfold nJ;rw [if_neg p,if_pos rfl,e2]
     .simp only [Uh] at b;subst b;unfold nJ;rw [if_neg (aP m),if_neg (λe=>o n e.symm)];simp
    .split at b
     .cases b
     .rename_i e3;simp only [Uh] at b;subst b;unfold nJ;rw [if_neg f,if_neg k];simp [e3]
   | c a=>simp only [Uh] at b;subst b;unfold nJ;rw [if_neg f,if_neg k]
   | s d a=>simp only [Uh] at b;subst b;unfold nJ;rw [if_neg f,if_neg k]
theorem Rb{i i' j src:Id}{nx:Nat}{ob:Option Nat}{x:Id}{d:Nat}(b:eP O i i' j src nx ob x=some d):(x=i'/\ob=some d)\/(x≠i'/\∃z,vr i i' j src nx x=some z/\O z=some d):=by
 unfold eP at b;unfold vr;split at b
 .exact .inl ⟨by assumption,b⟩
 .rename_i h1;right;refine⟨h1, ?_⟩;rw [if_neg h1];split at b
  .cases b
  .rename_i f;rw [if_neg f];cases x with
   | g y n=>
    dsimp only at b⊢;split at b
    .rename_i e;rw [if_pos e];split at b
     .rename_i e2;rw [if_pos e2];exact⟨_,rfl,b⟩
     .rename_i e2;rw [if_neg e2];exact⟨_,rfl,b⟩
    .rename_i e;rw [if_neg e];split at b
     .cases b
     .rename_i e3;rw [if_neg e3];exact⟨_,rfl,b⟩
   | c a=>exact⟨_,rfl,b⟩
   | s d a=>exact⟨_,rfl,b⟩
theorem HS.Jn{i i' j src s0:Id}{b:Bool}{sz aD rsz nx:Nat}{es:List Row}{l:List T}{bb:Bool}{xs:List (List T)}{vk:Value}{X:ab}{af blk' off off' cap':Nat}{N:Array Value}{t':TypeId}{ob:Option Nat}{news:List Value}
  (hs:HS c w h ρ O) (hi:h i=some (.rows b sz aD rsz nx es)) (I:h i'=none) (hrl:i'.real=true) (hj:h j≠none) (hji:j≠i) (hs0:h s0≠none) (hs0i:s0≠i) (hs0j:s0≠j)
  (t:src=s0\/∃n,src= .g s0 n) (hvk:ρ src=some vk) (hsl:cP w (AA c w O) rsz bb xs vk (λd=>O src=some d))
  (hos:w'.os=w.os) (ho:w'.output=w.output) (htp:w'.tape=w.tape) (hsz:w.heap.size<=w'.heap.size) (W:∀k,k < w.heap.size->O i≠some k->w'.heap[k]? =w.heap[k]?)
  (Y:ob=O i\/(ob=some w.heap.size/\w.heap.size < w'.heap.size)) (hobs:ob=some blk') (hb:w'.heap[blk']? =some (.cells N t' (0,0))) (hfit:off'+cap' * sz<=N.size) (hcap:es.length+1<=cap')
  (hrows:ch w (AA c w O) ρ O i af sz aD rsz off es) (hold:∀p,p < es.length * sz->w'.cell? ⟨blk',off'+p,none⟩=w.cell? ⟨af,off+p,none⟩)
  (hcol:aD < sz) (hl:l.length=sz) (hnew:∀p v,news[p]? =some v->w'.cell? ⟨blk',off'+es.length * sz+p,none⟩=some v) (hnr:∀m x,m≠aD->l[m]? =some x->∃v,news[m]? =some v/\aA w (AA c w O) x v) (hnk:news[aD]? =some vk)
  (hX:(∀b,AA c w O b->AA c w' (eP O i i' j src nx ob) b/\w'.heap[b]? =w.heap[b]?)->cT w' (AA c w' (eP O i i' j src nx ob)) (iS ρ i i' nx (.slice (some ⟨blk',off',none⟩) (es.length+1) cap') vk) (eP O i i' j src nx ob) s0 X):
  Le w ρ O w' (iS ρ i i' nx (.slice (some ⟨blk',off',none⟩) (es.length+1) cap') vk) (eP O i i' j src nx ob)/\
  HS c w' (aE (aE (aE (aE h i (some .dead)) j (some .dead)) s0 (some X)) i' (some (.rows false sz aD rsz (nx+1) (es++ [⟨nx,l,some (bb,xs)⟩])))) (iS ρ i i' nx (.slice (some ⟨blk',off',none⟩) (es.length+1) cap') vk) (eP O i i' j src nx ob):=by
 have B:=hs.real (i:=i) (by rw [hi];simp);have L:=hs.real hj;have K:=hs.real hs0;have hii:i'≠i:=λe=>by rw [e,hi] at I;cases I
 have hij:i'≠j:=λe=>hj (e▸I);have hi0:i'≠s0:=λe=>hs0 (e▸I);have M:src≠i:=by
  rcases t with rfl | ⟨n,rfl⟩
  .exact hs0i
  .exact aP B
 have hsj:src≠j:=by
  rcases t with rfl | ⟨n,rfl⟩
  .exact hs0j
  .exact aP L
 have hsi':src≠i':=by
  rcases t with rfl | ⟨n,rfl⟩
  .exact hi0.symm
  .exact aP hrl
 have Z:∀n,src≠ .g i n:=by
  intro n;rcases t with rfl | ⟨m,rfl⟩
  .exact(aP K).symm
  .intro e;simp only [Id.g.injEq] at e;exact hs0i e.1
 have hsg':∀n,src≠ .g i' n:=by
  intro n;rcases t with rfl | ⟨m,rfl⟩
  .exact(aP K).symm
  .intro e;simp only [Id.g.injEq] at e;exact hi0 e.1.symm
 obtain⟨a,cap,r1,r2,r3,⟨n1,n2,n3,n4⟩,r5⟩:=hs.af i _ hi;obtain⟨V,hV⟩:∃V,V=iS ρ i i' nx (.slice (some ⟨blk',off',none⟩) (es.length+1) cap') vk:=⟨_,rfl⟩;obtain⟨Q,R⟩:∃Q,Q=eP O i i' j src nx ob:=⟨_,rfl⟩;rw [<-hV,<-R] at hX⊢;have V1:V i'=some (.slice (some ⟨blk',off',none⟩) (es.length+1) cap'):=by rw [hV];unfold iS;rw [if_pos rfl]
 have V2:∀x,x.real=true->x≠i'->V x=ρ x:=by
  intro x F o;rw [hV];unfold iS;rw [if_neg o];cases x with
  | g y n=>cases F
  | _=>rfl
 have V3:∀y n,y≠i'->V (.g y n)=ρ (.g y n):=by intro y n hy;rw [hV];unfold iS;rw [if_neg (aP hrl)];simp only [if_neg hy]
 have V4:∀n,V (.g i' n)=if n=nx then some vk else ρ (.g i n):=by intro n;rw [hV];unfold iS;rw [if_neg (aP hrl)];simp
 have Q1:Q i'=ob:=by rw [R];unfold eP;rw [if_pos rfl]
 have Q0:∀x,x≠i'->(x=i\/x=j\/x=src)->Q x=none:=by intro x o C;rw [R];unfold eP;rw [if_neg o,if_pos C]
 have Q2:∀x,x.real=true->x≠i'->x≠i->x≠j->x≠src->Q x=O x:=by
  intro x F o h1 C h3;rw [R];unfold eP;rw [if_neg o,if_neg (by rintro(h | h | h) <;> contradiction)];cases x with
  | g y n=>cases F
  | _=>rfl
 have Q3:∀y n,y≠i'->y≠i->Id.g y n≠src->Q (.g y n)=O (.g y n):=by intro y n hy hy2 h3;rw [R];unfold eP;rw [if_neg (aP hrl),if_neg (by rintro(h | h | h);exact aP B h;exact aP L h;exact h3 h)];simp only [if_neg hy,if_neg hy2]
 have Q4:∀n,Q (.g i' n)=if n=nx then O src else O (.g i n):=by intro n;rw [R];unfold eP;rw [if_neg (aP hrl),if_neg (by rintro(h | h | h);exact aP B h;exact aP L h;exact hsg' n h.symm)];simp
 have U:∀x d,Q x=some d->(x=i'/\ob=some d)\/(x≠i'/\∃z,vr i i' j src nx x=some z/\O z=some d):=λx d o=>Rb (by rw [<-R];exact o);have le:Le w ρ O w' V Q:=by
  refine⟨hos,ho,htp,hsz,λx u o=> ?_,λd r hn=>W d r (hn i),λx d o=> ?_⟩
  .cases F:x.real with
   | true=>
    have:x≠i':=λe=>by rw [e,(hs.cB i' hrl I).1] at o;cases o
    rw [V2 x F this];exact o
   | false=>
    cases x with
    | g y n=>
     have:y≠i':=λe=>by rw [e,(hs.fG i' n I).1] at o;cases o
     rw [V3 y n this];exact o
    | _=>cases F
  .rcases U x d o with⟨_,h1⟩ | ⟨_,z,_,C⟩
   .rcases Y with e | ⟨e,_⟩
    .exact .inl ⟨i,by rw [<-e];exact h1⟩
    .rw [e] at h1;cases h1;exact .inr (UC _)
   .exact .inl ⟨z,C⟩
 have hA:∀d,AA c w O d->AA c w' Q d/\w'.heap[d]? =w.heap[d]?:=λd r=>le.A d r;have E:∀x d,x≠i->O x=some d->w'.heap[d]? =w.heap[d]?:=λx d o r=>W d (hs.lt x d r) λe=>o (hs.inj x i d r e);refine⟨le,hs.oN le (λx y o=> ?_) (λx F o=> ?_) (λx n=> ?_) (λx n o=> ?_) (λx n u H=> ?_) (λx y d o hy=> ?_) (λx d o=> ?_)⟩
 .by_cases J:x=i'
  .subst J;rw [aF] at o;cases o;right;have hlen:(es++ [(⟨nx,l,some (bb,xs)⟩:Row)]).length=es.length+1:=by simp
   refine⟨some ⟨blk',off',none⟩,cap',by rw [hlen];exact V1,by rw [hlen];exact hcap,by simp,⟨?_,λf D=> ?_,λn hn=> ?_,λn d r=> ?_⟩, .inr ⟨blk',off',N,t',rfl,by rw [Q1];exact hobs,hb,hfit,ch.append ?_ ⟨?_,trivial⟩⟩⟩
   .rw [Wg,Wb];refine⟨n1,by simp,λa ha b hb=> ?_⟩;simp only [U5,Xf,Uv] at hb;obtain⟨f,D,e⟩:=UT.1 ha;have:=n2 f D;omega
   .rcases UB.1 D with D | D
    .have:=n2 f D;omega
    .simp only [Uv] at D;subst D;simp
   .rw [V4,if_neg (by omega)];exact n3 n (by omega)
   .rw [Q4] at r;by_cases en:n=nx
    .exact⟨_,Ux _ (Uv.2 rfl),en.symm⟩
    .rw [if_neg en] at r;obtain⟨f,D,hfn⟩:=n4 n d r;exact⟨f,Uy _ D,hfn⟩
   .refine ch.move hA hold (λf D=> ?_) hrows;have q:f.n≠nx:=by have:=n2 f D;omega
    exact⟨by rw [V4,if_neg q],by rw [Q4,if_neg q],λd r=>E _ d (aP B) r⟩
   .refine⟨hl,hcol,λm y hm hy=> ?_,vk,hnew aD vk hnk,by rw [V4];simp, ?_⟩
    .obtain⟨v,g1,g2⟩:=hnr m y hm hy;exact⟨v,hnew m v g1,aA.mono hA y v g2⟩
    .simp only;refine cP.mono hA (λd r=> ?_) hsl;rw [Q4];exact⟨by simpa using r,E src d M r⟩
  .rw [ar _ _ J] at o;by_cases e2:x=s0
   .subst e2;rw [aF] at o;cases o;exact .inr (hX hA)
   .rw [ar _ _ e2] at o;by_cases e3:x=j
    .subst e3;rw [aF] at o;cases o;obtain⟨y,hy⟩:=XI.1 hj;have:∃u,ρ x=some u:=by
      cases G:ρ x with
      | some u=>exact⟨u,rfl⟩
      | none=>
       exfalso;have:=hs.af x y hy;cases y with
       | box cs=>obtain⟨b,_,_,h1,_⟩:=this;rw [G] at h1;cases h1
       | sl fz sz b xs=>obtain⟨v,h1,_⟩:=this;rw [G] at h1;cases h1
       | iR l=>obtain⟨b,h1,_⟩:=this;rw [G] at h1;cases h1
       | mp ag ks vk es=>obtain⟨b,_,_,h1,_⟩:=this;rw [G] at h1;cases h1
       | arr cs=>obtain⟨b,_,_,h1,_⟩:=this;rw [G] at h1;cases h1
       | rows _ _ _ _ _ _=>obtain⟨_,_,h1,_⟩:=this;rw [G] at h1;cases h1
       | dead=>obtain⟨⟨v,h1,_⟩,_⟩:=this;rw [G] at h1;cases h1
     obtain⟨u,H⟩:=this;exact .inr ⟨⟨u,by rw [V2 x L J];exact H,kD hs H⟩,Q0 x J (.inr (.inl rfl))⟩
    .rw [ar _ _ e3] at o;by_cases e4:x=i
     .subst e4;rw [aF] at o;cases o;exact .inr ⟨⟨_,by rw [V2 x B J];exact r1,rfl,rfl⟩,Q0 x J (.inl rfl)⟩
     .rw [ar _ _ e4] at o;have hrx:=hs.real (i:=x) (by rw [o];simp);have e5:x≠src:=by
       rcases t with rfl | ⟨n,rfl⟩
       .exact e2
       .exact(aP hrx).symm
      refine .inl ⟨o,Q2 x hrx J e4 e3 e5,λd r=>E x d e4 r,λn=>⟨V3 x n J,Q3 x n J e4 ?_,λd r=>E _ d (aP B) r⟩⟩;rcases t with rfl | ⟨m,rfl⟩
      .exact aP K
      .intro e;simp only [Id.g.injEq] at e;exact e2 e.1
 .have q:x≠i':=λe=>by rw [e,aF] at o;cases o
  rw [ar _ _ q] at o;have h0:x≠s0:=λe=>by rw [e,aF] at o;cases o
  rw [ar _ _ h0] at o;have h1:x≠j:=λe=>by rw [e,aF] at o;cases o
  rw [ar _ _ h1] at o;have C:x≠i:=λe=>by rw [e,aF] at o;cases o
  rw [ar _ _ C] at o;have h5:x≠src:=by
   rcases t with rfl | ⟨n,rfl⟩
   .exact h0
   .exact(aP F).symm
  rw [V2 x F q,Q2 x F q C h1 h5];exact hs.cB x F o
 .rw [ar _ _ (aP hrl),ar _ _ (aP K),ar _ _ (aP L),ar _ _ (aP B)];exact hs.ez x n
 .have q:x≠i':=λe=>by rw [e,aF] at o;cases o
  rw [ar _ _ q] at o;have h0:x≠s0:=λe=>by rw [e,aF] at o;cases o
  rw [ar _ _ h0] at o;have h1:x≠j:=λe=>by rw [e,aF] at o;cases o
  rw [ar _ _ h1] at o;have C:x≠i:=λe=>by rw [e,aF] at o;cases o
  rw [ar _ _ C] at o;have h5:Id.g x n≠src:=by
   rcases t with rfl | ⟨m,rfl⟩
   .exact aP K
   .intro e;simp only [Id.g.injEq] at e;exact h0 e.1
  rw [V3 x n q,Q3 x n q C h5];exact hs.fG x n o
 .by_cases q:x=i'
  .subst q;rw [V4] at H;split at H
   .simp only [Uh] at H;subst H;exact kD hs hvk
   .exact hs.gone i n u H
  .rw [V3 x n q] at H;exact hs.gone x n u H
 .rcases U x d o with⟨x1,x2⟩ | ⟨x1,z,x2,x3⟩ <;> rcases U y d hy with⟨y1,S⟩ | ⟨y1,z',S,y3⟩
  .rw [x1,y1]
  .rcases Y with e | ⟨e,_⟩
   .rw [e] at x2;have:=hs.inj i z' d x2 y3;subst this;have:=zz M Z B S;unfold nJ at this;rw [if_pos rfl] at this;rw [x1];exact this
   .rw [e] at x2;cases x2;exact absurd (hs.lt _ _ y3) (WU _)
  .rcases Y with e | ⟨e,_⟩
   .rw [e] at S;have:=hs.inj i z d S x3;subst this;have:=zz M Z B x2;unfold nJ at this;rw [if_pos rfl] at this;rw [y1];exact this.symm
   .rw [e] at S;cases S;exact absurd (hs.lt _ _ x3) (WU _)
  .have:=hs.inj z z' d x3 y3;subst this;rw [<-zz M Z B x2,<-zz M Z B S]
 .rcases U x d o with⟨_,h1⟩ | ⟨_,z,_,C⟩
  .rcases Y with e | ⟨e,e2⟩
   .rw [e] at h1;have:=hs.lt i d h1;omega
   .rw [e] at h1;cases h1;exact e2
  .have:=hs.lt z d C;omega
end
open Go
section
variable {P:Program} {w w':World} {A A':Nat->Prop} {c:Ctx} {ρ:Id->Option Value} {O:Id->Option Nat} {s:St} {cc:Option Bool} {h:Id->Option ab}
theorem HS.move{i i':Id}(hs:HS c w h ρ O)(hi:h i≠none)(z:h i'=none)(v:Value)(f:Option Nat)(J:w'.os=w.os)(p:w'.output=w.output)(L:w'.tape=w.tape)(K:w.heap.size<=w'.heap.size)
  (m:∀k,k < w.heap.size->O i≠some k->w'.heap[k]? =w.heap[k]?) (r:f=none\/f=O i\/(f=some w.heap.size/\w.heap.size < w'.heap.size)) (x:ab)
  (S:cT w' (AA c w' (aE (aE O i none) i' f)) (aE ρ i' (some v)) (aE (aE O i none) i' f) i' x) (hrl:i'.real=true:=by rfl):
  Le w ρ O w' (aE ρ i' (some v)) (aE (aE O i none) i' f)/\HS c w' (aE (aE h i' (some x)) i (some .dead)) (aE ρ i' (some v)) (aE (aE O i none) i' f):=by
 have B:i≠i':=λe=>hi (e▸z);have M:∀b,f=some b->b < w'.heap.size:=by
  intro b hb;rcases r with e | e | ⟨e,e2⟩
  .rw [e] at hb;cases hb
  .rw [e] at hb;have:=hs.lt i b hb;omega
  .rw [e] at hb;cases hb;exact e2
 have le:Le w ρ O w' (aE ρ i' (some v)) (aE (aE O i none) i' f):=by
  refine⟨J,p,L,K,λj u a=> ?_,λb hb R=>m b hb (R i),λj b a=> ?_⟩
  .by_cases e:j=i'
   .subst e;rw [(hs.cB _ hrl z).1] at a;cases a
   .rw [ar _ _ e];exact a
  .by_cases e:j=i'
   .subst e;rw [aF] at a;rcases r with e | e | ⟨e,_⟩
    .rw [e] at a;cases a
    .rw [e] at a;exact .inl ⟨i,a⟩
    .rw [e] at a;cases a;exact .inr (UC _)
   .rw [ar _ _ e] at a;by_cases e2:j=i
    .subst e2;rw [aF] at a;cases a
    .rw [ar _ _ e2] at a;exact .inl ⟨j,a⟩
 have t:=hs.real hi;have N:GK w ρ O w' (aE ρ i' (some v)) (aE (aE O i none) i' f):=λj n=>⟨ar _ _ (aP hrl),by rw [ar _ _ (aP hrl),ar _ _ (aP t)],λb hb=>m b (hs.lt _ b hb) λe=>aP t (hs.inj _ i b hb e)⟩;refine⟨le,hs.go le N (λj T a=> ?_) (λj I a=> ?_) (λj a=> ?_) (λj n=>by rw [ar _ _ (aP t),ar _ _ (aP hrl)];exact hs.ez j n) (λj k d a D=> ?_) (λj d a=> ?_)⟩
 .by_cases e:j=i
  .subst e;rw [aF] at a;cases a;right;obtain⟨b,hb⟩:=XI.1 hi;have E:∃u,ρ j=some u/\u.oneCell'=true/\u.cells= #[u]:=by
    cases g:ρ j with
    | none=>
     exfalso;have:=hs.af j b hb;cases b with
     | box cs=>obtain⟨b,_,_,h1,_⟩:=this;rw [g] at h1;cases h1
     | sl U sz b xs=>obtain⟨v,h1,_⟩:=this;rw [g] at h1;cases h1
     | iR l=>obtain⟨b,h1,_⟩:=this;rw [g] at h1;cases h1
     | mp ag ks vk es=>obtain⟨b,_,_,h1,_⟩:=this;rw [g] at h1;cases h1
     | arr cs=>obtain⟨b,_,_,h1,_⟩:=this;rw [g] at h1;cases h1
     | rows _ _ _ _ _ _=>obtain⟨_,_,h1,_⟩:=this;rw [g] at h1;cases h1
     | dead=>obtain⟨⟨v,h1,_⟩,_⟩:=this;rw [g] at h1;cases h1
    | some u=>exact⟨u,rfl,kD hs g⟩
   obtain⟨u,h1,Q⟩:=E;exact⟨⟨u,by rw [ar _ _ B];exact h1,Q⟩,by rw [ar _ _ B,aF]⟩
  .rw [ar _ _ e] at a;by_cases e2:j=i'
   .subst e2;rw [aF] at a;cases a;exact .inr S
   .rw [ar _ _ e2] at a;refine .inl ⟨a,by rw [ar _ _ e2,ar _ _ e],λaf q=>m af (hs.lt j af q) (λp=>e (hs.inj j i af q p))⟩
 .by_cases e:j=i
  .subst e;rw [aF] at a;cases a
  .rw [ar _ _ e] at a;by_cases e2:j=i'
   .subst e2;rw [aF] at a;cases a
   .rw [ar _ _ e2] at a;rw [ar _ _ e2,ar _ _ e2,ar _ _ e];exact hs.cB j I a
 .by_cases e:j=i
  .subst e;rw [aF] at a;cases a
  .rw [ar _ _ e] at a;by_cases e2:j=i'
   .subst e2;rw [aF] at a;cases a
   .rw [ar _ _ e2] at a;exact a
 .have y:∀j b,aE (aE O i none) i' f j=some b->(j=i'/\f=some b)\/(j≠i'/\j≠i/\O j=some b):=by
   intro j b a;by_cases e:j=i'
   .subst e;rw [aF] at a;exact .inl ⟨rfl,a⟩
   .rw [ar _ _ e] at a;by_cases e2:j=i
    .subst e2;rw [aF] at a;cases a
    .rw [ar _ _ e2] at a;exact .inr ⟨e,e2,a⟩
  have o:∀k b,f=some b->k≠i->O k=some b->False:=by
   intro k b hb D p;rcases r with e | e | ⟨e,_⟩
   .rw [e] at hb;cases hb
   .rw [e] at hb;exact D (hs.inj k i b p hb)
   .rw [e] at hb;cases hb;exact WU _ (hs.lt k _ p)
  rcases y j d a with⟨F,e2⟩ | ⟨F,e2,e3⟩ <;> rcases y k d D with⟨G,C⟩ | ⟨G,C,H⟩
  .rw [F,G]
  .exact(o k d e2 C H).elim
  .exact(o j d C e2 e3).elim
  .exact hs.inj j k d e3 H
 .by_cases e:j=i'
  .subst e;rw [aF] at a;exact M d a
  .rw [ar _ _ e] at a;by_cases e2:j=i
   .subst e2;rw [aF] at a;cases a
   .rw [ar _ _ e2] at a;have:=hs.lt j d a;omega
theorem Kr{v:AV}{x:T}{u:Value}{sz:Nat}{p:Bool×List (List T)}(hs:HS c w h ρ O)(hv:ao w (AA c w O) ρ v u)(d:dH h v=some x)(E:x.aT sz=some p):
  (p.2= []/\(u= .slice none 0 0\/∃a cap,u= .slice (some a) 0 cap))\/∃af off cap,u= .slice (some ⟨af,off,none⟩) p.2.length cap/\aX w (AA c w O) af sz off p.2:=by
 have f:aA w (λ_=>True) x u:=mV hs hv d (λ_ _=>trivial) (λ_ _ _ _=>trivial);have bL:p.2= []->(u= .slice none 0 0\/∃a cap,u= .slice (some a) 0 cap):=by
  intro e;rcases T.p9 E with rfl | ⟨rfl,_⟩
  .simp only [aA] at f;rcases f with⟨_,_,rfl⟩ | ⟨_,af,off,H,cap,rfl,_⟩
   .exact .inl rfl
   .rw [e];exact .inr ⟨_,_,rfl⟩
  .simp only [aA] at f;rcases f with⟨_,rfl⟩ | ⟨_,af,off,H,rfl⟩
   .exact .inl rfl
   .exact .inr ⟨_,_,rfl⟩
 by_cases e:p.2= []
 .exact .inl ⟨e,bL e⟩
 right;have R:x= .aa sz p.1 p.2:=by
  rcases T.p9 E with h | ⟨_,h⟩
  .exact h
  .exact absurd h e
 subst R;cases v <;> simp only [dH,reduceCtorEq,Uh] at d
 case t y=>
  subst d;simp only [ao,aA] at hv;rcases hv with⟨_,h,_⟩ | ⟨_,af,off,H,cap,rfl,_,r,g⟩
  .exact absurd h e
  .rcases r with r | ⟨rfl,_⟩
   .exact absurd r e
   exact⟨af,off,cap,rfl,g⟩
 case own i=>
  split at d
  .rename_i Q m b xs hi;simp only [Uh,T.aa.injEq] at d;obtain⟨rfl,rfl,rfl⟩:=d;obtain⟨Z,z,a,cap,q1,S,U,V,k⟩:=nT hs hi;simp only [ao] at hv;rw [z] at hv;simp only [Uh] at hv;subst hv;subst q1;rcases k with k | ⟨af,off,arr,t,C,W,X,Y,j⟩
   .exact absurd (UA.1 (by omega)) e
   .subst C;exact⟨af,off,cap,rfl,j⟩
  .simp at d
 case ref i off=>
  split at d
  .obtain⟨l,_,d⟩:=Ui.1 d;simp at d
  .simp at d
  .simp at d
 case part i sz1 off n=>
  split at d
  .rename_i Q m b xs hi;split at d
   .rename_i F;subst F;simp only [Uh,T.aa.injEq] at d;obtain⟨rfl,rfl,G⟩:=d;obtain⟨Z,z,a,cap,q1,S,U,V,k⟩:=nT hs hi;simp only [ao] at hv;obtain⟨a1,L,J,I,q,e2,e3,rfl,K⟩:=hv;rw [z] at q;simp only [Uh] at q;subst q;simp only [VH] at q1;obtain⟨rfl,rfl,rfl⟩:=q1;have B:((xs.drop off).take n).length=n:=by simp only [Vd,Wj];omega
    rw [<-G] at e⊢;have hn:n≠0:=λh=>e (by rw [h];rfl);rcases k with k | ⟨af,off',arr,t,C,W,X,Y,j⟩
    .omega
    .subst C;have N:I=some ⟨af,off'+off * m,none⟩:=by
      rcases K with⟨rfl,rfl⟩ | ⟨rfl,_⟩ | ⟨b',o,D,M⟩
      .simp
      .omega
      .simp only [Uh,Vt] at D;obtain⟨rfl,rfl,_⟩:=D;exact M
     subst N;exact⟨af,_,_,by rw [B],(j.drop off).take n⟩
   .simp at d
  .simp at d
theorem RJ{t k ty e:TypeId}{i:TypeInfo}(m:P.underlying t=some (.slice e))(hi:P.info? e=some i){b off a d:Nat}{arr:Array Value}{tt:TypeId}(hb:w.heap[b]? =some (.cells arr tt (0,0))){x:Value}{n:Nat}{news:List Value}
  (hs:Src P i.size k x n news w) (f:a+n<=d) (l:off+d * i.size<=arr.size):
  (Builtin.append_ #[t,k] ty #[.slice (some ⟨b,off,none⟩) a d,x]).run P w= .ok (.slice (some ⟨b,off,none⟩) (a+n) d) (w.setRow b (bZ (off+a * i.size) news arr.toList).toArray):=by
 have o:=hs.newsLen;have hm:(a+n) * i.size<=d * i.size:=Vm _ f;have e:(a+n) * i.size=a * i.size+n * i.size:=WY _ _ _;have g:=run_storeCells_at P b (off+a * i.size) tt news 0 arr w hb (by omega) hs.one;simp only [Xd] at g;rcases hs.kind with⟨e',j⟩ | j <;> simp [Builtin.append_,run_underlying m,run_underlying j,sizeOf,typeInfo,hi,hs.len,f,hs.cells,hY,g,bZ]
theorem RI{t j ty e:TypeId}{i:TypeInfo}(k:P.underlying t=some (.slice e))(hi:P.info? e=some i){base:Option Addr}{d b:Nat}{x:Value}(hs:Src P i.size j x 0 [] w)(f:d<=b):
  (Builtin.append_ #[t,j] ty #[.slice base d b,x]).run P w= .ok (.slice base d b) w:=by
 have l:∀a:Addr,(storeCells a []).run P w= .ok () w:=λa=>by simp [storeCells]
 cases base <;> rcases hs.kind with⟨e',g⟩ | g <;> simp [Builtin.append_,run_underlying k,run_underlying g,sizeOf,typeInfo,hi,hs.len,f,hs.cells,storeCells]
structure Ad (P:Program) (t tx e:TypeId) (i:TypeInfo) (x:Value) (n:Nat) (news:List Value) (w:World):Prop where
 newsLen:news.length=n * i.size
 one:∀u∈news,u.oneCell'=true
 idle:n=0->∀(ty:TypeId) (base:Option Addr) (sLen sCap:Nat),sLen<=sCap->(Builtin.append_ #[t,tx] ty #[.slice base sLen sCap,x]).run P w= .ok (.slice base sLen sCap) w
 Co:∀(ty:TypeId) (b off sLen sCap:Nat) (arr:Array Value) (tt:TypeId),w.heap[b]? =some (.cells arr tt (0,0))->sLen+n<=sCap->off+sCap * i.size<=arr.size->
  (Builtin.append_ #[t,tx] ty #[.slice (some ⟨b,off,none⟩) sLen sCap,x]).run P w= .ok (.slice (some ⟨b,off,none⟩) (sLen+n) sCap) (w.setRow b (bZ (off+sLen * i.size) news arr.toList).toArray)
 grow:∀(ty:TypeId) (z:Value) (base:Option Addr) (sLen sCap:Nat) (olds:List Value),i.zero=some z->(Builtin.firstCells i.size sLen (.slice base sLen sCap)).run P w.drew= .ok olds.toArray w.drew->sCap < sLen+n->
  ((sLen+n:Nat):Int)<=9223372036854775807->Builtin.nextslicecap (sLen+n) sCap * i.bytes<=281474976710656->
  (Builtin.append_ #[t,tx] ty #[.slice base sLen sCap,x]).run P w=
   .ok (.slice (some ⟨w.heap.size,0,none⟩) (sLen+n) (grownCap w (sLen+n) sCap e))
    (w.drew.alloc (.cells ((olds++news).toArray++Builtin.zeroCells z.cells (grownCap w (sLen+n) sCap e - (sLen+n))) e))
theorem Ad.ve{t tx e:TypeId}{i:TypeInfo}{x:Value}{n:Nat}{news:List Value}(ht:P.underlying t=some (.slice e))(hi:P.info? e=some i)(hs:Src P i.size tx x n news w):Ad P t tx e i x n news w where
 newsLen:=hs.newsLen
 one:=hs.one
 idle:=by intro h ty base sLen sCap hr;subst h;have:news= []:=UA.1 (by rw [hs.newsLen];simp);subst this;exact RI ht hi hs hr
 Co:=λty b off sLen sCap arr tt hb hr hf=>RJ ht hi hb hs hr hf
 grow:=λty z base sLen sCap olds hz ho hg h63 hf=>run_append_grow_src w t tx ty e i z ht hi hz base sLen sCap olds ho x n news hs hg h63 hf
theorem Uc{z:Array Value}{sz:Nat}(hz:z.size=sz)(n:Nat):(Builtin.zeroCells z n).toList= (List.replicate n z.toList).flatten:=by
 apply WT;intro p;by_cases d:p < n * sz
 .have h1:((List.replicate n z.toList).flatten).length=n * sz:=by simp [hz]
  have a:((List.replicate n z.toList).flatten)[p]? =some ((List.replicate n z.toList).flatten[p]'(by omega)):=Up _;rw [a];have b:=Cz (zv:=z) hz n n (UC _) p _ a;rw [<-b,Vo];simp [madeCells,Builtin.zeroCells,hz]
 .have h1:((List.replicate n z.toList).flatten).length=n * sz:=by simp [hz]
  have a:(Builtin.zeroCells z n).toList.length=n * sz:=by rw [UP,size_zeroCells,hz]
  rw [VI (by omega),VI (by omega)]
theorem QQ{n:Int}(a: 0<=n)(h1:n<=4294967296):i64.wrap n=n:=by rw [IntKind.wrap_i64];omega
theorem Ad.QR{t N e:TypeId}{i:TypeInfo}{zv:Value}{ki:IntKind}{n:Int}(B:P.underlying t=some (.slice e))(x:P.underlying N=some (.int ki))(hi:P.info? e=some i)(hz:i.zero=some zv)(E:zv.cells.size=i.size)(hb:i.bytes<=8192)
  (Q: 0<=n) (h1:n<=4294967296) (I:∀u∈zv.cells.toList,u.oneCell'=true):Ad P t N e i (.int .i64 n) n.toNat (List.replicate n.toNat zv.cells.toList).flatten w:=by
 have C:=QQ Q h1;have m:¬(n < 0):=by omega
 have f:¬(281474976710656 < n * (i.bytes:Int)):=by have W:n * (i.bytes:Int)<=4294967296 * 8192:=Int.le_trans (UJ h1 (by omega)) (Ur (by omega) (by omega));omega
 have M:(List.replicate n.toNat zv.cells.toList).flatten.length=n.toNat * i.size:=by simp [E]
 have one:∀u∈(List.replicate n.toNat zv.cells.toList).flatten,u.oneCell'=true:=by intro u H;obtain⟨l,K,H⟩:=List.mem_flatten.1 H;rw [List.mem_replicate] at K;obtain⟨_,rfl⟩:=K;exact I u H
 have U:=Uc E n.toNat
 have F:Builtin.zeroCells zv.cells n.toNat= (List.replicate n.toNat zv.cells.toList).flatten.toArray:=by rw [<-U]
 have aJ:n.toNat * i.size=0->(List.replicate n.toNat zv.cells.toList).flatten= []:=λh=>UA.1 (by rw [M,h]);refine⟨M,one, ?_, ?_, ?_⟩
 .intro h ty base d j S;have R:∀a:Addr,(storeCells a []).run P w= .ok () w:=λa=>by simp [storeCells]
  cases base <;> simp [Builtin.append_,run_underlying B,run_underlying x,sizeOf,typeInfo,hi,asInt,asIntOf,C,m,f,h,S,R]
 .intro ty b off d j arr tt J k G;have hm:(d+n.toNat) * i.size<=j * i.size:=Vm _ k;have e:(d+n.toNat) * i.size=d * i.size+n.toNat * i.size:=WY _ _ _;have o:=run_storeCells_at P b (off+d * i.size) tt (List.replicate n.toNat zv.cells.toList).flatten 0 arr w J (by omega) one;simp only [Xd] at o;by_cases g:n.toNat * i.size=0
  .have:=aJ g;rw [this] at o⊢;simp [Builtin.append_,run_underlying B,run_underlying x,sizeOf,typeInfo,hi,asInt,asIntOf,C,m,f,k,g,hY,o,bZ]
  .simp [Builtin.append_,run_underlying B,run_underlying x,sizeOf,typeInfo,zeroValue,hi,hz,asInt,asIntOf,C,m,f,k,g,F,hY,o,bZ]
 .intro ty z base d j T D y X V G;rw [hz] at D;cases D;have L:¬(d+n.toNat<=j):=by omega
  have q:¬(9223372036854775807 < ((d:Int)+ (n.toNat:Int))):=by omega
  have v:¬(9223372036854775807 < ((d:Int)+max n 0)):=by omega
  have r:¬(i64.max < ((d:Int)+ (n.toNat:Int))):=by simp only [IntKind.max,IntKind.bits,IntKind.signed];omega
  have p:¬(281474976710656 < Builtin.nextslicecap (d+n.toNat) j * i.bytes):=by omega
  by_cases g:n.toNat * i.size=0
  .have:=aJ g;rw [this];simp [Builtin.append_,run_underlying B,run_underlying x,sizeOf,typeInfo,zeroValue,hi,hz,asInt,asIntOf,C,m,f,L,q,v,r,p,Question.forced,g,y,newRow,grownCap]
  .simp [Builtin.append_,run_underlying B,run_underlying x,sizeOf,typeInfo,zeroValue,hi,hz,asInt,asIntOf,C,m,f,L,q,v,r,p,Question.forced,g,F,y,newRow,grownCap];congr 2;apply WO;simp [UR]
theorem Io{n m:Int}(h:br n m=some ()): 0<=n/\n<=m/\m<=cZ:=by
 unfold br at h;split at h
 .assumption
 .simp at h
theorem Ls{R:Type}{t N e:TypeId}{sz:Nat}{z:List T}{ti:TypeInfo}{y:AV}{Q:Value}{K:List (List T)->Option R}{r:R}(hs:HS c w s.h ρ O)(m:P.underlying N=some (.slice e))(f:P.info? e=some ti)(k:ti.size=sz)(hz:jT P e=some z)(J:z.length=sz)(G:P.bytesOf e<=8192)(hy:ao w (AA c w O) ρ y Q)(d:mD P s t sz z y K=some r):
  ∃E vss,K E=some r/\Ad P N t e ti Q E.length vss.flatten w/\cv w (AA c w O) sz E vss:=by
 subst k;unfold mD at d;split at d
 .rename_i e' i;obtain⟨x,q,d⟩:=Ui.1 d;replace d:=aO d (.inl rfl);obtain⟨p,W,d⟩:=d;rcases Kr hs hy q W with⟨e,h⟩ | ⟨af,off,cap,rfl,g⟩
  .rw [e] at d;refine⟨[],[],d, ?_,rfl⟩;rcases h with rfl | ⟨a,cap,rfl⟩
   .exact .ve m f (Src.ofNil w i 0)
   .exact .ve m f (Src.ofSlice w i a 0 cap [] (by simp) (by simp) (by simp))
  .obtain⟨vss,h1,B⟩:=g.be;obtain⟨l1,Y⟩:=h1.length;exact⟨p.2,vss,d, .ve m f (Src.ofSlice w i ⟨af,off,none⟩ _ cap _ (by rw [Y]) (λj u U=>by rw [hY];exact B j u U) (λu i=>(h1.one u i).1)),h1⟩
 .rename_i i;split at d
  .rename_i k;obtain⟨x,q,d⟩:=Ui.1 d;replace d:=aO d (.inl rfl);obtain⟨b,hb,d⟩:=d;have:=T.kK hb;subst this;rw [AV.mo q] at hy;simp only [ao,aA] at hy;subst hy;have flat:∀l:List Value,(l.map λv=> [v]).flatten=l:=by intro l;induction l <;> simp_all
   refine⟨_,((b.data.toList.map λb=>Value.int .u8 b.toNat).map λv=> [v]),d, ?_, ?_⟩
   .rw [flat,WC];have:=Src.ofString (P:=P) w i b;have e:b.data.toList.length=b.size:=by rw [UP];rfl
    rw [e];exact .ve m f (by rw [k];exact this)
   .have F:∀l:List UInt8,cv w (AA c w O) 1 (l.map λu=> [T.int .u8 u.toNat]) ((l.map λb=>Value.int .u8 b.toNat).map λv=> [v]):=by
     intro l;induction l with
     | nil=>rfl
     | cons u l X=>exact⟨_,_,rfl,rfl,⟨_,[],rfl,gH _ _ _ _,rfl⟩,X⟩
    rw [k];exact F _
  .simp at d
 .rename_i ki i;obtain⟨x,q,d⟩:=Ui.1 d;replace d:=aO d (.inl rfl);obtain⟨n,V,d⟩:=d;replace d:=aO d (.inl rfl);obtain⟨_,hb,d⟩:=d;have:=T.gw V;subst this;obtain⟨S,_,B⟩:=Io hb;rw [AV.mo q] at hy;simp only [ao,aA] at hy;subst hy;obtain⟨Z,zv,o,M,H⟩:=oc hz;rw [f] at o;cases o;have D:aQ w (AA c w O) z zv.cells.toList:=oZ H;have L:zv.cells.size=ti.size:=by
   have:=D.length;rw [UP] at this;omega
  have I:=cv.replicate D J n.toNat
  have C:ti.bytes<=8192:=by simpa [Program.bytesOf,f] using G
  refine⟨_,_,d, ?_,I⟩;rw [We];exact .QR m i f M L C S (by simpa [cZ] using B) (λu i=>(D.one u i).1)
 .simp at d
theorem Ci(z:Array Value)(l:List Value)(k:Nat):∀(p:Nat) (v:Value),l[p]? =some v->(l.toArray++Builtin.zeroCells z k)[p]? =some v:=by intro p v b;have a:=(Us.1 b).1;rw [Array.getElem?_append_left (by simpa using a)];simpa using b
theorem B7{bs n:Nat}(h:oL bs n)(hb:bs<=8192):n * bs<=140737488355328:=by
 rcases h with h | ⟨_,h⟩
 .have:n * bs<=4294967296 * 8192:=XX h hb;omega
 .exact h
theorem B8{bs n:Nat}(h:oL bs n):n<=140737488355328:=by
 rcases h with h | ⟨a,h⟩
 .have:n<=4294967296:=h;omega
 .exact UY (Nat.le_mul_of_pos_right n a) h
theorem Ez{t tx ty e:TypeId}{ti:TypeInfo}{zs:List T}{y:Value}{i i':Id}{b:Bool}{xs d:List (List T)}{vss:List (List Value)}{base:Option Addr}{cap:Nat}
  (hs:HS c w h ρ O) (hi:h i≠none) (D:h i'=none) (ht:P.underlying t=some (.slice e)) (hz:jT P e=some zs) (hzl:zs.length=P.cellsOf e) (hby:P.bytesOf e<=8192)
  (U:oL (P.bytesOf e) (xs.length+d.length)) (hcap:xs.length<=cap) (X:base=none↔b=true) (E:True)
  (x:cap=0\/∃af off arr tt,base=some ⟨af,off,none⟩/\O i=some af/\w.heap[af]? =some (.cells arr tt (0,0))/\off+cap * P.cellsOf e<=arr.size/\aX w (AA c w O) af (P.cellsOf e) off xs)
  (I:P.info? e=some ti) (src:Ad P t tx e ti y d.length vss.flatten w) (C:cv w (AA c w O) (P.cellsOf e) d vss) (hrl:i'.real=true:=by rfl):
  ∃v w' ρ' O',(Builtin.append_ #[t,tx] ty #[.slice base xs.length cap,y]).run P w= .ok v w'/\Le w ρ O w' ρ' O'/\ρ' i'=some v/\
   HS c w' (aE (aE h i' (some (.sl false (P.cellsOf e) (b && d.isEmpty) (xs++d)))) i (some .dead)) ρ' O':=by
 obtain⟨ti',zv,J,hzv,hof⟩:=oc hz;rw [I] at J;cases J;have n:P.cellsOf e=ti.size:=by simp [Program.cellsOf,I]
 have hne:i'≠i:=λe=>hi (e▸D);obtain⟨l1,l2⟩:=C.length;by_cases r:xs.length+d.length<=cap
 .rcases x with x | ⟨af,off,arr,tt,rfl,M,hb,o,B⟩
  ·
   subst x;have V:xs= []:=UA.1 (by omega);have ey:d= []:=UA.1 (by omega);subst V;subst ey;have ev:vss= []:=by simpa using l1
   subst ev;obtain⟨F,G⟩:=HS.move (hrl:=hrl) (w':=w) hs hi D (.slice base 0 0) none rfl rfl rfl (UC _) (λ_ _ _=>rfl) (.inl rfl) (.sl false (P.cellsOf e) (b && true) []) (by
    refine⟨_,by rw [aF];rfl,⟨base,0,rfl,by simp, ?_,E, .inl rfl⟩,by simp⟩;simpa using X)
   refine⟨_,w,_,_, ?_,F,by rw [aF],by simpa using G⟩;exact src.idle rfl ty base 0 0 (UC _)
  ·
   rw [n] at o;have L:=src.Co ty af off xs.length cap arr tt hb r o;have N:∀k,k < w.heap.size->O i≠some k->(w.setRow af (bZ (off+xs.length * ti.size) vss.flatten arr.toList).toArray).heap[k]? =w.heap[k]?:=λk _ W=>setRow_other w af k _ (λe=>W (e▸M));have K:off+xs.length * ti.size+vss.flatten.length<=arr.toList.length:=by have l3:arr.toList.length=arr.size:=UP;rw [l2,n,l3];have hm:(xs.length+d.length) * ti.size<=cap * ti.size:=Vm _ r;rw [WY] at hm;omega
   obtain⟨F,G⟩:=HS.move (hrl:=hrl) (w':=w.setRow af (bZ (off+xs.length * ti.size) vss.flatten arr.toList).toArray) hs hi D (.slice (some ⟨af,off,none⟩) (xs.length+d.length) cap) (O i) rfl rfl rfl (by rw [qE];exact UC _) N (.inr (.inl rfl))
    (.sl false (P.cellsOf e) (b && d.isEmpty) (xs++d)) (by
     refine⟨_,by rw [aF],⟨some ⟨af,off,none⟩,cap,by simp,by simpa using r, ?_,E, .inr ⟨af,off,_,tt,rfl, ?_,setRow_heap w af arr _ tt (0,0) hb, ?_, ?_⟩⟩,by simp⟩
     .have:b=false:=by cases b <;> simp_all
      simp [this]
     .simpa using M
     .simp only [VX];rw [qA _ _ _ K,n];simpa using o
     .have u:∀p,(w.setRow af (bZ (off+xs.length * ti.size) vss.flatten arr.toList).toArray).cell? ⟨af,p,none⟩=if off+xs.length * ti.size<=p/\p < off+xs.length * ti.size+vss.flatten.length then vss.flatten[p - (off+xs.length * ti.size)]? else w.cell? ⟨af,p,none⟩:=by
       intro p;rw [uh hb,W4,sM _ _ _ K,kQ hb];simp
      have H:∀m,AA c w O m->AA c (w.setRow af (bZ (off+xs.length * ti.size) vss.flatten arr.toList).toArray) (aE (aE O i none) i' (O i)) m/\(w.setRow af (bZ (off+xs.length * ti.size) vss.flatten arr.toList).toArray).heap[m]? =w.heap[m]?:=by
       intro m g;refine⟨⟨g.1,by rw [qE];exact g.2.1,λj l=> ?_⟩,setRow_other w af m _ (λe=>g.2.2 i (e▸M))⟩;by_cases z:j=i'
       .subst z;rw [aF] at l;exact g.2.2 i l
       .rw [ar _ _ z] at l;by_cases e2:j=i
        .subst e2;rw [aF] at l;cases l
        .rw [ar _ _ e2] at l;exact g.2.2 j l
      refine aX.append (aX.cells H (λp h1 h2=> ?_) B) ?_
      .rw [n] at h2;rw [u,if_neg (by omega)]
      .refine aX.lk (cv.mono H C) (λp v R=> ?_);have hlt:=(Us.1 R).1;rw [n,u,if_pos (by omega),show off+xs.length * ti.size+p - (off+xs.length * ti.size)=p by omega];exact R)
   exact⟨_,_,_,_,L,F,by rw [aF],G⟩
 ·
  have Q:(xs.length+d.length) * ti.bytes<=140737488355328:=by
   have z:P.bytesOf e=ti.bytes:=by simp [Program.bytesOf,I]
   rw [<-z];exact B7 U hby
  have Y:∃f:List (List Value),cv w (AA c w O) (P.cellsOf e) xs f/\(Builtin.firstCells ti.size xs.length (.slice base xs.length cap)).run P w.drew= .ok f.flatten.toArray w.drew:=by
   rcases x with x | ⟨af,off,arr,tt,rfl,M,hb,o,B⟩
   .have V:xs= []:=UA.1 (by omega);subst V;refine⟨[],rfl, ?_⟩;cases base with
    | none=>exact run_firstCells_none w.drew _ _ _ _
    | some a=>exact run_firstCells_some w.drew _ 0 a _ _ [] (by simp) (by simp)
   .obtain⟨f,k1,k2⟩:=B.be;refine⟨f,k1, ?_⟩;obtain⟨m1,Z⟩:=k1.length;exact run_firstCells_some w.drew _ _ _ _ _ _ (by rw [Z,n]) (λj v l=>by rw [hY];simpa using k2 j v l)
  obtain⟨f,S,ho2⟩:=Y;have q:cap < xs.length+d.length:=by omega
  have L:=src.grow ty zv base xs.length cap f.flatten hzv ho2 q (by have:=B8 U;omega) (growslice_fits q Q);obtain⟨m1,Z⟩:=S.length;have hzs:zv.cells.size=ti.size:=by have:=(oZ (w:=w) (A:=AA c w O) hof).length;rw [UP] at this;rw [this,hzl,n]
  have ys0:d.isEmpty=false:=by
   cases d with
   | nil=>simp at q;omega
   | cons=>rfl
  have hge:=grownCap_ge w (xs.length+d.length) cap e;obtain⟨F,G⟩:=HS.move (hrl:=hrl) (w':=w.drew.alloc (.cells ((f.flatten++vss.flatten).toArray++Builtin.zeroCells zv.cells (grownCap w (xs.length+d.length) cap e - (xs.length+d.length))) e)) hs hi D
   (.slice (some ⟨w.heap.size,0,none⟩) (xs.length+d.length) (grownCap w (xs.length+d.length) cap e)) (some w.heap.size) rfl rfl rfl (by simp) (λk W _=>U6 w.drew _ k W) (.inr (.inr ⟨rfl,by simp⟩))
   (.sl false (P.cellsOf e) (b && d.isEmpty) (xs++d)) (by
    refine⟨_,by rw [aF],⟨some ⟨w.heap.size,0,none⟩,grownCap w (xs.length+d.length) cap e,by simp,by simpa using hge,by simp [ys0],trivial, .inr ⟨w.heap.size,0,_,e,rfl,by simp,kX (w:=w.drew) _, ?_, ?_⟩⟩,by simp⟩
    .simp only [X0,VX,Vu,Z,l2,size_zeroCells,hzs,n,<-WY,UW];exact Vm _ (by omega)
    .have H:∀m,AA c w O m->AA c (w.drew.alloc (.cells ((f.flatten++vss.flatten).toArray++Builtin.zeroCells zv.cells (grownCap w (xs.length+d.length) cap e - (xs.length+d.length))) e)) (aE (aE O i none) i' (some w.heap.size)) m/\(w.drew.alloc (.cells ((f.flatten++vss.flatten).toArray++Builtin.zeroCells zv.cells (grownCap w (xs.length+d.length) cap e - (xs.length+d.length))) e)).heap[m]? =w.heap[m]?:=by
      intro m g;refine⟨⟨g.1,by have:=g.2.1;simp;omega,λj l=> ?_⟩,U6 w.drew _ m g.2.1⟩;by_cases z:j=i'
      .subst z;rw [aF] at l;cases l;exact WU _ g.2.1
      .rw [ar _ _ z] at l;by_cases e2:j=i
       .subst e2;rw [aF] at l;cases l
       .rw [ar _ _ e2] at l;exact g.2.2 j l
     refine aX.lk (vss:=f++vss) (cv.append (cv.mono H S) (cv.mono H C)) (λp v R=> ?_);refine(kQ (w:=w.drew.alloc _) (b:=w.heap.size) (kX (w:=w.drew) _) _).trans ?_;rw [UW];exact Ci _ _ _ p v (by simpa using R))
  exact⟨_,_,_,_,L,F,by rw [aF],G⟩
theorem Lp{t V ty e:TypeId}{ti:TypeInfo}{X:List T}{y H:Value}{i':Id}{b:Bool}{g:List (List T)}{vss:List (List Value)}
  (hs:HS c w h ρ O) (B:h i'=none) (ht:P.underlying t=some (.slice e)) (hz:jT P e=some X) (Q:X.length=P.cellsOf e) (I:P.bytesOf e<=8192)
  (C:oL (P.bytesOf e) g.length) (N:aA w A (.aJ b) H)
  (m:P.info? e=some ti) (src:Ad P t V e ti y g.length vss.flatten w) (l:cv w (AA c w O) (P.cellsOf e) g vss) (hrl:i'.real=true:=by rfl):
  ∃v w' ρ' O',(Builtin.append_ #[t,V] ty #[H,y]).run P w= .ok v w'/\Le w ρ O w' ρ' O'/\ρ' i'=some v/\
   HS c w' (aE h i' (some (.sl false (P.cellsOf e) (b && g.isEmpty) g))) ρ' O':=by
 obtain⟨ti',zv,o,S,L⟩:=oc hz;rw [m] at o;cases o;have D:P.cellsOf e=ti.size:=by simp [Program.cellsOf,m]
 obtain⟨l1,l2⟩:=l.length;obtain⟨base,rfl,F,z⟩:∃base,H= .slice base 0 0/\(base=none↔b=true)/\True:=by
  simp only [aA] at N;rcases N with⟨rfl,rfl⟩ | ⟨rfl,af,off,sp,rfl⟩
  .exact⟨none,rfl,by simp,trivial⟩
  .exact⟨some _,rfl,by simp,trivial⟩
 by_cases E:g= []
 .subst E;have ev:vss= []:=by simpa using l1
  subst ev;have le:Le w ρ O w (aE ρ i' (some (.slice base 0 0))) (aE O i' none):=by
   refine⟨rfl,rfl,rfl,UC _,λj u f=> ?_,λb hb hn=>rfl,λj b f=> ?_⟩
   .by_cases e:j=i'
    .subst e;rw [(hs.cB _ hrl B).1] at f;cases f
    .rw [ar _ _ e];exact f
   .by_cases e:j=i'
    .subst e;rw [aF] at f;cases f
    .rw [ar _ _ e] at f;exact .inl ⟨j,f⟩
  refine⟨.slice base 0 0,w,_,_,src.idle rfl ty base 0 0 (UC _),le,by rw [aF], ?_⟩;have gk:GK w ρ O w (aE ρ i' (some (.slice base 0 0))) (aE O i' none):=λj n=>⟨ar _ _ (aP hrl),ar _ _ (aP hrl),λ_ _=>rfl⟩;refine hs.go le gk (λj b' f=> ?_) (λj J f=> ?_) (λj f=> ?_) (λj n=>by rw [ar _ _ (aP hrl)];exact hs.ez j n) (λj k d f r=> ?_) (λj d f=> ?_)
  .by_cases e:j=i'
   .subst e;rw [aF] at f;cases f;right;refine⟨_,by rw [aF];rfl,⟨base,0,rfl,by simp, ?_,z, .inl rfl⟩,by simp⟩;simpa using F
   .rw [ar _ _ e] at f;exact .inl ⟨f,ar _ _ e,λ_ _=>rfl⟩
  .by_cases e:j=i'
   .subst e;rw [aF] at f;cases f
   .rw [ar _ _ e] at f;rw [ar _ _ e,ar _ _ e];exact hs.cB j J f
  .by_cases e:j=i'
   .subst e;rw [aF] at f;cases f
   .rw [ar _ _ e] at f;exact f
  .by_cases e:j=i'
   .subst e;rw [aF] at f;cases f
   .by_cases e':k=i'
    .subst e';rw [aF] at r;cases r
    .rw [ar _ _ e] at f;rw [ar _ _ e'] at r;exact hs.inj j k d f r
  .by_cases e:j=i'
   .subst e;rw [aF] at f;cases f
   .rw [ar _ _ e] at f;exact hs.lt j d f
 .have G: 0 < g.length:=WV.2 E;have x:(0+g.length) * ti.bytes<=140737488355328:=by
   have Y:P.bytesOf e=ti.bytes:=by simp [Program.bytesOf,m]
   rw [<-Y,UW];exact B7 C I
  have K:(Builtin.firstCells ti.size 0 (.slice base 0 0)).run P w.drew= .ok ([]:List Value).toArray w.drew:=by
   cases base with
   | none=>exact run_firstCells_none w.drew _ _ _ _
   | some a=>exact run_firstCells_some w.drew _ 0 a _ _ [] (by simp) (by simp)
  have U:=src.grow ty zv base 0 0 [] S K (by omega) (by have:=B8 C;omega) (growslice_fits (by omega) x);have R:zv.cells.size=ti.size:=by have:=(oZ (w:=w) (A:=AA c w O) L).length;rw [UP] at this;rw [this,Q,D]
  have W:g.isEmpty=false:=by
   cases g with
   | nil=>simp at G
   | cons=>rfl
  have hge:=grownCap_ge w (0+g.length) 0 e;have q:Le w ρ O w.drew ρ O:=⟨rfl,rfl,rfl,UC _,λ_ _ h=>h,λ_ _ _=>rfl,λi b h=> .inl ⟨i,h⟩⟩;have M:HS c w.drew h ρ O:=hs.world q λ_ _ _=>rfl;obtain⟨Z,g2⟩:=M.CP (hrl:=hrl) (sz:=P.cellsOf e) B e (([] ++vss.flatten).toArray++Builtin.zeroCells zv.cells (grownCap w (0+g.length) 0 e - (0+g.length))) (grownCap w (0+g.length) 0 e) (cv.mono (λb hb=>q.A b hb) l)
   (λp v hp=>Ci _ _ _ p v (by simpa using hp)) (by omega) (by
    simp only [X0,VX,Uq,l2,size_zeroCells,R,D,<-WY];exact Vm _ (by omega))
  refine⟨_,_,_,_,U,q.trans Z, ?_, ?_⟩
  .rw [aF,UW];rfl
  .simpa [W] using g2
theorem KZ(h:Id->Option ab)(i j:Id)(a b:ab):aK h [(i,a),(j,b)]=aE (aE h i (some a)) j (some b):=rfl
theorem kW{d:Nat}{us:aH}{k:Nat}{b:ab}(a:jh d h us=true)(hm:(Id.s d k,b)∈us):h (.s d k)=none:=by have:=UD.1 a _ hm;simpa using this
set_option maxHeartbeats 1000000 in
theorem Jq{i i' x:Id}{nx:Nat}{v vk:Value}(a:x.real=true)(b:x≠i'):iS ρ i i' nx v vk x=ρ x:=by
 unfold iS;rw [if_neg b];cases x with
 | g y n=>cases a
 | _=>rfl
theorem Jp{i i':Id}{nx:Nat}{v vk:Value}:iS ρ i i' nx v vk i'=some v:=by unfold iS;rw [if_pos rfl]
theorem C4{i i' y:Id}{n nx:Nat}{v vk:Value}(hrl:i'.real=true)(hy:y≠i'):iS ρ i i' nx v vk (.g y n)=ρ (.g y n):=by unfold iS;rw [if_neg (aP hrl)];simp only [if_neg hy]
theorem C3{i i' j src:Id}{nx:Nat}{ob:Option Nat}(h:src≠i'):eP O i i' j src nx ob src=none:=by unfold eP;rw [if_neg h,if_pos (.inr (.inr rfl))]
theorem Rc{i i' j src x:Id}{nx:Nat}{ob:Option Nat}(a:x.real=true)(b:x≠i')(h1:x≠i)(d:x≠j)(e:x≠src):eP O i i' j src nx ob x=O x:=by
 unfold eP;rw [if_neg b,if_neg (by rintro(h | h | h) <;> contradiction)];cases x with
 | g y n=>cases a
 | _=>rfl
theorem Rd{i i' j src y:Id}{n nx:Nat}{ob:Option Nat}(a:i.real=true)(b:j.real=true)(hrl:i'.real=true)(hy:y≠i')(d:y≠i)(e:Id.g y n≠src):eP O i i' j src nx ob (.g y n)=O (.g y n):=by unfold eP;rw [if_neg (aP hrl),if_neg (by rintro(h | h | h);exact aP a h;exact aP b h;exact e h)];simp only [if_neg hy,if_neg d]
theorem cT.gone{i i' j a:Id}{n nx:Nat}{ob:Option Nat}{v vk:Value}{b:Bool}{sz aD rsz K:Nat}{es:List Row}{p:Bool×List (List T)}(hs:HS c w h ρ O)(I:i.real=true)(V:j.real=true)(hrl:i'.real=true)(S:h a=some (.rows b sz aD rsz K es))(l:a≠i')(C:a≠i)(U:a≠j)(hf:bB n es=some p)
  (R:∀d,AA c w O d->AA c w' (eP O i i' j (.g a n) nx ob) d/\w'.heap[d]? =w.heap[d]?) (r:∀x d,x≠i->O x=some d->w'.heap[d]? =w.heap[d]?):
  cT w' (AA c w' (eP O i i' j (.g a n) nx ob)) (iS ρ i i' nx v vk) (eP O i i' j (.g a n) nx ob) a (.rows b sz aD rsz K (dG n none es)):=by
 have G:=hs.real (i:=a) (by rw [S];simp);obtain⟨k,e,B,H,heo,M⟩:=yI hf;obtain⟨a',cap,r1,r2,r3,⟨W,X,n3,n4⟩,N⟩:=hs.af a _ S;have Q:∀m,m≠n->eP O i i' j (.g a n) nx ob (.g a m)=O (.g a m):=λm hm=>Rd I V hrl l C (by intro h;simp only [Id.g.injEq] at h;exact hm h.2);have J:(.g a n:Id)≠i':=aP hrl;rw [M];have E:(es.set k {e with own:=none}).length=es.length:=by simp
 have F:(es.set k {e with own:=none}).map (·.n)=es.map (·.n):=by
  rw [Xe];refine WT λm=> ?_;rw [VG];split
  .rename_i h;subst h;have:=(Us.1 B).1;rw [if_pos (by simpa using this)];simp [B]
  .rfl
 refine⟨a',cap,by rw [E,Jq G l];exact r1,by rw [E];exact r2,r3,⟨by rw [F];exact W,λf o=> ?_,λm hm=>by rw [C4 hrl l];exact n3 m hm,λm d z=> ?_⟩, ?_⟩
 .rcases U1 o with o | rfl
  .exact X f o
  .exact X e (Uj B)
 .by_cases hm:m=n
  .subst hm;rw [C3 J] at z;cases z
  .rw [Q m hm] at z;obtain⟨f,o,D⟩:=n4 m d z;have:m∈(es.set k {e with own:=none}).map (·.n):=by rw [F];exact UT.2 ⟨f,o,D⟩
   obtain⟨f',h1,h2⟩:=UT.1 this;exact⟨f',h1,h2⟩
 .rcases N with N | ⟨af,off,arr,t,q1,Y,q3,q4,Z⟩
  .exact .inl N
  .have q:w'.heap[af]? =w.heap[af]?:=r a af C Y;refine .inr ⟨af,off,arr,t,q1,by rw [Rc G l C U (aP G).symm];exact Y,by rw [q];exact q3,q4, ?_⟩;have L:=Z.get B;refine ch.set R (Us.1 B).1 (λ_ _ _ _=>m9 q) (λm f hm o=> ?_) ?_ Z
   .have D:f.n≠n:=λh=>hm (u4 W o B (by rw [h,H]));exact⟨C4 hrl l,Q _ D,λd z=>r _ d (aP I) z⟩
   .obtain⟨a1,a2,a3,u,a4,a5,a7⟩:=L;refine⟨a1,a2,λm y hm hy=> ?_,u,by rw [m9 q];exact a4,by rw [C4 hrl l];exact a5, ?_⟩
    .obtain⟨u',g1,g2⟩:=a3 m y hm hy;exact⟨u',by rw [m9 q];exact g1,aA.mono R y u' g2⟩
    .simp only;rw [H];exact C3 J
theorem Eu:∀{cs:List AV} {l:List T},eZ cs=some l->l.length=cs.length/\∀(j:Nat) (x:T),l[j]? =some x->cs[j]? =some (AV.t x)
 | [],l,h=>by simp only [eZ,Uh] at h;subst h;simp
 | v::cs,l,h=>by
  cases v <;> simp only [eZ,reduceCtorEq] at h;rename_i x;obtain⟨e,h1,h⟩:=Ui.1 h;simp only [Uh] at h;subst h;obtain⟨b,d⟩:=Eu h1;refine⟨by simp [b],λj y a=> ?_⟩;cases j with
  | zero=>simpa using a
  | succ j=>simpa using d j y (by simpa using a)
theorem Lo{R:Type}{d:Nat}{t ty tr e e':TypeId}{ti:TypeInfo}{zs:List T}{i j:Id}{b:Bool}{sz aD rsz nx:Nat}{es:List Row}{cs:List AV}{vx vy:Value}{K:AV->aH->Option R}{r:R}(hs:HS c w s.h ρ O)
  (ht:P.underlying t=some (.slice e)) (hty:P.underlying ty=some (.slice e')) (hz:jT P e=some zs) (hzl:zs.length=P.cellsOf e) (hby:P.bytesOf e<=8192) (Z:P.info? e=some ti)
  (hi:s.h i=some (.rows b sz aD rsz nx es)) (hj:s.h j=some (.arr cs)) (hx:ρ i=some vx) (hy:ρ j=some vy) (f:pK P s d e i sz aD rsz nx es j cs K=some r):
  ∃v us,K v us=some r/\(jh d s.h us=true->∃u w' ρ' O',(Builtin.append_ #[t,ty] tr #[vx,vy]).run P w= .ok u w'/\Le w ρ O w' ρ' O'/\HS c w' (aK s.h us) ρ' O'/\ao w' (AA c w' O') ρ' v u):=by
 obtain⟨ti',zv,hti',hzv,hof⟩:=oc hz;rw [Z] at hti';cases hti';have C:P.cellsOf e=ti.size:=by simp [Program.cellsOf,Z]
 unfold pK at f;split at f
 .rename_i hcond;obtain⟨rfl,c1,c2,c3⟩:=hcond;replace f:=Ui.1 f;obtain⟨l,hl,f⟩:=f;obtain⟨bj,q,tj,h1,h2,h3,h4,h5⟩:=hs.af j _ hj;rw [hy] at h1;cases h1;obtain⟨a,cap,r1,r2,r3,r4,r5⟩:=hs.af i _ hi;rw [hx] at r1;cases r1;have hri:=hs.real (i:=i) (by rw [hi];simp);have hrj:=hs.real (i:=j) (by rw [hj];simp);have hnl:q.toList.length=1 * ti.size:=by rw [h4.length,c1,C];omega
  obtain⟨ll,lg⟩:=Eu hl;have src:Ad P t ty e ti (.slice (some ⟨bj,0,none⟩) 1 1) 1 q.toList w:= .ve ht Z (Src.ofSlice w hty ⟨bj,0,none⟩ 1 1 _ hnl (λp u y=>by
   rw [hY,UW,kQ h3];simpa using y) (λu hu=>(h5 u hu).1))
  have G:∀n,bL (P.bytesOf e) n=some ()->oL (P.bytesOf e) n:=by
   intro n hn;unfold bL at hn;split at hn
   .assumption
   .simp at hn
  have key:∀(z s0:Id) (bb:Bool) (xs:List (List T)) (vk:Value) (X:ab),s.h s0≠none->s0≠i->s0≠j->(z=s0\/∃n,z= .g s0 n)->ρ z=some vk->cP w (AA c w O) rsz bb xs vk (λd=>O z=some d)->
    q.toList[aD]? =some vk->bL (P.bytesOf e) (es.length+1)=some ()->s.h (.s d 0)=none->
    (∀w' ob v,(∀D,AA c w O D->AA c w' (eP O i (.s d 0) j z nx ob) D/\w'.heap[D]? =w.heap[D]?)->(∀x D,x≠i->O x=some D->w'.heap[D]? =w.heap[D]?)->cT w' (AA c w' (eP O i (.s d 0) j z nx ob)) (iS ρ i (.s d 0) nx v vk) (eP O i (.s d 0) j z nx ob) s0 X)->
    ∃u w' ρ' O',(Builtin.append_ #[t,ty] tr #[.slice a es.length cap, .slice (some ⟨bj,0,none⟩) 1 1]).run P w= .ok u w'/\Le w ρ O w' ρ' O'/\
     HS c w' (aE (aE (aE (aE s.h i (some .dead)) j (some .dead)) s0 (some X)) (.s d 0) (some (.rows false (P.cellsOf e) aD rsz (nx+1) (es++ [⟨nx,l,some (bb,xs)⟩])))) ρ' O'/\ao w' (AA c w' O') ρ' (.own (.s d 0)) u:=by
   intro z s0 bb xs vk X q1 q2 q3 q4 q5 q6 q7 Y o hX;have hlr:l.length=P.cellsOf e:=by rw [ll,Vc,c1]
   have hnr:∀m x,m≠aD->l[m]? =some x->∃v,q.toList[m]? =some v/\aA w (AA c w O) x v:=by intro m x hm hx;have:=lg m x hx;rw [VG,if_neg (Yl hm)] at this;obtain⟨v,H,I⟩:=h4.get this;exact⟨v,H,by simpa [ao] using I⟩
   by_cases J:es.length+1<=cap
   .rcases r5 with r5 | ⟨af,off,arr,t',k1,k2,k3,k4,k5⟩
    .omega
    .subst k1;have hm:(es.length+1) * ti.size<=cap * ti.size:=Vm _ J;rw [WY] at hm;rw [C] at k4;have run:=src.Co tr af off es.length cap arr t' k3 J k4;have lfit:off+es.length * ti.size+q.toList.length<=arr.toList.length:=by rw [hnl,UP (xs:=arr)];omega
     have M:∀p,(w.setRow af (bZ (off+es.length * ti.size) q.toList arr.toList).toArray).cell? ⟨af,p,none⟩=if off+es.length * ti.size<=p/\p < off+es.length * ti.size+q.toList.length then q.toList[p - (off+es.length * ti.size)]? else w.cell? ⟨af,p,none⟩:=by intro p;rw [uh k3,W4,sM _ _ _ lfit,kQ k3];simp
     obtain⟨H,I⟩:=HS.Jn (i':= .s d 0) (j:=j) (src:=z) (s0:=s0) (bb:=bb) (xs:=xs) (vk:=vk) (X:=X) (af:=af) (blk':=af) (off:=off) (off':=off) (cap':=cap) (ob:=O i) (news:=q.toList) (l:=l) (w':=w.setRow af (bZ (off+es.length * ti.size) q.toList arr.toList).toArray)
      hs hi o rfl (by rw [hj];simp) (Yl c3) q1 q2 q3 q4 q5 q6 rfl rfl rfl (by rw [qE];exact UC _) (λk _ f=>setRow_other w af k _ λe=>f (e▸k2)) (.inl rfl) k2 (setRow_heap w af arr _ t' (0,0) k3) (by rw [VX,qA _ _ _ lfit,C];simpa using k4) J k5
      (λp y=>by rw [C] at y;have y:p < es.length * ti.size:=y;rw [M,if_neg (by omega)]) c2 hlr (λp v y=>by
       have W:=(Us.1 y).1;rw [C,M,if_pos (by omega),show off+es.length * ti.size+p - (off+es.length * ti.size)=p by omega];exact y) hnr q7
      (λhA=>hX _ _ _ hA λx D hx hd=>setRow_other w af D _ λe=>hx (hs.inj x i D hd (e▸k2)))
     exact⟨_,_,_,_,run,H,I,by simp only [ao];exact Jp⟩
   .have hneed:(es.length+1) * ti.bytes<=140737488355328:=by
     have e1:P.bytesOf e=ti.bytes:=by simp [Program.bytesOf,Z]
     rw [<-e1];exact B7 (G _ Y) hby
    have hold:∃(B:List Value) (af off:Nat),B.length=es.length * ti.size/\(Builtin.firstCells ti.size es.length (.slice a es.length cap)).run P w.drew= .ok B.toArray w.drew/\ch w (AA c w O) ρ O i af (P.cellsOf e) aD rsz off es/\∀p v,B[p]? =some v->w.cell? ⟨af,off+p,none⟩=some v:=by
     rcases r5 with r5 | ⟨af,off,arr,t',k1,k2,k3,k4,k5⟩
     .have ex:es= []:=UA.1 (by omega);subst ex;refine⟨[],0,0,by simp, ?_,trivial,by simp⟩;cases a with
      | none=>exact run_firstCells_none w.drew _ _ _ _
      | some a=>exact run_firstCells_some w.drew _ 0 a _ _ [] (by simp) (by simp)
     .subst k1;have hm:es.length * ti.size<=cap * ti.size:=Vm _ r2;rw [C] at k4;have hlen:((arr.toList.drop off).take (es.length * ti.size)).length=es.length * ti.size:=by rw [Vd,Wj,UP (xs:=arr)];omega
      have S:∀p v,((arr.toList.drop off).take (es.length * ti.size))[p]? =some v->w.cell? ⟨af,off+p,none⟩=some v:=by
       intro p v y;rw [WZ] at y;split at y
       .rw [W1] at y;rw [kQ k3];simpa using y
       .cases y
      refine⟨_,af,off,hlen, ?_,k5,S⟩;exact run_firstCells_some w.drew _ _ _ _ _ _ hlen (λp v y=>by rw [hY];simpa using S p v y)
    obtain⟨B,af,off,ho1,ho2,ho3,ho4⟩:=hold;have U:cap < es.length+1:=by omega
    have run:=src.grow tr zv a es.length cap B hzv ho2 U (by have:=B8 (G _ Y);omega) (growslice_fits U hneed);have hzs:zv.cells.size=ti.size:=by have:=(oZ (w:=w) (A:=AA c w O) hof).length;rw [UP] at this;rw [this,hzl,C]
    have hge:=grownCap_ge w (es.length+1) cap e;have Q:∀p v,(B++q.toList)[p]? =some v->(w.drew.alloc (.cells ((B++q.toList).toArray++Builtin.zeroCells zv.cells (grownCap w (es.length+1) cap e - (es.length+1))) e)).cell? ⟨w.heap.size,p,none⟩=some v:=by intro p v y;refine(kQ (w:=w.drew.alloc _) (b:=w.heap.size) (kX (w:=w.drew) _) _).trans ?_;exact Ci _ _ _ p v y
    obtain⟨H,I⟩:=HS.Jn (i':= .s d 0) (j:=j) (src:=z) (s0:=s0) (bb:=bb) (xs:=xs) (vk:=vk) (X:=X) (af:=af) (blk':=w.heap.size) (off:=off) (off':=0) (cap':=grownCap w (es.length+1) cap e) (ob:=some w.heap.size) (news:=q.toList) (l:=l)
     (w':=w.drew.alloc (.cells ((B++q.toList).toArray++Builtin.zeroCells zv.cells (grownCap w (es.length+1) cap e - (es.length+1))) e))
     hs hi o rfl (by rw [hj];simp) (Yl c3) q1 q2 q3 q4 q5 q6 rfl rfl rfl (by simp) (λk f _=>U6 w.drew _ k f) (.inr ⟨rfl,by simp⟩) rfl (kX (w:=w.drew) _) (by
      simp only [X0,VX,Vu,ho1,hnl,size_zeroCells,hzs,C,<-WY,UW];exact Vm _ (by omega)) hge ho3
     (λp y=>by
      rw [C] at y;have y:p < es.length * ti.size:=y;have W:p < B.length:=by omega
      rw [UW,ho4 p _ (Up W)];exact Q p _ (by rw [VJ W];exact Up W)) c2 hlr (λp v y=>by
      rw [C,UW];refine Q _ v ?_;rw [Vq (by omega),ho1,show es.length * ti.size+p - es.length * ti.size=p by omega];exact y) hnr q7
     (λhA=>hX _ _ _ hA λx D hx hd=>U6 w.drew _ D (hs.lt x D hd))
    exact⟨_,_,_,_,run,H,I,by simp only [ao];exact Jp⟩
  split at f
  .rename_i j2 N;split at f
   .rename_i rsz' b' xs E;split at f
    .rename_i hrsz;subst hrsz;replace f:=aO f (.inl rfl);obtain⟨_,Y,f⟩:=f;refine⟨_,_,f,λo=> ?_⟩;have o:=kW o (k:=0) (b:= .rows false (P.cellsOf e) aD rsz' (nx+1) (es++ [⟨nx,l,some (b',xs)⟩])) (by simp);obtain⟨vk,v1,L⟩:=h4.get N;simp only [ao] at L;obtain⟨v',s1,s2⟩:=nT hs E;rw [L] at s1;cases s1;have hr2:=hs.real (i:=j2) (by rw [E];simp);have n2:j2≠ .s d 0:=λe=>by rw [e,o] at E;cases E
     obtain⟨u,w',ρ',O',H,I,g3,g4⟩:=key j2 j2 b' xs vk .dead (by rw [E];simp) (λe=>by rw [e,hi] at E;cases E) (λe=>by rw [e,hj] at E;cases E) (.inl rfl) L (by simpa using s2) v1 (by assumption) o
      (λw' ob v hA V=>⟨⟨vk,by rw [Jq hr2 n2];exact L,kD hs L⟩,C3 n2⟩)
     exact⟨u,w',ρ',O',H,I,by rw [de,de,de,eK];exact g3,g4⟩
    .simp at f
   .simp at f
  .rename_i a2 n N;split at f
   .rename_i b2 sz2 col2 rsz2 nx2 es2 F;split at f
    .rename_i hc2;obtain⟨rfl,hai⟩:=hc2;replace f:=aO f (.inl rfl);obtain⟨p,y,f⟩:=f;replace f:=aO f (.inl rfl);obtain⟨_,Y,f⟩:=f;refine⟨_,_,f,λo=> ?_⟩;have o:=kW o (k:=0) (b:= .rows false (P.cellsOf e) aD rsz2 (nx+1) (es++ [⟨nx,l,some p⟩])) (by simp);obtain⟨vk,v1,L⟩:=h4.get N;simp only [ao] at L;obtain⟨v',s1,s2⟩:=zJ hs F y;rw [L] at s1;cases s1;have n2:a2≠ .s d 0:=λe=>by rw [e,o] at F;cases F
     have n3:a2≠j:=λe=>by rw [e,hj] at F;cases F
     obtain⟨u,w',ρ',O',H,I,g3,g4⟩:=key (.g a2 n) a2 p.1 p.2 vk (.rows b2 sz2 col2 rsz2 nx2 (dG n none es2)) (by rw [F];simp) hai n3 (.inr ⟨n,rfl⟩) L s2 v1 (by assumption) o
      (λw' ob v hA V=>cT.gone hs hri hrj rfl F n2 hai n3 y hA V)
     exact⟨u,w',ρ',O',H,I,by rw [de,de,de,eK];exact g3,g4⟩
    .simp at f
   .simp at f
  .simp at f
 .simp at f
theorem RF{h:Id->Option ab}{x:AV}{q:Id×Nat×Nat×Nat×Nat×List Row}(e:Ds h x=some q):x= .own q.1/\∃b,h q.1=some (.rows b q.2.1 q.2.2.1 q.2.2.2.1 q.2.2.2.2.1 q.2.2.2.2.2):=by
 unfold Ds at e;split at e
 .split at e
  .rename_i hi;simp only [Uh] at e;subst e;exact⟨rfl,_,hi⟩
  .cases e
 .cases e
theorem QS{h:Id->Option ab}{x:AV}{q:Id×List AV}(e:CY h x=some q):x= .own q.1/\h q.1=some (.arr q.2):=by
 unfold CY at e;split at e
 .split at e
  .rename_i hi;simp only [Uh] at e;subst e;exact⟨rfl,hi⟩
  .cases e
 .cases e
theorem Ll{R:Type}{d:Nat}{rw:Bool}{t ty tr:TypeId}{x y:AV}{T vy:Value}{K:AV->aH->Option R}{r:R}(hs:HS c w s.h ρ O)(k:ao w (AA c w O) ρ x T)(hy:ao w (AA c w O) ρ y vy)
  (f:kO P s d rw t ty x y K=some r):
  ∃v us,K v us=some r/\(jh d s.h us=true->∃u w' ρ' O',(Builtin.append_ #[t,ty] tr #[T,vy]).run P w= .ok u w'/\Le w ρ O w' ρ' O'/\HS c w' (aK s.h us) ρ' O'/\ao w' (AA c w' O') ρ' v u):=by
 unfold kO at f;replace f:=Ui.1 f;obtain⟨e,he,f⟩:=f;replace f:=Ui.1 f;obtain⟨zs,hz,f⟩:=f;obtain⟨I,hok⟩:=yz he;split at f
 .rename_i N;obtain⟨q,B⟩:=N;obtain⟨ti0,_,l,_,_⟩:=oc hz;split at f
  .rename_i i sz aD rsz nx es j cs p e2;cases rw with
   | false=>cases p
   | true=>
   obtain⟨rfl,b,hi⟩:=RF p;obtain⟨rfl,hj⟩:=QS e2;simp only [ao] at k hy;split at f
   .rename_i e' hu';exact Lo hs I hu' hz B q l hi hj k hy f
   .cases f
  rename_i hnr;clear hnr;replace f:=Ls hs I l (by simp [Program.cellsOf,l]) hz B q hy f;obtain⟨ys,vss,f,src,D⟩:=f;have m:∀n,bL (P.bytesOf e) n=some ()->oL (P.bytesOf e) n:=by
   intro n X;unfold bL at X;split at X
   .assumption
   .simp at X
  clear he hok;revert f;rcases x with _ | z | _ | _ | _ | _ | i | ⟨i,sz'',off,n⟩ | _ | _ | _ <;> intro f <;> (try dsimp only at f) <;> (try cases f)
  case own=>
   split at f
   .rename_i sz' b xs hi;split at f
    .rename_i H;subst H;replace f:=aO f (.inl rfl);obtain⟨_,hb,f⟩:=f;refine⟨_,_,f,λg=> ?_⟩;have g:=kW g Uk;obtain⟨v',W,a,cap,q1,q2,Z,q4,F⟩:=nT hs hi;simp only [ao] at k;rw [W] at k;simp only [Uh] at k;subst k;subst q1;obtain⟨v,w',ρ',O',p,e2,e3,G⟩:=Ez (ty:=tr) hs (by rw [hi];simp) g I hz B q (m _ hb) q2 Z q4 (by
      rcases F with F | ⟨af,off,arr,tt,J,k2,k3,S,k5⟩
      .exact .inl F
      .exact .inr ⟨af,off,arr,tt,J,by simpa using k2,k3,S,k5⟩) l src D
     exact⟨v,w',ρ',O',p,e2,by rw [KZ];exact G,by simp only [ao];exact e3⟩
    .simp at f
   .simp at f
  case part=>
   split at f
   .rename_i sz' b xs hi;split at f
    .rename_i H;obtain⟨rfl,rfl⟩:=H;replace f:=aO f (.inl rfl);obtain⟨_,hb,f⟩:=f;refine⟨_,_,f,λg=> ?_⟩;have g:=kW g Uk;obtain⟨v',W,a,cap,q1,q2,Z,q4,F⟩:=nT hs hi;simp only [ao] at k;obtain⟨a1,L,C,a',J,k2,k3,rfl,S⟩:=k;rw [W] at J;simp only [Uh] at J;subst J;simp only [VH] at q1;obtain⟨rfl,rfl,rfl⟩:=q1;have E:((xs.drop off).take n).length=n:=by simp only [Vd,Wj];omega
     have Y:a'=none↔b=true:=by
      rw [<-Z];rcases S with⟨_,rfl⟩ | ⟨_,M,_⟩ | ⟨U,o,rfl,rfl⟩
      .exact Yk
      .exact M
      .simp
     have Q:True:=trivial;obtain⟨v,w',ρ',O',p,e2,e3,G⟩:=Ez (ty:=tr) (xs:=(xs.drop off).take n) (base:=a') (cap:=C - off) hs (by rw [hi];simp) g I hz B q (by rw [E];exact m _ hb) (by rw [E];omega) Y Q (by
      rcases F with F | ⟨af,off',arr,tt,j1,j2,j3,j4,j5⟩
      .exact .inl (by omega)
      .subst j1;rcases S with⟨rfl,rfl⟩ | ⟨rfl,_⟩ | ⟨U,o,M,rfl⟩
       .exact .inr ⟨af,off',arr,tt,rfl,by simpa using j2,j3,by simpa using j4,by simpa using j5.take n⟩
       .exact .inl (by omega)
       .simp only [Uh,Vt] at M;obtain⟨rfl,rfl,_⟩:=M;refine .inr ⟨af,_,arr,tt,rfl,by simpa using j2,j3, ?_,(j5.drop off).take n⟩;have:(C - off) * P.cellsOf e+off * P.cellsOf e=C * P.cellsOf e:=by rw [<-WY];congr 1;omega
        omega) l src D
     rw [E] at p;exact⟨v,w',ρ',O',p,e2,by rw [KZ];exact G,by simp only [ao];exact e3⟩
    .simp at f
   .simp at f
  case t=>
   have V:∀b,aA w (AA c w O) (.aJ b) T->(ae none (bL (P.bytesOf e) ys.length) λ_=>K (.own (.s d 0)) [(.s d 0, .sl false (P.cellsOf e) (b && ys.isEmpty) ys)])=some r->
     ∃v us,K v us=some r/\(jh d s.h us=true->∃u w' ρ' O',(Builtin.append_ #[t,ty] tr #[T,vy]).run P w= .ok u w'/\Le w ρ O w' ρ' O'/\HS c w' (aK s.h us) ρ' O'/\ao w' (AA c w' O') ρ' v u):=by
    intro b k f;replace f:=aO f (.inl rfl);obtain⟨_,hb,f⟩:=f;refine⟨_,_,f,λg=> ?_⟩;have g:=kW g Uk;obtain⟨v,w',ρ',O',p,e2,e3,G⟩:=Lp (ty:=tr) hs g I hz B q (m _ hb) k l src D;exact⟨v,w',ρ',O',p,e2,by rw [eK];exact G,by simp only [ao];exact e3⟩
   simp only [ao] at k;replace f:=Ui.1 f;obtain⟨b,hb,f⟩:=f;refine V b ?_ f;unfold IP at hb;split at hb
   .simp only [Uh] at hb;subst hb;exact k
   .rename_i sz U xs;cases h:(U && xs.isEmpty) with
    | false=>rw [h] at hb;simp at hb
    | true=>
     rw [h] at hb;simp only [cond_true,Uh] at hb;subst hb;simp only [Un,X6] at h;simp only [aA] at k⊢;rcases k with⟨_,_,h1⟩ | ⟨h1,_⟩
     .exact .inl ⟨trivial,h1⟩
     .rw [h.1] at h1;cases h1
   .cases hb
 .simp at f
theorem P1{zv:Array Value}{sz:Nat}(hz:zv.size=sz)(n:Nat):(madeCells zv (n * sz)).toList= (List.replicate n zv.toList).flatten:=by
 refine WT λp=> ?_;by_cases a:p < n * sz
 .have h1:p < (List.replicate n zv.toList).flatten.length:=by simpa [hz] using a
  have:=Cz hz n n (UC _) p _ (Up h1);rw [Vo,this,Up h1]
 .rw [VI (by simp [madeCells];omega),VI (by simp [hz];omega)]
theorem IQ{rsz:Nat}{i:Id}{af:Nat}:∀{k n base:Nat},(∀m,m < n->w.cell? ⟨af,base+m,none⟩=some (.slice none 0 0))->(∀m,k<=m->m < k+n->ρ (.g i m)=some (.slice none 0 0))->
  ch w A ρ O i af 1 0 rsz base ((List.range' k n).map λk=>⟨k,[.aw],some (true,[])⟩)
 | k,0,base,_,_=>trivial
 | k,n+1,base,a,b=>by
  rw [Xc,U5];refine⟨⟨rfl,by omega,λj x f d=> ?_,_,a 0 (by omega),b k (by omega) (by omega),⟨none,0,rfl,by simp,by simp,trivial, .inl rfl⟩⟩,IQ (λm hm=> ?_) (λm h1 e=>b m (by omega) (by omega))⟩
  .have:j < 1:=by simpa using (Us.1 d).1
   omega
  .have:=a (m+1) (by omega);rw [show base+1+m=base+ (m+1) by omega];exact this
theorem HS.QE{i:Id}{N cap rsz:Nat}{cells:Array Value}(hs:HS c w h ρ O)(hi:h i=none)(t:TypeId)(E:∀p,p < N->cells[p]? =some (.slice none 0 0))(I:cap<=cells.size)(D:N<=cap)(hrl:i.real=true:=by rfl):
  ∃ρ' O',Le w ρ O (w.alloc (.cells cells t)) ρ' O'/\HS c (w.alloc (.cells cells t)) (aE h i (some (.rows false 1 0 rsz N (qm N)))) ρ' O'/\ρ' i=some (.slice (some ⟨w.heap.size,0,none⟩) N cap):=by
 let V:Id->Option Value:=λx=>if x=i then some (.slice (some ⟨w.heap.size,0,none⟩) N cap) else match x with
  | .g y n=>if y=i then(if n < N then some (.slice none 0 0) else none) else ρ (.g y n)
  | x=>ρ x
 have z:V i=some (.slice (some ⟨w.heap.size,0,none⟩) N cap):=by simp only [V,if_true]
 have B:∀x,x.real=true->x≠i->V x=ρ x:=by
  intro x l a;simp only [V,if_neg a];cases x with
  | g y n=>cases l
  | _=>rfl
 have q:∀y n,y≠i->V (.g y n)=ρ (.g y n):=by intro y n hy;simp only [V,if_neg (aP hrl),if_neg hy]
 have v:∀n,V (.g i n)=if n < N then some (.slice none 0 0) else none:=by intro n;simp only [V,if_neg (aP hrl),if_true]
 have C:∀n,O (.g i n)=none:=λn=>(hs.fG i n hi).2;have le:Le w ρ O (w.alloc (.cells cells t)) V (aE O i (some w.heap.size)):=by
  refine⟨rfl,rfl,rfl,by simp,λx u a=> ?_,λd j _=>U6 _ _ _ j,λx d a=> ?_⟩
  .cases l:x.real with
   | true=>
    have:x≠i:=λe=>by rw [e,(hs.cB i hrl hi).1] at a;cases a
    rw [B x l this];exact a
   | false=>
    cases x with
    | g y n=>
     have:y≠i:=λe=>by rw [e,(hs.fG i n hi).1] at a;cases a
     rw [q y n this];exact a
    | _=>cases l
  .by_cases e:x=i
   .rw [e,aF] at a;cases a;exact .inr (UC _)
   .rw [ar _ _ e] at a;exact .inl ⟨x,a⟩
 have r:(qm N).length=N:=by simp [qm]
 refine⟨V,_,le,hs.oN le (λx y a=> ?_) (λx l a=> ?_) (λx n=>by rw [ar _ _ (aP hrl)];exact hs.ez x n) (λx n a=> ?_) (λx n u o=> ?_) (λx y d a hy=> ?_) (λx d a=> ?_),z⟩
 .by_cases e:x=i
  .subst e;rw [aF] at a;cases a;right;refine⟨_,cap,by rw [r];exact z,by rw [r];exact D,by simp,⟨?_,λf F=> ?_,λn J=>by rw [v,if_neg (by omega)],λn d j=> ?_⟩, .inr ⟨w.heap.size,0,cells,t,rfl,by rw [aF],kX _,by omega, ?_⟩⟩
   .have:(qm N).map (·.n)=List.range N:=by
     unfold qm;rw [Xh];exact List.map_id _
    rw [this];exact List.nodup_range
   .obtain⟨k,G,rfl⟩:=UT.1 F;simpa using G
   .rw [ar _ _ (aP hrl),C] at j;cases j
   .unfold qm;rw [XC];refine IQ (λm hm=> ?_) (λm _ hm=>by rw [v,if_pos (by omega)]);rw [kQ (kX _),UW];exact E m hm
  .rw [ar _ _ e] at a;have H:=hs.real (i:=x) (by rw [a];simp);exact .inl ⟨a,ar _ _ e,λd j=>U6 _ _ _ (hs.lt x d j),λn=>⟨q x n e,ar _ _ (aP hrl),λd j=>U6 _ _ _ (hs.lt _ d j)⟩⟩
 .have b:x≠i:=λe=>by rw [e,aF] at a;cases a
  rw [ar _ _ b] at a;rw [B x l b,ar _ _ b];exact hs.cB x l a
 .have b:x≠i:=λe=>by rw [e,aF] at a;cases a
  rw [ar _ _ b] at a;rw [q x n b,ar _ _ (aP hrl)];exact hs.fG x n a
 .by_cases b:x=i
  .subst b;rw [v] at o;split at o
   .simp only [Uh] at o;subst o;exact⟨rfl,rfl⟩
   .cases o
  .rw [q x n b] at o;exact hs.gone x n u o
 .by_cases e:x=i <;> by_cases e':y=i
  .rw [e,e']
  .rw [e,aF] at a;cases a;rw [ar _ _ e'] at hy;exact absurd (hs.lt _ _ hy) (WU _)
  .rw [e',aF] at hy;cases hy;rw [ar _ _ e] at a;exact absurd (hs.lt _ _ a) (WU _)
  .rw [ar _ _ e] at a;rw [ar _ _ e'] at hy;exact hs.inj x y d a hy
 .by_cases e:x=i
  .rw [e,aF] at a;cases a;simp
  .rw [ar _ _ e] at a;have:=hs.lt x d a;simp;omega
theorem P3{R:Type}{d:Nat}{t:TypeId}{Q:Nat}{n m:T}{vn vm:Value}{K:AV->aH->Option R}{r:R}(hs:HS c w s.h ρ O)(I:ao w (AA c w O) ρ (.t n) vn)(hm:ao w (AA c w O) ρ (.t m) vm)
  (a:sw P d t Q n m K=some r):
  ∃v us,K v us=some r/\(jh d s.h us=true->∃u w' ρ' O',(Instr.makeSlice t vn vm).run P w= .ok u w'/\Le w ρ O w' ρ' O'/\HS c w' (aK s.h us) ρ' O'/\ao w' (AA c w' O') ρ' v u):=by
 unfold sw at a;replace a:=Ui.1 a;obtain⟨e,V,a⟩:=a;replace a:=Ui.1 a;obtain⟨zs,hz,a⟩:=a;obtain⟨L,X⟩:=yz V;replace a:=aO a (.inl rfl);obtain⟨N,J,a⟩:=a;replace a:=aO a (.inl rfl);obtain⟨j,H,a⟩:=a;have:=T.gw J;subst this;have:=T.gw H;subst this;simp only [ao,aA] at I hm;subst I;subst hm;split at a
 .rename_i B;obtain⟨C,x⟩:=B;replace a:=aO a (.inl rfl);obtain⟨_,hb,a⟩:=a;obtain⟨E,h1,F⟩:=Io hb;cases D:(Q==2) with
  | true=>
   simp only [D,cond_true] at a;split at a
   .rename_i u Y;split at a
    .rename_i G;refine⟨_,_,a,λb=> ?_⟩;have b:=kW b Uk;obtain⟨zv,g,z⟩:=JK (w:=w) (A:=AA c w O) (kn:= .i64) (km:= .i64) L hz C x E h1 F;have y:zv.cells.size=P.cellsOf e:=by have:=g.length;rw [UP] at this;omega
     have M:zv.cells.toList= [.slice none 0 0]:=by
      obtain⟨v,q,S,f,l⟩:=g;simp only [aQ] at l;rw [S,l];simp only [aA] at f;rcases f with⟨_,f⟩ | ⟨f,_⟩
      .rw [f]
      .cases f
     have o:∀p,p < N.toNat->(madeCells zv.cells (j.toNat * P.cellsOf e))[p]? =some (.slice none 0 0):=by
      intro p Z;rw [<-Vo,P1 y,M];have:(List.replicate j.toNat [Value.slice none 0 0]).flatten=List.replicate j.toNat (.slice none 0 0):=by
       induction j.toNat with
       | zero=>rfl
       | succ k W=>rw [U7,WB,W];rfl
      rw [this,Wi,if_pos (by omega)]
     obtain⟨ρ',O',f,l,U⟩:=hs.QE (i:= .s d 0) (rsz:=P.cellsOf u) b e o (cap:=j.toNat) (by simp [madeCells,G]) (by omega);refine⟨_,_,ρ',O',z,f, ?_, ?_⟩
     .rw [eK];with_reducible exact l
     .simp only [ao];exact U
    .simp at a
   .simp at a
  | false=>
  simp only [D,cond_false] at a;refine⟨_,_,a,λb=> ?_⟩;have b:=kW b Uk;obtain⟨zv,g,z⟩:=JK (w:=w) (A:=AA c w O) (kn:= .i64) (km:= .i64) L hz C x E h1 F;have y:zv.cells.size=P.cellsOf e:=by have:=g.length;rw [UP] at this;omega
  obtain⟨f,l⟩:=hs.CP (i:= .s d 0) (sz:=P.cellsOf e) b e (madeCells zv.cells (j.toNat * P.cellsOf e)) j.toNat (cv.replicate g x N.toNat)
   (Cz y _ _ (by omega)) (by simp;omega) (by simp [madeCells])
  refine⟨_,_,_,_,z,f,by rw [eK];exact l, ?_⟩;simp only [ao];rw [aF,We]
 .simp at a
end
open Go
section
variable {P:Program} {w w':World} {A A':Nat->Prop} {c:Ctx} {ρ:Id->Option Value} {O:Id->Option Nat} {s:St} {cc:Option Bool} {h:Id->Option ab}
theorem H0{t:TypeId}{x:AV}{i:Value}{b:Bool}(hs:HS c w s.h ρ O)(g:ao w (AA c w O) ρ x i)(h:jN P s t x=some b)(o:Operand)(u:oX P t o=true)(a:Act)(m n:Operand):
  ((eqGuard .eql t m n i (a.eval o)).run P w= .ok () w/\(binOp .eql t i (a.eval o)).run P w= .ok (.bool b) w)/\
  ((eqGuard .neq t m n i (a.eval o)).run P w= .ok () w/\(binOp .neq t i (a.eval o)).run P w= .ok (.bool (!b)) w)/\
  ((eqGuard .eql t m n (a.eval o) i).run P w= .ok () w/\(binOp .eql t (a.eval o) i).run P w= .ok (.bool b) w)/\
  ((eqGuard .neq t m n (a.eval o) i).run P w= .ok () w/\(binOp .neq t (a.eval o) i).run P w= .ok (.bool (!b)) w):=by
 unfold oX at u;split at u
 .rename_i e j;have key:∃p l k,i= .slice p l k/\p.isNone=b:=by
   unfold jN at h;rw [j] at h;dsimp only at h;split at h
   .rename_i sz B xs;simp only [Uh] at h;subst h;simp only [ao,aA] at g;rcases g with⟨rfl,_,rfl⟩ | ⟨rfl,_,_,_,_,rfl,_⟩
    .exact⟨_,_,_,rfl,rfl⟩
    .exact⟨_,_,_,rfl,rfl⟩
   .simp only [Uh] at h;subst h;simp only [ao,aA] at g;rcases g with⟨rfl,rfl⟩ | ⟨rfl,_,_,_,rfl⟩
    .exact⟨_,_,_,rfl,rfl⟩
    .exact⟨_,_,_,rfl,rfl⟩
   .split at h
    .rename_i hi;simp only [Uh] at h;subst h;obtain⟨G,z,a,cap,q1,C,v,D,F⟩:=nT hs hi;simp only [ao] at g;rw [z] at g;simp only [Uh] at g;subst g;subst q1;refine⟨_,_,_,rfl, ?_⟩;cases a with
     | none=>simpa using v
     | some a=>
      have:¬(_=true):=λe=>by have:=v.2 e;simp at this
      simpa using this
    .simp at h
   .simp at h
  obtain⟨p,l,k,rfl,rfl⟩:=key;simp only [Act.eval];have q:(Op.equal t (.slice p l k) (.slice none 0 0)).run P w= .ok p.isNone w:=by
   have:∀d,(Op.equalIn (d+1) t (.slice p l k) (.slice none 0 0)).run P w= .ok p.isNone w:=by intro d;cases p <;> simp [Op.equalIn,run_underlying j]
   exact this 9999
  have r:(Op.equal t (.slice none 0 0) (.slice p l k)).run P w= .ok p.isNone w:=by
   have:∀d,(Op.equalIn (d+1) t (.slice none 0 0) (.slice p l k)).run P w= .ok p.isNone w:=by intro d;simp [Op.equalIn,run_underlying j]
   exact this 9999
  refine⟨⟨by simp [eqGuard], ?_⟩,⟨by simp [eqGuard], ?_⟩,⟨by simp [eqGuard], ?_⟩,⟨by simp [eqGuard], ?_⟩⟩ <;> simp only [binOp] <;> simp [q,r]
 .rename_i e j;have key:∃p,i= .pointer p/\p.isNone=b:=by
   unfold jN at h;rw [j] at h;dsimp only at h;split at h
   .simp only [Uh] at h;subst h;simp only [ao,aA] at g;obtain⟨_,_,rfl,_⟩:=g;exact⟨_,rfl,rfl⟩
   .simp only [Uh] at h;subst h;simp only [ao,aA] at g;subst g;exact⟨_,rfl,rfl⟩
   .simp only [Uh] at h;subst h;simp only [ao] at g;obtain⟨_,_,rfl⟩:=g;exact⟨_,rfl,rfl⟩
   .simp only [Uh] at h;subst h;simp only [ao] at g;obtain⟨_,_,_,_,_,rfl⟩:=g;exact⟨_,rfl,rfl⟩
   .simp at h
  obtain⟨p,rfl,rfl⟩:=key;simp only [Act.eval];have q:(Op.equal t (.pointer p) (.pointer none)).run P w= .ok p.isNone w:=by
   have:∀d,(Op.equalIn (d+1) t (.pointer p) (.pointer none)).run P w= .ok p.isNone w:=by intro d;cases p <;> simp [Op.equalIn,run_underlying j]
   exact this 9999
  have r:(Op.equal t (.pointer none) (.pointer p)).run P w= .ok p.isNone w:=by
   have:∀d,(Op.equalIn (d+1) t (.pointer none) (.pointer p)).run P w= .ok p.isNone w:=by intro d;simp [Op.equalIn,run_underlying j]
   exact this 9999
  refine⟨⟨by simp [eqGuard], ?_⟩,⟨by simp [eqGuard], ?_⟩,⟨by simp [eqGuard], ?_⟩,⟨by simp [eqGuard], ?_⟩⟩ <;> simp only [binOp] <;> simp [q,r]
 .rename_i j;have key:(i= .nilFunc/\b=true)\/(∃f x y,i= .func f x y/\b=false):=by
   unfold jN at h;rw [j] at h;dsimp only at h;split at h
   .simp only [Uh] at h;subst h;simp only [ao,aA] at g;exact .inl ⟨g,rfl⟩
   .simp only [Uh] at h;subst h;simp only [ao] at g;obtain⟨_,_,rfl,_⟩:=g;exact .inr ⟨_,_,_,rfl,rfl⟩
   .simp at h
  simp only [Act.eval];have E:(Op.equal t i .nilFunc).run P w= .ok b w/\(Op.equal t .nilFunc i).run P w= .ok b w:=by
   constructor
   .have:∀d,(Op.equalIn (d+1) t i .nilFunc).run P w= .ok b w:=by intro d;rcases key with⟨rfl,rfl⟩ | ⟨f,x,y,rfl,rfl⟩ <;> simp [Op.equalIn,run_underlying j]
    exact this 9999
   .have:∀d,(Op.equalIn (d+1) t .nilFunc i).run P w= .ok b w:=by intro d;rcases key with⟨rfl,rfl⟩ | ⟨f,x,y,rfl,rfl⟩ <;> simp [Op.equalIn,run_underlying j]
    exact this 9999
  rcases key with⟨rfl,rfl⟩ | ⟨f,x,y,rfl,rfl⟩ <;>
  refine⟨⟨by simp [eqGuard], ?_⟩,⟨by simp [eqGuard], ?_⟩,⟨by simp [eqGuard], ?_⟩,⟨by simp [eqGuard], ?_⟩⟩ <;> simp only [binOp] <;> simp [E.1,E.2]
 .rename_i j;have key:i= .map none/\b=true:=by
   unfold jN at h;rw [j] at h;dsimp only at h;split at h
   .simp only [Uh] at h;subst h;simp only [ao,aA] at g;exact⟨g,rfl⟩
   .simp at h
  simp only [Act.eval];obtain⟨rfl,rfl⟩:=key;have E:(Op.equal t (.map none) (.map none)).run P w= .ok true w:=by
   have:∀d,(Op.equalIn (d+1) t (.map none) (.map none)).run P w= .ok true w:=by intro d;simp [Op.equalIn,run_underlying j]
   exact this 9999
  refine⟨⟨by simp [eqGuard], ?_⟩,⟨by simp [eqGuard], ?_⟩,⟨by simp [eqGuard], ?_⟩,⟨by simp [eqGuard], ?_⟩⟩ <;> simp only [binOp] <;> simp [E]
 .simp at u
theorem Mh{R:Type}{src e:TypeId}{x:T}{j:Value}{K:T->Option R}{r:R}(i:cc=none\/cc=some true)(d:aA w A x j)(a:rI P cc src e x K=some r):
  ∃z v,K z=some r/\(convert src e j).run P w= .ok v w/\aA w A z v:=by
 unfold rI at a;split at a
 .rename_i k l g b;replace a:=aO a i;obtain⟨n,f,a⟩:=a;have:=T.gw f;subst this;simp only [aA] at d;subst d;exact⟨_,_,a,by simp [convert,run_underlying g,run_underlying b,Conv.intToInt],gH _ _ _ _⟩
 .rename_i g b;replace a:=aO a i;obtain⟨n,f,a⟩:=a;have:=T.kK f;subst this;simp only [aA] at d;subst d;exact⟨_,_,a,by simp [convert,run_underlying g,run_underlying b],mb _ _ _⟩
 .simp at a
theorem EY:∀{xs:List (List T)} {l:List UInt8} {vss:List (List Value)},bytesOf xs=some l->cv w A 1 xs vss->∃a:List Int,vss.flatten=a.map (Value.int .u8)/\l=a.map (λn=>UInt8.ofNat n.toNat)
 | [],l,vss,e,h=>by simp only [cv] at h;subst h;simp only [bytesOf,Uh] at e;subst e;exact⟨[],rfl,rfl⟩
 | cs::xs,l,vss,e,⟨vs,r,g,e2,e3,i⟩=>by
  subst g;simp only [bytesOf] at e;obtain⟨x,f,e⟩:=Ui.1 e;obtain⟨n,m,e⟩:=Ui.1 e;obtain⟨q,o,e⟩:=Ui.1 e;simp only [Uh] at e;subst e;obtain⟨a,j,k⟩:=EY o i;have:=T.gw m;subst this;cases cs with
  | nil=>simp at e2
  | cons y cs=>simp only [VT,Uh] at f;subst f;have:cs= []:=UA.1 (by simpa using e2);subst this;obtain⟨v,p,rfl,b,d⟩:=e3;simp only [aQ] at d;subst d;simp only [aA] at b;subst b;exact⟨n::a,by simp [j],by simp [k]⟩
theorem Jt:∀(a:List Int) (b:ByteArray),a.foldl (λr n=>r.push (UInt8.ofNat n.toNat)) b= ⟨b.data++ (a.map (λn=>UInt8.ofNat n.toNat)).toArray⟩
 | [],b=>by simp
 | n::a,b=>by rw [List.foldl_cons,Jt a];simp [ByteArray.push]
theorem LW{src b e:TypeId}{x:AV}{y:T}{o:Value}{p:Bool×List (List T)}{l:List UInt8}(hs:HS c w s.h ρ O)(m:P.underlying src=some (.slice e))(f:P.underlying b=some .string)(i:P.underlying e=some (.int .u8))
  (B:ao w (AA c w O) ρ x o) (hy:dH s.h x=some y) (z:y.aT 1=some p) (d:bytesOf p.2=some l):(convert src b o).run P w= .ok (.string ⟨l.toArray⟩) w:=by
 rcases Kr hs B hy z with⟨n,rfl | ⟨a,cap,rfl⟩⟩ | ⟨af,off,cap,rfl,k⟩
 .rw [n] at d;simp only [bytesOf,Uh] at d;subst d;rw [run_convert_bytes_string w src b e _ _ _ m i f];simp [Conv.bytesToString];rfl
 .rw [n] at d;simp only [bytesOf,Uh] at d;subst d;rw [run_convert_bytes_string w src b e _ _ _ m i f,run_bytesToString w a 0 cap [] (run_loadCells_list (P:=P) w a [] (by simp))];rfl
 .obtain⟨vss,h1,t⟩:=k.be;obtain⟨E,C⟩:=h1.length;obtain⟨D,q,r⟩:=EY d h1;rw [run_convert_bytes_string w src b e _ _ _ m i f,run_bytesToString w _ _ cap D ?_,Jt]
  .rw [r];simp
  .rw [<-q];have g:=run_loadCells_list (P:=P) w ⟨af,off,none⟩ vss.flatten (λj v u=>by rw [hY];exact t j v u);rw [C,XL] at g;exact g
theorem PS{R:Type}{t:TypeId}(i:bR P t=true){cs:List AV}{arr:Array Value}{off:Nat}{K:AV->Option R}{r:R}(f:aC w A ρ cs (arr.toList.drop off))(h1:∀u∈arr.toList,u.oneCell'=true/\u.cells= #[u])(h:nB P t cs K=some r):
  ∃av v,K av=some r/\(part t arr off).run P w= .ok v w/\ao w A ρ av v:=by
 unfold nB at h;unfold part;simp only [UI,sR i,Uu];cases hb:bh P t
 .simp only [hb,cond_false] at h;cases cs with
  | nil=>simp at h
  | cons y cs=>
   simp only [VT,Ut] at h;simp only [aC] at f;obtain⟨v,q,e,a,_⟩:=f;have b:off < arr.toList.length:=by
    rcases Ws off arr.toList.length with g | g
    .exact g
    .rw [WE g] at e;simp at e
   rw [VR b] at e;simp only [V6] at e;have:arr[off]? =some v:=by rw [WL (by simpa using b)];rw [<-e.1];simp
   simp only [UM,if_false,this];exact⟨_,v,h,by simp,a⟩
 .simp only [hb,cond_true] at h;cases d:nZ (P.cellsOf t) cs with
  | none=>simp [d] at h
  | some l=>simp only [d,Ut] at h;obtain⟨j,m⟩:=DQ d;have a:=f.take (P.cellsOf t);rw [<-j] at a;refine⟨_, .agg (arr.extract off (off+P.cellsOf t)),h,by simp only [if_true,UI,ju i,Uu,US], ?_⟩;simp only [ao];refine⟨_, ?_,a,λu k=>h1 u (Ww (Wk k))⟩;congr 1;apply WO;simp [XB,W7]
theorem OQ{R:Type}{t:TypeId}{x:AV}{d:Value}{f:Nat}{K:AV->Option R}{r:R}(b:ao w A ρ x d)(h:rY P t x f K=some r):
  ∃av v,K av=some r/\(Instr.field t d f).run P w= .ok v w/\ao w A ρ av v:=by
 unfold rY at h;split at h
 .rename_i off u k;obtain⟨o,y,h1,i,a,j⟩:=B6 k;simp only [Vn] at a;obtain⟨rfl,rfl⟩:=a;split at h
  .rename_i vs;simp only [ao] at b;obtain⟨n,rfl,e,g⟩:=b;obtain⟨av,v,l,k2,m⟩:=PS (arr:=n.toArray) j (by simpa using e.drop y.offset) (by simpa using g) h;exact⟨av,v,l,by simp [Instr.field,run_underlying h1,i,asAgg,k2],m⟩
  .simp at h
 .simp at h
theorem PR{R:Type}{t:TypeId}(j:bR P t=true){cs:List T}{arr:Array Value}{off:Nat}{K:AV->Option R}{r:R}(b:cc=none\/cc=some true)(i:aQ w A cs (arr.toList.drop off))(h:kZ P t cc cs K=some r):
  ∃av v,K av=some r/\(part t arr off).run P w= .ok v w/\ao w A ρ av v:=by
 unfold kZ at h;unfold part;simp only [UI,sR j,Uu];cases hb:bh P t
 .simp only [hb,cond_false] at h;replace h:=aO h b;obtain⟨x,f,h⟩:=h;cases cs with
  | nil=>simp at f
  | cons y cs=>
   simp only [VT,Uh] at f;subst f;obtain⟨v,q,e,a,_⟩:=i;have d:off < arr.toList.length:=by
    rcases Ws off arr.toList.length with g | g
    .exact g
    .rw [WE g] at e;simp at e
   rw [VR d] at e;simp only [V6] at e;have:arr[off]? =some v:=by rw [WL (by simpa using d)];rw [<-e.1];simp
   simp only [UM,if_false,this];obtain⟨z,h,a⟩:=px b a h;exact⟨_,v,h,by simp,by simpa [ao] using a⟩
 .simp only [hb,cond_true] at h;obtain⟨l,m,n,h⟩:=zU b h;have a:=i.take (P.cellsOf t);rw [<-m] at a;obtain⟨o,h,k⟩:=vT b a h;refine⟨_, .agg (arr.extract off (off+P.cellsOf t)),h,by simp only [if_true,UI,ju j,Uu,US], ?_⟩;simp only [ao];refine⟨_, ?_,aC.l8 k,a.one⟩;congr 1;apply WO;simp [XB,W7]
theorem CD{R:Type}{k:IntKind}(f:cc=none\/cc=some true)(d:Bool):∀{l:List T} {a:Int} {vs:List Value} {K:T->Option R} {r:R},aQ w A l vs->oU k cc d a l K=some r->
  ∃n,K (.int k n)=some r/\(vs.foldlM (cond d Builtin.max2 Builtin.min2) (.int k a)).run P w= .ok (.int k n) w
 | [],a,vs,K,r,hv,h=>by simp only [aQ] at hv;subst hv;exact⟨a,h,by simp⟩
 | y::l,a,vs,K,r,⟨v,q,e,h1,i⟩,h=>by
  subst e;simp only [oU] at h;replace h:=aO h f;obtain⟨b,hb,h⟩:=h;have:=T.gw hb;subst this;simp only [aA] at h1;subst h1;obtain⟨n,g,e2⟩:=CD f d i h;refine⟨n,g, ?_⟩;rw [List.foldlM_cons];have:((cond d Builtin.max2 Builtin.min2) (.int k a) (.int k b)).run P w= .ok (.int k (mm d a b)) w:=by cases d <;> simp [Builtin.max2,Builtin.min2,mm]
  simp only [UI,this,Uu];exact e2
end
open Go
def fM(O:Id->Option Nat)(b:Nat):Prop:= ∃i,O i=some b
def jY(a:List ab):Id->Option ab
 | .c j=>a[j]?
 | _=>none
section
variable {P:Program} {w w':World} {A A':Nat->Prop} {c:Ctx} {ρ:Id->Option Value} {O:Id->Option Nat} {s s':St} {h:Id->Option ab}
def ny:Option ab->List Id
 | some (.box cs)=>bX cs
 | some (.arr cs)=>bX cs
 | _=> []
theorem vA:∀{n:Nat} {todo d seen:List Id},fh h n todo d=some seen->d.Nodup->(∀i∈d,h i≠none)->(∀i∈d,∀j∈ny (h i),j∈d\/j∈todo)->
  seen.Nodup/\(∀i∈d,i∈seen)/\(∀i∈todo,i∈seen)/\(∀i∈seen,h i≠none)/\∀i∈seen,∀j∈ny (h i),j∈seen
 | 0,todo,d,seen,e,_,_,_=>by simp [fh] at e
 | n+1,[],d,seen,e,t,r,q=>by simp only [fh,Uh] at e;subst e;exact⟨t,λ_ h=>h,by simp,r,λi hi j m=>by rcases q i hi j m with h | h;exact h;cases h⟩
 | n+1,i::todo,d,seen,e,t,r,q=>by
  simp only [fh] at e;cases l:d.contains i with
  | true=>
   rw [l,cond_true] at e;have hi:i∈d:=by simpa using l
   obtain⟨u,p,v,x,y⟩:=vA e t r (λk f j m=>by
    rcases q k f j m with h | h
    .exact .inl h
    .rcases Uw.1 h with rfl | h
     .exact .inl hi
     .exact .inr h)
   refine⟨u,p,λk f=> ?_,x,y⟩;rcases Uw.1 f with rfl | f
   .exact p _ hi
   .exact v k f
  | false=>
   rw [l,cond_false] at e;have E:i∉d:=by
    intro hm;have:d.contains i=true:=by simpa using hm
    rw [this] at l;cases l
   have C:(d++ [i]).Nodup:=Wb.2 ⟨t,by simp,λa F b hb z=>by simp only [Uv] at hb;exact E (by rw [<-hb,<-z];exact F)⟩;have go:∀g:List Id,h i≠none->ny (h i)=g->fh h n (todo++g) (d++ [i])=some seen->_:=λg D hm e=>
    vA e C (λk f=>by
     rcases UB.1 f with f | f
     .exact r k f
     .simp only [Uv] at f;subst f;exact D) (λk f j m=>by
     rcases UB.1 f with f | f
     .rcases q k f j m with h | h
      .exact .inl (Uy _ h)
      .rcases Uw.1 h with rfl | h
       .exact .inl (Ux _ (Uv.2 rfl))
       .exact .inr (Uy _ h)
     .simp only [Uv] at f;subst f;rw [hm] at m;exact .inr (Ux _ m))
   have o:∀g:List Id,(seen.Nodup/\(∀k∈d++ [i],k∈seen)/\(∀k∈todo++g,k∈seen)/\(∀k∈seen,h k≠none)/\∀k∈seen,∀j∈ny (h k),j∈seen)->
     seen.Nodup/\(∀i∈d,i∈seen)/\(∀k∈i::todo,k∈seen)/\(∀i∈seen,h i≠none)/\∀i∈seen,∀j∈ny (h i),j∈seen:=by
    rintro g ⟨u,p,v,x,y⟩;refine⟨u,λk f=>p k (Uy _ f),λk f=> ?_,x,y⟩;rcases Uw.1 f with rfl | f
    .exact p _ (Ux _ (Uv.2 rfl))
    .exact v k (Uy _ f)
   split at e
   .rename_i cs hi;exact o _ (go (bX cs) (by rw [hi];simp) (by rw [hi];rfl) e)
   .rename_i cs hi;exact o _ (go (bX cs) (by rw [hi];simp) (by rw [hi];rfl) e)
   .rename_i b hb B hi;refine o [] (go [] (by rw [hi];simp) ?_ (by simpa using e));rw [hi];cases b with
    | box cs=>exact(hb cs rfl).elim
    | arr cs=>exact(B cs rfl).elim
    | _=>rfl
   .simp at e
def ct{a:Type}(m:List Id)(f:Id->Option a):Id->Option a
 | .c j=>(m[j]?).bind f
 | .g (.c j) n=>(m[j]?).bind λi=>f (.g i n)
 | _=>none
theorem zI{a:Type}{m:List Id}{f:Id->Option a}{i:Id}(hi:i∈m):ct m f (.c (m.idxOf i))=f i:=by simp only [ct];have:m.idxOf i < m.length:=YE.2 hi;rw [Up this];simp
theorem JE{a:Type}{m:List Id}{f:Id->Option a}{i:Id}{n:Nat}(hi:i∈m):ct m f (.g (.c (m.idxOf i)) n)=f (.g i n):=by simp only [ct];have:m.idxOf i < m.length:=YE.2 hi;rw [Up this];simp
def py(seen:List Id):Id->Option Id
 | .c j=>seen[j]?
 | .g (.c j) n=>(seen[j]?).map λi=> .g i n
 | _=>none
theorem JF{a:Type}{m:List Id}{f:Id->Option a}(i:Id):ct m f i= (py m i).bind f:=by
 cases i with
 | c j=>rfl
 | s d j=>rfl
 | g i n=>
  cases i with
  | c j=>simp only [ct,py];cases m[j]? <;> rfl
  | _=>rfl
theorem T0{seen:List Id}(t:seen.Nodup){i j k:Id}(p:∀x∈seen,x.real=true)(hi:py seen i=some k)(r:py seen j=some k):i=j:=by
 have inj:∀{a b:Nat} {x:Id},seen[a]? =some x->seen[b]? =some x->a=b:=by intro a b x h1 e;obtain⟨u,q⟩:=Us.1 h1;obtain⟨v,e2⟩:=Us.1 e;exact(List.getElem_inj t).1 (q.trans e2.symm)
 have l:∀i,py seen i=some k->(∃a,i= .c a/\seen[a]? =some k)\/∃a n x,i= .g (.c a) n/\seen[a]? =some x/\k= .g x n:=by
  intro i hi;cases i with
  | c a=>exact .inl ⟨a,rfl,hi⟩
  | s d a=>cases hi
  | g i n=>
   cases i with
   | c a=>simp only [py,WX] at hi;obtain⟨x,h1,e⟩:=hi;exact .inr ⟨a,n,x,rfl,h1,e.symm⟩
   | _=>cases hi
 rcases l i hi with⟨a,rfl,h1⟩ | ⟨a,n,x,rfl,h1,e⟩ <;> rcases l j r with⟨b,rfl,f⟩ | ⟨b,m,y,rfl,f,o⟩
 .rw [inj h1 f]
 .have:=p k (Uj h1);rw [o] at this;cases this
 .have:=p k (Uj f);rw [e] at this;cases this
 .rw [e] at o;cases o;rw [inj h1 f]
mutual
theorem ao.rn{m:List Id}(d:∀b,A b->A' b):∀(v:AV) (u:Value),(∀i∈v.ids,i∈m)->ao w A ρ v u->ao w A' (ct m ρ) (v.rn m) u
 | .top,_,_,_=>by simp [AV.rn,ao]
 | .t x,u,_,hv=>by simp only [AV.rn,ao] at hv⊢;exact aA.mono (λb hb=>⟨d b hb,rfl⟩) x u hv
 | .mu vs,u,hi,hv=>by simp only [AV.rn,ao] at hv⊢;obtain⟨g,e,h1⟩:=hv;exact⟨g,e,aC.rn d vs g (by simpa [AV.ids] using hi) h1⟩
 | .agg vs,u,hi,hv=>by simp only [AV.rn,ao] at hv⊢;obtain⟨g,e,h1,j⟩:=hv;exact⟨g,e,aC.rn d vs g (by simpa [AV.ids] using hi) h1,j⟩
 | .ref i off,u,hi,hv=>by simp only [AV.rn,ao] at hv⊢;rw [zI (hi i (by simp [AV.ids]))];exact hv
 | .el i sz k off,u,hi,hv=>by simp only [AV.rn,ao] at hv⊢;rw [zI (hi i (by simp [AV.ids]))];exact hv
 | .own i,u,hi,hv=>by simp only [AV.rn,ao] at hv⊢;rw [zI (hi i (by simp [AV.ids]))];exact hv
 | .part i sz off n,u,hi,hv=>by simp only [AV.rn,ao] at hv⊢;rw [zI (hi i (by simp [AV.ids]))];exact hv
 | .row i n,u,hi,hv=>by simp only [AV.rn,ao] at hv⊢;rw [JE (hi i (by simp [AV.ids]))];exact hv
 | .rel i sz n k off,u,hi,hv=>by simp only [AV.rn,ao] at hv⊢;rw [JE (hi i (by simp [AV.ids]))];exact hv
 | .fn f a b,u,hi,hv=>by simp only [AV.rn,ao] at hv⊢;obtain⟨l,y',e,h1,j⟩:=hv;simp only [AV.ids,UB] at hi;exact⟨l,y',e,aC.rn d a l (λi h=>hi i (.inl h)) h1,aC.rn d b y' (λi h=>hi i (.inr h)) j⟩
theorem aC.rn{m:List Id}(a:∀b,A b->A' b):∀(vs:List AV) (us:List Value),(∀i∈bX vs,i∈m)->aC w A ρ vs us->aC w A' (ct m ρ) (kE m vs) us
 | [],us,_,hv=>by simpa [kE,aC] using hv
 | v::vs,us,hi,hv=>by simp only [kE,aC] at hv⊢;obtain⟨u,r,e,h1,d⟩:=hv;simp only [bX,UB] at hi;exact⟨u,r,e,ao.rn a v u (λi h=>hi i (.inl h)) h1,aC.rn a vs r (λi h=>hi i (.inr h)) d⟩
end
def Of(seen:List Id)(k:Id):Prop:=k∈seen\/∃i n,i∈seen/\k= .g i n
theorem T1{seen:List Id}{i k:Id}(h:py seen i=some k):Of seen k:=by
 cases i with
 | c a=>exact .inl (Uj h)
 | s d a=>cases h
 | g i n=>
  cases i with
  | c a=>simp only [py,WX] at h;obtain⟨x,h1,b⟩:=h;exact .inr ⟨x,n,Uj h1,b.symm⟩
  | _=>cases h
theorem vC{seen:List Id}{b:Nat}(h:fM (ct seen O) b):∃k,Of seen k/\O k=some b:=by obtain⟨i,hi⟩:=h;rw [JF] at hi;obtain⟨k,a,d⟩:=Ui.1 hi;exact⟨k,T1 a,d⟩
theorem ch.rn{seen:List Id}{i:Id}{j:Nat}{af sz aD rsz:Nat}(a:∀b,A b->A' b)(d:seen[j]? =some i):∀{es:List Row} {base:Nat},ch w A ρ O i af sz aD rsz base es->
  ch w A' (ct seen ρ) (ct seen O) (.c j) af sz aD rsz base es
 | [],_,_=>trivial
 | e::es,base,⟨⟨h1,o,q,v,r,t,y⟩,B⟩=>by
  have f:ct seen ρ (.g (.c j) e.n)=ρ (.g i e.n):=by simp [ct,d]
  refine⟨⟨h1,o,λk x z C=> ?_,v,r,by rw [f];exact t, ?_⟩,ch.rn a d B⟩
  .obtain⟨u,l,m⟩:=q k x z C;exact⟨u,l,aA.mono (λb hb=>⟨a b hb,rfl⟩) x u m⟩
  .have e2:ct seen O (.g (.c j) e.n)=O (.g i e.n):=by simp [ct,d]
   rw [e2];revert y;cases e.own with
   | none=>exact λh=>h
   | some p=>exact λh=>h.mono (λb hb=>⟨a b hb,rfl⟩) λb hb=>⟨hb,rfl⟩
theorem oC.rn{seen:List Id}{i:Id}{j nx:Nat}{es:List Row}(d:seen[j]? =some i)(h:oC ρ O i nx es):oC (ct seen ρ) (ct seen O) (.c j) nx es:=by
 have e:∀n,ct seen ρ (.g (.c j) n)=ρ (.g i n):=λn=>by simp [ct,d]
 have e2:∀n,ct seen O (.g (.c j) n)=O (.g i n):=λn=>by simp [ct,d]
 exact⟨h.1,h.2.1,λn a=>by rw [e];exact h.2.2.1 n a,λn b a=>by rw [e2] at a;exact h.2.2.2 n b a⟩
theorem HS.JD{c':Ctx}{seen:List Id}(hs:HS c w h ρ O)(W:seen.Nodup)(J:∀i∈seen,h i≠none)(V:∀i∈seen,∀j∈ny (h i),j∈seen)
  (z:∀b,AA c w O b->AA c' w (ct seen O) b) (T:∀b,fM (ct seen O) b->c'.MO b) (U:c'.N0<=w.heap.size):HS c' w (jY (seen.map λi=>iq seen (h i))) (ct seen ρ) (ct seen O):=by
 have H:∀b,fM (ct seen O) b->fM O b:=λb h=>let⟨k,_,B⟩:=vC h;⟨k,B⟩;refine⟨λi b hb=> ?_,λi X hi=> ?_,λi n=>rfl,λi n hi=> ?_,λi n u I=> ?_,λi j b hi K=> ?_,λi b hi=> ?_,λi b hi=> ?_,U⟩
 .cases i with
  | s d j=>simp [jY] at hb
  | g i n=>simp [jY] at hb
  | c j=>
   simp only [jY,U9,WX] at hb;obtain⟨i,hi,e⟩:=hb;have E:i∈seen:=Uj hi;have m:ct seen ρ (.c j)=ρ i:=by simp [ct,hi]
   have y:ct seen O (.c j)=O i:=by simp [ct,hi]
   cases D:h i with
   | none=>exact(J i E D).elim
   | some x=>
    have r:=hs.af i x D;have C:=V i E;rw [D] at e C;cases x with
    | box cs=>simp only [iq] at e;subst e;obtain⟨o,arr,t,f,e2,e3,p,q⟩:=r;exact⟨o,arr,t,by rw [m];exact f,by rw [y];exact e2,e3,aC.rn z cs _ (λk B=>C k (by simpa [ny] using B)) p,q⟩
    | sl R sz bb xs=>
     simp only [iq] at e;subst e;obtain⟨v,f,e2,e3⟩:=r;refine⟨v,by rw [m];exact f,e2.mono (λb hb=>⟨z b hb,rfl⟩) (λb hb=>⟨?_,rfl⟩),by rw [y];exact e3⟩;cases R
     .simp only [UM,if_false] at hb⊢;rw [y];exact hb
     .simp only [if_true] at hb⊢;exact z b hb
    | iR l=>simp only [iq] at e;subst e;obtain⟨o,f,e2,e3,p⟩:=r;exact⟨o,by rw [m];exact f,by rw [y];exact e2,z o e3,aU.mono (λb hb=>⟨z b hb,rfl⟩) o e3 0 l p⟩
    | mp ag ks vk es=>simp only [iq] at e;subst e;obtain⟨o,G,F,f,e2,e3,p,q⟩:=r;exact⟨o,G,F,by rw [m];exact f,by rw [y];exact e2,e3,p,q⟩
    | arr cs=>simp only [iq] at e;subst e;obtain⟨o,arr,t,f,e2,e3,p,q⟩:=r;exact⟨o,arr,t,by rw [m];exact f,by rw [y];exact e2,e3,aC.rn z cs _ (λk B=>C k (by simpa [ny] using B)) p,q⟩
    | rows bb sz aD rsz nx es=>
     simp only [iq] at e;subst e;obtain⟨a,cap,f,e2,e3,p,q⟩:=r;refine⟨a,cap,by rw [m];exact f,e2,e3,p.rn hi, ?_⟩;rcases q with q | ⟨af,off,arr,t,q1,Z,q3,q4,q5⟩
     .exact .inl q
     .exact .inr ⟨af,off,arr,t,q1,by rw [y];exact Z,q3,q4,q5.rn z hi⟩
    | dead=>simp only [iq] at e;subst e;obtain⟨f,e2⟩:=r;exact⟨by rw [m];exact f,by rw [y];exact e2⟩
 .cases i with
  | s d j=>exact⟨rfl,rfl⟩
  | g i n=>cases X
  | c j=>simp only [jY,U9,Option.map_eq_none_iff] at hi;simp [ct,hi]
 .cases i with
  | c j=>simp only [jY,U9,Option.map_eq_none_iff] at hi;simp [ct,hi]
  | _=>exact⟨rfl,rfl⟩
 .cases i with
  | c j=>simp only [ct] at I;obtain⟨k,h1,S⟩:=Ui.1 I;exact hs.gone k n u S
  | _=>cases I
 .rw [JF] at hi K;obtain⟨Y,L,N⟩:=Ui.1 hi;obtain⟨k2,M,Q⟩:=Ui.1 K;have:=hs.inj Y k2 b N Q;subst this;exact T0 W (λx r=>hs.real (J x r)) L M
 .obtain⟨k,B⟩:=H b ⟨i,hi⟩;exact hs.lt k b B
 .exact T b ⟨i,hi⟩
theorem HS.rn{seen:List Id}(hs:HS c w h ρ O)(g:seen.Nodup)(f:∀i∈seen,h i≠none)(e:∀i∈seen,∀j∈ny (h i),j∈seen):
  HS c w (jY (seen.map λi=>iq seen (h i))) (ct seen ρ) (ct seen O)/\(∀b,fM (ct seen O) b->fM O b):=by
 have a:∀b,fM (ct seen O) b->fM O b:=λb h=>let⟨k,_,d⟩:=vC h;⟨k,d⟩;refine⟨hs.JD g f e (λb hb=>⟨hb.1,hb.2.1,λi hi=> ?_⟩) (λb hb=> ?_) hs.size,a⟩
 .obtain⟨k,d⟩:=a b ⟨i,hi⟩;exact hb.2.2 k d
 .obtain⟨k,d⟩:=a b hb;exact hs.own k b d
theorem pc:∀{n:Nat} {todo a seen:List Id},fh h n todo a=some seen->a <+:seen
 | 0,todo,a,seen,e=>by simp [fh] at e
 | n+1,[],a,seen,e=>by simp only [fh,Uh] at e;subst e;exact List.prefix_refl _
 | n+1,i::todo,a,seen,e=>by
  simp only [fh] at e;cases b:a.contains i with
  | true=>rw [b,cond_true] at e;exact pc e
  | false=>
   rw [b,cond_false] at e;split at e
   .exact(Yq _ _).trans (pc e)
   .exact(Yq _ _).trans (pc e)
   .exact(Yq _ _).trans (pc e)
   .simp at e
theorem Jy:∀{l:List Id} {n:Nat} {todo a seen:List Id},fh h n (l++todo) a=some seen->l.Nodup->(∀i∈l,i∉a)->(a++l) <+:seen
 | [],n,todo,a,seen,e,_,_=>by rw [Ve];exact pc e
 | i::l,0,todo,a,seen,e,_,_=>by simp [fh] at e
 | i::l,n+1,todo,a,seen,e,k,d=>by
  obtain⟨m,o⟩:=VE.1 k;simp only [Uo,fh] at e;have f:a.contains i=false:=by have:=d i Uk;simpa using this
  rw [f,cond_false] at e;have go:∀b:List Id,fh h n (l++todo++b) (a++ [i])=some seen->(a++i::l) <+:seen:=by
   intro b e;rw [UR] at e;have:=Jy e o (λj g hm=>by
    rcases UB.1 hm with hm | hm
    .exact d j (Um _ g) hm
    .simp only [Uv] at hm;subst hm;exact m g)
   simpa using this
  split at e
  .exact go _ e
  .exact go _ e
  .exact go [] (by simpa using e)
  .simp at e
theorem HS.Kt(hs:HS c w h ρ O){i:Id}{b:ab}(hi:h i=some b):∃v,ρ i=some v/\v.oneCell'=true/\v.cells= #[v]:=by
 cases a:ρ i with
 | some u=>exact⟨u,rfl,kD hs a⟩
 | none=>
  exfalso;have:=hs.af i b hi;cases b with
  | box cs=>obtain⟨b,_,_,h1,_⟩:=this;rw [a] at h1;cases h1
  | sl d sz b xs=>obtain⟨v,h1,_⟩:=this;rw [a] at h1;cases h1
  | iR l=>obtain⟨b,h1,_⟩:=this;rw [a] at h1;cases h1
  | mp ag ks vk es=>obtain⟨b,_,_,h1,_⟩:=this;rw [a] at h1;cases h1
  | arr cs=>obtain⟨b,_,_,h1,_⟩:=this;rw [a] at h1;cases h1
  | rows _ _ _ _ _ _=>obtain⟨_,_,h1,_⟩:=this;rw [a] at h1;cases h1
  | dead=>obtain⟨⟨v,h1,_⟩,_⟩:=this;rw [a] at h1;cases h1
theorem aC.set:∀{as:List AV} {us:List Value} {k:Nat} {v:AV} {u:Value},aC w A ρ as us->us[k]? =some u->ao w A ρ v u->aC w A ρ (as.set k v) us
 | [],us,k,v,u,h,b,hv=>by simp only [aC] at h;subst h;simp at b
 | a::as,us,0,v,u,h,b,hv=>by simp only [aC] at h;obtain⟨x,r,rfl,h1,d⟩:=h;simp only [Wy,Uh] at b;subst b;simp only [Yp,aC];exact⟨_,_,rfl,hv,d⟩
 | a::as,us,k+1,v,u,h,b,hv=>by simp only [aC] at h;obtain⟨x,r,rfl,h1,d⟩:=h;simp only [Wz] at b;simp only [Xm,aC];exact⟨_,_,rfl,h1,aC.set d b hv⟩
theorem NJ{b:Bool}{sz:Nat}{u:Value}{Q:Nat->Prop}(h:aA w A (.aJ b) u):cP w A sz b [] u Q:=by
 simp only [aA] at h;rcases h with⟨rfl,rfl⟩ | ⟨rfl,af,off,a,rfl⟩
 .exact⟨none,0,rfl,by simp,by simp,by simp, .inl rfl⟩
 .exact⟨some ⟨af,off,a⟩,0,rfl,by simp,by simp,trivial, .inl rfl⟩
theorem yN{new i:Id}{k:Nat}{cs:List AV}{X:ab}{us:aH}{bb:Bool}(o:new.real=true)(hs:HS c w h ρ O)(hi:h i=some (.box cs))
  (E:h new=none->∀u,aA w (AA c w O) (.aJ bb) u->cT w (AA c w O) (aE ρ new (some u)) O new X) (m:cs[k]? =some (.t (.aJ bb))\/(∃z,cs[k]? =some (.t (.aa z true []))/\bb=true))
  (e:(cond (h new).isNone (some [(new,X),(i,ab.box (cs.set k (.own new)))]) none)=some us):∃ρ' O',Le w ρ O w ρ' O'/\HS c w (aK h us) ρ' O':=by
 obtain⟨b,arr,t,h1,B,C,p,D⟩:=hs.af i _ hi;cases l:h new with
 | some x=>rw [l] at e;simp at e
 | none=>
  rw [l] at e;simp only [Yr,cond_true,Uh] at e;subst e;have F:∃u,arr.toList[k]? =some u/\aA w (AA c w O) (.aJ bb) u:=by
   rcases m with m | ⟨z,m,rfl⟩
   .obtain⟨u,f,d⟩:=p.get m;exact⟨u,f,by simpa [ao] using d⟩
   .obtain⟨u,f,d⟩:=p.get m;refine⟨u,f, ?_⟩;simp only [ao,aA] at d⊢;rcases d with⟨_,_,g⟩ | ⟨g,_⟩
    .exact .inl ⟨trivial,g⟩
    .cases g
  obtain⟨u,f,d⟩:=F;obtain⟨G,I⟩:=hs.cB new o l;have H:i≠new:=λe=>by rw [e,l] at hi;cases hi
  have le:Le w ρ O w (aE ρ new (some u)) O:=⟨rfl,rfl,rfl,UC _,λj v a=>by
   by_cases e:j=new
   .subst e;rw [G] at a;cases a
   .rw [ar _ _ e];exact a,λ_ _ _=>rfl,λj b h=> .inl ⟨j,h⟩⟩
  refine⟨_,O,le, ?_⟩;rw [de,eK];have r:=hs.real (i:=i) (by rw [hi];simp);have y:GK w ρ O w (aE ρ new (some u)) O:=λj n=>⟨ar _ _ (aP o),rfl,λ_ _=>rfl⟩;refine hs.go le y (λj x a=> ?_) (λj q a=> ?_) (λj a=> ?_) (λj n=>by rw [ar _ _ (aP r),ar _ _ (aP o)];exact hs.ez j n) hs.inj hs.lt
  .by_cases e:j=i
   .subst e;rw [aF] at a;cases a;right;refine⟨b,arr,t,le.eQ _ _ h1,B,C,aC.set (aC.mono (λb hb=>le.A b hb) le.eQ _ _ p) f ?_,D⟩;simp only [ao];exact aF _ _ _
   .rw [ar _ _ e] at a;by_cases e2:j=new
    .subst e2;rw [aF] at a;cases a;exact .inr (E l u d)
    .rw [ar _ _ e2] at a;exact .inl ⟨a,rfl,λ_ _=>rfl⟩
  .by_cases e:j=i
   .subst e;rw [aF] at a;cases a
   .rw [ar _ _ e] at a;by_cases e2:j=new
    .subst e2;rw [aF] at a;cases a
    .rw [ar _ _ e2] at a;rw [ar _ _ e2];exact hs.cB j q a
  .by_cases e:j=i
   .subst e;rw [aF] at a;cases a
   .rw [ar _ _ e] at a;by_cases e2:j=new
    .subst e2;rw [aF] at a;cases a
    .rw [ar _ _ e2] at a;exact a
theorem RC{new i:Id}{k sz aD rsz:Nat}{us:aH}(a:new.real=true)(hs:HS c w h ρ O)(e:sP h new i k sz aD rsz=some us):∃ρ' O',Le w ρ O w ρ' O'/\HS c w (aK h us) ρ' O':=by
 have j:∀{bb:Bool},h new=none->∀u,aA w (AA c w O) (.aJ bb) u->cT w (AA c w O) (aE ρ new (some u)) O new (.rows bb sz aD rsz 0 []):=by
  intro bb b u o;have m:oC (aE ρ new (some u)) O new 0 []:=⟨by simp,(λf b=>by cases b),λn _=>by rw [ar _ _ (aP a)];exact(hs.fG new n b).1,λn d l=>by rw [(hs.fG new n b).2] at l;cases l⟩;simp only [aA] at o;rcases o with⟨rfl,rfl⟩ | ⟨rfl,af,off,p,rfl⟩
  .exact⟨none,0,aF _ _ _,by simp,by simp,m, .inl rfl⟩
  .exact⟨some ⟨af,off,p⟩,0,aF _ _ _,by simp,by simp,m, .inl rfl⟩
 unfold sP at e;split at e
 .rename_i cs hi;split at e
  .simp only [Uh] at e;subst e;exact⟨ρ,O,Le.refl,hs⟩
  .rename_i bb g;exact yN a hs hi j (.inl g) e
  .rename_i z g;exact yN a hs hi j (.inr ⟨z,g,rfl⟩) e
  .simp at e
 .simp at e
theorem Q8{new i:Id}{k sz:Nat}{us:aH}(f:new.real=true)(hs:HS c w h ρ O)(e:o7 h new i k sz=some us):∃ρ' O',Le w ρ O w ρ' O'/\HS c w (aK h us) ρ' O':=by
 unfold o7 at e;cases hb:Nat.ble 100000 sz with
 | true=>rw [hb] at e;exact RC f hs e
 | false=>
 rw [hb,cond_false] at e;split at e
 .rename_i cs hi;obtain⟨b,arr,t,h1,h2,h3,R,h5⟩:=hs.af i _ hi;have S:∀{bb:Bool},h new=none->∀u,aA w (AA c w O) (.aJ bb) u->cT w (AA c w O) (aE ρ new (some u)) O new (.sl false sz bb []):=
   λ_ u hu=>⟨u,aF _ _ _,NJ hu,by simp⟩
  split at e
  .simp only [Uh] at e;subst e;exact⟨ρ,O,Le.refl,hs⟩
  .rename_i bb d;exact yN f hs hi S (.inl d) e
  .rename_i z d;exact yN f hs hi S (.inr ⟨z,d,rfl⟩) e
  .rename_i j sz' n d;split at e
   .rename_i sz'' bb xs g;split at e
    .rename_i C;obtain⟨rfl,rfl,T⟩:=C;cases r:h new with
     | some x=>rw [r] at e;simp at e
     | none=>
      rw [r] at e;simp only [Yr,cond_true,Uh] at e;subst e;obtain⟨u,g1,Q⟩:=R.get d;obtain⟨n1,n2⟩:=hs.cB new f r;have W:i≠new:=λe=>by rw [e,r] at hi;cases hi
      have X:j≠new:=λe=>by rw [e,r] at g;cases g
      obtain⟨v,N,⟨a,cap,rfl,f2,f3,_,I⟩,_⟩:=hs.af j _ g;simp only [ao] at Q;obtain⟨a1,L,Z,p,H,e2,e3,rfl,K⟩:=Q;rw [N] at H;simp only [Uh,VH] at H;obtain⟨rfl,rfl,rfl⟩:=H;have y:(xs.take n).length=n:=by rw [Vd];omega
      have ha:p=none↔a=none:=by
       rcases K with⟨_,rfl⟩ | ⟨_,h,_⟩ | ⟨_,_,rfl,rfl⟩
       .exact Yk
       .exact h
       .simp
      have le:Le w ρ O w (aE ρ new (some (.slice p n (cap - 0)))) (aE (aE O j none) new (O j)):=by
       refine⟨rfl,rfl,rfl,UC _,λk v d=> ?_,λ_ _ _=>rfl,λk b d=> ?_⟩
       .by_cases e:k=new
        .subst e;rw [n1] at d;cases d
        .rw [ar _ _ e];exact d
       .by_cases e:k=new
        .subst e;rw [aF] at d;exact .inl ⟨j,d⟩
        .rw [ar _ _ e] at d;by_cases e2:k=j
         .subst e2;rw [aF] at d;cases d
         .rw [ar _ _ e2] at d;exact .inl ⟨k,d⟩
      have q:∀k b,aE (aE O j none) new (O j) k=some b->(k=new/\O j=some b)\/(k≠new/\k≠j/\O k=some b):=by
       intro k b d;by_cases e:k=new
       .subst e;rw [aF] at d;exact .inl ⟨rfl,d⟩
       .rw [ar _ _ e] at d;by_cases e2:k=j
        .subst e2;rw [aF] at d;cases d
        .rw [ar _ _ e2] at d;exact .inr ⟨e,e2,d⟩
      refine⟨_,_,le, ?_⟩;rw [de,de,eK];have Y:=hs.real (i:=i) (by rw [hi];simp);have F:=hs.real (i:=j) (by rw [g];simp);have gk:GK w ρ O w (aE ρ new (some (.slice p n (cap - 0)))) (aE (aE O j none) new (O j)):=λk m=>⟨ar _ _ (aP f),by rw [ar _ _ (aP f),ar _ _ (aP F)],λ_ _=>rfl⟩;refine hs.go le gk (λk x d=> ?_) (λk V d=> ?_) (λk d=> ?_) (λk m=>by rw [ar _ _ (aP Y),ar _ _ (aP f),ar _ _ (aP F)];exact hs.ez k m) (λk J b d U=> ?_) (λk b d=> ?_)
      .by_cases e:k=i
       .subst e;rw [aF] at d;cases d;right;refine⟨b,arr,t,le.eQ _ _ h1,by rw [ar _ _ W,ar _ _ (Yl T)];exact h2,h3,aC.set (aC.mono (λb hb=>le.A b hb) le.eQ _ _ R) g1 ?_,h5⟩;simp only [ao];exact aF _ _ _
       .rw [ar _ _ e] at d;by_cases e2:k=new
        .subst e2;rw [aF] at d;cases d;right;refine⟨_,aF _ _ _,⟨p,cap,by rw [y];rfl,by rw [y];omega,by rw [ha];exact f3,trivial, ?_⟩,by simp⟩;rcases I with I | ⟨af,off,G,t',q1,B,q3,q4,q5⟩
         .exact .inl I
         .by_cases E:cap=0
          .exact .inl E
          .right;subst q1;have:p=some ⟨af,off,none⟩:=by
            rcases K with⟨_,rfl⟩ | ⟨h,_⟩ | ⟨b',o,M,rfl⟩
            .rfl
            .exact absurd h.symm E
            .simp only [Uh,Vt] at M;obtain⟨rfl,rfl,_⟩:=M;simp
           refine⟨af,off,G,t',this, ?_,q3,q4,(aX.nE (λb hb=>le.A b hb) af _ rfl off xs q5).take n⟩;simp only [UM,if_false] at B⊢;rw [aF];exact B
        .rw [ar _ _ e2] at d;by_cases e3:k=j
         .subst e3;rw [aF] at d;cases d;exact .inr ⟨⟨_,le.eQ _ _ N,rfl,rfl⟩,by rw [ar _ _ X,aF]⟩
         .rw [ar _ _ e3] at d;exact .inl ⟨d,by rw [ar _ _ e2,ar _ _ e3],λ_ _=>rfl⟩
      .by_cases e:k=i
       .subst e;rw [aF] at d;cases d
       .rw [ar _ _ e] at d;by_cases e2:k=new
        .subst e2;rw [aF] at d;cases d
        .rw [ar _ _ e2] at d;by_cases e3:k=j
         .subst e3;rw [aF] at d;cases d
         .rw [ar _ _ e3] at d;rw [ar _ _ e2,ar _ _ e2,ar _ _ e3];exact hs.cB k V d
      .by_cases e:k=i
       .subst e;rw [aF] at d;cases d
       .rw [ar _ _ e] at d;by_cases e2:k=new
        .subst e2;rw [aF] at d;cases d
        .rw [ar _ _ e2] at d;by_cases e3:k=j
         .subst e3;rw [aF] at d;cases d
         .rw [ar _ _ e3] at d;exact d
      .rcases q k b d with⟨rfl,l⟩ | ⟨p0,l,D⟩ <;> rcases q J b U with⟨rfl,q1⟩ | ⟨q0,q1,B⟩
       .rfl
       .exact(q1 (hs.inj J j b B l)).elim
       .exact(l (hs.inj k j b D q1)).elim
       .exact hs.inj k J b D B
      .rcases q k b d with⟨rfl,l⟩ | ⟨p0,l,D⟩
       .exact hs.lt j b l
       .exact hs.lt k b D
    .simp at e
   .simp at e
  .simp at e
 .simp at e
theorem RB{new i x:Id}{k sz aD rsz:Nat}{us:aH}(e:sP h new i k sz aD rsz=some us)(a:h x=none)(j:x≠new):aK h us x=none:=by
 unfold sP at e;split at e
 .rename_i cs hi;have g:x≠i:=λe=>by rw [e,hi] at a;cases a
  have d:∀{b:Bool},(cond (h new).isNone (some [(new,ab.rows b sz aD rsz 0 []),(i,ab.box (cs.set k (.own new)))]) none)=some us->aK h us x=none:=by
   intro b e;cases f:(h new).isNone with
   | false=>rw [f] at e;simp at e
   | true=>rw [f] at e;simp only [cond_true,Uh] at e;subst e;rw [de,eK,ar _ _ g,ar _ _ j];exact a
  split at e
  .simp only [Uh] at e;subst e;exact a
  .exact d e
  .exact d e
  .simp at e
 .simp at e
theorem Q7{new i x:Id}{k sz:Nat}{us:aH}(e:o7 h new i k sz=some us)(a:h x=none)(l:x≠new):aK h us x=none:=by
 unfold o7 at e;cases hb:Nat.ble 100000 sz with
 | true=>rw [hb] at e;exact RB e a l
 | false=>
 rw [hb,cond_false] at e;split at e
 .rename_i cs hi;have g:x≠i:=λe=>by rw [e,hi] at a;cases a
  have f:∀{b:Bool},(cond (h new).isNone (some [(new,ab.sl false sz b []),(i,ab.box (cs.set k (.own new)))]) none)=some us->aK h us x=none:=by
   intro b e;cases d:(h new).isNone with
   | false=>rw [d] at e;simp at e
   | true=>rw [d] at e;simp only [cond_true,Uh] at e;subst e;rw [de,eK,ar _ _ g,ar _ _ l];exact a
  split at e
  .simp only [Uh] at e;subst e;exact a
  .exact f e
  .exact f e
  .rename_i j q n r;split at e
   .rename_i p bb xs m;have o:x≠j:=λe=>by rw [e,m] at a;cases a
    split at e
    .cases d:(h new).isNone with
     | false=>rw [d] at e;simp at e
     | true=>rw [d] at e;simp only [cond_true,Uh] at e;subst e;rw [de,de,eK,ar _ _ g,ar _ _ l,ar _ _ o];exact a
    .simp at e
   .simp at e
  .simp at e
 .simp at e
theorem C1{n:Nat}:∀{l:List (Id×Nat×Nat)} {j:Nat} {h:Id->Option ab} {ρ:Id->Option Value} {O:Id->Option Nat} {us:aH},HS c w h ρ O->kB n j h l=some us->∃ρ' O',Le w ρ O w ρ' O'/\HS c w (aK h us) ρ' O'
 | [],j,h,ρ,O,us,hs,e=>by simp only [kB,Uh] at e;subst e;exact⟨ρ,O,Le.refl,hs⟩
 | (i,k,sz)::l,j,h,ρ,O,us,hs,e=>by simp only [kB] at e;obtain⟨q,m,e⟩:=Ui.1 e;obtain⟨r,e2,e⟩:=Ui.1 e;simp only [Uh] at e;subst e;obtain⟨o,p,cA,a⟩:=Q8 rfl hs m;obtain⟨f,g,d,b⟩:=C1 a e2;exact⟨f,g,cA.trans d,by rw [mw];exact b⟩
theorem Jj{d:Nat}{x:Id}(b:∀k,x≠ .s d k):∀{l:List (Id×Nat×Nat)} {j:Nat} {h:Id->Option ab} {us:aH},kB d j h l=some us->h x=none->aK h us x=none
 | [],j,h,us,e,a=>by simp only [kB,Uh] at e;subst e;exact a
 | (i,k,sz)::l,j,h,us,e,a=>by simp only [kB] at e;obtain⟨g,f,e⟩:=Ui.1 e;obtain⟨m,e2,e⟩:=Ui.1 e;simp only [Uh] at e;subst e;rw [mw];exact Jj b e2 (Q7 f a (b j))
end
open Go
section
variable {P:Program} {w w':World} {A A':Nat->Prop} {c:Ctx} {ρ:Id->Option Value} {O:Id->Option Nat} {s:St} {cc:Option Bool} {h:Id->Option ab}
theorem zu{k:Ck}{x:T}(a:dQ k x=true):aA w A x (dI x):=by cases x <;> cases k <;> simp_all [dQ,aA,dI]
theorem CV:∀{ks:List Ck} {xs:List T},bY ks xs=true->aQ w A xs (xs.map dI)
 | [],[],_=>rfl
 | k::ks,x::xs,a=>by simp only [bY,Un] at a;exact⟨_,_,rfl,zu a.1,CV a.2⟩
 | [],_::_,a=>by simp [bY] at a
 | _::_,[],a=>by simp [bY] at a
theorem CU:∀{ks:List Ck} {xs:List T},bY ks xs=true->xs.length=ks.length
 | [],[],_=>rfl
 | k::ks,x::xs,a=>by simp only [bY,Un] at a;simp [CU a.2]
 | [],_::_,a=>by simp [bY] at a
 | _::_,[],a=>by simp [bY] at a
theorem zY{R:Type}{k:Ck}{x:T}{v:Value}{K:T->Option R}{r:R}(e:cc=none\/cc=some true)(hs:mR k=true)(a:aA w A x v)(h:fm k cc x K=some r):
  ∃y,K y=some r/\dQ k y=true/\v=dI y:=by
 unfold fm at h;cases k with
 | i k=>simp only at h;replace h:=aO h e;obtain⟨n,d,h⟩:=h;rw [T.gw d] at a;exact⟨_,h,by simp [dQ],by simpa [aA,dI] using a⟩
 | b=>simp only at h;replace h:=aO h e;obtain⟨n,d,h⟩:=h;rw [T.ja d] at a;exact⟨_,h,by simp [dQ],by simpa [aA,dI] using a⟩
 | s=>simp only at h;replace h:=aO h e;obtain⟨n,d,h⟩:=h;rw [T.kK d] at a;exact⟨_,h,by simp [dQ],by simpa [aA,dI] using a⟩
 | l _=>simp [mR] at hs
 | x=>simp [mR] at hs
theorem DU{R:Type}(e:cc=none\/cc=some true):∀{ks:List Ck} {xs:List T} {vs:List Value} {K:List T->Option R} {r:R},ks.all mR=true->xs.length=ks.length->aQ w A xs vs->eY cc ks xs K=some r->
  ∃d,K d=some r/\bY ks d=true/\vs=d.map dI
 | [],[],vs,K,r,_,_,b,h=>⟨[],h,rfl,by simpa [aQ] using b⟩
 | [],_::_,vs,K,r,_,a,b,h=>by simp at a
 | _::_,[],vs,K,r,_,a,b,h=>by simp at a
 | k::ks,x::xs,vs,K,r,hs,a,b,h=>by obtain⟨v,q,rfl,h1,l⟩:=b;simp only [VZ,Un] at hs;simp only [eY] at h;obtain⟨y,h,f,g⟩:=zY e hs.1 h1 h;obtain⟨d,h,i,j⟩:=DU e hs.2 (by simpa using a) l h;exact⟨y::d,h,by simp [bY,f,i],by rw [g,j];rfl⟩
theorem H7{k:TypeId}{q:Bool×List Ck}(h:kY P k=some q):q.2.all mR=true/\(q.1=false->q.2.length=1):=by
 unfold kY at h;split at h
 .simp only [Uh] at h;subst h;simp [mR]
 .simp only [Uh] at h;subst h;simp [mR]
 .split at h
  .split at h
   .simp only [Uh] at h;subst h;refine⟨?_,by simp⟩;rw [UD];intro b a;rw [VO a];rfl
   .cases h
  .cases h
 .cases h
theorem Ct{R:Type}{k:TypeId}{v:AV}{u:Value}{K:Bool->List Ck->List T->Option R}{r:R}(i:cc=none\/cc=some true)(hv:ao w A ρ v u)(h:oS P k cc v K=some r):
  ∃ag ks cs,K ag ks cs=some r/\kY P k=some (ag,ks)/\bY ks cs=true/\u=cY ag cs:=by
 unfold oS at h;obtain⟨q,f,h⟩:=Ui.1 h;obtain⟨q1,j⟩:=q;have a:=H7 f;simp only at h a;split at h
 .rename_i x _;obtain⟨g,h,b,d⟩:=DU (vs:= [u]) i a.1 (by simpa using (a.2 rfl).symm) (show aQ w A [x] [u] from⟨u,[],rfl,by simpa [ao] using hv,rfl⟩) h;refine⟨false,j,g,h,f,b, ?_⟩;unfold cY;rw [<-d];rfl
 .rename_i vs _;obtain⟨l,m,h⟩:=Ui.1 h;split at h
  .rename_i e;simp only [ao] at hv;obtain⟨o,rfl,h1,n⟩:=hv;obtain⟨g,h,b,d⟩:=DU i a.1 e (aQ.l7 m h1) h;refine⟨true,j,g,h,f,b, ?_⟩;unfold cY;rw [d];rfl
  .cases h
 .cases h
theorem LU{a b:ByteArray}(e:(a==b)=true):a=b:=by
 cases a with
 | mk x=>cases b with
  | mk y=>have e':(x==y)=true:=e;rw [eq_of_beq e']
theorem OC{k:Ck}{x y:T}(a:dQ k x=true)(hy:dQ k y=true)(e:nq x y=true):x=y:=by
 cases x <;> cases k <;> simp [dQ] at a <;> cases y <;> simp [dQ] at hy <;> simp [nq] at e
 .subst a;subst hy;subst e;rfl
 .subst e;rfl
 .rw [LU e]
theorem He:∀{ks:List Ck} {xs b:List T},bY ks xs=true->bY ks b=true->ei xs b=true->xs=b
 | [],[],[],_,_,_=>rfl
 | k::ks,x::xs,y::b,a,hy,e=>by simp only [bY,Un] at a hy;simp only [ei,Un] at e;rw [OC a.1 hy.1 e.1,He a.2 hy.2 e.2]
 | [],_::_,_,a,_,_=>by simp [bY] at a
 | [],[],_::_,_,hy,_=>by simp [bY] at hy
 | _::_,[],_,a,_,_=>by simp [bY] at a
 | _::_,_::_,[],_,hy,_=>by simp [bY] at hy
theorem Oz{t:TypeId}{i:IntKind}(b:P.underlying t=some (.int i)){x y:T}(a:dQ (.i i) x=true)(hy:dQ (.i i) y=true){R:Type}(K:Bool->Option R):lV P none t x y K=K (nq x y):=by cases x <;> simp [dQ] at a;cases y <;> simp [dQ] at hy;subst a;subst hy;simp [lV,b,ae,T.int?,nq]
theorem Hb{e:TypeId}{i:IntKind}(d:P.underlying e=some (.int i)){R:Type}:∀(n:Nat) (xs b:List T) (K:Bool->Option R),bY (List.replicate n (.i i)) xs=true->bY (List.replicate n (.i i)) b=true->eH P none (List.replicate n e) xs b K=K (ei xs b)
 | 0,[],[],K,_,_=>rfl
 | n+1,x::xs,y::b,K,a,hy=>by simp only [U7,bY,Un] at a hy;simp only [U7,eH,ei];rw [Oz d a.1 hy.1,Hb d n xs b _ a.2 hy.2]
 | 0,_::_,_,_,a,_=>by simp [bY] at a
 | 0,[],_::_,_,_,hy=>by simp [bY] at hy
 | n+1,[],_,_,a,_=>by simp [U7,bY] at a
 | n+1,_::_,[],_,_,hy=>by simp [U7,bY] at hy
theorem uN{ag:Bool}{ks:List Ck}{cs:List T}(b:ag=false->ks.length=1)(h:bY ks cs=true)(a:ag=false):∃x,cs= [x]/\cY ag cs=dI x:=by have d:=CU h;rw [b a] at d;obtain⟨x,rfl⟩:=List.length_eq_one_iff.1 d;exact⟨x,rfl,by rw [a];rfl⟩
theorem OE{k:TypeId}{ag:Bool}{ks:List Ck}(f:kY P k=some (ag,ks)){a b:List T}(g:bY ks a=true)(hb:bY ks b=true)(w:World):
  (Op.equal k (cY ag a) (cY ag b)).run P w= .ok (ei a b) w:=by
 unfold kY at f;split at f
 .rename_i i j;simp only [Uh,Vn] at f;obtain⟨rfl,rfl⟩:=f;obtain⟨x,rfl,o⟩:=uN (ag:=false) (by simp) g rfl;obtain⟨y,rfl,r⟩:=uN (ag:=false) (by simp) hb rfl;rw [o,r];simp only [bY,Xl] at g hb;have key:∀d (p q:Int),(Op.equalIn (d+1) k (.int i p) (.int i q)).run P w= .ok (p==q) w:=λd p q=>by simp [Op.equalIn,run_underlying j]
  cases x <;> simp [dQ] at g;cases y <;> simp [dQ] at hb;rename_i D q1;subst g;subst hb;rw [show ∀a b:T,ei [a] [b]=nq a b from λa b=>by simp [ei]];exact key 9999 _ _
 .rename_i j;simp only [Uh,Vn] at f;obtain⟨rfl,rfl⟩:=f;obtain⟨x,rfl,o⟩:=uN (ag:=false) (by simp) g rfl;obtain⟨y,rfl,r⟩:=uN (ag:=false) (by simp) hb rfl;rw [o,r];simp only [bY,Xl] at g hb;cases x <;> simp [dQ] at g;cases y <;> simp [dQ] at hb;rename_i p q;have:∀d,(Op.equalIn (d+1) k (.string p) (.string q)).run P w= .ok (p==q) w:=λd=>by simp [Op.equalIn,run_underlying j]
  rw [show ∀a b:T,ei [a] [b]=nq a b from λa b=>by simp [ei]];exact this 9999
 .rename_i n e j;split at f
  .rename_i i l;split at f
   .rename_i m;simp only [Uh,Vn] at f;obtain⟨rfl,rfl⟩:=f;have B:fF P 7 e=some [e]:=by simp [fF,l]
    have z:fF P 8 k=some (List.replicate n e):=by
     simp only [fF,j,l,Ut,List.length_singleton,m.1,if_true];congr 1;induction n with
     | zero=>rfl
     | succ n C=>simp [U7]
    obtain⟨bb,t,v⟩:=B5 (P:=P) (w:=w) (A:=λ_=>True) 8 k _ z 10000 (by omega) Bool none (.inl rfl) a b (a.map dI) (b.map dI) (λb=>some b) _ (CV g) (CV hb) (Hb l n a b _ g hb);have u:bh P k=true:=by simp [bh,j]
    simp only [Uh] at t;subst t;simpa [kL,u,cY,Op.equal,Op.maxDepth] using v
   .cases f
  .cases f
 .cases f
theorem yH{k:TypeId}{ag:Bool}{ks:List Ck}(t:kY P k=some (ag,ks)){a:List T}(o:bY ks a=true)(w:World):∀(b:List MapEntry) (es:List (List T×T)) (j:Nat),b.map (λe=>(e.key,e.val))=es.map (λp=>(cY ag p.1,dI p.2))->(∀p∈es,bY ks p.1=true)->
  ((Instr.findAsking k (cY ag a) b j).run P w= .ok none w/\fy a es=none)\/∃i x e p,(Instr.findAsking k (cY ag a) b j).run P w= .ok (some (j+i,dI x)) w/\fy a es=some x/\b[i]? =some e/\es[i]? =some p/\ei a p.1=true/\(∀i' g,i' < i->es[i']? =some g->ei a g.1=false)
 | [],[],j,_,_=> .inl ⟨by simp [Instr.findAsking],rfl⟩
 | [],_::_,j,h,_=>by simp at h
 | _::_,[],j,h,_=>by simp at h
 | e::b,(q,x)::es,j,h,l=>by
  simp only [U5,V6,Vn] at h;obtain⟨⟨h1,D⟩,E⟩:=h;have d:=OE t o (l _ Uk) w;simp only at d;cases hb:ei a q
  .rw [hb] at d;rcases yH t o w b es (j+1) E (λp F=>l p (Um _ F)) with⟨m,n⟩ | ⟨i,y,e',g,m,n,v,z,B,C⟩
   .exact .inl ⟨by simp [Instr.findAsking,h1,d,m],by simp [fy,hb,n]⟩
   .refine .inr ⟨i+1,y,e',g,by simp [Instr.findAsking,h1,d,m];omega,by simp [fy,hb,n],by simpa using v,by simpa using z,B, ?_⟩;intro i' u r f;cases i' with
    | zero=>simp at f;subst f;exact hb
    | succ i'=>exact C i' u (by omega) (by simpa using f)
  .rw [hb] at d;exact .inr ⟨0,x,e,(q,x),by simp [Instr.findAsking,h1,d,D],by simp [fy,hb],rfl,rfl,hb,λi' _ r=>by omega⟩
theorem JJ{f:Nat->Sem Unit}:∀(l:List Nat),(∀i∈l,(f i).run P w= .ok () w)->(forIn l PUnit.unit λi _=>do f i;pure (ForInStep.yield PUnit.unit)).run P w= .ok PUnit.unit w
 | [],_=>by simp
 | i::l,h=>by simp only [List.forIn_cons,UI,h i Uk,Uu,US];have:=JJ (f:=f) l λj a=>h j (Um _ a);simpa using this
theorem Bm{k:TypeId}{ag:Bool}{ks:List Ck}(f:kY P k=some (ag,ks)){a:List T}(q:bY ks a=true)(em:Bool)(w:World):
  (Instr.checkKey em 10000 k (cY ag a)).run P w= .ok () w:=by
 unfold kY at f;split at f
 .rename_i i g;have:∀d,(Instr.checkKey em (d+1) k (cY ag a)).run P w= .ok () w:=λd=>by simp [Instr.checkKey,run_underlying g]
  exact this 9999
 .rename_i g;have:∀d,(Instr.checkKey em (d+1) k (cY ag a)).run P w= .ok () w:=λd=>by simp [Instr.checkKey,run_underlying g]
  exact this 9999
 .rename_i n e g;split at f
  .rename_i i l;split at f
   .rename_i b;simp only [Uh,Vn] at f;obtain⟨rfl,rfl⟩:=f;have m:bR P e=true:=by simp [bR,l]
    have u:bh P e=false:=by simp [bh,l]
    have p:=CU q;rw [We] at p;have one:∀d v,(Instr.checkKey em (d+1) e v).run P w= .ok () w:=λd v=>by simp [Instr.checkKey,run_underlying l]
    have t:∀d,∀j∈List.range' 0 n 1,(do Instr.checkKey em (d+1) e (<-part e (a.map dI).toArray (j * (<-sizeOf e)))).run P w= .ok () w:=by
     intro d j o;have o:j < n:=by simpa using o
     have:=vG (P:=P) m (a.map dI).toArray (j * 1) (λ_=>b.1) (by simp [b.1,p];omega) w;simp only [UI,ju m,Uu,b.1,this,one d]
    have r:∀d,(Instr.checkKey em (d+2) k (cY true a)).run P w= .ok () w:=by intro d;have:=JJ (P:=P) (w:=w) _ (t d);rw [Instr.checkKey];simp only [cY,cond_true,UI,run_underlying g,Uu];simp only [Std.Legacy.Range.forIn_eq_forIn_range',Std.Legacy.Range.size,Vv,Nat.add_one_sub_one,Nat.div_one];simp at this;simp [this]
    exact r 9998
   .cases f
  .cases f
 .cases f
theorem Hl{f:TypeId}{d:TypeDesc}(a:P.underlying f=some d)(k:Value):∀(es:List MapEntry) (j:Nat) (r:Option (Nat×Value)),Instr.findNow d k es j=some r->(Instr.findAsking f k es j).run P w= .ok r w
 | [],j,r,h=>by simp [Instr.findNow] at h;subst h;simp [Instr.findAsking]
 | e::es,j,r,h=>by
  have key:∀b,Instr.sameNow d k e.key=some b->(Op.equal f k e.key).run P w= .ok b w:=by
   intro b hb;generalize e.key=g at hb⊢;have:∀n,(Op.equalIn (n+1) f k g).run P w= .ok b w:=by
    intro n;unfold Instr.sameNow at hb;split at hb
    .split at hb
     .rename_i h1;simp only [Uh] at hb;subst hb;subst h1;simp [Op.equalIn,run_underlying a]
     .cases hb
    .simp only [Uh] at hb;subst hb;simp [Op.equalIn,run_underlying a]
    .simp only [Uh] at hb;subst hb;simp [Op.equalIn,run_underlying a]
    .cases hb
   exact this 9999
  simp only [Instr.findNow] at h;split at h
  .rename_i hb;simp only [Uh] at h;subst h;simp [Instr.findAsking,key _ hb]
  .rename_i hb;simp [Instr.findAsking,key _ hb,Hl a k es (j+1) r h]
  .cases h
theorem r6{a:TypeId}{d:TypeDesc}(b:P.underlying a=some d)(k:Value)(es:List MapEntry)(r:Option (Nat×Value))(h:(Instr.findAsking a k es 0).run P w= .ok r w):(Instr.findKey a k es).run P w= .ok r w:=by
 unfold Instr.findKey;simp only [UI,run_underlying b,Uu];cases e:Instr.findNow d k es 0 with
 | none=>simpa using h
 | some f=>have:=Hl (w:=w) b k es 0 f e;rw [this] at h;simpa using h
theorem Cu{k:TypeId}{q:Bool×List Ck}(h:kY P k=some q):∃d,P.underlying k=some d:=by
 unfold kY at h;split at h
 .exact⟨_,by assumption⟩
 .exact⟨_,by assumption⟩
 .exact⟨_,by assumption⟩
 .cases h
theorem CA{t:TypeId}{q:TypeId×TypeId}(h:sB P t=some q):P.underlying t=some (.map q.1 q.2):=by
 unfold sB at h;split at h
 .rename_i k e b;cases a:bR P k && bR P e
  .simp [a] at h
  .simp only [a,cond_true,Uh] at h;subst h;exact b
 .cases h
theorem Ud{t:TypeId}{z:T}(h:D5 P t=some z):∃v,(zeroValue t).run P w= .ok v w/\aA w A z v:=by
 unfold D5 at h;split at h
 .rename_i i hi;split at h
  .rename_i v hv;refine⟨v, ?_,IZ h⟩;simp [zeroValue,typeInfo,run_program,hi,hv]
  .cases h
 .cases h
theorem CG{i:Id}{ag:Bool}{ks:List Ck}{vk:Ck}{es:List (List T×T)}(hs:HS c w s.h ρ O)(hi:s.h i=some (.mp ag ks vk es)):∃b d a,ρ i=some (.map (some b))/\O i=some b/\w.heap[b]? =some (.map d a)/\
   d.toList.map (λe=>(e.key,e.val))=es.map (λp=>(cY ag p.1,dI p.2))/\(∀p∈es,bY ks p.1=true/\dQ vk p.2=true):=by
 obtain⟨b,d,a,h1,f,g,j,k⟩:=hs.af i _ hi;exact⟨b,d,a,h1,f,g,j,λp l=>by simpa using UD.1 k p l⟩
theorem Hk{a:List T}:∀{es:List (List T×T)} {x:T},fy a es=some x->∃p∈es,p.2=x
 | [],x,h=>by simp [fy] at h
 | (k,v)::r,x,h=>by
  simp only [fy] at h;cases hb:ei a k
  .rw [hb,cond_false] at h;obtain⟨p,b,e⟩:=Hk h;exact⟨p,Um _ b,e⟩
  .rw [hb,cond_true] at h;simp only [Uh] at h;exact⟨_,Uk,h⟩
theorem PX{R:Type}{t:TypeId}{x key:AV}{ok:Bool}{S vk:Value}{K:AV->Option R}{r:R}(hs:HS c w s.h ρ O)(m:ao w (AA c w O) ρ x S)(F:ao w (AA c w O) ρ key vk)(E:cc=none\/cc=some true)
  (h:nC P s cc t x key ok K=some r):∃av v,K av=some r/\(Instr.lookup t S vk ok).run P w= .ok v w/\ao w (AA c w O) ρ av v:=by
 unfold nC at h;obtain⟨q,Y,h⟩:=Ui.1 h;obtain⟨z,hz,h⟩:=Ui.1 h;obtain⟨ag,ks,cs,h,g,o,rfl⟩:=Ct E F h;split at h
 .rename_i i;split at h
  .rename_i ag' ks' Q es hi;split at h
   .rename_i l;obtain⟨rfl,rfl,hvk,B,_⟩:=l;obtain⟨b,a,T,V,g2,G,W,H⟩:=CG hs hi;simp only [ao] at m;rw [V] at m;simp only [Uh] at m;subst m;obtain⟨zv,M,N⟩:=Ud (w:=w) (A:=AA c w O) hz;obtain⟨d,I⟩:=Cu g;have L:=CA Y;have n:=Bm g o a.isEmpty w;rcases yH g o w a.toList es 0 W (λp X=>(H p X).1) with⟨D,k⟩ | ⟨j,y,e,p,D,k,f3,f4,f5,f6⟩
    .have f:=r6 I _ _ _ D;rw [k] at h;simp only [Va,Ys] at h;obtain⟨u,h,C,e2⟩:=zY E B N h;refine⟨_,cond ok (.tuple #[zv, .bool false]) zv,h, ?_, ?_⟩
     .cases ok <;> simp [Instr.lookup,run_underlying L,WG G,n,f,M]
     .have:aA w (AA c w O) u zv:=by rw [e2];exact zu C
      cases ok
      .simpa [ao] using this
      .simp only [cond_true,ao];exact⟨[zv, .bool false],rfl,by simp only [aC,ao];exact⟨zv,[.bool false],rfl,this, .bool false,[],rfl,by simp [aA],rfl⟩⟩
    .have f:=r6 I _ _ _ D;rw [k] at h;simp only [UK,Yt] at h;obtain⟨Z,J,U⟩:=Hk k;have hy:dQ Q y=true:=by rw [<-U];exact(H Z J).2
     obtain⟨u,h,C,e2⟩:=zY E B (zu (w:=w) (A:=AA c w O) hy) h;refine⟨_,cond ok (.tuple #[dI y, .bool true]) (dI y),h, ?_, ?_⟩
     .cases ok <;> simp [Instr.lookup,run_underlying L,WG G,n,f]
     .have:aA w (AA c w O) u (dI y):=by rw [e2];exact zu C
      cases ok
      .simpa [ao] using this
      .simp only [cond_true,ao];exact⟨[dI y, .bool true],rfl,by simp only [aC,ao];exact⟨dI y,[.bool true],rfl,this, .bool true,[],rfl,by simp [aA],rfl⟩⟩
   .cases h
  .cases h
 .cases h
theorem LV(a:ByteArray):(a==a)=true:=by
 cases a with
 | mk x=>show(x==x)=true;simp
theorem Kb{k:Ck}{x:T}(h:dQ k x=true)(n:Nat):Instr.sameBits n (dI x) (dI x)=true:=by cases x <;> cases k <;> simp [dQ] at h <;> cases n <;> simp [Instr.sameBits,dI,LV]
theorem Sg{ag:Bool}{ks:List Ck}(a:ag=false->ks.length=1){cs:List T}(h:bY ks cs=true)(n:Nat):Instr.sameBits (n+1) (cY ag cs) (cY ag cs)=true:=by
 cases ag with
 | false=>
  obtain⟨x,rfl,e⟩:=uN a h rfl;rw [e];cases ks with
  | nil=>simp [bY] at h
  | cons k ks=>simp only [bY,Un] at h;exact Kb h.1 _
 | true=>
  simp only [cY,cond_true,Instr.sameBits,beq_self_eq_true,VU];clear a;induction ks generalizing cs with
  | nil=>cases cs with
   | nil=>rfl
   | cons x cs=>simp [bY] at h
  | cons k ks b=>cases cs with
   | nil=>simp [bY] at h
   | cons x cs=>simp only [bY,Un] at h;have:=b h.2;simp only [U5,List.zip_cons_cons,VZ,Kb h.1,VU];simpa using this
theorem SD{ag:Bool}{ks:List Ck}(a:ag=false->ks.length=1){cs:List T}(h:bY ks cs=true):(Instr.keyThatStays (cY ag cs) (cY ag cs)).run P w= .ok (cY ag cs) w:=by unfold Instr.keyThatStays;have:Instr.sameBits 10000 (cY ag cs) (cY ag cs)=true:=Sg a h 9999;simp [this]
theorem Ju{a:List T}{v:T}:∀{es:List (List T×T)},fy a es=none->gY a v es=es++ [(a,v)]
 | [],_=>rfl
 | (k,x)::r,h=>by
  simp only [fy] at h;cases hb:ei a k
  .rw [hb,cond_false] at h;simp [gY,hb,Ju h]
  .simp [hb] at h
theorem Jv{a:List T}{v:T}:∀{es:List (List T×T)} {i:Nat} {p:List T×T},es[i]? =some p->ei a p.1=true->(∀i' b,i' < i->es[i']? =some b->ei a b.1=false)->gY a v es=es.set i (a,v)
 | [],i,p,h,_,_=>by simp at h
 | (k,x)::r,0,p,h,h1,_=>by simp at h;subst h;simp only at h1;simp [gY,h1]
 | (k,x)::r,i+1,p,h,h1,d=>by have hb:ei a k=false:=d 0 (k,x) (by omega) rfl;have:=Jv (v:=v) (es:=r) (i:=i) (p:=p) (by simpa using h) h1 λi' b hi e=>d (i'+1) b (by omega) (by simpa using e);simp [gY,hb,this]
theorem C5{ks:List Ck}{vk:Ck}{a:List T}{v:T}(d:bY ks a=true)(hv:dQ vk v=true):∀{es:List (List T×T)},(∀p∈es,bY ks p.1=true/\dQ vk p.2=true)->∀p∈gY a v es,bY ks p.1=true/\dQ vk p.2=true
 | [],_,p,b=>by simp [gY] at b;subst b;exact⟨d,hv⟩
 | (k,x)::r,h,p,b=>by
  simp only [gY] at b;cases hb:ei a k
  .rw [hb,cond_false] at b;rcases Uw.1 b with rfl | b
   .exact h _ Uk
   .exact C5 d hv (λq e=>h q (Um _ e)) p b
  .rw [hb,cond_true] at b;rcases Uw.1 b with rfl | b
   .exact⟨d,hv⟩
   .exact h p (Um _ b)
theorem HS.Ah{i:Id}{b:Nat}{f ents':Array MapEntry}{d clock':Nat}{ag:Bool}{ks:List Ck}{vk:Ck}{es':List (List T×T)}{j:Id->Option ab}(hs:HS c w j ρ O)(hi:j i≠none)
  (m:ρ i=some (.map (some b))) (g:O i=some b) (l:w.heap[b]? =some (.map f d)) (n:ents'.toList.map (λe=>(e.key,e.val))=es'.map (λp=>(cY ag p.1,dI p.2))) (o:∀p∈es',bY ks p.1=true/\dQ vk p.2=true):
  Le w ρ O {w with heap:=w.heap.setIfInBounds b (.map ents' clock')} ρ O/\HS c {w with heap:=w.heap.setIfInBounds b (.map ents' clock')} (aE j i (some (.mp ag ks vk es'))) ρ O:=by
 have a:∀k,k≠b->(w.heap.setIfInBounds b (.map ents' clock'))[k]? =w.heap[k]?:=λk q=>Go.ChangeMaps.heap_setBlock_other l _ q;have le:Le w ρ O {w with heap:=w.heap.setIfInBounds b (.map ents' clock')} ρ O:=Le.write g rfl rfl rfl (by simp) a;refine⟨le,hs.write g le a _ ?_ hi⟩;exact⟨b,ents',clock',m,g,Go.ChangeMaps.heap_setBlock_same l _,n,by rw [UD];exact λp r=>by simpa using o p r⟩
theorem Rh{R:Type}{t:TypeId}{x key v:AV}{vx vk vv:Value}{K:aH->Option R}{r:R}(hs:HS c w s.h ρ O)(F:ao w (AA c w O) ρ x vx)(Q:ao w (AA c w O) ρ key vk)(hv:ao w (AA c w O) ρ v vv)
  (h:nK P s t x key v K=some r):∃us w',K us=some r/\(Instr.mapUpdate t vx vk vv).run P w= .ok () w'/\Le w ρ O w' ρ O/\HS c w' (aK s.h us) ρ O:=by
 unfold nK at h;obtain⟨q,hq,h⟩:=Ui.1 h;obtain⟨ag,ks,cs,h,n,g,rfl⟩:=Ct (cc:=none) (.inl rfl) Q h;split at h
 .rename_i i;split at h
  .rename_i f I J es hi;split at h
   .rename_i E;obtain⟨rfl,rfl,hvk,hsc⟩:=E;obtain⟨y,hy,h⟩:=Ui.1 h;rw [AV.mo hy] at hv;simp only [ao] at hv;obtain⟨u,h,T,e2⟩:=zY (cc:=none) (.inl rfl) hsc hv h;obtain⟨b,a,l,N,X,o,C,D⟩:=CG hs hi;simp only [ao] at F;rw [N] at F;simp only [Uh] at F;subst F;obtain⟨d,Z⟩:=Cu n;have hu:=CA hq;have G:=Bm n g false w;have Y:=(H7 n).2;rcases yH n g w a.toList es 0 C (λp hp=>(D p hp).1) with⟨L,U⟩ | ⟨j,y',e,p,L,U,M,B,W,f6⟩
    .have m:=r6 Z _ _ _ L;obtain⟨le,z⟩:=HS.Ah (ag:=f) (ks:=I) (vk:=J) (es':=gY cs u es) (ents':=a.push {key:=cY f cs,val:=vv,born:=l}) (clock':=l+1) hs (by rw [hi];simp) N X o
      (by rw [Ju U];simp [C,e2]) (C5 g T D)
     refine⟨_,_,h, ?_,le,z⟩;simp [Instr.mapUpdate,run_underlying hu,WG o,G,m,Xp _ o]
    .have m:=r6 Z _ _ _ L;have hlt:j < es.length:=(Us.1 B).1;have hpk:p.1=cs:=(He g (D p (Uj B)).1 W).symm;have hek:e.key=cY f cs:=by
      have h1:(a.toList.map λe=>(e.key,e.val))[j]? =some (e.key,e.val):=by simp [U9,M]
      rw [C] at h1;simp only [U9,B,Wp,Uh,Vn] at h1;rw [<-h1.1,hpk]
     have S:(a.modify j λe=>{e with key:=cY f cs,val:=vv}).toList.map (λe=>(e.key,e.val))= (gY cs u es).map (λp=>(cY f p.1,dI p.2)):=by
      rw [Jv B W f6];refine WT λk=> ?_;have H:(a.toList.map λe=>(e.key,e.val))[k]? = (es.map λp=>(cY f p.1,dI p.2))[k]?:=by rw [C]
      simp only [U9,Array.toList_modify,List.getElem?_modify,VG] at H⊢;by_cases e0:j=k
      .subst e0;simp [M,hlt,e2]
      .simp only [e0,if_false];simpa using H
     obtain⟨le,z⟩:=HS.Ah (ag:=f) (ks:=I) (vk:=J) (es':=gY cs u es) (ents':=a.modify j λe=>{e with key:=cY f cs,val:=vv}) (clock':=l) hs (by rw [hi];simp) N X o S (C5 g T D);refine⟨_,_,h, ?_,le,z⟩;have hst:=SD (P:=P) (w:=w) Y g;have V:a[j]? =some e:=by simpa using M
     rw [UW] at m;simp [Instr.mapUpdate,run_underlying hu,WG o,G,m,V,hek,hst,Xp _ o]
   .cases h
  .cases h
 .cases h
theorem Fu{a:List T}:∀{es:List (List T×T)},fy a es=none->jf a es=es
 | [],_=>rfl
 | p::es,h=>by
  unfold fy at h;unfold jf;cases b:ei a p.1 with
  | true=>rw [b] at h;simp at h
  | false=>rw [b] at h;simp only [cond_false] at h⊢;rw [Fu h]
theorem Ft{a:List T}:∀{es:List (List T×T)} {i:Nat} {p:List T×T},es[i]? =some p->ei a p.1=true->(∀i' b,i' < i->es[i']? =some b->ei a b.1=false)->jf a es=es.eraseIdx i
 | [],_,_,h,_,_=>by simp at h
 | q::es,0,p,h,d,_=>by simp only [Wy,Uh] at h;subst h;simp [jf,d]
 | q::es,i+1,p,h,d,hb=>by have e:=hb 0 q (by omega) rfl;unfold jf;rw [e,cond_false,Ft (by simpa using h) d (λi' b hi f=>hb (i'+1) b (by omega) (by simpa using f))];rfl
theorem CB{a b:Type}(f:a->b):∀(l:List a) (i:Nat),(l.eraseIdx i).map f= (l.map f).eraseIdx i
 | [],_=>rfl
 | _::_,0=>rfl
 | x::l,i+1=>by simp only [List.eraseIdx_cons_succ,U5,CB f l i]
theorem Bs{a:List T}:∀{es:List (List T×T)},∀p∈jf a es,p∈es
 | [],p,h=>h
 | q::es,p,h=>by
  unfold jf at h;cases b:ei a q.1 with
  | true=>rw [b] at h;exact Um _ h
  | false=>
   rw [b] at h;rcases Uw.1 h with rfl | h
   .exact Uk
   .exact Um _ (Bs p h)
theorem Mp{R:Type}{t ty tr:TypeId}{x key:AV}{T vk:Value}{K:aH->Option R}{r:R}(hs:HS c w s.h ρ O)(v:ao w (AA c w O) ρ x T)(H:ao w (AA c w O) ρ key vk)
  (h:na P s t x key K=some r):∃us w',K us=some r/\(Builtin.delete_ #[t,ty] tr #[T,vk]).run P w= .ok (.tuple #[]) w'/\Le w ρ O w' ρ O/\HS c w' (aK s.h us) ρ O:=by
 unfold na at h;obtain⟨q,X,h⟩:=Ui.1 h;obtain⟨ag,ks,cs,h,l,B,rfl⟩:=Ct (cc:=none) (.inl rfl) H h;split at h
 .rename_i i;split at h
  .rename_i y C D es hi;split at h
   .rename_i u;obtain⟨rfl,rfl⟩:=u;obtain⟨b,a,f,F,L,k,o,G⟩:=CG hs hi;simp only [ao] at v;rw [F] at v;simp only [Uh] at v;subst v;obtain⟨d,M⟩:=Cu l;have S:=CA X;have z:=Bm l B a.isEmpty w;rcases yH l B w a.toList es 0 o (λp m=>(G p m).1) with⟨E,I⟩ | ⟨j,y',e,p,E,I,Y,J,U,V⟩
    .have g:=r6 M _ _ _ E;obtain⟨le,n⟩:=HS.Ah (ag:=y) (ks:=C) (vk:=D) (es':=jf cs es) (ents':=a) (clock':=f) hs (by rw [hi];simp) F L k (by rw [Fu I];exact o) (λp m=>G p (Bs p m));refine⟨_,_,h, ?_,le,n⟩;simp [Builtin.delete_,run_underlying S,WG k,z,g,Xp _ k]
    .have g:=r6 M _ _ _ E;have Q:j < es.length:=(Us.1 J).1;have N:a.toList.length=es.length:=by simpa using congrArg List.length o
     have W:j < a.size:=by rw [<-UP,N];exact Q
     obtain⟨le,n⟩:=HS.Ah (ag:=y) (ks:=C) (vk:=D) (es':=jf cs es) (ents':=a.eraseIdxIfInBounds j) (clock':=f) hs (by rw [hi];simp) F L k (by
       rw [Ft J U V,CB,<-o,<-CB];simp only [Array.eraseIdxIfInBounds,W,dif_pos,Array.toList_eraseIdx]) (λp m=>G p (Bs p m))
     refine⟨_,_,h, ?_,le,n⟩;rw [UW] at g;simp [Builtin.delete_,run_underlying S,WG k,z,g,Xp _ k]
   .cases h
  .cases h
 .cases h
theorem P5{R:Type}{d:Nat}{t:TypeId}{K:AV->aH->Option R}{r:R}(hs:HS c w s.h ρ O)(h:sA P d t K=some r):
  ∃v us,K v us=some r/\(jh d s.h us=true->∃u w' ρ' O',(Instr.makeMap t none).run P w= .ok u w'/\Le w ρ O w' ρ' O'/\HS c w' (aK s.h us) ρ' O'/\ao w' (AA c w' O') ρ' v u):=by
 unfold sA at h;obtain⟨q,g,h⟩:=Ui.1 h;obtain⟨p,f,h⟩:=Ui.1 h;split at h
 .rename_i e;refine⟨_,_,h,λa=> ?_⟩;have a:=kW a Uk;have le:=Le.alloc hs (i:= .s d 0) rfl a (.map #[] 0) (.map (some w.heap.size)) (some w.heap.size) (.inr rfl);have b:=hs.alloc (i:= .s d 0) rfl a (.map #[] 0) (.map (some w.heap.size)) (some w.heap.size) (.inr rfl) (.mp p.1 p.2 (lS P q.2) []) ⟨w.heap.size,#[],0,by simp,by simp,kX _,by simp,by simp⟩;refine⟨.map (some w.heap.size),_,_,_,rfl,le,by rw [eK];exact b, ?_⟩;simp only [ao];rw [aF]
 .cases h
end
end Go.Aev
