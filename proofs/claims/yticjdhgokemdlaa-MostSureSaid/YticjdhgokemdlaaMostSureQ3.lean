import Derived.Test.YticjdhgokemdlaaMostSureQ2
import Derived.MapKept
import Derived.ChangeMaps5
set_option linter.all false
namespace Go.Aev
open Go Go.IntKind
section
variable {P:Program} {w w':World} {A A':Nat->Prop} {c:Ctx} {ρ:Id->Option Value} {O:Id->Option Nat} {s:St} {cc:Option Bool} {h:Id->Option aa}
def iD(ρ:Id->Option Value)(i i':Id)(nx:Nat)(v vk:Value):Id->Option Value:=λx=>
 if x=i' then some v else match x with
  | .g y n=>if y=i' then(if n=nx then some vk else ρ (.g i n)) else ρ (.g y n)
  | x=>ρ x
def eE(O:Id->Option Nat)(i i' j src:Id)(nx:Nat)(ob:Option Nat):Id->Option Nat:=λx=>
 if x=i' then ob else if x=i\/x=j\/x=src then none else match x with
  | .g y n=>if y=i' then(if n=nx then O src else O (.g i n)) else if y=i then none else O (.g y n)
  | x=>O x
def uC(i i' j src:Id)(nx:Nat):Id->Option Id:=λx=>
 if x=i' then some i else if x=i\/x=j\/x=src then none else match x with
  | .g y n=>if y=i' then(if n=nx then some src else some (.g i n)) else if y=i then none else some (.g y n)
  | x=>some x
def nI(i i' src:Id)(nx:Nat):Id->Id:=λz=>
 if z=i then i' else if z=src then .g i' nx else match z with
  | .g y n=>if y=i then .g i' n else .g y n
  | z=>z
theorem yw{i i' j src:Id}{nx:Nat}(p:src≠i)(o:∀n,src≠ .g i n)(m:i.real=true){x z:Id}(b:uC i i' j src nx x=some z):nI i i' src nx z=x:=by
 unfold uC at b;split at b
 .rename_i h;simp only [SR] at b;subst b;unfold nI;rw [if_pos rfl,h]
 .rename_i h1;split at b
  .cases b
  .rename_i l;have f:x≠i:=λe=>l (.inl e);have k:x≠src:=λe=>l (.inr (.inr e));cases x with
   | g y n=>
    dsimp only at b;split at b
    .rename_i e;subst e;split at b
     .rename_i q;simp only [SR] at b;subst b;unfold nI;rw [if_neg p,if_pos rfl,q]
     .simp only [SR] at b;subst b;unfold nI;rw [if_neg (aM m),if_neg (λe=>o n e.symm)];simp
    .split at b
     .cases b
     .rename_i e3;simp only [SR] at b;subst b;unfold nI;rw [if_neg f,if_neg k];simp [e3]
   | c a=>simp only [SR] at b;subst b;unfold nI;rw [if_neg f,if_neg k]
   | s d a=>simp only [SR] at b;subst b;unfold nI;rw [if_neg f,if_neg k]
theorem PL{i i' j src:Id}{nx:Nat}{ob:Option Nat}{x:Id}{d:Nat}(b:eE O i i' j src nx ob x=some d):(x=i'/\ob=some d)\/(x≠i'/\∃z,uC i i' j src nx x=some z/\O z=some d):=by
 unfold eE at b;unfold uC;split at b
 .exact .inl ⟨by assumption,b⟩
 .rename_i h1;right;refine⟨h1, ?_⟩;rw [if_neg h1];split at b
  .cases b
  .rename_i k;rw [if_neg k];cases x with
   | g y n=>
    dsimp only at b⊢;split at b
    .rename_i e;rw [if_pos e];split at b
     .rename_i f;rw [if_pos f];exact⟨_,rfl,b⟩
     .rename_i f;rw [if_neg f];exact⟨_,rfl,b⟩
    .rename_i e;rw [if_neg e];split at b
     .cases b
     .rename_i e3;rw [if_neg e3];exact⟨_,rfl,b⟩
   | c a=>exact⟨_,rfl,b⟩
   | s d a=>exact⟨_,rfl,b⟩
theorem HS.Ip{i i' j src s0:Id}{b:Bool}{sz az rsz nx:Nat}{es:List Row}{l:List T}{bb:Bool}{xs:List (List T)}{vk:Value}{X:aa}{ah blk' off off' cap':Nat}{M:Array Value}{t':TypeId}{ob:Option Nat}{news:List Value}
  (hs:HS c w h ρ O) (hi:h i=some (.rows b sz az rsz nx es)) (H:h i'=none) (hrl:i'.real=true) (hj:h j≠none) (hji:j≠i) (hs0:h s0≠none) (hs0i:s0≠i) (hs0j:s0≠j)
  (t:src=s0\/∃n,src= .g s0 n) (hvk:ρ src=some vk) (hsl:cK w (AA c w O) rsz bb xs vk (λd=>O src=some d))
  (hos:w'.os=w.os) (ho:w'.output=w.output) (htp:w'.tape=w.tape) (hsz:w.heap.size<=w'.heap.size) (U:∀k,k < w.heap.size->O i≠some k->w'.heap[k]? =w.heap[k]?)
  (W:ob=O i\/(ob=some w.heap.size/\w.heap.size < w'.heap.size)) (hobs:ob=some blk') (hb:w'.heap[blk']? =some (.cells M t' (0,0))) (hfit:off'+cap' * sz<=M.size) (hcap:es.length+1<=cap')
  (hrows:bZ w (AA c w O) ρ O i ah sz az rsz off es) (hold:∀p,p < es.length * sz->w'.cell? ⟨blk',off'+p,none⟩=w.cell? ⟨ah,off+p,none⟩)
  (hcol:az < sz) (hl:l.length=sz) (hnew:∀p v,news[p]? =some v->w'.cell? ⟨blk',off'+es.length * sz+p,none⟩=some v) (hnr:∀m x,m≠az->l[m]? =some x->∃v,news[m]? =some v/\ax w (AA c w O) x v) (hnk:news[az]? =some vk)
  (hX:(∀b,AA c w O b->AA c w' (eE O i i' j src nx ob) b/\w'.heap[b]? =w.heap[b]?)->cR w' (AA c w' (eE O i i' j src nx ob)) (iD ρ i i' nx (.slice (some ⟨blk',off',none⟩) (es.length+1) cap') vk) (eE O i i' j src nx ob) s0 X):
  Le w ρ O w' (iD ρ i i' nx (.slice (some ⟨blk',off',none⟩) (es.length+1) cap') vk) (eE O i i' j src nx ob)/\
  HS c w' (aB (aB (aB (aB h i (some .dead)) j (some .dead)) s0 (some X)) i' (some (.rows false sz az rsz (nx+1) (es++ [⟨nx,l,some (bb,xs)⟩])))) (iD ρ i i' nx (.slice (some ⟨blk',off',none⟩) (es.length+1) cap') vk) (eE O i i' j src nx ob):=by
 have B:=hs.real (i:=i) (by rw [hi];simp);have K:=hs.real hj;have J:=hs.real hs0;have hii:i'≠i:=λe=>by rw [e,hi] at H;cases H
 have hij:i'≠j:=λe=>hj (e▸H);have hi0:i'≠s0:=λe=>hs0 (e▸H);have L:src≠i:=by
  rcases t with rfl | ⟨n,rfl⟩
  .exact hs0i
  .exact aM B
 have hsj:src≠j:=by
  rcases t with rfl | ⟨n,rfl⟩
  .exact hs0j
  .exact aM K
 have hsi':src≠i':=by
  rcases t with rfl | ⟨n,rfl⟩
  .exact hi0.symm
  .exact aM hrl
 have Y:∀n,src≠ .g i n:=by
  intro n;rcases t with rfl | ⟨m,rfl⟩
  .exact(aM J).symm
  .intro e;simp only [Id.g.injEq] at e;exact hs0i e.1
 have hsg':∀n,src≠ .g i' n:=by
  intro n;rcases t with rfl | ⟨m,rfl⟩
  .exact(aM J).symm
  .intro e;simp only [Id.g.injEq] at e;exact hi0 e.1.symm
 obtain⟨a,cap,r1,r2,r3,⟨n1,n2,n3,n4⟩,r5⟩:=hs.ah i _ hi;obtain⟨V,hV⟩:∃V,V=iD ρ i i' nx (.slice (some ⟨blk',off',none⟩) (es.length+1) cap') vk:=⟨_,rfl⟩;obtain⟨Q,N⟩:∃Q,Q=eE O i i' j src nx ob:=⟨_,rfl⟩;rw [<-hV,<-N] at hX⊢;have V1:V i'=some (.slice (some ⟨blk',off',none⟩) (es.length+1) cap'):=by rw [hV];unfold iD;rw [if_pos rfl]
 have V2:∀x,x.real=true->x≠i'->V x=ρ x:=by
  intro x hr o;rw [hV];unfold iD;rw [if_neg o];cases x with
  | g y n=>cases hr
  | _=>rfl
 have V3:∀y n,y≠i'->V (.g y n)=ρ (.g y n):=by intro y n hy;rw [hV];unfold iD;rw [if_neg (aM hrl)];simp only [if_neg hy]
 have V4:∀n,V (.g i' n)=if n=nx then some vk else ρ (.g i n):=by intro n;rw [hV];unfold iD;rw [if_neg (aM hrl)];simp
 have Q1:Q i'=ob:=by rw [N];unfold eE;rw [if_pos rfl]
 have Q0:∀x,x≠i'->(x=i\/x=j\/x=src)->Q x=none:=by intro x o C;rw [N];unfold eE;rw [if_neg o,if_pos C]
 have Q2:∀x,x.real=true->x≠i'->x≠i->x≠j->x≠src->Q x=O x:=by
  intro x hr o h1 C h3;rw [N];unfold eE;rw [if_neg o,if_neg (by rintro(h | h | h) <;> contradiction)];cases x with
  | g y n=>cases hr
  | _=>rfl
 have Q3:∀y n,y≠i'->y≠i->Id.g y n≠src->Q (.g y n)=O (.g y n):=by intro y n hy hy2 h3;rw [N];unfold eE;rw [if_neg (aM hrl),if_neg (by rintro(h | h | h);exact aM B h;exact aM K h;exact h3 h)];simp only [if_neg hy,if_neg hy2]
 have Q4:∀n,Q (.g i' n)=if n=nx then O src else O (.g i n):=by intro n;rw [N];unfold eE;rw [if_neg (aM hrl),if_neg (by rintro(h | h | h);exact aM B h;exact aM K h;exact hsg' n h.symm)];simp
 have S:∀x d,Q x=some d->(x=i'/\ob=some d)\/(x≠i'/\∃z,uC i i' j src nx x=some z/\O z=some d):=λx d o=>PL (by rw [<-N];exact o);have le:Le w ρ O w' V Q:=by
  refine⟨hos,ho,htp,hsz,λx u o=> ?_,λd r hn=>U d r (hn i),λx d o=> ?_⟩
  .cases hr:x.real with
   | true=>
    have:x≠i':=λe=>by rw [e,(hs.ch i' hrl H).1] at o;cases o
    rw [V2 x hr this];exact o
   | false=>
    cases x with
    | g y n=>
     have:y≠i':=λe=>by rw [e,(hs.fq i' n H).1] at o;cases o
     rw [V3 y n this];exact o
    | _=>cases hr
  .rcases S x d o with⟨_,h1⟩ | ⟨_,z,_,C⟩
   .rcases W with e | ⟨e,_⟩
    .exact .inl ⟨i,by rw [<-e];exact h1⟩
    .rw [e] at h1;cases h1;exact .inr (Tl _)
   .exact .inl ⟨z,C⟩
 have hA:∀d,AA c w O d->AA c w' Q d/\w'.heap[d]? =w.heap[d]?:=λd r=>le.A d r;have E:∀x d,x≠i->O x=some d->w'.heap[d]? =w.heap[d]?:=λx d o r=>U d (hs.lt x d r) λe=>o (hs.inj x i d r e);refine⟨le,hs.oF le (λx y o=> ?_) (λx hr o=> ?_) (λx n=> ?_) (λx n o=> ?_) (λx n u G=> ?_) (λx y d o hy=> ?_) (λx d o=> ?_)⟩
 .by_cases I:x=i'
  .subst I;rw [aD] at o;cases o;right;have hlen:(es++ [(⟨nx,l,some (bb,xs)⟩:Row)]).length=es.length+1:=by simp
   refine⟨some ⟨blk',off',none⟩,cap',by rw [hlen];exact V1,by rw [hlen];exact hcap,by simp,⟨?_,λf D=> ?_,λn hn=> ?_,λn d r=> ?_⟩, .inr ⟨blk',off',M,t',rfl,by rw [Q1];exact hobs,hb,hfit,bZ.append ?_ ⟨?_,trivial⟩⟩⟩
   .rw [US,UC];refine⟨n1,by simp,λa ha b hb=> ?_⟩;simp only [TQ,VA,Tc] at hb;obtain⟨f,D,e⟩:=Tw.1 ha;have:=n2 f D;omega
   .rcases Tm.1 D with D | D
    .have:=n2 f D;omega
    .simp only [Tc] at D;subst D;simp
   .rw [V4,if_neg (by omega)];exact n3 n (by omega)
   .rw [Q4] at r;by_cases en:n=nx
    .exact⟨_,Te _ (Tc.2 rfl),en.symm⟩
    .rw [if_neg en] at r;obtain⟨f,D,hfn⟩:=n4 n d r;exact⟨f,Tf _ D,hfn⟩
   .refine bZ.move hA hold (λf D=> ?_) hrows;have q:f.n≠nx:=by have:=n2 f D;omega
    exact⟨by rw [V4,if_neg q],by rw [Q4,if_neg q],λd r=>E _ d (aM B) r⟩
   .refine⟨hl,hcol,λm y hm hy=> ?_,vk,hnew az vk hnk,by rw [V4];simp, ?_⟩
    .obtain⟨v,g1,g2⟩:=hnr m y hm hy;exact⟨v,hnew m v g1,ax.mono hA y v g2⟩
    .simp only;refine cK.mono hA (λd r=> ?_) hsl;rw [Q4];exact⟨by simpa using r,E src d L r⟩
  .rw [ar _ _ I] at o;by_cases Z:x=s0
   .subst Z;rw [aD] at o;cases o;exact .inr (hX hA)
   .rw [ar _ _ Z] at o;by_cases e3:x=j
    .subst e3;rw [aD] at o;cases o;obtain⟨y,hy⟩:=Wn.1 hj;have:∃u,ρ x=some u:=by
      cases F:ρ x with
      | some u=>exact⟨u,rfl⟩
      | none=>
       exfalso;have:=hs.ah x y hy;cases y with
       | box cs=>obtain⟨b,_,_,h1,_⟩:=this;rw [F] at h1;cases h1
       | sl fz sz b xs=>obtain⟨v,h1,_⟩:=this;rw [F] at h1;cases h1
       | iC l=>obtain⟨b,h1,_⟩:=this;rw [F] at h1;cases h1
       | mp ag ks vk es=>obtain⟨b,_,_,h1,_⟩:=this;rw [F] at h1;cases h1
       | arr cs=>obtain⟨b,_,_,h1,_⟩:=this;rw [F] at h1;cases h1
       | rows _ _ _ _ _ _=>obtain⟨_,_,h1,_⟩:=this;rw [F] at h1;cases h1
       | dead=>obtain⟨⟨v,h1,_⟩,_⟩:=this;rw [F] at h1;cases h1
     obtain⟨u,G⟩:=this;exact .inr ⟨⟨u,by rw [V2 x K I];exact G,kf hs G⟩,Q0 x I (.inr (.inl rfl))⟩
    .rw [ar _ _ e3] at o;by_cases e4:x=i
     .subst e4;rw [aD] at o;cases o;exact .inr ⟨⟨_,by rw [V2 x B I];exact r1,rfl,rfl⟩,Q0 x I (.inl rfl)⟩
     .rw [ar _ _ e4] at o;have hrx:=hs.real (i:=x) (by rw [o];simp);have e5:x≠src:=by
       rcases t with rfl | ⟨n,rfl⟩
       .exact Z
       .exact(aM hrx).symm
      refine .inl ⟨o,Q2 x hrx I e4 e3 e5,λd r=>E x d e4 r,λn=>⟨V3 x n I,Q3 x n I e4 ?_,λd r=>E _ d (aM B) r⟩⟩;rcases t with rfl | ⟨m,rfl⟩
      .exact aM J
      .intro e;simp only [Id.g.injEq] at e;exact Z e.1
 .have q:x≠i':=λe=>by rw [e,aD] at o;cases o
  rw [ar _ _ q] at o;have h0:x≠s0:=λe=>by rw [e,aD] at o;cases o
  rw [ar _ _ h0] at o;have h1:x≠j:=λe=>by rw [e,aD] at o;cases o
  rw [ar _ _ h1] at o;have C:x≠i:=λe=>by rw [e,aD] at o;cases o
  rw [ar _ _ C] at o;have h5:x≠src:=by
   rcases t with rfl | ⟨n,rfl⟩
   .exact h0
   .exact(aM hr).symm
  rw [V2 x hr q,Q2 x hr q C h1 h5];exact hs.ch x hr o
 .rw [ar _ _ (aM hrl),ar _ _ (aM J),ar _ _ (aM K),ar _ _ (aM B)];exact hs.dH x n
 .have q:x≠i':=λe=>by rw [e,aD] at o;cases o
  rw [ar _ _ q] at o;have h0:x≠s0:=λe=>by rw [e,aD] at o;cases o
  rw [ar _ _ h0] at o;have h1:x≠j:=λe=>by rw [e,aD] at o;cases o
  rw [ar _ _ h1] at o;have C:x≠i:=λe=>by rw [e,aD] at o;cases o
  rw [ar _ _ C] at o;have h5:Id.g x n≠src:=by
   rcases t with rfl | ⟨m,rfl⟩
   .exact aM J
   .intro e;simp only [Id.g.injEq] at e;exact h0 e.1
  rw [V3 x n q,Q3 x n q C h5];exact hs.fq x n o
 .by_cases q:x=i'
  .subst q;rw [V4] at G;split at G
   .simp only [SR] at G;subst G;exact kf hs hvk
   .exact hs.gone i n u G
  .rw [V3 x n q] at G;exact hs.gone x n u G
 .rcases S x d o with⟨x1,x2⟩ | ⟨x1,z,x2,x3⟩ <;> rcases S y d hy with⟨y1,R⟩ | ⟨y1,z',R,y3⟩
  .rw [x1,y1]
  .rcases W with e | ⟨e,_⟩
   .rw [e] at x2;have:=hs.inj i z' d x2 y3;subst this;have:=yw L Y B R;unfold nI at this;rw [if_pos rfl] at this;rw [x1];exact this
   .rw [e] at x2;cases x2;exact absurd (hs.lt _ _ y3) (Vq _)
  .rcases W with e | ⟨e,_⟩
   .rw [e] at R;have:=hs.inj i z d R x3;subst this;have:=yw L Y B x2;unfold nI at this;rw [if_pos rfl] at this;rw [y1];exact this.symm
   .rw [e] at R;cases R;exact absurd (hs.lt _ _ x3) (Vq _)
  .have:=hs.inj z z' d x3 y3;subst this;rw [<-yw L Y B x2,<-yw L Y B R]
 .rcases S x d o with⟨_,h1⟩ | ⟨_,z,_,C⟩
  .rcases W with e | ⟨e,Z⟩
   .rw [e] at h1;have:=hs.lt i d h1;omega
   .rw [e] at h1;cases h1;exact Z
  .have:=hs.lt z d C;omega
end
open Go
section
variable {P:Program} {w w':World} {A A':Nat->Prop} {c:Ctx} {ρ:Id->Option Value} {O:Id->Option Nat} {s:St} {cc:Option Bool} {h:Id->Option aa}
theorem HS.move{i i':Id}(hs:HS c w h ρ O)(hi:h i≠none)(B:h i'=none)(v:Value)(g:Option Nat)(K:w'.os=w.os)(q:w'.output=w.output)(M:w'.tape=w.tape)(L:w.heap.size<=w'.heap.size)
  (o:∀k,k < w.heap.size->O i≠some k->w'.heap[k]? =w.heap[k]?) (t:g=none\/g=O i\/(g=some w.heap.size/\w.heap.size < w'.heap.size)) (x:aa)
  (T:cR w' (AA c w' (aB (aB O i none) i' g)) (aB ρ i' (some v)) (aB (aB O i none) i' g) i' x) (hrl:i'.real=true:=by rfl):
  Le w ρ O w' (aB ρ i' (some v)) (aB (aB O i none) i' g)/\HS c w' (aB (aB h i' (some x)) i (some .dead)) (aB ρ i' (some v)) (aB (aB O i none) i' g):=by
 have C:i≠i':=λe=>hi (e▸B);have N:∀b,g=some b->b < w'.heap.size:=by
  intro b hb;rcases t with e | e | ⟨e,f⟩
  .rw [e] at hb;cases hb
  .rw [e] at hb;have:=hs.lt i b hb;omega
  .rw [e] at hb;cases hb;exact f
 have le:Le w ρ O w' (aB ρ i' (some v)) (aB (aB O i none) i' g):=by
  refine⟨K,q,M,L,λj u a=> ?_,λb hb S=>o b hb (S i),λj b a=> ?_⟩
  .by_cases e:j=i'
   .subst e;rw [(hs.ch _ hrl B).1] at a;cases a
   .rw [ar _ _ e];exact a
  .by_cases e:j=i'
   .subst e;rw [aD] at a;rcases t with e | e | ⟨e,_⟩
    .rw [e] at a;cases a
    .rw [e] at a;exact .inl ⟨i,a⟩
    .rw [e] at a;cases a;exact .inr (Tl _)
   .rw [ar _ _ e] at a;by_cases f:j=i
    .subst f;rw [aD] at a;cases a
    .rw [ar _ _ f] at a;exact .inl ⟨j,a⟩
 have y:=hs.real hi;have Q:GK w ρ O w' (aB ρ i' (some v)) (aB (aB O i none) i' g):=λj n=>⟨ar _ _ (aM hrl),by rw [ar _ _ (aM hrl),ar _ _ (aM y)],λb hb=>o b (hs.lt _ b hb) λe=>aM y (hs.inj _ i b hb e)⟩;refine⟨le,hs.go le Q (λj U a=> ?_) (λj J a=> ?_) (λj a=> ?_) (λj n=>by rw [ar _ _ (aM y),ar _ _ (aM hrl)];exact hs.dH j n) (λj k d a E=> ?_) (λj d a=> ?_)⟩
 .by_cases e:j=i
  .subst e;rw [aD] at a;cases a;right;obtain⟨b,hb⟩:=Wn.1 hi;have F:∃u,ρ j=some u/\u.oneCell'=true/\u.cells= #[u]:=by
    cases m:ρ j with
    | none=>
     exfalso;have:=hs.ah j b hb;cases b with
     | box cs=>obtain⟨b,_,_,h1,_⟩:=this;rw [m] at h1;cases h1
     | sl V sz b xs=>obtain⟨v,h1,_⟩:=this;rw [m] at h1;cases h1
     | iC l=>obtain⟨b,h1,_⟩:=this;rw [m] at h1;cases h1
     | mp ag ks vk es=>obtain⟨b,_,_,h1,_⟩:=this;rw [m] at h1;cases h1
     | arr cs=>obtain⟨b,_,_,h1,_⟩:=this;rw [m] at h1;cases h1
     | rows _ _ _ _ _ _=>obtain⟨_,_,h1,_⟩:=this;rw [m] at h1;cases h1
     | dead=>obtain⟨⟨v,h1,_⟩,_⟩:=this;rw [m] at h1;cases h1
    | some u=>exact⟨u,rfl,kf hs m⟩
   obtain⟨u,h1,R⟩:=F;exact⟨⟨u,by rw [ar _ _ C];exact h1,R⟩,by rw [ar _ _ C,aD]⟩
  .rw [ar _ _ e] at a;by_cases f:j=i'
   .subst f;rw [aD] at a;cases a;exact .inr T
   .rw [ar _ _ f] at a;refine .inl ⟨a,by rw [ar _ _ f,ar _ _ e],λah r=>o ah (hs.lt j ah r) (λq=>e (hs.inj j i ah r q))⟩
 .by_cases e:j=i
  .subst e;rw [aD] at a;cases a
  .rw [ar _ _ e] at a;by_cases f:j=i'
   .subst f;rw [aD] at a;cases a
   .rw [ar _ _ f] at a;rw [ar _ _ f,ar _ _ f,ar _ _ e];exact hs.ch j J a
 .by_cases e:j=i
  .subst e;rw [aD] at a;cases a
  .rw [ar _ _ e] at a;by_cases f:j=i'
   .subst f;rw [aD] at a;cases a
   .rw [ar _ _ f] at a;exact a
 .have z:∀j b,aB (aB O i none) i' g j=some b->(j=i'/\g=some b)\/(j≠i'/\j≠i/\O j=some b):=by
   intro j b a;by_cases e:j=i'
   .subst e;rw [aD] at a;exact .inl ⟨rfl,a⟩
   .rw [ar _ _ e] at a;by_cases f:j=i
    .subst f;rw [aD] at a;cases a
    .rw [ar _ _ f] at a;exact .inr ⟨e,f,a⟩
  have p:∀k b,g=some b->k≠i->O k=some b->False:=by
   intro k b hb E q;rcases t with e | e | ⟨e,_⟩
   .rw [e] at hb;cases hb
   .rw [e] at hb;exact E (hs.inj k i b q hb)
   .rw [e] at hb;cases hb;exact Vq _ (hs.lt k _ q)
  rcases z j d a with⟨G,f⟩ | ⟨G,f,e3⟩ <;> rcases z k d E with⟨H,D⟩ | ⟨H,D,I⟩
  .rw [G,H]
  .exact(p k d f D I).elim
  .exact(p j d D f e3).elim
  .exact hs.inj j k d e3 I
 .by_cases e:j=i'
  .subst e;rw [aD] at a;exact N d a
  .rw [ar _ _ e] at a;by_cases f:j=i
   .subst f;rw [aD] at a;cases a
   .rw [ar _ _ f] at a;have:=hs.lt j d a;omega
theorem Ju{v:AV}{x:T}{u:Value}{sz:Nat}{p:Bool×List (List T)}(hs:HS c w h ρ O)(hv:al w (AA c w O) ρ v u)(d:du h v=some x)(E:x.aP sz=some p):
  (p.2= []/\(u= .slice none 0 0\/∃a cap,u= .slice (some a) 0 cap))\/∃ah off cap,u= .slice (some ⟨ah,off,none⟩) p.2.length cap/\aY w (AA c w O) ah sz off p.2:=by
 have f:ax w (λ_=>True) x u:=mN hs hv d (λ_ _=>trivial) (λ_ _ _ _=>trivial);have small:p.2= []->(u= .slice none 0 0\/∃a cap,u= .slice (some a) 0 cap):=by
  intro e;rcases T.pV E with rfl | ⟨rfl,_⟩
  .simp only [ax] at f;rcases f with⟨_,_,rfl⟩ | ⟨_,ah,off,H,cap,rfl,_⟩
   .exact .inl rfl
   .rw [e];exact .inr ⟨_,_,rfl⟩
  .simp only [ax] at f;rcases f with⟨_,rfl⟩ | ⟨_,ah,off,H,rfl⟩
   .exact .inl rfl
   .exact .inr ⟨_,_,rfl⟩
 by_cases e:p.2= []
 .exact .inl ⟨e,small e⟩
 right;have R:x= .ae sz p.1 p.2:=by
  rcases T.pV E with h | ⟨_,h⟩
  .exact h
  .exact absurd h e
 subst R;cases v <;> simp only [du,reduceCtorEq,SR] at d
 case t y=>
  subst d;simp only [al,ax] at hv;rcases hv with⟨_,h,_⟩ | ⟨_,ah,off,H,cap,rfl,_,r,g⟩
  .exact absurd h e
  .rcases r with r | ⟨rfl,_⟩
   .exact absurd r e
   exact⟨ah,off,cap,rfl,g⟩
 case own i=>
  split at d
  .rename_i Q m b xs hi;simp only [SR,T.ae.injEq] at d;obtain⟨rfl,rfl,rfl⟩:=d;obtain⟨Z,z,a,cap,q1,S,U,V,k⟩:=nQ hs hi;simp only [al] at hv;rw [z] at hv;simp only [SR] at hv;subst hv;subst q1;rcases k with k | ⟨ah,off,arr,t,C,W,X,Y,j⟩
   .exact absurd (To.1 (by omega)) e
   .subst C;exact⟨ah,off,cap,rfl,j⟩
  .simp at d
 case ref i off=>
  split at d
  .obtain⟨l,_,d⟩:=SU.1 d;simp at d
  .simp at d
  .simp at d
 case part i sz1 off n=>
  split at d
  .rename_i Q m b xs hi;split at d
   .rename_i F;subst F;simp only [SR,T.ae.injEq] at d;obtain⟨rfl,rfl,G⟩:=d;obtain⟨Z,z,a,cap,q1,S,U,V,k⟩:=nQ hs hi;simp only [al] at hv;obtain⟨a1,L,J,I,q,e2,e3,rfl,K⟩:=hv;rw [z] at q;simp only [SR] at q;subst q;simp only [Uf] at q1;obtain⟨rfl,rfl,rfl⟩:=q1;have B:((xs.drop off).take n).length=n:=by simp only [T3,UK];omega
    rw [<-G] at e⊢;have hn:n≠0:=λh=>e (by rw [h];rfl);rcases k with k | ⟨ah,off',arr,t,C,W,X,Y,j⟩
    .omega
    .subst C;have N:I=some ⟨ah,off'+off * m,none⟩:=by
      rcases K with⟨rfl,rfl⟩ | ⟨rfl,_⟩ | ⟨b',o,D,M⟩
      .simp
      .omega
      .simp only [SR,T5] at D;obtain⟨rfl,rfl,_⟩:=D;exact M
     subst N;exact⟨ah,_,_,by rw [B],(j.drop off).take n⟩
   .simp at d
  .simp at d
theorem Qq{t k ty e:TypeId}{i:TypeInfo}(m:P.underlying t=some (.slice e))(hi:P.info? e=some i){b off a d:Nat}{arr:Array Value}{tt:TypeId}(hb:w.heap[b]? =some (.cells arr tt (0,0))){x:Value}{n:Nat}{news:List Value}
  (hs:Src P i.size k x n news w) (f:a+n<=d) (l:off+d * i.size<=arr.size):
  (Builtin.append_ #[t,k] ty #[.slice (some ⟨b,off,none⟩) a d,x]).run P w= .ok (.slice (some ⟨b,off,none⟩) (a+n) d) (w.setRow b (bS (off+a * i.size) news arr.toList).toArray):=by
 have p:=hs.newsLen;have hm:(a+n) * i.size<=d * i.size:=TK _ f;have e:(a+n) * i.size=a * i.size+n * i.size:=Vi _ _ _;have g:=run_storeCells_at P b (off+a * i.size) tt news 0 arr w hb (by omega) hs.one;simp only [VR] at g;rcases hs.kind with⟨o,j⟩ | j <;> simp [Builtin.append_,run_underlying m,run_underlying j,sizeOf,typeInfo,hi,hs.len,f,hs.cells,gM,g,bS]
theorem Qp{t j ty e:TypeId}{i:TypeInfo}(k:P.underlying t=some (.slice e))(hi:P.info? e=some i){base:Option Addr}{d b:Nat}{x:Value}(hs:Src P i.size j x 0 [] w)(f:d<=b):
  (Builtin.append_ #[t,j] ty #[.slice base d b,x]).run P w= .ok (.slice base d b) w:=by
 have m:∀a:Addr,(storeCells a []).run P w= .ok () w:=λa=>by simp [storeCells]
 cases base <;> rcases hs.kind with⟨l,g⟩ | g <;> simp [Builtin.append_,run_underlying k,run_underlying g,sizeOf,typeInfo,hi,hs.len,f,hs.cells,storeCells]
structure Ad (P:Program) (t tx e:TypeId) (i:TypeInfo) (x:Value) (n:Nat) (news:List Value) (w:World):Prop where
 newsLen:news.length=n * i.size
 one:∀u∈news,u.oneCell'=true
 idle:n=0->∀(ty:TypeId) (base:Option Addr) (sLen sCap:Nat),sLen<=sCap->(Builtin.append_ #[t,tx] ty #[.slice base sLen sCap,x]).run P w= .ok (.slice base sLen sCap) w
 Br:∀(ty:TypeId) (b off sLen sCap:Nat) (arr:Array Value) (tt:TypeId),w.heap[b]? =some (.cells arr tt (0,0))->sLen+n<=sCap->off+sCap * i.size<=arr.size->
  (Builtin.append_ #[t,tx] ty #[.slice (some ⟨b,off,none⟩) sLen sCap,x]).run P w= .ok (.slice (some ⟨b,off,none⟩) (sLen+n) sCap) (w.setRow b (bS (off+sLen * i.size) news arr.toList).toArray)
 grow:∀(ty:TypeId) (z:Value) (base:Option Addr) (sLen sCap:Nat) (olds:List Value),i.zero=some z->(Builtin.firstCells i.size sLen (.slice base sLen sCap)).run P w.drew= .ok olds.toArray w.drew->sCap < sLen+n->
  ((sLen+n:Nat):Int)<=9223372036854775807->Builtin.nextslicecap (sLen+n) sCap * i.bytes<=281474976710656->
  (Builtin.append_ #[t,tx] ty #[.slice base sLen sCap,x]).run P w=
   .ok (.slice (some ⟨w.heap.size,0,none⟩) (sLen+n) (grownCap w (sLen+n) sCap e))
    (w.drew.alloc (.cells ((olds++news).toArray++Builtin.zeroCells z.cells (grownCap w (sLen+n) sCap e - (sLen+n))) e))
theorem Ad.uu{t tx e:TypeId}{i:TypeInfo}{x:Value}{n:Nat}{news:List Value}(ht:P.underlying t=some (.slice e))(hi:P.info? e=some i)(hs:Src P i.size tx x n news w):Ad P t tx e i x n news w where
 newsLen:=hs.newsLen
 one:=hs.one
 idle:=by intro h ty base sLen sCap hr;subst h;have:news= []:=To.1 (by rw [hs.newsLen];simp);subst this;exact Qp ht hi hs hr
 Br:=λty b off sLen sCap arr tt hb hr hf=>Qq ht hi hb hs hr hf
 grow:=λty z base sLen sCap olds hz ho hg h63 hf=>run_append_grow_src w t tx ty e i z ht hi hz base sLen sCap olds ho x n news hs hg h63 hf
theorem SO{z:Array Value}{sz:Nat}(hz:z.size=sz)(n:Nat):(Builtin.zeroCells z n).toList= (List.replicate n z.toList).flatten:=by
 apply Vo;intro p;by_cases d:p < n * sz
 .have h1:((List.replicate n z.toList).flatten).length=n * sz:=by simp [hz]
  have a:((List.replicate n z.toList).flatten)[p]? =some ((List.replicate n z.toList).flatten[p]'(by omega)):=SZ _;rw [a];have b:=BG (zv:=z) hz n n (Tl _) p _ a;rw [<-b,T1];simp [madeCells,Builtin.zeroCells,hz]
 .have h1:((List.replicate n z.toList).flatten).length=n * sz:=by simp [hz]
  have a:(Builtin.zeroCells z n).toList.length=n * sz:=by rw [Tu,size_zeroCells,hz]
  rw [TU (by omega),TU (by omega)]
theorem Pp{n:Int}(a: 0<=n)(h1:n<=4294967296):i64.wrap n=n:=by rw [IntKind.wrap_i64];omega
theorem Ad.Pq{t N e:TypeId}{i:TypeInfo}{zv:Value}{ki:IntKind}{n:Int}(B:P.underlying t=some (.slice e))(x:P.underlying N=some (.int ki))(hi:P.info? e=some i)(hz:i.zero=some zv)(E:zv.cells.size=i.size)(hb:i.bytes<=8192)
  (Q: 0<=n) (h1:n<=4294967296) (I:∀u∈zv.cells.toList,u.oneCell'=true):Ad P t N e i (.int .i64 n) n.toNat (List.replicate n.toNat zv.cells.toList).flatten w:=by
 have C:=Pp Q h1;have m:¬(n < 0):=by omega
 have f:¬(281474976710656 < n * (i.bytes:Int)):=by have V:n * (i.bytes:Int)<=4294967296 * 8192:=Int.le_trans (TF h1 (by omega)) (Ti (by omega) (by omega));omega
 have M:(List.replicate n.toNat zv.cells.toList).flatten.length=n.toNat * i.size:=by simp [E]
 have one:∀u∈(List.replicate n.toNat zv.cells.toList).flatten,u.oneCell'=true:=by intro u H;obtain⟨l,K,H⟩:=List.mem_flatten.1 H;rw [List.mem_replicate] at K;obtain⟨_,rfl⟩:=K;exact I u H
 have T:=SO E n.toNat
 have F:Builtin.zeroCells zv.cells n.toNat= (List.replicate n.toNat zv.cells.toList).flatten.toArray:=by rw [<-T]
 have aO:n.toNat * i.size=0->(List.replicate n.toNat zv.cells.toList).flatten= []:=λh=>To.1 (by rw [M,h]);refine⟨M,one, ?_, ?_, ?_⟩
 .intro h ty base d j hr;have R:∀a:Addr,(storeCells a []).run P w= .ok () w:=λa=>by simp [storeCells]
  cases base <;> simp [Builtin.append_,run_underlying B,run_underlying x,sizeOf,typeInfo,hi,asInt,asIntOf,C,m,f,h,hr,R]
 .intro ty b off d j arr tt J k G;have hm:(d+n.toNat) * i.size<=j * i.size:=TK _ k;have e:(d+n.toNat) * i.size=d * i.size+n.toNat * i.size:=Vi _ _ _;have o:=run_storeCells_at P b (off+d * i.size) tt (List.replicate n.toNat zv.cells.toList).flatten 0 arr w J (by omega) one;simp only [VR] at o;by_cases g:n.toNat * i.size=0
  .have:=aO g;rw [this] at o⊢;simp [Builtin.append_,run_underlying B,run_underlying x,sizeOf,typeInfo,hi,asInt,asIntOf,C,m,f,k,g,gM,o,bS]
  .simp [Builtin.append_,run_underlying B,run_underlying x,sizeOf,typeInfo,zeroValue,hi,hz,asInt,asIntOf,C,m,f,k,g,F,gM,o,bS]
 .intro ty z base d j S D y W U G;rw [hz] at D;cases D;have L:¬(d+n.toNat<=j):=by omega
  have q:¬(9223372036854775807 < ((d:Int)+ (n.toNat:Int))):=by omega
  have v:¬(9223372036854775807 < ((d:Int)+max n 0)):=by omega
  have r:¬(i64.max < ((d:Int)+ (n.toNat:Int))):=by simp only [IntKind.max,IntKind.bits,IntKind.signed];omega
  have p:¬(281474976710656 < Builtin.nextslicecap (d+n.toNat) j * i.bytes):=by omega
  by_cases g:n.toNat * i.size=0
  .have:=aO g;rw [this];simp [Builtin.append_,run_underlying B,run_underlying x,sizeOf,typeInfo,zeroValue,hi,hz,asInt,asIntOf,C,m,f,L,q,v,r,p,Question.forced,g,y,newRow,grownCap]
  .simp [Builtin.append_,run_underlying B,run_underlying x,sizeOf,typeInfo,zeroValue,hi,hz,asInt,asIntOf,C,m,f,L,q,v,r,p,Question.forced,g,F,y,newRow,grownCap];congr 2;apply Vj;simp [TN]
theorem Hn{n m:Int}(h:cr n m=some ()): 0<=n/\n<=m/\m<=gf:=by
 unfold cr at h;split at h
 .assumption
 .simp at h
theorem Ku{R:Type}{t M e:TypeId}{sz:Nat}{z:List T}{ti:TypeInfo}{y:AV}{N:Value}{K:List (List T)->Option R}{r:R}(hs:HS c w s.h ρ O)(m:P.underlying M=some (.slice e))(f:P.info? e=some ti)(k:ti.size=sz)(hz:jF P e=some z)(I:z.length=sz)(F:P.bytesOf e<=8192)(hy:al w (AA c w O) ρ y N)(d:mn P s t sz z y K=some r):
  ∃D vss,K D=some r/\Ad P M t e ti N D.length vss.flatten w/\cm w (AA c w O) sz D vss:=by
 subst k;unfold mn at d;split at d
 .rename_i Z i;obtain⟨x,q,d⟩:=SU.1 d;replace d:=aL d (.inl rfl);obtain⟨p,V,d⟩:=d;rcases Ju hs hy q V with⟨e,h⟩ | ⟨ah,off,cap,rfl,g⟩
  .rw [e] at d;refine⟨[],[],d, ?_,rfl⟩;rcases h with rfl | ⟨a,cap,rfl⟩
   .exact .uu m f (Src.ofNil w i 0)
   .exact .uu m f (Src.ofSlice w i a 0 cap [] (by simp) (by simp) (by simp))
  .obtain⟨vss,h1,B⟩:=g.bc;obtain⟨l1,X⟩:=h1.length;exact⟨p.2,vss,d, .uu m f (Src.ofSlice w i ⟨ah,off,none⟩ _ cap _ (by rw [X]) (λj u S=>by rw [gM];exact B j u S) (λu i=>(h1.one u i).1)),h1⟩
 .rename_i i;split at d
  .rename_i k;obtain⟨x,q,d⟩:=SU.1 d;replace d:=aL d (.inl rfl);obtain⟨b,hb,d⟩:=d;have:=T.ko hb;subst this;rw [AV.l8 q] at hy;simp only [al,ax] at hy;subst hy;have flat:∀l:List Value,(l.map λv=> [v]).flatten=l:=by intro l;induction l <;> simp_all
   refine⟨_,((b.data.toList.map λb=>Value.int .u8 b.toNat).map λv=> [v]),d, ?_, ?_⟩
   .rw [flat,Uv];have:=Src.ofString (P:=P) w i b;have e:b.data.toList.length=b.size:=by rw [Tu];rfl
    rw [e];exact .uu m f (by rw [k];exact this)
   .have E:∀l:List UInt8,cm w (AA c w O) 1 (l.map λu=> [T.int .u8 u.toNat]) ((l.map λb=>Value.int .u8 b.toNat).map λv=> [v]):=by
     intro l;induction l with
     | nil=>rfl
     | cons u l W=>exact⟨_,_,rfl,rfl,⟨_,[],rfl,gr _ _ _ _,rfl⟩,W⟩
    rw [k];exact E _
  .simp at d
 .rename_i ki i;obtain⟨x,q,d⟩:=SU.1 d;replace d:=aL d (.inl rfl);obtain⟨n,U,d⟩:=d;replace d:=aL d (.inl rfl);obtain⟨_,hb,d⟩:=d;have:=T.fX U;subst this;obtain⟨Q,_,B⟩:=Hn hb;rw [AV.l8 q] at hy;simp only [al,ax] at hy;subst hy;obtain⟨Y,zv,o,L,G⟩:=nX hz;rw [f] at o;cases o;have hr:aR w (AA c w O) z zv.cells.toList:=oS G;have J:zv.cells.size=ti.size:=by
   have:=hr.length;rw [Tu] at this;omega
  have H:=cm.replicate hr I n.toNat
  have C:ti.bytes<=8192:=by simpa [Program.bytesOf,f] using F
  refine⟨_,_,d, ?_,H⟩;rw [UD];exact .Pq m i f L J C Q (by simpa [gf] using B) (λu i=>(hr.one u i).1)
 .simp at d
theorem Bm(z:Array Value)(l:List Value)(k:Nat):∀(p:Nat) (v:Value),l[p]? =some v->(l.toArray++Builtin.zeroCells z k)[p]? =some v:=by intro p v b;have a:=(Ta.1 b).1;rw [Array.getElem?_append_left (by simpa using a)];simpa using b
theorem Bb{bs n:Nat}(h:oD bs n)(hb:bs<=8192):n * bs<=140737488355328:=by
 rcases h with h | ⟨_,h⟩
 .have:n * bs<=4294967296 * 8192:=Wz h hb;omega
 .exact h
theorem Bc{bs n:Nat}(h:oD bs n):n<=140737488355328:=by
 rcases h with h | ⟨a,h⟩
 .have:n<=4294967296:=h;omega
 .exact Tz (Nat.le_mul_of_pos_right n a) h
theorem DJ{t tx ty e:TypeId}{ti:TypeInfo}{zs:List T}{y:Value}{i i':Id}{b:Bool}{xs d:List (List T)}{vss:List (List Value)}{base:Option Addr}{cap:Nat}
  (hs:HS c w h ρ O) (hi:h i≠none) (D:h i'=none) (ht:P.underlying t=some (.slice e)) (hz:jF P e=some zs) (hzl:zs.length=P.cellsOf e) (hby:P.bytesOf e<=8192)
  (V:oD (P.bytesOf e) (xs.length+d.length)) (hcap:xs.length<=cap) (Y:base=none↔b=true) (E:True)
  (x:cap=0\/∃ah off arr tt,base=some ⟨ah,off,none⟩/\O i=some ah/\w.heap[ah]? =some (.cells arr tt (0,0))/\off+cap * P.cellsOf e<=arr.size/\aY w (AA c w O) ah (P.cellsOf e) off xs)
  (J:P.info? e=some ti) (src:Ad P t tx e ti y d.length vss.flatten w) (C:cm w (AA c w O) (P.cellsOf e) d vss) (hrl:i'.real=true:=by rfl):
  ∃v w' ρ' O',(Builtin.append_ #[t,tx] ty #[.slice base xs.length cap,y]).run P w= .ok v w'/\Le w ρ O w' ρ' O'/\ρ' i'=some v/\
   HS c w' (aB (aB h i' (some (.sl false (P.cellsOf e) (b && d.isEmpty) (xs++d)))) i (some .dead)) ρ' O':=by
 obtain⟨ti',zv,K,hzv,hof⟩:=nX hz;rw [J] at K;cases K;have n:P.cellsOf e=ti.size:=by simp [Program.cellsOf,J]
 have hne:i'≠i:=λe=>hi (e▸D);obtain⟨l1,l2⟩:=C.length;by_cases r:xs.length+d.length<=cap
 .rcases x with x | ⟨ah,off,arr,tt,rfl,N,hb,o,B⟩
  ·
   subst x;have W:xs= []:=To.1 (by omega);have ey:d= []:=To.1 (by omega);subst W;subst ey;have ev:vss= []:=by simpa using l1
   subst ev;obtain⟨G,H⟩:=HS.move (hrl:=hrl) (w':=w) hs hi D (.slice base 0 0) none rfl rfl rfl (Tl _) (λ_ _ _=>rfl) (.inl rfl) (.sl false (P.cellsOf e) (b && true) []) (by
    refine⟨_,by rw [aD];rfl,⟨base,0,rfl,by simp, ?_,E, .inl rfl⟩,by simp⟩;simpa using Y)
   refine⟨_,w,_,_, ?_,G,by rw [aD],by simpa using H⟩;exact src.idle rfl ty base 0 0 (Tl _)
  ·
   rw [n] at o;have M:=src.Br ty ah off xs.length cap arr tt hb r o;have Q:∀k,k < w.heap.size->O i≠some k->(w.setRow ah (bS (off+xs.length * ti.size) vss.flatten arr.toList).toArray).heap[k]? =w.heap[k]?:=λk _ X=>setRow_other w ah k _ (λe=>X (e▸N));have L:off+xs.length * ti.size+vss.flatten.length<=arr.toList.length:=by have l3:arr.toList.length=arr.size:=Tu;rw [l2,n,l3];have hm:(xs.length+d.length) * ti.size<=cap * ti.size:=TK _ r;rw [Vi] at hm;omega
   obtain⟨G,H⟩:=HS.move (hrl:=hrl) (w':=w.setRow ah (bS (off+xs.length * ti.size) vss.flatten arr.toList).toArray) hs hi D (.slice (some ⟨ah,off,none⟩) (xs.length+d.length) cap) (O i) rfl rfl rfl (by rw [qg];exact Tl _) Q (.inr (.inl rfl))
    (.sl false (P.cellsOf e) (b && d.isEmpty) (xs++d)) (by
     refine⟨_,by rw [aD],⟨some ⟨ah,off,none⟩,cap,by simp,by simpa using r, ?_,E, .inr ⟨ah,off,_,tt,rfl, ?_,setRow_heap w ah arr _ tt (0,0) hb, ?_, ?_⟩⟩,by simp⟩
     .have:b=false:=by cases b <;> simp_all
      simp [this]
     .simpa using N
     .simp only [Uw];rw [qe _ _ _ L,n];simpa using o
     .have u:∀p,(w.setRow ah (bS (off+xs.length * ti.size) vss.flatten arr.toList).toArray).cell? ⟨ah,p,none⟩=if off+xs.length * ti.size<=p/\p < off+xs.length * ti.size+vss.flatten.length then vss.flatten[p - (off+xs.length * ti.size)]? else w.cell? ⟨ah,p,none⟩:=by
       intro p;rw [tz hb,VI,r9 _ _ _ L,kH hb];simp
      have I:∀m,AA c w O m->AA c (w.setRow ah (bS (off+xs.length * ti.size) vss.flatten arr.toList).toArray) (aB (aB O i none) i' (O i)) m/\(w.setRow ah (bS (off+xs.length * ti.size) vss.flatten arr.toList).toArray).heap[m]? =w.heap[m]?:=by
       intro m g;refine⟨⟨g.1,by rw [qg];exact g.2.1,λj l=> ?_⟩,setRow_other w ah m _ (λe=>g.2.2 i (e▸N))⟩;by_cases z:j=i'
       .subst z;rw [aD] at l;exact g.2.2 i l
       .rw [ar _ _ z] at l;by_cases F:j=i
        .subst F;rw [aD] at l;cases l
        .rw [ar _ _ F] at l;exact g.2.2 j l
      refine aY.append (aY.cells I (λp h1 h2=> ?_) B) ?_
      .rw [n] at h2;rw [u,if_neg (by omega)]
      .refine aY.kS (cm.mono I C) (λp v S=> ?_);have hlt:=(Ta.1 S).1;rw [n,u,if_pos (by omega),show off+xs.length * ti.size+p - (off+xs.length * ti.size)=p by omega];exact S)
   exact⟨_,_,_,_,M,G,by rw [aD],H⟩
 ·
  have R:(xs.length+d.length) * ti.bytes<=140737488355328:=by
   have z:P.bytesOf e=ti.bytes:=by simp [Program.bytesOf,J]
   rw [<-z];exact Bb V hby
  have Z:∃f:List (List Value),cm w (AA c w O) (P.cellsOf e) xs f/\(Builtin.firstCells ti.size xs.length (.slice base xs.length cap)).run P w.drew= .ok f.flatten.toArray w.drew:=by
   rcases x with x | ⟨ah,off,arr,tt,rfl,N,hb,o,B⟩
   .have W:xs= []:=To.1 (by omega);subst W;refine⟨[],rfl, ?_⟩;cases base with
    | none=>exact run_firstCells_none w.drew _ _ _ _
    | some a=>exact run_firstCells_some w.drew _ 0 a _ _ [] (by simp) (by simp)
   .obtain⟨f,k1,k2⟩:=B.bc;refine⟨f,k1, ?_⟩;obtain⟨m1,m2⟩:=k1.length;exact run_firstCells_some w.drew _ _ _ _ _ _ (by rw [m2,n]) (λj v l=>by rw [gM];simpa using k2 j v l)
  obtain⟨f,U,ho2⟩:=Z;have q:cap < xs.length+d.length:=by omega
  have M:=src.grow ty zv base xs.length cap f.flatten hzv ho2 q (by have:=Bc V;omega) (growslice_fits q R);obtain⟨m1,m2⟩:=U.length;have hzs:zv.cells.size=ti.size:=by have:=(oS (w:=w) (A:=AA c w O) hof).length;rw [Tu] at this;rw [this,hzl,n]
  have ys0:d.isEmpty=false:=by
   cases d with
   | nil=>simp at q;omega
   | cons=>rfl
  have hge:=grownCap_ge w (xs.length+d.length) cap e;obtain⟨G,H⟩:=HS.move (hrl:=hrl) (w':=w.drew.alloc (.cells ((f.flatten++vss.flatten).toArray++Builtin.zeroCells zv.cells (grownCap w (xs.length+d.length) cap e - (xs.length+d.length))) e)) hs hi D
   (.slice (some ⟨w.heap.size,0,none⟩) (xs.length+d.length) (grownCap w (xs.length+d.length) cap e)) (some w.heap.size) rfl rfl rfl (by simp) (λk X _=>TJ w.drew _ k X) (.inr (.inr ⟨rfl,by simp⟩))
   (.sl false (P.cellsOf e) (b && d.isEmpty) (xs++d)) (by
    refine⟨_,by rw [aD],⟨some ⟨w.heap.size,0,none⟩,grownCap w (xs.length+d.length) cap e,by simp,by simpa using hge,by simp [ys0],trivial, .inr ⟨w.heap.size,0,_,e,rfl,by simp,kN (w:=w.drew) _, ?_, ?_⟩⟩,by simp⟩
    .simp only [WC,Uw,Uh,m2,l2,size_zeroCells,hzs,n,<-Vi,TC];exact TK _ (by omega)
    .have I:∀m,AA c w O m->AA c (w.drew.alloc (.cells ((f.flatten++vss.flatten).toArray++Builtin.zeroCells zv.cells (grownCap w (xs.length+d.length) cap e - (xs.length+d.length))) e)) (aB (aB O i none) i' (some w.heap.size)) m/\(w.drew.alloc (.cells ((f.flatten++vss.flatten).toArray++Builtin.zeroCells zv.cells (grownCap w (xs.length+d.length) cap e - (xs.length+d.length))) e)).heap[m]? =w.heap[m]?:=by
      intro m g;refine⟨⟨g.1,by have:=g.2.1;simp;omega,λj l=> ?_⟩,TJ w.drew _ m g.2.1⟩;by_cases z:j=i'
      .subst z;rw [aD] at l;cases l;exact Vq _ g.2.1
      .rw [ar _ _ z] at l;by_cases F:j=i
       .subst F;rw [aD] at l;cases l
       .rw [ar _ _ F] at l;exact g.2.2 j l
     refine aY.kS (vss:=f++vss) (cm.append (cm.mono I U) (cm.mono I C)) (λp v S=> ?_);refine(kH (w:=w.drew.alloc _) (b:=w.heap.size) (kN (w:=w.drew) _) _).trans ?_;rw [TC];exact Bm _ _ _ p v (by simpa using S))
  exact⟨_,_,_,_,M,G,by rw [aD],H⟩
theorem Kr{t W ty e:TypeId}{ti:TypeInfo}{Y:List T}{y H:Value}{i':Id}{b:Bool}{g:List (List T)}{vss:List (List Value)}
  (hs:HS c w h ρ O) (B:h i'=none) (ht:P.underlying t=some (.slice e)) (hz:jF P e=some Y) (R:Y.length=P.cellsOf e) (J:P.bytesOf e<=8192)
  (C:oD (P.bytesOf e) g.length) (Q:ax w A (.aO b) H)
  (m:P.info? e=some ti) (src:Ad P t W e ti y g.length vss.flatten w) (l:cm w (AA c w O) (P.cellsOf e) g vss) (hrl:i'.real=true:=by rfl):
  ∃v w' ρ' O',(Builtin.append_ #[t,W] ty #[H,y]).run P w= .ok v w'/\Le w ρ O w' ρ' O'/\ρ' i'=some v/\
   HS c w' (aB h i' (some (.sl false (P.cellsOf e) (b && g.isEmpty) g))) ρ' O':=by
 obtain⟨ti',zv,o,U,M⟩:=nX hz;rw [m] at o;cases o;have D:P.cellsOf e=ti.size:=by simp [Program.cellsOf,m]
 obtain⟨l1,l2⟩:=l.length;obtain⟨base,rfl,F,z⟩:∃base,H= .slice base 0 0/\(base=none↔b=true)/\True:=by
  simp only [ax] at Q;rcases Q with⟨rfl,rfl⟩ | ⟨rfl,ah,off,sp,rfl⟩
  .exact⟨none,rfl,by simp,trivial⟩
  .exact⟨some _,rfl,by simp,trivial⟩
 by_cases E:g= []
 .subst E;have ev:vss= []:=by simpa using l1
  subst ev;have le:Le w ρ O w (aB ρ i' (some (.slice base 0 0))) (aB O i' none):=by
   refine⟨rfl,rfl,rfl,Tl _,λj u f=> ?_,λb hb hn=>rfl,λj b f=> ?_⟩
   .by_cases e:j=i'
    .subst e;rw [(hs.ch _ hrl B).1] at f;cases f
    .rw [ar _ _ e];exact f
   .by_cases e:j=i'
    .subst e;rw [aD] at f;cases f
    .rw [ar _ _ e] at f;exact .inl ⟨j,f⟩
  refine⟨.slice base 0 0,w,_,_,src.idle rfl ty base 0 0 (Tl _),le,by rw [aD], ?_⟩;have gk:GK w ρ O w (aB ρ i' (some (.slice base 0 0))) (aB O i' none):=λj n=>⟨ar _ _ (aM hrl),ar _ _ (aM hrl),λ_ _=>rfl⟩;refine hs.go le gk (λj b' f=> ?_) (λj K f=> ?_) (λj f=> ?_) (λj n=>by rw [ar _ _ (aM hrl)];exact hs.dH j n) (λj k d f r=> ?_) (λj d f=> ?_)
  .by_cases e:j=i'
   .subst e;rw [aD] at f;cases f;right;refine⟨_,by rw [aD];rfl,⟨base,0,rfl,by simp, ?_,z, .inl rfl⟩,by simp⟩;simpa using F
   .rw [ar _ _ e] at f;exact .inl ⟨f,ar _ _ e,λ_ _=>rfl⟩
  .by_cases e:j=i'
   .subst e;rw [aD] at f;cases f
   .rw [ar _ _ e] at f;rw [ar _ _ e,ar _ _ e];exact hs.ch j K f
  .by_cases e:j=i'
   .subst e;rw [aD] at f;cases f
   .rw [ar _ _ e] at f;exact f
  .by_cases e:j=i'
   .subst e;rw [aD] at f;cases f
   .by_cases I:k=i'
    .subst I;rw [aD] at r;cases r
    .rw [ar _ _ e] at f;rw [ar _ _ I] at r;exact hs.inj j k d f r
  .by_cases e:j=i'
   .subst e;rw [aD] at f;cases f
   .rw [ar _ _ e] at f;exact hs.lt j d f
 .have G: 0 < g.length:=Wu.2 E;have x:(0+g.length) * ti.bytes<=140737488355328:=by
   have Z:P.bytesOf e=ti.bytes:=by simp [Program.bytesOf,m]
   rw [<-Z,TC];exact Bb C J
  have L:(Builtin.firstCells ti.size 0 (.slice base 0 0)).run P w.drew= .ok ([]:List Value).toArray w.drew:=by
   cases base with
   | none=>exact run_firstCells_none w.drew _ _ _ _
   | some a=>exact run_firstCells_some w.drew _ 0 a _ _ [] (by simp) (by simp)
  have V:=src.grow ty zv base 0 0 [] U L (by omega) (by have:=Bc C;omega) (growslice_fits (by omega) x);have S:zv.cells.size=ti.size:=by have:=(oS (w:=w) (A:=AA c w O) M).length;rw [Tu] at this;rw [this,R,D]
  have X:g.isEmpty=false:=by
   cases g with
   | nil=>simp at G
   | cons=>rfl
  have hge:=grownCap_ge w (0+g.length) 0 e;have q:Le w ρ O w.drew ρ O:=⟨rfl,rfl,rfl,Tl _,λ_ _ h=>h,λ_ _ _=>rfl,λi b h=> .inl ⟨i,h⟩⟩;have N:HS c w.drew h ρ O:=hs.world q λ_ _ _=>rfl;obtain⟨g1,g2⟩:=N.BR (hrl:=hrl) (sz:=P.cellsOf e) B e (([] ++vss.flatten).toArray++Builtin.zeroCells zv.cells (grownCap w (0+g.length) 0 e - (0+g.length))) (grownCap w (0+g.length) 0 e) (cm.mono (λb hb=>q.A b hb) l)
   (λp v hp=>Bm _ _ _ p v (by simpa using hp)) (by omega) (by
    simp only [WC,Uw,S8,l2,size_zeroCells,S,D,<-Vi];exact TK _ (by omega))
  refine⟨_,_,_,_,V,q.trans g1, ?_, ?_⟩
  .rw [aD,TC];rfl
  .simpa [X] using g2
theorem J6(h:Id->Option aa)(i j:Id)(a b:aa):aK h [(i,a),(j,b)]=aB (aB h i (some a)) j (some b):=rfl
theorem kL{d:Nat}{us:aH}{k:Nat}{b:aa}(a:iV d h us=true)(hm:(Id.s d k,b)∈us):h (.s d k)=none:=by have:=Tk.1 a _ hm;simpa using this
set_option maxHeartbeats 1000000 in
theorem Ir{i i' x:Id}{nx:Nat}{v vk:Value}(hr:x.real=true)(a:x≠i'):iD ρ i i' nx v vk x=ρ x:=by
 unfold iD;rw [if_neg a];cases x with
 | g y n=>cases hr
 | _=>rfl
theorem Iq{i i':Id}{nx:Nat}{v vk:Value}:iD ρ i i' nx v vk i'=some v:=by unfold iD;rw [if_pos rfl]
theorem Ce{i i' y:Id}{n nx:Nat}{v vk:Value}(hrl:i'.real=true)(hy:y≠i'):iD ρ i i' nx v vk (.g y n)=ρ (.g y n):=by unfold iD;rw [if_neg (aM hrl)];simp only [if_neg hy]
theorem Cd{i i' j src:Id}{nx:Nat}{ob:Option Nat}(h:src≠i'):eE O i i' j src nx ob src=none:=by unfold eE;rw [if_neg h,if_pos (.inr (.inr rfl))]
theorem PM{i i' j src x:Id}{nx:Nat}{ob:Option Nat}(hr:x.real=true)(a:x≠i')(h1:x≠i)(b:x≠j)(d:x≠src):eE O i i' j src nx ob x=O x:=by
 unfold eE;rw [if_neg a,if_neg (by rintro(h | h | h) <;> contradiction)];cases x with
 | g y n=>cases hr
 | _=>rfl
theorem PN{i i' j src y:Id}{n nx:Nat}{ob:Option Nat}(a:i.real=true)(b:j.real=true)(hrl:i'.real=true)(hy:y≠i')(d:y≠i)(e:Id.g y n≠src):eE O i i' j src nx ob (.g y n)=O (.g y n):=by unfold eE;rw [if_neg (aM hrl),if_neg (by rintro(h | h | h);exact aM a h;exact aM b h;exact e h)];simp only [if_neg hy,if_neg d]
theorem cR.gone{i i' j a:Id}{n nx:Nat}{ob:Option Nat}{v vk:Value}{b:Bool}{sz az rsz K:Nat}{es:List Row}{p:Bool×List (List T)}(hs:HS c w h ρ O)(I:i.real=true)(V:j.real=true)(hrl:i'.real=true)(S:h a=some (.rows b sz az rsz K es))(l:a≠i')(C:a≠i)(U:a≠j)(hf:bt n es=some p)
  (R:∀d,AA c w O d->AA c w' (eE O i i' j (.g a n) nx ob) d/\w'.heap[d]? =w.heap[d]?) (r:∀x d,x≠i->O x=some d->w'.heap[d]? =w.heap[d]?):
  cR w' (AA c w' (eE O i i' j (.g a n) nx ob)) (iD ρ i i' nx v vk) (eE O i i' j (.g a n) nx ob) a (.rows b sz az rsz K (dt n none es)):=by
 have G:=hs.real (i:=a) (by rw [S];simp);obtain⟨k,e,B,H,heo,M⟩:=xH hf;obtain⟨a',cap,r1,r2,r3,⟨W,X,n3,n4⟩,N⟩:=hs.ah a _ S;have Q:∀m,m≠n->eE O i i' j (.g a n) nx ob (.g a m)=O (.g a m):=λm hm=>PN I V hrl l C (by intro h;simp only [Id.g.injEq] at h;exact hm h.2);have J:(.g a n:Id)≠i':=aM hrl;rw [M];have E:(es.set k {e with own:=none}).length=es.length:=by simp
 have F:(es.set k {e with own:=none}).map (·.n)=es.map (·.n):=by
  rw [VS];refine Vo λm=> ?_;rw [Ue];split
  .rename_i h;subst h;have:=(Ta.1 B).1;rw [if_pos (by simpa using this)];simp [B]
  .rfl
 refine⟨a',cap,by rw [E,Ir G l];exact r1,by rw [E];exact r2,r3,⟨by rw [F];exact W,λf o=> ?_,λm hm=>by rw [Ce hrl l];exact n3 m hm,λm d z=> ?_⟩, ?_⟩
 .rcases Ty o with o | rfl
  .exact X f o
  .exact X e (SX B)
 .by_cases hm:m=n
  .subst hm;rw [Cd J] at z;cases z
  .rw [Q m hm] at z;obtain⟨f,o,D⟩:=n4 m d z;have:m∈(es.set k {e with own:=none}).map (·.n):=by rw [F];exact Tw.2 ⟨f,o,D⟩
   obtain⟨f',h1,h2⟩:=Tw.1 this;exact⟨f',h1,h2⟩
 .rcases N with N | ⟨ah,off,arr,t,q1,Y,q3,q4,Z⟩
  .exact .inl N
  .have q:w'.heap[ah]? =w.heap[ah]?:=r a ah C Y;refine .inr ⟨ah,off,arr,t,q1,by rw [PM G l C U (aM G).symm];exact Y,by rw [q];exact q3,q4, ?_⟩;have L:=Z.get B;refine bZ.set R (Ta.1 B).1 (λ_ _ _ _=>mY q) (λm f hm o=> ?_) ?_ Z
   .have D:f.n≠n:=λh=>hm (ur W o B (by rw [h,H]));exact⟨Ce hrl l,Q _ D,λd z=>r _ d (aM I) z⟩
   .obtain⟨a1,a2,a3,u,a4,a5,a7⟩:=L;refine⟨a1,a2,λm y hm hy=> ?_,u,by rw [mY q];exact a4,by rw [Ce hrl l];exact a5, ?_⟩
    .obtain⟨u',g1,g2⟩:=a3 m y hm hy;exact⟨u',by rw [mY q];exact g1,ax.mono R y u' g2⟩
    .simp only;rw [H];exact Cd J
theorem DE:∀{cs:List AV} {l:List T},eS cs=some l->l.length=cs.length/\∀(j:Nat) (x:T),l[j]? =some x->cs[j]? =some (AV.t x)
 | [],l,h=>by simp only [eS,SR] at h;subst h;simp
 | v::cs,l,h=>by
  cases v <;> simp only [eS,reduceCtorEq] at h;rename_i x;obtain⟨e,h1,h⟩:=SU.1 h;simp only [SR] at h;subst h;obtain⟨b,d⟩:=DE h1;refine⟨by simp [b],λj y a=> ?_⟩;cases j with
  | zero=>simpa using a
  | succ j=>simpa using d j y (by simpa using a)
theorem Kq{R:Type}{d:Nat}{t ty tr e e':TypeId}{ti:TypeInfo}{zs:List T}{i j:Id}{b:Bool}{sz az rsz nx:Nat}{es:List Row}{cs:List AV}{vx vy:Value}{K:AV->aH->Option R}{r:R}(hs:HS c w s.h ρ O)
  (ht:P.underlying t=some (.slice e)) (hty:P.underlying ty=some (.slice e')) (hz:jF P e=some zs) (hzl:zs.length=P.cellsOf e) (hby:P.bytesOf e<=8192) (Z:P.info? e=some ti)
  (hi:s.h i=some (.rows b sz az rsz nx es)) (hj:s.h j=some (.arr cs)) (hx:ρ i=some vx) (hy:ρ j=some vy) (f:pD P s d e i sz az rsz nx es j cs K=some r):
  ∃v us,K v us=some r/\(iV d s.h us=true->∃u w' ρ' O',(Builtin.append_ #[t,ty] tr #[vx,vy]).run P w= .ok u w'/\Le w ρ O w' ρ' O'/\HS c w' (aK s.h us) ρ' O'/\al w' (AA c w' O') ρ' v u):=by
 obtain⟨ti',zv,hti',hzv,hof⟩:=nX hz;rw [Z] at hti';cases hti';have C:P.cellsOf e=ti.size:=by simp [Program.cellsOf,Z]
 unfold pD at f;split at f
 .rename_i hcond;obtain⟨rfl,c1,c2,c3⟩:=hcond;replace f:=SU.1 f;obtain⟨l,hl,f⟩:=f;obtain⟨bj,q,tj,h1,h2,h3,h4,h5⟩:=hs.ah j _ hj;rw [hy] at h1;cases h1;obtain⟨a,cap,r1,r2,r3,r4,r5⟩:=hs.ah i _ hi;rw [hx] at r1;cases r1;have hri:=hs.real (i:=i) (by rw [hi];simp);have hrj:=hs.real (i:=j) (by rw [hj];simp);have hnl:q.toList.length=1 * ti.size:=by rw [h4.length,c1,C];omega
  obtain⟨ll,lg⟩:=DE hl;have src:Ad P t ty e ti (.slice (some ⟨bj,0,none⟩) 1 1) 1 q.toList w:= .uu ht Z (Src.ofSlice w hty ⟨bj,0,none⟩ 1 1 _ hnl (λp u y=>by
   rw [gM,TC,kH h3];simpa using y) (λu hu=>(h5 u hu).1))
  have G:∀n,small (P.bytesOf e) n=some ()->oD (P.bytesOf e) n:=by
   intro n hn;unfold small at hn;split at hn
   .assumption
   .simp at hn
  have key:∀(z s0:Id) (bb:Bool) (xs:List (List T)) (vk:Value) (X:aa),s.h s0≠none->s0≠i->s0≠j->(z=s0\/∃n,z= .g s0 n)->ρ z=some vk->cK w (AA c w O) rsz bb xs vk (λd=>O z=some d)->
    q.toList[az]? =some vk->small (P.bytesOf e) (es.length+1)=some ()->s.h (.s d 0)=none->
    (∀w' ob v,(∀D,AA c w O D->AA c w' (eE O i (.s d 0) j z nx ob) D/\w'.heap[D]? =w.heap[D]?)->(∀x D,x≠i->O x=some D->w'.heap[D]? =w.heap[D]?)->cR w' (AA c w' (eE O i (.s d 0) j z nx ob)) (iD ρ i (.s d 0) nx v vk) (eE O i (.s d 0) j z nx ob) s0 X)->
    ∃u w' ρ' O',(Builtin.append_ #[t,ty] tr #[.slice a es.length cap, .slice (some ⟨bj,0,none⟩) 1 1]).run P w= .ok u w'/\Le w ρ O w' ρ' O'/\
     HS c w' (aB (aB (aB (aB s.h i (some .dead)) j (some .dead)) s0 (some X)) (.s d 0) (some (.rows false (P.cellsOf e) az rsz (nx+1) (es++ [⟨nx,l,some (bb,xs)⟩])))) ρ' O'/\al w' (AA c w' O') ρ' (.own (.s d 0)) u:=by
   intro z s0 bb xs vk X q1 q2 q3 q4 q5 q6 q7 Y o hX;have hlr:l.length=P.cellsOf e:=by rw [ll,TT,c1]
   have hnr:∀m x,m≠az->l[m]? =some x->∃v,q.toList[m]? =some v/\ax w (AA c w O) x v:=by intro m x hm hx;have:=lg m x hx;rw [Ue,if_neg (WY hm)] at this;obtain⟨v,H,I⟩:=h4.get this;exact⟨v,H,by simpa [al] using I⟩
   by_cases J:es.length+1<=cap
   .rcases r5 with r5 | ⟨ah,off,arr,t',k1,k2,k3,k4,k5⟩
    .omega
    .subst k1;have hm:(es.length+1) * ti.size<=cap * ti.size:=TK _ J;rw [Vi] at hm;rw [C] at k4;have run:=src.Br tr ah off es.length cap arr t' k3 J k4;have lfit:off+es.length * ti.size+q.toList.length<=arr.toList.length:=by rw [hnl,Tu (xs:=arr)];omega
     have M:∀p,(w.setRow ah (bS (off+es.length * ti.size) q.toList arr.toList).toArray).cell? ⟨ah,p,none⟩=if off+es.length * ti.size<=p/\p < off+es.length * ti.size+q.toList.length then q.toList[p - (off+es.length * ti.size)]? else w.cell? ⟨ah,p,none⟩:=by intro p;rw [tz k3,VI,r9 _ _ _ lfit,kH k3];simp
     obtain⟨H,I⟩:=HS.Ip (i':= .s d 0) (j:=j) (src:=z) (s0:=s0) (bb:=bb) (xs:=xs) (vk:=vk) (X:=X) (ah:=ah) (blk':=ah) (off:=off) (off':=off) (cap':=cap) (ob:=O i) (news:=q.toList) (l:=l) (w':=w.setRow ah (bS (off+es.length * ti.size) q.toList arr.toList).toArray)
      hs hi o rfl (by rw [hj];simp) (WY c3) q1 q2 q3 q4 q5 q6 rfl rfl rfl (by rw [qg];exact Tl _) (λk _ f=>setRow_other w ah k _ λe=>f (e▸k2)) (.inl rfl) k2 (setRow_heap w ah arr _ t' (0,0) k3) (by rw [Uw,qe _ _ _ lfit,C];simpa using k4) J k5
      (λp y=>by rw [C] at y;have y:p < es.length * ti.size:=y;rw [M,if_neg (by omega)]) c2 hlr (λp v y=>by
       have W:=(Ta.1 y).1;rw [C,M,if_pos (by omega),show off+es.length * ti.size+p - (off+es.length * ti.size)=p by omega];exact y) hnr q7
      (λhA=>hX _ _ _ hA λx D hx hd=>setRow_other w ah D _ λe=>hx (hs.inj x i D hd (e▸k2)))
     exact⟨_,_,_,_,run,H,I,by simp only [al];exact Iq⟩
   .have hneed:(es.length+1) * ti.bytes<=140737488355328:=by
     have e1:P.bytesOf e=ti.bytes:=by simp [Program.bytesOf,Z]
     rw [<-e1];exact Bb (G _ Y) hby
    have hold:∃(B:List Value) (ah off:Nat),B.length=es.length * ti.size/\(Builtin.firstCells ti.size es.length (.slice a es.length cap)).run P w.drew= .ok B.toArray w.drew/\bZ w (AA c w O) ρ O i ah (P.cellsOf e) az rsz off es/\∀p v,B[p]? =some v->w.cell? ⟨ah,off+p,none⟩=some v:=by
     rcases r5 with r5 | ⟨ah,off,arr,t',k1,k2,k3,k4,k5⟩
     .have ex:es= []:=To.1 (by omega);subst ex;refine⟨[],0,0,by simp, ?_,trivial,by simp⟩;cases a with
      | none=>exact run_firstCells_none w.drew _ _ _ _
      | some a=>exact run_firstCells_some w.drew _ 0 a _ _ [] (by simp) (by simp)
     .subst k1;have hm:es.length * ti.size<=cap * ti.size:=TK _ r2;rw [C] at k4;have hlen:((arr.toList.drop off).take (es.length * ti.size)).length=es.length * ti.size:=by rw [T3,UK,Tu (xs:=arr)];omega
      have S:∀p v,((arr.toList.drop off).take (es.length * ti.size))[p]? =some v->w.cell? ⟨ah,off+p,none⟩=some v:=by
       intro p v y;rw [Vy] at y;split at y
       .rw [Vz] at y;rw [kH k3];simpa using y
       .cases y
      refine⟨_,ah,off,hlen, ?_,k5,S⟩;exact run_firstCells_some w.drew _ _ _ _ _ _ hlen (λp v y=>by rw [gM];simpa using S p v y)
    obtain⟨B,ah,off,ho1,ho2,ho3,ho4⟩:=hold;have U:cap < es.length+1:=by omega
    have run:=src.grow tr zv a es.length cap B hzv ho2 U (by have:=Bc (G _ Y);omega) (growslice_fits U hneed);have hzs:zv.cells.size=ti.size:=by have:=(oS (w:=w) (A:=AA c w O) hof).length;rw [Tu] at this;rw [this,hzl,C]
    have hge:=grownCap_ge w (es.length+1) cap e;have Q:∀p v,(B++q.toList)[p]? =some v->(w.drew.alloc (.cells ((B++q.toList).toArray++Builtin.zeroCells zv.cells (grownCap w (es.length+1) cap e - (es.length+1))) e)).cell? ⟨w.heap.size,p,none⟩=some v:=by intro p v y;refine(kH (w:=w.drew.alloc _) (b:=w.heap.size) (kN (w:=w.drew) _) _).trans ?_;exact Bm _ _ _ p v y
    obtain⟨H,I⟩:=HS.Ip (i':= .s d 0) (j:=j) (src:=z) (s0:=s0) (bb:=bb) (xs:=xs) (vk:=vk) (X:=X) (ah:=ah) (blk':=w.heap.size) (off:=off) (off':=0) (cap':=grownCap w (es.length+1) cap e) (ob:=some w.heap.size) (news:=q.toList) (l:=l)
     (w':=w.drew.alloc (.cells ((B++q.toList).toArray++Builtin.zeroCells zv.cells (grownCap w (es.length+1) cap e - (es.length+1))) e))
     hs hi o rfl (by rw [hj];simp) (WY c3) q1 q2 q3 q4 q5 q6 rfl rfl rfl (by simp) (λk f _=>TJ w.drew _ k f) (.inr ⟨rfl,by simp⟩) rfl (kN (w:=w.drew) _) (by
      simp only [WC,Uw,Uh,ho1,hnl,size_zeroCells,hzs,C,<-Vi,TC];exact TK _ (by omega)) hge ho3
     (λp y=>by
      rw [C] at y;have y:p < es.length * ti.size:=y;have W:p < B.length:=by omega
      rw [TC,ho4 p _ (SZ W)];exact Q p _ (by rw [Uj W];exact SZ W)) c2 hlr (λp v y=>by
      rw [C,TC];refine Q _ v ?_;rw [T4 (by omega),ho1,show es.length * ti.size+p - es.length * ti.size=p by omega];exact y) hnr q7
     (λhA=>hX _ _ _ hA λx D hx hd=>TJ w.drew _ D (hs.lt x D hd))
    exact⟨_,_,_,_,run,H,I,by simp only [al];exact Iq⟩
  split at f
  .rename_i j2 N;split at f
   .rename_i rsz' b' xs E;split at f
    .rename_i hrsz;subst hrsz;replace f:=aL f (.inl rfl);obtain⟨_,Y,f⟩:=f;refine⟨_,_,f,λo=> ?_⟩;have o:=kL o (k:=0) (b:= .rows false (P.cellsOf e) az rsz' (nx+1) (es++ [⟨nx,l,some (b',xs)⟩])) (by simp);obtain⟨vk,v1,L⟩:=h4.get N;simp only [al] at L;obtain⟨v',s1,s2⟩:=nQ hs E;rw [L] at s1;cases s1;have hr2:=hs.real (i:=j2) (by rw [E];simp);have n2:j2≠ .s d 0:=λe=>by rw [e,o] at E;cases E
     obtain⟨u,w',ρ',O',H,I,g3,g4⟩:=key j2 j2 b' xs vk .dead (by rw [E];simp) (λe=>by rw [e,hi] at E;cases E) (λe=>by rw [e,hj] at E;cases E) (.inl rfl) L (by simpa using s2) v1 (by assumption) o
      (λw' ob v hA V=>⟨⟨vk,by rw [Ir hr2 n2];exact L,kf hs L⟩,Cd n2⟩)
     exact⟨u,w',ρ',O',H,I,by rw [cY,cY,cY,dZ];exact g3,g4⟩
    .simp at f
   .simp at f
  .rename_i a2 n N;split at f
   .rename_i b2 sz2 col2 rsz2 nx2 es2 F;split at f
    .rename_i hc2;obtain⟨rfl,hai⟩:=hc2;replace f:=aL f (.inl rfl);obtain⟨p,y,f⟩:=f;replace f:=aL f (.inl rfl);obtain⟨_,Y,f⟩:=f;refine⟨_,_,f,λo=> ?_⟩;have o:=kL o (k:=0) (b:= .rows false (P.cellsOf e) az rsz2 (nx+1) (es++ [⟨nx,l,some p⟩])) (by simp);obtain⟨vk,v1,L⟩:=h4.get N;simp only [al] at L;obtain⟨v',s1,s2⟩:=yH hs F y;rw [L] at s1;cases s1;have n2:a2≠ .s d 0:=λe=>by rw [e,o] at F;cases F
     have n3:a2≠j:=λe=>by rw [e,hj] at F;cases F
     obtain⟨u,w',ρ',O',H,I,g3,g4⟩:=key (.g a2 n) a2 p.1 p.2 vk (.rows b2 sz2 col2 rsz2 nx2 (dt n none es2)) (by rw [F];simp) hai n3 (.inr ⟨n,rfl⟩) L s2 v1 (by assumption) o
      (λw' ob v hA V=>cR.gone hs hri hrj rfl F n2 hai n3 y hA V)
     exact⟨u,w',ρ',O',H,I,by rw [cY,cY,cY,dZ];exact g3,g4⟩
    .simp at f
   .simp at f
  .simp at f
 .simp at f
theorem Qn{h:Id->Option aa}{x:AV}{q:Id×Nat×Nat×Nat×Nat×List Row}(e:CA h x=some q):x= .own q.1/\∃b,h q.1=some (.rows b q.2.1 q.2.2.1 q.2.2.2.1 q.2.2.2.2.1 q.2.2.2.2.2):=by
 unfold CA at e;split at e
 .split at e
  .rename_i hi;simp only [SR] at e;subst e;exact⟨rfl,_,hi⟩
  .cases e
 .cases e
theorem Pr{h:Id->Option aa}{x:AV}{q:Id×List AV}(e:B4 h x=some q):x= .own q.1/\h q.1=some (.arr q.2):=by
 unfold B4 at e;split at e
 .split at e
  .rename_i hi;simp only [SR] at e;subst e;exact⟨rfl,hi⟩
  .cases e
 .cases e
theorem Ko{R:Type}{d:Nat}{rw:Bool}{t ty tr:TypeId}{x y:AV}{U vy:Value}{K:AV->aH->Option R}{r:R}(hs:HS c w s.h ρ O)(k:al w (AA c w O) ρ x U)(hy:al w (AA c w O) ρ y vy)
  (f:kF P s d rw t ty x y K=some r):
  ∃v us,K v us=some r/\(iV d s.h us=true->∃u w' ρ' O',(Builtin.append_ #[t,ty] tr #[U,vy]).run P w= .ok u w'/\Le w ρ O w' ρ' O'/\HS c w' (aK s.h us) ρ' O'/\al w' (AA c w' O') ρ' v u):=by
 unfold kF at f;replace f:=SU.1 f;obtain⟨e,he,f⟩:=f;replace f:=SU.1 f;obtain⟨zs,hz,f⟩:=f;obtain⟨J,hok⟩:=xz he;split at f
 .rename_i Q;obtain⟨q,B⟩:=Q;obtain⟨ti0,_,l,_,_⟩:=nX hz;split at f
  .rename_i i sz az rsz nx es j cs p D;cases rw with
   | false=>cases p
   | true=>
   obtain⟨rfl,b,hi⟩:=Qn p;obtain⟨rfl,hj⟩:=Pr D;simp only [al] at k hy;split at f
   .rename_i e' hu';exact Kq hs J hu' hz B q l hi hj k hy f
   .cases f
  rename_i hnr;clear hnr;replace f:=Ku hs J l (by simp [Program.cellsOf,l]) hz B q hy f;obtain⟨ys,vss,f,src,E⟩:=f;have m:∀n,small (P.bytesOf e) n=some ()->oD (P.bytesOf e) n:=by
   intro n Y;unfold small at Y;split at Y
   .assumption
   .simp at Y
  clear he hok;revert f;rcases x with _ | z | _ | _ | _ | _ | i | ⟨i,sz'',off,n⟩ | _ | _ | _ <;> intro f <;> (try dsimp only at f) <;> (try cases f)
  case own=>
   split at f
   .rename_i sz' b xs hi;split at f
    .rename_i I;subst I;replace f:=aL f (.inl rfl);obtain⟨_,hb,f⟩:=f;refine⟨_,_,f,λg=> ?_⟩;have g:=kL g SW;obtain⟨v',X,a,cap,q1,q2,q3,q4,G⟩:=nQ hs hi;simp only [al] at k;rw [X] at k;simp only [SR] at k;subst k;subst q1;obtain⟨v,w',ρ',O',p,D,e3,H⟩:=DJ (ty:=tr) hs (by rw [hi];simp) g J hz B q (m _ hb) q2 q3 q4 (by
      rcases G with G | ⟨ah,off,arr,tt,M,k2,k3,T,k5⟩
      .exact .inl G
      .exact .inr ⟨ah,off,arr,tt,M,by simpa using k2,k3,T,k5⟩) l src E
     exact⟨v,w',ρ',O',p,D,by rw [J6];exact H,by simp only [al];exact e3⟩
    .simp at f
   .simp at f
  case part=>
   split at f
   .rename_i sz' b xs hi;split at f
    .rename_i I;obtain⟨rfl,rfl⟩:=I;replace f:=aL f (.inl rfl);obtain⟨_,hb,f⟩:=f;refine⟨_,_,f,λg=> ?_⟩;have g:=kL g SW;obtain⟨v',X,a,cap,q1,q2,q3,q4,G⟩:=nQ hs hi;simp only [al] at k;obtain⟨a1,L,C,a',M,k2,k3,rfl,T⟩:=k;rw [X] at M;simp only [SR] at M;subst M;simp only [Uf] at q1;obtain⟨rfl,rfl,rfl⟩:=q1;have F:((xs.drop off).take n).length=n:=by simp only [T3,UK];omega
     have Z:a'=none↔b=true:=by
      rw [<-q3];rcases T with⟨_,rfl⟩ | ⟨_,N,_⟩ | ⟨V,o,rfl,rfl⟩
      .exact WX
      .exact N
      .simp
     have S:True:=trivial;obtain⟨v,w',ρ',O',p,D,e3,H⟩:=DJ (ty:=tr) (xs:=(xs.drop off).take n) (base:=a') (cap:=C - off) hs (by rw [hi];simp) g J hz B q (by rw [F];exact m _ hb) (by rw [F];omega) Z S (by
      rcases G with G | ⟨ah,off',arr,tt,j1,j2,j3,j4,j5⟩
      .exact .inl (by omega)
      .subst j1;rcases T with⟨rfl,rfl⟩ | ⟨rfl,_⟩ | ⟨V,o,N,rfl⟩
       .exact .inr ⟨ah,off',arr,tt,rfl,by simpa using j2,j3,by simpa using j4,by simpa using j5.take n⟩
       .exact .inl (by omega)
       .simp only [SR,T5] at N;obtain⟨rfl,rfl,_⟩:=N;refine .inr ⟨ah,_,arr,tt,rfl,by simpa using j2,j3, ?_,(j5.drop off).take n⟩;have:(C - off) * P.cellsOf e+off * P.cellsOf e=C * P.cellsOf e:=by rw [<-Vi];congr 1;omega
        omega) l src E
     rw [F] at p;exact⟨v,w',ρ',O',p,D,by rw [J6];exact H,by simp only [al];exact e3⟩
    .simp at f
   .simp at f
  case t=>
   have W:∀b,ax w (AA c w O) (.aO b) U->(ab none (small (P.bytesOf e) ys.length) λ_=>K (.own (.s d 0)) [(.s d 0, .sl false (P.cellsOf e) (b && ys.isEmpty) ys)])=some r->
     ∃v us,K v us=some r/\(iV d s.h us=true->∃u w' ρ' O',(Builtin.append_ #[t,ty] tr #[U,vy]).run P w= .ok u w'/\Le w ρ O w' ρ' O'/\HS c w' (aK s.h us) ρ' O'/\al w' (AA c w' O') ρ' v u):=by
    intro b k f;replace f:=aL f (.inl rfl);obtain⟨_,hb,f⟩:=f;refine⟨_,_,f,λg=> ?_⟩;have g:=kL g SW;obtain⟨v,w',ρ',O',p,D,e3,H⟩:=Kr (ty:=tr) hs g J hz B q (m _ hb) k l src E;exact⟨v,w',ρ',O',p,D,by rw [dZ];exact H,by simp only [al];exact e3⟩
   simp only [al] at k;replace f:=SU.1 f;obtain⟨b,hb,f⟩:=f;refine W b ?_ f;unfold HM at hb;split at hb
   .simp only [SR] at hb;subst hb;exact k
   .rename_i sz V xs;cases h:(V && xs.isEmpty) with
    | false=>rw [h] at hb;simp at hb
    | true=>
     rw [h] at hb;simp only [cond_true,SR] at hb;subst hb;simp only [S0,WJ] at h;simp only [ax] at k⊢;rcases k with⟨_,_,h1⟩ | ⟨h1,_⟩
     .exact .inl ⟨trivial,h1⟩
     .rw [h.1] at h1;cases h1
   .cases hb
 .simp at f
theorem Ox{zv:Array Value}{sz:Nat}(hz:zv.size=sz)(n:Nat):(madeCells zv (n * sz)).toList= (List.replicate n zv.toList).flatten:=by
 refine Vo λp=> ?_;by_cases a:p < n * sz
 .have h1:p < (List.replicate n zv.toList).flatten.length:=by simpa [hz] using a
  have:=BG hz n n (Tl _) p _ (SZ h1);rw [T1,this,SZ h1]
 .rw [TU (by simp [madeCells];omega),TU (by simp [hz];omega)]
theorem HN{rsz:Nat}{i:Id}{ah:Nat}:∀{k n base:Nat},(∀m,m < n->w.cell? ⟨ah,base+m,none⟩=some (.slice none 0 0))->(∀m,k<=m->m < k+n->ρ (.g i m)=some (.slice none 0 0))->
  bZ w A ρ O i ah 1 0 rsz base ((List.range' k n).map λk=>⟨k,[.aC],some (true,[])⟩)
 | k,0,base,_,_=>trivial
 | k,n+1,base,a,hr=>by
  rw [VQ,TQ];refine⟨⟨rfl,by omega,λj x e b=> ?_,_,a 0 (by omega),hr k (by omega) (by omega),⟨none,0,rfl,by simp,by simp,trivial, .inl rfl⟩⟩,HN (λm hm=> ?_) (λm h1 d=>hr m (by omega) (by omega))⟩
  .have:j < 1:=by simpa using (Ta.1 b).1
   omega
  .have:=a (m+1) (by omega);rw [show base+1+m=base+ (m+1) by omega];exact this
theorem HS.O9{i:Id}{N cap rsz:Nat}{cells:Array Value}(hs:HS c w h ρ O)(hi:h i=none)(t:TypeId)(E:∀p,p < N->cells[p]? =some (.slice none 0 0))(I:cap<=cells.size)(D:N<=cap)(hrl:i.real=true:=by rfl):
  ∃ρ' O',Le w ρ O (w.alloc (.cells cells t)) ρ' O'/\HS c (w.alloc (.cells cells t)) (aB h i (some (.rows false 1 0 rsz N (pY N)))) ρ' O'/\ρ' i=some (.slice (some ⟨w.heap.size,0,none⟩) N cap):=by
 let V:Id->Option Value:=λx=>if x=i then some (.slice (some ⟨w.heap.size,0,none⟩) N cap) else match x with
  | .g y n=>if y=i then(if n < N then some (.slice none 0 0) else none) else ρ (.g y n)
  | x=>ρ x
 have z:V i=some (.slice (some ⟨w.heap.size,0,none⟩) N cap):=by simp only [V,if_true]
 have B:∀x,x.real=true->x≠i->V x=ρ x:=by
  intro x hr a;simp only [V,if_neg a];cases x with
  | g y n=>cases hr
  | _=>rfl
 have o:∀y n,y≠i->V (.g y n)=ρ (.g y n):=by intro y n hy;simp only [V,if_neg (aM hrl),if_neg hy]
 have v:∀n,V (.g i n)=if n < N then some (.slice none 0 0) else none:=by intro n;simp only [V,if_neg (aM hrl),if_true]
 have C:∀n,O (.g i n)=none:=λn=>(hs.fq i n hi).2;have le:Le w ρ O (w.alloc (.cells cells t)) V (aB O i (some w.heap.size)):=by
  refine⟨rfl,rfl,rfl,by simp,λx u a=> ?_,λd j _=>TJ _ _ _ j,λx d a=> ?_⟩
  .cases hr:x.real with
   | true=>
    have:x≠i:=λe=>by rw [e,(hs.ch i hrl hi).1] at a;cases a
    rw [B x hr this];exact a
   | false=>
    cases x with
    | g y n=>
     have:y≠i:=λe=>by rw [e,(hs.fq i n hi).1] at a;cases a
     rw [o y n this];exact a
    | _=>cases hr
  .by_cases e:x=i
   .rw [e,aD] at a;cases a;exact .inr (Tl _)
   .rw [ar _ _ e] at a;exact .inl ⟨x,a⟩
 have r:(pY N).length=N:=by simp [pY]
 refine⟨V,_,le,hs.oF le (λx y a=> ?_) (λx hr a=> ?_) (λx n=>by rw [ar _ _ (aM hrl)];exact hs.dH x n) (λx n a=> ?_) (λx n u l=> ?_) (λx y d a hy=> ?_) (λx d a=> ?_),z⟩
 .by_cases e:x=i
  .subst e;rw [aD] at a;cases a;right;refine⟨_,cap,by rw [r];exact z,by rw [r];exact D,by simp,⟨?_,λf F=> ?_,λn J=>by rw [v,if_neg (by omega)],λn d j=> ?_⟩, .inr ⟨w.heap.size,0,cells,t,rfl,by rw [aD],kN _,by omega, ?_⟩⟩
   .have:(pY N).map (·.n)=List.range N:=by
     unfold pY;rw [VD];exact List.map_id _
    rw [this];exact List.nodup_range
   .obtain⟨k,G,rfl⟩:=Tw.1 F;simpa using G
   .rw [ar _ _ (aM hrl),C] at j;cases j
   .unfold pY;rw [Wj];refine HN (λm hm=> ?_) (λm _ hm=>by rw [v,if_pos (by omega)]);rw [kH (kN _),TC];exact E m hm
  .rw [ar _ _ e] at a;have H:=hs.real (i:=x) (by rw [a];simp);exact .inl ⟨a,ar _ _ e,λd j=>TJ _ _ _ (hs.lt x d j),λn=>⟨o x n e,ar _ _ (aM hrl),λd j=>TJ _ _ _ (hs.lt _ d j)⟩⟩
 .have b:x≠i:=λe=>by rw [e,aD] at a;cases a
  rw [ar _ _ b] at a;rw [B x hr b,ar _ _ b];exact hs.ch x hr a
 .have b:x≠i:=λe=>by rw [e,aD] at a;cases a
  rw [ar _ _ b] at a;rw [o x n b,ar _ _ (aM hrl)];exact hs.fq x n a
 .by_cases b:x=i
  .subst b;rw [v] at l;split at l
   .simp only [SR] at l;subst l;exact⟨rfl,rfl⟩
   .cases l
  .rw [o x n b] at l;exact hs.gone x n u l
 .by_cases e:x=i <;> by_cases q:y=i
  .rw [e,q]
  .rw [e,aD] at a;cases a;rw [ar _ _ q] at hy;exact absurd (hs.lt _ _ hy) (Vq _)
  .rw [q,aD] at hy;cases hy;rw [ar _ _ e] at a;exact absurd (hs.lt _ _ a) (Vq _)
  .rw [ar _ _ e] at a;rw [ar _ _ q] at hy;exact hs.inj x y d a hy
 .by_cases e:x=i
  .rw [e,aD] at a;cases a;simp
  .rw [ar _ _ e] at a;have:=hs.lt x d a;simp;omega
theorem Oz{R:Type}{d:Nat}{t:TypeId}{Q:Nat}{n m:T}{vn vm:Value}{K:AV->aH->Option R}{r:R}(hs:HS c w s.h ρ O)(I:al w (AA c w O) ρ (.t n) vn)(hm:al w (AA c w O) ρ (.t m) vm)
  (a:rR P d t Q n m K=some r):
  ∃v us,K v us=some r/\(iV d s.h us=true->∃u w' ρ' O',(Instr.makeSlice t vn vm).run P w= .ok u w'/\Le w ρ O w' ρ' O'/\HS c w' (aK s.h us) ρ' O'/\al w' (AA c w' O') ρ' v u):=by
 unfold rR at a;replace a:=SU.1 a;obtain⟨e,V,a⟩:=a;replace a:=SU.1 a;obtain⟨zs,hz,a⟩:=a;obtain⟨L,X⟩:=xz V;replace a:=aL a (.inl rfl);obtain⟨N,J,a⟩:=a;replace a:=aL a (.inl rfl);obtain⟨j,H,a⟩:=a;have:=T.fX J;subst this;have:=T.fX H;subst this;simp only [al,ax] at I hm;subst I;subst hm;split at a
 .rename_i B;obtain⟨C,x⟩:=B;replace a:=aL a (.inl rfl);obtain⟨_,hb,a⟩:=a;obtain⟨E,h1,F⟩:=Hn hb;cases D:(Q==2) with
  | true=>
   simp only [D,cond_true] at a;split at a
   .rename_i u Y;split at a
    .rename_i G;refine⟨_,_,a,λb=> ?_⟩;have b:=kL b SW;obtain⟨zv,g,z⟩:=IL (w:=w) (A:=AA c w O) (kn:= .i64) (km:= .i64) L hz C x E h1 F;have y:zv.cells.size=P.cellsOf e:=by have:=g.length;rw [Tu] at this;omega
     have M:zv.cells.toList= [.slice none 0 0]:=by
      obtain⟨v,q,S,f,l⟩:=g;simp only [aR] at l;rw [S,l];simp only [ax] at f;rcases f with⟨_,f⟩ | ⟨f,_⟩
      .rw [f]
      .cases f
     have o:∀p,p < N.toNat->(madeCells zv.cells (j.toNat * P.cellsOf e))[p]? =some (.slice none 0 0):=by
      intro p Z;rw [<-T1,Ox y,M];have:(List.replicate j.toNat [Value.slice none 0 0]).flatten=List.replicate j.toNat (.slice none 0 0):=by
       induction j.toNat with
       | zero=>rfl
       | succ k W=>rw [TX,U6,W];rfl
      rw [this,UJ,if_pos (by omega)]
     obtain⟨ρ',O',f,l,U⟩:=hs.O9 (i:= .s d 0) (rsz:=P.cellsOf u) b e o (cap:=j.toNat) (by simp [madeCells,G]) (by omega);refine⟨_,_,ρ',O',z,f, ?_, ?_⟩
     .rw [dZ];with_reducible exact l
     .simp only [al];exact U
    .simp at a
   .simp at a
  | false=>
  simp only [D,cond_false] at a;refine⟨_,_,a,λb=> ?_⟩;have b:=kL b SW;obtain⟨zv,g,z⟩:=IL (w:=w) (A:=AA c w O) (kn:= .i64) (km:= .i64) L hz C x E h1 F;have y:zv.cells.size=P.cellsOf e:=by have:=g.length;rw [Tu] at this;omega
  obtain⟨f,l⟩:=hs.BR (i:= .s d 0) (sz:=P.cellsOf e) b e (madeCells zv.cells (j.toNat * P.cellsOf e)) j.toNat (cm.replicate g x N.toNat)
   (BG y _ _ (by omega)) (by simp;omega) (by simp [madeCells])
  refine⟨_,_,_,_,z,f,by rw [dZ];exact l, ?_⟩;simp only [al];rw [aD,UD]
 .simp at a
end
open Go
section
variable {P:Program} {w w':World} {A A':Nat->Prop} {c:Ctx} {ρ:Id->Option Value} {O:Id->Option Nat} {s:St} {cc:Option Bool} {h:Id->Option aa}
theorem GQ{t:TypeId}{x:AV}{i:Value}{b:Bool}(hs:HS c w s.h ρ O)(g:al w (AA c w O) ρ x i)(h:jz P s t x=some b)(o:Operand)(u:oQ P t o=true)(a:Act)(m n:Operand):
  ((eqGuard .eql t m n i (a.eval o)).run P w= .ok () w/\(binOp .eql t i (a.eval o)).run P w= .ok (.bool b) w)/\
  ((eqGuard .neq t m n i (a.eval o)).run P w= .ok () w/\(binOp .neq t i (a.eval o)).run P w= .ok (.bool (!b)) w)/\
  ((eqGuard .eql t m n (a.eval o) i).run P w= .ok () w/\(binOp .eql t (a.eval o) i).run P w= .ok (.bool b) w)/\
  ((eqGuard .neq t m n (a.eval o) i).run P w= .ok () w/\(binOp .neq t (a.eval o) i).run P w= .ok (.bool (!b)) w):=by
 unfold oQ at u;split at u
 .rename_i e j;have key:∃p l k,i= .slice p l k/\p.isNone=b:=by
   unfold jz at h;rw [j] at h;dsimp only at h;split at h
   .rename_i sz B xs;simp only [SR] at h;subst h;simp only [al,ax] at g;rcases g with⟨rfl,_,rfl⟩ | ⟨rfl,_,_,_,_,rfl,_⟩
    .exact⟨_,_,_,rfl,rfl⟩
    .exact⟨_,_,_,rfl,rfl⟩
   .simp only [SR] at h;subst h;simp only [al,ax] at g;rcases g with⟨rfl,rfl⟩ | ⟨rfl,_,_,_,rfl⟩
    .exact⟨_,_,_,rfl,rfl⟩
    .exact⟨_,_,_,rfl,rfl⟩
   .split at h
    .rename_i hi;simp only [SR] at h;subst h;obtain⟨G,z,a,cap,q1,C,v,D,F⟩:=nQ hs hi;simp only [al] at g;rw [z] at g;simp only [SR] at g;subst g;subst q1;refine⟨_,_,_,rfl, ?_⟩;cases a with
     | none=>simpa using v
     | some a=>
      have:¬(_=true):=λe=>by have:=v.2 e;simp at this
      simpa using this
    .simp at h
   .simp at h
  obtain⟨p,l,k,rfl,rfl⟩:=key;simp only [Act.eval];have q:(Op.equal t (.slice p l k) (.slice none 0 0)).run P w= .ok p.isNone w:=by
   have:∀d,(Op.equalIn (d+1) t (.slice p l k) (.slice none 0 0)).run P w= .ok p.isNone w:=by intro d;cases p <;> simp [Op.equalIn,run_underlying j]
   exact this 9999
  have r:(Op.equal t (.slice none 0 0) (.slice p l k)).run P w= .ok p.isNone w:=by
   have:∀d,(Op.equalIn (d+1) t (.slice none 0 0) (.slice p l k)).run P w= .ok p.isNone w:=by intro d;simp [Op.equalIn,run_underlying j]
   exact this 9999
  refine⟨⟨by simp [eqGuard], ?_⟩,⟨by simp [eqGuard], ?_⟩,⟨by simp [eqGuard], ?_⟩,⟨by simp [eqGuard], ?_⟩⟩ <;> simp only [binOp] <;> simp [q,r]
 .rename_i e j;have key:∃p,i= .pointer p/\p.isNone=b:=by
   unfold jz at h;rw [j] at h;dsimp only at h;split at h
   .simp only [SR] at h;subst h;simp only [al,ax] at g;obtain⟨_,_,rfl,_⟩:=g;exact⟨_,rfl,rfl⟩
   .simp only [SR] at h;subst h;simp only [al,ax] at g;subst g;exact⟨_,rfl,rfl⟩
   .simp only [SR] at h;subst h;simp only [al] at g;obtain⟨_,_,rfl⟩:=g;exact⟨_,rfl,rfl⟩
   .simp only [SR] at h;subst h;simp only [al] at g;obtain⟨_,_,_,_,_,rfl⟩:=g;exact⟨_,rfl,rfl⟩
   .simp at h
  obtain⟨p,rfl,rfl⟩:=key;simp only [Act.eval];have q:(Op.equal t (.pointer p) (.pointer none)).run P w= .ok p.isNone w:=by
   have:∀d,(Op.equalIn (d+1) t (.pointer p) (.pointer none)).run P w= .ok p.isNone w:=by intro d;cases p <;> simp [Op.equalIn,run_underlying j]
   exact this 9999
  have r:(Op.equal t (.pointer none) (.pointer p)).run P w= .ok p.isNone w:=by
   have:∀d,(Op.equalIn (d+1) t (.pointer none) (.pointer p)).run P w= .ok p.isNone w:=by intro d;simp [Op.equalIn,run_underlying j]
   exact this 9999
  refine⟨⟨by simp [eqGuard], ?_⟩,⟨by simp [eqGuard], ?_⟩,⟨by simp [eqGuard], ?_⟩,⟨by simp [eqGuard], ?_⟩⟩ <;> simp only [binOp] <;> simp [q,r]
 .rename_i j;have key:(i= .nilFunc/\b=true)\/(∃f x y,i= .func f x y/\b=false):=by
   unfold jz at h;rw [j] at h;dsimp only at h;split at h
   .simp only [SR] at h;subst h;simp only [al,ax] at g;exact .inl ⟨g,rfl⟩
   .simp only [SR] at h;subst h;simp only [al] at g;obtain⟨_,_,rfl,_⟩:=g;exact .inr ⟨_,_,_,rfl,rfl⟩
   .simp at h
  simp only [Act.eval];have E:(Op.equal t i .nilFunc).run P w= .ok b w/\(Op.equal t .nilFunc i).run P w= .ok b w:=by
   constructor
   .have:∀d,(Op.equalIn (d+1) t i .nilFunc).run P w= .ok b w:=by intro d;rcases key with⟨rfl,rfl⟩ | ⟨f,x,y,rfl,rfl⟩ <;> simp [Op.equalIn,run_underlying j]
    exact this 9999
   .have:∀d,(Op.equalIn (d+1) t .nilFunc i).run P w= .ok b w:=by intro d;rcases key with⟨rfl,rfl⟩ | ⟨f,x,y,rfl,rfl⟩ <;> simp [Op.equalIn,run_underlying j]
    exact this 9999
  rcases key with⟨rfl,rfl⟩ | ⟨f,x,y,rfl,rfl⟩ <;>
  refine⟨⟨by simp [eqGuard], ?_⟩,⟨by simp [eqGuard], ?_⟩,⟨by simp [eqGuard], ?_⟩,⟨by simp [eqGuard], ?_⟩⟩ <;> simp only [binOp] <;> simp [E.1,E.2]
 .rename_i j;have key:i= .map none/\b=true:=by
   unfold jz at h;rw [j] at h;dsimp only at h;split at h
   .simp only [SR] at h;subst h;simp only [al,ax] at g;exact⟨g,rfl⟩
   .simp at h
  simp only [Act.eval];obtain⟨rfl,rfl⟩:=key;have E:(Op.equal t (.map none) (.map none)).run P w= .ok true w:=by
   have:∀d,(Op.equalIn (d+1) t (.map none) (.map none)).run P w= .ok true w:=by intro d;simp [Op.equalIn,run_underlying j]
   exact this 9999
  refine⟨⟨by simp [eqGuard], ?_⟩,⟨by simp [eqGuard], ?_⟩,⟨by simp [eqGuard], ?_⟩,⟨by simp [eqGuard], ?_⟩⟩ <;> simp only [binOp] <;> simp [E]
 .simp at u
theorem La{R:Type}{src e:TypeId}{x:T}{j:Value}{K:T->Option R}{r:R}(i:cc=none\/cc=some true)(d:ax w A x j)(a:rm P cc src e x K=some r):
  ∃z v,K z=some r/\(convert src e j).run P w= .ok v w/\ax w A z v:=by
 unfold rm at a;split at a
 .rename_i k l g b;replace a:=aL a i;obtain⟨n,f,a⟩:=a;have:=T.fX f;subst this;simp only [ax] at d;subst d;exact⟨_,_,a,by simp [convert,run_underlying g,run_underlying b,Conv.intToInt],gr _ _ _ _⟩
 .rename_i g b;replace a:=aL a i;obtain⟨n,f,a⟩:=a;have:=T.ko f;subst this;simp only [ax] at d;subst d;exact⟨_,_,a,by simp [convert,run_underlying g,run_underlying b],lX _ _ _⟩
 .simp at a
theorem D6:∀{xs:List (List T)} {l:List UInt8} {vss:List (List Value)},bytesOf xs=some l->cm w A 1 xs vss->∃a:List Int,vss.flatten=a.map (Value.int .u8)/\l=a.map (λn=>UInt8.ofNat n.toNat)
 | [],l,vss,e,h=>by simp only [cm] at h;subst h;simp only [bytesOf,SR] at e;subst e;exact⟨[],rfl,rfl⟩
 | cs::xs,l,vss,e,⟨vs,r,i,b,e3,j⟩=>by
  subst i;simp only [bytesOf] at e;obtain⟨x,g,e⟩:=SU.1 e;obtain⟨n,o,e⟩:=SU.1 e;obtain⟨q,p,e⟩:=SU.1 e;simp only [SR] at e;subst e;obtain⟨a,k,m⟩:=D6 p j;have:=T.fX o;subst this;cases cs with
  | nil=>simp at b
  | cons y cs=>simp only [Ut,SR] at g;subst g;have:cs= []:=To.1 (by simpa using b);subst this;obtain⟨v,t,rfl,d,f⟩:=e3;simp only [aR] at f;subst f;simp only [ax] at d;subst d;exact⟨n::a,by simp [k],by simp [m]⟩
theorem Is:∀(a:List Int) (b:ByteArray),a.foldl (λr n=>r.push (UInt8.ofNat n.toNat)) b= ⟨b.data++ (a.map (λn=>UInt8.ofNat n.toNat)).toArray⟩
 | [],b=>by simp
 | n::a,b=>by rw [List.foldl_cons,Is a];simp [ByteArray.push]
theorem KR{src b e:TypeId}{x:AV}{y:T}{o:Value}{p:Bool×List (List T)}{l:List UInt8}(hs:HS c w s.h ρ O)(m:P.underlying src=some (.slice e))(f:P.underlying b=some .string)(i:P.underlying e=some (.int .u8))
  (B:al w (AA c w O) ρ x o) (hy:du s.h x=some y) (z:y.aP 1=some p) (d:bytesOf p.2=some l):(convert src b o).run P w= .ok (.string ⟨l.toArray⟩) w:=by
 rcases Ju hs B hy z with⟨n,rfl | ⟨a,cap,rfl⟩⟩ | ⟨ah,off,cap,rfl,k⟩
 .rw [n] at d;simp only [bytesOf,SR] at d;subst d;rw [run_convert_bytes_string w src b e _ _ _ m i f];simp [Conv.bytesToString];rfl
 .rw [n] at d;simp only [bytesOf,SR] at d;subst d;rw [run_convert_bytes_string w src b e _ _ _ m i f,run_bytesToString w a 0 cap [] (run_loadCells_list (P:=P) w a [] (by simp))];rfl
 .obtain⟨vss,h1,t⟩:=k.bc;obtain⟨E,C⟩:=h1.length;obtain⟨D,q,r⟩:=D6 d h1;rw [run_convert_bytes_string w src b e _ _ _ m i f,run_bytesToString w _ _ cap D ?_,Is]
  .rw [r];simp
  .rw [<-q];have g:=run_loadCells_list (P:=P) w ⟨ah,off,none⟩ vss.flatten (λj v u=>by rw [gM];exact t j v u);rw [C,Wp] at g;exact g
theorem On{R:Type}{t:TypeId}(f:bL P t=true){cs:List AV}{arr:Array Value}{off:Nat}{K:AV->Option R}{r:R}(hr:ay w A ρ cs (arr.toList.drop off))(h1:∀u∈arr.toList,u.oneCell'=true/\u.cells= #[u])(h:nA P t cs K=some r):
  ∃av v,K av=some r/\(part t arr off).run P w= .ok v w/\al w A ρ av v:=by
 unfold nA at h;unfold part;simp only [Tp,se f,Td];cases hb:bm P t
 .simp only [hb,cond_false] at h;cases cs with
  | nil=>simp at h
  | cons y cs=>
   simp only [Ut,S9] at h;simp only [ay] at hr;obtain⟨v,q,e,a,_⟩:=hr;have b:off < arr.toList.length:=by
    rcases Wb off arr.toList.length with g | g
    .exact g
    .rw [U9 g] at e;simp at e
   rw [UB b] at e;simp only [UT] at e;have:arr[off]? =some v:=by rw [Vg (by simpa using b)];rw [<-e.1];simp
   simp only [Tv,if_false,this];exact⟨_,v,h,by simp,a⟩
 .simp only [hb,cond_true] at h;cases d:nV (P.cellsOf t) cs with
  | none=>simp [d] at h
  | some l=>simp only [d,S9] at h;obtain⟨i,k⟩:=CW d;have a:=hr.take (P.cellsOf t);rw [<-i] at a;refine⟨_, .agg (arr.extract off (off+P.cellsOf t)),h,by simp only [if_true,Tp,jd f,Td,TD], ?_⟩;simp only [al];refine⟨_, ?_,a,λu j=>h1 u (UL (Uy j))⟩;congr 1;apply Vj;simp [Wi,VM]
theorem Ns{R:Type}{t:TypeId}{x:AV}{d:Value}{f:Nat}{K:AV->Option R}{r:R}(b:al w A ρ x d)(h:rE P t x f K=some r):
  ∃av v,K av=some r/\(Instr.field t d f).run P w= .ok v w/\al w A ρ av v:=by
 unfold rE at h;split at h
 .rename_i off u k;obtain⟨o,y,h1,i,a,j⟩:=A9 k;simp only [T0] at a;obtain⟨rfl,rfl⟩:=a;split at h
  .rename_i vs;simp only [al] at b;obtain⟨n,rfl,e,g⟩:=b;obtain⟨av,v,l,k2,m⟩:=On (arr:=n.toArray) j (by simpa using e.drop y.offset) (by simpa using g) h;exact⟨av,v,l,by simp [Instr.field,run_underlying h1,i,asAgg,k2],m⟩
  .simp at h
 .simp at h
theorem Om{R:Type}{t:TypeId}(i:bL P t=true){cs:List T}{arr:Array Value}{off:Nat}{K:AV->Option R}{r:R}(b:cc=none\/cc=some true)(hr:aR w A cs (arr.toList.drop off))(h:kP P t cc cs K=some r):
  ∃av v,K av=some r/\(part t arr off).run P w= .ok v w/\al w A ρ av v:=by
 unfold kP at h;unfold part;simp only [Tp,se i,Td];cases hb:bm P t
 .simp only [hb,cond_false] at h;replace h:=aL h b;obtain⟨x,f,h⟩:=h;cases cs with
  | nil=>simp at f
  | cons y cs=>
   simp only [Ut,SR] at f;subst f;obtain⟨v,q,e,a,_⟩:=hr;have d:off < arr.toList.length:=by
    rcases Wb off arr.toList.length with g | g
    .exact g
    .rw [U9 g] at e;simp at e
   rw [UB d] at e;simp only [UT] at e;have:arr[off]? =some v:=by rw [Vg (by simpa using d)];rw [<-e.1];simp
   simp only [Tv,if_false,this];obtain⟨z,h,a⟩:=pg b a h;exact⟨_,v,h,by simp,by simpa [al] using a⟩
 .simp only [hb,cond_true] at h;obtain⟨l,k,m,h⟩:=yW b h;have a:=hr.take (P.cellsOf t);rw [<-k] at a;obtain⟨n,h,j⟩:=uW b a h;refine⟨_, .agg (arr.extract off (off+P.cellsOf t)),h,by simp only [if_true,Tp,jd i,Td,TD], ?_⟩;simp only [al];refine⟨_, ?_,ay.lU j,a.one⟩;congr 1;apply Vj;simp [Wi,VM]
theorem BK{R:Type}{k:IntKind}(f:cc=none\/cc=some true)(d:Bool):∀{l:List T} {a:Int} {vs:List Value} {K:T->Option R} {r:R},aR w A l vs->oM k cc d a l K=some r->
  ∃n,K (.int k n)=some r/\(vs.foldlM (cond d Builtin.max2 Builtin.min2) (.int k a)).run P w= .ok (.int k n) w
 | [],a,vs,K,r,hv,h=>by simp only [aR] at hv;subst hv;exact⟨a,h,by simp⟩
 | y::l,a,vs,K,r,⟨v,q,e,h1,j⟩,h=>by
  subst e;simp only [oM] at h;replace h:=aL h f;obtain⟨b,hb,h⟩:=h;have:=T.fX hb;subst this;simp only [ax] at h1;subst h1;obtain⟨n,g,i⟩:=BK f d j h;refine⟨n,g, ?_⟩;rw [List.foldlM_cons];have:((cond d Builtin.max2 Builtin.min2) (.int k a) (.int k b)).run P w= .ok (.int k (mm d a b)) w:=by cases d <;> simp [Builtin.max2,Builtin.min2,mm]
  simp only [Tp,this,Td];exact i
end
open Go
def fC(O:Id->Option Nat)(b:Nat):Prop:= ∃i,O i=some b
def jL(a:List aa):Id->Option aa
 | .c j=>a[j]?
 | _=>none
section
variable {P:Program} {w w':World} {A A':Nat->Prop} {c:Ctx} {ρ:Id->Option Value} {O:Id->Option Nat} {s s':St} {h:Id->Option aa}
def nw:Option aa->List Id
 | some (.box cs)=>bQ cs
 | some (.arr cs)=>bQ cs
 | _=> []
theorem uF:∀{n:Nat} {todo d seen:List Id},eY h n todo d=some seen->d.Nodup->(∀i∈d,h i≠none)->(∀i∈d,∀j∈nw (h i),j∈d\/j∈todo)->
  seen.Nodup/\(∀i∈d,i∈seen)/\(∀i∈todo,i∈seen)/\(∀i∈seen,h i≠none)/\∀i∈seen,∀j∈nw (h i),j∈seen
 | 0,todo,d,seen,e,_,_,_=>by simp [eY] at e
 | n+1,[],d,seen,e,t,r,q=>by simp only [eY,SR] at e;subst e;exact⟨t,λ_ h=>h,by simp,r,λi hi j m=>by rcases q i hi j m with h | h;exact h;cases h⟩
 | n+1,i::todo,d,seen,e,t,r,q=>by
  simp only [eY] at e;cases l:d.contains i with
  | true=>
   rw [l,cond_true] at e;have hi:i∈d:=by simpa using l
   obtain⟨u,p,v,x,y⟩:=uF e t r (λk f j m=>by
    rcases q k f j m with h | h
    .exact .inl h
    .rcases Tg.1 h with rfl | h
     .exact .inl hi
     .exact .inr h)
   refine⟨u,p,λk f=> ?_,x,y⟩;rcases Tg.1 f with rfl | f
   .exact p _ hi
   .exact v k f
  | false=>
   rw [l,cond_false] at e;have E:i∉d:=by
    intro hm;have:d.contains i=true:=by simpa using hm
    rw [this] at l;cases l
   have C:(d++ [i]).Nodup:=UC.2 ⟨t,by simp,λa F b hb z=>by simp only [Tc] at hb;exact E (by rw [<-hb,<-z];exact F)⟩;have go:∀g:List Id,h i≠none->nw (h i)=g->eY h n (todo++g) (d++ [i])=some seen->_:=λg D hm e=>
    uF e C (λk f=>by
     rcases Tm.1 f with f | f
     .exact r k f
     .simp only [Tc] at f;subst f;exact D) (λk f j m=>by
     rcases Tm.1 f with f | f
     .rcases q k f j m with h | h
      .exact .inl (Tf _ h)
      .rcases Tg.1 h with rfl | h
       .exact .inl (Te _ (Tc.2 rfl))
       .exact .inr (Tf _ h)
     .simp only [Tc] at f;subst f;rw [hm] at m;exact .inr (Te _ m))
   have o:∀g:List Id,(seen.Nodup/\(∀k∈d++ [i],k∈seen)/\(∀k∈todo++g,k∈seen)/\(∀k∈seen,h k≠none)/\∀k∈seen,∀j∈nw (h k),j∈seen)->
     seen.Nodup/\(∀i∈d,i∈seen)/\(∀k∈i::todo,k∈seen)/\(∀i∈seen,h i≠none)/\∀i∈seen,∀j∈nw (h i),j∈seen:=by
    rintro g ⟨u,p,v,x,y⟩;refine⟨u,λk f=>p k (Tf _ f),λk f=> ?_,x,y⟩;rcases Tg.1 f with rfl | f
    .exact p _ (Te _ (Tc.2 rfl))
    .exact v k (Tf _ f)
   split at e
   .rename_i cs hi;exact o _ (go (bQ cs) (by rw [hi];simp) (by rw [hi];rfl) e)
   .rename_i cs hi;exact o _ (go (bQ cs) (by rw [hi];simp) (by rw [hi];rfl) e)
   .rename_i b hb B hi;refine o [] (go [] (by rw [hi];simp) ?_ (by simpa using e));rw [hi];cases b with
    | box cs=>exact(hb cs rfl).elim
    | arr cs=>exact(B cs rfl).elim
    | _=>rfl
   .simp at e
def cd{a:Type}(m:List Id)(f:Id->Option a):Id->Option a
 | .c j=>(m[j]?).bind f
 | .g (.c j) n=>(m[j]?).bind λi=>f (.g i n)
 | _=>none
theorem yG{a:Type}{m:List Id}{f:Id->Option a}{i:Id}(hi:i∈m):cd m f (.c (m.idxOf i))=f i:=by simp only [cd];have:m.idxOf i < m.length:=Xl.2 hi;rw [SZ this];simp
theorem IE{a:Type}{m:List Id}{f:Id->Option a}{i:Id}{n:Nat}(hi:i∈m):cd m f (.g (.c (m.idxOf i)) n)=f (.g i n):=by simp only [cd];have:m.idxOf i < m.length:=Xl.2 hi;rw [SZ this];simp
def ph(seen:List Id):Id->Option Id
 | .c j=>seen[j]?
 | .g (.c j) n=>(seen[j]?).map λi=> .g i n
 | _=>none
theorem IF{a:Type}{m:List Id}{f:Id->Option a}(i:Id):cd m f i= (ph m i).bind f:=by
 cases i with
 | c j=>rfl
 | s d j=>rfl
 | g i n=>
  cases i with
  | c j=>simp only [cd,ph];cases m[j]? <;> rfl
  | _=>rfl
theorem Sx{seen:List Id}(t:seen.Nodup){i j k:Id}(hr:∀x∈seen,x.real=true)(hi:ph seen i=some k)(r:ph seen j=some k):i=j:=by
 have inj:∀{a b:Nat} {x:Id},seen[a]? =some x->seen[b]? =some x->a=b:=by intro a b x h1 e;obtain⟨u,p⟩:=Ta.1 h1;obtain⟨v,q⟩:=Ta.1 e;exact(List.getElem_inj t).1 (p.trans q.symm)
 have l:∀i,ph seen i=some k->(∃a,i= .c a/\seen[a]? =some k)\/∃a n x,i= .g (.c a) n/\seen[a]? =some x/\k= .g x n:=by
  intro i hi;cases i with
  | c a=>exact .inl ⟨a,rfl,hi⟩
  | s d a=>cases hi
  | g i n=>
   cases i with
   | c a=>simp only [ph,Vv] at hi;obtain⟨x,h1,e⟩:=hi;exact .inr ⟨a,n,x,rfl,h1,e.symm⟩
   | _=>cases hi
 rcases l i hi with⟨a,rfl,h1⟩ | ⟨a,n,x,rfl,h1,e⟩ <;> rcases l j r with⟨b,rfl,f⟩ | ⟨b,m,y,rfl,f,o⟩
 .rw [inj h1 f]
 .have:=hr k (SX h1);rw [o] at this;cases this
 .have:=hr k (SX f);rw [e] at this;cases this
 .rw [e] at o;cases o;rw [inj h1 f]
mutual
theorem al.rn{m:List Id}(d:∀b,A b->A' b):∀(v:AV) (u:Value),(∀i∈v.ids,i∈m)->al w A ρ v u->al w A' (cd m ρ) (v.rn m) u
 | .top,_,_,_=>by simp [AV.rn,al]
 | .t x,u,_,hv=>by simp only [AV.rn,al] at hv⊢;exact ax.mono (λb hb=>⟨d b hb,rfl⟩) x u hv
 | .mb vs,u,hi,hv=>by simp only [AV.rn,al] at hv⊢;obtain⟨g,e,h1⟩:=hv;exact⟨g,e,ay.rn d vs g (by simpa [AV.ids] using hi) h1⟩
 | .agg vs,u,hi,hv=>by simp only [AV.rn,al] at hv⊢;obtain⟨g,e,h1,j⟩:=hv;exact⟨g,e,ay.rn d vs g (by simpa [AV.ids] using hi) h1,j⟩
 | .ref i off,u,hi,hv=>by simp only [AV.rn,al] at hv⊢;rw [yG (hi i (by simp [AV.ids]))];exact hv
 | .el i sz k off,u,hi,hv=>by simp only [AV.rn,al] at hv⊢;rw [yG (hi i (by simp [AV.ids]))];exact hv
 | .own i,u,hi,hv=>by simp only [AV.rn,al] at hv⊢;rw [yG (hi i (by simp [AV.ids]))];exact hv
 | .part i sz off n,u,hi,hv=>by simp only [AV.rn,al] at hv⊢;rw [yG (hi i (by simp [AV.ids]))];exact hv
 | .row i n,u,hi,hv=>by simp only [AV.rn,al] at hv⊢;rw [IE (hi i (by simp [AV.ids]))];exact hv
 | .rel i sz n k off,u,hi,hv=>by simp only [AV.rn,al] at hv⊢;rw [IE (hi i (by simp [AV.ids]))];exact hv
 | .fn f a b,u,hi,hv=>by simp only [AV.rn,al] at hv⊢;obtain⟨l,y',e,h1,j⟩:=hv;simp only [AV.ids,Tm] at hi;exact⟨l,y',e,ay.rn d a l (λi h=>hi i (.inl h)) h1,ay.rn d b y' (λi h=>hi i (.inr h)) j⟩
theorem ay.rn{m:List Id}(a:∀b,A b->A' b):∀(vs:List AV) (us:List Value),(∀i∈bQ vs,i∈m)->ay w A ρ vs us->ay w A' (cd m ρ) (kg m vs) us
 | [],us,_,hv=>by simpa [kg,ay] using hv
 | v::vs,us,hi,hv=>by simp only [kg,ay] at hv⊢;obtain⟨u,r,e,h1,d⟩:=hv;simp only [bQ,Tm] at hi;exact⟨u,r,e,al.rn a v u (λi h=>hi i (.inl h)) h1,ay.rn a vs r (λi h=>hi i (.inr h)) d⟩
end
def Of(seen:List Id)(k:Id):Prop:=k∈seen\/∃i n,i∈seen/\k= .g i n
theorem SA{seen:List Id}{i k:Id}(h:ph seen i=some k):Of seen k:=by
 cases i with
 | c a=>exact .inl (SX h)
 | s d a=>cases h
 | g i n=>
  cases i with
  | c a=>simp only [ph,Vv] at h;obtain⟨x,h1,b⟩:=h;exact .inr ⟨x,n,SX h1,b.symm⟩
  | _=>cases h
theorem uH{seen:List Id}{b:Nat}(h:fC (cd seen O) b):∃k,Of seen k/\O k=some b:=by obtain⟨i,hi⟩:=h;rw [IF] at hi;obtain⟨k,a,d⟩:=SU.1 hi;exact⟨k,SA a,d⟩
theorem bZ.rn{seen:List Id}{i:Id}{j:Nat}{ah sz az rsz:Nat}(a:∀b,A b->A' b)(d:seen[j]? =some i):∀{es:List Row} {base:Nat},bZ w A ρ O i ah sz az rsz base es->
  bZ w A' (cd seen ρ) (cd seen O) (.c j) ah sz az rsz base es
 | [],_,_=>trivial
 | e::es,base,⟨⟨h1,q,r,v,t,y,z⟩,hr⟩=>by
  have f:cd seen ρ (.g (.c j) e.n)=ρ (.g i e.n):=by simp [cd,d]
  refine⟨⟨h1,q,λk x B C=> ?_,v,t,by rw [f];exact y, ?_⟩,bZ.rn a d hr⟩
  .obtain⟨u,m,o⟩:=r k x B C;exact⟨u,m,ax.mono (λb hb=>⟨a b hb,rfl⟩) x u o⟩
  .have l:cd seen O (.g (.c j) e.n)=O (.g i e.n):=by simp [cd,d]
   rw [l];revert z;cases e.own with
   | none=>exact λh=>h
   | some p=>exact λh=>h.mono (λb hb=>⟨a b hb,rfl⟩) λb hb=>⟨hb,rfl⟩
theorem oo.rn{seen:List Id}{i:Id}{j nx:Nat}{es:List Row}(d:seen[j]? =some i)(h:oo ρ O i nx es):oo (cd seen ρ) (cd seen O) (.c j) nx es:=by
 have e:∀n,cd seen ρ (.g (.c j) n)=ρ (.g i n):=λn=>by simp [cd,d]
 have f:∀n,cd seen O (.g (.c j) n)=O (.g i n):=λn=>by simp [cd,d]
 exact⟨h.1,h.2.1,λn a=>by rw [e];exact h.2.2.1 n a,λn b a=>by rw [f] at a;exact h.2.2.2 n b a⟩
theorem HS.ID{c':Ctx}{seen:List Id}(hs:HS c w h ρ O)(X:seen.Nodup)(K:∀i∈seen,h i≠none)(W:∀i∈seen,∀j∈nw (h i),j∈seen)
  (B:∀b,AA c w O b->AA c' w (cd seen O) b) (U:∀b,fC (cd seen O) b->c'.MO b) (V:c'.N0<=w.heap.size):HS c' w (jL (seen.map λi=>gT seen (h i))) (cd seen ρ) (cd seen O):=by
 have I:∀b,fC (cd seen O) b->fC O b:=λb h=>let⟨k,_,C⟩:=uH h;⟨k,C⟩;refine⟨λi b hb=> ?_,λi hr hi=> ?_,λi n=>rfl,λi n hi=> ?_,λi n u J=> ?_,λi j b hi L=> ?_,λi b hi=> ?_,λi b hi=> ?_,V⟩
 .cases i with
  | s d j=>simp [jL] at hb
  | g i n=>simp [jL] at hb
  | c j=>
   simp only [jL,TM,Vv] at hb;obtain⟨i,hi,e⟩:=hb;have F:i∈seen:=SX hi;have o:cd seen ρ (.c j)=ρ i:=by simp [cd,hi]
   have z:cd seen O (.c j)=O i:=by simp [cd,hi]
   cases E:h i with
   | none=>exact(K i F E).elim
   | some x=>
    have y:=hs.ah i x E;have D:=W i F;rw [E] at e D;cases x with
    | box cs=>simp only [gT] at e;subst e;obtain⟨p,arr,t,f,m,e3,q,r⟩:=y;exact⟨p,arr,t,by rw [o];exact f,by rw [z];exact m,e3,ay.rn B cs _ (λk C=>D k (by simpa [nw] using C)) q,r⟩
    | sl S sz bb xs=>
     simp only [gT] at e;subst e;obtain⟨v,f,m,e3⟩:=y;refine⟨v,by rw [o];exact f,m.mono (λb hb=>⟨B b hb,rfl⟩) (λb hb=>⟨?_,rfl⟩),by rw [z];exact e3⟩;cases S
     .simp only [Tv,if_false] at hb⊢;rw [z];exact hb
     .simp only [if_true] at hb⊢;exact B b hb
    | iC l=>simp only [gT] at e;subst e;obtain⟨p,f,m,e3,q⟩:=y;exact⟨p,by rw [o];exact f,by rw [z];exact m,B p e3,aV.mono (λb hb=>⟨B b hb,rfl⟩) p e3 0 l q⟩
    | mp ag ks vk es=>simp only [gT] at e;subst e;obtain⟨p,H,G,f,m,e3,q,r⟩:=y;exact⟨p,H,G,by rw [o];exact f,by rw [z];exact m,e3,q,r⟩
    | arr cs=>simp only [gT] at e;subst e;obtain⟨p,arr,t,f,m,e3,q,r⟩:=y;exact⟨p,arr,t,by rw [o];exact f,by rw [z];exact m,e3,ay.rn B cs _ (λk C=>D k (by simpa [nw] using C)) q,r⟩
    | rows bb sz az rsz nx es=>
     simp only [gT] at e;subst e;obtain⟨a,cap,f,m,e3,q,r⟩:=y;refine⟨a,cap,by rw [o];exact f,m,e3,q.rn hi, ?_⟩;rcases r with r | ⟨ah,off,arr,t,q1,Z,q3,q4,q5⟩
     .exact .inl r
     .exact .inr ⟨ah,off,arr,t,q1,by rw [z];exact Z,q3,q4,q5.rn B hi⟩
    | dead=>simp only [gT] at e;subst e;obtain⟨f,m⟩:=y;exact⟨by rw [o];exact f,by rw [z];exact m⟩
 .cases i with
  | s d j=>exact⟨rfl,rfl⟩
  | g i n=>cases hr
  | c j=>simp only [jL,TM,Option.map_eq_none_iff] at hi;simp [cd,hi]
 .cases i with
  | c j=>simp only [jL,TM,Option.map_eq_none_iff] at hi;simp [cd,hi]
  | _=>exact⟨rfl,rfl⟩
 .cases i with
  | c j=>simp only [cd] at J;obtain⟨k,h1,T⟩:=SU.1 J;exact hs.gone k n u T
  | _=>cases J
 .rw [IF] at hi L;obtain⟨Y,M,Q⟩:=SU.1 hi;obtain⟨k2,N,R⟩:=SU.1 L;have:=hs.inj Y k2 b Q R;subst this;exact Sx X (λx y=>hs.real (K x y)) M N
 .obtain⟨k,C⟩:=I b ⟨i,hi⟩;exact hs.lt k b C
 .exact U b ⟨i,hi⟩
theorem HS.rn{seen:List Id}(hs:HS c w h ρ O)(g:seen.Nodup)(f:∀i∈seen,h i≠none)(e:∀i∈seen,∀j∈nw (h i),j∈seen):
  HS c w (jL (seen.map λi=>gT seen (h i))) (cd seen ρ) (cd seen O)/\(∀b,fC (cd seen O) b->fC O b):=by
 have a:∀b,fC (cd seen O) b->fC O b:=λb h=>let⟨k,_,d⟩:=uH h;⟨k,d⟩;refine⟨hs.ID g f e (λb hb=>⟨hb.1,hb.2.1,λi hi=> ?_⟩) (λb hb=> ?_) hs.size,a⟩
 .obtain⟨k,d⟩:=a b ⟨i,hi⟩;exact hb.2.2 k d
 .obtain⟨k,d⟩:=a b hb;exact hs.own k b d
theorem o4:∀{n:Nat} {todo a seen:List Id},eY h n todo a=some seen->a <+:seen
 | 0,todo,a,seen,e=>by simp [eY] at e
 | n+1,[],a,seen,e=>by simp only [eY,SR] at e;subst e;exact List.prefix_refl _
 | n+1,i::todo,a,seen,e=>by
  simp only [eY] at e;cases b:a.contains i with
  | true=>rw [b,cond_true] at e;exact o4 e
  | false=>
   rw [b,cond_false] at e;split at e
   .exact(W4 _ _).trans (o4 e)
   .exact(W4 _ _).trans (o4 e)
   .exact(W4 _ _).trans (o4 e)
   .simp at e
theorem Iy:∀{l:List Id} {n:Nat} {todo a seen:List Id},eY h n (l++todo) a=some seen->l.Nodup->(∀i∈l,i∉a)->(a++l) <+:seen
 | [],n,todo,a,seen,e,_,_=>by rw [T7];exact o4 e
 | i::l,0,todo,a,seen,e,_,_=>by simp [eY] at e
 | i::l,n+1,todo,a,seen,e,k,d=>by
  obtain⟨m,o⟩:=Ud.1 k;simp only [S7,eY] at e;have f:a.contains i=false:=by have:=d i SW;simpa using this
  rw [f,cond_false] at e;have go:∀b:List Id,eY h n (l++todo++b) (a++ [i])=some seen->(a++i::l) <+:seen:=by
   intro b e;rw [TN] at e;have:=Iy e o (λj g hm=>by
    rcases Tm.1 hm with hm | hm
    .exact d j (SY _ g) hm
    .simp only [Tc] at hm;subst hm;exact m g)
   simpa using this
  split at e
  .exact go _ e
  .exact go _ e
  .exact go [] (by simpa using e)
  .simp at e
theorem HS.Jx(hs:HS c w h ρ O){i:Id}{b:aa}(hi:h i=some b):∃v,ρ i=some v/\v.oneCell'=true/\v.cells= #[v]:=by
 cases a:ρ i with
 | some u=>exact⟨u,rfl,kf hs a⟩
 | none=>
  exfalso;have:=hs.ah i b hi;cases b with
  | box cs=>obtain⟨b,_,_,h1,_⟩:=this;rw [a] at h1;cases h1
  | sl d sz b xs=>obtain⟨v,h1,_⟩:=this;rw [a] at h1;cases h1
  | iC l=>obtain⟨b,h1,_⟩:=this;rw [a] at h1;cases h1
  | mp ag ks vk es=>obtain⟨b,_,_,h1,_⟩:=this;rw [a] at h1;cases h1
  | arr cs=>obtain⟨b,_,_,h1,_⟩:=this;rw [a] at h1;cases h1
  | rows _ _ _ _ _ _=>obtain⟨_,_,h1,_⟩:=this;rw [a] at h1;cases h1
  | dead=>obtain⟨⟨v,h1,_⟩,_⟩:=this;rw [a] at h1;cases h1
theorem ay.set:∀{as:List AV} {us:List Value} {k:Nat} {v:AV} {u:Value},ay w A ρ as us->us[k]? =some u->al w A ρ v u->ay w A ρ (as.set k v) us
 | [],us,k,v,u,h,b,hv=>by simp only [ay] at h;subst h;simp at b
 | a::as,us,0,v,u,h,b,hv=>by simp only [ay] at h;obtain⟨x,r,rfl,h1,d⟩:=h;simp only [U1,SR] at b;subst b;simp only [W3,ay];exact⟨_,_,rfl,hv,d⟩
 | a::as,us,k+1,v,u,h,b,hv=>by simp only [ay] at h;obtain⟨x,r,rfl,h1,d⟩:=h;simp only [U3] at b;simp only [VW,ay];exact⟨_,_,rfl,h1,ay.set d b hv⟩
theorem Mn{b:Bool}{sz:Nat}{u:Value}{Q:Nat->Prop}(h:ax w A (.aO b) u):cK w A sz b [] u Q:=by
 simp only [ax] at h;rcases h with⟨rfl,rfl⟩ | ⟨rfl,ah,off,a,rfl⟩
 .exact⟨none,0,rfl,by simp,by simp,by simp, .inl rfl⟩
 .exact⟨some ⟨ah,off,a⟩,0,rfl,by simp,by simp,trivial, .inl rfl⟩
theorem xM{new i:Id}{k:Nat}{cs:List AV}{X:aa}{us:aH}{bb:Bool}(p:new.real=true)(hs:HS c w h ρ O)(hi:h i=some (.box cs))
  (F:h new=none->∀u,ax w (AA c w O) (.aO bb) u->cR w (AA c w O) (aB ρ new (some u)) O new X) (o:cs[k]? =some (.t (.aO bb))\/(∃z,cs[k]? =some (.t (.ae z true []))/\bb=true))
  (e:(cond (h new).isNone (some [(new,X),(i,aa.box (cs.set k (.own new)))]) none)=some us):∃ρ' O',Le w ρ O w ρ' O'/\HS c w (aK h us) ρ' O':=by
 obtain⟨b,arr,t,h1,C,D,q,E⟩:=hs.ah i _ hi;cases m:h new with
 | some x=>rw [m] at e;simp at e
 | none=>
  rw [m] at e;simp only [W5,cond_true,SR] at e;subst e;have G:∃u,arr.toList[k]? =some u/\ax w (AA c w O) (.aO bb) u:=by
   rcases o with o | ⟨z,o,rfl⟩
   .obtain⟨u,l,f⟩:=q.get o;exact⟨u,l,by simpa [al] using f⟩
   .obtain⟨u,l,f⟩:=q.get o;refine⟨u,l, ?_⟩;simp only [al,ax] at f⊢;rcases f with⟨_,_,g⟩ | ⟨g,_⟩
    .exact .inl ⟨trivial,g⟩
    .cases g
  obtain⟨u,l,f⟩:=G;obtain⟨H,J⟩:=hs.ch new p m;have I:i≠new:=λe=>by rw [e,m] at hi;cases hi
  have le:Le w ρ O w (aB ρ new (some u)) O:=⟨rfl,rfl,rfl,Tl _,λj v a=>by
   by_cases e:j=new
   .subst e;rw [H] at a;cases a
   .rw [ar _ _ e];exact a,λ_ _ _=>rfl,λj b h=> .inl ⟨j,h⟩⟩
  refine⟨_,O,le, ?_⟩;rw [cY,dZ];have y:=hs.real (i:=i) (by rw [hi];simp);have B:GK w ρ O w (aB ρ new (some u)) O:=λj n=>⟨ar _ _ (aM p),rfl,λ_ _=>rfl⟩;refine hs.go le B (λj x a=> ?_) (λj r a=> ?_) (λj a=> ?_) (λj n=>by rw [ar _ _ (aM y),ar _ _ (aM p)];exact hs.dH j n) hs.inj hs.lt
  .by_cases e:j=i
   .subst e;rw [aD] at a;cases a;right;refine⟨b,arr,t,le.eF _ _ h1,C,D,ay.set (ay.mono (λb hb=>le.A b hb) le.eF _ _ q) l ?_,E⟩;simp only [al];exact aD _ _ _
   .rw [ar _ _ e] at a;by_cases d:j=new
    .subst d;rw [aD] at a;cases a;exact .inr (F m u f)
    .rw [ar _ _ d] at a;exact .inl ⟨a,rfl,λ_ _=>rfl⟩
  .by_cases e:j=i
   .subst e;rw [aD] at a;cases a
   .rw [ar _ _ e] at a;by_cases d:j=new
    .subst d;rw [aD] at a;cases a
    .rw [ar _ _ d] at a;rw [ar _ _ d];exact hs.ch j r a
  .by_cases e:j=i
   .subst e;rw [aD] at a;cases a
   .rw [ar _ _ e] at a;by_cases d:j=new
    .subst d;rw [aD] at a;cases a
    .rw [ar _ _ d] at a;exact a
theorem Qi{new i:Id}{k sz az rsz:Nat}{us:aH}(a:new.real=true)(hs:HS c w h ρ O)(e:sc h new i k sz az rsz=some us):∃ρ' O',Le w ρ O w ρ' O'/\HS c w (aK h us) ρ' O':=by
 have j:∀{bb:Bool},h new=none->∀u,ax w (AA c w O) (.aO bb) u->cR w (AA c w O) (aB ρ new (some u)) O new (.rows bb sz az rsz 0 []):=by
  intro bb b u o;have m:oo (aB ρ new (some u)) O new 0 []:=⟨by simp,(λf b=>by cases b),λn _=>by rw [ar _ _ (aM a)];exact(hs.fq new n b).1,λn d l=>by rw [(hs.fq new n b).2] at l;cases l⟩;simp only [ax] at o;rcases o with⟨rfl,rfl⟩ | ⟨rfl,ah,off,p,rfl⟩
  .exact⟨none,0,aD _ _ _,by simp,by simp,m, .inl rfl⟩
  .exact⟨some ⟨ah,off,p⟩,0,aD _ _ _,by simp,by simp,m, .inl rfl⟩
 unfold sc at e;split at e
 .rename_i cs hi;split at e
  .simp only [SR] at e;subst e;exact⟨ρ,O,Le.refl,hs⟩
  .rename_i bb g;exact xM a hs hi j (.inl g) e
  .rename_i z g;exact xM a hs hi j (.inr ⟨z,g,rfl⟩) e
  .simp at e
 .simp at e
theorem PD{new i:Id}{k sz:Nat}{us:aH}(g:new.real=true)(hs:HS c w h ρ O)(e:oX h new i k sz=some us):∃ρ' O',Le w ρ O w ρ' O'/\HS c w (aK h us) ρ' O':=by
 unfold oX at e;cases hb:Nat.ble 100000 sz with
 | true=>rw [hb] at e;exact Qi g hs e
 | false=>
 rw [hb,cond_false] at e;split at e
 .rename_i cs hi;obtain⟨b,arr,t,h1,h2,h3,S,h5⟩:=hs.ah i _ hi;have T:∀{bb:Bool},h new=none->∀u,ax w (AA c w O) (.aO bb) u->cR w (AA c w O) (aB ρ new (some u)) O new (.sl false sz bb []):=
   λ_ u hu=>⟨u,aD _ _ _,Mn hu,by simp⟩
  split at e
  .simp only [SR] at e;subst e;exact⟨ρ,O,Le.refl,hs⟩
  .rename_i bb d;exact xM g hs hi T (.inl d) e
  .rename_i z d;exact xM g hs hi T (.inr ⟨z,d,rfl⟩) e
  .rename_i j sz' n d;split at e
   .rename_i sz'' bb xs l;split at e
    .rename_i D;obtain⟨rfl,rfl,U⟩:=D;cases y:h new with
     | some x=>rw [y] at e;simp at e
     | none=>
      rw [y] at e;simp only [W5,cond_true,SR] at e;subst e;obtain⟨u,g1,R⟩:=S.get d;obtain⟨n1,n2⟩:=hs.ch new g y;have X:i≠new:=λe=>by rw [e,y] at hi;cases hi
      have Y:j≠new:=λe=>by rw [e,y] at l;cases l
      obtain⟨v,Q,⟨a,cap,rfl,f2,f3,_,J⟩,_⟩:=hs.ah j _ l;simp only [al] at R;obtain⟨a1,L,cap1,q,I,f,e3,rfl,M⟩:=R;rw [Q] at I;simp only [SR,Uf] at I;obtain⟨rfl,rfl,rfl⟩:=I;have B:(xs.take n).length=n:=by rw [T3];omega
      have ha:q=none↔a=none:=by
       rcases M with⟨_,rfl⟩ | ⟨_,h,_⟩ | ⟨_,_,rfl,rfl⟩
       .exact WX
       .exact h
       .simp
      have le:Le w ρ O w (aB ρ new (some (.slice q n (cap - 0)))) (aB (aB O j none) new (O j)):=by
       refine⟨rfl,rfl,rfl,Tl _,λk v d=> ?_,λ_ _ _=>rfl,λk b d=> ?_⟩
       .by_cases e:k=new
        .subst e;rw [n1] at d;cases d
        .rw [ar _ _ e];exact d
       .by_cases e:k=new
        .subst e;rw [aD] at d;exact .inl ⟨j,d⟩
        .rw [ar _ _ e] at d;by_cases f:k=j
         .subst f;rw [aD] at d;cases d
         .rw [ar _ _ f] at d;exact .inl ⟨k,d⟩
      have r:∀k b,aB (aB O j none) new (O j) k=some b->(k=new/\O j=some b)\/(k≠new/\k≠j/\O k=some b):=by
       intro k b d;by_cases e:k=new
       .subst e;rw [aD] at d;exact .inl ⟨rfl,d⟩
       .rw [ar _ _ e] at d;by_cases f:k=j
        .subst f;rw [aD] at d;cases d
        .rw [ar _ _ f] at d;exact .inr ⟨e,f,d⟩
      refine⟨_,_,le, ?_⟩;rw [cY,cY,dZ];have Z:=hs.real (i:=i) (by rw [hi];simp);have G:=hs.real (i:=j) (by rw [l];simp);have gk:GK w ρ O w (aB ρ new (some (.slice q n (cap - 0)))) (aB (aB O j none) new (O j)):=λk m=>⟨ar _ _ (aM g),by rw [ar _ _ (aM g),ar _ _ (aM G)],λ_ _=>rfl⟩;refine hs.go le gk (λk x d=> ?_) (λk W d=> ?_) (λk d=> ?_) (λk m=>by rw [ar _ _ (aM Z),ar _ _ (aM g),ar _ _ (aM G)];exact hs.dH k m) (λk K b d V=> ?_) (λk b d=> ?_)
      .by_cases e:k=i
       .subst e;rw [aD] at d;cases d;right;refine⟨b,arr,t,le.eF _ _ h1,by rw [ar _ _ X,ar _ _ (WY U)];exact h2,h3,ay.set (ay.mono (λb hb=>le.A b hb) le.eF _ _ S) g1 ?_,h5⟩;simp only [al];exact aD _ _ _
       .rw [ar _ _ e] at d;by_cases f:k=new
        .subst f;rw [aD] at d;cases d;right;refine⟨_,aD _ _ _,⟨q,cap,by rw [B];rfl,by rw [B];omega,by rw [ha];exact f3,trivial, ?_⟩,by simp⟩;rcases J with J | ⟨ah,off,H,t',q1,C,q3,q4,q5⟩
         .exact .inl J
         .by_cases F:cap=0
          .exact .inl F
          .right;subst q1;have:q=some ⟨ah,off,none⟩:=by
            rcases M with⟨_,rfl⟩ | ⟨h,_⟩ | ⟨b',o,N,rfl⟩
            .rfl
            .exact absurd h.symm F
            .simp only [SR,T5] at N;obtain⟨rfl,rfl,_⟩:=N;simp
           refine⟨ah,off,H,t',this, ?_,q3,q4,(aY.nC (λb hb=>le.A b hb) ah _ rfl off xs q5).take n⟩;simp only [Tv,if_false] at C⊢;rw [aD];exact C
        .rw [ar _ _ f] at d;by_cases e3:k=j
         .subst e3;rw [aD] at d;cases d;exact .inr ⟨⟨_,le.eF _ _ Q,rfl,rfl⟩,by rw [ar _ _ Y,aD]⟩
         .rw [ar _ _ e3] at d;exact .inl ⟨d,by rw [ar _ _ f,ar _ _ e3],λ_ _=>rfl⟩
      .by_cases e:k=i
       .subst e;rw [aD] at d;cases d
       .rw [ar _ _ e] at d;by_cases f:k=new
        .subst f;rw [aD] at d;cases d
        .rw [ar _ _ f] at d;by_cases e3:k=j
         .subst e3;rw [aD] at d;cases d
         .rw [ar _ _ e3] at d;rw [ar _ _ f,ar _ _ f,ar _ _ e3];exact hs.ch k W d
      .by_cases e:k=i
       .subst e;rw [aD] at d;cases d
       .rw [ar _ _ e] at d;by_cases f:k=new
        .subst f;rw [aD] at d;cases d
        .rw [ar _ _ f] at d;by_cases e3:k=j
         .subst e3;rw [aD] at d;cases d
         .rw [ar _ _ e3] at d;exact d
      .rcases r k b d with⟨rfl,p⟩ | ⟨p0,p,E⟩ <;> rcases r K b V with⟨rfl,q1⟩ | ⟨q0,q1,C⟩
       .rfl
       .exact(q1 (hs.inj K j b C p)).elim
       .exact(p (hs.inj k j b E q1)).elim
       .exact hs.inj k K b E C
      .rcases r k b d with⟨rfl,p⟩ | ⟨p0,p,E⟩
       .exact hs.lt j b p
       .exact hs.lt k b E
    .simp at e
   .simp at e
  .simp at e
 .simp at e
theorem Qh{new i x:Id}{k sz az rsz:Nat}{us:aH}(e:sc h new i k sz az rsz=some us)(a:h x=none)(j:x≠new):aK h us x=none:=by
 unfold sc at e;split at e
 .rename_i cs hi;have g:x≠i:=λe=>by rw [e,hi] at a;cases a
  have d:∀{b:Bool},(cond (h new).isNone (some [(new,aa.rows b sz az rsz 0 []),(i,aa.box (cs.set k (.own new)))]) none)=some us->aK h us x=none:=by
   intro b e;cases f:(h new).isNone with
   | false=>rw [f] at e;simp at e
   | true=>rw [f] at e;simp only [cond_true,SR] at e;subst e;rw [cY,dZ,ar _ _ g,ar _ _ j];exact a
  split at e
  .simp only [SR] at e;subst e;exact a
  .exact d e
  .exact d e
  .simp at e
 .simp at e
theorem PC{new i x:Id}{k sz:Nat}{us:aH}(e:oX h new i k sz=some us)(a:h x=none)(l:x≠new):aK h us x=none:=by
 unfold oX at e;cases hb:Nat.ble 100000 sz with
 | true=>rw [hb] at e;exact Qh e a l
 | false=>
 rw [hb,cond_false] at e;split at e
 .rename_i cs hi;have g:x≠i:=λe=>by rw [e,hi] at a;cases a
  have f:∀{b:Bool},(cond (h new).isNone (some [(new,aa.sl false sz b []),(i,aa.box (cs.set k (.own new)))]) none)=some us->aK h us x=none:=by
   intro b e;cases d:(h new).isNone with
   | false=>rw [d] at e;simp at e
   | true=>rw [d] at e;simp only [cond_true,SR] at e;subst e;rw [cY,dZ,ar _ _ g,ar _ _ l];exact a
  split at e
  .simp only [SR] at e;subst e;exact a
  .exact f e
  .exact f e
  .rename_i j q n r;split at e
   .rename_i p bb xs m;have o:x≠j:=λe=>by rw [e,m] at a;cases a
    split at e
    .cases d:(h new).isNone with
     | false=>rw [d] at e;simp at e
     | true=>rw [d] at e;simp only [cond_true,SR] at e;subst e;rw [cY,cY,dZ,ar _ _ g,ar _ _ l,ar _ _ o];exact a
    .simp at e
   .simp at e
  .simp at e
 .simp at e
theorem Cb{o:Nat}:∀{l:List (Id×Nat×Nat)} {j:Nat} {h:Id->Option aa} {ρ:Id->Option Value} {O:Id->Option Nat} {us:aH},HS c w h ρ O->jZ o j h l=some us->∃ρ' O',Le w ρ O w ρ' O'/\HS c w (aK h us) ρ' O'
 | [],j,h,ρ,O,us,hs,e=>by simp only [jZ,SR] at e;subst e;exact⟨ρ,O,Le.refl,hs⟩
 | (i,k,sz)::l,j,h,ρ,O,us,hs,e=>by simp only [jZ] at e;obtain⟨r,m,e⟩:=SU.1 e;obtain⟨u2,n,e⟩:=SU.1 e;simp only [SR] at e;subst e;obtain⟨p,q,cU,a⟩:=PD rfl hs m;obtain⟨f,g,d,b⟩:=Cb a n;exact⟨f,g,cU.trans d,by rw [mf];exact b⟩
theorem Il{d:Nat}{x:Id}(b:∀k,x≠ .s d k):∀{l:List (Id×Nat×Nat)} {j:Nat} {h:Id->Option aa} {us:aH},jZ d j h l=some us->h x=none->aK h us x=none
 | [],j,h,us,e,a=>by simp only [jZ,SR] at e;subst e;exact a
 | (i,k,sz)::l,j,h,us,e,a=>by simp only [jZ] at e;obtain⟨m,f,e⟩:=SU.1 e;obtain⟨u2,g,e⟩:=SU.1 e;simp only [SR] at e;subst e;rw [mf];exact Il b g (PC f a (b j))
end
open Go
section
variable {P:Program} {w w':World} {A A':Nat->Prop} {c:Ctx} {ρ:Id->Option Value} {O:Id->Option Nat} {s:St} {cc:Option Bool} {h:Id->Option aa}
theorem yp{k:Ck}{x:T}(a:dI k x=true):ax w A x (dv x):=by cases x <;> cases k <;> simp_all [dI,ax,dv]
theorem B1:∀{ks:List Ck} {xs:List T},bR ks xs=true->aR w A xs (xs.map dv)
 | [],[],_=>rfl
 | k::ks,x::xs,a=>by simp only [bR,S0] at a;exact⟨_,_,rfl,yp a.1,B1 a.2⟩
 | [],_::_,a=>by simp [bR] at a
 | _::_,[],a=>by simp [bR] at a
theorem B0:∀{ks:List Ck} {xs:List T},bR ks xs=true->xs.length=ks.length
 | [],[],_=>rfl
 | k::ks,x::xs,a=>by simp only [bR,S0] at a;simp [B0 a.2]
 | [],_::_,a=>by simp [bR] at a
 | _::_,[],a=>by simp [bR] at a
theorem yZ{R:Type}{k:Ck}{x:T}{v:Value}{K:T->Option R}{r:R}(d:cc=none\/cc=some true)(hs:mK k=true)(hr:ax w A x v)(h:eZ k cc x K=some r):
  ∃y,K y=some r/\dI k y=true/\v=dv y:=by
 unfold eZ at h;cases k with
 | i k=>simp only at h;replace h:=aL h d;obtain⟨n,a,h⟩:=h;rw [T.fX a] at hr;exact⟨_,h,by simp [dI],by simpa [ax,dv] using hr⟩
 | b=>simp only at h;replace h:=aL h d;obtain⟨n,a,h⟩:=h;rw [T.iO a] at hr;exact⟨_,h,by simp [dI],by simpa [ax,dv] using hr⟩
 | s=>simp only at h;replace h:=aL h d;obtain⟨n,a,h⟩:=h;rw [T.ko a] at hr;exact⟨_,h,by simp [dI],by simpa [ax,dv] using hr⟩
 | l _=>simp [mK] at hs
 | x=>simp [mK] at hs
theorem CZ{R:Type}(d:cc=none\/cc=some true):∀{ks:List Ck} {xs:List T} {vs:List Value} {K:List T->Option R} {r:R},ks.all mK=true->xs.length=ks.length->aR w A xs vs->eP cc ks xs K=some r->
  ∃b,K b=some r/\bR ks b=true/\vs=b.map dv
 | [],[],vs,K,r,_,_,hr,h=>⟨[],h,rfl,by simpa [aR] using hr⟩
 | [],_::_,vs,K,r,_,a,hr,h=>by simp at a
 | _::_,[],vs,K,r,_,a,hr,h=>by simp at a
 | k::ks,x::xs,vs,K,r,hs,a,hr,h=>by obtain⟨v,q,rfl,h1,j⟩:=hr;simp only [Uu,S0] at hs;simp only [eP] at h;obtain⟨y,h,e,f⟩:=yZ d hs.1 h1 h;obtain⟨b,h,g,i⟩:=CZ d hs.2 (by simpa using a) j h;exact⟨y::b,h,by simp [bR,e,g],by rw [f,i];rfl⟩
theorem GW{k:TypeId}{q:Bool×List Ck}(h:kO P k=some q):q.2.all mK=true/\(q.1=false->q.2.length=1):=by
 unfold kO at h;split at h
 .simp only [SR] at h;subst h;simp [mK]
 .simp only [SR] at h;subst h;simp [mK]
 .split at h
  .split at h
   .simp only [SR] at h;subst h;refine⟨?_,by simp⟩;rw [Tk];intro b a;rw [UE a];rfl
   .cases h
  .cases h
 .cases h
theorem Bw{R:Type}{k:TypeId}{v:AV}{u:Value}{K:Bool->List Ck->List T->Option R}{r:R}(i:cc=none\/cc=some true)(hv:al w A ρ v u)(h:oJ P k cc v K=some r):
  ∃ag ks cs,K ag ks cs=some r/\kO P k=some (ag,ks)/\bR ks cs=true/\u=cW ag cs:=by
 unfold oJ at h;obtain⟨q,f,h⟩:=SU.1 h;obtain⟨q1,j⟩:=q;have a:=GW f;simp only at h a;split at h
 .rename_i x _;obtain⟨g,h,b,d⟩:=CZ (vs:= [u]) i a.1 (by simpa using (a.2 rfl).symm) (show aR w A [x] [u] from⟨u,[],rfl,by simpa [al] using hv,rfl⟩) h;refine⟨false,j,g,h,f,b, ?_⟩;unfold cW;rw [<-d];rfl
 .rename_i vs _;obtain⟨l,m,h⟩:=SU.1 h;split at h
  .rename_i e;simp only [al] at hv;obtain⟨o,rfl,h1,n⟩:=hv;obtain⟨g,h,b,d⟩:=CZ i a.1 e (aR.lT m h1) h;refine⟨true,j,g,h,f,b, ?_⟩;unfold cW;rw [d];rfl
  .cases h
 .cases h
theorem KP{a b:ByteArray}(e:(a==b)=true):a=b:=by
 cases a with
 | mk x=>cases b with
  | mk y=>have d:(x==y)=true:=e;rw [eq_of_beq d]
theorem Nd{k:Ck}{x y:T}(a:dI k x=true)(hy:dI k y=true)(e:nh x y=true):x=y:=by
 cases x <;> cases k <;> simp [dI] at a <;> cases y <;> simp [dI] at hy <;> simp [nh] at e
 .subst a;subst hy;subst e;rfl
 .subst e;rfl
 .rw [KP e]
theorem F6:∀{ks:List Ck} {xs b:List T},bR ks xs=true->bR ks b=true->dQ xs b=true->xs=b
 | [],[],[],_,_,_=>rfl
 | k::ks,x::xs,y::b,a,hy,e=>by simp only [bR,S0] at a hy;simp only [dQ,S0] at e;rw [Nd a.1 hy.1 e.1,F6 a.2 hy.2 e.2]
 | [],_::_,_,a,_,_=>by simp [bR] at a
 | [],[],_::_,_,hy,_=>by simp [bR] at hy
 | _::_,[],_,a,_,_=>by simp [bR] at a
 | _::_,_::_,[],_,hy,_=>by simp [bR] at hy
theorem Na{t:TypeId}{i:IntKind}(b:P.underlying t=some (.int i)){x y:T}(a:dI (.i i) x=true)(hy:dI (.i i) y=true){R:Type}(K:Bool->Option R):lN P none t x y K=K (nh x y):=by cases x <;> simp [dI] at a;cases y <;> simp [dI] at hy;subst a;subst hy;simp [lN,b,ab,T.int?,nh]
theorem F3{e:TypeId}{i:IntKind}(d:P.underlying e=some (.int i)){R:Type}:∀(n:Nat) (xs b:List T) (K:Bool->Option R),bR (List.replicate n (.i i)) xs=true->bR (List.replicate n (.i i)) b=true->eA P none (List.replicate n e) xs b K=K (dQ xs b)
 | 0,[],[],K,_,_=>rfl
 | n+1,x::xs,y::b,K,a,hy=>by simp only [TX,bR,S0] at a hy;simp only [TX,eA,dQ];rw [Na d a.1 hy.1,F3 d n xs b _ a.2 hy.2]
 | 0,_::_,_,_,a,_=>by simp [bR] at a
 | 0,[],_::_,_,_,hy=>by simp [bR] at hy
 | n+1,[],_,_,a,_=>by simp [TX,bR] at a
 | n+1,_::_,[],_,_,hy=>by simp [TX,bR] at hy
theorem tX{ag:Bool}{ks:List Ck}{cs:List T}(b:ag=false->ks.length=1)(h:bR ks cs=true)(a:ag=false):∃x,cs= [x]/\cW ag cs=dv x:=by have d:=B0 h;rw [b a] at d;obtain⟨x,rfl⟩:=List.length_eq_one_iff.1 d;exact⟨x,rfl,by rw [a];rfl⟩
theorem Nf{k:TypeId}{ag:Bool}{ks:List Ck}(f:kO P k=some (ag,ks)){a b:List T}(g:bR ks a=true)(hb:bR ks b=true)(w:World):
  (Op.equal k (cW ag a) (cW ag b)).run P w= .ok (dQ a b) w:=by
 unfold kO at f;split at f
 .rename_i i j;simp only [SR,T0] at f;obtain⟨rfl,rfl⟩:=f;obtain⟨x,rfl,o⟩:=tX (ag:=false) (by simp) g rfl;obtain⟨y,rfl,r⟩:=tX (ag:=false) (by simp) hb rfl;rw [o,r];simp only [bR,Wm] at g hb;have key:∀d (p q:Int),(Op.equalIn (d+1) k (.int i p) (.int i q)).run P w= .ok (p==q) w:=λd p q=>by simp [Op.equalIn,run_underlying j]
  cases x <;> simp [dI] at g;cases y <;> simp [dI] at hb;rename_i D q1;subst g;subst hb;rw [show ∀a b:T,dQ [a] [b]=nh a b from λa b=>by simp [dQ]];exact key 9999 _ _
 .rename_i j;simp only [SR,T0] at f;obtain⟨rfl,rfl⟩:=f;obtain⟨x,rfl,o⟩:=tX (ag:=false) (by simp) g rfl;obtain⟨y,rfl,r⟩:=tX (ag:=false) (by simp) hb rfl;rw [o,r];simp only [bR,Wm] at g hb;cases x <;> simp [dI] at g;cases y <;> simp [dI] at hb;rename_i p q;have:∀d,(Op.equalIn (d+1) k (.string p) (.string q)).run P w= .ok (p==q) w:=λd=>by simp [Op.equalIn,run_underlying j]
  rw [show ∀a b:T,dQ [a] [b]=nh a b from λa b=>by simp [dQ]];exact this 9999
 .rename_i n e j;split at f
  .rename_i i l;split at f
   .rename_i m;simp only [SR,T0] at f;obtain⟨rfl,rfl⟩:=f;have B:fp P 7 e=some [e]:=by simp [fp,l]
    have z:fp P 8 k=some (List.replicate n e):=by
     simp only [fp,j,l,S9,List.length_singleton,m.1,if_true];congr 1;induction n with
     | zero=>rfl
     | succ n C=>simp [TX]
    obtain⟨bb,t,v⟩:=A5 (P:=P) (w:=w) (A:=λ_=>True) 8 k _ z 10000 (by omega) Bool none (.inl rfl) a b (a.map dv) (b.map dv) (λb=>some b) _ (B1 g) (B1 hb) (F3 l n a b _ g hb);have u:bm P k=true:=by simp [bm,j]
    simp only [SR] at t;subst t;simpa [kr,u,cW,Op.equal,Op.maxDepth] using v
   .cases f
  .cases f
 .cases f
theorem xG{k:TypeId}{ag:Bool}{ks:List Ck}(t:kO P k=some (ag,ks)){a:List T}(o:bR ks a=true)(w:World):∀(b:List MapEntry) (es:List (List T×T)) (j:Nat),b.map (λe=>(e.key,e.val))=es.map (λp=>(cW ag p.1,dv p.2))->(∀p∈es,bR ks p.1=true)->
  ((Instr.findAsking k (cW ag a) b j).run P w= .ok none w/\fc a es=none)\/∃i x e p,(Instr.findAsking k (cW ag a) b j).run P w= .ok (some (j+i,dv x)) w/\fc a es=some x/\b[i]? =some e/\es[i]? =some p/\dQ a p.1=true/\(∀i' g,i' < i->es[i']? =some g->dQ a g.1=false)
 | [],[],j,_,_=> .inl ⟨by simp [Instr.findAsking],rfl⟩
 | [],_::_,j,h,_=>by simp at h
 | _::_,[],j,h,_=>by simp at h
 | e::b,(q,x)::es,j,h,l=>by
  simp only [TQ,UT,T0] at h;obtain⟨⟨h1,E⟩,F⟩:=h;have d:=Nf t o (l _ SW) w;simp only at d;cases hb:dQ a q
  .rw [hb] at d;rcases xG t o w b es (j+1) F (λp G=>l p (SY _ G)) with⟨m,n⟩ | ⟨i,y,v,g,m,n,z,B,C,D⟩
   .exact .inl ⟨by simp [Instr.findAsking,h1,d,m],by simp [fc,hb,n]⟩
   .refine .inr ⟨i+1,y,v,g,by simp [Instr.findAsking,h1,d,m];omega,by simp [fc,hb,n],by simpa using z,by simpa using B,C, ?_⟩;intro i' u r f;cases i' with
    | zero=>simp at f;subst f;exact hb
    | succ i'=>exact D i' u (by omega) (by simpa using f)
  .rw [hb] at d;exact .inr ⟨0,x,e,(q,x),by simp [Instr.findAsking,h1,d,E],by simp [fc,hb],rfl,rfl,hb,λi' _ r=>by omega⟩
theorem IK{f:Nat->Sem Unit}:∀(l:List Nat),(∀i∈l,(f i).run P w= .ok () w)->(forIn l PUnit.unit λi _=>do f i;pure (ForInStep.yield PUnit.unit)).run P w= .ok PUnit.unit w
 | [],_=>by simp
 | i::l,h=>by simp only [List.forIn_cons,Tp,h i SW,Td,TD];have:=IK (f:=f) l λj a=>h j (SY _ a);simpa using this
theorem Al{k:TypeId}{ag:Bool}{ks:List Ck}(f:kO P k=some (ag,ks)){a:List T}(q:bR ks a=true)(em:Bool)(w:World):
  (Instr.checkKey em 10000 k (cW ag a)).run P w= .ok () w:=by
 unfold kO at f;split at f
 .rename_i i g;have:∀d,(Instr.checkKey em (d+1) k (cW ag a)).run P w= .ok () w:=λd=>by simp [Instr.checkKey,run_underlying g]
  exact this 9999
 .rename_i g;have:∀d,(Instr.checkKey em (d+1) k (cW ag a)).run P w= .ok () w:=λd=>by simp [Instr.checkKey,run_underlying g]
  exact this 9999
 .rename_i n e g;split at f
  .rename_i i l;split at f
   .rename_i b;simp only [SR,T0] at f;obtain⟨rfl,rfl⟩:=f;have m:bL P e=true:=by simp [bL,l]
    have u:bm P e=false:=by simp [bm,l]
    have p:=B0 q;rw [UD] at p;have one:∀d v,(Instr.checkKey em (d+1) e v).run P w= .ok () w:=λd v=>by simp [Instr.checkKey,run_underlying l]
    have t:∀d,∀j∈List.range' 0 n 1,(do Instr.checkKey em (d+1) e (<-part e (a.map dv).toArray (j * (<-sizeOf e)))).run P w= .ok () w:=by
     intro d j o;have o:j < n:=by simpa using o
     have:=uK (P:=P) m (a.map dv).toArray (j * 1) (λ_=>b.1) (by simp [b.1,p];omega) w;simp only [Tp,jd m,Td,b.1,this,one d]
    have r:∀d,(Instr.checkKey em (d+2) k (cW true a)).run P w= .ok () w:=by intro d;have:=IK (P:=P) (w:=w) _ (t d);rw [Instr.checkKey];simp only [cW,cond_true,Tp,run_underlying g,Td];simp only [Std.Legacy.Range.forIn_eq_forIn_range',Std.Legacy.Range.size,TZ,Nat.add_one_sub_one,Nat.div_one];simp at this;simp [this]
    exact r 9998
   .cases f
  .cases f
 .cases f
theorem Gc{f:TypeId}{d:TypeDesc}(a:P.underlying f=some d)(k:Value):∀(es:List MapEntry) (j:Nat) (r:Option (Nat×Value)),Instr.findNow d k es j=some r->(Instr.findAsking f k es j).run P w= .ok r w
 | [],j,r,h=>by simp [Instr.findNow] at h;subst h;simp [Instr.findAsking]
 | e::es,j,r,h=>by
  have key:∀b,Instr.sameNow d k e.key=some b->(Op.equal f k e.key).run P w= .ok b w:=by
   intro b hb;generalize e.key=g at hb⊢;have:∀n,(Op.equalIn (n+1) f k g).run P w= .ok b w:=by
    intro n;unfold Instr.sameNow at hb;split at hb
    .split at hb
     .rename_i h1;simp only [SR] at hb;subst hb;subst h1;simp [Op.equalIn,run_underlying a]
     .cases hb
    .simp only [SR] at hb;subst hb;simp [Op.equalIn,run_underlying a]
    .simp only [SR] at hb;subst hb;simp [Op.equalIn,run_underlying a]
    .cases hb
   exact this 9999
  simp only [Instr.findNow] at h;split at h
  .rename_i hb;simp only [SR] at h;subst h;simp [Instr.findAsking,key _ hb]
  .rename_i hb;simp [Instr.findAsking,key _ hb,Gc a k es (j+1) r h]
  .cases h
theorem rG{a:TypeId}{d:TypeDesc}(b:P.underlying a=some d)(k:Value)(es:List MapEntry)(r:Option (Nat×Value))(h:(Instr.findAsking a k es 0).run P w= .ok r w):(Instr.findKey a k es).run P w= .ok r w:=by
 unfold Instr.findKey;simp only [Tp,run_underlying b,Td];cases e:Instr.findNow d k es 0 with
 | none=>simpa using h
 | some f=>have:=Gc (w:=w) b k es 0 f e;rw [this] at h;simpa using h
theorem Bx{k:TypeId}{q:Bool×List Ck}(h:kO P k=some q):∃d,P.underlying k=some d:=by
 unfold kO at h;split at h
 .exact⟨_,by assumption⟩
 .exact⟨_,by assumption⟩
 .exact⟨_,by assumption⟩
 .cases h
theorem BH{t:TypeId}{q:TypeId×TypeId}(h:rT P t=some q):P.underlying t=some (.map q.1 q.2):=by
 unfold rT at h;split at h
 .rename_i k e b;cases a:bL P k && bL P e
  .simp [a] at h
  .simp only [a,cond_true,SR] at h;subst h;exact b
 .cases h
theorem SQ{t:TypeId}{z:T}(h:Da P t=some z):∃v,(zeroValue t).run P w= .ok v w/\ax w A z v:=by
 unfold Da at h;split at h
 .rename_i i hi;split at h
  .rename_i v hv;refine⟨v, ?_,HZ h⟩;simp [zeroValue,typeInfo,run_program,hi,hv]
  .cases h
 .cases h
theorem BN{i:Id}{ag:Bool}{ks:List Ck}{vk:Ck}{es:List (List T×T)}(hs:HS c w s.h ρ O)(hi:s.h i=some (.mp ag ks vk es)):∃b d a,ρ i=some (.map (some b))/\O i=some b/\w.heap[b]? =some (.map d a)/\
   d.toList.map (λe=>(e.key,e.val))=es.map (λp=>(cW ag p.1,dv p.2))/\(∀p∈es,bR ks p.1=true/\dI vk p.2=true):=by
 obtain⟨b,d,a,h1,f,g,j,k⟩:=hs.ah i _ hi;exact⟨b,d,a,h1,f,g,j,λp l=>by simpa using Tk.1 k p l⟩
theorem Gb{a:List T}:∀{es:List (List T×T)} {x:T},fc a es=some x->∃p∈es,p.2=x
 | [],x,h=>by simp [fc] at h
 | (k,v)::r,x,h=>by
  simp only [fc] at h;cases hb:dQ a k
  .rw [hb,cond_false] at h;obtain⟨p,b,e⟩:=Gb h;exact⟨p,SY _ b,e⟩
  .rw [hb,cond_true] at h;simp only [SR] at h;exact⟨_,SW,h⟩
theorem Ov{R:Type}{t:TypeId}{x key:AV}{ok:Bool}{T vk:Value}{K:AV->Option R}{r:R}(hs:HS c w s.h ρ O)(m:al w (AA c w O) ρ x T)(G:al w (AA c w O) ρ key vk)(F:cc=none\/cc=some true)
  (h:nB P s cc t x key ok K=some r):∃av v,K av=some r/\(Instr.lookup t T vk ok).run P w= .ok v w/\al w (AA c w O) ρ av v:=by
 unfold nB at h;obtain⟨q,Z,h⟩:=SU.1 h;obtain⟨z,hz,h⟩:=SU.1 h;obtain⟨ag,ks,cs,h,g,o,rfl⟩:=Bw F G h;split at h
 .rename_i i;split at h
  .rename_i ag' ks' S es hi;split at h
   .rename_i l;obtain⟨rfl,rfl,hvk,B,_⟩:=l;obtain⟨b,a,U,W,g2,H,X,I⟩:=BN hs hi;simp only [al] at m;rw [W] at m;simp only [SR] at m;subst m;obtain⟨zv,N,Q⟩:=SQ (w:=w) (A:=AA c w O) hz;obtain⟨d,J⟩:=Bx g;have M:=BH Z;have n:=Al g o a.isEmpty w;rcases xG g o w a.toList es 0 X (λp Y=>(I p Y).1) with⟨E,k⟩ | ⟨j,y,e,p,E,k,f3,f4,f5,f6⟩
    .have f:=rG J _ _ _ E;rw [k] at h;simp only [TS,W6] at h;obtain⟨u,h,C,D⟩:=yZ F B Q h;refine⟨_,cond ok (.tuple #[zv, .bool false]) zv,h, ?_, ?_⟩
     .cases ok <;> simp [Instr.lookup,run_underlying M,Va H,n,f,N]
     .have:ax w (AA c w O) u zv:=by rw [D];exact yp C
      cases ok
      .simpa [al] using this
      .simp only [cond_true,al];exact⟨[zv, .bool false],rfl,by simp only [ay,al];exact⟨zv,[.bool false],rfl,this, .bool false,[],rfl,by simp [ax],rfl⟩⟩
    .have f:=rG J _ _ _ E;rw [k] at h;simp only [Ts,W7] at h;obtain⟨p',L,V⟩:=Gb k;have hy:dI S y=true:=by rw [<-V];exact(I p' L).2
     obtain⟨u,h,C,D⟩:=yZ F B (yp (w:=w) (A:=AA c w O) hy) h;refine⟨_,cond ok (.tuple #[dv y, .bool true]) (dv y),h, ?_, ?_⟩
     .cases ok <;> simp [Instr.lookup,run_underlying M,Va H,n,f]
     .have:ax w (AA c w O) u (dv y):=by rw [D];exact yp C
      cases ok
      .simpa [al] using this
      .simp only [cond_true,al];exact⟨[dv y, .bool true],rfl,by simp only [ay,al];exact⟨dv y,[.bool true],rfl,this, .bool true,[],rfl,by simp [ax],rfl⟩⟩
   .cases h
  .cases h
 .cases h
theorem KQ(a:ByteArray):(a==a)=true:=by
 cases a with
 | mk x=>show(x==x)=true;simp
theorem I1{k:Ck}{x:T}(h:dI k x=true)(n:Nat):Instr.sameBits n (dv x) (dv x)=true:=by cases x <;> cases k <;> simp [dI] at h <;> cases n <;> simp [Instr.sameBits,dv,KQ]
theorem QR{ag:Bool}{ks:List Ck}(a:ag=false->ks.length=1){cs:List T}(h:bR ks cs=true)(n:Nat):Instr.sameBits (n+1) (cW ag cs) (cW ag cs)=true:=by
 cases ag with
 | false=>
  obtain⟨x,rfl,e⟩:=tX a h rfl;rw [e];cases ks with
  | nil=>simp [bR] at h
  | cons k ks=>simp only [bR,S0] at h;exact I1 h.1 _
 | true=>
  simp only [cW,cond_true,Instr.sameBits,beq_self_eq_true,Uo];clear a;induction ks generalizing cs with
  | nil=>cases cs with
   | nil=>rfl
   | cons x cs=>simp [bR] at h
  | cons k ks b=>cases cs with
   | nil=>simp [bR] at h
   | cons x cs=>simp only [bR,S0] at h;have:=b h.2;simp only [TQ,List.zip_cons_cons,Uu,I1 h.1,Uo];simpa using this
theorem Rm{ag:Bool}{ks:List Ck}(a:ag=false->ks.length=1){cs:List T}(h:bR ks cs=true):(Instr.keyThatStays (cW ag cs) (cW ag cs)).run P w= .ok (cW ag cs) w:=by unfold Instr.keyThatStays;have:Instr.sameBits 10000 (cW ag cs) (cW ag cs)=true:=QR a h 9999;simp [this]
theorem It{a:List T}{v:T}:∀{es:List (List T×T)},fc a es=none->gJ a v es=es++ [(a,v)]
 | [],_=>rfl
 | (k,x)::r,h=>by
  simp only [fc] at h;cases hb:dQ a k
  .rw [hb,cond_false] at h;simp [gJ,hb,It h]
  .simp [hb] at h
theorem Iu{a:List T}{v:T}:∀{es:List (List T×T)} {i:Nat} {p:List T×T},es[i]? =some p->dQ a p.1=true->(∀i' b,i' < i->es[i']? =some b->dQ a b.1=false)->gJ a v es=es.set i (a,v)
 | [],i,p,h,_,_=>by simp at h
 | (k,x)::r,0,p,h,h1,_=>by simp at h;subst h;simp only at h1;simp [gJ,h1]
 | (k,x)::r,i+1,p,h,h1,d=>by have hb:dQ a k=false:=d 0 (k,x) (by omega) rfl;have:=Iu (v:=v) (es:=r) (i:=i) (p:=p) (by simpa using h) h1 λi' b hi e=>d (i'+1) b (by omega) (by simpa using e);simp [gJ,hb,this]
theorem Cf{ks:List Ck}{vk:Ck}{a:List T}{v:T}(d:bR ks a=true)(hv:dI vk v=true):∀{es:List (List T×T)},(∀p∈es,bR ks p.1=true/\dI vk p.2=true)->∀p∈gJ a v es,bR ks p.1=true/\dI vk p.2=true
 | [],_,p,b=>by simp [gJ] at b;subst b;exact⟨d,hv⟩
 | (k,x)::r,h,p,b=>by
  simp only [gJ] at b;cases hb:dQ a k
  .rw [hb,cond_false] at b;rcases Tg.1 b with rfl | b
   .exact h _ SW
   .exact Cf d hv (λq e=>h q (SY _ e)) p b
  .rw [hb,cond_true] at b;rcases Tg.1 b with rfl | b
   .exact⟨d,hv⟩
   .exact h p (SY _ b)
theorem HS.zd{i:Id}{b:Nat}{f ents':Array MapEntry}{d clock':Nat}{ag:Bool}{ks:List Ck}{vk:Ck}{es':List (List T×T)}{j:Id->Option aa}(hs:HS c w j ρ O)(hi:j i≠none)
  (m:ρ i=some (.map (some b))) (g:O i=some b) (l:w.heap[b]? =some (.map f d)) (n:ents'.toList.map (λe=>(e.key,e.val))=es'.map (λp=>(cW ag p.1,dv p.2))) (o:∀p∈es',bR ks p.1=true/\dI vk p.2=true):
  Le w ρ O {w with heap:=w.heap.setIfInBounds b (.map ents' clock')} ρ O/\HS c {w with heap:=w.heap.setIfInBounds b (.map ents' clock')} (aB j i (some (.mp ag ks vk es'))) ρ O:=by
 have a:∀k,k≠b->(w.heap.setIfInBounds b (.map ents' clock'))[k]? =w.heap[k]?:=λk q=>Go.ChangeMaps.heap_setBlock_other l _ q;have le:Le w ρ O {w with heap:=w.heap.setIfInBounds b (.map ents' clock')} ρ O:=Le.write g rfl rfl rfl (by simp) a;refine⟨le,hs.write g le a _ ?_ hi⟩;exact⟨b,ents',clock',m,g,Go.ChangeMaps.heap_setBlock_same l _,n,by rw [Tk];exact λp r=>by simpa using o p r⟩
theorem PR{R:Type}{t:TypeId}{x key v:AV}{vx vk vv:Value}{K:aH->Option R}{r:R}(hs:HS c w s.h ρ O)(F:al w (AA c w O) ρ x vx)(Q:al w (AA c w O) ρ key vk)(hv:al w (AA c w O) ρ v vv)
  (h:nJ P s t x key v K=some r):∃us w',K us=some r/\(Instr.mapUpdate t vx vk vv).run P w= .ok () w'/\Le w ρ O w' ρ O/\HS c w' (aK s.h us) ρ O:=by
 unfold nJ at h;obtain⟨q,hq,h⟩:=SU.1 h;obtain⟨ag,ks,cs,h,n,g,rfl⟩:=Bw (cc:=none) (.inl rfl) Q h;split at h
 .rename_i i;split at h
  .rename_i f I J es hi;split at h
   .rename_i E;obtain⟨rfl,rfl,hvk,hsc⟩:=E;obtain⟨y,hy,h⟩:=SU.1 h;rw [AV.l8 hy] at hv;simp only [al] at hv;obtain⟨u,h,T,U⟩:=yZ (cc:=none) (.inl rfl) hsc hv h;obtain⟨b,a,l,N,Y,o,C,D⟩:=BN hs hi;simp only [al] at F;rw [N] at F;simp only [SR] at F;subst F;obtain⟨d,hd⟩:=Bx n;have hu:=BH hq;have G:=Al n g false w;have Z:=(GW n).2;rcases xG n g w a.toList es 0 C (λp hp=>(D p hp).1) with⟨L,V⟩ | ⟨j,y',e,p,L,V,M,B,X,f6⟩
    .have m:=rG hd _ _ _ L;obtain⟨le,z⟩:=HS.zd (ag:=f) (ks:=I) (vk:=J) (es':=gJ cs u es) (ents':=a.push {key:=cW f cs,val:=vv,born:=l}) (clock':=l+1) hs (by rw [hi];simp) N Y o
      (by rw [It V];simp [C,U]) (Cf g T D)
     refine⟨_,_,h, ?_,le,z⟩;simp [Instr.mapUpdate,run_underlying hu,Va o,G,m,V8 _ o]
    .have m:=rG hd _ _ _ L;have hlt:j < es.length:=(Ta.1 B).1;have hpk:p.1=cs:=(F6 g (D p (SX B)).1 X).symm;have hek:e.key=cW f cs:=by
      have h1:(a.toList.map λe=>(e.key,e.val))[j]? =some (e.key,e.val):=by simp [TM,M]
      rw [C] at h1;simp only [TM,B,UR,SR,T0] at h1;rw [<-h1.1,hpk]
     have S:(a.modify j λe=>{e with key:=cW f cs,val:=vv}).toList.map (λe=>(e.key,e.val))= (gJ cs u es).map (λp=>(cW f p.1,dv p.2)):=by
      rw [Iu B X f6];refine Vo λk=> ?_;have H:(a.toList.map λe=>(e.key,e.val))[k]? = (es.map λp=>(cW f p.1,dv p.2))[k]?:=by rw [C]
      simp only [TM,Array.toList_modify,List.getElem?_modify,Ue] at H⊢;by_cases e0:j=k
      .subst e0;simp [M,hlt,U]
      .simp only [e0,if_false];simpa using H
     obtain⟨le,z⟩:=HS.zd (ag:=f) (ks:=I) (vk:=J) (es':=gJ cs u es) (ents':=a.modify j λe=>{e with key:=cW f cs,val:=vv}) (clock':=l) hs (by rw [hi];simp) N Y o S (Cf g T D);refine⟨_,_,h, ?_,le,z⟩;have hst:=Rm (P:=P) (w:=w) Z g;have W:a[j]? =some e:=by simpa using M
     rw [TC] at m;simp [Instr.mapUpdate,run_underlying hu,Va o,G,m,W,hek,hst,V8 _ o]
   .cases h
  .cases h
 .cases h
theorem EB{a:List T}:∀{es:List (List T×T)},fc a es=none->iT a es=es
 | [],_=>rfl
 | p::es,h=>by
  unfold fc at h;unfold iT;cases b:dQ a p.1 with
  | true=>rw [b] at h;simp at h
  | false=>rw [b] at h;simp only [cond_false] at h⊢;rw [EB h]
theorem EA{a:List T}:∀{es:List (List T×T)} {i:Nat} {p:List T×T},es[i]? =some p->dQ a p.1=true->(∀i' b,i' < i->es[i']? =some b->dQ a b.1=false)->iT a es=es.eraseIdx i
 | [],_,_,h,_,_=>by simp at h
 | q::es,0,p,h,d,_=>by simp only [U1,SR] at h;subst h;simp [iT,d]
 | q::es,i+1,p,h,d,hb=>by have e:=hb 0 q (by omega) rfl;unfold iT;rw [e,cond_false,EA (by simpa using h) d (λi' b hi f=>hb (i'+1) b (by omega) (by simpa using f))];rfl
theorem BI{a b:Type}(f:a->b):∀(l:List a) (i:Nat),(l.eraseIdx i).map f= (l.map f).eraseIdx i
 | [],_=>rfl
 | _::_,0=>rfl
 | x::l,i+1=>by simp only [List.eraseIdx_cons_succ,TQ,BI f l i]
theorem Aw{a:List T}:∀{es:List (List T×T)},∀p∈iT a es,p∈es
 | [],p,h=>h
 | q::es,p,h=>by
  unfold iT at h;cases b:dQ a q.1 with
  | true=>rw [b] at h;exact SY _ h
  | false=>
   rw [b] at h;rcases Tg.1 h with rfl | h
   .exact SW
   .exact SY _ (Aw p h)
theorem Lo{R:Type}{t ty tr:TypeId}{x key:AV}{T vk:Value}{K:aH->Option R}{r:R}(hs:HS c w s.h ρ O)(v:al w (AA c w O) ρ x T)(H:al w (AA c w O) ρ key vk)
  (h:m6 P s t x key K=some r):∃us w',K us=some r/\(Builtin.delete_ #[t,ty] tr #[T,vk]).run P w= .ok (.tuple #[]) w'/\Le w ρ O w' ρ O/\HS c w' (aK s.h us) ρ O:=by
 unfold m6 at h;obtain⟨q,X,h⟩:=SU.1 h;obtain⟨ag,ks,cs,h,l,B,rfl⟩:=Bw (cc:=none) (.inl rfl) H h;split at h
 .rename_i i;split at h
  .rename_i y C D es hi;split at h
   .rename_i u;obtain⟨rfl,rfl⟩:=u;obtain⟨b,a,f,F,L,k,o,G⟩:=BN hs hi;simp only [al] at v;rw [F] at v;simp only [SR] at v;subst v;obtain⟨d,M⟩:=Bx l;have S:=BH X;have z:=Al l B a.isEmpty w;rcases xG l B w a.toList es 0 o (λp m=>(G p m).1) with⟨E,I⟩ | ⟨j,y',e,p,E,I,Y,J,U,V⟩
    .have g:=rG M _ _ _ E;obtain⟨le,n⟩:=HS.zd (ag:=y) (ks:=C) (vk:=D) (es':=iT cs es) (ents':=a) (clock':=f) hs (by rw [hi];simp) F L k (by rw [EB I];exact o) (λp m=>G p (Aw p m));refine⟨_,_,h, ?_,le,n⟩;simp [Builtin.delete_,run_underlying S,Va k,z,g,V8 _ k]
    .have g:=rG M _ _ _ E;have Q:j < es.length:=(Ta.1 J).1;have N:a.toList.length=es.length:=by simpa using congrArg List.length o
     have W:j < a.size:=by rw [<-Tu,N];exact Q
     obtain⟨le,n⟩:=HS.zd (ag:=y) (ks:=C) (vk:=D) (es':=iT cs es) (ents':=a.eraseIdxIfInBounds j) (clock':=f) hs (by rw [hi];simp) F L k (by
       rw [EA J U V,BI,<-o,<-BI];simp only [Array.eraseIdxIfInBounds,W,dif_pos,Array.toList_eraseIdx]) (λp m=>G p (Aw p m))
     refine⟨_,_,h, ?_,le,n⟩;rw [TC] at g;simp [Builtin.delete_,run_underlying S,Va k,z,g,V8 _ k]
   .cases h
  .cases h
 .cases h
theorem OB{R:Type}{d:Nat}{t:TypeId}{K:AV->aH->Option R}{r:R}(hs:HS c w s.h ρ O)(h:rS P d t K=some r):
  ∃v us,K v us=some r/\(iV d s.h us=true->∃u w' ρ' O',(Instr.makeMap t none).run P w= .ok u w'/\Le w ρ O w' ρ' O'/\HS c w' (aK s.h us) ρ' O'/\al w' (AA c w' O') ρ' v u):=by
 unfold rS at h;obtain⟨q,g,h⟩:=SU.1 h;obtain⟨p,f,h⟩:=SU.1 h;split at h
 .rename_i e;refine⟨_,_,h,λa=> ?_⟩;have a:=kL a SW;have le:=Le.alloc hs (i:= .s d 0) rfl a (.map #[] 0) (.map (some w.heap.size)) (some w.heap.size) (.inr rfl);have b:=hs.alloc (i:= .s d 0) rfl a (.map #[] 0) (.map (some w.heap.size)) (some w.heap.size) (.inr rfl) (.mp p.1 p.2 (lI P q.2) []) ⟨w.heap.size,#[],0,by simp,by simp,kN _,by simp,by simp⟩;refine⟨.map (some w.heap.size),_,_,_,rfl,le,by rw [dZ];exact b, ?_⟩;simp only [al];rw [aD]
 .cases h
end
end Go.Aev
