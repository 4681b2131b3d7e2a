import Derived.Test.YtdjbbnlgpddbmaaAwayAllQ2
import Derived.MapKept
import Derived.ChangeMaps5
set_option linter.all false
namespace Go.Aev
open Go Go.IntKind
section
variable {P:Program} {w w':World} {A A':Nat->Prop} {c:Ctx} {ρ:Id->Option Value} {O:Id->Option Nat} {s:St} {cc:Option Bool} {h:Id->Option ab}
def hJ(ρ:Id->Option Value)(i i':Id)(nx:Nat)(v vk:Value):Id->Option Value:=λx=>
 if x=i' then some v else match x with
  | .g y n=>if y=i' then(if n=nx then some vk else ρ (.g i n)) else ρ (.g y n)
  | x=>ρ x
def dK(O:Id->Option Nat)(i i' j src:Id)(nx:Nat)(ob:Option Nat):Id->Option Nat:=λx=>
 if x=i' then ob else if x=i\/x=j\/x=src then none else match x with
  | .g y n=>if y=i' then(if n=nx then O src else O (.g i n)) else if y=i then none else O (.g y n)
  | x=>O x
def sW(i i' j src:Id)(nx:Nat):Id->Option Id:=λx=>
 if x=i' then some i else if x=i\/x=j\/x=src then none else match x with
  | .g y n=>if y=i' then(if n=nx then some src else some (.g i n)) else if y=i then none else some (.g y n)
  | x=>some x
def mR(i i' src:Id)(nx:Nat):Id->Id:=λz=>
 if z=i then i' else if z=src then .g i' nx else match z with
  | .g y n=>if y=i then .g i' n else .g y n
  | z=>z
theorem wW{i i' j src:Id}{nx:Nat}(p:src≠i)(o:∀n,src≠ .g i n)(m:i.real=true){x z:Id}(b:sW i i' j src nx x=some z):mR i i' src nx z=x:=by
 unfold sW at b;split at b
 .rename_i h;simp only [RJ] at b;subst b;unfold mR;rw [if_pos rfl,h]
 .rename_i h1;split at b
  .cases b
  .rename_i l;have f:x≠i:=λe=>l (.inl e);have k:x≠src:=λe=>l (.inr (.inr e));cases x with
   | g y n=>
    dsimp only at b;split at b
    .rename_i e;subst e;split at b
     .rename_i q;simp only [RJ] at b;subst b;unfold mR;rw [if_neg p,if_pos rfl,q]
     .simp only [RJ] at b;subst b;unfold mR;rw [if_neg (aJ m),if_neg (λe=>o n e.symm)];simp
    .split at b
     .cases b
     .rename_i e3;simp only [RJ] at b;subst b;unfold mR;rw [if_neg f,if_neg k];simp [e3]
   | c a=>simp only [RJ] at b;subst b;unfold mR;rw [if_neg f,if_neg k]
   | s d a=>simp only [RJ] at b;subst b;unfold mR;rw [if_neg f,if_neg k]
theorem OP{i i' j src:Id}{nx:Nat}{ob:Option Nat}{x:Id}{d:Nat}(b:dK O i i' j src nx ob x=some d):(x=i'/\ob=some d)\/(x≠i'/\∃z,sW i i' j src nx x=some z/\O z=some d):=by
 unfold dK at b;unfold sW;split at b
 .exact .inl ⟨by assumption,b⟩
 .rename_i h1;right;refine⟨h1, ?_⟩;rw [if_neg h1];split at b
  .cases b
  .rename_i k;rw [if_neg k];cases x with
   | g y n=>
    dsimp only at b⊢;split at b
    .rename_i e;rw [if_pos e];split at b
     .rename_i f;rw [if_pos f];exact⟨_,rfl,b⟩
     .rename_i f;rw [if_neg f];exact⟨_,rfl,b⟩
    .rename_i e;rw [if_neg e];split at b
     .cases b
     .rename_i e3;rw [if_neg e3];exact⟨_,rfl,b⟩
   | c a=>exact⟨_,rfl,b⟩
   | s d a=>exact⟨_,rfl,b⟩
theorem HS.HI{i i' j src s0:Id}{b:Bool}{sz ax rsz nx:Nat}{es:List Row}{l:List T}{bb:Bool}{xs:List (List T)}{vk:Value}{X:ab}{af blk' off off' cap':Nat}{M:Array Value}{t':TypeId}{ob:Option Nat}{news:List Value}
  (hs:HS c w h ρ O) (hi:h i=some (.rows b sz ax rsz nx es)) (H:h i'=none) (hrl:i'.real=true) (hj:h j≠none) (hji:j≠i) (hs0:h s0≠none) (hs0i:s0≠i) (hs0j:s0≠j)
  (t:src=s0\/∃n,src= .g s0 n) (hvk:ρ src=some vk) (hsl:cg w (AA c w O) rsz bb xs vk (λd=>O src=some d))
  (hos:w'.os=w.os) (ho:w'.output=w.output) (htp:w'.tape=w.tape) (hsz:w.heap.size<=w'.heap.size) (U:∀k,k < w.heap.size->O i≠some k->w'.heap[k]? =w.heap[k]?)
  (W:ob=O i\/(ob=some w.heap.size/\w.heap.size < w'.heap.size)) (hobs:ob=some blk') (hb:w'.heap[blk']? =some (.cells M t' (0,0))) (hfit:off'+cap' * sz<=M.size) (hcap:es.length+1<=cap')
  (hrows:bO w (AA c w O) ρ O i af sz ax rsz off es) (hold:∀p,p < es.length * sz->w'.cell? ⟨blk',off'+p,none⟩=w.cell? ⟨af,off+p,none⟩)
  (hcol:ax < sz) (hl:l.length=sz) (hnew:∀p v,news[p]? =some v->w'.cell? ⟨blk',off'+es.length * sz+p,none⟩=some v) (hnr:∀m x,m≠ax->l[m]? =some x->∃v,news[m]? =some v/\au w (AA c w O) x v) (hnk:news[ax]? =some vk)
  (hX:(∀b,AA c w O b->AA c w' (dK O i i' j src nx ob) b/\w'.heap[b]? =w.heap[b]?)->cr w' (AA c w' (dK O i i' j src nx ob)) (hJ ρ i i' nx (.slice (some ⟨blk',off',none⟩) (es.length+1) cap') vk) (dK O i i' j src nx ob) s0 X):
  Le w ρ O w' (hJ ρ i i' nx (.slice (some ⟨blk',off',none⟩) (es.length+1) cap') vk) (dK O i i' j src nx ob)/\
  HS c w' (aA (aA (aA (aA h i (some .dead)) j (some .dead)) s0 (some X)) i' (some (.rows false sz ax rsz (nx+1) (es++ [⟨nx,l,some (bb,xs)⟩])))) (hJ ρ i i' nx (.slice (some ⟨blk',off',none⟩) (es.length+1) cap') vk) (dK O i i' j src nx ob):=by
 have B:=hs.real (i:=i) (by rw [hi];simp);have K:=hs.real hj;have J:=hs.real hs0;have hii:i'≠i:=λe=>by rw [e,hi] at H;cases H
 have hij:i'≠j:=λe=>hj (e▸H);have hi0:i'≠s0:=λe=>hs0 (e▸H);have L:src≠i:=by
  rcases t with rfl | ⟨n,rfl⟩
  .exact hs0i
  .exact aJ B
 have hsj:src≠j:=by
  rcases t with rfl | ⟨n,rfl⟩
  .exact hs0j
  .exact aJ K
 have hsi':src≠i':=by
  rcases t with rfl | ⟨n,rfl⟩
  .exact hi0.symm
  .exact aJ hrl
 have Y:∀n,src≠ .g i n:=by
  intro n;rcases t with rfl | ⟨m,rfl⟩
  .exact(aJ J).symm
  .intro e;simp only [Id.g.injEq] at e;exact hs0i e.1
 have hsg':∀n,src≠ .g i' n:=by
  intro n;rcases t with rfl | ⟨m,rfl⟩
  .exact(aJ J).symm
  .intro e;simp only [Id.g.injEq] at e;exact hi0 e.1.symm
 obtain⟨a,cap,r1,r2,r3,⟨n1,n2,n3,n4⟩,r5⟩:=hs.af i _ hi;obtain⟨V,hV⟩:∃V,V=hJ ρ i i' nx (.slice (some ⟨blk',off',none⟩) (es.length+1) cap') vk:=⟨_,rfl⟩;obtain⟨Q,N⟩:∃Q,Q=dK O i i' j src nx ob:=⟨_,rfl⟩;rw [<-hV,<-N] at hX⊢;have V1:V i'=some (.slice (some ⟨blk',off',none⟩) (es.length+1) cap'):=by rw [hV];unfold hJ;rw [if_pos rfl]
 have V2:∀x,x.real=true->x≠i'->V x=ρ x:=by
  intro x hr o;rw [hV];unfold hJ;rw [if_neg o];cases x with
  | g y n=>cases hr
  | _=>rfl
 have V3:∀y n,y≠i'->V (.g y n)=ρ (.g y n):=by intro y n hy;rw [hV];unfold hJ;rw [if_neg (aJ hrl)];simp only [if_neg hy]
 have V4:∀n,V (.g i' n)=if n=nx then some vk else ρ (.g i n):=by intro n;rw [hV];unfold hJ;rw [if_neg (aJ hrl)];simp
 have Q1:Q i'=ob:=by rw [N];unfold dK;rw [if_pos rfl]
 have Q0:∀x,x≠i'->(x=i\/x=j\/x=src)->Q x=none:=by intro x o C;rw [N];unfold dK;rw [if_neg o,if_pos C]
 have Q2:∀x,x.real=true->x≠i'->x≠i->x≠j->x≠src->Q x=O x:=by
  intro x hr o h1 C h3;rw [N];unfold dK;rw [if_neg o,if_neg (by rintro(h | h | h) <;> contradiction)];cases x with
  | g y n=>cases hr
  | _=>rfl
 have Q3:∀y n,y≠i'->y≠i->Id.g y n≠src->Q (.g y n)=O (.g y n):=by intro y n hy hy2 h3;rw [N];unfold dK;rw [if_neg (aJ hrl),if_neg (by rintro(h | h | h);exact aJ B h;exact aJ K h;exact h3 h)];simp only [if_neg hy,if_neg hy2]
 have Q4:∀n,Q (.g i' n)=if n=nx then O src else O (.g i n):=by intro n;rw [N];unfold dK;rw [if_neg (aJ hrl),if_neg (by rintro(h | h | h);exact aJ B h;exact aJ K h;exact hsg' n h.symm)];simp
 have S:∀x d,Q x=some d->(x=i'/\ob=some d)\/(x≠i'/\∃z,sW i i' j src nx x=some z/\O z=some d):=λx d o=>OP (by rw [<-N];exact o);have le:Le w ρ O w' V Q:=by
  refine⟨hos,ho,htp,hsz,λx u o=> ?_,λd r hn=>U d r (hn i),λx d o=> ?_⟩
  .cases hr:x.real with
   | true=>
    have:x≠i':=λe=>by rw [e,(hs.bS i' hrl H).1] at o;cases o
    rw [V2 x hr this];exact o
   | false=>
    cases x with
    | g y n=>
     have:y≠i':=λe=>by rw [e,(hs.eO i' n H).1] at o;cases o
     rw [V3 y n this];exact o
    | _=>cases hr
  .rcases S x d o with⟨_,h1⟩ | ⟨_,z,_,C⟩
   .rcases W with e | ⟨e,_⟩
    .exact .inl ⟨i,by rw [<-e];exact h1⟩
    .rw [e] at h1;cases h1;exact .inr (R3 _)
   .exact .inl ⟨z,C⟩
 have hA:∀d,AA c w O d->AA c w' Q d/\w'.heap[d]? =w.heap[d]?:=λd r=>le.A d r;have E:∀x d,x≠i->O x=some d->w'.heap[d]? =w.heap[d]?:=λx d o r=>U d (hs.lt x d r) λe=>o (hs.inj x i d r e);refine⟨le,hs.nH le (λx y o=> ?_) (λx hr o=> ?_) (λx n=> ?_) (λx n o=> ?_) (λx n u G=> ?_) (λx y d o hy=> ?_) (λx d o=> ?_)⟩
 .by_cases I:x=i'
  .subst I;rw [aB] at o;cases o;right;have hlen:(es++ [(⟨nx,l,some (bb,xs)⟩:Row)]).length=es.length+1:=by simp
   refine⟨some ⟨blk',off',none⟩,cap',by rw [hlen];exact V1,by rw [hlen];exact hcap,by simp,⟨?_,λf D=> ?_,λn hn=> ?_,λn d r=> ?_⟩, .inr ⟨blk',off',M,t',rfl,by rw [Q1];exact hobs,hb,hfit,bO.append ?_ ⟨?_,trivial⟩⟩⟩
   .rw [UL,Tk];refine⟨n1,by simp,λa ha b hb=> ?_⟩;simp only [Se,T0,RP] at hb;obtain⟨f,D,e⟩:=Si.1 ha;have:=n2 f D;omega
   .rcases RX.1 D with D | D
    .have:=n2 f D;omega
    .simp only [RP] at D;subst D;simp
   .rw [V4,if_neg (by omega)];exact n3 n (by omega)
   .rw [Q4] at r;by_cases en:n=nx
    .exact⟨_,RW _ (RP.2 rfl),en.symm⟩
    .rw [if_neg en] at r;obtain⟨f,D,hfn⟩:=n4 n d r;exact⟨f,RY _ D,hfn⟩
   .refine bO.move hA hold (λf D=> ?_) hrows;have q:f.n≠nx:=by have:=n2 f D;omega
    exact⟨by rw [V4,if_neg q],by rw [Q4,if_neg q],λd r=>E _ d (aJ B) r⟩
   .refine⟨hl,hcol,λm y hm hy=> ?_,vk,hnew ax vk hnk,by rw [V4];simp, ?_⟩
    .obtain⟨v,g1,g2⟩:=hnr m y hm hy;exact⟨v,hnew m v g1,au.mono hA y v g2⟩
    .simp only;refine cg.mono hA (λd r=> ?_) hsl;rw [Q4];exact⟨by simpa using r,E src d L r⟩
  .rw [al _ _ I] at o;by_cases Z:x=s0
   .subst Z;rw [aB] at o;cases o;exact .inr (hX hA)
   .rw [al _ _ Z] at o;by_cases e3:x=j
    .subst e3;rw [aB] at o;cases o;obtain⟨y,hy⟩:=U8.1 hj;have:∃u,ρ x=some u:=by
      cases F:ρ x with
      | some u=>exact⟨u,rfl⟩
      | none=>
       exfalso;have:=hs.af x y hy;cases y with
       | box cs=>obtain⟨b,_,_,h1,_⟩:=this;rw [F] at h1;cases h1
       | sl fz sz b xs=>obtain⟨v,h1,_⟩:=this;rw [F] at h1;cases h1
       | gX l=>obtain⟨b,h1,_⟩:=this;rw [F] at h1;cases h1
       | mp ag ks vk es=>obtain⟨b,_,_,h1,_⟩:=this;rw [F] at h1;cases h1
       | arr cs=>obtain⟨b,_,_,h1,_⟩:=this;rw [F] at h1;cases h1
       | rows _ _ _ _ _ _=>obtain⟨_,_,h1,_⟩:=this;rw [F] at h1;cases h1
       | dead=>obtain⟨⟨v,h1,_⟩,_⟩:=this;rw [F] at h1;cases h1
     obtain⟨u,G⟩:=this;exact .inr ⟨⟨u,by rw [V2 x K I];exact G,jw hs G⟩,Q0 x I (.inr (.inl rfl))⟩
    .rw [al _ _ e3] at o;by_cases e4:x=i
     .subst e4;rw [aB] at o;cases o;exact .inr ⟨⟨_,by rw [V2 x B I];exact r1,rfl,rfl⟩,Q0 x I (.inl rfl)⟩
     .rw [al _ _ e4] at o;have hrx:=hs.real (i:=x) (by rw [o];simp);have e5:x≠src:=by
       rcases t with rfl | ⟨n,rfl⟩
       .exact Z
       .exact(aJ hrx).symm
      refine .inl ⟨o,Q2 x hrx I e4 e3 e5,λd r=>E x d e4 r,λn=>⟨V3 x n I,Q3 x n I e4 ?_,λd r=>E _ d (aJ B) r⟩⟩;rcases t with rfl | ⟨m,rfl⟩
      .exact aJ J
      .intro e;simp only [Id.g.injEq] at e;exact Z e.1
 .have q:x≠i':=λe=>by rw [e,aB] at o;cases o
  rw [al _ _ q] at o;have h0:x≠s0:=λe=>by rw [e,aB] at o;cases o
  rw [al _ _ h0] at o;have h1:x≠j:=λe=>by rw [e,aB] at o;cases o
  rw [al _ _ h1] at o;have C:x≠i:=λe=>by rw [e,aB] at o;cases o
  rw [al _ _ C] at o;have h5:x≠src:=by
   rcases t with rfl | ⟨n,rfl⟩
   .exact h0
   .exact(aJ hr).symm
  rw [V2 x hr q,Q2 x hr q C h1 h5];exact hs.bS x hr o
 .rw [al _ _ (aJ hrl),al _ _ (aJ J),al _ _ (aJ K),al _ _ (aJ B)];exact hs.dc x n
 .have q:x≠i':=λe=>by rw [e,aB] at o;cases o
  rw [al _ _ q] at o;have h0:x≠s0:=λe=>by rw [e,aB] at o;cases o
  rw [al _ _ h0] at o;have h1:x≠j:=λe=>by rw [e,aB] at o;cases o
  rw [al _ _ h1] at o;have C:x≠i:=λe=>by rw [e,aB] at o;cases o
  rw [al _ _ C] at o;have h5:Id.g x n≠src:=by
   rcases t with rfl | ⟨m,rfl⟩
   .exact aJ J
   .intro e;simp only [Id.g.injEq] at e;exact h0 e.1
  rw [V3 x n q,Q3 x n q C h5];exact hs.eO x n o
 .by_cases q:x=i'
  .subst q;rw [V4] at G;split at G
   .simp only [RJ] at G;subst G;exact jw hs hvk
   .exact hs.gone i n u G
  .rw [V3 x n q] at G;exact hs.gone x n u G
 .rcases S x d o with⟨x1,x2⟩ | ⟨x1,z,x2,x3⟩ <;> rcases S y d hy with⟨y1,R⟩ | ⟨y1,z',R,y3⟩
  .rw [x1,y1]
  .rcases W with e | ⟨e,_⟩
   .rw [e] at x2;have:=hs.inj i z' d x2 y3;subst this;have:=wW L Y B R;unfold mR at this;rw [if_pos rfl] at this;rw [x1];exact this
   .rw [e] at x2;cases x2;exact absurd (hs.lt _ _ y3) (Ua _)
  .rcases W with e | ⟨e,_⟩
   .rw [e] at R;have:=hs.inj i z d R x3;subst this;have:=wW L Y B x2;unfold mR at this;rw [if_pos rfl] at this;rw [y1];exact this.symm
   .rw [e] at R;cases R;exact absurd (hs.lt _ _ x3) (Ua _)
  .have:=hs.inj z z' d x3 y3;subst this;rw [<-wW L Y B x2,<-wW L Y B R]
 .rcases S x d o with⟨_,h1⟩ | ⟨_,z,_,C⟩
  .rcases W with e | ⟨e,Z⟩
   .rw [e] at h1;have:=hs.lt i d h1;omega
   .rw [e] at h1;cases h1;exact Z
  .have:=hs.lt z d C;omega
end
open Go Go.IntKind
section
variable {P:Program} {w w':World} {A A':Nat->Prop} {c:Ctx} {ρ:Id->Option Value} {O:Id->Option Nat} {s:St} {cc:Option Bool} {h:Id->Option ab}
theorem HS.move{i i':Id}(hs:HS c w h ρ O)(hi:h i≠none)(B:h i'=none)(v:Value)(g:Option Nat)(J:w'.os=w.os)(q:w'.output=w.output)(L:w'.tape=w.tape)(K:w.heap.size<=w'.heap.size)
  (o:∀k,k < w.heap.size->O i≠some k->w'.heap[k]? =w.heap[k]?) (t:g=none\/g=O i\/(g=some w.heap.size/\w.heap.size < w'.heap.size)) (x:ab)
  (R:cr w' (AA c w' (aA (aA O i none) i' g)) (aA ρ i' (some v)) (aA (aA O i none) i' g) i' x) (hrl:i'.real=true:=by rfl):
  Le w ρ O w' (aA ρ i' (some v)) (aA (aA O i none) i' g)/\HS c w' (aA (aA h i' (some x)) i (some .dead)) (aA ρ i' (some v)) (aA (aA O i none) i' g):=by
 have C:i≠i':=λe=>hi (e▸B);have M:∀b,g=some b->b < w'.heap.size:=by
  intro b hb;rcases t with e | e | ⟨e,f⟩
  .rw [e] at hb;cases hb
  .rw [e] at hb;have:=hs.lt i b hb;omega
  .rw [e] at hb;cases hb;exact f
 have le:Le w ρ O w' (aA ρ i' (some v)) (aA (aA O i none) i' g):=by
  refine⟨J,q,L,K,λj u a=> ?_,λb hb hn=>o b hb (hn i),λj b a=> ?_⟩
  .by_cases e:j=i'
   .subst e;rw [(hs.bS _ hrl B).1] at a;cases a
   .rw [al _ _ e];exact a
  .by_cases e:j=i'
   .subst e;rw [aB] at a;rcases t with e | e | ⟨e,_⟩
    .rw [e] at a;cases a
    .rw [e] at a;exact .inl ⟨i,a⟩
    .rw [e] at a;cases a;exact .inr (R3 _)
   .rw [al _ _ e] at a;by_cases f:j=i
    .subst f;rw [aB] at a;cases a
    .rw [al _ _ f] at a;exact .inl ⟨j,a⟩
 have y:=hs.real hi;have N:GK w ρ O w' (aA ρ i' (some v)) (aA (aA O i none) i' g):=λj n=>⟨al _ _ (aJ hrl),by rw [al _ _ (aJ hrl),al _ _ (aJ y)],λb hb=>o b (hs.lt _ b hb) λe=>aJ y (hs.inj _ i b hb e)⟩;refine⟨le,hs.go le N (λj S a=> ?_) (λj I a=> ?_) (λj a=> ?_) (λj n=>by rw [al _ _ (aJ y),al _ _ (aJ hrl)];exact hs.dc j n) (λj k d a hk=> ?_) (λj d a=> ?_)⟩
 .by_cases e:j=i
  .subst e;rw [aB] at a;cases a;right;obtain⟨b,hb⟩:=U8.1 hi;have E:∃u,ρ j=some u/\u.oneCell'=true/\u.cells= #[u]:=by
    cases m:ρ j with
    | none=>
     exfalso;have:=hs.af j b hb;cases b with
     | box cs=>obtain⟨b,_,_,h1,_⟩:=this;rw [m] at h1;cases h1
     | sl T sz b xs=>obtain⟨v,h1,_⟩:=this;rw [m] at h1;cases h1
     | gX l=>obtain⟨b,h1,_⟩:=this;rw [m] at h1;cases h1
     | mp ag ks vk es=>obtain⟨b,_,_,h1,_⟩:=this;rw [m] at h1;cases h1
     | arr cs=>obtain⟨b,_,_,h1,_⟩:=this;rw [m] at h1;cases h1
     | rows _ _ _ _ _ _=>obtain⟨_,_,h1,_⟩:=this;rw [m] at h1;cases h1
     | dead=>obtain⟨⟨v,h1,_⟩,_⟩:=this;rw [m] at h1;cases h1
    | some u=>exact⟨u,rfl,jw hs m⟩
   obtain⟨u,h1,Q⟩:=E;exact⟨⟨u,by rw [al _ _ C];exact h1,Q⟩,by rw [al _ _ C,aB]⟩
  .rw [al _ _ e] at a;by_cases f:j=i'
   .subst f;rw [aB] at a;cases a;exact .inr R
   .rw [al _ _ f] at a;refine .inl ⟨a,by rw [al _ _ f,al _ _ e],λaf r=>o af (hs.lt j af r) (λq=>e (hs.inj j i af r q))⟩
 .by_cases e:j=i
  .subst e;rw [aB] at a;cases a
  .rw [al _ _ e] at a;by_cases f:j=i'
   .subst f;rw [aB] at a;cases a
   .rw [al _ _ f] at a;rw [al _ _ f,al _ _ f,al _ _ e];exact hs.bS j I a
 .by_cases e:j=i
  .subst e;rw [aB] at a;cases a
  .rw [al _ _ e] at a;by_cases f:j=i'
   .subst f;rw [aB] at a;cases a
   .rw [al _ _ f] at a;exact a
 .have z:∀j b,aA (aA O i none) i' g j=some b->(j=i'/\g=some b)\/(j≠i'/\j≠i/\O j=some b):=by
   intro j b a;by_cases e:j=i'
   .subst e;rw [aB] at a;exact .inl ⟨rfl,a⟩
   .rw [al _ _ e] at a;by_cases f:j=i
    .subst f;rw [aB] at a;cases a
    .rw [al _ _ f] at a;exact .inr ⟨e,f,a⟩
  have p:∀k b,g=some b->k≠i->O k=some b->False:=by
   intro k b hb hk q;rcases t with e | e | ⟨e,_⟩
   .rw [e] at hb;cases hb
   .rw [e] at hb;exact hk (hs.inj k i b q hb)
   .rw [e] at hb;cases hb;exact Ua _ (hs.lt k _ q)
  rcases z j d a with⟨F,f⟩ | ⟨F,f,e3⟩ <;> rcases z k d hk with⟨G,D⟩ | ⟨G,D,H⟩
  .rw [F,G]
  .exact(p k d f D H).elim
  .exact(p j d D f e3).elim
  .exact hs.inj j k d e3 H
 .by_cases e:j=i'
  .subst e;rw [aB] at a;exact M d a
  .rw [al _ _ e] at a;by_cases f:j=i
   .subst f;rw [aB] at a;cases a
   .rw [al _ _ f] at a;have:=hs.lt j d a;omega
theorem IL{v:AV}{x:T}{u:Value}{sz:Nat}{p:Bool×List (List T)}(hs:HS c w h ρ O)(hv:ai w (AA c w O) ρ v u)(d:cO h v=some x)(D:x.aM sz=some p):
  (p.2= []/\(u= .slice none 0 0\/∃a cap,u= .slice (some a) 0 cap))\/∃af off cap,u= .slice (some ⟨af,off,none⟩) p.2.length cap/\aR w (AA c w O) af sz off p.2:=by
 have f:au w (λ_=>True) x u:=l8 hs hv d (λ_ _=>trivial) (λ_ _ _ _=>trivial);have bw:p.2= []->(u= .slice none 0 0\/∃a cap,u= .slice (some a) 0 cap):=by
  intro e;rcases T.o9 D with rfl | ⟨rfl,_⟩
  .simp only [au] at f;rcases f with⟨_,_,rfl⟩ | ⟨_,af,off,G,cap,rfl,_⟩
   .exact .inl rfl
   .rw [e];exact .inr ⟨_,_,rfl⟩
  .simp only [au] at f;rcases f with⟨_,rfl⟩ | ⟨_,af,off,G,rfl⟩
   .exact .inl rfl
   .exact .inr ⟨_,_,rfl⟩
 by_cases e:p.2= []
 .exact .inl ⟨e,bw e⟩
 right;have N:x= .ae sz p.1 p.2:=by
  rcases T.o9 D with h | ⟨_,h⟩
  .exact h
  .exact absurd h e
 subst N;cases v <;> simp only [cO,reduceCtorEq,RJ] at d
 case t y=>
  subst d;simp only [ai,au] at hv;rcases hv with⟨_,h,_⟩ | ⟨_,af,off,G,cap,rfl,_,r,g⟩
  .exact absurd h e
  .rcases r with r | ⟨rfl,_⟩
   .exact absurd r e
   exact⟨af,off,cap,rfl,g⟩
 case own i=>
  split at d
  .rename_i M m b xs hi;simp only [RJ,T.ae.injEq] at d;obtain⟨rfl,rfl,rfl⟩:=d;obtain⟨X,z,a,cap,q1,Q,R,S,k⟩:=mZ hs hi;simp only [ai] at hv;rw [z] at hv;simp only [RJ] at hv;subst hv;subst q1;rcases k with k | ⟨af,off,arr,t,C,U,V,W,j⟩
   .exact absurd (R4.1 (by omega)) e
   .subst C;exact⟨af,off,cap,rfl,j⟩
  .simp at d
 case ref i off=>
  split at d
  .obtain⟨l,_,d⟩:=RK.1 d;simp at d
  .simp at d
  .simp at d
 case part i Y off n=>
  split at d
  .rename_i M m b xs hi;split at d
   .rename_i E;subst E;simp only [RJ,T.ae.injEq] at d;obtain⟨rfl,rfl,F⟩:=d;obtain⟨X,z,a,cap,q1,Q,R,S,k⟩:=mZ hs hi;simp only [ai] at hv;obtain⟨Z,L,I,H,q,e2,e3,rfl,J⟩:=hv;rw [z] at q;simp only [RJ] at q;subst q;simp only [SX] at q1;obtain⟨rfl,rfl,rfl⟩:=q1;have B:((xs.drop off).take n).length=n:=by simp only [SD,Ts];omega
    rw [<-F] at e⊢;have hn:n≠0:=λh=>e (by rw [h];rfl);rcases k with k | ⟨af,off',arr,t,C,U,V,W,j⟩
    .omega
    .subst C;have K:H=some ⟨af,off'+off * m,none⟩:=by
      rcases J with⟨rfl,rfl⟩ | ⟨rfl,_⟩ | ⟨b',o,e5,e6⟩
      .simp
      .omega
      .simp only [RJ,SL] at e5;obtain⟨rfl,rfl,_⟩:=e5;exact e6
     subst K;exact⟨af,_,_,by rw [B],(j.drop off).take n⟩
   .simp at d
  .simp at d
theorem Pw{t j ty e:TypeId}{i:TypeInfo}(l:P.underlying t=some (.slice e))(hi:P.info? e=some i){b off a d:Nat}{arr:Array Value}{tt:TypeId}(hb:w.heap[b]? =some (.cells arr tt (0,0))){x:Value}{n:Nat}{news:List Value}
  (hs:Src P i.size j x n news w) (f:a+n<=d) (k:off+d * i.size<=arr.size):
  (Builtin.append_ #[t,j] ty #[.slice (some ⟨b,off,none⟩) a d,x]).run P w= .ok (.slice (some ⟨b,off,none⟩) (a+n) d) (w.setRow b (bE (off+a * i.size) news arr.toList).toArray):=by
 have hl:=hs.newsLen;have hm:(a+n) * i.size<=d * i.size:=SE _ f;have e:(a+n) * i.size=a * i.size+n * i.size:=Ui _ _ _;have g:=run_storeCells_at P b (off+a * i.size) tt news 0 arr w hb (by omega) hs.one;simp only [UE] at g;rcases hs.kind with⟨m,hk⟩ | hk <;> simp [Builtin.append_,run_underlying l,run_underlying hk,sizeOf,typeInfo,hi,hs.len,f,hs.cells,gh,g,bE]
theorem Pv{t g ty e:TypeId}{i:TypeInfo}(j:P.underlying t=some (.slice e))(hi:P.info? e=some i){base:Option Addr}{d b:Nat}{x:Value}(hs:Src P i.size g x 0 [] w)(f:d<=b):
  (Builtin.append_ #[t,g] ty #[.slice base d b,x]).run P w= .ok (.slice base d b) w:=by
 have l:∀a:Addr,(storeCells a []).run P w= .ok () w:=λa=>by simp [storeCells]
 cases base <;> rcases hs.kind with⟨k,hk⟩ | hk <;> simp [Builtin.append_,run_underlying j,run_underlying hk,sizeOf,typeInfo,hi,hs.len,f,hs.cells,storeCells]
structure Ad (P:Program) (t tx e:TypeId) (i:TypeInfo) (x:Value) (n:Nat) (news:List Value) (w:World):Prop where
 newsLen:news.length=n * i.size
 one:∀u∈news,u.oneCell'=true
 idle:n=0->∀(ty:TypeId) (base:Option Addr) (sLen sCap:Nat),sLen<=sCap->(Builtin.append_ #[t,tx] ty #[.slice base sLen sCap,x]).run P w= .ok (.slice base sLen sCap) w
 z8:∀(ty:TypeId) (b off sLen sCap:Nat) (arr:Array Value) (tt:TypeId),w.heap[b]? =some (.cells arr tt (0,0))->sLen+n<=sCap->off+sCap * i.size<=arr.size->
  (Builtin.append_ #[t,tx] ty #[.slice (some ⟨b,off,none⟩) sLen sCap,x]).run P w= .ok (.slice (some ⟨b,off,none⟩) (sLen+n) sCap) (w.setRow b (bE (off+sLen * i.size) news arr.toList).toArray)
 grow:∀(ty:TypeId) (z:Value) (base:Option Addr) (sLen sCap:Nat) (olds:List Value),i.zero=some z->(Builtin.firstCells i.size sLen (.slice base sLen sCap)).run P w.drew= .ok olds.toArray w.drew->sCap < sLen+n->
  ((sLen+n:Nat):Int)<=9223372036854775807->Builtin.nextslicecap (sLen+n) sCap * i.bytes<=281474976710656->
  (Builtin.append_ #[t,tx] ty #[.slice base sLen sCap,x]).run P w=
   .ok (.slice (some ⟨w.heap.size,0,none⟩) (sLen+n) (grownCap w (sLen+n) sCap e))
    (w.drew.alloc (.cells ((olds++news).toArray++Builtin.zeroCells z.cells (grownCap w (sLen+n) sCap e - (sLen+n))) e))
theorem Ad.sN{t tx e:TypeId}{i:TypeInfo}{x:Value}{n:Nat}{news:List Value}(ht:P.underlying t=some (.slice e))(hi:P.info? e=some i)(hs:Src P i.size tx x n news w):Ad P t tx e i x n news w where
 newsLen:=hs.newsLen
 one:=hs.one
 idle:=by intro h ty base sLen sCap hr;subst h;have:news= []:=R4.1 (by rw [hs.newsLen];simp);subst this;exact Pv ht hi hs hr
 z8:=λty b off sLen sCap arr tt hb hr hf=>Pw ht hi hb hs hr hf
 grow:=λty z base sLen sCap olds hz ho hg h63 hf=>run_append_grow_src w t tx ty e i z ht hi hz base sLen sCap olds ho x n news hs hg h63 hf
theorem Rz{z:Array Value}{sz:Nat}(hz:z.size=sz)(n:Nat):(Builtin.zeroCells z n).toList= (List.replicate n z.toList).flatten:=by
 apply T7;intro p;by_cases d:p < n * sz
 .have h1:((List.replicate n z.toList).flatten).length=n * sz:=by simp [hz]
  have a:((List.replicate n z.toList).flatten)[p]? =some ((List.replicate n z.toList).flatten[p]'(by omega)):=RR _;rw [a];have b:=At (zv:=z) hz n n (R3 _) p _ a;rw [<-b,SG];simp [madeCells,Builtin.zeroCells,hz]
 .have h1:((List.replicate n z.toList).flatten).length=n * sz:=by simp [hz]
  have a:(Builtin.zeroCells z n).toList.length=n * sz:=by rw [R8,size_zeroCells,hz]
  rw [SZ (by omega),SZ (by omega)]
theorem Ou{n:Int}(a: 0<=n)(h1:n<=4294967296):i64.wrap n=n:=by rw [IntKind.wrap_i64];omega
theorem Ad.Ov{t K e:TypeId}{i:TypeInfo}{zv:Value}{ki:IntKind}{n:Int}(y:P.underlying t=some (.slice e))(hk:P.underlying K=some (.int ki))(hi:P.info? e=some i)(hz:i.zero=some zv)(D:zv.cells.size=i.size)(hb:i.bytes<=8192)
  (L: 0<=n) (h1:n<=4294967296) (H:∀u∈zv.cells.toList,u.oneCell'=true):Ad P t K e i (.int .i64 n) n.toNat (List.replicate n.toNat zv.cells.toList).flatten w:=by
 have B:=Ou L h1;have m:¬(n < 0):=by omega
 have f:¬(281474976710656 < n * (i.bytes:Int)):=by have S:n * (i.bytes:Int)<=4294967296 * 8192:=Int.le_trans (Sg h1 (by omega)) (R1 (by omega) (by omega));omega
 have J:(List.replicate n.toNat zv.cells.toList).flatten.length=n.toNat * i.size:=by simp [D]
 have one:∀u∈(List.replicate n.toNat zv.cells.toList).flatten,u.oneCell'=true:=by intro u G;obtain⟨l,hl,G⟩:=List.mem_flatten.1 G;rw [List.mem_replicate] at hl;obtain⟨_,rfl⟩:=hl;exact H u G
 have Q:=Rz D n.toNat
 have E:Builtin.zeroCells zv.cells n.toNat= (List.replicate n.toNat zv.cells.toList).flatten.toArray:=by rw [<-Q]
 have aL:n.toNat * i.size=0->(List.replicate n.toNat zv.cells.toList).flatten= []:=λh=>R4.1 (by rw [J,h]);refine⟨J,one, ?_, ?_, ?_⟩
 .intro h ty base d j hr;have M:∀a:Addr,(storeCells a []).run P w= .ok () w:=λa=>by simp [storeCells]
  cases base <;> simp [Builtin.append_,run_underlying y,run_underlying hk,sizeOf,typeInfo,hi,asInt,asIntOf,B,m,f,h,hr,M]
 .intro ty b off d j arr tt I k F;have hm:(d+n.toNat) * i.size<=j * i.size:=SE _ k;have e:(d+n.toNat) * i.size=d * i.size+n.toNat * i.size:=Ui _ _ _;have o:=run_storeCells_at P b (off+d * i.size) tt (List.replicate n.toNat zv.cells.toList).flatten 0 arr w I (by omega) one;simp only [UE] at o;by_cases g:n.toNat * i.size=0
  .have:=aL g;rw [this] at o⊢;simp [Builtin.append_,run_underlying y,run_underlying hk,sizeOf,typeInfo,hi,asInt,asIntOf,B,m,f,k,g,gh,o,bE]
  .simp [Builtin.append_,run_underlying y,run_underlying hk,sizeOf,typeInfo,zeroValue,hi,hz,asInt,asIntOf,B,m,f,k,g,E,gh,o,bE]
 .intro ty z base d j N C x T R F;rw [hz] at C;cases C;have hn:¬(d+n.toNat<=j):=by omega
  have q:¬(9223372036854775807 < ((d:Int)+ (n.toNat:Int))):=by omega
  have v:¬(9223372036854775807 < ((d:Int)+max n 0)):=by omega
  have r:¬(i64.max < ((d:Int)+ (n.toNat:Int))):=by simp only [IntKind.max,IntKind.bits,IntKind.signed];omega
  have p:¬(281474976710656 < Builtin.nextslicecap (d+n.toNat) j * i.bytes):=by omega
  by_cases g:n.toNat * i.size=0
  .have:=aL g;rw [this];simp [Builtin.append_,run_underlying y,run_underlying hk,sizeOf,typeInfo,zeroValue,hi,hz,asInt,asIntOf,B,m,f,hn,q,v,r,p,Question.forced,g,x,newRow,grownCap]
  .simp [Builtin.append_,run_underlying y,run_underlying hk,sizeOf,typeInfo,zeroValue,hi,hz,asInt,asIntOf,B,m,f,hn,q,v,r,p,Question.forced,g,E,x,newRow,grownCap];congr 2;apply TY;simp [Sj]
theorem Gm{n m:Int}(h:bJ n m=some ()): 0<=n/\n<=m/\m<=eH:=by
 unfold bJ at h;split at h
 .assumption
 .simp at h
theorem JS{R:Type}{t L e:TypeId}{sz:Nat}{q:List T}{ti:TypeInfo}{y:AV}{M:Value}{K:List (List T)->Option R}{r:R}(hs:HS c w s.h ρ O)(k:P.underlying L=some (.slice e))(d:P.info? e=some ti)(i:ti.size=sz)(hz:jc P e=some q)(H:q.length=sz)(E:P.bytesOf e<=8192)(hy:ai w (AA c w O) ρ y M)(hk:lC P s t sz q y K=some r):
  ∃C vss,K C=some r/\Ad P L t e ti M C.length vss.flatten w/\bT w (AA c w O) sz C vss:=by
 subst i;unfold lC at hk;split at hk
 .rename_i X f;obtain⟨x,o,hk⟩:=RK.1 hk;replace hk:=aI hk (.inl rfl);obtain⟨p,S,hk⟩:=hk;rcases IL hs hy o S with⟨e,h⟩ | ⟨af,off,cap,rfl,g⟩
  .rw [e] at hk;refine⟨[],[],hk, ?_,rfl⟩;rcases h with rfl | ⟨a,cap,rfl⟩
   .exact .sN k d (Src.ofNil w f 0)
   .exact .sN k d (Src.ofSlice w f a 0 cap [] (by simp) (by simp) (by simp))
  .obtain⟨vss,h1,z⟩:=g.aU;obtain⟨Y,V⟩:=h1.length;exact⟨p.2,vss,hk, .sN k d (Src.ofSlice w f ⟨af,off,none⟩ _ cap _ (by rw [V]) (λj u Q=>by rw [gh];exact z j u Q) (λu f=>(h1.one u f).1)),h1⟩
 .rename_i f;split at hk
  .rename_i i;obtain⟨x,o,hk⟩:=RK.1 hk;replace hk:=aI hk (.inl rfl);obtain⟨b,hb,hk⟩:=hk;have:=T.jB hb;subst this;rw [AV.lf o] at hy;simp only [ai,au] at hy;subst hy;have flat:∀l:List Value,(l.map λv=> [v]).flatten=l:=by intro l;induction l <;> simp_all
   refine⟨_,((b.data.toList.map λb=>Value.int .u8 b.toNat).map λv=> [v]),hk, ?_, ?_⟩
   .rw [flat,Ty];have:=Src.ofString (P:=P) w f b;have e:b.data.toList.length=b.size:=by rw [R8];rfl
    rw [e];exact .sN k d (by rw [i];exact this)
   .have D:∀l:List UInt8,bT w (AA c w O) 1 (l.map λu=> [T.int .u8 u.toNat]) ((l.map λb=>Value.int .u8 b.toNat).map λv=> [v]):=by
     intro l;induction l with
     | nil=>rfl
     | cons u l U=>exact⟨_,_,rfl,rfl,⟨_,[],rfl,fJ _ _ _ _,rfl⟩,U⟩
    rw [i];exact D _
  .simp at hk
 .rename_i ki f;obtain⟨x,o,hk⟩:=RK.1 hk;replace hk:=aI hk (.inl rfl);obtain⟨n,hn,hk⟩:=hk;replace hk:=aI hk (.inl rfl);obtain⟨_,hb,hk⟩:=hk;have:=T.fA hn;subst this;obtain⟨N,_,z⟩:=Gm hb;rw [AV.lf o] at hy;simp only [ai,au] at hy;subst hy;obtain⟨W,zv,m,J,F⟩:=nf hz;rw [d] at m;cases m;have hr:aO w (AA c w O) q zv.cells.toList:=nU F;have I:zv.cells.size=ti.size:=by
   have:=hr.length;rw [R8] at this;omega
  have G:=bT.replicate hr H n.toNat
  have B:ti.bytes<=8192:=by simpa [Program.bytesOf,d] using E
  refine⟨_,_,hk, ?_,G⟩;rw [S0];exact .Ov k f d J I B N (by simpa [eH] using z) (λu f=>(hr.one u f).1)
 .simp at hk
theorem z4(z:Array Value)(l:List Value)(k:Nat):∀(p:Nat) (v:Value),l[p]? =some v->(l.toArray++Builtin.zeroCells z k)[p]? =some v:=by intro p v b;have a:=(RS.1 b).1;rw [Array.getElem?_append_left (by simpa using a)];simpa using b
theorem zU{bs n:Nat}(h:nG bs n)(hb:bs<=8192):n * bs<=140737488355328:=by
 rcases h with h | ⟨_,h⟩
 .have:n * bs<=4294967296 * 8192:=Vn h hb;omega
 .exact h
theorem zV{bs n:Nat}(h:nG bs n):n<=140737488355328:=by
 rcases h with h | ⟨a,h⟩
 .have:n<=4294967296:=h;omega
 .exact Sh (Nat.le_mul_of_pos_right n a) h
theorem CY{t tx ty e:TypeId}{ti:TypeInfo}{zs:List T}{y:Value}{i i':Id}{b:Bool}{xs d:List (List T)}{vss:List (List Value)}{base:Option Addr}{cap:Nat}
  (hs:HS c w h ρ O) (hi:h i≠none) (D:h i'=none) (ht:P.underlying t=some (.slice e)) (hz:jc P e=some zs) (hzl:zs.length=P.cellsOf e) (hby:P.bytesOf e<=8192)
  (V:nG (P.bytesOf e) (xs.length+d.length)) (hcap:xs.length<=cap) (X:base=none↔b=true) (E:True)
  (x:cap=0\/∃af off arr tt,base=some ⟨af,off,none⟩/\O i=some af/\w.heap[af]? =some (.cells arr tt (0,0))/\off+cap * P.cellsOf e<=arr.size/\aR w (AA c w O) af (P.cellsOf e) off xs)
  (J:P.info? e=some ti) (src:Ad P t tx e ti y d.length vss.flatten w) (C:bT w (AA c w O) (P.cellsOf e) d vss) (hrl:i'.real=true:=by rfl):
  ∃v w' ρ' O',(Builtin.append_ #[t,tx] ty #[.slice base xs.length cap,y]).run P w= .ok v w'/\Le w ρ O w' ρ' O'/\ρ' i'=some v/\
   HS c w' (aA (aA h i' (some (.sl false (P.cellsOf e) (b && d.isEmpty) (xs++d)))) i (some .dead)) ρ' O':=by
 obtain⟨ti',zv,K,hzv,hof⟩:=nf hz;rw [J] at K;cases K;have n:P.cellsOf e=ti.size:=by simp [Program.cellsOf,J]
 have hne:i'≠i:=λe=>hi (e▸D);obtain⟨l1,l2⟩:=C.length;by_cases r:xs.length+d.length<=cap
 .rcases x with x | ⟨af,off,arr,tt,rfl,N,hb,o,B⟩
  ·
   subst x;have W:xs= []:=R4.1 (by omega);have ey:d= []:=R4.1 (by omega);subst W;subst ey;have ev:vss= []:=by simpa using l1
   subst ev;obtain⟨G,H⟩:=HS.move (hrl:=hrl) (w':=w) hs hi D (.slice base 0 0) none rfl rfl rfl (R3 _) (λ_ _ _=>rfl) (.inl rfl) (.sl false (P.cellsOf e) (b && true) []) (by
    refine⟨_,by rw [aB];rfl,⟨base,0,rfl,by simp, ?_,E, .inl rfl⟩,by simp⟩;simpa using X)
   refine⟨_,w,_,_, ?_,G,by rw [aB],by simpa using H⟩;exact src.idle rfl ty base 0 0 (R3 _)
  ·
   rw [n] at o;have M:=src.z8 ty af off xs.length cap arr tt hb r o;have Q:∀k,k < w.heap.size->O i≠some k->(w.setRow af (bE (off+xs.length * ti.size) vss.flatten arr.toList).toArray).heap[k]? =w.heap[k]?:=λk _ hk=>setRow_other w af k _ (λe=>hk (e▸N));have L:off+xs.length * ti.size+vss.flatten.length<=arr.toList.length:=by have l3:arr.toList.length=arr.size:=R8;rw [l2,n,l3];have hm:(xs.length+d.length) * ti.size<=cap * ti.size:=SE _ r;rw [Ui] at hm;omega
   obtain⟨G,H⟩:=HS.move (hrl:=hrl) (w':=w.setRow af (bE (off+xs.length * ti.size) vss.flatten arr.toList).toArray) hs hi D (.slice (some ⟨af,off,none⟩) (xs.length+d.length) cap) (O i) rfl rfl rfl (by rw [pn];exact R3 _) Q (.inr (.inl rfl))
    (.sl false (P.cellsOf e) (b && d.isEmpty) (xs++d)) (by
     refine⟨_,by rw [aB],⟨some ⟨af,off,none⟩,cap,by simp,by simpa using r, ?_,E, .inr ⟨af,off,_,tt,rfl, ?_,setRow_heap w af arr _ tt (0,0) hb, ?_, ?_⟩⟩,by simp⟩
     .have:b=false:=by cases b <;> simp_all
      simp [this]
     .simpa using N
     .simp only [Ta];rw [ph _ _ _ L,n];simpa using o
     .have u:∀p,(w.setRow af (bE (off+xs.length * ti.size) vss.flatten arr.toList).toArray).cell? ⟨af,p,none⟩=if off+xs.length * ti.size<=p/\p < off+xs.length * ti.size+vss.flatten.length then vss.flatten[p - (off+xs.length * ti.size)]? else w.cell? ⟨af,p,none⟩:=by
       intro p;rw [rW hb,Us,qS _ _ _ L,jL hb];simp
      have I:∀m,AA c w O m->AA c (w.setRow af (bE (off+xs.length * ti.size) vss.flatten arr.toList).toArray) (aA (aA O i none) i' (O i)) m/\(w.setRow af (bE (off+xs.length * ti.size) vss.flatten arr.toList).toArray).heap[m]? =w.heap[m]?:=by
       intro m g;refine⟨⟨g.1,by rw [pn];exact g.2.1,λj l=> ?_⟩,setRow_other w af m _ (λe=>g.2.2 i (e▸N))⟩;by_cases z:j=i'
       .subst z;rw [aB] at l;exact g.2.2 i l
       .rw [al _ _ z] at l;by_cases F:j=i
        .subst F;rw [aB] at l;cases l
        .rw [al _ _ F] at l;exact g.2.2 j l
      refine aR.append (aR.cells I (λp h1 h2=> ?_) B) ?_
      .rw [n] at h2;rw [u,if_neg (by omega)]
      .refine aR.jZ (bT.mono I C) (λp v S=> ?_);have hlt:=(RS.1 S).1;rw [n,u,if_pos (by omega),show off+xs.length * ti.size+p - (off+xs.length * ti.size)=p by omega];exact S)
   exact⟨_,_,_,_,M,G,by rw [aB],H⟩
 ·
  have R:(xs.length+d.length) * ti.bytes<=140737488355328:=by
   have z:P.bytesOf e=ti.bytes:=by simp [Program.bytesOf,J]
   rw [<-z];exact zU V hby
  have Y:∃f:List (List Value),bT w (AA c w O) (P.cellsOf e) xs f/\(Builtin.firstCells ti.size xs.length (.slice base xs.length cap)).run P w.drew= .ok f.flatten.toArray w.drew:=by
   rcases x with x | ⟨af,off,arr,tt,rfl,N,hb,o,B⟩
   .have W:xs= []:=R4.1 (by omega);subst W;refine⟨[],rfl, ?_⟩;cases base with
    | none=>exact run_firstCells_none w.drew _ _ _ _
    | some a=>exact run_firstCells_some w.drew _ 0 a _ _ [] (by simp) (by simp)
   .obtain⟨f,k1,k2⟩:=B.aU;refine⟨f,k1, ?_⟩;obtain⟨m1,Z⟩:=k1.length;exact run_firstCells_some w.drew _ _ _ _ _ _ (by rw [Z,n]) (λj v l=>by rw [gh];simpa using k2 j v l)
  obtain⟨f,U,ho2⟩:=Y;have q:cap < xs.length+d.length:=by omega
  have M:=src.grow ty zv base xs.length cap f.flatten hzv ho2 q (by have:=zV V;omega) (growslice_fits q R);obtain⟨m1,Z⟩:=U.length;have hzs:zv.cells.size=ti.size:=by have:=(nU (w:=w) (A:=AA c w O) hof).length;rw [R8] at this;rw [this,hzl,n]
  have ys0:d.isEmpty=false:=by
   cases d with
   | nil=>simp at q;omega
   | cons=>rfl
  have hge:=grownCap_ge w (xs.length+d.length) cap e;obtain⟨G,H⟩:=HS.move (hrl:=hrl) (w':=w.drew.alloc (.cells ((f.flatten++vss.flatten).toArray++Builtin.zeroCells zv.cells (grownCap w (xs.length+d.length) cap e - (xs.length+d.length))) e)) hs hi D
   (.slice (some ⟨w.heap.size,0,none⟩) (xs.length+d.length) (grownCap w (xs.length+d.length) cap e)) (some w.heap.size) rfl rfl rfl (by simp) (λk hk _=>So w.drew _ k hk) (.inr (.inr ⟨rfl,by simp⟩))
   (.sl false (P.cellsOf e) (b && d.isEmpty) (xs++d)) (by
    refine⟨_,by rw [aB],⟨some ⟨w.heap.size,0,none⟩,grownCap w (xs.length+d.length) cap e,by simp,by simpa using hge,by simp [ys0],trivial, .inr ⟨w.heap.size,0,_,e,rfl,by simp,jV (w:=w.drew) _, ?_, ?_⟩⟩,by simp⟩
    .simp only [Vq,Ta,SI,Z,l2,size_zeroCells,hzs,n,<-Ui,Sn];exact SE _ (by omega)
    .have I:∀m,AA c w O m->AA c (w.drew.alloc (.cells ((f.flatten++vss.flatten).toArray++Builtin.zeroCells zv.cells (grownCap w (xs.length+d.length) cap e - (xs.length+d.length))) e)) (aA (aA O i none) i' (some w.heap.size)) m/\(w.drew.alloc (.cells ((f.flatten++vss.flatten).toArray++Builtin.zeroCells zv.cells (grownCap w (xs.length+d.length) cap e - (xs.length+d.length))) e)).heap[m]? =w.heap[m]?:=by
      intro m g;refine⟨⟨g.1,by have:=g.2.1;simp;omega,λj l=> ?_⟩,So w.drew _ m g.2.1⟩;by_cases z:j=i'
      .subst z;rw [aB] at l;cases l;exact Ua _ g.2.1
      .rw [al _ _ z] at l;by_cases F:j=i
       .subst F;rw [aB] at l;cases l
       .rw [al _ _ F] at l;exact g.2.2 j l
     refine aR.jZ (vss:=f++vss) (bT.append (bT.mono I U) (bT.mono I C)) (λp v S=> ?_);refine(jL (w:=w.drew.alloc _) (b:=w.heap.size) (jV (w:=w.drew) _) _).trans ?_;rw [Sn];exact z4 _ _ _ p v (by simpa using S))
  exact⟨_,_,_,_,M,G,by rw [aB],H⟩
theorem JP{t V ty e:TypeId}{ti:TypeInfo}{X:List T}{y G:Value}{i':Id}{b:Bool}{g:List (List T)}{vss:List (List Value)}
  (hs:HS c w h ρ O) (z:h i'=none) (ht:P.underlying t=some (.slice e)) (hz:jc P e=some X) (Q:X.length=P.cellsOf e) (I:P.bytesOf e<=8192)
  (B:nG (P.bytesOf e) g.length) (N:au w A (.aL b) G)
  (m:P.info? e=some ti) (src:Ad P t V e ti y g.length vss.flatten w) (l:bT w (AA c w O) (P.cellsOf e) g vss) (hrl:i'.real=true:=by rfl):
  ∃v w' ρ' O',(Builtin.append_ #[t,V] ty #[G,y]).run P w= .ok v w'/\Le w ρ O w' ρ' O'/\ρ' i'=some v/\
   HS c w' (aA h i' (some (.sl false (P.cellsOf e) (b && g.isEmpty) g))) ρ' O':=by
 obtain⟨ti',zv,o,S,L⟩:=nf hz;rw [m] at o;cases o;have C:P.cellsOf e=ti.size:=by simp [Program.cellsOf,m]
 obtain⟨l1,l2⟩:=l.length;obtain⟨base,rfl,E,x⟩:∃base,G= .slice base 0 0/\(base=none↔b=true)/\True:=by
  simp only [au] at N;rcases N with⟨rfl,rfl⟩ | ⟨rfl,af,off,sp,rfl⟩
  .exact⟨none,rfl,by simp,trivial⟩
  .exact⟨some _,rfl,by simp,trivial⟩
 by_cases D:g= []
 .subst D;have ev:vss= []:=by simpa using l1
  subst ev;have le:Le w ρ O w (aA ρ i' (some (.slice base 0 0))) (aA O i' none):=by
   refine⟨rfl,rfl,rfl,R3 _,λj u f=> ?_,λb hb hn=>rfl,λj b f=> ?_⟩
   .by_cases e:j=i'
    .subst e;rw [(hs.bS _ hrl z).1] at f;cases f
    .rw [al _ _ e];exact f
   .by_cases e:j=i'
    .subst e;rw [aB] at f;cases f
    .rw [al _ _ e] at f;exact .inl ⟨j,f⟩
  refine⟨.slice base 0 0,w,_,_,src.idle rfl ty base 0 0 (R3 _),le,by rw [aB], ?_⟩;have gk:GK w ρ O w (aA ρ i' (some (.slice base 0 0))) (aA O i' none):=λj n=>⟨al _ _ (aJ hrl),al _ _ (aJ hrl),λ_ _=>rfl⟩;refine hs.go le gk (λj b' f=> ?_) (λj J f=> ?_) (λj f=> ?_) (λj n=>by rw [al _ _ (aJ hrl)];exact hs.dc j n) (λj k d f hk=> ?_) (λj d f=> ?_)
  .by_cases e:j=i'
   .subst e;rw [aB] at f;cases f;right;refine⟨_,by rw [aB];rfl,⟨base,0,rfl,by simp, ?_,x, .inl rfl⟩,by simp⟩;simpa using E
   .rw [al _ _ e] at f;exact .inl ⟨f,al _ _ e,λ_ _=>rfl⟩
  .by_cases e:j=i'
   .subst e;rw [aB] at f;cases f
   .rw [al _ _ e] at f;rw [al _ _ e,al _ _ e];exact hs.bS j J f
  .by_cases e:j=i'
   .subst e;rw [aB] at f;cases f
   .rw [al _ _ e] at f;exact f
  .by_cases e:j=i'
   .subst e;rw [aB] at f;cases f
   .by_cases H:k=i'
    .subst H;rw [aB] at hk;cases hk
    .rw [al _ _ e] at f;rw [al _ _ H] at hk;exact hs.inj j k d f hk
  .by_cases e:j=i'
   .subst e;rw [aB] at f;cases f
   .rw [al _ _ e] at f;exact hs.lt j d f
 .have F: 0 < g.length:=UI.2 D;have r:(0+g.length) * ti.bytes<=140737488355328:=by
   have Y:P.bytesOf e=ti.bytes:=by simp [Program.bytesOf,m]
   rw [<-Y,Sn];exact zU B I
  have K:(Builtin.firstCells ti.size 0 (.slice base 0 0)).run P w.drew= .ok ([]:List Value).toArray w.drew:=by
   cases base with
   | none=>exact run_firstCells_none w.drew _ _ _ _
   | some a=>exact run_firstCells_some w.drew _ 0 a _ _ [] (by simp) (by simp)
  have U:=src.grow ty zv base 0 0 [] S K (by omega) (by have:=zV B;omega) (growslice_fits (by omega) r);have R:zv.cells.size=ti.size:=by have:=(nU (w:=w) (A:=AA c w O) L).length;rw [R8] at this;rw [this,Q,C]
  have W:g.isEmpty=false:=by
   cases g with
   | nil=>simp at F
   | cons=>rfl
  have hge:=grownCap_ge w (0+g.length) 0 e;have q:Le w ρ O w.drew ρ O:=⟨rfl,rfl,rfl,R3 _,λ_ _ h=>h,λ_ _ _=>rfl,λi b h=> .inl ⟨i,h⟩⟩;have M:HS c w.drew h ρ O:=hs.world q λ_ _ _=>rfl;obtain⟨Z,g2⟩:=M.AI (hrl:=hrl) (sz:=P.cellsOf e) z e (([] ++vss.flatten).toArray++Builtin.zeroCells zv.cells (grownCap w (0+g.length) 0 e - (0+g.length))) (grownCap w (0+g.length) 0 e) (bT.mono (λb hb=>q.A b hb) l)
   (λp v hp=>z4 _ _ _ p v (by simpa using hp)) (by omega) (by
    simp only [Vq,Ta,R0,l2,size_zeroCells,R,C,<-Ui];exact SE _ (by omega))
  refine⟨_,_,_,_,U,q.trans Z, ?_, ?_⟩
  .rw [aB,Sn];rfl
  .simpa [W] using g2
theorem Jp(h:Id->Option ab)(i j:Id)(a b:ab):aG h [(i,a),(j,b)]=aA (aA h i (some a)) j (some b):=rfl
theorem jS{d:Nat}{us:aE}{k:Nat}{b:ab}(a:iu d h us=true)(hm:(Id.s d k,b)∈us):h (.s d k)=none:=by have:=R7.1 a _ hm;simpa using this
set_option maxHeartbeats 1000000 in
theorem HK{i i' x:Id}{nx:Nat}{v vk:Value}(hr:x.real=true)(a:x≠i'):hJ ρ i i' nx v vk x=ρ x:=by
 unfold hJ;rw [if_neg a];cases x with
 | g y n=>cases hr
 | _=>rfl
theorem HJ{i i':Id}{nx:Nat}{v vk:Value}:hJ ρ i i' nx v vk i'=some v:=by unfold hJ;rw [if_pos rfl]
theorem A2{i i' y:Id}{n nx:Nat}{v vk:Value}(hrl:i'.real=true)(hy:y≠i'):hJ ρ i i' nx v vk (.g y n)=ρ (.g y n):=by unfold hJ;rw [if_neg (aJ hrl)];simp only [if_neg hy]
theorem AZ{i i' j src:Id}{nx:Nat}{ob:Option Nat}(h:src≠i'):dK O i i' j src nx ob src=none:=by unfold dK;rw [if_neg h,if_pos (.inr (.inr rfl))]
theorem OQ{i i' j src x:Id}{nx:Nat}{ob:Option Nat}(hr:x.real=true)(a:x≠i')(h1:x≠i)(b:x≠j)(d:x≠src):dK O i i' j src nx ob x=O x:=by
 unfold dK;rw [if_neg a,if_neg (by rintro(h | h | h) <;> contradiction)];cases x with
 | g y n=>cases hr
 | _=>rfl
theorem OR{i i' j src y:Id}{n nx:Nat}{ob:Option Nat}(a:i.real=true)(b:j.real=true)(hrl:i'.real=true)(hy:y≠i')(d:y≠i)(e:Id.g y n≠src):dK O i i' j src nx ob (.g y n)=O (.g y n):=by unfold dK;rw [if_neg (aJ hrl),if_neg (by rintro(h | h | h);exact aJ a h;exact aJ b h;exact e h)];simp only [if_neg hy,if_neg d]
theorem cr.gone{i i' j a:Id}{n nx:Nat}{ob:Option Nat}{v vk:Value}{b:Bool}{sz ax rsz J:Nat}{es:List Row}{p:Bool×List (List T)}(hs:HS c w h ρ O)(H:i.real=true)(U:j.real=true)(hrl:i'.real=true)(R:h a=some (.rows b sz ax rsz J es))(l:a≠i')(B:a≠i)(S:a≠j)(hf:bq n es=some p)
  (Q:∀d,AA c w O d->AA c w' (dK O i i' j (.g a n) nx ob) d/\w'.heap[d]? =w.heap[d]?) (r:∀x d,x≠i->O x=some d->w'.heap[d]? =w.heap[d]?):
  cr w' (AA c w' (dK O i i' j (.g a n) nx ob)) (hJ ρ i i' nx v vk) (dK O i i' j (.g a n) nx ob) a (.rows b sz ax rsz J (cN n none es)):=by
 have F:=hs.real (i:=a) (by rw [R];simp);obtain⟨k,e,hk,G,heo,L⟩:=vQ hf;obtain⟨a',cap,r1,r2,r3,⟨V,W,n3,n4⟩,M⟩:=hs.af a _ R;have N:∀m,m≠n->dK O i i' j (.g a n) nx ob (.g a m)=O (.g a m):=λm hm=>OR H U hrl l B (by intro h;simp only [Id.g.injEq] at h;exact hm h.2);have I:(.g a n:Id)≠i':=aJ hrl;rw [L];have D:(es.set k {e with own:=none}).length=es.length:=by simp
 have E:(es.set k {e with own:=none}).map (·.n)=es.map (·.n):=by
  rw [Uk];refine T7 λm=> ?_;rw [SW];split
  .rename_i h;subst h;have:=(RS.1 hk).1;rw [if_pos (by simpa using this)];simp [hk]
  .rfl
 refine⟨a',cap,by rw [D,HK F l];exact r1,by rw [D];exact r2,r3,⟨by rw [E];exact V,λf o=> ?_,λm hm=>by rw [A2 hrl l];exact n3 m hm,λm d z=> ?_⟩, ?_⟩
 .rcases Su o with o | rfl
  .exact W f o
  .exact W e (RN hk)
 .by_cases hm:m=n
  .subst hm;rw [AZ I] at z;cases z
  .rw [N m hm] at z;obtain⟨f,o,C⟩:=n4 m d z;have:m∈(es.set k {e with own:=none}).map (·.n):=by rw [E];exact Si.2 ⟨f,o,C⟩
   obtain⟨f',h1,h2⟩:=Si.1 this;exact⟨f',h1,h2⟩
 .rcases M with M | ⟨af,off,arr,t,q1,X,q3,q4,Y⟩
  .exact .inl M
  .have q:w'.heap[af]? =w.heap[af]?:=r a af B X;refine .inr ⟨af,off,arr,t,q1,by rw [OQ F l B S (aJ F).symm];exact X,by rw [q];exact q3,q4, ?_⟩;have K:=Y.get hk;refine bO.set Q (RS.1 hk).1 (λ_ _ _ _=>mo q) (λm f hm o=> ?_) ?_ Y
   .have C:f.n≠n:=λh=>hm (sM V o hk (by rw [h,G]));exact⟨A2 hrl l,N _ C,λd z=>r _ d (aJ H) z⟩
   .obtain⟨a1,a2,a3,u,a4,a5,a7⟩:=K;refine⟨a1,a2,λm y hm hy=> ?_,u,by rw [mo q];exact a4,by rw [A2 hrl l];exact a5, ?_⟩
    .obtain⟨Z,g1,g2⟩:=a3 m y hm hy;exact⟨Z,by rw [mo q];exact g1,au.mono Q y Z g2⟩
    .simp only;rw [G];exact AZ I
theorem CS:∀{cs:List AV} {l:List T},dZ cs=some l->l.length=cs.length/\∀(j:Nat) (x:T),l[j]? =some x->cs[j]? =some (AV.t x)
 | [],l,h=>by simp only [dZ,RJ] at h;subst h;simp
 | v::cs,l,h=>by
  cases v <;> simp only [dZ,reduceCtorEq] at h;rename_i x;obtain⟨e,h1,h⟩:=RK.1 h;simp only [RJ] at h;subst h;obtain⟨b,d⟩:=CS h1;refine⟨by simp [b],λj y a=> ?_⟩;cases j with
  | zero=>simpa using a
  | succ j=>simpa using d j y (by simpa using a)
theorem JO{R:Type}{d:Nat}{t ty tr e e':TypeId}{ti:TypeInfo}{zs:List T}{i j:Id}{b:Bool}{sz ax rsz nx:Nat}{es:List Row}{cs:List AV}{vx vy:Value}{K:AV->aE->Option R}{r:R}(hs:HS c w s.h ρ O)
  (ht:P.underlying t=some (.slice e)) (hty:P.underlying ty=some (.slice e')) (hz:jc P e=some zs) (hzl:zs.length=P.cellsOf e) (hby:P.bytesOf e<=8192) (Y:P.info? e=some ti)
  (hi:s.h i=some (.rows b sz ax rsz nx es)) (hj:s.h j=some (.arr cs)) (hx:ρ i=some vx) (hy:ρ j=some vy) (hk:oN P s d e i sz ax rsz nx es j cs K=some r):
  ∃v us,K v us=some r/\(iu d s.h us=true->∃u w' ρ' O',(Builtin.append_ #[t,ty] tr #[vx,vy]).run P w= .ok u w'/\Le w ρ O w' ρ' O'/\HS c w' (aG s.h us) ρ' O'/\ai w' (AA c w' O') ρ' v u):=by
 obtain⟨ti',zv,hti',hzv,hof⟩:=nf hz;rw [Y] at hti';cases hti';have B:P.cellsOf e=ti.size:=by simp [Program.cellsOf,Y]
 unfold oN at hk;split at hk
 .rename_i hcond;obtain⟨rfl,c1,c2,c3⟩:=hcond;replace hk:=RK.1 hk;obtain⟨l,hl,hk⟩:=hk;obtain⟨bj,o,tj,h1,h2,h3,h4,h5⟩:=hs.af j _ hj;rw [hy] at h1;cases h1;obtain⟨a,cap,r1,r2,r3,r4,r5⟩:=hs.af i _ hi;rw [hx] at r1;cases r1;have hri:=hs.real (i:=i) (by rw [hi];simp);have hrj:=hs.real (i:=j) (by rw [hj];simp);have hnl:o.toList.length=1 * ti.size:=by rw [h4.length,c1,B];omega
  obtain⟨ll,lg⟩:=CS hl;have src:Ad P t ty e ti (.slice (some ⟨bj,0,none⟩) 1 1) 1 o.toList w:= .sN ht Y (Src.ofSlice w hty ⟨bj,0,none⟩ 1 1 _ hnl (λp u q=>by
   rw [gh,Sn,jL h3];simpa using q) (λu hu=>(h5 u hu).1))
  have F:∀n,bw (P.bytesOf e) n=some ()->nG (P.bytesOf e) n:=by
   intro n hn;unfold bw at hn;split at hn
   .assumption
   .simp at hn
  have key:∀(y s0:Id) (bb:Bool) (xs:List (List T)) (vk:Value) (X:ab),s.h s0≠none->s0≠i->s0≠j->(y=s0\/∃n,y= .g s0 n)->ρ y=some vk->cg w (AA c w O) rsz bb xs vk (λd=>O y=some d)->
    o.toList[ax]? =some vk->bw (P.bytesOf e) (es.length+1)=some ()->s.h (.s d 0)=none->
    (∀w' ob v,(∀C,AA c w O C->AA c w' (dK O i (.s d 0) j y nx ob) C/\w'.heap[C]? =w.heap[C]?)->(∀x C,x≠i->O x=some C->w'.heap[C]? =w.heap[C]?)->cr w' (AA c w' (dK O i (.s d 0) j y nx ob)) (hJ ρ i (.s d 0) nx v vk) (dK O i (.s d 0) j y nx ob) s0 X)->
    ∃u w' ρ' O',(Builtin.append_ #[t,ty] tr #[.slice a es.length cap, .slice (some ⟨bj,0,none⟩) 1 1]).run P w= .ok u w'/\Le w ρ O w' ρ' O'/\
     HS c w' (aA (aA (aA (aA s.h i (some .dead)) j (some .dead)) s0 (some X)) (.s d 0) (some (.rows false (P.cellsOf e) ax rsz (nx+1) (es++ [⟨nx,l,some (bb,xs)⟩])))) ρ' O'/\ai w' (AA c w' O') ρ' (.own (.s d 0)) u:=by
   intro y s0 bb xs vk X q1 q2 q3 q4 q5 q6 q7 W f hX;have hlr:l.length=P.cellsOf e:=by rw [ll,SM,c1]
   have hnr:∀m x,m≠ax->l[m]? =some x->∃v,o.toList[m]? =some v/\au w (AA c w O) x v:=by intro m x hm hx;have:=lg m x hx;rw [SW,if_neg (VL hm)] at this;obtain⟨v,G,H⟩:=h4.get this;exact⟨v,G,by simpa [ai] using H⟩
   by_cases I:es.length+1<=cap
   .rcases r5 with r5 | ⟨af,off,arr,t',k1,k2,k3,k4,k5⟩
    .omega
    .subst k1;have hm:(es.length+1) * ti.size<=cap * ti.size:=SE _ I;rw [Ui] at hm;rw [B] at k4;have run:=src.z8 tr af off es.length cap arr t' k3 I k4;have lfit:off+es.length * ti.size+o.toList.length<=arr.toList.length:=by rw [hnl,R8 (xs:=arr)];omega
     have L:∀p,(w.setRow af (bE (off+es.length * ti.size) o.toList arr.toList).toArray).cell? ⟨af,p,none⟩=if off+es.length * ti.size<=p/\p < off+es.length * ti.size+o.toList.length then o.toList[p - (off+es.length * ti.size)]? else w.cell? ⟨af,p,none⟩:=by intro p;rw [rW k3,Us,qS _ _ _ lfit,jL k3];simp
     obtain⟨G,H⟩:=HS.HI (i':= .s d 0) (j:=j) (src:=y) (s0:=s0) (bb:=bb) (xs:=xs) (vk:=vk) (X:=X) (af:=af) (blk':=af) (off:=off) (off':=off) (cap':=cap) (ob:=O i) (news:=o.toList) (l:=l) (w':=w.setRow af (bE (off+es.length * ti.size) o.toList arr.toList).toArray)
      hs hi f rfl (by rw [hj];simp) (VL c3) q1 q2 q3 q4 q5 q6 rfl rfl rfl (by rw [pn];exact R3 _) (λk _ hk=>setRow_other w af k _ λe=>hk (e▸k2)) (.inl rfl) k2 (setRow_heap w af arr _ t' (0,0) k3) (by rw [Ta,ph _ _ _ lfit,B];simpa using k4) I k5
      (λp q=>by rw [B] at q;have q:p < es.length * ti.size:=q;rw [L,if_neg (by omega)]) c2 hlr (λp v q=>by
       have V:=(RS.1 q).1;rw [B,L,if_pos (by omega),show off+es.length * ti.size+p - (off+es.length * ti.size)=p by omega];exact q) hnr q7
      (λZ=>hX _ _ _ Z λx C hx hd=>setRow_other w af C _ λe=>hx (hs.inj x i C hd (e▸k2)))
     exact⟨_,_,_,_,run,G,H,by simp only [ai];exact HJ⟩
   .have hneed:(es.length+1) * ti.bytes<=140737488355328:=by
     have e1:P.bytesOf e=ti.bytes:=by simp [Program.bytesOf,Y]
     rw [<-e1];exact zU (F _ W) hby
    have hold:∃(z:List Value) (af off:Nat),z.length=es.length * ti.size/\(Builtin.firstCells ti.size es.length (.slice a es.length cap)).run P w.drew= .ok z.toArray w.drew/\bO w (AA c w O) ρ O i af (P.cellsOf e) ax rsz off es/\∀p v,z[p]? =some v->w.cell? ⟨af,off+p,none⟩=some v:=by
     rcases r5 with r5 | ⟨af,off,arr,t',k1,k2,k3,k4,k5⟩
     .have ex:es= []:=R4.1 (by omega);subst ex;refine⟨[],0,0,by simp, ?_,trivial,by simp⟩;cases a with
      | none=>exact run_firstCells_none w.drew _ _ _ _
      | some a=>exact run_firstCells_some w.drew _ 0 a _ _ [] (by simp) (by simp)
     .subst k1;have hm:es.length * ti.size<=cap * ti.size:=SE _ r2;rw [B] at k4;have hlen:((arr.toList.drop off).take (es.length * ti.size)).length=es.length * ti.size:=by rw [SD,Ts,R8 (xs:=arr)];omega
      have Q:∀p v,((arr.toList.drop off).take (es.length * ti.size))[p]? =some v->w.cell? ⟨af,off+p,none⟩=some v:=by
       intro p v q;rw [TA] at q;split at q
       .rw [Vi] at q;rw [jL k3];simpa using q
       .cases q
      refine⟨_,af,off,hlen, ?_,k5,Q⟩;exact run_firstCells_some w.drew _ _ _ _ _ _ hlen (λp v q=>by rw [gh];simpa using Q p v q)
    obtain⟨z,af,off,ho1,ho2,ho3,ho4⟩:=hold;have S:cap < es.length+1:=by omega
    have run:=src.grow tr zv a es.length cap z hzv ho2 S (by have:=zV (F _ W);omega) (growslice_fits S hneed);have hzs:zv.cells.size=ti.size:=by have:=(nU (w:=w) (A:=AA c w O) hof).length;rw [R8] at this;rw [this,hzl,B]
    have hge:=grownCap_ge w (es.length+1) cap e;have N:∀p v,(z++o.toList)[p]? =some v->(w.drew.alloc (.cells ((z++o.toList).toArray++Builtin.zeroCells zv.cells (grownCap w (es.length+1) cap e - (es.length+1))) e)).cell? ⟨w.heap.size,p,none⟩=some v:=by intro p v q;refine(jL (w:=w.drew.alloc _) (b:=w.heap.size) (jV (w:=w.drew) _) _).trans ?_;exact z4 _ _ _ p v q
    obtain⟨G,H⟩:=HS.HI (i':= .s d 0) (j:=j) (src:=y) (s0:=s0) (bb:=bb) (xs:=xs) (vk:=vk) (X:=X) (af:=af) (blk':=w.heap.size) (off:=off) (off':=0) (cap':=grownCap w (es.length+1) cap e) (ob:=some w.heap.size) (news:=o.toList) (l:=l)
     (w':=w.drew.alloc (.cells ((z++o.toList).toArray++Builtin.zeroCells zv.cells (grownCap w (es.length+1) cap e - (es.length+1))) e))
     hs hi f rfl (by rw [hj];simp) (VL c3) q1 q2 q3 q4 q5 q6 rfl rfl rfl (by simp) (λk hk _=>So w.drew _ k hk) (.inr ⟨rfl,by simp⟩) rfl (jV (w:=w.drew) _) (by
      simp only [Vq,Ta,SI,ho1,hnl,size_zeroCells,hzs,B,<-Ui,Sn];exact SE _ (by omega)) hge ho3
     (λp q=>by
      rw [B] at q;have q:p < es.length * ti.size:=q;have V:p < z.length:=by omega
      rw [Sn,ho4 p _ (RR V)];exact N p _ (by rw [SO V];exact RR V)) c2 hlr (λp v q=>by
      rw [B,Sn];refine N _ v ?_;rw [SK (by omega),ho1,show es.length * ti.size+p - es.length * ti.size=p by omega];exact q) hnr q7
     (λZ=>hX _ _ _ Z λx C hx hd=>So w.drew _ C (hs.lt x C hd))
    exact⟨_,_,_,_,run,G,H,by simp only [ai];exact HJ⟩
  split at hk
  .rename_i j2 M;split at hk
   .rename_i rsz' b' xs D;split at hk
    .rename_i hrsz;subst hrsz;replace hk:=aI hk (.inl rfl);obtain⟨_,W,hk⟩:=hk;refine⟨_,_,hk,λf=> ?_⟩;have f:=jS f (k:=0) (b:= .rows false (P.cellsOf e) ax rsz' (nx+1) (es++ [⟨nx,l,some (b',xs)⟩])) (by simp);obtain⟨vk,v1,J⟩:=h4.get M;simp only [ai] at J;obtain⟨v',s1,s2⟩:=mZ hs D;rw [J] at s1;cases s1;have hr2:=hs.real (i:=j2) (by rw [D];simp);have n2:j2≠ .s d 0:=λe=>by rw [e,f] at D;cases D
     obtain⟨u,w',ρ',O',G,H,g3,g4⟩:=key j2 j2 b' xs vk .dead (by rw [D];simp) (λe=>by rw [e,hi] at D;cases D) (λe=>by rw [e,hj] at D;cases D) (.inl rfl) J (by simpa using s2) v1 (by assumption) f
      (λw' ob v Z U=>⟨⟨vk,by rw [HK hr2 n2];exact J,jw hs J⟩,AZ n2⟩)
     exact⟨u,w',ρ',O',G,H,by rw [cw,cw,cw,dB];exact g3,g4⟩
    .simp at hk
   .simp at hk
  .rename_i a2 n M;split at hk
   .rename_i b2 sz2 col2 rsz2 nx2 es2 E;split at hk
    .rename_i hc2;obtain⟨rfl,hai⟩:=hc2;replace hk:=aI hk (.inl rfl);obtain⟨p,q,hk⟩:=hk;replace hk:=aI hk (.inl rfl);obtain⟨_,W,hk⟩:=hk;refine⟨_,_,hk,λf=> ?_⟩;have f:=jS f (k:=0) (b:= .rows false (P.cellsOf e) ax rsz2 (nx+1) (es++ [⟨nx,l,some p⟩])) (by simp);obtain⟨vk,v1,J⟩:=h4.get M;simp only [ai] at J;obtain⟨v',s1,s2⟩:=xg hs E q;rw [J] at s1;cases s1;have n2:a2≠ .s d 0:=λe=>by rw [e,f] at E;cases E
     have n3:a2≠j:=λe=>by rw [e,hj] at E;cases E
     obtain⟨u,w',ρ',O',G,H,g3,g4⟩:=key (.g a2 n) a2 p.1 p.2 vk (.rows b2 sz2 col2 rsz2 nx2 (cN n none es2)) (by rw [E];simp) hai n3 (.inr ⟨n,rfl⟩) J s2 v1 (by assumption) f
      (λw' ob v Z U=>cr.gone hs hri hrj rfl E n2 hai n3 q Z U)
     exact⟨u,w',ρ',O',G,H,by rw [cw,cw,cw,dB];exact g3,g4⟩
    .simp at hk
   .simp at hk
  .simp at hk
 .simp at hk
theorem Pr{h:Id->Option ab}{x:AV}{q:Id×Nat×Nat×Nat×Nat×List Row}(e:Bp h x=some q):x= .own q.1/\∃b,h q.1=some (.rows b q.2.1 q.2.2.1 q.2.2.2.1 q.2.2.2.2.1 q.2.2.2.2.2):=by
 unfold Bp at e;split at e
 .split at e
  .rename_i hi;simp only [RJ] at e;subst e;exact⟨rfl,_,hi⟩
  .cases e
 .cases e
theorem Ow{h:Id->Option ab}{x:AV}{q:Id×List AV}(e:AS h x=some q):x= .own q.1/\h q.1=some (.arr q.2):=by
 unfold AS at e;split at e
 .split at e
  .rename_i hi;simp only [RJ] at e;subst e;exact⟨rfl,hi⟩
  .cases e
 .cases e
theorem JM{R:Type}{d:Nat}{rw:Bool}{t ty tr:TypeId}{x y:AV}{S Y:Value}{K:AV->aE->Option R}{r:R}(hs:HS c w s.h ρ O)(g:ai w (AA c w O) ρ x S)(hy:ai w (AA c w O) ρ y Y)
  (hk:jJ P s d rw t ty x y K=some r):
  ∃v us,K v us=some r/\(iu d s.h us=true->∃u w' ρ' O',(Builtin.append_ #[t,ty] tr #[S,Y]).run P w= .ok u w'/\Le w ρ O w' ρ' O'/\HS c w' (aG s.h us) ρ' O'/\ai w' (AA c w' O') ρ' v u):=by
 unfold jJ at hk;replace hk:=RK.1 hk;obtain⟨e,he,hk⟩:=hk;replace hk:=RK.1 hk;obtain⟨zs,hz,hk⟩:=hk;obtain⟨I,hok⟩:=vK he;split at hk
 .rename_i M;obtain⟨p,q⟩:=M;obtain⟨ti0,_,k,_,_⟩:=nf hz;split at hk
  .rename_i i sz ax rsz nx es j cs m C;cases rw with
   | false=>cases m
   | true=>
   obtain⟨rfl,b,hi⟩:=Pr m;obtain⟨rfl,hj⟩:=Ow C;simp only [ai] at g hy;split at hk
   .rename_i e' hu';exact JO hs I hu' hz q p k hi hj g hy hk
   .cases hk
  rename_i hnr;clear hnr;replace hk:=JS hs I k (by simp [Program.cellsOf,k]) hz q p hy hk;obtain⟨Z,vss,hk,src,D⟩:=hk;have l:∀n,bw (P.bytesOf e) n=some ()->nG (P.bytesOf e) n:=by
   intro n hn;unfold bw at hn;split at hn
   .assumption
   .simp at hn
  clear he hok;revert hk;rcases x with _ | z | _ | _ | _ | _ | i | ⟨i,sz'',off,n⟩ | _ | _ | _ <;> intro hk <;> (try dsimp only at hk) <;> (try cases hk)
  case own=>
   split at hk
   .rename_i sz' b xs hi;split at hk
    .rename_i H;subst H;replace hk:=aI hk (.inl rfl);obtain⟨_,hb,hk⟩:=hk;refine⟨_,_,hk,λf=> ?_⟩;have f:=jS f RL;obtain⟨v',V,a,cap,q1,q2,X,q4,F⟩:=mZ hs hi;simp only [ai] at g;rw [V] at g;simp only [RJ] at g;subst g;subst q1;obtain⟨v,w',ρ',O',m,C,e3,G⟩:=CY (ty:=tr) hs (by rw [hi];simp) f I hz q p (l _ hb) q2 X q4 (by
      rcases F with F | ⟨af,off,arr,tt,J,k2,k3,Q,k5⟩
      .exact .inl F
      .exact .inr ⟨af,off,arr,tt,J,by simpa using k2,k3,Q,k5⟩) k src D
     exact⟨v,w',ρ',O',m,C,by rw [Jp];exact G,by simp only [ai];exact e3⟩
    .simp at hk
   .simp at hk
  case part=>
   split at hk
   .rename_i sz' b xs hi;split at hk
    .rename_i H;obtain⟨rfl,rfl⟩:=H;replace hk:=aI hk (.inl rfl);obtain⟨_,hb,hk⟩:=hk;refine⟨_,_,hk,λf=> ?_⟩;have f:=jS f RL;obtain⟨v',V,a,cap,q1,q2,X,q4,F⟩:=mZ hs hi;simp only [ai] at g;obtain⟨a1,L,B,a',J,k2,k3,rfl,Q⟩:=g;rw [V] at J;simp only [RJ] at J;subst J;simp only [SX] at q1;obtain⟨rfl,rfl,rfl⟩:=q1;have E:((xs.drop off).take n).length=n:=by simp only [SD,Ts];omega
     have W:a'=none↔b=true:=by
      rw [<-X];rcases Q with⟨_,rfl⟩ | ⟨_,e5,_⟩ | ⟨T,o,rfl,rfl⟩
      .exact VK
      .exact e5
      .simp
     have N:True:=trivial;obtain⟨v,w',ρ',O',m,C,e3,G⟩:=CY (ty:=tr) (xs:=(xs.drop off).take n) (base:=a') (cap:=B - off) hs (by rw [hi];simp) f I hz q p (by rw [E];exact l _ hb) (by rw [E];omega) W N (by
      rcases F with F | ⟨af,off',arr,tt,j1,j2,j3,j4,j5⟩
      .exact .inl (by omega)
      .subst j1;rcases Q with⟨rfl,rfl⟩ | ⟨rfl,_⟩ | ⟨T,o,e5,rfl⟩
       .exact .inr ⟨af,off',arr,tt,rfl,by simpa using j2,j3,by simpa using j4,by simpa using j5.take n⟩
       .exact .inl (by omega)
       .simp only [RJ,SL] at e5;obtain⟨rfl,rfl,_⟩:=e5;refine .inr ⟨af,_,arr,tt,rfl,by simpa using j2,j3, ?_,(j5.drop off).take n⟩;have:(B - off) * P.cellsOf e+off * P.cellsOf e=B * P.cellsOf e:=by rw [<-Ui];congr 1;omega
        omega) k src D
     rw [E] at m;exact⟨v,w',ρ',O',m,C,by rw [Jp];exact G,by simp only [ai];exact e3⟩
    .simp at hk
   .simp at hk
  case t=>
   have U:∀b,au w (AA c w O) (.aL b) S->(aa none (bw (P.bytesOf e) Z.length) λ_=>K (.own (.s d 0)) [(.s d 0, .sl false (P.cellsOf e) (b && Z.isEmpty) Z)])=some r->
     ∃v us,K v us=some r/\(iu d s.h us=true->∃u w' ρ' O',(Builtin.append_ #[t,ty] tr #[S,Y]).run P w= .ok u w'/\Le w ρ O w' ρ' O'/\HS c w' (aG s.h us) ρ' O'/\ai w' (AA c w' O') ρ' v u):=by
    intro b g hk;replace hk:=aI hk (.inl rfl);obtain⟨_,hb,hk⟩:=hk;refine⟨_,_,hk,λf=> ?_⟩;have f:=jS f RL;obtain⟨v,w',ρ',O',m,C,e3,G⟩:=JP (ty:=tr) hs f I hz q p (l _ hb) g k src D;exact⟨v,w',ρ',O',m,C,by rw [dB];exact G,by simp only [ai];exact e3⟩
   simp only [ai] at g;replace hk:=RK.1 hk;obtain⟨b,hb,hk⟩:=hk;refine U b ?_ hk;unfold GW at hb;split at hb
   .simp only [RJ] at hb;subst hb;exact g
   .rename_i sz T xs;cases h:(T && xs.isEmpty) with
    | false=>rw [h] at hb;simp at hb
    | true=>
     rw [h] at hb;simp only [cond_true,RJ] at hb;subst hb;simp only [RQ,Vw] at h;simp only [au] at g⊢;rcases g with⟨_,_,h1⟩ | ⟨h1,_⟩
     .exact .inl ⟨trivial,h1⟩
     .rw [h.1] at h1;cases h1
   .cases hb
 .simp at hk
theorem ND{zv:Array Value}{sz:Nat}(hz:zv.size=sz)(n:Nat):(madeCells zv (n * sz)).toList= (List.replicate n zv.toList).flatten:=by
 refine T7 λp=> ?_;by_cases a:p < n * sz
 .have h1:p < (List.replicate n zv.toList).flatten.length:=by simpa [hz] using a
  have:=At hz n n (R3 _) p _ (RR h1);rw [SG,this,RR h1]
 .rw [SZ (by simp [madeCells];omega),SZ (by simp [hz];omega)]
theorem GX{rsz:Nat}{i:Id}{af:Nat}:∀{k n base:Nat},(∀m,m < n->w.cell? ⟨af,base+m,none⟩=some (.slice none 0 0))->(∀m,k<=m->m < k+n->ρ (.g i m)=some (.slice none 0 0))->
  bO w A ρ O i af 1 0 rsz base ((List.range' k n).map λk=>⟨k,[.aS],some (true,[])⟩)
 | k,0,base,_,_=>trivial
 | k,n+1,base,a,hr=>by
  rw [U4,Se];refine⟨⟨rfl,by omega,λj x e b=> ?_,_,a 0 (by omega),hr k (by omega) (by omega),⟨none,0,rfl,by simp,by simp,trivial, .inl rfl⟩⟩,GX (λm hm=> ?_) (λm h1 d=>hr m (by omega) (by omega))⟩
  .have:j < 1:=by simpa using (RS.1 b).1
   omega
  .have:=a (m+1) (by omega);rw [show base+1+m=base+ (m+1) by omega];exact this
theorem HS.Oi{i:Id}{N cap rsz:Nat}{cells:Array Value}(hs:HS c w h ρ O)(hi:h i=none)(t:TypeId)(E:∀p,p < N->cells[p]? =some (.slice none 0 0))(H:cap<=cells.size)(D:N<=cap)(hrl:i.real=true:=by rfl):
  ∃ρ' O',Le w ρ O (w.alloc (.cells cells t)) ρ' O'/\HS c (w.alloc (.cells cells t)) (aA h i (some (.rows false 1 0 rsz N (pb N)))) ρ' O'/\ρ' i=some (.slice (some ⟨w.heap.size,0,none⟩) N cap):=by
 let V:Id->Option Value:=λx=>if x=i then some (.slice (some ⟨w.heap.size,0,none⟩) N cap) else match x with
  | .g y n=>if y=i then(if n < N then some (.slice none 0 0) else none) else ρ (.g y n)
  | x=>ρ x
 have z:V i=some (.slice (some ⟨w.heap.size,0,none⟩) N cap):=by simp only [V,if_true]
 have B:∀x,x.real=true->x≠i->V x=ρ x:=by
  intro x hr a;simp only [V,if_neg a];cases x with
  | g y n=>cases hr
  | _=>rfl
 have o:∀y n,y≠i->V (.g y n)=ρ (.g y n):=by intro y n hy;simp only [V,if_neg (aJ hrl),if_neg hy]
 have v:∀n,V (.g i n)=if n < N then some (.slice none 0 0) else none:=by intro n;simp only [V,if_neg (aJ hrl),if_true]
 have C:∀n,O (.g i n)=none:=λn=>(hs.eO i n hi).2;have le:Le w ρ O (w.alloc (.cells cells t)) V (aA O i (some w.heap.size)):=by
  refine⟨rfl,rfl,rfl,by simp,λx u a=> ?_,λd j _=>So _ _ _ j,λx d a=> ?_⟩
  .cases hr:x.real with
   | true=>
    have:x≠i:=λe=>by rw [e,(hs.bS i hrl hi).1] at a;cases a
    rw [B x hr this];exact a
   | false=>
    cases x with
    | g y n=>
     have:y≠i:=λe=>by rw [e,(hs.eO i n hi).1] at a;cases a
     rw [o y n this];exact a
    | _=>cases hr
  .by_cases e:x=i
   .rw [e,aB] at a;cases a;exact .inr (R3 _)
   .rw [al _ _ e] at a;exact .inl ⟨x,a⟩
 have r:(pb N).length=N:=by simp [pb]
 refine⟨V,_,le,hs.nH le (λx y a=> ?_) (λx hr a=> ?_) (λx n=>by rw [al _ _ (aJ hrl)];exact hs.dc x n) (λx n a=> ?_) (λx n u l=> ?_) (λx y d a hy=> ?_) (λx d a=> ?_),z⟩
 .by_cases e:x=i
  .subst e;rw [aB] at a;cases a;right;refine⟨_,cap,by rw [r];exact z,by rw [r];exact D,by simp,⟨?_,λf F=> ?_,λn hn=>by rw [v,if_neg (by omega)],λn d j=> ?_⟩, .inr ⟨w.heap.size,0,cells,t,rfl,by rw [aB],jV _,by omega, ?_⟩⟩
   .have:(pb N).map (·.n)=List.range N:=by
     unfold pb;rw [List.map_map];exact List.map_id _
    rw [this];exact List.nodup_range
   .obtain⟨k,hk,rfl⟩:=Si.1 F;simpa using hk
   .rw [al _ _ (aJ hrl),C] at j;cases j
   .unfold pb;rw [VD];refine GX (λm hm=> ?_) (λm _ hm=>by rw [v,if_pos (by omega)]);rw [jL (jV _),Sn];exact E m hm
  .rw [al _ _ e] at a;have G:=hs.real (i:=x) (by rw [a];simp);exact .inl ⟨a,al _ _ e,λd j=>So _ _ _ (hs.lt x d j),λn=>⟨o x n e,al _ _ (aJ hrl),λd j=>So _ _ _ (hs.lt _ d j)⟩⟩
 .have b:x≠i:=λe=>by rw [e,aB] at a;cases a
  rw [al _ _ b] at a;rw [B x hr b,al _ _ b];exact hs.bS x hr a
 .have b:x≠i:=λe=>by rw [e,aB] at a;cases a
  rw [al _ _ b] at a;rw [o x n b,al _ _ (aJ hrl)];exact hs.eO x n a
 .by_cases b:x=i
  .subst b;rw [v] at l;split at l
   .simp only [RJ] at l;subst l;exact⟨rfl,rfl⟩
   .cases l
  .rw [o x n b] at l;exact hs.gone x n u l
 .by_cases e:x=i <;> by_cases q:y=i
  .rw [e,q]
  .rw [e,aB] at a;cases a;rw [al _ _ q] at hy;exact absurd (hs.lt _ _ hy) (Ua _)
  .rw [q,aB] at hy;cases hy;rw [al _ _ e] at a;exact absurd (hs.lt _ _ a) (Ua _)
  .rw [al _ _ e] at a;rw [al _ _ q] at hy;exact hs.inj x y d a hy
 .by_cases e:x=i
  .rw [e,aB] at a;cases a;simp
  .rw [al _ _ e] at a;have:=hs.lt x d a;simp;omega
theorem NG{R:Type}{d:Nat}{t:TypeId}{M:Nat}{n m:T}{vn vm:Value}{K:AV->aE->Option R}{r:R}(hs:HS c w s.h ρ O)(hn:ai w (AA c w O) ρ (.t n) vn)(hm:ai w (AA c w O) ρ (.t m) vm)
  (hk:qH P d t M n m K=some r):
  ∃v us,K v us=some r/\(iu d s.h us=true->∃u w' ρ' O',(Instr.makeSlice t vn vm).run P w= .ok u w'/\Le w ρ O w' ρ' O'/\HS c w' (aG s.h us) ρ' O'/\ai w' (AA c w' O') ρ' v u):=by
 unfold qH at hk;replace hk:=RK.1 hk;obtain⟨e,S,hk⟩:=hk;replace hk:=RK.1 hk;obtain⟨Y,hz,hk⟩:=hk;obtain⟨I,V⟩:=vK S;replace hk:=aI hk (.inl rfl);obtain⟨L,H,hk⟩:=hk;replace hk:=aI hk (.inl rfl);obtain⟨g,G,hk⟩:=hk;have:=T.fA H;subst this;have:=T.fA G;subst this;simp only [ai,au] at hn hm;subst hn;subst hm;split at hk
 .rename_i z;obtain⟨B,o⟩:=z;replace hk:=aI hk (.inl rfl);obtain⟨_,hb,hk⟩:=hk;obtain⟨D,h1,E⟩:=Gm hb;cases C:(M==2) with
  | true=>
   simp only [C,cond_true] at hk;split at hk
   .rename_i u W;split at hk
    .rename_i F;refine⟨_,_,hk,λa=> ?_⟩;have a:=jS a RL;obtain⟨zv,f,y⟩:=H6 (w:=w) (A:=AA c w O) (kn:= .i64) (km:= .i64) I hz B o D h1 E;have x:zv.cells.size=P.cellsOf e:=by have:=f.length;rw [R8] at this;omega
     have J:zv.cells.toList= [.slice none 0 0]:=by
      obtain⟨v,q,N,b,j⟩:=f;simp only [aO] at j;rw [N,j];simp only [au] at b;rcases b with⟨_,b⟩ | ⟨b,_⟩
      .rw [b]
      .cases b
     have l:∀p,p < L.toNat->(madeCells zv.cells (g.toNat * P.cellsOf e))[p]? =some (.slice none 0 0):=by
      intro p X;rw [<-SG,ND x,J];have:(List.replicate g.toNat [Value.slice none 0 0]).flatten=List.replicate g.toNat (.slice none 0 0):=by
       induction g.toNat with
       | zero=>rfl
       | succ k U=>rw [Sv,TI,U];rfl
      rw [this,TF,if_pos (by omega)]
     obtain⟨ρ',O',b,j,Q⟩:=hs.Oi (i:= .s d 0) (rsz:=P.cellsOf u) a e l (cap:=g.toNat) (by simp [madeCells,F]) (by omega);refine⟨_,_,ρ',O',y,b, ?_, ?_⟩
     .rw [dB];with_reducible exact j
     .simp only [ai];exact Q
    .simp at hk
   .simp at hk
  | false=>
  simp only [C,cond_false] at hk;refine⟨_,_,hk,λa=> ?_⟩;have a:=jS a RL;obtain⟨zv,f,y⟩:=H6 (w:=w) (A:=AA c w O) (kn:= .i64) (km:= .i64) I hz B o D h1 E;have x:zv.cells.size=P.cellsOf e:=by have:=f.length;rw [R8] at this;omega
  obtain⟨b,j⟩:=hs.AI (i:= .s d 0) (sz:=P.cellsOf e) a e (madeCells zv.cells (g.toNat * P.cellsOf e)) g.toNat (bT.replicate f o L.toNat)
   (At x _ _ (by omega)) (by simp;omega) (by simp [madeCells])
  refine⟨_,_,_,_,y,b,by rw [dB];exact j, ?_⟩;simp only [ai];rw [aB,S0]
 .simp at hk
end
open Go Go.IntKind
section
variable {P:Program} {w w':World} {A A':Nat->Prop} {c:Ctx} {ρ:Id->Option Value} {O:Id->Option Nat} {s:St} {cc:Option Bool} {h:Id->Option ab}
theorem F4{t:TypeId}{x:AV}{i:Value}{b:Bool}(hs:HS c w s.h ρ O)(g:ai w (AA c w O) ρ x i)(h:iV P s t x=some b)(o:Operand)(u:nS P t o=true)(a:Act)(m n:Operand):
  ((eqGuard .eql t m n i (a.eval o)).run P w= .ok () w/\(binOp .eql t i (a.eval o)).run P w= .ok (.bool b) w)/\
  ((eqGuard .neq t m n i (a.eval o)).run P w= .ok () w/\(binOp .neq t i (a.eval o)).run P w= .ok (.bool (!b)) w)/\
  ((eqGuard .eql t m n (a.eval o) i).run P w= .ok () w/\(binOp .eql t (a.eval o) i).run P w= .ok (.bool b) w)/\
  ((eqGuard .neq t m n (a.eval o) i).run P w= .ok () w/\(binOp .neq t (a.eval o) i).run P w= .ok (.bool (!b)) w):=by
 unfold nS at u;split at u
 .rename_i e j;have key:∃p l k,i= .slice p l k/\p.isNone=b:=by
   unfold iV at h;rw [j] at h;dsimp only at h;split at h
   .rename_i sz B xs;simp only [RJ] at h;subst h;simp only [ai,au] at g;rcases g with⟨rfl,_,rfl⟩ | ⟨rfl,_,_,_,_,rfl,_⟩
    .exact⟨_,_,_,rfl,rfl⟩
    .exact⟨_,_,_,rfl,rfl⟩
   .simp only [RJ] at h;subst h;simp only [ai,au] at g;rcases g with⟨rfl,rfl⟩ | ⟨rfl,_,_,_,rfl⟩
    .exact⟨_,_,_,rfl,rfl⟩
    .exact⟨_,_,_,rfl,rfl⟩
   .split at h
    .rename_i hi;simp only [RJ] at h;subst h;obtain⟨G,z,a,cap,q1,C,v,D,F⟩:=mZ hs hi;simp only [ai] at g;rw [z] at g;simp only [RJ] at g;subst g;subst q1;refine⟨_,_,_,rfl, ?_⟩;cases a with
     | none=>simpa using v
     | some a=>
      have:¬(_=true):=λe=>by have:=v.2 e;simp at this
      simpa using this
    .simp at h
   .simp at h
  obtain⟨p,l,k,rfl,rfl⟩:=key;simp only [Act.eval];have q:(Op.equal t (.slice p l k) (.slice none 0 0)).run P w= .ok p.isNone w:=by
   have:∀d,(Op.equalIn (d+1) t (.slice p l k) (.slice none 0 0)).run P w= .ok p.isNone w:=by intro d;cases p <;> simp [Op.equalIn,run_underlying j]
   exact this 9999
  have r:(Op.equal t (.slice none 0 0) (.slice p l k)).run P w= .ok p.isNone w:=by
   have:∀d,(Op.equalIn (d+1) t (.slice none 0 0) (.slice p l k)).run P w= .ok p.isNone w:=by intro d;simp [Op.equalIn,run_underlying j]
   exact this 9999
  refine⟨⟨by simp [eqGuard], ?_⟩,⟨by simp [eqGuard], ?_⟩,⟨by simp [eqGuard], ?_⟩,⟨by simp [eqGuard], ?_⟩⟩ <;> simp only [binOp] <;> simp [q,r]
 .rename_i e j;have key:∃p,i= .pointer p/\p.isNone=b:=by
   unfold iV at h;rw [j] at h;dsimp only at h;split at h
   .simp only [RJ] at h;subst h;simp only [ai,au] at g;obtain⟨_,_,rfl,_⟩:=g;exact⟨_,rfl,rfl⟩
   .simp only [RJ] at h;subst h;simp only [ai,au] at g;subst g;exact⟨_,rfl,rfl⟩
   .simp only [RJ] at h;subst h;simp only [ai] at g;obtain⟨_,_,rfl⟩:=g;exact⟨_,rfl,rfl⟩
   .simp only [RJ] at h;subst h;simp only [ai] at g;obtain⟨_,_,_,_,_,rfl⟩:=g;exact⟨_,rfl,rfl⟩
   .simp at h
  obtain⟨p,rfl,rfl⟩:=key;simp only [Act.eval];have q:(Op.equal t (.pointer p) (.pointer none)).run P w= .ok p.isNone w:=by
   have:∀d,(Op.equalIn (d+1) t (.pointer p) (.pointer none)).run P w= .ok p.isNone w:=by intro d;cases p <;> simp [Op.equalIn,run_underlying j]
   exact this 9999
  have r:(Op.equal t (.pointer none) (.pointer p)).run P w= .ok p.isNone w:=by
   have:∀d,(Op.equalIn (d+1) t (.pointer none) (.pointer p)).run P w= .ok p.isNone w:=by intro d;simp [Op.equalIn,run_underlying j]
   exact this 9999
  refine⟨⟨by simp [eqGuard], ?_⟩,⟨by simp [eqGuard], ?_⟩,⟨by simp [eqGuard], ?_⟩,⟨by simp [eqGuard], ?_⟩⟩ <;> simp only [binOp] <;> simp [q,r]
 .rename_i j;have key:(i= .nilFunc/\b=true)\/(∃f x y,i= .func f x y/\b=false):=by
   unfold iV at h;rw [j] at h;dsimp only at h;split at h
   .simp only [RJ] at h;subst h;simp only [ai,au] at g;exact .inl ⟨g,rfl⟩
   .simp only [RJ] at h;subst h;simp only [ai] at g;obtain⟨_,_,rfl,_⟩:=g;exact .inr ⟨_,_,_,rfl,rfl⟩
   .simp at h
  simp only [Act.eval];have E:(Op.equal t i .nilFunc).run P w= .ok b w/\(Op.equal t .nilFunc i).run P w= .ok b w:=by
   constructor
   .have:∀d,(Op.equalIn (d+1) t i .nilFunc).run P w= .ok b w:=by intro d;rcases key with⟨rfl,rfl⟩ | ⟨f,x,y,rfl,rfl⟩ <;> simp [Op.equalIn,run_underlying j]
    exact this 9999
   .have:∀d,(Op.equalIn (d+1) t .nilFunc i).run P w= .ok b w:=by intro d;rcases key with⟨rfl,rfl⟩ | ⟨f,x,y,rfl,rfl⟩ <;> simp [Op.equalIn,run_underlying j]
    exact this 9999
  rcases key with⟨rfl,rfl⟩ | ⟨f,x,y,rfl,rfl⟩ <;>
  refine⟨⟨by simp [eqGuard], ?_⟩,⟨by simp [eqGuard], ?_⟩,⟨by simp [eqGuard], ?_⟩,⟨by simp [eqGuard], ?_⟩⟩ <;> simp only [binOp] <;> simp [E.1,E.2]
 .rename_i j;have key:i= .map none/\b=true:=by
   unfold iV at h;rw [j] at h;dsimp only at h;split at h
   .simp only [RJ] at h;subst h;simp only [ai,au] at g;exact⟨g,rfl⟩
   .simp at h
  simp only [Act.eval];obtain⟨rfl,rfl⟩:=key;have E:(Op.equal t (.map none) (.map none)).run P w= .ok true w:=by
   have:∀d,(Op.equalIn (d+1) t (.map none) (.map none)).run P w= .ok true w:=by intro d;simp [Op.equalIn,run_underlying j]
   exact this 9999
  refine⟨⟨by simp [eqGuard], ?_⟩,⟨by simp [eqGuard], ?_⟩,⟨by simp [eqGuard], ?_⟩,⟨by simp [eqGuard], ?_⟩⟩ <;> simp only [binOp] <;> simp [E]
 .simp at u
theorem KI{R:Type}{src d:TypeId}{x:T}{g:Value}{K:T->Option R}{r:R}(f:cc=none\/cc=some true)(b:au w A x g)(hk:p5 P cc src d x K=some r):
  ∃z v,K z=some r/\(convert src d g).run P w= .ok v w/\au w A z v:=by
 unfold p5 at hk;split at hk
 .rename_i k i e a;replace hk:=aI hk f;obtain⟨n,hn,hk⟩:=hk;have:=T.fA hn;subst this;simp only [au] at b;subst b;exact⟨_,_,hk,by simp [convert,run_underlying e,run_underlying a,Conv.intToInt],fJ _ _ _ _⟩
 .rename_i e a;replace hk:=aI hk f;obtain⟨n,hn,hk⟩:=hk;have:=T.jB hn;subst this;simp only [au] at b;subst b;exact⟨_,_,hk,by simp [convert,run_underlying e,run_underlying a],kX _ _ _⟩
 .simp at hk
theorem Dm:∀{xs:List (List T)} {l:List UInt8} {vss:List (List Value)},bytesOf xs=some l->bT w A 1 xs vss->∃a:List Int,vss.flatten=a.map (Value.int .u8)/\l=a.map (λn=>UInt8.ofNat n.toNat)
 | [],l,vss,e,h=>by simp only [bT] at h;subst h;simp only [bytesOf,RJ] at e;subst e;exact⟨[],rfl,rfl⟩
 | cs::xs,l,vss,e,⟨vs,r,i,b,e3,j⟩=>by
  subst i;simp only [bytesOf] at e;obtain⟨x,g,e⟩:=RK.1 e;obtain⟨n,hn,e⟩:=RK.1 e;obtain⟨q,o,e⟩:=RK.1 e;simp only [RJ] at e;subst e;obtain⟨a,k,m⟩:=Dm o j;have:=T.fA hn;subst this;cases cs with
  | nil=>simp at b
  | cons y cs=>simp only [S8,RJ] at g;subst g;have:cs= []:=R4.1 (by simpa using b);subst this;obtain⟨v,p,rfl,d,f⟩:=e3;simp only [aO] at f;subst f;simp only [au] at d;subst d;exact⟨n::a,by simp [k],by simp [m]⟩
theorem HL:∀(a:List Int) (b:ByteArray),a.foldl (λr n=>r.push (UInt8.ofNat n.toNat)) b= ⟨b.data++ (a.map (λn=>UInt8.ofNat n.toNat)).toArray⟩
 | [],b=>by simp
 | n::a,b=>by rw [List.foldl_cons,HL a];simp [ByteArray.push]
theorem Kh{src b e:TypeId}{x:AV}{y:T}{n:Value}{p:Bool×List (List T)}{l:List UInt8}(hs:HS c w s.h ρ O)(k:P.underlying src=some (.slice e))(d:P.underlying b=some .string)(g:P.underlying e=some (.int .u8))
  (z:ai w (AA c w O) ρ x n) (hy:cO s.h x=some y) (u:y.aM 1=some p) (hl:bytesOf p.2=some l):(convert src b n).run P w= .ok (.string ⟨l.toArray⟩) w:=by
 rcases IL hs z hy u with⟨m,rfl | ⟨a,cap,rfl⟩⟩ | ⟨af,off,cap,rfl,i⟩
 .rw [m] at hl;simp only [bytesOf,RJ] at hl;subst hl;rw [run_convert_bytes_string w src b e _ _ _ k g d];simp [Conv.bytesToString];rfl
 .rw [m] at hl;simp only [bytesOf,RJ] at hl;subst hl;rw [run_convert_bytes_string w src b e _ _ _ k g d,run_bytesToString w a 0 cap [] (run_loadCells_list (P:=P) w a [] (by simp))];rfl
 .obtain⟨vss,h1,r⟩:=i.aU;obtain⟨D,B⟩:=h1.length;obtain⟨C,o,q⟩:=Dm hl h1;rw [run_convert_bytes_string w src b e _ _ _ k g d,run_bytesToString w _ _ cap C ?_,HL]
  .rw [q];simp
  .rw [<-o];have f:=run_loadCells_list (P:=P) w ⟨af,off,none⟩ vss.flatten (λj v t=>by rw [gh];exact r j v t);rw [B,Wn] at f;exact f
theorem Nw{R:Type}{t:TypeId}(f:bB P t=true){cs:List AV}{arr:Array Value}{off:Nat}{K:AV->Option R}{r:R}(hr:aw w A ρ cs (arr.toList.drop off))(h1:∀u∈arr.toList,u.oneCell'=true/\u.cells= #[u])(h:mL P t cs K=some r):
  ∃av v,K av=some r/\(part t arr off).run P w= .ok v w/\ai w A ρ av v:=by
 unfold mL at h;unfold part;simp only [R6,qX f,RT];cases hb:be P t
 .simp only [hb,cond_false] at h;cases cs with
  | nil=>simp at h
  | cons y cs=>
   simp only [S8,R2] at h;simp only [aw] at hr;obtain⟨v,q,e,a,_⟩:=hr;have b:off < arr.toList.length:=by
    rcases UG off arr.toList.length with g | g
    .exact g
    .rw [Vs g] at e;simp at e
   rw [TW b] at e;simp only [TJ] at e;have:arr[off]? =some v:=by rw [TV (by simpa using b)];rw [<-e.1];simp
   simp only [R9,if_false,this];exact⟨_,v,h,by simp,a⟩
 .simp only [hb,cond_true] at h;cases d:m8 (P.cellsOf t) cs with
  | none=>simp [d] at h
  | some l=>simp only [d,R2] at h;obtain⟨hl,hn⟩:=BQ d;have a:=hr.take (P.cellsOf t);rw [<-hl] at a;refine⟨_, .agg (arr.extract off (off+P.cellsOf t)),h,by simp only [if_true,R6,iB f,RT,Sf], ?_⟩;simp only [ai];refine⟨_, ?_,a,λu i=>h1 u (UA (Td i))⟩;congr 1;apply TY;simp [U3,Uz]
theorem MG{R:Type}{t:TypeId}{x:AV}{d:Value}{f:Nat}{K:AV->Option R}{r:R}(b:ai w A ρ x d)(h:qn P t x f K=some r):
  ∃av v,K av=some r/\(Instr.field t d f).run P w= .ok v w/\ai w A ρ av v:=by
 unfold qn at h;split at h
 .rename_i off u k;obtain⟨o,y,h1,i,a,j⟩:=zS k;simp only [SA] at a;obtain⟨rfl,rfl⟩:=a;split at h
  .rename_i vs;simp only [ai] at b;obtain⟨n,rfl,e,g⟩:=b;obtain⟨av,v,l,k2,m⟩:=Nw (arr:=n.toArray) j (by simpa using e.drop y.offset) (by simpa using g) h;exact⟨av,v,l,by simp [Instr.field,run_underlying h1,i,asAgg,k2],m⟩
  .simp at h
 .simp at h
theorem Nv{R:Type}{t:TypeId}(i:bB P t=true){cs:List T}{arr:Array Value}{off:Nat}{K:AV->Option R}{r:R}(b:cc=none\/cc=some true)(hr:aO w A cs (arr.toList.drop off))(h:jX P t cc cs K=some r):
  ∃av v,K av=some r/\(part t arr off).run P w= .ok v w/\ai w A ρ av v:=by
 unfold jX at h;unfold part;simp only [R6,qX i,RT];cases hb:be P t
 .simp only [hb,cond_false] at h;replace h:=aI h b;obtain⟨x,f,h⟩:=h;cases cs with
  | nil=>simp at f
  | cons y cs=>
   simp only [S8,RJ] at f;subst f;obtain⟨v,q,e,a,_⟩:=hr;have d:off < arr.toList.length:=by
    rcases UG off arr.toList.length with g | g
    .exact g
    .rw [Vs g] at e;simp at e
   rw [TW d] at e;simp only [TJ] at e;have:arr[off]? =some v:=by rw [TV (by simpa using d)];rw [<-e.1];simp
   simp only [R9,if_false,this];obtain⟨z,h,a⟩:=ow b a h;exact⟨_,v,h,by simp,by simpa [ai] using a⟩
 .simp only [hb,cond_true] at h;obtain⟨l,hl,hn,h⟩:=xI b h;have a:=hr.take (P.cellsOf t);rw [<-hl] at a;obtain⟨k,h,j⟩:=tE b a h;refine⟨_, .agg (arr.extract off (off+P.cellsOf t)),h,by simp only [if_true,R6,iB i,RT,Sf], ?_⟩;simp only [ai];refine⟨_, ?_,aw.kU j,a.one⟩;congr 1;apply TY;simp [U3,Uz]
theorem Ax{R:Type}{k:IntKind}(f:cc=none\/cc=some true)(d:Bool):∀{l:List T} {a:Int} {vs:List Value} {K:T->Option R} {r:R},aO w A l vs->nP k cc d a l K=some r->
  ∃n,K (.int k n)=some r/\(vs.foldlM (cond d Builtin.max2 Builtin.min2) (.int k a)).run P w= .ok (.int k n) w
 | [],a,vs,K,r,hv,h=>by simp only [aO] at hv;subst hv;exact⟨a,h,by simp⟩
 | y::l,a,vs,K,r,⟨v,q,e,h1,j⟩,h=>by
  subst e;simp only [nP] at h;replace h:=aI h f;obtain⟨b,hb,h⟩:=h;have:=T.fA hb;subst this;simp only [au] at h1;subst h1;obtain⟨n,g,i⟩:=Ax f d j h;refine⟨n,g, ?_⟩;rw [List.foldlM_cons];have:((cond d Builtin.max2 Builtin.min2) (.int k a) (.int k b)).run P w= .ok (.int k (mm d a b)) w:=by cases d <;> simp [Builtin.max2,Builtin.min2,mm]
  simp only [R6,this,RT];exact i
end
open Go Go.IntKind
def eX(O:Id->Option Nat)(b:Nat):Prop:= ∃i,O i=some b
def jh(a:List ab):Id->Option ab
 | .c j=>a[j]?
 | _=>none
section
variable {P:Program} {w w':World} {A A':Nat->Prop} {c:Ctx} {ρ:Id->Option Value} {O:Id->Option Nat} {s s':St} {h:Id->Option ab}
def mJ:Option ab->List Id
 | some (.box cs)=>bI cs
 | some (.arr cs)=>bI cs
 | _=> []
theorem sZ:∀{n:Nat} {todo d seen:List Id},ew h n todo d=some seen->d.Nodup->(∀i∈d,h i≠none)->(∀i∈d,∀j∈mJ (h i),j∈d\/j∈todo)->
  seen.Nodup/\(∀i∈d,i∈seen)/\(∀i∈todo,i∈seen)/\(∀i∈seen,h i≠none)/\∀i∈seen,∀j∈mJ (h i),j∈seen
 | 0,todo,d,seen,e,_,_,_=>by simp [ew] at e
 | n+1,[],d,seen,e,hn,q,p=>by simp only [ew,RJ] at e;subst e;exact⟨hn,λ_ h=>h,by simp,q,λi hi j l=>by rcases p i hi j l with h | h;exact h;cases h⟩
 | n+1,i::todo,d,seen,e,hn,q,p=>by
  simp only [ew] at e;cases g:d.contains i with
  | true=>
   rw [g,cond_true] at e;have hi:i∈d:=by simpa using g
   obtain⟨r,o,t,u,v⟩:=sZ e hn q (λk hk j l=>by
    rcases p k hk j l with h | h
    .exact .inl h
    .rcases RV.1 h with rfl | h
     .exact .inl hi
     .exact .inr h)
   refine⟨r,o,λk hk=> ?_,u,v⟩;rcases RV.1 hk with rfl | hk
   .exact o _ hi
   .exact t k hk
  | false=>
   rw [g,cond_false] at e;have C:i∉d:=by
    intro hm;have:d.contains i=true:=by simpa using hm
    rw [this] at g;cases g
   have z:(d++ [i]).Nodup:=Tk.2 ⟨hn,by simp,λa D b hb x=>by simp only [RP] at hb;exact C (by rw [<-hb,<-x];exact D)⟩;have go:∀f:List Id,h i≠none->mJ (h i)=f->ew h n (todo++f) (d++ [i])=some seen->_:=λf B hm e=>
    sZ e z (λk hk=>by
     rcases RX.1 hk with hk | hk
     .exact q k hk
     .simp only [RP] at hk;subst hk;exact B) (λk hk j l=>by
     rcases RX.1 hk with hk | hk
     .rcases p k hk j l with h | h
      .exact .inl (RY _ h)
      .rcases RV.1 h with rfl | h
       .exact .inl (RW _ (RP.2 rfl))
       .exact .inr (RY _ h)
     .simp only [RP] at hk;subst hk;rw [hm] at l;exact .inr (RW _ l))
   have m:∀f:List Id,(seen.Nodup/\(∀k∈d++ [i],k∈seen)/\(∀k∈todo++f,k∈seen)/\(∀k∈seen,h k≠none)/\∀k∈seen,∀j∈mJ (h k),j∈seen)->
     seen.Nodup/\(∀i∈d,i∈seen)/\(∀k∈i::todo,k∈seen)/\(∀i∈seen,h i≠none)/\∀i∈seen,∀j∈mJ (h i),j∈seen:=by
    rintro f ⟨r,o,t,u,v⟩;refine⟨r,λk hk=>o k (RY _ hk),λk hk=> ?_,u,v⟩;rcases RV.1 hk with rfl | hk
    .exact o _ (RW _ (RP.2 rfl))
    .exact t k (RY _ hk)
   split at e
   .rename_i cs hi;exact m _ (go (bI cs) (by rw [hi];simp) (by rw [hi];rfl) e)
   .rename_i cs hi;exact m _ (go (bI cs) (by rw [hi];simp) (by rw [hi];rfl) e)
   .rename_i b hb y hi;refine m [] (go [] (by rw [hi];simp) ?_ (by simpa using e));rw [hi];cases b with
    | box cs=>exact(hb cs rfl).elim
    | arr cs=>exact(y cs rfl).elim
    | _=>rfl
   .simp at e
def bQ{a:Type}(m:List Id)(f:Id->Option a):Id->Option a
 | .c j=>(m[j]?).bind f
 | .g (.c j) n=>(m[j]?).bind λi=>f (.g i n)
 | _=>none
theorem xf{a:Type}{m:List Id}{f:Id->Option a}{i:Id}(hi:i∈m):bQ m f (.c (m.idxOf i))=f i:=by simp only [bQ];have:m.idxOf i < m.length:=V9.2 hi;rw [RR this];simp
theorem HW{a:Type}{m:List Id}{f:Id->Option a}{i:Id}{n:Nat}(hi:i∈m):bQ m f (.g (.c (m.idxOf i)) n)=f (.g i n):=by simp only [bQ];have:m.idxOf i < m.length:=V9.2 hi;rw [RR this];simp
def oz(seen:List Id):Id->Option Id
 | .c j=>seen[j]?
 | .g (.c j) n=>(seen[j]?).map λi=> .g i n
 | _=>none
theorem HX{a:Type}{m:List Id}{f:Id->Option a}(i:Id):bQ m f i= (oz m i).bind f:=by
 cases i with
 | c j=>rfl
 | s d j=>rfl
 | g i n=>
  cases i with
  | c j=>simp only [bQ,oz];cases m[j]? <;> rfl
  | _=>rfl
theorem Re{seen:List Id}(hn:seen.Nodup){i j k:Id}(hr:∀x∈seen,x.real=true)(hi:oz seen i=some k)(r:oz seen j=some k):i=j:=by
 have inj:∀{a b:Nat} {x:Id},seen[a]? =some x->seen[b]? =some x->a=b:=by intro a b x h1 e;obtain⟨t,p⟩:=RS.1 h1;obtain⟨u,q⟩:=RS.1 e;exact(List.getElem_inj hn).1 (p.trans q.symm)
 have l:∀i,oz seen i=some k->(∃a,i= .c a/\seen[a]? =some k)\/∃a n x,i= .g (.c a) n/\seen[a]? =some x/\k= .g x n:=by
  intro i hi;cases i with
  | c a=>exact .inl ⟨a,rfl,hi⟩
  | s d a=>cases hi
  | g i n=>
   cases i with
   | c a=>simp only [oz,Uh] at hi;obtain⟨x,h1,e⟩:=hi;exact .inr ⟨a,n,x,rfl,h1,e.symm⟩
   | _=>cases hi
 rcases l i hi with⟨a,rfl,h1⟩ | ⟨a,n,x,rfl,h1,e⟩ <;> rcases l j r with⟨b,rfl,f⟩ | ⟨b,m,y,rfl,f,o⟩
 .rw [inj h1 f]
 .have:=hr k (RN h1);rw [o] at this;cases this
 .have:=hr k (RN f);rw [e] at this;cases this
 .rw [e] at o;cases o;rw [inj h1 f]
mutual
theorem ai.rn{m:List Id}(d:∀b,A b->A' b):∀(v:AV) (u:Value),(∀i∈v.ids,i∈m)->ai w A ρ v u->ai w A' (bQ m ρ) (v.rn m) u
 | .top,_,_,_=>by simp [AV.rn,ai]
 | .t x,u,_,hv=>by simp only [AV.rn,ai] at hv⊢;exact au.mono (λb hb=>⟨d b hb,rfl⟩) x u hv
 | .lk vs,u,hi,hv=>by simp only [AV.rn,ai] at hv⊢;obtain⟨g,e,h1⟩:=hv;exact⟨g,e,aw.rn d vs g (by simpa [AV.ids] using hi) h1⟩
 | .agg vs,u,hi,hv=>by simp only [AV.rn,ai] at hv⊢;obtain⟨g,e,h1,j⟩:=hv;exact⟨g,e,aw.rn d vs g (by simpa [AV.ids] using hi) h1,j⟩
 | .ref i off,u,hi,hv=>by simp only [AV.rn,ai] at hv⊢;rw [xf (hi i (by simp [AV.ids]))];exact hv
 | .el i sz k off,u,hi,hv=>by simp only [AV.rn,ai] at hv⊢;rw [xf (hi i (by simp [AV.ids]))];exact hv
 | .own i,u,hi,hv=>by simp only [AV.rn,ai] at hv⊢;rw [xf (hi i (by simp [AV.ids]))];exact hv
 | .part i sz off n,u,hi,hv=>by simp only [AV.rn,ai] at hv⊢;rw [xf (hi i (by simp [AV.ids]))];exact hv
 | .row i n,u,hi,hv=>by simp only [AV.rn,ai] at hv⊢;rw [HW (hi i (by simp [AV.ids]))];exact hv
 | .rel i sz n k off,u,hi,hv=>by simp only [AV.rn,ai] at hv⊢;rw [HW (hi i (by simp [AV.ids]))];exact hv
 | .fn f a b,u,hi,hv=>by simp only [AV.rn,ai] at hv⊢;obtain⟨l,y',e,h1,j⟩:=hv;simp only [AV.ids,RX] at hi;exact⟨l,y',e,aw.rn d a l (λi h=>hi i (.inl h)) h1,aw.rn d b y' (λi h=>hi i (.inr h)) j⟩
theorem aw.rn{m:List Id}(a:∀b,A b->A' b):∀(vs:List AV) (us:List Value),(∀i∈bI vs,i∈m)->aw w A ρ vs us->aw w A' (bQ m ρ) (jx m vs) us
 | [],us,_,hv=>by simpa [jx,aw] using hv
 | v::vs,us,hi,hv=>by simp only [jx,aw] at hv⊢;obtain⟨u,r,e,h1,d⟩:=hv;simp only [bI,RX] at hi;exact⟨u,r,e,ai.rn a v u (λi h=>hi i (.inl h)) h1,aw.rn a vs r (λi h=>hi i (.inr h)) d⟩
end
def Of(seen:List Id)(k:Id):Prop:=k∈seen\/∃i n,i∈seen/\k= .g i n
theorem Rg{seen:List Id}{i k:Id}(h:oz seen i=some k):Of seen k:=by
 cases i with
 | c a=>exact .inl (RN h)
 | s d a=>cases h
 | g i n=>
  cases i with
  | c a=>simp only [oz,Uh] at h;obtain⟨x,h1,b⟩:=h;exact .inr ⟨x,n,RN h1,b.symm⟩
  | _=>cases h
theorem s9{seen:List Id}{b:Nat}(h:eX (bQ seen O) b):∃k,Of seen k/\O k=some b:=by obtain⟨i,hi⟩:=h;rw [HX] at hi;obtain⟨k,a,hk⟩:=RK.1 hi;exact⟨k,Rg a,hk⟩
theorem bO.rn{seen:List Id}{i:Id}{j:Nat}{af sz ax rsz:Nat}(a:∀b,A b->A' b)(d:seen[j]? =some i):∀{es:List Row} {base:Nat},bO w A ρ O i af sz ax rsz base es->
  bO w A' (bQ seen ρ) (bQ seen O) (.c j) af sz ax rsz base es
 | [],_,_=>trivial
 | e::es,base,⟨⟨h1,q,r,v,t,y,z⟩,hr⟩=>by
  have f:bQ seen ρ (.g (.c j) e.n)=ρ (.g i e.n):=by simp [bQ,d]
  refine⟨⟨h1,q,λk x hk B=> ?_,v,t,by rw [f];exact y, ?_⟩,bO.rn a d hr⟩
  .obtain⟨u,m,o⟩:=r k x hk B;exact⟨u,m,au.mono (λb hb=>⟨a b hb,rfl⟩) x u o⟩
  .have l:bQ seen O (.g (.c j) e.n)=O (.g i e.n):=by simp [bQ,d]
   rw [l];revert z;cases e.own with
   | none=>exact λh=>h
   | some p=>exact λh=>h.mono (λb hb=>⟨a b hb,rfl⟩) λb hb=>⟨hb,rfl⟩
theorem nw.rn{seen:List Id}{i:Id}{j nx:Nat}{es:List Row}(a:seen[j]? =some i)(h:nw ρ O i nx es):nw (bQ seen ρ) (bQ seen O) (.c j) nx es:=by
 have d:∀n,bQ seen ρ (.g (.c j) n)=ρ (.g i n):=λn=>by simp [bQ,a]
 have e:∀n,bQ seen O (.g (.c j) n)=O (.g i n):=λn=>by simp [bQ,a]
 exact⟨h.1,h.2.1,λn hn=>by rw [d];exact h.2.2.1 n hn,λn b hn=>by rw [e] at hn;exact h.2.2.2 n b hn⟩
theorem HS.HV{c':Ctx}{seen:List Id}(hs:HS c w h ρ O)(hn:seen.Nodup)(I:∀i∈seen,h i≠none)(U:∀i∈seen,∀j∈mJ (h i),j∈seen)
  (z:∀b,AA c w O b->AA c' w (bQ seen O) b) (S:∀b,eX (bQ seen O) b->c'.MO b) (T:c'.N0<=w.heap.size):HS c' w (jh (seen.map λi=>gx seen (h i))) (bQ seen ρ) (bQ seen O):=by
 have G:∀b,eX (bQ seen O) b->eX O b:=λb h=>let⟨k,_,hk⟩:=s9 h;⟨k,hk⟩;refine⟨λi b hb=> ?_,λi hr hi=> ?_,λi n=>rfl,λi n hi=> ?_,λi n u H=> ?_,λi j b hi J=> ?_,λi b hi=> ?_,λi b hi=> ?_,T⟩
 .cases i with
  | s d j=>simp [jh] at hb
  | g i n=>simp [jh] at hb
  | c j=>
   simp only [jh,Sp,Uh] at hb;obtain⟨i,hi,e⟩:=hb;have D:i∈seen:=RN hi;have o:bQ seen ρ (.c j)=ρ i:=by simp [bQ,hi]
   have y:bQ seen O (.c j)=O i:=by simp [bQ,hi]
   cases C:h i with
   | none=>exact(I i D C).elim
   | some x=>
    have r:=hs.af i x C;have B:=U i D;rw [C] at e B;cases x with
    | box cs=>simp only [gx] at e;subst e;obtain⟨p,arr,t,f,m,e3,q,e5⟩:=r;exact⟨p,arr,t,by rw [o];exact f,by rw [y];exact m,e3,aw.rn z cs _ (λk hk=>B k (by simpa [mJ] using hk)) q,e5⟩
    | sl Q sz bb xs=>
     simp only [gx] at e;subst e;obtain⟨v,f,m,e3⟩:=r;refine⟨v,by rw [o];exact f,m.mono (λb hb=>⟨z b hb,rfl⟩) (λb hb=>⟨?_,rfl⟩),by rw [y];exact e3⟩;cases Q
     .simp only [R9,if_false] at hb⊢;rw [y];exact hb
     .simp only [if_true] at hb⊢;exact z b hb
    | gX l=>simp only [gx] at e;subst e;obtain⟨p,f,m,e3,q⟩:=r;exact⟨p,by rw [o];exact f,by rw [y];exact m,z p e3,aP.mono (λb hb=>⟨z b hb,rfl⟩) p e3 0 l q⟩
    | mp ag ks vk es=>simp only [gx] at e;subst e;obtain⟨p,F,E,f,m,e3,q,e5⟩:=r;exact⟨p,F,E,by rw [o];exact f,by rw [y];exact m,e3,q,e5⟩
    | arr cs=>simp only [gx] at e;subst e;obtain⟨p,arr,t,f,m,e3,q,e5⟩:=r;exact⟨p,arr,t,by rw [o];exact f,by rw [y];exact m,e3,aw.rn z cs _ (λk hk=>B k (by simpa [mJ] using hk)) q,e5⟩
    | rows bb sz ax rsz nx es=>
     simp only [gx] at e;subst e;obtain⟨a,cap,f,m,e3,q,e5⟩:=r;refine⟨a,cap,by rw [o];exact f,m,e3,q.rn hi, ?_⟩;rcases e5 with e5 | ⟨af,off,arr,t,q1,W,X,Y,Z⟩
     .exact .inl e5
     .exact .inr ⟨af,off,arr,t,q1,by rw [y];exact W,X,Y,Z.rn z hi⟩
    | dead=>simp only [gx] at e;subst e;obtain⟨f,m⟩:=r;exact⟨by rw [o];exact f,by rw [y];exact m⟩
 .cases i with
  | s d j=>exact⟨rfl,rfl⟩
  | g i n=>cases hr
  | c j=>simp only [jh,Sp,Option.map_eq_none_iff] at hi;simp [bQ,hi]
 .cases i with
  | c j=>simp only [jh,Sp,Option.map_eq_none_iff] at hi;simp [bQ,hi]
  | _=>exact⟨rfl,rfl⟩
 .cases i with
  | c j=>simp only [bQ] at H;obtain⟨k,h1,R⟩:=RK.1 H;exact hs.gone k n u R
  | _=>cases H
 .rw [HX] at hi J;obtain⟨V,K,M⟩:=RK.1 hi;obtain⟨k2,L,N⟩:=RK.1 J;have:=hs.inj V k2 b M N;subst this;exact Re hn (λx r=>hs.real (I x r)) K L
 .obtain⟨k,hk⟩:=G b ⟨i,hi⟩;exact hs.lt k b hk
 .exact S b ⟨i,hi⟩
theorem HS.rn{seen:List Id}(hs:HS c w h ρ O)(hn:seen.Nodup)(e:∀i∈seen,h i≠none)(d:∀i∈seen,∀j∈mJ (h i),j∈seen):
  HS c w (jh (seen.map λi=>gx seen (h i))) (bQ seen ρ) (bQ seen O)/\(∀b,eX (bQ seen O) b->eX O b):=by
 have a:∀b,eX (bQ seen O) b->eX O b:=λb h=>let⟨k,_,hk⟩:=s9 h;⟨k,hk⟩;refine⟨hs.HV hn e d (λb hb=>⟨hb.1,hb.2.1,λi hi=> ?_⟩) (λb hb=> ?_) hs.size,a⟩
 .obtain⟨k,hk⟩:=a b ⟨i,hi⟩;exact hb.2.2 k hk
 .obtain⟨k,hk⟩:=a b hb;exact hs.own k b hk
theorem n9:∀{n:Nat} {todo a seen:List Id},ew h n todo a=some seen->a <+:seen
 | 0,todo,a,seen,e=>by simp [ew] at e
 | n+1,[],a,seen,e=>by simp only [ew,RJ] at e;subst e;exact List.prefix_refl _
 | n+1,i::todo,a,seen,e=>by
  simp only [ew] at e;cases b:a.contains i with
  | true=>rw [b,cond_true] at e;exact n9 e
  | false=>
   rw [b,cond_false] at e;split at e
   .exact(VP _ _).trans (n9 e)
   .exact(VP _ _).trans (n9 e)
   .exact(VP _ _).trans (n9 e)
   .simp at e
theorem HQ:∀{l:List Id} {n:Nat} {todo a seen:List Id},ew h n (l++todo) a=some seen->l.Nodup->(∀i∈l,i∉a)->(a++l) <+:seen
 | [],n,todo,a,seen,e,_,_=>by rw [SN];exact n9 e
 | i::l,0,todo,a,seen,e,_,_=>by simp [ew] at e
 | i::l,n+1,todo,a,seen,e,hn,d=>by
  obtain⟨k,m⟩:=SU.1 hn;simp only [RU,ew] at e;have f:a.contains i=false:=by have:=d i RL;simpa using this
  rw [f,cond_false] at e;have go:∀b:List Id,ew h n (l++todo++b) (a++ [i])=some seen->(a++i::l) <+:seen:=by
   intro b e;rw [Sj] at e;have:=HQ e m (λj g hm=>by
    rcases RX.1 hm with hm | hm
    .exact d j (RM _ g) hm
    .simp only [RP] at hm;subst hm;exact k g)
   simpa using this
  split at e
  .exact go _ e
  .exact go _ e
  .exact go [] (by simpa using e)
  .simp at e
theorem HS.IN(hs:HS c w h ρ O){i:Id}{b:ab}(hi:h i=some b):∃v,ρ i=some v/\v.oneCell'=true/\v.cells= #[v]:=by
 cases a:ρ i with
 | some u=>exact⟨u,rfl,jw hs a⟩
 | none=>
  exfalso;have:=hs.af i b hi;cases b with
  | box cs=>obtain⟨b,_,_,h1,_⟩:=this;rw [a] at h1;cases h1
  | sl d sz b xs=>obtain⟨v,h1,_⟩:=this;rw [a] at h1;cases h1
  | gX l=>obtain⟨b,h1,_⟩:=this;rw [a] at h1;cases h1
  | mp ag ks vk es=>obtain⟨b,_,_,h1,_⟩:=this;rw [a] at h1;cases h1
  | arr cs=>obtain⟨b,_,_,h1,_⟩:=this;rw [a] at h1;cases h1
  | rows _ _ _ _ _ _=>obtain⟨_,_,h1,_⟩:=this;rw [a] at h1;cases h1
  | dead=>obtain⟨⟨v,h1,_⟩,_⟩:=this;rw [a] at h1;cases h1
theorem aw.set:∀{as:List AV} {us:List Value} {k:Nat} {v:AV} {u:Value},aw w A ρ as us->us[k]? =some u->ai w A ρ v u->aw w A ρ (as.set k v) us
 | [],us,k,v,u,h,hk,hv=>by simp only [aw] at h;subst h;simp at hk
 | a::as,us,0,v,u,h,hk,hv=>by simp only [aw] at h;obtain⟨x,r,rfl,h1,b⟩:=h;simp only [Tq,RJ] at hk;subst hk;simp only [UK,aw];exact⟨_,_,rfl,hv,b⟩
 | a::as,us,k+1,v,u,h,hk,hv=>by simp only [aw] at h;obtain⟨x,r,rfl,h1,b⟩:=h;simp only [TE] at hk;simp only [Uj,aw];exact⟨_,_,rfl,h1,aw.set b hk hv⟩
theorem L6{b:Bool}{sz:Nat}{u:Value}{Q:Nat->Prop}(h:au w A (.aL b) u):cg w A sz b [] u Q:=by
 simp only [au] at h;rcases h with⟨rfl,rfl⟩ | ⟨rfl,af,off,a,rfl⟩
 .exact⟨none,0,rfl,by simp,by simp,by simp, .inl rfl⟩
 .exact⟨some ⟨af,off,a⟩,0,rfl,by simp,by simp,trivial, .inl rfl⟩
theorem vV{new i:Id}{k:Nat}{cs:List AV}{X:ab}{us:aE}{bb:Bool}(o:new.real=true)(hs:HS c w h ρ O)(hi:h i=some (.box cs))
  (E:h new=none->∀u,au w (AA c w O) (.aL bb) u->cr w (AA c w O) (aA ρ new (some u)) O new X) (hk:cs[k]? =some (.t (.aL bb))\/(∃z,cs[k]? =some (.t (.ae z true []))/\bb=true))
  (e:(cond (h new).isNone (some [(new,X),(i,ab.box (cs.set k (.own new)))]) none)=some us):∃ρ' O',Le w ρ O w ρ' O'/\HS c w (aG h us) ρ' O':=by
 obtain⟨b,arr,t,h1,B,C,p,D⟩:=hs.af i _ hi;cases m:h new with
 | some x=>rw [m] at e;simp at e
 | none=>
  rw [m] at e;simp only [VQ,cond_true,RJ] at e;subst e;have F:∃u,arr.toList[k]? =some u/\au w (AA c w O) (.aL bb) u:=by
   rcases hk with hk | ⟨z,hk,rfl⟩
   .obtain⟨u,l,f⟩:=p.get hk;exact⟨u,l,by simpa [ai] using f⟩
   .obtain⟨u,l,f⟩:=p.get hk;refine⟨u,l, ?_⟩;simp only [ai,au] at f⊢;rcases f with⟨_,_,g⟩ | ⟨g,_⟩
    .exact .inl ⟨trivial,g⟩
    .cases g
  obtain⟨u,l,f⟩:=F;obtain⟨G,I⟩:=hs.bS new o m;have H:i≠new:=λe=>by rw [e,m] at hi;cases hi
  have le:Le w ρ O w (aA ρ new (some u)) O:=⟨rfl,rfl,rfl,R3 _,λj v a=>by
   by_cases e:j=new
   .subst e;rw [G] at a;cases a
   .rw [al _ _ e];exact a,λ_ _ _=>rfl,λj b h=> .inl ⟨j,h⟩⟩
  refine⟨_,O,le, ?_⟩;rw [cw,dB];have r:=hs.real (i:=i) (by rw [hi];simp);have y:GK w ρ O w (aA ρ new (some u)) O:=λj n=>⟨al _ _ (aJ o),rfl,λ_ _=>rfl⟩;refine hs.go le y (λj x a=> ?_) (λj q a=> ?_) (λj a=> ?_) (λj n=>by rw [al _ _ (aJ r),al _ _ (aJ o)];exact hs.dc j n) hs.inj hs.lt
  .by_cases e:j=i
   .subst e;rw [aB] at a;cases a;right;refine⟨b,arr,t,le.dL _ _ h1,B,C,aw.set (aw.mono (λb hb=>le.A b hb) le.dL _ _ p) l ?_,D⟩;simp only [ai];exact aB _ _ _
   .rw [al _ _ e] at a;by_cases d:j=new
    .subst d;rw [aB] at a;cases a;exact .inr (E m u f)
    .rw [al _ _ d] at a;exact .inl ⟨a,rfl,λ_ _=>rfl⟩
  .by_cases e:j=i
   .subst e;rw [aB] at a;cases a
   .rw [al _ _ e] at a;by_cases d:j=new
    .subst d;rw [aB] at a;cases a
    .rw [al _ _ d] at a;rw [al _ _ d];exact hs.bS j q a
  .by_cases e:j=i
   .subst e;rw [aB] at a;cases a
   .rw [al _ _ e] at a;by_cases d:j=new
    .subst d;rw [aB] at a;cases a
    .rw [al _ _ d] at a;exact a
theorem Pn{new i:Id}{k sz ax rsz:Nat}{us:aE}(a:new.real=true)(hs:HS c w h ρ O)(e:qV h new i k sz ax rsz=some us):∃ρ' O',Le w ρ O w ρ' O'/\HS c w (aG h us) ρ' O':=by
 have g:∀{bb:Bool},h new=none->∀u,au w (AA c w O) (.aL bb) u->cr w (AA c w O) (aA ρ new (some u)) O new (.rows bb sz ax rsz 0 []):=by
  intro bb b u l;have hn:nw (aA ρ new (some u)) O new 0 []:=⟨by simp,(λf b=>by cases b),λn _=>by rw [al _ _ (aJ a)];exact(hs.eO new n b).1,λn d j=>by rw [(hs.eO new n b).2] at j;cases j⟩;simp only [au] at l;rcases l with⟨rfl,rfl⟩ | ⟨rfl,af,off,m,rfl⟩
  .exact⟨none,0,aB _ _ _,by simp,by simp,hn, .inl rfl⟩
  .exact⟨some ⟨af,off,m⟩,0,aB _ _ _,by simp,by simp,hn, .inl rfl⟩
 unfold qV at e;split at e
 .rename_i cs hi;split at e
  .simp only [RJ] at e;subst e;exact⟨ρ,O,Le.refl,hs⟩
  .rename_i bb hk;exact vV a hs hi g (.inl hk) e
  .rename_i z hk;exact vV a hs hi g (.inr ⟨z,hk,rfl⟩) e
  .simp at e
 .simp at e
theorem OH{new i:Id}{k sz:Nat}{us:aE}(f:new.real=true)(hs:HS c w h ρ O)(e:nX h new i k sz=some us):∃ρ' O',Le w ρ O w ρ' O'/\HS c w (aG h us) ρ' O':=by
 unfold nX at e;cases hb:Nat.ble 100000 sz with
 | true=>rw [hb] at e;exact Pn f hs e
 | false=>
 rw [hb,cond_false] at e;split at e
 .rename_i cs hi;obtain⟨b,arr,t,h1,h2,h3,Q,h5⟩:=hs.af i _ hi;have R:∀{bb:Bool},h new=none->∀u,au w (AA c w O) (.aL bb) u->cr w (AA c w O) (aA ρ new (some u)) O new (.sl false sz bb []):=
   λ_ u hu=>⟨u,aB _ _ _,L6 hu,by simp⟩
  split at e
  .simp only [RJ] at e;subst e;exact⟨ρ,O,Le.refl,hs⟩
  .rename_i bb hk;exact vV f hs hi R (.inl hk) e
  .rename_i z hk;exact vV f hs hi R (.inr ⟨z,hk,rfl⟩) e
  .rename_i j sz' n hk;split at e
   .rename_i sz'' bb xs g;split at e
    .rename_i C;obtain⟨rfl,rfl,S⟩:=C;cases r:h new with
     | some x=>rw [r] at e;simp at e
     | none=>
      rw [r] at e;simp only [VQ,cond_true,RJ] at e;subst e;obtain⟨u,g1,N⟩:=Q.get hk;obtain⟨n1,n2⟩:=hs.bS new f r;have V:i≠new:=λe=>by rw [e,r] at hi;cases hi
      have W:j≠new:=λe=>by rw [e,r] at g;cases g
      obtain⟨v,M,⟨a,cap,rfl,f2,Z,_,I⟩,_⟩:=hs.af j _ g;simp only [ai] at N;obtain⟨a1,L,Y,p,H,d,e3,rfl,K⟩:=N;rw [M] at H;simp only [RJ,SX] at H;obtain⟨rfl,rfl,rfl⟩:=H;have y:(xs.take n).length=n:=by rw [SD];omega
      have ha:p=none↔a=none:=by
       rcases K with⟨_,rfl⟩ | ⟨_,h,_⟩ | ⟨_,_,rfl,rfl⟩
       .exact VK
       .exact h
       .simp
      have le:Le w ρ O w (aA ρ new (some (.slice p n (cap - 0)))) (aA (aA O j none) new (O j)):=by
       refine⟨rfl,rfl,rfl,R3 _,λk v hk=> ?_,λ_ _ _=>rfl,λk b hk=> ?_⟩
       .by_cases e:k=new
        .subst e;rw [n1] at hk;cases hk
        .rw [al _ _ e];exact hk
       .by_cases e:k=new
        .subst e;rw [aB] at hk;exact .inl ⟨j,hk⟩
        .rw [al _ _ e] at hk;by_cases d:k=j
         .subst d;rw [aB] at hk;cases hk
         .rw [al _ _ d] at hk;exact .inl ⟨k,hk⟩
      have q:∀k b,aA (aA O j none) new (O j) k=some b->(k=new/\O j=some b)\/(k≠new/\k≠j/\O k=some b):=by
       intro k b hk;by_cases e:k=new
       .subst e;rw [aB] at hk;exact .inl ⟨rfl,hk⟩
       .rw [al _ _ e] at hk;by_cases d:k=j
        .subst d;rw [aB] at hk;cases hk
        .rw [al _ _ d] at hk;exact .inr ⟨e,d,hk⟩
      refine⟨_,_,le, ?_⟩;rw [cw,cw,dB];have X:=hs.real (i:=i) (by rw [hi];simp);have F:=hs.real (i:=j) (by rw [g];simp);have gk:GK w ρ O w (aA ρ new (some (.slice p n (cap - 0)))) (aA (aA O j none) new (O j)):=λk m=>⟨al _ _ (aJ f),by rw [al _ _ (aJ f),al _ _ (aJ F)],λ_ _=>rfl⟩;refine hs.go le gk (λk x hk=> ?_) (λk U hk=> ?_) (λk hk=> ?_) (λk m=>by rw [al _ _ (aJ X),al _ _ (aJ f),al _ _ (aJ F)];exact hs.dc k m) (λk J b hk T=> ?_) (λk b hk=> ?_)
      .by_cases e:k=i
       .subst e;rw [aB] at hk;cases hk;right;refine⟨b,arr,t,le.dL _ _ h1,by rw [al _ _ V,al _ _ (VL S)];exact h2,h3,aw.set (aw.mono (λb hb=>le.A b hb) le.dL _ _ Q) g1 ?_,h5⟩;simp only [ai];exact aB _ _ _
       .rw [al _ _ e] at hk;by_cases d:k=new
        .subst d;rw [aB] at hk;cases hk;right;refine⟨_,aB _ _ _,⟨p,cap,by rw [y];rfl,by rw [y];omega,by rw [ha];exact Z,trivial, ?_⟩,by simp⟩;rcases I with I | ⟨af,off,G,t',q1,B,q3,q4,q5⟩
         .exact .inl I
         .by_cases E:cap=0
          .exact .inl E
          .right;subst q1;have:p=some ⟨af,off,none⟩:=by
            rcases K with⟨_,rfl⟩ | ⟨h,_⟩ | ⟨b',o,e5,rfl⟩
            .rfl
            .exact absurd h.symm E
            .simp only [RJ,SL] at e5;obtain⟨rfl,rfl,_⟩:=e5;simp
           refine⟨af,off,G,t',this, ?_,q3,q4,(aR.mO (λb hb=>le.A b hb) af _ rfl off xs q5).take n⟩;simp only [R9,if_false] at B⊢;rw [aB];exact B
        .rw [al _ _ d] at hk;by_cases e3:k=j
         .subst e3;rw [aB] at hk;cases hk;exact .inr ⟨⟨_,le.dL _ _ M,rfl,rfl⟩,by rw [al _ _ W,aB]⟩
         .rw [al _ _ e3] at hk;exact .inl ⟨hk,by rw [al _ _ d,al _ _ e3],λ_ _=>rfl⟩
      .by_cases e:k=i
       .subst e;rw [aB] at hk;cases hk
       .rw [al _ _ e] at hk;by_cases d:k=new
        .subst d;rw [aB] at hk;cases hk
        .rw [al _ _ d] at hk;by_cases e3:k=j
         .subst e3;rw [aB] at hk;cases hk
         .rw [al _ _ e3] at hk;rw [al _ _ d,al _ _ d,al _ _ e3];exact hs.bS k U hk
      .by_cases e:k=i
       .subst e;rw [aB] at hk;cases hk
       .rw [al _ _ e] at hk;by_cases d:k=new
        .subst d;rw [aB] at hk;cases hk
        .rw [al _ _ d] at hk;by_cases e3:k=j
         .subst e3;rw [aB] at hk;cases hk
         .rw [al _ _ e3] at hk;exact hk
      .rcases q k b hk with⟨rfl,l⟩ | ⟨p0,l,D⟩ <;> rcases q J b T with⟨rfl,q1⟩ | ⟨q0,q1,B⟩
       .rfl
       .exact(q1 (hs.inj J j b B l)).elim
       .exact(l (hs.inj k j b D q1)).elim
       .exact hs.inj k J b D B
      .rcases q k b hk with⟨rfl,l⟩ | ⟨p0,l,D⟩
       .exact hs.lt j b l
       .exact hs.lt k b D
    .simp at e
   .simp at e
  .simp at e
 .simp at e
theorem Pm{new i x:Id}{k sz ax rsz:Nat}{us:aE}(e:qV h new i k sz ax rsz=some us)(a:h x=none)(hn:x≠new):aG h us x=none:=by
 unfold qV at e;split at e
 .rename_i cs hi;have g:x≠i:=λe=>by rw [e,hi] at a;cases a
  have d:∀{b:Bool},(cond (h new).isNone (some [(new,ab.rows b sz ax rsz 0 []),(i,ab.box (cs.set k (.own new)))]) none)=some us->aG h us x=none:=by
   intro b e;cases f:(h new).isNone with
   | false=>rw [f] at e;simp at e
   | true=>rw [f] at e;simp only [cond_true,RJ] at e;subst e;rw [cw,dB,al _ _ g,al _ _ hn];exact a
  split at e
  .simp only [RJ] at e;subst e;exact a
  .exact d e
  .exact d e
  .simp at e
 .simp at e
theorem OG{new i x:Id}{k sz:Nat}{us:aE}(e:nX h new i k sz=some us)(a:h x=none)(hn:x≠new):aG h us x=none:=by
 unfold nX at e;cases hb:Nat.ble 100000 sz with
 | true=>rw [hb] at e;exact Pm e a hn
 | false=>
 rw [hb,cond_false] at e;split at e
 .rename_i cs hi;have g:x≠i:=λe=>by rw [e,hi] at a;cases a
  have f:∀{b:Bool},(cond (h new).isNone (some [(new,ab.sl false sz b []),(i,ab.box (cs.set k (.own new)))]) none)=some us->aG h us x=none:=by
   intro b e;cases d:(h new).isNone with
   | false=>rw [d] at e;simp at e
   | true=>rw [d] at e;simp only [cond_true,RJ] at e;subst e;rw [cw,dB,al _ _ g,al _ _ hn];exact a
  split at e
  .simp only [RJ] at e;subst e;exact a
  .exact f e
  .exact f e
  .rename_i j p n hk;split at e
   .rename_i o bb xs l;have m:x≠j:=λe=>by rw [e,l] at a;cases a
    split at e
    .cases d:(h new).isNone with
     | false=>rw [d] at e;simp at e
     | true=>rw [d] at e;simp only [cond_true,RJ] at e;subst e;rw [cw,cw,dB,al _ _ g,al _ _ hn,al _ _ m];exact a
    .simp at e
   .simp at e
  .simp at e
 .simp at e
theorem AX{o:Nat}:∀{l:List (Id×Nat×Nat)} {j:Nat} {h:Id->Option ab} {ρ:Id->Option Value} {O:Id->Option Nat} {us:aE},HS c w h ρ O->jt o j h l=some us->∃ρ' O',Le w ρ O w ρ' O'/\HS c w (aG h us) ρ' O'
 | [],j,h,ρ,O,us,hs,e=>by simp only [jt,RJ] at e;subst e;exact⟨ρ,O,Le.refl,hs⟩
 | (i,k,sz)::l,j,h,ρ,O,us,hs,e=>by simp only [jt] at e;obtain⟨r,m,e⟩:=RK.1 e;obtain⟨u2,n,e⟩:=RK.1 e;simp only [RJ] at e;subst e;obtain⟨p,q,cn,a⟩:=OH rfl hs m;obtain⟨f,g,d,b⟩:=AX a n;exact⟨f,g,cn.trans d,by rw [lp];exact b⟩
theorem HF{b:Nat}{x:Id}(hn:∀k,x≠ .s b k):∀{l:List (Id×Nat×Nat)} {j:Nat} {h:Id->Option ab} {us:aE},jt b j h l=some us->h x=none->aG h us x=none
 | [],j,h,us,e,a=>by simp only [jt,RJ] at e;subst e;exact a
 | (i,k,sz)::l,j,h,us,e,a=>by simp only [jt] at e;obtain⟨g,d,e⟩:=RK.1 e;obtain⟨u2,f,e⟩:=RK.1 e;simp only [RJ] at e;subst e;rw [lp];exact HF hn f (OG d a (hn j))
end
open Go Go.IntKind
section
variable {P:Program} {w w':World} {A A':Nat->Prop} {c:Ctx} {ρ:Id->Option Value} {O:Id->Option Nat} {s:St} {cc:Option Bool} {h:Id->Option ab}
theorem wR{k:Ck}{x:T}(hk:de k x=true):au w A x (cR x):=by cases x <;> cases k <;> simp_all [de,au,cR]
theorem AQ:∀{ks:List Ck} {xs:List T},bL ks xs=true->aO w A xs (xs.map cR)
 | [],[],_=>rfl
 | k::ks,x::xs,hk=>by simp only [bL,RQ] at hk;exact⟨_,_,rfl,wR hk.1,AQ hk.2⟩
 | [],_::_,hk=>by simp [bL] at hk
 | _::_,[],hk=>by simp [bL] at hk
theorem AP:∀{ks:List Ck} {xs:List T},bL ks xs=true->xs.length=ks.length
 | [],[],_=>rfl
 | k::ks,x::xs,hk=>by simp only [bL,RQ] at hk;simp [AP hk.2]
 | [],_::_,hk=>by simp [bL] at hk
 | _::_,[],hk=>by simp [bL] at hk
theorem xO{R:Type}{k:Ck}{x:T}{v:Value}{K:T->Option R}{r:R}(a:cc=none\/cc=some true)(hs:lZ k=true)(hr:au w A x v)(h:ez k cc x K=some r):
  ∃y,K y=some r/\de k y=true/\v=cR y:=by
 unfold ez at h;cases k with
 | i k=>simp only at h;replace h:=aI h a;obtain⟨n,hn,h⟩:=h;rw [T.fA hn] at hr;exact⟨_,h,by simp [de],by simpa [au,cR] using hr⟩
 | b=>simp only at h;replace h:=aI h a;obtain⟨n,hn,h⟩:=h;rw [T.ik hn] at hr;exact⟨_,h,by simp [de],by simpa [au,cR] using hr⟩
 | s=>simp only at h;replace h:=aI h a;obtain⟨n,hn,h⟩:=h;rw [T.jB hn] at hr;exact⟨_,h,by simp [de],by simpa [au,cR] using hr⟩
 | l _=>simp [lZ] at hs
 | x=>simp [lZ] at hs
theorem BU{R:Type}(b:cc=none\/cc=some true):∀{ks:List Ck} {xs:List T} {vs:List Value} {K:List T->Option R} {r:R},ks.all lZ=true->xs.length=ks.length->aO w A xs vs->dY cc ks xs K=some r->
  ∃a,K a=some r/\bL ks a=true/\vs=a.map cR
 | [],[],vs,K,r,_,_,hr,h=>⟨[],h,rfl,by simpa [aO] using hr⟩
 | [],_::_,vs,K,r,_,hl,hr,h=>by simp at hl
 | _::_,[],vs,K,r,_,hl,hr,h=>by simp at hl
 | k::ks,x::xs,vs,K,r,hs,hl,hr,h=>by obtain⟨v,q,rfl,h1,i⟩:=hr;simp only [Tu,RQ] at hs;simp only [dY] at h;obtain⟨y,h,d,e⟩:=xO b hs.1 h1 h;obtain⟨a,h,f,g⟩:=BU b hs.2 (by simpa using hl) i h;exact⟨y::a,h,by simp [bL,d,f],by rw [e,g];rfl⟩
theorem F8{k:TypeId}{q:Bool×List Ck}(h:jW P k=some q):q.2.all lZ=true/\(q.1=false->q.2.length=1):=by
 unfold jW at h;split at h
 .simp only [RJ] at h;subst h;simp [lZ]
 .simp only [RJ] at h;subst h;simp [lZ]
 .split at h
  .split at h
   .simp only [RJ] at h;subst h;refine⟨?_,by simp⟩;rw [R7];intro b a;rw [T1 a];rfl
   .cases h
  .cases h
 .cases h
theorem Ai{R:Type}{k:TypeId}{v:AV}{u:Value}{K:Bool->List Ck->List T->Option R}{r:R}(i:cc=none\/cc=some true)(hv:ai w A ρ v u)(h:nL P k cc v K=some r):
  ∃ag ks cs,K ag ks cs=some r/\jW P k=some (ag,ks)/\bL ks cs=true/\u=cu ag cs:=by
 unfold nL at h;obtain⟨q,f,h⟩:=RK.1 h;obtain⟨q1,j⟩:=q;have a:=F8 f;simp only at h a;split at h
 .rename_i x _;obtain⟨g,h,b,d⟩:=BU (vs:= [u]) i a.1 (by simpa using (a.2 rfl).symm) (show aO w A [x] [u] from⟨u,[],rfl,by simpa [ai] using hv,rfl⟩) h;refine⟨false,j,g,h,f,b, ?_⟩;unfold cu;rw [<-d];rfl
 .rename_i vs _;obtain⟨l,hl,h⟩:=RK.1 h;split at h
  .rename_i e;simp only [ai] at hv;obtain⟨n,rfl,h1,m⟩:=hv;obtain⟨g,h,b,d⟩:=BU i a.1 e (aO.kT hl h1) h;refine⟨true,j,g,h,f,b, ?_⟩;unfold cu;rw [d];rfl
  .cases h
 .cases h
theorem Kf{a b:ByteArray}(e:(a==b)=true):a=b:=by
 cases a with
 | mk x=>cases b with
  | mk y=>have d:(x==y)=true:=e;rw [eq_of_beq d]
theorem MA{k:Ck}{x y:T}(a:de k x=true)(hy:de k y=true)(e:mD x y=true):x=y:=by
 cases x <;> cases k <;> simp [de] at a <;> cases y <;> simp [de] at hy <;> simp [mD] at e
 .subst a;subst hy;subst e;rfl
 .subst e;rfl
 .rw [Kf e]
theorem Fi:∀{ks:List Ck} {xs b:List T},bL ks xs=true->bL ks b=true->dt xs b=true->xs=b
 | [],[],[],_,_,_=>rfl
 | k::ks,x::xs,y::b,a,hy,e=>by simp only [bL,RQ] at a hy;simp only [dt,RQ] at e;rw [MA a.1 hy.1 e.1,Fi a.2 hy.2 e.2]
 | [],_::_,_,a,_,_=>by simp [bL] at a
 | [],[],_::_,_,hy,_=>by simp [bL] at hy
 | _::_,[],_,a,_,_=>by simp [bL] at a
 | _::_,_::_,[],_,hy,_=>by simp [bL] at hy
theorem Mx{t:TypeId}{i:IntKind}(b:P.underlying t=some (.int i)){x y:T}(a:de (.i i) x=true)(hy:de (.i i) y=true){R:Type}(K:Bool->Option R):kO P none t x y K=K (mD x y):=by cases x <;> simp [de] at a;cases y <;> simp [de] at hy;subst a;subst hy;simp [kO,b,aa,T.int?,mD]
theorem Ff{e:TypeId}{i:IntKind}(d:P.underlying e=some (.int i)){R:Type}:∀(n:Nat) (xs b:List T) (K:Bool->Option R),bL (List.replicate n (.i i)) xs=true->bL (List.replicate n (.i i)) b=true->dF P none (List.replicate n e) xs b K=K (dt xs b)
 | 0,[],[],K,_,_=>rfl
 | n+1,x::xs,y::b,K,a,hy=>by simp only [Sv,bL,RQ] at a hy;simp only [Sv,dF,dt];rw [Mx d a.1 hy.1,Ff d n xs b _ a.2 hy.2]
 | 0,_::_,_,_,a,_=>by simp [bL] at a
 | 0,[],_::_,_,_,hy=>by simp [bL] at hy
 | n+1,[],_,_,a,_=>by simp [Sv,bL] at a
 | n+1,_::_,[],_,_,hy=>by simp [Sv,bL] at hy
theorem sA{ag:Bool}{ks:List Ck}{cs:List T}(b:ag=false->ks.length=1)(h:bL ks cs=true)(a:ag=false):∃x,cs= [x]/\cu ag cs=cR x:=by have hl:=AP h;rw [b a] at hl;obtain⟨x,rfl⟩:=List.length_eq_one_iff.1 hl;exact⟨x,rfl,by rw [a];rfl⟩
theorem MB{k:TypeId}{ag:Bool}{ks:List Ck}(hk:jW P k=some (ag,ks)){a b:List T}(f:bL ks a=true)(hb:bL ks b=true)(w:World):
  (Op.equal k (cu ag a) (cu ag b)).run P w= .ok (dt a b) w:=by
 unfold jW at hk;split at hk
 .rename_i i g;simp only [RJ,SA] at hk;obtain⟨rfl,rfl⟩:=hk;obtain⟨x,rfl,m⟩:=sA (ag:=false) (by simp) f rfl;obtain⟨y,rfl,o⟩:=sA (ag:=false) (by simp) hb rfl;rw [m,o];simp only [bL,U7] at f hb;have key:∀d (p q:Int),(Op.equalIn (d+1) k (.int i p) (.int i q)).run P w= .ok (p==q) w:=λd p q=>by simp [Op.equalIn,run_underlying g]
  cases x <;> simp [de] at f;cases y <;> simp [de] at hb;rename_i C q1;subst f;subst hb;rw [show ∀a b:T,dt [a] [b]=mD a b from λa b=>by simp [dt]];exact key 9999 _ _
 .rename_i g;simp only [RJ,SA] at hk;obtain⟨rfl,rfl⟩:=hk;obtain⟨x,rfl,m⟩:=sA (ag:=false) (by simp) f rfl;obtain⟨y,rfl,o⟩:=sA (ag:=false) (by simp) hb rfl;rw [m,o];simp only [bL,U7] at f hb;cases x <;> simp [de] at f;cases y <;> simp [de] at hb;rename_i p q;have:∀d,(Op.equalIn (d+1) k (.string p) (.string q)).run P w= .ok (p==q) w:=λd=>by simp [Op.equalIn,run_underlying g]
  rw [show ∀a b:T,dt [a] [b]=mD a b from λa b=>by simp [dt]];exact this 9999
 .rename_i n e g;split at hk
  .rename_i i j;split at hk
   .rename_i l;simp only [RJ,SA] at hk;obtain⟨rfl,rfl⟩:=hk;have z:eN P 7 e=some [e]:=by simp [eN,j]
    have v:eN P 8 k=some (List.replicate n e):=by
     simp only [eN,g,j,R2,Vx,l.1,if_true];congr 1;induction n with
     | zero=>rfl
     | succ n B=>simp [Sv]
    obtain⟨bb,r,u⟩:=zO (P:=P) (w:=w) (A:=λ_=>True) 8 k _ v 10000 (by omega) Bool none (.inl rfl) a b (a.map cR) (b.map cR) (λb=>some b) _ (AQ f) (AQ hb) (Ff j n a b _ f hb);have t:be P k=true:=by simp [be,g]
    simp only [RJ] at r;subst r;simpa [jC,t,cu,Op.equal,Op.maxDepth] using u
   .cases hk
  .cases hk
 .cases hk
theorem vP{k:TypeId}{ag:Bool}{ks:List Ck}(hk:jW P k=some (ag,ks)){a:List T}(o:bL ks a=true)(w:World):∀(b:List MapEntry) (es:List (List T×T)) (j:Nat),b.map (λe=>(e.key,e.val))=es.map (λp=>(cu ag p.1,cR p.2))->(∀p∈es,bL ks p.1=true)->
  ((Instr.findAsking k (cu ag a) b j).run P w= .ok none w/\fW a es=none)\/∃i x e p,(Instr.findAsking k (cu ag a) b j).run P w= .ok (some (j+i,cR x)) w/\fW a es=some x/\b[i]? =some e/\es[i]? =some p/\dt a p.1=true/\(∀i' g,i' < i->es[i']? =some g->dt a g.1=false)
 | [],[],j,_,_=> .inl ⟨by simp [Instr.findAsking],rfl⟩
 | [],_::_,j,h,_=>by simp at h
 | _::_,[],j,h,_=>by simp at h
 | e::b,(q,x)::es,j,h,l=>by
  simp only [Se,TJ,SA] at h;obtain⟨⟨h1,D⟩,E⟩:=h;have d:=MB hk o (l _ RL) w;simp only at d;cases hb:dt a q
  .rw [hb] at d;rcases vP hk o w b es (j+1) E (λp F=>l p (RM _ F)) with⟨m,n⟩ | ⟨i,y,u,g,m,n,v,z,B,C⟩
   .exact .inl ⟨by simp [Instr.findAsking,h1,d,m],by simp [fW,hb,n]⟩
   .refine .inr ⟨i+1,y,u,g,by simp [Instr.findAsking,h1,d,m];omega,by simp [fW,hb,n],by simpa using v,by simpa using z,B, ?_⟩;intro i' t r f;cases i' with
    | zero=>simp at f;subst f;exact hb
    | succ i'=>exact C i' t (by omega) (by simpa using f)
  .rw [hb] at d;exact .inr ⟨0,x,e,(q,x),by simp [Instr.findAsking,h1,d,D],by simp [fW,hb],rfl,rfl,hb,λi' _ r=>by omega⟩
theorem H5{f:Nat->Sem Unit}:∀(l:List Nat),(∀i∈l,(f i).run P w= .ok () w)->(forIn l PUnit.unit λi _=>do f i;pure (ForInStep.yield PUnit.unit)).run P w= .ok PUnit.unit w
 | [],_=>by simp
 | i::l,h=>by simp only [List.forIn_cons,R6,h i RL,RT,Sf];have:=H5 (f:=f) l λj a=>h j (RM _ a);simpa using this
theorem y7{k:TypeId}{ag:Bool}{ks:List Ck}(hk:jW P k=some (ag,ks)){a:List T}(o:bL ks a=true)(em:Bool)(w:World):
  (Instr.checkKey em 10000 k (cu ag a)).run P w= .ok () w:=by
 unfold jW at hk;split at hk
 .rename_i i f;have:∀d,(Instr.checkKey em (d+1) k (cu ag a)).run P w= .ok () w:=λd=>by simp [Instr.checkKey,run_underlying f]
  exact this 9999
 .rename_i f;have:∀d,(Instr.checkKey em (d+1) k (cu ag a)).run P w= .ok () w:=λd=>by simp [Instr.checkKey,run_underlying f]
  exact this 9999
 .rename_i n e f;split at hk
  .rename_i i g;split at hk
   .rename_i b;simp only [RJ,SA] at hk;obtain⟨rfl,rfl⟩:=hk;have l:bB P e=true:=by simp [bB,g]
    have r:be P e=false:=by simp [be,g]
    have hl:=AP o;rw [S0] at hl;have one:∀d v,(Instr.checkKey em (d+1) e v).run P w= .ok () w:=λd v=>by simp [Instr.checkKey,run_underlying g]
    have q:∀d,∀j∈List.range' 0 n 1,(do Instr.checkKey em (d+1) e (<-part e (a.map cR).toArray (j * (<-sizeOf e)))).run P w= .ok () w:=by
     intro d j m;have m:j < n:=by simpa using m
     have:=tf (P:=P) l (a.map cR).toArray (j * 1) (λ_=>b.1) (by simp [b.1,hl];omega) w;simp only [R6,iB l,RT,b.1,this,one d]
    have p:∀d,(Instr.checkKey em (d+2) k (cu true a)).run P w= .ok () w:=by intro d;have:=H5 (P:=P) (w:=w) _ (q d);rw [Instr.checkKey];simp only [cu,cond_true,R6,run_underlying f,RT];simp only [Std.Legacy.Range.forIn_eq_forIn_range',Std.Legacy.Range.size,Te,Nat.add_one_sub_one,Nat.div_one];simp at this;simp [this]
    exact p 9998
   .cases hk
  .cases hk
 .cases hk
theorem Fp{f:TypeId}{d:TypeDesc}(a:P.underlying f=some d)(k:Value):∀(es:List MapEntry) (j:Nat) (r:Option (Nat×Value)),Instr.findNow d k es j=some r->(Instr.findAsking f k es j).run P w= .ok r w
 | [],j,r,h=>by simp [Instr.findNow] at h;subst h;simp [Instr.findAsking]
 | e::es,j,r,h=>by
  have key:∀b,Instr.sameNow d k e.key=some b->(Op.equal f k e.key).run P w= .ok b w:=by
   intro b hb;generalize e.key=g at hb⊢;have:∀n,(Op.equalIn (n+1) f k g).run P w= .ok b w:=by
    intro n;unfold Instr.sameNow at hb;split at hb
    .split at hb
     .rename_i h1;simp only [RJ] at hb;subst hb;subst h1;simp [Op.equalIn,run_underlying a]
     .cases hb
    .simp only [RJ] at hb;subst hb;simp [Op.equalIn,run_underlying a]
    .simp only [RJ] at hb;subst hb;simp [Op.equalIn,run_underlying a]
    .cases hb
   exact this 9999
  simp only [Instr.findNow] at h;split at h
  .rename_i hb;simp only [RJ] at h;subst h;simp [Instr.findAsking,key _ hb]
  .rename_i hb;simp [Instr.findAsking,key _ hb,Fp a k es (j+1) r h]
  .cases h
theorem qp{a:TypeId}{d:TypeDesc}(b:P.underlying a=some d)(k:Value)(es:List MapEntry)(r:Option (Nat×Value))(h:(Instr.findAsking a k es 0).run P w= .ok r w):(Instr.findKey a k es).run P w= .ok r w:=by
 unfold Instr.findKey;simp only [R6,run_underlying b,RT];cases hn:Instr.findNow d k es 0 with
 | none=>simpa using h
 | some e=>have:=Fp (w:=w) b k es 0 e hn;rw [this] at h;simpa using h
theorem Aj{k:TypeId}{q:Bool×List Ck}(h:jW P k=some q):∃d,P.underlying k=some d:=by
 unfold jW at h;split at h
 .exact⟨_,by assumption⟩
 .exact⟨_,by assumption⟩
 .exact⟨_,by assumption⟩
 .cases h
theorem Au{t:TypeId}{q:TypeId×TypeId}(h:qJ P t=some q):P.underlying t=some (.map q.1 q.2):=by
 unfold qJ at h;split at h
 .rename_i k e b;cases a:bB P k && bB P e
  .simp [a] at h
  .simp only [a,cond_true,RJ] at h;subst h;exact b
 .cases h
theorem RA{t:TypeId}{z:T}(h:B5 P t=some z):∃v,(zeroValue t).run P w= .ok v w/\au w A z v:=by
 unfold B5 at h;split at h
 .rename_i i hi;split at h
  .rename_i v hv;refine⟨v, ?_,Hh h⟩;simp [zeroValue,typeInfo,run_program,hi,hv]
  .cases h
 .cases h
theorem AD{i:Id}{ag:Bool}{ks:List Ck}{vk:Ck}{es:List (List T×T)}(hs:HS c w s.h ρ O)(hi:s.h i=some (.mp ag ks vk es)):∃b d a,ρ i=some (.map (some b))/\O i=some b/\w.heap[b]? =some (.map d a)/\
   d.toList.map (λe=>(e.key,e.val))=es.map (λp=>(cu ag p.1,cR p.2))/\(∀p∈es,bL ks p.1=true/\de vk p.2=true):=by
 obtain⟨b,d,a,h1,f,g,j,k⟩:=hs.af i _ hi;exact⟨b,d,a,h1,f,g,j,λp l=>by simpa using R7.1 k p l⟩
theorem Fo{a:List T}:∀{es:List (List T×T)} {x:T},fW a es=some x->∃p∈es,p.2=x
 | [],x,h=>by simp [fW] at h
 | (k,v)::r,x,h=>by
  simp only [fW] at h;cases hb:dt a k
  .rw [hb,cond_false] at h;obtain⟨p,b,e⟩:=Fo h;exact⟨p,RM _ b,e⟩
  .rw [hb,cond_true] at h;simp only [RJ] at h;exact⟨_,RL,h⟩
theorem NB{R:Type}{t:TypeId}{x key:AV}{ok:Bool}{T vk:Value}{K:AV->Option R}{r:R}(hs:HS c w s.h ρ O)(m:ai w (AA c w O) ρ x T)(G:ai w (AA c w O) ρ key vk)(F:cc=none\/cc=some true)
  (h:mM P s cc t x key ok K=some r):∃av v,K av=some r/\(Instr.lookup t T vk ok).run P w= .ok v w/\ai w (AA c w O) ρ av v:=by
 unfold mM at h;obtain⟨q,Z,h⟩:=RK.1 h;obtain⟨z,hz,h⟩:=RK.1 h;obtain⟨ag,ks,cs,h,g,o,rfl⟩:=Ai F G h;split at h
 .rename_i i;split at h
  .rename_i ag' ks' S es hi;split at h
   .rename_i l;obtain⟨rfl,rfl,hvk,B,_⟩:=l;obtain⟨b,a,U,W,g2,H,X,I⟩:=AD hs hi;simp only [ai] at m;rw [W] at m;simp only [RJ] at m;subst m;obtain⟨zv,N,Q⟩:=RA (w:=w) (A:=AA c w O) hz;obtain⟨d,J⟩:=Aj g;have M:=Au Z;have n:=y7 g o a.isEmpty w;rcases vP g o w a.toList es 0 X (λp Y=>(I p Y).1) with⟨E,k⟩ | ⟨j,y,e,p,E,k,f3,f4,f5,f6⟩
    .have f:=qp J _ _ _ E;rw [k] at h;simp only [Option.getD_none,Option.isSome_none] at h;obtain⟨u,h,C,D⟩:=xO F B Q h;refine⟨_,cond ok (.tuple #[zv, .bool false]) zv,h, ?_, ?_⟩
     .cases ok <;> simp [Instr.lookup,run_underlying M,TO H,n,f,N]
     .have:au w (AA c w O) u zv:=by rw [D];exact wR C
      cases ok
      .simpa [ai] using this
      .simp only [cond_true,ai];exact⟨[zv, .bool false],rfl,by simp only [aw,ai];exact⟨zv,[.bool false],rfl,this, .bool false,[],rfl,by simp [au],rfl⟩⟩
    .have f:=qp J _ _ _ E;rw [k] at h;simp only [SJ,Option.isSome_some] at h;obtain⟨p',L,V⟩:=Fo k;have hy:de S y=true:=by rw [<-V];exact(I p' L).2
     obtain⟨u,h,C,D⟩:=xO F B (wR (w:=w) (A:=AA c w O) hy) h;refine⟨_,cond ok (.tuple #[cR y, .bool true]) (cR y),h, ?_, ?_⟩
     .cases ok <;> simp [Instr.lookup,run_underlying M,TO H,n,f]
     .have:au w (AA c w O) u (cR y):=by rw [D];exact wR C
      cases ok
      .simpa [ai] using this
      .simp only [cond_true,ai];exact⟨[cR y, .bool true],rfl,by simp only [aw,ai];exact⟨cR y,[.bool true],rfl,this, .bool true,[],rfl,by simp [au],rfl⟩⟩
   .cases h
  .cases h
 .cases h
theorem Kg(a:ByteArray):(a==a)=true:=by
 cases a with
 | mk x=>show(x==x)=true;simp
theorem Ip{k:Ck}{x:T}(h:de k x=true)(n:Nat):Instr.sameBits n (cR x) (cR x)=true:=by cases x <;> cases k <;> simp [de] at h <;> cases n <;> simp [Instr.sameBits,cR,Kg]
theorem PZ{ag:Bool}{ks:List Ck}(a:ag=false->ks.length=1){cs:List T}(h:bL ks cs=true)(n:Nat):Instr.sameBits (n+1) (cu ag cs) (cu ag cs)=true:=by
 cases ag with
 | false=>
  obtain⟨x,rfl,e⟩:=sA a h rfl;rw [e];cases ks with
  | nil=>simp [bL] at h
  | cons k ks=>simp only [bL,RQ] at h;exact Ip h.1 _
 | true=>
  simp only [cu,cond_true,Instr.sameBits,beq_self_eq_true,U9];clear a;induction ks generalizing cs with
  | nil=>cases cs with
   | nil=>rfl
   | cons x cs=>simp [bL] at h
  | cons k ks b=>cases cs with
   | nil=>simp [bL] at h
   | cons x cs=>simp only [bL,RQ] at h;have:=b h.2;simp only [Se,List.zip_cons_cons,Tu,Ip h.1,U9];simpa using this
theorem Qh{ag:Bool}{ks:List Ck}(a:ag=false->ks.length=1){cs:List T}(h:bL ks cs=true):(Instr.keyThatStays (cu ag cs) (cu ag cs)).run P w= .ok (cu ag cs) w:=by unfold Instr.keyThatStays;have:Instr.sameBits 10000 (cu ag cs) (cu ag cs)=true:=PZ a h 9999;simp [this]
theorem HM{a:List T}{v:T}:∀{es:List (List T×T)},fW a es=none->gf a v es=es++ [(a,v)]
 | [],_=>rfl
 | (k,x)::r,h=>by
  simp only [fW] at h;cases hb:dt a k
  .rw [hb,cond_false] at h;simp [gf,hb,HM h]
  .simp [hb] at h
theorem HN{a:List T}{v:T}:∀{es:List (List T×T)} {i:Nat} {p:List T×T},es[i]? =some p->dt a p.1=true->(∀i' b,i' < i->es[i']? =some b->dt a b.1=false)->gf a v es=es.set i (a,v)
 | [],i,p,h,_,_=>by simp at h
 | (k,x)::r,0,p,h,h1,_=>by simp at h;subst h;simp only at h1;simp [gf,h1]
 | (k,x)::r,i+1,p,h,h1,d=>by have hb:dt a k=false:=d 0 (k,x) (by omega) rfl;have:=HN (v:=v) (es:=r) (i:=i) (p:=p) (by simpa using h) h1 λi' b hi e=>d (i'+1) b (by omega) (by simpa using e);simp [gf,hb,this]
theorem A3{ks:List Ck}{vk:Ck}{a:List T}{v:T}(d:bL ks a=true)(hv:de vk v=true):∀{es:List (List T×T)},(∀p∈es,bL ks p.1=true/\de vk p.2=true)->∀p∈gf a v es,bL ks p.1=true/\de vk p.2=true
 | [],_,p,b=>by simp [gf] at b;subst b;exact⟨d,hv⟩
 | (k,x)::r,h,p,b=>by
  simp only [gf] at b;cases hb:dt a k
  .rw [hb,cond_false] at b;rcases RV.1 b with rfl | b
   .exact h _ RL
   .exact A3 d hv (λq e=>h q (RM _ e)) p b
  .rw [hb,cond_true] at b;rcases RV.1 b with rfl | b
   .exact⟨d,hv⟩
   .exact h p (RM _ b)
theorem HS.xZ{i:Id}{b:Nat}{f ents':Array MapEntry}{d clock':Nat}{ag:Bool}{ks:List Ck}{vk:Ck}{es':List (List T×T)}{j:Id->Option ab}(hs:HS c w j ρ O)(hi:j i≠none)
  (m:ρ i=some (.map (some b))) (g:O i=some b) (l:w.heap[b]? =some (.map f d)) (n:ents'.toList.map (λe=>(e.key,e.val))=es'.map (λp=>(cu ag p.1,cR p.2))) (o:∀p∈es',bL ks p.1=true/\de vk p.2=true):
  Le w ρ O {w with heap:=w.heap.setIfInBounds b (.map ents' clock')} ρ O/\HS c {w with heap:=w.heap.setIfInBounds b (.map ents' clock')} (aA j i (some (.mp ag ks vk es'))) ρ O:=by
 have a:∀k,k≠b->(w.heap.setIfInBounds b (.map ents' clock'))[k]? =w.heap[k]?:=λk hk=>Go.ChangeMaps.heap_setBlock_other l _ hk;have le:Le w ρ O {w with heap:=w.heap.setIfInBounds b (.map ents' clock')} ρ O:=Le.write g rfl rfl rfl (by simp) a;refine⟨le,hs.write g le a _ ?_ hi⟩;exact⟨b,ents',clock',m,g,Go.ChangeMaps.heap_setBlock_same l _,n,by rw [R7];exact λp q=>by simpa using o p q⟩
theorem OU{R:Type}{t:TypeId}{x key v:AV}{vx vk vv:Value}{K:aE->Option R}{r:R}(hs:HS c w s.h ρ O)(F:ai w (AA c w O) ρ x vx)(Q:ai w (AA c w O) ρ key vk)(hv:ai w (AA c w O) ρ v vv)
  (h:mS P s t x key v K=some r):∃us w',K us=some r/\(Instr.mapUpdate t vx vk vv).run P w= .ok () w'/\Le w ρ O w' ρ O/\HS c w' (aG s.h us) ρ O:=by
 unfold mS at h;obtain⟨q,hq,h⟩:=RK.1 h;obtain⟨ag,ks,cs,h,n,g,rfl⟩:=Ai (cc:=none) (.inl rfl) Q h;split at h
 .rename_i i;split at h
  .rename_i f I J es hi;split at h
   .rename_i E;obtain⟨rfl,rfl,hvk,hsc⟩:=E;obtain⟨y,hy,h⟩:=RK.1 h;rw [AV.lf hy] at hv;simp only [ai] at hv;obtain⟨u,h,T,U⟩:=xO (cc:=none) (.inl rfl) hsc hv h;obtain⟨b,a,l,N,Y,o,C,D⟩:=AD hs hi;simp only [ai] at F;rw [N] at F;simp only [RJ] at F;subst F;obtain⟨d,hd⟩:=Aj n;have hu:=Au hq;have G:=y7 n g false w;have Z:=(F8 n).2;rcases vP n g w a.toList es 0 C (λp hp=>(D p hp).1) with⟨L,V⟩ | ⟨j,y',e,p,L,V,M,B,X,f6⟩
    .have m:=qp hd _ _ _ L;obtain⟨le,z⟩:=HS.xZ (ag:=f) (ks:=I) (vk:=J) (es':=gf cs u es) (ents':=a.push {key:=cu f cs,val:=vv,born:=l}) (clock':=l+1) hs (by rw [hi];simp) N Y o
      (by rw [HM V];simp [C,U]) (A3 g T D)
     refine⟨_,_,h, ?_,le,z⟩;simp [Instr.mapUpdate,run_underlying hu,TO o,G,m,UR _ o]
    .have m:=qp hd _ _ _ L;have hlt:j < es.length:=(RS.1 B).1;have hpk:p.1=cs:=(Fi g (D p (RN B)).1 X).symm;have hek:e.key=cu f cs:=by
      have h1:(a.toList.map λe=>(e.key,e.val))[j]? =some (e.key,e.val):=by simp [Sp,M]
      rw [C] at h1;simp only [Sp,B,TZ,RJ,SA] at h1;rw [<-h1.1,hpk]
     have S:(a.modify j λe=>{e with key:=cu f cs,val:=vv}).toList.map (λe=>(e.key,e.val))= (gf cs u es).map (λp=>(cu f p.1,cR p.2)):=by
      rw [HN B X f6];refine T7 λk=> ?_;have H:(a.toList.map λe=>(e.key,e.val))[k]? = (es.map λp=>(cu f p.1,cR p.2))[k]?:=by rw [C]
      simp only [Sp,Array.toList_modify,List.getElem?_modify,SW] at H⊢;by_cases e0:j=k
      .subst e0;simp [M,hlt,U]
      .simp only [e0,if_false];simpa using H
     obtain⟨le,z⟩:=HS.xZ (ag:=f) (ks:=I) (vk:=J) (es':=gf cs u es) (ents':=a.modify j λe=>{e with key:=cu f cs,val:=vv}) (clock':=l) hs (by rw [hi];simp) N Y o S (A3 g T D);refine⟨_,_,h, ?_,le,z⟩;have hst:=Qh (P:=P) (w:=w) Z g;have W:a[j]? =some e:=by simpa using M
     rw [Sn] at m;simp [Instr.mapUpdate,run_underlying hu,TO o,G,m,W,hek,hst,UR _ o]
   .cases h
  .cases h
 .cases h
theorem DN{a:List T}:∀{es:List (List T×T)},fW a es=none->iq a es=es
 | [],_=>rfl
 | p::es,h=>by
  unfold fW at h;unfold iq;cases b:dt a p.1 with
  | true=>rw [b] at h;simp at h
  | false=>rw [b] at h;simp only [cond_false] at h⊢;rw [DN h]
theorem DM{a:List T}:∀{es:List (List T×T)} {i:Nat} {p:List T×T},es[i]? =some p->dt a p.1=true->(∀i' b,i' < i->es[i']? =some b->dt a b.1=false)->iq a es=es.eraseIdx i
 | [],_,_,h,_,_=>by simp at h
 | q::es,0,p,h,d,_=>by simp only [Tq,RJ] at h;subst h;simp [iq,d]
 | q::es,i+1,p,h,d,hb=>by have e:=hb 0 q (by omega) rfl;unfold iq;rw [e,cond_false,DM (by simpa using h) d (λi' b hi f=>hb (i'+1) b (by omega) (by simpa using f))];rfl
theorem Av{a b:Type}(f:a->b):∀(l:List a) (i:Nat),(l.eraseIdx i).map f= (l.map f).eraseIdx i
 | [],_=>rfl
 | _::_,0=>rfl
 | x::l,i+1=>by simp only [List.eraseIdx_cons_succ,Se,Av f l i]
theorem ze{a:List T}:∀{es:List (List T×T)},∀p∈iq a es,p∈es
 | [],p,h=>h
 | q::es,p,h=>by
  unfold iq at h;cases b:dt a q.1 with
  | true=>rw [b] at h;exact RM _ h
  | false=>
   rw [b] at h;rcases RV.1 h with rfl | h
   .exact RL
   .exact RM _ (ze p h)
theorem KP{R:Type}{t ty tr:TypeId}{x key:AV}{T vk:Value}{K:aE->Option R}{r:R}(hs:HS c w s.h ρ O)(v:ai w (AA c w O) ρ x T)(H:ai w (AA c w O) ρ key vk)
  (h:my P s t x key K=some r):∃us w',K us=some r/\(Builtin.delete_ #[t,ty] tr #[T,vk]).run P w= .ok (.tuple #[]) w'/\Le w ρ O w' ρ O/\HS c w' (aG s.h us) ρ O:=by
 unfold my at h;obtain⟨q,X,h⟩:=RK.1 h;obtain⟨ag,ks,cs,h,l,B,rfl⟩:=Ai (cc:=none) (.inl rfl) H h;split at h
 .rename_i i;split at h
  .rename_i y C D es hi;split at h
   .rename_i u;obtain⟨rfl,rfl⟩:=u;obtain⟨b,a,f,F,L,k,o,G⟩:=AD hs hi;simp only [ai] at v;rw [F] at v;simp only [RJ] at v;subst v;obtain⟨d,M⟩:=Aj l;have S:=Au X;have z:=y7 l B a.isEmpty w;rcases vP l B w a.toList es 0 o (λp m=>(G p m).1) with⟨E,I⟩ | ⟨j,y',e,p,E,I,Y,J,U,V⟩
    .have g:=qp M _ _ _ E;obtain⟨le,n⟩:=HS.xZ (ag:=y) (ks:=C) (vk:=D) (es':=iq cs es) (ents':=a) (clock':=f) hs (by rw [hi];simp) F L k (by rw [DN I];exact o) (λp m=>G p (ze p m));refine⟨_,_,h, ?_,le,n⟩;simp [Builtin.delete_,run_underlying S,TO k,z,g,UR _ k]
    .have g:=qp M _ _ _ E;have Q:j < es.length:=(RS.1 J).1;have N:a.toList.length=es.length:=by simpa using congrArg List.length o
     have W:j < a.size:=by rw [<-R8,N];exact Q
     obtain⟨le,n⟩:=HS.xZ (ag:=y) (ks:=C) (vk:=D) (es':=iq cs es) (ents':=a.eraseIdxIfInBounds j) (clock':=f) hs (by rw [hi];simp) F L k (by
       rw [DM J U V,Av,<-o,<-Av];simp only [Array.eraseIdxIfInBounds,W,dif_pos,Array.toList_eraseIdx]) (λp m=>G p (ze p m))
     refine⟨_,_,h, ?_,le,n⟩;rw [Sn] at g;simp [Builtin.delete_,run_underlying S,TO k,z,g,UR _ k]
   .cases h
  .cases h
 .cases h
theorem NI{R:Type}{d:Nat}{t:TypeId}{K:AV->aE->Option R}{r:R}(hs:HS c w s.h ρ O)(h:qI P d t K=some r):
  ∃v us,K v us=some r/\(iu d s.h us=true->∃u w' ρ' O',(Instr.makeMap t none).run P w= .ok u w'/\Le w ρ O w' ρ' O'/\HS c w' (aG s.h us) ρ' O'/\ai w' (AA c w' O') ρ' v u):=by
 unfold qI at h;obtain⟨q,g,h⟩:=RK.1 h;obtain⟨p,f,h⟩:=RK.1 h;split at h
 .rename_i e;refine⟨_,_,h,λa=> ?_⟩;have a:=jS a RL;have le:=Le.alloc hs (i:= .s d 0) rfl a (.map #[] 0) (.map (some w.heap.size)) (some w.heap.size) (.inr rfl);have b:=hs.alloc (i:= .s d 0) rfl a (.map #[] 0) (.map (some w.heap.size)) (some w.heap.size) (.inr rfl) (.mp p.1 p.2 (kJ P q.2) []) ⟨w.heap.size,#[],0,by simp,by simp,jV _,by simp,by simp⟩;refine⟨.map (some w.heap.size),_,_,_,rfl,le,by rw [dB];exact b, ?_⟩;simp only [ai];rw [aB]
 .cases h
end
end Go.Aev
