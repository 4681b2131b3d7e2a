import Derived.Test.YtcjplcpngagalaaGreatDoorBlastDownsQ2
import Derived.MapKept
import Derived.ChangeMaps5
set_option linter.all false
namespace Go.Aev
open Go Go.IntKind
section
variable {P:Program} {w w':World} {A A':Nat->Prop} {c:Ctx} {ρ:Id->Option Value} {O:Id->Option Nat} {s:St} {cc:Option Bool} {h:Id->Option ad}
def gu(ρ:Id->Option Value)(i i':Id)(a:Nat)(v vk:Value):Id->Option Value:=λx=>
 if x=i' then some v else match x with
  | .g y n=>if y=i' then(if n=a then some vk else ρ (.g i n)) else ρ (.g y n)
  | x=>ρ x
def dM(O:Id->Option Nat)(i i' j src:Id)(a:Nat)(ob:Option Nat):Id->Option Nat:=λx=>
 if x=i' then ob else if x=i\/x=j\/x=src then none else match x with
  | .g y n=>if y=i' then(if n=a then O src else O (.g i n)) else if y=i then none else O (.g y n)
  | x=>O x
def qW(i i' j src:Id)(a:Nat):Id->Option Id:=λx=>
 if x=i' then some i else if x=i\/x=j\/x=src then none else match x with
  | .g y n=>if y=i' then(if n=a then some src else some (.g i n)) else if y=i then none else some (.g y n)
  | x=>some x
def lD(i i' src:Id)(a:Nat):Id->Id:=λz=>
 if z=i then i' else if z=src then .g i' a else match z with
  | .g y n=>if y=i then .g i' n else .g y n
  | z=>z
theorem tM{i i' j src:Id}{q:Nat}(p:src≠i)(o:∀n,src≠ .g i n)(m:i.real=true){x z:Id}(b:qW i i' j src q x=some z):lD i i' src q z=x:=by
 unfold qW at b;split at b
 .rename_i h;simp only [Mt] at b;subst b;unfold lD;rw [if_pos rfl,h]
 .rename_i t;split at b
  .cases b
  .rename_i l;have f:x≠i:=λe=>l (.inl e);have k:x≠src:=λe=>l (.inr (.inr e));cases x with
   | g y n=>
    dsimp only at b;split at b
    .rename_i e;subst e;split at b
     .rename_i r;simp only [Mt] at b;subst b;unfold lD;rw [if_neg p,if_pos rfl,r]
     .simp only [Mt] at b;subst b;unfold lD;rw [if_neg (aN m),if_neg (λe=>o n e.symm)];simp
    .split at b
     .cases b
     .rename_i e3;simp only [Mt] at b;subst b;unfold lD;rw [if_neg f,if_neg k];simp [e3]
   | c a=>simp only [Mt] at b;subst b;unfold lD;rw [if_neg f,if_neg k]
   | s d a=>simp only [Mt] at b;subst b;unfold lD;rw [if_neg f,if_neg k]
theorem JR{i i' j src:Id}{l:Nat}{ob:Option Nat}{x:Id}{d:Nat}(b:dM O i i' j src l ob x=some d):(x=i'/\ob=some d)\/(x≠i'/\∃z,qW i i' j src l x=some z/\O z=some d):=by
 unfold dM at b;unfold qW;split at b
 .exact .inl ⟨by assumption,b⟩
 .rename_i k;right;refine⟨k, ?_⟩;rw [if_neg k];split at b
  .cases b
  .rename_i m;rw [if_neg m];cases x with
   | g y n=>
    dsimp only at b⊢;split at b
    .rename_i e;rw [if_pos e];split at b
     .rename_i f;rw [if_pos f];exact⟨_,rfl,b⟩
     .rename_i f;rw [if_neg f];exact⟨_,rfl,b⟩
    .rename_i e;rw [if_neg e];split at b
     .cases b
     .rename_i e3;rw [if_neg e3];exact⟨_,rfl,b⟩
   | c a=>exact⟨_,rfl,b⟩
   | s d a=>exact⟨_,rfl,b⟩
theorem HS.Cl{i i' j src s0:Id}{b:Bool}{sz col rsz C:Nat}{es:List Row}{l:List T}{bb:Bool}{xs:List (List T)}{vk:Value}{X:ad}{ae blk' off off' cap':Nat}{U:Array Value}{t':TypeId}{ob:Option Nat}{news:List Value}
  (hs:HS c w h ρ O) (hi:h i=some (.rows b sz col rsz C es)) (K:h i'=none) (hrl:i'.real=true) (hj:h j≠none) (hji:j≠i) (hs0:h s0≠none) (hs0i:s0≠i) (hs0j:s0≠j)
  (B:src=s0\/∃n,src= .g s0 n) (hvk:ρ src=some vk) (hsl:cz w (AA c w O) rsz bb xs vk (λd=>O src=some d))
  (hos:w'.os=w.os) (ho:w'.output=w.output) (htp:w'.tape=w.tape) (hsz:w.heap.size<=w'.heap.size) (hkeep:∀k,k < w.heap.size->O i≠some k->w'.heap[k]? =w.heap[k]?)
  (hob:ob=O i\/(ob=some w.heap.size/\w.heap.size < w'.heap.size)) (hobs:ob=some blk') (hb:w'.heap[blk']? =some (.cells U t' (0,0))) (hfit:off'+cap' * sz<=U.size) (hcap:es.length+1<=cap')
  (hrows:cg w (AA c w O) ρ O i ae sz col rsz off es) (hold:∀p,p < es.length * sz->w'.cell? ⟨blk',off'+p,none⟩=w.cell? ⟨ae,off+p,none⟩)
  (hcol:col < sz) (hl:l.length=sz) (hnew:∀p v,news[p]? =some v->w'.cell? ⟨blk',off'+es.length * sz+p,none⟩=some v) (hnr:∀m x,m≠col->l[m]? =some x->∃v,news[m]? =some v/\ay w (AA c w O) x v) (hnk:news[col]? =some vk)
  (hX:(∀b,AA c w O b->AA c w' (dM O i i' j src C ob) b/\w'.heap[b]? =w.heap[b]?)->cG w' (AA c w' (dM O i i' j src C ob)) (gu ρ i i' C (.slice (some ⟨blk',off',none⟩) (es.length+1) cap') vk) (dM O i i' j src C ob) s0 X):
  Le w ρ O w' (gu ρ i i' C (.slice (some ⟨blk',off',none⟩) (es.length+1) cap') vk) (dM O i i' j src C ob)/\
  HS c w' (aF (aF (aF (aF h i (some .dead)) j (some .dead)) s0 (some X)) i' (some (.rows false sz col rsz (C+1) (es++ [⟨C,l,some (bb,xs)⟩])))) (gu ρ i i' C (.slice (some ⟨blk',off',none⟩) (es.length+1) cap') vk) (dM O i i' j src C ob):=by
 have D:=hs.real (i:=i) (by rw [hi];simp);have R:=hs.real hj;have N:=hs.real hs0;have hii:i'≠i:=λe=>by rw [e,hi] at K;cases K
 have hij:i'≠j:=λe=>hj (e▸K);have hi0:i'≠s0:=λe=>hs0 (e▸K);have S:src≠i:=by
  rcases B with rfl | ⟨n,rfl⟩
  .exact hs0i
  .exact aN D
 have hsj:src≠j:=by
  rcases B with rfl | ⟨n,rfl⟩
  .exact hs0j
  .exact aN R
 have hsi':src≠i':=by
  rcases B with rfl | ⟨n,rfl⟩
  .exact hi0.symm
  .exact aN hrl
 have hsg:∀n,src≠ .g i n:=by
  intro n;rcases B with rfl | ⟨m,rfl⟩
  .exact(aN N).symm
  .intro e;simp only [Id.g.injEq] at e;exact hs0i e.1
 have hsg':∀n,src≠ .g i' n:=by
  intro n;rcases B with rfl | ⟨m,rfl⟩
  .exact(aN N).symm
  .intro e;simp only [Id.g.injEq] at e;exact hi0 e.1.symm
 obtain⟨a,cap,r1,r2,r3,⟨n1,n2,n3,n4⟩,r5⟩:=hs.ae i _ hi;obtain⟨V,hV⟩:∃V,V=gu ρ i i' C (.slice (some ⟨blk',off',none⟩) (es.length+1) cap') vk:=⟨_,rfl⟩;obtain⟨Q,W⟩:∃Q,Q=dM O i i' j src C ob:=⟨_,rfl⟩;rw [<-hV,<-W] at hX⊢;have V1:V i'=some (.slice (some ⟨blk',off',none⟩) (es.length+1) cap'):=by rw [hV];unfold gu;rw [if_pos rfl]
 have V2:∀x,x.real=true->x≠i'->V x=ρ x:=by
  intro x H o;rw [hV];unfold gu;rw [if_neg o];cases x with
  | g y n=>cases H
  | _=>rfl
 have V3:∀y n,y≠i'->V (.g y n)=ρ (.g y n):=by intro y n M;rw [hV];unfold gu;rw [if_neg (aN hrl)];simp only [if_neg M]
 have V4:∀n,V (.g i' n)=if n=C then some vk else ρ (.g i n):=by intro n;rw [hV];unfold gu;rw [if_neg (aN hrl)];simp
 have Q1:Q i'=ob:=by rw [W];unfold dM;rw [if_pos rfl]
 have Q0:∀x,x≠i'->(x=i\/x=j\/x=src)->Q x=none:=by intro x o E;rw [W];unfold dM;rw [if_neg o,if_pos E]
 have Q2:∀x,x.real=true->x≠i'->x≠i->x≠j->x≠src->Q x=O x:=by
  intro x H o q E h3;rw [W];unfold dM;rw [if_neg o,if_neg (by rintro(h | h | h) <;> contradiction)];cases x with
  | g y n=>cases H
  | _=>rfl
 have Q3:∀y n,y≠i'->y≠i->Id.g y n≠src->Q (.g y n)=O (.g y n):=by intro y n M hy2 h3;rw [W];unfold dM;rw [if_neg (aN hrl),if_neg (by rintro(h | h | h);exact aN D h;exact aN R h;exact h3 h)];simp only [if_neg M,if_neg hy2]
 have Q4:∀n,Q (.g i' n)=if n=C then O src else O (.g i n):=by intro n;rw [W];unfold dM;rw [if_neg (aN hrl),if_neg (by rintro(h | h | h);exact aN D h;exact aN R h;exact hsg' n h.symm)];simp
 have Z:∀x d,Q x=some d->(x=i'/\ob=some d)\/(x≠i'/\∃z,qW i i' j src C x=some z/\O z=some d):=λx d o=>JR (by rw [<-W];exact o);have le:Le w ρ O w' V Q:=by
  refine⟨hos,ho,htp,hsz,λx u o=> ?_,λd t hn=>hkeep d t (hn i),λx d o=> ?_⟩
  .cases H:x.real with
   | true=>
    have:x≠i':=λe=>by rw [e,(hs.cj i' hrl K).1] at o;cases o
    rw [V2 x H this];exact o
   | false=>
    cases x with
    | g y n=>
     have:y≠i':=λe=>by rw [e,(hs.eD i' n K).1] at o;cases o
     rw [V3 y n this];exact o
    | _=>cases H
  .rcases Z x d o with⟨_,q⟩ | ⟨_,z,_,E⟩
   .rcases hob with e | ⟨e,_⟩
    .exact .inl ⟨i,by rw [<-e];exact q⟩
    .rw [e] at q;cases q;exact .inr (M2 _)
   .exact .inl ⟨z,E⟩
 have hA:∀d,AA c w O d->AA c w' Q d/\w'.heap[d]? =w.heap[d]?:=λd t=>le.A d t;have G:∀x d,x≠i->O x=some d->w'.heap[d]? =w.heap[d]?:=λx d o t=>hkeep d (hs.lt x d t) λe=>o (hs.inj x i d t e);refine⟨le,hs.me le (λx y o=> ?_) (λx H o=> ?_) (λx n=> ?_) (λx n o=> ?_) (λx n u J=> ?_) (λx y d o M=> ?_) (λx d o=> ?_)⟩
 .by_cases L:x=i'
  .subst L;rw [aA] at o;cases o;right;have hlen:(es++ [(⟨C,l,some (bb,xs)⟩:Row)]).length=es.length+1:=by simp
   refine⟨some ⟨blk',off',none⟩,cap',by rw [hlen];exact V1,by rw [hlen];exact hcap,by simp,⟨?_,λf F=> ?_,λn hn=> ?_,λn d t=> ?_⟩, .inr ⟨blk',off',U,t',rfl,by rw [Q1];exact hobs,hb,hfit,cg.append ?_ ⟨?_,trivial⟩⟩⟩
   .rw [OE,NU];refine⟨n1,by simp,λa ha b hb=> ?_⟩;simp only [Nh,ND,MI] at hb;obtain⟨f,F,e⟩:=M7.1 ha;have:=n2 f F;omega
   .rcases MQ.1 F with F | F
    .have:=n2 f F;omega
    .simp only [MI] at F;subst F;simp
   .rw [V4,if_neg (by omega)];exact n3 n (by omega)
   .rw [Q4] at t;by_cases en:n=C
    .exact⟨_,MK _ (MI.2 rfl),en.symm⟩
    .rw [if_neg en] at t;obtain⟨f,F,hfn⟩:=n4 n d t;exact⟨f,MM _ F,hfn⟩
   .refine cg.move hA hold (λf F=> ?_) hrows;have r:f.n≠C:=by have:=n2 f F;omega
    exact⟨by rw [V4,if_neg r],by rw [Q4,if_neg r],λd t=>G _ d (aN D) t⟩
   .refine⟨hl,hcol,λm y hm M=> ?_,vk,hnew col vk hnk,by rw [V4];simp, ?_⟩
    .obtain⟨v,g1,g2⟩:=hnr m y hm M;exact⟨v,hnew m v g1,ay.mono hA y v g2⟩
    .simp only;refine cz.mono hA (λd t=> ?_) hsl;rw [Q4];exact⟨by simpa using t,G src d S t⟩
  .rw [au _ _ L] at o;by_cases e2:x=s0
   .subst e2;rw [aA] at o;cases o;exact .inr (hX hA)
   .rw [au _ _ e2] at o;by_cases e3:x=j
    .subst e3;rw [aA] at o;cases o;obtain⟨y,M⟩:=OQ.1 hj;have:∃u,ρ x=some u:=by
      cases I:ρ x with
      | some u=>exact⟨u,rfl⟩
      | none=>
       exfalso;have:=hs.ae x y M;cases y with
       | box cs=>obtain⟨b,_,_,q,_⟩:=this;rw [I] at q;cases q
       | sl fz sz b xs=>obtain⟨v,q,_⟩:=this;rw [I] at q;cases q
       | cE l=>obtain⟨b,q,_⟩:=this;rw [I] at q;cases q
       | mp ag ks vk es=>obtain⟨b,_,_,q,_⟩:=this;rw [I] at q;cases q
       | arr cs=>obtain⟨b,_,_,q,_⟩:=this;rw [I] at q;cases q
       | rows _ _ _ _ _ _=>obtain⟨_,_,q,_⟩:=this;rw [I] at q;cases q
       | dead=>obtain⟨⟨v,q,_⟩,_⟩:=this;rw [I] at q;cases q
     obtain⟨u,J⟩:=this;exact .inr ⟨⟨u,by rw [V2 x R L];exact J,iL hs J⟩,Q0 x L (.inr (.inl rfl))⟩
    .rw [au _ _ e3] at o;by_cases e4:x=i
     .subst e4;rw [aA] at o;cases o;exact .inr ⟨⟨_,by rw [V2 x D L];exact r1,rfl,rfl⟩,Q0 x L (.inl rfl)⟩
     .rw [au _ _ e4] at o;have hrx:=hs.real (i:=x) (by rw [o];simp);have e5:x≠src:=by
       rcases B with rfl | ⟨n,rfl⟩
       .exact e2
       .exact(aN hrx).symm
      refine .inl ⟨o,Q2 x hrx L e4 e3 e5,λd t=>G x d e4 t,λn=>⟨V3 x n L,Q3 x n L e4 ?_,λd t=>G _ d (aN D) t⟩⟩;rcases B with rfl | ⟨m,rfl⟩
      .exact aN N
      .intro e;simp only [Id.g.injEq] at e;exact e2 e.1
 .have r:x≠i':=λe=>by rw [e,aA] at o;cases o
  rw [au _ _ r] at o;have h0:x≠s0:=λe=>by rw [e,aA] at o;cases o
  rw [au _ _ h0] at o;have q:x≠j:=λe=>by rw [e,aA] at o;cases o
  rw [au _ _ q] at o;have E:x≠i:=λe=>by rw [e,aA] at o;cases o
  rw [au _ _ E] at o;have h5:x≠src:=by
   rcases B with rfl | ⟨n,rfl⟩
   .exact h0
   .exact(aN H).symm
  rw [V2 x H r,Q2 x H r E q h5];exact hs.cj x H o
 .rw [au _ _ (aN hrl),au _ _ (aN N),au _ _ (aN R),au _ _ (aN D)];exact hs.dr x n
 .have r:x≠i':=λe=>by rw [e,aA] at o;cases o
  rw [au _ _ r] at o;have h0:x≠s0:=λe=>by rw [e,aA] at o;cases o
  rw [au _ _ h0] at o;have q:x≠j:=λe=>by rw [e,aA] at o;cases o
  rw [au _ _ q] at o;have E:x≠i:=λe=>by rw [e,aA] at o;cases o
  rw [au _ _ E] at o;have h5:Id.g x n≠src:=by
   rcases B with rfl | ⟨m,rfl⟩
   .exact aN N
   .intro e;simp only [Id.g.injEq] at e;exact h0 e.1
  rw [V3 x n r,Q3 x n r E h5];exact hs.eD x n o
 .by_cases r:x=i'
  .subst r;rw [V4] at J;split at J
   .simp only [Mt] at J;subst J;exact iL hs hvk
   .exact hs.gone i n u J
  .rw [V3 x n r] at J;exact hs.gone x n u J
 .rcases Z x d o with⟨x1,x2⟩ | ⟨x1,z,x2,x3⟩ <;> rcases Z y d M with⟨y1,Y⟩ | ⟨y1,z',Y,y3⟩
  .rw [x1,y1]
  .rcases hob with e | ⟨e,_⟩
   .rw [e] at x2;have:=hs.inj i z' d x2 y3;subst this;have:=tM S hsg D Y;unfold lD at this;rw [if_pos rfl] at this;rw [x1];exact this
   .rw [e] at x2;cases x2;exact absurd (hs.lt _ _ y3) (NQ _)
  .rcases hob with e | ⟨e,_⟩
   .rw [e] at Y;have:=hs.inj i z d Y x3;subst this;have:=tM S hsg D x2;unfold lD at this;rw [if_pos rfl] at this;rw [y1];exact this.symm
   .rw [e] at Y;cases Y;exact absurd (hs.lt _ _ x3) (NQ _)
  .have:=hs.inj z z' d x3 y3;subst this;rw [<-tM S hsg D x2,<-tM S hsg D Y]
 .rcases Z x d o with⟨_,q⟩ | ⟨_,z,_,E⟩
  .rcases hob with e | ⟨e,e2⟩
   .rw [e] at q;have:=hs.lt i d q;omega
   .rw [e] at q;cases q;exact e2
  .have:=hs.lt z d E;omega
end
open Go Go.IntKind
section
variable {P:Program} {w w':World} {A A':Nat->Prop} {c:Ctx} {ρ:Id->Option Value} {O:Id->Option Nat} {s:St} {cc:Option Bool} {h:Id->Option ad}
theorem HS.move{i i':Id}(hs:HS c w h ρ O)(F:h i≠none)(C:h i'=none)(v:Value)(o:Option Nat)(M:w'.os=w.os)(ho:w'.output=w.output)(Q:w'.tape=w.tape)(N:w.heap.size<=w'.heap.size)
  (q:∀k,k < w.heap.size->O i≠some k->w'.heap[k]? =w.heap[k]?) (y:o=none\/o=O i\/(o=some w.heap.size/\w.heap.size < w'.heap.size)) (x:ad)
  (V:cG w' (AA c w' (aF (aF O i none) i' o)) (aF ρ i' (some v)) (aF (aF O i none) i' o) i' x) (hrl:i'.real=true:=by rfl):
  Le w ρ O w' (aF ρ i' (some v)) (aF (aF O i none) i' o)/\HS c w' (aF (aF h i' (some x)) i (some .dead)) (aF ρ i' (some v)) (aF (aF O i none) i' o):=by
 have D:i≠i':=λe=>F (e▸C);have R:∀b,o=some b->b < w'.heap.size:=by
  intro b m;rcases y with e | e | ⟨e,f⟩
  .rw [e] at m;cases m
  .rw [e] at m;have:=hs.lt i b m;omega
  .rw [e] at m;cases m;exact f
 have le:Le w ρ O w' (aF ρ i' (some v)) (aF (aF O i none) i' o):=by
  refine⟨M,ho,Q,N,λj u a=> ?_,λb m U=>q b m (U i),λj b a=> ?_⟩
  .by_cases e:j=i'
   .subst e;rw [(hs.cj _ hrl C).1] at a;cases a
   .rw [au _ _ e];exact a
  .by_cases e:j=i'
   .subst e;rw [aA] at a;rcases y with e | e | ⟨e,_⟩
    .rw [e] at a;cases a
    .rw [e] at a;exact .inl ⟨i,a⟩
    .rw [e] at a;cases a;exact .inr (M2 _)
   .rw [au _ _ e] at a;by_cases f:j=i
    .subst f;rw [aA] at a;cases a
    .rw [au _ _ f] at a;exact .inl ⟨j,a⟩
 have z:=hs.real F;have S:GK w ρ O w' (aF ρ i' (some v)) (aF (aF O i none) i' o):=λj n=>⟨au _ _ (aN hrl),by rw [au _ _ (aN hrl),au _ _ (aN z)],λb m=>q b (hs.lt _ b m) λe=>aN z (hs.inj _ i b m e)⟩;refine⟨le,hs.go le S (λj W a=> ?_) (λj L a=> ?_) (λj a=> ?_) (λj n=>by rw [au _ _ (aN z),au _ _ (aN hrl)];exact hs.dr j n) (λj k d a G=> ?_) (λj d a=> ?_)⟩
 .by_cases e:j=i
  .subst e;rw [aA] at a;cases a;right;obtain⟨b,m⟩:=OQ.1 F;have H:∃u,ρ j=some u/\u.oneCell'=true/\u.cells= #[u]:=by
    cases p:ρ j with
    | none=>
     exfalso;have:=hs.ae j b m;cases b with
     | box cs=>obtain⟨b,_,_,g,_⟩:=this;rw [p] at g;cases g
     | sl fz sz b xs=>obtain⟨v,g,_⟩:=this;rw [p] at g;cases g
     | cE l=>obtain⟨b,g,_⟩:=this;rw [p] at g;cases g
     | mp ag ks vk es=>obtain⟨b,_,_,g,_⟩:=this;rw [p] at g;cases g
     | arr cs=>obtain⟨b,_,_,g,_⟩:=this;rw [p] at g;cases g
     | rows _ _ _ _ _ _=>obtain⟨_,_,g,_⟩:=this;rw [p] at g;cases g
     | dead=>obtain⟨⟨v,g,_⟩,_⟩:=this;rw [p] at g;cases g
    | some u=>exact⟨u,rfl,iL hs p⟩
   obtain⟨u,g,T⟩:=H;exact⟨⟨u,by rw [au _ _ D];exact g,T⟩,by rw [au _ _ D,aA]⟩
  .rw [au _ _ e] at a;by_cases f:j=i'
   .subst f;rw [aA] at a;cases a;exact .inr V
   .rw [au _ _ f] at a;refine .inl ⟨a,by rw [au _ _ f,au _ _ e],λae t=>q ae (hs.lt j ae t) (λho=>e (hs.inj j i ae t ho))⟩
 .by_cases e:j=i
  .subst e;rw [aA] at a;cases a
  .rw [au _ _ e] at a;by_cases f:j=i'
   .subst f;rw [aA] at a;cases a
   .rw [au _ _ f] at a;rw [au _ _ f,au _ _ f,au _ _ e];exact hs.cj j L a
 .by_cases e:j=i
  .subst e;rw [aA] at a;cases a
  .rw [au _ _ e] at a;by_cases f:j=i'
   .subst f;rw [aA] at a;cases a
   .rw [au _ _ f] at a;exact a
 .have B:∀j b,aF (aF O i none) i' o j=some b->(j=i'/\o=some b)\/(j≠i'/\j≠i/\O j=some b):=by
   intro j b a;by_cases e:j=i'
   .subst e;rw [aA] at a;exact .inl ⟨rfl,a⟩
   .rw [au _ _ e] at a;by_cases f:j=i
    .subst f;rw [aA] at a;cases a
    .rw [au _ _ f] at a;exact .inr ⟨e,f,a⟩
  have r:∀k b,o=some b->k≠i->O k=some b->False:=by
   intro k b m G ho;rcases y with e | e | ⟨e,_⟩
   .rw [e] at m;cases m
   .rw [e] at m;exact G (hs.inj k i b ho m)
   .rw [e] at m;cases m;exact NQ _ (hs.lt k _ ho)
  rcases B j d a with⟨I,f⟩ | ⟨I,f,e3⟩ <;> rcases B k d G with⟨J,E⟩ | ⟨J,E,K⟩
  .rw [I,J]
  .exact(r k d f E K).elim
  .exact(r j d E f e3).elim
  .exact hs.inj j k d e3 K
 .by_cases e:j=i'
  .subst e;rw [aA] at a;exact R d a
  .rw [au _ _ e] at a;by_cases f:j=i
   .subst f;rw [aA] at a;cases a
   .rw [au _ _ f] at a;have:=hs.lt j d a;omega
theorem Dj{v:AV}{x:T}{u:Value}{sz:Nat}{p:Bool×List (List T)}(hs:HS c w h ρ O)(f:aj w (AA c w O) ρ v u)(d:cX h v=some x)(G:x.an sz=some p):
  (p.2= []/\(u= .slice none 0 0\/∃a cap,u= .slice (some a) 0 cap))\/∃ae off cap,u= .slice (some ⟨ae,off,none⟩) p.2.length cap/\a8 w (AA c w O) ae sz off p.2:=by
 have j:ay w (λ_=>True) x u:=kI hs f d (λ_ _=>trivial) (λ_ _ _ _=>trivial);have bg:p.2= []->(u= .slice none 0 0\/∃a cap,u= .slice (some a) 0 cap):=by
  intro e;rcases T.nD G with rfl | ⟨rfl,_⟩
  .simp only [ay] at j;rcases j with⟨_,_,rfl⟩ | ⟨_,ae,off,sp,cap,rfl,_⟩
   .exact .inl rfl
   .rw [e];exact .inr ⟨_,_,rfl⟩
  .simp only [ay] at j;rcases j with⟨_,rfl⟩ | ⟨_,ae,off,sp,rfl⟩
   .exact .inl rfl
   .exact .inr ⟨_,_,rfl⟩
 by_cases e:p.2= []
 .exact .inl ⟨e,bg e⟩
 right;have N:x= .ab sz p.1 p.2:=by
  rcases T.nD G with h | ⟨_,h⟩
  .exact h
  .exact absurd h e
 subst N;cases v <;> simp only [cX,reduceCtorEq,Mt] at d
 case t y=>
  subst d;simp only [aj,ay] at f;rcases f with⟨_,h,_⟩ | ⟨_,ae,off,sp,cap,rfl,_,B,g⟩
  .exact absurd h e
  .rcases B with B | ⟨rfl,_⟩
   .exact absurd B e
   exact⟨ae,off,cap,rfl,g⟩
 case own i=>
  split at d
  .rename_i fz r b xs D;simp only [Mt,T.ab.injEq] at d;obtain⟨rfl,rfl,rfl⟩:=d;obtain⟨X,C,a,cap,q,Q,R,S,m⟩:=lL hs D;simp only [aj] at f;rw [C] at f;simp only [Mt] at f;subst f;subst q;rcases m with m | ⟨ae,off,arr,t,F,U,V,W,k⟩
   .exact absurd (MW.1 (by omega)) e
   .subst F;exact⟨ae,off,cap,rfl,k⟩
  .simp at d
 case ref i off=>
  split at d
  .obtain⟨l,_,d⟩:=Mu.1 d;simp at d
  .simp at d
  .simp at d
 case part i Y off n=>
  split at d
  .rename_i fz r b xs D;split at d
   .rename_i H;subst H;simp only [Mt,T.ab.injEq] at d;obtain⟨rfl,rfl,I⟩:=d;obtain⟨X,C,a,cap,q,Q,R,S,m⟩:=lL hs D;simp only [aj] at f;obtain⟨Z,L,K,J,z,e2,e3,rfl,e4⟩:=f;rw [C] at z;simp only [Mt] at z;subst z;simp only [Nw] at q;obtain⟨rfl,rfl,rfl⟩:=q;have E:((xs.drop off).take n).length=n:=by simp only [Nv,NH];omega
    rw [<-I] at e⊢;have hn:n≠0:=λh=>e (by rw [h];rfl);rcases m with m | ⟨ae,off',arr,t,F,U,V,W,k⟩
    .omega
    .subst F;have ea:J=some ⟨ae,off'+off * r,none⟩:=by
      rcases e4 with⟨rfl,rfl⟩ | ⟨rfl,_⟩ | ⟨b',o,e5,M⟩
      .simp
      .omega
      .simp only [Mt,Ns] at e5;obtain⟨rfl,rfl,_⟩:=e5;exact M
     subst ea;exact⟨ae,_,_,by rw [E],(k.drop off).take n⟩
   .simp at d
  .simp at d
theorem Kc{t l ty e:TypeId}{i:TypeInfo}(q:P.underlying t=some (.slice e))(p:P.info? e=some i){b off a d:Nat}{arr:Array Value}{k:TypeId}(m:w.heap[b]? =some (.cells arr k (0,0))){x:Value}{n:Nat}{news:List Value}
  (hs:Src P i.size l x n news w) (f:a+n<=d) (o:off+d * i.size<=arr.size):
  (Builtin.append_ #[t,l] ty #[.slice (some ⟨b,off,none⟩) a d,x]).run P w= .ok (.slice (some ⟨b,off,none⟩) (a+n) d) (w.setRow b (cb (off+a * i.size) news arr.toList).toArray):=by
 have hl:=hs.newsLen;have hm:(a+n) * i.size<=d * i.size:=Nq _ f;have e:(a+n) * i.size=a * i.size+n * i.size:=Oh _ _ _;have g:=run_storeCells_at P b (off+a * i.size) k news 0 arr w m (by omega) hs.one;simp only [OA] at g;rcases hs.kind with⟨e',j⟩ | j <;> simp [Builtin.append_,run_underlying q,run_underlying j,sizeOf,typeInfo,p,hs.len,f,hs.cells,fx,g,cb]
theorem Kb{t j ty e:TypeId}{i:TypeInfo}(l:P.underlying t=some (.slice e))(k:P.info? e=some i){base:Option Addr}{d b:Nat}{x:Value}(hs:Src P i.size j x 0 [] w)(f:d<=b):
  (Builtin.append_ #[t,j] ty #[.slice base d b,x]).run P w= .ok (.slice base d b) w:=by
 have m:∀a:Addr,(storeCells a []).run P w= .ok () w:=λa=>by simp [storeCells]
 cases base <;> rcases hs.kind with⟨e',g⟩ | g <;> simp [Builtin.append_,run_underlying l,run_underlying g,sizeOf,typeInfo,k,hs.len,f,hs.cells,storeCells]
structure Ad (P:Program) (t tx e:TypeId) (i:TypeInfo) (x:Value) (n:Nat) (news:List Value) (w:World):Prop where
 newsLen:news.length=n * i.size
 one:∀u∈news,u.oneCell'=true
 idle:n=0->∀(ty:TypeId) (base:Option Addr) (sLen sCap:Nat),sLen<=sCap->(Builtin.append_ #[t,tx] ty #[.slice base sLen sCap,x]).run P w= .ok (.slice base sLen sCap) w
 wB:∀(ty:TypeId) (b off sLen sCap:Nat) (arr:Array Value) (tt:TypeId),w.heap[b]? =some (.cells arr tt (0,0))->sLen+n<=sCap->off+sCap * i.size<=arr.size->
  (Builtin.append_ #[t,tx] ty #[.slice (some ⟨b,off,none⟩) sLen sCap,x]).run P w= .ok (.slice (some ⟨b,off,none⟩) (sLen+n) sCap) (w.setRow b (cb (off+sLen * i.size) news arr.toList).toArray)
 grow:∀(ty:TypeId) (z:Value) (base:Option Addr) (sLen sCap:Nat) (olds:List Value),i.zero=some z->(Builtin.firstCells i.size sLen (.slice base sLen sCap)).run P w.drew= .ok olds.toArray w.drew->sCap < sLen+n->
  ((sLen+n:Nat):Int)<=9223372036854775807->Builtin.nextslicecap (sLen+n) sCap * i.bytes<=281474976710656->
  (Builtin.append_ #[t,tx] ty #[.slice base sLen sCap,x]).run P w=
   .ok (.slice (some ⟨w.heap.size,0,none⟩) (sLen+n) (grownCap w (sLen+n) sCap e))
    (w.drew.alloc (.cells ((olds++news).toArray++Builtin.zeroCells z.cells (grownCap w (sLen+n) sCap e - (sLen+n))) e))
theorem Ad.qQ{t tx e:TypeId}{i:TypeInfo}{x:Value}{n:Nat}{news:List Value}(ht:P.underlying t=some (.slice e))(hi:P.info? e=some i)(hs:Src P i.size tx x n news w):Ad P t tx e i x n news w where
 newsLen:=hs.newsLen
 one:=hs.one
 idle:=by intro h ty base sLen sCap hr;subst h;have:news= []:=MW.1 (by rw [hs.newsLen];simp);subst this;exact Kb ht hi hs hr
 wB:=λty b off sLen sCap arr tt hb hr hf=>Kc ht hi hb hs hr hf
 grow:=λty z base sLen sCap olds hz ho hg h63 hf=>run_append_grow_src w t tx ty e i z ht hi hz base sLen sCap olds ho x n news hs hg h63 hf
theorem Mr{z:Array Value}{sz:Nat}(a:z.size=sz)(n:Nat):(Builtin.zeroCells z n).toList= (List.replicate n z.toList).flatten:=by
 apply NJ;intro p;by_cases f:p < n * sz
 .have d:((List.replicate n z.toList).flatten).length=n * sz:=by simp [a]
  have b:((List.replicate n z.toList).flatten)[p]? =some ((List.replicate n z.toList).flatten[p]'(by omega)):=MJ _;rw [b];have e:=wO (zv:=z) a n n (M2 _) p _ b;rw [<-e,Nn];simp [madeCells,Builtin.zeroCells,a]
 .have d:((List.replicate n z.toList).flatten).length=n * sz:=by simp [a]
  have b:(Builtin.zeroCells z n).toList.length=n * sz:=by rw [M1,size_zeroCells,a]
  rw [N6 (by omega),N6 (by omega)]
theorem JH{n:Int}(h0: 0<=n)(a:n<=4294967296):i64.wrap n=n:=by rw [IntKind.wrap_i64];omega
theorem Ad.JI{t N e:TypeId}{i:TypeInfo}{zv:Value}{ki:IntKind}{n:Int}(B:P.underlying t=some (.slice e))(y:P.underlying N=some (.int ki))(x:P.info? e=some i)(D:i.zero=some zv)(F:zv.cells.size=i.size)(X:i.bytes<=8192)
  (h0: 0<=n) (J:n<=4294967296) (K:∀u∈zv.cells.toList,u.oneCell'=true):Ad P t N e i (.int .i64 n) n.toNat (List.replicate n.toNat zv.cells.toList).flatten w:=by
 have C:=JH h0 J;have m:¬(n < 0):=by omega
 have f:¬(281474976710656 < n * (i.bytes:Int)):=by have W:n * (i.bytes:Int)<=4294967296 * 8192:=Int.le_trans (Pd J (by omega)) (Ph (by omega) (by omega));omega
 have nl:(List.replicate n.toNat zv.cells.toList).flatten.length=n.toNat * i.size:=by simp [F]
 have one:∀u∈(List.replicate n.toNat zv.cells.toList).flatten,u.oneCell'=true:=by intro u I;obtain⟨l,hl,I⟩:=List.mem_flatten.1 I;rw [List.mem_replicate] at hl;obtain⟨_,rfl⟩:=hl;exact K u I
 have U:=Mr F n.toNat
 have G:Builtin.zeroCells zv.cells n.toNat= (List.replicate n.toNat zv.cells.toList).flatten.toArray:=by rw [<-U]
 have af:n.toNat * i.size=0->(List.replicate n.toNat zv.cells.toList).flatten= []:=λh=>MW.1 (by rw [nl,h]);refine⟨nl,one, ?_, ?_, ?_⟩
 .intro h ty base d j R;have Q:∀a:Addr,(storeCells a []).run P w= .ok () w:=λa=>by simp [storeCells]
  cases base <;> simp [Builtin.append_,run_underlying B,run_underlying y,sizeOf,typeInfo,x,asInt,asIntOf,C,m,f,h,R,Q]
 .intro ty b off d j arr T L k H;have hm:(d+n.toNat) * i.size<=j * i.size:=Nq _ k;have e:(d+n.toNat) * i.size=d * i.size+n.toNat * i.size:=Oh _ _ _;have o:=run_storeCells_at P b (off+d * i.size) T (List.replicate n.toNat zv.cells.toList).flatten 0 arr w L (by omega) one;simp only [OA] at o;by_cases g:n.toNat * i.size=0
  .have:=af g;rw [this] at o⊢;simp [Builtin.append_,run_underlying B,run_underlying y,sizeOf,typeInfo,x,asInt,asIntOf,C,m,f,k,g,fx,o,cb]
  .simp [Builtin.append_,run_underlying B,run_underlying y,sizeOf,typeInfo,zeroValue,x,D,asInt,asIntOf,C,m,f,k,g,G,fx,o,cb]
 .intro ty z base d j S E hold Y V H;rw [D] at E;cases E;have M:¬(d+n.toNat<=j):=by omega
  have q:¬(9223372036854775807 < ((d:Int)+ (n.toNat:Int))):=by omega
  have v:¬(9223372036854775807 < ((d:Int)+max n 0)):=by omega
  have r:¬(i64.max < ((d:Int)+ (n.toNat:Int))):=by simp only [IntKind.max,IntKind.bits,IntKind.signed];omega
  have p:¬(281474976710656 < Builtin.nextslicecap (d+n.toNat) j * i.bytes):=by omega
  by_cases g:n.toNat * i.size=0
  .have:=af g;rw [this];simp [Builtin.append_,run_underlying B,run_underlying y,sizeOf,typeInfo,zeroValue,x,D,asInt,asIntOf,C,m,f,M,q,v,r,p,Question.forced,g,hold,newRow,grownCap]
  .simp [Builtin.append_,run_underlying B,run_underlying y,sizeOf,typeInfo,zeroValue,x,D,asInt,asIntOf,C,m,f,M,q,v,r,p,Question.forced,g,G,hold,newRow,grownCap];congr 2;apply N4;simp [MY]
theorem BK{n m:Int}(h:kC n m=some ()): 0<=n/\n<=m/\m<=kA:=by
 unfold kC at h;split at h
 .assumption
 .simp at h
theorem D9{R:Type}{t U e:TypeId}{sz:Nat}{B:List T}{ti:TypeInfo}{y:AV}{V:Value}{K:List (List T)->Option R}{r:R}(hs:HS c w s.h ρ O)(o:P.underlying U=some (.slice e))(f:P.info? e=some ti)(m:ti.size=sz)(Z:gy P e=some B)(N:B.length=sz)(J:P.bytesOf e<=8192)(k:aj w (AA c w O) ρ y V)(d:jV P s t sz B y K=some r):
  ∃H vss,K H=some r/\Ad P U t e ti V H.length vss.flatten w/\cn w (AA c w O) sz H vss:=by
 subst m;unfold jV at d;split at d
 .rename_i e' i;obtain⟨x,z,d⟩:=Mu.1 d;replace d:=aL d (.inl rfl);obtain⟨p,Y,d⟩:=d;rcases Dj hs k z Y with⟨e,h⟩ | ⟨ae,off,cap,rfl,g⟩
  .rw [e] at d;refine⟨[],[],d, ?_,rfl⟩;rcases h with rfl | ⟨a,cap,rfl⟩
   .exact .qQ o f (Src.ofNil w i 0)
   .exact .qQ o f (Src.ofSlice w i a 0 cap [] (by simp) (by simp) (by simp))
  .obtain⟨vss,C,D⟩:=g.bf;obtain⟨l1,l2⟩:=C.length;exact⟨p.2,vss,d, .qQ o f (Src.ofSlice w i ⟨ae,off,none⟩ _ cap _ (by rw [l2]) (λj u W=>by rw [fx];exact D j u W) (λu i=>(C.one u i).1)),C⟩
 .rename_i i;split at d
  .rename_i m;obtain⟨x,z,d⟩:=Mu.1 d;replace d:=aL d (.inl rfl);obtain⟨b,E,d⟩:=d;have:=T.iQ E;subst this;rw [AV.jP z] at k;simp only [aj,ay] at k;subst k;have flat:∀l:List Value,(l.map λv=> [v]).flatten=l:=by intro l;induction l <;> simp_all
   refine⟨_,((b.data.toList.map λb=>Value.int .u8 b.toNat).map λv=> [v]),d, ?_, ?_⟩
   .rw [flat,NM];have:=Src.ofString (P:=P) w i b;have e:b.data.toList.length=b.size:=by rw [M1];rfl
    rw [e];exact .qQ o f (by rw [m];exact this)
   .have I:∀l:List UInt8,cn w (AA c w O) 1 (l.map λu=> [T.int .u8 u.toNat]) ((l.map λb=>Value.int .u8 b.toNat).map λv=> [v]):=by
     intro l;induction l with
     | nil=>rfl
     | cons u l ih=>exact⟨_,_,rfl,rfl,⟨_,[],rfl,eW _ _ _ _,rfl⟩,ih⟩
    rw [m];exact I _
  .simp at d
 .rename_i ki i;obtain⟨x,z,d⟩:=Mu.1 d;replace d:=aL d (.inl rfl);obtain⟨n,X,d⟩:=d;replace d:=aL d (.inl rfl);obtain⟨_,E,d⟩:=d;have:=T.eR X;subst this;obtain⟨h0,_,D⟩:=BK E;rw [AV.jP z] at k;simp only [aj,ay] at k;subst k;obtain⟨ti',zv,q,S,L⟩:=lQ Z;rw [f] at q;cases q;have G:aQ w (AA c w O) B zv.cells.toList:=my L;have Q:zv.cells.size=ti.size:=by
   have:=G.length;rw [M1] at this;omega
  have M:=cn.replicate G N n.toNat
  have F:ti.bytes<=8192:=by simpa [Program.bytesOf,f] using J
  refine⟨_,_,d, ?_,M⟩;rw [Oo];exact .JI o i f S Q F h0 (by simpa [kA] using D) (λu i=>(G.one u i).1)
 .simp at d
theorem wz(z:Array Value)(l:List Value)(k:Nat):∀(p:Nat) (v:Value),l[p]? =some v->(l.toArray++Builtin.zeroCells z k)[p]? =some v:=by intro p v b;have a:=(My.1 b).1;rw [Array.getElem?_append_left (by simpa using a)];simpa using b
theorem vZ{a n:Nat}(h:ma a n)(b:a<=8192):n * a<=140737488355328:=by
 rcases h with h | ⟨_,h⟩
 .have:n * a<=4294967296 * 8192:=Px h b;omega
 .exact h
theorem wc{a n:Nat}(h:ma a n):n<=140737488355328:=by
 rcases h with h | ⟨h0,h⟩
 .have:n<=4294967296:=h;omega
 .exact Nl (Nat.le_mul_of_pos_right n h0) h
theorem ye{t tx ty e:TypeId}{ti:TypeInfo}{zs:List T}{y:Value}{i i':Id}{b:Bool}{xs d:List (List T)}{vss:List (List Value)}{base:Option Addr}{cap:Nat}
  (hs:HS c w h ρ O) (U:h i≠none) (D:h i'=none) (ht:P.underlying t=some (.slice e)) (hz:gy P e=some zs) (hzl:zs.length=P.cellsOf e) (hby:P.bytesOf e<=8192)
  (Y:ma (P.bytesOf e) (xs.length+d.length)) (hcap:xs.length<=cap) (hnil:base=none↔b=true) (E:True)
  (x:cap=0\/∃ae off arr F,base=some ⟨ae,off,none⟩/\O i=some ae/\w.heap[ae]? =some (.cells arr F (0,0))/\off+cap * P.cellsOf e<=arr.size/\a8 w (AA c w O) ae (P.cellsOf e) off xs)
  (L:P.info? e=some ti) (src:Ad P t tx e ti y d.length vss.flatten w) (C:cn w (AA c w O) (P.cellsOf e) d vss) (hrl:i'.real=true:=by rfl):
  ∃v w' ρ' O',(Builtin.append_ #[t,tx] ty #[.slice base xs.length cap,y]).run P w= .ok v w'/\Le w ρ O w' ρ' O'/\ρ' i'=some v/\
   HS c w' (aF (aF h i' (some (.sl false (P.cellsOf e) (b && d.isEmpty) (xs++d)))) i (some .dead)) ρ' O':=by
 obtain⟨ti',zv,M,hzv,hof⟩:=lQ hz;rw [L] at M;cases M;have n:P.cellsOf e=ti.size:=by simp [Program.cellsOf,L]
 have hne:i'≠i:=λe=>U (e▸D);obtain⟨l1,l2⟩:=C.length;by_cases r:xs.length+d.length<=cap
 .rcases x with x | ⟨ae,off,arr,F,rfl,R,K,o,B⟩
  ·
   subst x;have Z:xs= []:=MW.1 (by omega);have ey:d= []:=MW.1 (by omega);subst Z;subst ey;have ev:vss= []:=by simpa using l1
   subst ev;obtain⟨H,I⟩:=HS.move (hrl:=hrl) (w':=w) hs U D (.slice base 0 0) none rfl rfl rfl (M2 _) (λ_ _ _=>rfl) (.inl rfl) (.sl false (P.cellsOf e) (b && true) []) (by
    refine⟨_,by rw [aA];rfl,⟨base,0,rfl,by simp, ?_,E, .inl rfl⟩,by simp⟩;simpa using hnil)
   refine⟨_,w,_,_, ?_,H,by rw [aA],by simpa using I⟩;exact src.idle rfl ty base 0 0 (M2 _)
  ·
   rw [n] at o;have Q:=src.wB ty ae off xs.length cap arr F K r o;have S:∀k,k < w.heap.size->O i≠some k->(w.setRow ae (cb (off+xs.length * ti.size) vss.flatten arr.toList).toArray).heap[k]? =w.heap[k]?:=λk _ hk=>setRow_other w ae k _ (λe=>hk (e▸R));have N:off+xs.length * ti.size+vss.flatten.length<=arr.toList.length:=by have l3:arr.toList.length=arr.size:=M1;rw [l2,n,l3];have hm:(xs.length+d.length) * ti.size<=cap * ti.size:=Nq _ r;rw [Oh] at hm;omega
   obtain⟨H,I⟩:=HS.move (hrl:=hrl) (w':=w.setRow ae (cb (off+xs.length * ti.size) vss.flatten arr.toList).toArray) hs U D (.slice (some ⟨ae,off,none⟩) (xs.length+d.length) cap) (O i) rfl rfl rfl (by rw [nP];exact M2 _) S (.inr (.inl rfl))
    (.sl false (P.cellsOf e) (b && d.isEmpty) (xs++d)) (by
     refine⟨_,by rw [aA],⟨some ⟨ae,off,none⟩,cap,by simp,by simpa using r, ?_,E, .inr ⟨ae,off,_,F,rfl, ?_,setRow_heap w ae arr _ F (0,0) K, ?_, ?_⟩⟩,by simp⟩
     .have:b=false:=by cases b <;> simp_all
      simp [this]
     .simpa using R
     .simp only [NI];rw [nN _ _ _ N,n];simpa using o
     .have u:∀p,(w.setRow ae (cb (off+xs.length * ti.size) vss.flatten arr.toList).toArray).cell? ⟨ae,p,none⟩=if off+xs.length * ti.size<=p/\p < off+xs.length * ti.size+vss.flatten.length then vss.flatten[p - (off+xs.length * ti.size)]? else w.cell? ⟨ae,p,none⟩:=by
       intro p;rw [qd K,On,pg _ _ _ N,iZ K];simp
      have J:∀m,AA c w O m->AA c (w.setRow ae (cb (off+xs.length * ti.size) vss.flatten arr.toList).toArray) (aF (aF O i none) i' (O i)) m/\(w.setRow ae (cb (off+xs.length * ti.size) vss.flatten arr.toList).toArray).heap[m]? =w.heap[m]?:=by
       intro m g;refine⟨⟨g.1,by rw [nP];exact g.2.1,λj l=> ?_⟩,setRow_other w ae m _ (λe=>g.2.2 i (e▸R))⟩;by_cases z:j=i'
       .subst z;rw [aA] at l;exact g.2.2 i l
       .rw [au _ _ z] at l;by_cases G:j=i
        .subst G;rw [aA] at l;cases l
        .rw [au _ _ G] at l;exact g.2.2 j l
      refine a8.append (a8.cells J (λp h1 h2=> ?_) B) ?_
      .rw [n] at h2;rw [u,if_neg (by omega)]
      .refine a8.jg (cn.mono J C) (λp v W=> ?_);have hlt:=(My.1 W).1;rw [n,u,if_pos (by omega),show off+xs.length * ti.size+p - (off+xs.length * ti.size)=p by omega];exact W)
   exact⟨_,_,_,_,Q,H,by rw [aA],I⟩
 ·
  have V:(xs.length+d.length) * ti.bytes<=140737488355328:=by
   have z:P.bytesOf e=ti.bytes:=by simp [Program.bytesOf,L]
   rw [<-z];exact vZ Y hby
  have hold:∃f:List (List Value),cn w (AA c w O) (P.cellsOf e) xs f/\(Builtin.firstCells ti.size xs.length (.slice base xs.length cap)).run P w.drew= .ok f.flatten.toArray w.drew:=by
   rcases x with x | ⟨ae,off,arr,F,rfl,R,K,o,B⟩
   .have Z:xs= []:=MW.1 (by omega);subst Z;refine⟨[],rfl, ?_⟩;cases base with
    | none=>exact run_firstCells_none w.drew _ _ _ _
    | some a=>exact run_firstCells_some w.drew _ 0 a _ _ [] (by simp) (by simp)
   .obtain⟨f,k1,k2⟩:=B.bf;refine⟨f,k1, ?_⟩;obtain⟨m1,m2⟩:=k1.length;exact run_firstCells_some w.drew _ _ _ _ _ _ (by rw [m2,n]) (λj v l=>by rw [fx];simpa using k2 j v l)
  obtain⟨f,X,ho2⟩:=hold;have q:cap < xs.length+d.length:=by omega
  have Q:=src.grow ty zv base xs.length cap f.flatten hzv ho2 q (by have:=wc Y;omega) (growslice_fits q V);obtain⟨m1,m2⟩:=X.length;have hzs:zv.cells.size=ti.size:=by have:=(my (w:=w) (A:=AA c w O) hof).length;rw [M1] at this;rw [this,hzl,n]
  have ys0:d.isEmpty=false:=by
   cases d with
   | nil=>simp at q;omega
   | cons=>rfl
  have hge:=grownCap_ge w (xs.length+d.length) cap e;obtain⟨H,I⟩:=HS.move (hrl:=hrl) (w':=w.drew.alloc (.cells ((f.flatten++vss.flatten).toArray++Builtin.zeroCells zv.cells (grownCap w (xs.length+d.length) cap e - (xs.length+d.length))) e)) hs U D
   (.slice (some ⟨w.heap.size,0,none⟩) (xs.length+d.length) (grownCap w (xs.length+d.length) cap e)) (some w.heap.size) rfl rfl rfl (by simp) (λk hk _=>Ni w.drew _ k hk) (.inr (.inr ⟨rfl,by simp⟩))
   (.sl false (P.cellsOf e) (b && d.isEmpty) (xs++d)) (by
    refine⟨_,by rw [aA],⟨some ⟨w.heap.size,0,none⟩,grownCap w (xs.length+d.length) cap e,by simp,by simpa using hge,by simp [ys0],trivial, .inr ⟨w.heap.size,0,_,e,rfl,by simp,ja (w:=w.drew) _, ?_, ?_⟩⟩,by simp⟩
    .simp only [OZ,NI,Ny,m2,l2,size_zeroCells,hzs,n,<-Oh,Nc];exact Nq _ (by omega)
    .have J:∀m,AA c w O m->AA c (w.drew.alloc (.cells ((f.flatten++vss.flatten).toArray++Builtin.zeroCells zv.cells (grownCap w (xs.length+d.length) cap e - (xs.length+d.length))) e)) (aF (aF O i none) i' (some w.heap.size)) m/\(w.drew.alloc (.cells ((f.flatten++vss.flatten).toArray++Builtin.zeroCells zv.cells (grownCap w (xs.length+d.length) cap e - (xs.length+d.length))) e)).heap[m]? =w.heap[m]?:=by
      intro m g;refine⟨⟨g.1,by have:=g.2.1;simp;omega,λj l=> ?_⟩,Ni w.drew _ m g.2.1⟩;by_cases z:j=i'
      .subst z;rw [aA] at l;cases l;exact NQ _ g.2.1
      .rw [au _ _ z] at l;by_cases G:j=i
       .subst G;rw [aA] at l;cases l
       .rw [au _ _ G] at l;exact g.2.2 j l
     refine a8.jg (vss:=f++vss) (cn.append (cn.mono J X) (cn.mono J C)) (λp v W=> ?_);refine(iZ (w:=w.drew.alloc _) (b:=w.heap.size) (ja (w:=w.drew) _) _).trans ?_;rw [Nc];exact wz _ _ _ p v (by simpa using W))
  exact⟨_,_,_,_,Q,H,by rw [aA],I⟩
theorem D6{t W ty e:TypeId}{ti:TypeInfo}{Y:List T}{y H:Value}{i':Id}{b:Bool}{g:List (List T)}{vss:List (List Value)}
  (hs:HS c w h ρ O) (B:h i'=none) (ht:P.underlying t=some (.slice e)) (hz:gy P e=some Y) (R:Y.length=P.cellsOf e) (J:P.bytesOf e<=8192)
  (C:ma (P.bytesOf e) g.length) (Q:ay w A (.af b) H)
  (m:P.info? e=some ti) (src:Ad P t W e ti y g.length vss.flatten w) (l:cn w (AA c w O) (P.cellsOf e) g vss) (hrl:i'.real=true:=by rfl):
  ∃v w' ρ' O',(Builtin.append_ #[t,W] ty #[H,y]).run P w= .ok v w'/\Le w ρ O w' ρ' O'/\ρ' i'=some v/\
   HS c w' (aF h i' (some (.sl false (P.cellsOf e) (b && g.isEmpty) g))) ρ' O':=by
 obtain⟨ti',zv,o,U,M⟩:=lQ hz;rw [m] at o;cases o;have D:P.cellsOf e=ti.size:=by simp [Program.cellsOf,m]
 obtain⟨l1,l2⟩:=l.length;obtain⟨base,rfl,F,z⟩:∃base,H= .slice base 0 0/\(base=none↔b=true)/\True:=by
  simp only [ay] at Q;rcases Q with⟨rfl,rfl⟩ | ⟨rfl,ae,off,sp,rfl⟩
  .exact⟨none,rfl,by simp,trivial⟩
  .exact⟨some _,rfl,by simp,trivial⟩
 by_cases E:g= []
 .subst E;have ev:vss= []:=by simpa using l1
  subst ev;have le:Le w ρ O w (aF ρ i' (some (.slice base 0 0))) (aF O i' none):=by
   refine⟨rfl,rfl,rfl,M2 _,λj u f=> ?_,λb I hn=>rfl,λj b f=> ?_⟩
   .by_cases e:j=i'
    .subst e;rw [(hs.cj _ hrl B).1] at f;cases f
    .rw [au _ _ e];exact f
   .by_cases e:j=i'
    .subst e;rw [aA] at f;cases f
    .rw [au _ _ e] at f;exact .inl ⟨j,f⟩
  refine⟨.slice base 0 0,w,_,_,src.idle rfl ty base 0 0 (M2 _),le,by rw [aA], ?_⟩;have gk:GK w ρ O w (aF ρ i' (some (.slice base 0 0))) (aF O i' none):=λj n=>⟨au _ _ (aN hrl),au _ _ (aN hrl),λ_ _=>rfl⟩;refine hs.go le gk (λj b' f=> ?_) (λj K f=> ?_) (λj f=> ?_) (λj n=>by rw [au _ _ (aN hrl)];exact hs.dr j n) (λj k d f r=> ?_) (λj d f=> ?_)
  .by_cases e:j=i'
   .subst e;rw [aA] at f;cases f;right;refine⟨_,by rw [aA];rfl,⟨base,0,rfl,by simp, ?_,z, .inl rfl⟩,by simp⟩;simpa using F
   .rw [au _ _ e] at f;exact .inl ⟨f,au _ _ e,λ_ _=>rfl⟩
  .by_cases e:j=i'
   .subst e;rw [aA] at f;cases f
   .rw [au _ _ e] at f;rw [au _ _ e,au _ _ e];exact hs.cj j K f
  .by_cases e:j=i'
   .subst e;rw [aA] at f;cases f
   .rw [au _ _ e] at f;exact f
  .by_cases e:j=i'
   .subst e;rw [aA] at f;cases f
   .by_cases e':k=i'
    .subst e';rw [aA] at r;cases r
    .rw [au _ _ e] at f;rw [au _ _ e'] at r;exact hs.inj j k d f r
  .by_cases e:j=i'
   .subst e;rw [aA] at f;cases f
   .rw [au _ _ e] at f;exact hs.lt j d f
 .have G: 0 < g.length:=List.length_pos_iff.2 E;have x:(0+g.length) * ti.bytes<=140737488355328:=by
   have Z:P.bytesOf e=ti.bytes:=by simp [Program.bytesOf,m]
   rw [<-Z,Nc];exact vZ C J
  have L:(Builtin.firstCells ti.size 0 (.slice base 0 0)).run P w.drew= .ok ([]:List Value).toArray w.drew:=by
   cases base with
   | none=>exact run_firstCells_none w.drew _ _ _ _
   | some a=>exact run_firstCells_some w.drew _ 0 a _ _ [] (by simp) (by simp)
  have V:=src.grow ty zv base 0 0 [] U L (by omega) (by have:=wc C;omega) (growslice_fits (by omega) x);have S:zv.cells.size=ti.size:=by have:=(my (w:=w) (A:=AA c w O) M).length;rw [M1] at this;rw [this,R,D]
  have X:g.isEmpty=false:=by
   cases g with
   | nil=>simp at G
   | cons=>rfl
  have hge:=grownCap_ge w (0+g.length) 0 e;have q:Le w ρ O w.drew ρ O:=⟨rfl,rfl,rfl,M2 _,λ_ _ h=>h,λ_ _ _=>rfl,λi b h=> .inl ⟨i,h⟩⟩;have N:HS c w.drew h ρ O:=hs.world q λ_ _ _=>rfl;obtain⟨g1,g2⟩:=N.tC (hrl:=hrl) (sz:=P.cellsOf e) B e (([] ++vss.flatten).toArray++Builtin.zeroCells zv.cells (grownCap w (0+g.length) 0 e - (0+g.length))) (grownCap w (0+g.length) 0 e) (cn.mono (λb I=>q.A b I) l)
   (λp v hp=>wz _ _ _ p v (by simpa using hp)) (by omega) (by
    simp only [OZ,NI,Oq,l2,size_zeroCells,S,D,<-Oh];exact Nq _ (by omega))
  refine⟨_,_,_,_,V,q.trans g1, ?_, ?_⟩
  .rw [aA,Nc];rfl
  .simpa [X] using g2
theorem DM(h:Id->Option ad)(i j:Id)(a b:ad):aJ h [(i,a),(j,b)]=aF (aF h i (some a)) j (some b):=rfl
theorem gO{d:Nat}{us:aB}{k:Nat}{b:ad}(a:gp d h us=true)(hm:(Id.s d k,b)∈us):h (.s d k)=none:=by have:=MR.1 a _ hm;simpa using this
set_option maxHeartbeats 1000000 in
theorem Cn{i i' x:Id}{d:Nat}{v vk:Value}(a:x.real=true)(b:x≠i'):gu ρ i i' d v vk x=ρ x:=by
 unfold gu;rw [if_neg b];cases x with
 | g y n=>cases a
 | _=>rfl
theorem Cm{i i':Id}{a:Nat}{v vk:Value}:gu ρ i i' a v vk i'=some v:=by unfold gu;rw [if_pos rfl]
theorem xe{i i' y:Id}{n b:Nat}{v vk:Value}(hrl:i'.real=true)(a:y≠i'):gu ρ i i' b v vk (.g y n)=ρ (.g y n):=by unfold gu;rw [if_neg (aN hrl)];simp only [if_neg a]
theorem xd{i i' j src:Id}{a:Nat}{ob:Option Nat}(h:src≠i'):dM O i i' j src a ob src=none:=by unfold dM;rw [if_neg h,if_pos (.inr (.inr rfl))]
theorem JS{i i' j src x:Id}{d:Nat}{ob:Option Nat}(a:x.real=true)(b:x≠i')(e:x≠i)(f:x≠j)(k:x≠src):dM O i i' j src d ob x=O x:=by
 unfold dM;rw [if_neg b,if_neg (by rintro(h | h | h) <;> contradiction)];cases x with
 | g y n=>cases a
 | _=>rfl
theorem JT{i i' j src y:Id}{n k:Nat}{ob:Option Nat}(a:i.real=true)(b:j.real=true)(hrl:i'.real=true)(f:y≠i')(d:y≠i)(e:Id.g y n≠src):dM O i i' j src k ob (.g y n)=O (.g y n):=by unfold dM;rw [if_neg (aN hrl),if_neg (by rintro(h | h | h);exact aN a h;exact aN b h;exact e h)];simp only [if_neg f,if_neg d]
theorem cG.gone{i i' j a:Id}{n H:Nat}{ob:Option Nat}{v vk:Value}{b:Bool}{sz col rsz L:Nat}{es:List Row}{p:Bool×List (List T)}(hs:HS c w h ρ O)(J:i.real=true)(W:j.real=true)(hrl:i'.real=true)(U:h a=some (.rows b sz col rsz L es))(l:a≠i')(C:a≠i)(V:a≠j)(hf:cq n es=some p)
  (S:∀d,AA c w O d->AA c w' (dM O i i' j (.g a n) H ob) d/\w'.heap[d]? =w.heap[d]?) (r:∀x d,x≠i->O x=some d->w'.heap[d]? =w.heap[d]?):
  cG w' (AA c w' (dM O i i' j (.g a n) H ob)) (gu ρ i i' H v vk) (dM O i i' j (.g a n) H ob) a (.rows b sz col rsz L (cH n none es)):=by
 have G:=hs.real (i:=a) (by rw [U];simp);obtain⟨k,e,B,I,heo,N⟩:=sQ hf;obtain⟨a',cap,r1,r2,r3,⟨X,Y,n3,n4⟩,Q⟩:=hs.ae a _ U;have R:∀m,m≠n->dM O i i' j (.g a n) H ob (.g a m)=O (.g a m):=λm hm=>JT J W hrl l C (by intro h;simp only [Id.g.injEq] at h;exact hm h.2);have K:(.g a n:Id)≠i':=aN hrl;rw [N];have E:(es.set k {e with own:=none}).length=es.length:=by simp
 have F:(es.set k {e with own:=none}).map (·.n)=es.map (·.n):=by
  rw [Pr];refine NJ λm=> ?_;rw [NT];split
  .rename_i h;subst h;have:=(My.1 B).1;rw [if_pos (by simpa using this)];simp [B]
  .rfl
 refine⟨a',cap,by rw [E,Cn G l];exact r1,by rw [E];exact r2,r3,⟨by rw [F];exact X,λf o=> ?_,λm hm=>by rw [xe hrl l];exact n3 m hm,λm d z=> ?_⟩, ?_⟩
 .rcases N8 o with o | rfl
  .exact Y f o
  .exact Y e (MD B)
 .by_cases hm:m=n
  .subst hm;rw [xd K] at z;cases z
  .rw [R m hm] at z;obtain⟨f,o,D⟩:=n4 m d z;have:m∈(es.set k {e with own:=none}).map (·.n):=by rw [F];exact M7.2 ⟨f,o,D⟩
   obtain⟨f',h1,h2⟩:=M7.1 this;exact⟨f',h1,h2⟩
 .rcases Q with Q | ⟨ae,off,arr,t,q1,Z,q3,q4,q5⟩
  .exact .inl Q
  .have q:w'.heap[ae]? =w.heap[ae]?:=r a ae C Z;refine .inr ⟨ae,off,arr,t,q1,by rw [JS G l C V (aN G).symm];exact Z,by rw [q];exact q3,q4, ?_⟩;have M:=q5.get B;refine cg.set S (My.1 B).1 (λ_ _ _ _=>kQ q) (λm f hm o=> ?_) ?_ q5
   .have D:f.n≠n:=λh=>hm (qN X o B (by rw [h,I]));exact⟨xe hrl l,R _ D,λd z=>r _ d (aN J) z⟩
   .obtain⟨a1,a2,a3,u,a4,a5,a7⟩:=M;refine⟨a1,a2,λm y hm hy=> ?_,u,by rw [kQ q];exact a4,by rw [xe hrl l];exact a5, ?_⟩
    .obtain⟨u',g1,g2⟩:=a3 m y hm hy;exact⟨u',by rw [kQ q];exact g1,ay.mono S y u' g2⟩
    .simp only;rw [I];exact xd K
theorem x5:∀{cs:List AV} {l:List T},dz cs=some l->l.length=cs.length/\∀(j:Nat) (x:T),l[j]? =some x->cs[j]? =some (AV.t x)
 | [],l,h=>by simp only [dz,Mt] at h;subst h;simp
 | v::cs,l,h=>by
  cases v <;> simp only [dz,reduceCtorEq] at h;rename_i x;obtain⟨f,e,h⟩:=Mu.1 h;simp only [Mt] at h;subst h;obtain⟨b,d⟩:=x5 e;refine⟨by simp [b],λj y a=> ?_⟩;cases j with
  | zero=>simpa using a
  | succ j=>simpa using d j y (by simpa using a)
theorem D5{R:Type}{d:Nat}{t ty tr e e':TypeId}{ti:TypeInfo}{zs:List T}{i j:Id}{b:Bool}{sz col rsz F:Nat}{es:List Row}{cs:List AV}{vx vy:Value}{K:AV->aB->Option R}{r:R}(hs:HS c w s.h ρ O)
  (ht:P.underlying t=some (.slice e)) (hty:P.underlying ty=some (.slice e')) (hz:gy P e=some zs) (hzl:zs.length=P.cellsOf e) (hby:P.bytesOf e<=8192) (hti:P.info? e=some ti)
  (hi:s.h i=some (.rows b sz col rsz F es)) (hj:s.h j=some (.arr cs)) (hx:ρ i=some vx) (hy:ρ j=some vy) (f:mY P s d e i sz col rsz F es j cs K=some r):
  ∃v us,K v us=some r/\(gp d s.h us=true->∃u w' ρ' O',(Builtin.append_ #[t,ty] tr #[vx,vy]).run P w= .ok u w'/\Le w ρ O w' ρ' O'/\HS c w' (aJ s.h us) ρ' O'/\aj w' (AA c w' O') ρ' v u):=by
 obtain⟨ti',zv,hti',hzv,hof⟩:=lQ hz;rw [hti] at hti';cases hti';have C:P.cellsOf e=ti.size:=by simp [Program.cellsOf,hti]
 unfold mY at f;split at f
 .rename_i hcond;obtain⟨rfl,c1,c2,c3⟩:=hcond;replace f:=Mu.1 f;obtain⟨l,hl,f⟩:=f;obtain⟨bj,q,tj,h1,h2,h3,h4,h5⟩:=hs.ae j _ hj;rw [hy] at h1;cases h1;obtain⟨a,cap,r1,r2,r3,r4,r5⟩:=hs.ae i _ hi;rw [hx] at r1;cases r1;have hri:=hs.real (i:=i) (by rw [hi];simp);have hrj:=hs.real (i:=j) (by rw [hj];simp);have hnl:q.toList.length=1 * ti.size:=by rw [h4.length,c1,C];omega
  obtain⟨ll,lg⟩:=x5 hl;have src:Ad P t ty e ti (.slice (some ⟨bj,0,none⟩) 1 1) 1 q.toList w:= .qQ ht hti (Src.ofSlice w hty ⟨bj,0,none⟩ 1 1 _ hnl (λp u y=>by
   rw [fx,Nc,iZ h3];simpa using y) (λu hu=>(h5 u hu).1))
  have H:∀n,bg (P.bytesOf e) n=some ()->ma (P.bytesOf e) n:=by
   intro n hn;unfold bg at hn;split at hn
   .assumption
   .simp at hn
  have key:∀(z s0:Id) (bb:Bool) (xs:List (List T)) (vk:Value) (X:ad),s.h s0≠none->s0≠i->s0≠j->(z=s0\/∃n,z= .g s0 n)->ρ z=some vk->cz w (AA c w O) rsz bb xs vk (λd=>O z=some d)->
    q.toList[col]? =some vk->bg (P.bytesOf e) (es.length+1)=some ()->s.h (.s d 0)=none->
    (∀w' ob v,(∀D,AA c w O D->AA c w' (dM O i (.s d 0) j z F ob) D/\w'.heap[D]? =w.heap[D]?)->(∀x D,x≠i->O x=some D->w'.heap[D]? =w.heap[D]?)->cG w' (AA c w' (dM O i (.s d 0) j z F ob)) (gu ρ i (.s d 0) F v vk) (dM O i (.s d 0) j z F ob) s0 X)->
    ∃u w' ρ' O',(Builtin.append_ #[t,ty] tr #[.slice a es.length cap, .slice (some ⟨bj,0,none⟩) 1 1]).run P w= .ok u w'/\Le w ρ O w' ρ' O'/\
     HS c w' (aF (aF (aF (aF s.h i (some .dead)) j (some .dead)) s0 (some X)) (.s d 0) (some (.rows false (P.cellsOf e) col rsz (F+1) (es++ [⟨F,l,some (bb,xs)⟩])))) ρ' O'/\aj w' (AA c w' O') ρ' (.own (.s d 0)) u:=by
   intro z s0 bb xs vk X q1 q2 q3 q4 q5 q6 q7 Z o hX;have hlr:l.length=P.cellsOf e:=by rw [ll,OU,c1]
   have hnr:∀m x,m≠col->l[m]? =some x->∃v,q.toList[m]? =some v/\ay w (AA c w O) x v:=by intro m x hm hx;have:=lg m x hx;rw [NT,if_neg (O9 hm)] at this;obtain⟨v,I,J⟩:=h4.get this;exact⟨v,I,by simpa [aj] using J⟩
   by_cases L:es.length+1<=cap
   .rcases r5 with r5 | ⟨ae,off,arr,t',k1,k2,k3,k4,k5⟩
    .omega
    .subst k1;have hm:(es.length+1) * ti.size<=cap * ti.size:=Nq _ L;rw [Oh] at hm;rw [C] at k4;have run:=src.wB tr ae off es.length cap arr t' k3 L k4;have lfit:off+es.length * ti.size+q.toList.length<=arr.toList.length:=by rw [hnl,M1 (xs:=arr)];omega
     have N:∀p,(w.setRow ae (cb (off+es.length * ti.size) q.toList arr.toList).toArray).cell? ⟨ae,p,none⟩=if off+es.length * ti.size<=p/\p < off+es.length * ti.size+q.toList.length then q.toList[p - (off+es.length * ti.size)]? else w.cell? ⟨ae,p,none⟩:=by intro p;rw [qd k3,On,pg _ _ _ lfit,iZ k3];simp
     obtain⟨I,J⟩:=HS.Cl (i':= .s d 0) (j:=j) (src:=z) (s0:=s0) (bb:=bb) (xs:=xs) (vk:=vk) (X:=X) (ae:=ae) (blk':=ae) (off:=off) (off':=off) (cap':=cap) (ob:=O i) (news:=q.toList) (l:=l) (w':=w.setRow ae (cb (off+es.length * ti.size) q.toList arr.toList).toArray)
      hs hi o rfl (by rw [hj];simp) (O9 c3) q1 q2 q3 q4 q5 q6 rfl rfl rfl (by rw [nP];exact M2 _) (λk _ f=>setRow_other w ae k _ λe=>f (e▸k2)) (.inl rfl) k2 (setRow_heap w ae arr _ t' (0,0) k3) (by rw [NI,nN _ _ _ lfit,C];simpa using k4) L k5
      (λp y=>by rw [C] at y;have y:p < es.length * ti.size:=y;rw [N,if_neg (by omega)]) c2 hlr (λp v y=>by
       have Y:=(My.1 y).1;rw [C,N,if_pos (by omega),show off+es.length * ti.size+p - (off+es.length * ti.size)=p by omega];exact y) hnr q7
      (λhA=>hX _ _ _ hA λx D hx hd=>setRow_other w ae D _ λe=>hx (hs.inj x i D hd (e▸k2)))
     exact⟨_,_,_,_,run,I,J,by simp only [aj];exact Cm⟩
   .have hneed:(es.length+1) * ti.bytes<=140737488355328:=by
     have e1:P.bytesOf e=ti.bytes:=by simp [Program.bytesOf,hti]
     rw [<-e1];exact vZ (H _ Z) hby
    have hold:∃(B:List Value) (ae off:Nat),B.length=es.length * ti.size/\(Builtin.firstCells ti.size es.length (.slice a es.length cap)).run P w.drew= .ok B.toArray w.drew/\cg w (AA c w O) ρ O i ae (P.cellsOf e) col rsz off es/\∀p v,B[p]? =some v->w.cell? ⟨ae,off+p,none⟩=some v:=by
     rcases r5 with r5 | ⟨ae,off,arr,t',k1,k2,k3,k4,k5⟩
     .have ex:es= []:=MW.1 (by omega);subst ex;refine⟨[],0,0,by simp, ?_,trivial,by simp⟩;cases a with
      | none=>exact run_firstCells_none w.drew _ _ _ _
      | some a=>exact run_firstCells_some w.drew _ 0 a _ _ [] (by simp) (by simp)
     .subst k1;have hm:es.length * ti.size<=cap * ti.size:=Nq _ r2;rw [C] at k4;have hlen:((arr.toList.drop off).take (es.length * ti.size)).length=es.length * ti.size:=by rw [Nv,NH,M1 (xs:=arr)];omega
      have U:∀p v,((arr.toList.drop off).take (es.length * ti.size))[p]? =some v->w.cell? ⟨ae,off+p,none⟩=some v:=by
       intro p v y;rw [OV] at y;split at y
       .rw [OB] at y;rw [iZ k3];simpa using y
       .cases y
      refine⟨_,ae,off,hlen, ?_,k5,U⟩;exact run_firstCells_some w.drew _ _ _ _ _ _ hlen (λp v y=>by rw [fx];simpa using U p v y)
    obtain⟨B,ae,off,ho1,ho2,ho3,ho4⟩:=hold;have V:cap < es.length+1:=by omega
    have run:=src.grow tr zv a es.length cap B hzv ho2 V (by have:=wc (H _ Z);omega) (growslice_fits V hneed);have hzs:zv.cells.size=ti.size:=by have:=(my (w:=w) (A:=AA c w O) hof).length;rw [M1] at this;rw [this,hzl,C]
    have hge:=grownCap_ge w (es.length+1) cap e;have S:∀p v,(B++q.toList)[p]? =some v->(w.drew.alloc (.cells ((B++q.toList).toArray++Builtin.zeroCells zv.cells (grownCap w (es.length+1) cap e - (es.length+1))) e)).cell? ⟨w.heap.size,p,none⟩=some v:=by intro p v y;refine(iZ (w:=w.drew.alloc _) (b:=w.heap.size) (ja (w:=w.drew) _) _).trans ?_;exact wz _ _ _ p v y
    obtain⟨I,J⟩:=HS.Cl (i':= .s d 0) (j:=j) (src:=z) (s0:=s0) (bb:=bb) (xs:=xs) (vk:=vk) (X:=X) (ae:=ae) (blk':=w.heap.size) (off:=off) (off':=0) (cap':=grownCap w (es.length+1) cap e) (ob:=some w.heap.size) (news:=q.toList) (l:=l)
     (w':=w.drew.alloc (.cells ((B++q.toList).toArray++Builtin.zeroCells zv.cells (grownCap w (es.length+1) cap e - (es.length+1))) e))
     hs hi o rfl (by rw [hj];simp) (O9 c3) q1 q2 q3 q4 q5 q6 rfl rfl rfl (by simp) (λk f _=>Ni w.drew _ k f) (.inr ⟨rfl,by simp⟩) rfl (ja (w:=w.drew) _) (by
      simp only [OZ,NI,Ny,ho1,hnl,size_zeroCells,hzs,C,<-Oh,Nc];exact Nq _ (by omega)) hge ho3
     (λp y=>by
      rw [C] at y;have y:p < es.length * ti.size:=y;have Y:p < B.length:=by omega
      rw [Nc,ho4 p _ (MJ Y)];exact S p _ (by rw [Nb Y];exact MJ Y)) c2 hlr (λp v y=>by
      rw [C,Nc];refine S _ v ?_;rw [Nt (by omega),ho1,show es.length * ti.size+p - es.length * ti.size=p by omega];exact y) hnr q7
     (λhA=>hX _ _ _ hA λx D hx hd=>Ni w.drew _ D (hs.lt x D hd))
    exact⟨_,_,_,_,run,I,J,by simp only [aj];exact Cm⟩
  split at f
  .rename_i j2 Q;split at f
   .rename_i rsz' b' xs E;split at f
    .rename_i hrsz;subst hrsz;replace f:=aL f (.inl rfl);obtain⟨_,Z,f⟩:=f;refine⟨_,_,f,λo=> ?_⟩;have o:=gO o (k:=0) (b:= .rows false (P.cellsOf e) col rsz' (F+1) (es++ [⟨F,l,some (b',xs)⟩])) (by simp);obtain⟨vk,v1,M⟩:=h4.get Q;simp only [aj] at M;obtain⟨v',s1,s2⟩:=lL hs E;rw [M] at s1;cases s1;have hr2:=hs.real (i:=j2) (by rw [E];simp);have n2:j2≠ .s d 0:=λe=>by rw [e,o] at E;cases E
     obtain⟨u,w',ρ',O',I,J,g3,g4⟩:=key j2 j2 b' xs vk .dead (by rw [E];simp) (λe=>by rw [e,hi] at E;cases E) (λe=>by rw [e,hj] at E;cases E) (.inl rfl) M (by simpa using s2) v1 (by assumption) o
      (λw' ob v hA W=>⟨⟨vk,by rw [Cn hr2 n2];exact M,iL hs M⟩,xd n2⟩)
     exact⟨u,w',ρ',O',I,J,by rw [cD,cD,cD,dc];exact g3,g4⟩
    .simp at f
   .simp at f
  .rename_i a2 n Q;split at f
   .rename_i b2 sz2 col2 rsz2 nx2 es2 G;split at f
    .rename_i hc2;obtain⟨rfl,hai⟩:=hc2;replace f:=aL f (.inl rfl);obtain⟨p,y,f⟩:=f;replace f:=aL f (.inl rfl);obtain⟨_,Z,f⟩:=f;refine⟨_,_,f,λo=> ?_⟩;have o:=gO o (k:=0) (b:= .rows false (P.cellsOf e) col rsz2 (F+1) (es++ [⟨F,l,some p⟩])) (by simp);obtain⟨vk,v1,M⟩:=h4.get Q;simp only [aj] at M;obtain⟨v',s1,s2⟩:=tX hs G y;rw [M] at s1;cases s1;have n2:a2≠ .s d 0:=λe=>by rw [e,o] at G;cases G
     have n3:a2≠j:=λe=>by rw [e,hj] at G;cases G
     obtain⟨u,w',ρ',O',I,J,g3,g4⟩:=key (.g a2 n) a2 p.1 p.2 vk (.rows b2 sz2 col2 rsz2 nx2 (cH n none es2)) (by rw [G];simp) hai n3 (.inr ⟨n,rfl⟩) M s2 v1 (by assumption) o
      (λw' ob v hA W=>cG.gone hs hri hrj rfl G n2 hai n3 y hA W)
     exact⟨u,w',ρ',O',I,J,by rw [cD,cD,cD,dc];exact g3,g4⟩
    .simp at f
   .simp at f
  .simp at f
 .simp at f
theorem Ka{h:Id->Option ad}{x:AV}{q:Id×Nat×Nat×Nat×Nat×List Row}(e:xv h x=some q):x= .own q.1/\∃b,h q.1=some (.rows b q.2.1 q.2.2.1 q.2.2.2.1 q.2.2.2.2.1 q.2.2.2.2.2):=by
 unfold xv at e;split at e
 .split at e
  .rename_i a;simp only [Mt] at e;subst e;exact⟨rfl,_,a⟩
  .cases e
 .cases e
theorem JJ{h:Id->Option ad}{x:AV}{q:Id×List AV}(e:w6 h x=some q):x= .own q.1/\h q.1=some (.arr q.2):=by
 unfold w6 at e;split at e
 .split at e
  .rename_i a;simp only [Mt] at e;subst e;exact⟨rfl,a⟩
  .cases e
 .cases e
theorem D3{R:Type}{d:Nat}{rw:Bool}{t ty tr:TypeId}{x y:AV}{Y vy:Value}{K:AV->aB->Option R}{r:R}(hs:HS c w s.h ρ O)(l:aj w (AA c w O) ρ x Y)(hy:aj w (AA c w O) ρ y vy)
  (f:iW P s d rw t ty x y K=some r):
  ∃v us,K v us=some r/\(gp d s.h us=true->∃u w' ρ' O',(Builtin.append_ #[t,ty] tr #[Y,vy]).run P w= .ok u w'/\Le w ρ O w' ρ' O'/\HS c w' (aJ s.h us) ρ' O'/\aj w' (AA c w' O') ρ' v u):=by
 unfold iW at f;replace f:=Mu.1 f;obtain⟨e,he,f⟩:=f;replace f:=Mu.1 f;obtain⟨zs,I,f⟩:=f;obtain⟨N,hok⟩:=sL he;split at f
 .rename_i T;obtain⟨B,C⟩:=T;obtain⟨ti0,_,m,_,_⟩:=lQ I;split at f
  .rename_i i sz col rsz nx es j cs q E;cases rw with
   | false=>cases q
   | true=>
   obtain⟨rfl,b,G⟩:=Ka q;obtain⟨rfl,hj⟩:=JJ E;simp only [aj] at l hy;split at f
   .rename_i e' hu';exact D5 hs N hu' I C B m G hj l hy f
   .cases f
  rename_i hnr;clear hnr;replace f:=D9 hs N m (by simp [Program.cellsOf,m]) I C B hy f;obtain⟨ys,vss,f,src,F⟩:=f;have p:∀n,bg (P.bytesOf e) n=some ()->ma (P.bytesOf e) n:=by
   intro n hn;unfold bg at hn;split at hn
   .assumption
   .simp at hn
  clear he hok;revert f;rcases x with _ | z | _ | _ | _ | _ | i | ⟨i,sz'',off,n⟩ | _ | _ | _ <;> intro f <;> (try dsimp only at f) <;> (try cases f)
  case own=>
   split at f
   .rename_i sz' b xs G;split at f
    .rename_i M;subst M;replace f:=aL f (.inl rfl);obtain⟨_,k,f⟩:=f;refine⟨_,_,f,λg=> ?_⟩;have g:=gO g Mv;obtain⟨v',g1,a,cap,W,q2,q3,q4,J⟩:=lL hs G;simp only [aj] at l;rw [g1] at l;simp only [Mt] at l;subst l;subst W;obtain⟨v,w',ρ',O',q,E,e3,e4⟩:=ye (ty:=tr) hs (by rw [G];simp) g N I C B (p _ k) q2 q3 q4 (by
      rcases J with J | ⟨ae,off,arr,X,Q,k2,k3,V,k5⟩
      .exact .inl J
      .exact .inr ⟨ae,off,arr,X,Q,by simpa using k2,k3,V,k5⟩) m src F
     exact⟨v,w',ρ',O',q,E,by rw [DM];exact e4,by simp only [aj];exact e3⟩
    .simp at f
   .simp at f
  case part=>
   split at f
   .rename_i sz' b xs G;split at f
    .rename_i M;obtain⟨rfl,rfl⟩:=M;replace f:=aL f (.inl rfl);obtain⟨_,k,f⟩:=f;refine⟨_,_,f,λg=> ?_⟩;have g:=gO g Mv;obtain⟨v',g1,a,cap,W,q2,q3,q4,J⟩:=lL hs G;simp only [aj] at l;obtain⟨a1,L,D,a',Q,k2,k3,rfl,V⟩:=l;rw [g1] at Q;simp only [Mt] at Q;subst Q;simp only [Nw] at W;obtain⟨rfl,rfl,rfl⟩:=W;have H:((xs.drop off).take n).length=n:=by simp only [Nv,NH];omega
     have hnil:a'=none↔b=true:=by
      rw [<-q3];rcases V with⟨_,rfl⟩ | ⟨_,e5,_⟩ | ⟨Z,o,rfl,rfl⟩
      .exact OK
      .exact e5
      .simp
     have U:True:=trivial;obtain⟨v,w',ρ',O',q,E,e3,e4⟩:=ye (ty:=tr) (xs:=(xs.drop off).take n) (base:=a') (cap:=D - off) hs (by rw [G];simp) g N I C B (by rw [H];exact p _ k) (by rw [H];omega) hnil U (by
      rcases J with J | ⟨ae,off',arr,X,j1,j2,j3,j4,j5⟩
      .exact .inl (by omega)
      .subst j1;rcases V with⟨rfl,rfl⟩ | ⟨rfl,_⟩ | ⟨Z,o,e5,rfl⟩
       .exact .inr ⟨ae,off',arr,X,rfl,by simpa using j2,j3,by simpa using j4,by simpa using j5.take n⟩
       .exact .inl (by omega)
       .simp only [Mt,Ns] at e5;obtain⟨rfl,rfl,_⟩:=e5;refine .inr ⟨ae,_,arr,X,rfl,by simpa using j2,j3, ?_,(j5.drop off).take n⟩;have:(D - off) * P.cellsOf e+off * P.cellsOf e=D * P.cellsOf e:=by rw [<-Oh];congr 1;omega
        omega) m src F
     rw [H] at q;exact⟨v,w',ρ',O',q,E,by rw [DM];exact e4,by simp only [aj];exact e3⟩
    .simp at f
   .simp at f
  case t=>
   have core:∀b,ay w (AA c w O) (.af b) Y->(aa none (bg (P.bytesOf e) ys.length) λ_=>K (.own (.s d 0)) [(.s d 0, .sl false (P.cellsOf e) (b && ys.isEmpty) ys)])=some r->
     ∃v us,K v us=some r/\(gp d s.h us=true->∃u w' ρ' O',(Builtin.append_ #[t,ty] tr #[Y,vy]).run P w= .ok u w'/\Le w ρ O w' ρ' O'/\HS c w' (aJ s.h us) ρ' O'/\aj w' (AA c w' O') ρ' v u):=by
    intro b l f;replace f:=aL f (.inl rfl);obtain⟨_,k,f⟩:=f;refine⟨_,_,f,λg=> ?_⟩;have g:=gO g Mv;obtain⟨v,w',ρ',O',q,E,e3,e4⟩:=D6 (ty:=tr) hs g N I C B (p _ k) l m src F;exact⟨v,w',ρ',O',q,E,by rw [dc];exact e4,by simp only [aj];exact e3⟩
   simp only [aj] at l;replace f:=Mu.1 f;obtain⟨b,k,f⟩:=f;refine core b ?_ f;unfold BY at k;split at k
   .simp only [Mt] at k;subst k;exact l
   .rename_i sz Z xs;cases h:(Z && xs.isEmpty) with
    | false=>rw [h] at k;simp at k
    | true=>
     rw [h] at k;simp only [cond_true,Mt] at k;subst k;simp only [MB,Od] at h;simp only [ay] at l⊢;rcases l with⟨_,_,S⟩ | ⟨S,_⟩
     .exact .inl ⟨trivial,S⟩
     .rw [h.1] at S;cases S
   .cases k
 .simp at f
theorem H8{zv:Array Value}{sz:Nat}(a:zv.size=sz)(n:Nat):(madeCells zv (n * sz)).toList= (List.replicate n zv.toList).flatten:=by
 refine NJ λp=> ?_;by_cases d:p < n * sz
 .have b:p < (List.replicate n zv.toList).flatten.length:=by simpa [a] using d
  have:=wO a n n (M2 _) p _ (MJ b);rw [Nn,this,MJ b]
 .rw [N6 (by simp [madeCells];omega),N6 (by simp [a];omega)]
theorem BZ{rsz:Nat}{i:Id}{ae:Nat}:∀{k n base:Nat},(∀m,m < n->w.cell? ⟨ae,base+m,none⟩=some (.slice none 0 0))->(∀m,k<=m->m < k+n->ρ (.g i m)=some (.slice none 0 0))->
  cg w A ρ O i ae 1 0 rsz base ((List.range' k n).map λk=>⟨k,[.ao],some (true,[])⟩)
 | k,0,base,_,_=>trivial
 | k,n+1,base,a,b=>by
  rw [OM,Nh];refine⟨⟨rfl,by omega,λj x l d=> ?_,_,a 0 (by omega),b k (by omega) (by omega),⟨none,0,rfl,by simp,by simp,trivial, .inl rfl⟩⟩,BZ (λm hm=> ?_) (λm e f=>b m (by omega) (by omega))⟩
  .have:j < 1:=by simpa using (My.1 d).1
   omega
  .have:=a (m+1) (by omega);rw [show base+1+m=base+ (m+1) by omega];exact this
theorem HS.JC{i:Id}{N cap rsz:Nat}{cells:Array Value}(hs:HS c w h ρ O)(B:h i=none)(t:TypeId)(G:∀p,p < N->cells[p]? =some (.slice none 0 0))(K:cap<=cells.size)(F:N<=cap)(hrl:i.real=true:=by rfl):
  ∃ρ' O',Le w ρ O (w.alloc (.cells cells t)) ρ' O'/\HS c (w.alloc (.cells cells t)) (aF h i (some (.rows false 1 0 rsz N (nF N)))) ρ' O'/\ρ' i=some (.slice (some ⟨w.heap.size,0,none⟩) N cap):=by
 let V:Id->Option Value:=λx=>if x=i then some (.slice (some ⟨w.heap.size,0,none⟩) N cap) else match x with
  | .g y n=>if y=i then(if n < N then some (.slice none 0 0) else none) else ρ (.g y n)
  | x=>ρ x
 have C:V i=some (.slice (some ⟨w.heap.size,0,none⟩) N cap):=by simp only [V,if_true]
 have D:∀x,x.real=true->x≠i->V x=ρ x:=by
  intro x o a;simp only [V,if_neg a];cases x with
  | g y n=>cases o
  | _=>rfl
 have r:∀y n,y≠i->V (.g y n)=ρ (.g y n):=by intro y n l;simp only [V,if_neg (aN hrl),if_neg l]
 have z:∀n,V (.g i n)=if n < N then some (.slice none 0 0) else none:=by intro n;simp only [V,if_neg (aN hrl),if_true]
 have E:∀n,O (.g i n)=none:=λn=>(hs.eD i n B).2;have le:Le w ρ O (w.alloc (.cells cells t)) V (aF O i (some w.heap.size)):=by
  refine⟨rfl,rfl,rfl,by simp,λx u a=> ?_,λd j _=>Ni _ _ _ j,λx d a=> ?_⟩
  .cases o:x.real with
   | true=>
    have:x≠i:=λe=>by rw [e,(hs.cj i hrl B).1] at a;cases a
    rw [D x o this];exact a
   | false=>
    cases x with
    | g y n=>
     have:y≠i:=λe=>by rw [e,(hs.eD i n B).1] at a;cases a
     rw [r y n this];exact a
    | _=>cases o
  .by_cases e:x=i
   .rw [e,aA] at a;cases a;exact .inr (M2 _)
   .rw [au _ _ e] at a;exact .inl ⟨x,a⟩
 have v:(nF N).length=N:=by simp [nF]
 refine⟨V,_,le,hs.me le (λx y a=> ?_) (λx o a=> ?_) (λx n=>by rw [au _ _ (aN hrl)];exact hs.dr x n) (λx n a=> ?_) (λx n u q=> ?_) (λx y d a l=> ?_) (λx d a=> ?_),C⟩
 .by_cases e:x=i
  .subst e;rw [aA] at a;cases a;right;refine⟨_,cap,by rw [v];exact C,by rw [v];exact F,by simp,⟨?_,λf H=> ?_,λn L=>by rw [z,if_neg (by omega)],λn d j=> ?_⟩, .inr ⟨w.heap.size,0,cells,t,rfl,by rw [aA],ja _,by omega, ?_⟩⟩
   .have:(nF N).map (·.n)=List.range N:=by
     unfold nF;rw [List.map_map];exact List.map_id _
    rw [this];exact List.nodup_range
   .obtain⟨k,I,rfl⟩:=M7.1 H;simpa using I
   .rw [au _ _ (aN hrl),E] at j;cases j
   .unfold nF;rw [Pc];refine BZ (λm hm=> ?_) (λm _ hm=>by rw [z,if_pos (by omega)]);rw [iZ (ja _),Nc];exact G m hm
  .rw [au _ _ e] at a;have J:=hs.real (i:=x) (by rw [a];simp);exact .inl ⟨a,au _ _ e,λd j=>Ni _ _ _ (hs.lt x d j),λn=>⟨r x n e,au _ _ (aN hrl),λd j=>Ni _ _ _ (hs.lt _ d j)⟩⟩
 .have b:x≠i:=λe=>by rw [e,aA] at a;cases a
  rw [au _ _ b] at a;rw [D x o b,au _ _ b];exact hs.cj x o a
 .have b:x≠i:=λe=>by rw [e,aA] at a;cases a
  rw [au _ _ b] at a;rw [r x n b,au _ _ (aN hrl)];exact hs.eD x n a
 .by_cases b:x=i
  .subst b;rw [z] at q;split at q
   .simp only [Mt] at q;subst q;exact⟨rfl,rfl⟩
   .cases q
  .rw [r x n b] at q;exact hs.gone x n u q
 .by_cases e:x=i <;> by_cases e':y=i
  .rw [e,e']
  .rw [e,aA] at a;cases a;rw [au _ _ e'] at l;exact absurd (hs.lt _ _ l) (NQ _)
  .rw [e',aA] at l;cases l;rw [au _ _ e] at a;exact absurd (hs.lt _ _ a) (NQ _)
  .rw [au _ _ e] at a;rw [au _ _ e'] at l;exact hs.inj x y d a l
 .by_cases e:x=i
  .rw [e,aA] at a;cases a;simp
  .rw [au _ _ e] at a;have:=hs.lt x d a;simp;omega
theorem Ia{R:Type}{d:Nat}{t:TypeId}{ns:Nat}{n m:T}{vn vm:Value}{K:AV->aB->Option R}{r:R}(hs:HS c w s.h ρ O)(I:aj w (AA c w O) ρ (.t n) vn)(hm:aj w (AA c w O) ρ (.t m) vm)
  (a:o7 P d t ns n m K=some r):
  ∃v us,K v us=some r/\(gp d s.h us=true->∃u w' ρ' O',(Instr.makeSlice t vn vm).run P w= .ok u w'/\Le w ρ O w' ρ' O'/\HS c w' (aJ s.h us) ρ' O'/\aj w' (AA c w' O') ρ' v u):=by
 unfold o7 at a;replace a:=Mu.1 a;obtain⟨e,W,a⟩:=a;replace a:=Mu.1 a;obtain⟨zs,M,a⟩:=a;obtain⟨L,Y⟩:=sL W;replace a:=aL a (.inl rfl);obtain⟨Q,J,a⟩:=a;replace a:=aL a (.inl rfl);obtain⟨j,H,a⟩:=a;have:=T.eR J;subst this;have:=T.eR H;subst this;simp only [aj,ay] at I hm;subst I;subst hm;split at a
 .rename_i B;obtain⟨C,x⟩:=B;replace a:=aL a (.inl rfl);obtain⟨_,V,a⟩:=a;obtain⟨h0,E,F⟩:=BK V;cases D:(ns==2) with
  | true=>
   simp only [D,cond_true] at a;split at a
   .rename_i u Z;split at a
    .rename_i G;refine⟨_,_,a,λb=> ?_⟩;have b:=gO b Mv;obtain⟨zv,g,z⟩:=CU (w:=w) (A:=AA c w O) (kn:= .i64) (km:= .i64) L M C x h0 E F;have y:zv.cells.size=P.cellsOf e:=by have:=g.length;rw [M1] at this;omega
     have N:zv.cells.toList= [.slice none 0 0]:=by
      obtain⟨v,q,S,f,l⟩:=g;simp only [aQ] at l;rw [S,l];simp only [ay] at f;rcases f with⟨_,f⟩ | ⟨f,_⟩
      .rw [f]
      .cases f
     have o:∀p,p < Q.toNat->(madeCells zv.cells (j.toNat * P.cellsOf e))[p]? =some (.slice none 0 0):=by
      intro p hp;rw [<-Nn,H8 y,N];have:(List.replicate j.toNat [Value.slice none 0 0]).flatten=List.replicate j.toNat (.slice none 0 0):=by
       induction j.toNat with
       | zero=>rfl
       | succ k X=>rw [NV,NY,X];rfl
      rw [this,List.getElem?_replicate,if_pos (by omega)]
     obtain⟨ρ',O',f,l,U⟩:=hs.JC (i:= .s d 0) (rsz:=P.cellsOf u) b e o (cap:=j.toNat) (by simp [madeCells,G]) (by omega);refine⟨_,_,ρ',O',z,f, ?_, ?_⟩
     .rw [dc];with_reducible exact l
     .simp only [aj];exact U
    .simp at a
   .simp at a
  | false=>
  simp only [D,cond_false] at a;refine⟨_,_,a,λb=> ?_⟩;have b:=gO b Mv;obtain⟨zv,g,z⟩:=CU (w:=w) (A:=AA c w O) (kn:= .i64) (km:= .i64) L M C x h0 E F;have y:zv.cells.size=P.cellsOf e:=by have:=g.length;rw [M1] at this;omega
  obtain⟨f,l⟩:=hs.tC (i:= .s d 0) (sz:=P.cellsOf e) b e (madeCells zv.cells (j.toNat * P.cellsOf e)) j.toNat (cn.replicate g x Q.toNat)
   (wO y _ _ (by omega)) (by simp;omega) (by simp [madeCells])
  refine⟨_,_,_,_,z,f,by rw [dc];exact l, ?_⟩;simp only [aj];rw [aA,Oo]
 .simp at a
end
open Go Go.IntKind
section
variable {P:Program} {w w':World} {A A':Nat->Prop} {c:Ctx} {ρ:Id->Option Value} {O:Id->Option Nat} {s:St} {cc:Option Bool} {h:Id->Option ad}
theorem Bk{t:TypeId}{x:AV}{i:Value}{b:Bool}(hs:HS c w s.h ρ O)(g:aj w (AA c w O) ρ x i)(h:ik P s t x=some b)(o:Operand)(ho:mv P t o=true)(a:Act)(m n:Operand):
  ((eqGuard .eql t m n i (a.eval o)).run P w= .ok () w/\(binOp .eql t i (a.eval o)).run P w= .ok (.bool b) w)/\
  ((eqGuard .neq t m n i (a.eval o)).run P w= .ok () w/\(binOp .neq t i (a.eval o)).run P w= .ok (.bool (!b)) w)/\
  ((eqGuard .eql t m n (a.eval o) i).run P w= .ok () w/\(binOp .eql t (a.eval o) i).run P w= .ok (.bool b) w)/\
  ((eqGuard .neq t m n (a.eval o) i).run P w= .ok () w/\(binOp .neq t (a.eval o) i).run P w= .ok (.bool (!b)) w):=by
 unfold mv at ho;split at ho
 .rename_i e j;have key:∃p l k,i= .slice p l k/\p.isNone=b:=by
   unfold ik at h;rw [j] at h;dsimp only at h;split at h
   .rename_i sz B xs;simp only [Mt] at h;subst h;simp only [aj,ay] at g;rcases g with⟨rfl,_,rfl⟩ | ⟨rfl,_,_,_,_,rfl,_⟩
    .exact⟨_,_,_,rfl,rfl⟩
    .exact⟨_,_,_,rfl,rfl⟩
   .simp only [Mt] at h;subst h;simp only [aj,ay] at g;rcases g with⟨rfl,rfl⟩ | ⟨rfl,_,_,_,rfl⟩
    .exact⟨_,_,_,rfl,rfl⟩
    .exact⟨_,_,_,rfl,rfl⟩
   .split at h
    .rename_i v;simp only [Mt] at h;subst h;obtain⟨G,u,a,cap,z,C,r,D,F⟩:=lL hs v;simp only [aj] at g;rw [u] at g;simp only [Mt] at g;subst g;subst z;refine⟨_,_,_,rfl, ?_⟩;cases a with
     | none=>simpa using r
     | some a=>
      have:¬(_=true):=λe=>by have:=r.2 e;simp at this
      simpa using this
    .simp at h
   .simp at h
  obtain⟨p,l,k,rfl,rfl⟩:=key;simp only [Act.eval];have E1:(Op.equal t (.slice p l k) (.slice none 0 0)).run P w= .ok p.isNone w:=by
   have:∀d,(Op.equalIn (d+1) t (.slice p l k) (.slice none 0 0)).run P w= .ok p.isNone w:=by intro d;cases p <;> simp [Op.equalIn,run_underlying j]
   exact this 9999
  have q:(Op.equal t (.slice none 0 0) (.slice p l k)).run P w= .ok p.isNone w:=by
   have:∀d,(Op.equalIn (d+1) t (.slice none 0 0) (.slice p l k)).run P w= .ok p.isNone w:=by intro d;simp [Op.equalIn,run_underlying j]
   exact this 9999
  refine⟨⟨by simp [eqGuard], ?_⟩,⟨by simp [eqGuard], ?_⟩,⟨by simp [eqGuard], ?_⟩,⟨by simp [eqGuard], ?_⟩⟩ <;> simp only [binOp] <;> simp [E1,q]
 .rename_i e j;have key:∃p,i= .pointer p/\p.isNone=b:=by
   unfold ik at h;rw [j] at h;dsimp only at h;split at h
   .simp only [Mt] at h;subst h;simp only [aj,ay] at g;obtain⟨_,_,rfl,_⟩:=g;exact⟨_,rfl,rfl⟩
   .simp only [Mt] at h;subst h;simp only [aj,ay] at g;subst g;exact⟨_,rfl,rfl⟩
   .simp only [Mt] at h;subst h;simp only [aj] at g;obtain⟨_,_,rfl⟩:=g;exact⟨_,rfl,rfl⟩
   .simp only [Mt] at h;subst h;simp only [aj] at g;obtain⟨_,_,_,_,_,rfl⟩:=g;exact⟨_,rfl,rfl⟩
   .simp at h
  obtain⟨p,rfl,rfl⟩:=key;simp only [Act.eval];have E1:(Op.equal t (.pointer p) (.pointer none)).run P w= .ok p.isNone w:=by
   have:∀d,(Op.equalIn (d+1) t (.pointer p) (.pointer none)).run P w= .ok p.isNone w:=by intro d;cases p <;> simp [Op.equalIn,run_underlying j]
   exact this 9999
  have q:(Op.equal t (.pointer none) (.pointer p)).run P w= .ok p.isNone w:=by
   have:∀d,(Op.equalIn (d+1) t (.pointer none) (.pointer p)).run P w= .ok p.isNone w:=by intro d;simp [Op.equalIn,run_underlying j]
   exact this 9999
  refine⟨⟨by simp [eqGuard], ?_⟩,⟨by simp [eqGuard], ?_⟩,⟨by simp [eqGuard], ?_⟩,⟨by simp [eqGuard], ?_⟩⟩ <;> simp only [binOp] <;> simp [E1,q]
 .rename_i j;have key:(i= .nilFunc/\b=true)\/(∃f x y,i= .func f x y/\b=false):=by
   unfold ik at h;rw [j] at h;dsimp only at h;split at h
   .simp only [Mt] at h;subst h;simp only [aj,ay] at g;exact .inl ⟨g,rfl⟩
   .simp only [Mt] at h;subst h;simp only [aj] at g;obtain⟨_,_,rfl,_⟩:=g;exact .inr ⟨_,_,_,rfl,rfl⟩
   .simp at h
  simp only [Act.eval];have E:(Op.equal t i .nilFunc).run P w= .ok b w/\(Op.equal t .nilFunc i).run P w= .ok b w:=by
   constructor
   .have:∀d,(Op.equalIn (d+1) t i .nilFunc).run P w= .ok b w:=by intro d;rcases key with⟨rfl,rfl⟩ | ⟨f,x,y,rfl,rfl⟩ <;> simp [Op.equalIn,run_underlying j]
    exact this 9999
   .have:∀d,(Op.equalIn (d+1) t .nilFunc i).run P w= .ok b w:=by intro d;rcases key with⟨rfl,rfl⟩ | ⟨f,x,y,rfl,rfl⟩ <;> simp [Op.equalIn,run_underlying j]
    exact this 9999
  rcases key with⟨rfl,rfl⟩ | ⟨f,x,y,rfl,rfl⟩ <;>
  refine⟨⟨by simp [eqGuard], ?_⟩,⟨by simp [eqGuard], ?_⟩,⟨by simp [eqGuard], ?_⟩,⟨by simp [eqGuard], ?_⟩⟩ <;> simp only [binOp] <;> simp [E.1,E.2]
 .rename_i j;have key:i= .map none/\b=true:=by
   unfold ik at h;rw [j] at h;dsimp only at h;split at h
   .simp only [Mt] at h;subst h;simp only [aj,ay] at g;exact⟨g,rfl⟩
   .simp at h
  simp only [Act.eval];obtain⟨rfl,rfl⟩:=key;have E:(Op.equal t (.map none) (.map none)).run P w= .ok true w:=by
   have:∀d,(Op.equalIn (d+1) t (.map none) (.map none)).run P w= .ok true w:=by intro d;simp [Op.equalIn,run_underlying j]
   exact this 9999
  refine⟨⟨by simp [eqGuard], ?_⟩,⟨by simp [eqGuard], ?_⟩,⟨by simp [eqGuard], ?_⟩,⟨by simp [eqGuard], ?_⟩⟩ <;> simp only [binOp] <;> simp [E]
 .simp at ho
theorem EO{R:Type}{src e:TypeId}{x:T}{j:Value}{K:T->Option R}{r:R}(i:cc=none\/cc=some true)(d:ay w A x j)(a:oz P cc src e x K=some r):
  ∃z v,K z=some r/\(convert src e j).run P w= .ok v w/\ay w A z v:=by
 unfold oz at a;split at a
 .rename_i k l g b;replace a:=aL a i;obtain⟨n,f,a⟩:=a;have:=T.eR f;subst this;simp only [ay] at d;subst d;exact⟨_,_,a,by simp [convert,run_underlying g,run_underlying b,Conv.intToInt],eW _ _ _ _⟩
 .rename_i g b;replace a:=aL a i;obtain⟨n,f,a⟩:=a;have:=T.iQ f;subst this;simp only [ay] at d;subst d;exact⟨_,_,a,by simp [convert,run_underlying g,run_underlying b],jJ _ _ _⟩
 .simp at a
theorem yz:∀{xs:List (List T)} {l:List UInt8} {vss:List (List Value)},bytesOf xs=some l->cn w A 1 xs vss->∃ns:List Int,vss.flatten=ns.map (Value.int .u8)/\l=ns.map (λn=>UInt8.ofNat n.toNat)
 | [],l,vss,e,h=>by simp only [cn] at h;subst h;simp only [bytesOf,Mt] at e;subst e;exact⟨[],rfl,rfl⟩
 | cs::xs,l,vss,e,⟨vs,r,g,a,e3,e4⟩=>by
  subst g;simp only [bytesOf] at e;obtain⟨x,f,e⟩:=Mu.1 e;obtain⟨n,k,e⟩:=Mu.1 e;obtain⟨q,m,e⟩:=Mu.1 e;simp only [Mt] at e;subst e;obtain⟨ns,i,j⟩:=yz m e4;have:=T.eR k;subst this;cases cs with
  | nil=>simp at a
  | cons y cs=>simp only [NG,Mt] at f;subst f;have:cs= []:=MW.1 (by simpa using a);subst this;obtain⟨v,o,rfl,b,d⟩:=e3;simp only [aQ] at d;subst d;simp only [ay] at b;subst b;exact⟨n::ns,by simp [i],by simp [j]⟩
theorem Co:∀(ns:List Int) (b:ByteArray),ns.foldl (λr n=>r.push (UInt8.ofNat n.toNat)) b= ⟨b.data++ (ns.map (λn=>UInt8.ofNat n.toNat)).toArray⟩
 | [],b=>by simp
 | n::ns,b=>by rw [List.foldl_cons,Co ns];simp [ByteArray.push]
theorem Eu{src b e:TypeId}{x:AV}{y:T}{o:Value}{p:Bool×List (List T)}{l:List UInt8}(hs:HS c w s.h ρ O)(k:P.underlying src=some (.slice e))(d:P.underlying b=some .string)(g:P.underlying e=some (.int .u8))
  (B:aj w (AA c w O) ρ x o) (C:cX s.h x=some y) (z:y.an 1=some p) (hl:bytesOf p.2=some l):(convert src b o).run P w= .ok (.string ⟨l.toArray⟩) w:=by
 rcases Dj hs B C z with⟨m,rfl | ⟨a,cap,rfl⟩⟩ | ⟨ae,off,cap,rfl,i⟩
 .rw [m] at hl;simp only [bytesOf,Mt] at hl;subst hl;rw [run_convert_bytes_string w src b e _ _ _ k g d];simp [Conv.bytesToString];rfl
 .rw [m] at hl;simp only [bytesOf,Mt] at hl;subst hl;rw [run_convert_bytes_string w src b e _ _ _ k g d,run_bytesToString w a 0 cap [] (run_loadCells_list (P:=P) w a [] (by simp))];rfl
 .obtain⟨vss,n,t⟩:=i.bf;obtain⟨E,D⟩:=n.length;obtain⟨ns,q,r⟩:=yz hl n;rw [run_convert_bytes_string w src b e _ _ _ k g d,run_bytesToString w _ _ cap ns ?_,Co]
  .rw [r];simp
  .rw [<-q];have f:=run_loadCells_list (P:=P) w ⟨ae,off,none⟩ vss.flatten (λj v u=>by rw [fx];exact t j v u);rw [D,Nat.mul_one] at f;exact f
theorem H0{R:Type}{t:TypeId}(k:bR P t=true){cs:List AV}{arr:Array Value}{off:Nat}{K:AV->Option R}{r:R}(f:az w A ρ cs (arr.toList.drop off))(m:∀u∈arr.toList,u.oneCell'=true/\u.cells= #[u])(h:kB P t cs K=some r):
  ∃i v,K i=some r/\(part t arr off).run P w= .ok v w/\aj w A ρ i v:=by
 unfold kB at h;unfold part;simp only [MV,pr k,MH];cases j:bz P t
 .simp only [j,cond_false] at h;cases cs with
  | nil=>simp at h
  | cons y cs=>
   simp only [NG,Mw] at h;simp only [az] at f;obtain⟨v,q,e,a,_⟩:=f;have b:off < arr.toList.length:=by
    rcases Nat.lt_or_ge off arr.toList.length with g | g
    .exact g
    .rw [Oi g] at e;simp at e
   rw [Ov b] at e;simp only [NN] at e;have:arr[off]? =some v:=by rw [N7 (by simpa using b)];rw [<-e.1];simp
   simp only [MZ,if_false,this];exact⟨_,v,h,by simp,a⟩
 .simp only [j,cond_true] at h;cases d:kJ (P.cellsOf t) cs with
  | none=>simp [d] at h
  | some l=>simp only [d,Mw] at h;obtain⟨hl,o⟩:=xP d;have a:=f.take (P.cellsOf t);rw [<-hl] at a;refine⟨_, .agg (arr.extract off (off+P.cellsOf t)),h,by simp only [if_true,MV,gV k,MH,M6], ?_⟩;simp only [aj];refine⟨_, ?_,a,λu n=>m u (ON (Ow n))⟩;congr 1;apply N4;simp [Pb,OT]
theorem Hn{R:Type}{t:TypeId}{x:AV}{e:Value}{f:Nat}{K:AV->Option R}{r:R}(d:aj w A ρ x e)(h:oO P t x f K=some r):
  ∃a v,K a=some r/\(Instr.field t e f).run P w= .ok v w/\aj w A ρ a v:=by
 unfold oO at h;split at h
 .rename_i off u m;obtain⟨z,y,j,k,b,l⟩:=vY m;simp only [Ng] at b;obtain⟨rfl,rfl⟩:=b;split at h
  .rename_i vs;simp only [aj] at d;obtain⟨q,rfl,g,i⟩:=d;obtain⟨a,v,n,o,p⟩:=H0 (arr:=q.toArray) l (by simpa using g.drop y.offset) (by simpa using i) h;exact⟨a,v,n,by simp [Instr.field,run_underlying j,k,asAgg,o],p⟩
  .simp at h
 .simp at h
theorem HZ{R:Type}{t:TypeId}(m:bR P t=true){cs:List T}{arr:Array Value}{off:Nat}{K:AV->Option R}{r:R}(b:cc=none\/cc=some true)(k:aQ w A cs (arr.toList.drop off))(h:jd P t cc cs K=some r):
  ∃i v,K i=some r/\(part t arr off).run P w= .ok v w/\aj w A ρ i v:=by
 unfold jd at h;unfold part;simp only [MV,pr m,MH];cases j:bz P t
 .simp only [j,cond_false] at h;replace h:=aL h b;obtain⟨x,f,h⟩:=h;cases cs with
  | nil=>simp at f
  | cons y cs=>
   simp only [NG,Mt] at f;subst f;obtain⟨v,q,e,a,_⟩:=k;have d:off < arr.toList.length:=by
    rcases Nat.lt_or_ge off arr.toList.length with g | g
    .exact g
    .rw [Oi g] at e;simp at e
   rw [Ov d] at e;simp only [NN] at e;have:arr[off]? =some v:=by rw [N7 (by simpa using d)];rw [<-e.1];simp
   simp only [MZ,if_false,this];obtain⟨z,h,a⟩:=mI b a h;exact⟨_,v,h,by simp,by simpa [aj] using a⟩
 .simp only [j,cond_true] at h;obtain⟨l,hl,o,h⟩:=uu b h;have a:=k.take (P.cellsOf t);rw [<-hl] at a;obtain⟨p,h,n⟩:=rE b a h;refine⟨_, .agg (arr.extract off (off+P.cellsOf t)),h,by simp only [if_true,MV,gV m,MH,M6], ?_⟩;simp only [aj];refine⟨_, ?_,az.jH n,a.one⟩;congr 1;apply N4;simp [Pb,OT]
theorem wS{R:Type}{k:IntKind}(g:cc=none\/cc=some true)(d:Bool):∀{l:List T} {a:Int} {vs:List Value} {K:T->Option R} {r:R},aQ w A l vs->mr k cc d a l K=some r->
  ∃n,K (.int k n)=some r/\(vs.foldlM (cond d Builtin.max2 Builtin.min2) (.int k a)).run P w= .ok (.int k n) w
 | [],a,vs,K,r,i,h=>by simp only [aQ] at i;subst i;exact⟨a,h,by simp⟩
 | y::l,a,vs,K,r,⟨v,q,e,f,o⟩,h=>by
  subst e;simp only [mr] at h;replace h:=aL h g;obtain⟨b,p,h⟩:=h;have:=T.eR p;subst this;simp only [ay] at f;subst f;obtain⟨n,j,m⟩:=wS g d o h;refine⟨n,j, ?_⟩;rw [List.foldlM_cons];have:((cond d Builtin.max2 Builtin.min2) (.int k a) (.int k b)).run P w= .ok (.int k (mm d a b)) w:=by cases d <;> simp [Builtin.max2,Builtin.min2,mm]
  simp only [MV,this,MH];exact m
end
open Go Go.IntKind
def eI(O:Id->Option Nat)(b:Nat):Prop:= ∃i,O i=some b
def iA(a:List ad):Id->Option ad
 | .c j=>a[j]?
 | _=>none
section
variable {P:Program} {w w':World} {A A':Nat->Prop} {c:Ctx} {ρ:Id->Option Value} {O:Id->Option Nat} {s s':St} {h:Id->Option ad}
def lj:Option ad->List Id
 | some (.box cs)=>bS cs
 | some (.arr cs)=>bS cs
 | _=> []
theorem qY:∀{n:Nat} {todo d seen:List Id},dV h n todo d=some seen->d.Nodup->(∀i∈d,h i≠none)->(∀i∈d,∀j∈lj (h i),j∈d\/j∈todo)->
  seen.Nodup/\(∀i∈d,i∈seen)/\(∀i∈todo,i∈seen)/\(∀i∈seen,h i≠none)/\∀i∈seen,∀j∈lj (h i),j∈seen
 | 0,todo,d,seen,e,_,_,_=>by simp [dV] at e
 | n+1,[],d,seen,e,u,t,r=>by simp only [dV,Mt] at e;subst e;exact⟨u,λ_ h=>h,by simp,t,λi g j m=>by rcases r i g j m with h | h;exact h;cases h⟩
 | n+1,i::todo,d,seen,e,u,t,r=>by
  simp only [dV] at e;cases l:d.contains i with
  | true=>
   rw [l,cond_true] at e;have g:i∈d:=by simpa using l
   obtain⟨v,p,x,y,z⟩:=qY e u t (λk f j m=>by
    rcases r k f j m with h | h
    .exact .inl h
    .rcases MN.1 h with rfl | h
     .exact .inl g
     .exact .inr h)
   refine⟨v,p,λk f=> ?_,y,z⟩;rcases MN.1 f with rfl | f
   .exact p _ g
   .exact x k f
  | false=>
   rw [l,cond_false] at e;have F:i∉d:=by
    intro hm;have:d.contains i=true:=by simpa using hm
    rw [this] at l;cases l
   have D:(d++ [i]).Nodup:=NU.2 ⟨u,by simp,λa G b q B=>by simp only [MI] at q;exact F (by rw [<-q,<-B];exact G)⟩;have go:∀more:List Id,h i≠none->lj (h i)=more->dV h n (todo++more) (d++ [i])=some seen->_:=λmore E hm e=>
    qY e D (λk f=>by
     rcases MQ.1 f with f | f
     .exact t k f
     .simp only [MI] at f;subst f;exact E) (λk f j m=>by
     rcases MQ.1 f with f | f
     .rcases r k f j m with h | h
      .exact .inl (MM _ h)
      .rcases MN.1 h with rfl | h
       .exact .inl (MK _ (MI.2 rfl))
       .exact .inr (MM _ h)
     .simp only [MI] at f;subst f;rw [hm] at m;exact .inr (MK _ m))
   have o:∀more:List Id,(seen.Nodup/\(∀k∈d++ [i],k∈seen)/\(∀k∈todo++more,k∈seen)/\(∀k∈seen,h k≠none)/\∀k∈seen,∀j∈lj (h k),j∈seen)->
     seen.Nodup/\(∀i∈d,i∈seen)/\(∀k∈i::todo,k∈seen)/\(∀i∈seen,h i≠none)/\∀i∈seen,∀j∈lj (h i),j∈seen:=by
    rintro more ⟨v,p,x,y,z⟩;refine⟨v,λk f=>p k (MM _ f),λk f=> ?_,y,z⟩;rcases MN.1 f with rfl | f
    .exact p _ (MK _ (MI.2 rfl))
    .exact x k (MM _ f)
   split at e
   .rename_i cs g;exact o _ (go (bS cs) (by rw [g];simp) (by rw [g];rfl) e)
   .rename_i cs g;exact o _ (go (bS cs) (by rw [g];simp) (by rw [g];rfl) e)
   .rename_i b q C g;refine o [] (go [] (by rw [g];simp) ?_ (by simpa using e));rw [g];cases b with
    | box cs=>exact(q cs rfl).elim
    | arr cs=>exact(C cs rfl).elim
    | _=>rfl
   .simp at e
def ch{a:Type}(m:List Id)(f:Id->Option a):Id->Option a
 | .c j=>(m[j]?).bind f
 | .g (.c j) n=>(m[j]?).bind λi=>f (.g i n)
 | _=>none
theorem tU{b:Type}{m:List Id}{f:Id->Option b}{i:Id}(a:i∈m):ch m f (.c (m.idxOf i))=f i:=by simp only [ch];have:m.idxOf i < m.length:=Ps.2 a;rw [MJ this];simp
theorem Cv{b:Type}{m:List Id}{f:Id->Option b}{i:Id}{n:Nat}(a:i∈m):ch m f (.g (.c (m.idxOf i)) n)=f (.g i n):=by simp only [ch];have:m.idxOf i < m.length:=Ps.2 a;rw [MJ this];simp
def mJ(seen:List Id):Id->Option Id
 | .c j=>seen[j]?
 | .g (.c j) n=>(seen[j]?).map λi=> .g i n
 | _=>none
theorem Cw{a:Type}{m:List Id}{f:Id->Option a}(i:Id):ch m f i= (mJ m i).bind f:=by
 cases i with
 | c j=>rfl
 | s d j=>rfl
 | g i n=>
  cases i with
  | c j=>simp only [ch,mJ];cases m[j]? <;> rfl
  | _=>rfl
theorem Mj{seen:List Id}(z:seen.Nodup){i j k:Id}(r:∀x∈seen,x.real=true)(f:mJ seen i=some k)(v:mJ seen j=some k):i=j:=by
 have inj:∀{a b:Nat} {x:Id},seen[a]? =some x->seen[b]? =some x->a=b:=by intro a b x e l;obtain⟨B,t⟩:=My.1 e;obtain⟨C,u⟩:=My.1 l;exact(List.getElem_inj z).1 (t.trans u.symm)
 have p:∀i,mJ seen i=some k->(∃a,i= .c a/\seen[a]? =some k)\/∃a n x,i= .g (.c a) n/\seen[a]? =some x/\k= .g x n:=by
  intro i f;cases i with
  | c a=>exact .inl ⟨a,rfl,f⟩
  | s d a=>cases f
  | g i n=>
   cases i with
   | c a=>simp only [mJ,Og] at f;obtain⟨x,e,l⟩:=f;exact .inr ⟨a,n,x,rfl,e,l.symm⟩
   | _=>cases f
 rcases p i f with⟨a,rfl,e⟩ | ⟨a,n,x,rfl,e,l⟩ <;> rcases p j v with⟨b,rfl,o⟩ | ⟨b,m,y,rfl,o,q⟩
 .rw [inj e o]
 .have:=r k (MD e);rw [q] at this;cases this
 .have:=r k (MD o);rw [l] at this;cases this
 .rw [l] at q;cases q;rw [inj e o]
mutual
theorem aj.rn{m:List Id}(l:∀b,A b->A' b):∀(v:AV) (u:Value),(∀i∈v.ids,i∈m)->aj w A ρ v u->aj w A' (ch m ρ) (v.rn m) u
 | .top,_,_,_=>by simp [AV.rn,aj]
 | .t x,u,_,d=>by simp only [AV.rn,aj] at d⊢;exact ay.mono (λb y=>⟨l b y,rfl⟩) x u d
 | .jR vs,u,g,d=>by simp only [AV.rn,aj] at d⊢;obtain⟨o,e,j⟩:=d;exact⟨o,e,az.rn l vs o (by simpa [AV.ids] using g) j⟩
 | .agg vs,u,g,d=>by simp only [AV.rn,aj] at d⊢;obtain⟨o,e,j,p⟩:=d;exact⟨o,e,az.rn l vs o (by simpa [AV.ids] using g) j,p⟩
 | .ref i off,u,g,d=>by simp only [AV.rn,aj] at d⊢;rw [tU (g i (by simp [AV.ids]))];exact d
 | .el i sz k off,u,g,d=>by simp only [AV.rn,aj] at d⊢;rw [tU (g i (by simp [AV.ids]))];exact d
 | .own i,u,g,d=>by simp only [AV.rn,aj] at d⊢;rw [tU (g i (by simp [AV.ids]))];exact d
 | .part i sz off n,u,g,d=>by simp only [AV.rn,aj] at d⊢;rw [tU (g i (by simp [AV.ids]))];exact d
 | .row i n,u,g,d=>by simp only [AV.rn,aj] at d⊢;rw [Cv (g i (by simp [AV.ids]))];exact d
 | .rel i sz n k off,u,g,d=>by simp only [AV.rn,aj] at d⊢;rw [Cv (g i (by simp [AV.ids]))];exact d
 | .fn f a b,u,g,d=>by simp only [AV.rn,aj] at d⊢;obtain⟨q,r,e,j,p⟩:=d;simp only [AV.ids,MQ] at g;exact⟨q,r,e,az.rn l a q (λi h=>g i (.inl h)) j,az.rn l b r (λi h=>g i (.inr h)) p⟩
theorem az.rn{m:List Id}(f:∀b,A b->A' b):∀(vs:List AV) (us:List Value),(∀i∈bS vs,i∈m)->az w A ρ vs us->az w A' (ch m ρ) (iM m vs) us
 | [],us,_,a=>by simpa [iM,az] using a
 | v::vs,us,d,a=>by simp only [iM,az] at a⊢;obtain⟨u,r,e,g,j⟩:=a;simp only [bS,MQ] at d;exact⟨u,r,e,aj.rn f v u (λi h=>d i (.inl h)) g,az.rn f vs r (λi h=>d i (.inr h)) j⟩
end
def Of(seen:List Id)(k:Id):Prop:=k∈seen\/∃i n,i∈seen/\k= .g i n
theorem Ml{seen:List Id}{i k:Id}(h:mJ seen i=some k):Of seen k:=by
 cases i with
 | c a=>exact .inl (MD h)
 | s d a=>cases h
 | g i n=>
  cases i with
  | c a=>simp only [mJ,Og] at h;obtain⟨x,b,e⟩:=h;exact .inr ⟨x,n,MD b,e.symm⟩
  | _=>cases h
theorem rm{seen:List Id}{b:Nat}(h:eI (ch seen O) b):∃k,Of seen k/\O k=some b:=by obtain⟨i,a⟩:=h;rw [Cw] at a;obtain⟨k,d,e⟩:=Mu.1 a;exact⟨k,Ml d,e⟩
theorem cg.rn{seen:List Id}{i:Id}{j:Nat}{ae sz col rsz:Nat}(d:∀b,A b->A' b)(f:seen[j]? =some i):∀{es:List Row} {base:Nat},cg w A ρ O i ae sz col rsz base es->
  cg w A' (ch seen ρ) (ch seen O) (.c j) ae sz col rsz base es
 | [],_,_=>trivial
 | e::es,base,⟨⟨r,t,y,v,z,B,C⟩,E⟩=>by
  have l:ch seen ρ (.g (.c j) e.n)=ρ (.g i e.n):=by simp [ch,f]
  refine⟨⟨r,t,λk x D F=> ?_,v,z,by rw [l];exact B, ?_⟩,cg.rn d f E⟩
  .obtain⟨u,o,q⟩:=y k x D F;exact⟨u,o,ay.mono (λb a=>⟨d b a,rfl⟩) x u q⟩
  .have m:ch seen O (.g (.c j) e.n)=O (.g i e.n):=by simp [ch,f]
   rw [m];revert C;cases e.own with
   | none=>exact λh=>h
   | some p=>exact λh=>h.mono (λb a=>⟨d b a,rfl⟩) λb a=>⟨a,rfl⟩
theorem lY.rn{seen:List Id}{i:Id}{j e:Nat}{es:List Row}(d:seen[j]? =some i)(h:lY ρ O i e es):lY (ch seen ρ) (ch seen O) (.c j) e es:=by
 have f:∀n,ch seen ρ (.g (.c j) n)=ρ (.g i n):=λn=>by simp [ch,d]
 have k:∀n,ch seen O (.g (.c j) n)=O (.g i n):=λn=>by simp [ch,d]
 exact⟨h.1,h.2.1,λn a=>by rw [f];exact h.2.2.1 n a,λn b a=>by rw [k] at a;exact h.2.2.2 n b a⟩
theorem HS.Cu{c':Ctx}{seen:List Id}(hs:HS c w h ρ O)(Y:seen.Nodup)(K:∀i∈seen,h i≠none)(X:∀i∈seen,∀j∈lj (h i),j∈seen)
  (B:∀b,AA c w O b->AA c' w (ch seen O) b) (V:∀b,eI (ch seen O) b->c'.MO b) (W:c'.N0<=w.heap.size) (L:mc<=c'.N0/\∀b,b < mc->¬c'.M b):HS c' w (iA (seen.map λi=>fH seen (h i))) (ch seen ρ) (ch seen O):=by
 have I:∀b,eI (ch seen O) b->eI O b:=λb h=>let⟨k,_,C⟩:=rm h;⟨k,C⟩;refine⟨λi b p=> ?_,λi Z f=> ?_,λi n=>rfl,λi n f=> ?_,λi n u J=> ?_,λi j b f N=> ?_,λi b f=> ?_,λi b f=> ?_,W,hs.glob.1,L⟩
 .cases i with
  | s d j=>simp [iA] at p
  | g i n=>simp [iA] at p
  | c j=>
   simp only [iA,Nz,Og] at p;obtain⟨i,f,e⟩:=p;have F:i∈seen:=MD f;have q:ch seen ρ (.c j)=ρ i:=by simp [ch,f]
   have z:ch seen O (.c j)=O i:=by simp [ch,f]
   cases E:h i with
   | none=>exact(K i F E).elim
   | some x=>
    have y:=hs.ae i x E;have D:=X i F;rw [E] at e D;cases x with
    | box cs=>simp only [fH] at e;subst e;obtain⟨r,arr,t,m,o,e3,e4,e5⟩:=y;exact⟨r,arr,t,by rw [q];exact m,by rw [z];exact o,e3,az.rn B cs _ (λk C=>D k (by simpa [lj] using C)) e4,e5⟩
    | sl fz sz bb xs=>
     simp only [fH] at e;subst e;obtain⟨v,m,o,e3⟩:=y;refine⟨v,by rw [q];exact m,o.mono (λb p=>⟨B b p,rfl⟩) (λb p=>⟨?_,rfl⟩),by rw [z];exact e3⟩;cases fz
     .simp only [MZ,if_false] at p⊢;rw [z];exact p
     .simp only [if_true] at p⊢;exact B b p
    | cE l=>simp only [fH] at e;subst e;obtain⟨r,m,o,e3,e4⟩:=y;exact⟨r,by rw [q];exact m,by rw [z];exact o,B r e3,aY.mono (λb p=>⟨B b p,rfl⟩) r e3 0 l e4⟩
    | mp ag ks vk es=>simp only [fH] at e;subst e;obtain⟨r,H,G,m,o,e3,e4,e5⟩:=y;exact⟨r,H,G,by rw [q];exact m,by rw [z];exact o,e3,e4,e5⟩
    | arr cs=>simp only [fH] at e;subst e;obtain⟨r,arr,t,m,o,e3,e4,e5⟩:=y;exact⟨r,arr,t,by rw [q];exact m,by rw [z];exact o,e3,az.rn B cs _ (λk C=>D k (by simpa [lj] using C)) e4,e5⟩
    | rows bb sz col rsz nx es=>
     simp only [fH] at e;subst e;obtain⟨a,cap,m,o,e3,e4,e5⟩:=y;refine⟨a,cap,by rw [q];exact m,o,e3,e4.rn f, ?_⟩;rcases e5 with e5 | ⟨ae,off,arr,t,q1,q2,q3,q4,q5⟩
     .exact .inl e5
     .exact .inr ⟨ae,off,arr,t,q1,by rw [z];exact q2,q3,q4,q5.rn B f⟩
    | dead=>simp only [fH] at e;subst e;obtain⟨m,o⟩:=y;exact⟨by rw [q];exact m,by rw [z];exact o⟩
 .cases i with
  | s d j=>exact⟨rfl,rfl⟩
  | g i n=>cases Z
  | c j=>simp only [iA,Nz,Option.map_eq_none_iff] at f;simp [ch,f]
 .cases i with
  | c j=>simp only [iA,Nz,Option.map_eq_none_iff] at f;simp [ch,f]
  | _=>exact⟨rfl,rfl⟩
 .cases i with
  | c j=>simp only [ch] at J;obtain⟨k,h1,U⟩:=Mu.1 J;exact hs.gone k n u U
  | _=>cases J
 .rw [Cw] at f N;obtain⟨k1,Q,S⟩:=Mu.1 f;obtain⟨k2,R,T⟩:=Mu.1 N;have:=hs.inj k1 k2 b S T;subst this;exact Mj Y (λx y=>hs.real (K x y)) Q R
 .obtain⟨k,C⟩:=I b ⟨i,f⟩;exact hs.lt k b C
 .exact V b ⟨i,f⟩
theorem HS.rn{seen:List Id}(hs:HS c w h ρ O)(m:seen.Nodup)(g:∀i∈seen,h i≠none)(f:∀i∈seen,∀j∈lj (h i),j∈seen):
  HS c w (iA (seen.map λi=>fH seen (h i))) (ch seen ρ) (ch seen O)/\(∀b,eI (ch seen O) b->eI O b):=by
 have a:∀b,eI (ch seen O) b->eI O b:=λb h=>let⟨k,_,e⟩:=rm h;⟨k,e⟩;refine⟨hs.Cu m g f (λb d=>⟨d.1,d.2.1,λi l=> ?_⟩) (λb d=> ?_) hs.size hs.glob.2,a⟩
 .obtain⟨k,e⟩:=a b ⟨i,l⟩;exact d.2.2 k e
 .obtain⟨k,e⟩:=a b d;exact hs.own k b e
theorem mD:∀{n:Nat} {todo a seen:List Id},dV h n todo a=some seen->a <+:seen
 | 0,todo,a,seen,e=>by simp [dV] at e
 | n+1,[],a,seen,e=>by simp only [dV,Mt] at e;subst e;exact List.prefix_refl _
 | n+1,i::todo,a,seen,e=>by
  simp only [dV] at e;cases b:a.contains i with
  | true=>rw [b,cond_true] at e;exact mD e
  | false=>
   rw [b,cond_false] at e;split at e
   .exact(Pm _ _).trans (mD e)
   .exact(Pm _ _).trans (mD e)
   .exact(Pm _ _).trans (mD e)
   .simp at e
theorem Cr:∀{l:List Id} {n:Nat} {todo a seen:List Id},dV h n (l++todo) a=some seen->l.Nodup->(∀i∈l,i∉a)->(a++l) <+:seen
 | [],n,todo,a,seen,e,_,_=>by rw [MU];exact mD e
 | i::l,0,todo,a,seen,e,_,_=>by simp [dV] at e
 | i::l,n+1,todo,a,seen,e,g,b=>by
  obtain⟨k,m⟩:=NC.1 g;simp only [Nu,dV] at e;have d:a.contains i=false:=by have:=b i Mv;simpa using this
  rw [d,cond_false] at e;have go:∀more:List Id,dV h n (l++todo++more) (a++ [i])=some seen->(a++i::l) <+:seen:=by
   intro more e;rw [MY] at e;have:=Cr e m (λj f hm=>by
    rcases MQ.1 hm with hm | hm
    .exact b j (Mx _ f) hm
    .simp only [MI] at hm;subst hm;exact k f)
   simpa using this
  split at e
  .exact go _ e
  .exact go _ e
  .exact go [] (by simpa using e)
  .simp at e
theorem HS.Dl(hs:HS c w h ρ O){i:Id}{b:ad}(e:h i=some b):∃v,ρ i=some v/\v.oneCell'=true/\v.cells= #[v]:=by
 cases d:ρ i with
 | some u=>exact⟨u,rfl,iL hs d⟩
 | none=>
  exfalso;have:=hs.ae i b e;cases b with
  | box cs=>obtain⟨b,_,_,a,_⟩:=this;rw [d] at a;cases a
  | sl fz sz b xs=>obtain⟨v,a,_⟩:=this;rw [d] at a;cases a
  | cE l=>obtain⟨b,a,_⟩:=this;rw [d] at a;cases a
  | mp ag ks vk es=>obtain⟨b,_,_,a,_⟩:=this;rw [d] at a;cases a
  | arr cs=>obtain⟨b,_,_,a,_⟩:=this;rw [d] at a;cases a
  | rows _ _ _ _ _ _=>obtain⟨_,_,a,_⟩:=this;rw [d] at a;cases a
  | dead=>obtain⟨⟨v,a,_⟩,_⟩:=this;rw [d] at a;cases a
theorem az.set:∀{d:List AV} {us:List Value} {k:Nat} {v:AV} {u:Value},az w A ρ d us->us[k]? =some u->aj w A ρ v u->az w A ρ (d.set k v) us
 | [],us,k,v,u,h,b,e=>by simp only [az] at h;subst h;simp at b
 | a::d,us,0,v,u,h,b,e=>by simp only [az] at h;obtain⟨x,r,rfl,g,f⟩:=h;simp only [Ob,Mt] at b;subst b;simp only [OW,az];exact⟨_,_,rfl,e,f⟩
 | a::d,us,k+1,v,u,h,b,e=>by simp only [az] at h;obtain⟨x,r,rfl,g,f⟩:=h;simp only [NP] at b;simp only [OC,az];exact⟨_,_,rfl,g,az.set f b e⟩
theorem Ha{b:Bool}{sz:Nat}{u:Value}{Q:Nat->Prop}(h:ay w A (.af b) u):cz w A sz b [] u Q:=by
 simp only [ay] at h;rcases h with⟨rfl,rfl⟩ | ⟨rfl,ae,off,sp,rfl⟩
 .exact⟨none,0,rfl,by simp,by simp,by simp, .inl rfl⟩
 .exact⟨some ⟨ae,off,sp⟩,0,rfl,by simp,by simp,trivial, .inl rfl⟩
theorem sU{new i:Id}{k:Nat}{cs:List AV}{X:ad}{us:aB}{bb:Bool}(p:new.real=true)(hs:HS c w h ρ O)(q:h i=some (.box cs))
  (H:h new=none->∀u,ay w (AA c w O) (.af bb) u->cG w (AA c w O) (aF ρ new (some u)) O new X) (o:cs[k]? =some (.t (.af bb))\/(∃z,cs[k]? =some (.t (.ab z true []))/\bb=true))
  (e:(cond (h new).isNone (some [(new,X),(i,ad.box (cs.set k (.own new)))]) none)=some us):∃ρ' O',Le w ρ O w ρ' O'/\HS c w (aJ h us) ρ' O':=by
 obtain⟨b,arr,t,D,E,F,r,G⟩:=hs.ae i _ q;cases m:h new with
 | some x=>rw [m] at e;simp at e
 | none=>
  rw [m] at e;simp only [Pn,cond_true,Mt] at e;subst e;have J:∃u,arr.toList[k]? =some u/\ay w (AA c w O) (.af bb) u:=by
   rcases o with o | ⟨z,o,rfl⟩
   .obtain⟨u,l,f⟩:=r.get o;exact⟨u,l,by simpa [aj] using f⟩
   .obtain⟨u,l,f⟩:=r.get o;refine⟨u,l, ?_⟩;simp only [aj,ay] at f⊢;rcases f with⟨_,_,g⟩ | ⟨g,_⟩
    .exact .inl ⟨trivial,g⟩
    .cases g
  obtain⟨u,l,f⟩:=J;obtain⟨K,M⟩:=hs.cj new p m;have L:i≠new:=λe=>by rw [e,m] at q;cases q
  have le:Le w ρ O w (aF ρ new (some u)) O:=⟨rfl,rfl,rfl,M2 _,λj v a=>by
   by_cases e:j=new
   .subst e;rw [K] at a;cases a
   .rw [au _ _ e];exact a,λ_ _ _=>rfl,λj b h=> .inl ⟨j,h⟩⟩
  refine⟨_,O,le, ?_⟩;rw [cD,dc];have B:=hs.real (i:=i) (by rw [q];simp);have C:GK w ρ O w (aF ρ new (some u)) O:=λj n=>⟨au _ _ (aN p),rfl,λ_ _=>rfl⟩;refine hs.go le C (λj x a=> ?_) (λj y a=> ?_) (λj a=> ?_) (λj n=>by rw [au _ _ (aN B),au _ _ (aN p)];exact hs.dr j n) hs.inj hs.lt
  .by_cases e:j=i
   .subst e;rw [aA] at a;cases a;right;refine⟨b,arr,t,le.dG _ _ D,E,F,az.set (az.mono (λb I=>le.A b I) le.dG _ _ r) l ?_,G⟩;simp only [aj];exact aA _ _ _
   .rw [au _ _ e] at a;by_cases d:j=new
    .subst d;rw [aA] at a;cases a;exact .inr (H m u f)
    .rw [au _ _ d] at a;exact .inl ⟨a,rfl,λ_ _=>rfl⟩
  .by_cases e:j=i
   .subst e;rw [aA] at a;cases a
   .rw [au _ _ e] at a;by_cases d:j=new
    .subst d;rw [aA] at a;cases a
    .rw [au _ _ d] at a;rw [au _ _ d];exact hs.cj j y a
  .by_cases e:j=i
   .subst e;rw [aA] at a;cases a
   .rw [au _ _ e] at a;by_cases d:j=new
    .subst d;rw [aA] at a;cases a
    .rw [au _ _ d] at a;exact a
theorem J9{new i:Id}{k sz col rsz:Nat}{us:aB}(a:new.real=true)(hs:HS c w h ρ O)(e:pk h new i k sz col rsz=some us):∃ρ' O',Le w ρ O w ρ' O'/\HS c w (aJ h us) ρ' O':=by
 have j:∀{bb:Bool},h new=none->∀u,ay w (AA c w O) (.af bb) u->cG w (AA c w O) (aF ρ new (some u)) O new (.rows bb sz col rsz 0 []):=by
  intro bb b u p;have o:lY (aF ρ new (some u)) O new 0 []:=⟨by simp,(λf b=>by cases b),λn _=>by rw [au _ _ (aN a)];exact(hs.eD new n b).1,λn d l=>by rw [(hs.eD new n b).2] at l;cases l⟩;simp only [ay] at p;rcases p with⟨rfl,rfl⟩ | ⟨rfl,ae,off,sp,rfl⟩
  .exact⟨none,0,aA _ _ _,by simp,by simp,o, .inl rfl⟩
  .exact⟨some ⟨ae,off,sp⟩,0,aA _ _ _,by simp,by simp,o, .inl rfl⟩
 unfold pk at e;split at e
 .rename_i cs m;split at e
  .simp only [Mt] at e;subst e;exact⟨ρ,O,Le.refl,hs⟩
  .rename_i bb g;exact sU a hs m j (.inl g) e
  .rename_i z g;exact sU a hs m j (.inr ⟨z,g,rfl⟩) e
  .simp at e
 .simp at e
theorem JQ{new i:Id}{k sz:Nat}{us:aB}(g:new.real=true)(hs:HS c w h ρ O)(e:mB h new i k sz=some us):∃ρ' O',Le w ρ O w ρ' O'/\HS c w (aJ h us) ρ' O':=by
 unfold mB at e;cases p:Nat.ble 100000 sz with
 | true=>rw [p] at e;exact J9 g hs e
 | false=>
 rw [p,cond_false] at e;split at e
 .rename_i cs q;obtain⟨b,arr,t,h1,h2,h3,T,h5⟩:=hs.ae i _ q;have U:∀{bb:Bool},h new=none->∀u,ay w (AA c w O) (.af bb) u->cG w (AA c w O) (aF ρ new (some u)) O new (.sl false sz bb []):=
   λ_ u hu=>⟨u,aA _ _ _,Ha hu,by simp⟩
  split at e
  .simp only [Mt] at e;subst e;exact⟨ρ,O,Le.refl,hs⟩
  .rename_i bb d;exact sU g hs q U (.inl d) e
  .rename_i z d;exact sU g hs q U (.inr ⟨z,d,rfl⟩) e
  .rename_i j sz' n d;split at e
   .rename_i sz'' bb xs l;split at e
    .rename_i G;obtain⟨rfl,rfl,V⟩:=G;cases C:h new with
     | some x=>rw [C] at e;simp at e
     | none=>
      rw [C] at e;simp only [Pn,cond_true,Mt] at e;subst e;obtain⟨u,g1,S⟩:=T.get d;obtain⟨n1,n2⟩:=hs.cj new g C;have Y:i≠new:=λe=>by rw [e,C] at q;cases q
      have Z:j≠new:=λe=>by rw [e,C] at l;cases l
      obtain⟨v,R,⟨a,cap,rfl,f2,f3,_,N⟩,_⟩:=hs.ae j _ l;simp only [aj] at S;obtain⟨a1,L,cap1,y,M,f,e3,rfl,e4⟩:=S;rw [R] at M;simp only [Mt,Nw] at M;obtain⟨rfl,rfl,rfl⟩:=M;have D:(xs.take n).length=n:=by rw [Nv];omega
      have ha:y=none↔a=none:=by
       rcases e4 with⟨_,rfl⟩ | ⟨_,h,_⟩ | ⟨_,_,rfl,rfl⟩
       .exact OK
       .exact h
       .simp
      have le:Le w ρ O w (aF ρ new (some (.slice y n (cap - 0)))) (aF (aF O j none) new (O j)):=by
       refine⟨rfl,rfl,rfl,M2 _,λk v d=> ?_,λ_ _ _=>rfl,λk b d=> ?_⟩
       .by_cases e:k=new
        .subst e;rw [n1] at d;cases d
        .rw [au _ _ e];exact d
       .by_cases e:k=new
        .subst e;rw [aA] at d;exact .inl ⟨j,d⟩
        .rw [au _ _ e] at d;by_cases f:k=j
         .subst f;rw [aA] at d;cases d
         .rw [au _ _ f] at d;exact .inl ⟨k,d⟩
      have B:∀k b,aF (aF O j none) new (O j) k=some b->(k=new/\O j=some b)\/(k≠new/\k≠j/\O k=some b):=by
       intro k b d;by_cases e:k=new
       .subst e;rw [aA] at d;exact .inl ⟨rfl,d⟩
       .rw [au _ _ e] at d;by_cases f:k=j
        .subst f;rw [aA] at d;cases d
        .rw [au _ _ f] at d;exact .inr ⟨e,f,d⟩
      refine⟨_,_,le, ?_⟩;rw [cD,cD,dc];have hri:=hs.real (i:=i) (by rw [q];simp);have J:=hs.real (i:=j) (by rw [l];simp);have gk:GK w ρ O w (aF ρ new (some (.slice y n (cap - 0)))) (aF (aF O j none) new (O j)):=λk m=>⟨au _ _ (aN g),by rw [au _ _ (aN g),au _ _ (aN J)],λ_ _=>rfl⟩;refine hs.go le gk (λk x d=> ?_) (λk X d=> ?_) (λk d=> ?_) (λk m=>by rw [au _ _ (aN hri),au _ _ (aN g),au _ _ (aN J)];exact hs.dr k m) (λk Q b d W=> ?_) (λk b d=> ?_)
      .by_cases e:k=i
       .subst e;rw [aA] at d;cases d;right;refine⟨b,arr,t,le.dG _ _ h1,by rw [au _ _ Y,au _ _ (O9 V)];exact h2,h3,az.set (az.mono (λb p=>le.A b p) le.dG _ _ T) g1 ?_,h5⟩;simp only [aj];exact aA _ _ _
       .rw [au _ _ e] at d;by_cases f:k=new
        .subst f;rw [aA] at d;cases d;right;refine⟨_,aA _ _ _,⟨y,cap,by rw [D];rfl,by rw [D];omega,by rw [ha];exact f3,trivial, ?_⟩,by simp⟩;rcases N with N | ⟨ae,off,K,t',E,F,q3,q4,q5⟩
         .exact .inl N
         .by_cases I:cap=0
          .exact .inl I
          .right;subst E;have:y=some ⟨ae,off,none⟩:=by
            rcases e4 with⟨_,rfl⟩ | ⟨h,_⟩ | ⟨b',o,e5,rfl⟩
            .rfl
            .exact absurd h.symm I
            .simp only [Mt,Ns] at e5;obtain⟨rfl,rfl,_⟩:=e5;simp
           refine⟨ae,off,K,t',this, ?_,q3,q4,(a8.lA (λb p=>le.A b p) ae _ rfl off xs q5).take n⟩;simp only [MZ,if_false] at F⊢;rw [aA];exact F
        .rw [au _ _ f] at d;by_cases e3:k=j
         .subst e3;rw [aA] at d;cases d;exact .inr ⟨⟨_,le.dG _ _ R,rfl,rfl⟩,by rw [au _ _ Z,aA]⟩
         .rw [au _ _ e3] at d;exact .inl ⟨d,by rw [au _ _ f,au _ _ e3],λ_ _=>rfl⟩
      .by_cases e:k=i
       .subst e;rw [aA] at d;cases d
       .rw [au _ _ e] at d;by_cases f:k=new
        .subst f;rw [aA] at d;cases d
        .rw [au _ _ f] at d;by_cases e3:k=j
         .subst e3;rw [aA] at d;cases d
         .rw [au _ _ e3] at d;rw [au _ _ f,au _ _ f,au _ _ e3];exact hs.cj k X d
      .by_cases e:k=i
       .subst e;rw [aA] at d;cases d
       .rw [au _ _ e] at d;by_cases f:k=new
        .subst f;rw [aA] at d;cases d
        .rw [au _ _ f] at d;by_cases e3:k=j
         .subst e3;rw [aA] at d;cases d
         .rw [au _ _ e3] at d;exact d
      .rcases B k b d with⟨rfl,r⟩ | ⟨p0,r,H⟩ <;> rcases B Q b W with⟨rfl,E⟩ | ⟨q0,E,F⟩
       .rfl
       .exact(E (hs.inj Q j b F r)).elim
       .exact(r (hs.inj k j b H E)).elim
       .exact hs.inj k Q b H F
      .rcases B k b d with⟨rfl,r⟩ | ⟨p0,r,H⟩
       .exact hs.lt j b r
       .exact hs.lt k b H
    .simp at e
   .simp at e
  .simp at e
 .simp at e
theorem J8{new i x:Id}{k sz col rsz:Nat}{us:aB}(e:pk h new i k sz col rsz=some us)(a:h x=none)(l:x≠new):aJ h us x=none:=by
 unfold pk at e;split at e
 .rename_i cs j;have g:x≠i:=λe=>by rw [e,j] at a;cases a
  have d:∀{b:Bool},(cond (h new).isNone (some [(new,ad.rows b sz col rsz 0 []),(i,ad.box (cs.set k (.own new)))]) none)=some us->aJ h us x=none:=by
   intro b e;cases f:(h new).isNone with
   | false=>rw [f] at e;simp at e
   | true=>rw [f] at e;simp only [cond_true,Mt] at e;subst e;rw [cD,dc,au _ _ g,au _ _ l];exact a
  split at e
  .simp only [Mt] at e;subst e;exact a
  .exact d e
  .exact d e
  .simp at e
 .simp at e
theorem JP{new i x:Id}{k sz:Nat}{us:aB}(e:mB h new i k sz=some us)(a:h x=none)(l:x≠new):aJ h us x=none:=by
 unfold mB at e;cases m:Nat.ble 100000 sz with
 | true=>rw [m] at e;exact J8 e a l
 | false=>
 rw [m,cond_false] at e;split at e
 .rename_i cs q;have g:x≠i:=λe=>by rw [e,q] at a;cases a
  have f:∀{b:Bool},(cond (h new).isNone (some [(new,ad.sl false sz b []),(i,ad.box (cs.set k (.own new)))]) none)=some us->aJ h us x=none:=by
   intro b e;cases d:(h new).isNone with
   | false=>rw [d] at e;simp at e
   | true=>rw [d] at e;simp only [cond_true,Mt] at e;subst e;rw [cD,dc,au _ _ g,au _ _ l];exact a
  split at e
  .simp only [Mt] at e;subst e;exact a
  .exact f e
  .exact f e
  .rename_i j t n u;split at e
   .rename_i r bb xs o;have p:x≠j:=λe=>by rw [e,o] at a;cases a
    split at e
    .cases d:(h new).isNone with
     | false=>rw [d] at e;simp at e
     | true=>rw [d] at e;simp only [cond_true,Mt] at e;subst e;rw [cD,cD,dc,au _ _ g,au _ _ l,au _ _ p];exact a
    .simp at e
   .simp at e
  .simp at e
 .simp at e
theorem xc{nm:Nat}:∀{l:List (Id×Nat×Nat)} {j:Nat} {h:Id->Option ad} {ρ:Id->Option Value} {O:Id->Option Nat} {us:aB},HS c w h ρ O->iI nm j h l=some us->∃ρ' O',Le w ρ O w ρ' O'/\HS c w (aJ h us) ρ' O'
 | [],j,h,ρ,O,us,hs,e=>by simp only [iI,Mt] at e;subst e;exact⟨ρ,O,Le.refl,hs⟩
 | (i,k,sz)::l,j,h,ρ,O,us,hs,e=>by simp only [iI] at e;obtain⟨q,m,e⟩:=Mu.1 e;obtain⟨r,n,e⟩:=Mu.1 e;simp only [Mt] at e;subst e;obtain⟨o,p,bY,a⟩:=JQ rfl hs m;obtain⟨f,g,d,b⟩:=xc a n;exact⟨f,g,bY.trans d,by rw [jS];exact b⟩
theorem Ci{nm:Nat}{x:Id}(b:∀k,x≠ .s nm k):∀{l:List (Id×Nat×Nat)} {j:Nat} {h:Id->Option ad} {us:aB},iI nm j h l=some us->h x=none->aJ h us x=none
 | [],j,h,us,e,a=>by simp only [iI,Mt] at e;subst e;exact a
 | (i,k,sz)::l,j,h,us,e,a=>by simp only [iI] at e;obtain⟨g,d,e⟩:=Mu.1 e;obtain⟨m,f,e⟩:=Mu.1 e;simp only [Mt] at e;subst e;rw [jS];exact Ci b f (JP d a (b j))
end
open Go Go.IntKind
section
variable {P:Program} {w w':World} {A A':Nat->Prop} {c:Ctx} {ρ:Id->Option Value} {O:Id->Option Nat} {s:St} {cc:Option Bool} {h:Id->Option ad}
theorem tI{k:Ck}{x:T}(a:dt k x=true):ay w A x (cZ x):=by cases x <;> cases k <;> simp_all [dt,ay,cZ]
theorem wY:∀{ks:List Ck} {xs:List T},bX ks xs=true->aQ w A xs (xs.map cZ)
 | [],[],_=>rfl
 | k::ks,x::xs,a=>by simp only [bX,MB] at a;exact⟨_,_,rfl,tI a.1,wY a.2⟩
 | [],_::_,a=>by simp [bX] at a
 | _::_,[],a=>by simp [bX] at a
theorem wX:∀{ks:List Ck} {xs:List T},bX ks xs=true->xs.length=ks.length
 | [],[],_=>rfl
 | k::ks,x::xs,a=>by simp only [bX,MB] at a;simp [wX a.2]
 | [],_::_,a=>by simp [bX] at a
 | _::_,[],a=>by simp [bX] at a
theorem ux{R:Type}{k:Ck}{x:T}{v:Value}{K:T->Option R}{r:R}(e:cc=none\/cc=some true)(hs:kG k=true)(a:ay w A x v)(h:dX k cc x K=some r):
  ∃y,K y=some r/\dt k y=true/\v=cZ y:=by
 unfold dX at h;cases k with
 | i k=>simp only at h;replace h:=aL h e;obtain⟨n,d,h⟩:=h;rw [T.eR d] at a;exact⟨_,h,by simp [dt],by simpa [ay,cZ] using a⟩
 | b=>simp only at h;replace h:=aL h e;obtain⟨n,d,h⟩:=h;rw [T.gJ d] at a;exact⟨_,h,by simp [dt],by simpa [ay,cZ] using a⟩
 | s=>simp only at h;replace h:=aL h e;obtain⟨n,d,h⟩:=h;rw [T.iQ d] at a;exact⟨_,h,by simp [dt],by simpa [ay,cZ] using a⟩
 | l _=>simp [kG] at hs
 | x=>simp [kG] at hs
theorem xT{R:Type}(d:cc=none\/cc=some true):∀{ks:List Ck} {xs:List T} {vs:List Value} {K:List T->Option R} {r:R},ks.all kG=true->xs.length=ks.length->aQ w A xs vs->dR cc ks xs K=some r->
  ∃b,K b=some r/\bX ks b=true/\vs=b.map cZ
 | [],[],vs,K,r,_,_,a,h=>⟨[],h,rfl,by simpa [aQ] using a⟩
 | [],_::_,vs,K,r,_,hl,a,h=>by simp at hl
 | _::_,[],vs,K,r,_,hl,a,h=>by simp at hl
 | k::ks,x::xs,vs,K,r,hs,hl,a,h=>by obtain⟨v,q,rfl,j,l⟩:=a;simp only [NL,MB] at hs;simp only [dR] at h;obtain⟨y,h,e,f⟩:=ux d hs.1 j h;obtain⟨b,h,g,i⟩:=xT d hs.2 (by simpa using hl) l h;exact⟨y::b,h,by simp [bX,e,g],by rw [f,i];rfl⟩
theorem Bx{k:TypeId}{q:Bool×List Ck}(h:jc P k=some q):q.2.all kG=true/\(q.1=false->q.2.length=1):=by
 unfold jc at h;split at h
 .simp only [Mt] at h;subst h;simp [kG]
 .simp only [Mt] at h;subst h;simp [kG]
 .split at h
  .split at h
   .simp only [Mt] at h;subst h;refine⟨?_,by simp⟩;rw [MR];intro b a;rw [List.eq_of_mem_replicate a];rfl
   .cases h
  .cases h
 .cases h
theorem wI{R:Type}{k:TypeId}{v:AV}{u:Value}{K:Bool->List Ck->List T->Option R}{r:R}(j:cc=none\/cc=some true)(g:aj w A ρ v u)(h:mj P k cc v K=some r):
  ∃ag ks cs,K ag ks cs=some r/\jc P k=some (ag,ks)/\bX ks cs=true/\u=cM ag cs:=by
 unfold mj at h;obtain⟨q,f,h⟩:=Mu.1 h;obtain⟨p,m⟩:=q;have a:=Bx f;simp only at h a;split at h
 .rename_i x _;obtain⟨i,h,b,d⟩:=xT (vs:= [u]) j a.1 (by simpa using (a.2 rfl).symm) (show aQ w A [x] [u] from⟨u,[],rfl,by simpa [aj] using g,rfl⟩) h;refine⟨false,m,i,h,f,b, ?_⟩;unfold cM;rw [<-d];rfl
 .rename_i vs _;obtain⟨l,hl,h⟩:=Mu.1 h;split at h
  .rename_i e;simp only [aj] at g;obtain⟨t,rfl,n,o⟩:=g;obtain⟨i,h,b,d⟩:=xT j a.1 e (aQ.jf hl n) h;refine⟨true,m,i,h,f,b, ?_⟩;unfold cM;rw [d];rfl
  .cases h
 .cases h
theorem Es{a b:ByteArray}(e:(a==b)=true):a=b:=by
 cases a with
 | mk x=>cases b with
  | mk y=>have e':(x==y)=true:=e;rw [eq_of_beq e']
theorem Hj{k:Ck}{x y:T}(a:dt k x=true)(b:dt k y=true)(e:kW x y=true):x=y:=by
 cases x <;> cases k <;> simp [dt] at a <;> cases y <;> simp [dt] at b <;> simp [kW] at e
 .subst a;subst b;subst e;rfl
 .subst e;rfl
 .rw [Es e]
theorem AJ:∀{ks:List Ck} {xs d:List T},bX ks xs=true->bX ks d=true->dB xs d=true->xs=d
 | [],[],[],_,_,_=>rfl
 | k::ks,x::xs,y::d,a,b,e=>by simp only [bX,MB] at a b;simp only [dB,MB] at e;rw [Hj a.1 b.1 e.1,AJ a.2 b.2 e.2]
 | [],_::_,_,a,_,_=>by simp [bX] at a
 | [],[],_::_,_,b,_=>by simp [bX] at b
 | _::_,[],_,a,_,_=>by simp [bX] at a
 | _::_,_::_,[],_,b,_=>by simp [bX] at b
theorem Hg{t:TypeId}{i:IntKind}(d:P.underlying t=some (.int i)){x y:T}(a:dt (.i i) x=true)(b:dt (.i i) y=true){R:Type}(K:Bool->Option R):jz P none t x y K=K (kW x y):=by cases x <;> simp [dt] at a;cases y <;> simp [dt] at b;subst a;subst b;simp [jz,d,aa,T.int?,kW]
theorem AD{e:TypeId}{i:IntKind}(f:P.underlying e=some (.int i)){R:Type}:∀(n:Nat) (xs d:List T) (K:Bool->Option R),bX (List.replicate n (.i i)) xs=true->bX (List.replicate n (.i i)) d=true->dD P none (List.replicate n e) xs d K=K (dB xs d)
 | 0,[],[],K,_,_=>rfl
 | n+1,x::xs,y::d,K,a,b=>by simp only [NV,bX,MB] at a b;simp only [NV,dD,dB];rw [Hg f a.1 b.1,AD f n xs d _ a.2 b.2]
 | 0,_::_,_,_,a,_=>by simp [bX] at a
 | 0,[],_::_,_,_,b=>by simp [bX] at b
 | n+1,[],_,_,a,_=>by simp [NV,bX] at a
 | n+1,_::_,[],_,_,b=>by simp [NV,bX] at b
theorem qE{ag:Bool}{ks:List Ck}{cs:List T}(b:ag=false->ks.length=1)(h:bX ks cs=true)(a:ag=false):∃x,cs= [x]/\cM ag cs=cZ x:=by have hl:=wX h;rw [b a] at hl;obtain⟨x,rfl⟩:=OG.1 hl;exact⟨x,rfl,by rw [a];rfl⟩
theorem Hk{k:TypeId}{ag:Bool}{ks:List Ck}(f:jc P k=some (ag,ks)){a b:List T}(g:bX ks a=true)(j:bX ks b=true)(w:World):
  (Op.equal k (cM ag a) (cM ag b)).run P w= .ok (dB a b) w:=by
 unfold jc at f;split at f
 .rename_i i l;simp only [Mt,Ng] at f;obtain⟨rfl,rfl⟩:=f;obtain⟨x,rfl,r⟩:=qE (ag:=false) (by simp) g rfl;obtain⟨y,rfl,t⟩:=qE (ag:=false) (by simp) j rfl;rw [r,t];simp only [bX,NK] at g j;have key:∀d (p q:Int),(Op.equalIn (d+1) k (.int i p) (.int i q)).run P w= .ok (p==q) w:=λd p q=>by simp [Op.equalIn,run_underlying l]
  cases x <;> simp [dt] at g;cases y <;> simp [dt] at j;rename_i E F;subst g;subst j;rw [show ∀a b:T,dB [a] [b]=kW a b from λa b=>by simp [dB]];exact key 9999 _ _
 .rename_i l;simp only [Mt,Ng] at f;obtain⟨rfl,rfl⟩:=f;obtain⟨x,rfl,r⟩:=qE (ag:=false) (by simp) g rfl;obtain⟨y,rfl,t⟩:=qE (ag:=false) (by simp) j rfl;rw [r,t];simp only [bX,NK] at g j;cases x <;> simp [dt] at g;cases y <;> simp [dt] at j;rename_i p q;have:∀d,(Op.equalIn (d+1) k (.string p) (.string q)).run P w= .ok (p==q) w:=λd=>by simp [Op.equalIn,run_underlying l]
  rw [show ∀a b:T,dB [a] [b]=kW a b from λa b=>by simp [dB]];exact this 9999
 .rename_i n e l;split at f
  .rename_i i m;split at f
   .rename_i o;simp only [Mt,Ng] at f;obtain⟨rfl,rfl⟩:=f;have C:eC P 7 e=some [e]:=by simp [eC,m]
    have B:eC P 8 k=some (List.replicate n e):=by
     simp only [eC,l,m,Mw,MC,o.1,if_true];congr 1;induction n with
     | zero=>rfl
     | succ n D=>simp [NV]
    obtain⟨bb,u,z⟩:=vX (P:=P) (w:=w) (A:=λ_=>True) 8 k _ B 10000 (by omega) Bool none (.inl rfl) a b (a.map cZ) (b.map cZ) (λb=>some b) _ (wY g) (wY j) (AD m n a b _ g j);have v:bz P k=true:=by simp [bz,l]
    simp only [Mt] at u;subst u;simpa [iT,v,cM,Op.equal,Op.maxDepth] using z
   .cases f
  .cases f
 .cases f
theorem sP{k:TypeId}{ag:Bool}{ks:List Ck}(v:jc P k=some (ag,ks)){a:List T}(t:bX ks a=true)(w:World):∀(b:List MapEntry) (es:List (List T×T)) (j:Nat),b.map (λe=>(e.key,e.val))=es.map (λp=>(cM ag p.1,cZ p.2))->(∀p∈es,bX ks p.1=true)->
  ((Instr.findAsking k (cM ag a) b j).run P w= .ok none w/\fq a es=none)\/∃i x e p,(Instr.findAsking k (cM ag a) b j).run P w= .ok (some (j+i,cZ x)) w/\fq a es=some x/\b[i]? =some e/\es[i]? =some p/\dB a p.1=true/\(∀i' l,i' < i->es[i']? =some l->dB a l.1=false)
 | [],[],j,_,_=> .inl ⟨by simp [Instr.findAsking],rfl⟩
 | [],_::_,j,h,_=>by simp at h
 | _::_,[],j,h,_=>by simp at h
 | e::b,(q,x)::es,j,h,m=>by
  simp only [Nh,NN,Ng] at h;obtain⟨⟨r,F⟩,G⟩:=h;have d:=Hk v t (m _ Mv) w;simp only at d;cases f:dB a q
  .rw [f] at d;rcases sP v t w b es (j+1) G (λp H=>m p (Mx _ H)) with⟨n,o⟩ | ⟨i,y,e',l,n,o,B,C,D,E⟩
   .exact .inl ⟨by simp [Instr.findAsking,r,d,n],by simp [fq,f,o]⟩
   .refine .inr ⟨i+1,y,e',l,by simp [Instr.findAsking,r,d,n];omega,by simp [fq,f,o],by simpa using B,by simpa using C,D, ?_⟩;intro i' z u g;cases i' with
    | zero=>simp at g;subst g;exact f
    | succ i'=>exact E i' z (by omega) (by simpa using g)
  .rw [f] at d;exact .inr ⟨0,x,e,(q,x),by simp [Instr.findAsking,r,d,F],by simp [fq,f],rfl,rfl,f,λi' _ u=>by omega⟩
theorem CT{f:Nat->Sem Unit}:∀(l:List Nat),(∀i∈l,(f i).run P w= .ok () w)->(forIn l PUnit.unit λi _=>do f i;pure (ForInStep.yield PUnit.unit)).run P w= .ok PUnit.unit w
 | [],_=>by simp
 | i::l,h=>by simp only [List.forIn_cons,MV,h i Mv,MH,M6];have:=CT (f:=f) l λj a=>h j (Mx _ a);simpa using this
theorem uZ{k:TypeId}{ag:Bool}{ks:List Ck}(f:jc P k=some (ag,ks)){a:List T}(p:bX ks a=true)(em:Bool)(w:World):
  (Instr.checkKey em 10000 k (cM ag a)).run P w= .ok () w:=by
 unfold jc at f;split at f
 .rename_i i g;have:∀d,(Instr.checkKey em (d+1) k (cM ag a)).run P w= .ok () w:=λd=>by simp [Instr.checkKey,run_underlying g]
  exact this 9999
 .rename_i g;have:∀d,(Instr.checkKey em (d+1) k (cM ag a)).run P w= .ok () w:=λd=>by simp [Instr.checkKey,run_underlying g]
  exact this 9999
 .rename_i n e g;split at f
  .rename_i i l;split at f
   .rename_i b;simp only [Mt,Ng] at f;obtain⟨rfl,rfl⟩:=f;have m:bR P e=true:=by simp [bR,l]
    have t:bz P e=false:=by simp [bz,l]
    have hl:=wX p;rw [Oo] at hl;have one:∀d v,(Instr.checkKey em (d+1) e v).run P w= .ok () w:=λd v=>by simp [Instr.checkKey,run_underlying l]
    have r:∀d,∀j∈List.range' 0 n 1,(do Instr.checkKey em (d+1) e (<-part e (a.map cZ).toArray (j * (<-sizeOf e)))).run P w= .ok () w:=by
     intro d j o;have o:j < n:=by simpa using o
     have:=rv (P:=P) m (a.map cZ).toArray (j * 1) (λ_=>b.1) (by simp [b.1,hl];omega) w;simp only [MV,gV m,MH,b.1,this,one d]
    have q:∀d,(Instr.checkKey em (d+2) k (cM true a)).run P w= .ok () w:=by intro d;have:=CT (P:=P) (w:=w) _ (r d);rw [Instr.checkKey];simp only [cM,cond_true,MV,run_underlying g,MH];simp only [Std.Legacy.Range.forIn_eq_forIn_range',Std.Legacy.Range.size,Nat.sub_zero,Nat.add_one_sub_one,Nat.div_one];simp at this;simp [this]
    exact q 9998
   .cases f
  .cases f
 .cases f
theorem AP{g:TypeId}{d:TypeDesc}(f:P.underlying g=some d)(k:Value):∀(es:List MapEntry) (j:Nat) (r:Option (Nat×Value)),Instr.findNow d k es j=some r->(Instr.findAsking g k es j).run P w= .ok r w
 | [],j,r,h=>by simp [Instr.findNow] at h;subst h;simp [Instr.findAsking]
 | e::es,j,r,h=>by
  have key:∀b,Instr.sameNow d k e.key=some b->(Op.equal g k e.key).run P w= .ok b w:=by
   intro b a;generalize e.key=ek at a⊢;have:∀n,(Op.equalIn (n+1) g k ek).run P w= .ok b w:=by
    intro n;unfold Instr.sameNow at a;split at a
    .split at a
     .rename_i i;simp only [Mt] at a;subst a;subst i;simp [Op.equalIn,run_underlying f]
     .cases a
    .simp only [Mt] at a;subst a;simp [Op.equalIn,run_underlying f]
    .simp only [Mt] at a;subst a;simp [Op.equalIn,run_underlying f]
    .cases a
   exact this 9999
  simp only [Instr.findNow] at h;split at h
  .rename_i a;simp only [Mt] at h;subst h;simp [Instr.findAsking,key _ a]
  .rename_i a;simp [Instr.findAsking,key _ a,AP f k es (j+1) r h]
  .cases h
theorem oQ{a:TypeId}{d:TypeDesc}(b:P.underlying a=some d)(k:Value)(es:List MapEntry)(r:Option (Nat×Value))(h:(Instr.findAsking a k es 0).run P w= .ok r w):(Instr.findKey a k es).run P w= .ok r w:=by
 unfold Instr.findKey;simp only [MV,run_underlying b,MH];cases e:Instr.findNow d k es 0 with
 | none=>simpa using h
 | some f=>have:=AP (w:=w) b k es 0 f e;rw [this] at h;simpa using h
theorem wJ{k:TypeId}{q:Bool×List Ck}(h:jc P k=some q):∃d,P.underlying k=some d:=by
 unfold jc at h;split at h
 .exact⟨_,by assumption⟩
 .exact⟨_,by assumption⟩
 .exact⟨_,by assumption⟩
 .cases h
theorem wP{t:TypeId}{q:TypeId×TypeId}(h:o9 P t=some q):P.underlying t=some (.map q.1 q.2):=by
 unfold o9 at h;split at h
 .rename_i k e b;cases a:bR P k && bR P e
  .simp [a] at h
  .simp only [a,cond_true,Mt] at h;subst h;exact b
 .cases h
theorem Ms{t:TypeId}{z:T}(h:xX P t=some z):∃v,(zeroValue t).run P w= .ok v w/\ay w A z v:=by
 unfold xX at h;split at h
 .rename_i i a;split at h
  .rename_i v b;refine⟨v, ?_,B4 h⟩;simp [zeroValue,typeInfo,run_program,a,b]
  .cases h
 .cases h
theorem wU{i:Id}{ag:Bool}{ks:List Ck}{vk:Ck}{es:List (List T×T)}(hs:HS c w s.h ρ O)(m:s.h i=some (.mp ag ks vk es)):∃b d a,ρ i=some (.map (some b))/\O i=some b/\w.heap[b]? =some (.map d a)/\
   d.toList.map (λe=>(e.key,e.val))=es.map (λp=>(cM ag p.1,cZ p.2))/\(∀p∈es,bX ks p.1=true/\dt vk p.2=true):=by
 obtain⟨b,d,a,f,g,j,k,l⟩:=hs.ae i _ m;exact⟨b,d,a,f,g,j,k,λp n=>by simpa using MR.1 l p n⟩
theorem AO{a:List T}:∀{es:List (List T×T)} {x:T},fq a es=some x->∃p∈es,p.2=x
 | [],x,h=>by simp [fq] at h
 | (k,v)::r,x,h=>by
  simp only [fq] at h;cases b:dB a k
  .rw [b,cond_false] at h;obtain⟨p,d,e⟩:=AO h;exact⟨p,Mx _ d,e⟩
  .rw [b,cond_true] at h;simp only [Mt] at h;exact⟨_,Mv,h⟩
theorem H7{R:Type}{t:TypeId}{x key:AV}{ok:Bool}{U vk:Value}{K:AV->Option R}{r:R}(hs:HS c w s.h ρ O)(m:aj w (AA c w O) ρ x U)(G:aj w (AA c w O) ρ key vk)(F:cc=none\/cc=some true)
  (h:lu P s cc t x key ok K=some r):∃H v,K H=some r/\(Instr.lookup t U vk ok).run P w= .ok v w/\aj w (AA c w O) ρ H v:=by
 unfold lu at h;obtain⟨q,hq,h⟩:=Mu.1 h;obtain⟨z,hz,h⟩:=Mu.1 h;obtain⟨ag,ks,cs,h,g,o,rfl⟩:=wI F G h;split at h
 .rename_i i;split at h
  .rename_i ag' ks' T es Z;split at h
   .rename_i l;obtain⟨rfl,rfl,hvk,B,_⟩:=l;obtain⟨b,a,V,X,g2,I,Y,J⟩:=wU hs Z;simp only [aj] at m;rw [X] at m;simp only [Mt] at m;subst m;obtain⟨zv,Q,S⟩:=Ms (w:=w) (A:=AA c w O) hz;obtain⟨d,L⟩:=wJ g;have N:=wP hq;have n:=uZ g o a.isEmpty w;rcases sP g o w a.toList es 0 Y (λp hp=>(J p hp).1) with⟨E,k⟩ | ⟨j,y,e,p,E,k,f3,f4,f5,f6⟩
    .have f:=oQ L _ _ _ E;rw [k] at h;simp only [Pq,Option.isSome_none] at h;obtain⟨u,h,C,D⟩:=ux F B S h;refine⟨_,cond ok (.tuple #[zv, .bool false]) zv,h, ?_, ?_⟩
     .cases ok <;> simp [Instr.lookup,run_underlying N,N3 I,n,f,Q]
     .have:ay w (AA c w O) u zv:=by rw [D];exact tI C
      cases ok
      .simpa [aj] using this
      .simp only [cond_true,aj];exact⟨[zv, .bool false],rfl,by simp only [az,aj];exact⟨zv,[.bool false],rfl,this, .bool false,[],rfl,by simp [ay],rfl⟩⟩
    .have f:=oQ L _ _ _ E;rw [k] at h;simp only [Oc,Option.isSome_some] at h;obtain⟨p',M,W⟩:=AO k;have hy:dt T y=true:=by rw [<-W];exact(J p' M).2
     obtain⟨u,h,C,D⟩:=ux F B (tI (w:=w) (A:=AA c w O) hy) h;refine⟨_,cond ok (.tuple #[cZ y, .bool true]) (cZ y),h, ?_, ?_⟩
     .cases ok <;> simp [Instr.lookup,run_underlying N,N3 I,n,f]
     .have:ay w (AA c w O) u (cZ y):=by rw [D];exact tI C
      cases ok
      .simpa [aj] using this
      .simp only [cond_true,aj];exact⟨[cZ y, .bool true],rfl,by simp only [az,aj];exact⟨cZ y,[.bool true],rfl,this, .bool true,[],rfl,by simp [ay],rfl⟩⟩
   .cases h
  .cases h
 .cases h
theorem Et(a:ByteArray):(a==a)=true:=by
 cases a with
 | mk x=>show(x==x)=true;simp
theorem Da{k:Ck}{x:T}(h:dt k x=true)(n:Nat):Instr.sameBits n (cZ x) (cZ x)=true:=by cases x <;> cases k <;> simp [dt] at h <;> cases n <;> simp [Instr.sameBits,cZ,Et]
theorem Lx{ag:Bool}{ks:List Ck}(a:ag=false->ks.length=1){cs:List T}(h:bX ks cs=true)(n:Nat):Instr.sameBits (n+1) (cM ag cs) (cM ag cs)=true:=by
 cases ag with
 | false=>
  obtain⟨x,rfl,e⟩:=qE a h rfl;rw [e];cases ks with
  | nil=>simp [bX] at h
  | cons k ks=>simp only [bX,MB] at h;exact Da h.1 _
 | true=>
  simp only [cM,cond_true,Instr.sameBits,beq_self_eq_true,NA];clear a;induction ks generalizing cs with
  | nil=>cases cs with
   | nil=>rfl
   | cons x cs=>simp [bX] at h
  | cons k ks b=>cases cs with
   | nil=>simp [bX] at h
   | cons x cs=>simp only [bX,MB] at h;have:=b h.2;simp only [Nh,List.zip_cons_cons,NL,Da h.1,NA];simpa using this
theorem LP{ag:Bool}{ks:List Ck}(a:ag=false->ks.length=1){cs:List T}(h:bX ks cs=true):(Instr.keyThatStays (cM ag cs) (cM ag cs)).run P w= .ok (cM ag cs) w:=by unfold Instr.keyThatStays;have:Instr.sameBits 10000 (cM ag cs) (cM ag cs)=true:=Lx a h 9999;simp [this]
theorem Cp{a:List T}{v:T}:∀{es:List (List T×T)},fq a es=none->gv a v es=es++ [(a,v)]
 | [],_=>rfl
 | (k,x)::r,h=>by
  simp only [fq] at h;cases b:dB a k
  .rw [b,cond_false] at h;simp [gv,b,Cp h]
  .simp [b] at h
theorem Cq{a:List T}{v:T}:∀{es:List (List T×T)} {i:Nat} {p:List T×T},es[i]? =some p->dB a p.1=true->(∀i' d,i' < i->es[i']? =some d->dB a d.1=false)->gv a v es=es.set i (a,v)
 | [],i,p,h,_,_=>by simp at h
 | (k,x)::r,0,p,h,b,_=>by simp at h;subst h;simp only at b;simp [gv,b]
 | (k,x)::r,i+1,p,h,b,e=>by have f:dB a k=false:=e 0 (k,x) (by omega) rfl;have:=Cq (v:=v) (es:=r) (i:=i) (p:=p) (by simpa using h) b λi' d j g=>e (i'+1) d (by omega) (by simpa using g);simp [gv,f,this]
theorem xf{ks:List Ck}{vk:Ck}{a:List T}{v:T}(d:bX ks a=true)(e:dt vk v=true):∀{es:List (List T×T)},(∀p∈es,bX ks p.1=true/\dt vk p.2=true)->∀p∈gv a v es,bX ks p.1=true/\dt vk p.2=true
 | [],_,p,b=>by simp [gv] at b;subst b;exact⟨d,e⟩
 | (k,x)::r,h,p,b=>by
  simp only [gv] at b;cases f:dB a k
  .rw [f,cond_false] at b;rcases MN.1 b with rfl | b
   .exact h _ Mv
   .exact xf d e (λq g=>h q (Mx _ g)) p b
  .rw [f,cond_true] at b;rcases MN.1 b with rfl | b
   .exact⟨d,e⟩
   .exact h p (Mx _ b)
theorem HS.uC{i:Id}{b:Nat}{f ents':Array MapEntry}{d clock':Nat}{ag:Bool}{ks:List Ck}{vk:Ck}{es':List (List T×T)}{j:Id->Option ad}(hs:HS c w j ρ O)(q:j i≠none)
  (m:ρ i=some (.map (some b))) (g:O i=some b) (l:w.heap[b]? =some (.map f d)) (n:ents'.toList.map (λe=>(e.key,e.val))=es'.map (λp=>(cM ag p.1,cZ p.2))) (o:∀p∈es',bX ks p.1=true/\dt vk p.2=true):
  Le w ρ O {w with heap:=w.heap.setIfInBounds b (.map ents' clock')} ρ O/\HS c {w with heap:=w.heap.setIfInBounds b (.map ents' clock')} (aF j i (some (.mp ag ks vk es'))) ρ O:=by
 have a:∀k,k≠b->(w.heap.setIfInBounds b (.map ents' clock'))[k]? =w.heap[k]?:=λk r=>Go.ChangeMaps.heap_setBlock_other l _ r;have le:Le w ρ O {w with heap:=w.heap.setIfInBounds b (.map ents' clock')} ρ O:=Le.write g rfl rfl rfl (by simp) a;refine⟨le,hs.write g le a _ ?_ q⟩;exact⟨b,ents',clock',m,g,Go.ChangeMaps.heap_setBlock_same l _,n,by rw [MR];exact λp t=>by simpa using o p t⟩
theorem JW{R:Type}{t:TypeId}{x key v:AV}{vx vk B:Value}{K:aB->Option R}{r:R}(hs:HS c w s.h ρ O)(G:aj w (AA c w O) ρ x vx)(U:aj w (AA c w O) ρ key vk)(W:aj w (AA c w O) ρ v B)
  (h:lE P s t x key v K=some r):∃us w',K us=some r/\(Instr.mapUpdate t vx vk B).run P w= .ok () w'/\Le w ρ O w' ρ O/\HS c w' (aJ s.h us) ρ O:=by
 unfold lE at h;obtain⟨q,hq,h⟩:=Mu.1 h;obtain⟨ag,ks,cs,h,n,g,rfl⟩:=wI (cc:=none) (.inl rfl) U h;split at h
 .rename_i i;split at h
  .rename_i f J L es T;split at h
   .rename_i F;obtain⟨rfl,rfl,hvk,hsc⟩:=F;obtain⟨y,hy,h⟩:=Mu.1 h;rw [AV.jP hy] at W;simp only [aj] at W;obtain⟨u,h,Y,Z⟩:=ux (cc:=none) (.inl rfl) hsc W h;obtain⟨b,a,l,Q,g2,o,D,E⟩:=wU hs T;simp only [aj] at G;rw [Q] at G;simp only [Mt] at G;subst G;obtain⟨d,hd⟩:=wJ n;have hu:=wP hq;have H:=uZ n g false w;have hag:=(Bx n).2;rcases sP n g w a.toList es 0 D (λp hp=>(E p hp).1) with⟨M,f2⟩ | ⟨j,y',e,p,M,f2,N,C,f5,f6⟩
    .have m:=oQ hd _ _ _ M;obtain⟨le,z⟩:=HS.uC (ag:=f) (ks:=J) (vk:=L) (es':=gv cs u es) (ents':=a.push {key:=cM f cs,val:=B,born:=l}) (clock':=l+1) hs (by rw [T];simp) Q g2 o
      (by rw [Cp f2];simp [D,Z]) (xf g Y E)
     refine⟨_,_,h, ?_,le,z⟩;simp [Instr.mapUpdate,run_underlying hu,N3 o,H,m,OH _ o]
    .have m:=oQ hd _ _ _ M;have hlt:j < es.length:=(My.1 C).1;have hpk:p.1=cs:=(AJ g (E p (MD C)).1 f5).symm;have hek:e.key=cM f cs:=by
      have S:(a.toList.map λe=>(e.key,e.val))[j]? =some (e.key,e.val):=by simp [Nz,N]
      rw [D] at S;simp only [Nz,C,N1,Mt,Ng] at S;rw [<-S.1,hpk]
     have V:(a.modify j λe=>{e with key:=cM f cs,val:=B}).toList.map (λe=>(e.key,e.val))= (gv cs u es).map (λp=>(cM f p.1,cZ p.2)):=by
      rw [Cq C f5 f6];refine NJ λk=> ?_;have I:(a.toList.map λe=>(e.key,e.val))[k]? = (es.map λp=>(cM f p.1,cZ p.2))[k]?:=by rw [D]
      simp only [Nz,Array.toList_modify,List.getElem?_modify,NT] at I⊢;by_cases X:j=k
      .subst X;simp [N,hlt,Z]
      .simp only [X,if_false];simpa using I
     obtain⟨le,z⟩:=HS.uC (ag:=f) (ks:=J) (vk:=L) (es':=gv cs u es) (ents':=a.modify j λe=>{e with key:=cM f cs,val:=B}) (clock':=l) hs (by rw [T];simp) Q g2 o V (xf g Y E);refine⟨_,_,h, ?_,le,z⟩;have hst:=LP (P:=P) (w:=w) hag g;have f3':a[j]? =some e:=by simpa using N
     rw [Nc] at m;simp [Instr.mapUpdate,run_underlying hu,N3 o,H,m,f3',hek,hst,OH _ o]
   .cases h
  .cases h
 .cases h
theorem yP{a:List T}:∀{es:List (List T×T)},fq a es=none->jx a es=es
 | [],_=>rfl
 | p::es,h=>by
  unfold fq at h;unfold jx;cases b:dB a p.1 with
  | true=>rw [b] at h;simp at h
  | false=>rw [b] at h;simp only [cond_false] at h⊢;rw [yP h]
theorem yO{a:List T}:∀{es:List (List T×T)} {i:Nat} {p:List T×T},es[i]? =some p->dB a p.1=true->(∀i' b,i' < i->es[i']? =some b->dB a b.1=false)->jx a es=es.eraseIdx i
 | [],_,_,h,_,_=>by simp at h
 | q::es,0,p,h,d,_=>by simp only [Ob,Mt] at h;subst h;simp [jx,d]
 | q::es,i+1,p,h,d,e=>by have h0:=e 0 q (by omega) rfl;unfold jx;rw [h0,cond_false,yO (by simpa using h) d (λi' b g f=>e (i'+1) b (by omega) (by simpa using f))];rfl
theorem wQ{a b:Type}(f:a->b):∀(l:List a) (i:Nat),(l.eraseIdx i).map f= (l.map f).eraseIdx i
 | [],_=>rfl
 | _::_,0=>rfl
 | x::l,i+1=>by simp only [List.eraseIdx_cons_succ,Nh,wQ f l i]
theorem vd{a:List T}:∀{es:List (List T×T)},∀p∈jx a es,p∈es
 | [],p,h=>h
 | q::es,p,h=>by
  unfold jx at h;cases b:dB a q.1 with
  | true=>rw [b] at h;exact Mx _ h
  | false=>
   rw [b] at h;rcases MN.1 h with rfl | h
   .exact Mv
   .exact Mx _ (vd p h)
theorem EX{R:Type}{t ty tr:TypeId}{x key:AV}{U vk:Value}{K:aB->Option R}{r:R}(hs:HS c w s.h ρ O)(v:aj w (AA c w O) ρ x U)(I:aj w (AA c w O) ρ key vk)
  (h:kT P s t x key K=some r):∃us w',K us=some r/\(Builtin.delete_ #[t,ty] tr #[U,vk]).run P w= .ok (.tuple #[]) w'/\Le w ρ O w' ρ O/\HS c w' (aJ s.h us) ρ O:=by
 unfold kT at h;obtain⟨q,Y,h⟩:=Mu.1 h;obtain⟨ag,ks,cs,h,l,B,rfl⟩:=wI (cc:=none) (.inl rfl) I h;split at h
 .rename_i i;split at h
  .rename_i y C D es H;split at h
   .rename_i u;obtain⟨rfl,rfl⟩:=u;obtain⟨b,a,f,F,M,k,o,G⟩:=wU hs H;simp only [aj] at v;rw [F] at v;simp only [Mt] at v;subst v;obtain⟨d,N⟩:=wJ l;have T:=wP Y;have z:=uZ l B a.isEmpty w;rcases sP l B w a.toList es 0 o (λp m=>(G p m).1) with⟨E,J⟩ | ⟨j,y',e,p,E,J,Z,L,V,W⟩
    .have g:=oQ N _ _ _ E;obtain⟨le,n⟩:=HS.uC (ag:=y) (ks:=C) (vk:=D) (es':=jx cs es) (ents':=a) (clock':=f) hs (by rw [H];simp) F M k (by rw [yP J];exact o) (λp m=>G p (vd p m));refine⟨_,_,h, ?_,le,n⟩;simp [Builtin.delete_,run_underlying T,N3 k,z,g,OH _ k]
    .have g:=oQ N _ _ _ E;have S:j < es.length:=(My.1 L).1;have Q:a.toList.length=es.length:=by simpa using congrArg List.length o
     have X:j < a.size:=by rw [<-M1,Q];exact S
     obtain⟨le,n⟩:=HS.uC (ag:=y) (ks:=C) (vk:=D) (es':=jx cs es) (ents':=a.eraseIdxIfInBounds j) (clock':=f) hs (by rw [H];simp) F M k (by
       rw [yO L V W,wQ,<-o,<-wQ];simp only [Array.eraseIdxIfInBounds,X,dif_pos,Array.toList_eraseIdx]) (λp m=>G p (vd p m))
     refine⟨_,_,h, ?_,le,n⟩;rw [Nc] at g;simp [Builtin.delete_,run_underlying T,N3 k,z,g,OH _ k]
   .cases h
  .cases h
 .cases h
theorem Ic{R:Type}{d:Nat}{t:TypeId}{K:AV->aB->Option R}{r:R}(hs:HS c w s.h ρ O)(h:o8 P d t K=some r):
  ∃v us,K v us=some r/\(gp d s.h us=true->∃u w' ρ' O',(Instr.makeMap t none).run P w= .ok u w'/\Le w ρ O w' ρ' O'/\HS c w' (aJ s.h us) ρ' O'/\aj w' (AA c w' O') ρ' v u):=by
 unfold o8 at h;obtain⟨q,g,h⟩:=Mu.1 h;obtain⟨p,f,h⟩:=Mu.1 h;split at h
 .rename_i e;refine⟨_,_,h,λa=> ?_⟩;have a:=gO a Mv;have le:=Le.alloc hs (i:= .s d 0) rfl a (.map #[] 0) (.map (some w.heap.size)) (some w.heap.size) (.inr rfl);have b:=hs.alloc (i:= .s d 0) rfl a (.map #[] 0) (.map (some w.heap.size)) (some w.heap.size) (.inr rfl) (.mp p.1 p.2 (jv P q.2) []) ⟨w.heap.size,#[],0,by simp,by simp,ja _,by simp,by simp⟩;refine⟨.map (some w.heap.size),_,_,_,rfl,le,by rw [dc];exact b, ?_⟩;simp only [aj];rw [aA]
 .refine⟨_,_,h,λa=> ?_⟩;have a:=gO a Mv;have le:=Le.alloc hs (i:= .s d 0) rfl a (.map #[] 0) (.map (some w.heap.size)) none (.inl rfl);have b:=hs.alloc (i:= .s d 0) rfl a (.map #[] 0) (.map (some w.heap.size)) none (.inl rfl) .dead ⟨⟨_,aA _ _ _,rfl,rfl⟩,aA _ _ _⟩;refine⟨.map (some w.heap.size),_,_,_,rfl,le,by rw [dc];exact b, ?_⟩;simp only [aj,ay];exact⟨rfl,rfl⟩
end
end Go.Aev
