import Derived.Test.YtcffabneepdohaaGreatDoorBlastBackQ2
import Derived.MapKept
import Derived.ChangeMaps5
set_option linter.all false
namespace Go.Aev
open Go Go.IntKind
section
variable {P:Program} {w w':World} {A A':Nat->Prop} {c:Ctx} {ρ:Id->Option Value} {O:Id->Option Nat} {s:St} {cc:Option Bool} {h:Id->Option ad}
def js(ρ:Id->Option Value)(i i':Id)(a:Nat)(v vk:Value):Id->Option Value:=λx=>
 if x=i' then some v else match x with
  | .g y n=>if y=i' then(if n=a then some vk else ρ (.g i n)) else ρ (.g y n)
  | x=>ρ x
def fD(O:Id->Option Nat)(i i' j src:Id)(a:Nat)(ob:Option Nat):Id->Option Nat:=λx=>
 if x=i' then ob else if x=i\/x=j\/x=src then none else match x with
  | .g y n=>if y=i' then(if n=a then O src else O (.g i n)) else if y=i then none else O (.g y n)
  | x=>O x
def wY(i i' j src:Id)(a:Nat):Id->Option Id:=λx=>
 if x=i' then some i else if x=i\/x=j\/x=src then none else match x with
  | .g y n=>if y=i' then(if n=a then some src else some (.g i n)) else if y=i then none else some (.g y n)
  | x=>some x
def o6(i i' src:Id)(a:Nat):Id->Id:=λz=>
 if z=i then i' else if z=src then .g i' a else match z with
  | .g y n=>if y=i then .g i' n else .g y n
  | z=>z
theorem zH{i i' j src:Id}{q:Nat}(p:src≠i)(o:∀n,src≠ .g i n)(m:i.real=true){x z:Id}(b:wY i i' j src q x=some z):o6 i i' src q z=x:=by
 unfold wY at b;split at b
 .rename_i h;simp only [W5] at b;subst b;unfold o6;rw [if_pos rfl,h]
 .rename_i t;split at b
  .cases b
  .rename_i l;have f:x≠i:=λe=>l (.inl e);have k:x≠src:=λe=>l (.inr (.inr e));cases x with
   | g y n=>
    dsimp only at b;split at b
    .rename_i e;subst e;split at b
     .rename_i r;simp only [W5] at b;subst b;unfold o6;rw [if_neg p,if_pos rfl,r]
     .simp only [W5] at b;subst b;unfold o6;rw [if_neg (aY m),if_neg (λe=>o n e.symm)];simp
    .split at b
     .cases b
     .rename_i e3;simp only [W5] at b;subst b;unfold o6;rw [if_neg f,if_neg k];simp [e3]
   | c a=>simp only [W5] at b;subst b;unfold o6;rw [if_neg f,if_neg k]
   | s d a=>simp only [W5] at b;subst b;unfold o6;rw [if_neg f,if_neg k]
theorem S1{i i' j src:Id}{l:Nat}{ob:Option Nat}{x:Id}{d:Nat}(b:fD O i i' j src l ob x=some d):(x=i'/\ob=some d)\/(x≠i'/\∃z,wY i i' j src l x=some z/\O z=some d):=by
 unfold fD at b;unfold wY;split at b
 .exact .inl ⟨by assumption,b⟩
 .rename_i k;right;refine⟨k, ?_⟩;rw [if_neg k];split at b
  .cases b
  .rename_i m;rw [if_neg m];cases x with
   | g y n=>
    dsimp only at b⊢;split at b
    .rename_i e;rw [if_pos e];split at b
     .rename_i f;rw [if_pos f];exact⟨_,rfl,b⟩
     .rename_i f;rw [if_neg f];exact⟨_,rfl,b⟩
    .rename_i e;rw [if_neg e];split at b
     .cases b
     .rename_i e3;rw [if_neg e3];exact⟨_,rfl,b⟩
   | c a=>exact⟨_,rfl,b⟩
   | s d a=>exact⟨_,rfl,b⟩
theorem HS.JH{i i' j src s0:Id}{b:Bool}{sz col rsz C:Nat}{es:List Row}{l:List T}{bb:Bool}{xs:List (List T)}{vk:Value}{X:ad}{ah blk' off off' cap':Nat}{U:Array Value}{t':TypeId}{ob:Option Nat}{news:List Value}
  (hs:HS c w h ρ O) (hi:h i=some (.rows b sz col rsz C es)) (K:h i'=none) (hrl:i'.real=true) (hj:h j≠none) (hji:j≠i) (hs0:h s0≠none) (hs0i:s0≠i) (hs0j:s0≠j)
  (B:src=s0\/∃n,src= .g s0 n) (hvk:ρ src=some vk) (hsl:dr w (AA c w O) rsz bb xs vk (λd=>O src=some d))
  (hos:w'.os=w.os) (ho:w'.output=w.output) (htp:w'.tape=w.tape) (hsz:w.heap.size<=w'.heap.size) (hkeep:∀k,k < w.heap.size->O i≠some k->w'.heap[k]? =w.heap[k]?)
  (hob:ob=O i\/(ob=some w.heap.size/\w.heap.size < w'.heap.size)) (hobs:ob=some blk') (hb:w'.heap[blk']? =some (.cells U t' (0,0))) (hfit:off'+cap' * sz<=U.size) (hcap:es.length+1<=cap')
  (hrows:cL w (AA c w O) ρ O i ah sz col rsz off es) (hold:∀p,p < es.length * sz->w'.cell? ⟨blk',off'+p,none⟩=w.cell? ⟨ah,off+p,none⟩)
  (hcol:col < sz) (hl:l.length=sz) (hnew:∀p v,news[p]? =some v->w'.cell? ⟨blk',off'+es.length * sz+p,none⟩=some v) (hnr:∀m x,m≠col->l[m]? =some x->∃v,news[m]? =some v/\az w (AA c w O) x v) (hnk:news[col]? =some vk)
  (hX:(∀b,AA c w O b->AA c w' (fD O i i' j src C ob) b/\w'.heap[b]? =w.heap[b]?)->dF w' (AA c w' (fD O i i' j src C ob)) (js ρ i i' C (.slice (some ⟨blk',off',none⟩) (es.length+1) cap') vk) (fD O i i' j src C ob) s0 X):
  Le w ρ O w' (js ρ i i' C (.slice (some ⟨blk',off',none⟩) (es.length+1) cap') vk) (fD O i i' j src C ob)/\
  HS c w' (aN (aN (aN (aN h i (some .dead)) j (some .dead)) s0 (some X)) i' (some (.rows false sz col rsz (C+1) (es++ [⟨C,l,some (bb,xs)⟩])))) (js ρ i i' C (.slice (some ⟨blk',off',none⟩) (es.length+1) cap') vk) (fD O i i' j src C ob):=by
 have D:=hs.real (i:=i) (by rw [hi];simp);have R:=hs.real hj;have N:=hs.real hs0;have hii:i'≠i:=λe=>by rw [e,hi] at K;cases K
 have hij:i'≠j:=λe=>hj (e▸K);have hi0:i'≠s0:=λe=>hs0 (e▸K);have S:src≠i:=by
  rcases B with rfl | ⟨n,rfl⟩
  .exact hs0i
  .exact aY D
 have hsj:src≠j:=by
  rcases B with rfl | ⟨n,rfl⟩
  .exact hs0j
  .exact aY R
 have hsi':src≠i':=by
  rcases B with rfl | ⟨n,rfl⟩
  .exact hi0.symm
  .exact aY hrl
 have hsg:∀n,src≠ .g i n:=by
  intro n;rcases B with rfl | ⟨m,rfl⟩
  .exact(aY N).symm
  .intro e;simp only [Id.g.injEq] at e;exact hs0i e.1
 have hsg':∀n,src≠ .g i' n:=by
  intro n;rcases B with rfl | ⟨m,rfl⟩
  .exact(aY N).symm
  .intro e;simp only [Id.g.injEq] at e;exact hi0 e.1.symm
 obtain⟨a,cap,r1,r2,r3,⟨n1,n2,n3,n4⟩,r5⟩:=hs.ah i _ hi;obtain⟨V,hV⟩:∃V,V=js ρ i i' C (.slice (some ⟨blk',off',none⟩) (es.length+1) cap') vk:=⟨_,rfl⟩;obtain⟨Q,W⟩:∃Q,Q=fD O i i' j src C ob:=⟨_,rfl⟩;rw [<-hV,<-W] at hX⊢;have V1:V i'=some (.slice (some ⟨blk',off',none⟩) (es.length+1) cap'):=by rw [hV];unfold js;rw [if_pos rfl]
 have V2:∀x,x.real=true->x≠i'->V x=ρ x:=by
  intro x H o;rw [hV];unfold js;rw [if_neg o];cases x with
  | g y n=>cases H
  | _=>rfl
 have V3:∀y n,y≠i'->V (.g y n)=ρ (.g y n):=by intro y n M;rw [hV];unfold js;rw [if_neg (aY hrl)];simp only [if_neg M]
 have V4:∀n,V (.g i' n)=if n=C then some vk else ρ (.g i n):=by intro n;rw [hV];unfold js;rw [if_neg (aY hrl)];simp
 have Q1:Q i'=ob:=by rw [W];unfold fD;rw [if_pos rfl]
 have Q0:∀x,x≠i'->(x=i\/x=j\/x=src)->Q x=none:=by intro x o E;rw [W];unfold fD;rw [if_neg o,if_pos E]
 have Q2:∀x,x.real=true->x≠i'->x≠i->x≠j->x≠src->Q x=O x:=by
  intro x H o q E h3;rw [W];unfold fD;rw [if_neg o,if_neg (by rintro(h | h | h) <;> contradiction)];cases x with
  | g y n=>cases H
  | _=>rfl
 have Q3:∀y n,y≠i'->y≠i->Id.g y n≠src->Q (.g y n)=O (.g y n):=by intro y n M hy2 h3;rw [W];unfold fD;rw [if_neg (aY hrl),if_neg (by rintro(h | h | h);exact aY D h;exact aY R h;exact h3 h)];simp only [if_neg M,if_neg hy2]
 have Q4:∀n,Q (.g i' n)=if n=C then O src else O (.g i n):=by intro n;rw [W];unfold fD;rw [if_neg (aY hrl),if_neg (by rintro(h | h | h);exact aY D h;exact aY R h;exact hsg' n h.symm)];simp
 have Z:∀x d,Q x=some d->(x=i'/\ob=some d)\/(x≠i'/\∃z,wY i i' j src C x=some z/\O z=some d):=λx d o=>S1 (by rw [<-W];exact o);have le:Le w ρ O w' V Q:=by
  refine⟨hos,ho,htp,hsz,λx u o=> ?_,λd t hn=>hkeep d t (hn i),λx d o=> ?_⟩
  .cases H:x.real with
   | true=>
    have:x≠i':=λe=>by rw [e,(hs.cO i' hrl K).1] at o;cases o
    rw [V2 x H this];exact o
   | false=>
    cases x with
    | g y n=>
     have:y≠i':=λe=>by rw [e,(hs.gG i' n K).1] at o;cases o
     rw [V3 y n this];exact o
    | _=>cases H
  .rcases Z x d o with⟨_,q⟩ | ⟨_,z,_,E⟩
   .rcases hob with e | ⟨e,_⟩
    .exact .inl ⟨i,by rw [<-e];exact q⟩
    .rw [e] at q;cases q;exact .inr (Xr _)
   .exact .inl ⟨z,E⟩
 have hA:∀d,AA c w O d->AA c w' Q d/\w'.heap[d]? =w.heap[d]?:=λd t=>le.A d t;have G:∀x d,x≠i->O x=some d->w'.heap[d]? =w.heap[d]?:=λx d o t=>hkeep d (hs.lt x d t) λe=>o (hs.inj x i d t e);refine⟨le,hs.qp le (λx y o=> ?_) (λx H o=> ?_) (λx n=> ?_) (λx n o=> ?_) (λx n u J=> ?_) (λx y d o M=> ?_) (λx d o=> ?_)⟩
 .by_cases L:x=i'
  .subst L;rw [aH] at o;cases o;right;have hlen:(es++ [(⟨C,l,some (bb,xs)⟩:Row)]).length=es.length+1:=by simp
   refine⟨some ⟨blk',off',none⟩,cap',by rw [hlen];exact V1,by rw [hlen];exact hcap,by simp,⟨?_,λf F=> ?_,λn hn=> ?_,λn d t=> ?_⟩, .inr ⟨blk',off',U,t',rfl,by rw [Q1];exact hobs,hb,hfit,cL.append ?_ ⟨?_,trivial⟩⟩⟩
   .rw [YY,YH];refine⟨n1,by simp,λa ha b hb=> ?_⟩;simp only [Xq,XY,Xi] at hb;obtain⟨f,F,e⟩:=XB.1 ha;have:=n2 f F;omega
   .rcases Xo.1 F with F | F
    .have:=n2 f F;omega
    .simp only [Xi] at F;subst F;simp
   .rw [V4,if_neg (by omega)];exact n3 n (by omega)
   .rw [Q4] at t;by_cases en:n=C
    .exact⟨_,Xn _ (Xi.2 rfl),en.symm⟩
    .rw [if_neg en] at t;obtain⟨f,F,hfn⟩:=n4 n d t;exact⟨f,Xp _ F,hfn⟩
   .refine cL.move hA hold (λf F=> ?_) hrows;have r:f.n≠C:=by have:=n2 f F;omega
    exact⟨by rw [V4,if_neg r],by rw [Q4,if_neg r],λd t=>G _ d (aY D) t⟩
   .refine⟨hl,hcol,λm y hm M=> ?_,vk,hnew col vk hnk,by rw [V4];simp, ?_⟩
    .obtain⟨v,g1,g2⟩:=hnr m y hm M;exact⟨v,hnew m v g1,az.mono hA y v g2⟩
    .simp only;refine dr.mono hA (λd t=> ?_) hsl;rw [Q4];exact⟨by simpa using t,G src d S t⟩
  .rw [ay _ _ L] at o;by_cases e2:x=s0
   .subst e2;rw [aH] at o;cases o;exact .inr (hX hA)
   .rw [ay _ _ e2] at o;by_cases e3:x=j
    .subst e3;rw [aH] at o;cases o;obtain⟨y,M⟩:=Zz.1 hj;have:∃u,ρ x=some u:=by
      cases I:ρ x with
      | some u=>exact⟨u,rfl⟩
      | none=>
       exfalso;have:=hs.ah x y M;cases y with
       | box cs=>obtain⟨b,_,_,q,_⟩:=this;rw [I] at q;cases q
       | sl fz sz b xs=>obtain⟨v,q,_⟩:=this;rw [I] at q;cases q
       | gf l=>obtain⟨b,q,_⟩:=this;rw [I] at q;cases q
       | mp ag ks vk es=>obtain⟨b,_,_,q,_⟩:=this;rw [I] at q;cases q
       | arr cs=>obtain⟨b,_,_,q,_⟩:=this;rw [I] at q;cases q
       | rows _ _ _ _ _ _=>obtain⟨_,_,q,_⟩:=this;rw [I] at q;cases q
       | dead=>obtain⟨⟨v,q,_⟩,_⟩:=this;rw [I] at q;cases q
     obtain⟨u,J⟩:=this;exact .inr ⟨⟨u,by rw [V2 x R L];exact J,lK hs J⟩,Q0 x L (.inr (.inl rfl))⟩
    .rw [ay _ _ e3] at o;by_cases e4:x=i
     .subst e4;rw [aH] at o;cases o;exact .inr ⟨⟨_,by rw [V2 x D L];exact r1,rfl,rfl⟩,Q0 x L (.inl rfl)⟩
     .rw [ay _ _ e4] at o;have hrx:=hs.real (i:=x) (by rw [o];simp);have e5:x≠src:=by
       rcases B with rfl | ⟨n,rfl⟩
       .exact e2
       .exact(aY hrx).symm
      refine .inl ⟨o,Q2 x hrx L e4 e3 e5,λd t=>G x d e4 t,λn=>⟨V3 x n L,Q3 x n L e4 ?_,λd t=>G _ d (aY D) t⟩⟩;rcases B with rfl | ⟨m,rfl⟩
      .exact aY N
      .intro e;simp only [Id.g.injEq] at e;exact e2 e.1
 .have r:x≠i':=λe=>by rw [e,aH] at o;cases o
  rw [ay _ _ r] at o;have h0:x≠s0:=λe=>by rw [e,aH] at o;cases o
  rw [ay _ _ h0] at o;have q:x≠j:=λe=>by rw [e,aH] at o;cases o
  rw [ay _ _ q] at o;have E:x≠i:=λe=>by rw [e,aH] at o;cases o
  rw [ay _ _ E] at o;have h5:x≠src:=by
   rcases B with rfl | ⟨n,rfl⟩
   .exact h0
   .exact(aY H).symm
  rw [V2 x H r,Q2 x H r E q h5];exact hs.cO x H o
 .rw [ay _ _ (aY hrl),ay _ _ (aY N),ay _ _ (aY R),ay _ _ (aY D)];exact hs.eP x n
 .have r:x≠i':=λe=>by rw [e,aH] at o;cases o
  rw [ay _ _ r] at o;have h0:x≠s0:=λe=>by rw [e,aH] at o;cases o
  rw [ay _ _ h0] at o;have q:x≠j:=λe=>by rw [e,aH] at o;cases o
  rw [ay _ _ q] at o;have E:x≠i:=λe=>by rw [e,aH] at o;cases o
  rw [ay _ _ E] at o;have h5:Id.g x n≠src:=by
   rcases B with rfl | ⟨m,rfl⟩
   .exact aY N
   .intro e;simp only [Id.g.injEq] at e;exact h0 e.1
  rw [V3 x n r,Q3 x n r E h5];exact hs.gG x n o
 .by_cases r:x=i'
  .subst r;rw [V4] at J;split at J
   .simp only [W5] at J;subst J;exact lK hs hvk
   .exact hs.gone i n u J
  .rw [V3 x n r] at J;exact hs.gone x n u J
 .rcases Z x d o with⟨x1,x2⟩ | ⟨x1,z,x2,x3⟩ <;> rcases Z y d M with⟨y1,Y⟩ | ⟨y1,z',Y,y3⟩
  .rw [x1,y1]
  .rcases hob with e | ⟨e,_⟩
   .rw [e] at x2;have:=hs.inj i z' d x2 y3;subst this;have:=zH S hsg D Y;unfold o6 at this;rw [if_pos rfl] at this;rw [x1];exact this
   .rw [e] at x2;cases x2;exact absurd (hs.lt _ _ y3) (YD _)
  .rcases hob with e | ⟨e,_⟩
   .rw [e] at Y;have:=hs.inj i z d Y x3;subst this;have:=zH S hsg D x2;unfold o6 at this;rw [if_pos rfl] at this;rw [y1];exact this.symm
   .rw [e] at Y;cases Y;exact absurd (hs.lt _ _ x3) (YD _)
  .have:=hs.inj z z' d x3 y3;subst this;rw [<-zH S hsg D x2,<-zH S hsg D Y]
 .rcases Z x d o with⟨_,q⟩ | ⟨_,z,_,E⟩
  .rcases hob with e | ⟨e,e2⟩
   .rw [e] at q;have:=hs.lt i d q;omega
   .rw [e] at q;cases q;exact e2
  .have:=hs.lt z d E;omega
end
open Go Go.IntKind
section
variable {P:Program} {w w':World} {A A':Nat->Prop} {c:Ctx} {ρ:Id->Option Value} {O:Id->Option Nat} {s:St} {cc:Option Bool} {h:Id->Option ad}
theorem HS.move{i i':Id}(hs:HS c w h ρ O)(F:h i≠none)(C:h i'=none)(v:Value)(o:Option Nat)(M:w'.os=w.os)(ho:w'.output=w.output)(Q:w'.tape=w.tape)(N:w.heap.size<=w'.heap.size)
  (q:∀k,k < w.heap.size->O i≠some k->w'.heap[k]? =w.heap[k]?) (y:o=none\/o=O i\/(o=some w.heap.size/\w.heap.size < w'.heap.size)) (x:ad)
  (V:dF w' (AA c w' (aN (aN O i none) i' o)) (aN ρ i' (some v)) (aN (aN O i none) i' o) i' x) (hrl:i'.real=true:=by rfl):
  Le w ρ O w' (aN ρ i' (some v)) (aN (aN O i none) i' o)/\HS c w' (aN (aN h i' (some x)) i (some .dead)) (aN ρ i' (some v)) (aN (aN O i none) i' o):=by
 have D:i≠i':=λe=>F (e▸C);have R:∀b,o=some b->b < w'.heap.size:=by
  intro b m;rcases y with e | e | ⟨e,f⟩
  .rw [e] at m;cases m
  .rw [e] at m;have:=hs.lt i b m;omega
  .rw [e] at m;cases m;exact f
 have le:Le w ρ O w' (aN ρ i' (some v)) (aN (aN O i none) i' o):=by
  refine⟨M,ho,Q,N,λj u a=> ?_,λb m U=>q b m (U i),λj b a=> ?_⟩
  .by_cases e:j=i'
   .subst e;rw [(hs.cO _ hrl C).1] at a;cases a
   .rw [ay _ _ e];exact a
  .by_cases e:j=i'
   .subst e;rw [aH] at a;rcases y with e | e | ⟨e,_⟩
    .rw [e] at a;cases a
    .rw [e] at a;exact .inl ⟨i,a⟩
    .rw [e] at a;cases a;exact .inr (Xr _)
   .rw [ay _ _ e] at a;by_cases f:j=i
    .subst f;rw [aH] at a;cases a
    .rw [ay _ _ f] at a;exact .inl ⟨j,a⟩
 have z:=hs.real F;have S:GK w ρ O w' (aN ρ i' (some v)) (aN (aN O i none) i' o):=λj n=>⟨ay _ _ (aY hrl),by rw [ay _ _ (aY hrl),ay _ _ (aY z)],λb m=>q b (hs.lt _ b m) λe=>aY z (hs.inj _ i b m e)⟩;refine⟨le,hs.go le S (λj b' a=> ?_) (λj L a=> ?_) (λj a=> ?_) (λj n=>by rw [ay _ _ (aY z),ay _ _ (aY hrl)];exact hs.eP j n) (λj k d a G=> ?_) (λj d a=> ?_)⟩
 .by_cases e:j=i
  .subst e;rw [aH] at a;cases a;right;obtain⟨b,m⟩:=Zz.1 F;have H:∃u,ρ j=some u/\u.oneCell'=true/\u.cells= #[u]:=by
    cases p:ρ j with
    | none=>
     exfalso;have:=hs.ah j b m;cases b with
     | box cs=>obtain⟨b,_,_,g,_⟩:=this;rw [p] at g;cases g
     | sl fz sz b xs=>obtain⟨v,g,_⟩:=this;rw [p] at g;cases g
     | gf l=>obtain⟨b,g,_⟩:=this;rw [p] at g;cases g
     | mp ag ks vk es=>obtain⟨b,_,_,g,_⟩:=this;rw [p] at g;cases g
     | arr cs=>obtain⟨b,_,_,g,_⟩:=this;rw [p] at g;cases g
     | rows _ _ _ _ _ _=>obtain⟨_,_,g,_⟩:=this;rw [p] at g;cases g
     | dead=>obtain⟨⟨v,g,_⟩,_⟩:=this;rw [p] at g;cases g
    | some u=>exact⟨u,rfl,lK hs p⟩
   obtain⟨u,g,T⟩:=H;exact⟨⟨u,by rw [ay _ _ D];exact g,T⟩,by rw [ay _ _ D,aH]⟩
  .rw [ay _ _ e] at a;by_cases f:j=i'
   .subst f;rw [aH] at a;cases a;exact .inr V
   .rw [ay _ _ f] at a;refine .inl ⟨a,by rw [ay _ _ f,ay _ _ e],λah t=>q ah (hs.lt j ah t) (λho=>e (hs.inj j i ah t ho))⟩
 .by_cases e:j=i
  .subst e;rw [aH] at a;cases a
  .rw [ay _ _ e] at a;by_cases f:j=i'
   .subst f;rw [aH] at a;cases a
   .rw [ay _ _ f] at a;rw [ay _ _ f,ay _ _ f,ay _ _ e];exact hs.cO j L a
 .by_cases e:j=i
  .subst e;rw [aH] at a;cases a
  .rw [ay _ _ e] at a;by_cases f:j=i'
   .subst f;rw [aH] at a;cases a
   .rw [ay _ _ f] at a;exact a
 .have B:∀j b,aN (aN O i none) i' o j=some b->(j=i'/\o=some b)\/(j≠i'/\j≠i/\O j=some b):=by
   intro j b a;by_cases e:j=i'
   .subst e;rw [aH] at a;exact .inl ⟨rfl,a⟩
   .rw [ay _ _ e] at a;by_cases f:j=i
    .subst f;rw [aH] at a;cases a
    .rw [ay _ _ f] at a;exact .inr ⟨e,f,a⟩
  have r:∀k b,o=some b->k≠i->O k=some b->False:=by
   intro k b m G ho;rcases y with e | e | ⟨e,_⟩
   .rw [e] at m;cases m
   .rw [e] at m;exact G (hs.inj k i b ho m)
   .rw [e] at m;cases m;exact YD _ (hs.lt k _ ho)
  rcases B j d a with⟨I,f⟩ | ⟨I,f,e3⟩ <;> rcases B k d G with⟨J,E⟩ | ⟨J,E,K⟩
  .rw [I,J]
  .exact(r k d f E K).elim
  .exact(r j d E f e3).elim
  .exact hs.inj j k d e3 K
 .by_cases e:j=i'
  .subst e;rw [aH] at a;exact R d a
  .rw [ay _ _ e] at a;by_cases f:j=i
   .subst f;rw [aH] at a;cases a
   .rw [ay _ _ f] at a;have:=hs.lt j d a;omega
theorem KK{v:AV}{x:T}{u:Value}{sz:Nat}{p:Bool×List (List T)}(hs:HS c w h ρ O)(f:an w (AA c w O) ρ v u)(d:eD h v=some x)(F:x.aQ sz=some p):
  (p.2= []/\(u= .slice none 0 0\/∃a cap,u= .slice (some a) 0 cap))\/∃ah off cap,u= .slice (some ⟨ah,off,none⟩) p.2.length cap/\bx w (AA c w O) ah sz off p.2:=by
 have j:az w (λ_=>True) x u:=oc hs f d (λ_ _=>trivial) (λ_ _ _ _=>trivial);have bH:p.2= []->(u= .slice none 0 0\/∃a cap,u= .slice (some a) 0 cap):=by
  intro e;rcases T.su F with rfl | ⟨rfl,_⟩
  .simp only [az] at j;rcases j with⟨_,_,rfl⟩ | ⟨_,ah,off,sp,cap,rfl,_⟩
   .exact .inl rfl
   .rw [e];exact .inr ⟨_,_,rfl⟩
  .simp only [az] at j;rcases j with⟨_,rfl⟩ | ⟨_,ah,off,sp,rfl⟩
   .exact .inl rfl
   .exact .inr ⟨_,_,rfl⟩
 by_cases e:p.2= []
 .exact .inl ⟨e,bH e⟩
 right;have N:x= .aa sz p.1 p.2:=by
  rcases T.su F with h | ⟨_,h⟩
  .exact h
  .exact absurd h e
 subst N;cases v <;> simp only [eD,reduceCtorEq,W5] at d
 case t y=>
  subst d;simp only [an,az] at f;rcases f with⟨_,h,_⟩ | ⟨_,ah,off,sp,cap,rfl,_,g0,g⟩
  .exact absurd h e
  .rcases g0 with g0 | ⟨rfl,_⟩
   .exact absurd g0 e
   exact⟨ah,off,cap,rfl,g⟩
 case own i=>
  split at d
  .rename_i fz r b xs B;simp only [W5,T.aa.injEq] at d;obtain⟨rfl,rfl,rfl⟩:=d;obtain⟨X,g1,a,cap,q,Q,R,S,m⟩:=pk hs B;simp only [an] at f;rw [g1] at f;simp only [W5] at f;subst f;subst q;rcases m with m | ⟨ah,off,arr,t,D,U,V,W,k⟩
   .exact absurd (Xz.1 (by omega)) e
   .subst D;exact⟨ah,off,cap,rfl,k⟩
  .simp at d
 case ref i off=>
  split at d
  .obtain⟨l,_,d⟩:=W6.1 d;simp at d
  .simp at d
  .simp at d
 case part i Y off n=>
  split at d
  .rename_i fz r b xs B;split at d
   .rename_i G;subst G;simp only [W5,T.aa.injEq] at d;obtain⟨rfl,rfl,H⟩:=d;obtain⟨X,g1,a,cap,q,Q,R,S,m⟩:=pk hs B;simp only [an] at f;obtain⟨Z,L,J,I,z,e2,e3,rfl,K⟩:=f;rw [g1] at z;simp only [W5] at z;subst z;simp only [Yg] at q;obtain⟨rfl,rfl,rfl⟩:=q;have C:((xs.drop off).take n).length=n:=by simp only [XW,Yi];omega
    rw [<-H] at e⊢;have hn:n≠0:=λh=>e (by rw [h];rfl);rcases m with m | ⟨ah,off',arr,t,D,U,V,W,k⟩
    .omega
    .subst D;have ea:I=some ⟨ah,off'+off * r,none⟩:=by
      rcases K with⟨rfl,rfl⟩ | ⟨rfl,_⟩ | ⟨b',o,E,M⟩
      .simp
      .omega
      .simp only [W5,Yd] at E;obtain⟨rfl,rfl,_⟩:=E;exact M
     subst ea;exact⟨ah,_,_,by rw [C],(k.drop off).take n⟩
   .simp at d
  .simp at d
theorem Tn{t l ty e:TypeId}{i:TypeInfo}(q:P.underlying t=some (.slice e))(p:P.info? e=some i){b off a d:Nat}{arr:Array Value}{k:TypeId}(m:w.heap[b]? =some (.cells arr k (0,0))){x:Value}{n:Nat}{news:List Value}
  (hs:Src P i.size l x n news w) (f:a+n<=d) (o:off+d * i.size<=arr.size):
  (Builtin.append_ #[t,l] ty #[.slice (some ⟨b,off,none⟩) a d,x]).run P w= .ok (.slice (some ⟨b,off,none⟩) (a+n) d) (w.setRow b (cK (off+a * i.size) news arr.toList).toArray):=by
 have hl:=hs.newsLen;have hm:(a+n) * i.size<=d * i.size:=Ya _ f;have e:(a+n) * i.size=a * i.size+n * i.size:=YW _ _ _;have g:=run_storeCells_at P b (off+a * i.size) k news 0 arr w m (by omega) hs.one;simp only [Y9] at g;rcases hs.kind with⟨e',j⟩ | j <;> simp [Builtin.append_,run_underlying q,run_underlying j,sizeOf,typeInfo,p,hs.len,f,hs.cells,iF,g,cK]
theorem Tm{t j ty e:TypeId}{i:TypeInfo}(l:P.underlying t=some (.slice e))(k:P.info? e=some i){base:Option Addr}{d b:Nat}{x:Value}(hs:Src P i.size j x 0 [] w)(f:d<=b):
  (Builtin.append_ #[t,j] ty #[.slice base d b,x]).run P w= .ok (.slice base d b) w:=by
 have m:∀a:Addr,(storeCells a []).run P w= .ok () w:=λa=>by simp [storeCells]
 cases base <;> rcases hs.kind with⟨e',g⟩ | g <;> simp [Builtin.append_,run_underlying l,run_underlying g,sizeOf,typeInfo,k,hs.len,f,hs.cells,storeCells]
structure Ad (P:Program) (t tx e:TypeId) (i:TypeInfo) (x:Value) (n:Nat) (news:List Value) (w:World):Prop where
 newsLen:news.length=n * i.size
 one:∀u∈news,u.oneCell'=true
 idle:n=0->∀(ty:TypeId) (base:Option Addr) (sLen sCap:Nat),sLen<=sCap->(Builtin.append_ #[t,tx] ty #[.slice base sLen sCap,x]).run P w= .ok (.slice base sLen sCap) w
 Ce:∀(ty:TypeId) (b off sLen sCap:Nat) (arr:Array Value) (tt:TypeId),w.heap[b]? =some (.cells arr tt (0,0))->sLen+n<=sCap->off+sCap * i.size<=arr.size->
  (Builtin.append_ #[t,tx] ty #[.slice (some ⟨b,off,none⟩) sLen sCap,x]).run P w= .ok (.slice (some ⟨b,off,none⟩) (sLen+n) sCap) (w.setRow b (cK (off+sLen * i.size) news arr.toList).toArray)
 grow:∀(ty:TypeId) (z:Value) (base:Option Addr) (sLen sCap:Nat) (olds:List Value),i.zero=some z->(Builtin.firstCells i.size sLen (.slice base sLen sCap)).run P w.drew= .ok olds.toArray w.drew->sCap < sLen+n->
  ((sLen+n:Nat):Int)<=9223372036854775807->Builtin.nextslicecap (sLen+n) sCap * i.bytes<=281474976710656->
  (Builtin.append_ #[t,tx] ty #[.slice base sLen sCap,x]).run P w=
   .ok (.slice (some ⟨w.heap.size,0,none⟩) (sLen+n) (grownCap w (sLen+n) sCap e))
    (w.drew.alloc (.cells ((olds++news).toArray++Builtin.zeroCells z.cells (grownCap w (sLen+n) sCap e - (sLen+n))) e))
theorem Ad.wR{t tx e:TypeId}{i:TypeInfo}{x:Value}{n:Nat}{news:List Value}(ht:P.underlying t=some (.slice e))(hi:P.info? e=some i)(hs:Src P i.size tx x n news w):Ad P t tx e i x n news w where
 newsLen:=hs.newsLen
 one:=hs.one
 idle:=by intro h ty base sLen sCap hr;subst h;have:news= []:=Xz.1 (by rw [hs.newsLen];simp);subst this;exact Tm ht hi hs hr
 Ce:=λty b off sLen sCap arr tt hb hr hf=>Tn ht hi hb hs hr hf
 grow:=λty z base sLen sCap olds hz ho hg h63 hf=>run_append_grow_src w t tx ty e i z ht hi hz base sLen sCap olds ho x n news hs hg h63 hf
theorem WZ{z:Array Value}{sz:Nat}(a:z.size=sz)(n:Nat):(Builtin.zeroCells z n).toList= (List.replicate n z.toList).flatten:=by
 apply Yz;intro p;by_cases f:p < n * sz
 .have d:((List.replicate n z.toList).flatten).length=n * sz:=by simp [a]
  have b:((List.replicate n z.toList).flatten)[p]? =some ((List.replicate n z.toList).flatten[p]'(by omega)):=Xd _;rw [b];have e:=CH (zv:=z) a n n (Xr _) p _ b;rw [<-e,X8];simp [madeCells,Builtin.zeroCells,a]
 .have d:((List.replicate n z.toList).flatten).length=n * sz:=by simp [a]
  have b:(Builtin.zeroCells z n).toList.length=n * sz:=by rw [XE,size_zeroCells,a]
  rw [YA (by omega),YA (by omega)]
theorem SG{n:Int}(h0: 0<=n)(a:n<=4294967296):i64.wrap n=n:=by rw [IntKind.wrap_i64];omega
theorem Ad.SH{t N e:TypeId}{i:TypeInfo}{zv:Value}{ki:IntKind}{n:Int}(B:P.underlying t=some (.slice e))(y:P.underlying N=some (.int ki))(x:P.info? e=some i)(D:i.zero=some zv)(F:zv.cells.size=i.size)(X:i.bytes<=8192)
  (h0: 0<=n) (J:n<=4294967296) (K:∀u∈zv.cells.toList,u.oneCell'=true):Ad P t N e i (.int .i64 n) n.toNat (List.replicate n.toNat zv.cells.toList).flatten w:=by
 have C:=SG h0 J;have m:¬(n < 0):=by omega
 have f:¬(281474976710656 < n * (i.bytes:Int)):=by have W:n * (i.bytes:Int)<=4294967296 * 8192:=Int.le_trans (ZY J (by omega)) (Z1 (by omega) (by omega));omega
 have nl:(List.replicate n.toNat zv.cells.toList).flatten.length=n.toNat * i.size:=by simp [F]
 have one:∀u∈(List.replicate n.toNat zv.cells.toList).flatten,u.oneCell'=true:=by intro u I;obtain⟨l,hl,I⟩:=List.mem_flatten.1 I;rw [List.mem_replicate] at hl;obtain⟨_,rfl⟩:=hl;exact K u I
 have U:=WZ F n.toNat
 have G:Builtin.zeroCells zv.cells n.toNat= (List.replicate n.toNat zv.cells.toList).flatten.toArray:=by rw [<-U]
 have aC:n.toNat * i.size=0->(List.replicate n.toNat zv.cells.toList).flatten= []:=λh=>Xz.1 (by rw [nl,h]);refine⟨nl,one, ?_, ?_, ?_⟩
 .intro h ty base d j R;have Q:∀a:Addr,(storeCells a []).run P w= .ok () w:=λa=>by simp [storeCells]
  cases base <;> simp [Builtin.append_,run_underlying B,run_underlying y,sizeOf,typeInfo,x,asInt,asIntOf,C,m,f,h,R,Q]
 .intro ty b off d j arr T L k H;have hm:(d+n.toNat) * i.size<=j * i.size:=Ya _ k;have e:(d+n.toNat) * i.size=d * i.size+n.toNat * i.size:=YW _ _ _;have o:=run_storeCells_at P b (off+d * i.size) T (List.replicate n.toNat zv.cells.toList).flatten 0 arr w L (by omega) one;simp only [Y9] at o;by_cases g:n.toNat * i.size=0
  .have:=aC g;rw [this] at o⊢;simp [Builtin.append_,run_underlying B,run_underlying y,sizeOf,typeInfo,x,asInt,asIntOf,C,m,f,k,g,iF,o,cK]
  .simp [Builtin.append_,run_underlying B,run_underlying y,sizeOf,typeInfo,zeroValue,x,D,asInt,asIntOf,C,m,f,k,g,G,iF,o,cK]
 .intro ty z base d j S E hold Y V H;rw [D] at E;cases E;have M:¬(d+n.toNat<=j):=by omega
  have q:¬(9223372036854775807 < ((d:Int)+ (n.toNat:Int))):=by omega
  have v:¬(9223372036854775807 < ((d:Int)+max n 0)):=by omega
  have r:¬(i64.max < ((d:Int)+ (n.toNat:Int))):=by simp only [IntKind.max,IntKind.bits,IntKind.signed];omega
  have p:¬(281474976710656 < Builtin.nextslicecap (d+n.toNat) j * i.bytes):=by omega
  by_cases g:n.toNat * i.size=0
  .have:=aC g;rw [this];simp [Builtin.append_,run_underlying B,run_underlying y,sizeOf,typeInfo,zeroValue,x,D,asInt,asIntOf,C,m,f,M,q,v,r,p,Question.forced,g,hold,newRow,grownCap]
  .simp [Builtin.append_,run_underlying B,run_underlying y,sizeOf,typeInfo,zeroValue,x,D,asInt,asIntOf,C,m,f,M,q,v,r,p,Question.forced,g,G,hold,newRow,grownCap];congr 2;apply YR;simp [XC]
theorem IQ{n m:Int}(h:nY n m=some ()): 0<=n/\n<=m/\m<=nU:=by
 unfold nY at h;split at h
 .assumption
 .simp at h
theorem Mp{R:Type}{t U e:TypeId}{sz:Nat}{B:List T}{ti:TypeInfo}{y:AV}{V:Value}{K:List (List T)->Option R}{r:R}(hs:HS c w s.h ρ O)(o:P.underlying U=some (.slice e))(f:P.info? e=some ti)(m:ti.size=sz)(Z:jx P e=some B)(N:B.length=sz)(J:P.bytesOf e<=8192)(k:an w (AA c w O) ρ y V)(d:nv P s t sz B y K=some r):
  ∃H vss,K H=some r/\Ad P U t e ti V H.length vss.flatten w/\cQ w (AA c w O) sz H vss:=by
 subst m;unfold nv at d;split at d
 .rename_i e' i;obtain⟨x,z,d⟩:=W6.1 d;replace d:=aW d (.inl rfl);obtain⟨p,Y,d⟩:=d;rcases KK hs k z Y with⟨e,h⟩ | ⟨ah,off,cap,rfl,g⟩
  .rw [e] at d;refine⟨[],[],d, ?_,rfl⟩;rcases h with rfl | ⟨a,cap,rfl⟩
   .exact .wR o f (Src.ofNil w i 0)
   .exact .wR o f (Src.ofSlice w i a 0 cap [] (by simp) (by simp) (by simp))
  .obtain⟨vss,C,D⟩:=g.bE;obtain⟨l1,l2⟩:=C.length;exact⟨p.2,vss,d, .wR o f (Src.ofSlice w i ⟨ah,off,none⟩ _ cap _ (by rw [l2]) (λj u W=>by rw [iF];exact D j u W) (λu i=>(C.one u i).1)),C⟩
 .rename_i i;split at d
  .rename_i m;obtain⟨x,z,d⟩:=W6.1 d;replace d:=aW d (.inl rfl);obtain⟨b,E,d⟩:=d;have:=T.lP E;subst this;rw [AV.nf z] at k;simp only [an,az] at k;subst k;have flat:∀l:List Value,(l.map λv=> [v]).flatten=l:=by intro l;induction l <;> simp_all
   refine⟨_,((b.data.toList.map λb=>Value.int .u8 b.toNat).map λv=> [v]),d, ?_, ?_⟩
   .rw [flat,XQ];have:=Src.ofString (P:=P) w i b;have e:b.data.toList.length=b.size:=by rw [XE];rfl
    rw [e];exact .wR o f (by rw [m];exact this)
   .have I:∀l:List UInt8,cQ w (AA c w O) 1 (l.map λu=> [T.int .u8 u.toNat]) ((l.map λb=>Value.int .u8 b.toNat).map λv=> [v]):=by
     intro l;induction l with
     | nil=>rfl
     | cons u l ih=>exact⟨_,_,rfl,rfl,⟨_,[],rfl,hI _ _ _ _,rfl⟩,ih⟩
    rw [m];exact I _
  .simp at d
 .rename_i ki i;obtain⟨x,z,d⟩:=W6.1 d;replace d:=aW d (.inl rfl);obtain⟨n,X,d⟩:=d;replace d:=aW d (.inl rfl);obtain⟨_,E,d⟩:=d;have:=T.gY X;subst this;obtain⟨h0,_,D⟩:=IQ E;rw [AV.nf z] at k;simp only [an,az] at k;subst k;obtain⟨ti',zv,q,S,L⟩:=pH Z;rw [f] at q;cases q;have G:ba w (AA c w O) B zv.cells.toList:=qI L;have Q:zv.cells.size=ti.size:=by
   have:=G.length;rw [XE] at this;omega
  have M:=cQ.replicate G N n.toNat
  have F:ti.bytes<=8192:=by simpa [Program.bytesOf,f] using J
  refine⟨_,_,d, ?_,M⟩;rw [Ys];exact .SH o i f S Q F h0 (by simpa [nU] using D) (λu i=>(G.one u i).1)
 .simp at d
theorem Ca(z:Array Value)(l:List Value)(k:Nat):∀(p:Nat) (v:Value),l[p]? =some v->(l.toArray++Builtin.zeroCells z k)[p]? =some v:=by intro p v b;have a:=(W9.1 b).1;rw [Array.getElem?_append_left (by simpa using a)];simpa using b
theorem B0{a n:Nat}(h:qn a n)(b:a<=8192):n * a<=140737488355328:=by
 rcases h with h | ⟨_,h⟩
 .have:n * a<=4294967296 * 8192:=aar h b;omega
 .exact h
theorem B1{a n:Nat}(h:qn a n):n<=140737488355328:=by
 rcases h with h | ⟨h0,h⟩
 .have:n<=4294967296:=h;omega
 .exact X2 (Nat.le_mul_of_pos_right n h0) h
theorem EB{t tx ty e:TypeId}{ti:TypeInfo}{zs:List T}{y:Value}{i i':Id}{b:Bool}{xs d:List (List T)}{vss:List (List Value)}{base:Option Addr}{cap:Nat}
  (hs:HS c w h ρ O) (R:h i≠none) (C:h i'=none) (ht:P.underlying t=some (.slice e)) (hz:jx P e=some zs) (hzl:zs.length=P.cellsOf e) (hby:P.bytesOf e<=8192)
  (W:qn (P.bytesOf e) (xs.length+d.length)) (hcap:xs.length<=cap) (Y:base=none↔b=true) (D:True)
  (u:cap=0\/∃ah off arr E,base=some ⟨ah,off,none⟩/\O i=some ah/\w.heap[ah]? =some (.cells arr E (0,0))/\off+cap * P.cellsOf e<=arr.size/\bx w (AA c w O) ah (P.cellsOf e) off xs)
  (J:P.info? e=some ti) (src:Ad P t tx e ti y d.length vss.flatten w) (B:cQ w (AA c w O) (P.cellsOf e) d vss) (hrl:i'.real=true:=by rfl):
  ∃v w' ρ' O',(Builtin.append_ #[t,tx] ty #[.slice base xs.length cap,y]).run P w= .ok v w'/\Le w ρ O w' ρ' O'/\ρ' i'=some v/\
   HS c w' (aN (aN h i' (some (.sl false (P.cellsOf e) (b && d.isEmpty) (xs++d)))) i (some .dead)) ρ' O':=by
 obtain⟨ti',zv,K,hzv,hof⟩:=pH hz;rw [J] at K;cases K;have m:P.cellsOf e=ti.size:=by simp [Program.cellsOf,J]
 have hne:i'≠i:=λe=>R (e▸C);obtain⟨l1,l2⟩:=B.length;by_cases q:xs.length+d.length<=cap
 .rcases u with u | ⟨ah,off,arr,E,rfl,N,I,n,z⟩
  ·
   subst u;have ex:xs= []:=Xz.1 (by omega);have ey:d= []:=Xz.1 (by omega);subst ex;subst ey;have ev:vss= []:=by simpa using l1
   subst ev;obtain⟨g1,G⟩:=HS.move (hrl:=hrl) (w':=w) hs R C (.slice base 0 0) none rfl rfl rfl (Xr _) (λ_ _ _=>rfl) (.inl rfl) (.sl false (P.cellsOf e) (b && true) []) (by
    refine⟨_,by rw [aH];rfl,⟨base,0,rfl,by simp, ?_,D, .inl rfl⟩,by simp⟩;simpa using Y)
   refine⟨_,w,_,_, ?_,g1,by rw [aH],by simpa using G⟩;exact src.idle rfl ty base 0 0 (Xr _)
  ·
   rw [m] at n;have M:=src.Ce ty ah off xs.length cap arr E I q n;have Q:∀k,k < w.heap.size->O i≠some k->(w.setRow ah (cK (off+xs.length * ti.size) vss.flatten arr.toList).toArray).heap[k]? =w.heap[k]?:=λk _ X=>setRow_other w ah k _ (λe=>X (e▸N));have L:off+xs.length * ti.size+vss.flatten.length<=arr.toList.length:=by have l3:arr.toList.length=arr.size:=XE;rw [l2,m,l3];have hm:(xs.length+d.length) * ti.size<=cap * ti.size:=Ya _ q;rw [YW] at hm;omega
   obtain⟨g1,G⟩:=HS.move (hrl:=hrl) (w':=w.setRow ah (cK (off+xs.length * ti.size) vss.flatten arr.toList).toArray) hs R C (.slice (some ⟨ah,off,none⟩) (xs.length+d.length) cap) (O i) rfl rfl rfl (by rw [sP];exact Xr _) Q (.inr (.inl rfl))
    (.sl false (P.cellsOf e) (b && d.isEmpty) (xs++d)) (by
     refine⟨_,by rw [aH],⟨some ⟨ah,off,none⟩,cap,by simp,by simpa using q, ?_,D, .inr ⟨ah,off,_,E,rfl, ?_,setRow_heap w ah arr _ E (0,0) I, ?_, ?_⟩⟩,by simp⟩
     .have:b=false:=by cases b <;> simp_all
      simp [this]
     .simpa using N
     .simp only [Yy];rw [sO _ _ _ L,m];simpa using n
     .have r:∀p,(w.setRow ah (cK (off+xs.length * ti.size) vss.flatten arr.toList).toArray).cell? ⟨ah,p,none⟩=if off+xs.length * ti.size<=p/\p < off+xs.length * ti.size+vss.flatten.length then vss.flatten[p - (off+xs.length * ti.size)]? else w.cell? ⟨ah,p,none⟩:=by
       intro p;rw [vD I,Zd,uz _ _ _ L,l5 I];simp
      have H:∀b',AA c w O b'->AA c (w.setRow ah (cK (off+xs.length * ti.size) vss.flatten arr.toList).toArray) (aN (aN O i none) i' (O i)) b'/\(w.setRow ah (cK (off+xs.length * ti.size) vss.flatten arr.toList).toArray).heap[b']? =w.heap[b']?:=by
       intro b' g;refine⟨⟨g.1,by rw [sP];exact g.2.1,λj l=> ?_⟩,setRow_other w ah b' _ (λe=>g.2.2 i (e▸N))⟩;by_cases x:j=i'
       .subst x;rw [aH] at l;exact g.2.2 i l
       .rw [ay _ _ x] at l;by_cases F:j=i
        .subst F;rw [aH] at l;cases l
        .rw [ay _ _ F] at l;exact g.2.2 j l
      refine bx.append (bx.cells H (λp h1 h2=> ?_) z) ?_
      .rw [m] at h2;rw [r,if_neg (by omega)]
      .refine bx.mh (cQ.mono H B) (λp v U=> ?_);have hlt:=(W9.1 U).1;rw [m,r,if_pos (by omega),show off+xs.length * ti.size+p - (off+xs.length * ti.size)=p by omega];exact U)
   exact⟨_,_,_,_,M,g1,by rw [aH],G⟩
 ·
  have S:(xs.length+d.length) * ti.bytes<=140737488355328:=by
   have x:P.bytesOf e=ti.bytes:=by simp [Program.bytesOf,J]
   rw [<-x];exact B0 W hby
  have hold:∃f:List (List Value),cQ w (AA c w O) (P.cellsOf e) xs f/\(Builtin.firstCells ti.size xs.length (.slice base xs.length cap)).run P w.drew= .ok f.flatten.toArray w.drew:=by
   rcases u with u | ⟨ah,off,arr,E,rfl,N,I,n,z⟩
   .have ex:xs= []:=Xz.1 (by omega);subst ex;refine⟨[],rfl, ?_⟩;cases base with
    | none=>exact run_firstCells_none w.drew _ _ _ _
    | some a=>exact run_firstCells_some w.drew _ 0 a _ _ [] (by simp) (by simp)
   .obtain⟨f,k1,k2⟩:=z.bE;refine⟨f,k1, ?_⟩;obtain⟨m1,Z⟩:=k1.length;exact run_firstCells_some w.drew _ _ _ _ _ _ (by rw [Z,m]) (λj v l=>by rw [iF];simpa using k2 j v l)
  obtain⟨f,V,ho2⟩:=hold;have o:cap < xs.length+d.length:=by omega
  have M:=src.grow ty zv base xs.length cap f.flatten hzv ho2 o (by have:=B1 W;omega) (growslice_fits o S);obtain⟨m1,Z⟩:=V.length;have hzs:zv.cells.size=ti.size:=by have:=(qI (w:=w) (A:=AA c w O) hof).length;rw [XE] at this;rw [this,hzl,m]
  have ys0:d.isEmpty=false:=by
   cases d with
   | nil=>simp at o;omega
   | cons=>rfl
  have hge:=grownCap_ge w (xs.length+d.length) cap e;obtain⟨g1,G⟩:=HS.move (hrl:=hrl) (w':=w.drew.alloc (.cells ((f.flatten++vss.flatten).toArray++Builtin.zeroCells zv.cells (grownCap w (xs.length+d.length) cap e - (xs.length+d.length))) e)) hs R C
   (.slice (some ⟨w.heap.size,0,none⟩) (xs.length+d.length) (grownCap w (xs.length+d.length) cap e)) (some w.heap.size) rfl rfl rfl (by simp) (λk X _=>XV w.drew _ k X) (.inr (.inr ⟨rfl,by simp⟩))
   (.sl false (P.cellsOf e) (b && d.isEmpty) (xs++d)) (by
    refine⟨_,by rw [aH],⟨some ⟨w.heap.size,0,none⟩,grownCap w (xs.length+d.length) cap e,by simp,by simpa using hge,by simp [ys0],trivial, .inr ⟨w.heap.size,0,_,e,rfl,by simp,l8 (w:=w.drew) _, ?_, ?_⟩⟩,by simp⟩
    .simp only [ZN,Yy,XK,Z,l2,size_zeroCells,hzs,m,<-YW,XF];exact Ya _ (by omega)
    .have H:∀b',AA c w O b'->AA c (w.drew.alloc (.cells ((f.flatten++vss.flatten).toArray++Builtin.zeroCells zv.cells (grownCap w (xs.length+d.length) cap e - (xs.length+d.length))) e)) (aN (aN O i none) i' (some w.heap.size)) b'/\(w.drew.alloc (.cells ((f.flatten++vss.flatten).toArray++Builtin.zeroCells zv.cells (grownCap w (xs.length+d.length) cap e - (xs.length+d.length))) e)).heap[b']? =w.heap[b']?:=by
      intro b' g;refine⟨⟨g.1,by have:=g.2.1;simp;omega,λj l=> ?_⟩,XV w.drew _ b' g.2.1⟩;by_cases x:j=i'
      .subst x;rw [aH] at l;cases l;exact YD _ g.2.1
      .rw [ay _ _ x] at l;by_cases F:j=i
       .subst F;rw [aH] at l;cases l
       .rw [ay _ _ F] at l;exact g.2.2 j l
     refine bx.mh (vss:=f++vss) (cQ.append (cQ.mono H V) (cQ.mono H B)) (λp v U=> ?_);refine(l5 (w:=w.drew.alloc _) (b:=w.heap.size) (l8 (w:=w.drew) _) _).trans ?_;rw [XF];exact Ca _ _ _ p v (by simpa using U))
  exact⟨_,_,_,_,M,g1,by rw [aH],G⟩
theorem Mm{t W ty e:TypeId}{ti:TypeInfo}{Y:List T}{y H:Value}{i':Id}{b:Bool}{g:List (List T)}{vss:List (List Value)}
  (hs:HS c w h ρ O) (B:h i'=none) (ht:P.underlying t=some (.slice e)) (hz:jx P e=some Y) (R:Y.length=P.cellsOf e) (J:P.bytesOf e<=8192)
  (C:qn (P.bytesOf e) g.length) (Q:az w A (.aC b) H)
  (m:P.info? e=some ti) (src:Ad P t W e ti y g.length vss.flatten w) (l:cQ w (AA c w O) (P.cellsOf e) g vss) (hrl:i'.real=true:=by rfl):
  ∃v w' ρ' O',(Builtin.append_ #[t,W] ty #[H,y]).run P w= .ok v w'/\Le w ρ O w' ρ' O'/\ρ' i'=some v/\
   HS c w' (aN h i' (some (.sl false (P.cellsOf e) (b && g.isEmpty) g))) ρ' O':=by
 obtain⟨ti',zv,o,U,M⟩:=pH hz;rw [m] at o;cases o;have D:P.cellsOf e=ti.size:=by simp [Program.cellsOf,m]
 obtain⟨l1,l2⟩:=l.length;obtain⟨base,rfl,F,z⟩:∃base,H= .slice base 0 0/\(base=none↔b=true)/\True:=by
  simp only [az] at Q;rcases Q with⟨rfl,rfl⟩ | ⟨rfl,ah,off,sp,rfl⟩
  .exact⟨none,rfl,by simp,trivial⟩
  .exact⟨some _,rfl,by simp,trivial⟩
 by_cases E:g= []
 .subst E;have ev:vss= []:=by simpa using l1
  subst ev;have le:Le w ρ O w (aN ρ i' (some (.slice base 0 0))) (aN O i' none):=by
   refine⟨rfl,rfl,rfl,Xr _,λj u f=> ?_,λb I hn=>rfl,λj b f=> ?_⟩
   .by_cases e:j=i'
    .subst e;rw [(hs.cO _ hrl B).1] at f;cases f
    .rw [ay _ _ e];exact f
   .by_cases e:j=i'
    .subst e;rw [aH] at f;cases f
    .rw [ay _ _ e] at f;exact .inl ⟨j,f⟩
  refine⟨.slice base 0 0,w,_,_,src.idle rfl ty base 0 0 (Xr _),le,by rw [aH], ?_⟩;have gk:GK w ρ O w (aN ρ i' (some (.slice base 0 0))) (aN O i' none):=λj n=>⟨ay _ _ (aY hrl),ay _ _ (aY hrl),λ_ _=>rfl⟩;refine hs.go le gk (λj b' f=> ?_) (λj K f=> ?_) (λj f=> ?_) (λj n=>by rw [ay _ _ (aY hrl)];exact hs.eP j n) (λj k d f r=> ?_) (λj d f=> ?_)
  .by_cases e:j=i'
   .subst e;rw [aH] at f;cases f;right;refine⟨_,by rw [aH];rfl,⟨base,0,rfl,by simp, ?_,z, .inl rfl⟩,by simp⟩;simpa using F
   .rw [ay _ _ e] at f;exact .inl ⟨f,ay _ _ e,λ_ _=>rfl⟩
  .by_cases e:j=i'
   .subst e;rw [aH] at f;cases f
   .rw [ay _ _ e] at f;rw [ay _ _ e,ay _ _ e];exact hs.cO j K f
  .by_cases e:j=i'
   .subst e;rw [aH] at f;cases f
   .rw [ay _ _ e] at f;exact f
  .by_cases e:j=i'
   .subst e;rw [aH] at f;cases f
   .by_cases e':k=i'
    .subst e';rw [aH] at r;cases r
    .rw [ay _ _ e] at f;rw [ay _ _ e'] at r;exact hs.inj j k d f r
  .by_cases e:j=i'
   .subst e;rw [aH] at f;cases f
   .rw [ay _ _ e] at f;exact hs.lt j d f
 .have G: 0 < g.length:=List.length_pos_iff.2 E;have x:(0+g.length) * ti.bytes<=140737488355328:=by
   have Z:P.bytesOf e=ti.bytes:=by simp [Program.bytesOf,m]
   rw [<-Z,XF];exact B0 C J
  have L:(Builtin.firstCells ti.size 0 (.slice base 0 0)).run P w.drew= .ok ([]:List Value).toArray w.drew:=by
   cases base with
   | none=>exact run_firstCells_none w.drew _ _ _ _
   | some a=>exact run_firstCells_some w.drew _ 0 a _ _ [] (by simp) (by simp)
  have V:=src.grow ty zv base 0 0 [] U L (by omega) (by have:=B1 C;omega) (growslice_fits (by omega) x);have S:zv.cells.size=ti.size:=by have:=(qI (w:=w) (A:=AA c w O) M).length;rw [XE] at this;rw [this,R,D]
  have X:g.isEmpty=false:=by
   cases g with
   | nil=>simp at G
   | cons=>rfl
  have hge:=grownCap_ge w (0+g.length) 0 e;have q:Le w ρ O w.drew ρ O:=⟨rfl,rfl,rfl,Xr _,λ_ _ h=>h,λ_ _ _=>rfl,λi b h=> .inl ⟨i,h⟩⟩;have N:HS c w.drew h ρ O:=hs.world q λ_ _ _=>rfl;obtain⟨g1,g2⟩:=N.zt (hrl:=hrl) (sz:=P.cellsOf e) B e (([] ++vss.flatten).toArray++Builtin.zeroCells zv.cells (grownCap w (0+g.length) 0 e - (0+g.length))) (grownCap w (0+g.length) 0 e) (cQ.mono (λb I=>q.A b I) l)
   (λp v hp=>Ca _ _ _ p v (by simpa using hp)) (by omega) (by
    simp only [ZN,Yy,Yf,l2,size_zeroCells,S,D,<-YW];exact Ya _ (by omega))
  refine⟨_,_,_,_,V,q.trans g1, ?_, ?_⟩
  .rw [aH,XF];rfl
  .simpa [X] using g2
theorem Lr(h:Id->Option ad)(i j:Id)(a b:ad):aR h [(i,a),(j,b)]=aN (aN h i (some a)) j (some b):=rfl
theorem jN{d:Nat}{us:aK}{k:Nat}{b:ad}(a:jr d h us=true)(hm:(Id.s d k,b)∈us):h (.s d k)=none:=by have:=Xw.1 a _ hm;simpa using this
set_option maxHeartbeats 1000000 in
theorem JJ{i i' x:Id}{d:Nat}{v vk:Value}(a:x.real=true)(b:x≠i'):js ρ i i' d v vk x=ρ x:=by
 unfold js;rw [if_neg b];cases x with
 | g y n=>cases a
 | _=>rfl
theorem JI{i i':Id}{a:Nat}{v vk:Value}:js ρ i i' a v vk i'=some v:=by unfold js;rw [if_pos rfl]
theorem C6{i i' y:Id}{n b:Nat}{v vk:Value}(hrl:i'.real=true)(a:y≠i'):js ρ i i' b v vk (.g y n)=ρ (.g y n):=by unfold js;rw [if_neg (aY hrl)];simp only [if_neg a]
theorem C5{i i' j src:Id}{a:Nat}{ob:Option Nat}(h:src≠i'):fD O i i' j src a ob src=none:=by unfold fD;rw [if_neg h,if_pos (.inr (.inr rfl))]
theorem S2{i i' j src x:Id}{d:Nat}{ob:Option Nat}(a:x.real=true)(b:x≠i')(e:x≠i)(f:x≠j)(k:x≠src):fD O i i' j src d ob x=O x:=by
 unfold fD;rw [if_neg b,if_neg (by rintro(h | h | h) <;> contradiction)];cases x with
 | g y n=>cases a
 | _=>rfl
theorem S3{i i' j src y:Id}{n k:Nat}{ob:Option Nat}(a:i.real=true)(b:j.real=true)(hrl:i'.real=true)(f:y≠i')(d:y≠i)(e:Id.g y n≠src):fD O i i' j src k ob (.g y n)=O (.g y n):=by unfold fD;rw [if_neg (aY hrl),if_neg (by rintro(h | h | h);exact aY a h;exact aY b h;exact e h)];simp only [if_neg f,if_neg d]
theorem dF.gone{i i' j a:Id}{n H:Nat}{ob:Option Nat}{v vk:Value}{b:Bool}{sz col rsz L:Nat}{es:List Row}{p:Bool×List (List T)}(hs:HS c w h ρ O)(J:i.real=true)(W:j.real=true)(hrl:i'.real=true)(U:h a=some (.rows b sz col rsz L es))(l:a≠i')(C:a≠i)(V:a≠j)(hf:cU n es=some p)
  (S:∀d,AA c w O d->AA c w' (fD O i i' j (.g a n) H ob) d/\w'.heap[d]? =w.heap[d]?) (r:∀x d,x≠i->O x=some d->w'.heap[d]? =w.heap[d]?):
  dF w' (AA c w' (fD O i i' j (.g a n) H ob)) (js ρ i i' H v vk) (fD O i i' j (.g a n) H ob) a (.rows b sz col rsz L (dG n none es)):=by
 have G:=hs.real (i:=a) (by rw [U];simp);obtain⟨k,e,B,I,heo,N⟩:=yM hf;obtain⟨a',cap,r1,r2,r3,⟨X,Y,n3,n4⟩,Q⟩:=hs.ah a _ U;have R:∀m,m≠n->fD O i i' j (.g a n) H ob (.g a m)=O (.g a m):=λm hm=>S3 J W hrl l C (by intro h;simp only [Id.g.injEq] at h;exact hm h.2);have K:(.g a n:Id)≠i':=aY hrl;rw [N];have E:(es.set k {e with own:=none}).length=es.length:=by simp
 have F:(es.set k {e with own:=none}).map (·.n)=es.map (·.n):=by
  rw [aae];refine Yz λm=> ?_;rw [Yx];split
  .rename_i h;subst h;have:=(W9.1 B).1;rw [if_pos (by simpa using this)];simp [B]
  .rfl
 refine⟨a',cap,by rw [E,JJ G l];exact r1,by rw [E];exact r2,r3,⟨by rw [F];exact X,λf o=> ?_,λm hm=>by rw [C6 hrl l];exact n3 m hm,λm d z=> ?_⟩, ?_⟩
 .rcases YV o with o | rfl
  .exact Y f o
  .exact Y e (Xg B)
 .by_cases hm:m=n
  .subst hm;rw [C5 K] at z;cases z
  .rw [R m hm] at z;obtain⟨f,o,D⟩:=n4 m d z;have:m∈(es.set k {e with own:=none}).map (·.n):=by rw [F];exact XB.2 ⟨f,o,D⟩
   obtain⟨f',h1,h2⟩:=XB.1 this;exact⟨f',h1,h2⟩
 .rcases Q with Q | ⟨ah,off,arr,t,q1,Z,q3,q4,q5⟩
  .exact .inl Q
  .have q:w'.heap[ah]? =w.heap[ah]?:=r a ah C Z;refine .inr ⟨ah,off,arr,t,q1,by rw [S2 G l C V (aY G).symm];exact Z,by rw [q];exact q3,q4, ?_⟩;have M:=q5.get B;refine cL.set S (W9.1 B).1 (λ_ _ _ _=>oD q) (λm f hm o=> ?_) ?_ q5
   .have D:f.n≠n:=λh=>hm (wM X o B (by rw [h,I]));exact⟨C6 hrl l,R _ D,λd z=>r _ d (aY J) z⟩
   .obtain⟨a1,a2,a3,u,a4,a5,a7⟩:=M;refine⟨a1,a2,λm y hm hy=> ?_,u,by rw [oD q];exact a4,by rw [C6 hrl l];exact a5, ?_⟩
    .obtain⟨u',g1,g2⟩:=a3 m y hm hy;exact⟨u',by rw [oD q];exact g1,az.mono S y u' g2⟩
    .simp only;rw [I];exact C5 K
theorem Ep:∀{cs:List AV} {l:List T},ff cs=some l->l.length=cs.length/\∀(j:Nat) (x:T),l[j]? =some x->cs[j]? =some (AV.t x)
 | [],l,h=>by simp only [ff,W5] at h;subst h;simp
 | v::cs,l,h=>by
  cases v <;> simp only [ff,reduceCtorEq] at h;rename_i x;obtain⟨l',d,h⟩:=W6.1 h;simp only [W5] at h;subst h;obtain⟨g1,b⟩:=Ep d;refine⟨by simp [g1],λj y a=> ?_⟩;cases j with
  | zero=>simpa using a
  | succ j=>simpa using b j y (by simpa using a)
theorem Ml{R:Type}{d:Nat}{t ty tr e e':TypeId}{ti:TypeInfo}{zs:List T}{i j:Id}{b:Bool}{sz col rsz F:Nat}{es:List Row}{cs:List AV}{vx vy:Value}{K:AV->aK->Option R}{r:R}(hs:HS c w s.h ρ O)
  (ht:P.underlying t=some (.slice e)) (hty:P.underlying ty=some (.slice e')) (hz:jx P e=some zs) (hzl:zs.length=P.cellsOf e) (hby:P.bytesOf e<=8192) (Z:P.info? e=some ti)
  (hi:s.h i=some (.rows b sz col rsz F es)) (hj:s.h j=some (.arr cs)) (hx:ρ i=some vx) (hy:ρ j=some vy) (f:rI P s d e i sz col rsz F es j cs K=some r):
  ∃v us,K v us=some r/\(jr d s.h us=true->∃u w' ρ' O',(Builtin.append_ #[t,ty] tr #[vx,vy]).run P w= .ok u w'/\Le w ρ O w' ρ' O'/\HS c w' (aR s.h us) ρ' O'/\an w' (AA c w' O') ρ' v u):=by
 obtain⟨ti',zv,hti',hzv,hof⟩:=pH hz;rw [Z] at hti';cases hti';have C:P.cellsOf e=ti.size:=by simp [Program.cellsOf,Z]
 unfold rI at f;split at f
 .rename_i hcond;obtain⟨rfl,c1,c2,c3⟩:=hcond;replace f:=W6.1 f;obtain⟨l,hl,f⟩:=f;obtain⟨bj,q,tj,h1,h2,h3,h4,h5⟩:=hs.ah j _ hj;rw [hy] at h1;cases h1;obtain⟨a,cap,r1,r2,r3,r4,r5⟩:=hs.ah i _ hi;rw [hx] at r1;cases r1;have hri:=hs.real (i:=i) (by rw [hi];simp);have hrj:=hs.real (i:=j) (by rw [hj];simp);have hnl:q.toList.length=1 * ti.size:=by rw [h4.length,c1,C];omega
  obtain⟨ll,lg⟩:=Ep hl;have src:Ad P t ty e ti (.slice (some ⟨bj,0,none⟩) 1 1) 1 q.toList w:= .wR ht Z (Src.ofSlice w hty ⟨bj,0,none⟩ 1 1 _ hnl (λp u y=>by
   rw [iF,XF,l5 h3];simpa using y) (λu hu=>(h5 u hu).1))
  have H:∀n,bH (P.bytesOf e) n=some ()->qn (P.bytesOf e) n:=by
   intro n hn;unfold bH at hn;split at hn
   .assumption
   .simp at hn
  have key:∀(z s0:Id) (bb:Bool) (xs:List (List T)) (vk:Value) (X:ad),s.h s0≠none->s0≠i->s0≠j->(z=s0\/∃n,z= .g s0 n)->ρ z=some vk->dr w (AA c w O) rsz bb xs vk (λd=>O z=some d)->
    q.toList[col]? =some vk->bH (P.bytesOf e) (es.length+1)=some ()->s.h (.s d 0)=none->
    (∀w' ob v,(∀D,AA c w O D->AA c w' (fD O i (.s d 0) j z F ob) D/\w'.heap[D]? =w.heap[D]?)->(∀x D,x≠i->O x=some D->w'.heap[D]? =w.heap[D]?)->dF w' (AA c w' (fD O i (.s d 0) j z F ob)) (js ρ i (.s d 0) F v vk) (fD O i (.s d 0) j z F ob) s0 X)->
    ∃u w' ρ' O',(Builtin.append_ #[t,ty] tr #[.slice a es.length cap, .slice (some ⟨bj,0,none⟩) 1 1]).run P w= .ok u w'/\Le w ρ O w' ρ' O'/\
     HS c w' (aN (aN (aN (aN s.h i (some .dead)) j (some .dead)) s0 (some X)) (.s d 0) (some (.rows false (P.cellsOf e) col rsz (F+1) (es++ [⟨F,l,some (bb,xs)⟩])))) ρ' O'/\an w' (AA c w' O') ρ' (.own (.s d 0)) u:=by
   intro z s0 bb xs vk X q1 q2 q3 q4 q5 q6 q7 Y o hX;have hlr:l.length=P.cellsOf e:=by rw [ll,YZ,c1]
   have hnr:∀m x,m≠col->l[m]? =some x->∃v,q.toList[m]? =some v/\az w (AA c w O) x v:=by intro m x hm hx;have:=lg m x hx;rw [Yx,if_neg (ZU hm)] at this;obtain⟨v,g1,I⟩:=h4.get this;exact⟨v,g1,by simpa [an] using I⟩
   by_cases J:es.length+1<=cap
   .rcases r5 with r5 | ⟨ah,off,arr,t',k1,k2,k3,k4,k5⟩
    .omega
    .subst k1;have hm:(es.length+1) * ti.size<=cap * ti.size:=Ya _ J;rw [YW] at hm;rw [C] at k4;have run:=src.Ce tr ah off es.length cap arr t' k3 J k4;have lfit:off+es.length * ti.size+q.toList.length<=arr.toList.length:=by rw [hnl,XE (xs:=arr)];omega
     have M:∀p,(w.setRow ah (cK (off+es.length * ti.size) q.toList arr.toList).toArray).cell? ⟨ah,p,none⟩=if off+es.length * ti.size<=p/\p < off+es.length * ti.size+q.toList.length then q.toList[p - (off+es.length * ti.size)]? else w.cell? ⟨ah,p,none⟩:=by intro p;rw [vD k3,Zd,uz _ _ _ lfit,l5 k3];simp
     obtain⟨g1,I⟩:=HS.JH (i':= .s d 0) (j:=j) (src:=z) (s0:=s0) (bb:=bb) (xs:=xs) (vk:=vk) (X:=X) (ah:=ah) (blk':=ah) (off:=off) (off':=off) (cap':=cap) (ob:=O i) (news:=q.toList) (l:=l) (w':=w.setRow ah (cK (off+es.length * ti.size) q.toList arr.toList).toArray)
      hs hi o rfl (by rw [hj];simp) (ZU c3) q1 q2 q3 q4 q5 q6 rfl rfl rfl (by rw [sP];exact Xr _) (λk _ f=>setRow_other w ah k _ λe=>f (e▸k2)) (.inl rfl) k2 (setRow_heap w ah arr _ t' (0,0) k3) (by rw [Yy,sO _ _ _ lfit,C];simpa using k4) J k5
      (λp y=>by rw [C] at y;have y:p < es.length * ti.size:=y;rw [M,if_neg (by omega)]) c2 hlr (λp v y=>by
       have W:=(W9.1 y).1;rw [C,M,if_pos (by omega),show off+es.length * ti.size+p - (off+es.length * ti.size)=p by omega];exact y) hnr q7
      (λhA=>hX _ _ _ hA λx D hx hd=>setRow_other w ah D _ λe=>hx (hs.inj x i D hd (e▸k2)))
     exact⟨_,_,_,_,run,g1,I,by simp only [an];exact JI⟩
   .have hneed:(es.length+1) * ti.bytes<=140737488355328:=by
     have e1:P.bytesOf e=ti.bytes:=by simp [Program.bytesOf,Z]
     rw [<-e1];exact B0 (H _ Y) hby
    have hold:∃(B:List Value) (ah off:Nat),B.length=es.length * ti.size/\(Builtin.firstCells ti.size es.length (.slice a es.length cap)).run P w.drew= .ok B.toArray w.drew/\cL w (AA c w O) ρ O i ah (P.cellsOf e) col rsz off es/\∀p v,B[p]? =some v->w.cell? ⟨ah,off+p,none⟩=some v:=by
     rcases r5 with r5 | ⟨ah,off,arr,t',k1,k2,k3,k4,k5⟩
     .have ex:es= []:=Xz.1 (by omega);subst ex;refine⟨[],0,0,by simp, ?_,trivial,by simp⟩;cases a with
      | none=>exact run_firstCells_none w.drew _ _ _ _
      | some a=>exact run_firstCells_some w.drew _ 0 a _ _ [] (by simp) (by simp)
     .subst k1;have hm:es.length * ti.size<=cap * ti.size:=Ya _ r2;rw [C] at k4;have hlen:((arr.toList.drop off).take (es.length * ti.size)).length=es.length * ti.size:=by rw [XW,Yi,XE (xs:=arr)];omega
      have S:∀p v,((arr.toList.drop off).take (es.length * ti.size))[p]? =some v->w.cell? ⟨ah,off+p,none⟩=some v:=by
       intro p v y;rw [YB] at y;split at y
       .rw [YT] at y;rw [l5 k3];simpa using y
       .cases y
      refine⟨_,ah,off,hlen, ?_,k5,S⟩;exact run_firstCells_some w.drew _ _ _ _ _ _ hlen (λp v y=>by rw [iF];simpa using S p v y)
    obtain⟨B,ah,off,ho1,ho2,ho3,ho4⟩:=hold;have U:cap < es.length+1:=by omega
    have run:=src.grow tr zv a es.length cap B hzv ho2 U (by have:=B1 (H _ Y);omega) (growslice_fits U hneed);have hzs:zv.cells.size=ti.size:=by have:=(qI (w:=w) (A:=AA c w O) hof).length;rw [XE] at this;rw [this,hzl,C]
    have hge:=grownCap_ge w (es.length+1) cap e;have Q:∀p v,(B++q.toList)[p]? =some v->(w.drew.alloc (.cells ((B++q.toList).toArray++Builtin.zeroCells zv.cells (grownCap w (es.length+1) cap e - (es.length+1))) e)).cell? ⟨w.heap.size,p,none⟩=some v:=by intro p v y;refine(l5 (w:=w.drew.alloc _) (b:=w.heap.size) (l8 (w:=w.drew) _) _).trans ?_;exact Ca _ _ _ p v y
    obtain⟨g1,I⟩:=HS.JH (i':= .s d 0) (j:=j) (src:=z) (s0:=s0) (bb:=bb) (xs:=xs) (vk:=vk) (X:=X) (ah:=ah) (blk':=w.heap.size) (off:=off) (off':=0) (cap':=grownCap w (es.length+1) cap e) (ob:=some w.heap.size) (news:=q.toList) (l:=l)
     (w':=w.drew.alloc (.cells ((B++q.toList).toArray++Builtin.zeroCells zv.cells (grownCap w (es.length+1) cap e - (es.length+1))) e))
     hs hi o rfl (by rw [hj];simp) (ZU c3) q1 q2 q3 q4 q5 q6 rfl rfl rfl (by simp) (λk f _=>XV w.drew _ k f) (.inr ⟨rfl,by simp⟩) rfl (l8 (w:=w.drew) _) (by
      simp only [ZN,Yy,XK,ho1,hnl,size_zeroCells,hzs,C,<-YW,XF];exact Ya _ (by omega)) hge ho3
     (λp y=>by
      rw [C] at y;have y:p < es.length * ti.size:=y;have W:p < B.length:=by omega
      rw [XF,ho4 p _ (Xd W)];exact Q p _ (by rw [Xk W];exact Xd W)) c2 hlr (λp v y=>by
      rw [C,XF];refine Q _ v ?_;rw [Xs (by omega),ho1,show es.length * ti.size+p - es.length * ti.size=p by omega];exact y) hnr q7
     (λhA=>hX _ _ _ hA λx D hx hd=>XV w.drew _ D (hs.lt x D hd))
    exact⟨_,_,_,_,run,g1,I,by simp only [an];exact JI⟩
  split at f
  .rename_i j2 N;split at f
   .rename_i rsz' b' xs E;split at f
    .rename_i hrsz;subst hrsz;replace f:=aW f (.inl rfl);obtain⟨_,Y,f⟩:=f;refine⟨_,_,f,λo=> ?_⟩;have o:=jN o (k:=0) (b:= .rows false (P.cellsOf e) col rsz' (F+1) (es++ [⟨F,l,some (b',xs)⟩])) (by simp);obtain⟨vk,v1,L⟩:=h4.get N;simp only [an] at L;obtain⟨v',s1,s2⟩:=pk hs E;rw [L] at s1;cases s1;have hr2:=hs.real (i:=j2) (by rw [E];simp);have n2:j2≠ .s d 0:=λe=>by rw [e,o] at E;cases E
     obtain⟨u,w',ρ',O',g1,I,g3,g4⟩:=key j2 j2 b' xs vk .dead (by rw [E];simp) (λe=>by rw [e,hi] at E;cases E) (λe=>by rw [e,hj] at E;cases E) (.inl rfl) L (by simpa using s2) v1 (by assumption) o
      (λw' ob v hA V=>⟨⟨vk,by rw [JJ hr2 n2];exact L,lK hs L⟩,C5 n2⟩)
     exact⟨u,w',ρ',O',g1,I,by rw [dx,dx,dx,eG];exact g3,g4⟩
    .simp at f
   .simp at f
  .rename_i a2 n N;split at f
   .rename_i b2 sz2 col2 rsz2 nx2 es2 G;split at f
    .rename_i hc2;obtain⟨rfl,hai⟩:=hc2;replace f:=aW f (.inl rfl);obtain⟨p,y,f⟩:=f;replace f:=aW f (.inl rfl);obtain⟨_,Y,f⟩:=f;refine⟨_,_,f,λo=> ?_⟩;have o:=jN o (k:=0) (b:= .rows false (P.cellsOf e) col rsz2 (F+1) (es++ [⟨F,l,some p⟩])) (by simp);obtain⟨vk,v1,L⟩:=h4.get N;simp only [an] at L;obtain⟨v',s1,s2⟩:=zS hs G y;rw [L] at s1;cases s1;have n2:a2≠ .s d 0:=λe=>by rw [e,o] at G;cases G
     have n3:a2≠j:=λe=>by rw [e,hj] at G;cases G
     obtain⟨u,w',ρ',O',g1,I,g3,g4⟩:=key (.g a2 n) a2 p.1 p.2 vk (.rows b2 sz2 col2 rsz2 nx2 (dG n none es2)) (by rw [G];simp) hai n3 (.inr ⟨n,rfl⟩) L s2 v1 (by assumption) o
      (λw' ob v hA V=>dF.gone hs hri hrj rfl G n2 hai n3 y hA V)
     exact⟨u,w',ρ',O',g1,I,by rw [dx,dx,dx,eG];exact g3,g4⟩
    .simp at f
   .simp at f
  .simp at f
 .simp at f
theorem Tl{h:Id->Option ad}{x:AV}{q:Id×Nat×Nat×Nat×Nat×List Row}(e:Dm h x=some q):x= .own q.1/\∃b,h q.1=some (.rows b q.2.1 q.2.2.1 q.2.2.2.1 q.2.2.2.2.1 q.2.2.2.2.2):=by
 unfold Dm at e;split at e
 .split at e
  .rename_i a;simp only [W5] at e;subst e;exact⟨rfl,_,a⟩
  .cases e
 .cases e
theorem SI{h:Id->Option ad}{x:AV}{q:Id×List AV}(e:CZ h x=some q):x= .own q.1/\h q.1=some (.arr q.2):=by
 unfold CZ at e;split at e
 .split at e
  .rename_i a;simp only [W5] at e;subst e;exact⟨rfl,a⟩
  .cases e
 .cases e
theorem Mi{R:Type}{d:Nat}{rw:Bool}{t ty tr:TypeId}{x y:AV}{Z vy:Value}{K:AV->aK->Option R}{r:R}(hs:HS c w s.h ρ O)(l:an w (AA c w O) ρ x Z)(hy:an w (AA c w O) ρ y vy)
  (f:lZ P s d rw t ty x y K=some r):
  ∃v us,K v us=some r/\(jr d s.h us=true->∃u w' ρ' O',(Builtin.append_ #[t,ty] tr #[Z,vy]).run P w= .ok u w'/\Le w ρ O w' ρ' O'/\HS c w' (aR s.h us) ρ' O'/\an w' (AA c w' O') ρ' v u):=by
 unfold lZ at f;replace f:=W6.1 f;obtain⟨e,he,f⟩:=f;replace f:=W6.1 f;obtain⟨zs,I,f⟩:=f;obtain⟨Q,hok⟩:=yG he;split at f
 .rename_i U;obtain⟨B,C⟩:=U;obtain⟨ti0,_,m,_,_⟩:=pH I;split at f
  .rename_i i sz col rsz nx es j cs q E;cases rw with
   | false=>cases q
   | true=>
   obtain⟨rfl,b,G⟩:=Tl q;obtain⟨rfl,hj⟩:=SI E;simp only [an] at l hy;split at f
   .rename_i e' hu';exact Ml hs Q hu' I C B m G hj l hy f
   .cases f
  rename_i hnr;clear hnr;replace f:=Mp hs Q m (by simp [Program.cellsOf,m]) I C B hy f;obtain⟨ys,vss,f,src,F⟩:=f;have p:∀n,bH (P.bytesOf e) n=some ()->qn (P.bytesOf e) n:=by
   intro n hn;unfold bH at hn;split at hn
   .assumption
   .simp at hn
  clear he hok;revert f;rcases x with _ | z | _ | _ | _ | _ | i | ⟨i,sz'',off,n⟩ | _ | _ | _ <;> intro f <;> (try dsimp only at f) <;> (try cases f)
  case own=>
   split at f
   .rename_i sz' b xs G;split at f
    .rename_i N;subst N;replace f:=aW f (.inl rfl);obtain⟨_,k,f⟩:=f;refine⟨_,_,f,λg=> ?_⟩;have g:=jN g W7;obtain⟨v',g1,a,cap,X,q2,q3,q4,J⟩:=pk hs G;simp only [an] at l;rw [g1] at l;simp only [W5] at l;subst l;subst X;obtain⟨v,w',ρ',O',q,E,e3,M⟩:=EB (ty:=tr) hs (by rw [G];simp) g Q I C B (p _ k) q2 q3 q4 (by
      rcases J with J | ⟨ah,off,arr,Y,k1,k2,k3,W,k5⟩
      .exact .inl J
      .exact .inr ⟨ah,off,arr,Y,k1,by simpa using k2,k3,W,k5⟩) m src F
     exact⟨v,w',ρ',O',q,E,by rw [Lr];exact M,by simp only [an];exact e3⟩
    .simp at f
   .simp at f
  case part=>
   split at f
   .rename_i sz' b xs G;split at f
    .rename_i N;obtain⟨rfl,rfl⟩:=N;replace f:=aW f (.inl rfl);obtain⟨_,k,f⟩:=f;refine⟨_,_,f,λg=> ?_⟩;have g:=jN g W7;obtain⟨v',g1,a,cap,X,q2,q3,q4,J⟩:=pk hs G;simp only [an] at l;obtain⟨a1,L,D,a',k1,k2,k3,rfl,W⟩:=l;rw [g1] at k1;simp only [W5] at k1;subst k1;simp only [Yg] at X;obtain⟨rfl,rfl,rfl⟩:=X;have H:((xs.drop off).take n).length=n:=by simp only [XW,Yi];omega
     have hnil:a'=none↔b=true:=by
      rw [<-q3];rcases W with⟨_,rfl⟩ | ⟨_,S,_⟩ | ⟨b',o,rfl,rfl⟩
      .exact Zs
      .exact S
      .simp
     have V:True:=trivial;obtain⟨v,w',ρ',O',q,E,e3,M⟩:=EB (ty:=tr) (xs:=(xs.drop off).take n) (base:=a') (cap:=D - off) hs (by rw [G];simp) g Q I C B (by rw [H];exact p _ k) (by rw [H];omega) hnil V (by
      rcases J with J | ⟨ah,off',arr,Y,j1,j2,j3,j4,j5⟩
      .exact .inl (by omega)
      .subst j1;rcases W with⟨rfl,rfl⟩ | ⟨rfl,_⟩ | ⟨b',o,S,rfl⟩
       .exact .inr ⟨ah,off',arr,Y,rfl,by simpa using j2,j3,by simpa using j4,by simpa using j5.take n⟩
       .exact .inl (by omega)
       .simp only [W5,Yd] at S;obtain⟨rfl,rfl,_⟩:=S;refine .inr ⟨ah,_,arr,Y,rfl,by simpa using j2,j3, ?_,(j5.drop off).take n⟩;have:(D - off) * P.cellsOf e+off * P.cellsOf e=D * P.cellsOf e:=by rw [<-YW];congr 1;omega
        omega) m src F
     rw [H] at q;exact⟨v,w',ρ',O',q,E,by rw [Lr];exact M,by simp only [an];exact e3⟩
    .simp at f
   .simp at f
  case t=>
   have Bi:∀b,az w (AA c w O) (.aC b) Z->(ab none (bH (P.bytesOf e) ys.length) λ_=>K (.own (.s d 0)) [(.s d 0, .sl false (P.cellsOf e) (b && ys.isEmpty) ys)])=some r->
     ∃v us,K v us=some r/\(jr d s.h us=true->∃u w' ρ' O',(Builtin.append_ #[t,ty] tr #[Z,vy]).run P w= .ok u w'/\Le w ρ O w' ρ' O'/\HS c w' (aR s.h us) ρ' O'/\an w' (AA c w' O') ρ' v u):=by
    intro b l f;replace f:=aW f (.inl rfl);obtain⟨_,k,f⟩:=f;refine⟨_,_,f,λg=> ?_⟩;have g:=jN g W7;obtain⟨v,w',ρ',O',q,E,e3,M⟩:=Mm (ty:=tr) hs g Q I C B (p _ k) l m src F;exact⟨v,w',ρ',O',q,E,by rw [eG];exact M,by simp only [an];exact e3⟩
   simp only [an] at l;replace f:=W6.1 f;obtain⟨b,k,f⟩:=f;refine Bi b ?_ f;unfold I7 at k;split at k
   .simp only [W5] at k;subst k;exact l
   .rename_i sz b' xs;cases h:(b' && xs.isEmpty) with
    | false=>rw [h] at k;simp at k
    | true=>
     rw [h] at k;simp only [cond_true,W5] at k;subst k;simp only [Xf,Yt] at h;simp only [az] at l⊢;rcases l with⟨_,_,T⟩ | ⟨T,_⟩
     .exact .inl ⟨trivial,T⟩
     .rw [h.1] at T;cases T
   .cases k
 .simp at f
theorem QR{zv:Array Value}{sz:Nat}(a:zv.size=sz)(n:Nat):(madeCells zv (n * sz)).toList= (List.replicate n zv.toList).flatten:=by
 refine Yz λp=> ?_;by_cases d:p < n * sz
 .have b:p < (List.replicate n zv.toList).flatten.length:=by simpa [a] using d
  have:=CH a n n (Xr _) p _ (Xd b);rw [X8,this,Xd b]
 .rw [YA (by simp [madeCells];omega),YA (by simp [a];omega)]
theorem I8{rsz:Nat}{i:Id}{ah:Nat}:∀{k n base:Nat},(∀m,m < n->w.cell? ⟨ah,base+m,none⟩=some (.slice none 0 0))->(∀m,k<=m->m < k+n->ρ (.g i m)=some (.slice none 0 0))->
  cL w A ρ O i ah 1 0 rsz base ((List.range' k n).map λk=>⟨k,[.ax],some (true,[])⟩)
 | k,0,base,_,_=>trivial
 | k,n+1,base,a,b=>by
  rw [Y3,Xq];refine⟨⟨rfl,by omega,λj x l d=> ?_,_,a 0 (by omega),b k (by omega) (by omega),⟨none,0,rfl,by simp,by simp,trivial, .inl rfl⟩⟩,I8 (λm hm=> ?_) (λm e f=>b m (by omega) (by omega))⟩
  .have:j < 1:=by simpa using (W9.1 d).1
   omega
  .have:=a (m+1) (by omega);rw [show base+1+m=base+ (m+1) by omega];exact this
theorem HS.Su{i:Id}{N cap rsz:Nat}{cells:Array Value}(hs:HS c w h ρ O)(B:h i=none)(t:TypeId)(G:∀p,p < N->cells[p]? =some (.slice none 0 0))(K:cap<=cells.size)(F:N<=cap)(hrl:i.real=true:=by rfl):
  ∃ρ' O',Le w ρ O (w.alloc (.cells cells t)) ρ' O'/\HS c (w.alloc (.cells cells t)) (aN h i (some (.rows false 1 0 rsz N (sB N)))) ρ' O'/\ρ' i=some (.slice (some ⟨w.heap.size,0,none⟩) N cap):=by
 let V:Id->Option Value:=λx=>if x=i then some (.slice (some ⟨w.heap.size,0,none⟩) N cap) else match x with
  | .g y n=>if y=i then(if n < N then some (.slice none 0 0) else none) else ρ (.g y n)
  | x=>ρ x
 have C:V i=some (.slice (some ⟨w.heap.size,0,none⟩) N cap):=by simp only [V,if_true]
 have D:∀x,x.real=true->x≠i->V x=ρ x:=by
  intro x o a;simp only [V,if_neg a];cases x with
  | g y n=>cases o
  | _=>rfl
 have r:∀y n,y≠i->V (.g y n)=ρ (.g y n):=by intro y n l;simp only [V,if_neg (aY hrl),if_neg l]
 have z:∀n,V (.g i n)=if n < N then some (.slice none 0 0) else none:=by intro n;simp only [V,if_neg (aY hrl),if_true]
 have E:∀n,O (.g i n)=none:=λn=>(hs.gG i n B).2;have le:Le w ρ O (w.alloc (.cells cells t)) V (aN O i (some w.heap.size)):=by
  refine⟨rfl,rfl,rfl,by simp,λx u a=> ?_,λd j _=>XV _ _ _ j,λx d a=> ?_⟩
  .cases o:x.real with
   | true=>
    have:x≠i:=λe=>by rw [e,(hs.cO i hrl B).1] at a;cases a
    rw [D x o this];exact a
   | false=>
    cases x with
    | g y n=>
     have:y≠i:=λe=>by rw [e,(hs.gG i n B).1] at a;cases a
     rw [r y n this];exact a
    | _=>cases o
  .by_cases e:x=i
   .rw [e,aH] at a;cases a;exact .inr (Xr _)
   .rw [ay _ _ e] at a;exact .inl ⟨x,a⟩
 have v:(sB N).length=N:=by simp [sB]
 refine⟨V,_,le,hs.qp le (λx y a=> ?_) (λx o a=> ?_) (λx n=>by rw [ay _ _ (aY hrl)];exact hs.eP x n) (λx n a=> ?_) (λx n u q=> ?_) (λx y d a l=> ?_) (λx d a=> ?_),C⟩
 .by_cases e:x=i
  .subst e;rw [aH] at a;cases a;right;refine⟨_,cap,by rw [v];exact C,by rw [v];exact F,by simp,⟨?_,λf H=> ?_,λn L=>by rw [z,if_neg (by omega)],λn d j=> ?_⟩, .inr ⟨w.heap.size,0,cells,t,rfl,by rw [aH],l8 _,by omega, ?_⟩⟩
   .have:(sB N).map (·.n)=List.range N:=by
     unfold sB;rw [Yr];exact List.map_id _
    rw [this];exact List.nodup_range
   .obtain⟨k,I,rfl⟩:=XB.1 H;simpa using I
   .rw [ay _ _ (aY hrl),E] at j;cases j
   .unfold sB;rw [ZX];refine I8 (λm hm=> ?_) (λm _ hm=>by rw [z,if_pos (by omega)]);rw [l5 (l8 _),XF];exact G m hm
  .rw [ay _ _ e] at a;have J:=hs.real (i:=x) (by rw [a];simp);exact .inl ⟨a,ay _ _ e,λd j=>XV _ _ _ (hs.lt x d j),λn=>⟨r x n e,ay _ _ (aY hrl),λd j=>XV _ _ _ (hs.lt _ d j)⟩⟩
 .have b:x≠i:=λe=>by rw [e,aH] at a;cases a
  rw [ay _ _ b] at a;rw [D x o b,ay _ _ b];exact hs.cO x o a
 .have b:x≠i:=λe=>by rw [e,aH] at a;cases a
  rw [ay _ _ b] at a;rw [r x n b,ay _ _ (aY hrl)];exact hs.gG x n a
 .by_cases b:x=i
  .subst b;rw [z] at q;split at q
   .simp only [W5] at q;subst q;exact⟨rfl,rfl⟩
   .cases q
  .rw [r x n b] at q;exact hs.gone x n u q
 .by_cases e:x=i <;> by_cases e':y=i
  .rw [e,e']
  .rw [e,aH] at a;cases a;rw [ay _ _ e'] at l;exact absurd (hs.lt _ _ l) (YD _)
  .rw [e',aH] at l;cases l;rw [ay _ _ e] at a;exact absurd (hs.lt _ _ a) (YD _)
  .rw [ay _ _ e] at a;rw [ay _ _ e'] at l;exact hs.inj x y d a l
 .by_cases e:x=i
  .rw [e,aH] at a;cases a;simp
  .rw [ay _ _ e] at a;have:=hs.lt x d a;simp;omega
theorem QT{R:Type}{d:Nat}{t:TypeId}{ns:Nat}{n m:T}{vn vm:Value}{K:AV->aK->Option R}{r:R}(hs:HS c w s.h ρ O)(H:an w (AA c w O) ρ (.t n) vn)(hm:an w (AA c w O) ρ (.t m) vm)
  (a:uk P d t ns n m K=some r):
  ∃v us,K v us=some r/\(jr d s.h us=true->∃u w' ρ' O',(Instr.makeSlice t vn vm).run P w= .ok u w'/\Le w ρ O w' ρ' O'/\HS c w' (aR s.h us) ρ' O'/\an w' (AA c w' O') ρ' v u):=by
 unfold uk at a;replace a:=W6.1 a;obtain⟨e,V,a⟩:=a;replace a:=W6.1 a;obtain⟨zs,L,a⟩:=a;obtain⟨J,X⟩:=yG V;replace a:=aW a (.inl rfl);obtain⟨N,I,a⟩:=a;replace a:=aW a (.inl rfl);obtain⟨g,G,a⟩:=a;have:=T.gY I;subst this;have:=T.gY G;subst this;simp only [an,az] at H hm;subst H;subst hm;split at a
 .rename_i z;obtain⟨B,o⟩:=z;replace a:=aW a (.inl rfl);obtain⟨_,U,a⟩:=a;obtain⟨h0,D,E⟩:=IQ U;cases C:(ns==2) with
  | true=>
   simp only [C,cond_true] at a;split at a
   .rename_i u Y;split at a
    .rename_i F;refine⟨_,_,a,λb=> ?_⟩;have b:=jN b W7;obtain⟨zv,f,y⟩:=Kk (w:=w) (A:=AA c w O) (kn:= .i64) (km:= .i64) J L B o h0 D E;have x:zv.cells.size=P.cellsOf e:=by have:=f.length;rw [XE] at this;omega
     have M:zv.cells.toList= [.slice none 0 0]:=by
      obtain⟨v,q,Q,g1,j⟩:=f;simp only [ba] at j;rw [Q,j];simp only [az] at g1;rcases g1 with⟨_,g1⟩ | ⟨g1,_⟩
      .rw [g1]
      .cases g1
     have l:∀p,p < N.toNat->(madeCells zv.cells (g.toNat * P.cellsOf e))[p]? =some (.slice none 0 0):=by
      intro p Z;rw [<-X8,QR x,M];have:(List.replicate g.toNat [Value.slice none 0 0]).flatten=List.replicate g.toNat (.slice none 0 0):=by
       induction g.toNat with
       | zero=>rfl
       | succ k W=>rw [Yv,YO,W];rfl
      rw [this,List.getElem?_replicate,if_pos (by omega)]
     obtain⟨ρ',O',g1,j,S⟩:=hs.Su (i:= .s d 0) (rsz:=P.cellsOf u) b e l (cap:=g.toNat) (by simp [madeCells,F]) (by omega);refine⟨_,_,ρ',O',y,g1, ?_, ?_⟩
     .rw [eG];with_reducible exact j
     .simp only [an];exact S
    .simp at a
   .simp at a
  | false=>
  simp only [C,cond_false] at a;refine⟨_,_,a,λb=> ?_⟩;have b:=jN b W7;obtain⟨zv,f,y⟩:=Kk (w:=w) (A:=AA c w O) (kn:= .i64) (km:= .i64) J L B o h0 D E;have x:zv.cells.size=P.cellsOf e:=by have:=f.length;rw [XE] at this;omega
  obtain⟨g1,j⟩:=hs.zt (i:= .s d 0) (sz:=P.cellsOf e) b e (madeCells zv.cells (g.toNat * P.cellsOf e)) g.toNat (cQ.replicate f o N.toNat)
   (CH x _ _ (by omega)) (by simp;omega) (by simp [madeCells])
  refine⟨_,_,_,_,y,g1,by rw [eG];exact j, ?_⟩;simp only [an];rw [aH,Ys]
 .simp at a
end
open Go Go.IntKind
section
variable {P:Program} {w w':World} {A A':Nat->Prop} {c:Ctx} {ρ:Id->Option Value} {O:Id->Option Nat} {s:St} {cc:Option Bool} {h:Id->Option ad}
theorem HU{t:TypeId}{x:AV}{i:Value}{b:Bool}(hs:HS c w s.h ρ O)(g:an w (AA c w O) ρ x i)(h:kF P s t x=some b)(o:Operand)(ho:qE P t o=true)(a:Act)(m n:Operand):
  ((eqGuard .eql t m n i (a.eval o)).run P w= .ok () w/\(binOp .eql t i (a.eval o)).run P w= .ok (.bool b) w)/\
  ((eqGuard .neq t m n i (a.eval o)).run P w= .ok () w/\(binOp .neq t i (a.eval o)).run P w= .ok (.bool (!b)) w)/\
  ((eqGuard .eql t m n (a.eval o) i).run P w= .ok () w/\(binOp .eql t (a.eval o) i).run P w= .ok (.bool b) w)/\
  ((eqGuard .neq t m n (a.eval o) i).run P w= .ok () w/\(binOp .neq t (a.eval o) i).run P w= .ok (.bool (!b)) w):=by
 unfold qE at ho;split at ho
 .rename_i e j;have key:∃p l k,i= .slice p l k/\p.isNone=b:=by
   unfold kF at h;rw [j] at h;dsimp only at h;split at h
   .rename_i sz b' xs;simp only [W5] at h;subst h;simp only [an,az] at g;rcases g with⟨rfl,_,rfl⟩ | ⟨rfl,_,_,_,_,rfl,_⟩
    .exact⟨_,_,_,rfl,rfl⟩
    .exact⟨_,_,_,rfl,rfl⟩
   .simp only [W5] at h;subst h;simp only [an,az] at g;rcases g with⟨rfl,rfl⟩ | ⟨rfl,_,_,_,rfl⟩
    .exact⟨_,_,_,rfl,rfl⟩
    .exact⟨_,_,_,rfl,rfl⟩
   .split at h
    .rename_i u;simp only [W5] at h;subst h;obtain⟨D,g1,a,cap,v,z,r,B,C⟩:=pk hs u;simp only [an] at g;rw [g1] at g;simp only [W5] at g;subst g;subst v;refine⟨_,_,_,rfl, ?_⟩;cases a with
     | none=>simpa using r
     | some a=>
      have:¬(_=true):=λe=>by have:=r.2 e;simp at this
      simpa using this
    .simp at h
   .simp at h
  obtain⟨p,l,k,rfl,rfl⟩:=key;simp only [Act.eval];have E1:(Op.equal t (.slice p l k) (.slice none 0 0)).run P w= .ok p.isNone w:=by
   have:∀d,(Op.equalIn (d+1) t (.slice p l k) (.slice none 0 0)).run P w= .ok p.isNone w:=by intro d;cases p <;> simp [Op.equalIn,run_underlying j]
   exact this 9999
  have q:(Op.equal t (.slice none 0 0) (.slice p l k)).run P w= .ok p.isNone w:=by
   have:∀d,(Op.equalIn (d+1) t (.slice none 0 0) (.slice p l k)).run P w= .ok p.isNone w:=by intro d;simp [Op.equalIn,run_underlying j]
   exact this 9999
  refine⟨⟨by simp [eqGuard], ?_⟩,⟨by simp [eqGuard], ?_⟩,⟨by simp [eqGuard], ?_⟩,⟨by simp [eqGuard], ?_⟩⟩ <;> simp only [binOp] <;> simp [E1,q]
 .rename_i e j;have key:∃p,i= .pointer p/\p.isNone=b:=by
   unfold kF at h;rw [j] at h;dsimp only at h;split at h
   .simp only [W5] at h;subst h;simp only [an,az] at g;obtain⟨_,_,rfl,_⟩:=g;exact⟨_,rfl,rfl⟩
   .simp only [W5] at h;subst h;simp only [an,az] at g;subst g;exact⟨_,rfl,rfl⟩
   .simp only [W5] at h;subst h;simp only [an] at g;obtain⟨_,_,rfl⟩:=g;exact⟨_,rfl,rfl⟩
   .simp only [W5] at h;subst h;simp only [an] at g;obtain⟨_,_,_,_,_,rfl⟩:=g;exact⟨_,rfl,rfl⟩
   .simp at h
  obtain⟨p,rfl,rfl⟩:=key;simp only [Act.eval];have E1:(Op.equal t (.pointer p) (.pointer none)).run P w= .ok p.isNone w:=by
   have:∀d,(Op.equalIn (d+1) t (.pointer p) (.pointer none)).run P w= .ok p.isNone w:=by intro d;cases p <;> simp [Op.equalIn,run_underlying j]
   exact this 9999
  have q:(Op.equal t (.pointer none) (.pointer p)).run P w= .ok p.isNone w:=by
   have:∀d,(Op.equalIn (d+1) t (.pointer none) (.pointer p)).run P w= .ok p.isNone w:=by intro d;simp [Op.equalIn,run_underlying j]
   exact this 9999
  refine⟨⟨by simp [eqGuard], ?_⟩,⟨by simp [eqGuard], ?_⟩,⟨by simp [eqGuard], ?_⟩,⟨by simp [eqGuard], ?_⟩⟩ <;> simp only [binOp] <;> simp [E1,q]
 .rename_i j;have key:(i= .nilFunc/\b=true)\/(∃f x y,i= .func f x y/\b=false):=by
   unfold kF at h;rw [j] at h;dsimp only at h;split at h
   .simp only [W5] at h;subst h;simp only [an,az] at g;exact .inl ⟨g,rfl⟩
   .simp only [W5] at h;subst h;simp only [an] at g;obtain⟨_,_,rfl,_⟩:=g;exact .inr ⟨_,_,_,rfl,rfl⟩
   .simp at h
  simp only [Act.eval];have E:(Op.equal t i .nilFunc).run P w= .ok b w/\(Op.equal t .nilFunc i).run P w= .ok b w:=by
   constructor
   .have:∀d,(Op.equalIn (d+1) t i .nilFunc).run P w= .ok b w:=by intro d;rcases key with⟨rfl,rfl⟩ | ⟨f,x,y,rfl,rfl⟩ <;> simp [Op.equalIn,run_underlying j]
    exact this 9999
   .have:∀d,(Op.equalIn (d+1) t .nilFunc i).run P w= .ok b w:=by intro d;rcases key with⟨rfl,rfl⟩ | ⟨f,x,y,rfl,rfl⟩ <;> simp [Op.equalIn,run_underlying j]
    exact this 9999
  rcases key with⟨rfl,rfl⟩ | ⟨f,x,y,rfl,rfl⟩ <;>
  refine⟨⟨by simp [eqGuard], ?_⟩,⟨by simp [eqGuard], ?_⟩,⟨by simp [eqGuard], ?_⟩,⟨by simp [eqGuard], ?_⟩⟩ <;> simp only [binOp] <;> simp [E.1,E.2]
 .rename_i j;have key:i= .map none/\b=true:=by
   unfold kF at h;rw [j] at h;dsimp only at h;split at h
   .simp only [W5] at h;subst h;simp only [an,az] at g;exact⟨g,rfl⟩
   .simp at h
  simp only [Act.eval];obtain⟨rfl,rfl⟩:=key;have E:(Op.equal t (.map none) (.map none)).run P w= .ok true w:=by
   have:∀d,(Op.equalIn (d+1) t (.map none) (.map none)).run P w= .ok true w:=by intro d;simp [Op.equalIn,run_underlying j]
   exact this 9999
  refine⟨⟨by simp [eqGuard], ?_⟩,⟨by simp [eqGuard], ?_⟩,⟨by simp [eqGuard], ?_⟩,⟨by simp [eqGuard], ?_⟩⟩ <;> simp only [binOp] <;> simp [E]
 .simp at ho
theorem Nf{R:Type}{src e:TypeId}{x:T}{j:Value}{K:T->Option R}{r:R}(i:cc=none\/cc=some true)(d:az w A x j)(a:tB P cc src e x K=some r):
  ∃z v,K z=some r/\(convert src e j).run P w= .ok v w/\az w A z v:=by
 unfold tB at a;split at a
 .rename_i k l g b;replace a:=aW a i;obtain⟨n,f,a⟩:=a;have:=T.gY f;subst this;simp only [az] at d;subst d;exact⟨_,_,a,by simp [convert,run_underlying g,run_underlying b,Conv.intToInt],hI _ _ _ _⟩
 .rename_i g b;replace a:=aW a i;obtain⟨n,f,a⟩:=a;have:=T.lP f;subst this;simp only [az] at d;subst d;exact⟨_,_,a,by simp [convert,run_underlying g,run_underlying b],mU _ _ _⟩
 .simp at a
theorem E6:∀{xs:List (List T)} {l:List UInt8} {vss:List (List Value)},bytesOf xs=some l->cQ w A 1 xs vss->∃ns:List Int,vss.flatten=ns.map (Value.int .u8)/\l=ns.map (λn=>UInt8.ofNat n.toNat)
 | [],l,vss,e,h=>by simp only [cQ] at h;subst h;simp only [bytesOf,W5] at e;subst e;exact⟨[],rfl,rfl⟩
 | cs::xs,l,vss,e,⟨vs,r,g,a,e3,i⟩=>by
  subst g;simp only [bytesOf] at e;obtain⟨x,f,e⟩:=W6.1 e;obtain⟨n,k,e⟩:=W6.1 e;obtain⟨q,m,e⟩:=W6.1 e;simp only [W5] at e;subst e;obtain⟨ns,g1,j⟩:=E6 m i;have:=T.gY k;subst this;cases cs with
  | nil=>simp at a
  | cons y cs=>simp only [Yl,W5] at f;subst f;have:cs= []:=Xz.1 (by simpa using a);subst this;obtain⟨v,o,rfl,b,d⟩:=e3;simp only [ba] at d;subst d;simp only [az] at b;subst b;exact⟨n::ns,by simp [g1],by simp [j]⟩
theorem JK:∀(ns:List Int) (b:ByteArray),ns.foldl (λr n=>r.push (UInt8.ofNat n.toNat)) b= ⟨b.data++ (ns.map (λn=>UInt8.ofNat n.toNat)).toArray⟩
 | [],b=>by simp
 | n::ns,b=>by rw [Zo,JK ns];simp [ByteArray.push]
theorem MT{src b e:TypeId}{x:AV}{y:T}{o:Value}{p:Bool×List (List T)}{l:List UInt8}(hs:HS c w s.h ρ O)(k:P.underlying src=some (.slice e))(d:P.underlying b=some .string)(g:P.underlying e=some (.int .u8))
  (z:an w (AA c w O) ρ x o) (B:eD s.h x=some y) (u:y.aQ 1=some p) (hl:bytesOf p.2=some l):(convert src b o).run P w= .ok (.string ⟨l.toArray⟩) w:=by
 rcases KK hs z B u with⟨m,rfl | ⟨a,cap,rfl⟩⟩ | ⟨ah,off,cap,rfl,i⟩
 .rw [m] at hl;simp only [bytesOf,W5] at hl;subst hl;rw [run_convert_bytes_string w src b e _ _ _ k g d];simp [Conv.bytesToString];rfl
 .rw [m] at hl;simp only [bytesOf,W5] at hl;subst hl;rw [run_convert_bytes_string w src b e _ _ _ k g d,run_bytesToString w a 0 cap [] (run_loadCells_list (P:=P) w a [] (by simp))];rfl
 .obtain⟨vss,n,r⟩:=i.bE;obtain⟨D,C⟩:=n.length;obtain⟨ns,g1,q⟩:=E6 hl n;rw [run_convert_bytes_string w src b e _ _ _ k g d,run_bytesToString w _ _ cap ns ?_,JK]
  .rw [q];simp
  .rw [<-g1];have f:=run_loadCells_list (P:=P) w ⟨ah,off,none⟩ vss.flatten (λj v t=>by rw [iF];exact r j v t);rw [C,Nat.mul_one] at f;exact f
theorem QL{R:Type}{t:TypeId}(k:cB P t=true){cs:List AV}{arr:Array Value}{off:Nat}{K:AV->Option R}{r:R}(f:aD w A ρ cs (arr.toList.drop off))(m:∀u∈arr.toList,u.oneCell'=true/\u.cells= #[u])(h:nW P t cs K=some r):
  ∃i v,K i=some r/\(part t arr off).run P w= .ok v w/\an w A ρ i v:=by
 unfold nW at h;unfold part;simp only [Xx,uG k,Xm];cases j:ca P t
 .simp only [j,cond_false] at h;cases cs with
  | nil=>simp at h
  | cons y cs=>
   simp only [Yl,Xb] at h;simp only [aD] at f;obtain⟨v,q,e,a,_⟩:=f;have b:off < arr.toList.length:=by
    rcases Za off arr.toList.length with g | g
    .exact g
    .rw [Y7 g] at e;simp at e
   rw [Zf b] at e;simp only [Yh] at e;have:arr[off]? =some v:=by rw [YU (by simpa using b)];rw [<-e.1];simp
   simp only [XD,if_false,this];exact⟨_,v,h,by simp,a⟩
 .simp only [j,cond_true] at h;cases d:od (P.cellsOf t) cs with
  | none=>simp [d] at h
  | some l=>simp only [d,Xb] at h;obtain⟨hl,o⟩:=DQ d;have a:=f.take (P.cellsOf t);rw [<-hl] at a;refine⟨_, .agg (arr.extract off (off+P.cellsOf t)),h,by simp only [if_true,Xx,jU k,Xm,XO], ?_⟩;simp only [an];refine⟨_, ?_,a,λu n=>m u (Zg (YX n))⟩;congr 1;apply YR;simp [Zu,ZC]
theorem PZ{R:Type}{t:TypeId}{x:AV}{e:Value}{f:Nat}{K:AV->Option R}{r:R}(d:an w A ρ x e)(h:tT P t x f K=some r):
  ∃a v,K a=some r/\(Instr.field t e f).run P w= .ok v w/\an w A ρ a v:=by
 unfold tT at h;split at h
 .rename_i off u l;obtain⟨n,y,i,j,b,k⟩:=BZ l;simp only [XP] at b;obtain⟨rfl,rfl⟩:=b;split at h
  .rename_i vs;simp only [an] at d;obtain⟨m,rfl,g1,g⟩:=d;obtain⟨a,v,k1,k2,k3⟩:=QL (arr:=m.toArray) k (by simpa using g1.drop y.offset) (by simpa using g) h;exact⟨a,v,k1,by simp [Instr.field,run_underlying i,j,asAgg,k2],k3⟩
  .simp at h
 .simp at h
theorem QK{R:Type}{t:TypeId}(m:cB P t=true){cs:List T}{arr:Array Value}{off:Nat}{K:AV->Option R}{r:R}(b:cc=none\/cc=some true)(k:ba w A cs (arr.toList.drop off))(h:me P t cc cs K=some r):
  ∃i v,K i=some r/\(part t arr off).run P w= .ok v w/\an w A ρ i v:=by
 unfold me at h;unfold part;simp only [Xx,uG m,Xm];cases j:ca P t
 .simp only [j,cond_false] at h;replace h:=aW h b;obtain⟨x,f,h⟩:=h;cases cs with
  | nil=>simp at f
  | cons y cs=>
   simp only [Yl,W5] at f;subst f;obtain⟨v,q,e,a,_⟩:=k;have d:off < arr.toList.length:=by
    rcases Za off arr.toList.length with g | g
    .exact g
    .rw [Y7 g] at e;simp at e
   rw [Zf d] at e;simp only [Yh] at e;have:arr[off]? =some v:=by rw [YU (by simpa using d)];rw [<-e.1];simp
   simp only [XD,if_false,this];obtain⟨z,h,a⟩:=qU b a h;exact⟨_,v,h,by simp,by simpa [an] using a⟩
 .simp only [j,cond_true] at h;obtain⟨l,hl,o,h⟩:=Ak b h;have a:=k.take (P.cellsOf t);rw [<-hl] at a;obtain⟨p,h,n⟩:=xr b a h;refine⟨_, .agg (arr.extract off (off+P.cellsOf t)),h,by simp only [if_true,Xx,jU m,Xm,XO], ?_⟩;simp only [an];refine⟨_, ?_,aD.mP n,a.one⟩;congr 1;apply YR;simp [Zu,ZC]
theorem CN{R:Type}{k:IntKind}(g:cc=none\/cc=some true)(d:Bool):∀{l:List T} {a:Int} {vs:List Value} {K:T->Option R} {r:R},ba w A l vs->qC k cc d a l K=some r->
  ∃n,K (.int k n)=some r/\(vs.foldlM (cond d Builtin.max2 Builtin.min2) (.int k a)).run P w= .ok (.int k n) w
 | [],a,vs,K,r,i,h=>by simp only [ba] at i;subst i;exact⟨a,h,by simp⟩
 | y::l,a,vs,K,r,⟨v,q,e,f,o⟩,h=>by
  subst e;simp only [qC] at h;replace h:=aW h g;obtain⟨b,p,h⟩:=h;have:=T.gY p;subst this;simp only [az] at f;subst f;obtain⟨n,j,m⟩:=CN g d o h;refine⟨n,j, ?_⟩;rw [List.foldlM_cons];have:((cond d Builtin.max2 Builtin.min2) (.int k a) (.int k b)).run P w= .ok (.int k (mm d a b)) w:=by cases d <;> simp [Builtin.max2,Builtin.min2,mm]
  simp only [Xx,this,Xm];exact m
end
open Go Go.IntKind
def gK(O:Id->Option Nat)(b:Nat):Prop:= ∃i,O i=some b
def kZ(a:List ad):Id->Option ad
 | .c j=>a[j]?
 | _=>none
section
variable {P:Program} {w w':World} {A A':Nat->Prop} {c:Ctx} {ρ:Id->Option Value} {O:Id->Option Nat} {s s':St} {h:Id->Option ad}
def oO:Option ad->List Id
 | some (.box cs)=>cC cs
 | some (.arr cs)=>cC cs
 | _=> []
theorem w7:∀{n:Nat} {todo d seen:List Id},fV h n todo d=some seen->d.Nodup->(∀i∈d,h i≠none)->(∀i∈d,∀j∈oO (h i),j∈d\/j∈todo)->
  seen.Nodup/\(∀i∈d,i∈seen)/\(∀i∈todo,i∈seen)/\(∀i∈seen,h i≠none)/\∀i∈seen,∀j∈oO (h i),j∈seen
 | 0,todo,d,seen,e,_,_,_=>by simp [fV] at e
 | n+1,[],d,seen,e,u,t,r=>by simp only [fV,W5] at e;subst e;exact⟨u,λ_ h=>h,by simp,t,λi g j m=>by rcases r i g j m with h | h;exact h;cases h⟩
 | n+1,i::todo,d,seen,e,u,t,r=>by
  simp only [fV] at e;cases l:d.contains i with
  | true=>
   rw [l,cond_true] at e;have g:i∈d:=by simpa using l
   obtain⟨g1,p,v,x,y⟩:=w7 e u t (λk f j m=>by
    rcases r k f j m with h | h
    .exact .inl h
    .rcases Xl.1 h with rfl | h
     .exact .inl g
     .exact .inr h)
   refine⟨g1,p,λk f=> ?_,x,y⟩;rcases Xl.1 f with rfl | f
   .exact p _ g
   .exact v k f
  | false=>
   rw [l,cond_false] at e;have E:i∉d:=by
    intro hm;have:d.contains i=true:=by simpa using hm
    rw [this] at l;cases l
   have C:(d++ [i]).Nodup:=YH.2 ⟨u,by simp,λa F b q z=>by simp only [Xi] at q;exact E (by rw [<-q,<-z];exact F)⟩;have go:∀more:List Id,h i≠none->oO (h i)=more->fV h n (todo++more) (d++ [i])=some seen->_:=λmore D hm e=>
    w7 e C (λk f=>by
     rcases Xo.1 f with f | f
     .exact t k f
     .simp only [Xi] at f;subst f;exact D) (λk f j m=>by
     rcases Xo.1 f with f | f
     .rcases r k f j m with h | h
      .exact .inl (Xp _ h)
      .rcases Xl.1 h with rfl | h
       .exact .inl (Xn _ (Xi.2 rfl))
       .exact .inr (Xp _ h)
     .simp only [Xi] at f;subst f;rw [hm] at m;exact .inr (Xn _ m))
   have o:∀more:List Id,(seen.Nodup/\(∀k∈d++ [i],k∈seen)/\(∀k∈todo++more,k∈seen)/\(∀k∈seen,h k≠none)/\∀k∈seen,∀j∈oO (h k),j∈seen)->
     seen.Nodup/\(∀i∈d,i∈seen)/\(∀k∈i::todo,k∈seen)/\(∀i∈seen,h i≠none)/\∀i∈seen,∀j∈oO (h i),j∈seen:=by
    rintro more ⟨g1,p,v,x,y⟩;refine⟨g1,λk f=>p k (Xp _ f),λk f=> ?_,x,y⟩;rcases Xl.1 f with rfl | f
    .exact p _ (Xn _ (Xi.2 rfl))
    .exact v k (Xp _ f)
   split at e
   .rename_i cs g;exact o _ (go (cC cs) (by rw [g];simp) (by rw [g];rfl) e)
   .rename_i cs g;exact o _ (go (cC cs) (by rw [g];simp) (by rw [g];rfl) e)
   .rename_i b q B g;refine o [] (go [] (by rw [g];simp) ?_ (by simpa using e));rw [g];cases b with
    | box cs=>exact(q cs rfl).elim
    | arr cs=>exact(B cs rfl).elim
    | _=>rfl
   .simp at e
def cN{a:Type}(m:List Id)(f:Id->Option a):Id->Option a
 | .c j=>(m[j]?).bind f
 | .g (.c j) n=>(m[j]?).bind λi=>f (.g i n)
 | _=>none
theorem zP{b:Type}{m:List Id}{f:Id->Option b}{i:Id}(a:i∈m):cN m f (.c (m.idxOf i))=f i:=by simp only [cN];have:m.idxOf i < m.length:=aaf.2 a;rw [Xd this];simp
theorem JX{b:Type}{m:List Id}{f:Id->Option b}{i:Id}{n:Nat}(a:i∈m):cN m f (.g (.c (m.idxOf i)) n)=f (.g i n):=by simp only [cN];have:m.idxOf i < m.length:=aaf.2 a;rw [Xd this];simp
def qV(seen:List Id):Id->Option Id
 | .c j=>seen[j]?
 | .g (.c j) n=>(seen[j]?).map λi=> .g i n
 | _=>none
theorem JY{a:Type}{m:List Id}{f:Id->Option a}(i:Id):cN m f i= (qV m i).bind f:=by
 cases i with
 | c j=>rfl
 | s d j=>rfl
 | g i n=>
  cases i with
  | c j=>simp only [cN,qV];cases m[j]? <;> rfl
  | _=>rfl
theorem VJ{seen:List Id}(z:seen.Nodup){i j k:Id}(r:∀x∈seen,x.real=true)(f:qV seen i=some k)(v:qV seen j=some k):i=j:=by
 have inj:∀{a b:Nat} {x:Id},seen[a]? =some x->seen[b]? =some x->a=b:=by intro a b x e l;obtain⟨B,t⟩:=W9.1 e;obtain⟨C,u⟩:=W9.1 l;exact(List.getElem_inj z).1 (t.trans u.symm)
 have p:∀i,qV seen i=some k->(∃a,i= .c a/\seen[a]? =some k)\/∃a n x,i= .g (.c a) n/\seen[a]? =some x/\k= .g x n:=by
  intro i f;cases i with
  | c a=>exact .inl ⟨a,rfl,f⟩
  | s d a=>cases f
  | g i n=>
   cases i with
   | c a=>simp only [qV,Yo] at f;obtain⟨x,e,l⟩:=f;exact .inr ⟨a,n,x,rfl,e,l.symm⟩
   | _=>cases f
 rcases p i f with⟨a,rfl,e⟩ | ⟨a,n,x,rfl,e,l⟩ <;> rcases p j v with⟨b,rfl,o⟩ | ⟨b,m,y,rfl,o,q⟩
 .rw [inj e o]
 .have:=r k (Xg e);rw [q] at this;cases this
 .have:=r k (Xg o);rw [l] at this;cases this
 .rw [l] at q;cases q;rw [inj e o]
mutual
theorem an.rn{m:List Id}(l:∀b,A b->A' b):∀(v:AV) (u:Value),(∀i∈v.ids,i∈m)->an w A ρ v u->an w A' (cN m ρ) (v.rn m) u
 | .top,_,_,_=>by simp [AV.rn,an]
 | .t x,u,_,d=>by simp only [AV.rn,an] at d⊢;exact az.mono (λb y=>⟨l b y,rfl⟩) x u d
 | .nn vs,u,g,d=>by simp only [AV.rn,an] at d⊢;obtain⟨o,e,j⟩:=d;exact⟨o,e,aD.rn l vs o (by simpa [AV.ids] using g) j⟩
 | .agg vs,u,g,d=>by simp only [AV.rn,an] at d⊢;obtain⟨o,e,j,p⟩:=d;exact⟨o,e,aD.rn l vs o (by simpa [AV.ids] using g) j,p⟩
 | .ref i off,u,g,d=>by simp only [AV.rn,an] at d⊢;rw [zP (g i (by simp [AV.ids]))];exact d
 | .el i sz k off,u,g,d=>by simp only [AV.rn,an] at d⊢;rw [zP (g i (by simp [AV.ids]))];exact d
 | .own i,u,g,d=>by simp only [AV.rn,an] at d⊢;rw [zP (g i (by simp [AV.ids]))];exact d
 | .part i sz off n,u,g,d=>by simp only [AV.rn,an] at d⊢;rw [zP (g i (by simp [AV.ids]))];exact d
 | .row i n,u,g,d=>by simp only [AV.rn,an] at d⊢;rw [JX (g i (by simp [AV.ids]))];exact d
 | .rel i sz n k off,u,g,d=>by simp only [AV.rn,an] at d⊢;rw [JX (g i (by simp [AV.ids]))];exact d
 | .fn f a b,u,g,d=>by simp only [AV.rn,an] at d⊢;obtain⟨q,r,e,j,p⟩:=d;simp only [AV.ids,Xo] at g;exact⟨q,r,e,aD.rn l a q (λi h=>g i (.inl h)) j,aD.rn l b r (λi h=>g i (.inr h)) p⟩
theorem aD.rn{m:List Id}(f:∀b,A b->A' b):∀(vs:List AV) (us:List Value),(∀i∈cC vs,i∈m)->aD w A ρ vs us->aD w A' (cN m ρ) (lL m vs) us
 | [],us,_,a=>by simpa [lL,aD] using a
 | v::vs,us,d,a=>by simp only [lL,aD] at a⊢;obtain⟨u,r,e,g,j⟩:=a;simp only [cC,Xo] at d;exact⟨u,r,e,an.rn f v u (λi h=>d i (.inl h)) g,aD.rn f vs r (λi h=>d i (.inr h)) j⟩
end
def Of(seen:List Id)(k:Id):Prop:=k∈seen\/∃i n,i∈seen/\k= .g i n
theorem VK{seen:List Id}{i k:Id}(h:qV seen i=some k):Of seen k:=by
 cases i with
 | c a=>exact .inl (Xg h)
 | s d a=>cases h
 | g i n=>
  cases i with
  | c a=>simp only [qV,Yo] at h;obtain⟨x,b,e⟩:=h;exact .inr ⟨x,n,Xg b,e.symm⟩
  | _=>cases h
theorem w9{seen:List Id}{b:Nat}(h:gK (cN seen O) b):∃k,Of seen k/\O k=some b:=by obtain⟨i,a⟩:=h;rw [JY] at a;obtain⟨k,d,e⟩:=W6.1 a;exact⟨k,VK d,e⟩
theorem cL.rn{seen:List Id}{i:Id}{j:Nat}{ah sz col rsz:Nat}(d:∀b,A b->A' b)(f:seen[j]? =some i):∀{es:List Row} {base:Nat},cL w A ρ O i ah sz col rsz base es->
  cL w A' (cN seen ρ) (cN seen O) (.c j) ah sz col rsz base es
 | [],_,_=>trivial
 | e::es,base,⟨⟨q,r,t,v,y,z,B⟩,D⟩=>by
  have l:cN seen ρ (.g (.c j) e.n)=ρ (.g i e.n):=by simp [cN,f]
  refine⟨⟨q,r,λk x C E=> ?_,v,y,by rw [l];exact z, ?_⟩,cL.rn d f D⟩
  .obtain⟨u,g1,o⟩:=t k x C E;exact⟨u,g1,az.mono (λb a=>⟨d b a,rfl⟩) x u o⟩
  .have m:cN seen O (.g (.c j) e.n)=O (.g i e.n):=by simp [cN,f]
   rw [m];revert B;cases e.own with
   | none=>exact λh=>h
   | some p=>exact λh=>h.mono (λb a=>⟨d b a,rfl⟩) λb a=>⟨a,rfl⟩
theorem pU.rn{seen:List Id}{i:Id}{j e:Nat}{es:List Row}(d:seen[j]? =some i)(h:pU ρ O i e es):pU (cN seen ρ) (cN seen O) (.c j) e es:=by
 have f:∀n,cN seen ρ (.g (.c j) n)=ρ (.g i n):=λn=>by simp [cN,d]
 have k:∀n,cN seen O (.g (.c j) n)=O (.g i n):=λn=>by simp [cN,d]
 exact⟨h.1,h.2.1,λn a=>by rw [f];exact h.2.2.1 n a,λn b a=>by rw [k] at a;exact h.2.2.2 n b a⟩
theorem HS.JW{c':Ctx}{seen:List Id}(hs:HS c w h ρ O)(hn:seen.Nodup)(N:∀i∈seen,h i≠none)(Z:∀i∈seen,∀j∈oO (h i),j∈seen)
  (D:∀b,AA c w O b->AA c' w (cN seen O) b) (X:∀b,gK (cN seen O) b->c'.MO b) (Y:c'.N0<=w.heap.size) (Q:qo<=c'.N0/\∀b,b < qo->¬c'.M b):HS c' w (kZ (seen.map λi=>iQ seen (h i))) (cN seen ρ) (cN seen O):=by
 have K:∀b,gK (cN seen O) b->gK O b:=λb h=>let⟨k,_,E⟩:=w9 h;⟨k,E⟩;refine⟨λi b p=> ?_,λi hr f=> ?_,λi n=>rfl,λi n f=> ?_,λi n u L=> ?_,λi j b f R=> ?_,λi b f=> ?_,λi b f=> ?_,Y,hs.glob.1,Q⟩
 .cases i with
  | s d j=>simp [kZ] at p
  | g i n=>simp [kZ] at p
  | c j=>
   simp only [kZ,XU,Yo] at p;obtain⟨i,f,e⟩:=p;have H:i∈seen:=Xg f;have q:cN seen ρ (.c j)=ρ i:=by simp [cN,f]
   have C:cN seen O (.c j)=O i:=by simp [cN,f]
   cases G:h i with
   | none=>exact(N i H G).elim
   | some x=>
    have B:=hs.ah i x G;have F:=Z i H;rw [G] at e F;cases x with
    | box cs=>simp only [iQ] at e;subst e;obtain⟨r,arr,t,m,o,e3,y,z⟩:=B;exact⟨r,arr,t,by rw [q];exact m,by rw [C];exact o,e3,aD.rn D cs _ (λk E=>F k (by simpa [oO] using E)) y,z⟩
    | sl fz sz bb xs=>
     simp only [iQ] at e;subst e;obtain⟨v,m,o,e3⟩:=B;refine⟨v,by rw [q];exact m,o.mono (λb p=>⟨D b p,rfl⟩) (λb p=>⟨?_,rfl⟩),by rw [C];exact e3⟩;cases fz
     .simp only [XD,if_false] at p⊢;rw [C];exact p
     .simp only [if_true] at p⊢;exact D b p
    | gf l=>simp only [iQ] at e;subst e;obtain⟨r,m,o,e3,y⟩:=B;exact⟨r,by rw [q];exact m,by rw [C];exact o,D r e3,bn.mono (λb p=>⟨D b p,rfl⟩) r e3 0 l y⟩
    | mp ag ks vk es=>simp only [iQ] at e;subst e;obtain⟨r,J,I,m,o,e3,y,z⟩:=B;exact⟨r,J,I,by rw [q];exact m,by rw [C];exact o,e3,y,z⟩
    | arr cs=>simp only [iQ] at e;subst e;obtain⟨r,arr,t,m,o,e3,y,z⟩:=B;exact⟨r,arr,t,by rw [q];exact m,by rw [C];exact o,e3,aD.rn D cs _ (λk E=>F k (by simpa [oO] using E)) y,z⟩
    | rows bb sz col rsz nx es=>
     simp only [iQ] at e;subst e;obtain⟨a,cap,m,o,e3,y,z⟩:=B;refine⟨a,cap,by rw [q];exact m,o,e3,y.rn f, ?_⟩;rcases z with z | ⟨ah,off,arr,t,q1,q2,q3,q4,q5⟩
     .exact .inl z
     .exact .inr ⟨ah,off,arr,t,q1,by rw [C];exact q2,q3,q4,q5.rn D f⟩
    | dead=>simp only [iQ] at e;subst e;obtain⟨m,o⟩:=B;exact⟨by rw [q];exact m,by rw [C];exact o⟩
 .cases i with
  | s d j=>exact⟨rfl,rfl⟩
  | g i n=>cases hr
  | c j=>simp only [kZ,XU,Option.map_eq_none_iff] at f;simp [cN,f]
 .cases i with
  | c j=>simp only [kZ,XU,Option.map_eq_none_iff] at f;simp [cN,f]
  | _=>exact⟨rfl,rfl⟩
 .cases i with
  | c j=>simp only [cN] at L;obtain⟨k,h1,W⟩:=W6.1 L;exact hs.gone k n u W
  | _=>cases L
 .rw [JY] at f R;obtain⟨k1,S,U⟩:=W6.1 f;obtain⟨k2,T,V⟩:=W6.1 R;have:=hs.inj k1 k2 b U V;subst this;exact VJ hn (λx B=>hs.real (N x B)) S T
 .obtain⟨k,E⟩:=K b ⟨i,f⟩;exact hs.lt k b E
 .exact X b ⟨i,f⟩
theorem HS.rn{seen:List Id}(hs:HS c w h ρ O)(m:seen.Nodup)(g:∀i∈seen,h i≠none)(f:∀i∈seen,∀j∈oO (h i),j∈seen):
  HS c w (kZ (seen.map λi=>iQ seen (h i))) (cN seen ρ) (cN seen O)/\(∀b,gK (cN seen O) b->gK O b):=by
 have a:∀b,gK (cN seen O) b->gK O b:=λb h=>let⟨k,_,e⟩:=w9 h;⟨k,e⟩;refine⟨hs.JW m g f (λb d=>⟨d.1,d.2.1,λi l=> ?_⟩) (λb d=> ?_) hs.size hs.glob.2,a⟩
 .obtain⟨k,e⟩:=a b ⟨i,l⟩;exact d.2.2 k e
 .obtain⟨k,e⟩:=a b d;exact hs.own k b e
theorem qN:∀{n:Nat} {todo a seen:List Id},fV h n todo a=some seen->a <+:seen
 | 0,todo,a,seen,e=>by simp [fV] at e
 | n+1,[],a,seen,e=>by simp only [fV,W5] at e;subst e;exact Ye _
 | n+1,i::todo,a,seen,e=>by
  simp only [fV] at e;cases b:a.contains i with
  | true=>rw [b,cond_true] at e;exact qN e
  | false=>
   rw [b,cond_false] at e;split at e
   .exact(Zb _ _).trans (qN e)
   .exact(Zb _ _).trans (qN e)
   .exact(Zb _ _).trans (qN e)
   .simp at e
theorem JT:∀{l:List Id} {n:Nat} {todo a seen:List Id},fV h n (l++todo) a=some seen->l.Nodup->(∀i∈l,i∉a)->(a++l) <+:seen
 | [],n,todo,a,seen,e,_,_=>by rw [XA];exact qN e
 | i::l,0,todo,a,seen,e,_,_=>by simp [fV] at e
 | i::l,n+1,todo,a,seen,e,g,b=>by
  obtain⟨k,m⟩:=Yq.1 g;simp only [X7,fV] at e;have d:a.contains i=false:=by have:=b i W7;simpa using this
  rw [d,cond_false] at e;have go:∀more:List Id,fV h n (l++todo++more) (a++ [i])=some seen->(a++i::l) <+:seen:=by
   intro more e;rw [XC] at e;have:=JT e m (λj f hm=>by
    rcases Xo.1 hm with hm | hm
    .exact b j (W8 _ f) hm
    .simp only [Xi] at hm;subst hm;exact k f)
   simpa using this
  split at e
  .exact go _ e
  .exact go _ e
  .exact go [] (by simpa using e)
  .simp at e
theorem HS.KM(hs:HS c w h ρ O){i:Id}{b:ad}(e:h i=some b):∃v,ρ i=some v/\v.oneCell'=true/\v.cells= #[v]:=by
 cases d:ρ i with
 | some u=>exact⟨u,rfl,lK hs d⟩
 | none=>
  exfalso;have:=hs.ah i b e;cases b with
  | box cs=>obtain⟨b,_,_,a,_⟩:=this;rw [d] at a;cases a
  | sl fz sz b xs=>obtain⟨v,a,_⟩:=this;rw [d] at a;cases a
  | gf l=>obtain⟨b,a,_⟩:=this;rw [d] at a;cases a
  | mp ag ks vk es=>obtain⟨b,_,_,a,_⟩:=this;rw [d] at a;cases a
  | arr cs=>obtain⟨b,_,_,a,_⟩:=this;rw [d] at a;cases a
  | rows _ _ _ _ _ _=>obtain⟨_,_,a,_⟩:=this;rw [d] at a;cases a
  | dead=>obtain⟨⟨v,a,_⟩,_⟩:=this;rw [d] at a;cases a
theorem aD.set:∀{d:List AV} {us:List Value} {k:Nat} {v:AV} {u:Value},aD w A ρ d us->us[k]? =some u->an w A ρ v u->aD w A ρ (d.set k v) us
 | [],us,k,v,u,h,b,e=>by simp only [aD] at h;subst h;simp at b
 | a::d,us,0,v,u,h,b,e=>by simp only [aD] at h;obtain⟨x,r,rfl,g,f⟩:=h;simp only [XM,W5] at b;subst b;simp only [ZD,aD];exact⟨_,_,rfl,e,f⟩
 | a::d,us,k+1,v,u,h,b,e=>by simp only [aD] at h;obtain⟨x,r,rfl,g,f⟩:=h;simp only [Yn] at b;simp only [Zn,aD];exact⟨_,_,rfl,g,aD.set f b e⟩
theorem PE{b:Bool}{sz:Nat}{u:Value}{Q:Nat->Prop}(h:az w A (.aC b) u):dr w A sz b [] u Q:=by
 simp only [az] at h;rcases h with⟨rfl,rfl⟩ | ⟨rfl,ah,off,sp,rfl⟩
 .exact⟨none,0,rfl,by simp,by simp,by simp, .inl rfl⟩
 .exact⟨some ⟨ah,off,sp⟩,0,rfl,by simp,by simp,trivial, .inl rfl⟩
theorem yT{new i:Id}{k:Nat}{cs:List AV}{X:ad}{us:aK}{bb:Bool}(o:new.real=true)(hs:HS c w h ρ O)(p:h i=some (.box cs))
  (G:h new=none->∀u,az w (AA c w O) (.aC bb) u->dF w (AA c w O) (aN ρ new (some u)) O new X) (m:cs[k]? =some (.t (.aC bb))\/(∃z,cs[k]? =some (.t (.aa z true []))/\bb=true))
  (e:(cond (h new).isNone (some [(new,X),(i,ad.box (cs.set k (.own new)))]) none)=some us):∃ρ' O',Le w ρ O w ρ' O'/\HS c w (aR h us) ρ' O':=by
 obtain⟨b,arr,t,C,D,E,q,F⟩:=hs.ah i _ p;cases l:h new with
 | some x=>rw [l] at e;simp at e
 | none=>
  rw [l] at e;simp only [Z6,cond_true,W5] at e;subst e;have I:∃u,arr.toList[k]? =some u/\az w (AA c w O) (.aC bb) u:=by
   rcases m with m | ⟨z,m,rfl⟩
   .obtain⟨u,g1,f⟩:=q.get m;exact⟨u,g1,by simpa [an] using f⟩
   .obtain⟨u,g1,f⟩:=q.get m;refine⟨u,g1, ?_⟩;simp only [an,az] at f⊢;rcases f with⟨_,_,g⟩ | ⟨g,_⟩
    .exact .inl ⟨trivial,g⟩
    .cases g
  obtain⟨u,g1,f⟩:=I;obtain⟨J,L⟩:=hs.cO new o l;have K:i≠new:=λe=>by rw [e,l] at p;cases p
  have le:Le w ρ O w (aN ρ new (some u)) O:=⟨rfl,rfl,rfl,Xr _,λj v a=>by
   by_cases e:j=new
   .subst e;rw [J] at a;cases a
   .rw [ay _ _ e];exact a,λ_ _ _=>rfl,λj b h=> .inl ⟨j,h⟩⟩
  refine⟨_,O,le, ?_⟩;rw [dx,eG];have y:=hs.real (i:=i) (by rw [p];simp);have B:GK w ρ O w (aN ρ new (some u)) O:=λj n=>⟨ay _ _ (aY o),rfl,λ_ _=>rfl⟩;refine hs.go le B (λj x a=> ?_) (λj r a=> ?_) (λj a=> ?_) (λj n=>by rw [ay _ _ (aY y),ay _ _ (aY o)];exact hs.eP j n) hs.inj hs.lt
  .by_cases e:j=i
   .subst e;rw [aH] at a;cases a;right;refine⟨b,arr,t,le.fu _ _ C,D,E,aD.set (aD.mono (λb H=>le.A b H) le.fu _ _ q) g1 ?_,F⟩;simp only [an];exact aH _ _ _
   .rw [ay _ _ e] at a;by_cases d:j=new
    .subst d;rw [aH] at a;cases a;exact .inr (G l u f)
    .rw [ay _ _ d] at a;exact .inl ⟨a,rfl,λ_ _=>rfl⟩
  .by_cases e:j=i
   .subst e;rw [aH] at a;cases a
   .rw [ay _ _ e] at a;by_cases d:j=new
    .subst d;rw [aH] at a;cases a
    .rw [ay _ _ d] at a;rw [ay _ _ d];exact hs.cO j r a
  .by_cases e:j=i
   .subst e;rw [aH] at a;cases a
   .rw [ay _ _ e] at a;by_cases d:j=new
    .subst d;rw [aH] at a;cases a
    .rw [ay _ _ d] at a;exact a
theorem Tk{new i:Id}{k sz col rsz:Nat}{us:aK}(a:new.real=true)(hs:HS c w h ρ O)(e:uC h new i k sz col rsz=some us):∃ρ' O',Le w ρ O w ρ' O'/\HS c w (aR h us) ρ' O':=by
 have j:∀{bb:Bool},h new=none->∀u,az w (AA c w O) (.aC bb) u->dF w (AA c w O) (aN ρ new (some u)) O new (.rows bb sz col rsz 0 []):=by
  intro bb b u p;have o:pU (aN ρ new (some u)) O new 0 []:=⟨by simp,(λf b=>by cases b),λn _=>by rw [ay _ _ (aY a)];exact(hs.gG new n b).1,λn d l=>by rw [(hs.gG new n b).2] at l;cases l⟩;simp only [az] at p;rcases p with⟨rfl,rfl⟩ | ⟨rfl,ah,off,sp,rfl⟩
  .exact⟨none,0,aH _ _ _,by simp,by simp,o, .inl rfl⟩
  .exact⟨some ⟨ah,off,sp⟩,0,aH _ _ _,by simp,by simp,o, .inl rfl⟩
 unfold uC at e;split at e
 .rename_i cs m;split at e
  .simp only [W5] at e;subst e;exact⟨ρ,O,Le.refl,hs⟩
  .rename_i bb g;exact yT a hs m j (.inl g) e
  .rename_i z g;exact yT a hs m j (.inr ⟨z,g,rfl⟩) e
  .simp at e
 .simp at e
theorem SR{new i:Id}{k sz:Nat}{us:aK}(g:new.real=true)(hs:HS c w h ρ O)(e:qL h new i k sz=some us):∃ρ' O',Le w ρ O w ρ' O'/\HS c w (aR h us) ρ' O':=by
 unfold qL at e;cases p:Nat.ble 100000 sz with
 | true=>rw [p] at e;exact Tk g hs e
 | false=>
 rw [p,cond_false] at e;split at e
 .rename_i cs q;obtain⟨b,arr,t,h1,h2,h3,V,h5⟩:=hs.ah i _ q;have W:∀{bb:Bool},h new=none->∀u,az w (AA c w O) (.aC bb) u->dF w (AA c w O) (aN ρ new (some u)) O new (.sl false sz bb []):=
   λ_ u hu=>⟨u,aH _ _ _,PE hu,by simp⟩
  split at e
  .simp only [W5] at e;subst e;exact⟨ρ,O,Le.refl,hs⟩
  .rename_i bb d;exact yT g hs q W (.inl d) e
  .rename_i z d;exact yT g hs q W (.inr ⟨z,d,rfl⟩) e
  .rename_i j sz' n d;split at e
   .rename_i sz'' bb xs l;split at e
    .rename_i G;obtain⟨rfl,rfl,X⟩:=G;cases C:h new with
     | some x=>rw [C] at e;simp at e
     | none=>
      rw [C] at e;simp only [Z6,cond_true,W5] at e;subst e;obtain⟨u,g1,U⟩:=V.get d;obtain⟨n1,n2⟩:=hs.cO new g C;have hne:i≠new:=λe=>by rw [e,C] at q;cases q
      have hnj:j≠new:=λe=>by rw [e,C] at l;cases l
      obtain⟨v,T,⟨a,cap,rfl,f2,f3,_,N⟩,_⟩:=hs.ah j _ l;simp only [an] at U;obtain⟨a1,L,cap1,y,M,f,e3,rfl,R⟩:=U;rw [T] at M;simp only [W5,Yg] at M;obtain⟨rfl,rfl,rfl⟩:=M;have D:(xs.take n).length=n:=by rw [XW];omega
      have ha:y=none↔a=none:=by
       rcases R with⟨_,rfl⟩ | ⟨_,h,_⟩ | ⟨_,_,rfl,rfl⟩
       .exact Zs
       .exact h
       .simp
      have le:Le w ρ O w (aN ρ new (some (.slice y n (cap - 0)))) (aN (aN O j none) new (O j)):=by
       refine⟨rfl,rfl,rfl,Xr _,λk v d=> ?_,λ_ _ _=>rfl,λk b d=> ?_⟩
       .by_cases e:k=new
        .subst e;rw [n1] at d;cases d
        .rw [ay _ _ e];exact d
       .by_cases e:k=new
        .subst e;rw [aH] at d;exact .inl ⟨j,d⟩
        .rw [ay _ _ e] at d;by_cases f:k=j
         .subst f;rw [aH] at d;cases d
         .rw [ay _ _ f] at d;exact .inl ⟨k,d⟩
      have B:∀k b,aN (aN O j none) new (O j) k=some b->(k=new/\O j=some b)\/(k≠new/\k≠j/\O k=some b):=by
       intro k b d;by_cases e:k=new
       .subst e;rw [aH] at d;exact .inl ⟨rfl,d⟩
       .rw [ay _ _ e] at d;by_cases f:k=j
        .subst f;rw [aH] at d;cases d
        .rw [ay _ _ f] at d;exact .inr ⟨e,f,d⟩
      refine⟨_,_,le, ?_⟩;rw [dx,dx,eG];have hri:=hs.real (i:=i) (by rw [q];simp);have J:=hs.real (i:=j) (by rw [l];simp);have gk:GK w ρ O w (aN ρ new (some (.slice y n (cap - 0)))) (aN (aN O j none) new (O j)):=λk m=>⟨ay _ _ (aY g),by rw [ay _ _ (aY g),ay _ _ (aY J)],λ_ _=>rfl⟩;refine hs.go le gk (λk x d=> ?_) (λk Z d=> ?_) (λk d=> ?_) (λk m=>by rw [ay _ _ (aY hri),ay _ _ (aY g),ay _ _ (aY J)];exact hs.eP k m) (λk Q b d Y=> ?_) (λk b d=> ?_)
      .by_cases e:k=i
       .subst e;rw [aH] at d;cases d;right;refine⟨b,arr,t,le.fu _ _ h1,by rw [ay _ _ hne,ay _ _ (ZU X)];exact h2,h3,aD.set (aD.mono (λb p=>le.A b p) le.fu _ _ V) g1 ?_,h5⟩;simp only [an];exact aH _ _ _
       .rw [ay _ _ e] at d;by_cases f:k=new
        .subst f;rw [aH] at d;cases d;right;refine⟨_,aH _ _ _,⟨y,cap,by rw [D];rfl,by rw [D];omega,by rw [ha];exact f3,trivial, ?_⟩,by simp⟩;rcases N with N | ⟨ah,off,K,t',E,F,q3,q4,q5⟩
         .exact .inl N
         .by_cases I:cap=0
          .exact .inl I
          .right;subst E;have:y=some ⟨ah,off,none⟩:=by
            rcases R with⟨_,rfl⟩ | ⟨h,_⟩ | ⟨b',o,S,rfl⟩
            .rfl
            .exact absurd h.symm I
            .simp only [W5,Yd] at S;obtain⟨rfl,rfl,_⟩:=S;simp
           refine⟨ah,off,K,t',this, ?_,q3,q4,(bx.oU (λb p=>le.A b p) ah _ rfl off xs q5).take n⟩;simp only [XD,if_false] at F⊢;rw [aH];exact F
        .rw [ay _ _ f] at d;by_cases e3:k=j
         .subst e3;rw [aH] at d;cases d;exact .inr ⟨⟨_,le.fu _ _ T,rfl,rfl⟩,by rw [ay _ _ hnj,aH]⟩
         .rw [ay _ _ e3] at d;exact .inl ⟨d,by rw [ay _ _ f,ay _ _ e3],λ_ _=>rfl⟩
      .by_cases e:k=i
       .subst e;rw [aH] at d;cases d
       .rw [ay _ _ e] at d;by_cases f:k=new
        .subst f;rw [aH] at d;cases d
        .rw [ay _ _ f] at d;by_cases e3:k=j
         .subst e3;rw [aH] at d;cases d
         .rw [ay _ _ e3] at d;rw [ay _ _ f,ay _ _ f,ay _ _ e3];exact hs.cO k Z d
      .by_cases e:k=i
       .subst e;rw [aH] at d;cases d
       .rw [ay _ _ e] at d;by_cases f:k=new
        .subst f;rw [aH] at d;cases d
        .rw [ay _ _ f] at d;by_cases e3:k=j
         .subst e3;rw [aH] at d;cases d
         .rw [ay _ _ e3] at d;exact d
      .rcases B k b d with⟨rfl,r⟩ | ⟨p0,r,H⟩ <;> rcases B Q b Y with⟨rfl,E⟩ | ⟨q0,E,F⟩
       .rfl
       .exact(E (hs.inj Q j b F r)).elim
       .exact(r (hs.inj k j b H E)).elim
       .exact hs.inj k Q b H F
      .rcases B k b d with⟨rfl,r⟩ | ⟨p0,r,H⟩
       .exact hs.lt j b r
       .exact hs.lt k b H
    .simp at e
   .simp at e
  .simp at e
 .simp at e
theorem Tj{new i x:Id}{k sz col rsz:Nat}{us:aK}(e:uC h new i k sz col rsz=some us)(a:h x=none)(l:x≠new):aR h us x=none:=by
 unfold uC at e;split at e
 .rename_i cs j;have g:x≠i:=λe=>by rw [e,j] at a;cases a
  have d:∀{b:Bool},(cond (h new).isNone (some [(new,ad.rows b sz col rsz 0 []),(i,ad.box (cs.set k (.own new)))]) none)=some us->aR h us x=none:=by
   intro b e;cases f:(h new).isNone with
   | false=>rw [f] at e;simp at e
   | true=>rw [f] at e;simp only [cond_true,W5] at e;subst e;rw [dx,eG,ay _ _ g,ay _ _ l];exact a
  split at e
  .simp only [W5] at e;subst e;exact a
  .exact d e
  .exact d e
  .simp at e
 .simp at e
theorem SQ{new i x:Id}{k sz:Nat}{us:aK}(e:qL h new i k sz=some us)(a:h x=none)(l:x≠new):aR h us x=none:=by
 unfold qL at e;cases m:Nat.ble 100000 sz with
 | true=>rw [m] at e;exact Tj e a l
 | false=>
 rw [m,cond_false] at e;split at e
 .rename_i cs q;have g:x≠i:=λe=>by rw [e,q] at a;cases a
  have f:∀{b:Bool},(cond (h new).isNone (some [(new,ad.sl false sz b []),(i,ad.box (cs.set k (.own new)))]) none)=some us->aR h us x=none:=by
   intro b e;cases d:(h new).isNone with
   | false=>rw [d] at e;simp at e
   | true=>rw [d] at e;simp only [cond_true,W5] at e;subst e;rw [dx,eG,ay _ _ g,ay _ _ l];exact a
  split at e
  .simp only [W5] at e;subst e;exact a
  .exact f e
  .exact f e
  .rename_i j t n u;split at e
   .rename_i r bb xs o;have p:x≠j:=λe=>by rw [e,o] at a;cases a
    split at e
    .cases d:(h new).isNone with
     | false=>rw [d] at e;simp at e
     | true=>rw [d] at e;simp only [cond_true,W5] at e;subst e;rw [dx,dx,eG,ay _ _ g,ay _ _ l,ay _ _ p];exact a
    .simp at e
   .simp at e
  .simp at e
 .simp at e
theorem C4{nm:Nat}:∀{l:List (Id×Nat×Nat)} {j:Nat} {h:Id->Option ad} {ρ:Id->Option Value} {O:Id->Option Nat} {us:aK},HS c w h ρ O->lH nm j h l=some us->∃ρ' O',Le w ρ O w ρ' O'/\HS c w (aR h us) ρ' O'
 | [],j,h,ρ,O,us,hs,e=>by simp only [lH,W5] at e;subst e;exact⟨ρ,O,Le.refl,hs⟩
 | (i,k,sz)::l,j,h,ρ,O,us,hs,e=>by simp only [lH] at e;obtain⟨q,m,e⟩:=W6.1 e;obtain⟨r,n,e⟩:=W6.1 e;simp only [W5] at e;subst e;obtain⟨o,p,cD,a⟩:=SR rfl hs m;obtain⟨f,g,d,b⟩:=C4 a n;exact⟨f,g,cD.trans d,by rw [np];exact b⟩
theorem JF{nm:Nat}{x:Id}(b:∀k,x≠ .s nm k):∀{l:List (Id×Nat×Nat)} {j:Nat} {h:Id->Option ad} {us:aK},lH nm j h l=some us->h x=none->aR h us x=none
 | [],j,h,us,e,a=>by simp only [lH,W5] at e;subst e;exact a
 | (i,k,sz)::l,j,h,us,e,a=>by simp only [lH] at e;obtain⟨g,d,e⟩:=W6.1 e;obtain⟨m,f,e⟩:=W6.1 e;simp only [W5] at e;subst e;rw [np];exact JF b f (SQ d a (b j))
end
open Go Go.IntKind
section
variable {P:Program} {w w':World} {A A':Nat->Prop} {c:Ctx} {ρ:Id->Option Value} {O:Id->Option Nat} {s:St} {cc:Option Bool} {h:Id->Option ad}
theorem zA{k:Ck}{x:T}(a:eQ k x=true):az w A x (eF x):=by cases x <;> cases k <;> simp_all [eQ,az,eF]
theorem CX:∀{ks:List Ck} {xs:List T},cI ks xs=true->ba w A xs (xs.map eF)
 | [],[],_=>rfl
 | k::ks,x::xs,a=>by simp only [cI,Xf] at a;exact⟨_,_,rfl,zA a.1,CX a.2⟩
 | [],_::_,a=>by simp [cI] at a
 | _::_,[],a=>by simp [cI] at a
theorem CW:∀{ks:List Ck} {xs:List T},cI ks xs=true->xs.length=ks.length
 | [],[],_=>rfl
 | k::ks,x::xs,a=>by simp only [cI,Xf] at a;simp [CW a.2]
 | [],_::_,a=>by simp [cI] at a
 | _::_,[],a=>by simp [cI] at a
theorem Aq{R:Type}{k:Ck}{x:T}{v:Value}{K:T->Option R}{r:R}(e:cc=none\/cc=some true)(hs:n9 k=true)(a:az w A x v)(h:fX k cc x K=some r):
  ∃y,K y=some r/\eQ k y=true/\v=eF y:=by
 unfold fX at h;cases k with
 | i k=>simp only at h;replace h:=aW h e;obtain⟨n,d,h⟩:=h;rw [T.gY d] at a;exact⟨_,h,by simp [eQ],by simpa [az,eF] using a⟩
 | b=>simp only at h;replace h:=aW h e;obtain⟨n,d,h⟩:=h;rw [T.jI d] at a;exact⟨_,h,by simp [eQ],by simpa [az,eF] using a⟩
 | s=>simp only at h;replace h:=aW h e;obtain⟨n,d,h⟩:=h;rw [T.lP d] at a;exact⟨_,h,by simp [eQ],by simpa [az,eF] using a⟩
 | l _=>simp [n9] at hs
 | x=>simp [n9] at hs
theorem DW{R:Type}(d:cc=none\/cc=some true):∀{ks:List Ck} {xs:List T} {vs:List Value} {K:List T->Option R} {r:R},ks.all n9=true->xs.length=ks.length->ba w A xs vs->fJ cc ks xs K=some r->
  ∃b,K b=some r/\cI ks b=true/\vs=b.map eF
 | [],[],vs,K,r,_,_,a,h=>⟨[],h,rfl,by simpa [ba] using a⟩
 | [],_::_,vs,K,r,_,hl,a,h=>by simp at hl
 | _::_,[],vs,K,r,_,hl,a,h=>by simp at hl
 | k::ks,x::xs,vs,K,r,hs,hl,a,h=>by obtain⟨v,q,rfl,i,j⟩:=a;simp only [Yp,Xf] at hs;simp only [fJ] at h;obtain⟨y,h,g1,e⟩:=Aq d hs.1 i h;obtain⟨b,h,f,g⟩:=DW d hs.2 (by simpa using hl) j h;exact⟨y::b,h,by simp [cI,g1,f],by rw [e,g];rfl⟩
theorem Ik{k:TypeId}{q:Bool×List Ck}(h:mb P k=some q):q.2.all n9=true/\(q.1=false->q.2.length=1):=by
 unfold mb at h;split at h
 .simp only [W5] at h;subst h;simp [n9]
 .simp only [W5] at h;subst h;simp [n9]
 .split at h
  .split at h
   .simp only [W5] at h;subst h;refine⟨?_,by simp⟩;rw [Xw];intro b a;rw [aag a];rfl
   .cases h
  .cases h
 .cases h
theorem Cu{R:Type}{k:TypeId}{v:AV}{u:Value}{K:Bool->List Ck->List T->Option R}{r:R}(i:cc=none\/cc=some true)(f:an w A ρ v u)(h:qx P k cc v K=some r):
  ∃ag ks cs,K ag ks cs=some r/\mb P k=some (ag,ks)/\cI ks cs=true/\u=dP ag cs:=by
 unfold qx at h;obtain⟨q,e,h⟩:=W6.1 h;obtain⟨o,j⟩:=q;have a:=Ik e;simp only at h a;split at h
 .rename_i x _;obtain⟨g,h,g1,b⟩:=DW (vs:= [u]) i a.1 (by simpa using (a.2 rfl).symm) (show ba w A [x] [u] from⟨u,[],rfl,by simpa [an] using f,rfl⟩) h;refine⟨false,j,g,h,e,g1, ?_⟩;unfold dP;rw [<-b];rfl
 .rename_i vs _;obtain⟨l,hl,h⟩:=W6.1 h;split at h
  .rename_i d;simp only [an] at f;obtain⟨p,rfl,m,n⟩:=f;obtain⟨g,h,g1,b⟩:=DW i a.1 d (ba.mg hl m) h;refine⟨true,j,g,h,e,g1, ?_⟩;unfold dP;rw [b];rfl
  .cases h
 .cases h
theorem MR{a b:ByteArray}(e:(a==b)=true):a=b:=by
 cases a with
 | mk x=>cases b with
  | mk y=>have e':(x==y)=true:=e;rw [eq_of_beq e']
theorem PR{k:Ck}{x y:T}(a:eQ k x=true)(b:eQ k y=true)(e:oJ x y=true):x=y:=by
 cases x <;> cases k <;> simp [eQ] at a <;> cases y <;> simp [eQ] at b <;> simp [oJ] at e
 .subst a;subst b;subst e;rfl
 .subst e;rfl
 .rw [MR e]
theorem Ha:∀{ks:List Ck} {xs d:List T},cI ks xs=true->cI ks d=true->fi xs d=true->xs=d
 | [],[],[],_,_,_=>rfl
 | k::ks,x::xs,y::d,a,b,e=>by simp only [cI,Xf] at a b;simp only [fi,Xf] at e;rw [PR a.1 b.1 e.1,Ha a.2 b.2 e.2]
 | [],_::_,_,a,_,_=>by simp [cI] at a
 | [],[],_::_,_,b,_=>by simp [cI] at b
 | _::_,[],_,a,_,_=>by simp [cI] at a
 | _::_,_::_,[],_,b,_=>by simp [cI] at b
theorem PN{t:TypeId}{i:IntKind}(d:P.underlying t=some (.int i)){x y:T}(a:eQ (.i i) x=true)(b:eQ (.i i) y=true){R:Type}(K:Bool->Option R):mI P none t x y K=K (oJ x y):=by cases x <;> simp [eQ] at a;cases y <;> simp [eQ] at b;subst a;subst b;simp [mI,d,ab,T.int?,oJ]
theorem G7{e:TypeId}{i:IntKind}(f:P.underlying e=some (.int i)){R:Type}:∀(n:Nat) (xs d:List T) (K:Bool->Option R),cI (List.replicate n (.i i)) xs=true->cI (List.replicate n (.i i)) d=true->fp P none (List.replicate n e) xs d K=K (fi xs d)
 | 0,[],[],K,_,_=>rfl
 | n+1,x::xs,y::d,K,a,b=>by simp only [Yv,cI,Xf] at a b;simp only [Yv,fp,fi];rw [PN f a.1 b.1,G7 f n xs d _ a.2 b.2]
 | 0,_::_,_,_,a,_=>by simp [cI] at a
 | 0,[],_::_,_,_,b=>by simp [cI] at b
 | n+1,[],_,_,a,_=>by simp [Yv,cI] at a
 | n+1,_::_,[],_,_,b=>by simp [Yv,cI] at b
theorem wA{ag:Bool}{ks:List Ck}{cs:List T}(b:ag=false->ks.length=1)(h:cI ks cs=true)(a:ag=false):∃x,cs= [x]/\dP ag cs=eF x:=by have hl:=CW h;rw [b a] at hl;obtain⟨x,rfl⟩:=YF.1 hl;exact⟨x,rfl,by rw [a];rfl⟩
theorem PS{k:TypeId}{ag:Bool}{ks:List Ck}(f:mb P k=some (ag,ks)){a b:List T}(g:cI ks a=true)(j:cI ks b=true)(w:World):
  (Op.equal k (dP ag a) (dP ag b)).run P w= .ok (fi a b) w:=by
 unfold mb at f;split at f
 .rename_i i l;simp only [W5,XP] at f;obtain⟨rfl,rfl⟩:=f;obtain⟨x,rfl,ex⟩:=wA (ag:=false) (by simp) g rfl;obtain⟨y,rfl,r⟩:=wA (ag:=false) (by simp) j rfl;rw [ex,r];simp only [cI,Yk] at g j;have key:∀d (p q:Int),(Op.equalIn (d+1) k (.int i p) (.int i q)).run P w= .ok (p==q) w:=λd p q=>by simp [Op.equalIn,run_underlying l]
  cases x <;> simp [eQ] at g;cases y <;> simp [eQ] at j;rename_i C D;subst g;subst j;rw [show ∀a b:T,fi [a] [b]=oJ a b from λa b=>by simp [fi]];exact key 9999 _ _
 .rename_i l;simp only [W5,XP] at f;obtain⟨rfl,rfl⟩:=f;obtain⟨x,rfl,ex⟩:=wA (ag:=false) (by simp) g rfl;obtain⟨y,rfl,r⟩:=wA (ag:=false) (by simp) j rfl;rw [ex,r];simp only [cI,Yk] at g j;cases x <;> simp [eQ] at g;cases y <;> simp [eQ] at j;rename_i p q;have:∀d,(Op.equalIn (d+1) k (.string p) (.string q)).run P w= .ok (p==q) w:=λd=>by simp [Op.equalIn,run_underlying l]
  rw [show ∀a b:T,fi [a] [b]=oJ a b from λa b=>by simp [fi]];exact this 9999
 .rename_i n e l;split at f
  .rename_i i m;split at f
   .rename_i o;simp only [W5,XP] at f;obtain⟨rfl,rfl⟩:=f;have z:gF P 7 e=some [e]:=by simp [gF,m]
    have v:gF P 8 k=some (List.replicate n e):=by
     simp only [gF,l,m,Xb,Xh,o.1,if_true];congr 1;induction n with
     | zero=>rfl
     | succ n B=>simp [Yv]
    obtain⟨bb,g1,u⟩:=BX (P:=P) (w:=w) (A:=λ_=>True) 8 k _ v 10000 (by omega) Bool none (.inl rfl) a b (a.map eF) (b.map eF) (λb=>some b) _ (CX g) (CX j) (G7 m n a b _ g j);have t:ca P k=true:=by simp [ca,l]
    simp only [W5] at g1;subst g1;simpa [lU,t,dP,Op.equal,Op.maxDepth] using u
   .cases f
  .cases f
 .cases f
theorem yL{k:TypeId}{ag:Bool}{ks:List Ck}(u:mb P k=some (ag,ks)){a:List T}(r:cI ks a=true)(w:World):∀(b:List MapEntry) (es:List (List T×T)) (j:Nat),b.map (λe=>(e.key,e.val))=es.map (λp=>(dP ag p.1,eF p.2))->(∀p∈es,cI ks p.1=true)->
  ((Instr.findAsking k (dP ag a) b j).run P w= .ok none w/\iw a es=none)\/∃i x e p,(Instr.findAsking k (dP ag a) b j).run P w= .ok (some (j+i,eF x)) w/\iw a es=some x/\b[i]? =some e/\es[i]? =some p/\fi a p.1=true/\(∀i' l,i' < i->es[i']? =some l->fi a l.1=false)
 | [],[],j,_,_=> .inl ⟨by simp [Instr.findAsking],rfl⟩
 | [],_::_,j,h,_=>by simp at h
 | _::_,[],j,h,_=>by simp at h
 | e::b,(q,x)::es,j,h,m=>by
  simp only [Xq,Yh,XP] at h;obtain⟨⟨o,E⟩,F⟩:=h;have d:=PS u r (m _ W7) w;simp only at d;cases f:fi a q
  .rw [f] at d;rcases yL u r w b es (j+1) F (λp G=>m p (W8 _ G)) with⟨g1,n⟩ | ⟨i,y,e',l,g1,n,z,B,C,D⟩
   .exact .inl ⟨by simp [Instr.findAsking,o,d,g1],by simp [iw,f,n]⟩
   .refine .inr ⟨i+1,y,e',l,by simp [Instr.findAsking,o,d,g1];omega,by simp [iw,f,n],by simpa using z,by simpa using B,C, ?_⟩;intro i' v t g;cases i' with
    | zero=>simp at g;subst g;exact f
    | succ i'=>exact D i' v (by omega) (by simpa using g)
  .rw [f] at d;exact .inr ⟨0,x,e,(q,x),by simp [Instr.findAsking,o,d,E],by simp [iw,f],rfl,rfl,f,λi' _ t=>by omega⟩
theorem Kj{f:Nat->Sem Unit}:∀(l:List Nat),(∀i∈l,(f i).run P w= .ok () w)->(forIn l PUnit.unit λi _=>do f i;pure (ForInStep.yield PUnit.unit)).run P w= .ok PUnit.unit w
 | [],_=>by simp
 | i::l,h=>by simp only [List.forIn_cons,Xx,h i W7,Xm,XO];have:=Kj (f:=f) l λj a=>h j (W8 _ a);simpa using this
theorem Be{k:TypeId}{ag:Bool}{ks:List Ck}(f:mb P k=some (ag,ks)){a:List T}(p:cI ks a=true)(em:Bool)(w:World):
  (Instr.checkKey em 10000 k (dP ag a)).run P w= .ok () w:=by
 unfold mb at f;split at f
 .rename_i i g;have:∀d,(Instr.checkKey em (d+1) k (dP ag a)).run P w= .ok () w:=λd=>by simp [Instr.checkKey,run_underlying g]
  exact this 9999
 .rename_i g;have:∀d,(Instr.checkKey em (d+1) k (dP ag a)).run P w= .ok () w:=λd=>by simp [Instr.checkKey,run_underlying g]
  exact this 9999
 .rename_i n e g;split at f
  .rename_i i l;split at f
   .rename_i b;simp only [W5,XP] at f;obtain⟨rfl,rfl⟩:=f;have m:cB P e=true:=by simp [cB,l]
    have t:ca P e=false:=by simp [ca,l]
    have hl:=CW p;rw [Ys] at hl;have one:∀d v,(Instr.checkKey em (d+1) e v).run P w= .ok () w:=λd v=>by simp [Instr.checkKey,run_underlying l]
    have r:∀d,∀j∈List.range' 0 n 1,(do Instr.checkKey em (d+1) e (<-part e (a.map eF).toArray (j * (<-sizeOf e)))).run P w= .ok () w:=by
     intro d j o;have o:j < n:=by simpa using o
     have:=xg (P:=P) m (a.map eF).toArray (j * 1) (λ_=>b.1) (by simp [b.1,hl];omega) w;simp only [Xx,jU m,Xm,b.1,this,one d]
    have q:∀d,(Instr.checkKey em (d+2) k (dP true a)).run P w= .ok () w:=by intro d;have:=Kj (P:=P) (w:=w) _ (r d);rw [Instr.checkKey];simp only [dP,cond_true,Xx,run_underlying g,Xm];simp only [Std.Legacy.Range.forIn_eq_forIn_range',Std.Legacy.Range.size,Nat.sub_zero,Nat.add_one_sub_one,Nat.div_one];simp at this;simp [this]
    exact q 9998
   .cases f
  .cases f
 .cases f
theorem Hj{g:TypeId}{d:TypeDesc}(f:P.underlying g=some d)(k:Value):∀(es:List MapEntry) (j:Nat) (r:Option (Nat×Value)),Instr.findNow d k es j=some r->(Instr.findAsking g k es j).run P w= .ok r w
 | [],j,r,h=>by simp [Instr.findNow] at h;subst h;simp [Instr.findAsking]
 | e::es,j,r,h=>by
  have key:∀b,Instr.sameNow d k e.key=some b->(Op.equal g k e.key).run P w= .ok b w:=by
   intro b a;generalize e.key=ek at a⊢;have:∀n,(Op.equalIn (n+1) g k ek).run P w= .ok b w:=by
    intro n;unfold Instr.sameNow at a;split at a
    .split at a
     .rename_i i;simp only [W5] at a;subst a;subst i;simp [Op.equalIn,run_underlying f]
     .cases a
    .simp only [W5] at a;subst a;simp [Op.equalIn,run_underlying f]
    .simp only [W5] at a;subst a;simp [Op.equalIn,run_underlying f]
    .cases a
   exact this 9999
  simp only [Instr.findNow] at h;split at h
  .rename_i a;simp only [W5] at h;subst h;simp [Instr.findAsking,key _ a]
  .rename_i a;simp [Instr.findAsking,key _ a,Hj f k es (j+1) r h]
  .cases h
theorem tV{a:TypeId}{d:TypeDesc}(b:P.underlying a=some d)(k:Value)(es:List MapEntry)(r:Option (Nat×Value))(h:(Instr.findAsking a k es 0).run P w= .ok r w):(Instr.findKey a k es).run P w= .ok r w:=by
 unfold Instr.findKey;simp only [Xx,run_underlying b,Xm];cases e:Instr.findNow d k es 0 with
 | none=>simpa using h
 | some f=>have:=Hj (w:=w) b k es 0 f e;rw [this] at h;simpa using h
theorem Cv{k:TypeId}{q:Bool×List Ck}(h:mb P k=some q):∃d,P.underlying k=some d:=by
 unfold mb at h;split at h
 .exact⟨_,by assumption⟩
 .exact⟨_,by assumption⟩
 .exact⟨_,by assumption⟩
 .cases h
theorem CI{t:TypeId}{q:TypeId×TypeId}(h:uo P t=some q):P.underlying t=some (.map q.1 q.2):=by
 unfold uo at h;split at h
 .rename_i k e b;cases a:cB P k && cB P e
  .simp [a] at h
  .simp only [a,cond_true,W5] at h;subst h;exact b
 .cases h
theorem W2{t:TypeId}{z:T}(h:Eh P t=some z):∃v,(zeroValue t).run P w= .ok v w/\az w A z v:=by
 unfold Eh at h;split at h
 .rename_i i a;split at h
  .rename_i v b;refine⟨v, ?_,Jj h⟩;simp [zeroValue,typeInfo,run_program,a,b]
  .cases h
 .cases h
theorem CP{i:Id}{ag:Bool}{ks:List Ck}{vk:Ck}{es:List (List T×T)}(hs:HS c w s.h ρ O)(m:s.h i=some (.mp ag ks vk es)):∃b d a,ρ i=some (.map (some b))/\O i=some b/\w.heap[b]? =some (.map d a)/\
   d.toList.map (λe=>(e.key,e.val))=es.map (λp=>(dP ag p.1,eF p.2))/\(∀p∈es,cI ks p.1=true/\eQ vk p.2=true):=by
 obtain⟨b,d,a,f,g,j,k,l⟩:=hs.ah i _ m;exact⟨b,d,a,f,g,j,k,λp n=>by simpa using Xw.1 l p n⟩
theorem Hi{a:List T}:∀{es:List (List T×T)} {x:T},iw a es=some x->∃p∈es,p.2=x
 | [],x,h=>by simp [iw] at h
 | (k,v)::r,x,h=>by
  simp only [iw] at h;cases b:fi a k
  .rw [b,cond_false] at h;obtain⟨p,d,e⟩:=Hi h;exact⟨p,W8 _ d,e⟩
  .rw [b,cond_true] at h;simp only [W5] at h;exact⟨_,W7,h⟩
theorem QQ{R:Type}{t:TypeId}{x key:AV}{ok:Bool}{U vk:Value}{K:AV->Option R}{r:R}(hs:HS c w s.h ρ O)(m:an w (AA c w O) ρ x U)(G:an w (AA c w O) ρ key vk)(F:cc=none\/cc=some true)
  (h:oS P s cc t x key ok K=some r):∃H v,K H=some r/\(Instr.lookup t U vk ok).run P w= .ok v w/\an w (AA c w O) ρ H v:=by
 unfold oS at h;obtain⟨q,hq,h⟩:=W6.1 h;obtain⟨z,hz,h⟩:=W6.1 h;obtain⟨ag,ks,cs,h,g,o,rfl⟩:=Cu F G h;split at h
 .rename_i i;split at h
  .rename_i ag' ks' T es Y;split at h
   .rename_i l;obtain⟨rfl,rfl,hvk,B,_⟩:=l;obtain⟨b,a,V,g1,g2,I,X,J⟩:=CP hs Y;simp only [an] at m;rw [g1] at m;simp only [W5] at m;subst m;obtain⟨zv,Q,S⟩:=W2 (w:=w) (A:=AA c w O) hz;obtain⟨d,L⟩:=Cv g;have N:=CI hq;have n:=Be g o a.isEmpty w;rcases yL g o w a.toList es 0 X (λp Z=>(J p Z).1) with⟨E,k⟩ | ⟨j,y,e,p,E,k,f3,f4,f5,f6⟩
    .have f:=tV L _ _ _ E;rw [k] at h;simp only [aad,Option.isSome_none] at h;obtain⟨u,h,C,D⟩:=Aq F B S h;refine⟨_,cond ok (.tuple #[zv, .bool false]) zv,h, ?_, ?_⟩
     .cases ok <;> simp [Instr.lookup,run_underlying N,YQ I,n,f,Q]
     .have:az w (AA c w O) u zv:=by rw [D];exact zA C
      cases ok
      .simpa [an] using this
      .simp only [cond_true,an];exact⟨[zv, .bool false],rfl,by simp only [aD,an];exact⟨zv,[.bool false],rfl,this, .bool false,[],rfl,by simp [az],rfl⟩⟩
    .have f:=tV L _ _ _ E;rw [k] at h;simp only [YM,Option.isSome_some] at h;obtain⟨p',M,W⟩:=Hi k;have hy:eQ T y=true:=by rw [<-W];exact(J p' M).2
     obtain⟨u,h,C,D⟩:=Aq F B (zA (w:=w) (A:=AA c w O) hy) h;refine⟨_,cond ok (.tuple #[eF y, .bool true]) (eF y),h, ?_, ?_⟩
     .cases ok <;> simp [Instr.lookup,run_underlying N,YQ I,n,f]
     .have:az w (AA c w O) u (eF y):=by rw [D];exact zA C
      cases ok
      .simpa [an] using this
      .simp only [cond_true,an];exact⟨[eF y, .bool true],rfl,by simp only [aD,an];exact⟨eF y,[.bool true],rfl,this, .bool true,[],rfl,by simp [az],rfl⟩⟩
   .cases h
  .cases h
 .cases h
theorem MS(a:ByteArray):(a==a)=true:=by
 cases a with
 | mk x=>show(x==x)=true;simp
theorem KB{k:Ck}{x:T}(h:eQ k x=true)(n:Nat):Instr.sameBits n (eF x) (eF x)=true:=by cases x <;> cases k <;> simp [eQ] at h <;> cases n <;> simp [Instr.sameBits,eF,MS]
theorem UQ{ag:Bool}{ks:List Ck}(a:ag=false->ks.length=1){cs:List T}(h:cI ks cs=true)(n:Nat):Instr.sameBits (n+1) (dP ag cs) (dP ag cs)=true:=by
 cases ag with
 | false=>
  obtain⟨x,rfl,e⟩:=wA a h rfl;rw [e];cases ks with
  | nil=>simp [cI] at h
  | cons k ks=>simp only [cI,Xf] at h;exact KB h.1 _
 | true=>
  simp only [dP,cond_true,Instr.sameBits,beq_self_eq_true,XR];clear a;induction ks generalizing cs with
  | nil=>cases cs with
   | nil=>rfl
   | cons x cs=>simp [cI] at h
  | cons k ks b=>cases cs with
   | nil=>simp [cI] at h
   | cons x cs=>simp only [cI,Xf] at h;have:=b h.2;simp only [Xq,List.zip_cons_cons,Yp,KB h.1,XR];simpa using this
theorem Vd{ag:Bool}{ks:List Ck}(a:ag=false->ks.length=1){cs:List T}(h:cI ks cs=true):(Instr.keyThatStays (dP ag cs) (dP ag cs)).run P w= .ok (dP ag cs) w:=by unfold Instr.keyThatStays;have:Instr.sameBits 10000 (dP ag cs) (dP ag cs)=true:=UQ a h 9999;simp [this]
theorem JM{a:List T}{v:T}:∀{es:List (List T×T)},iw a es=none->jt a v es=es++ [(a,v)]
 | [],_=>rfl
 | (k,x)::r,h=>by
  simp only [iw] at h;cases b:fi a k
  .rw [b,cond_false] at h;simp [jt,b,JM h]
  .simp [b] at h
theorem JN{a:List T}{v:T}:∀{es:List (List T×T)} {i:Nat} {p:List T×T},es[i]? =some p->fi a p.1=true->(∀i' d,i' < i->es[i']? =some d->fi a d.1=false)->jt a v es=es.set i (a,v)
 | [],i,p,h,_,_=>by simp at h
 | (k,x)::r,0,p,h,b,_=>by simp at h;subst h;simp only at b;simp [jt,b]
 | (k,x)::r,i+1,p,h,b,e=>by have f:fi a k=false:=e 0 (k,x) (by omega) rfl;have:=JN (v:=v) (es:=r) (i:=i) (p:=p) (by simpa using h) b λi' d j g=>e (i'+1) d (by omega) (by simpa using g);simp [jt,f,this]
theorem C7{ks:List Ck}{vk:Ck}{a:List T}{v:T}(d:cI ks a=true)(e:eQ vk v=true):∀{es:List (List T×T)},(∀p∈es,cI ks p.1=true/\eQ vk p.2=true)->∀p∈jt a v es,cI ks p.1=true/\eQ vk p.2=true
 | [],_,p,b=>by simp [jt] at b;subst b;exact⟨d,e⟩
 | (k,x)::r,h,p,b=>by
  simp only [jt] at b;cases f:fi a k
  .rw [f,cond_false] at b;rcases Xl.1 b with rfl | b
   .exact h _ W7
   .exact C7 d e (λq g=>h q (W8 _ g)) p b
  .rw [f,cond_true] at b;rcases Xl.1 b with rfl | b
   .exact⟨d,e⟩
   .exact h p (W8 _ b)
theorem HS.Av{i:Id}{b:Nat}{f ents':Array MapEntry}{d clock':Nat}{ag:Bool}{ks:List Ck}{vk:Ck}{es':List (List T×T)}{j:Id->Option ad}(hs:HS c w j ρ O)(o:j i≠none)
  (g1:ρ i=some (.map (some b))) (g:O i=some b) (l:w.heap[b]? =some (.map f d)) (m:ents'.toList.map (λe=>(e.key,e.val))=es'.map (λp=>(dP ag p.1,eF p.2))) (n:∀p∈es',cI ks p.1=true/\eQ vk p.2=true):
  Le w ρ O {w with heap:=w.heap.setIfInBounds b (.map ents' clock')} ρ O/\HS c {w with heap:=w.heap.setIfInBounds b (.map ents' clock')} (aN j i (some (.mp ag ks vk es'))) ρ O:=by
 have a:∀k,k≠b->(w.heap.setIfInBounds b (.map ents' clock'))[k]? =w.heap[k]?:=λk q=>Go.ChangeMaps.heap_setBlock_other l _ q;have le:Le w ρ O {w with heap:=w.heap.setIfInBounds b (.map ents' clock')} ρ O:=Le.write g rfl rfl rfl (by simp) a;refine⟨le,hs.write g le a _ ?_ o⟩;exact⟨b,ents',clock',g1,g,Go.ChangeMaps.heap_setBlock_same l _,m,by rw [Xw];exact λp r=>by simpa using n p r⟩
theorem S6{R:Type}{t:TypeId}{x key v:AV}{vx vk vv:Value}{K:aK->Option R}{r:R}(hs:HS c w s.h ρ O)(F:an w (AA c w O) ρ x vx)(S:an w (AA c w O) ρ key vk)(U:an w (AA c w O) ρ v vv)
  (h:o7 P s t x key v K=some r):∃us w',K us=some r/\(Instr.mapUpdate t vx vk vv).run P w= .ok () w'/\Le w ρ O w' ρ O/\HS c w' (aR s.h us) ρ O:=by
 unfold o7 at h;obtain⟨q,hq,h⟩:=W6.1 h;obtain⟨ag,ks,cs,h,n,g,rfl⟩:=Cu (cc:=none) (.inl rfl) S h;split at h
 .rename_i i;split at h
  .rename_i f I J es Q;split at h
   .rename_i E;obtain⟨rfl,rfl,hvk,hsc⟩:=E;obtain⟨y,hy,h⟩:=W6.1 h;rw [AV.nf hy] at U;simp only [an] at U;obtain⟨u,h,W,X⟩:=Aq (cc:=none) (.inl rfl) hsc U h;obtain⟨b,a,l,g1,g2,o,C,D⟩:=CP hs Q;simp only [an] at F;rw [g1] at F;simp only [W5] at F;subst F;obtain⟨d,hd⟩:=Cv n;have hu:=CI hq;have G:=Be n g false w;have hag:=(Ik n).2;rcases yL n g w a.toList es 0 C (λp hp=>(D p hp).1) with⟨L,Y⟩ | ⟨j,y',e,p,L,Y,M,B,f5,f6⟩
    .have m:=tV hd _ _ _ L;obtain⟨le,z⟩:=HS.Av (ag:=f) (ks:=I) (vk:=J) (es':=jt cs u es) (ents':=a.push {key:=dP f cs,val:=vv,born:=l}) (clock':=l+1) hs (by rw [Q];simp) g1 g2 o
      (by rw [JM Y];simp [C,X]) (C7 g W D)
     refine⟨_,_,h, ?_,le,z⟩;simp [Instr.mapUpdate,run_underlying hu,YQ o,G,m,Zq _ o]
    .have m:=tV hd _ _ _ L;have hlt:j < es.length:=(W9.1 B).1;have hpk:p.1=cs:=(Ha g (D p (Xg B)).1 f5).symm;have hek:e.key=dP f cs:=by
      have N:(a.toList.map λe=>(e.key,e.val))[j]? =some (e.key,e.val):=by simp [XU,M]
      rw [C] at N;simp only [XU,B,YJ,W5,XP] at N;rw [<-N.1,hpk]
     have T:(a.modify j λe=>{e with key:=dP f cs,val:=vv}).toList.map (λe=>(e.key,e.val))= (jt cs u es).map (λp=>(dP f p.1,eF p.2)):=by
      rw [JN B f5 f6];refine Yz λk=> ?_;have H:(a.toList.map λe=>(e.key,e.val))[k]? = (es.map λp=>(dP f p.1,eF p.2))[k]?:=by rw [C]
      simp only [XU,Array.toList_modify,List.getElem?_modify,Yx] at H⊢;by_cases V:j=k
      .subst V;simp [M,hlt,X]
      .simp only [V,if_false];simpa using H
     obtain⟨le,z⟩:=HS.Av (ag:=f) (ks:=I) (vk:=J) (es':=jt cs u es) (ents':=a.modify j λe=>{e with key:=dP f cs,val:=vv}) (clock':=l) hs (by rw [Q];simp) g1 g2 o T (C7 g W D);refine⟨_,_,h, ?_,le,z⟩;have hst:=Vd (P:=P) (w:=w) hag g;have Z:a[j]? =some e:=by simpa using M
     rw [XF] at m;simp [Instr.mapUpdate,run_underlying hu,YQ o,G,m,Z,hek,hst,Zq _ o]
   .cases h
  .cases h
 .cases h
theorem Fx{a:List T}:∀{es:List (List T×T)},iw a es=none->mG a es=es
 | [],_=>rfl
 | p::es,h=>by
  unfold iw at h;unfold mG;cases b:fi a p.1 with
  | true=>rw [b] at h;simp at h
  | false=>rw [b] at h;simp only [cond_false] at h⊢;rw [Fx h]
theorem Fw{a:List T}:∀{es:List (List T×T)} {i:Nat} {p:List T×T},es[i]? =some p->fi a p.1=true->(∀i' b,i' < i->es[i']? =some b->fi a b.1=false)->mG a es=es.eraseIdx i
 | [],_,_,h,_,_=>by simp at h
 | q::es,0,p,h,d,_=>by simp only [XM,W5] at h;subst h;simp [mG,d]
 | q::es,i+1,p,h,d,e=>by have h0:=e 0 q (by omega) rfl;unfold mG;rw [h0,cond_false,Fw (by simpa using h) d (λi' b g f=>e (i'+1) b (by omega) (by simpa using f))];rfl
theorem CJ{a b:Type}(f:a->b):∀(l:List a) (i:Nat),(l.eraseIdx i).map f= (l.map f).eraseIdx i
 | [],_=>rfl
 | _::_,0=>rfl
 | x::l,i+1=>by simp only [List.eraseIdx_cons_succ,Xq,CJ f l i]
theorem Bl{a:List T}:∀{es:List (List T×T)},∀p∈mG a es,p∈es
 | [],p,h=>h
 | q::es,p,h=>by
  unfold mG at h;cases b:fi a q.1 with
  | true=>rw [b] at h;exact W8 _ h
  | false=>
   rw [b] at h;rcases Xl.1 h with rfl | h
   .exact W7
   .exact W8 _ (Bl p h)
theorem Nq{R:Type}{t ty tr:TypeId}{x key:AV}{T vk:Value}{K:aK->Option R}{r:R}(hs:HS c w s.h ρ O)(v:an w (AA c w O) ρ x T)(H:an w (AA c w O) ρ key vk)
  (h:oE P s t x key K=some r):∃us w',K us=some r/\(Builtin.delete_ #[t,ty] tr #[T,vk]).run P w= .ok (.tuple #[]) w'/\Le w ρ O w' ρ O/\HS c w' (aR s.h us) ρ O:=by
 unfold oE at h;obtain⟨q,X,h⟩:=W6.1 h;obtain⟨ag,ks,cs,h,l,B,rfl⟩:=Cu (cc:=none) (.inl rfl) H h;split at h
 .rename_i i;split at h
  .rename_i y C D es G;split at h
   .rename_i u;obtain⟨rfl,rfl⟩:=u;obtain⟨b,a,f,g1,L,k,o,F⟩:=CP hs G;simp only [an] at v;rw [g1] at v;simp only [W5] at v;subst v;obtain⟨d,M⟩:=Cv l;have S:=CI X;have z:=Be l B a.isEmpty w;rcases yL l B w a.toList es 0 o (λp m=>(F p m).1) with⟨E,I⟩ | ⟨j,Z,e,p,E,I,Y,J,U,V⟩
    .have g:=tV M _ _ _ E;obtain⟨le,n⟩:=HS.Av (ag:=y) (ks:=C) (vk:=D) (es':=mG cs es) (ents':=a) (clock':=f) hs (by rw [G];simp) g1 L k (by rw [Fx I];exact o) (λp m=>F p (Bl p m));refine⟨_,_,h, ?_,le,n⟩;simp [Builtin.delete_,run_underlying S,YQ k,z,g,Zq _ k]
    .have g:=tV M _ _ _ E;have Q:j < es.length:=(W9.1 J).1;have N:a.toList.length=es.length:=by simpa using congrArg List.length o
     have W:j < a.size:=by rw [<-XE,N];exact Q
     obtain⟨le,n⟩:=HS.Av (ag:=y) (ks:=C) (vk:=D) (es':=mG cs es) (ents':=a.eraseIdxIfInBounds j) (clock':=f) hs (by rw [G];simp) g1 L k (by
       rw [Fw J U V,CJ,<-o,<-CJ];simp only [Array.eraseIdxIfInBounds,W,dif_pos,Array.toList_eraseIdx]) (λp m=>F p (Bl p m))
     refine⟨_,_,h, ?_,le,n⟩;rw [XF] at g;simp [Builtin.delete_,run_underlying S,YQ k,z,g,Zq _ k]
   .cases h
  .cases h
 .cases h
theorem QV{R:Type}{d:Nat}{t:TypeId}{K:AV->aK->Option R}{r:R}(hs:HS c w s.h ρ O)(h:um P d t K=some r):
  ∃v us,K v us=some r/\(jr d s.h us=true->∃u w' ρ' O',(Instr.makeMap t none).run P w= .ok u w'/\Le w ρ O w' ρ' O'/\HS c w' (aR s.h us) ρ' O'/\an w' (AA c w' O') ρ' v u):=by
 unfold um at h;obtain⟨q,g,h⟩:=W6.1 h;obtain⟨p,f,h⟩:=W6.1 h;split at h
 .rename_i e;refine⟨_,_,h,λa=> ?_⟩;have a:=jN a W7;have le:=Le.alloc hs (i:= .s d 0) rfl a (.map #[] 0) (.map (some w.heap.size)) (some w.heap.size) (.inr rfl);have b:=hs.alloc (i:= .s d 0) rfl a (.map #[] 0) (.map (some w.heap.size)) (some w.heap.size) (.inr rfl) (.mp p.1 p.2 (mD P q.2) []) ⟨w.heap.size,#[],0,by simp,by simp,l8 _,by simp,by simp⟩;refine⟨.map (some w.heap.size),_,_,_,rfl,le,by rw [eG];exact b, ?_⟩;simp only [an];rw [aH]
 .refine⟨_,_,h,λa=> ?_⟩;have a:=jN a W7;have le:=Le.alloc hs (i:= .s d 0) rfl a (.map #[] 0) (.map (some w.heap.size)) none (.inl rfl);have b:=hs.alloc (i:= .s d 0) rfl a (.map #[] 0) (.map (some w.heap.size)) none (.inl rfl) .dead ⟨⟨_,aH _ _ _,rfl,rfl⟩,aH _ _ _⟩;refine⟨.map (some w.heap.size),_,_,_,rfl,le,by rw [eG];exact b, ?_⟩;simp only [an,az];exact⟨rfl,rfl⟩
end
end Go.Aev
