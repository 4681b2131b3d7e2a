import Derived.Test.YtcjplcpngagalaaDoorBlastRoundQ2
import Derived.MapKept
import Derived.ChangeMaps5
set_option linter.all false
namespace Go.Aev
open Go Go.IntKind
section
variable {P:Program} {w w':World} {A A':Nat->Prop} {c:Ctx} {ρ:Id->Option Value} {O:Id->Option Nat} {s:St} {cc:Option Bool} {h:Id->Option ad}
def hI(ρ:Id->Option Value)(i i':Id)(a:Nat)(v vk:Value):Id->Option Value:=λx=>
 if x=i' then some v else match x with
  | .g y n=>if y=i' then(if n=a then some vk else ρ (.g i n)) else ρ (.g y n)
  | x=>ρ x
def eI(O:Id->Option Nat)(i i' j src:Id)(a:Nat)(ob:Option Nat):Id->Option Nat:=λx=>
 if x=i' then ob else if x=i\/x=j\/x=src then none else match x with
  | .g y n=>if y=i' then(if n=a then O src else O (.g i n)) else if y=i then none else O (.g y n)
  | x=>O x
def sV(i i' j src:Id)(a:Nat):Id->Option Id:=λx=>
 if x=i' then some i else if x=i\/x=j\/x=src then none else match x with
  | .g y n=>if y=i' then(if n=a then some src else some (.g i n)) else if y=i then none else some (.g y n)
  | x=>some x
def mz(i i' src:Id)(a:Nat):Id->Id:=λz=>
 if z=i then i' else if z=src then .g i' a else match z with
  | .g y n=>if y=i then .g i' n else .g y n
  | z=>z
theorem vL{i i' j src:Id}{q:Nat}(p:src≠i)(o:∀n,src≠ .g i n)(m:i.real=true){x z:Id}(b:sV i i' j src q x=some z):mz i i' src q z=x:=by
 unfold sV at b;split at b
 .rename_i h;simp only [Qy] at b;subst b;unfold mz;rw [if_pos rfl,h]
 .rename_i t;split at b
  .cases b
  .rename_i l;have f:x≠i:=λe=>l (.inl e);have k:x≠src:=λe=>l (.inr (.inr e));cases x with
   | g y n=>
    dsimp only at b;split at b
    .rename_i e;subst e;split at b
     .rename_i r;simp only [Qy] at b;subst b;unfold mz;rw [if_neg p,if_pos rfl,r]
     .simp only [Qy] at b;subst b;unfold mz;rw [if_neg (aO m),if_neg (λe=>o n e.symm)];simp
    .split at b
     .cases b
     .rename_i e3;simp only [Qy] at b;subst b;unfold mz;rw [if_neg f,if_neg k];simp [e3]
   | c a=>simp only [Qy] at b;subst b;unfold mz;rw [if_neg f,if_neg k]
   | s d a=>simp only [Qy] at b;subst b;unfold mz;rw [if_neg f,if_neg k]
theorem NL{i i' j src:Id}{l:Nat}{ob:Option Nat}{x:Id}{d:Nat}(b:eI O i i' j src l ob x=some d):(x=i'/\ob=some d)\/(x≠i'/\∃z,sV i i' j src l x=some z/\O z=some d):=by
 unfold eI at b;unfold sV;split at b
 .exact .inl ⟨by assumption,b⟩
 .rename_i k;right;refine⟨k, ?_⟩;rw [if_neg k];split at b
  .cases b
  .rename_i m;rw [if_neg m];cases x with
   | g y n=>
    dsimp only at b⊢;split at b
    .rename_i e;rw [if_pos e];split at b
     .rename_i f;rw [if_pos f];exact⟨_,rfl,b⟩
     .rename_i f;rw [if_neg f];exact⟨_,rfl,b⟩
    .rename_i e;rw [if_neg e];split at b
     .cases b
     .rename_i e3;rw [if_neg e3];exact⟨_,rfl,b⟩
   | c a=>exact⟨_,rfl,b⟩
   | s d a=>exact⟨_,rfl,b⟩
theorem HS.Fp{i i' j src s0:Id}{b:Bool}{sz col rsz C:Nat}{es:List Row}{l:List T}{bb:Bool}{xs:List (List T)}{vk:Value}{X:ad}{af blk' off off' cap':Nat}{U:Array Value}{t':TypeId}{ob:Option Nat}{news:List Value}
  (hs:HS c w h ρ O) (hi:h i=some (.rows b sz col rsz C es)) (K:h i'=none) (hrl:i'.real=true) (hj:h j≠none) (hji:j≠i) (hs0:h s0≠none) (hs0i:s0≠i) (hs0j:s0≠j)
  (B:src=s0\/∃n,src= .g s0 n) (hvk:ρ src=some vk) (hsl:cI w (AA c w O) rsz bb xs vk (λd=>O src=some d))
  (hos:w'.os=w.os) (ho:w'.output=w.output) (htp:w'.tape=w.tape) (hsz:w.heap.size<=w'.heap.size) (hkeep:∀k,k < w.heap.size->O i≠some k->w'.heap[k]? =w.heap[k]?)
  (hob:ob=O i\/(ob=some w.heap.size/\w.heap.size < w'.heap.size)) (hobs:ob=some blk') (hb:w'.heap[blk']? =some (.cells U t' (0,0))) (hfit:off'+cap' * sz<=U.size) (hcap:es.length+1<=cap')
  (hrows:cq w (AA c w O) ρ O i af sz col rsz off es) (hold:∀p,p < es.length * sz->w'.cell? ⟨blk',off'+p,none⟩=w.cell? ⟨af,off+p,none⟩)
  (hcol:col < sz) (hl:l.length=sz) (hnew:∀p v,news[p]? =some v->w'.cell? ⟨blk',off'+es.length * sz+p,none⟩=some v) (hnr:∀m x,m≠col->l[m]? =some x->∃v,news[m]? =some v/\ay w (AA c w O) x v) (hnk:news[col]? =some vk)
  (hX:(∀b,AA c w O b->AA c w' (eI O i i' j src C ob) b/\w'.heap[b]? =w.heap[b]?)->cP w' (AA c w' (eI O i i' j src C ob)) (hI ρ i i' C (.slice (some ⟨blk',off',none⟩) (es.length+1) cap') vk) (eI O i i' j src C ob) s0 X):
  Le w ρ O w' (hI ρ i i' C (.slice (some ⟨blk',off',none⟩) (es.length+1) cap') vk) (eI O i i' j src C ob)/\
  HS c w' (aG (aG (aG (aG h i (some .dead)) j (some .dead)) s0 (some X)) i' (some (.rows false sz col rsz (C+1) (es++ [⟨C,l,some (bb,xs)⟩])))) (hI ρ i i' C (.slice (some ⟨blk',off',none⟩) (es.length+1) cap') vk) (eI O i i' j src C ob):=by
 have D:=hs.real (i:=i) (by rw [hi];simp);have R:=hs.real hj;have N:=hs.real hs0;have hii:i'≠i:=λe=>by rw [e,hi] at K;cases K
 have hij:i'≠j:=λe=>hj (e▸K);have hi0:i'≠s0:=λe=>hs0 (e▸K);have S:src≠i:=by
  rcases B with rfl | ⟨n,rfl⟩
  .exact hs0i
  .exact aO D
 have hsj:src≠j:=by
  rcases B with rfl | ⟨n,rfl⟩
  .exact hs0j
  .exact aO R
 have hsi':src≠i':=by
  rcases B with rfl | ⟨n,rfl⟩
  .exact hi0.symm
  .exact aO hrl
 have hsg:∀n,src≠ .g i n:=by
  intro n;rcases B with rfl | ⟨m,rfl⟩
  .exact(aO N).symm
  .intro e;simp only [Id.g.injEq] at e;exact hs0i e.1
 have hsg':∀n,src≠ .g i' n:=by
  intro n;rcases B with rfl | ⟨m,rfl⟩
  .exact(aO N).symm
  .intro e;simp only [Id.g.injEq] at e;exact hi0 e.1.symm
 obtain⟨a,cap,r1,r2,r3,⟨n1,n2,n3,n4⟩,r5⟩:=hs.af i _ hi;obtain⟨V,hV⟩:∃V,V=hI ρ i i' C (.slice (some ⟨blk',off',none⟩) (es.length+1) cap') vk:=⟨_,rfl⟩;obtain⟨Q,W⟩:∃Q,Q=eI O i i' j src C ob:=⟨_,rfl⟩;rw [<-hV,<-W] at hX⊢;have V1:V i'=some (.slice (some ⟨blk',off',none⟩) (es.length+1) cap'):=by rw [hV];unfold hI;rw [if_pos rfl]
 have V2:∀x,x.real=true->x≠i'->V x=ρ x:=by
  intro x H o;rw [hV];unfold hI;rw [if_neg o];cases x with
  | g y n=>cases H
  | _=>rfl
 have V3:∀y n,y≠i'->V (.g y n)=ρ (.g y n):=by intro y n M;rw [hV];unfold hI;rw [if_neg (aO hrl)];simp only [if_neg M]
 have V4:∀n,V (.g i' n)=if n=C then some vk else ρ (.g i n):=by intro n;rw [hV];unfold hI;rw [if_neg (aO hrl)];simp
 have Q1:Q i'=ob:=by rw [W];unfold eI;rw [if_pos rfl]
 have Q0:∀x,x≠i'->(x=i\/x=j\/x=src)->Q x=none:=by intro x o E;rw [W];unfold eI;rw [if_neg o,if_pos E]
 have Q2:∀x,x.real=true->x≠i'->x≠i->x≠j->x≠src->Q x=O x:=by
  intro x H o q E h3;rw [W];unfold eI;rw [if_neg o,if_neg (by rintro(h | h | h) <;> contradiction)];cases x with
  | g y n=>cases H
  | _=>rfl
 have Q3:∀y n,y≠i'->y≠i->Id.g y n≠src->Q (.g y n)=O (.g y n):=by intro y n M hy2 h3;rw [W];unfold eI;rw [if_neg (aO hrl),if_neg (by rintro(h | h | h);exact aO D h;exact aO R h;exact h3 h)];simp only [if_neg M,if_neg hy2]
 have Q4:∀n,Q (.g i' n)=if n=C then O src else O (.g i n):=by intro n;rw [W];unfold eI;rw [if_neg (aO hrl),if_neg (by rintro(h | h | h);exact aO D h;exact aO R h;exact hsg' n h.symm)];simp
 have Z:∀x d,Q x=some d->(x=i'/\ob=some d)\/(x≠i'/\∃z,sV i i' j src C x=some z/\O z=some d):=λx d o=>NL (by rw [<-W];exact o);have le:Le w ρ O w' V Q:=by
  refine⟨hos,ho,htp,hsz,λx u o=> ?_,λd t hn=>hkeep d t (hn i),λx d o=> ?_⟩
  .cases H:x.real with
   | true=>
    have:x≠i':=λe=>by rw [e,(hs.cw i' hrl K).1] at o;cases o
    rw [V2 x H this];exact o
   | false=>
    cases x with
    | g y n=>
     have:y≠i':=λe=>by rw [e,(hs.fm i' n K).1] at o;cases o
     rw [V3 y n this];exact o
    | _=>cases H
  .rcases Z x d o with⟨_,q⟩ | ⟨_,z,_,E⟩
   .rcases hob with e | ⟨e,_⟩
    .exact .inl ⟨i,by rw [<-e];exact q⟩
    .rw [e] at q;cases q;exact .inr (QV _)
   .exact .inl ⟨z,E⟩
 have hA:∀d,AA c w O d->AA c w' Q d/\w'.heap[d]? =w.heap[d]?:=λd t=>le.A d t;have G:∀x d,x≠i->O x=some d->w'.heap[d]? =w.heap[d]?:=λx d o t=>hkeep d (hs.lt x d t) λe=>o (hs.inj x i d t e);refine⟨le,hs.nv le (λx y o=> ?_) (λx H o=> ?_) (λx n=> ?_) (λx n o=> ?_) (λx n u J=> ?_) (λx y d o M=> ?_) (λx d o=> ?_)⟩
 .by_cases L:x=i'
  .subst L;rw [aA] at o;cases o;right;have hlen:(es++ [(⟨C,l,some (bb,xs)⟩:Row)]).length=es.length+1:=by simp
   refine⟨some ⟨blk',off',none⟩,cap',by rw [hlen];exact V1,by rw [hlen];exact hcap,by simp,⟨?_,λf F=> ?_,λn hn=> ?_,λn d t=> ?_⟩, .inr ⟨blk',off',U,t',rfl,by rw [Q1];exact hobs,hb,hfit,cq.append ?_ ⟨?_,trivial⟩⟩⟩
   .rw [SD,R5];refine⟨n1,by simp,λa ha b hb=> ?_⟩;simp only [Rc,Rz,QL] at hb;obtain⟨f,F,e⟩:=Rb.1 ha;have:=n2 f F;omega
   .rcases QR.1 F with F | F
    .have:=n2 f F;omega
    .simp only [QL] at F;subst F;simp
   .rw [V4,if_neg (by omega)];exact n3 n (by omega)
   .rw [Q4] at t;by_cases en:n=C
    .exact⟨_,QP _ (QL.2 rfl),en.symm⟩
    .rw [if_neg en] at t;obtain⟨f,F,hfn⟩:=n4 n d t;exact⟨f,QQ _ F,hfn⟩
   .refine cq.move hA hold (λf F=> ?_) hrows;have r:f.n≠C:=by have:=n2 f F;omega
    exact⟨by rw [V4,if_neg r],by rw [Q4,if_neg r],λd t=>G _ d (aO D) t⟩
   .refine⟨hl,hcol,λm y hm M=> ?_,vk,hnew col vk hnk,by rw [V4];simp, ?_⟩
    .obtain⟨v,g1,g2⟩:=hnr m y hm M;exact⟨v,hnew m v g1,ay.mono hA y v g2⟩
    .simp only;refine cI.mono hA (λd t=> ?_) hsl;rw [Q4];exact⟨by simpa using t,G src d S t⟩
  .rw [au _ _ L] at o;by_cases e2:x=s0
   .subst e2;rw [aA] at o;cases o;exact .inr (hX hA)
   .rw [au _ _ e2] at o;by_cases e3:x=j
    .subst e3;rw [aA] at o;cases o;obtain⟨y,M⟩:=SZ.1 hj;have:∃u,ρ x=some u:=by
      cases I:ρ x with
      | some u=>exact⟨u,rfl⟩
      | none=>
       exfalso;have:=hs.af x y M;cases y with
       | box cs=>obtain⟨b,_,_,q,_⟩:=this;rw [I] at q;cases q
       | sl fz sz b xs=>obtain⟨v,q,_⟩:=this;rw [I] at q;cases q
       | cO l=>obtain⟨b,q,_⟩:=this;rw [I] at q;cases q
       | mp ag ks vk es=>obtain⟨b,_,_,q,_⟩:=this;rw [I] at q;cases q
       | arr cs=>obtain⟨b,_,_,q,_⟩:=this;rw [I] at q;cases q
       | rows _ _ _ _ _ _=>obtain⟨_,_,q,_⟩:=this;rw [I] at q;cases q
       | dead=>obtain⟨⟨v,q,_⟩,_⟩:=this;rw [I] at q;cases q
     obtain⟨u,J⟩:=this;exact .inr ⟨⟨u,by rw [V2 x R L];exact J,jD hs J⟩,Q0 x L (.inr (.inl rfl))⟩
    .rw [au _ _ e3] at o;by_cases e4:x=i
     .subst e4;rw [aA] at o;cases o;exact .inr ⟨⟨_,by rw [V2 x D L];exact r1,rfl,rfl⟩,Q0 x L (.inl rfl)⟩
     .rw [au _ _ e4] at o;have hrx:=hs.real (i:=x) (by rw [o];simp);have e5:x≠src:=by
       rcases B with rfl | ⟨n,rfl⟩
       .exact e2
       .exact(aO hrx).symm
      refine .inl ⟨o,Q2 x hrx L e4 e3 e5,λd t=>G x d e4 t,λn=>⟨V3 x n L,Q3 x n L e4 ?_,λd t=>G _ d (aO D) t⟩⟩;rcases B with rfl | ⟨m,rfl⟩
      .exact aO N
      .intro e;simp only [Id.g.injEq] at e;exact e2 e.1
 .have r:x≠i':=λe=>by rw [e,aA] at o;cases o
  rw [au _ _ r] at o;have h0:x≠s0:=λe=>by rw [e,aA] at o;cases o
  rw [au _ _ h0] at o;have q:x≠j:=λe=>by rw [e,aA] at o;cases o
  rw [au _ _ q] at o;have E:x≠i:=λe=>by rw [e,aA] at o;cases o
  rw [au _ _ E] at o;have h5:x≠src:=by
   rcases B with rfl | ⟨n,rfl⟩
   .exact h0
   .exact(aO H).symm
  rw [V2 x H r,Q2 x H r E q h5];exact hs.cw x H o
 .rw [au _ _ (aO hrl),au _ _ (aO N),au _ _ (aO R),au _ _ (aO D)];exact hs.dG x n
 .have r:x≠i':=λe=>by rw [e,aA] at o;cases o
  rw [au _ _ r] at o;have h0:x≠s0:=λe=>by rw [e,aA] at o;cases o
  rw [au _ _ h0] at o;have q:x≠j:=λe=>by rw [e,aA] at o;cases o
  rw [au _ _ q] at o;have E:x≠i:=λe=>by rw [e,aA] at o;cases o
  rw [au _ _ E] at o;have h5:Id.g x n≠src:=by
   rcases B with rfl | ⟨m,rfl⟩
   .exact aO N
   .intro e;simp only [Id.g.injEq] at e;exact h0 e.1
  rw [V3 x n r,Q3 x n r E h5];exact hs.fm x n o
 .by_cases r:x=i'
  .subst r;rw [V4] at J;split at J
   .simp only [Qy] at J;subst J;exact jD hs hvk
   .exact hs.gone i n u J
  .rw [V3 x n r] at J;exact hs.gone x n u J
 .rcases Z x d o with⟨x1,x2⟩ | ⟨x1,z,x2,x3⟩ <;> rcases Z y d M with⟨y1,Y⟩ | ⟨y1,z',Y,y3⟩
  .rw [x1,y1]
  .rcases hob with e | ⟨e,_⟩
   .rw [e] at x2;have:=hs.inj i z' d x2 y3;subst this;have:=vL S hsg D Y;unfold mz at this;rw [if_pos rfl] at this;rw [x1];exact this
   .rw [e] at x2;cases x2;exact absurd (hs.lt _ _ y3) (R0 _)
  .rcases hob with e | ⟨e,_⟩
   .rw [e] at Y;have:=hs.inj i z d Y x3;subst this;have:=vL S hsg D x2;unfold mz at this;rw [if_pos rfl] at this;rw [y1];exact this.symm
   .rw [e] at Y;cases Y;exact absurd (hs.lt _ _ x3) (R0 _)
  .have:=hs.inj z z' d x3 y3;subst this;rw [<-vL S hsg D x2,<-vL S hsg D Y]
 .rcases Z x d o with⟨_,q⟩ | ⟨_,z,_,E⟩
  .rcases hob with e | ⟨e,e2⟩
   .rw [e] at q;have:=hs.lt i d q;omega
   .rw [e] at q;cases q;exact e2
  .have:=hs.lt z d E;omega
end
open Go Go.IntKind
section
variable {P:Program} {w w':World} {A A':Nat->Prop} {c:Ctx} {ρ:Id->Option Value} {O:Id->Option Nat} {s:St} {cc:Option Bool} {h:Id->Option ad}
theorem HS.move{i i':Id}(hs:HS c w h ρ O)(F:h i≠none)(C:h i'=none)(v:Value)(o:Option Nat)(M:w'.os=w.os)(ho:w'.output=w.output)(Q:w'.tape=w.tape)(N:w.heap.size<=w'.heap.size)
  (q:∀k,k < w.heap.size->O i≠some k->w'.heap[k]? =w.heap[k]?) (y:o=none\/o=O i\/(o=some w.heap.size/\w.heap.size < w'.heap.size)) (x:ad)
  (V:cP w' (AA c w' (aG (aG O i none) i' o)) (aG ρ i' (some v)) (aG (aG O i none) i' o) i' x) (hrl:i'.real=true:=by rfl):
  Le w ρ O w' (aG ρ i' (some v)) (aG (aG O i none) i' o)/\HS c w' (aG (aG h i' (some x)) i (some .dead)) (aG ρ i' (some v)) (aG (aG O i none) i' o):=by
 have D:i≠i':=λe=>F (e▸C);have R:∀b,o=some b->b < w'.heap.size:=by
  intro b m;rcases y with e | e | ⟨e,f⟩
  .rw [e] at m;cases m
  .rw [e] at m;have:=hs.lt i b m;omega
  .rw [e] at m;cases m;exact f
 have le:Le w ρ O w' (aG ρ i' (some v)) (aG (aG O i none) i' o):=by
  refine⟨M,ho,Q,N,λj u a=> ?_,λb m U=>q b m (U i),λj b a=> ?_⟩
  .by_cases e:j=i'
   .subst e;rw [(hs.cw _ hrl C).1] at a;cases a
   .rw [au _ _ e];exact a
  .by_cases e:j=i'
   .subst e;rw [aA] at a;rcases y with e | e | ⟨e,_⟩
    .rw [e] at a;cases a
    .rw [e] at a;exact .inl ⟨i,a⟩
    .rw [e] at a;cases a;exact .inr (QV _)
   .rw [au _ _ e] at a;by_cases f:j=i
    .subst f;rw [aA] at a;cases a
    .rw [au _ _ f] at a;exact .inl ⟨j,a⟩
 have z:=hs.real F;have S:GK w ρ O w' (aG ρ i' (some v)) (aG (aG O i none) i' o):=λj n=>⟨au _ _ (aO hrl),by rw [au _ _ (aO hrl),au _ _ (aO z)],λb m=>q b (hs.lt _ b m) λe=>aO z (hs.inj _ i b m e)⟩;refine⟨le,hs.go le S (λj W a=> ?_) (λj L a=> ?_) (λj a=> ?_) (λj n=>by rw [au _ _ (aO z),au _ _ (aO hrl)];exact hs.dG j n) (λj k d a G=> ?_) (λj d a=> ?_)⟩
 .by_cases e:j=i
  .subst e;rw [aA] at a;cases a;right;obtain⟨b,m⟩:=SZ.1 F;have H:∃u,ρ j=some u/\u.oneCell'=true/\u.cells= #[u]:=by
    cases p:ρ j with
    | none=>
     exfalso;have:=hs.af j b m;cases b with
     | box cs=>obtain⟨b,_,_,g,_⟩:=this;rw [p] at g;cases g
     | sl fz sz b xs=>obtain⟨v,g,_⟩:=this;rw [p] at g;cases g
     | cO l=>obtain⟨b,g,_⟩:=this;rw [p] at g;cases g
     | mp ag ks vk es=>obtain⟨b,_,_,g,_⟩:=this;rw [p] at g;cases g
     | arr cs=>obtain⟨b,_,_,g,_⟩:=this;rw [p] at g;cases g
     | rows _ _ _ _ _ _=>obtain⟨_,_,g,_⟩:=this;rw [p] at g;cases g
     | dead=>obtain⟨⟨v,g,_⟩,_⟩:=this;rw [p] at g;cases g
    | some u=>exact⟨u,rfl,jD hs p⟩
   obtain⟨u,g,T⟩:=H;exact⟨⟨u,by rw [au _ _ D];exact g,T⟩,by rw [au _ _ D,aA]⟩
  .rw [au _ _ e] at a;by_cases f:j=i'
   .subst f;rw [aA] at a;cases a;exact .inr V
   .rw [au _ _ f] at a;refine .inl ⟨a,by rw [au _ _ f,au _ _ e],λaf t=>q af (hs.lt j af t) (λho=>e (hs.inj j i af t ho))⟩
 .by_cases e:j=i
  .subst e;rw [aA] at a;cases a
  .rw [au _ _ e] at a;by_cases f:j=i'
   .subst f;rw [aA] at a;cases a
   .rw [au _ _ f] at a;rw [au _ _ f,au _ _ f,au _ _ e];exact hs.cw j L a
 .by_cases e:j=i
  .subst e;rw [aA] at a;cases a
  .rw [au _ _ e] at a;by_cases f:j=i'
   .subst f;rw [aA] at a;cases a
   .rw [au _ _ f] at a;exact a
 .have B:∀j b,aG (aG O i none) i' o j=some b->(j=i'/\o=some b)\/(j≠i'/\j≠i/\O j=some b):=by
   intro j b a;by_cases e:j=i'
   .subst e;rw [aA] at a;exact .inl ⟨rfl,a⟩
   .rw [au _ _ e] at a;by_cases f:j=i
    .subst f;rw [aA] at a;cases a
    .rw [au _ _ f] at a;exact .inr ⟨e,f,a⟩
  have r:∀k b,o=some b->k≠i->O k=some b->False:=by
   intro k b m G ho;rcases y with e | e | ⟨e,_⟩
   .rw [e] at m;cases m
   .rw [e] at m;exact G (hs.inj k i b ho m)
   .rw [e] at m;cases m;exact R0 _ (hs.lt k _ ho)
  rcases B j d a with⟨I,f⟩ | ⟨I,f,e3⟩ <;> rcases B k d G with⟨J,E⟩ | ⟨J,E,K⟩
  .rw [I,J]
  .exact(r k d f E K).elim
  .exact(r j d E f e3).elim
  .exact hs.inj j k d e3 K
 .by_cases e:j=i'
  .subst e;rw [aA] at a;exact R d a
  .rw [au _ _ e] at a;by_cases f:j=i
   .subst f;rw [aA] at a;cases a
   .rw [au _ _ f] at a;have:=hs.lt j d a;omega
theorem Gm{v:AV}{x:T}{u:Value}{sz:Nat}{p:Bool×List (List T)}(hs:HS c w h ρ O)(f:ai w (AA c w O) ρ v u)(d:dv h v=some x)(H:x.an sz=some p):
  (p.2= []/\(u= .slice none 0 0\/∃a cap,u= .slice (some a) 0 cap))\/∃af off cap,u= .slice (some ⟨af,off,none⟩) p.2.length cap/\bd w (AA c w O) af sz off p.2:=by
 have j:ay w (λ_=>True) x u:=lX hs f d (λ_ _=>trivial) (λ_ _ _ _=>trivial);have bp:p.2= []->(u= .slice none 0 0\/∃a cap,u= .slice (some a) 0 cap):=by
  intro e;rcases T.oZ H with rfl | ⟨rfl,_⟩
  .simp only [ay] at j;rcases j with⟨_,_,rfl⟩ | ⟨_,af,off,sp,cap,rfl,_⟩
   .exact .inl rfl
   .rw [e];exact .inr ⟨_,_,rfl⟩
  .simp only [ay] at j;rcases j with⟨_,rfl⟩ | ⟨_,af,off,sp,rfl⟩
   .exact .inl rfl
   .exact .inr ⟨_,_,rfl⟩
 by_cases e:p.2= []
 .exact .inl ⟨e,bp e⟩
 right;have R:x= .ab sz p.1 p.2:=by
  rcases T.oZ H with h | ⟨_,h⟩
  .exact h
  .exact absurd h e
 subst R;cases v <;> simp only [dv,reduceCtorEq,Qy] at d
 case t y=>
  subst d;simp only [ai,ay] at f;rcases f with⟨_,h,_⟩ | ⟨_,af,off,sp,cap,rfl,_,B,g⟩
  .exact absurd h e
  .rcases B with B | ⟨rfl,_⟩
   .exact absurd B e
   exact⟨af,off,cap,rfl,g⟩
 case own i=>
  split at d
  .rename_i fz r b xs D;simp only [Qy,T.ab.injEq] at d;obtain⟨rfl,rfl,rfl⟩:=d;obtain⟨Z,C,a,cap,q,S,U,V,m⟩:=mH hs D;simp only [ai] at f;rw [C] at f;simp only [Qy] at f;subst f;subst q;rcases m with m | ⟨af,off,arr,t,F,W,X,Y,k⟩
   .exact absurd (Q7.1 (by omega)) e
   .subst F;exact⟨af,off,cap,rfl,k⟩
  .simp at d
 case ref i off=>
  split at d
  .obtain⟨l,_,d⟩:=Qz.1 d;simp at d
  .simp at d
  .simp at d
 case part i sz1 off n=>
  split at d
  .rename_i fz r b xs D;split at d
   .rename_i I;subst I;simp only [Qy,T.ab.injEq] at d;obtain⟨rfl,rfl,J⟩:=d;obtain⟨Z,C,a,cap,q,S,U,V,m⟩:=mH hs D;simp only [ai] at f;obtain⟨a1,L,M,K,z,e2,e3,rfl,N⟩:=f;rw [C] at z;simp only [Qy] at z;subst z;simp only [RF] at q;obtain⟨rfl,rfl,rfl⟩:=q;have E:((xs.drop off).take n).length=n:=by simp only [Rw,RM];omega
    rw [<-J] at e⊢;have hn:n≠0:=λh=>e (by rw [h];rfl);rcases m with m | ⟨af,off',arr,t,F,W,X,Y,k⟩
    .omega
    .subst F;have ea:K=some ⟨af,off'+off * r,none⟩:=by
      rcases N with⟨rfl,rfl⟩ | ⟨rfl,_⟩ | ⟨b',o,G,Q⟩
      .simp
      .omega
      .simp only [Qy,RA] at G;obtain⟨rfl,rfl,_⟩:=G;exact Q
     subst ea;exact⟨af,_,_,by rw [E],(k.drop off).take n⟩
   .simp at d
  .simp at d
theorem N8{t l ty e:TypeId}{i:TypeInfo}(q:P.underlying t=some (.slice e))(p:P.info? e=some i){b off a d:Nat}{arr:Array Value}{k:TypeId}(m:w.heap[b]? =some (.cells arr k (0,0))){x:Value}{n:Nat}{news:List Value}
  (hs:Src P i.size l x n news w) (f:a+n<=d) (o:off+d * i.size<=arr.size):
  (Builtin.append_ #[t,l] ty #[.slice (some ⟨b,off,none⟩) a d,x]).run P w= .ok (.slice (some ⟨b,off,none⟩) (a+n) d) (w.setRow b (cm (off+a * i.size) news arr.toList).toArray):=by
 have hl:=hs.newsLen;have hm:(a+n) * i.size<=d * i.size:=Rx _ f;have e:(a+n) * i.size=a * i.size+n * i.size:=So _ _ _;have g:=run_storeCells_at P b (off+a * i.size) k news 0 arr w m (by omega) hs.one;simp only [SK] at g;rcases hs.kind with⟨e',j⟩ | j <;> simp [Builtin.append_,run_underlying q,run_underlying j,sizeOf,typeInfo,p,hs.len,f,hs.cells,gg,g,cm]
theorem N7{t j ty e:TypeId}{i:TypeInfo}(l:P.underlying t=some (.slice e))(k:P.info? e=some i){base:Option Addr}{d b:Nat}{x:Value}(hs:Src P i.size j x 0 [] w)(f:d<=b):
  (Builtin.append_ #[t,j] ty #[.slice base d b,x]).run P w= .ok (.slice base d b) w:=by
 have m:∀a:Addr,(storeCells a []).run P w= .ok () w:=λa=>by simp [storeCells]
 cases base <;> rcases hs.kind with⟨e',g⟩ | g <;> simp [Builtin.append_,run_underlying l,run_underlying g,sizeOf,typeInfo,k,hs.len,f,hs.cells,storeCells]
structure Ad (P:Program) (t tx e:TypeId) (i:TypeInfo) (x:Value) (n:Nat) (news:List Value) (w:World):Prop where
 newsLen:news.length=n * i.size
 one:∀u∈news,u.oneCell'=true
 idle:n=0->∀(ty:TypeId) (base:Option Addr) (sLen sCap:Nat),sLen<=sCap->(Builtin.append_ #[t,tx] ty #[.slice base sLen sCap,x]).run P w= .ok (.slice base sLen sCap) w
 yz:∀(ty:TypeId) (b off sLen sCap:Nat) (arr:Array Value) (tt:TypeId),w.heap[b]? =some (.cells arr tt (0,0))->sLen+n<=sCap->off+sCap * i.size<=arr.size->
  (Builtin.append_ #[t,tx] ty #[.slice (some ⟨b,off,none⟩) sLen sCap,x]).run P w= .ok (.slice (some ⟨b,off,none⟩) (sLen+n) sCap) (w.setRow b (cm (off+sLen * i.size) news arr.toList).toArray)
 grow:∀(ty:TypeId) (z:Value) (base:Option Addr) (sLen sCap:Nat) (olds:List Value),i.zero=some z->(Builtin.firstCells i.size sLen (.slice base sLen sCap)).run P w.drew= .ok olds.toArray w.drew->sCap < sLen+n->
  ((sLen+n:Nat):Int)<=9223372036854775807->Builtin.nextslicecap (sLen+n) sCap * i.bytes<=281474976710656->
  (Builtin.append_ #[t,tx] ty #[.slice base sLen sCap,x]).run P w=
   .ok (.slice (some ⟨w.heap.size,0,none⟩) (sLen+n) (grownCap w (sLen+n) sCap e))
    (w.drew.alloc (.cells ((olds++news).toArray++Builtin.zeroCells z.cells (grownCap w (sLen+n) sCap e - (sLen+n))) e))
theorem Ad.sO{t tx e:TypeId}{i:TypeInfo}{x:Value}{n:Nat}{news:List Value}(ht:P.underlying t=some (.slice e))(hi:P.info? e=some i)(hs:Src P i.size tx x n news w):Ad P t tx e i x n news w where
 newsLen:=hs.newsLen
 one:=hs.one
 idle:=by intro h ty base sLen sCap hr;subst h;have:news= []:=Q7.1 (by rw [hs.newsLen];simp);subst this;exact N7 ht hi hs hr
 yz:=λty b off sLen sCap arr tt hb hr hf=>N8 ht hi hb hs hr hf
 grow:=λty z base sLen sCap olds hz ho hg h63 hf=>run_append_grow_src w t tx ty e i z ht hi hz base sLen sCap olds ho x n news hs hg h63 hf
theorem Qw{z:Array Value}{sz:Nat}(a:z.size=sz)(n:Nat):(Builtin.zeroCells z n).toList= (List.replicate n z.toList).flatten:=by
 apply RV;intro p;by_cases f:p < n * sz
 .have d:((List.replicate n z.toList).flatten).length=n * sz:=by simp [a]
  have b:((List.replicate n z.toList).flatten)[p]? =some ((List.replicate n z.toList).flatten[p]'(by omega)):=QK _;rw [b];have e:=yR (zv:=z) a n n (QV _) p _ b;rw [<-e,Ru];simp [madeCells,Builtin.zeroCells,a]
 .have d:((List.replicate n z.toList).flatten).length=n * sz:=by simp [a]
  have b:(Builtin.zeroCells z n).toList.length=n * sz:=by rw [Ra,size_zeroCells,a]
  rw [R7 (by omega),R7 (by omega)]
theorem Nt{n:Int}(h0: 0<=n)(a:n<=4294967296):i64.wrap n=n:=by rw [IntKind.wrap_i64];omega
theorem Ad.Nu{t N e:TypeId}{i:TypeInfo}{zv:Value}{ki:IntKind}{n:Int}(B:P.underlying t=some (.slice e))(y:P.underlying N=some (.int ki))(x:P.info? e=some i)(D:i.zero=some zv)(F:zv.cells.size=i.size)(X:i.bytes<=8192)
  (h0: 0<=n) (J:n<=4294967296) (K:∀u∈zv.cells.toList,u.oneCell'=true):Ad P t N e i (.int .i64 n) n.toNat (List.replicate n.toNat zv.cells.toList).flatten w:=by
 have C:=Nt h0 J;have m:¬(n < 0):=by omega
 have f:¬(281474976710656 < n * (i.bytes:Int)):=by have W:n * (i.bytes:Int)<=4294967296 * 8192:=Int.le_trans (Tk J (by omega)) (Ts (by omega) (by omega));omega
 have nl:(List.replicate n.toNat zv.cells.toList).flatten.length=n.toNat * i.size:=by simp [F]
 have one:∀u∈(List.replicate n.toNat zv.cells.toList).flatten,u.oneCell'=true:=by intro u I;obtain⟨l,hl,I⟩:=List.mem_flatten.1 I;rw [List.mem_replicate] at hl;obtain⟨_,rfl⟩:=hl;exact K u I
 have U:=Qw F n.toNat
 have G:Builtin.zeroCells zv.cells n.toNat= (List.replicate n.toNat zv.cells.toList).flatten.toArray:=by rw [<-U]
 have ae:n.toNat * i.size=0->(List.replicate n.toNat zv.cells.toList).flatten= []:=λh=>Q7.1 (by rw [nl,h]);refine⟨nl,one, ?_, ?_, ?_⟩
 .intro h ty base d j R;have Q:∀a:Addr,(storeCells a []).run P w= .ok () w:=λa=>by simp [storeCells]
  cases base <;> simp [Builtin.append_,run_underlying B,run_underlying y,sizeOf,typeInfo,x,asInt,asIntOf,C,m,f,h,R,Q]
 .intro ty b off d j arr T L k H;have hm:(d+n.toNat) * i.size<=j * i.size:=Rx _ k;have e:(d+n.toNat) * i.size=d * i.size+n.toNat * i.size:=So _ _ _;have o:=run_storeCells_at P b (off+d * i.size) T (List.replicate n.toNat zv.cells.toList).flatten 0 arr w L (by omega) one;simp only [SK] at o;by_cases g:n.toNat * i.size=0
  .have:=ae g;rw [this] at o⊢;simp [Builtin.append_,run_underlying B,run_underlying y,sizeOf,typeInfo,x,asInt,asIntOf,C,m,f,k,g,gg,o,cm]
  .simp [Builtin.append_,run_underlying B,run_underlying y,sizeOf,typeInfo,zeroValue,x,D,asInt,asIntOf,C,m,f,k,g,G,gg,o,cm]
 .intro ty z base d j S E hold Y V H;rw [D] at E;cases E;have M:¬(d+n.toNat<=j):=by omega
  have q:¬(9223372036854775807 < ((d:Int)+ (n.toNat:Int))):=by omega
  have v:¬(9223372036854775807 < ((d:Int)+max n 0)):=by omega
  have r:¬(i64.max < ((d:Int)+ (n.toNat:Int))):=by simp only [IntKind.max,IntKind.bits,IntKind.signed];omega
  have p:¬(281474976710656 < Builtin.nextslicecap (d+n.toNat) j * i.bytes):=by omega
  by_cases g:n.toNat * i.size=0
  .have:=ae g;rw [this];simp [Builtin.append_,run_underlying B,run_underlying y,sizeOf,typeInfo,zeroValue,x,D,asInt,asIntOf,C,m,f,M,v,p,Question.forced,g,hold,newRow,grownCap]
  .simp [Builtin.append_,run_underlying B,run_underlying y,sizeOf,typeInfo,zeroValue,x,D,asInt,asIntOf,C,m,f,M,v,p,Question.forced,g,G,hold,newRow,grownCap];congr 2;apply Sh;simp []
theorem Ey{n m:Int}(h:lR n m=some ()): 0<=n/\n<=m/\m<=lP:=by
 unfold lR at h;split at h
 .assumption
 .simp at h
theorem Hp{R:Type}{t U e:TypeId}{sz:Nat}{B:List T}{ti:TypeInfo}{y:AV}{V:Value}{K:List (List T)->Option R}{r:R}(hs:HS c w s.h ρ O)(o:P.underlying U=some (.slice e))(f:P.info? e=some ti)(m:ti.size=sz)(Z:hZ P e=some B)(N:B.length=sz)(J:P.bytesOf e<=8192)(k:ai w (AA c w O) ρ y V)(d:lB P s t sz B y K=some r):
  ∃H vss,K H=some r/\Ad P U t e ti V H.length vss.flatten w/\cx w (AA c w O) sz H vss:=by
 subst m;unfold lB at d;split at d
 .rename_i e' i;obtain⟨x,z,d⟩:=Qz.1 d;replace d:=aM d (.inl rfl);obtain⟨p,Y,d⟩:=d;rcases Gm hs k z Y with⟨e,h⟩ | ⟨af,off,cap,rfl,g⟩
  .rw [e] at d;refine⟨[],[],d, ?_,rfl⟩;rcases h with rfl | ⟨a,cap,rfl⟩
   .exact .sO o f (Src.ofNil w i 0)
   .exact .sO o f (Src.ofSlice w i a 0 cap [] (by simp) (by simp) (by simp))
  .obtain⟨vss,C,D⟩:=g.bn;obtain⟨l1,l2⟩:=C.length;exact⟨p.2,vss,d, .sO o f (Src.ofSlice w i ⟨af,off,none⟩ _ cap _ (by rw [l2]) (λj u W=>by rw [gg];exact D j u W) (λu i=>(C.one u i).1)),C⟩
 .rename_i i;split at d
  .rename_i m;obtain⟨x,z,d⟩:=Qz.1 d;replace d:=aM d (.inl rfl);obtain⟨b,E,d⟩:=d;have:=T.jI E;subst this;rw [AV.lf z] at k;simp only [ai,ay] at k;subst k;have flat:∀l:List Value,(l.map λv=> [v]).flatten=l:=by intro l;induction l <;> simp_all
   refine⟨_,((b.data.toList.map λb=>Value.int .u8 b.toNat).map λv=> [v]),d, ?_, ?_⟩
   .rw [flat,Rr];have:=Src.ofString (P:=P) w i b;have e:b.data.toList.length=b.size:=by rw [Ra];rfl
    rw [e];exact .sO o f (by rw [m];exact this)
   .have I:∀l:List UInt8,cx w (AA c w O) 1 (l.map λu=> [T.int .u8 u.toNat]) ((l.map λb=>Value.int .u8 b.toNat).map λv=> [v]):=by
     intro l;induction l with
     | nil=>rfl
     | cons u l ih=>exact⟨_,_,rfl,rfl,⟨_,[],rfl,fM _ _ _ _,rfl⟩,ih⟩
    rw [m];exact I _
  .simp at d
 .rename_i ki i;obtain⟨x,z,d⟩:=Qz.1 d;replace d:=aM d (.inl rfl);obtain⟨n,X,d⟩:=d;replace d:=aM d (.inl rfl);obtain⟨_,E,d⟩:=d;have:=T.fK X;subst this;obtain⟨h0,_,D⟩:=Ey E;rw [AV.lf z] at k;simp only [ai,ay] at k;subst k;obtain⟨ti',zv,q,S,L⟩:=mM Z;rw [f] at q;cases q;have G:aS w (AA c w O) B zv.cells.toList:=nK L;have Q:zv.cells.size=ti.size:=by
   have:=G.length;rw [Ra] at this;omega
  have M:=cx.replicate G N n.toNat
  have F:ti.bytes<=8192:=by simpa [Program.bytesOf,f] using J
  refine⟨_,_,d, ?_,M⟩;rw [R8];exact .Nu o i f S Q F h0 (by simpa [lP] using D) (λu i=>(G.one u i).1)
 .simp at d
theorem yw(z:Array Value)(l:List Value)(k:Nat):∀(p:Nat) (v:Value),l[p]? =some v->(l.toArray++Builtin.zeroCells z k)[p]? =some v:=by intro p v b;have a:=(QC.1 b).1;rw [Array.getElem?_append_left (by simpa using a)];simpa using b
theorem yk{a n:Nat}(h:np a n)(b:a<=8192):n * a<=140737488355328:=by
 rcases h with h | ⟨_,h⟩
 .have:n * a<=4294967296 * 8192:=TK h b;omega
 .exact h
theorem yl{a n:Nat}(h:np a n):n<=140737488355328:=by
 rcases h with h | ⟨h0,h⟩
 .have:n<=4294967296:=h;omega
 .exact Rt (Nat.le_mul_of_pos_right n h0) h
theorem AI{t tx ty e:TypeId}{ti:TypeInfo}{zs:List T}{y:Value}{i i':Id}{b:Bool}{xs d:List (List T)}{vss:List (List Value)}{base:Option Addr}{cap:Nat}
  (hs:HS c w h ρ O) (U:h i≠none) (D:h i'=none) (ht:P.underlying t=some (.slice e)) (hz:hZ P e=some zs) (hzl:zs.length=P.cellsOf e) (hby:P.bytesOf e<=8192)
  (Y:np (P.bytesOf e) (xs.length+d.length)) (hcap:xs.length<=cap) (hnil:base=none↔b=true) (E:True)
  (x:cap=0\/∃af off arr F,base=some ⟨af,off,none⟩/\O i=some af/\w.heap[af]? =some (.cells arr F (0,0))/\off+cap * P.cellsOf e<=arr.size/\bd w (AA c w O) af (P.cellsOf e) off xs)
  (L:P.info? e=some ti) (src:Ad P t tx e ti y d.length vss.flatten w) (C:cx w (AA c w O) (P.cellsOf e) d vss) (hrl:i'.real=true:=by rfl):
  ∃v w' ρ' O',(Builtin.append_ #[t,tx] ty #[.slice base xs.length cap,y]).run P w= .ok v w'/\Le w ρ O w' ρ' O'/\ρ' i'=some v/\
   HS c w' (aG (aG h i' (some (.sl false (P.cellsOf e) (b && d.isEmpty) (xs++d)))) i (some .dead)) ρ' O':=by
 obtain⟨ti',zv,M,hzv,hof⟩:=mM hz;rw [L] at M;cases M;have n:P.cellsOf e=ti.size:=by simp [Program.cellsOf,L]
 have hne:i'≠i:=λe=>U (e▸D);obtain⟨l1,l2⟩:=C.length;by_cases r:xs.length+d.length<=cap
 .rcases x with x | ⟨af,off,arr,F,rfl,R,K,o,B⟩
  ·
   subst x;have ex:xs= []:=Q7.1 (by omega);have ey:d= []:=Q7.1 (by omega);subst ex;subst ey;have ev:vss= []:=by simpa using l1
   subst ev;obtain⟨H,I⟩:=HS.move (hrl:=hrl) (w':=w) hs U D (.slice base 0 0) none rfl rfl rfl (QV _) (λ_ _ _=>rfl) (.inl rfl) (.sl false (P.cellsOf e) (b && true) []) (by
    refine⟨_,by rw [aA];rfl,⟨base,0,rfl,by simp, ?_,E, .inl rfl⟩,by simp⟩;simpa using hnil)
   refine⟨_,w,_,_, ?_,H,by rw [aA],by simpa using I⟩;exact src.idle rfl ty base 0 0 (QV _)
  ·
   rw [n] at o;have Q:=src.yz ty af off xs.length cap arr F K r o;have S:∀k,k < w.heap.size->O i≠some k->(w.setRow af (cm (off+xs.length * ti.size) vss.flatten arr.toList).toArray).heap[k]? =w.heap[k]?:=λk _ Z=>setRow_other w af k _ (λe=>Z (e▸R));have N:off+xs.length * ti.size+vss.flatten.length<=arr.toList.length:=by have l3:arr.toList.length=arr.size:=Ra;rw [l2,n,l3];have hm:(xs.length+d.length) * ti.size<=cap * ti.size:=Rx _ r;rw [So] at hm;omega
   obtain⟨H,I⟩:=HS.move (hrl:=hrl) (w':=w.setRow af (cm (off+xs.length * ti.size) vss.flatten arr.toList).toArray) hs U D (.slice (some ⟨af,off,none⟩) (xs.length+d.length) cap) (O i) rfl rfl rfl (by rw [pk];exact QV _) S (.inr (.inl rfl))
    (.sl false (P.cellsOf e) (b && d.isEmpty) (xs++d)) (by
     refine⟨_,by rw [aA],⟨some ⟨af,off,none⟩,cap,by simp,by simpa using r, ?_,E, .inr ⟨af,off,_,F,rfl, ?_,setRow_heap w af arr _ F (0,0) K, ?_, ?_⟩⟩,by simp⟩
     .have:b=false:=by cases b <;> simp_all
      simp [this]
     .simpa using R
     .simp only [RU];rw [pj _ _ _ N,n];simpa using o
     .have u:∀p,(w.setRow af (cm (off+xs.length * ti.size) vss.flatten arr.toList).toArray).cell? ⟨af,p,none⟩=if off+xs.length * ti.size<=p/\p < off+xs.length * ti.size+vss.flatten.length then vss.flatten[p - (off+xs.length * ti.size)]? else w.cell? ⟨af,p,none⟩:=by
       intro p;rw [rT K,SC,qN _ _ _ N,jS K];simp
      have J:∀m,AA c w O m->AA c (w.setRow af (cm (off+xs.length * ti.size) vss.flatten arr.toList).toArray) (aG (aG O i none) i' (O i)) m/\(w.setRow af (cm (off+xs.length * ti.size) vss.flatten arr.toList).toArray).heap[m]? =w.heap[m]?:=by
       intro m g;refine⟨⟨g.1,by rw [pk];exact g.2.1,λj l=> ?_⟩,setRow_other w af m _ (λe=>g.2.2 i (e▸R))⟩;by_cases z:j=i'
       .subst z;rw [aA] at l;exact g.2.2 i l
       .rw [au _ _ z] at l;by_cases G:j=i
        .subst G;rw [aA] at l;cases l
        .rw [au _ _ G] at l;exact g.2.2 j l
      refine bd.append (bd.cells J (λp h1 h2=> ?_) B) ?_
      .rw [n] at h2;rw [u,if_neg (by omega)]
      .refine bd.ke (cx.mono J C) (λp v W=> ?_);have hlt:=(QC.1 W).1;rw [n,u,if_pos (by omega),show off+xs.length * ti.size+p - (off+xs.length * ti.size)=p by omega];exact W)
   exact⟨_,_,_,_,Q,H,by rw [aA],I⟩
 ·
  have V:(xs.length+d.length) * ti.bytes<=140737488355328:=by
   have z:P.bytesOf e=ti.bytes:=by simp [Program.bytesOf,L]
   rw [<-z];exact yk Y hby
  have hold:∃f:List (List Value),cx w (AA c w O) (P.cellsOf e) xs f/\(Builtin.firstCells ti.size xs.length (.slice base xs.length cap)).run P w.drew= .ok f.flatten.toArray w.drew:=by
   rcases x with x | ⟨af,off,arr,F,rfl,R,K,o,B⟩
   .have ex:xs= []:=Q7.1 (by omega);subst ex;refine⟨[],rfl, ?_⟩;cases base with
    | none=>exact run_firstCells_none w.drew _ _ _ _
    | some a=>exact run_firstCells_some w.drew _ 0 a _ _ [] (by simp) (by simp)
   .obtain⟨f,k1,k2⟩:=B.bn;refine⟨f,k1, ?_⟩;obtain⟨m1,m2⟩:=k1.length;exact run_firstCells_some w.drew _ _ _ _ _ _ (by rw [m2,n]) (λj v l=>by rw [gg];simpa using k2 j v l)
  obtain⟨f,X,ho2⟩:=hold;have q:cap < xs.length+d.length:=by omega
  have Q:=src.grow ty zv base xs.length cap f.flatten hzv ho2 q (by have:=yl Y;omega) (growslice_fits q V);obtain⟨m1,m2⟩:=X.length;have hzs:zv.cells.size=ti.size:=by have:=(nK (w:=w) (A:=AA c w O) hof).length;rw [Ra] at this;rw [this,hzl,n]
  have ys0:d.isEmpty=false:=by
   cases d with
   | nil=>simp at q;omega
   | cons=>rfl
  have hge:=grownCap_ge w (xs.length+d.length) cap e;obtain⟨H,I⟩:=HS.move (hrl:=hrl) (w':=w.drew.alloc (.cells ((f.flatten++vss.flatten).toArray++Builtin.zeroCells zv.cells (grownCap w (xs.length+d.length) cap e - (xs.length+d.length))) e)) hs U D
   (.slice (some ⟨w.heap.size,0,none⟩) (xs.length+d.length) (grownCap w (xs.length+d.length) cap e)) (some w.heap.size) rfl rfl rfl (by simp) (λk Z _=>Rn w.drew _ k Z) (.inr (.inr ⟨rfl,by simp⟩))
   (.sl false (P.cellsOf e) (b && d.isEmpty) (xs++d)) (by
    refine⟨_,by rw [aA],⟨some ⟨w.heap.size,0,none⟩,grownCap w (xs.length+d.length) cap e,by simp,by simpa using hge,by simp [ys0],trivial, .inr ⟨w.heap.size,0,_,e,rfl,by simp,jU (w:=w.drew) _, ?_, ?_⟩⟩,by simp⟩
    .simp only [Tc,RU,Ro,m2,l2,size_zeroCells,hzs,n,<-So,Rh];exact Rx _ (by omega)
    .have J:∀m,AA c w O m->AA c (w.drew.alloc (.cells ((f.flatten++vss.flatten).toArray++Builtin.zeroCells zv.cells (grownCap w (xs.length+d.length) cap e - (xs.length+d.length))) e)) (aG (aG O i none) i' (some w.heap.size)) m/\(w.drew.alloc (.cells ((f.flatten++vss.flatten).toArray++Builtin.zeroCells zv.cells (grownCap w (xs.length+d.length) cap e - (xs.length+d.length))) e)).heap[m]? =w.heap[m]?:=by
      intro m g;refine⟨⟨g.1,by have:=g.2.1;simp;omega,λj l=> ?_⟩,Rn w.drew _ m g.2.1⟩;by_cases z:j=i'
      .subst z;rw [aA] at l;cases l;exact R0 _ g.2.1
      .rw [au _ _ z] at l;by_cases G:j=i
       .subst G;rw [aA] at l;cases l
       .rw [au _ _ G] at l;exact g.2.2 j l
     refine bd.ke (vss:=f++vss) (cx.append (cx.mono J X) (cx.mono J C)) (λp v W=> ?_);refine(jS (w:=w.drew.alloc _) (b:=w.heap.size) (jU (w:=w.drew) _) _).trans ?_;rw [Rh];exact yw _ _ _ p v (by simpa using W))
  exact⟨_,_,_,_,Q,H,by rw [aA],I⟩
theorem Hm{t W ty e:TypeId}{ti:TypeInfo}{Y:List T}{y H:Value}{i':Id}{b:Bool}{g:List (List T)}{vss:List (List Value)}
  (hs:HS c w h ρ O) (B:h i'=none) (ht:P.underlying t=some (.slice e)) (hz:hZ P e=some Y) (R:Y.length=P.cellsOf e) (J:P.bytesOf e<=8192)
  (C:np (P.bytesOf e) g.length) (Q:ay w A (.ae b) H)
  (m:P.info? e=some ti) (src:Ad P t W e ti y g.length vss.flatten w) (l:cx w (AA c w O) (P.cellsOf e) g vss) (hrl:i'.real=true:=by rfl):
  ∃v w' ρ' O',(Builtin.append_ #[t,W] ty #[H,y]).run P w= .ok v w'/\Le w ρ O w' ρ' O'/\ρ' i'=some v/\
   HS c w' (aG h i' (some (.sl false (P.cellsOf e) (b && g.isEmpty) g))) ρ' O':=by
 obtain⟨ti',zv,o,U,M⟩:=mM hz;rw [m] at o;cases o;have D:P.cellsOf e=ti.size:=by simp [Program.cellsOf,m]
 obtain⟨l1,l2⟩:=l.length;obtain⟨base,rfl,F,z⟩:∃base,H= .slice base 0 0/\(base=none↔b=true)/\True:=by
  simp only [ay] at Q;rcases Q with⟨rfl,rfl⟩ | ⟨rfl,af,off,sp,rfl⟩
  .exact⟨none,rfl,by simp,trivial⟩
  .exact⟨some _,rfl,by simp,trivial⟩
 by_cases E:g= []
 .subst E;have ev:vss= []:=by simpa using l1
  subst ev;have le:Le w ρ O w (aG ρ i' (some (.slice base 0 0))) (aG O i' none):=by
   refine⟨rfl,rfl,rfl,QV _,λj u f=> ?_,λb I hn=>rfl,λj b f=> ?_⟩
   .by_cases e:j=i'
    .subst e;rw [(hs.cw _ hrl B).1] at f;cases f
    .rw [au _ _ e];exact f
   .by_cases e:j=i'
    .subst e;rw [aA] at f;cases f
    .rw [au _ _ e] at f;exact .inl ⟨j,f⟩
  refine⟨.slice base 0 0,w,_,_,src.idle rfl ty base 0 0 (QV _),le,by rw [aA], ?_⟩;have gk:GK w ρ O w (aG ρ i' (some (.slice base 0 0))) (aG O i' none):=λj n=>⟨au _ _ (aO hrl),au _ _ (aO hrl),λ_ _=>rfl⟩;refine hs.go le gk (λj b' f=> ?_) (λj K f=> ?_) (λj f=> ?_) (λj n=>by rw [au _ _ (aO hrl)];exact hs.dG j n) (λj k d f r=> ?_) (λj d f=> ?_)
  .by_cases e:j=i'
   .subst e;rw [aA] at f;cases f;right;refine⟨_,by rw [aA];rfl,⟨base,0,rfl,by simp, ?_,z, .inl rfl⟩,by simp⟩;simpa using F
   .rw [au _ _ e] at f;exact .inl ⟨f,au _ _ e,λ_ _=>rfl⟩
  .by_cases e:j=i'
   .subst e;rw [aA] at f;cases f
   .rw [au _ _ e] at f;rw [au _ _ e,au _ _ e];exact hs.cw j K f
  .by_cases e:j=i'
   .subst e;rw [aA] at f;cases f
   .rw [au _ _ e] at f;exact f
  .by_cases e:j=i'
   .subst e;rw [aA] at f;cases f
   .by_cases e':k=i'
    .subst e';rw [aA] at r;cases r
    .rw [au _ _ e] at f;rw [au _ _ e'] at r;exact hs.inj j k d f r
  .by_cases e:j=i'
   .subst e;rw [aA] at f;cases f
   .rw [au _ _ e] at f;exact hs.lt j d f
 .have G: 0 < g.length:=List.length_pos_iff.2 E;have x:(0+g.length) * ti.bytes<=140737488355328:=by
   have Z:P.bytesOf e=ti.bytes:=by simp [Program.bytesOf,m]
   rw [<-Z,Rh];exact yk C J
  have L:(Builtin.firstCells ti.size 0 (.slice base 0 0)).run P w.drew= .ok ([]:List Value).toArray w.drew:=by
   cases base with
   | none=>exact run_firstCells_none w.drew _ _ _ _
   | some a=>exact run_firstCells_some w.drew _ 0 a _ _ [] (by simp) (by simp)
  have V:=src.grow ty zv base 0 0 [] U L (by omega) (by have:=yl C;omega) (growslice_fits (by omega) x);have S:zv.cells.size=ti.size:=by have:=(nK (w:=w) (A:=AA c w O) M).length;rw [Ra] at this;rw [this,R,D]
  have X:g.isEmpty=false:=by
   cases g with
   | nil=>simp at G
   | cons=>rfl
  have hge:=grownCap_ge w (0+g.length) 0 e;have q:Le w ρ O w.drew ρ O:=⟨rfl,rfl,rfl,QV _,λ_ _ h=>h,λ_ _ _=>rfl,λi b h=> .inl ⟨i,h⟩⟩;have N:HS c w.drew h ρ O:=hs.world q λ_ _ _=>rfl;obtain⟨g1,g2⟩:=N.vA (hrl:=hrl) (sz:=P.cellsOf e) B e (([] ++vss.flatten).toArray++Builtin.zeroCells zv.cells (grownCap w (0+g.length) 0 e - (0+g.length))) (grownCap w (0+g.length) 0 e) (cx.mono (λb I=>q.A b I) l)
   (λp v hp=>yw _ _ _ p v (by simpa using hp)) (by omega) (by
    simp only [Tc,RU,RO,l2,size_zeroCells,S,D,<-So];exact Rx _ (by omega))
  refine⟨_,_,_,_,V,q.trans g1, ?_, ?_⟩
  .rw [aA,Rh];rfl
  .simpa [X] using g2
theorem G1(h:Id->Option ad)(i j:Id)(a b:ad):aJ h [(i,a),(j,b)]=aG (aG h i (some a)) j (some b):=rfl
theorem iw{d:Nat}{us:aB}{k:Nat}{b:ad}(a:gW d h us=true)(hm:(Id.s d k,b)∈us):h (.s d k)=none:=by have:=QU.1 a _ hm;simpa using this
set_option maxHeartbeats 1000000 in
theorem Fs{i i' x:Id}{d:Nat}{v vk:Value}(a:x.real=true)(b:x≠i'):hI ρ i i' d v vk x=ρ x:=by
 unfold hI;rw [if_neg b];cases x with
 | g y n=>cases a
 | _=>rfl
theorem Fq{i i':Id}{a:Nat}{v vk:Value}:hI ρ i i' a v vk i'=some v:=by unfold hI;rw [if_pos rfl]
theorem zn{i i' y:Id}{n b:Nat}{v vk:Value}(hrl:i'.real=true)(a:y≠i'):hI ρ i i' b v vk (.g y n)=ρ (.g y n):=by unfold hI;rw [if_neg (aO hrl)];simp only [if_neg a]
theorem zm{i i' j src:Id}{a:Nat}{ob:Option Nat}(h:src≠i'):eI O i i' j src a ob src=none:=by unfold eI;rw [if_neg h,if_pos (.inr (.inr rfl))]
theorem NM{i i' j src x:Id}{d:Nat}{ob:Option Nat}(a:x.real=true)(b:x≠i')(e:x≠i)(f:x≠j)(k:x≠src):eI O i i' j src d ob x=O x:=by
 unfold eI;rw [if_neg b,if_neg (by rintro(h | h | h) <;> contradiction)];cases x with
 | g y n=>cases a
 | _=>rfl
theorem NN{i i' j src y:Id}{n k:Nat}{ob:Option Nat}(a:i.real=true)(b:j.real=true)(hrl:i'.real=true)(f:y≠i')(d:y≠i)(e:Id.g y n≠src):eI O i i' j src k ob (.g y n)=O (.g y n):=by unfold eI;rw [if_neg (aO hrl),if_neg (by rintro(h | h | h);exact aO a h;exact aO b h;exact e h)];simp only [if_neg f,if_neg d]
theorem cP.gone{i i' j a:Id}{n H:Nat}{ob:Option Nat}{v vk:Value}{b:Bool}{sz col rsz L:Nat}{es:List Row}{p:Bool×List (List T)}(hs:HS c w h ρ O)(J:i.real=true)(W:j.real=true)(hrl:i'.real=true)(U:h a=some (.rows b sz col rsz L es))(l:a≠i')(C:a≠i)(V:a≠j)(hf:cy n es=some p)
  (S:∀d,AA c w O d->AA c w' (eI O i i' j (.g a n) H ob) d/\w'.heap[d]? =w.heap[d]?) (r:∀x d,x≠i->O x=some d->w'.heap[d]? =w.heap[d]?):
  cP w' (AA c w' (eI O i i' j (.g a n) H ob)) (hI ρ i i' H v vk) (eI O i i' j (.g a n) H ob) a (.rows b sz col rsz L (cU n none es)):=by
 have G:=hs.real (i:=a) (by rw [U];simp);obtain⟨k,e,B,I,heo,N⟩:=uM hf;obtain⟨a',cap,r1,r2,r3,⟨X,Y,n3,n4⟩,Q⟩:=hs.af a _ U;have R:∀m,m≠n->eI O i i' j (.g a n) H ob (.g a m)=O (.g a m):=λm hm=>NN J W hrl l C (by intro h;simp only [Id.g.injEq] at h;exact hm h.2);have K:(.g a n:Id)≠i':=aO hrl;rw [N];have E:(es.set k {e with own:=none}).length=es.length:=by simp
 have F:(es.set k {e with own:=none}).map (·.n)=es.map (·.n):=by
  rw [TA];refine RV λm=> ?_;rw [RT];split
  .rename_i h;subst h;have:=(QC.1 B).1;rw [if_pos (by simpa using this)];simp [B]
  .rfl
 refine⟨a',cap,by rw [E,Fs G l];exact r1,by rw [E];exact r2,r3,⟨by rw [F];exact X,λf o=> ?_,λm hm=>by rw [zn hrl l];exact n3 m hm,λm d z=> ?_⟩, ?_⟩
 .rcases Sn o with o | rfl
  .exact Y f o
  .exact Y e (QH B)
 .by_cases hm:m=n
  .subst hm;rw [zm K] at z;cases z
  .rw [R m hm] at z;obtain⟨f,o,D⟩:=n4 m d z;have:m∈(es.set k {e with own:=none}).map (·.n):=by rw [F];exact Rb.2 ⟨f,o,D⟩
   obtain⟨f',h1,h2⟩:=Rb.1 this;exact⟨f',h1,h2⟩
 .rcases Q with Q | ⟨af,off,arr,t,q1,Z,q3,q4,q5⟩
  .exact .inl Q
  .have q:w'.heap[af]? =w.heap[af]?:=r a af C Z;refine .inr ⟨af,off,arr,t,q1,by rw [NM G l C V (aO G).symm];exact Z,by rw [q];exact q3,q4, ?_⟩;have M:=q5.get B;refine cq.set S (QC.1 B).1 (λ_ _ _ _=>l9 q) (λm f hm o=> ?_) ?_ q5
   .have D:f.n≠n:=λh=>hm (sK X o B (by rw [h,I]));exact⟨zn hrl l,R _ D,λd z=>r _ d (aO J) z⟩
   .obtain⟨a1,a2,a3,u,a4,a5,a7⟩:=M;refine⟨a1,a2,λm y hm hy=> ?_,u,by rw [l9 q];exact a4,by rw [zn hrl l];exact a5, ?_⟩
    .obtain⟨u',g1,g2⟩:=a3 m y hm hy;exact⟨u',by rw [l9 q];exact g1,ay.mono S y u' g2⟩
    .simp only;rw [I];exact zm K
theorem Ax:∀{cs:List AV} {l:List T},dR cs=some l->l.length=cs.length/\∀(j:Nat) (x:T),l[j]? =some x->cs[j]? =some (AV.t x)
 | [],l,h=>by simp only [dR,Qy] at h;subst h;simp
 | v::cs,l,h=>by
  cases v <;> simp only [dR,reduceCtorEq] at h;rename_i x;obtain⟨f,e,h⟩:=Qz.1 h;simp only [Qy] at h;subst h;obtain⟨b,d⟩:=Ax e;refine⟨by simp [b],λj y a=> ?_⟩;cases j with
  | zero=>simpa using a
  | succ j=>simpa using d j y (by simpa using a)
theorem Hl{R:Type}{d:Nat}{t ty tr e e':TypeId}{ti:TypeInfo}{zs:List T}{i j:Id}{b:Bool}{sz col rsz F:Nat}{es:List Row}{cs:List AV}{vx vy:Value}{K:AV->aB->Option R}{r:R}(hs:HS c w s.h ρ O)
  (ht:P.underlying t=some (.slice e)) (hty:P.underlying ty=some (.slice e')) (hz:hZ P e=some zs) (hzl:zs.length=P.cellsOf e) (hby:P.bytesOf e<=8192) (hti:P.info? e=some ti)
  (hi:s.h i=some (.rows b sz col rsz F es)) (hj:s.h j=some (.arr cs)) (hx:ρ i=some vx) (hy:ρ j=some vy) (f:oB P s d e i sz col rsz F es j cs K=some r):
  ∃v us,K v us=some r/\(gW d s.h us=true->∃u w' ρ' O',(Builtin.append_ #[t,ty] tr #[vx,vy]).run P w= .ok u w'/\Le w ρ O w' ρ' O'/\HS c w' (aJ s.h us) ρ' O'/\ai w' (AA c w' O') ρ' v u):=by
 obtain⟨ti',zv,hti',hzv,hof⟩:=mM hz;rw [hti] at hti';cases hti';have C:P.cellsOf e=ti.size:=by simp [Program.cellsOf,hti]
 unfold oB at f;split at f
 .rename_i hcond;obtain⟨rfl,c1,c2,c3⟩:=hcond;replace f:=Qz.1 f;obtain⟨l,hl,f⟩:=f;obtain⟨bj,q,tj,h1,h2,h3,h4,h5⟩:=hs.af j _ hj;rw [hy] at h1;cases h1;obtain⟨a,cap,r1,r2,r3,r4,r5⟩:=hs.af i _ hi;rw [hx] at r1;cases r1;have hri:=hs.real (i:=i) (by rw [hi];simp);have hrj:=hs.real (i:=j) (by rw [hj];simp);have hnl:q.toList.length=1 * ti.size:=by rw [h4.length,c1,C];omega
  obtain⟨ll,lg⟩:=Ax hl;have src:Ad P t ty e ti (.slice (some ⟨bj,0,none⟩) 1 1) 1 q.toList w:= .sO ht hti (Src.ofSlice w hty ⟨bj,0,none⟩ 1 1 _ hnl (λp u y=>by
   rw [gg,Rh,jS h3];simpa using y) (λu hu=>(h5 u hu).1))
  have H:∀n,bp (P.bytesOf e) n=some ()->np (P.bytesOf e) n:=by
   intro n hn;unfold bp at hn;split at hn
   .assumption
   .simp at hn
  have key:∀(z s0:Id) (bb:Bool) (xs:List (List T)) (vk:Value) (X:ad),s.h s0≠none->s0≠i->s0≠j->(z=s0\/∃n,z= .g s0 n)->ρ z=some vk->cI w (AA c w O) rsz bb xs vk (λd=>O z=some d)->
    q.toList[col]? =some vk->bp (P.bytesOf e) (es.length+1)=some ()->s.h (.s d 0)=none->
    (∀w' ob v,(∀D,AA c w O D->AA c w' (eI O i (.s d 0) j z F ob) D/\w'.heap[D]? =w.heap[D]?)->(∀x D,x≠i->O x=some D->w'.heap[D]? =w.heap[D]?)->cP w' (AA c w' (eI O i (.s d 0) j z F ob)) (hI ρ i (.s d 0) F v vk) (eI O i (.s d 0) j z F ob) s0 X)->
    ∃u w' ρ' O',(Builtin.append_ #[t,ty] tr #[.slice a es.length cap, .slice (some ⟨bj,0,none⟩) 1 1]).run P w= .ok u w'/\Le w ρ O w' ρ' O'/\
     HS c w' (aG (aG (aG (aG s.h i (some .dead)) j (some .dead)) s0 (some X)) (.s d 0) (some (.rows false (P.cellsOf e) col rsz (F+1) (es++ [⟨F,l,some (bb,xs)⟩])))) ρ' O'/\ai w' (AA c w' O') ρ' (.own (.s d 0)) u:=by
   intro z s0 bb xs vk X q1 q2 q3 q4 q5 q6 q7 Z o hX;have hlr:l.length=P.cellsOf e:=by rw [ll,SE,c1]
   have hnr:∀m x,m≠col->l[m]? =some x->∃v,q.toList[m]? =some v/\ay w (AA c w O) x v:=by intro m x hm hx;have:=lg m x hx;rw [RT,if_neg (Th hm)] at this;obtain⟨v,I,J⟩:=h4.get this;exact⟨v,I,by simpa [ai] using J⟩
   by_cases L:es.length+1<=cap
   .rcases r5 with r5 | ⟨af,off,arr,t',k1,k2,k3,k4,k5⟩
    .omega
    .subst k1;have hm:(es.length+1) * ti.size<=cap * ti.size:=Rx _ L;rw [So] at hm;rw [C] at k4;have run:=src.yz tr af off es.length cap arr t' k3 L k4;have lfit:off+es.length * ti.size+q.toList.length<=arr.toList.length:=by rw [hnl,Ra (xs:=arr)];omega
     have N:∀p,(w.setRow af (cm (off+es.length * ti.size) q.toList arr.toList).toArray).cell? ⟨af,p,none⟩=if off+es.length * ti.size<=p/\p < off+es.length * ti.size+q.toList.length then q.toList[p - (off+es.length * ti.size)]? else w.cell? ⟨af,p,none⟩:=by intro p;rw [rT k3,SC,qN _ _ _ lfit,jS k3];simp
     obtain⟨I,J⟩:=HS.Fp (i':= .s d 0) (j:=j) (src:=z) (s0:=s0) (bb:=bb) (xs:=xs) (vk:=vk) (X:=X) (af:=af) (blk':=af) (off:=off) (off':=off) (cap':=cap) (ob:=O i) (news:=q.toList) (l:=l) (w':=w.setRow af (cm (off+es.length * ti.size) q.toList arr.toList).toArray)
      hs hi o rfl (by rw [hj];simp) (Th c3) q1 q2 q3 q4 q5 q6 rfl rfl rfl (by rw [pk];exact QV _) (λk _ f=>setRow_other w af k _ λe=>f (e▸k2)) (.inl rfl) k2 (setRow_heap w af arr _ t' (0,0) k3) (by rw [RU,pj _ _ _ lfit,C];simpa using k4) L k5
      (λp y=>by rw [C] at y;have y:p < es.length * ti.size:=y;rw [N,if_neg (by omega)]) c2 hlr (λp v y=>by
       have Y:=(QC.1 y).1;rw [C,N,if_pos (by omega),show off+es.length * ti.size+p - (off+es.length * ti.size)=p by omega];exact y) hnr q7
      (λhA=>hX _ _ _ hA λx D hx hd=>setRow_other w af D _ λe=>hx (hs.inj x i D hd (e▸k2)))
     exact⟨_,_,_,_,run,I,J,by simp only [ai];exact Fq⟩
   .have hneed:(es.length+1) * ti.bytes<=140737488355328:=by
     have e1:P.bytesOf e=ti.bytes:=by simp [Program.bytesOf,hti]
     rw [<-e1];exact yk (H _ Z) hby
    have hold:∃(B:List Value) (af off:Nat),B.length=es.length * ti.size/\(Builtin.firstCells ti.size es.length (.slice a es.length cap)).run P w.drew= .ok B.toArray w.drew/\cq w (AA c w O) ρ O i af (P.cellsOf e) col rsz off es/\∀p v,B[p]? =some v->w.cell? ⟨af,off+p,none⟩=some v:=by
     rcases r5 with r5 | ⟨af,off,arr,t',k1,k2,k3,k4,k5⟩
     .have ex:es= []:=Q7.1 (by omega);subst ex;refine⟨[],0,0,by simp, ?_,trivial,by simp⟩;cases a with
      | none=>exact run_firstCells_none w.drew _ _ _ _
      | some a=>exact run_firstCells_some w.drew _ 0 a _ _ [] (by simp) (by simp)
     .subst k1;have hm:es.length * ti.size<=cap * ti.size:=Rx _ r2;rw [C] at k4;have hlen:((arr.toList.drop off).take (es.length * ti.size)).length=es.length * ti.size:=by rw [Rw,RM,Ra (xs:=arr)];omega
      have U:∀p v,((arr.toList.drop off).take (es.length * ti.size))[p]? =some v->w.cell? ⟨af,off+p,none⟩=some v:=by
       intro p v y;rw [Sy] at y;split at y
       .rw [Sz] at y;rw [jS k3];simpa using y
       .cases y
      refine⟨_,af,off,hlen, ?_,k5,U⟩;exact run_firstCells_some w.drew _ _ _ _ _ _ hlen (λp v y=>by rw [gg];simpa using U p v y)
    obtain⟨B,af,off,ho1,ho2,ho3,ho4⟩:=hold;have V:cap < es.length+1:=by omega
    have run:=src.grow tr zv a es.length cap B hzv ho2 V (by have:=yl (H _ Z);omega) (growslice_fits V hneed);have hzs:zv.cells.size=ti.size:=by have:=(nK (w:=w) (A:=AA c w O) hof).length;rw [Ra] at this;rw [this,hzl,C]
    have hge:=grownCap_ge w (es.length+1) cap e;have S:∀p v,(B++q.toList)[p]? =some v->(w.drew.alloc (.cells ((B++q.toList).toArray++Builtin.zeroCells zv.cells (grownCap w (es.length+1) cap e - (es.length+1))) e)).cell? ⟨w.heap.size,p,none⟩=some v:=by intro p v y;refine(jS (w:=w.drew.alloc _) (b:=w.heap.size) (jU (w:=w.drew) _) _).trans ?_;exact yw _ _ _ p v y
    obtain⟨I,J⟩:=HS.Fp (i':= .s d 0) (j:=j) (src:=z) (s0:=s0) (bb:=bb) (xs:=xs) (vk:=vk) (X:=X) (af:=af) (blk':=w.heap.size) (off:=off) (off':=0) (cap':=grownCap w (es.length+1) cap e) (ob:=some w.heap.size) (news:=q.toList) (l:=l)
     (w':=w.drew.alloc (.cells ((B++q.toList).toArray++Builtin.zeroCells zv.cells (grownCap w (es.length+1) cap e - (es.length+1))) e))
     hs hi o rfl (by rw [hj];simp) (Th c3) q1 q2 q3 q4 q5 q6 rfl rfl rfl (by simp) (λk f _=>Rn w.drew _ k f) (.inr ⟨rfl,by simp⟩) rfl (jU (w:=w.drew) _) (by
      simp only [Tc,RU,Ro,ho1,hnl,size_zeroCells,hzs,C,<-So,Rh];exact Rx _ (by omega)) hge ho3
     (λp y=>by
      rw [C] at y;have y:p < es.length * ti.size:=y;have Y:p < B.length:=by omega
      rw [Rh,ho4 p _ (QK Y)];exact S p _ (by rw [QT Y];exact QK Y)) c2 hlr (λp v y=>by
      rw [C,Rh];refine S _ v ?_;rw [Rg (by omega),ho1,show es.length * ti.size+p - es.length * ti.size=p by omega];exact y) hnr q7
     (λhA=>hX _ _ _ hA λx D hx hd=>Rn w.drew _ D (hs.lt x D hd))
    exact⟨_,_,_,_,run,I,J,by simp only [ai];exact Fq⟩
  split at f
  .rename_i j2 Q;split at f
   .rename_i rsz' b' xs E;split at f
    .rename_i hrsz;subst hrsz;replace f:=aM f (.inl rfl);obtain⟨_,Z,f⟩:=f;refine⟨_,_,f,λo=> ?_⟩;have o:=iw o (k:=0) (b:= .rows false (P.cellsOf e) col rsz' (F+1) (es++ [⟨F,l,some (b',xs)⟩])) (by simp);obtain⟨vk,v1,M⟩:=h4.get Q;simp only [ai] at M;obtain⟨v',s1,s2⟩:=mH hs E;rw [M] at s1;cases s1;have hr2:=hs.real (i:=j2) (by rw [E];simp);have n2:j2≠ .s d 0:=λe=>by rw [e,o] at E;cases E
     obtain⟨u,w',ρ',O',I,J,g3,g4⟩:=key j2 j2 b' xs vk .dead (by rw [E];simp) (λe=>by rw [e,hi] at E;cases E) (λe=>by rw [e,hj] at E;cases E) (.inl rfl) M (by simpa using s2) v1 (by assumption) o
      (λw' ob v hA W=>⟨⟨vk,by rw [Fs hr2 n2];exact M,jD hs M⟩,zm n2⟩)
     exact⟨u,w',ρ',O',I,J,by rw [cM,cM,cM,dy];exact g3,g4⟩
    .simp at f
   .simp at f
  .rename_i a2 n Q;split at f
   .rename_i b2 sz2 col2 rsz2 nx2 es2 G;split at f
    .rename_i hc2;obtain⟨rfl,hai⟩:=hc2;replace f:=aM f (.inl rfl);obtain⟨p,y,f⟩:=f;replace f:=aM f (.inl rfl);obtain⟨_,Z,f⟩:=f;refine⟨_,_,f,λo=> ?_⟩;have o:=iw o (k:=0) (b:= .rows false (P.cellsOf e) col rsz2 (F+1) (es++ [⟨F,l,some p⟩])) (by simp);obtain⟨vk,v1,M⟩:=h4.get Q;simp only [ai] at M;obtain⟨v',s1,s2⟩:=vW hs G y;rw [M] at s1;cases s1;have n2:a2≠ .s d 0:=λe=>by rw [e,o] at G;cases G
     have n3:a2≠j:=λe=>by rw [e,hj] at G;cases G
     obtain⟨u,w',ρ',O',I,J,g3,g4⟩:=key (.g a2 n) a2 p.1 p.2 vk (.rows b2 sz2 col2 rsz2 nx2 (cU n none es2)) (by rw [G];simp) hai n3 (.inr ⟨n,rfl⟩) M s2 v1 (by assumption) o
      (λw' ob v hA W=>cP.gone hs hri hrj rfl G n2 hai n3 y hA W)
     exact⟨u,w',ρ',O',I,J,by rw [cM,cM,cM,dy];exact g3,g4⟩
    .simp at f
   .simp at f
  .simp at f
 .simp at f
theorem N6{h:Id->Option ad}{x:AV}{q:Id×Nat×Nat×Nat×Nat×List Row}(e:zD h x=some q):x= .own q.1/\∃b,h q.1=some (.rows b q.2.1 q.2.2.1 q.2.2.2.1 q.2.2.2.2.1 q.2.2.2.2.2):=by
 unfold zD at e;split at e
 .split at e
  .rename_i a;simp only [Qy] at e;subst e;exact⟨rfl,_,a⟩
  .cases e
 .cases e
theorem Nx{h:Id->Option ad}{x:AV}{q:Id×List AV}(e:zf h x=some q):x= .own q.1/\h q.1=some (.arr q.2):=by
 unfold zf at e;split at e
 .split at e
  .rename_i a;simp only [Qy] at e;subst e;exact⟨rfl,a⟩
  .cases e
 .cases e
theorem Hj{R:Type}{d:Nat}{rw:Bool}{t ty tr:TypeId}{x y:AV}{vx vy:Value}{K:AV->aB->Option R}{r:R}(hs:HS c w s.h ρ O)(l:ai w (AA c w O) ρ x vx)(hy:ai w (AA c w O) ρ y vy)
  (f:jQ P s d rw t ty x y K=some r):
  ∃v us,K v us=some r/\(gW d s.h us=true->∃u w' ρ' O',(Builtin.append_ #[t,ty] tr #[vx,vy]).run P w= .ok u w'/\Le w ρ O w' ρ' O'/\HS c w' (aJ s.h us) ρ' O'/\ai w' (AA c w' O') ρ' v u):=by
 unfold jQ at f;replace f:=Qz.1 f;obtain⟨e,he,f⟩:=f;replace f:=Qz.1 f;obtain⟨zs,I,f⟩:=f;obtain⟨Q,hok⟩:=uF he;split at f
 .rename_i V;obtain⟨B,C⟩:=V;obtain⟨ti0,_,m,_,_⟩:=mM I;split at f
  .rename_i i sz col rsz nx es j cs q E;cases rw with
   | false=>cases q
   | true=>
   obtain⟨rfl,b,G⟩:=N6 q;obtain⟨rfl,hj⟩:=Nx E;simp only [ai] at l hy;split at f
   .rename_i e' hu';exact Hl hs Q hu' I C B m G hj l hy f
   .cases f
  rename_i hnr;clear hnr;replace f:=Hp hs Q m (by simp [Program.cellsOf,m]) I C B hy f;obtain⟨ys,vss,f,src,F⟩:=f;have p:∀n,bp (P.bytesOf e) n=some ()->np (P.bytesOf e) n:=by
   intro n hn;unfold bp at hn;split at hn
   .assumption
   .simp at hn
  clear he hok;revert f;rcases x with _ | z | _ | _ | _ | _ | i | ⟨i,sz'',off,n⟩ | _ | _ | _ <;> intro f <;> (try dsimp only at f) <;> (try cases f)
  case own=>
   split at f
   .rename_i sz' b xs G;split at f
    .rename_i N;subst N;replace f:=aM f (.inl rfl);obtain⟨_,k,f⟩:=f;refine⟨_,_,f,λg=> ?_⟩;have g:=iw g QA;obtain⟨v',g1,a,cap,Y,q2,q3,q4,J⟩:=mH hs G;simp only [ai] at l;rw [g1] at l;simp only [Qy] at l;subst l;subst Y;obtain⟨v,w',ρ',O',q,E,e3,M⟩:=AI (ty:=tr) hs (by rw [G];simp) g Q I C B (p _ k) q2 q3 q4 (by
      rcases J with J | ⟨af,off,arr,Z,S,k2,k3,X,k5⟩
      .exact .inl J
      .exact .inr ⟨af,off,arr,Z,S,by simpa using k2,k3,X,k5⟩) m src F
     exact⟨v,w',ρ',O',q,E,by rw [G1];exact M,by simp only [ai];exact e3⟩
    .simp at f
   .simp at f
  case part=>
   split at f
   .rename_i sz' b xs G;split at f
    .rename_i N;obtain⟨rfl,rfl⟩:=N;replace f:=aM f (.inl rfl);obtain⟨_,k,f⟩:=f;refine⟨_,_,f,λg=> ?_⟩;have g:=iw g QA;obtain⟨v',g1,a,cap,Y,q2,q3,q4,J⟩:=mH hs G;simp only [ai] at l;obtain⟨a1,L,D,a',S,k2,k3,rfl,X⟩:=l;rw [g1] at S;simp only [Qy] at S;subst S;simp only [RF] at Y;obtain⟨rfl,rfl,rfl⟩:=Y;have H:((xs.drop off).take n).length=n:=by simp only [Rw,RM];omega
     have hnil:a'=none↔b=true:=by
      rw [<-q3];rcases X with⟨_,rfl⟩ | ⟨_,T,_⟩ | ⟨b',o,rfl,rfl⟩
      .exact SP
      .exact T
      .simp
     have W:True:=trivial;obtain⟨v,w',ρ',O',q,E,e3,M⟩:=AI (ty:=tr) (xs:=(xs.drop off).take n) (base:=a') (cap:=D - off) hs (by rw [G];simp) g Q I C B (by rw [H];exact p _ k) (by rw [H];omega) hnil W (by
      rcases J with J | ⟨af,off',arr,Z,j1,j2,j3,j4,j5⟩
      .exact .inl (by omega)
      .subst j1;rcases X with⟨rfl,rfl⟩ | ⟨rfl,_⟩ | ⟨b',o,T,rfl⟩
       .exact .inr ⟨af,off',arr,Z,rfl,by simpa using j2,j3,by simpa using j4,by simpa using j5.take n⟩
       .exact .inl (by omega)
       .simp only [Qy,RA] at T;obtain⟨rfl,rfl,_⟩:=T;refine .inr ⟨af,_,arr,Z,rfl,by simpa using j2,j3, ?_,(j5.drop off).take n⟩;have:(D - off) * P.cellsOf e+off * P.cellsOf e=D * P.cellsOf e:=by rw [<-So];congr 1;omega
        omega) m src F
     rw [H] at q;exact⟨v,w',ρ',O',q,E,by rw [G1];exact M,by simp only [ai];exact e3⟩
    .simp at f
   .simp at f
  case t=>
   have core:∀b,ay w (AA c w O) (.ae b) vx->(aa none (bp (P.bytesOf e) ys.length) λ_=>K (.own (.s d 0)) [(.s d 0, .sl false (P.cellsOf e) (b && ys.isEmpty) ys)])=some r->
     ∃v us,K v us=some r/\(gW d s.h us=true->∃u w' ρ' O',(Builtin.append_ #[t,ty] tr #[vx,vy]).run P w= .ok u w'/\Le w ρ O w' ρ' O'/\HS c w' (aJ s.h us) ρ' O'/\ai w' (AA c w' O') ρ' v u):=by
    intro b l f;replace f:=aM f (.inl rfl);obtain⟨_,k,f⟩:=f;refine⟨_,_,f,λg=> ?_⟩;have g:=iw g QA;obtain⟨v,w',ρ',O',q,E,e3,M⟩:=Hm (ty:=tr) hs g Q I C B (p _ k) l m src F;exact⟨v,w',ρ',O',q,E,by rw [dy];exact M,by simp only [ai];exact e3⟩
   simp only [ai] at l;replace f:=Qz.1 f;obtain⟨b,k,f⟩:=f;refine core b ?_ f;unfold EO at k;split at k
   .simp only [Qy] at k;subst k;exact l
   .rename_i sz b' xs;cases h:(b' && xs.isEmpty) with
    | false=>rw [h] at k;simp at k
    | true=>
     rw [h] at k;simp only [cond_true,Qy] at k;subst k;simp only [QF,Sb] at h;simp only [ay] at l⊢;rcases l with⟨_,_,U⟩ | ⟨U,_⟩
     .exact .inl ⟨trivial,U⟩
     .rw [h.1] at U;cases U
   .cases k
 .simp at f
theorem LA{zv:Array Value}{sz:Nat}(a:zv.size=sz)(n:Nat):(madeCells zv (n * sz)).toList= (List.replicate n zv.toList).flatten:=by
 refine RV λp=> ?_;by_cases d:p < n * sz
 .have b:p < (List.replicate n zv.toList).flatten.length:=by simpa [a] using d
  have:=yR a n n (QV _) p _ (QK b);rw [Ru,this,QK b]
 .rw [R7 (by simp [madeCells];omega),R7 (by simp [a];omega)]
theorem EP{rsz:Nat}{i:Id}{af:Nat}:∀{k n base:Nat},(∀m,m < n->w.cell? ⟨af,base+m,none⟩=some (.slice none 0 0))->(∀m,k<=m->m < k+n->ρ (.g i m)=some (.slice none 0 0))->
  cq w A ρ O i af 1 0 rsz base ((List.range' k n).map λk=>⟨k,[.ao],some (true,[])⟩)
 | k,0,base,_,_=>trivial
 | k,n+1,base,a,b=>by
  rw [SU,Rc];refine⟨⟨rfl,by omega,λj x l d=> ?_,_,a 0 (by omega),b k (by omega) (by omega),⟨none,0,rfl,by simp,by simp,trivial, .inl rfl⟩⟩,EP (λm hm=> ?_) (λm e f=>b m (by omega) (by omega))⟩
  .have:j < 1:=by simpa using (QC.1 d).1
   omega
  .have:=a (m+1) (by omega);rw [show base+1+m=base+ (m+1) by omega];exact this
theorem HS.Nh{i:Id}{N cap rsz:Nat}{cells:Array Value}(hs:HS c w h ρ O)(B:h i=none)(t:TypeId)(G:∀p,p < N->cells[p]? =some (.slice none 0 0))(K:cap<=cells.size)(F:N<=cap)(hrl:i.real=true:=by rfl):
  ∃ρ' O',Le w ρ O (w.alloc (.cells cells t)) ρ' O'/\HS c (w.alloc (.cells cells t)) (aG h i (some (.rows false 1 0 rsz N (o6 N)))) ρ' O'/\ρ' i=some (.slice (some ⟨w.heap.size,0,none⟩) N cap):=by
 let V:Id->Option Value:=λx=>if x=i then some (.slice (some ⟨w.heap.size,0,none⟩) N cap) else match x with
  | .g y n=>if y=i then(if n < N then some (.slice none 0 0) else none) else ρ (.g y n)
  | x=>ρ x
 have C:V i=some (.slice (some ⟨w.heap.size,0,none⟩) N cap):=by simp only [V,if_true]
 have D:∀x,x.real=true->x≠i->V x=ρ x:=by
  intro x o a;simp only [V,if_neg a];cases x with
  | g y n=>cases o
  | _=>rfl
 have r:∀y n,y≠i->V (.g y n)=ρ (.g y n):=by intro y n l;simp only [V,if_neg (aO hrl),if_neg l]
 have z:∀n,V (.g i n)=if n < N then some (.slice none 0 0) else none:=by intro n;simp only [V,if_neg (aO hrl),if_true]
 have E:∀n,O (.g i n)=none:=λn=>(hs.fm i n B).2;have le:Le w ρ O (w.alloc (.cells cells t)) V (aG O i (some w.heap.size)):=by
  refine⟨rfl,rfl,rfl,by simp,λx u a=> ?_,λd j _=>Rn _ _ _ j,λx d a=> ?_⟩
  .cases o:x.real with
   | true=>
    have:x≠i:=λe=>by rw [e,(hs.cw i hrl B).1] at a;cases a
    rw [D x o this];exact a
   | false=>
    cases x with
    | g y n=>
     have:y≠i:=λe=>by rw [e,(hs.fm i n B).1] at a;cases a
     rw [r y n this];exact a
    | _=>cases o
  .by_cases e:x=i
   .rw [e,aA] at a;cases a;exact .inr (QV _)
   .rw [au _ _ e] at a;exact .inl ⟨x,a⟩
 have v:(o6 N).length=N:=by simp [o6]
 refine⟨V,_,le,hs.nv le (λx y a=> ?_) (λx o a=> ?_) (λx n=>by rw [au _ _ (aO hrl)];exact hs.dG x n) (λx n a=> ?_) (λx n u q=> ?_) (λx y d a l=> ?_) (λx d a=> ?_),C⟩
 .by_cases e:x=i
  .subst e;rw [aA] at a;cases a;right;refine⟨_,cap,by rw [v];exact C,by rw [v];exact F,by simp,⟨?_,λf H=> ?_,λn L=>by rw [z,if_neg (by omega)],λn d j=> ?_⟩, .inr ⟨w.heap.size,0,cells,t,rfl,by rw [aA],jU _,by omega, ?_⟩⟩
   .have:(o6 N).map (·.n)=List.range N:=by
     unfold o6;rw [SQ];exact List.map_id _
    rw [this];exact List.nodup_range
   .obtain⟨k,I,rfl⟩:=Rb.1 H;simpa using I
   .rw [au _ _ (aO hrl),E] at j;cases j
   .unfold o6;rw [Tj];refine EP (λm hm=> ?_) (λm _ hm=>by rw [z,if_pos (by omega)]);rw [jS (jU _),Rh];exact G m hm
  .rw [au _ _ e] at a;have J:=hs.real (i:=x) (by rw [a];simp);exact .inl ⟨a,au _ _ e,λd j=>Rn _ _ _ (hs.lt x d j),λn=>⟨r x n e,au _ _ (aO hrl),λd j=>Rn _ _ _ (hs.lt _ d j)⟩⟩
 .have b:x≠i:=λe=>by rw [e,aA] at a;cases a
  rw [au _ _ b] at a;rw [D x o b,au _ _ b];exact hs.cw x o a
 .have b:x≠i:=λe=>by rw [e,aA] at a;cases a
  rw [au _ _ b] at a;rw [r x n b,au _ _ (aO hrl)];exact hs.fm x n a
 .by_cases b:x=i
  .subst b;rw [z] at q;split at q
   .simp only [Qy] at q;subst q;exact⟨rfl,rfl⟩
   .cases q
  .rw [r x n b] at q;exact hs.gone x n u q
 .by_cases e:x=i <;> by_cases e':y=i
  .rw [e,e']
  .rw [e,aA] at a;cases a;rw [au _ _ e'] at l;exact absurd (hs.lt _ _ l) (R0 _)
  .rw [e',aA] at l;cases l;rw [au _ _ e] at a;exact absurd (hs.lt _ _ a) (R0 _)
  .rw [au _ _ e] at a;rw [au _ _ e'] at l;exact hs.inj x y d a l
 .by_cases e:x=i
  .rw [e,aA] at a;cases a;simp
  .rw [au _ _ e] at a;have:=hs.lt x d a;simp;omega
theorem LC{R:Type}{d:Nat}{t:TypeId}{ns:Nat}{n m:T}{vn vm:Value}{K:AV->aB->Option R}{r:R}(hs:HS c w s.h ρ O)(I:ai w (AA c w O) ρ (.t n) vn)(hm:ai w (AA c w O) ρ (.t m) vm)
  (a:qE P d t ns n m K=some r):
  ∃v us,K v us=some r/\(gW d s.h us=true->∃u w' ρ' O',(Instr.makeSlice t vn vm).run P w= .ok u w'/\Le w ρ O w' ρ' O'/\HS c w' (aJ s.h us) ρ' O'/\ai w' (AA c w' O') ρ' v u):=by
 unfold qE at a;replace a:=Qz.1 a;obtain⟨e,W,a⟩:=a;replace a:=Qz.1 a;obtain⟨zs,M,a⟩:=a;obtain⟨L,Y⟩:=uF W;replace a:=aM a (.inl rfl);obtain⟨Q,J,a⟩:=a;replace a:=aM a (.inl rfl);obtain⟨j,H,a⟩:=a;have:=T.fK J;subst this;have:=T.fK H;subst this;simp only [ai,ay] at I hm;subst I;subst hm;split at a
 .rename_i B;obtain⟨C,x⟩:=B;replace a:=aM a (.inl rfl);obtain⟨_,V,a⟩:=a;obtain⟨h0,E,F⟩:=Ey V;cases D:(ns==2) with
  | true=>
   simp only [D,cond_true] at a;split at a
   .rename_i u Z;split at a
    .rename_i G;refine⟨_,_,a,λb=> ?_⟩;have b:=iw b QA;obtain⟨zv,g,z⟩:=F0 (w:=w) (A:=AA c w O) (kn:= .i64) (km:= .i64) L M C x h0 E F;have y:zv.cells.size=P.cellsOf e:=by have:=g.length;rw [Ra] at this;omega
     have N:zv.cells.toList= [.slice none 0 0]:=by
      obtain⟨v,q,S,f,l⟩:=g;simp only [aS] at l;rw [S,l];simp only [ay] at f;rcases f with⟨_,f⟩ | ⟨f,_⟩
      .rw [f]
      .cases f
     have o:∀p,p < Q.toNat->(madeCells zv.cells (j.toNat * P.cellsOf e))[p]? =some (.slice none 0 0):=by
      intro p hp;rw [<-Ru,LA y,N];have:(List.replicate j.toNat [Value.slice none 0 0]).flatten=List.replicate j.toNat (.slice none 0 0):=by
       induction j.toNat with
       | zero=>rfl
       | succ k X=>rw [RS,Sd,X];rfl
      rw [this,List.getElem?_replicate,if_pos (by omega)]
     obtain⟨ρ',O',f,l,U⟩:=hs.Nh (i:= .s d 0) (rsz:=P.cellsOf u) b e o (cap:=j.toNat) (by simp [madeCells,G]) (by omega);refine⟨_,_,ρ',O',z,f, ?_, ?_⟩
     .rw [dy];with_reducible exact l
     .simp only [ai];exact U
    .simp at a
   .simp at a
  | false=>
  simp only [D,cond_false] at a;refine⟨_,_,a,λb=> ?_⟩;have b:=iw b QA;obtain⟨zv,g,z⟩:=F0 (w:=w) (A:=AA c w O) (kn:= .i64) (km:= .i64) L M C x h0 E F;have y:zv.cells.size=P.cellsOf e:=by have:=g.length;rw [Ra] at this;omega
  obtain⟨f,l⟩:=hs.vA (i:= .s d 0) (sz:=P.cellsOf e) b e (madeCells zv.cells (j.toNat * P.cellsOf e)) j.toNat (cx.replicate g x Q.toNat)
   (yR y _ _ (by omega)) (by simp;omega) (by simp [madeCells])
  refine⟨_,_,_,_,z,f,by rw [dy];exact l, ?_⟩;simp only [ai];rw [aA,R8]
 .simp at a
end
open Go Go.IntKind
section
variable {P:Program} {w w':World} {A A':Nat->Prop} {c:Ctx} {ρ:Id->Option Value} {O:Id->Option Nat} {s:St} {cc:Option Bool} {h:Id->Option ad}
theorem DN{t:TypeId}{x:AV}{i:Value}{b:Bool}(hs:HS c w s.h ρ O)(g:ai w (AA c w O) ρ x i)(h:iX P s t x=some b)(o:Operand)(ho:nI P t o=true)(a:Act)(m n:Operand):
  ((eqGuard .eql t m n i (a.eval o)).run P w= .ok () w/\(binOp .eql t i (a.eval o)).run P w= .ok (.bool b) w)/\
  ((eqGuard .neq t m n i (a.eval o)).run P w= .ok () w/\(binOp .neq t i (a.eval o)).run P w= .ok (.bool (!b)) w)/\
  ((eqGuard .eql t m n (a.eval o) i).run P w= .ok () w/\(binOp .eql t (a.eval o) i).run P w= .ok (.bool b) w)/\
  ((eqGuard .neq t m n (a.eval o) i).run P w= .ok () w/\(binOp .neq t (a.eval o) i).run P w= .ok (.bool (!b)) w):=by
 unfold nI at ho;split at ho
 .rename_i e j;have key:∃p l k,i= .slice p l k/\p.isNone=b:=by
   unfold iX at h;rw [j] at h;dsimp only at h;split at h
   .rename_i sz B xs;simp only [Qy] at h;subst h;simp only [ai,ay] at g;rcases g with⟨rfl,_,rfl⟩ | ⟨rfl,_,_,_,_,rfl,_⟩
    .exact⟨_,_,_,rfl,rfl⟩
    .exact⟨_,_,_,rfl,rfl⟩
   .simp only [Qy] at h;subst h;simp only [ai,ay] at g;rcases g with⟨rfl,rfl⟩ | ⟨rfl,_,_,_,rfl⟩
    .exact⟨_,_,_,rfl,rfl⟩
    .exact⟨_,_,_,rfl,rfl⟩
   .split at h
    .rename_i v;simp only [Qy] at h;subst h;obtain⟨G,u,a,cap,z,C,r,D,F⟩:=mH hs v;simp only [ai] at g;rw [u] at g;simp only [Qy] at g;subst g;subst z;refine⟨_,_,_,rfl, ?_⟩;cases a with
     | none=>simpa using r
     | some a=>
      have:¬(_=true):=λe=>by have:=r.2 e;simp at this
      simpa using this
    .simp at h
   .simp at h
  obtain⟨p,l,k,rfl,rfl⟩:=key;simp only [Act.eval];have E1:(Op.equal t (.slice p l k) (.slice none 0 0)).run P w= .ok p.isNone w:=by
   have:∀d,(Op.equalIn (d+1) t (.slice p l k) (.slice none 0 0)).run P w= .ok p.isNone w:=by intro d;cases p <;> simp [Op.equalIn,run_underlying j]
   exact this 9999
  have q:(Op.equal t (.slice none 0 0) (.slice p l k)).run P w= .ok p.isNone w:=by
   have:∀d,(Op.equalIn (d+1) t (.slice none 0 0) (.slice p l k)).run P w= .ok p.isNone w:=by intro d;simp [Op.equalIn,run_underlying j]
   exact this 9999
  refine⟨⟨by simp [eqGuard], ?_⟩,⟨by simp [eqGuard], ?_⟩,⟨by simp [eqGuard], ?_⟩,⟨by simp [eqGuard], ?_⟩⟩ <;> simp only [binOp] <;> simp [E1,q]
 .rename_i e j;have key:∃p,i= .pointer p/\p.isNone=b:=by
   unfold iX at h;rw [j] at h;dsimp only at h;split at h
   .simp only [Qy] at h;subst h;simp only [ai,ay] at g;obtain⟨_,_,rfl,_⟩:=g;exact⟨_,rfl,rfl⟩
   .simp only [Qy] at h;subst h;simp only [ai,ay] at g;subst g;exact⟨_,rfl,rfl⟩
   .simp only [Qy] at h;subst h;simp only [ai] at g;obtain⟨_,_,rfl⟩:=g;exact⟨_,rfl,rfl⟩
   .simp only [Qy] at h;subst h;simp only [ai] at g;obtain⟨_,_,_,_,_,rfl⟩:=g;exact⟨_,rfl,rfl⟩
   .simp at h
  obtain⟨p,rfl,rfl⟩:=key;simp only [Act.eval];have E1:(Op.equal t (.pointer p) (.pointer none)).run P w= .ok p.isNone w:=by
   have:∀d,(Op.equalIn (d+1) t (.pointer p) (.pointer none)).run P w= .ok p.isNone w:=by intro d;cases p <;> simp [Op.equalIn,run_underlying j]
   exact this 9999
  have q:(Op.equal t (.pointer none) (.pointer p)).run P w= .ok p.isNone w:=by
   have:∀d,(Op.equalIn (d+1) t (.pointer none) (.pointer p)).run P w= .ok p.isNone w:=by intro d;simp [Op.equalIn,run_underlying j]
   exact this 9999
  refine⟨⟨by simp [eqGuard], ?_⟩,⟨by simp [eqGuard], ?_⟩,⟨by simp [eqGuard], ?_⟩,⟨by simp [eqGuard], ?_⟩⟩ <;> simp only [binOp] <;> simp [E1,q]
 .rename_i j;have key:(i= .nilFunc/\b=true)\/(∃f x y,i= .func f x y/\b=false):=by
   unfold iX at h;rw [j] at h;dsimp only at h;split at h
   .simp only [Qy] at h;subst h;simp only [ai,ay] at g;exact .inl ⟨g,rfl⟩
   .simp only [Qy] at h;subst h;simp only [ai] at g;obtain⟨_,_,rfl,_⟩:=g;exact .inr ⟨_,_,_,rfl,rfl⟩
   .simp at h
  simp only [Act.eval];have E:(Op.equal t i .nilFunc).run P w= .ok b w/\(Op.equal t .nilFunc i).run P w= .ok b w:=by
   constructor
   .have:∀d,(Op.equalIn (d+1) t i .nilFunc).run P w= .ok b w:=by intro d;rcases key with⟨rfl,rfl⟩ | ⟨f,x,y,rfl,rfl⟩ <;> simp [Op.equalIn,run_underlying j]
    exact this 9999
   .have:∀d,(Op.equalIn (d+1) t .nilFunc i).run P w= .ok b w:=by intro d;rcases key with⟨rfl,rfl⟩ | ⟨f,x,y,rfl,rfl⟩ <;> simp [Op.equalIn,run_underlying j]
    exact this 9999
  rcases key with⟨rfl,rfl⟩ | ⟨f,x,y,rfl,rfl⟩ <;>
  refine⟨⟨by simp [eqGuard], ?_⟩,⟨by simp [eqGuard], ?_⟩,⟨by simp [eqGuard], ?_⟩,⟨by simp [eqGuard], ?_⟩⟩ <;> simp only [binOp] <;> simp [E.1,E.2]
 .rename_i j;have key:i= .map none/\b=true:=by
   unfold iX at h;rw [j] at h;dsimp only at h;split at h
   .simp only [Qy] at h;subst h;simp only [ai,ay] at g;exact⟨g,rfl⟩
   .simp at h
  simp only [Act.eval];obtain⟨rfl,rfl⟩:=key;have E:(Op.equal t (.map none) (.map none)).run P w= .ok true w:=by
   have:∀d,(Op.equalIn (d+1) t (.map none) (.map none)).run P w= .ok true w:=by intro d;simp [Op.equalIn,run_underlying j]
   exact this 9999
  refine⟨⟨by simp [eqGuard], ?_⟩,⟨by simp [eqGuard], ?_⟩,⟨by simp [eqGuard], ?_⟩,⟨by simp [eqGuard], ?_⟩⟩ <;> simp only [binOp] <;> simp [E]
 .simp at ho
theorem H8{R:Type}{src e:TypeId}{x:T}{j:Value}{K:T->Option R}{r:R}(i:cc=none\/cc=some true)(d:ay w A x j)(a:pW P cc src e x K=some r):
  ∃z v,K z=some r/\(convert src e j).run P w= .ok v w/\ay w A z v:=by
 unfold pW at a;split at a
 .rename_i k l g b;replace a:=aM a i;obtain⟨n,f,a⟩:=a;have:=T.fK f;subst this;simp only [ay] at d;subst d;exact⟨_,_,a,by simp [convert,run_underlying g,run_underlying b,Conv.intToInt],fM _ _ _ _⟩
 .rename_i g b;replace a:=aM a i;obtain⟨n,f,a⟩:=a;have:=T.jI f;subst this;simp only [ay] at d;subst d;exact⟨_,_,a,by simp [convert,run_underlying g,run_underlying b],kU _ _ _⟩
 .simp at a
theorem A5:∀{xs:List (List T)} {l:List UInt8} {vss:List (List Value)},bytesOf xs=some l->cx w A 1 xs vss->∃ns:List Int,vss.flatten=ns.map (Value.int .u8)/\l=ns.map (λn=>UInt8.ofNat n.toNat)
 | [],l,vss,e,h=>by simp only [cx] at h;subst h;simp only [bytesOf,Qy] at e;subst e;exact⟨[],rfl,rfl⟩
 | cs::xs,l,vss,e,⟨vs,r,g,a,e3,i⟩=>by
  subst g;simp only [bytesOf] at e;obtain⟨x,f,e⟩:=Qz.1 e;obtain⟨n,m,e⟩:=Qz.1 e;obtain⟨q,o,e⟩:=Qz.1 e;simp only [Qy] at e;subst e;obtain⟨ns,j,k⟩:=A5 o i;have:=T.fK m;subst this;cases cs with
  | nil=>simp at a
  | cons y cs=>simp only [RK,Qy] at f;subst f;have:cs= []:=Q7.1 (by simpa using a);subst this;obtain⟨v,p,rfl,b,d⟩:=e3;simp only [aS] at d;subst d;simp only [ay] at b;subst b;exact⟨n::ns,by simp [j],by simp [k]⟩
theorem Ft:∀(ns:List Int) (b:ByteArray),ns.foldl (λr n=>r.push (UInt8.ofNat n.toNat)) b= ⟨b.data++ (ns.map (λn=>UInt8.ofNat n.toNat)).toArray⟩
 | [],b=>by simp
 | n::ns,b=>by rw [TH,Ft ns];simp [ByteArray.push]
theorem HN{src b e:TypeId}{x:AV}{y:T}{o:Value}{p:Bool×List (List T)}{l:List UInt8}(hs:HS c w s.h ρ O)(k:P.underlying src=some (.slice e))(d:P.underlying b=some .string)(g:P.underlying e=some (.int .u8))
  (B:ai w (AA c w O) ρ x o) (C:dv s.h x=some y) (z:y.an 1=some p) (hl:bytesOf p.2=some l):(convert src b o).run P w= .ok (.string ⟨l.toArray⟩) w:=by
 rcases Gm hs B C z with⟨m,rfl | ⟨a,cap,rfl⟩⟩ | ⟨af,off,cap,rfl,i⟩
 .rw [m] at hl;simp only [bytesOf,Qy] at hl;subst hl;rw [run_convert_bytes_string w src b e _ _ _ k g d];simp [Conv.bytesToString];rfl
 .rw [m] at hl;simp only [bytesOf,Qy] at hl;subst hl;rw [run_convert_bytes_string w src b e _ _ _ k g d,run_bytesToString w a 0 cap [] (run_loadCells_list (P:=P) w a [] (by simp))];rfl
 .obtain⟨vss,n,t⟩:=i.bn;obtain⟨E,D⟩:=n.length;obtain⟨ns,q,r⟩:=A5 hl n;rw [run_convert_bytes_string w src b e _ _ _ k g d,run_bytesToString w _ _ cap ns ?_,Ft]
  .rw [r];simp
  .rw [<-q];have f:=run_loadCells_list (P:=P) w ⟨af,off,none⟩ vss.flatten (λj v u=>by rw [gg];exact t j v u);rw [D,Nat.mul_one] at f;exact f
theorem Lu{R:Type}{t:TypeId}(k:bX P t=true){cs:List AV}{arr:Array Value}{off:Nat}{K:AV->Option R}{r:R}(f:az w A ρ cs (arr.toList.drop off))(m:∀u∈arr.toList,u.oneCell'=true/\u.cells= #[u])(h:lQ P t cs K=some r):
  ∃i v,K i=some r/\(part t arr off).run P w= .ok v w/\ai w A ρ i v:=by
 unfold lQ at h;unfold part;simp only [QY,qU k,QO];cases j:bD P t
 .simp only [j,cond_false] at h;cases cs with
  | nil=>simp at h
  | cons y cs=>
   simp only [RK,QD] at h;simp only [az] at f;obtain⟨v,q,e,a,_⟩:=f;have b:off < arr.toList.length:=by
    rcases Tl off arr.toList.length with g | g
    .exact g
    .rw [Sv g] at e;simp at e
   rw [SH b] at e;simp only [RH] at e;have:arr[off]? =some v:=by rw [Sm (by simpa using b)];rw [<-e.1];simp
   simp only [Q9,if_false,this];exact⟨_,v,h,by simp,a⟩
 .simp only [j,cond_true] at h;cases d:lY (P.cellsOf t) cs with
  | none=>simp [d] at h
  | some l=>simp only [d,QD] at h;obtain⟨hl,o⟩:=z7 d;have a:=f.take (P.cellsOf t);rw [<-hl] at a;refine⟨_, .agg (arr.extract off (off+P.cellsOf t)),h,by simp only [if_true,QY,iD k,QO,Rj], ?_⟩;simp only [ai];refine⟨_, ?_,a,λu n=>m u (SI (Sp n))⟩;congr 1;apply Sh;simp []
theorem KF{R:Type}{t:TypeId}{x:AV}{e:Value}{f:Nat}{K:AV->Option R}{r:R}(d:ai w A ρ x e)(h:qp P t x f K=some r):
  ∃a v,K a=some r/\(Instr.field t e f).run P w= .ok v w/\ai w A ρ a v:=by
 unfold qp at h;split at h
 .rename_i off u m;obtain⟨z,y,j,k,b,l⟩:=yh m;simp only [Rk] at b;obtain⟨rfl,rfl⟩:=b;split at h
  .rename_i vs;simp only [ai] at d;obtain⟨q,rfl,g,i⟩:=d;obtain⟨a,v,n,o,p⟩:=Lu (arr:=q.toArray) l (by simpa using g.drop y.offset) (by simpa using i) h;exact⟨a,v,n,by simp [Instr.field,run_underlying j,k,asAgg,o],p⟩
  .simp at h
 .simp at h
theorem Lt{R:Type}{t:TypeId}(m:bX P t=true){cs:List T}{arr:Array Value}{off:Nat}{K:AV->Option R}{r:R}(b:cc=none\/cc=some true)(k:aS w A cs (arr.toList.drop off))(h:jX P t cc cs K=some r):
  ∃i v,K i=some r/\(part t arr off).run P w= .ok v w/\ai w A ρ i v:=by
 unfold jX at h;unfold part;simp only [QY,qU m,QO];cases j:bD P t
 .simp only [j,cond_false] at h;replace h:=aM h b;obtain⟨x,f,h⟩:=h;cases cs with
  | nil=>simp at f
  | cons y cs=>
   simp only [RK,Qy] at f;subst f;obtain⟨v,q,e,a,_⟩:=k;have d:off < arr.toList.length:=by
    rcases Tl off arr.toList.length with g | g
    .exact g
    .rw [Sv g] at e;simp at e
   rw [SH d] at e;simp only [RH] at e;have:arr[off]? =some v:=by rw [Sm (by simpa using d)];rw [<-e.1];simp
   simp only [Q9,if_false,this];obtain⟨z,h,a⟩:=nX b a h;exact⟨_,v,h,by simp,by simpa [ai] using a⟩
 .simp only [j,cond_true] at h;obtain⟨l,hl,o,h⟩:=wA b h;have a:=k.take (P.cellsOf t);rw [<-hl] at a;obtain⟨p,h,n⟩:=tn b a h;refine⟨_, .agg (arr.extract off (off+P.cellsOf t)),h,by simp only [if_true,QY,iD m,QO,Rj], ?_⟩;simp only [ai];refine⟨_, ?_,az.kR n,a.one⟩;congr 1;apply Sh;simp []
theorem yY{R:Type}{k:IntKind}(g:cc=none\/cc=some true)(d:Bool):∀{l:List T} {a:Int} {vs:List Value} {K:T->Option R} {r:R},aS w A l vs->nG k cc d a l K=some r->
  ∃n,K (.int k n)=some r/\(vs.foldlM (cond d Builtin.max2 Builtin.min2) (.int k a)).run P w= .ok (.int k n) w
 | [],a,vs,K,r,i,h=>by simp only [aS] at i;subst i;exact⟨a,h,by simp⟩
 | y::l,a,vs,K,r,⟨v,q,e,f,o⟩,h=>by
  subst e;simp only [nG] at h;replace h:=aM h g;obtain⟨b,p,h⟩:=h;have:=T.fK p;subst this;simp only [ay] at f;subst f;obtain⟨n,j,m⟩:=yY g d o h;refine⟨n,j, ?_⟩;rw [List.foldlM_cons];have:((cond d Builtin.max2 Builtin.min2) (.int k a) (.int k b)).run P w= .ok (.int k (mm d a b)) w:=by cases d <;> simp [Builtin.max2,Builtin.min2,mm]
  simp only [QY,this,QO];exact m
end
open Go Go.IntKind
def fv(O:Id->Option Nat)(b:Nat):Prop:= ∃i,O i=some b
def jo(a:List ad):Id->Option ad
 | .c j=>a[j]?
 | _=>none
section
variable {P:Program} {w w':World} {A A':Nat->Prop} {c:Ctx} {ρ:Id->Option Value} {O:Id->Option Nat} {s s':St} {h:Id->Option ad}
def mj:Option ad->List Id
 | some (.box cs)=>bY cs
 | some (.arr cs)=>bY cs
 | _=> []
theorem sX:∀{n:Nat} {todo d seen:List Id},eS h n todo d=some seen->d.Nodup->(∀i∈d,h i≠none)->(∀i∈d,∀j∈mj (h i),j∈d\/j∈todo)->
  seen.Nodup/\(∀i∈d,i∈seen)/\(∀i∈todo,i∈seen)/\(∀i∈seen,h i≠none)/\∀i∈seen,∀j∈mj (h i),j∈seen
 | 0,todo,d,seen,e,_,_,_=>by simp [eS] at e
 | n+1,[],d,seen,e,u,t,r=>by simp only [eS,Qy] at e;subst e;exact⟨u,λ_ h=>h,by simp,t,λi g j m=>by rcases r i g j m with h | h;exact h;cases h⟩
 | n+1,i::todo,d,seen,e,u,t,r=>by
  simp only [eS] at e;cases l:d.contains i with
  | true=>
   rw [l,cond_true] at e;have g:i∈d:=by simpa using l
   obtain⟨v,p,x,y,z⟩:=sX e u t (λk f j m=>by
    rcases r k f j m with h | h
    .exact .inl h
    .rcases QN.1 h with rfl | h
     .exact .inl g
     .exact .inr h)
   refine⟨v,p,λk f=> ?_,y,z⟩;rcases QN.1 f with rfl | f
   .exact p _ g
   .exact x k f
  | false=>
   rw [l,cond_false] at e;have F:i∉d:=by
    intro hm;have:d.contains i=true:=by simpa using hm
    rw [this] at l;cases l
   have D:(d++ [i]).Nodup:=R5.2 ⟨u,by simp,λa G b q B=>by simp only [QL] at q;exact F (by rw [<-q,<-B];exact G)⟩;have go:∀more:List Id,h i≠none->mj (h i)=more->eS h n (todo++more) (d++ [i])=some seen->_:=λmore E hm e=>
    sX e D (λk f=>by
     rcases QR.1 f with f | f
     .exact t k f
     .simp only [QL] at f;subst f;exact E) (λk f j m=>by
     rcases QR.1 f with f | f
     .rcases r k f j m with h | h
      .exact .inl (QQ _ h)
      .rcases QN.1 h with rfl | h
       .exact .inl (QP _ (QL.2 rfl))
       .exact .inr (QQ _ h)
     .simp only [QL] at f;subst f;rw [hm] at m;exact .inr (QP _ m))
   have o:∀more:List Id,(seen.Nodup/\(∀k∈d++ [i],k∈seen)/\(∀k∈todo++more,k∈seen)/\(∀k∈seen,h k≠none)/\∀k∈seen,∀j∈mj (h k),j∈seen)->
     seen.Nodup/\(∀i∈d,i∈seen)/\(∀k∈i::todo,k∈seen)/\(∀i∈seen,h i≠none)/\∀i∈seen,∀j∈mj (h i),j∈seen:=by
    rintro more ⟨v,p,x,y,z⟩;refine⟨v,λk f=>p k (QQ _ f),λk f=> ?_,y,z⟩;rcases QN.1 f with rfl | f
    .exact p _ (QP _ (QL.2 rfl))
    .exact x k (QQ _ f)
   split at e
   .rename_i cs g;exact o _ (go (bY cs) (by rw [g];simp) (by rw [g];rfl) e)
   .rename_i cs g;exact o _ (go (bY cs) (by rw [g];simp) (by rw [g];rfl) e)
   .rename_i b q C g;refine o [] (go [] (by rw [g];simp) ?_ (by simpa using e));rw [g];cases b with
    | box cs=>exact(q cs rfl).elim
    | arr cs=>exact(C cs rfl).elim
    | _=>rfl
   .simp at e
def ct{a:Type}(m:List Id)(f:Id->Option a):Id->Option a
 | .c j=>(m[j]?).bind f
 | .g (.c j) n=>(m[j]?).bind λi=>f (.g i n)
 | _=>none
theorem vT{b:Type}{m:List Id}{f:Id->Option b}{i:Id}(a:i∈m):ct m f (.c (m.idxOf i))=f i:=by simp only [ct];have:m.idxOf i < m.length:=TB.2 a;rw [QK this];simp
theorem FC{b:Type}{m:List Id}{f:Id->Option b}{i:Id}{n:Nat}(a:i∈m):ct m f (.g (.c (m.idxOf i)) n)=f (.g i n):=by simp only [ct];have:m.idxOf i < m.length:=TB.2 a;rw [QK this];simp
def nY(seen:List Id):Id->Option Id
 | .c j=>seen[j]?
 | .g (.c j) n=>(seen[j]?).map λi=> .g i n
 | _=>none
theorem FD{a:Type}{m:List Id}{f:Id->Option a}(i:Id):ct m f i= (nY m i).bind f:=by
 cases i with
 | c j=>rfl
 | s d j=>rfl
 | g i n=>
  cases i with
  | c j=>simp only [ct,nY];cases m[j]? <;> rfl
  | _=>rfl
theorem Qo{seen:List Id}(z:seen.Nodup){i j k:Id}(r:∀x∈seen,x.real=true)(f:nY seen i=some k)(v:nY seen j=some k):i=j:=by
 have inj:∀{a b:Nat} {x:Id},seen[a]? =some x->seen[b]? =some x->a=b:=by intro a b x e l;obtain⟨B,t⟩:=QC.1 e;obtain⟨C,u⟩:=QC.1 l;exact(List.getElem_inj z).1 (t.trans u.symm)
 have p:∀i,nY seen i=some k->(∃a,i= .c a/\seen[a]? =some k)\/∃a n x,i= .g (.c a) n/\seen[a]? =some x/\k= .g x n:=by
  intro i f;cases i with
  | c a=>exact .inl ⟨a,rfl,f⟩
  | s d a=>cases f
  | g i n=>
   cases i with
   | c a=>simp only [nY,R2] at f;obtain⟨x,e,l⟩:=f;exact .inr ⟨a,n,x,rfl,e,l.symm⟩
   | _=>cases f
 rcases p i f with⟨a,rfl,e⟩ | ⟨a,n,x,rfl,e,l⟩ <;> rcases p j v with⟨b,rfl,o⟩ | ⟨b,m,y,rfl,o,q⟩
 .rw [inj e o]
 .have:=r k (QH e);rw [q] at this;cases this
 .have:=r k (QH o);rw [l] at this;cases this
 .rw [l] at q;cases q;rw [inj e o]
mutual
theorem ai.rn{m:List Id}(l:∀b,A b->A' b):∀(v:AV) (u:Value),(∀i∈v.ids,i∈m)->ai w A ρ v u->ai w A' (ct m ρ) (v.rn m) u
 | .top,_,_,_=>by simp [AV.rn,ai]
 | .t x,u,_,d=>by simp only [AV.rn,ai] at d⊢;exact ay.mono (λb y=>⟨l b y,rfl⟩) x u d
 | .lj vs,u,g,d=>by simp only [AV.rn,ai] at d⊢;obtain⟨o,e,j⟩:=d;exact⟨o,e,az.rn l vs o (by simpa [AV.ids] using g) j⟩
 | .agg vs,u,g,d=>by simp only [AV.rn,ai] at d⊢;obtain⟨o,e,j,p⟩:=d;exact⟨o,e,az.rn l vs o (by simpa [AV.ids] using g) j,p⟩
 | .ref i off,u,g,d=>by simp only [AV.rn,ai] at d⊢;rw [vT (g i (by simp [AV.ids]))];exact d
 | .el i sz k off,u,g,d=>by simp only [AV.rn,ai] at d⊢;rw [vT (g i (by simp [AV.ids]))];exact d
 | .own i,u,g,d=>by simp only [AV.rn,ai] at d⊢;rw [vT (g i (by simp [AV.ids]))];exact d
 | .part i sz off n,u,g,d=>by simp only [AV.rn,ai] at d⊢;rw [vT (g i (by simp [AV.ids]))];exact d
 | .row i n,u,g,d=>by simp only [AV.rn,ai] at d⊢;rw [FC (g i (by simp [AV.ids]))];exact d
 | .rel i sz n k off,u,g,d=>by simp only [AV.rn,ai] at d⊢;rw [FC (g i (by simp [AV.ids]))];exact d
 | .fn f a b,u,g,d=>by simp only [AV.rn,ai] at d⊢;obtain⟨q,r,e,j,p⟩:=d;simp only [AV.ids,QR] at g;exact⟨q,r,e,az.rn l a q (λi h=>g i (.inl h)) j,az.rn l b r (λi h=>g i (.inr h)) p⟩
theorem az.rn{m:List Id}(f:∀b,A b->A' b):∀(vs:List AV) (us:List Value),(∀i∈bY vs,i∈m)->az w A ρ vs us->az w A' (ct m ρ) (jE m vs) us
 | [],us,_,a=>by simpa [jE,az] using a
 | v::vs,us,d,a=>by simp only [jE,az] at a⊢;obtain⟨u,r,e,g,j⟩:=a;simp only [bY,QR] at d;exact⟨u,r,e,ai.rn f v u (λi h=>d i (.inl h)) g,az.rn f vs r (λi h=>d i (.inr h)) j⟩
end
def Of(seen:List Id)(k:Id):Prop:=k∈seen\/∃i n,i∈seen/\k= .g i n
theorem Qp{seen:List Id}{i k:Id}(h:nY seen i=some k):Of seen k:=by
 cases i with
 | c a=>exact .inl (QH h)
 | s d a=>cases h
 | g i n=>
  cases i with
  | c a=>simp only [nY,R2] at h;obtain⟨x,b,e⟩:=h;exact .inr ⟨x,n,QH b,e.symm⟩
  | _=>cases h
theorem sZ{seen:List Id}{b:Nat}(h:fv (ct seen O) b):∃k,Of seen k/\O k=some b:=by obtain⟨i,a⟩:=h;rw [FD] at a;obtain⟨k,d,e⟩:=Qz.1 a;exact⟨k,Qp d,e⟩
theorem cq.rn{seen:List Id}{i:Id}{j:Nat}{af sz col rsz:Nat}(d:∀b,A b->A' b)(f:seen[j]? =some i):∀{es:List Row} {base:Nat},cq w A ρ O i af sz col rsz base es->
  cq w A' (ct seen ρ) (ct seen O) (.c j) af sz col rsz base es
 | [],_,_=>trivial
 | e::es,base,⟨⟨r,t,y,v,z,B,C⟩,E⟩=>by
  have l:ct seen ρ (.g (.c j) e.n)=ρ (.g i e.n):=by simp [ct,f]
  refine⟨⟨r,t,λk x D F=> ?_,v,z,by rw [l];exact B, ?_⟩,cq.rn d f E⟩
  .obtain⟨u,o,q⟩:=y k x D F;exact⟨u,o,ay.mono (λb a=>⟨d b a,rfl⟩) x u q⟩
  .have m:ct seen O (.g (.c j) e.n)=O (.g i e.n):=by simp [ct,f]
   rw [m];revert C;cases e.own with
   | none=>exact λh=>h
   | some p=>exact λh=>h.mono (λb a=>⟨d b a,rfl⟩) λb a=>⟨a,rfl⟩
theorem mW.rn{seen:List Id}{i:Id}{j e:Nat}{es:List Row}(d:seen[j]? =some i)(h:mW ρ O i e es):mW (ct seen ρ) (ct seen O) (.c j) e es:=by
 have f:∀n,ct seen ρ (.g (.c j) n)=ρ (.g i n):=λn=>by simp [ct,d]
 have k:∀n,ct seen O (.g (.c j) n)=O (.g i n):=λn=>by simp [ct,d]
 exact⟨h.1,h.2.1,λn a=>by rw [f];exact h.2.2.1 n a,λn b a=>by rw [k] at a;exact h.2.2.2 n b a⟩
theorem HS.FA{c':Ctx}{seen:List Id}(hs:HS c w h ρ O)(hn:seen.Nodup)(N:∀i∈seen,h i≠none)(Z:∀i∈seen,∀j∈mj (h i),j∈seen)
  (D:∀b,AA c w O b->AA c' w (ct seen O) b) (X:∀b,fv (ct seen O) b->c'.MO b) (Y:c'.N0<=w.heap.size) (Q:nr<=c'.N0/\∀b,b < nr->¬c'.M b):HS c' w (jo (seen.map λi=>gF seen (h i))) (ct seen ρ) (ct seen O):=by
 have K:∀b,fv (ct seen O) b->fv O b:=λb h=>let⟨k,_,E⟩:=sZ h;⟨k,E⟩;refine⟨λi b p=> ?_,λi hr f=> ?_,λi n=>rfl,λi n f=> ?_,λi n u L=> ?_,λi j b f R=> ?_,λi b f=> ?_,λi b f=> ?_,Y,hs.glob.1,Q⟩
 .cases i with
  | s d j=>simp [jo] at p
  | g i n=>simp [jo] at p
  | c j=>
   simp only [jo,RI,R2] at p;obtain⟨i,f,e⟩:=p;have H:i∈seen:=QH f;have q:ct seen ρ (.c j)=ρ i:=by simp [ct,f]
   have C:ct seen O (.c j)=O i:=by simp [ct,f]
   cases G:h i with
   | none=>exact(N i H G).elim
   | some x=>
    have B:=hs.af i x G;have F:=Z i H;rw [G] at e F;cases x with
    | box cs=>simp only [gF] at e;subst e;obtain⟨r,arr,t,m,o,e3,y,z⟩:=B;exact⟨r,arr,t,by rw [q];exact m,by rw [C];exact o,e3,az.rn D cs _ (λk E=>F k (by simpa [mj] using E)) y,z⟩
    | sl fz sz bb xs=>
     simp only [gF] at e;subst e;obtain⟨v,m,o,e3⟩:=B;refine⟨v,by rw [q];exact m,o.mono (λb p=>⟨D b p,rfl⟩) (λb p=>⟨?_,rfl⟩),by rw [C];exact e3⟩;cases fz
     .simp only [Q9,if_false] at p⊢;rw [C];exact p
     .simp only [if_true] at p⊢;exact D b p
    | cO l=>simp only [gF] at e;subst e;obtain⟨r,m,o,e3,y⟩:=B;exact⟨r,by rw [q];exact m,by rw [C];exact o,D r e3,aZ.mono (λb p=>⟨D b p,rfl⟩) r e3 0 l y⟩
    | mp ag ks vk es=>simp only [gF] at e;subst e;obtain⟨r,J,I,m,o,e3,y,z⟩:=B;exact⟨r,J,I,by rw [q];exact m,by rw [C];exact o,e3,y,z⟩
    | arr cs=>simp only [gF] at e;subst e;obtain⟨r,arr,t,m,o,e3,y,z⟩:=B;exact⟨r,arr,t,by rw [q];exact m,by rw [C];exact o,e3,az.rn D cs _ (λk E=>F k (by simpa [mj] using E)) y,z⟩
    | rows bb sz col rsz nx es=>
     simp only [gF] at e;subst e;obtain⟨a,cap,m,o,e3,y,z⟩:=B;refine⟨a,cap,by rw [q];exact m,o,e3,y.rn f, ?_⟩;rcases z with z | ⟨af,off,arr,t,q1,q2,q3,q4,q5⟩
     .exact .inl z
     .exact .inr ⟨af,off,arr,t,q1,by rw [C];exact q2,q3,q4,q5.rn D f⟩
    | dead=>simp only [gF] at e;subst e;obtain⟨m,o⟩:=B;exact⟨by rw [q];exact m,by rw [C];exact o⟩
 .cases i with
  | s d j=>exact⟨rfl,rfl⟩
  | g i n=>cases hr
  | c j=>simp only [jo,RI,Option.map_eq_none_iff] at f;simp [ct,f]
 .cases i with
  | c j=>simp only [jo,RI,Option.map_eq_none_iff] at f;simp [ct,f]
  | _=>exact⟨rfl,rfl⟩
 .cases i with
  | c j=>simp only [ct] at L;obtain⟨k,h1,W⟩:=Qz.1 L;exact hs.gone k n u W
  | _=>cases L
 .rw [FD] at f R;obtain⟨k1,S,U⟩:=Qz.1 f;obtain⟨k2,T,V⟩:=Qz.1 R;have:=hs.inj k1 k2 b U V;subst this;exact Qo hn (λx B=>hs.real (N x B)) S T
 .obtain⟨k,E⟩:=K b ⟨i,f⟩;exact hs.lt k b E
 .exact X b ⟨i,f⟩
theorem HS.rn{seen:List Id}(hs:HS c w h ρ O)(m:seen.Nodup)(g:∀i∈seen,h i≠none)(f:∀i∈seen,∀j∈mj (h i),j∈seen):
  HS c w (jo (seen.map λi=>gF seen (h i))) (ct seen ρ) (ct seen O)/\(∀b,fv (ct seen O) b->fv O b):=by
 have a:∀b,fv (ct seen O) b->fv O b:=λb h=>let⟨k,_,e⟩:=sZ h;⟨k,e⟩;refine⟨hs.FA m g f (λb d=>⟨d.1,d.2.1,λi l=> ?_⟩) (λb d=> ?_) hs.size hs.glob.2,a⟩
 .obtain⟨k,e⟩:=a b ⟨i,l⟩;exact d.2.2 k e
 .obtain⟨k,e⟩:=a b d;exact hs.own k b e
theorem nP:∀{n:Nat} {todo a seen:List Id},eS h n todo a=some seen->a <+:seen
 | 0,todo,a,seen,e=>by simp [eS] at e
 | n+1,[],a,seen,e=>by simp only [eS,Qy] at e;subst e;exact Sk _
 | n+1,i::todo,a,seen,e=>by
  simp only [eS] at e;cases b:a.contains i with
  | true=>rw [b,cond_true] at e;exact nP e
  | false=>
   rw [b,cond_false] at e;split at e
   .exact(S5 _ _).trans (nP e)
   .exact(S5 _ _).trans (nP e)
   .exact(S5 _ _).trans (nP e)
   .simp at e
theorem Fx:∀{l:List Id} {n:Nat} {todo a seen:List Id},eS h n (l++todo) a=some seen->l.Nodup->(∀i∈l,i∉a)->(a++l) <+:seen
 | [],n,todo,a,seen,e,_,_=>by rw [QX];exact nP e
 | i::l,0,todo,a,seen,e,_,_=>by simp [eS] at e
 | i::l,n+1,todo,a,seen,e,g,b=>by
  obtain⟨k,m⟩:=RN.1 g;simp only [Rs,eS] at e;have d:a.contains i=false:=by have:=b i QA;simpa using this
  rw [d,cond_false] at e;have go:∀more:List Id,eS h n (l++todo++more) (a++ [i])=some seen->(a++i::l) <+:seen:=by
   intro more e;rw [Q6] at e;have:=Fx e m (λj f hm=>by
    rcases QR.1 hm with hm | hm
    .exact b j (QB _ f) hm
    .simp only [QL] at hm;subst hm;exact k f)
   simpa using this
  split at e
  .exact go _ e
  .exact go _ e
  .exact go [] (by simpa using e)
  .simp at e
theorem HS.Gp(hs:HS c w h ρ O){i:Id}{b:ad}(e:h i=some b):∃v,ρ i=some v/\v.oneCell'=true/\v.cells= #[v]:=by
 cases d:ρ i with
 | some u=>exact⟨u,rfl,jD hs d⟩
 | none=>
  exfalso;have:=hs.af i b e;cases b with
  | box cs=>obtain⟨b,_,_,a,_⟩:=this;rw [d] at a;cases a
  | sl fz sz b xs=>obtain⟨v,a,_⟩:=this;rw [d] at a;cases a
  | cO l=>obtain⟨b,a,_⟩:=this;rw [d] at a;cases a
  | mp ag ks vk es=>obtain⟨b,_,_,a,_⟩:=this;rw [d] at a;cases a
  | arr cs=>obtain⟨b,_,_,a,_⟩:=this;rw [d] at a;cases a
  | rows _ _ _ _ _ _=>obtain⟨_,_,a,_⟩:=this;rw [d] at a;cases a
  | dead=>obtain⟨⟨v,a,_⟩,_⟩:=this;rw [d] at a;cases a
theorem az.set:∀{d:List AV} {us:List Value} {k:Nat} {v:AV} {u:Value},az w A ρ d us->us[k]? =some u->ai w A ρ v u->az w A ρ (d.set k v) us
 | [],us,k,v,u,h,b,e=>by simp only [az] at h;subst h;simp at b
 | a::d,us,0,v,u,h,b,e=>by simp only [az] at h;obtain⟨x,r,rfl,g,f⟩:=h;simp only [RE,Qy] at b;subst b;simp only [S4,az];exact⟨_,_,rfl,e,f⟩
 | a::d,us,k+1,v,u,h,b,e=>by simp only [az] at h;obtain⟨x,r,rfl,g,f⟩:=h;simp only [RZ] at b;simp only [SL,az];exact⟨_,_,rfl,g,az.set f b e⟩
theorem Kr{b:Bool}{sz:Nat}{u:Value}{Q:Nat->Prop}(h:ay w A (.ae b) u):cI w A sz b [] u Q:=by
 simp only [ay] at h;rcases h with⟨rfl,rfl⟩ | ⟨rfl,af,off,sp,rfl⟩
 .exact⟨none,0,rfl,by simp,by simp,by simp, .inl rfl⟩
 .exact⟨some ⟨af,off,sp⟩,0,rfl,by simp,by simp,trivial, .inl rfl⟩
theorem uR{new i:Id}{k:Nat}{cs:List AV}{X:ad}{us:aB}{bb:Bool}(p:new.real=true)(hs:HS c w h ρ O)(q:h i=some (.box cs))
  (H:h new=none->∀u,ay w (AA c w O) (.ae bb) u->cP w (AA c w O) (aG ρ new (some u)) O new X) (o:cs[k]? =some (.t (.ae bb))\/(∃z,cs[k]? =some (.t (.ab z true []))/\bb=true))
  (e:(cond (h new).isNone (some [(new,X),(i,ad.box (cs.set k (.own new)))]) none)=some us):∃ρ' O',Le w ρ O w ρ' O'/\HS c w (aJ h us) ρ' O':=by
 obtain⟨b,arr,t,D,E,F,r,G⟩:=hs.af i _ q;cases m:h new with
 | some x=>rw [m] at e;simp at e
 | none=>
  rw [m] at e;simp only [Tv,cond_true,Qy] at e;subst e;have J:∃u,arr.toList[k]? =some u/\ay w (AA c w O) (.ae bb) u:=by
   rcases o with o | ⟨z,o,rfl⟩
   .obtain⟨u,l,f⟩:=r.get o;exact⟨u,l,by simpa [ai] using f⟩
   .obtain⟨u,l,f⟩:=r.get o;refine⟨u,l, ?_⟩;simp only [ai,ay] at f⊢;rcases f with⟨_,_,g⟩ | ⟨g,_⟩
    .exact .inl ⟨trivial,g⟩
    .cases g
  obtain⟨u,l,f⟩:=J;obtain⟨K,M⟩:=hs.cw new p m;have L:i≠new:=λe=>by rw [e,m] at q;cases q
  have le:Le w ρ O w (aG ρ new (some u)) O:=⟨rfl,rfl,rfl,QV _,λj v a=>by
   by_cases e:j=new
   .subst e;rw [K] at a;cases a
   .rw [au _ _ e];exact a,λ_ _ _=>rfl,λj b h=> .inl ⟨j,h⟩⟩
  refine⟨_,O,le, ?_⟩;rw [cM,dy];have B:=hs.real (i:=i) (by rw [q];simp);have C:GK w ρ O w (aG ρ new (some u)) O:=λj n=>⟨au _ _ (aO p),rfl,λ_ _=>rfl⟩;refine hs.go le C (λj x a=> ?_) (λj y a=> ?_) (λj a=> ?_) (λj n=>by rw [au _ _ (aO B),au _ _ (aO p)];exact hs.dG j n) hs.inj hs.lt
  .by_cases e:j=i
   .subst e;rw [aA] at a;cases a;right;refine⟨b,arr,t,le.eD _ _ D,E,F,az.set (az.mono (λb I=>le.A b I) le.eD _ _ r) l ?_,G⟩;simp only [ai];exact aA _ _ _
   .rw [au _ _ e] at a;by_cases d:j=new
    .subst d;rw [aA] at a;cases a;exact .inr (H m u f)
    .rw [au _ _ d] at a;exact .inl ⟨a,rfl,λ_ _=>rfl⟩
  .by_cases e:j=i
   .subst e;rw [aA] at a;cases a
   .rw [au _ _ e] at a;by_cases d:j=new
    .subst d;rw [aA] at a;cases a
    .rw [au _ _ d] at a;rw [au _ _ d];exact hs.cw j y a
  .by_cases e:j=i
   .subst e;rw [aA] at a;cases a
   .rw [au _ _ e] at a;by_cases d:j=new
    .subst d;rw [aA] at a;cases a
    .rw [au _ _ d] at a;exact a
theorem N5{new i:Id}{k sz col rsz:Nat}{us:aB}(a:new.real=true)(hs:HS c w h ρ O)(e:qQ h new i k sz col rsz=some us):∃ρ' O',Le w ρ O w ρ' O'/\HS c w (aJ h us) ρ' O':=by
 have j:∀{bb:Bool},h new=none->∀u,ay w (AA c w O) (.ae bb) u->cP w (AA c w O) (aG ρ new (some u)) O new (.rows bb sz col rsz 0 []):=by
  intro bb b u p;have o:mW (aG ρ new (some u)) O new 0 []:=⟨by simp,(λf b=>by cases b),λn _=>by rw [au _ _ (aO a)];exact(hs.fm new n b).1,λn d l=>by rw [(hs.fm new n b).2] at l;cases l⟩;simp only [ay] at p;rcases p with⟨rfl,rfl⟩ | ⟨rfl,af,off,sp,rfl⟩
  .exact⟨none,0,aA _ _ _,by simp,by simp,o, .inl rfl⟩
  .exact⟨some ⟨af,off,sp⟩,0,aA _ _ _,by simp,by simp,o, .inl rfl⟩
 unfold qQ at e;split at e
 .rename_i cs m;split at e
  .simp only [Qy] at e;subst e;exact⟨ρ,O,Le.refl,hs⟩
  .rename_i bb g;exact uR a hs m j (.inl g) e
  .rename_i z g;exact uR a hs m j (.inr ⟨z,g,rfl⟩) e
  .simp at e
 .simp at e
theorem NG{new i:Id}{k sz:Nat}{us:aB}(g:new.real=true)(hs:HS c w h ρ O)(e:nM h new i k sz=some us):∃ρ' O',Le w ρ O w ρ' O'/\HS c w (aJ h us) ρ' O':=by
 unfold nM at e;cases p:Nat.ble 100000 sz with
 | true=>rw [p] at e;exact N5 g hs e
 | false=>
 rw [p,cond_false] at e;split at e
 .rename_i cs q;obtain⟨b,arr,t,h1,h2,h3,V,h5⟩:=hs.af i _ q;have W:∀{bb:Bool},h new=none->∀u,ay w (AA c w O) (.ae bb) u->cP w (AA c w O) (aG ρ new (some u)) O new (.sl false sz bb []):=
   λ_ u hu=>⟨u,aA _ _ _,Kr hu,by simp⟩
  split at e
  .simp only [Qy] at e;subst e;exact⟨ρ,O,Le.refl,hs⟩
  .rename_i bb d;exact uR g hs q W (.inl d) e
  .rename_i z d;exact uR g hs q W (.inr ⟨z,d,rfl⟩) e
  .rename_i j sz' n d;split at e
   .rename_i sz'' bb xs l;split at e
    .rename_i G;obtain⟨rfl,rfl,X⟩:=G;cases C:h new with
     | some x=>rw [C] at e;simp at e
     | none=>
      rw [C] at e;simp only [Tv,cond_true,Qy] at e;subst e;obtain⟨u,g1,U⟩:=V.get d;obtain⟨n1,n2⟩:=hs.cw new g C;have hne:i≠new:=λe=>by rw [e,C] at q;cases q
      have hnj:j≠new:=λe=>by rw [e,C] at l;cases l
      obtain⟨v,T,⟨a,cap,rfl,f2,f3,_,N⟩,_⟩:=hs.af j _ l;simp only [ai] at U;obtain⟨a1,L,cap1,y,M,f,e3,rfl,R⟩:=U;rw [T] at M;simp only [Qy,RF] at M;obtain⟨rfl,rfl,rfl⟩:=M;have D:(xs.take n).length=n:=by rw [Rw];omega
      have ha:y=none↔a=none:=by
       rcases R with⟨_,rfl⟩ | ⟨_,h,_⟩ | ⟨_,_,rfl,rfl⟩
       .exact SP
       .exact h
       .simp
      have le:Le w ρ O w (aG ρ new (some (.slice y n (cap - 0)))) (aG (aG O j none) new (O j)):=by
       refine⟨rfl,rfl,rfl,QV _,λk v d=> ?_,λ_ _ _=>rfl,λk b d=> ?_⟩
       .by_cases e:k=new
        .subst e;rw [n1] at d;cases d
        .rw [au _ _ e];exact d
       .by_cases e:k=new
        .subst e;rw [aA] at d;exact .inl ⟨j,d⟩
        .rw [au _ _ e] at d;by_cases f:k=j
         .subst f;rw [aA] at d;cases d
         .rw [au _ _ f] at d;exact .inl ⟨k,d⟩
      have B:∀k b,aG (aG O j none) new (O j) k=some b->(k=new/\O j=some b)\/(k≠new/\k≠j/\O k=some b):=by
       intro k b d;by_cases e:k=new
       .subst e;rw [aA] at d;exact .inl ⟨rfl,d⟩
       .rw [au _ _ e] at d;by_cases f:k=j
        .subst f;rw [aA] at d;cases d
        .rw [au _ _ f] at d;exact .inr ⟨e,f,d⟩
      refine⟨_,_,le, ?_⟩;rw [cM,cM,dy];have hri:=hs.real (i:=i) (by rw [q];simp);have J:=hs.real (i:=j) (by rw [l];simp);have gk:GK w ρ O w (aG ρ new (some (.slice y n (cap - 0)))) (aG (aG O j none) new (O j)):=λk m=>⟨au _ _ (aO g),by rw [au _ _ (aO g),au _ _ (aO J)],λ_ _=>rfl⟩;refine hs.go le gk (λk x d=> ?_) (λk Z d=> ?_) (λk d=> ?_) (λk m=>by rw [au _ _ (aO hri),au _ _ (aO g),au _ _ (aO J)];exact hs.dG k m) (λk Q b d Y=> ?_) (λk b d=> ?_)
      .by_cases e:k=i
       .subst e;rw [aA] at d;cases d;right;refine⟨b,arr,t,le.eD _ _ h1,by rw [au _ _ hne,au _ _ (Th X)];exact h2,h3,az.set (az.mono (λb p=>le.A b p) le.eD _ _ V) g1 ?_,h5⟩;simp only [ai];exact aA _ _ _
       .rw [au _ _ e] at d;by_cases f:k=new
        .subst f;rw [aA] at d;cases d;right;refine⟨_,aA _ _ _,⟨y,cap,by rw [D];rfl,by rw [D];omega,by rw [ha];exact f3,trivial, ?_⟩,by simp⟩;rcases N with N | ⟨af,off,K,t',E,F,q3,q4,q5⟩
         .exact .inl N
         .by_cases I:cap=0
          .exact .inl I
          .right;subst E;have:y=some ⟨af,off,none⟩:=by
            rcases R with⟨_,rfl⟩ | ⟨h,_⟩ | ⟨b',o,S,rfl⟩
            .rfl
            .exact absurd h.symm I
            .simp only [Qy,RA] at S;obtain⟨rfl,rfl,_⟩:=S;simp
           refine⟨af,off,K,t',this, ?_,q3,q4,(bd.mr (λb p=>le.A b p) af _ rfl off xs q5).take n⟩;simp only [Q9,if_false] at F⊢;rw [aA];exact F
        .rw [au _ _ f] at d;by_cases e3:k=j
         .subst e3;rw [aA] at d;cases d;exact .inr ⟨⟨_,le.eD _ _ T,rfl,rfl⟩,by rw [au _ _ hnj,aA]⟩
         .rw [au _ _ e3] at d;exact .inl ⟨d,by rw [au _ _ f,au _ _ e3],λ_ _=>rfl⟩
      .by_cases e:k=i
       .subst e;rw [aA] at d;cases d
       .rw [au _ _ e] at d;by_cases f:k=new
        .subst f;rw [aA] at d;cases d
        .rw [au _ _ f] at d;by_cases e3:k=j
         .subst e3;rw [aA] at d;cases d
         .rw [au _ _ e3] at d;rw [au _ _ f,au _ _ f,au _ _ e3];exact hs.cw k Z d
      .by_cases e:k=i
       .subst e;rw [aA] at d;cases d
       .rw [au _ _ e] at d;by_cases f:k=new
        .subst f;rw [aA] at d;cases d
        .rw [au _ _ f] at d;by_cases e3:k=j
         .subst e3;rw [aA] at d;cases d
         .rw [au _ _ e3] at d;exact d
      .rcases B k b d with⟨rfl,r⟩ | ⟨p0,r,H⟩ <;> rcases B Q b Y with⟨rfl,E⟩ | ⟨q0,E,F⟩
       .rfl
       .exact(E (hs.inj Q j b F r)).elim
       .exact(r (hs.inj k j b H E)).elim
       .exact hs.inj k Q b H F
      .rcases B k b d with⟨rfl,r⟩ | ⟨p0,r,H⟩
       .exact hs.lt j b r
       .exact hs.lt k b H
    .simp at e
   .simp at e
  .simp at e
 .simp at e
theorem N4{new i x:Id}{k sz col rsz:Nat}{us:aB}(e:qQ h new i k sz col rsz=some us)(a:h x=none)(l:x≠new):aJ h us x=none:=by
 unfold qQ at e;split at e
 .rename_i cs j;have g:x≠i:=λe=>by rw [e,j] at a;cases a
  have d:∀{b:Bool},(cond (h new).isNone (some [(new,ad.rows b sz col rsz 0 []),(i,ad.box (cs.set k (.own new)))]) none)=some us->aJ h us x=none:=by
   intro b e;cases f:(h new).isNone with
   | false=>rw [f] at e;simp at e
   | true=>rw [f] at e;simp only [cond_true,Qy] at e;subst e;rw [cM,dy,au _ _ g,au _ _ l];exact a
  split at e
  .simp only [Qy] at e;subst e;exact a
  .exact d e
  .exact d e
  .simp at e
 .simp at e
theorem NF{new i x:Id}{k sz:Nat}{us:aB}(e:nM h new i k sz=some us)(a:h x=none)(l:x≠new):aJ h us x=none:=by
 unfold nM at e;cases m:Nat.ble 100000 sz with
 | true=>rw [m] at e;exact N4 e a l
 | false=>
 rw [m,cond_false] at e;split at e
 .rename_i cs q;have g:x≠i:=λe=>by rw [e,q] at a;cases a
  have f:∀{b:Bool},(cond (h new).isNone (some [(new,ad.sl false sz b []),(i,ad.box (cs.set k (.own new)))]) none)=some us->aJ h us x=none:=by
   intro b e;cases d:(h new).isNone with
   | false=>rw [d] at e;simp at e
   | true=>rw [d] at e;simp only [cond_true,Qy] at e;subst e;rw [cM,dy,au _ _ g,au _ _ l];exact a
  split at e
  .simp only [Qy] at e;subst e;exact a
  .exact f e
  .exact f e
  .rename_i j t n u;split at e
   .rename_i r bb xs o;have p:x≠j:=λe=>by rw [e,o] at a;cases a
    split at e
    .cases d:(h new).isNone with
     | false=>rw [d] at e;simp at e
     | true=>rw [d] at e;simp only [cond_true,Qy] at e;subst e;rw [cM,cM,dy,au _ _ g,au _ _ l,au _ _ p];exact a
    .simp at e
   .simp at e
  .simp at e
 .simp at e
theorem zl{nm:Nat}:∀{l:List (Id×Nat×Nat)} {j:Nat} {h:Id->Option ad} {ρ:Id->Option Value} {O:Id->Option Nat} {us:aB},HS c w h ρ O->jA nm j h l=some us->∃ρ' O',Le w ρ O w ρ' O'/\HS c w (aJ h us) ρ' O'
 | [],j,h,ρ,O,us,hs,e=>by simp only [jA,Qy] at e;subst e;exact⟨ρ,O,Le.refl,hs⟩
 | (i,k,sz)::l,j,h,ρ,O,us,hs,e=>by simp only [jA] at e;obtain⟨q,m,e⟩:=Qz.1 e;obtain⟨r,n,e⟩:=Qz.1 e;simp only [Qy] at e;subst e;obtain⟨o,p,cn,a⟩:=NG rfl hs m;obtain⟨f,g,d,b⟩:=zl a n;exact⟨f,g,cn.trans d,by rw [lr];exact b⟩
theorem Fm{nm:Nat}{x:Id}(b:∀k,x≠ .s nm k):∀{l:List (Id×Nat×Nat)} {j:Nat} {h:Id->Option ad} {us:aB},jA nm j h l=some us->h x=none->aJ h us x=none
 | [],j,h,us,e,a=>by simp only [jA,Qy] at e;subst e;exact a
 | (i,k,sz)::l,j,h,us,e,a=>by simp only [jA] at e;obtain⟨g,d,e⟩:=Qz.1 e;obtain⟨m,f,e⟩:=Qz.1 e;simp only [Qy] at e;subst e;rw [lr];exact Fm b f (NF d a (b j))
end
open Go Go.IntKind
section
variable {P:Program} {w w':World} {A A':Nat->Prop} {c:Ctx} {ρ:Id->Option Value} {O:Id->Option Nat} {s:St} {cc:Option Bool} {h:Id->Option ad}
theorem vG{k:Ck}{x:T}(a:dH k x=true):ay w A x (dx x):=by cases x <;> cases k <;> simp_all [dH,ay,dx]
theorem zd:∀{ks:List Ck} {xs:List T},cb ks xs=true->aS w A xs (xs.map dx)
 | [],[],_=>rfl
 | k::ks,x::xs,a=>by simp only [cb,QF] at a;exact⟨_,_,rfl,vG a.1,zd a.2⟩
 | [],_::_,a=>by simp [cb] at a
 | _::_,[],a=>by simp [cb] at a
theorem zb:∀{ks:List Ck} {xs:List T},cb ks xs=true->xs.length=ks.length
 | [],[],_=>rfl
 | k::ks,x::xs,a=>by simp only [cb,QF] at a;simp [zb a.2]
 | [],_::_,a=>by simp [cb] at a
 | _::_,[],a=>by simp [cb] at a
theorem wE{R:Type}{k:Ck}{x:T}{v:Value}{K:T->Option R}{r:R}(e:cc=none\/cc=some true)(hs:lV k=true)(a:ay w A x v)(h:eT k cc x K=some r):
  ∃y,K y=some r/\dH k y=true/\v=dx y:=by
 unfold eT at h;cases k with
 | i k=>simp only at h;replace h:=aM h e;obtain⟨n,d,h⟩:=h;rw [T.fK d] at a;exact⟨_,h,by simp [dH],by simpa [ay,dx] using a⟩
 | b=>simp only at h;replace h:=aM h e;obtain⟨n,d,h⟩:=h;rw [T.ir d] at a;exact⟨_,h,by simp [dH],by simpa [ay,dx] using a⟩
 | s=>simp only at h;replace h:=aM h e;obtain⟨n,d,h⟩:=h;rw [T.jI d] at a;exact⟨_,h,by simp [dH],by simpa [ay,dx] using a⟩
 | l _=>simp [lV] at hs
 | x=>simp [lV] at hs
theorem Ab{R:Type}(d:cc=none\/cc=some true):∀{ks:List Ck} {xs:List T} {vs:List Value} {K:List T->Option R} {r:R},ks.all lV=true->xs.length=ks.length->aS w A xs vs->eM cc ks xs K=some r->
  ∃b,K b=some r/\cb ks b=true/\vs=b.map dx
 | [],[],vs,K,r,_,_,a,h=>⟨[],h,rfl,by simpa [aS] using a⟩
 | [],_::_,vs,K,r,_,hl,a,h=>by simp at hl
 | _::_,[],vs,K,r,_,hl,a,h=>by simp at hl
 | k::ks,x::xs,vs,K,r,hs,hl,a,h=>by obtain⟨v,q,rfl,j,l⟩:=a;simp only [RX,QF] at hs;simp only [eM] at h;obtain⟨y,h,e,f⟩:=wE d hs.1 j h;obtain⟨b,h,g,i⟩:=Ab d hs.2 (by simpa using hl) l h;exact⟨y::b,h,by simp [cb,e,g],by rw [f,i];rfl⟩
theorem Ea{k:TypeId}{q:Bool×List Ck}(h:jW P k=some q):q.2.all lV=true/\(q.1=false->q.2.length=1):=by
 unfold jW at h;split at h
 .simp only [Qy] at h;subst h;simp [lV]
 .simp only [Qy] at h;subst h;simp [lV]
 .split at h
  .split at h
   .simp only [Qy] at h;subst h;refine⟨?_,by simp⟩;rw [QU];intro b a;rw [TC a];rfl
   .cases h
  .cases h
 .cases h
theorem yJ{R:Type}{k:TypeId}{v:AV}{u:Value}{K:Bool->List Ck->List T->Option R}{r:R}(j:cc=none\/cc=some true)(g:ai w A ρ v u)(h:nC P k cc v K=some r):
  ∃ag ks cs,K ag ks cs=some r/\jW P k=some (ag,ks)/\cb ks cs=true/\u=cZ ag cs:=by
 unfold nC at h;obtain⟨q,f,h⟩:=Qz.1 h;obtain⟨p,m⟩:=q;have a:=Ea f;simp only at h a;split at h
 .rename_i x _;obtain⟨i,h,b,d⟩:=Ab (vs:= [u]) j a.1 (by simpa using (a.2 rfl).symm) (show aS w A [x] [u] from⟨u,[],rfl,by simpa [ai] using g,rfl⟩) h;refine⟨false,m,i,h,f,b, ?_⟩;unfold cZ;rw [<-d];rfl
 .rename_i vs _;obtain⟨l,hl,h⟩:=Qz.1 h;split at h
  .rename_i e;simp only [ai] at g;obtain⟨t,rfl,n,o⟩:=g;obtain⟨i,h,b,d⟩:=Ab j a.1 e (aS.kc hl n) h;refine⟨true,m,i,h,f,b, ?_⟩;unfold cZ;rw [d];rfl
  .cases h
 .cases h
theorem HL{a b:ByteArray}(e:(a==b)=true):a=b:=by
 cases a with
 | mk x=>cases b with
  | mk y=>have e':(x==y)=true:=e;rw [eq_of_beq e']
theorem KA{k:Ck}{x y:T}(a:dH k x=true)(b:dH k y=true)(e:me x y=true):x=y:=by
 cases x <;> cases k <;> simp [dH] at a <;> cases y <;> simp [dH] at b <;> simp [me] at e
 .subst a;subst b;subst e;rfl
 .subst e;rfl
 .rw [HL e]
theorem C5:∀{ks:List Ck} {xs d:List T},cb ks xs=true->cb ks d=true->dV xs d=true->xs=d
 | [],[],[],_,_,_=>rfl
 | k::ks,x::xs,y::d,a,b,e=>by simp only [cb,QF] at a b;simp only [dV,QF] at e;rw [KA a.1 b.1 e.1,C5 a.2 b.2 e.2]
 | [],_::_,_,a,_,_=>by simp [cb] at a
 | [],[],_::_,_,b,_=>by simp [cb] at b
 | _::_,[],_,a,_,_=>by simp [cb] at a
 | _::_,_::_,[],_,b,_=>by simp [cb] at b
theorem Kx{t:TypeId}{i:IntKind}(d:P.underlying t=some (.int i)){x y:T}(a:dH (.i i) x=true)(b:dH (.i i) y=true){R:Type}(K:Bool->Option R):kJ P none t x y K=K (me x y):=by cases x <;> simp [dH] at a;cases y <;> simp [dH] at b;subst a;subst b;simp [kJ,d,aa,T.int?,me]
theorem C0{e:TypeId}{i:IntKind}(f:P.underlying e=some (.int i)){R:Type}:∀(n:Nat) (xs d:List T) (K:Bool->Option R),cb (List.replicate n (.i i)) xs=true->cb (List.replicate n (.i i)) d=true->et P none (List.replicate n e) xs d K=K (dV xs d)
 | 0,[],[],K,_,_=>rfl
 | n+1,x::xs,y::d,K,a,b=>by simp only [RS,cb,QF] at a b;simp only [RS,et,dV];rw [Kx f a.1 b.1,C0 f n xs d _ a.2 b.2]
 | 0,_::_,_,_,a,_=>by simp [cb] at a
 | 0,[],_::_,_,_,b=>by simp [cb] at b
 | n+1,[],_,_,a,_=>by simp [RS,cb] at a
 | n+1,_::_,[],_,_,b=>by simp [RS,cb] at b
theorem sv{ag:Bool}{ks:List Ck}{cs:List T}(b:ag=false->ks.length=1)(h:cb ks cs=true)(a:ag=false):∃x,cs= [x]/\cZ ag cs=dx x:=by have hl:=zb h;rw [b a] at hl;obtain⟨x,rfl⟩:=Sw.1 hl;exact⟨x,rfl,by rw [a];rfl⟩
theorem KB{k:TypeId}{ag:Bool}{ks:List Ck}(f:jW P k=some (ag,ks)){a b:List T}(g:cb ks a=true)(j:cb ks b=true)(w:World):
  (Op.equal k (cZ ag a) (cZ ag b)).run P w= .ok (dV a b) w:=by
 unfold jW at f;split at f
 .rename_i i l;simp only [Qy,Rk] at f;obtain⟨rfl,rfl⟩:=f;obtain⟨x,rfl,ex⟩:=sv (ag:=false) (by simp) g rfl;obtain⟨y,rfl,r⟩:=sv (ag:=false) (by simp) j rfl;rw [ex,r];simp only [cb,R1] at g j;have key:∀d (p q:Int),(Op.equalIn (d+1) k (.int i p) (.int i q)).run P w= .ok (p==q) w:=λd p q=>by simp [Op.equalIn,run_underlying l]
  cases x <;> simp [dH] at g;cases y <;> simp [dH] at j;rename_i D E;subst g;subst j;rw [show ∀a b:T,dV [a] [b]=me a b from λa b=>by simp [dV]];exact key 9999 _ _
 .rename_i l;simp only [Qy,Rk] at f;obtain⟨rfl,rfl⟩:=f;obtain⟨x,rfl,ex⟩:=sv (ag:=false) (by simp) g rfl;obtain⟨y,rfl,r⟩:=sv (ag:=false) (by simp) j rfl;rw [ex,r];simp only [cb,R1] at g j;cases x <;> simp [dH] at g;cases y <;> simp [dH] at j;rename_i p q;have:∀d,(Op.equalIn (d+1) k (.string p) (.string q)).run P w= .ok (p==q) w:=λd=>by simp [Op.equalIn,run_underlying l]
  rw [show ∀a b:T,dV [a] [b]=me a b from λa b=>by simp [dV]];exact this 9999
 .rename_i n e l;split at f
  .rename_i i m;split at f
   .rename_i o;simp only [Qy,Rk] at f;obtain⟨rfl,rfl⟩:=f;have B:fk P 7 e=some [e]:=by simp [fk,m]
    have z:fk P 8 k=some (List.replicate n e):=by
     simp only [fk,l,m,QD,QM,o.1,if_true];congr 1;induction n with
     | zero=>rfl
     | succ n C=>simp [RS]
    obtain⟨bb,t,v⟩:=yf (P:=P) (w:=w) (A:=λ_=>True) 8 k _ z 10000 (by omega) Bool none (.inl rfl) a b (a.map dx) (b.map dx) (λb=>some b) _ (zd g) (zd j) (C0 m n a b _ g j);have u:bD P k=true:=by simp [bD,l]
    simp only [Qy] at t;subst t;simpa [jL,u,cZ,Op.equal,Op.maxDepth] using v
   .cases f
  .cases f
 .cases f
theorem uL{k:TypeId}{ag:Bool}{ks:List Ck}(v:jW P k=some (ag,ks)){a:List T}(t:cb ks a=true)(w:World):∀(b:List MapEntry) (es:List (List T×T)) (j:Nat),b.map (λe=>(e.key,e.val))=es.map (λp=>(cZ ag p.1,dx p.2))->(∀p∈es,cb ks p.1=true)->
  ((Instr.findAsking k (cZ ag a) b j).run P w= .ok none w/\fU a es=none)\/∃i x e p,(Instr.findAsking k (cZ ag a) b j).run P w= .ok (some (j+i,dx x)) w/\fU a es=some x/\b[i]? =some e/\es[i]? =some p/\dV a p.1=true/\(∀i' l,i' < i->es[i']? =some l->dV a l.1=false)
 | [],[],j,_,_=> .inl ⟨by simp [Instr.findAsking],rfl⟩
 | [],_::_,j,h,_=>by simp at h
 | _::_,[],j,h,_=>by simp at h
 | e::b,(q,x)::es,j,h,m=>by
  simp only [Rc,RH,Rk] at h;obtain⟨⟨r,F⟩,G⟩:=h;have d:=KB v t (m _ QA) w;simp only at d;cases f:dV a q
  .rw [f] at d;rcases uL v t w b es (j+1) G (λp H=>m p (QB _ H)) with⟨n,o⟩ | ⟨i,y,e',l,n,o,B,C,D,E⟩
   .exact .inl ⟨by simp [Instr.findAsking,r,d,n],by simp [fU,f,o]⟩
   .refine .inr ⟨i+1,y,e',l,by simp [Instr.findAsking,r,d,n];omega,by simp [fU,f,o],by simpa using B,by simpa using C,D, ?_⟩;intro i' z u g;cases i' with
    | zero=>simp at g;subst g;exact f
    | succ i'=>exact E i' z (by omega) (by simpa using g)
  .rw [f] at d;exact .inr ⟨0,x,e,(q,x),by simp [Instr.findAsking,r,d,F],by simp [fU,f],rfl,rfl,f,λi' _ u=>by omega⟩
theorem FZ{f:Nat->Sem Unit}:∀(l:List Nat),(∀i∈l,(f i).run P w= .ok () w)->(forIn l PUnit.unit λi _=>do f i;pure (ForInStep.yield PUnit.unit)).run P w= .ok PUnit.unit w
 | [],_=>by simp
 | i::l,h=>by simp only [List.forIn_cons,QY,h i QA,QO,Rj];have:=FZ (f:=f) l λj a=>h j (QB _ a);simpa using this
theorem xm{k:TypeId}{ag:Bool}{ks:List Ck}(f:jW P k=some (ag,ks)){a:List T}(p:cb ks a=true)(em:Bool)(w:World):
  (Instr.checkKey em 10000 k (cZ ag a)).run P w= .ok () w:=by
 unfold jW at f;split at f
 .rename_i i g;have:∀d,(Instr.checkKey em (d+1) k (cZ ag a)).run P w= .ok () w:=λd=>by simp [Instr.checkKey,run_underlying g]
  exact this 9999
 .rename_i g;have:∀d,(Instr.checkKey em (d+1) k (cZ ag a)).run P w= .ok () w:=λd=>by simp [Instr.checkKey,run_underlying g]
  exact this 9999
 .rename_i n e g;split at f
  .rename_i i l;split at f
   .rename_i b;simp only [Qy,Rk] at f;obtain⟨rfl,rfl⟩:=f;have m:bX P e=true:=by simp [bX,l]
    have t:bD P e=false:=by simp [bD,l]
    have hl:=zb p;rw [R8] at hl;have one:∀d v,(Instr.checkKey em (d+1) e v).run P w= .ok () w:=λd v=>by simp [Instr.checkKey,run_underlying l]
    have r:∀d,∀j∈List.range' 0 n 1,(do Instr.checkKey em (d+1) e (<-part e (a.map dx).toArray (j * (<-sizeOf e)))).run P w= .ok () w:=by
     intro d j o;have o:j < n:=by simpa using o
     have:=tc (P:=P) m (a.map dx).toArray (j * 1) (λ_=>b.1) (by simp [b.1,hl];omega) w;simp only [QY,iD m,QO,b.1,this,one d]
    have q:∀d,(Instr.checkKey em (d+2) k (cZ true a)).run P w= .ok () w:=by intro d;have:=FZ (P:=P) (w:=w) _ (r d);rw [Instr.checkKey];simp only [cZ,cond_true,QY,run_underlying g,QO];simp only [Std.Legacy.Range.forIn_eq_forIn_range',Std.Legacy.Range.size,Nat.sub_zero,Nat.add_one_sub_one,Nat.div_one];simp at this;simp [this]
    exact q 9998
   .cases f
  .cases f
 .cases f
theorem De{g:TypeId}{d:TypeDesc}(f:P.underlying g=some d)(k:Value):∀(es:List MapEntry) (j:Nat) (r:Option (Nat×Value)),Instr.findNow d k es j=some r->(Instr.findAsking g k es j).run P w= .ok r w
 | [],j,r,h=>by simp [Instr.findNow] at h;subst h;simp [Instr.findAsking]
 | e::es,j,r,h=>by
  have key:∀b,Instr.sameNow d k e.key=some b->(Op.equal g k e.key).run P w= .ok b w:=by
   intro b a;generalize e.key=ek at a⊢;have:∀n,(Op.equalIn (n+1) g k ek).run P w= .ok b w:=by
    intro n;unfold Instr.sameNow at a;split at a
    .split at a
     .rename_i i;simp only [Qy] at a;subst a;subst i;simp [Op.equalIn,run_underlying f]
     .cases a
    .simp only [Qy] at a;subst a;simp [Op.equalIn,run_underlying f]
    .simp only [Qy] at a;subst a;simp [Op.equalIn,run_underlying f]
    .cases a
   exact this 9999
  simp only [Instr.findNow] at h;split at h
  .rename_i a;simp only [Qy] at h;subst h;simp [Instr.findAsking,key _ a]
  .rename_i a;simp [Instr.findAsking,key _ a,De f k es (j+1) r h]
  .cases h
theorem qt{a:TypeId}{d:TypeDesc}(b:P.underlying a=some d)(k:Value)(es:List MapEntry)(r:Option (Nat×Value))(h:(Instr.findAsking a k es 0).run P w= .ok r w):(Instr.findKey a k es).run P w= .ok r w:=by
 unfold Instr.findKey;simp only [QY,run_underlying b,QO];cases e:Instr.findNow d k es 0 with
 | none=>simpa using h
 | some f=>have:=De (w:=w) b k es 0 f e;rw [this] at h;simpa using h
theorem yK{k:TypeId}{q:Bool×List Ck}(h:jW P k=some q):∃d,P.underlying k=some d:=by
 unfold jW at h;split at h
 .exact⟨_,by assumption⟩
 .exact⟨_,by assumption⟩
 .exact⟨_,by assumption⟩
 .cases h
theorem yS{t:TypeId}{q:TypeId×TypeId}(h:qG P t=some q):P.underlying t=some (.map q.1 q.2):=by
 unfold qG at h;split at h
 .rename_i k e b;cases a:bX P k && bX P e
  .simp [a] at h
  .simp only [a,cond_true,Qy] at h;subst h;exact b
 .cases h
theorem Qx{t:TypeId}{z:T}(h:Ak P t=some z):∃v,(zeroValue t).run P w= .ok v w/\ay w A z v:=by
 unfold Ak at h;split at h
 .rename_i i a;split at h
  .rename_i v b;refine⟨v, ?_,E0 h⟩;simp [zeroValue,typeInfo,run_program,a,b]
  .cases h
 .cases h
theorem y0{i:Id}{ag:Bool}{ks:List Ck}{vk:Ck}{es:List (List T×T)}(hs:HS c w s.h ρ O)(m:s.h i=some (.mp ag ks vk es)):∃b d a,ρ i=some (.map (some b))/\O i=some b/\w.heap[b]? =some (.map d a)/\
   d.toList.map (λe=>(e.key,e.val))=es.map (λp=>(cZ ag p.1,dx p.2))/\(∀p∈es,cb ks p.1=true/\dH vk p.2=true):=by
 obtain⟨b,d,a,f,g,j,k,l⟩:=hs.af i _ m;exact⟨b,d,a,f,g,j,k,λp n=>by simpa using QU.1 l p n⟩
theorem Dd{a:List T}:∀{es:List (List T×T)} {x:T},fU a es=some x->∃p∈es,p.2=x
 | [],x,h=>by simp [fU] at h
 | (k,v)::r,x,h=>by
  simp only [fU] at h;cases b:dV a k
  .rw [b,cond_false] at h;obtain⟨p,d,e⟩:=Dd h;exact⟨p,QB _ d,e⟩
  .rw [b,cond_true] at h;simp only [Qy] at h;exact⟨_,QA,h⟩
theorem Lz{R:Type}{t:TypeId}{x key:AV}{ok:Bool}{U vk:Value}{K:AV->Option R}{r:R}(hs:HS c w s.h ρ O)(m:ai w (AA c w O) ρ x U)(G:ai w (AA c w O) ρ key vk)(F:cc=none\/cc=some true)
  (h:mq P s cc t x key ok K=some r):∃H v,K H=some r/\(Instr.lookup t U vk ok).run P w= .ok v w/\ai w (AA c w O) ρ H v:=by
 unfold mq at h;obtain⟨q,hq,h⟩:=Qz.1 h;obtain⟨z,hz,h⟩:=Qz.1 h;obtain⟨ag,ks,cs,h,g,o,rfl⟩:=yJ F G h;split at h
 .rename_i i;split at h
  .rename_i ag' ks' T es Z;split at h
   .rename_i l;obtain⟨rfl,rfl,hvk,B,_⟩:=l;obtain⟨b,a,V,X,g2,I,Y,J⟩:=y0 hs Z;simp only [ai] at m;rw [X] at m;simp only [Qy] at m;subst m;obtain⟨zv,Q,S⟩:=Qx (w:=w) (A:=AA c w O) hz;obtain⟨d,L⟩:=yK g;have N:=yS hq;have n:=xm g o a.isEmpty w;rcases uL g o w a.toList es 0 Y (λp hp=>(J p hp).1) with⟨E,k⟩ | ⟨j,y,e,p,E,k,f3,f4,f5,f6⟩
    .have f:=qt L _ _ _ E;rw [k] at h;simp only [Tz,Option.isSome_none] at h;obtain⟨u,h,C,D⟩:=wE F B S h;refine⟨_,cond ok (.tuple #[zv, .bool false]) zv,h, ?_, ?_⟩
     .cases ok <;> simp [Instr.lookup,run_underlying N,Sf I,n,f,Q]
     .have:ay w (AA c w O) u zv:=by rw [D];exact vG C
      cases ok
      .simpa [ai] using this
      .simp only [cond_true,ai];exact⟨[zv, .bool false],rfl,by simp only [az,ai];exact⟨zv,[.bool false],rfl,this, .bool false,[],rfl,by simp [ay],rfl⟩⟩
    .have f:=qt L _ _ _ E;rw [k] at h;simp only [Sj,Option.isSome_some] at h;obtain⟨p',M,W⟩:=Dd k;have hy:dH T y=true:=by rw [<-W];exact(J p' M).2
     obtain⟨u,h,C,D⟩:=wE F B (vG (w:=w) (A:=AA c w O) hy) h;refine⟨_,cond ok (.tuple #[dx y, .bool true]) (dx y),h, ?_, ?_⟩
     .cases ok <;> simp [Instr.lookup,run_underlying N,Sf I,n,f]
     .have:ay w (AA c w O) u (dx y):=by rw [D];exact vG C
      cases ok
      .simpa [ai] using this
      .simp only [cond_true,ai];exact⟨[dx y, .bool true],rfl,by simp only [az,ai];exact⟨dx y,[.bool true],rfl,this, .bool true,[],rfl,by simp [ay],rfl⟩⟩
   .cases h
  .cases h
 .cases h
theorem HM(a:ByteArray):(a==a)=true:=by
 cases a with
 | mk x=>show(x==x)=true;simp
theorem Ge{k:Ck}{x:T}(h:dH k x=true)(n:Nat):Instr.sameBits n (dx x) (dx x)=true:=by cases x <;> cases k <;> simp [dH] at h <;> cases n <;> simp [Instr.sameBits,dx,HM]
theorem PF{ag:Bool}{ks:List Ck}(a:ag=false->ks.length=1){cs:List T}(h:cb ks cs=true)(n:Nat):Instr.sameBits (n+1) (cZ ag cs) (cZ ag cs)=true:=by
 cases ag with
 | false=>
  obtain⟨x,rfl,e⟩:=sv a h rfl;rw [e];cases ks with
  | nil=>simp [cb] at h
  | cons k ks=>simp only [cb,QF] at h;exact Ge h.1 _
 | true=>
  simp only [cZ,cond_true,Instr.sameBits,beq_self_eq_true,RB];clear a;induction ks generalizing cs with
  | nil=>cases cs with
   | nil=>rfl
   | cons x cs=>simp [cb] at h
  | cons k ks b=>cases cs with
   | nil=>simp [cb] at h
   | cons x cs=>simp only [cb,QF] at h;have:=b h.2;simp only [Rc,List.zip_cons_cons,RX,Ge h.1,RB];simpa using this
theorem PY{ag:Bool}{ks:List Ck}(a:ag=false->ks.length=1){cs:List T}(h:cb ks cs=true):(Instr.keyThatStays (cZ ag cs) (cZ ag cs)).run P w= .ok (cZ ag cs) w:=by unfold Instr.keyThatStays;have:Instr.sameBits 10000 (cZ ag cs) (cZ ag cs)=true:=PF a h 9999;simp [this]
theorem Fu{a:List T}{v:T}:∀{es:List (List T×T)},fU a es=none->hJ a v es=es++ [(a,v)]
 | [],_=>rfl
 | (k,x)::r,h=>by
  simp only [fU] at h;cases b:dV a k
  .rw [b,cond_false] at h;simp [hJ,b,Fu h]
  .simp [b] at h
theorem Fv{a:List T}{v:T}:∀{es:List (List T×T)} {i:Nat} {p:List T×T},es[i]? =some p->dV a p.1=true->(∀i' d,i' < i->es[i']? =some d->dV a d.1=false)->hJ a v es=es.set i (a,v)
 | [],i,p,h,_,_=>by simp at h
 | (k,x)::r,0,p,h,b,_=>by simp at h;subst h;simp only at b;simp [hJ,b]
 | (k,x)::r,i+1,p,h,b,e=>by have f:dV a k=false:=e 0 (k,x) (by omega) rfl;have:=Fv (v:=v) (es:=r) (i:=i) (p:=p) (by simpa using h) b λi' d j g=>e (i'+1) d (by omega) (by simpa using g);simp [hJ,f,this]
theorem zo{ks:List Ck}{vk:Ck}{a:List T}{v:T}(d:cb ks a=true)(e:dH vk v=true):∀{es:List (List T×T)},(∀p∈es,cb ks p.1=true/\dH vk p.2=true)->∀p∈hJ a v es,cb ks p.1=true/\dH vk p.2=true
 | [],_,p,b=>by simp [hJ] at b;subst b;exact⟨d,e⟩
 | (k,x)::r,h,p,b=>by
  simp only [hJ] at b;cases f:dV a k
  .rw [f,cond_false] at b;rcases QN.1 b with rfl | b
   .exact h _ QA
   .exact zo d e (λq g=>h q (QB _ g)) p b
  .rw [f,cond_true] at b;rcases QN.1 b with rfl | b
   .exact⟨d,e⟩
   .exact h p (QB _ b)
theorem HS.wI{i:Id}{b:Nat}{f ents':Array MapEntry}{d clock':Nat}{ag:Bool}{ks:List Ck}{vk:Ck}{es':List (List T×T)}{j:Id->Option ad}(hs:HS c w j ρ O)(q:j i≠none)
  (m:ρ i=some (.map (some b))) (g:O i=some b) (l:w.heap[b]? =some (.map f d)) (n:ents'.toList.map (λe=>(e.key,e.val))=es'.map (λp=>(cZ ag p.1,dx p.2))) (o:∀p∈es',cb ks p.1=true/\dH vk p.2=true):
  Le w ρ O {w with heap:=w.heap.setIfInBounds b (.map ents' clock')} ρ O/\HS c {w with heap:=w.heap.setIfInBounds b (.map ents' clock')} (aG j i (some (.mp ag ks vk es'))) ρ O:=by
 have a:∀k,k≠b->(w.heap.setIfInBounds b (.map ents' clock'))[k]? =w.heap[k]?:=λk r=>Go.ChangeMaps.heap_setBlock_other l _ r;have le:Le w ρ O {w with heap:=w.heap.setIfInBounds b (.map ents' clock')} ρ O:=Le.write g rfl rfl rfl (by simp) a;refine⟨le,hs.write g le a _ ?_ q⟩;exact⟨b,ents',clock',m,g,Go.ChangeMaps.heap_setBlock_same l _,n,by rw [QU];exact λp t=>by simpa using o p t⟩
theorem NQ{R:Type}{t:TypeId}{x key v:AV}{vx vk B:Value}{K:aB->Option R}{r:R}(hs:HS c w s.h ρ O)(G:ai w (AA c w O) ρ x vx)(U:ai w (AA c w O) ρ key vk)(W:ai w (AA c w O) ρ v B)
  (h:mA P s t x key v K=some r):∃us w',K us=some r/\(Instr.mapUpdate t vx vk B).run P w= .ok () w'/\Le w ρ O w' ρ O/\HS c w' (aJ s.h us) ρ O:=by
 unfold mA at h;obtain⟨q,hq,h⟩:=Qz.1 h;obtain⟨ag,ks,cs,h,n,g,rfl⟩:=yJ (cc:=none) (.inl rfl) U h;split at h
 .rename_i i;split at h
  .rename_i f J L es T;split at h
   .rename_i F;obtain⟨rfl,rfl,hvk,hsc⟩:=F;obtain⟨y,hy,h⟩:=Qz.1 h;rw [AV.lf hy] at W;simp only [ai] at W;obtain⟨u,h,Y,Z⟩:=wE (cc:=none) (.inl rfl) hsc W h;obtain⟨b,a,l,Q,g2,o,D,E⟩:=y0 hs T;simp only [ai] at G;rw [Q] at G;simp only [Qy] at G;subst G;obtain⟨d,hd⟩:=yK n;have hu:=yS hq;have H:=xm n g false w;have hag:=(Ea n).2;rcases uL n g w a.toList es 0 D (λp hp=>(E p hp).1) with⟨M,f2⟩ | ⟨j,y',e,p,M,f2,N,C,f5,f6⟩
    .have m:=qt hd _ _ _ M;obtain⟨le,z⟩:=HS.wI (ag:=f) (ks:=J) (vk:=L) (es':=hJ cs u es) (ents':=a.push {key:=cZ f cs,val:=B,born:=l}) (clock':=l+1) hs (by rw [T];simp) Q g2 o
      (by rw [Fu f2];simp [D,Z]) (zo g Y E)
     refine⟨_,_,h, ?_,le,z⟩;simp [Instr.mapUpdate,run_underlying hu,Sf o,H,m,SN _ o]
    .have m:=qt hd _ _ _ M;have hlt:j < es.length:=(QC.1 C).1;have hpk:p.1=cs:=(C5 g (E p (QH C)).1 f5).symm;have hek:e.key=cZ f cs:=by
      have S:(a.toList.map λe=>(e.key,e.val))[j]? =some (e.key,e.val):=by simp [N]
      rw [D] at S;simp only [RI,C,Se,Qy,Rk] at S;rw [<-S.1,hpk]
     have V:(a.modify j λe=>{e with key:=cZ f cs,val:=B}).toList.map (λe=>(e.key,e.val))= (hJ cs u es).map (λp=>(cZ f p.1,dx p.2)):=by
      rw [Fv C f5 f6];refine RV λk=> ?_;have I:(a.toList.map λe=>(e.key,e.val))[k]? = (es.map λp=>(cZ f p.1,dx p.2))[k]?:=by rw [D]
      simp only [RI,Array.toList_modify,List.getElem?_modify,RT] at I⊢;by_cases X:j=k
      .subst X;simp [N,hlt,Z]
      .simp only [X,if_false];simpa using I
     obtain⟨le,z⟩:=HS.wI (ag:=f) (ks:=J) (vk:=L) (es':=hJ cs u es) (ents':=a.modify j λe=>{e with key:=cZ f cs,val:=B}) (clock':=l) hs (by rw [T];simp) Q g2 o V (zo g Y E);refine⟨_,_,h, ?_,le,z⟩;have hst:=PY (P:=P) (w:=w) hag g;have f3':a[j]? =some e:=by simpa using N
     rw [Rh] at m;simp [Instr.mapUpdate,run_underlying hu,Sf o,H,m,f3',hek,hst,SN _ o]
   .cases h
  .cases h
 .cases h
theorem Bp{a:List T}:∀{es:List (List T×T)},fU a es=none->kG a es=es
 | [],_=>rfl
 | p::es,h=>by
  unfold fU at h;unfold kG;cases b:dV a p.1 with
  | true=>rw [b] at h;simp at h
  | false=>rw [b] at h;simp only [cond_false] at h⊢;rw [Bp h]
theorem Bo{a:List T}:∀{es:List (List T×T)} {i:Nat} {p:List T×T},es[i]? =some p->dV a p.1=true->(∀i' b,i' < i->es[i']? =some b->dV a b.1=false)->kG a es=es.eraseIdx i
 | [],_,_,h,_,_=>by simp at h
 | q::es,0,p,h,d,_=>by simp only [RE,Qy] at h;subst h;simp [kG,d]
 | q::es,i+1,p,h,d,e=>by have h0:=e 0 q (by omega) rfl;unfold kG;rw [h0,cond_false,Bo (by simpa using h) d (λi' b g f=>e (i'+1) b (by omega) (by simpa using f))];rfl
theorem yT{a b:Type}(f:a->b):∀(l:List a) (i:Nat),(l.eraseIdx i).map f= (l.map f).eraseIdx i
 | [],_=>rfl
 | _::_,0=>rfl
 | x::l,i+1=>by simp only [List.eraseIdx_cons_succ,Rc,yT f l i]
theorem xu{a:List T}:∀{es:List (List T×T)},∀p∈kG a es,p∈es
 | [],p,h=>h
 | q::es,p,h=>by
  unfold kG at h;cases b:dV a q.1 with
  | true=>rw [b] at h;exact QB _ h
  | false=>
   rw [b] at h;rcases QN.1 h with rfl | h
   .exact QA
   .exact QB _ (xu p h)
theorem Ik{R:Type}{t ty tr:TypeId}{x key:AV}{U vk:Value}{K:aB->Option R}{r:R}(hs:HS c w s.h ρ O)(v:ai w (AA c w O) ρ x U)(I:ai w (AA c w O) ρ key vk)
  (h:ma P s t x key K=some r):∃us w',K us=some r/\(Builtin.delete_ #[t,ty] tr #[U,vk]).run P w= .ok (.tuple #[]) w'/\Le w ρ O w' ρ O/\HS c w' (aJ s.h us) ρ O:=by
 unfold ma at h;obtain⟨q,Y,h⟩:=Qz.1 h;obtain⟨ag,ks,cs,h,l,B,rfl⟩:=yJ (cc:=none) (.inl rfl) I h;split at h
 .rename_i i;split at h
  .rename_i y C D es H;split at h
   .rename_i u;obtain⟨rfl,rfl⟩:=u;obtain⟨b,a,f,F,M,k,o,G⟩:=y0 hs H;simp only [ai] at v;rw [F] at v;simp only [Qy] at v;subst v;obtain⟨d,N⟩:=yK l;have T:=yS Y;have z:=xm l B a.isEmpty w;rcases uL l B w a.toList es 0 o (λp m=>(G p m).1) with⟨E,J⟩ | ⟨j,y',e,p,E,J,Z,L,V,W⟩
    .have g:=qt N _ _ _ E;obtain⟨le,n⟩:=HS.wI (ag:=y) (ks:=C) (vk:=D) (es':=kG cs es) (ents':=a) (clock':=f) hs (by rw [H];simp) F M k (by rw [Bp J];exact o) (λp m=>G p (xu p m));refine⟨_,_,h, ?_,le,n⟩;simp [Builtin.delete_,run_underlying T,Sf k,z,g,SN _ k]
    .have g:=qt N _ _ _ E;have S:j < es.length:=(QC.1 L).1;have Q:a.toList.length=es.length:=by simpa using congrArg List.length o
     have X:j < a.size:=by rw [<-Ra,Q];exact S
     obtain⟨le,n⟩:=HS.wI (ag:=y) (ks:=C) (vk:=D) (es':=kG cs es) (ents':=a.eraseIdxIfInBounds j) (clock':=f) hs (by rw [H];simp) F M k (by
       rw [Bo L V W,yT,<-o,<-yT];simp only [Array.eraseIdxIfInBounds,X,dif_pos,Array.toList_eraseIdx]) (λp m=>G p (xu p m))
     refine⟨_,_,h, ?_,le,n⟩;rw [Rh] at g;simp [Builtin.delete_,run_underlying T,Sf k,z,g,SN _ k]
   .cases h
  .cases h
 .cases h
theorem LF{R:Type}{d:Nat}{t:TypeId}{K:AV->aB->Option R}{r:R}(hs:HS c w s.h ρ O)(h:qF P d t K=some r):
  ∃v us,K v us=some r/\(gW d s.h us=true->∃u w' ρ' O',(Instr.makeMap t none).run P w= .ok u w'/\Le w ρ O w' ρ' O'/\HS c w' (aJ s.h us) ρ' O'/\ai w' (AA c w' O') ρ' v u):=by
 unfold qF at h;obtain⟨q,g,h⟩:=Qz.1 h;obtain⟨p,f,h⟩:=Qz.1 h;split at h
 .rename_i e;refine⟨_,_,h,λa=> ?_⟩;have a:=iw a QA;have le:=Le.alloc hs (i:= .s d 0) rfl a (.map #[] 0) (.map (some w.heap.size)) (some w.heap.size) (.inr rfl);have b:=hs.alloc (i:= .s d 0) rfl a (.map #[] 0) (.map (some w.heap.size)) (some w.heap.size) (.inr rfl) (.mp p.1 p.2 (kD P q.2) []) ⟨w.heap.size,#[],0,by simp,by simp,jU _,by simp,by simp⟩;refine⟨.map (some w.heap.size),_,_,_,rfl,le,by rw [dy];exact b, ?_⟩;simp only [ai];rw [aA]
 .refine⟨_,_,h,λa=> ?_⟩;have a:=iw a QA;have le:=Le.alloc hs (i:= .s d 0) rfl a (.map #[] 0) (.map (some w.heap.size)) none (.inl rfl);have b:=hs.alloc (i:= .s d 0) rfl a (.map #[] 0) (.map (some w.heap.size)) none (.inl rfl) .dead ⟨⟨_,aA _ _ _,rfl,rfl⟩,aA _ _ _⟩;refine⟨.map (some w.heap.size),_,_,_,rfl,le,by rw [dy];exact b, ?_⟩;simp only [ai,ay];exact⟨rfl,rfl⟩
end
end Go.Aev
