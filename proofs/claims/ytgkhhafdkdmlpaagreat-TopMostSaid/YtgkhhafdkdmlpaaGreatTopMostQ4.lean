import Derived.Test.YtgkhhafdkdmlpaaGreatTopMostQ3
set_option linter.all false
namespace Go.Aev
open Go
section
variable (B:Nat->Option Value) (w:World) (A:Nat->Prop)
def js:bR->T->Value->List Nat->Prop
 | .f _,x,v,ob=>x.pH =some ()/\aw w A x v/\ob= []
 | .t _,x,v,ob=>aw w A x v/\ob= []
 | .own sz,x,v,ob=>∃o p,ob=o.toList/\x.aP sz=some p/\cM w A sz p.1 p.2 v (λah=>o=some ah)
 | .rows sz az rsz,x,v,ob=>∃(b:Bool) (es:List Row) (i:Id) (l:Id->Option Value) (a:Id->Option Nat),kg x=some (b,es)/\cR w A l a i (.rows b sz az rsz es.length es)/\l i=some v/\i.real=true/\
   (∀x y d,a x=some d->a y=some d->x=y)/\(∀n u,l (.g i n)=some u->u.oneCell'=true/\u.cells= #[u])/\(∀x d,a x=some d->x=i\/∃n,x= .g i n)/\∀d,d∈ob↔∃x,a x=some d
 | .ref k off,_,v,ob=>(∃b,B k=some (.pointer (some ⟨b,0,none⟩))/\v= .pointer (some ⟨b,off,none⟩))/\ob= []
 | .same k,_,v,ob=>(B k=some v/\v.oneCell'=true/\v.cells= #[v])/\ob= []
 | .no,_,v,ob=>(v.oneCell'=true/\v.cells= #[v])/\ob= []
 | .mp ag ks vk,x,v,ob=>∃es b j m,x=bK es/\v= .map (some b)/\ob= [b]/\w.heap[b]? =some (.map j m)/\
   j.toList.map (λe=>(e.key,e.val))=es.map (λp=>(cV ag p.1,du p.2))/\(es.all λp=>bU ks p.1 && dG vk p.2)=true
 | .agg _,_,_,_=>False
 | .new _,_,_,_=>False
def ff:List bR->List T->List Value->List Nat->Prop
 | [],xs,vs,own=>xs= []/\vs= []/\own= []
 | r::e,xs,vs,own=>∃x d v b ob a,xs=x::d/\vs=v::b/\own=ob++a/\js B w A r x v ob/\ff e d b a
def dv:List bR->List T->List Value->List Nat->Prop
 | [],xs,vs,own=>xs= []/\vs= []/\own= []
 | .agg l::f,xs,vs,own=>∃g x2 j a o1 d,xs=g++x2/\vs= .agg j.toArray::a/\own=o1++d/\ff B w A l g j o1/\dv f x2 a d
 | .new l::f,xs,vs,own=>∃g x2 b arr t a o1 d,xs=g++x2/\vs= .pointer (some ⟨b,0,none⟩)::a/\own= (b::o1)++d/\w.heap[b]? =some (.cells arr t (0,0))/\ff B w A l g arr.toList o1/\dv f x2 a d
 | r::f,xs,vs,own=>∃x i v a ob e,xs=x::i/\vs=v::a/\own=ob++e/\js B w A r x v ob/\dv f i a e
def nY:Nat->List jr->List T->List Nat->Prop
 | _,[],xs,own=>xs= []/\own= []
 | j, .box l::r,xs,own=>∃g x2 b arr t o1 a,xs=g++x2/\own=b:: (o1++a)/\B j=some (.pointer (some ⟨b,0,none⟩))/\w.heap[b]? =some (.cells arr t (0,0))/\
   ff B w A l g arr.toList o1/\nY (j+1) r x2 a
 | j, .sl sz::r,xs,own=>∃bb l x2 ob v a,xs= .ae sz bb l::x2/\own=ob.toList++a/\B j=some v/\cM w A sz bb l v (λah=>ob=some ah)/\nY (j+1) r x2 a
 | j, .mp ag ks vk::r,xs,own=>∃es b d f x2 a,xs=bK es::x2/\own=b::a/\B j=some (.map (some b))/\w.heap[b]? =some (.map d f)/\
   d.toList.map (λe=>(e.key,e.val))=es.map (λp=>(cV ag p.1,du p.2))/\(es.all λp=>bU ks p.1 && dG vk p.2)=true/\nY (j+1) r x2 a
 | j, .dead::r,xs,own=>nY (j+1) r xs own
end
def oR:List Value->Value
 | [v]=>v
 | vs=> .tuple vs.toArray
structure vw (w w':World):Prop where
 os:w'.os=w.os
 output:w'.output=w.output
 tape:w'.tape=w.tape
 size:w.heap.size<=w'.heap.size
 ah:∀k,k < w.heap.size->w'.heap[k]? =w.heap[k]?
structure Jd (w w':World) (Own:Nat->Prop):Prop where
 os:w'.os=w.os
 output:w'.output=w.output
 tape:w'.tape=w.tape
 size:w.heap.size<=w'.heap.size
 ah:∀k,k < w.heap.size->¬Own k->w'.heap[k]? =w.heap[k]?
def oq(m:Nat)(ρ:Id->Option Value)(j:Nat):Option Value:=if j < m then ρ (.c j) else none
def uN(P:Program)(A:cG)(f:FuncId)(fn:Func)(bc:List AV)(a:List ab)(xs:List T):Prop:=
 ∀(c:Ctx) (w:World) (ρ:Id->Option Value) (O:Id->Option Nat) (args:List Value),c.N0=w.heap.size->HS c w (jw a) ρ O->ay w (AA c w O) ρ bc args->
  Calls P f args.toArray w λe w'=>∃g i x2 o1 d,e= .returned (oR g)/\Jd w w' (fu O)/\xs=i++x2/\(o1++d).Nodup/\(∀b∈o1++d,c.MO b/\b < w'.heap.size)/\
   dv (oq a.length ρ) w' (λb=>(c.A0 b\/c.MO b)/\b < w'.heap.size/\b∉o1++d) (dc P A f (gU a.head?) fn) i g o1/\
   nY (oq a.length ρ) w' (λb=>(c.A0 b\/c.MO b)/\b < w'.heap.size/\b∉o1++d) 0 (gN A f (gU a.head?)) x2 d
def jc(P:Program)(A:cG)(O:aB):Prop:= ∀f bc a xs,O (.call f) bc a=some xs->
 ∃fn b,P.funcs[f]? =some fn/\fn.body=some b/\fn.name≠ "runtime.NumGoroutine" /\uN P A f fn bc a xs
def nO(P:Program)(A:cG):Prop:= ∀f bc a xs,A.ext f bc a=some xs->
 ∃fn b,P.funcs[f]? =some fn/\fn.body=some b/\fn.name≠ "runtime.NumGoroutine" /\uN P A f fn bc a xs
theorem nO.no{P:Program}{A:cG}(h:∀f bc a,A.ext f bc a=none):nO P A:=λf bc a xs e=>by rw [h] at e;cases e
theorem uN.values{P:Program}{A:cG}{f:FuncId}{fn:Func}{bc:List AV}{xs:List T}(h:uN P A f fn bc [] xs)(hb:A.ig f=none)(A0:Nat->Prop)(w:World)(args:List Value)(y:∀b,A0 b->b < w.heap.size)
  (hv:ay w A0 (λ_=>none) bc args):
  Calls P f args.toArray w λe w'=>∃g own,e= .returned (oR g)/\vw w w'/\own.Nodup/\(∀b∈own,w.heap.size<=b/\b < w'.heap.size)/\
   dv (λ_=>none) w' (λb=>(A0 b\/w.heap.size<=b)/\b < w'.heap.size/\b∉own) (dc P A f 0 fn) xs g own:=by
 let c:Ctx:={A0:=A0,M:=λ_=>False,N0:=w.heap.size};have hs:HS c w (jw []) (λ_=>none) (λ_=>none):=⟨λi b hb=>by cases i <;> simp [jw] at hb,λi _ _=>⟨rfl,rfl⟩,λi n=>rfl,λi n _=>⟨rfl,rfl⟩,(by intro i n u D;cases D),(by intro i j b hi;cases hi),(by intro i b hi;cases hi),(by intro i b hi;cases hi),RI _⟩;have r:∀b,A0 b->AA c w (λ_=>none) b/\w.heap[b]? =w.heap[b]?:=λb hb=>⟨⟨.inl hb,y b hb,λi hi=>by cases hi⟩,rfl⟩;refine(h c w _ _ args rfl hs (ay.mono r (λ_ _ h=>h) _ _ hv)).mono ?_;rintro e w' ⟨g,F,x2,o1,E,z,d,v,l,o,p,t⟩;have m:gN A f (gU ([]:List ab).head?)= []:=by simp [gN,hb]
 rw [m] at t;obtain⟨rfl,rfl⟩:=t;rw [Sg] at v l;subst v;have q:dc P A f (gU ([]:List ab).head?) fn=dc P A f 0 fn:=rfl;have e0:oq ([]:List ab).length (λ_=>none)=λ_=>none:=by funext j;simp [oq]
 rw [q,e0] at p;refine⟨g,o1,z,⟨d.os,d.output,d.tape,d.size,λk C=>d.ah k C (by rintro⟨i,hi⟩;cases hi)⟩,l,λb hb=> ?_, ?_⟩
 .obtain⟨h1,a⟩:=o b (by simpa using hb);rcases h1 with h1 | h1
  .exact h1.elim
  .exact⟨h1,a⟩
 .have x:(λb=>(c.A0 b\/c.MO b)/\b < w'.heap.size/\b∉o1++ [])=λb=>(A0 b\/w.heap.size<=b)/\b < w'.heap.size/\b∉o1:=by
   funext b;simp only [Sg];refine propext ⟨?_, ?_⟩
   .rintro⟨h1 | h1 | h1,a⟩
    .exact⟨.inl h1,a⟩
    .exact h1.elim
    .exact⟨.inr h1,a⟩
   .rintro⟨h1 | h1,a⟩
    .exact⟨.inl h1,a⟩
    .exact⟨.inr (.inr h1),a⟩
  rw [x] at p;exact p
structure gu (c:Ctx) (w:World) (A:Nat->Prop) (h:Id->Option ab) (ρ:Id->Option Value) (O:Id->Option Nat):Prop where
 ah:∀i b,h i=some b->cR w A ρ O i b
 cr:∀i,i.real=true->h i=none->ρ i=none/\O i=none
 dF:∀i n,h (.g i n)=none
 fj:∀i n,h i=none->ρ (.g i n)=none/\O (.g i n)=none
 gone:∀i n u,ρ (.g i n)=some u->u.oneCell'=true/\u.cells= #[u]
 inj:∀i j b,O i=some b->O j=some b->i=j
 lt:∀i b,O i=some b->b < w.heap.size
 own:∀i b,O i=some b->c.MO b
 size:c.N0<=w.heap.size
section
variable {P:Program} {B:Nat->Option Value} {ids:List Id} {w w':World} {A A':Nat->Prop} {c:Ctx} {ρ:Id->Option Value} {O:Id->Option Nat} {s:St} {cc:Option Bool} {h:Id->Option ab}
theorem gu.IK(hs:gu c w A h ρ O)(e:∀b,A b↔AA c w O b):HS c w h ρ O:=by have:A=AA c w O:=funext λb=>propext (e b);subst this;exact⟨hs.ah,hs.cr,hs.dF,hs.fj,hs.gone,hs.inj,hs.lt,hs.own,hs.size⟩
theorem gu.real(hs:gu c w A h ρ O){i:Id}(hi:h i≠none):i.real=true:=by
 cases i with
 | g i n=>exact(hi (hs.dF i n)).elim
 | _=>rfl
theorem gu.zl{i:Id}(hrl:i.real=true)(hs:gu c w A h ρ O)(hi:h i=none)(v:Value)(ob:Option Nat)(f:∀b,ob=some b->b < w.heap.size/\c.MO b/\∀j,O j≠some b)(x:ab)
  (p:cR w A (aA ρ i (some v)) (aA O i ob) i x):gu c w A (aA h i (some x)) (aA ρ i (some v)) (aA O i ob):=by
 refine⟨λj b a=> ?_,λj m a=> ?_,λj n=>by rw [aq _ _ (aL hrl)];exact hs.dF j n,λj n a=> ?_,λj n u o=>by rw [aq _ _ (aL hrl)] at o;exact hs.gone j n u o,λj k b a d=> ?_,λj b a=> ?_,λj b a=> ?_,hs.size⟩
 .by_cases e:j=i
  .subst e;rw [aC] at a;cases a;exact p
  .rw [aq _ _ e] at a;refine cR.mono (λn=>⟨aq _ _ (aL hrl),aq _ _ (aL hrl),λ_ _=>rfl⟩) (λb hb=>⟨hb,rfl⟩) (λk u d=> ?_) (aq _ _ e) (λ_ _=>rfl) (hs.ah j b a);by_cases l:k=i
   .subst l;rw [(hs.cr _ hrl hi).1] at d;cases d
   .rw [aq _ _ l];exact d
 .by_cases e:j=i
  .subst e;rw [aC] at a;cases a
  .rw [aq _ _ e] at a;rw [aq _ _ e,aq _ _ e];exact hs.cr j m a
 .by_cases e:j=i
  .subst e;rw [aC] at a;cases a
  .rw [aq _ _ e] at a;rw [aq _ _ (aL hrl),aq _ _ (aL hrl)];exact hs.fj j n a
 .by_cases e:j=i <;> by_cases g:k=i
  .rw [e,g]
  .subst e;rw [aC] at a;rw [aq _ _ g] at d;exact((f b a).2.2 k d).elim
  .subst g;rw [aC] at d;rw [aq _ _ e] at a;exact((f b d).2.2 j a).elim
  .rw [aq _ _ e] at a;rw [aq _ _ g] at d;exact hs.inj j k b a d
 .by_cases e:j=i
  .subst e;rw [aC] at a;exact(f b a).1
  .rw [aq _ _ e] at a;exact hs.lt j b a
 .by_cases e:j=i
  .subst e;rw [aC] at a;exact(f b a).2.1
  .rw [aq _ _ e] at a;exact hs.own j b a
theorem gu.BI{i:Id}(hs:gu c w A h ρ O)(hi:h i=some .dead)(ob:Option Nat)(f:∀b,ob=some b->b < w.heap.size/\c.MO b/\∀j,O j≠some b)(x:ab)
  (m:cR w A ρ (aA O i ob) i x):gu c w A (aA h i (some x)) ρ (aA O i ob):=by
 have hrl:=hs.real (i:=i) (by rw [hi];simp);refine⟨λj b a=> ?_,λj l a=> ?_,λj n=>by rw [aq _ _ (aL hrl)];exact hs.dF j n,λj n a=> ?_,hs.gone,λj k b a d=> ?_,λj b a=> ?_,λj b a=> ?_,hs.size⟩
 .by_cases e:j=i
  .subst e;rw [aC] at a;cases a;exact m
  .rw [aq _ _ e] at a;exact cR.mono (λn=>⟨rfl,aq _ _ (aL hrl),λ_ _=>rfl⟩) (λb hb=>⟨hb,rfl⟩) (λk u d=>d) (aq _ _ e) (λ_ _=>rfl) (hs.ah j b a)
 .by_cases e:j=i
  .subst e;rw [aC] at a;cases a
  .rw [aq _ _ e] at a;rw [aq _ _ e];exact hs.cr j l a
 .by_cases e:j=i
  .subst e;rw [aC] at a;cases a
  .rw [aq _ _ e] at a;rw [aq _ _ (aL hrl)];exact hs.fj j n a
 .by_cases e:j=i <;> by_cases g:k=i
  .rw [e,g]
  .subst e;rw [aC] at a;rw [aq _ _ g] at d;exact((f b a).2.2 k d).elim
  .subst g;rw [aC] at d;rw [aq _ _ e] at a;exact((f b d).2.2 j a).elim
  .rw [aq _ _ e] at a;rw [aq _ _ g] at d;exact hs.inj j k b a d
 .by_cases e:j=i
  .subst e;rw [aC] at a;exact(f b a).1
  .rw [aq _ _ e] at a;exact hs.lt j b a
 .by_cases e:j=i
  .subst e;rw [aC] at a;exact(f b a).2.1
  .rw [aq _ _ e] at a;exact hs.own j b a
def uM(B:Nat->Option Value)(ids:List Id)(ρ:Id->Option Value):Prop:= ∀k i v,ids[k]? =some i->B k=some v->ρ i=some v
def fO(B:Nat->Option Value)(ids:List Id)(c:Ctx)(w:World)(A:Nat->Prop)(us:aG)(own:List Nat)(Q:(Id->Option Value)->Prop):Prop:=
 ∀h ρ O,uM B ids ρ->gu c w A h ρ O->own.Nodup->(∀b∈own,b < w.heap.size/\c.MO b/\∀i,O i≠some b)->(∀p∈us,h p.1=none)->
  ∃ρ' O',(∀i u,ρ i=some u->ρ' i=some u)/\gu c w A (aJ h us) ρ' O'/\Q ρ'/\∀b,(∃i,O' i=some b)↔((∃i,O i=some b)\/b∈own)
def mG(d j a:Nat)(us:aG):Prop:= ∀p∈us,∃k,j<=k/\k < a/\p.1= .s d k
theorem fO.nil{Q:(Id->Option Value)->Prop}(d:∀ρ,uM B ids ρ->Q ρ):fO B ids c w A [] [] Q:=by intro h ρ O a hs _ _ _;exact⟨ρ,O,λ_ _ h=>h,hs,d ρ a,λb=>by simp⟩
theorem fO.append{d j D W:Nat}{us vs:aG}{o1 K:List Nat}{t x Q:(Id->Option Value)->Prop}(h1:fO B ids c w A us o1 t)(V:fO B ids c w A vs K x)(Y:mG d j D us)(Z:mG d D W vs)
  (r:∀ρ ρ',(∀i u,ρ i=some u->ρ' i=some u)->t ρ->x ρ'->Q ρ'):fO B ids c w A (us++vs) (o1++K) Q:=by
 intro h ρ O l hs y f a;obtain⟨H,I,J⟩:=Tc.1 y;obtain⟨m,L,F,z,q1,r1⟩:=h1 h ρ O l hs H (λb hb=>f b (RD _ hb)) (λp g=>a p (RD _ g));obtain⟨n,M,G,C,q2,r2⟩:=V (aJ h us) m L (λk i v N R=>F i v (l k i v N R)) z I (λb hb=>by
  obtain⟨S,T,U⟩:=f b (RE _ hb);refine⟨S,T,λi hi=> ?_⟩;rcases(r1 b).1 ⟨i,hi⟩ with⟨k,o⟩ | o
  .exact U k o
  .exact J b o b hb rfl) (λp g=>by
  rw [dI (λq r e=> ?_)]
  .exact a p (RE _ g)
  .obtain⟨k,_,k2,X⟩:=Y q r;obtain⟨k',k1',_,E⟩:=Z p g;rw [X,E] at e;simp only [Id.s.injEq] at e;omega)
 refine⟨n,M,λi u hi=>G i u (F i u hi),by rw [lS];exact C,r m n G q1 q2,λb=> ?_⟩;rw [r2 b,r1 b,RM,or_assoc]
theorem dZ(es:List (List T×T)):il (bK es)=some es:=by
 unfold bK il;induction es with
 | nil=>rfl
 | cons p es a=>simp only [RX,zP] at a⊢;rw [a];rfl
theorem gu.Jj{i' i:Id}{p:Id->Option Value}{o:Id->Option Nat}{b:Bool}{sz az rsz:Nat}{es:List Row}{v:Value}{ob:List Nat}(hrl:i'.real=true)(hs:gu c w A h ρ O)(hi:h i'=none)
  (hb:cR w A p o i (.rows b sz az rsz es.length es)) (hv:p i=some v) (F:i.real=true) (z:∀x y d,o x=some d->o y=some d->x=y) (hg:∀n u,p (.g i n)=some u->u.oneCell'=true/\u.cells= #[u])
  (X:∀x d,o x=some d->x=i\/∃n,x= .g i n) (E:∀d,d∈ob↔∃x,o x=some d) (C:∀b∈ob,b < w.heap.size/\c.MO b/\∀i,O i≠some b):
  ∃ρ' O',(∀x u,ρ x=some u->ρ' x=some u)/\gu c w A (aA h i' (some (.rows b sz az rsz es.length es))) ρ' O'/\ρ' i'=some v/\∀d,(∃x,O' x=some d)↔((∃x,O x=some d)\/d∈ob):=by
 let V:Id->Option Value:=λx=>if x=i' then some v else match x with
  | .g y n=>if y=i' then p (.g i n) else ρ (.g y n)
  | x=>ρ x
 let Q:Id->Option Nat:=λx=>if x=i' then o i else match x with
  | .g y n=>if y=i' then o (.g i n) else O (.g y n)
  | x=>O x
 have Y:V i'=some v:=by simp only [V,if_true]
 have U:Q i'=o i:=by simp only [Q,if_true]
 have Z:∀x,x.real=true->x≠i'->V x=ρ x:=by
  intro x k j;simp only [V,if_neg j];cases x with
  | g y n=>cases k
  | _=>rfl
 have K:∀x,x.real=true->x≠i'->Q x=O x:=by
  intro x k j;simp only [Q,if_neg j];cases x with
  | g y n=>cases k
  | _=>rfl
 have N:∀y n,y≠i'->V (.g y n)=ρ (.g y n):=by intro y n hy;simp only [V,if_neg (aL hrl),if_neg hy]
 have L:∀y n,y≠i'->Q (.g y n)=O (.g y n):=by intro y n hy;simp only [Q,if_neg (aL hrl),if_neg hy]
 have W:∀n,V (.g i' n)=p (.g i n):=by intro n;simp only [V,if_neg (aL hrl),if_true]
 have M:∀n,Q (.g i' n)=o (.g i n):=by intro n;simp only [Q,if_neg (aL hrl),if_true]
 have H:∀x d,Q x=some d->(O x=some d/\x≠i'/\∀n,x≠ .g i' n)\/(x=i'/\o i=some d)\/∃n,x= .g i' n/\o (.g i n)=some d:=by
  intro x d j;by_cases e:x=i'
  .subst e;rw [U] at j;exact .inr (.inl ⟨rfl,j⟩)
  .cases k:x.real with
   | true=>rw [K x k e] at j;exact .inl ⟨j,e,λn I=>by rw [I] at k;cases k⟩
   | false=>
    cases x with
    | g y n=>
     by_cases I:y=i'
     .subst I;rw [M] at j;exact .inr (.inr ⟨n,rfl,j⟩)
     .rw [L y n I] at j;exact .inl ⟨j,e,λm R=>by simp only [Id.g.injEq] at R;exact I R.1⟩
    | _=>cases k
 have n0:=hs.cr i' hrl hi;have ng:=λn=>hs.fj i' n hi;have mono:∀x u,ρ x=some u->V x=some u:=by
  intro x u j;cases k:x.real with
  | true=>rw [Z x k (λe=>by rw [e,n0.1] at j;cases j)];exact j
  | false=>
   cases x with
   | g y n=>rw [N y n (λe=>by rw [e,(ng n).1] at j;cases j)];exact j
   | _=>cases k
 have J:∀d,(∃x,Q x=some d)↔((∃x,O x=some d)\/d∈ob):=by
  intro d;constructor
  .rintro⟨x,j⟩;rcases H x d j with⟨h1,_⟩ | ⟨_,h1⟩ | ⟨n,_,h1⟩
   .exact .inl ⟨x,h1⟩
   .exact .inr ((E d).2 ⟨_,h1⟩)
   .exact .inr ((E d).2 ⟨_,h1⟩)
  .rintro(⟨x,j⟩ | r)
   .cases k:x.real with
    | true=>exact⟨x,by rw [K x k (λe=>by rw [e,n0.2] at j;cases j)];exact j⟩
    | false=>
     cases x with
     | g y n=>exact⟨.g y n,by rw [L y n (λe=>by rw [e,(ng n).2] at j;cases j)];exact j⟩
     | _=>cases k
   .obtain⟨x,j⟩:=(E d).1 r;rcases X x d j with rfl | ⟨n,rfl⟩
    .exact⟨i',by rw [U];exact j⟩
    .exact⟨.g i' n,by rw [M];exact j⟩
 have G:∀d,(∃x,o x=some d)->∀y,O y≠some d:=λd r=>(C d ((E d).2 r)).2.2;refine⟨V,Q,mono,⟨λx y j=> ?_,λx k j=> ?_,λx n=>by rw [aq _ _ (aL hrl)];exact hs.dF x n,λx n j=> ?_,λx n u T=> ?_,λx y d j hy=> ?_,λx d j=> ?_,λx d j=> ?_,hs.size⟩,Y,J⟩
 .by_cases e:x=i'
  .subst e;rw [aC] at j;cases j;obtain⟨a,cap,e1,R,e3,e4,e5⟩:=hb;rw [hv] at e1;cases e1;refine⟨a,cap,Y,R,e3,⟨e4.1,e4.2.1,λn S=>by rw [W];exact e4.2.2.1 n S,λn d S=>by rw [M] at S;exact e4.2.2.2 n d S⟩, ?_⟩;rcases e5 with e5 | ⟨ah,off,arr,t,q1,q2,q3,q4,q5⟩
   .exact .inl e5
   .exact .inr ⟨ah,off,arr,t,q1,by rw [U];exact q2,q3,q4,b9.move (λb hb=>⟨hb,rfl⟩) (λ_ _=>rfl) (λf _=>⟨W _,M _,λ_ _=>rfl⟩) q5⟩
  .rw [aq _ _ e] at j;have hrx:=hs.real (i:=x) (by rw [j];simp);exact cR.mono (λn=>⟨N x n e,L x n e,λ_ _=>rfl⟩) (λb hb=>⟨hb,rfl⟩) mono (K x hrx e) (λ_ _=>rfl) (hs.ah x y j)
 .have l:x≠i':=λe=>by rw [e,aC] at j;cases j
  rw [aq _ _ l] at j;rw [Z x k l,K x k l];exact hs.cr x k j
 .have l:x≠i':=λe=>by rw [e,aC] at j;cases j
  rw [aq _ _ l] at j;rw [N x n l,L x n l];exact hs.fj x n j
 .by_cases l:x=i'
  .subst l;rw [W] at T;exact hg n u T
  .rw [N x n l] at T;exact hs.gone x n u T
 .rcases H x d j with⟨h1,q,h3⟩ | ⟨h1,q⟩ | ⟨n,h1,q⟩ <;> rcases H y d hy with⟨D,k2,k3⟩ | ⟨D,k2⟩ | ⟨m,D,k2⟩
  .exact hs.inj x y d h1 D
  .exact(G d ⟨_,k2⟩ x h1).elim
  .exact(G d ⟨_,k2⟩ x h1).elim
  .exact(G d ⟨_,q⟩ y D).elim
  .rw [h1,D]
  .have:=z _ _ d q k2;rw [this] at F;cases F
  .exact(G d ⟨_,q⟩ y D).elim
  .have:=z _ _ d k2 q;rw [this] at F;cases F
  .have:=z _ _ d q k2;simp only [Id.g.injEq,true_and] at this;rw [h1,D,this]
 .rcases(J d).1 ⟨x,j⟩ with⟨y,hy⟩ | r
  .exact hs.lt y d hy
  .exact(C d r).1
 .rcases(J d).1 ⟨x,j⟩ with⟨y,hy⟩ | r
  .exact hs.own y d hy
  .exact(C d r).2.1
theorem DU{R:Type}{d j:Nat}{r:bR}{x:T}{v:Value}{ob:List Nat}{K:AV->aG->Nat->Option R}{res:R}(S:cc=none\/cc=some true)(m:js B w A r x v ob)(a:l7 ids d cc j r x K=some res):
  ∃av us Q,K av us Q=some res/\j<=Q/\mG d j Q us/\fO B ids c w A us ob (λρ =>ak w A ρ av v):=by
 unfold l7 at a;cases r with
 | f k=>obtain⟨_,h1,rfl⟩:=m;simp only at a;obtain⟨y,a,h1⟩:=o7 S h1 a;exact⟨_,_,_,a,RI _,(by intro p D;cases D),fO.nil λρ _=>by simpa [ak] using h1⟩
 | t k=>obtain⟨h1,rfl⟩:=m;simp only at a;obtain⟨y,a,h1⟩:=o7 S h1 a;exact⟨_,_,_,a,RI _,(by intro p D;cases D),fO.nil λρ _=>by simpa [ak] using h1⟩
 | own sz=>
  obtain⟨o,p,rfl,D,Y⟩:=m;cases cc with
  | some b=>simp at a
  | none=>
   dsimp only at a;replace a:=aK a (.inl rfl);obtain⟨q,g,a⟩:=a;rw [D] at g;simp only [Rp] at g;subst g;refine⟨_,_,_,a,Nat.le_succ _, ?_, ?_⟩
   .intro q g;simp only [RF] at g;subst g;exact⟨j,RI _,Tn _,rfl⟩
   .intro h ρ O E hs I C n;have hi:h (.s d j)=none:=n _ (RF.2 rfl);refine⟨aA ρ (.s d j) (some v),aA O (.s d j) o,λi u z=> ?_, ?_,by simp [ak],λb=>⟨λ⟨i,hb⟩=> ?_,λhb=> ?_⟩⟩
    .by_cases e:i= .s d j
     .subst e;rw [(hs.cr _ rfl hi).1] at z;cases z
     .rw [aq _ _ e];exact z
    .rw [dH];refine hs.zl rfl hi v o (λb hb=>C b (by simp [hb])) _ ⟨v,aC _ _ _, ?_,by simp⟩;simpa using Y
    .by_cases e:i= .s d j
     .subst e;rw [aC] at hb;right;simp [hb]
     .rw [aq _ _ e] at hb;exact .inl ⟨i,hb⟩
    .rcases hb with⟨i,hb⟩ | hb
     .by_cases e:i= .s d j
      .subst e;rw [(hs.cr _ rfl hi).2] at hb;cases hb
      .exact⟨i,by rw [aq _ _ e];exact hb⟩
     .exact⟨.s d j,by rw [aC];simpa using hb⟩
 | ref k off=>
  obtain⟨⟨b,h1,rfl⟩,rfl⟩:=m;dsimp only at a;split at a
  .rename_i i hi;exact⟨_,_,_,a,RI _,(by intro p D;cases D),fO.nil λρ E=>by
    simp only [ak];exact⟨b,E k i _ hi h1,rfl⟩⟩
  .simp at a
 | same k=>
  obtain⟨⟨h1,_⟩,rfl⟩:=m;dsimp only at a;split at a
  .rename_i i hi;exact⟨_,_,_,a,RI _,(by intro p D;cases D),fO.nil λρ E=>by
    simp only [ak];exact E k i _ hi h1⟩
  .simp at a
 | rows sz az rsz=>
  obtain⟨b,es,i,ρ0,O0,L,hb,hv,X,N,hg,M,V⟩:=m;cases cc with
  | some b=>simp at a
  | none=>
   dsimp only at a;replace a:=aK a (.inl rfl);obtain⟨q,g,a⟩:=a;rw [L] at g;simp only [Rp] at g;subst g;refine⟨_,_,_,a,Nat.le_succ _, ?_, ?_⟩
   .intro q g;simp only [RF] at g;subst g;exact⟨j,RI _,Tn _,rfl⟩
   .intro h ρ O E hs I C n;have hi:h (.s d j)=none:=n _ (RF.2 rfl);obtain⟨ρ',O',Z,g2,g3,g4⟩:=hs.Jj (i':= .s d j) rfl hi hb hv X N hg M V C;exact⟨ρ',O',Z,by rw [dH];exact g2,by simp only [ak];exact g3,g4⟩
 | no=>obtain⟨_,rfl⟩:=m;dsimp only at a;exact⟨_,_,_,a,RI _,(by intro p D;cases D),fO.nil λρ _=>by simp [ak]⟩
 | mp ag ks vk=>
  obtain⟨es,F,J,G,rfl,rfl,rfl,H,U,W⟩:=m;cases cc with
  | some b=>simp at a
  | none=>
   dsimp only at a;replace a:=aK a (.inl rfl);obtain⟨q,g,a⟩:=a;rw [dZ] at g;simp only [Rp] at g;subst g;refine⟨_,_,_,a,Nat.le_succ _, ?_, ?_⟩
   .intro q g;simp only [RF] at g;subst g;exact⟨j,RI _,Tn _,rfl⟩
   .intro h ρ O E hs I C n;have hi:h (.s d j)=none:=n _ (RF.2 rfl);refine⟨aA ρ (.s d j) (some (.map (some F))),aA O (.s d j) (some F),λi u z=> ?_, ?_,by simp [ak],λb=>⟨λ⟨i,hb⟩=> ?_,λhb=> ?_⟩⟩
    .by_cases e:i= .s d j
     .subst e;rw [(hs.cr _ rfl hi).1] at z;cases z
     .rw [aq _ _ e];exact z
    .rw [dH];exact hs.zl rfl hi _ (some F) (λb hb=>C b (by simp only [Rp] at hb;simp [hb])) _ ⟨F,J,G,aC _ _ _,aC _ _ _,H,U,W⟩
    .by_cases e:i= .s d j
     .subst e;rw [aC] at hb;right;simp only [Rp] at hb;simp [hb]
     .rw [aq _ _ e] at hb;exact .inl ⟨i,hb⟩
    .rcases hb with⟨i,hb⟩ | hb
     .by_cases e:i= .s d j
      .subst e;rw [(hs.cr _ rfl hi).2] at hb;cases hb
      .exact⟨i,by rw [aq _ _ e];exact hb⟩
     .exact⟨.s d j,by rw [aC];simp only [RF] at hb;rw [hb]⟩
 | agg l=>simp at a
 | new l=>simp at a
theorem wA{R:Type}{d:Nat}(i:cc=none\/cc=some true):∀{o:List bR} {j:Nat} {g x2:List T} {vs:List Value} {own:List Nat} {K:List AV->aG->Nat->Option R} {res:R},ff B w A o g vs own->jz ids d cc j o (g++x2) K=some res->
  ∃av us l,K av us l=some res/\j<=l/\mG d j l us/\fO B ids c w A us own (λρ =>ay w A ρ av vs)
 | [],j,g,x2,vs,own,K,res,f,a=>by obtain⟨rfl,rfl,rfl⟩:=f;exact⟨_,_,_,a,RI _,(by intro p e;cases e),fO.nil λρ _=>by simp [ay]⟩
 | r::o,j,g,x2,vs,own,K,res,f,a=>by
  obtain⟨x,M,v,z,ob,F,rfl,rfl,rfl,h1,C⟩:=f;simp only [jz,Rx,SW,UF] at a;replace a:=aK a i;obtain⟨y,hy,a⟩:=a;simp only [Rp] at hy;subst hy;obtain⟨av,us,N,a,D,t,H⟩:=DU (c:=c) i h1 a;obtain⟨J,L,Q,a,E,u,I⟩:=wA i C a;refine⟨_,_,_,a,R4 D E, ?_,H.append I t u λρ ρ' m q1 G=> ?_⟩
  .intro p e;rcases RM.1 e with e | e
   .obtain⟨k,q,k2,n⟩:=t p e;exact⟨k,q,by omega,n⟩
   .obtain⟨k,q,k2,n⟩:=u p e;exact⟨k,by omega,k2,n⟩
  .simp only [ay];exact⟨v,z,rfl,ak.mono (λb hb=>⟨hb,rfl⟩) m _ _ q1,G⟩
theorem js.one{r:bR}{x:T}{v:Value}{ob:List Nat}(h:js B w A r x v ob):v.oneCell'=true/\v.cells= #[v]:=by
 cases r with
 | f k=>exact h.2.1.pR
 | t k=>exact h.1.pR
 | own sz=>obtain⟨o,p,_,_,a,cap,rfl,_⟩:=h;exact⟨rfl,rfl⟩
 | rows sz az rsz=>obtain⟨b,es,i,j,m,_,⟨a,cap,d,_⟩,hv,_⟩:=h;rw [hv] at d;cases d;exact⟨rfl,rfl⟩
 | ref k off=>obtain⟨⟨b,_,rfl⟩,_⟩:=h;exact⟨rfl,rfl⟩
 | same k=>exact h.1.2
 | no=>exact h.1
 | mp ag ks vk=>obtain⟨es,b,g,e,_,rfl,_⟩:=h;exact⟨rfl,rfl⟩
 | agg l=>exact h.elim
 | new l=>exact h.elim
theorem ff.one:∀{a:List bR} {xs:List T} {vs:List Value} {own:List Nat},ff B w A a xs vs own->∀u∈vs,u.oneCell'=true/\u.cells= #[u]
 | [],_,_,_,⟨_,rfl,_⟩,u,hu=>by cases hu
 | r::a,xs,vs,own,h,u,hu=>by
  obtain⟨x,f,v,e,ob,d,rfl,rfl,rfl,h1,b⟩:=h;rcases RC.1 hu with rfl | hu
  .exact h1.one
  .exact ff.one b u hu
theorem ff.length:∀{a:List bR} {xs:List T} {vs:List Value} {own:List Nat},ff B w A a xs vs own->xs.length=a.length
 | [],_,_,_,⟨rfl,_,_⟩=>rfl
 | r::a,xs,vs,own,h=>by obtain⟨x,f,v,e,ob,d,rfl,rfl,rfl,h1,b⟩:=h;simp [ff.length b]
theorem fO.box{d K j:Nat}{us:aG}{o1:List Nat}{av:List AV}{f:Nat}{arr:Array Value}{t:TypeId}(h1:fO B ids c w A us o1 (λρ =>ay w A ρ av arr.toList))(N:mG d K j us)(hb:w.heap[f]? =some (.cells arr t (0,0)))
  (J:∀u∈arr.toList,u.oneCell'=true/\u.cells= #[u]):fO B ids c w A (us++ [(.s d j, .box av)]) (f::o1) (λρ =>ak w A ρ (.ref (.s d j) 0) (.pointer (some ⟨f,0,none⟩))):=by
 intro h ρ O D hs E l m;obtain⟨F,G⟩:=SB.1 E;obtain⟨x,y,M,q,q1,r1⟩:=h1 h ρ O D hs G (λb hb=>l b (Ru _ hb)) (λp z=>m p (RD _ z));have hi:aJ h us (.s d j)=none:=by
  rw [dI λp z e=> ?_]
  .exact m _ (RE _ (RF.2 rfl))
  .obtain⟨k,_,C,I⟩:=N p z;rw [I] at e;simp only [Id.s.injEq] at e;omega
 have n:∀k,y k≠some f:=by
  intro k a;rcases(r1 f).1 ⟨k,a⟩ with⟨L,o⟩ | o
  .exact(l f Rs).2.2 L o
  .exact F o
 have mono:∀i u,x i=some u->aA x (.s d j) (some (.pointer (some ⟨f,0,none⟩))) i=some u:=by
  intro i u r;by_cases e:i= .s d j
  .subst e;rw [(q.cr _ rfl hi).1] at r;cases r
  .rw [aq _ _ e];exact r
 refine⟨aA x (.s d j) (some (.pointer (some ⟨f,0,none⟩))),aA y (.s d j) (some f),λi u r=>mono i u (M i u r), ?_, ?_,λb=> ?_⟩
 .rw [lS,dH];refine q.zl rfl hi _ (some f) (λb hb=> ?_) _ ⟨f,arr,t,aC _ _ _,aC _ _ _,hb,ay.mono (λb hb=>⟨hb,rfl⟩) mono _ _ q1,J⟩;simp only [Rp] at hb;subst hb;obtain⟨H,C,_⟩:=l f Rs;exact⟨H,C,n⟩
 .simp only [ak];exact⟨f,aC _ _ _,by simp⟩
 .constructor
  .rintro⟨k,a⟩;by_cases e:k= .s d j
   .subst e;rw [aC] at a;cases a;exact .inr Rs
   .rw [aq _ _ e] at a;rcases(r1 b).1 ⟨k,a⟩ with g | g
    .exact .inl g
    .exact .inr (Ru _ g)
  .intro a;have v:(∃k,y k=some b)->∃k,aA y (.s d j) (some f) k=some b:=by
    rintro⟨k,a⟩;by_cases e:k= .s d j
    .subst e;rw [(q.cr _ rfl hi).2] at a;cases a
    .exact⟨k,by rw [aq _ _ e];exact a⟩
   rcases a with a | a
   .exact v ((r1 b).2 (.inl a))
   .rcases RC.1 a with rfl | a
    .exact⟨_,aC _ _ _⟩
    .exact v ((r1 b).2 (.inr a))
theorem tc{R:Type}{d:Nat}(E:cc=none\/cc=some true):∀{G:List bR} {j:Nat} {xs:List T} {vs:List Value} {own:List Nat} {K:List AV->aG->Nat->Option R} {res:R},dv B w A G xs vs own->dL ids d cc j G xs K=some res->
  ∃av us z,K av us z=some res/\j<=z/\mG d j z us/\fO B ids c w A us own (λρ =>ay w A ρ av vs)
 | [],j,xs,vs,own,K,res,e,a=>by obtain⟨rfl,rfl,rfl⟩:=e;exact⟨_,_,_,a,RI _,(by intro p i;cases i),fO.nil λρ _=>by simp [ay]⟩
 | r::G,j,xs,vs,own,K,res,e,a=>by
  have g:(∃x Q v o ob F,xs=x::Q/\vs=v::o/\own=ob++F/\js B w A r x v ob/\dv B w A G Q o F)->
    (aa cc xs.head? λx=>l7 ids d cc j r x λv u j=>dL ids d cc j G xs.tail λvs us j=>K (v::vs) (u++us) j)=some res->
    ∃av us z,K av us z=some res/\j<=z/\mG d j z us/\fO B ids c w A us own (λρ =>ay w A ρ av vs):=by
   intro e a;obtain⟨x,Q,v,o,ob,F,rfl,rfl,rfl,h1,H⟩:=e;simp only [SW,UF] at a;replace a:=aK a E;obtain⟨y,hy,a⟩:=a;simp only [Rp] at hy;subst hy;obtain⟨av,us,I,a,J,C,M⟩:=DU (c:=c) E h1 a;obtain⟨U,W,j2,a,S,D,N⟩:=tc E H a;refine⟨_,_,_,a,R4 J S, ?_,M.append N C D λρ ρ' m q1 L=> ?_⟩
   .intro p i;rcases RM.1 i with i | i
    .obtain⟨k,q,k2,n⟩:=C p i;exact⟨k,q,by omega,n⟩
    .obtain⟨k,q,k2,n⟩:=D p i;exact⟨k,by omega,k2,n⟩
   .simp only [ay];exact⟨v,o,rfl,ak.mono (λb hb=>⟨hb,rfl⟩) m _ _ q1,L⟩
  cases r with
  | f k=>exact g e a
  | t k=>exact g e a
  | own sz=>exact g e a
  | rows sz az rsz=>exact g e a
  | mp ag ks vk=>exact g e a
  | new l=>
   obtain⟨Y,x2,b0,arr,ty,o,o1,o2,rfl,rfl,rfl,Z,h1,H⟩:=e;have a:(jz ids d cc j l (Y++x2) λv u j=>dL ids d cc (j+1) G ((Y++x2).drop l.length) λvs us z=>K (AV.ref (.s d j) 0::vs) (u++ [(.s d j, .box v)] ++us) z)=some res:=by
    cases cc with
    | none=>simp only [dL] at a;exact a
    | some b=>simp [dL] at a
   obtain⟨av,us,I,a,J,C,M⟩:=wA (c:=c) E h1 a;have X:=h1.length;rw [<-X,VX] at a;obtain⟨U,W,j2,a,S,D,N⟩:=tc E H a;have V:mG d j (I+1) (us++ [(.s d I, .box av)]):=by
    intro p i;rcases RM.1 i with i | i
    .obtain⟨k,q,k2,n⟩:=C p i;exact⟨k,q,by omega,n⟩
    .rw [RF.1 i];exact⟨I,J,by omega,rfl⟩
   refine⟨_,_,_,a,by omega, ?_,(M.box C Z h1.one).append N V D λρ ρ' m q1 L=> ?_⟩
   .intro p i;rcases RM.1 i with i | i
    .obtain⟨k,q,k2,n⟩:=V p i;exact⟨k,q,by omega,n⟩
    .obtain⟨k,q,k2,n⟩:=D p i;exact⟨k,by omega,k2,n⟩
   .simp only [ay];exact⟨_,o,rfl,ak.mono (λb hb=>⟨hb,rfl⟩) m _ _ q1,L⟩
  | ref k off=>exact g e a
  | same k=>exact g e a
  | no=>exact g e a
  | agg l=>
   obtain⟨Y,x2,ws,o,o1,o2,rfl,rfl,rfl,h1,H⟩:=e;simp only [dL] at a;obtain⟨av,us,I,a,J,C,M⟩:=wA (c:=c) E h1 a;have X:=h1.length;rw [<-X,VX] at a;obtain⟨U,W,j2,a,S,D,N⟩:=tc E H a;refine⟨_,_,_,a,R4 J S, ?_,M.append N C D λρ ρ' m q1 L=> ?_⟩
   .intro p i;rcases RM.1 i with i | i
    .obtain⟨k,q,k2,n⟩:=C p i;exact⟨k,q,by omega,n⟩
    .obtain⟨k,q,k2,n⟩:=D p i;exact⟨k,by omega,k2,n⟩
   .simp only [ay];refine⟨_,o,rfl, ?_,L⟩;simp only [ak];exact⟨ws,rfl,ay.mono (λb hb=>⟨hb,rfl⟩) m _ _ q1,h1.one⟩
theorem BF{vs:List AV}{a:List Value}(h:ay w A ρ vs a):ak w A ρ (lH vs) (oR a):=by
 match vs,a,h with
 | [],a,h=>simp only [ay] at h;subst h;simp only [lH,oR,ak];exact⟨[],rfl,by simp [ay]⟩
 | [v],a,h=>simp only [ay] at h;obtain⟨u,r,rfl,h1,rfl⟩:=h;exact h1
 | v::e::vs,a,h=>
  have b:=h.length
  match a,b with
  | u::d::a,_=>simp only [lH,oR,ak];exact⟨_,rfl,h⟩
theorem PK{v:AV}{x:T}{u:Value}(hs:HS c w h ρ O)(hv:ak w (AA c w O) ρ v u)(a:B7 h v=some x)
  (e:∀b,AA c w O b->A' b) (f:∀i ah,O i=some ah->A' ah):aw w A' x u:=by
 have d:dt h v=some x->aw w A' x u:=λj=>mC hs hv j e (λi ah _ g=>f i ah g);cases v
 case own i=>
  simp only [B7] at a;split at a
  .rename_i sz b xs hi;exact d (by simp only [dt,hi];exact a)
  .simp only [Rp] at a;subst a;simp only [ak] at hv;simp only [aw];exact jM hs hv
  .simp only [Rp] at a;subst a;simp only [ak] at hv;simp only [aw];exact jM hs hv
  .cases a
 all_goals exact d a
theorem It(hs:HS c w h ρ O)(d:∀b,AA c w O b->A' b):∀{vs:List AV} {xs:List T} {us:List Value},ay w (AA c w O) ρ vs us->uz h vs=some xs->
  (∀i ah,O i=some ah->A' ah)->aN w A' xs us
 | [],xs,us,hv,a,_=>by simp only [uz,Rp] at a;subst a;simpa [ay,aN] using hv
 | v::vs,xs,us,hv,a,e=>by simp only [uz] at a;obtain⟨x,h1,a⟩:=Rq.1 a;obtain⟨l,j,a⟩:=Rq.1 a;simp only [Rp] at a;subst a;simp only [ay] at hv;obtain⟨u,r,rfl,f,g⟩:=hv;exact⟨u,r,rfl,PK hs f h1 d e,It hs d g j e⟩
theorem JA{m:Bool}{v:AV}{u:Value}{q:T×aG}(hs:HS c w h ρ O)(hv:ak w (AA c w O) ρ v u)(a:ju true m h v=some q):q.2= []/\aw w (λb=>b < w.heap.size) q.1 u:=by
 have f:∀b,AA c w O b->b < w.heap.size:=λb hb=>hb.2.1;have d:∀x:T,dt h v=some x->aw w (λb=>b < w.heap.size) x u:=λx k=>mC hs hv k f (λi ah _ g=>hs.lt i ah g);cases v
 case ref i off=>
  simp only [ju,cond_true] at a;split at a
  .rename_i cs hi;obtain⟨l,p,a⟩:=Rq.1 a;simp only [Rp] at a;subst a;obtain⟨b,arr,t,h1,y,z,n,D⟩:=hs.ah i _ hi;simp only [ak] at hv;obtain⟨C,e,rfl⟩:=hv;rw [h1] at e;simp only [Rp,Tq,Ss] at e;obtain⟨rfl,_⟩:=e;refine⟨rfl, ?_⟩;simp only [aw];have r:aN w (λb=>b < w.heap.size) l (arr.toList.drop off):=by
    cases m with
    | true=>exact It hs f (n.drop off) p (λi ah g=>hs.lt i ah g)
    | false=>exact aN.mono (λb hb=>⟨f b hb,rfl⟩) _ _ (aN.lC p (n.drop off))
   refine⟨b,off,rfl, .inr (hs.lt i b y),aS.kB r (λj v o=> ?_)⟩;rw [T5] at o;simp only [World.cell?,z];simpa using o
  .rename_i l hi;simp only [Rp] at a;subst a;exact⟨rfl,d _ (by simp [dt,hi])⟩
  .simp at a
 all_goals
  simp only [ju] at a;obtain⟨x,k,a⟩:=Rq.1 a;simp only [cond_true,Rp] at a;subst a;exact⟨rfl,d _ k⟩
theorem JB{n:Bool}{v:AV}{u:Value}{q:T×aG}(hs:HS c w h ρ O)(hv:ak w (AA c w O) ρ v u)(a:ju false n h v=some q):
  gp h q.2/\∀O',Le w ρ O w ρ O'->(∀i,O' i=O i\/O' i=none)->(∀p∈q.2,O' p.1=none)->aw w (AA c w O') q.1 u:=by
 have l:∀x:T,dt h v=some x->q= (x,gM h v)->gp h q.2/\∀O',Le w ρ O w ρ O'->(∀i,O' i=O i\/O' i=none)->(∀p∈q.2,O' p.1=none)->aw w (AA c w O') q.1 u:=by
  intro x d e;subst e;refine⟨tA v,λO' le m o=>mC hs hv d (λb hb=>(le.A b hb).1) (λi ah hi k=> ?_)⟩;obtain⟨p,r,e⟩:=xd hs d hi k;refine⟨.inr (hs.own i ah k),hs.lt i ah k,λj f=> ?_⟩;rcases m j with g | g
  .rw [g] at f;have:=hs.inj j i ah f k;subst this;have:=o p r;rw [e,g,f] at this;cases this
  .rw [g] at f;cases f
 cases v
 case ref i off=>simp only [ju,cond_false] at a;obtain⟨x,d,a⟩:=Rq.1 a;simp only [Rp] at a;exact l x d a.symm
 all_goals
  simp only [ju] at a;obtain⟨x,d,a⟩:=Rq.1 a;simp only [cond_false,Rp] at a;exact l x d a.symm
def ix(c:Ctx)(w:World)(h:Id->Option ab)(ρ:Id->Option Value)(O:Id->Option Nat)(fl:Bool)(us:aG)(Q:(Nat->Prop)->Prop):Prop:=
 (fl=true->us= []/\Q (λb=>b < w.heap.size))/\
 (fl=false->gp h us/\∀O',Le w ρ O w ρ O'->(∀i,O' i=O i\/O' i=none)->(∀p∈us,O' p.1=none)->Q (AA c w O'))
theorem Da{fl b:Bool}{v:AV}{u:Value}{q:T×aG}(hs:HS c w h ρ O)(hv:ak w (AA c w O) ρ v u)(a:ju fl b h v=some q):ix c w h ρ O fl q.2 (λA=>aw w A q.1 u):=
 ⟨λe=>by subst e;exact JA hs hv a,λe=>by subst e;exact JB hs hv a⟩
theorem ix.append{fl:Bool}{us vs:aG}{i j Q:(Nat->Prop)->Prop}(h1:ix c w h ρ O fl us i)(k:ix c w h ρ O fl vs j)(n:∀A,i A->j A->Q A):ix c w h ρ O fl (us++vs) Q:=by
 refine⟨λe=> ?_,λe=> ?_⟩
 .obtain⟨a,b⟩:=h1.1 e;obtain⟨d,f⟩:=k.1 e;exact⟨by rw [a,d];rfl,n _ b f⟩
 .obtain⟨a,b⟩:=h1.2 e;obtain⟨d,f⟩:=k.2 e;exact⟨a.append d,λO' le l m=>n _ (b O' le l (λp g=>m p (RD _ g))) (f O' le l (λp g=>m p (RE _ g)))⟩
theorem ix.nil{fl:Bool}{Q:(Nat->Prop)->Prop}(a:∀A,Q A):ix c w h ρ O fl [] Q:=⟨λ_=>⟨rfl,a _⟩,λ_=>⟨(by intro p b;cases b),λ_ _ _ _=>a _⟩⟩
theorem ix.imp{fl:Bool}{us:aG}{a Q:(Nat->Prop)->Prop}(h1:ix c w h ρ O fl us a)(b:∀A,a A->Q A):ix c w h ρ O fl us Q:=
 ⟨λe=>⟨(h1.1 e).1,b _ (h1.1 e).2⟩,λe=>⟨(h1.2 e).1,λO' le d f=>b _ ((h1.2 e).2 O' le d f)⟩⟩
theorem vU{fl f:Bool}(hs:HS c w h ρ O):∀{vs:List AV} {us:List Value} {q:List T×aG},ay w (AA c w O) ρ vs us->lX fl f h vs=some q->ix c w h ρ O fl q.2 (λA=>aN w A q.1 us)
 | [],us,q,hv,d=>by simp only [ay] at hv;subst hv;simp only [lX,Rp] at d;subst d;exact ix.nil λ_=>rfl
 | v::vs,us,q,hv,d=>by simp only [ay] at hv;obtain⟨u,r,rfl,h1,g⟩:=hv;simp only [lX] at d;obtain⟨p,i,d⟩:=Rq.1 d;obtain⟨j,e,d⟩:=Rq.1 d;simp only [Rp] at d;subst d;exact(Da hs h1 i).append (vU hs g e) λA a b=>⟨u,r,rfl,a,b⟩
theorem De{fl j:Bool}(hs:HS c w h ρ O){v:AV}{u:Value}{q:AV×aG}(hv:ak w (AA c w O) ρ v u)(d:kR fl j h v=some q):ix c w h ρ O fl q.2 (λA=>ak w A (λ_=>none) q.1 u):=by
 cases v
 case fn f a b=>simp only [ak] at hv;obtain⟨l,y',rfl,h1,g⟩:=hv;simp only [kR] at d;obtain⟨p,e,d⟩:=Rq.1 d;obtain⟨m,i,d⟩:=Rq.1 d;simp only [Rp] at d;subst d;refine(vU hs h1 e).append (vU hs g i) λA a b=> ?_;simp only [ak];exact⟨l,y',rfl,ay.lD a,ay.lD b⟩
 case agg vs=>simp only [ak] at hv;obtain⟨k,rfl,h1,g⟩:=hv;simp only [kR] at d;obtain⟨p,e,d⟩:=Rq.1 d;simp only [Rp] at d;subst d;refine(vU hs h1 e).imp λA a=> ?_;simp only [ak];exact⟨k,rfl,ay.lD a,g⟩
 all_goals
  simp only [kR] at d;obtain⟨p,e,d⟩:=Rq.1 d;simp only [Rp] at d;subst d;refine(Da hs hv e).imp λA a=> ?_;simpa [ak] using a
theorem Dh{fl f:Bool}(hs:HS c w h ρ O):∀{vs:List AV} {us:List Value} {q:List AV×aG},ay w (AA c w O) ρ vs us->kS fl f h vs=some q->ix c w h ρ O fl q.2 (λA=>ay w A (λ_=>none) q.1 us)
 | [],us,q,hv,d=>by simp only [ay] at hv;subst hv;simp only [kS,Rp] at d;subst d;exact ix.nil λ_=>by simp [ay]
 | v::vs,us,q,hv,d=>by simp only [ay] at hv;obtain⟨u,r,rfl,h1,g⟩:=hv;simp only [kS] at d;obtain⟨p,i,d⟩:=Rq.1 d;obtain⟨j,e,d⟩:=Rq.1 d;simp only [Rp] at d;subst d;refine(De hs h1 i).append (Dh hs g e) λA a b=> ?_;simp only [ay];exact⟨u,r,rfl,a,b⟩
theorem aw.flat{x:T}{v:Value}(a:x.pH =some ())(h:aw w A x v):aw w A' x v:=by cases x <;> simp only [T.pH,reduceCtorEq] at a <;> simpa [aw] using h
theorem ff.flat:∀{a:List bR} {xs:List T} {vs:List Value} {own:List Nat},(a.all λr=>match r with | .f _=>true | _=>false)=true->ff B w A a xs vs own->ff B w A' a xs vs own/\own= []
 | [],_,_,_,_,h=>⟨h,h.2.2⟩
 | r::a,xs,vs,own,b,h=>by simp only [SZ,Rw] at b;obtain⟨x,g,v,e,ob,k,rfl,rfl,rfl,h1,j⟩:=h;obtain⟨i,rfl⟩:=ff.flat b.2 j;cases r <;> simp only [RS,false_and] at b;obtain⟨d,k2,rfl⟩:=h1;exact⟨⟨x,g,v,e,[],[],rfl,rfl,rfl,⟨d,k2.flat d,rfl⟩,i⟩,rfl⟩
theorem dv.flat:∀{d:List bR} {xs:List T} {vs:List Value} {own:List Nat},d.all rp=true->dv B w A d xs vs own->dv B w A' d xs vs own/\own= []
 | [],_,_,_,_,h=>⟨h,h.2.2⟩
 | r::d,xs,vs,own,a,h=>by
  simp only [SZ,Rw] at a;cases r <;> simp only [rp,RS,false_and] at a
  case f=>obtain⟨x,j,v,b,ob,m,rfl,rfl,rfl,h1,g⟩:=h;obtain⟨e,rfl⟩:=dv.flat a.2 g;obtain⟨i,k2,rfl⟩:=h1;exact⟨⟨x,j,v,b,[],[],rfl,rfl,rfl,⟨i,k2.flat i,rfl⟩,e⟩,rfl⟩
  case agg l=>obtain⟨o,x2,n,b,o1,p,rfl,rfl,rfl,h1,g⟩:=h;obtain⟨e,rfl⟩:=dv.flat a.2 g;obtain⟨k,rfl⟩:=ff.flat a.1 h1;exact⟨⟨o,x2,n,b,[],[],rfl,rfl,rfl,k,e⟩,rfl⟩
theorem js.mono{r:bR}{x:T}{v:Value}{ob:List Nat}(e:∀b,A b->A' b)(h:js B w A r x v ob):js B w A' r x v ob:=by
 have g:∀x v,aw w A x v->aw w A' x v:=λx v=>aw.mono (λb hb=>⟨e b hb,rfl⟩) x v;cases r with
 | f k=>exact⟨h.1,g _ _ h.2.1,h.2.2⟩
 | t k=>exact⟨g _ _ h.1,h.2⟩
 | own sz=>obtain⟨o,p,a,h1,d⟩:=h;exact⟨o,p,a,h1,d.mono (λb hb=>⟨e b hb,rfl⟩) (λb hb=>⟨hb,rfl⟩)⟩
 | rows sz az rsz=>obtain⟨b,es,i,j,m,a,h1,d⟩:=h;exact⟨b,es,i,j,m,a,cR.mono (λn=>⟨rfl,rfl,λ_ _=>rfl⟩) (λb hb=>⟨e b hb,rfl⟩) (λ_ _ h=>h) rfl (λ_ _=>rfl) h1,d⟩
 | ref k off=>exact h
 | same k=>exact h
 | no=>exact h
 | mp ag ks vk=>exact h
 | agg l=>exact h.elim
 | new l=>exact h.elim
theorem ff.mono(e:∀b,A b->A' b):∀{d:List bR} {xs:List T} {vs:List Value} {own:List Nat},ff B w A d xs vs own->ff B w A' d xs vs own
 | [],_,_,_,h=>h
 | r::d,xs,vs,own,h=>by obtain⟨x,g,v,f,ob,a,rfl,rfl,rfl,h1,i⟩:=h;exact⟨x,g,v,f,ob,a,rfl,rfl,rfl,h1.mono e,ff.mono e i⟩
theorem dv.mono(d:∀b,A b->A' b):∀{i:List bR} {xs:List T} {vs:List Value} {own:List Nat},dv B w A i xs vs own->dv B w A' i xs vs own
 | [],_,_,_,h=>h
 | r::i,xs,vs,own,h=>by
  cases r with
  | agg l=>obtain⟨j,x2,o,a,o1,f,rfl,rfl,rfl,h1,e⟩:=h;exact⟨j,x2,o,a,o1,f,rfl,rfl,rfl,h1.mono d,dv.mono d e⟩
  | new l=>obtain⟨j,x2,n,arr,ty,a,o1,f,rfl,rfl,rfl,k,h1,e⟩:=h;exact⟨j,x2,n,arr,ty,a,o1,f,rfl,rfl,rfl,k,h1.mono d,dv.mono d e⟩
  | _=>obtain⟨x,m,v,a,ob,g,rfl,rfl,rfl,h1,e⟩:=h;exact⟨x,m,v,a,ob,g,rfl,rfl,rfl,h1.mono d,dv.mono d e⟩
theorem II{R:Type}{d:Nat}{E:List bR}{xs:List T}{bc:List Value}{own:List Nat}{K:List AV->aG->Nat->Option R}{res:R}(H:cc=none\/cc=some true)(hs:HS c w h ρ O)(f:vw w w')(z:own.Nodup)(e:∀b∈own,w.heap.size<=b/\b < w'.heap.size)
  (y:dv (λ_=>none) w' (λb=>(c.A0 b\/c.MO b)/\b < w'.heap.size/\b∉own/\∀i,O i≠some b) E xs bc own) (a:dL [] d cc 0 E xs K=some res):
  ∃g us j,K g us j=some res/\mG d 0 j us/\((∀p∈us,h p.1=none)->∃ρ' O',Le w ρ O w' ρ' O'/\HS c w' (aJ h us) ρ' O'/\ay w' (AA c w' O') ρ' g bc):=by
 obtain⟨g,us,j,a,_,t,I⟩:=tc (c:=c) H y a;refine⟨g,us,j,a,t,λr=> ?_⟩;have G:∀b,AA c w O b->((c.A0 b\/c.MO b)/\b < w'.heap.size/\b∉own/\∀i,O i≠some b)/\w'.heap[b]? =w.heap[b]?:=by intro b hb;refine⟨⟨hb.1,S7 hb.2.1 f.size,λhm=> ?_,hb.2.2⟩,f.ah b hb.2.1⟩;have:=(e b hm).1;have:=hb.2.1;omega
 have D:gu c w' (λb=>(c.A0 b\/c.MO b)/\b < w'.heap.size/\b∉own/\∀i,O i≠some b) h ρ O:=
  ⟨λi b hb=>cR.mono (λn=>⟨rfl,rfl,λb hb=>f.ah b (hs.lt _ b hb)⟩) G (λ_ _ h=>h) rfl (λb hb=>f.ah b (hs.lt i b hb)) (hs.ah i b hb),hs.cr,hs.dF,hs.fj,hs.gone,hs.inj,λi b hb=>S7 (hs.lt i b hb) f.size,hs.own,R4 hs.size f.size⟩
 obtain⟨ρ',O',m,C,q,l⟩:=I h ρ O (by intro k i v a;simp at a) D z (λb hb=>⟨(e b hb).2, .inr (R4 hs.size (e b hb).1),λi hi=>by have:=hs.lt i b hi;have:=(e b hb).1;omega⟩) r;have u:∀b,((c.A0 b\/c.MO b)/\b < w'.heap.size/\b∉own/\∀i,O i≠some b)↔AA c w' O' b:=by
  intro b;constructor
  .rintro⟨h1,x,o,F⟩;refine⟨h1,x,λi hi=> ?_⟩;rcases(l b).1 ⟨i,hi⟩ with⟨k,a⟩ | a
   .exact F k a
   .exact o a
  .rintro⟨h1,x,o⟩;refine⟨h1,x,λhm=> ?_,λi hi=> ?_⟩
   .obtain⟨i,hi⟩:=(l b).2 (.inr hm);exact o i hi
   .obtain⟨k,a⟩:=(l b).2 (.inl ⟨i,hi⟩);exact o k a
 refine⟨ρ',O',⟨f.os,f.output,f.tape,f.size,m,λk a _=>f.ah k a,λi b hi=> ?_⟩,C.IK u, ?_⟩
 .rcases(l b).1 ⟨i,hi⟩ with a | a
  .exact .inl a
  .exact .inr (e b a).1
 .exact ay.mono (λb hb=>⟨(u b).1 hb,rfl⟩) (λ_ _ h=>h) _ _ q
theorem qU{d:Type}{a b:List d}{n:Nat}(h:a.length=n):(a++b).drop n=b:=by rw [<-h,VX]
theorem td{R:Type}{all:List Id}{d:Nat}:∀{outs:List jr} {W:List Id} {j jj:Nat} {xs:List T} {own:List Nat} {K:aG->Option R} {res:R},nY B w A jj outs xs own->fR all d j W outs xs K=some res->
  ∃us,K us=some res/\(∀p∈us,(∃k,j<=k/\p.1= .s d k)\/p.1∈W)/\
   ∀h ρ O,uM B all ρ->(∀k i,W[k]? =some i->h i=some .dead/\∀v,B (jj+k)=some v->ρ i=some v)->gu c w A h ρ O->own.Nodup->(∀b∈own,b < w.heap.size/\c.MO b/\∀i,O i≠some b)->W.Nodup->
    (∀i∈W,∀k,i≠ .s d k)->(∀p∈us,∀k,p.1= .s d k->h p.1=none)->
    ∃ρ' O',(∀i u,ρ i=some u->ρ' i=some u)/\gu c w A (aJ h us) ρ' O'/\∀b,(∃i,O' i=some b)↔((∃i,O i=some b)\/b∈own)
 | [],[],j,jj,xs,own,K,res,o,a=>by obtain⟨rfl,rfl⟩:=o;simp only [fR] at a;exact⟨[],a,(by intro p f;cases f),λh ρ O _ _ hs _ _ _ _ _=>⟨ρ,O,λ_ _ h=>h,hs,λb=>by simp⟩⟩
 | [],_::_,j,jj,xs,own,K,res,o,a=>by simp [fR] at a
 | r::outs,[],j,jj,xs,own,K,res,o,a=>by cases r <;> simp [fR] at a
 | .dead::outs,i::W,j,jj,xs,own,K,res,o,a=>by
  simp only [fR] at a;obtain⟨us,a,y,tk⟩:=td (jj:=jj+1) o a;refine⟨us,a,λp f=>(y p f).imp id (Ru _),λh ρ O J S hs N n F C q=> ?_⟩;exact tk h ρ O J (λk i a=>by
   have:=S (k+1) i (by simpa using a);rw [show jj+ (k+1)=jj+1+k by omega] at this;exact this) hs N n (SB.1 F).2 (λi hi=>C i (Ru _ hi)) q
 | .mp ag ks vk::outs,i::W,j,jj,xs,own,K,res,o,a=>by
  obtain⟨es,E,ents,clock,x2,o2,rfl,rfl,hB,V,hes,hok,H⟩:=o;obtain⟨ob,hob⟩:∃ob:Option Nat,ob=some E:=⟨_,rfl⟩;rw [show E::o2=ob.toList++o2 by rw [hob];rfl] at *
  simp only [fR,SW,RA,UF] at a;replace a:=aK a (.inl rfl);obtain⟨p,f,a⟩:=a;rw [dZ] at f;simp only [Rp] at f;subst f;obtain⟨us,a,y,tk⟩:=td (jj:=jj+1) H a;refine⟨_,a,λp f=> ?_,λh ρ O J S hs N n F C q=> ?_⟩
  .rcases RC.1 f with rfl | f
   .exact .inr Rs
   .exact(y p f).imp id (Ru _)
  obtain⟨n1,n2⟩:=SB.1 F;obtain⟨d1,d2⟩:=S 0 i rfl;obtain⟨k1,k2,k3⟩:=Tc.1 N;have U:=hs.BI d1 ob (λb hb=>n b (RD _ (by simp [hb]))) (.mp ag ks vk es) ⟨E,ents,clock,d2 _ (by simpa using hB),by rw [aC,hob],V,hes,hok⟩;have Y:O i=none:=(hs.ah i _ d1).2;have z:∀b,(∃k,aA O i ob k=some b)↔((∃k,O k=some b)\/b∈ob.toList):=by
   intro b;constructor
   .rintro⟨k,a⟩;by_cases e:k=i
    .rw [e,aC] at a;right;simp [a]
    .rw [aq _ _ e] at a;exact .inl ⟨k,a⟩
   .rintro(⟨k,a⟩ | a)
    .by_cases e:k=i
     .rw [e,Y] at a;cases a
     .exact⟨k,by rw [aq _ _ e];exact a⟩
    .exact⟨i,by rw [aC];simpa using a⟩
  have Q:∀b∈o2,b < w.heap.size/\c.MO b/\∀k,aA O i ob k≠some b:=by
   intro b hb;obtain⟨L,M,I⟩:=n b (RE _ hb);refine⟨L,M,λi' Z=> ?_⟩;rcases(z b).1 ⟨i',Z⟩ with⟨k,a⟩ | a
   .exact I k a
   .exact k3 b a b hb rfl
  have G:∀p∈us,∀k,p.1= .s d k->aA h i (some (.mp ag ks vk es)) p.1=none:=by intro p f k e;have D:p.1≠i:=λX=>C i Rs k (by rw [<-X,e]);rw [aq _ _ D];exact q p (Ru _ f) k e
  obtain⟨ρ',O',m,hs',rng⟩:=tk (aA h i (some (.mp ag ks vk es))) ρ (aA O i ob) J (λk i' a=>by
    have:=S (k+1) i' (by simpa using a);rw [show jj+ (k+1)=jj+1+k by omega] at this;refine⟨?_,this.2⟩;have D:i'≠i:=λe=>n1 (by rw [<-e];exact Rt a);rw [aq _ _ D];exact this.1) U k2 Q n2 (λi hi=>C i (Ru _ hi)) G
  refine⟨ρ',O',m,hs',λb=> ?_⟩;rw [rng b,z b,RM,or_assoc]
 | .sl sz::outs,i::W,j,jj,xs,own,K,res,o,a=>by
  obtain⟨bb,l,x2,ob,v,o2,rfl,rfl,hB,hsl,H⟩:=o;simp only [fR,SW,RA,UF] at a;replace a:=aK a (.inl rfl);obtain⟨p,f,a⟩:=a;simp only [T.aP,if_true,Rp] at f;subst f;obtain⟨us,a,y,tk⟩:=td (jj:=jj+1) H a;refine⟨_,a,λp f=> ?_,λh ρ O J S hs N n F C q=> ?_⟩
  .rcases RC.1 f with rfl | f
   .exact .inr Rs
   .exact(y p f).imp id (Ru _)
  obtain⟨n1,n2⟩:=SB.1 F;obtain⟨d1,d2⟩:=S 0 i rfl;obtain⟨k1,k2,k3⟩:=Tc.1 N;have U:=hs.BI d1 ob (λb hb=>n b (RD _ (by simp [hb]))) (.sl false sz bb l) ⟨v,d2 v (by simpa using hB),by simpa using hsl,by simp⟩;have Y:O i=none:=(hs.ah i _ d1).2;have z:∀b,(∃k,aA O i ob k=some b)↔((∃k,O k=some b)\/b∈ob.toList):=by
   intro b;constructor
   .rintro⟨k,a⟩;by_cases e:k=i
    .rw [e,aC] at a;right;simp [a]
    .rw [aq _ _ e] at a;exact .inl ⟨k,a⟩
   .rintro(⟨k,a⟩ | a)
    .by_cases e:k=i
     .rw [e,Y] at a;cases a
     .exact⟨k,by rw [aq _ _ e];exact a⟩
    .exact⟨i,by rw [aC];simpa using a⟩
  have Q:∀b∈o2,b < w.heap.size/\c.MO b/\∀k,aA O i ob k≠some b:=by
   intro b hb;obtain⟨L,M,I⟩:=n b (RE _ hb);refine⟨L,M,λi' Z=> ?_⟩;rcases(z b).1 ⟨i',Z⟩ with⟨k,a⟩ | a
   .exact I k a
   .exact k3 b a b hb rfl
  have G:∀p∈us,∀k,p.1= .s d k->aA h i (some (.sl false sz bb l)) p.1=none:=by intro p f k e;have D:p.1≠i:=λX=>C i Rs k (by rw [<-X,e]);rw [aq _ _ D];exact q p (Ru _ f) k e
  obtain⟨ρ',O',m,hs',rng⟩:=tk (aA h i (some (.sl false sz bb l))) ρ (aA O i ob) J (λk i' a=>by
    have:=S (k+1) i' (by simpa using a);rw [show jj+ (k+1)=jj+1+k by omega] at this;refine⟨?_,this.2⟩;have D:i'≠i:=λe=>n1 (by rw [<-e];exact Rt a);rw [aq _ _ D];exact this.1) U k2 Q n2 (λi hi=>C i (Ru _ hi)) G
  refine⟨ρ',O',m,hs',λb=> ?_⟩;rw [rng b,z b,RM,or_assoc]
 | .box l::outs,i::W,j,jj,xs,own,K,res,o,a=>by
  obtain⟨x1,x2,E,arr,t,o1,o2,rfl,rfl,hB,V,hL,H⟩:=o;simp only [fR] at a;obtain⟨av,us1,j1,a,hj,n1',t1⟩:=wA (c:=c) (ids:=all) (.inl rfl) hL a;rw [qU hL.length] at a;obtain⟨us2,a,y,tk⟩:=td (jj:=jj+1) H a;refine⟨_,a,λp f=> ?_,λh ρ O J S hs N n F C q=> ?_⟩
  .rcases RM.1 f with f | f
   .obtain⟨k,L,M,I⟩:=n1' p f;exact .inl ⟨k,L,I⟩
   .rcases RC.1 f with rfl | f
    .exact .inr Rs
    .rcases y p f with⟨k,L,M⟩ | g
     .exact .inl ⟨k,by omega,M⟩
     .exact .inr (Ru _ g)
  obtain⟨n1,n2⟩:=SB.1 F;obtain⟨d1,d2⟩:=S 0 i rfl;obtain⟨q1,q2⟩:=SB.1 N;obtain⟨k1,k2,k3⟩:=Tc.1 q2;have not1:∀x,(∀k,x≠ .s d k)->aJ h us1 x=h x:=λx hx=>dI λp f e=>by obtain⟨k,_,_,I⟩:=n1' p f;exact hx k (by rw [<-e,I])
  obtain⟨ρ1,O1,m1,U,v1,z⟩:=t1 h ρ O J hs k1 (λb hb=>n b (Ru _ (RD _ hb))) (λp f=>by
   obtain⟨k,_,_,I⟩:=n1' p f;exact q p (RD _ f) k I)
  have hdi:aJ h us1 i=some .dead:=by rw [not1 i (C i Rs)];exact d1
  have fresh0:∀k,O1 k≠some E:=by
   intro k a;rcases(z E).1 ⟨k,a⟩ with⟨k',hk'⟩ | hk'
   .exact(n E Rs).2.2 k' hk'
   .exact q1 (RD _ hk')
  have hs2:=U.BI hdi (some E) (λb hb=>by
   simp only [Rp] at hb;subst hb;obtain⟨L,M,_⟩:=n E Rs;exact⟨L,M,fresh0⟩) (.box av) ⟨E,arr,t,m1 _ _ (d2 _ (by simpa using hB)),aC _ _ _,V,v1,hL.one⟩
  have Y:O1 i=none:=(U.ah i _ hdi).2;have rng2:∀b,(∃k,aA O1 i (some E) k=some b)↔((∃k,O k=some b)\/b∈E::o1):=by
   intro b;constructor
   .rintro⟨k,a⟩;by_cases e:k=i
    .rw [e,aC] at a;cases a;exact .inr Rs
    .rw [aq _ _ e] at a;rcases(z b).1 ⟨k,a⟩ with g | g
     .exact .inl g
     .exact .inr (Ru _ g)
   .intro a;have lift:(∃k,O1 k=some b)->∃k,aA O1 i (some E) k=some b:=by
     rintro⟨k,a⟩;by_cases e:k=i
     .rw [e,Y] at a;cases a
     .exact⟨k,by rw [aq _ _ e];exact a⟩
    rcases a with a | a
    .exact lift ((z b).2 (.inl a))
    .rcases RC.1 a with rfl | a
     .exact⟨i,aC _ _ _⟩
     .exact lift ((z b).2 (.inr a))
  have Q:∀b∈o2,b < w.heap.size/\c.MO b/\∀k,aA O1 i (some E) k≠some b:=by
   intro b hb;obtain⟨L,M,I⟩:=n b (Ru _ (RE _ hb));refine⟨L,M,λi' Z=> ?_⟩;rcases(rng2 b).1 ⟨i',Z⟩ with⟨k,a⟩ | a
   .exact I k a
   .rcases RC.1 a with rfl | a
    .exact q1 (RE _ hb)
    .exact k3 b a b hb rfl
  have G:∀p∈us2,∀k,p.1= .s d k->aA (aJ h us1) i (some (.box av)) p.1=none:=by
   intro p f k e;have D:p.1≠i:=λX=>C i Rs k (by rw [<-X,e]);rw [aq _ _ D];rw [dI (λp' hp' X=> ?_)]
   .exact q p (RE _ (Ru _ f)) k e
   .obtain⟨k',L,M,I⟩:=n1' p' hp';rcases y p f with⟨k'',g4,g5⟩ | g
    .rw [I,g5] at X;simp only [Id.s.injEq] at X;omega
    .exact C p.1 (Ru _ g) k e
  obtain⟨ρ',O',m,hs',rng⟩:=tk (aA (aJ h us1) i (some (.box av))) ρ1 (aA O1 i (some E)) (λk i v e1 e2=>m1 i v (J k i v e1 e2)) (λk i' a=>by
    have hm:=Rt a;have:=S (k+1) i' (by simpa using a);rw [show jj+ (k+1)=jj+1+k by omega] at this;refine⟨?_,λv hv=>m1 _ _ (this.2 v hv)⟩;have D:i'≠i:=λe=>n1 (by rw [<-e];exact hm);rw [aq _ _ D,not1 i' (C i' (Ru _ hm))];exact this.1) hs2 k2 Q n2 (λi hi=>C i (Ru _ hi)) G
  refine⟨ρ',O',λi u hi=>m i u (m1 i u hi),by rw [lS,cX];exact hs',λb=> ?_⟩;rw [rng b,rng2 b,RC,RC,RM];simp only [or_assoc]
theorem Dc{fk:List Id}(hs:HS c w h ρ O):∀{fl:List Bool} {vs:List AV} {us:List Value} {q:List AV×aG},ay w (AA c w O) ρ vs us->lY h fk fl vs=some q->
  gp h q.2/\∀O',Le w ρ O w ρ O'->(∀i,O' i=O i\/O' i=none)->(∀p∈q.2,O' p.1=none)->ay w (AA c w O') ρ q.1 us
 | fl,[],us,q,hv,d=>by simp only [ay] at hv;subst hv;simp only [lY,Rp] at d;subst d;exact⟨(by intro p a;cases a),λ_ _ _ _=>by simp [ay]⟩
 | fl,v::vs,us,q,hv,d=>by
  simp only [ay] at hv;obtain⟨u,r,rfl,h1,n⟩:=hv;simp only [lY] at d;obtain⟨p,a,d⟩:=Rq.1 d;obtain⟨t,k,d⟩:=Rq.1 d;simp only [Rp] at d;subst d;obtain⟨l,m⟩:=Dc hs n k;have one:gp h p.2/\∀O',Le w ρ O w ρ O'->(∀i,O' i=O i\/O' i=none)->(∀x∈p.2,O' x.1=none)->ak w (AA c w O') ρ p.1 u:=by
   unfold sS at a;cases e:(fl.headD false || (!v.ids.isEmpty && v.ids.all fk.contains)) with
   | true=>rw [e] at a;simp only [cond_true,Rp] at a;subst a;exact⟨(by intro p a;cases a),λO' le _ _=>ak.mono (λb hb=>le.A b hb) (λ_ _ h=>h) _ _ h1⟩
   | false=>rw [e] at a;simp only [cond_false] at a;obtain⟨o,k2⟩:=(De hs h1 a).2 rfl;exact⟨o,λO' le f g=>ak.mono (λb hb=>⟨hb,rfl⟩) (by intro i v h;cases h) _ _ (k2 O' le f g)⟩
  refine⟨one.1.append l,λO' le f g=> ?_⟩;simp only [ay];exact⟨u,r,rfl,one.2 O' le f (λx j=>g x (RD _ j)),m O' le f (λx j=>g x (RE _ j))⟩
theorem dv.length:∀{d:List bR} {xs:List T} {vs:List Value} {own:List Nat},dv B w A d xs vs own->xs.length=mB d
 | [],_,_,_,⟨rfl,_,_⟩=>rfl
 | r::d,xs,vs,own,h=>by
  cases r with
  | agg l=>obtain⟨g,x2,m,b,o1,e,rfl,rfl,rfl,h1,a⟩:=h;simp [mB,bR.size,h1.length,dv.length a]
  | new l=>obtain⟨g,x2,k,arr,ty,b,o1,e,rfl,rfl,rfl,i,h1,a⟩:=h;simp [mB,bR.size,h1.length,dv.length a]
  | _=>obtain⟨x,j,v,b,ob,f,rfl,rfl,rfl,h1,a⟩:=h;simp [mB,bR.size,dv.length a];omega
theorem Kj{R:Type}{d:Nat}:∀{m:List bR} {e x2:List T} {j:Nat} {vs:List Value} {own:List Nat} {K:List AV->aG->Nat->Option R},dv B w A m e vs own->
  dL ids d cc j m (e++x2) K=dL ids d cc j m e K:=by
 have one:∀{l:List bR} {e x2:List T} {j:Nat} {vs:List Value} {own:List Nat} {K:List AV->aG->Nat->Option R},ff B w A l e vs own->jz ids d cc j l (e++x2) K=jz ids d cc j l e K:=by
  intro l;induction l with
  | nil=>intro e x2 j vs own K h;rfl
  | cons r l q=>intro e x2 j vs own K h;obtain⟨x,o,v,g,ob,i,rfl,rfl,rfl,h1,n⟩:=h;simp only [jz,Rx,SW,UF];congr 1;funext y;congr 1;funext v u j;exact q n
 intro m;induction m with
 | nil=>intro e x2 j vs own K h;rfl
 | cons r m q=>
  intro e x2 j vs own K h
  have a:(∃x o v g ob i,e=x::o/\vs=v::g/\own=ob++i/\js B w A r x v ob/\dv B w A m o g i)->
    (aa cc (e++x2).head? λx=>l7 ids d cc j r x λv u j=>dL ids d cc j m (e++x2).tail λvs us j=>K (v::vs) (u++us) j)=
    aa cc e.head? λx=>l7 ids d cc j r x λv u j=>dL ids d cc j m e.tail λvs us j=>K (v::vs) (u++us) j:=by
   rintro⟨x,o,v,g,ob,i,rfl,rfl,rfl,h1,n⟩;simp only [Rx,SW,UF];congr 1;funext y;congr 1;funext v u j;exact q n
  cases r with
  | agg l=>obtain⟨D,z,G,g,o1,C,rfl,rfl,rfl,h1,n⟩:=h;simp only [dL];have p:=h1.length;rw [R6,one h1,one (x2:=z) h1];congr 1;funext v u j;rw [qU p,qU p];exact q n
  | f k=>exact a h
  | t k=>exact a h
  | own sz=>exact a h
  | rows sz az rsz=>exact a h
  | mp ag ks vk=>exact a h
  | new l=>
   obtain⟨D,z,F,arr,ty,g,o1,C,rfl,rfl,rfl,E,h1,n⟩:=h;have p:=h1.length;cases cc with
   | some b=>simp only [dL]
   | none=>
   simp only [dL];rw [R6,one h1,one (x2:=z) h1];congr 1;funext v u j;rw [qU p,qU p];exact q n
  | ref k off=>exact a h
  | same k=>exact a h
  | no=>exact a h
theorem wv{l:List Id}{h:Id->Option ab}{i:Id}(hi:i∈l):aJ h (jy l) i=some .dead:=by
 induction l generalizing h with
 | nil=>cases hi
 | cons j l d=>
  show aJ (aA h j (some .dead)) (jy l) i=some .dead;by_cases hm:i∈l
  .exact d hm
  .have:i=j:=by
    rcases RC.1 hi with h | h
    .exact h
    .exact(hm h).elim
   subst this;rw [dI (λp b e=> ?_),aC];obtain⟨k,a,rfl⟩:=RU.1 b;exact hm (e▸a)
theorem s9{l:List Id}{h:Id->Option ab}{i:Id}(hi:i∉l):aJ h (jy l) i=h i:=by refine dI λp b e=> ?_;obtain⟨k,a,rfl⟩:=RU.1 b;exact hi (e▸a)
theorem NX{d:Nat}{l:List Id}(h:xH d l=true):∀i∈l,∀k,i≠ .s d k:=by intro i hi k e;have:=RK.1 h i hi;subst e;simp at this
theorem Dz{R:Type}{An:cG}{Or:aB}(hO:jc P An Or){d:Nat}{f:FuncId}{args:List AV}{bc:List Value}{K:AV->aG->Option R}{r:R}(hc:cc=none\/cc=some true)(hs:HS c w s.h ρ O)(hv:ay w (AA c w O) ρ args bc)
  (a:gw P An Or s d cc f args K=some r):
  ∃v us fn L,K v us=some r/\P.funcs[f]? =some fn/\fn.body=some L/\fn.name≠ "runtime.NumGoroutine" /\
   (iK d s.h us=true->Calls P f bc.toArray w λe w'=>∃x,e= .returned x/\∃ρ' O',Le w ρ O w' ρ' O'/\HS c w' (aJ s.h us) ρ' O'/\ak w' (AA c w' O') ρ' v x):=by
 unfold gw at a;split at a
 .simp at a
 rename_i fn hfn;split at a
 .rename_i hbref;replace a:=Rq.1 a;obtain⟨p,hp,a⟩:=a;obtain⟨pt,a,X⟩:=yw hc a;replace a:=aK a (.inl rfl);obtain⟨xs,hxs,a⟩:=a;replace hxs:Or (.call f) pt []=some xs:=by rcases hc with rfl | rfl <;> exact hxs
  obtain⟨fn',L,S,T,V,t⟩:=hO f pt [] xs hxs;rw [hfn] at S;simp only [Rp] at S;subst S;have t:=t.values hbref;have ok:=Dh hs hv hp;rw [show dL [] d cc 0 (dc P An f 0 fn) xs (λvs u _=>K (lH vs) (p.2++u))= (dL [] d cc 0 (dc P An f 0 fn) xs (λvs u j=>some (vs,u,j))).bind (λq=>K (lH q.1) (p.2++q.2.1)) from by rw [px];rfl] at a;replace a:=Rq.1 a;obtain⟨q,hq,a⟩:=a;refine⟨_,_,fn,L,a,hfn,T,V,λU=> ?_⟩;have hfree':∀k,(∃b,(Id.s d k,b)∈q.2.1)->s.h (.s d k)=none:=by rintro k ⟨b,hb⟩;have:=RK.1 U _ (RE _ hb);simpa using this
  cases hfl:(dc P An f 0 fn).all rp with
  | true=>
   obtain⟨hp2,N⟩:=ok.1 hfl;refine(t _ w bc (λb hb=>hb) (X _ _ _ _ N)).mono λe w' W=> ?_;obtain⟨rs,own,rfl,I,hnd,z,H⟩:=W;obtain⟨H,rfl⟩:=H.flat (A':=λb=>(c.A0 b\/c.MO b)/\b < w'.heap.size/\b∉([]:List Nat)/\∀i,O i≠some b) hfl;obtain⟨avs,us,j,hq',Y,tk⟩:=II hc hs I hnd z H hq;simp only [Rp] at hq';subst hq';obtain⟨ρ',O',le,hs',hv'⟩:=tk (λp hp=>by
    obtain⟨k,_,_,e⟩:=Y p hp;rw [e];exact hfree' k ⟨p.2,by rw [<-e];exact hp⟩)
   refine⟨_,rfl,ρ',O',le, ?_,BF hv'⟩;rw [hp2];exact hs'
  | false=>
   obtain⟨hfz,N⟩:=ok.2 hfl;obtain⟨O1,cC,hs1,hO1,hf1,_⟩:=hs.rq hfz;refine(t _ w bc (λb hb=>hb.2.1) (X _ _ _ _ (N O1 cC hO1 hf1))).mono λe w' W=> ?_;obtain⟨rs,own,rfl,I,hnd,z,H⟩:=W;have H:=H.mono (A':=λb=>(c.A0 b\/c.MO b)/\b < w'.heap.size/\b∉own/\∀i,O1 i≠some b) (by
    rintro b ⟨h1 | h1,C,h3⟩
    .exact⟨h1.1,C,h3,h1.2.2⟩
    .exact⟨.inr (.inr (R4 hs.size h1)),C,h3,λi hi=>by have:=hs1.lt i b hi;omega⟩)
   obtain⟨avs,us,j,hq',Y,tk⟩:=II hc hs1 I hnd z H hq;simp only [Rp] at hq';subst hq';obtain⟨ρ',O',le,hs',hv'⟩:=tk (λp' hp'=>by
    obtain⟨k,_,_,e⟩:=Y p' hp';have hn:=hfree' k ⟨p'.2,by rw [<-e];exact hp'⟩;rw [dI (λx D ex=> ?_),e]
    .exact hn
    .have C:=hfz x D;rw [ex,e,hn] at C;rcases C with⟨sz,b,l,_,C⟩ | ⟨l,_,C⟩ <;> simp at C)
   exact⟨_,rfl,ρ',O',cC.trans le,by rw [lS];exact hs',BF hv'⟩
 .rename_i fl hbref;cases cc with
  | some b=>simp at a
  | none=>
  dsimp only at a;replace a:=Rq.1 a;obtain⟨p,hp,a⟩:=a;replace a:=Rq.1 a;obtain⟨us,hus,a⟩:=a;replace a:=Rq.1 a;obtain⟨seen,hseen,a⟩:=a;generalize hn0:gU ((bT p.1).head?.bind (aJ s.h p.2))=n0 at a hus;cases J:(xH d seen && Nat.beq (gU (seen.map λi=>gO seen (aJ (aJ s.h p.2) us i)).head?) n0) with
  | false=>rw [J] at a;simp at a
  | true=>
  rw [J,cond_true] at a;simp only [Rw] at J;obtain⟨hnot,hd0⟩:=J;replace hd0:=Nat.eq_of_beq_eq_true hd0;have hns:=NX hnot;obtain⟨pt,a,X⟩:=yw (.inl rfl) a;replace a:=aK a (.inl rfl);obtain⟨xs,hxs,a⟩:=a;obtain⟨fn',L,S,T,V,t⟩:=hO f pt _ xs hxs;rw [hfn] at S;simp only [Rp] at S;subst S;obtain⟨hfz,N⟩:=Dc hs hv hp;obtain⟨O1,cC,hs1,hO1,hf1,_⟩:=hs.rq hfz;have hv1:=N O1 cC hO1 hf1;obtain⟨ρ2,G,le2,o⟩:=Bt hs1 hus;have hv2:=ay.mono (λb hb=>le2.A b hb) le2.eB _ _ hv1;obtain⟨g1,_,g3,g4,g5⟩:=ug hseen UZ (by simp) (by simp);let c':Ctx:={A0:=AA c w G,M:=λb=>∃i,Of seen i/\G i=some b,N0:=w.heap.size};have hA3:∀b,AA c w G b->AA c' w (cf seen G) b:=λb hb=>⟨.inl hb,hb.2.1,λi hi=>by
   obtain⟨k,_,a⟩:=uk ⟨i,hi⟩;exact hb.2.2 k a⟩
  have hs3:=o.HN (c':=c') g1 g4 g5 hA3 (λb hb=> .inl (uk hb)) (RI _);have hv3:=X _ _ _ _ (ay.rn (m:=seen) hA3 _ _ (λi hi=>g3 i hi) hv2);have t:=t c' w _ _ bc rfl hs3 hv3;rw [hd0] at t;obtain⟨blks,hblks⟩:∃blks,blks=seen.map λi=>gO seen (aJ (aJ s.h p.2) us i):=⟨_,rfl⟩;obtain⟨C,hh2⟩:∃C,C=aJ (aJ s.h p.2) us:=⟨_,rfl⟩;rw [<-hblks] at t;rw [<-hh2] at o g4 g5;rw [show(dL seen d none 0 (dc P An f n0 fn) xs λvs u j=>fR seen d j seen (gN An f n0) (xs.drop (mB (dc P An f n0 fn))) λq=>K (lH vs) (p.2++us++jy seen++u++q))=
   ((dL seen d none 0 (dc P An f n0 fn) xs λvs u j=>some (vs,u,j)).bind λq0=>(fR seen d q0.2.2 seen (gN An f n0) (xs.drop (mB (dc P An f n0 fn))) some).bind λq=>K (lH q0.1) (p.2++us++jy seen++q0.2.1++q)) from by
    rw [px];congr 1;funext vs u j;simp only [RA];rw [wB];rfl] at a
  replace a:=Rq.1 a;obtain⟨⟨avs,u0,j0⟩,hq0,a⟩:=a;replace a:=Rq.1 a;obtain⟨qs,hqs,a⟩:=a;dsimp only at hqs a;refine⟨_,_,fn,L,a,hfn,T,V,λU=> ?_⟩;refine t.mono ?_;rintro e w' ⟨rs,x1,x2,o1,o2,rfl,I,rfl,hnd,z,H,ho⟩;refine⟨_,rfl, ?_⟩;rw [qU H.length] at hqs;rw [Kj H] at hq0;obtain⟨n1,n2,n3⟩:=Tc.1 hnd;have inMO:∀b,c'.MO b->c.MO b:=by
   rintro b (⟨i,_,hi⟩ | hb)
   .exact o.own i b hi
   .exact .inr (R4 o.size hb)
  have fk:∀b,b < w.heap.size->(∀i,Of seen i->G i≠some b)->w'.heap[b]? =w.heap[b]?:=λb hb hn=>I.ah b hb λho=>by obtain⟨k,a,e⟩:=uk ho;exact hn k a e
  have out:∀b∈o1++o2,∀i,¬Of seen i->G i≠some b:=by
   intro b hb i hi e;rcases(z b hb).1 with⟨k,a,hkb⟩ | hN
   .exact hi (o.inj k i b hkb e▸a)
   .have:=o.lt i b e;exact absurd hN (VI this)
  let A1:Nat->Prop:=λb=>(c'.A0 b\/c'.MO b)/\b < w'.heap.size/\b∉o1++o2
  classical
  let Z:Id->Option Nat:=λi=>if Of seen i then none else G i;have hreal:∀i∈seen,i.real=true:=λi hi=>o.real (g4 i hi);have hofr:∀{i:Id},i.real=true->Of seen i->i∈seen:=by
   rintro i H (hi | ⟨j,n,_,rfl⟩)
   .exact hi
   .cases H
  have hofg:∀{i:Id} {n:Nat},Of seen (.g i n)->i∈seen:=by
   rintro i n (hi | ⟨j,m,hj,e⟩)
   .have:=hreal _ hi;cases this
   .cases e;exact hj
  have F:∀i b,Z i=some b->¬Of seen i/\G i=some b:=by
   intro i b h;simp only [Z] at h;split at h
   .cases h
   .rename_i hi;exact⟨hi,h⟩
  have hA4:∀b,AA c w G b->A1 b/\w'.heap[b]? =w.heap[b]?:=by
   intro b hb;refine⟨⟨.inl hb,S7 hb.2.1 I.size,λhm=> ?_⟩,fk b hb.2.1 λi _=>hb.2.2 i⟩;rcases(z b hm).1 with⟨k,_,hkb⟩ | hN
   .exact hb.2.2 k hkb
   .exact absurd hN (VI hb.2.1)
  have hsa:gu c w' A1 (aJ C (jy seen)) ρ2 Z:=by
   refine⟨λi x D=> ?_,λi hir hi=> ?_,λi n=> ?_,λi n hi=> ?_,o.gone,λi j b hi hj=> ?_,λi b hi=> ?_,λi b hi=> ?_,R4 o.size I.size⟩
   .by_cases hm:i∈seen
    .rw [wv hm] at D;cases D;obtain⟨y,hy⟩:=UM.1 (g4 i hm);exact⟨o.Iy hy,if_pos (.inl hm)⟩
    .rw [s9 hm] at D;have hm':¬Of seen i:=λe=>hm (hofr (o.real (by rw [D];simp)) e);have hmg:∀n,¬Of seen (.g i n):=λn e=>hm (hofg e);refine cR.mono (λn=>⟨rfl,if_neg (hmg n),λb hb=>fk b (o.lt _ b hb) λk a e=>hmg n (o.inj k _ b e hb▸a)⟩) hA4 (λ_ _ h=>h) (if_neg hm') (λb hb=>fk b (o.lt i b hb) λk a e=> ?_) (o.ah i x D);exact hm' (o.inj k i b e hb▸a)
   .by_cases hm:i∈seen
    .rw [wv hm] at hi;cases hi
    .rw [s9 hm] at hi;obtain⟨E,a2⟩:=o.cr i hir hi;exact⟨E,by rw [show Z i=G i from if_neg λe=>hm (hofr hir e)];exact a2⟩
   .rw [s9 λhm=>by have:=hreal _ hm;cases this];exact o.dF i n
   .by_cases hm:i∈seen
    .rw [wv hm] at hi;cases hi
    .rw [s9 hm] at hi;obtain⟨E,a2⟩:=o.fj i n hi;exact⟨E,by rw [show Z (.g i n)=G (.g i n) from if_neg λe=>hm (hofg e)];exact a2⟩
   .exact o.inj i j b (F i b hi).2 (F j b hj).2
   .exact S7 (o.lt i b (F i b hi).2) I.size
   .exact o.own i b (F i b hi).2
  have hbr:uM (oq blks.length (cf seen ρ2)) seen ρ2:=by
   intro k i v a hB;simp only [oq] at hB;split at hB
   .simpa [cf,a] using hB
   .cases hB
  have hnew:∀k,(∃b,(Id.s d k,b)∈u0\/(Id.s d k,b)∈qs)->s.h (.s d k)=none:=by
   rintro k ⟨b,hb⟩;have hm:(Id.s d k,b)∈p.2++us++jy seen++u0++qs:=by
    rcases hb with hb | hb
    .exact RD _ (RE _ hb)
    .exact RE _ hb
   have:=RK.1 U _ hm;simpa using this
  have hnone:∀k,s.h (.s d k)=none->aJ C (jy seen) (.s d k)=none:=by
   intro k a;rw [s9 λhm=>hns _ hm k rfl,hh2];refine Hy (λk' e=> ?_) hus ?_
   .simp only [Id.s.injEq] at e;omega
   .rw [dI λx D ex=> ?_]
    .exact a
    .have C:=hfz x D;rw [ex,a] at C;rcases C with⟨sz,b,l,_,C⟩ | ⟨l,_,C⟩ <;> simp at C
  obtain⟨avs',u0',j0',hq0',_,Q,tk0⟩:=tc (c:=c) (ids:=seen) (.inl rfl) H hq0;simp only [Rp,Sk] at hq0';obtain⟨rfl,rfl,rfl⟩:=hq0';obtain⟨ρ3,O3,m3,hs4,v3,rng3⟩:=tk0 _ ρ2 Z hbr hsa n1 (λb hb=>⟨(z b (RD _ hb)).2,inMO b (z b (RD _ hb)).1,λi hi=>out b (RD _ hb) i (F i b hi).1 (F i b hi).2⟩)
   (λx D=>by
    obtain⟨k,_,_,e⟩:=Q x D;rw [e];exact hnone k (hnew k ⟨x.2, .inl (by rw [<-e];exact D)⟩))
  obtain⟨qs',hqs',names1,tk1⟩:=td (c:=c) ho hqs;simp only [Rp] at hqs';subst hqs';have notin0:∀x,(∀k,x≠ .s d k)->aJ (aJ C (jy seen)) u0' x=aJ C (jy seen) x:=λx D=>dI λy hy e=>by obtain⟨k,_,_,g⟩:=Q y hy;exact D k (by rw [<-e,g])
  obtain⟨ρ4,O4,m4,hs5,rng4⟩:=tk1 _ ρ3 O3 (λk i v S e2=>m3 i v (hbr k i v S e2)) (λk i a=>by
    have hm:=Rt a;refine⟨by rw [notin0 i (hns i hm),wv hm],λv hv=> ?_⟩;rw [RY] at hv;exact m3 i v (hbr k i v a hv)) hs4 n2 (λb hb=>⟨(z b (RE _ hb)).2,inMO b (z b (RE _ hb)).1,λi hi=>by
    rcases(rng3 b).1 ⟨i,hi⟩ with⟨k,a⟩ | a
    .exact out b (RE _ hb) k (F k b a).1 (F k b a).2
    .exact n3 b a b hb rfl⟩) g1 (λi hi k=>hns i hi k) (λx D k e=>by
    rw [dI (λy hy ey=> ?_),e]
    .exact hnone k (hnew k ⟨x.2, .inr (by rw [<-e];exact D)⟩)
    .obtain⟨k',_,g2,g⟩:=Q y hy;rcases names1 x D with⟨k'',g6,g7⟩ | g6
     .rw [g,g7] at ey;simp only [Id.s.injEq] at ey;omega
     .exact hns _ g6 k e)
  have rng:∀b,(∃i,O4 i=some b)↔(∃i,Z i=some b)\/b∈o1++o2:=by intro b;rw [rng4 b,rng3 b,RM,or_assoc]
  have hAA:∀b,A1 b↔AA c w' O4 b:=by
   intro b;constructor
   .rintro⟨E,a2,a3⟩;refine⟨?_,a2,λi hi=> ?_⟩
    .rcases E with E | E
     .exact E.1
     .exact .inr (inMO b E)
    .rcases(rng b).1 ⟨i,hi⟩ with⟨k,a⟩ | a
     .obtain⟨k1,k2⟩:=F k b a;rcases E with E | ⟨k',hk',e⟩ | E
      .exact E.2.2 k k2
      .exact k1 (o.inj k' k b e k2▸hk')
      .exact absurd E (VI (o.lt k b k2))
     .exact a3 a
   .rintro⟨E,a2,a3⟩;refine⟨?_,a2,λhm=> ?_⟩
    .by_cases hb:b < w.heap.size
     .by_cases hex:∃i,G i=some b
      .obtain⟨i,hi⟩:=hex;by_cases hm:Of seen i
       .exact .inr (.inl ⟨i,hm,hi⟩)
       .obtain⟨k,a⟩:=(rng b).2 (.inl ⟨i,by simp only [Z,if_neg hm];exact hi⟩);exact(a3 k a).elim
      .exact .inl ⟨E,hb,λi hi=>hex ⟨i,hi⟩⟩
     .exact .inr (.inr (To hb))
    .obtain⟨k,a⟩:=(rng b).2 (.inr hm);exact a3 k a
  have le3:Le w ρ2 G w' ρ4 O4:=by
   refine⟨I.os,I.output,I.tape,I.size,λi v hi=>m4 i v (m3 i v hi),λb hb hn=>fk b hb λi _=>hn i,λi b hi=> ?_⟩;rcases(rng b).1 ⟨i,hi⟩ with⟨k,a⟩ | a
   .exact .inl ⟨k,(F k b a).2⟩
   .rcases(z b a).1 with⟨k,_,hkb⟩ | hN
    .exact .inl ⟨k,hkb⟩
    .exact .inr hN
  refine⟨ρ4,O4,cC.trans (le2.trans le3), ?_,BF (ay.mono (λb hb=>⟨(hAA b).1 hb,rfl⟩) m4 _ _ v3)⟩;have:=hs5.IK hAA;rw [hh2] at this;simp only [lS];exact this
end
open Go
section
variable {P:Program} {w w':World} {A A':Nat->Prop} {c:Ctx} {ρ ρ':Id->Option Value} {O O':Id->Option Nat} {s:St} {cc:Option Bool} {h:Id->Option ab}
theorem cR.If{i:Id}{b:Bool}{sz az rsz nx k:Nat}{es:List Row}{e:Row}(hb:cR w A ρ O i (.rows b sz az rsz nx es))(l:es[k]? =some e)(q:Option (Bool×List (List T)))(G:∀d,A d->A' d)
  (D:ρ' i=ρ i) (z:∀n,ρ' (.g i n)=ρ (.g i n)) (I:O' i=O i) (H:∀m,m≠e.n->O' (.g i m)=O (.g i m))
  (L:match q with | some p=>∀v,ρ (.g i e.n)=some v->cM w A' rsz p.1 p.2 v (λd=>O' (.g i e.n)=some d) | none=>O' (.g i e.n)=none):
  cR w A' ρ' O' i (.rows b sz az rsz nx (es.set k {e with own:=q})):=by
 obtain⟨a,cap,r1,r2,r3,⟨M,N,n3,n4⟩,E⟩:=hb;have r:(es.set k {e with own:=q}).length=es.length:=by simp
 have x:(es.set k {e with own:=q}).map (·.n)=es.map (·.n):=by
  rw [Uk];refine TV λm=> ?_;rw [SC];split
  .rename_i h;subst h;have:=(Rz.1 l).1;rw [if_pos (by simpa using this)];simp [l]
  .rfl
 refine⟨a,cap,by rw [r,D];exact r1,by rw [r];exact r2,r3,⟨by rw [x];exact M,λf j=> ?_,λm hm=>by rw [z];exact n3 m hm,λm d J=> ?_⟩, ?_⟩
 .rcases RV j with j | rfl
  .exact N f j
  .exact N e (Rt l)
 .have K:∃f∈es,f.n=m:=by
   by_cases hm:m=e.n
   .exact⟨e,Rt l,hm.symm⟩
   .rw [H m hm] at J;exact n4 m d J
  obtain⟨f,j,o⟩:=K;have:m∈(es.set k {e with own:=q}).map (·.n):=by rw [x];exact RU.2 ⟨f,j,o⟩
  obtain⟨X,h1,h2⟩:=RU.1 this;exact⟨X,h1,h2⟩
 .rcases E with E | ⟨ah,off,arr,t,q1,q2,q3,q4,Q⟩
  .exact .inl E
  .refine .inr ⟨ah,off,arr,t,q1,by rw [I];exact q2,q3,q4, ?_⟩;have C:=Q.get l;refine b9.set (λb hb=>⟨G b hb,rfl⟩) (Rz.1 l).1 (λ_ _ _ _=>rfl) (λm f hm j=> ?_) ?_ Q
   .have o:f.n≠e.n:=λh=>hm (tR M j l h);exact⟨z _,H _ o,λ_ _=>rfl⟩
   .obtain⟨S,U,V,u,W,F,a7⟩:=C;refine⟨S,U,λm y hm hy=> ?_,u,W,by rw [z];exact F, ?_⟩
    .obtain⟨R,Y,Z⟩:=V m y hm hy;exact⟨R,Y,aw.mono (λb hb=>⟨G b hb,rfl⟩) y R Z⟩
    .cases q with
     | none=>exact L
     | some p=>exact L u F
theorem GX{n:Nat}:∀{es:List Row} {u:Unit},lA n es=some u->∃k e,es[k]? =some e/\e.n=n/\e.own=none/\∀q,dr n q es=es.set k {e with own:=q}
 | [],_,h=>by simp [lA] at h
 | e::es,u,h=>by
  unfold lA at h;by_cases c:e.n=n
  .rw [if_pos c] at h;split at h
   .rename_i g;exact⟨0,e,rfl,c,g,λq=>by simp [dr,c]⟩
   .cases h
  .rw [if_neg c] at h;obtain⟨k,f,h1,a,b,d⟩:=GX h;exact⟨k+1,f,by simpa using h1,a,b,λq=>by simp [dr,c,d q]⟩
theorem HS.gX{i new:Id}{b:Bool}{sz az rsz nx n:Nat}{es:List Row}{p:Bool×List (List T)}{v:Value}(hs:HS c w h ρ O)(hi:h i=some (.rows b sz az rsz nx es))(F:br n es=some p)(hv:ρ (.g i n)=some v)
  (r:h new=none) (hrl:new.real=true):
  ∃O',Le w ρ O w (aA ρ new (some v)) O'/\HS c w (aA (aA h i (some (.rows b sz az rsz nx (dr n none es)))) new (some (.sl false rsz p.1 p.2))) (aA ρ new (some v)) O':=by
 have z:=hs.real (i:=i) (by rw [hi];simp);have W:i≠new:=λe=>by rw [e,r] at hi;cases hi
 obtain⟨k,e,R,t,V,D⟩:=wW F;obtain⟨Y,L,U⟩:=xZ (s:=⟨λ_=>(none, .top),h⟩) hs hi F;rw [hv] at L;cases L;let Q:Id->Option Nat:=λx=>if x=new then O (.g i n) else if x= .g i n then none else O x;have M:Q new=O (.g i n):=by simp only [Q,if_true]
 have N:Q (.g i n)=none:=by simp only [Q,if_neg (aL hrl),if_true]
 have l:∀x,x≠new->x≠ .g i n->Q x=O x:=λx h1 f=>by simp only [Q,if_neg h1,if_neg f]
 have j:∀x d,Q x=some d->(x=new/\O (.g i n)=some d)\/(x≠new/\x≠ .g i n/\O x=some d):=by
  intro x d a;simp only [Q] at a;split at a
  .exact .inl ⟨by assumption,a⟩
  .split at a
   .cases a
   .exact .inr ⟨by assumption,by assumption,a⟩
 obtain⟨S,X⟩:=hs.cr new hrl r;have le:Le w ρ O w (aA ρ new (some v)) Q:=⟨rfl,rfl,rfl,RI _,λx u a=>by
  by_cases e:x=new
  .subst e;rw [S] at a;cases a
  .rw [aq _ _ e];exact a,λ_ _ _=>rfl,λx d a=>by
  rcases j x d a with⟨_,h⟩ | ⟨_,_,h⟩
  .exact .inl ⟨_,h⟩
  .exact .inl ⟨_,h⟩⟩
 refine⟨Q,le,hs.oh le (λx y a=> ?_) (λx G a=> ?_) (λx m=>by rw [aq _ _ (aL hrl),aq _ _ (aL z)];exact hs.dF x m) (λx m a=> ?_) (λx m u I=>by rw [aq _ _ (aL hrl)] at I;exact hs.gone x m u I) (λx y d a hy=> ?_) (λx d a=> ?_)⟩
 .by_cases o:x=new
  .subst o;rw [aC] at a;cases a;right;refine⟨v,aC _ _ _,cM.mono (λd q=>le.A d q) (λd q=>⟨?_,rfl⟩) U,by simp⟩;simp only [RS,if_false];rw [M];exact q
  .rw [aq _ _ o] at a;by_cases C:x=i
   .subst C;rw [aC] at a;cases a;right;rw [D];refine cR.If (hs.ah x _ hi) R none (λd q=>(le.A d q).1) (aq _ _ o) (λm=>aq _ _ (aL hrl)) (l x o (aL z).symm) (λm hm=>l _ (aL hrl) ?_) ?_
    .intro h;simp only [Id.g.injEq,true_and] at h;exact hm (h.trans t.symm)
    .simp only;rw [t];exact N
   .rw [aq _ _ C] at a;have H:=hs.real (i:=x) (by rw [a];simp);refine .inl ⟨a,l x o (aL H).symm,λ_ _=>rfl,λm=>⟨aq _ _ (aL hrl),l _ (aL hrl) ?_,λ_ _=>rfl⟩⟩;intro h;simp only [Id.g.injEq] at h;exact C h.1
 .have h1:x≠new:=λe=>by rw [e,aC] at a;cases a
  rw [aq _ _ h1] at a;have f:x≠i:=λe=>by rw [e,aC] at a;cases a
  rw [aq _ _ f] at a;rw [aq _ _ h1,l x h1 (aL G).symm];exact hs.cr x G a
 .have h1:x≠new:=λe=>by rw [e,aC] at a;cases a
  rw [aq _ _ h1] at a;have f:x≠i:=λe=>by rw [e,aC] at a;cases a
  rw [aq _ _ f] at a;rw [aq _ _ (aL hrl),l _ (aL hrl) (by intro h;simp only [Id.g.injEq] at h;exact f h.1)];exact hs.fj x m a
 .rcases j x d a with⟨h1,f⟩ | ⟨h1,f,E⟩ <;> rcases j y d hy with⟨J,k2⟩ | ⟨J,k2,K⟩
  .rw [h1,J]
  .exact(k2 (hs.inj _ _ d K f)).elim
  .exact(f (hs.inj _ _ d E k2)).elim
  .exact hs.inj x y d E K
 .rcases j x d a with⟨_,h⟩ | ⟨_,_,h⟩
  .exact hs.lt _ d h
  .exact hs.lt _ d h
theorem HS.back{i new:Id}{b bb:Bool}{sz az rsz nx n:Nat}{es:List Row}{xs:List (List T)}{v:Value}{u:Unit}(hs:HS c w h ρ O)(hi:h i=some (.rows b sz az rsz nx es))(R:lA n es=some u)(j:h new=some (.sl false rsz bb xs))
  (hv:ρ (.g i n)=some v) (E:ρ new=some v):
  ∃O',Le w ρ O w ρ O'/\HS c w (aA (aA h i (some (.rows b sz az rsz nx (dr n (some (bb,xs)) es)))) new (some .dead)) ρ O':=by
 have t:=hs.real (i:=i) (by rw [hi];simp);have hrl:=hs.real (i:=new) (by rw [j];simp);have W:i≠new:=λe=>by rw [e,j] at hi;cases hi
 obtain⟨k,e,N,q,V,D⟩:=GX R;obtain⟨U,K,S,_⟩:=hs.ah new _ j;rw [E] at K;cases K;let Q:Id->Option Nat:=λx=>if x=new then none else if x= .g i n then O new else O x;have L:Q new=none:=by simp only [Q,if_true]
 have M:Q (.g i n)=O new:=by simp only [Q,if_neg (aL hrl),if_true]
 have o:∀x,x≠new->x≠ .g i n->Q x=O x:=λx h1 f=>by simp only [Q,if_neg h1,if_neg f]
 have l:∀x d,Q x=some d->(x= .g i n/\O new=some d)\/(x≠new/\x≠ .g i n/\O x=some d):=by
  intro x d a;simp only [Q] at a;split at a
  .cases a
  .split at a
   .exact .inl ⟨by assumption,a⟩
   .exact .inr ⟨by assumption,by assumption,a⟩
 have le:Le w ρ O w ρ Q:=⟨rfl,rfl,rfl,RI _,λ_ _ h=>h,λ_ _ _=>rfl,λx d a=>by
  rcases l x d a with⟨_,h⟩ | ⟨_,_,h⟩
  .exact .inl ⟨_,h⟩
  .exact .inl ⟨_,h⟩⟩
 refine⟨Q,le,hs.oh le (λx y a=> ?_) (λx H a=> ?_) (λx m=>by rw [aq _ _ (aL hrl),aq _ _ (aL t)];exact hs.dF x m) (λx m a=> ?_) hs.gone (λx y d a hy=> ?_) (λx d a=> ?_)⟩
 .by_cases r:x=new
  .subst r;rw [aC] at a;cases a;exact .inr ⟨⟨v,E,jM hs E⟩,L⟩
  .rw [aq _ _ r] at a;by_cases C:x=i
   .subst C;rw [aC] at a;cases a;right;rw [D];refine cR.If (hs.ah x _ hi) N (some (bb,xs)) (λd p=>(le.A d p).1) rfl (λm=>rfl) (o x r (aL t).symm) (λm hm=>o _ (aL hrl) ?_) ?_
    .intro h;simp only [Id.g.injEq,true_and] at h;exact hm (h.trans q.symm)
    .simp only;intro U z;rw [q,hv] at z;cases z;refine cM.mono (λd p=>le.A d p) (λd p=>⟨?_,rfl⟩) S;simp only [RS,if_false] at p;rw [q,M];exact p
   .rw [aq _ _ C] at a;have I:=hs.real (i:=x) (by rw [a];simp);refine .inl ⟨a,o x r (aL I).symm,λ_ _=>rfl,λm=>⟨rfl,o _ (aL hrl) ?_,λ_ _=>rfl⟩⟩;intro h;simp only [Id.g.injEq] at h;exact C h.1
 .have h1:x≠new:=λe=>by rw [e,aC] at a;cases a
  rw [aq _ _ h1] at a;have f:x≠i:=λe=>by rw [e,aC] at a;cases a
  rw [aq _ _ f] at a;rw [o x h1 (aL H).symm];exact hs.cr x H a
 .have h1:x≠new:=λe=>by rw [e,aC] at a;cases a
  rw [aq _ _ h1] at a;have f:x≠i:=λe=>by rw [e,aC] at a;cases a
  rw [aq _ _ f] at a;rw [o _ (aL hrl) (by intro h;simp only [Id.g.injEq] at h;exact f h.1)];exact hs.fj x m a
 .rcases l x d a with⟨h1,f⟩ | ⟨h1,f,G⟩ <;> rcases l y d hy with⟨F,k2⟩ | ⟨F,k2,J⟩
  .rw [h1,F]
  .exact(F (hs.inj _ _ d J f)).elim
  .exact(h1 (hs.inj _ _ d G k2)).elim
  .exact hs.inj x y d G J
 .rcases l x d a with⟨_,h⟩ | ⟨_,_,h⟩
  .exact hs.lt _ d h
  .exact hs.lt _ d h
theorem BN:∀{args:List AV} {bc:List Value} {d:List AV} {i:Id} {n:Nat} {e:List AV},ay w A ρ args bc->nA args=some (d,i,n,e)->
  ∃v,ρ (.g i n)=some v/\∀(ρ':Id->Option Value) (new:Id),(∀x u,ρ x=some u->ρ' x=some u)->(∀b,A b->A' b)->ρ' new=some v->ay w A' ρ' (d++ .own new::e) bc
 | [],_,_,_,_,_,_,h=>by simp [nA] at h
 | a::args,bc,d,i,n,e,hv,h=>by
  simp only [ay] at hv;obtain⟨u,r,rfl,k,m⟩:=hv
  have j:(nA args).bind (λq=>some (a::q.1,q.2.1,q.2.2.1,q.2.2.2))=some (d,i,n,e)->
    ∃v,ρ (.g i n)=some v/\∀(ρ':Id->Option Value) (new:Id),(∀x u,ρ x=some u->ρ' x=some u)->(∀b,A b->A' b)->ρ' new=some v->ay w A' ρ' (d++ .own new::e) (u::r):=by
   intro h;obtain⟨⟨y,i',t,z⟩,o,h⟩:=Rq.1 h;simp only [Rp,Sk] at h;obtain⟨rfl,rfl,rfl,rfl⟩:=h;obtain⟨v,p,k2⟩:=BN m o;refine⟨v,p,λρ' new hm f l=> ?_⟩;simp only [Rx,ay];exact⟨u,r,rfl,ak.mono (λb hb=>⟨f b hb,rfl⟩) hm _ _ k,k2 ρ' new hm f l⟩
  cases a
  case row i' t=>simp only [nA,Rp,Sk] at h;obtain⟨rfl,rfl,rfl,rfl⟩:=h;simp only [ak] at k;refine⟨u,k,λρ' new hm f l=> ?_⟩;simp only [Ry,ay];exact⟨u,r,rfl,by simp only [ak];exact l,ay.mono (λb hb=>⟨f b hb,rfl⟩) hm _ _ m⟩
  all_goals exact j h
theorem J3{R:Type}{An:cG}{Or:aB}(V:jc P An Or){gX:Bool}{d:Nat}{f:FuncId}{args:List AV}{bc:List Value}{K:AV->aG->Option R}{r:R}(hc:cc=none\/cc=some true)(hs:HS c w s.h ρ O)(hv:ay w (AA c w O) ρ args bc)
  (a:je gX P An Or s d cc f args K=some r):
  ∃v us fn l,K v us=some r/\P.funcs[f]? =some fn/\fn.body=some l/\fn.name≠ "runtime.NumGoroutine" /\
   (iK d s.h us=true->Calls P f bc.toArray w λe w'=>∃x,e= .returned x/\∃ρ' O',Le w ρ O w' ρ' O'/\HS c w' (aJ s.h us) ρ' O'/\ak w' (AA c w' O') ρ' v x):=by
 unfold je at a;split at a
 .exact Dz V hc hs hv a
 .rename_i l1 i n l2 o;have o:nA args=some (l1,i,n,l2):=by
   cases gX with
   | true=>exact o
   | false=>cases o
  split at a
  .rename_i b sz az rsz nx es hi;replace a:=aK a (.inl rfl);obtain⟨p,hp,a⟩:=a;cases m:s.h (.s (2500000+d) 0) with
   | some x=>rw [m] at a;simp at a
   | none=>
    rw [m] at a;simp only [Vu,cond_true] at a;obtain⟨Q,E,hargs⟩:=BN (A':=AA c w O) hv o;obtain⟨S,cC,hs1⟩:=hs.gX (new:= .s (2500000+d) 0) hi hp E m rfl;have z:ay w (AA c w S) (aA ρ (.s (2500000+d) 0) (some Q)) (l1++ .own (.s (2500000+d) 0)::l2) bc:=by obtain⟨v1,z,D⟩:=BN (A':=AA c w S) hv o;rw [E] at z;cases z;exact D _ _ cC.eB (λb hb=>(cC.A b hb).1) (aC _ _ _)
    obtain⟨v,us,fn,l,a,X,H,M,I⟩:=Dz (s:=⟨s.t,_⟩) V (cc:=none) (.inl rfl) hs1 z a;unfold sT at a;split at a
    .rename_i b2 sz2 col2 rsz2 nx2 es2 G b3 xs3 T U;split at a
     .rename_i J;obtain⟨rfl,rfl⟩:=J;replace a:=aK a (.inl rfl);obtain⟨u,hu,a⟩:=a;refine⟨v,_,fn,l,a,X,H,M,λL=> ?_⟩;have Y:iK d (aA (aA s.h i (some (.rows b sz az G nx (dr n none es)))) (.s (2500000+d) 0) (some (.sl false G p.1 p.2))) us=true:=by
       refine RK.2 λq o=> ?_;have:=RK.1 L q (RD _ (RE _ o));obtain⟨x,y⟩:=q;cases x with
       | s C k=>
        simp only at this⊢;by_cases W:C=d
        .subst W;have Z:s.h (.s C k)=none:=by simpa using this
         have h1:Id.s C k≠ .s (2500000+C) 0:=by intro h;simp only [Id.s.injEq] at h;omega
         have h2:Id.s C k≠i:=λh=>by rw [<-h,Z] at hi;cases hi
         rw [aq _ _ h1,aq _ _ h2,Z];simp
        .simp [W]
       | c k=>rfl
       | g j k=>exact this
      refine(I Y).mono ?_;rintro e w' ⟨x,rfl,ρ',O',F,hs2,hx⟩;have hw:ρ' (.s (2500000+d) 0)=some Q:=F.eB _ _ (aC _ _ _);have hv2:ρ' (.g i n)=some Q:=F.eB _ _ (cC.eB _ _ E);rw [lS,cX,dH] at T U;obtain⟨O3,N,hs3⟩:=hs2.back T hu U hv2 hw;refine⟨x,rfl,ρ',O3,cC.trans (F.trans N), ?_,ak.mono (λb hb=>N.A b hb) (λ_ _ h=>h) _ _ hx⟩;rw [lS,lS,cX,dH,cX,dH];exact hs3
     .simp at a
    .simp at a
  .simp at a
end
open Go
section
variable {P:Program} {An:cG} {Or:aB} {w w':World} {A A':Nat->Prop} {c:Ctx} {ρ:Id->Option Value} {O:Id->Option Nat} {s:St} {cc:Option Bool} {h:Id->Option ab}
def Good(P:Program)(c:Ctx)(w:World)(s:St)(ρ:Id->Option Value)(O:Id->Option Nat)(o:Oper)(a:Act)(v:AV)(us:aG):Prop:=
 iy P o a w λx w'=>∃ρ' O',Le w ρ O w' ρ' O'/\HS c w' (aJ s.h us) ρ' O'/\ak w' (AA c w' O') ρ' v x
theorem Good.pure{o:Oper}{a:Act}{v:AV}{x:Value}(hs:HS c w s.h ρ O)(b:(execOp a.eval o).run P w= .ok (.value x) w)(hv:ak w (AA c w O) ρ v x):Good P c w s ρ O o a v []:=by unfold Good iy;rw [b];exact⟨ρ,O,Le.refl,hs,hv⟩
theorem Good.val{o:Oper}{a:Act}{v:AV}{us:aG}{x:Value}{ρ':Id->Option Value}{O':Id->Option Nat}(b:(execOp a.eval o).run P w= .ok (.value x) w')(le:Le w ρ O w' ρ' O')(hs:HS c w' (aJ s.h us) ρ' O')(hv:ak w' (AA c w' O') ρ' v x):Good P c w s ρ O o a v us:=by unfold Good iy;rw [b];exact⟨ρ',O',le,hs,hv⟩
theorem re{a:Act}{g:Option Gs}(d:SS w A ρ s.t a.tmps)(b:jW a.tmps g):∀(xs:List Operand),ay w A ρ (xs.map (s.get g)) (xs.map a.eval)
 | []=>by simp [ay]
 | x::xs=>by simp only [RX,ay];exact⟨_,_,rfl,SS.get (h:=s.h) d b x,re d b xs⟩
theorem Md{op:BinOp}(h:op≠ .eql/\op≠ .neq){t:TypeId}{x y:Operand}{a b:Value}:(eqGuard op t x y a b).run P w= .ok () w:=by cases op <;> simp_all [eqGuard]
set_option maxHeartbeats 2000000 in
theorem C6(hO:jc P An Or){o:Oper}{a:Act}{g:Option Gs}{v:AV}{us:aG}(hs:HS c w s.h ρ O)(Z:SS w (AA c w O) ρ s.t a.tmps)(Y:jW a.tmps g)(j:df P An Or g o s=some (v,us))(N:iK (o.dst.getD 0) s.h us=true):
  Good P c w s ρ O o a v us:=by
 have H:=Y.cond;have ev:∀x,ak w (AA c w O) ρ (s.get g x) (a.eval x):=λx=>SS.get (h:=s.h) Z Y x;have tt:∀x y,(s.get g x).t? =some y->aw w (AA c w O) y (a.eval x):=by intro x y e;have:=ev x;rw [AV.lN e] at this;simpa [ak] using this
 have D:∀{v':AV} {W:aG},some (v',W)=some (v,us)->v'=v/\W=us:=by intro v' W e;simpa using e
 unfold df jd at j;cases E:o.op <;> rw [E] at j <;> dsimp only at j
 case move x=>obtain⟨rfl,rfl⟩:=D j;exact Good.pure hs (by simp [execOp,E]) (ev x)
 case assign x=>obtain⟨rfl,rfl⟩:=D j;exact Good.pure hs (by simp [execOp,E]) (ev x)
 case pick k x y=>
  replace j:=Rq.1 j;obtain⟨k',hk',j⟩:=j;have hkv:=tt k k' hk';replace j:=aK j H;obtain⟨kb,hkb,j⟩:=j;have:=T.iD hkb;subst this;simp only [aw] at hkv;replace j:=Rq.1 j;obtain⟨tx,htx,j⟩:=j;replace j:=pK j;obtain⟨xb,j,hxb⟩:=j;replace j:=Rq.1 j;obtain⟨ty,hty,j⟩:=j;replace j:=pK j;obtain⟨yb,j,hyb⟩:=j;obtain⟨rfl,rfl⟩:=D j;have hg:∀b,xf (g.map (·.c)) b=some b:=by intro b;unfold xf;rcases H with e | e <;> rw [e] <;> rfl
  refine Good.pure (x:= .bool (cond kb xb yb)) hs ?_ (by simp [ak,aw]);simp only [execOp,E,hkv];cases kb with
  | true=>
   have arm:=SS.mh (h:=s.h) Z Y k x true hkv;rw [AV.lN htx] at arm;rcases hxb with e | ⟨_,e⟩
   .have:=T.iD e;subst this;simp only [ak,aw] at arm;simp [asBool,arm]
   .rw [hg] at e;cases e
  | false=>
   have arm:=SS.mh (h:=s.h) Z Y k y false hkv;rw [AV.lN hty] at arm;rcases hyb with e | ⟨_,e⟩
   .have:=T.iD e;subst this;simp only [ak,aw] at arm;simp [asBool,arm]
   .rw [hg] at e;cases e
 case alloc t=>
  cases G:g.map (·.c) with
  | some b=>simp [G] at j
  | none=>simp only [G] at j;replace j:=Rq.1 j;obtain⟨l,U,j⟩:=j;obtain⟨rfl,rfl⟩:=D j;obtain⟨i,z,hi,hz,hof⟩:=nM U;have hzr:aN w (AA c w O) l z.cells.toList:=oH hof;obtain⟨M,R⟩:=hs.GN (i:= .s (o.dst.getD 0) 0) (jC N (RF.2 rfl)) t (ay.lD (ρ:=ρ) hzr) hzr.one;refine Good.val (x:= .pointer (some ⟨w.heap.size,0,none⟩)) (w':=w.alloc (.cells z.cells.toList.toArray t)) ?_ M (by rw [dH];exact R) (by simp [ak]);simp [execOp,E,Instr.alloc,zeroValue,typeInfo,hi,hz,newVar,HX]
 case box t x=>
  cases G:g.map (·.c) with
  | some b=>simp [G] at j
  | none=>
   simp only [G] at j;split at j
   .rename_i hcell;obtain⟨rfl,rfl⟩:=D j;obtain⟨M,R⟩:=wc hs (ev x) hcell;obtain⟨k1,k2⟩:=hs.GN (i:= .s (o.dst.getD 0) 0) (jC N (RF.2 rfl)) t M R;refine Good.val (x:= .pointer (some ⟨w.heap.size,0,none⟩)) (w':=w.alloc (.cells (a.eval x).cells.toList.toArray t)) ?_ k1 (by rw [dH];exact k2) (by simp [ak]);simp [execOp,E,Instr.box,newVar,HX]
   .simp at j
 case build t ps=>replace j:=Rq.1 j;obtain⟨v',K,j⟩:=j;obtain⟨rfl,rfl⟩:=D j;obtain⟨x,h1,I⟩:=JU hs Z Y K;exact Good.pure hs (by simp only [execOp,E,RO,h1,RB,R0]) I
 case buildSlice t n ps=>
  replace j:=Rq.1 j;obtain⟨e,he,j⟩:=j;obtain⟨hu,hok⟩:=wN he;split at j
  .split at j
   .rename_i x G hps;split at j
    .rename_i hcond;obtain⟨⟨U,hall⟩,hn2,hpos,hz⟩:=hcond;obtain⟨rfl,rfl⟩:=D j;obtain⟨M,R⟩:=wc hs (ev x) hall;have hsz:(a.eval x).cells.size=P.cellsOf e:=by rw [<-U,<-RR];exact M.length
     have C:=BS (n:=1) (w:=w) hu hok hz hpos ⟨by omega,hn2⟩ [a.eval x] (by simpa using hsz) (by simp) (ps.map λ(i,x)=>(i,a.eval x)) (by simp [VJ,hps]);have hi:s.h (.s (o.dst.getD 0) 0)=none:=jC N Rs;obtain⟨k1,k2⟩:=hs.NR hi (cs:=gK _) (arr:=([a.eval x].flatMap λv=>v.cells.toList).toArray) e (by simpa using M) (by simpa using R);refine Good.val (x:= .slice (some ⟨w.heap.size,0,none⟩) 1 1) (by simp only [execOp,E,RO,C,RB,R0]) k1 (by rw [dH];exact k2) ?_;simp [ak]
    .simp at j
   .simp at j
  split at j
  .rename_i hcond;obtain⟨hn,hn1,hn2,hpos,hz⟩:=hcond;split at j
   .rename_i h0;obtain⟨h00,_⟩:=h0;obtain⟨rfl,rfl⟩:=D j;have hps:ps.toList= []:=RN.1 (by rw [RR];omega);have C:=BS (w:=w) hu hok hz hpos ⟨hn1,hn2⟩ [] (by simp) (by simp [h00]) (ps.map λ(i,x)=>(i,a.eval x)) (by simp [VJ,hps]);have exec:(execOp a.eval o).run P w= .ok (.value (.slice (some ⟨w.heap.size,0,none⟩) n n)) (w.alloc (.cells (([]:List Value).flatMap λv=>v.cells.toList).toArray e)):=by
     simp only [execOp,E,RO,C,RB,R0]
    have lew:Le w ρ O (w.alloc (.cells (([]:List Value).flatMap λv=>v.cells.toList).toArray e)) ρ O:=⟨rfl,rfl,rfl,by simp,λ_ _ h=>h,λb hb _=>R9 _ _ _ hb,λi b h=> .inl ⟨i,h⟩⟩;have hs2:=hs.world lew λi ah hi=>R9 _ _ _ (hs.lt i ah hi);refine Good.val exec lew hs2 ?_;simp only [ak,aw];exact .inr ⟨trivial,_,_,_,by rw [h00]⟩
   replace j:=Rq.1 j;obtain⟨q,hq,j⟩:=j;obtain⟨hfz,hlen⟩:=EH hq;obtain⟨O1,cC,hs1,hO1,hf1,hkeep⟩:=hs.rq hfz;obtain⟨vs,e1,Q,e3⟩:=EI hs Z Y cC hO1 hq hf1;have hvl:vs.length=n:=by have:=congrArg List.length e1;simp only [SI,List.length_zipIdx] at this;rw [<-this,RR,hn]
   have C:=BS (w:=w) hu hok hz hpos ⟨hn1,hn2⟩ vs e3 hvl (ps.map λ(i,x)=>(i,a.eval x)) (by simp only [VJ];exact e1);have hq1:q.1.length=n:=by have:=Q.length.1;simp only [SI] at this;omega
   have fl:(vs.map λv=>v.cells.toList).flatten=vs.flatMap λv=>v.cells.toList:=rfl;have exec:(execOp a.eval o).run P w= .ok (.value (.slice (some ⟨w.heap.size,0,none⟩) n n)) (w.alloc (.cells (vs.flatMap λv=>v.cells.toList).toArray e)):=by simp only [execOp,E,RO,C,RB,R0]
   cases G:g.map (·.c) with
   | some b=>
    simp only [G] at j;obtain⟨rfl,rfl⟩:=D j;have lew:Le w ρ O1 (w.alloc (.cells (vs.flatMap λv=>v.cells.toList).toArray e)) ρ O1:=⟨rfl,rfl,rfl,by simp,λ_ _ h=>h,λb hb _=>R9 _ _ _ hb,λi b h=> .inl ⟨i,h⟩⟩;have hs2:=hs1.world lew λi ah hi=>R9 _ _ _ (hs1.lt i ah hi);refine Good.val exec (cC.trans lew) hs2 ?_;simp only [ak,aw];right;refine⟨trivial,w.heap.size,0,none,n,by rw [hq1],by omega, ?_, ?_⟩
    .right;refine⟨rfl, ?_⟩;refine⟨.inr (.inr hs.size),by simp,λi hi=>TX _ (hs1.lt i _ hi)⟩
    .refine aU.kB (ct.mono (λb hb=>lew.A b hb) Q) (λp v hp=> ?_);rw [ke (ko _),RY,<-fl];simpa using hp
   | none=>
    simp only [G] at j;obtain⟨rfl,rfl⟩:=D j;have hi:s.h (.s (o.dst.getD 0) 0)=none:=jC N Rs;have hi1:aJ s.h q.2 (.s (o.dst.getD 0) 0)=none:=by
     rw [dI (λp hp e=> ?_)]
     .exact hi
     .have I:=hfz p hp;rw [e,hi] at I;rcases I with⟨sz,b,l,_,I⟩ | ⟨l,_,I⟩ <;> simp at I
    obtain⟨k1,k2⟩:=hs1.Bh (sz:=P.cellsOf e) hi1 e (vs.flatMap λv=>v.cells.toList).toArray n Q (λp v hp=>by rw [<-fl];simpa using hp) (by omega) (by
     have:=Q.length.2;simp only [SY];rw [<-fl,this,hq1];exact RI _)
    rw [hq1] at k1 k2;refine Good.val exec (cC.trans k1) ?_ ?_
    .rw [cX];have:aJ (aA s.h (.s (o.dst.getD 0) 0) (some (.sl false (P.cellsOf e) false q.1))) q.2=aA (aJ s.h q.2) (.s (o.dst.getD 0) 0) (some (.sl false (P.cellsOf e) false q.1)):=by
      refine uI (λp hp e=> ?_);have I:=hfz p hp;rw [e,hi] at I;rcases I with⟨sz,b,l,_,I⟩ | ⟨l,_,I⟩ <;> simp at I
     rw [this];exact k2
    .simp [ak]
  .simp at j
 case load t x=>obtain⟨av,y,e,C,hv⟩:=Gg hs (ev x) H j;obtain⟨rfl,rfl⟩:=D e;exact Good.pure (x:=y) hs (by simp only [execOp,E,RO,C,RB,R0]) hv
 case store t x y=>
  cases G:g.map (·.c) with
  | some b=>simp [G] at j
  | none=>simp only [G] at j;obtain⟨W,w',ρ',O',e,C,le,V⟩:=PU hs (ev x) (ev y) j;obtain⟨rfl,rfl⟩:=D e;unfold Good iy;simp only [execOp,E,RO,C,RB,R0];exact⟨ρ',O',le,V,by simp [ak]⟩
 case nilCheck x=>
  have hv:=ev x;split at j
  .rename_i i k e;obtain⟨rfl,rfl⟩:=D j;rw [e] at hv;have K:=hv;simp only [ak] at K;obtain⟨b,_,Q⟩:=K;exact Good.pure hs (by simp [execOp,E,Q]) hv
  .rename_i i sz k off e;obtain⟨rfl,rfl⟩:=D j;rw [e] at hv;have K:=hv;simp only [ak] at K;obtain⟨b,o',L,cap,_,Q⟩:=K;exact Good.pure hs (by simp [execOp,E,Q]) hv
  .rename_i i sz n k off e;obtain⟨rfl,rfl⟩:=D j;rw [e] at hv;have K:=hv;simp only [ak] at K;obtain⟨b,o',L,cap,_,Q⟩:=K;exact Good.pure hs (by simp [execOp,E,Q]) hv
  .rename_i y e;replace j:=aK j H;obtain⟨cs,hcs,j⟩:=j;obtain⟨rfl,rfl⟩:=D j;have:=T.xN hcs;subst this;rw [e] at hv;have K:=hv;simp only [ak,aw] at K;obtain⟨b,o',Q,_⟩:=K;exact Good.pure hs (by simp [execOp,E,Q]) hv
  .rename_i f x' y' e;obtain⟨rfl,rfl⟩:=D j;rw [e] at hv;have K:=hv;simp only [ak] at K;obtain⟨_,_,Q,_⟩:=K;exact Good.pure hs (by simp [execOp,E,Q]) hv
  .simp at j
 case binOp op t x y ty=>
  have nilx:∀b,oF P t y=true->jl P s t (s.get g x)=some b->_:=λb h1 I=>F1 (P:=P) hs (ev x) I y h1 a x y;have nily:∀b,oF P t x=true->jl P s t (s.get g y)=some b->_:=λb h1 I=>F1 (P:=P) hs (ev y) I x h1 a x y;have go:∀(z:Value),(eqGuard op t x y (a.eval x) (a.eval y)).run P w= .ok () w->(binOp op t (a.eval x) (a.eval y)).run P w= .ok z w->(execOp a.eval o).run P w= .ok (.value z) w:=by intro z h1 I;simp only [execOp,E,RO,h1,I,RB,R0]
  split at j
  .rename_i h1;replace j:=Rq.1 j;obtain⟨b,hb,j⟩:=j;obtain⟨rfl,rfl⟩:=D j;obtain⟨M,R⟩:=(nilx b h1 hb).1;exact Good.pure hs (go _ M R) (by simp [ak,aw])
  .rename_i h1;replace j:=Rq.1 j;obtain⟨b,hb,j⟩:=j;obtain⟨rfl,rfl⟩:=D j;obtain⟨M,R⟩:=(nilx b h1 hb).2.1;exact Good.pure hs (go _ M R) (by simp [ak,aw])
  .rename_i h1 _;replace j:=Rq.1 j;obtain⟨b,hb,j⟩:=j;obtain⟨rfl,rfl⟩:=D j;obtain⟨M,R⟩:=(nily b h1 hb).2.2.1;exact Good.pure hs (go _ M R) (by simp [ak,aw])
  .rename_i h1 _;replace j:=Rq.1 j;obtain⟨b,hb,j⟩:=j;obtain⟨rfl,rfl⟩:=D j;obtain⟨M,R⟩:=(nily b h1 hb).2.2.2;exact Good.pure hs (go _ M R) (by simp [ak,aw])
  .obtain⟨b,e,⟨M,R⟩,_⟩:=Fb (P:=P) H (ev x) (ev y) j x y;obtain⟨rfl,rfl⟩:=D e;exact Good.pure hs (go _ M R) (by simp [ak,aw])
  .obtain⟨b,e,_,⟨M,R⟩⟩:=Fb (P:=P) H (ev x) (ev y) j x y;obtain⟨rfl,rfl⟩:=D e;exact Good.pure hs (go _ M R) (by simp [ak,aw])
  .replace j:=Rq.1 j;obtain⟨x',hx',j⟩:=j;replace j:=Rq.1 j;obtain⟨y',hy',j⟩:=j;obtain⟨hne,z,vz,e,hv,C⟩:=JN (P:=P) H (tt x x' hx') (tt y y' hy') j;obtain⟨rfl,rfl⟩:=D e;exact Good.pure hs (go _ (Md hne) C) (by simpa [ak] using hv _ _)
 case unOp op t x=>replace j:=Rq.1 j;obtain⟨x',hx',j⟩:=j;obtain⟨z,y,e,hv,C⟩:=QY (P:=P) H (tt x x' hx') j;obtain⟨rfl,rfl⟩:=D e;exact Good.pure (x:=y) hs (by simp only [execOp,E,RO,C,RB,R0]) (by simpa [ak] using hv _ _)
 case convert src dst x=>
  split at j
  .rename_i e hu hu';split at j
   .rename_i he;unfold rz at he;split at he
    .rename_i k he';simp only [Rp] at he;subst he;replace j:=Rq.1 j;obtain⟨y,hy,j⟩:=j;replace j:=aK j H;obtain⟨l,U,j⟩:=j;replace U:=Rq.1 U;obtain⟨p,hp,U⟩:=U;obtain⟨rfl,rfl⟩:=D j;have C:=JX hs hu hu' he' (ev x) hy hp U;exact Good.pure (x:= .string ⟨l.toArray⟩) hs (by simp only [execOp,E,RO,C,RB,R0]) (by simp [ak,aw])
    .simp at he
   .simp at j
  .replace j:=Rq.1 j;obtain⟨x',hx',j⟩:=j;obtain⟨z,y,e,C,hv⟩:=Kg H (tt x x' hx') j;obtain⟨rfl,rfl⟩:=D e;exact Good.pure (x:=y) hs (by simp only [execOp,E,RO,C,RB,R0]) (by simpa [ak] using hv)
 case makeFunc fn fst caps=>
  cases fn with
  | func f=>dsimp only at j;obtain⟨rfl,rfl⟩:=D j;refine Good.pure (x:= .func (.func f) (fst.map a.eval) (caps.map a.eval)) hs (by simp only [execOp,E,Instr.makeFunc,RO,R0,RB]) ?_;simp only [ak];refine⟨fst.toList.map a.eval,caps.toList.map a.eval, ?_,re Z Y _,re Z Y _⟩;rw [show(fst.toList.map a.eval).toArray=fst.map a.eval from TQ (by simp),show(caps.toList.map a.eval).toArray=caps.map a.eval from TQ (by simp)]
  | _=>simp at j
 case makeSlice t l m=>
  cases G:g.map (·.c) with
  | some b=>simp [G] at j
  | none=>simp only [G] at j;replace j:=Rq.1 j;obtain⟨n,hn,j⟩:=j;replace j:=Rq.1 j;obtain⟨k,hk',j⟩:=j;obtain⟨v',W,e,hg⟩:=Nl (vn:=a.eval l) (vm:=a.eval m) hs (by simpa [ak] using tt l n hn) (by simpa [ak] using tt m k hk') j;obtain⟨rfl,rfl⟩:=D e;obtain⟨u,w',ρ',O',C,le,V,hv⟩:=hg N;exact Good.val (x:=u) (by simp only [execOp,E,RO,C,RB,R0]) le V hv
 case makeMap t m=>
  cases G:g.map (·.c) with
  | some b=>simp [G] at j
  | none=>
   cases m with
   | some m=>simp [G] at j
   | none=>simp only [G] at j;obtain⟨v',W,e,hg⟩:=Np hs j;obtain⟨rfl,rfl⟩:=D e;obtain⟨u,w',ρ',O',C,le,V,hv⟩:=hg N;exact Good.val (x:=u) (by simp only [execOp,E,UW,RO,C,RB,R0]) le V hv
 case lookup t x k ok=>obtain⟨av,y,e,C,hv⟩:=Nh hs (ev x) (ev k) H j;obtain⟨rfl,rfl⟩:=D e;exact Good.pure (x:=y) hs (by simp only [execOp,E,RO,C,RB,R0]) hv
 case mapUpdate t x k v'=>
  cases G:g.map (·.c) with
  | some b=>simp [G] at j
  | none=>simp only [G] at j;obtain⟨W,w',e,C,le,V⟩:=On hs (ev x) (ev k) (ev v') j;obtain⟨rfl,rfl⟩:=D e;unfold Good iy;simp only [execOp,E,RO,C,RB,R0];exact⟨ρ,O,le,V,by simp [ak]⟩
 case slice t x lo hi mx=>obtain⟨blo,j,h1⟩:=zy Z Y H j;obtain⟨bhi,j,I⟩:=zy Z Y H j;obtain⟨bmx,j,h3⟩:=zy Z Y H j;obtain⟨av,y,e,C,hv⟩:=PH (P:=P) hs (ev x) H h1 I h3 j;obtain⟨rfl,rfl⟩:=D e;exact Good.pure (x:=y) hs (by simp only [execOp,E,RO,C,RB,R0]) hv
 case fieldAddr t x f=>obtain⟨av,y,e,C,hv⟩:=Ml (P:=P) (ev x) H j;obtain⟨rfl,rfl⟩:=D e;exact Good.pure (x:=y) hs (by simp only [execOp,E,RO,C,RB,R0]) hv
 case field t x f=>obtain⟨av,y,e,C,hv⟩:=Mj (P:=P) (ev x) j;obtain⟨rfl,rfl⟩:=D e;exact Good.pure (x:=y) hs (by simp only [execOp,E,RO,C,RB,R0]) hv
 case indexAddr t x i=>unfold ot at j;replace j:=Rq.1 j;obtain⟨i',hi',j⟩:=j;replace j:=aK j H;obtain⟨n,hn,j⟩:=j;obtain⟨k,rfl⟩:=zn hn;have hiv:=tt i _ hi';simp only [aw] at hiv;obtain⟨av,y,e,C,hv⟩:=MM (P:=P) (ki:=k) hs (ev x) H j;obtain⟨rfl,rfl⟩:=D e;exact Good.pure (x:=y) hs (by simp only [execOp,E,hiv,RO,C,RB,R0]) hv
 case index t x i=>
  unfold ot at j;replace j:=Rq.1 j;obtain⟨i',hi',j⟩:=j;replace j:=aK j H;obtain⟨n,hn,j⟩:=j;obtain⟨k,rfl⟩:=zn hn;have hiv:=tt i _ hi';simp only [aw] at hiv;have hv:=ev x;split at j
  .rename_i hu;replace j:=Rq.1 j;obtain⟨y,hy,j⟩:=j;replace j:=aK j H;obtain⟨b,hb,j⟩:=j;have:=T.jR hb;subst this;have hxv:=tt x _ hy;simp only [aw] at hxv;obtain⟨h0,h1,j⟩:=oo H j;replace j:=aK j H;obtain⟨u,hu',j⟩:=j;obtain⟨rfl,rfl⟩:=D j;have hb:b[n.toNat]? =some u:=by
    have U:n.toNat < b.data.toList.length:=(Rz.1 hu').1;have hlt:n.toNat < b.size:=by simpa using U
    rw [getElem?_pos b n.toNat hlt];have:=(Rz.1 hu').2;rw [<-this];simp [ByteArray.getElem_eq_getElem_data]
   exact Good.pure (x:= .int .u8 u.toNat) hs (by simp [execOp,E,hiv,hxv,Instr.index,asIntOf,run_underlying hu,h0,hb]) (by simp [ak,aw])
  .rename_i m e hu;split at j
   .rename_i vs ex;cases hok:bN P e
    .simp [hok] at j
    simp only [hok,cond_true] at j;replace j:=Rq.1 j;obtain⟨l,U,j⟩:=j;obtain⟨h0,h1,j⟩:=oo H j;rw [ex] at hv;simp only [ak] at hv;obtain⟨ws,Q,M,R⟩:=hv;obtain⟨av,y,e,C,hv⟩:=Na (P:=P) (arr:=ws.toArray) (off:=n.toNat * P.cellsOf e) (ρ:=ρ) hok H ((aN.lC U M).drop _) j;obtain⟨rfl,rfl⟩:=D e;exact Good.pure (x:=y) hs (by simp [execOp,E,hiv,Q,Instr.index,asIntOf,run_underlying hu,h0,h1,iT hok,C]) hv
   .simp at j
  .simp at j
 case extract x k=>
  have hv:=ev x;split at j
  .rename_i vs e;replace j:=Rq.1 j;obtain⟨y,hy,j⟩:=j;obtain⟨rfl,rfl⟩:=D j;rw [e] at hv;simp only [ak] at hv;obtain⟨ws,Q,h1⟩:=hv;obtain⟨u,I,h3⟩:=h1.get hy;exact Good.pure hs (by simp [execOp,E,Q,Instr.extract,I]) h3
  .simp at j
 case call S=>
  have run0:∀f,S.callee=f->(execOp a.eval o).run P w= ((resolve a.eval S o.type).run P w).andThen λd w=>(invoke d.target d.args).run P w:=by intro f _;simp only [execOp,E,RO]
  split at j
  .rename_i J;split at j
   .rename_i x t ts hx X;obtain⟨av,y,e,C,hv⟩:=M3 (P:=P) (ts:=S.argTypes) (ty:=o.type) hs (ev x) H j (by rw [<-Sl,X];rfl);obtain⟨rfl,rfl⟩:=D e;have F:S.args.map a.eval= #[a.eval x]:=by apply TQ;simp [hx]
    exact Good.pure (x:=y) hs (by simp only [execOp,E,resolve,J,F,RO,R0,RB,invoke,builtin,C]) hv
   .simp at j
  .rename_i J;split at j
   .rename_i x y t u hgc hx X;obtain⟨v',W,e,hg⟩:=Jq (P:=P) (tr:=o.type) hs (ev x) (ev y) j;obtain⟨rfl,rfl⟩:=D e;have F:S.args.map a.eval= #[a.eval x,a.eval y]:=by apply TQ;simp [hx]
    have htys':S.argTypes= #[t,u]:=by apply TQ;simp [X]
    obtain⟨z,w',ρ',O',C,le,V,hv⟩:=hg N;exact Good.val (x:=z) (by simp only [execOp,E,resolve,J,F,htys',RO,R0,RB,invoke,builtin,C]) le V hv
   .simp at j
  .rename_i J;split at j
   .rename_i k hik;replace j:=Rq.1 j;obtain⟨l,U,j⟩:=j;split at j
    .rename_i x r;replace j:=aK j H;obtain⟨n,hn,j⟩:=j;have:=T.fS hn;subst this;obtain⟨v0,vs,e0,h1,I⟩:=aN.lC U (re Z Y S.args.toList);simp only [aw] at h1;subst h1;obtain⟨m,e,C⟩:=Ba (P:=P) (w:=w) H true I j;obtain⟨rfl,rfl⟩:=D e;have F:(S.args.map a.eval).toList= .int k n::vs:=by simp [e0]
     exact Good.pure (x:= .int k m) hs (by simp only [execOp,E,resolve,J,RO,R0,RB,invoke,builtin,Builtin.max_,F];simp only [cond_true] at C;simp only [C,RB]) (by simp [ak,aw])
    .simp at j
   .simp at j
  .rename_i J;split at j
   .rename_i k hik;replace j:=Rq.1 j;obtain⟨l,U,j⟩:=j;split at j
    .rename_i x r;replace j:=aK j H;obtain⟨n,hn,j⟩:=j;have:=T.fS hn;subst this;obtain⟨v0,vs,e0,h1,I⟩:=aN.lC U (re Z Y S.args.toList);simp only [aw] at h1;subst h1;obtain⟨m,e,C⟩:=Ba (P:=P) (w:=w) H false I j;obtain⟨rfl,rfl⟩:=D e;have F:(S.args.map a.eval).toList= .int k n::vs:=by simp [e0]
     exact Good.pure (x:= .int k m) hs (by simp only [execOp,E,resolve,J,RO,R0,RB,invoke,builtin,Builtin.min_,F];simp only [cond_false] at C;simp only [C,RB]) (by simp [ak,aw])
    .simp at j
   .simp at j
  .rename_i J;split at j
   .rename_i x y t ts hgc hx X;obtain⟨W,w',e,C,le,V⟩:=Kn (P:=P) (ty:=(ts.headD 0)) (tr:=o.type) hs (ev x) (ev y) j;obtain⟨rfl,rfl⟩:=D e;have F:S.args.map a.eval= #[a.eval x,a.eval y]:=by apply TQ;simp [hx]
    have run':(Builtin.delete_ S.argTypes o.type #[a.eval x,a.eval y]).run P w= .ok (.tuple #[]) w':=by
     rw [<-C];have h0:S.argTypes[0]? =some t:=by rw [<-Sl,X];rfl
     simp only [Builtin.delete_,h0];rfl
    refine Good.val (x:= .tuple #[]) (by simp only [execOp,E,resolve,J,F,RO,R0,RB,invoke,builtin,run']) le V ?_;simp only [ak];exact⟨[],rfl,by simp [ay]⟩
   .simp at j
  .rename_i J;split at j
   .rename_i x t ts hx X;split at j
    .rename_i e hu;split at j
     .rename_i y hex;cases hy:xt y with
      | false=>rw [hy] at j;simp at j
      | true=>
       rw [hy] at j;obtain⟨rfl,rfl⟩:=D j;have hv:=ev x;rw [hex] at hv;simp only [ak] at hv;have hv:=MR hy hv;have F:S.args.map a.eval= #[a.eval x]:=by apply TQ;simp [hx]
       have hts:S.argTypes[0]? =some t:=by rw [<-Sl,X];rfl
       exact Good.pure (x:= .int .i64 0) hs (by simp only [execOp,E,resolve,J,F,RO,R0,RB,invoke,builtin];simp [Builtin.cap_,hts,run_underlying hu,hv,goInt]) (by simp [ak,aw])
     .simp at j
    .simp at j
   .simp at j
  .rename_i fo J;split at j
   .rename_i f x1 y1 efo;have hfo:=ev fo;rw [efo] at hfo;simp only [ak] at hfo;obtain⟨x',y',Q,M,R⟩:=hfo;obtain⟨v',W,fn,body,e,hfn,hbody,hname,hcall⟩:=J3 hO H hs ((M.append (re Z Y S.args.toList)).append R) j;obtain⟨rfl,rfl⟩:=D e;unfold Good iy;have C:(execOp a.eval o).run P w= .ok (.enter f (x'++S.args.toList.map a.eval++y').toArray) w:=by
     have F:x'.toArray++S.args.map a.eval++y'.toArray= (x'++S.args.toList.map a.eval++y').toArray:=by apply TQ;simp
     simp [execOp,E,resolve,J,Q,Deferred.ofValue,invoke,callFunc,run_program,hfn,hbody,hname,F]
    rw [C];exact hcall N
   .simp at j
  .simp at j
 all_goals simp at j
end
end Go.Aev
