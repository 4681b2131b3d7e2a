import Derived.Test.YtcjplcpngagalaaGreatDoorBlastFormQ3
set_option linter.all false
namespace Go.Aev
open Go
section
variable (B:Nat->Option Value) (w:World) (A:Nat->Prop)
def iE:cf->T->Value->List Nat->Prop
 | .f _,x,v,ob=>x.nP =some ()/\ay w A x v/\ob= []
 | .t _,x,v,ob=>ay w A x v/\ob= []
 | .own sz,x,v,ob=>∃o p,ob=o.toList/\x.au sz=some p/\cF w A sz p.1 p.2 v (λae=>o=some ae)
 | .rows sz col rsz,x,v,ob=>∃(b:Bool) (es:List Row) (i:Id) (l:Id->Option Value) (a:Id->Option Nat),aN x=some (b,es)/\cO w A l a i (.rows b sz col rsz es.length es)/\l i=some v/\i.real=true/\
   (∀x y d,a x=some d->a y=some d->x=y)/\(∀n u,l (.g i n)=some u->u.oneCell'=true/\u.cells= #[u])/\(∀x d,a x=some d->x=i\/∃n,x= .g i n)/\∀d,d∈ob↔∃x,a x=some d
 | .ref k off,_,v,ob=>(∃b,B k=some (.pointer (some ⟨b,0,none⟩))/\v= .pointer (some ⟨b,off,none⟩))/\ob= []
 | .same k,_,v,ob=>(B k=some v/\v.oneCell'=true/\v.cells= #[v])/\ob= []
 | .no,_,v,ob=>(v.oneCell'=true/\v.cells= #[v])/\ob= []
 | .mp ag ks vk,x,v,ob=>∃es b j m,x=ba es/\v= .map (some b)/\ob= [b]/\w.heap[b]? =some (.map j m)/\
   j.toList.map (λe=>(e.key,e.val))=es.map (λp=>(cX ag p.1,dq p.2))/\(es.all λp=>cg ks p.1 && dC vk p.2)=true
 | .agg _,_,_,_=>False
 | .new _,_,_,_=>False
def eM:List cf->List T->List Value->List Nat->Prop
 | [],xs,vs,own=>xs= []/\vs= []/\own= []
 | r::rs,xs,vs,own=>∃x d v b ob a,xs=x::d/\vs=v::b/\own=ob++a/\iE B w A r x v ob/\eM rs d b a
def dx:List cf->List T->List Value->List Nat->Prop
 | [],xs,vs,own=>xs= []/\vs= []/\own= []
 | .agg l::rs,xs,vs,own=>∃e x2 g a o1 o2,xs=e++x2/\vs= .agg g.toArray::a/\own=o1++o2/\eM B w A l e g o1/\dx rs x2 a o2
 | .new l::rs,xs,vs,own=>∃e x2 b arr t a o1 o2,xs=e++x2/\vs= .pointer (some ⟨b,0,none⟩)::a/\own= (b::o1)++o2/\w.heap[b]? =some (.cells arr t (0,0))/\eM B w A l e arr.toList o1/\dx rs x2 a o2
 | r::rs,xs,vs,own=>∃x f v a ob d,xs=x::f/\vs=v::a/\own=ob++d/\iE B w A r x v ob/\dx rs f a d
def l7:Nat->List iC->List T->List Nat->Prop
 | _,[],xs,own=>xs= []/\own= []
 | j, .box l::r,xs,own=>∃f x2 b arr t o1 o2,xs=f++x2/\own=b:: (o1++o2)/\B j=some (.pointer (some ⟨b,0,none⟩))/\w.heap[b]? =some (.cells arr t (0,0))/\
   eM B w A l f arr.toList o1/\l7 (j+1) r x2 o2
 | j, .sl sz::r,xs,own=>∃bb l x2 ob v o2,xs= .ad sz bb l::x2/\own=ob.toList++o2/\B j=some v/\cF w A sz bb l v (λae=>ob=some ae)/\l7 (j+1) r x2 o2
 | j, .mp ag ks vk::r,xs,own=>∃es b a d x2 o2,xs=ba es::x2/\own=b::o2/\B j=some (.map (some b))/\w.heap[b]? =some (.map a d)/\
   a.toList.map (λe=>(e.key,e.val))=es.map (λp=>(cX ag p.1,dq p.2))/\(es.all λp=>cg ks p.1 && dC vk p.2)=true/\l7 (j+1) r x2 o2
 | j, .dead::r,xs,own=>l7 (j+1) r xs own
end
def mQ:List Value->Value
 | [v]=>v
 | vs=> .tuple vs.toArray
structure sv (w w':World):Prop where
 os:w'.os=w.os
 output:w'.output=w.output
 tape:w'.tape=w.tape
 size:w.heap.size<=w'.heap.size
 ae:∀k,k < w.heap.size->w'.heap[k]? =w.heap[k]?
structure EO (w w':World) (Own:Nat->Prop):Prop where
 os:w'.os=w.os
 output:w'.output=w.output
 tape:w'.tape=w.tape
 size:w.heap.size<=w'.heap.size
 ae:∀k,k < w.heap.size->¬Own k->w'.heap[k]? =w.heap[k]?
def my(m:Nat)(ρ:Id->Option Value)(j:Nat):Option Value:=if j < m then ρ (.c j) else none
def r6(P:Program)(A:cx)(f:FuncId)(fn:Func)(bh:List AV)(a:List ab)(xs:List T):Prop:=
 ∀(c:Ctx) (w:World) (ρ:Id->Option Value) (O:Id->Option Nat) (args:List Value),c.N0=w.heap.size->HS c w (iH a) ρ O->az w (AA c w O) ρ bh args->
  Calls P f args.toArray w λe w'=>∃rs d x2 o1 o2,e= .returned (mQ rs)/\EO w w' (eV O)/\xs=d++x2/\(o1++o2).Nodup/\(∀b∈o1++o2,c.MO b/\b < w'.heap.size)/\
   dx (my a.length ρ) w' (λb=>(c.A0 b\/c.MO b)/\b < w'.heap.size/\b∉o1++o2) (cZ P A f (fM a.head?) fn) d rs o1/\
   l7 (my a.length ρ) w' (λb=>(c.A0 b\/c.MO b)/\b < w'.heap.size/\b∉o1++o2) 0 (fP A f (fM a.head?)) x2 o2
def ic(P:Program)(A:cx)(O:ax):Prop:= ∀f bh a xs,O (.call f) bh a=some xs->
 ∃fn b,P.funcs[f]? =some fn/\fn.body=some b/\fn.name≠ "runtime.NumGoroutine" /\r6 P A f fn bh a xs
def kM(P:Program)(A:cx):Prop:= ∀f bh a xs,A.ext f bh a=some xs->
 ∃fn b,P.funcs[f]? =some fn/\fn.body=some b/\fn.name≠ "runtime.NumGoroutine" /\r6 P A f fn bh a xs
theorem kM.no{P:Program}{A:cx}(h:∀f bh a,A.ext f bh a=none):kM P A:=λf bh a xs e=>by rw [h] at e;cases e
theorem r6.values{P:Program}{A:cx}{f:FuncId}{fn:Func}{bh:List AV}{xs:List T}(h:r6 P A f fn bh [] xs)(g:A.gf f=none)(A0:Nat->Prop)(w:World)(args:List Value)(D:∀b,A0 b->b < w.heap.size)
  (H:az w A0 (λ_=>none) bh args) (x:GlobOk w):
  Calls P f args.toArray w λe w'=>∃rs own,e= .returned (mQ rs)/\sv w w'/\own.Nodup/\(∀b∈own,w.heap.size<=b/\b < w'.heap.size)/\
   dx (λ_=>none) w' (λb=>(A0 b\/w.heap.size<=b)/\b < w'.heap.size/\b∉own) (cZ P A f 0 fn) xs rs own:=by
 let c:Ctx:={A0:=A0,M:=λ_=>False,N0:=w.heap.size};have hs:HS c w (iH []) (λ_=>none) (λ_=>none):=⟨λi b g=>by cases i <;> simp [iH] at g,λi _ _=>⟨rfl,rfl⟩,λi n=>rfl,λi n _=>⟨rfl,rfl⟩,(by intro i n u G;cases G),(by intro i j b d;cases d),(by intro i b d;cases d),(by intro i b d;cases d),Ns _,x.1,x.2,λ_ _ h=>h⟩;have v:∀b,A0 b->AA c w (λ_=>none) b/\w.heap[b]? =w.heap[b]?:=λb g=>⟨⟨.inl g,D b g,λi d=>by cases d⟩,rfl⟩;refine(h c w _ _ args rfl hs (az.mono v (λ_ _ h=>h) _ _ H)).mono ?_;rintro e w' ⟨rs,I,x2,o1,o2,E,m,y,o,q,r,ho⟩;have p:fP A f (fM ([]:List ab).head?)= []:=by simp [fP,g]
 rw [p] at ho;obtain⟨rfl,rfl⟩:=ho;rw [Nz] at y o;subst y;have t:cZ P A f (fM ([]:List ab).head?) fn=cZ P A f 0 fn:=rfl;have z:my ([]:List ab).length (λ_=>none)=λ_=>none:=by funext j;simp [my]
 rw [t,z] at r;refine⟨rs,o1,E,⟨m.os,m.output,m.tape,m.size,λk F=>m.ae k F (by rintro⟨i,d⟩;cases d)⟩,o,λb g=> ?_, ?_⟩
 .obtain⟨a,l⟩:=q b (by simpa using g);rcases a with a | a
  .exact a.elim
  .exact⟨a,l⟩
 .have C:(λb=>(c.A0 b\/c.MO b)/\b < w'.heap.size/\b∉o1++ [])=λb=>(A0 b\/w.heap.size<=b)/\b < w'.heap.size/\b∉o1:=by
   funext b;simp only [Nz];refine propext ⟨?_, ?_⟩
   .rintro⟨a | a | a,l⟩
    .exact⟨.inl a,l⟩
    .exact a.elim
    .exact⟨.inr a,l⟩
   .rintro⟨a | a,l⟩
    .exact⟨.inl a,l⟩
    .exact⟨.inr (.inr a),l⟩
  rw [C] at r;exact r
structure fB (c:Ctx) (w:World) (A:Nat->Prop) (h:Id->Option ab) (ρ:Id->Option Value) (O:Id->Option Nat):Prop where
 ae:∀i b,h i=some b->cO w A ρ O i b
 ct:∀i,i.real=true->h i=none->ρ i=none/\O i=none
 dB:∀i n,h (.g i n)=none
 eQ:∀i n,h i=none->ρ (.g i n)=none/\O (.g i n)=none
 gone:∀i n u,ρ (.g i n)=some u->u.oneCell'=true/\u.cells= #[u]
 inj:∀i j b,O i=some b->O j=some b->i=j
 lt:∀i b,O i=some b->b < w.heap.size
 own:∀i b,O i=some b->c.MO b
 size:c.N0<=w.heap.size
 glob:pk w/\mu<=c.N0/\∀b,b < mu->¬c.M b
section
variable {P:Program} {B:Nat->Option Value} {ids:List Id} {w w':World} {A A':Nat->Prop} {c:Ctx} {ρ:Id->Option Value} {O:Id->Option Nat} {s:St} {cc:Option Bool} {h:Id->Option ab}
theorem fB.Ez(hs:fB c w A h ρ O)(e:∀b,A b↔AA c w O b):HS c w h ρ O:=by have:A=AA c w O:=funext λb=>propext (e b);subst this;exact⟨hs.ae,hs.ct,hs.dB,hs.eQ,hs.gone,hs.inj,hs.lt,hs.own,hs.size,hs.glob⟩
theorem fB.real(hs:fB c w A h ρ O){i:Id}(a:h i≠none):i.real=true:=by
 cases i with
 | g i n=>exact(a (hs.dB i n)).elim
 | _=>rfl
theorem fB.uU{i:Id}(hrl:i.real=true)(hs:fB c w A h ρ O)(p:h i=none)(v:Value)(ob:Option Nat)(f:∀b,ob=some b->b < w.heap.size/\c.MO b/\∀j,O j≠some b)(x:ab)
  (q:cO w A (aH ρ i (some v)) (aH O i ob) i x):fB c w A (aH h i (some x)) (aH ρ i (some v)) (aH O i ob):=by
 refine⟨λj b a=> ?_,λj l a=> ?_,λj n=>by rw [aq _ _ (aP hrl)];exact hs.dB j n,λj n a=> ?_,λj n u m=>by rw [aq _ _ (aP hrl)] at m;exact hs.gone j n u m,λj k b a d=> ?_,λj b a=> ?_,λj b a=> ?_,hs.size,hs.glob⟩
 .by_cases e:j=i
  .subst e;rw [aC] at a;cases a;exact q
  .rw [aq _ _ e] at a;refine cO.mono (λn=>⟨aq _ _ (aP hrl),aq _ _ (aP hrl),λ_ _=>rfl⟩) (λb o=>⟨o,rfl⟩) (λk u d=> ?_) (aq _ _ e) (λ_ _=>rfl) (hs.ae j b a);by_cases g:k=i
   .subst g;rw [(hs.ct _ hrl p).1] at d;cases d
   .rw [aq _ _ g];exact d
 .by_cases e:j=i
  .subst e;rw [aC] at a;cases a
  .rw [aq _ _ e] at a;rw [aq _ _ e,aq _ _ e];exact hs.ct j l a
 .by_cases e:j=i
  .subst e;rw [aC] at a;cases a
  .rw [aq _ _ e] at a;rw [aq _ _ (aP hrl),aq _ _ (aP hrl)];exact hs.eQ j n a
 .by_cases e:j=i <;> by_cases e':k=i
  .rw [e,e']
  .subst e;rw [aC] at a;rw [aq _ _ e'] at d;exact((f b a).2.2 k d).elim
  .subst e';rw [aC] at d;rw [aq _ _ e] at a;exact((f b d).2.2 j a).elim
  .rw [aq _ _ e] at a;rw [aq _ _ e'] at d;exact hs.inj j k b a d
 .by_cases e:j=i
  .subst e;rw [aC] at a;exact(f b a).1
  .rw [aq _ _ e] at a;exact hs.lt j b a
 .by_cases e:j=i
  .subst e;rw [aC] at a;exact(f b a).2.1
  .rw [aq _ _ e] at a;exact hs.own j b a
theorem fB.xM{i:Id}(hs:fB c w A h ρ O)(m:h i=some .dead)(ob:Option Nat)(f:∀b,ob=some b->b < w.heap.size/\c.MO b/\∀j,O j≠some b)(x:ab)
  (o:cO w A ρ (aH O i ob) i x):fB c w A (aH h i (some x)) ρ (aH O i ob):=by
 have hrl:=hs.real (i:=i) (by rw [m];simp);refine⟨λj b a=> ?_,λj g a=> ?_,λj n=>by rw [aq _ _ (aP hrl)];exact hs.dB j n,λj n a=> ?_,hs.gone,λj k b a d=> ?_,λj b a=> ?_,λj b a=> ?_,hs.size,hs.glob⟩
 .by_cases e:j=i
  .subst e;rw [aC] at a;cases a;exact o
  .rw [aq _ _ e] at a;exact cO.mono (λn=>⟨rfl,aq _ _ (aP hrl),λ_ _=>rfl⟩) (λb l=>⟨l,rfl⟩) (λk u d=>d) (aq _ _ e) (λ_ _=>rfl) (hs.ae j b a)
 .by_cases e:j=i
  .subst e;rw [aC] at a;cases a
  .rw [aq _ _ e] at a;rw [aq _ _ e];exact hs.ct j g a
 .by_cases e:j=i
  .subst e;rw [aC] at a;cases a
  .rw [aq _ _ e] at a;rw [aq _ _ (aP hrl)];exact hs.eQ j n a
 .by_cases e:j=i <;> by_cases e':k=i
  .rw [e,e']
  .subst e;rw [aC] at a;rw [aq _ _ e'] at d;exact((f b a).2.2 k d).elim
  .subst e';rw [aC] at d;rw [aq _ _ e] at a;exact((f b d).2.2 j a).elim
  .rw [aq _ _ e] at a;rw [aq _ _ e'] at d;exact hs.inj j k b a d
 .by_cases e:j=i
  .subst e;rw [aC] at a;exact(f b a).1
  .rw [aq _ _ e] at a;exact hs.lt j b a
 .by_cases e:j=i
  .subst e;rw [aC] at a;exact(f b a).2.1
  .rw [aq _ _ e] at a;exact hs.own j b a
def rZ(B:Nat->Option Value)(ids:List Id)(ρ:Id->Option Value):Prop:= ∀k i v,ids[k]? =some i->B k=some v->ρ i=some v
def fg(B:Nat->Option Value)(ids:List Id)(c:Ctx)(w:World)(A:Nat->Prop)(us:aE)(own:List Nat)(Q:(Id->Option Value)->Prop):Prop:=
 ∀h ρ O,rZ B ids ρ->fB c w A h ρ O->own.Nodup->(∀b∈own,b < w.heap.size/\c.MO b/\∀i,O i≠some b)->(∀p∈us,h p.1=none)->
  ∃ρ' O',(∀i u,ρ i=some u->ρ' i=some u)/\fB c w A (aJ h us) ρ' O'/\Q ρ'/\∀b,(∃i,O' i=some b)↔((∃i,O i=some b)\/b∈own)
def kP(d j a:Nat)(us:aE):Prop:= ∀p∈us,∃k,j<=k/\k < a/\p.1= .s d k
theorem fg.nil{Q:(Id->Option Value)->Prop}(d:∀ρ,rZ B ids ρ->Q ρ):fg B ids c w A [] [] Q:=by intro h ρ O a hs _ _ _;exact⟨ρ,O,λ_ _ h=>h,hs,d ρ a,λb=>by simp⟩
theorem fg.append{d j F Y:Nat}{us vs:aE}{o1 o2:List Nat}{y z Q:(Id->Option Value)->Prop}(W:fg B ids c w A us o1 y)(X:fg B ids c w A vs o2 z)(n1:kP d j F us)(n2:kP d F Y vs)
  (x:∀ρ ρ',(∀i u,ρ i=some u->ρ' i=some u)->y ρ->z ρ'->Q ρ'):fg B ids c w A (us++vs) (o1++o2) Q:=by
 intro h ρ O m hs C f a;obtain⟨J,K,L⟩:=OA.1 C;obtain⟨n,M,H,D,q1,r1⟩:=W h ρ O m hs J (λb g=>f b (Nn _ g)) (λp l=>a p (Nn _ l));obtain⟨o,N,I,E,q2,r2⟩:=X (aJ h us) n M (λk i v R S=>H i v (m k i v R S)) D K (λb g=>by
  obtain⟨T,U,V⟩:=f b (Nl _ g);refine⟨T,U,λi r=> ?_⟩;rcases(r1 b).1 ⟨i,r⟩ with⟨k,t⟩ | t
  .exact V k t
  .exact L b t b g rfl) (λp l=>by
  rw [de (λq x e=> ?_)]
  .exact a p (Nl _ l)
  .obtain⟨k,_,k2,Z⟩:=n1 q x;obtain⟨k',k1',_,G⟩:=n2 p l;rw [Z,G] at e;simp only [Id.s.injEq] at e;omega)
 refine⟨o,N,λi u r=>I i u (H i u r),by rw [jY];exact E,x n o I q1 q2,λb=> ?_⟩;rw [r2 b,r1 b,Nq,or_assoc]
theorem zl(es:List (List T×T)):aL (ba es)=some es:=by
 unfold ba aL;induction es with
 | nil=>rfl
 | cons p es a=>simp only [NH,qz] at a⊢;rw [a];rfl
theorem fB.EV{i' i:Id}{r:Id->Option Value}{p:Id->Option Nat}{b:Bool}{sz col rsz:Nat}{es:List Row}{v:Value}{ob:List Nat}(hrl:i'.real=true)(hs:fB c w A h ρ O)(hi:h i'=none)
  (L:cO w A r p i (.rows b sz col rsz es.length es)) (hv:r i=some v) (I:i.real=true) (D:∀x y d,p x=some d->p y=some d->x=y) (hg:∀n u,r (.g i n)=some u->u.oneCell'=true/\u.cells= #[u])
  (hdom:∀x d,p x=some d->x=i\/∃n,x= .g i n) (H:∀d,d∈ob↔∃x,p x=some d) (E:∀b∈ob,b < w.heap.size/\c.MO b/\∀i,O i≠some b):
  ∃ρ' O',(∀x u,ρ x=some u->ρ' x=some u)/\fB c w A (aH h i' (some (.rows b sz col rsz es.length es))) ρ' O'/\ρ' i'=some v/\∀d,(∃x,O' x=some d)↔((∃x,O x=some d)\/d∈ob):=by
 let V:Id->Option Value:=λx=>if x=i' then some v else match x with
  | .g y n=>if y=i' then r (.g i n) else ρ (.g y n)
  | x=>ρ x
 let Q:Id->Option Nat:=λx=>if x=i' then p i else match x with
  | .g y n=>if y=i' then p (.g i n) else O (.g y n)
  | x=>O x
 have V1:V i'=some v:=by simp only [V,if_true]
 have Y:Q i'=p i:=by simp only [Q,if_true]
 have V2:∀x,x.real=true->x≠i'->V x=ρ x:=by
  intro x k j;simp only [V,if_neg j];cases x with
  | g y n=>cases k
  | _=>rfl
 have N:∀x,x.real=true->x≠i'->Q x=O x:=by
  intro x k j;simp only [Q,if_neg j];cases x with
  | g y n=>cases k
  | _=>rfl
 have T:∀y n,y≠i'->V (.g y n)=ρ (.g y n):=by intro y n q;simp only [V,if_neg (aP hrl),if_neg q]
 have R:∀y n,y≠i'->Q (.g y n)=O (.g y n):=by intro y n q;simp only [Q,if_neg (aP hrl),if_neg q]
 have Z:∀n,V (.g i' n)=r (.g i n):=by intro n;simp only [V,if_neg (aP hrl),if_true]
 have S:∀n,Q (.g i' n)=p (.g i n):=by intro n;simp only [Q,if_neg (aP hrl),if_true]
 have K:∀x d,Q x=some d->(O x=some d/\x≠i'/\∀n,x≠ .g i' n)\/(x=i'/\p i=some d)\/∃n,x= .g i' n/\p (.g i n)=some d:=by
  intro x d j;by_cases e:x=i'
  .subst e;rw [Y] at j;exact .inr (.inl ⟨rfl,j⟩)
  .cases k:x.real with
   | true=>rw [N x k e] at j;exact .inl ⟨j,e,λn e'=>by rw [e'] at k;cases k⟩
   | false=>
    cases x with
    | g y n=>
     by_cases e':y=i'
     .subst e';rw [S] at j;exact .inr (.inr ⟨n,rfl,j⟩)
     .rw [R y n e'] at j;exact .inl ⟨j,e,λm U=>by simp only [Id.g.injEq] at U;exact e' U.1⟩
    | _=>cases k
 have n0:=hs.ct i' hrl hi;have ng:=λn=>hs.eQ i' n hi;have mono:∀x u,ρ x=some u->V x=some u:=by
  intro x u j;cases k:x.real with
  | true=>rw [V2 x k (λe=>by rw [e,n0.1] at j;cases j)];exact j
  | false=>
   cases x with
   | g y n=>rw [T y n (λe=>by rw [e,(ng n).1] at j;cases j)];exact j
   | _=>cases k
 have M:∀d,(∃x,Q x=some d)↔((∃x,O x=some d)\/d∈ob):=by
  intro d;constructor
  .rintro⟨x,j⟩;rcases K x d j with⟨o,_⟩ | ⟨_,o⟩ | ⟨n,_,o⟩
   .exact .inl ⟨x,o⟩
   .exact .inr ((H d).2 ⟨_,o⟩)
   .exact .inr ((H d).2 ⟨_,o⟩)
  .rintro(⟨x,j⟩ | C)
   .cases k:x.real with
    | true=>exact⟨x,by rw [N x k (λe=>by rw [e,n0.2] at j;cases j)];exact j⟩
    | false=>
     cases x with
     | g y n=>exact⟨.g y n,by rw [R y n (λe=>by rw [e,(ng n).2] at j;cases j)];exact j⟩
     | _=>cases k
   .obtain⟨x,j⟩:=(H d).1 C;rcases hdom x d j with rfl | ⟨n,rfl⟩
    .exact⟨i',by rw [Y];exact j⟩
    .exact⟨.g i' n,by rw [S];exact j⟩
 have J:∀d,(∃x,p x=some d)->∀y,O y≠some d:=λd C=>(E d ((H d).2 C)).2.2;refine⟨V,Q,mono,⟨λx y j=> ?_,λx k j=> ?_,λx n=>by rw [aq _ _ (aP hrl)];exact hs.dB x n,λx n j=> ?_,λx n u X=> ?_,λx y d j q=> ?_,λx d j=> ?_,λx d j=> ?_,hs.size,hs.glob⟩,V1,M⟩
 .by_cases e:x=i'
  .subst e;rw [aC] at j;cases j;obtain⟨a,cap,e1,U,e3,e4,e5⟩:=L;rw [hv] at e1;cases e1;refine⟨a,cap,V1,U,e3,⟨e4.1,e4.2.1,λn W=>by rw [Z];exact e4.2.2.1 n W,λn d W=>by rw [S] at W;exact e4.2.2.2 n d W⟩, ?_⟩;rcases e5 with e5 | ⟨ae,off,arr,t,q1,q2,q3,q4,q5⟩
   .exact .inl e5
   .exact .inr ⟨ae,off,arr,t,q1,by rw [Y];exact q2,q3,q4,cn.move (λb L=>⟨L,rfl⟩) (λ_ _=>rfl) (λf _=>⟨Z _,S _,λ_ _=>rfl⟩) q5⟩
  .rw [aq _ _ e] at j;have hrx:=hs.real (i:=x) (by rw [j];simp);exact cO.mono (λn=>⟨T x n e,R x n e,λ_ _=>rfl⟩) (λb L=>⟨L,rfl⟩) mono (N x hrx e) (λ_ _=>rfl) (hs.ae x y j)
 .have l:x≠i':=λe=>by rw [e,aC] at j;cases j
  rw [aq _ _ l] at j;rw [V2 x k l,N x k l];exact hs.ct x k j
 .have l:x≠i':=λe=>by rw [e,aC] at j;cases j
  rw [aq _ _ l] at j;rw [T x n l,R x n l];exact hs.eQ x n j
 .by_cases l:x=i'
  .subst l;rw [Z] at X;exact hg n u X
  .rw [T x n l] at X;exact hs.gone x n u X
 .rcases K x d j with⟨o,z,h3⟩ | ⟨o,z⟩ | ⟨n,o,z⟩ <;> rcases K y d q with⟨F,G,k3⟩ | ⟨F,G⟩ | ⟨m,F,G⟩
  .exact hs.inj x y d o F
  .exact(J d ⟨_,G⟩ x o).elim
  .exact(J d ⟨_,G⟩ x o).elim
  .exact(J d ⟨_,z⟩ y F).elim
  .rw [o,F]
  .have:=D _ _ d z G;rw [this] at I;cases I
  .exact(J d ⟨_,z⟩ y F).elim
  .have:=D _ _ d G z;rw [this] at I;cases I
  .have:=D _ _ d z G;simp only [Id.g.injEq,true_and] at this;rw [o,F,this]
 .rcases(M d).1 ⟨x,j⟩ with⟨y,q⟩ | C
  .exact hs.lt y d q
  .exact(E d C).1
 .rcases(M d).1 ⟨x,j⟩ with⟨y,q⟩ | C
  .exact hs.own y d q
  .exact(E d C).2.1
theorem zo{R:Type}{d j:Nat}{r:cf}{x:T}{v:Value}{ob:List Nat}{K:AV->aE->Nat->Option R}{res:R}(X:cc=none\/cc=some true)(n:iE B w A r x v ob)(a:kk ids d cc j r x K=some res):
  ∃W us V,K W us V=some res/\j<=V/\kP d j V us/\fg B ids c w A us ob (λρ =>ai w A ρ W v):=by
 unfold kk at a;cases r with
 | f k=>obtain⟨_,D,rfl⟩:=n;simp only at a;obtain⟨y,a,D⟩:=mY X D a;exact⟨_,_,_,a,Ns _,(by intro p G;cases G),fg.nil λρ _=>by simpa [ai] using D⟩
 | t k=>obtain⟨D,rfl⟩:=n;simp only at a;obtain⟨y,a,D⟩:=mY X D a;exact⟨_,_,_,a,Ns _,(by intro p G;cases G),fg.nil λρ _=>by simpa [ai] using D⟩
 | own sz=>
  obtain⟨o,p,rfl,G,hsl⟩:=n;cases cc with
  | some b=>simp at a
  | none=>
   dsimp only at a;replace a:=aM a (.inl rfl);obtain⟨q,m,a⟩:=a;rw [G] at m;simp only [M1] at m;subst m;refine⟨_,_,_,a,Nat.le_succ _, ?_, ?_⟩
   .intro q m;simp only [Ng] at m;subst m;exact⟨j,Ns _,Ps _,rfl⟩
   .intro h ρ O H hs M F z;have C:h (.s d j)=none:=z _ (Ng.2 rfl);refine⟨aH ρ (.s d j) (some v),aH O (.s d j) o,λi u E=> ?_, ?_,by simp [ai],λb=>⟨λ⟨i,g⟩=> ?_,λg=> ?_⟩⟩
    .by_cases e:i= .s d j
     .subst e;rw [(hs.ct _ rfl C).1] at E;cases E
     .rw [aq _ _ e];exact E
    .rw [dr];refine hs.uU rfl C v o (λb g=>F b (by simp [g])) _ ⟨v,aC _ _ _, ?_,by simp⟩;simpa using hsl
    .by_cases e:i= .s d j
     .subst e;rw [aC] at g;right;simp [g]
     .rw [aq _ _ e] at g;exact .inl ⟨i,g⟩
    .rcases g with⟨i,g⟩ | g
     .by_cases e:i= .s d j
      .subst e;rw [(hs.ct _ rfl C).2] at g;cases g
      .exact⟨i,by rw [aq _ _ e];exact g⟩
     .exact⟨.s d j,by rw [aC];simpa using g⟩
 | ref k off=>
  obtain⟨⟨b,D,rfl⟩,rfl⟩:=n;dsimp only at a;split at a
  .rename_i i C;exact⟨_,_,_,a,Ns _,(by intro p G;cases G),fg.nil λρ H=>by
    simp only [ai];exact⟨b,H k i _ C D,rfl⟩⟩
  .simp at a
 | same k=>
  obtain⟨⟨D,_⟩,rfl⟩:=n;dsimp only at a;split at a
  .rename_i i C;exact⟨_,_,_,a,Ns _,(by intro p G;cases G),fg.nil λρ H=>by
    simp only [ai];exact H k i _ C D⟩
  .simp at a
 | rows sz col rsz=>
  obtain⟨b,es,i,ρ0,O0,Q,g,hv,hri,U,hg,S,Z⟩:=n;cases cc with
  | some b=>simp at a
  | none=>
   dsimp only at a;replace a:=aM a (.inl rfl);obtain⟨q,m,a⟩:=a;rw [Q] at m;simp only [M1] at m;subst m;refine⟨_,_,_,a,Nat.le_succ _, ?_, ?_⟩
   .intro q m;simp only [Ng] at m;subst m;exact⟨j,Ns _,Ps _,rfl⟩
   .intro h ρ O H hs M F z;have C:h (.s d j)=none:=z _ (Ng.2 rfl);obtain⟨ρ',O',g1,g2,g3,g4⟩:=hs.EV (i':= .s d j) rfl C g hv hri U hg S Z F;exact⟨ρ',O',g1,by rw [dr];exact g2,by simp only [ai];exact g3,g4⟩
 | no=>obtain⟨_,rfl⟩:=n;dsimp only at a;exact⟨_,_,_,a,Ns _,(by intro p G;cases G),fg.nil λρ _=>by simp [ai]⟩
 | mp ag ks vk=>
  obtain⟨es,I,N,J,rfl,rfl,rfl,L,Y,hok⟩:=n;cases cc with
  | some b=>simp at a
  | none=>
   dsimp only at a;replace a:=aM a (.inl rfl);obtain⟨q,m,a⟩:=a;rw [zl] at m;simp only [M1] at m;subst m;refine⟨_,_,_,a,Nat.le_succ _, ?_, ?_⟩
   .intro q m;simp only [Ng] at m;subst m;exact⟨j,Ns _,Ps _,rfl⟩
   .intro h ρ O H hs M F z;have C:h (.s d j)=none:=z _ (Ng.2 rfl);refine⟨aH ρ (.s d j) (some (.map (some I))),aH O (.s d j) (some I),λi u E=> ?_, ?_,by simp [ai],λb=>⟨λ⟨i,g⟩=> ?_,λg=> ?_⟩⟩
    .by_cases e:i= .s d j
     .subst e;rw [(hs.ct _ rfl C).1] at E;cases E
     .rw [aq _ _ e];exact E
    .rw [dr];exact hs.uU rfl C _ (some I) (λb g=>F b (by simp only [M1] at g;simp [g])) _ ⟨I,N,J,aC _ _ _,aC _ _ _,L,Y,hok⟩
    .by_cases e:i= .s d j
     .subst e;rw [aC] at g;right;simp only [M1] at g;simp [g]
     .rw [aq _ _ e] at g;exact .inl ⟨i,g⟩
    .rcases g with⟨i,g⟩ | g
     .by_cases e:i= .s d j
      .subst e;rw [(hs.ct _ rfl C).2] at g;cases g
      .exact⟨i,by rw [aq _ _ e];exact g⟩
     .exact⟨.s d j,by rw [aC];simp only [Ng] at g;rw [g]⟩
 | agg l=>simp at a
 | new l=>simp at a
theorem sM{R:Type}{d:Nat}(l:cc=none\/cc=some true):∀{rs:List cf} {j:Nat} {g x2:List T} {vs:List Value} {own:List Nat} {K:List AV->aE->Nat->Option R} {res:R},eM B w A rs g vs own->iJ ids d cc j rs (g++x2) K=some res->
  ∃i us n,K i us n=some res/\j<=n/\kP d j n us/\fg B ids c w A us own (λρ =>az w A ρ i vs)
 | [],j,g,x2,vs,own,K,res,f,a=>by obtain⟨rfl,rfl,rfl⟩:=f;exact⟨_,_,_,a,Ns _,(by intro p e;cases e),fg.nil λρ _=>by simp [az]⟩
 | r::rs,j,g,x2,vs,own,K,res,f,a=>by
  obtain⟨x,V,v,D,ob,J,rfl,rfl,rfl,E,F⟩:=f;simp only [iJ,NR,Oh,Pn] at a;replace a:=aM a l;obtain⟨y,q,a⟩:=a;simp only [M1] at q;subst q;obtain⟨i,us,W,a,H,z,N⟩:=zo (c:=c) l E a;obtain⟨S,U,X,a,I,C,Q⟩:=sM l F a;refine⟨_,_,_,a,NQ H I, ?_,N.append Q z C λρ ρ' m L M=> ?_⟩
  .intro p e;rcases Nq.1 e with e | e
   .obtain⟨k,t,u,o⟩:=z p e;exact⟨k,t,by omega,o⟩
   .obtain⟨k,t,u,o⟩:=C p e;exact⟨k,by omega,u,o⟩
  .simp only [az];exact⟨v,D,rfl,ai.mono (λb G=>⟨G,rfl⟩) m _ _ L,M⟩
theorem iE.one{r:cf}{x:T}{v:Value}{ob:List Nat}(h:iE B w A r x v ob):v.oneCell'=true/\v.cells= #[v]:=by
 cases r with
 | f k=>exact h.2.1.n8
 | t k=>exact h.1.n8
 | own sz=>obtain⟨o,p,_,_,a,cap,rfl,_⟩:=h;exact⟨rfl,rfl⟩
 | rows sz col rsz=>obtain⟨b,es,i,m,n,_,⟨a,cap,d,_⟩,j,_⟩:=h;rw [j] at d;cases d;exact⟨rfl,rfl⟩
 | ref k off=>obtain⟨⟨b,_,rfl⟩,_⟩:=h;exact⟨rfl,rfl⟩
 | same k=>exact h.1.2
 | no=>exact h.1
 | mp ag ks vk=>obtain⟨es,b,g,e,_,rfl,_⟩:=h;exact⟨rfl,rfl⟩
 | agg l=>exact h.elim
 | new l=>exact h.elim
theorem eM.one:∀{rs:List cf} {xs:List T} {vs:List Value} {own:List Nat},eM B w A rs xs vs own->∀u∈vs,u.oneCell'=true/\u.cells= #[u]
 | [],_,_,_,⟨_,rfl,_⟩,u,hu=>by cases hu
 | r::rs,xs,vs,own,h,u,hu=>by
  obtain⟨x,f,v,e,ob,d,rfl,rfl,rfl,a,b⟩:=h;rcases Nj.1 hu with rfl | hu
  .exact a.one
  .exact eM.one b u hu
theorem eM.length:∀{rs:List cf} {xs:List T} {vs:List Value} {own:List Nat},eM B w A rs xs vs own->xs.length=rs.length
 | [],_,_,_,⟨rfl,_,_⟩=>rfl
 | r::rs,xs,vs,own,h=>by obtain⟨x,e,v,d,ob,b,rfl,rfl,rfl,f,a⟩:=h;simp [eM.length a]
theorem fg.box{d N j:Nat}{us:aE}{o1:List Nat}{E:List AV}{f:Nat}{arr:Array Value}{t:TypeId}(M:fg B ids c w A us o1 (λρ =>az w A ρ E arr.toList))(S:kP d N j us)(l:w.heap[f]? =some (.cells arr t (0,0)))
  (ho:∀u∈arr.toList,u.oneCell'=true/\u.cells= #[u]):fg B ids c w A (us++ [(.s d j, .box E)]) (f::o1) (λρ =>ai w A ρ (.ref (.s d j) 0) (.pointer (some ⟨f,0,none⟩))):=by
 intro h ρ O G hs H m n;obtain⟨I,J⟩:=Od.1 H;obtain⟨y,z,R,r,T,r1⟩:=M h ρ O G hs J (λb l=>m b (M4 _ l)) (λp D=>n p (Nn _ D));have C:aJ h us (.s d j)=none:=by
  rw [de λp D e=> ?_]
  .exact n _ (Nl _ (Ng.2 rfl))
  .obtain⟨k,_,F,L⟩:=S p D;rw [L] at e;simp only [Id.s.injEq] at e;omega
 have o:∀k,z k≠some f:=by
  intro k a;rcases(r1 f).1 ⟨k,a⟩ with⟨Q,q⟩ | q
  .exact(m f M3).2.2 Q q
  .exact I q
 have mono:∀i u,y i=some u->aH y (.s d j) (some (.pointer (some ⟨f,0,none⟩))) i=some u:=by
  intro i u v;by_cases e:i= .s d j
  .subst e;rw [(r.ct _ rfl C).1] at v;cases v
  .rw [aq _ _ e];exact v
 refine⟨aH y (.s d j) (some (.pointer (some ⟨f,0,none⟩))),aH z (.s d j) (some f),λi u v=>mono i u (R i u v), ?_, ?_,λb=> ?_⟩
 .rw [jY,dr];refine r.uU rfl C _ (some f) (λb l=> ?_) _ ⟨f,arr,t,aC _ _ _,aC _ _ _,l,az.mono (λb l=>⟨l,rfl⟩) mono _ _ T,ho⟩;simp only [M1] at l;subst l;obtain⟨K,F,_⟩:=m f M3;exact⟨K,F,o⟩
 .simp only [ai];exact⟨f,aC _ _ _,by simp⟩
 .constructor
  .rintro⟨k,a⟩;by_cases e:k= .s d j
   .subst e;rw [aC] at a;cases a;exact .inr M3
   .rw [aq _ _ e] at a;rcases(r1 b).1 ⟨k,a⟩ with g | g
    .exact .inl g
    .exact .inr (M4 _ g)
  .intro a;have x:(∃k,z k=some b)->∃k,aH z (.s d j) (some f) k=some b:=by
    rintro⟨k,a⟩;by_cases e:k= .s d j
    .subst e;rw [(r.ct _ rfl C).2] at a;cases a
    .exact⟨k,by rw [aq _ _ e];exact a⟩
   rcases a with a | a
   .exact x ((r1 b).2 (.inl a))
   .rcases Nj.1 a with rfl | a
    .exact⟨_,aC _ _ _⟩
    .exact x ((r1 b).2 (.inr a))
theorem qA{R:Type}{d:Nat}(H:cc=none\/cc=some true):∀{rs:List cf} {j:Nat} {xs:List T} {vs:List Value} {own:List Nat} {K:List AV->aE->Nat->Option R} {res:R},dx B w A rs xs vs own->dD ids d cc j rs xs K=some res->
  ∃z us D,K z us D=some res/\j<=D/\kP d j D us/\fg B ids c w A us own (λρ =>az w A ρ z vs)
 | [],j,xs,vs,own,K,res,e,a=>by obtain⟨rfl,rfl,rfl⟩:=e;exact⟨_,_,_,a,Ns _,(by intro p i;cases i),fg.nil λρ _=>by simp [az]⟩
 | r::rs,j,xs,vs,own,K,res,e,a=>by
  have g:(∃x W v o ob I,xs=x::W/\vs=v::o/\own=ob++I/\iE B w A r x v ob/\dx B w A rs W o I)->
    (aa cc xs.head? λx=>kk ids d cc j r x λv u j=>dD ids d cc j rs xs.tail λvs us j=>K (v::vs) (u++us) j)=some res->
    ∃z us D,K z us D=some res/\j<=D/\kP d j D us/\fg B ids c w A us own (λρ =>az w A ρ z vs):=by
   intro e a;obtain⟨x,W,v,o,ob,I,rfl,rfl,rfl,C,J⟩:=e;simp only [Oh,Pn] at a;replace a:=aM a H;obtain⟨y,hy,a⟩:=a;simp only [M1] at hy;subst hy;obtain⟨z,us,M,a,N,F,U⟩:=zo (c:=c) H C a;obtain⟨Y,us',j2,a,X,G,V⟩:=qA H J a;refine⟨_,_,_,a,NQ N X, ?_,U.append V F G λρ ρ' m Q S=> ?_⟩
   .intro p i;rcases Nq.1 i with i | i
    .obtain⟨k,q,E,n⟩:=F p i;exact⟨k,q,by omega,n⟩
    .obtain⟨k,q,E,n⟩:=G p i;exact⟨k,by omega,E,n⟩
   .simp only [az];exact⟨v,o,rfl,ai.mono (λb L=>⟨L,rfl⟩) m _ _ Q,S⟩
  cases r with
  | f k=>exact g e a
  | t k=>exact g e a
  | own sz=>exact g e a
  | rows sz col rsz=>exact g e a
  | mp ag ks vk=>exact g e a
  | new l=>
   obtain⟨x1,x2,b0,arr,ty,o,o1,o2,rfl,rfl,rfl,hb0,C,J⟩:=e;have a:(iJ ids d cc j l (x1++x2) λv u j=>dD ids d cc (j+1) rs ((x1++x2).drop l.length) λvs us D=>K (AV.ref (.s d j) 0::vs) (u++ [(.s d j, .box v)] ++us) D)=some res:=by
    cases cc with
    | none=>simp only [dD] at a;exact a
    | some b=>simp [dD] at a
   obtain⟨z,us,M,a,N,F,U⟩:=sM (c:=c) H C a;have hl:=C.length;rw [<-hl,Qd] at a;obtain⟨Y,us',j2,a,X,G,V⟩:=qA H J a;have Z:kP d j (M+1) (us++ [(.s d M, .box z)]):=by
    intro p i;rcases Nq.1 i with i | i
    .obtain⟨k,q,E,n⟩:=F p i;exact⟨k,q,by omega,n⟩
    .rw [Ng.1 i];exact⟨M,N,by omega,rfl⟩
   refine⟨_,_,_,a,by omega, ?_,(U.box F hb0 C.one).append V Z G λρ ρ' m Q S=> ?_⟩
   .intro p i;rcases Nq.1 i with i | i
    .obtain⟨k,q,E,n⟩:=Z p i;exact⟨k,q,by omega,n⟩
    .obtain⟨k,q,E,n⟩:=G p i;exact⟨k,by omega,E,n⟩
   .simp only [az];exact⟨_,o,rfl,ai.mono (λb L=>⟨L,rfl⟩) m _ _ Q,S⟩
  | ref k off=>exact g e a
  | same k=>exact g e a
  | no=>exact g e a
  | agg l=>
   obtain⟨x1,x2,ws,o,o1,o2,rfl,rfl,rfl,C,J⟩:=e;simp only [dD] at a;obtain⟨z,us,M,a,N,F,U⟩:=sM (c:=c) H C a;have hl:=C.length;rw [<-hl,Qd] at a;obtain⟨Y,us',j2,a,X,G,V⟩:=qA H J a;refine⟨_,_,_,a,NQ N X, ?_,U.append V F G λρ ρ' m Q S=> ?_⟩
   .intro p i;rcases Nq.1 i with i | i
    .obtain⟨k,q,E,n⟩:=F p i;exact⟨k,q,by omega,n⟩
    .obtain⟨k,q,E,n⟩:=G p i;exact⟨k,by omega,E,n⟩
   .simp only [az];refine⟨_,o,rfl, ?_,S⟩;simp only [ai];exact⟨ws,rfl,az.mono (λb L=>⟨L,rfl⟩) m _ _ Q,C.one⟩
theorem xJ{vs:List AV}{rs:List Value}(h:az w A ρ vs rs):ai w A ρ (jP vs) (mQ rs):=by
 match vs,rs,h with
 | [],rs,h=>simp only [az] at h;subst h;simp only [jP,mQ,ai];exact⟨[],rfl,by simp [az]⟩
 | [v],rs,h=>simp only [az] at h;obtain⟨u,r,rfl,a,rfl⟩:=h;exact a
 | v::d::vs,rs,h=>
  have hl:=h.length
  match rs,hl with
  | u::b::rs,_=>simp only [jP,mQ,ai];exact⟨_,rfl,h⟩
theorem Mb{v:AV}{x:T}{u:Value}(hs:HS c w h ρ O)(d:ai w (AA c w O) ρ v u)(a:yc h v=some x)
  (f:∀b,AA c w O b->A' b) (g:∀i ae,O i=some ae->A' ae):ay w A' x u:=by
 have e:dm h v=some x->ay w A' x u:=λk=>kJ hs d k f (λi ae _ ho=>g i ae ho);cases v
 case own i=>
  simp only [yc] at a;split at a
  .rename_i sz b xs j;exact e (by simp only [dm,j];exact a)
  .simp only [M1] at a;subst a;simp only [ai] at d;simp only [ay];exact iT hs d
  .simp only [M1] at a;subst a;simp only [ai] at d;simp only [ay];exact iT hs d
  .cases a
 all_goals exact e a
theorem D4(hs:HS c w h ρ O)(e:∀b,AA c w O b->A' b):∀{vs:List AV} {xs:List T} {us:List Value},az w (AA c w O) ρ vs us->rS h vs=some xs->
  (∀i ae,O i=some ae->A' ae)->aR w A' xs us
 | [],xs,us,d,a,_=>by simp only [rS,M1] at a;subst a;simpa [az,aR] using d
 | v::vs,xs,us,d,a,f=>by simp only [rS] at a;obtain⟨x,k,a⟩:=M2.1 a;obtain⟨l,m,a⟩:=M2.1 a;simp only [M1] at a;subst a;simp only [az] at d;obtain⟨u,r,rfl,g,j⟩:=d;exact⟨u,r,rfl,Mb hs g k e f,D4 hs e j m f⟩
theorem E8{o:Bool}{v:AV}{u:Value}{q:T×aE}(hs:HS c w h ρ O)(m:ai w (AA c w O) ρ v u)(a:iG true o h v=some q):q.2= []/\ay w (λb=>b < w.heap.size) q.1 u:=by
 have f:∀b,AA c w O b->b < w.heap.size:=λb g=>g.2.1;have d:∀x:T,dm h v=some x->ay w (λb=>b < w.heap.size) x u:=λx n=>kJ hs m n f (λi ae _ ho=>hs.lt i ae ho);cases v
 case ref i off=>
  simp only [iG,cond_true] at a;split at a
  .rename_i cs k;obtain⟨l,hl,a⟩:=M2.1 a;simp only [M1] at a;subst a;obtain⟨b,arr,t,z,C,D,p,F⟩:=hs.ae i _ k;simp only [ai] at m;obtain⟨E,e,rfl⟩:=m;rw [z] at e;simp only [M1,OB,NZ] at e;obtain⟨rfl,_⟩:=e;refine⟨rfl, ?_⟩;simp only [ay];have y:aR w (λb=>b < w.heap.size) l (arr.toList.drop off):=by
    cases o with
    | true=>exact D4 hs f (p.drop off) hl (λi ae ho=>hs.lt i ae ho)
    | false=>exact aR.mono (λb g=>⟨f b g,rfl⟩) _ _ (aR.jo hl (p.drop off))
   refine⟨b,off,rfl, .inr (hs.lt i b C),aZ.jq y (λj v r=> ?_)⟩;rw [Pd] at r;simp only [World.cell?,D];simpa using r
  .rename_i l k;simp only [M1] at a;subst a;exact⟨rfl,d _ (by simp [dm,k])⟩
  .simp at a
 all_goals
  simp only [iG] at a;obtain⟨x,n,a⟩:=M2.1 a;simp only [cond_true,M1] at a;subst a;exact⟨rfl,d _ n⟩
theorem E9{m:Bool}{v:AV}{u:Value}{q:T×aE}(hs:HS c w h ρ O)(y:ai w (AA c w O) ρ v u)(a:iG false m h v=some q):
  fA h q.2/\∀O',Le w ρ O w ρ O'->(∀i,O' i=O i\/O' i=none)->(∀p∈q.2,O' p.1=none)->ay w (AA c w O') q.1 u:=by
 have k:∀x:T,dm h v=some x->q= (x,fN h v)->fA h q.2/\∀O',Le w ρ O w ρ O'->(∀i,O' i=O i\/O' i=none)->(∀p∈q.2,O' p.1=none)->ay w (AA c w O') q.1 u:=by
  intro x d e;subst e;refine⟨qJ v,λO' le l o=>kJ hs y d (λb n=>(le.A b n).1) (λi ae r ho=> ?_)⟩;obtain⟨p,t,e⟩:=tg hs d r ho;refine⟨.inr (hs.own i ae ho),hs.lt i ae ho,λj f=> ?_⟩;rcases l j with g | g
  .rw [g] at f;have:=hs.inj j i ae f ho;subst this;have:=o p t;rw [e,g,f] at this;cases this
  .rw [g] at f;cases f
 cases v
 case ref i off=>simp only [iG,cond_false] at a;obtain⟨x,d,a⟩:=M2.1 a;simp only [M1] at a;exact k x d a.symm
 all_goals
  simp only [iG] at a;obtain⟨x,d,a⟩:=M2.1 a;simp only [cond_false,M1] at a;exact k x d a.symm
def gA(c:Ctx)(w:World)(h:Id->Option ab)(ρ:Id->Option Value)(O:Id->Option Nat)(a:Bool)(us:aE)(Q:(Nat->Prop)->Prop):Prop:=
 (a=true->us= []/\Q (λb=>b < w.heap.size))/\
 (a=false->fA h us/\∀O',Le w ρ O w ρ O'->(∀i,O' i=O i\/O' i=none)->(∀p∈us,O' p.1=none)->Q (AA c w O'))
theorem yN{a f:Bool}{v:AV}{u:Value}{q:T×aE}(hs:HS c w h ρ O)(d:ai w (AA c w O) ρ v u)(b:iG a f h v=some q):gA c w h ρ O a q.2 (λA=>ay w A q.1 u):=
 ⟨λe=>by subst e;exact E8 hs d b,λe=>by subst e;exact E9 hs d b⟩
theorem gA.append{g:Bool}{us vs:aE}{j k Q:(Nat->Prop)->Prop}(l:gA c w h ρ O g us j)(m:gA c w h ρ O g vs k)(q:∀A,j A->k A->Q A):gA c w h ρ O g (us++vs) Q:=by
 refine⟨λe=> ?_,λe=> ?_⟩
 .obtain⟨a,b⟩:=l.1 e;obtain⟨d,f⟩:=m.1 e;exact⟨by rw [a,d];rfl,q _ b f⟩
 .obtain⟨a,b⟩:=l.2 e;obtain⟨d,f⟩:=m.2 e;exact⟨a.append d,λO' le n o=>q _ (b O' le n (λp i=>o p (Nn _ i))) (f O' le n (λp i=>o p (Nl _ i)))⟩
theorem gA.nil{b:Bool}{Q:(Nat->Prop)->Prop}(a:∀A,Q A):gA c w h ρ O b [] Q:=⟨λ_=>⟨rfl,a _⟩,λ_=>⟨(by intro p d;cases d),λ_ _ _ _=>a _⟩⟩
theorem gA.imp{d:Bool}{us:aE}{b Q:(Nat->Prop)->Prop}(a:gA c w h ρ O d us b)(f:∀A,b A->Q A):gA c w h ρ O d us Q:=
 ⟨λe=>⟨(a.1 e).1,f _ (a.1 e).2⟩,λe=>⟨(a.2 e).1,λO' le g i=>f _ ((a.2 e).2 O' le g i)⟩⟩
theorem sE{f i:Bool}(hs:HS c w h ρ O):∀{vs:List AV} {us:List Value} {q:List T×aE},az w (AA c w O) ρ vs us->kf f i h vs=some q->gA c w h ρ O f q.2 (λA=>aR w A q.1 us)
 | [],us,q,e,d=>by simp only [az] at e;subst e;simp only [kf,M1] at d;subst d;exact gA.nil λ_=>rfl
 | v::vs,us,q,e,d=>by simp only [az] at e;obtain⟨u,r,rfl,j,k⟩:=e;simp only [kf] at d;obtain⟨p,l,d⟩:=M2.1 d;obtain⟨m,g,d⟩:=M2.1 d;simp only [M1] at d;subst d;exact(yN hs j l).append (sE hs k g) λA a b=>⟨u,r,rfl,a,b⟩
theorem yR{k m:Bool}(hs:HS c w h ρ O){v:AV}{u:Value}{q:AV×aE}(g:ai w (AA c w O) ρ v u)(d:jy k m h v=some q):gA c w h ρ O k q.2 (λA=>ai w A (λ_=>none) q.1 u):=by
 cases v
 case fn f a b=>simp only [ai] at g;obtain⟨o,r,rfl,i,j⟩:=g;simp only [jy] at d;obtain⟨p,e,d⟩:=M2.1 d;obtain⟨t,l,d⟩:=M2.1 d;simp only [M1] at d;subst d;refine(sE hs i e).append (sE hs j l) λA a b=> ?_;simp only [ai];exact⟨o,r,rfl,az.jM a,az.jM b⟩
 case agg vs=>simp only [ai] at g;obtain⟨n,rfl,i,j⟩:=g;simp only [jy] at d;obtain⟨p,e,d⟩:=M2.1 d;simp only [M1] at d;subst d;refine(sE hs i e).imp λA a=> ?_;simp only [ai];exact⟨n,rfl,az.jM a,j⟩
 all_goals
  simp only [jy] at d;obtain⟨p,e,d⟩:=M2.1 d;simp only [M1] at d;subst d;refine(yN hs g e).imp λA a=> ?_;simpa [ai] using a
theorem yT{f i:Bool}(hs:HS c w h ρ O):∀{vs:List AV} {us:List Value} {q:List AV×aE},az w (AA c w O) ρ vs us->jz f i h vs=some q->gA c w h ρ O f q.2 (λA=>az w A (λ_=>none) q.1 us)
 | [],us,q,e,d=>by simp only [az] at e;subst e;simp only [jz,M1] at d;subst d;exact gA.nil λ_=>by simp [az]
 | v::vs,us,q,e,d=>by simp only [az] at e;obtain⟨u,r,rfl,j,k⟩:=e;simp only [jz] at d;obtain⟨p,l,d⟩:=M2.1 d;obtain⟨m,g,d⟩:=M2.1 d;simp only [M1] at d;subst d;refine(yR hs j l).append (yT hs k g) λA a b=> ?_;simp only [az];exact⟨u,r,rfl,a,b⟩
theorem ay.flat{x:T}{v:Value}(a:x.nP =some ())(h:ay w A x v):ay w A' x v:=by cases x <;> simp only [T.nP,reduceCtorEq] at a <;> simpa [ay] using h
theorem eM.flat:∀{rs:List cf} {xs:List T} {vs:List Value} {own:List Nat},(rs.all λr=>match r with | .f _=>true | _=>false)=true->eM B w A rs xs vs own->eM B w A' rs xs vs own/\own= []
 | [],_,_,_,_,h=>⟨h,h.2.2⟩
 | r::rs,xs,vs,own,a,h=>by simp only [Ot,M7] at a;obtain⟨x,e,v,d,ob,l,rfl,rfl,rfl,i,j⟩:=h;obtain⟨g,rfl⟩:=eM.flat a.2 j;cases r <;> simp only [NA,false_and] at a;obtain⟨b,k,rfl⟩:=i;exact⟨⟨x,e,v,d,[],[],rfl,rfl,rfl,⟨b,k.flat b,rfl⟩,g⟩,rfl⟩
theorem dx.flat:∀{rs:List cf} {xs:List T} {vs:List Value} {own:List Nat},rs.all pg=true->dx B w A rs xs vs own->dx B w A' rs xs vs own/\own= []
 | [],_,_,_,_,h=>⟨h,h.2.2⟩
 | r::rs,xs,vs,own,a,h=>by
  simp only [Ot,M7] at a;cases r <;> simp only [pg,NA,false_and] at a
  case f=>obtain⟨x,j,v,b,ob,n,rfl,rfl,rfl,e,g⟩:=h;obtain⟨d,rfl⟩:=dx.flat a.2 g;obtain⟨i,m,rfl⟩:=e;exact⟨⟨x,j,v,b,[],[],rfl,rfl,rfl,⟨i,m.flat i,rfl⟩,d⟩,rfl⟩
  case agg l=>obtain⟨p,x2,o,b,o1,o2,rfl,rfl,rfl,e,g⟩:=h;obtain⟨d,rfl⟩:=dx.flat a.2 g;obtain⟨k,rfl⟩:=eM.flat a.1 e;exact⟨⟨p,x2,o,b,[],[],rfl,rfl,rfl,k,d⟩,rfl⟩
theorem iE.mono{r:cf}{x:T}{v:Value}{ob:List Nat}(g:∀b,A b->A' b)(h:iE B w A r x v ob):iE B w A' r x v ob:=by
 have mT:∀x v,ay w A x v->ay w A' x v:=λx v=>ay.mono (λb a=>⟨g b a,rfl⟩) x v;cases r with
 | f k=>exact⟨h.1,mT _ _ h.2.1,h.2.2⟩
 | t k=>exact⟨mT _ _ h.1,h.2⟩
 | own sz=>obtain⟨o,p,h0,d,e⟩:=h;exact⟨o,p,h0,d,e.mono (λb a=>⟨g b a,rfl⟩) (λb a=>⟨a,rfl⟩)⟩
 | rows sz col rsz=>obtain⟨b,es,i,j,m,h0,d,e⟩:=h;exact⟨b,es,i,j,m,h0,cO.mono (λn=>⟨rfl,rfl,λ_ _=>rfl⟩) (λb a=>⟨g b a,rfl⟩) (λ_ _ h=>h) rfl (λ_ _=>rfl) d,e⟩
 | ref k off=>exact h
 | same k=>exact h
 | no=>exact h
 | mp ag ks vk=>exact h
 | agg l=>exact h.elim
 | new l=>exact h.elim
theorem eM.mono(d:∀b,A b->A' b):∀{rs:List cf} {xs:List T} {vs:List Value} {own:List Nat},eM B w A rs xs vs own->eM B w A' rs xs vs own
 | [],_,_,_,h=>h
 | r::rs,xs,vs,own,h=>by obtain⟨x,f,v,e,ob,a,rfl,rfl,rfl,g,i⟩:=h;exact⟨x,f,v,e,ob,a,rfl,rfl,rfl,g.mono d,eM.mono d i⟩
theorem dx.mono(d:∀b,A b->A' b):∀{rs:List cf} {xs:List T} {vs:List Value} {own:List Nat},dx B w A rs xs vs own->dx B w A' rs xs vs own
 | [],_,_,_,h=>h
 | r::rs,xs,vs,own,h=>by
  cases r with
  | agg l=>obtain⟨i,x2,n,a,o1,o2,rfl,rfl,rfl,e,f⟩:=h;exact⟨i,x2,n,a,o1,o2,rfl,rfl,rfl,e.mono d,dx.mono d f⟩
  | new l=>obtain⟨i,x2,m,arr,ty,a,o1,o2,rfl,rfl,rfl,j,e,f⟩:=h;exact⟨i,x2,m,arr,ty,a,o1,o2,rfl,rfl,rfl,j,e.mono d,dx.mono d f⟩
  | _=>obtain⟨x,k,v,a,ob,g,rfl,rfl,rfl,e,f⟩:=h;exact⟨x,k,v,a,ob,g,rfl,rfl,rfl,e.mono d,dx.mono d f⟩
theorem Eu{R:Type}{d:Nat}{rs:List cf}{xs:List T}{bh:List Value}{own:List Nat}{K:List AV->aE->Nat->Option R}{res:R}(J:cc=none\/cc=some true)(hs:HS c w h ρ O)(f:sv w w')(E:own.Nodup)(g:∀b∈own,w.heap.size<=b/\b < w'.heap.size)
  (D:dx (λ_=>none) w' (λb=>(c.A0 b\/c.MO b)/\b < w'.heap.size/\b∉own/\∀i,O i≠some b) rs xs bh own) (e:dD [] d cc 0 rs xs K=some res):
  ∃o us j,K o us j=some res/\kP d 0 j us/\((∀p∈us,h p.1=none)->∃ρ' O',Le w ρ O w' ρ' O'/\HS c w' (aJ h us) ρ' O'/\az w' (AA c w' O') ρ' o bh):=by
 obtain⟨o,us,j,e,_,x,L⟩:=qA (c:=c) J D e;refine⟨o,us,j,e,x,λu=> ?_⟩;have I:∀b,AA c w O b->((c.A0 b\/c.MO b)/\b < w'.heap.size/\b∉own/\∀i,O i≠some b)/\w'.heap[b]? =w.heap[b]?:=by intro b a;refine⟨⟨a.1,N8 a.2.1 f.size,λhm=> ?_,a.2.2⟩,f.ae b a.2.1⟩;have:=(g b hm).1;have:=a.2.1;omega
 have G:fB c w' (λb=>(c.A0 b\/c.MO b)/\b < w'.heap.size/\b∉own/\∀i,O i≠some b) h ρ O:=
  ⟨λi b a=>cO.mono (λn=>⟨rfl,rfl,λb a=>f.ae b (hs.lt _ b a)⟩) I (λ_ _ h=>h) rfl (λb a=>f.ae b (hs.lt i b a)) (hs.ae i b a),hs.ct,hs.dB,hs.eQ,hs.gone,hs.inj,λi b a=>N8 (hs.lt i b a) f.size,hs.own,NQ hs.size f.size,wB (λb a=>f.ae b (N8 a (NQ hs.glob.2.1 hs.size))) hs.glob.1,hs.glob.2⟩
 obtain⟨ρ',O',m,F,q,r⟩:=L h ρ O (by intro k i v e;simp at e) G E (λb a=>⟨(g b a).2, .inr (NQ hs.size (g b a).1),λi l=>by have:=hs.lt i b l;have:=(g b a).1;omega⟩) u;have y:∀b,((c.A0 b\/c.MO b)/\b < w'.heap.size/\b∉own/\∀i,O i≠some b)↔AA c w' O' b:=by
  intro b;constructor
  .rintro⟨z,C,t,H⟩;refine⟨z,C,λi l=> ?_⟩;rcases(r b).1 ⟨i,l⟩ with⟨k,e⟩ | e
   .exact H k e
   .exact t e
  .rintro⟨z,C,t⟩;refine⟨z,C,λhm=> ?_,λi l=> ?_⟩
   .obtain⟨i,l⟩:=(r b).2 (.inr hm);exact t i l
   .obtain⟨k,e⟩:=(r b).2 (.inl ⟨i,l⟩);exact t k e
 refine⟨ρ',O',⟨f.os,f.output,f.tape,f.size,m,λk e _=>f.ae k e,λi b l=> ?_⟩,F.Ez y, ?_⟩
 .rcases(r b).1 ⟨i,l⟩ with e | e
  .exact .inl e
  .exact .inr (g b e).1
 .exact az.mono (λb a=>⟨(y b).1 a,rfl⟩) (λ_ _ h=>h) _ _ q
theorem oU{d:Type}{a b:List d}{n:Nat}(h:a.length=n):(a++b).drop n=b:=by rw [<-h,Qd]
theorem qB{R:Type}{all:List Id}{d:Nat}:∀{outs:List iC} {Y:List Id} {j jj:Nat} {xs:List T} {own:List Nat} {K:aE->Option R} {res:R},l7 B w A jj outs xs own->fk all d j Y outs xs K=some res->
  ∃us,K us=some res/\(∀p∈us,(∃k,j<=k/\p.1= .s d k)\/p.1∈Y)/\
   ∀h ρ O,rZ B all ρ->(∀k i,Y[k]? =some i->h i=some .dead/\∀v,B (jj+k)=some v->ρ i=some v)->fB c w A h ρ O->own.Nodup->(∀b∈own,b < w.heap.size/\c.MO b/\∀i,O i≠some b)->Y.Nodup->
    (∀i∈Y,∀k,i≠ .s d k)->(∀p∈us,∀k,p.1= .s d k->h p.1=none)->
    ∃ρ' O',(∀i u,ρ i=some u->ρ' i=some u)/\fB c w A (aJ h us) ρ' O'/\∀b,(∃i,O' i=some b)↔((∃i,O i=some b)\/b∈own)
 | [],[],j,jj,xs,own,K,res,o,a=>by obtain⟨rfl,rfl⟩:=o;simp only [fk] at a;exact⟨[],a,(by intro p f;cases f),λh ρ O _ _ hs _ _ _ _ _=>⟨ρ,O,λ_ _ h=>h,hs,λb=>by simp⟩⟩
 | [],_::_,j,jj,xs,own,K,res,o,a=>by simp [fk] at a
 | r::outs,[],j,jj,xs,own,K,res,o,a=>by cases r <;> simp [fk] at a
 | .dead::outs,i::Y,j,jj,xs,own,K,res,o,a=>by
  simp only [fk] at a;obtain⟨us,a,y,tk⟩:=qB (jj:=jj+1) o a;refine⟨us,a,λp f=>(y p f).imp id (M4 _),λh ρ O L U hs Q n G C q=> ?_⟩;exact tk h ρ O L (λk i a=>by
   have:=U (k+1) i (by simpa using a);rw [show jj+ (k+1)=jj+1+k by omega] at this;exact this) hs Q n (Od.1 G).2 (λi X=>C i (M4 _ X)) q
 | .mp ag ks vk::outs,i::Y,j,jj,xs,own,K,res,o,a=>by
  obtain⟨es,F,ents,clock,x2,o2,rfl,rfl,hB,W,hes,hok,I⟩:=o;obtain⟨ob,hob⟩:∃ob:Option Nat,ob=some F:=⟨_,rfl⟩;rw [show F::o2=ob.toList++o2 by rw [hob];rfl] at *
  simp only [fk,Oh,M6,Pn] at a;replace a:=aM a (.inl rfl);obtain⟨p,f,a⟩:=a;rw [zl] at f;simp only [M1] at f;subst f;obtain⟨us,a,y,tk⟩:=qB (jj:=jj+1) I a;refine⟨_,a,λp f=> ?_,λh ρ O L U hs Q n G C q=> ?_⟩
  .rcases Nj.1 f with rfl | f
   .exact .inr M3
   .exact(y p f).imp id (M4 _)
  obtain⟨n1,n2⟩:=Od.1 G;obtain⟨d1,d2⟩:=U 0 i rfl;obtain⟨k1,k2,k3⟩:=OA.1 Q;have V:=hs.xM d1 ob (λb D=>n b (Nn _ (by simp [D]))) (.mp ag ks vk es) ⟨F,ents,clock,d2 _ (by simpa using hB),by rw [aC,hob],W,hes,hok⟩;have Z:O i=none:=(hs.ae i _ d1).2;have z:∀b,(∃k,aH O i ob k=some b)↔((∃k,O k=some b)\/b∈ob.toList):=by
   intro b;constructor
   .rintro⟨k,a⟩;by_cases e:k=i
    .rw [e,aC] at a;right;simp [a]
    .rw [aq _ _ e] at a;exact .inl ⟨k,a⟩
   .rintro(⟨k,a⟩ | a)
    .by_cases e:k=i
     .rw [e,Z] at a;cases a
     .exact⟨k,by rw [aq _ _ e];exact a⟩
    .exact⟨i,by rw [aC];simpa using a⟩
  have S:∀b∈o2,b < w.heap.size/\c.MO b/\∀k,aH O i ob k≠some b:=by
   intro b D;obtain⟨M,N,J⟩:=n b (Nl _ D);refine⟨M,N,λi' hi'=> ?_⟩;rcases(z b).1 ⟨i',hi'⟩ with⟨k,a⟩ | a
   .exact J k a
   .exact k3 b a b D rfl
  have H:∀p∈us,∀k,p.1= .s d k->aH h i (some (.mp ag ks vk es)) p.1=none:=by intro p f k e;have E:p.1≠i:=λe'=>C i M3 k (by rw [<-e',e]);rw [aq _ _ E];exact q p (M4 _ f) k e
  obtain⟨ρ',O',m,hs',rng⟩:=tk (aH h i (some (.mp ag ks vk es))) ρ (aH O i ob) L (λk i' a=>by
    have:=U (k+1) i' (by simpa using a);rw [show jj+ (k+1)=jj+1+k by omega] at this;refine⟨?_,this.2⟩;have E:i'≠i:=λe=>n1 (by rw [<-e];exact Nh a);rw [aq _ _ E];exact this.1) V k2 S n2 (λi X=>C i (M4 _ X)) H
  refine⟨ρ',O',m,hs',λb=> ?_⟩;rw [rng b,z b,Nq,or_assoc]
 | .sl sz::outs,i::Y,j,jj,xs,own,K,res,o,a=>by
  obtain⟨bb,l,x2,ob,v,o2,rfl,rfl,hB,hsl,I⟩:=o;simp only [fk,Oh,M6,Pn] at a;replace a:=aM a (.inl rfl);obtain⟨p,f,a⟩:=a;simp only [T.au,if_true,M1] at f;subst f;obtain⟨us,a,y,tk⟩:=qB (jj:=jj+1) I a;refine⟨_,a,λp f=> ?_,λh ρ O L U hs Q n G C q=> ?_⟩
  .rcases Nj.1 f with rfl | f
   .exact .inr M3
   .exact(y p f).imp id (M4 _)
  obtain⟨n1,n2⟩:=Od.1 G;obtain⟨d1,d2⟩:=U 0 i rfl;obtain⟨k1,k2,k3⟩:=OA.1 Q;have V:=hs.xM d1 ob (λb D=>n b (Nn _ (by simp [D]))) (.sl false sz bb l) ⟨v,d2 v (by simpa using hB),by simpa using hsl,by simp⟩;have Z:O i=none:=(hs.ae i _ d1).2;have z:∀b,(∃k,aH O i ob k=some b)↔((∃k,O k=some b)\/b∈ob.toList):=by
   intro b;constructor
   .rintro⟨k,a⟩;by_cases e:k=i
    .rw [e,aC] at a;right;simp [a]
    .rw [aq _ _ e] at a;exact .inl ⟨k,a⟩
   .rintro(⟨k,a⟩ | a)
    .by_cases e:k=i
     .rw [e,Z] at a;cases a
     .exact⟨k,by rw [aq _ _ e];exact a⟩
    .exact⟨i,by rw [aC];simpa using a⟩
  have S:∀b∈o2,b < w.heap.size/\c.MO b/\∀k,aH O i ob k≠some b:=by
   intro b D;obtain⟨M,N,J⟩:=n b (Nl _ D);refine⟨M,N,λi' hi'=> ?_⟩;rcases(z b).1 ⟨i',hi'⟩ with⟨k,a⟩ | a
   .exact J k a
   .exact k3 b a b D rfl
  have H:∀p∈us,∀k,p.1= .s d k->aH h i (some (.sl false sz bb l)) p.1=none:=by intro p f k e;have E:p.1≠i:=λe'=>C i M3 k (by rw [<-e',e]);rw [aq _ _ E];exact q p (M4 _ f) k e
  obtain⟨ρ',O',m,hs',rng⟩:=tk (aH h i (some (.sl false sz bb l))) ρ (aH O i ob) L (λk i' a=>by
    have:=U (k+1) i' (by simpa using a);rw [show jj+ (k+1)=jj+1+k by omega] at this;refine⟨?_,this.2⟩;have E:i'≠i:=λe=>n1 (by rw [<-e];exact Nh a);rw [aq _ _ E];exact this.1) V k2 S n2 (λi X=>C i (M4 _ X)) H
  refine⟨ρ',O',m,hs',λb=> ?_⟩;rw [rng b,z b,Nq,or_assoc]
 | .box l::outs,i::Y,j,jj,xs,own,K,res,o,a=>by
  obtain⟨x1,x2,F,arr,t,o1,o2,rfl,rfl,hB,W,hL,I⟩:=o;simp only [fk] at a;obtain⟨av,us1,j1,a,hj,n1',t1⟩:=sM (c:=c) (ids:=all) (.inl rfl) hL a;rw [oU hL.length] at a;obtain⟨us2,a,y,tk⟩:=qB (jj:=jj+1) I a;refine⟨_,a,λp f=> ?_,λh ρ O L U hs Q n G C q=> ?_⟩
  .rcases Nq.1 f with f | f
   .obtain⟨k,M,N,J⟩:=n1' p f;exact .inl ⟨k,M,J⟩
   .rcases Nj.1 f with rfl | f
    .exact .inr M3
    .rcases y p f with⟨k,M,N⟩ | g
     .exact .inl ⟨k,by omega,N⟩
     .exact .inr (M4 _ g)
  obtain⟨n1,n2⟩:=Od.1 G;obtain⟨d1,d2⟩:=U 0 i rfl;obtain⟨q1,q2⟩:=Od.1 Q;obtain⟨k1,k2,k3⟩:=OA.1 q2;have not1:∀x,(∀k,x≠ .s d k)->aJ h us1 x=h x:=λx hx=>de λp f e=>by obtain⟨k,_,_,J⟩:=n1' p f;exact hx k (by rw [<-e,J])
  obtain⟨ρ1,O1,m1,V,v1,z⟩:=t1 h ρ O L hs k1 (λb D=>n b (M4 _ (Nn _ D))) (λp f=>by
   obtain⟨k,_,_,J⟩:=n1' p f;exact q p (Nn _ f) k J)
  have hdi:aJ h us1 i=some .dead:=by rw [not1 i (C i M3)];exact d1
  have fresh0:∀k,O1 k≠some F:=by
   intro k a;rcases(z F).1 ⟨k,a⟩ with⟨k',hk'⟩ | hk'
   .exact(n F M3).2.2 k' hk'
   .exact q1 (Nn _ hk')
  have hs2:=V.xM hdi (some F) (λb D=>by
   simp only [M1] at D;subst D;obtain⟨M,N,_⟩:=n F M3;exact⟨M,N,fresh0⟩) (.box av) ⟨F,arr,t,m1 _ _ (d2 _ (by simpa using hB)),aC _ _ _,W,v1,hL.one⟩
  have Z:O1 i=none:=(V.ae i _ hdi).2;have rng2:∀b,(∃k,aH O1 i (some F) k=some b)↔((∃k,O k=some b)\/b∈F::o1):=by
   intro b;constructor
   .rintro⟨k,a⟩;by_cases e:k=i
    .rw [e,aC] at a;cases a;exact .inr M3
    .rw [aq _ _ e] at a;rcases(z b).1 ⟨k,a⟩ with g | g
     .exact .inl g
     .exact .inr (M4 _ g)
   .intro a;have lift:(∃k,O1 k=some b)->∃k,aH O1 i (some F) k=some b:=by
     rintro⟨k,a⟩;by_cases e:k=i
     .rw [e,Z] at a;cases a
     .exact⟨k,by rw [aq _ _ e];exact a⟩
    rcases a with a | a
    .exact lift ((z b).2 (.inl a))
    .rcases Nj.1 a with rfl | a
     .exact⟨i,aC _ _ _⟩
     .exact lift ((z b).2 (.inr a))
  have S:∀b∈o2,b < w.heap.size/\c.MO b/\∀k,aH O1 i (some F) k≠some b:=by
   intro b D;obtain⟨M,N,J⟩:=n b (M4 _ (Nl _ D));refine⟨M,N,λi' hi'=> ?_⟩;rcases(rng2 b).1 ⟨i',hi'⟩ with⟨k,a⟩ | a
   .exact J k a
   .rcases Nj.1 a with rfl | a
    .exact q1 (Nl _ D)
    .exact k3 b a b D rfl
  have H:∀p∈us2,∀k,p.1= .s d k->aH (aJ h us1) i (some (.box av)) p.1=none:=by
   intro p f k e;have E:p.1≠i:=λe'=>C i M3 k (by rw [<-e',e]);rw [aq _ _ E];rw [de (λp' hp' e'=> ?_)]
   .exact q p (Nl _ (M4 _ f)) k e
   .obtain⟨k',M,N,J⟩:=n1' p' hp';rcases y p f with⟨k'',g4,g5⟩ | g
    .rw [J,g5] at e';simp only [Id.s.injEq] at e';omega
    .exact C p.1 (M4 _ g) k e
  obtain⟨ρ',O',m,hs',rng⟩:=tk (aH (aJ h us1) i (some (.box av))) ρ1 (aH O1 i (some F)) (λk i v e1 e2=>m1 i v (L k i v e1 e2)) (λk i' a=>by
    have hm:=Nh a;have:=U (k+1) i' (by simpa using a);rw [show jj+ (k+1)=jj+1+k by omega] at this;refine⟨?_,λv hv=>m1 _ _ (this.2 v hv)⟩;have E:i'≠i:=λe=>n1 (by rw [<-e];exact hm);rw [aq _ _ E,not1 i' (C i' (M4 _ hm))];exact this.1) hs2 k2 S n2 (λi X=>C i (M4 _ X)) H
  refine⟨ρ',O',λi u X=>m i u (m1 i u X),by rw [jY,cJ];exact hs',λb=> ?_⟩;rw [rng b,rng2 b,Nj,Nj,Nq];simp only [or_assoc]
theorem yP{dE:List Id}(hs:HS c w h ρ O):∀{g:List Bool} {vs:List AV} {us:List Value} {q:List AV×aE},az w (AA c w O) ρ vs us->kg h dE g vs=some q->
  fA h q.2/\∀O',Le w ρ O w ρ O'->(∀i,O' i=O i\/O' i=none)->(∀p∈q.2,O' p.1=none)->az w (AA c w O') ρ q.1 us
 | g,[],us,q,f,d=>by simp only [az] at f;subst f;simp only [kg,M1] at d;subst d;exact⟨(by intro p a;cases a),λ_ _ _ _=>by simp [az]⟩
 | g,v::vs,us,q,f,d=>by
  simp only [az] at f;obtain⟨u,r,rfl,n,z⟩:=f;simp only [kg] at d;obtain⟨p,a,d⟩:=M2.1 d;obtain⟨E,o,d⟩:=M2.1 d;simp only [M1] at d;subst d;obtain⟨t,y⟩:=yP hs z o;have one:fA h p.2/\∀O',Le w ρ O w ρ O'->(∀i,O' i=O i\/O' i=none)->(∀x∈p.2,O' x.1=none)->ai w (AA c w O') ρ p.1 u:=by
   unfold qp at a;cases e:(g.headD false || (!v.ids.isEmpty && v.ids.all dE.contains)) with
   | true=>rw [e] at a;simp only [cond_true,M1] at a;subst a;exact⟨(by intro p a;cases a),λO' le _ _=>ai.mono (λb l=>le.A b l) (λ_ _ h=>h) _ _ n⟩
   | false=>rw [e] at a;simp only [cond_false] at a;obtain⟨C,D⟩:=(yR hs n a).2 rfl;exact⟨C,λO' le j k=>ai.mono (λb l=>⟨l,rfl⟩) (by intro i v h;cases h) _ _ (D O' le j k)⟩
  refine⟨one.1.append t,λO' le j k=> ?_⟩;simp only [az];exact⟨u,r,rfl,one.2 O' le j (λx m=>k x (Nn _ m)),y O' le j (λx m=>k x (Nl _ m))⟩
theorem dx.length:∀{rs:List cf} {xs:List T} {vs:List Value} {own:List Nat},dx B w A rs xs vs own->xs.length=kH rs
 | [],_,_,_,⟨rfl,_,_⟩=>rfl
 | r::rs,xs,vs,own,h=>by
  cases r with
  | agg l=>obtain⟨f,x2,k,d,o1,o2,rfl,rfl,rfl,b,a⟩:=h;simp [kH,cf.size,b.length,dx.length a]
  | new l=>obtain⟨f,x2,j,arr,ty,d,o1,o2,rfl,rfl,rfl,g,b,a⟩:=h;simp [kH,cf.size,b.length,dx.length a]
  | _=>obtain⟨x,i,v,d,ob,e,rfl,rfl,rfl,b,a⟩:=h;simp [kH,cf.size,dx.length a];omega
theorem FO{R:Type}{d:Nat}:∀{rs:List cf} {e x2:List T} {j:Nat} {vs:List Value} {own:List Nat} {K:List AV->aE->Nat->Option R},dx B w A rs e vs own->
  dD ids d cc j rs (e++x2) K=dD ids d cc j rs e K:=by
 have one:∀{l:List cf} {e x2:List T} {j:Nat} {vs:List Value} {own:List Nat} {K:List AV->aE->Nat->Option R},eM B w A l e vs own->iJ ids d cc j l (e++x2) K=iJ ids d cc j l e K:=by
  intro l;induction l with
  | nil=>intro e x2 j vs own K h;rfl
  | cons r l p=>intro e x2 j vs own K h;obtain⟨x,o,v,g,ob,m,rfl,rfl,rfl,i,n⟩:=h;simp only [iJ,NR,Oh,Pn];congr 1;funext y;congr 1;funext v u j;exact p n
 intro rs;induction rs with
 | nil=>intro e x2 j vs own K h;rfl
 | cons r rs p=>
  intro e x2 j vs own K h
  have a:(∃x o v g ob m,e=x::o/\vs=v::g/\own=ob++m/\iE B w A r x v ob/\dx B w A rs o g m)->
    (aa cc (e++x2).head? λx=>kk ids d cc j r x λv u j=>dD ids d cc j rs (e++x2).tail λvs us j=>K (v::vs) (u++us) j)=
    aa cc e.head? λx=>kk ids d cc j r x λv u j=>dD ids d cc j rs e.tail λvs us j=>K (v::vs) (u++us) j:=by
   rintro⟨x,o,v,g,ob,m,rfl,rfl,rfl,i,n⟩;simp only [NR,Oh,Pn];congr 1;funext y;congr 1;funext v u j;exact p n
  cases r with
  | agg l=>obtain⟨z,q,E,g,o1,o2,rfl,rfl,rfl,i,n⟩:=h;simp only [dD];have hl:=i.length;rw [Nx,one i,one (x2:=q) i];congr 1;funext v u j;rw [oU hl,oU hl];exact p n
  | f k=>exact a h
  | t k=>exact a h
  | own sz=>exact a h
  | rows sz col rsz=>exact a h
  | mp ag ks vk=>exact a h
  | new l=>
   obtain⟨z,q,D,arr,ty,g,o1,o2,rfl,rfl,rfl,C,i,n⟩:=h;have hl:=i.length;cases cc with
   | some b=>simp only [dD]
   | none=>
   simp only [dD];rw [Nx,one i,one (x2:=q) i];congr 1;funext v u j;rw [oU hl,oU hl];exact p n
  | ref k off=>exact a h
  | same k=>exact a h
  | no=>exact a h
theorem sK{l:List Id}{h:Id->Option ab}{i:Id}(a:i∈l):aJ h (iI l) i=some .dead:=by
 induction l generalizing h with
 | nil=>cases a
 | cons j l f=>
  show aJ (aH h j (some .dead)) (iI l) i=some .dead;by_cases hm:i∈l
  .exact f hm
  .have:i=j:=by
    rcases Nj.1 a with h | h
    .exact h
    .exact(hm h).elim
   subst this;rw [de (λp d e=> ?_),aC];obtain⟨k,b,rfl⟩:=NG.1 d;exact hm (e▸b)
theorem qy{l:List Id}{h:Id->Option ab}{i:Id}(a:i∉l):aJ h (iI l) i=h i:=by refine de λp d e=> ?_;obtain⟨k,b,rfl⟩:=NG.1 d;exact a (e▸b)
theorem JV{d:Nat}{l:List Id}(h:tO d l=true):∀i∈l,∀k,i≠ .s d k:=by intro i a k e;have:=Nt.1 h i a;subst e;simp at this
theorem y7{R:Type}{An:cx}{Or:ax}(hO:ic P An Or){d:Nat}{f:FuncId}{args:List AV}{bh:List Value}{K:AV->aE->Option R}{r:R}(hc:cc=none\/cc=some true)(hs:HS c w s.h ρ O)(hv:az w (AA c w O) ρ args bh)
  (a:fD P An Or s d cc f args K=some r):
  ∃v us fn Q,K v us=some r/\P.funcs[f]? =some fn/\fn.body=some Q/\fn.name≠ "runtime.NumGoroutine" /\
   (gq d s.h us=true->Calls P f bh.toArray w λe w'=>∃x,e= .returned x/\∃ρ' O',Le w ρ O w' ρ' O'/\HS c w' (aJ s.h us) ρ' O'/\ai w' (AA c w' O') ρ' v x):=by
 unfold fD at a;split at a
 .simp at a
 rename_i fn hfn;split at a
 .rename_i hbref;replace a:=M2.1 a;obtain⟨p,hp,a⟩:=a;obtain⟨pt,a,Z⟩:=uI hc a;replace a:=aM a (.inl rfl);obtain⟨xs,hxs,a⟩:=a;replace hxs:Or (.call f) pt []=some xs:=by rcases hc with rfl | rfl <;> exact hxs
  obtain⟨fn',Q,U,V,X,C⟩:=hO f pt [] xs hxs;rw [hfn] at U;simp only [M1] at U;subst U;have C:=C.values hbref;have ok:=yT hs hv hp;rw [show dD [] d cc 0 (cZ P An f 0 fn) xs (λvs u _=>K (jP vs) (p.2++u))= (dD [] d cc 0 (cZ P An f 0 fn) xs (λvs u j=>some (vs,u,j))).bind (λq=>K (jP q.1) (p.2++q.2.1)) from by rw [nG];rfl] at a;replace a:=M2.1 a;obtain⟨q,hq,a⟩:=a;refine⟨_,_,fn,Q,a,hfn,V,X,λW=> ?_⟩;have hfree':∀k,(∃b,(Id.s d k,b)∈q.2.1)->s.h (.s d k)=none:=by rintro k ⟨b,o⟩;have:=Nt.1 W _ (Nl _ o);simpa using this
  cases hfl:(cZ P An f 0 fn).all pg with
  | true=>
   obtain⟨hp2,S⟩:=ok.1 hfl;refine(C _ w bh (λb o=>o) (Z _ _ _ _ S) hs.ok).mono λe w' Y=> ?_;obtain⟨rs,own,rfl,L,hnd,D,J⟩:=Y;obtain⟨J,rfl⟩:=J.flat (A':=λb=>(c.A0 b\/c.MO b)/\b < w'.heap.size/\b∉([]:List Nat)/\∀i,O i≠some b) hfl;obtain⟨avs,us,j,hq',names,tk⟩:=Eu hc hs L hnd D J hq;simp only [M1] at hq';subst hq';obtain⟨ρ',O',le,hs',hv'⟩:=tk (λp hp=>by
    obtain⟨k,_,_,e⟩:=names p hp;rw [e];exact hfree' k ⟨p.2,by rw [<-e];exact hp⟩)
   refine⟨_,rfl,ρ',O',le, ?_,xJ hv'⟩;rw [hp2];exact hs'
  | false=>
   obtain⟨hfz,S⟩:=ok.2 hfl;obtain⟨O1,cq,hs1,hO1,hf1,_⟩:=hs.nR hfz;refine(C _ w bh (λb o=>o.2.1) (Z _ _ _ _ (S O1 cq hO1 hf1)) hs.ok).mono λe w' Y=> ?_;obtain⟨rs,own,rfl,L,hnd,D,J⟩:=Y;have J:=J.mono (A':=λb=>(c.A0 b\/c.MO b)/\b < w'.heap.size/\b∉own/\∀i,O1 i≠some b) (by
    rintro b ⟨h1 | h1,E,h3⟩
    .exact⟨h1.1,E,h3,h1.2.2⟩
    .exact⟨.inr (.inr (NQ hs.size h1)),E,h3,λi t=>by have:=hs1.lt i b t;omega⟩)
   obtain⟨avs,us,j,hq',names,tk⟩:=Eu hc hs1 L hnd D J hq;simp only [M1] at hq';subst hq';obtain⟨ρ',O',le,hs',hv'⟩:=tk (λp' hp'=>by
    obtain⟨k,_,_,e⟩:=names p' hp';have hn:=hfree' k ⟨p'.2,by rw [<-e];exact hp'⟩;rw [de (λx F ex=> ?_),e]
    .exact hn
    .have E:=hfz x F;rw [ex,e,hn] at E;rcases E with⟨sz,b,l,_,E⟩ | ⟨l,_,E⟩ <;> simp at E)
   exact⟨_,rfl,ρ',O',cq.trans le,by rw [jY];exact hs',xJ hv'⟩
 .rename_i fl hbref;cases cc with
  | some b=>simp at a
  | none=>
  dsimp only at a;replace a:=M2.1 a;obtain⟨p,hp,a⟩:=a;replace a:=M2.1 a;obtain⟨us,hus,a⟩:=a;replace a:=M2.1 a;obtain⟨seen,hseen,a⟩:=a;generalize hn0:fM ((bX p.1).head?.bind (aJ s.h p.2))=n0 at a hus;cases N:(tO d seen && Nat.beq (fM (seen.map λi=>fQ seen (aJ (aJ s.h p.2) us i)).head?) n0) with
  | false=>rw [N] at a;simp at a
  | true=>
  rw [N,cond_true] at a;simp only [M7] at N;obtain⟨hnot,hd0⟩:=N;replace hd0:=Nat.eq_of_beq_eq_true hd0;have hns:=JV hnot;obtain⟨pt,a,Z⟩:=uI (.inl rfl) a;replace a:=aM a (.inl rfl);obtain⟨xs,hxs,a⟩:=a;obtain⟨fn',Q,U,V,X,C⟩:=hO f pt _ xs hxs;rw [hfn] at U;simp only [M1] at U;subst U;obtain⟨hfz,S⟩:=yP hs hv hp;obtain⟨O1,cq,hs1,hO1,hf1,_⟩:=hs.nR hfz;have hv1:=S O1 cq hO1 hf1;obtain⟨ρ2,I,le2,z⟩:=xB hs1 hus;have hv2:=az.mono (λb o=>le2.A b o) le2.dU _ _ hv1;obtain⟨g1,_,g3,g4,g5⟩:=rH hseen PF (by simp) (by simp);let c':Ctx:={A0:=AA c w I,M:=λb=>∃i,Of seen i/\I i=some b,N0:=w.heap.size};have hA3:∀b,AA c w I b->AA c' w (cr seen I) b:=λb o=>⟨.inl o,o.2.1,λi t=>by
   obtain⟨k,_,a⟩:=rJ ⟨i,t⟩;exact o.2.2 k a⟩
  have hs3:=z.Dq (c':=c') g1 g4 g5 hA3 (λb o=> .inl (rJ o)) (Ns _) ⟨NQ z.glob.2.1 z.size,λb o h=>by
   obtain⟨i,_,t⟩:=h;rcases z.own i b t with h | h
   .exact z.glob.2.2 b o h
   .have:=z.glob.2.1;omega⟩
  have hv3:=Z _ _ _ _ (az.rn (m:=seen) hA3 _ _ (λi t=>g3 i t) hv2);have C:=C c' w _ _ bh rfl hs3 hv3;rw [hd0] at C;obtain⟨blks,hblks⟩:∃blks,blks=seen.map λi=>fQ seen (aJ (aJ s.h p.2) us i):=⟨_,rfl⟩;obtain⟨E,hh2⟩:∃E,E=aJ (aJ s.h p.2) us:=⟨_,rfl⟩;rw [<-hblks] at C;rw [<-hh2] at z g4 g5;rw [show(dD seen d none 0 (cZ P An f n0 fn) xs λvs u j=>fk seen d j seen (fP An f n0) (xs.drop (kH (cZ P An f n0 fn))) λq=>K (jP vs) (p.2++us++iI seen++u++q))=
   ((dD seen d none 0 (cZ P An f n0 fn) xs λvs u j=>some (vs,u,j)).bind λq0=>(fk seen d q0.2.2 seen (fP An f n0) (xs.drop (kH (cZ P An f n0 fn))) some).bind λq=>K (jP q0.1) (p.2++us++iI seen++q0.2.1++q)) from by
    rw [nG];congr 1;funext vs u j;simp only [M6];rw [sN];rfl] at a
  replace a:=M2.1 a;obtain⟨⟨avs,u0,j0⟩,hq0,a⟩:=a;replace a:=M2.1 a;obtain⟨qs,hqs,a⟩:=a;dsimp only at hqs a;refine⟨_,_,fn,Q,a,hfn,V,X,λW=> ?_⟩;refine C.mono ?_;rintro e w' ⟨rs,x1,x2,o1,o2,rfl,L,rfl,hnd,D,J,ho⟩;refine⟨_,rfl, ?_⟩;rw [oU J.length] at hqs;rw [FO J] at hq0;obtain⟨n1,n2,n3⟩:=OA.1 hnd;have inMO:∀b,c'.MO b->c.MO b:=by
   rintro b (⟨i,_,t⟩ | o)
   .exact z.own i b t
   .exact .inr (NQ z.size o)
  have dE:∀b,b < w.heap.size->(∀i,Of seen i->I i≠some b)->w'.heap[b]? =w.heap[b]?:=λb o hn=>L.ae b o λho=>by obtain⟨k,a,e⟩:=rJ ho;exact hn k a e
  have out:∀b∈o1++o2,∀i,¬Of seen i->I i≠some b:=by
   intro b o i t e;rcases(D b o).1 with⟨k,a,hkb⟩ | hN
   .exact t (z.inj k i b hkb e▸a)
   .have:=z.lt i b e;exact absurd hN (P5 this)
  let A1:Nat->Prop:=λb=>(c'.A0 b\/c'.MO b)/\b < w'.heap.size/\b∉o1++o2
  classical
  let OD:Id->Option Nat:=λi=>if Of seen i then none else I i;have hreal:∀i∈seen,i.real=true:=λi t=>z.real (g4 i t);have hofr:∀{i:Id},i.real=true->Of seen i->i∈seen:=by
   rintro i J (t | ⟨j,n,_,rfl⟩)
   .exact t
   .cases J
  have hofg:∀{i:Id} {n:Nat},Of seen (.g i n)->i∈seen:=by
   rintro i n (t | ⟨j,m,hj,e⟩)
   .have:=hreal _ t;cases this
   .cases e;exact hj
  have H:∀i b,OD i=some b->¬Of seen i/\I i=some b:=by
   intro i b h;simp only [OD] at h;split at h
   .cases h
   .rename_i t;exact⟨t,h⟩
  have hA4:∀b,AA c w I b->A1 b/\w'.heap[b]? =w.heap[b]?:=by
   intro b o;refine⟨⟨.inl o,N8 o.2.1 L.size,λhm=> ?_⟩,dE b o.2.1 λi _=>o.2.2 i⟩;rcases(D b hm).1 with⟨k,_,hkb⟩ | hN
   .exact o.2.2 k hkb
   .exact absurd hN (P5 o.2.1)
  have hsa:fB c w' A1 (aJ E (iI seen)) ρ2 OD:=by
   refine⟨λi x F=> ?_,λi hir t=> ?_,λi n=> ?_,λi n t=> ?_,z.gone,λi j b t hj=> ?_,λi b t=> ?_,λi b t=> ?_,NQ z.size L.size,wB (λb o=>dE b (N8 o (NQ z.glob.2.1 z.size)) λi _ t=>by
    rcases z.own i b t with h | h
    .exact z.glob.2.2 b o h
    .have:=z.glob.2.1;omega) z.glob.1,z.glob.2⟩
   .by_cases hm:i∈seen
    .rw [sK hm] at F;cases F;obtain⟨y,hy⟩:=Pv.1 (g4 i hm);exact⟨z.D9 hy,if_pos (.inl hm)⟩
    .rw [qy hm] at F;have hm':¬Of seen i:=λe=>hm (hofr (z.real (by rw [F];simp)) e);have hmg:∀n,¬Of seen (.g i n):=λn e=>hm (hofg e);refine cO.mono (λn=>⟨rfl,if_neg (hmg n),λb o=>dE b (z.lt _ b o) λk a e=>hmg n (z.inj k _ b e o▸a)⟩) hA4 (λ_ _ h=>h) (if_neg hm') (λb o=>dE b (z.lt i b o) λk a e=> ?_) (z.ae i x F);exact hm' (z.inj k i b e o▸a)
   .by_cases hm:i∈seen
    .rw [sK hm] at t;cases t
    .rw [qy hm] at t;obtain⟨G,a2⟩:=z.ct i hir t;exact⟨G,by rw [show OD i=I i from if_neg λe=>hm (hofr hir e)];exact a2⟩
   .rw [qy λhm=>by have:=hreal _ hm;cases this];exact z.dB i n
   .by_cases hm:i∈seen
    .rw [sK hm] at t;cases t
    .rw [qy hm] at t;obtain⟨G,a2⟩:=z.eQ i n t;exact⟨G,by rw [show OD (.g i n)=I (.g i n) from if_neg λe=>hm (hofg e)];exact a2⟩
   .exact z.inj i j b (H i b t).2 (H j b hj).2
   .exact N8 (z.lt i b (H i b t).2) L.size
   .exact z.own i b (H i b t).2
  have hbr:rZ (my blks.length (cr seen ρ2)) seen ρ2:=by
   intro k i v a hB;simp only [my] at hB;split at hB
   .simpa [cr,a] using hB
   .cases hB
  have hnew:∀k,(∃b,(Id.s d k,b)∈u0\/(Id.s d k,b)∈qs)->s.h (.s d k)=none:=by
   rintro k ⟨b,o⟩;have hm:(Id.s d k,b)∈p.2++us++iI seen++u0++qs:=by
    rcases o with o | o
    .exact Nn _ (Nl _ o)
    .exact Nl _ o
   have:=Nt.1 W _ hm;simpa using this
  have hnone:∀k,s.h (.s d k)=none->aJ E (iI seen) (.s d k)=none:=by
   intro k a;rw [qy λhm=>hns _ hm k rfl,hh2];refine Dd (λk' e=> ?_) hus ?_
   .simp only [Id.s.injEq] at e;omega
   .rw [de λx F ex=> ?_]
    .exact a
    .have E:=hfz x F;rw [ex,a] at E;rcases E with⟨sz,b,l,_,E⟩ | ⟨l,_,E⟩ <;> simp at E
  obtain⟨avs',u0',j0',hq0',_,T,tk0⟩:=qA (c:=c) (ids:=seen) (.inl rfl) J hq0;simp only [M1,NL] at hq0';obtain⟨rfl,rfl,rfl⟩:=hq0';obtain⟨ρ3,O3,m3,hs4,v3,rng3⟩:=tk0 _ ρ2 OD hbr hsa n1 (λb o=>⟨(D b (Nn _ o)).2,inMO b (D b (Nn _ o)).1,λi t=>out b (Nn _ o) i (H i b t).1 (H i b t).2⟩)
   (λx F=>by
    obtain⟨k,_,_,e⟩:=T x F;rw [e];exact hnone k (hnew k ⟨x.2, .inl (by rw [<-e];exact F)⟩))
  obtain⟨qs',hqs',names1,tk1⟩:=qB (c:=c) ho hqs;simp only [M1] at hqs';subst hqs';have notin0:∀x,(∀k,x≠ .s d k)->aJ (aJ E (iI seen)) u0' x=aJ E (iI seen) x:=λx F=>de λy hy e=>by obtain⟨k,_,_,g⟩:=T y hy;exact F k (by rw [<-e,g])
  obtain⟨ρ4,O4,m4,hs5,rng4⟩:=tk1 _ ρ3 O3 (λk i v U e2=>m3 i v (hbr k i v U e2)) (λk i a=>by
    have hm:=Nh a;refine⟨by rw [notin0 i (hns i hm),sK hm],λv hv=> ?_⟩;rw [NF] at hv;exact m3 i v (hbr k i v a hv)) hs4 n2 (λb o=>⟨(D b (Nl _ o)).2,inMO b (D b (Nl _ o)).1,λi t=>by
    rcases(rng3 b).1 ⟨i,t⟩ with⟨k,a⟩ | a
    .exact out b (Nl _ o) k (H k b a).1 (H k b a).2
    .exact n3 b a b o rfl⟩) g1 (λi t k=>hns i t k) (λx F k e=>by
    rw [de (λy hy ey=> ?_),e]
    .exact hnone k (hnew k ⟨x.2, .inr (by rw [<-e];exact F)⟩)
    .obtain⟨k',_,g2,g⟩:=T y hy;rcases names1 x F with⟨k'',g6,g7⟩ | g6
     .rw [g,g7] at ey;simp only [Id.s.injEq] at ey;omega
     .exact hns _ g6 k e)
  have rng:∀b,(∃i,O4 i=some b)↔(∃i,OD i=some b)\/b∈o1++o2:=by intro b;rw [rng4 b,rng3 b,Nq,or_assoc]
  have hAA:∀b,A1 b↔AA c w' O4 b:=by
   intro b;constructor
   .rintro⟨G,a2,a3⟩;refine⟨?_,a2,λi t=> ?_⟩
    .rcases G with G | G
     .exact G.1
     .exact .inr (inMO b G)
    .rcases(rng b).1 ⟨i,t⟩ with⟨k,a⟩ | a
     .obtain⟨k1,k2⟩:=H k b a;rcases G with G | ⟨k',hk',e⟩ | G
      .exact G.2.2 k k2
      .exact k1 (z.inj k' k b e k2▸hk')
      .exact absurd G (P5 (z.lt k b k2))
     .exact a3 a
   .rintro⟨G,a2,a3⟩;refine⟨?_,a2,λhm=> ?_⟩
    .by_cases o:b < w.heap.size
     .by_cases hex:∃i,I i=some b
      .obtain⟨i,t⟩:=hex;by_cases hm:Of seen i
       .exact .inr (.inl ⟨i,hm,t⟩)
       .obtain⟨k,a⟩:=(rng b).2 (.inl ⟨i,by simp only [OD,if_neg hm];exact t⟩);exact(a3 k a).elim
      .exact .inl ⟨G,o,λi t=>hex ⟨i,t⟩⟩
     .exact .inr (.inr (Nat.le_of_not_lt o))
    .obtain⟨k,a⟩:=(rng b).2 (.inr hm);exact a3 k a
  have le3:Le w ρ2 I w' ρ4 O4:=by
   refine⟨L.os,L.output,L.tape,L.size,λi v t=>m4 i v (m3 i v t),λb o hn=>dE b o λi _=>hn i,λi b t=> ?_⟩;rcases(rng b).1 ⟨i,t⟩ with⟨k,a⟩ | a
   .exact .inl ⟨k,(H k b a).2⟩
   .rcases(D b a).1 with⟨k,_,hkb⟩ | hN
    .exact .inl ⟨k,hkb⟩
    .exact .inr hN
  refine⟨ρ4,O4,cq.trans (le2.trans le3), ?_,xJ (az.mono (λb o=>⟨(hAA b).1 o,rfl⟩) m4 _ _ v3)⟩;have:=hs5.Ez hAA;rw [hh2] at this;simp only [jY];exact this
end
open Go
section
variable {P:Program} {w w':World} {A A':Nat->Prop} {c:Ctx} {ρ ρ':Id->Option Value} {O O':Id->Option Nat} {s:St} {cc:Option Bool} {h:Id->Option ab}
theorem cO.DZ{i:Id}{b:Bool}{sz col rsz R k:Nat}{es:List Row}{e:Row}(o:cO w A ρ O i (.rows b sz col rsz R es))(l:es[k]? =some e)(q:Option (Bool×List (List T)))(H:∀d,A d->A' d)
  (E:ρ' i=ρ i) (C:∀n,ρ' (.g i n)=ρ (.g i n)) (J:O' i=O i) (I:∀m,m≠e.n->O' (.g i m)=O (.g i m))
  (M:match q with | some p=>∀v,ρ (.g i e.n)=some v->cF w A' rsz p.1 p.2 v (λd=>O' (.g i e.n)=some d) | none=>O' (.g i e.n)=none):
  cO w A' ρ' O' i (.rows b sz col rsz R (es.set k {e with own:=q})):=by
 obtain⟨a,cap,r1,r2,r3,⟨N,Q,n3,n4⟩,F⟩:=o;have x:(es.set k {e with own:=q}).length=es.length:=by simp
 have z:(es.set k {e with own:=q}).map (·.n)=es.map (·.n):=by
  rw [P2];refine Oq λm=> ?_;rw [On];split
  .rename_i h;subst h;have:=(M5.1 l).1;rw [if_pos (by simpa using this)];simp [l]
  .rfl
 refine⟨a,cap,by rw [x,E];exact r1,by rw [x];exact r2,r3,⟨by rw [z];exact N,λf j=> ?_,λm hm=>by rw [C];exact n3 m hm,λm d K=> ?_⟩, ?_⟩
 .rcases OQ j with j | rfl
  .exact Q f j
  .exact Q e (Nh l)
 .have L:∃f∈es,f.n=m:=by
   by_cases hm:m=e.n
   .exact⟨e,Nh l,hm.symm⟩
   .rw [I m hm] at K;exact n4 m d K
  obtain⟨f,j,r⟩:=L;have:m∈(es.set k {e with own:=q}).map (·.n):=by rw [z];exact NG.2 ⟨f,j,r⟩
  obtain⟨Y,h1,h2⟩:=NG.1 this;exact⟨Y,h1,h2⟩
 .rcases F with F | ⟨ae,off,arr,t,q1,q2,q3,q4,S⟩
  .exact .inl F
  .refine .inr ⟨ae,off,arr,t,q1,by rw [J];exact q2,q3,q4, ?_⟩;have D:=S.get l;refine cn.set (λb o=>⟨H b o,rfl⟩) (M5.1 l).1 (λ_ _ _ _=>rfl) (λm f hm j=> ?_) ?_ S
   .have r:f.n≠e.n:=λh=>hm (rp N j l h);exact⟨C _,I _ r,λ_ _=>rfl⟩
   .obtain⟨V,W,X,u,a4,G,a7⟩:=D;refine⟨V,W,λm y hm hy=> ?_,u,a4,by rw [C];exact G, ?_⟩
    .obtain⟨U,Z,g2⟩:=X m y hm hy;exact⟨U,Z,ay.mono (λb o=>⟨H b o,rfl⟩) y U g2⟩
    .cases q with
     | none=>exact M
     | some p=>exact M u G
theorem CJ{n:Nat}:∀{es:List Row} {u:Unit},pD n es=some u->∃k e,es[k]? =some e/\e.n=n/\e.own=none/\∀q,cR n q es=es.set k {e with own:=q}
 | [],_,h=>by simp [pD] at h
 | e::es,u,h=>by
  unfold pD at h;by_cases c:e.n=n
  .rw [if_pos c] at h;split at h
   .rename_i ho;exact⟨0,e,rfl,c,ho,λq=>by simp [cR,c]⟩
   .cases h
  .rw [if_neg c] at h;obtain⟨k,f,a,b,d,g⟩:=CJ h;exact⟨k+1,f,by simpa using a,b,d,λq=>by simp [cR,c,g q]⟩
theorem HS.fO{i new:Id}{b:Bool}{sz col rsz R n:Nat}{es:List Row}{p:Bool×List (List T)}{v:Value}(hs:HS c w h ρ O)(t:h i=some (.rows b sz col rsz R es))(I:cv n es=some p)(X:ρ (.g i n)=some v)
  (z:h new=none) (hrl:new.real=true):
  ∃O',Le w ρ O w (aH ρ new (some v)) O'/\HS c w (aH (aH h i (some (.rows b sz col rsz R (cR n none es)))) new (some (.sl false rsz p.1 p.2))) (aH ρ new (some v)) O':=by
 have D:=hs.real (i:=i) (by rw [t];simp);have hne:i≠new:=λe=>by rw [e,z] at t;cases t
 obtain⟨k,e,W,C,heo,F⟩:=s6 I;obtain⟨v',S,s2⟩:=um (s:=⟨λ_=>(none, .top),h⟩) hs t I;rw [X] at S;cases S;let Q:Id->Option Nat:=λx=>if x=new then O (.g i n) else if x= .g i n then none else O x;have U:Q new=O (.g i n):=by simp only [Q,if_true]
 have V:Q (.g i n)=none:=by simp only [Q,if_neg (aP hrl),if_true]
 have o:∀x,x≠new->x≠ .g i n->Q x=O x:=λx f j=>by simp only [Q,if_neg f,if_neg j]
 have l:∀x d,Q x=some d->(x=new/\O (.g i n)=some d)\/(x≠new/\x≠ .g i n/\O x=some d):=by
  intro x d a;simp only [Q] at a;split at a
  .exact .inl ⟨by assumption,a⟩
  .split at a
   .cases a
   .exact .inr ⟨by assumption,by assumption,a⟩
 obtain⟨Z,n2⟩:=hs.ct new hrl z;have le:Le w ρ O w (aH ρ new (some v)) Q:=⟨rfl,rfl,rfl,Ns _,λx u a=>by
  by_cases e:x=new
  .subst e;rw [Z] at a;cases a
  .rw [aq _ _ e];exact a,λ_ _ _=>rfl,λx d a=>by
  rcases l x d a with⟨_,h⟩ | ⟨_,_,h⟩
  .exact .inl ⟨_,h⟩
  .exact .inl ⟨_,h⟩⟩
 refine⟨Q,le,hs.mv le (λx y a=> ?_) (λx J a=> ?_) (λx m=>by rw [aq _ _ (aP hrl),aq _ _ (aP D)];exact hs.dB x m) (λx m a=> ?_) (λx m u L=>by rw [aq _ _ (aP hrl)] at L;exact hs.gone x m u L) (λx y d a Y=> ?_) (λx d a=> ?_)⟩
 .by_cases q:x=new
  .subst q;rw [aC] at a;cases a;right;refine⟨v,aC _ _ _,cF.mono (λd r=>le.A d r) (λd r=>⟨?_,rfl⟩) s2,by simp⟩;simp only [NA,if_false];rw [U];exact r
  .rw [aq _ _ q] at a;by_cases E:x=i
   .subst E;rw [aC] at a;cases a;right;rw [F];refine cO.DZ (hs.ae x _ t) W none (λd r=>(le.A d r).1) (aq _ _ q) (λm=>aq _ _ (aP hrl)) (o x q (aP D).symm) (λm hm=>o _ (aP hrl) ?_) ?_
    .intro h;simp only [Id.g.injEq,true_and] at h;exact hm (h.trans C.symm)
    .simp only;rw [C];exact V
   .rw [aq _ _ E] at a;have K:=hs.real (i:=x) (by rw [a];simp);refine .inl ⟨a,o x q (aP K).symm,λ_ _=>rfl,λm=>⟨aq _ _ (aP hrl),o _ (aP hrl) ?_,λ_ _=>rfl⟩⟩;intro h;simp only [Id.g.injEq] at h;exact E h.1
 .have f:x≠new:=λe=>by rw [e,aC] at a;cases a
  rw [aq _ _ f] at a;have j:x≠i:=λe=>by rw [e,aC] at a;cases a
  rw [aq _ _ j] at a;rw [aq _ _ f,o x f (aP J).symm];exact hs.ct x J a
 .have f:x≠new:=λe=>by rw [e,aC] at a;cases a
  rw [aq _ _ f] at a;have j:x≠i:=λe=>by rw [e,aC] at a;cases a
  rw [aq _ _ j] at a;rw [aq _ _ (aP hrl),o _ (aP hrl) (by intro h;simp only [Id.g.injEq] at h;exact j h.1)];exact hs.eQ x m a
 .rcases l x d a with⟨f,j⟩ | ⟨f,j,H⟩ <;> rcases l y d Y with⟨M,G⟩ | ⟨M,G,N⟩
  .rw [f,M]
  .exact(G (hs.inj _ _ d N j)).elim
  .exact(j (hs.inj _ _ d H G)).elim
  .exact hs.inj x y d H N
 .rcases l x d a with⟨_,h⟩ | ⟨_,_,h⟩
  .exact hs.lt _ d h
  .exact hs.lt _ d h
theorem HS.back{i new:Id}{b bb:Bool}{sz col rsz N n:Nat}{es:List Row}{xs:List (List T)}{v:Value}{u:Unit}(hs:HS c w h ρ O)(z:h i=some (.rows b sz col rsz N es))(W:pD n es=some u)(l:h new=some (.sl false rsz bb xs))
  (X:ρ (.g i n)=some v) (G:ρ new=some v):
  ∃O',Le w ρ O w ρ O'/\HS c w (aH (aH h i (some (.rows b sz col rsz N (cR n (some (bb,xs)) es)))) new (some .dead)) ρ O':=by
 have C:=hs.real (i:=i) (by rw [z];simp);have hrl:=hs.real (i:=new) (by rw [l];simp);have hne:i≠new:=λe=>by rw [e,l] at z;cases z
 obtain⟨k,e,V,r,heo,F⟩:=CJ W;obtain⟨v',R,Z,_⟩:=hs.ae new _ l;rw [G] at R;cases R;let Q:Id->Option Nat:=λx=>if x=new then none else if x= .g i n then O new else O x;have S:Q new=none:=by simp only [Q,if_true]
 have U:Q (.g i n)=O new:=by simp only [Q,if_neg (aP hrl),if_true]
 have p:∀x,x≠new->x≠ .g i n->Q x=O x:=λx f j=>by simp only [Q,if_neg f,if_neg j]
 have o:∀x d,Q x=some d->(x= .g i n/\O new=some d)\/(x≠new/\x≠ .g i n/\O x=some d):=by
  intro x d a;simp only [Q] at a;split at a
  .cases a
  .split at a
   .exact .inl ⟨by assumption,a⟩
   .exact .inr ⟨by assumption,by assumption,a⟩
 have le:Le w ρ O w ρ Q:=⟨rfl,rfl,rfl,Ns _,λ_ _ h=>h,λ_ _ _=>rfl,λx d a=>by
  rcases o x d a with⟨_,h⟩ | ⟨_,_,h⟩
  .exact .inl ⟨_,h⟩
  .exact .inl ⟨_,h⟩⟩
 refine⟨Q,le,hs.mv le (λx y a=> ?_) (λx J a=> ?_) (λx m=>by rw [aq _ _ (aP hrl),aq _ _ (aP C)];exact hs.dB x m) (λx m a=> ?_) hs.gone (λx y d a Y=> ?_) (λx d a=> ?_)⟩
 .by_cases t:x=new
  .subst t;rw [aC] at a;cases a;exact .inr ⟨⟨v,G,iT hs G⟩,S⟩
  .rw [aq _ _ t] at a;by_cases E:x=i
   .subst E;rw [aC] at a;cases a;right;rw [F];refine cO.DZ (hs.ae x _ z) V (some (bb,xs)) (λd q=>(le.A d q).1) rfl (λm=>rfl) (p x t (aP C).symm) (λm hm=>p _ (aP hrl) ?_) ?_
    .intro h;simp only [Id.g.injEq,true_and] at h;exact hm (h.trans r.symm)
    .simp only;intro v' D;rw [r,X] at D;cases D;refine cF.mono (λd q=>le.A d q) (λd q=>⟨?_,rfl⟩) Z;simp only [NA,if_false] at q;rw [r,U];exact q
   .rw [aq _ _ E] at a;have K:=hs.real (i:=x) (by rw [a];simp);refine .inl ⟨a,p x t (aP K).symm,λ_ _=>rfl,λm=>⟨rfl,p _ (aP hrl) ?_,λ_ _=>rfl⟩⟩;intro h;simp only [Id.g.injEq] at h;exact E h.1
 .have f:x≠new:=λe=>by rw [e,aC] at a;cases a
  rw [aq _ _ f] at a;have j:x≠i:=λe=>by rw [e,aC] at a;cases a
  rw [aq _ _ j] at a;rw [p x f (aP J).symm];exact hs.ct x J a
 .have f:x≠new:=λe=>by rw [e,aC] at a;cases a
  rw [aq _ _ f] at a;have j:x≠i:=λe=>by rw [e,aC] at a;cases a
  rw [aq _ _ j] at a;rw [p _ (aP hrl) (by intro h;simp only [Id.g.injEq] at h;exact j h.1)];exact hs.eQ x m a
 .rcases o x d a with⟨f,j⟩ | ⟨f,j,I⟩ <;> rcases o y d Y with⟨H,L⟩ | ⟨H,L,M⟩
  .rw [f,H]
  .exact(H (hs.inj _ _ d M j)).elim
  .exact(f (hs.inj _ _ d I L)).elim
  .exact hs.inj x y d I M
 .rcases o x d a with⟨_,h⟩ | ⟨_,_,h⟩
  .exact hs.lt _ d h
  .exact hs.lt _ d h
theorem rM:∀{args:List AV} {bh:List Value} {d:List AV} {i:Id} {n:Nat} {e:List AV},az w A ρ args bh->gw args=some (d,i,n,e)->
  ∃v,ρ (.g i n)=some v/\∀(ρ':Id->Option Value) (new:Id),(∀x u,ρ x=some u->ρ' x=some u)->(∀b,A b->A' b)->ρ' new=some v->az w A' ρ' (d++ .own new::e) bh
 | [],_,_,_,_,_,_,h=>by simp [gw] at h
 | a::args,bh,d,i,n,e,p,h=>by
  simp only [az] at p;obtain⟨u,r,rfl,k,o⟩:=p
  have j:(gw args).bind (λq=>some (a::q.1,q.2.1,q.2.2.1,q.2.2.2))=some (d,i,n,e)->
    ∃v,ρ (.g i n)=some v/\∀(ρ':Id->Option Value) (new:Id),(∀x u,ρ x=some u->ρ' x=some u)->(∀b,A b->A' b)->ρ' new=some v->az w A' ρ' (d++ .own new::e) (u::r):=by
   intro h;obtain⟨⟨D,i',C,E⟩,t,h⟩:=M2.1 h;simp only [M1,NL] at h;obtain⟨rfl,rfl,rfl,rfl⟩:=h;obtain⟨v,y,z⟩:=rM o t;refine⟨v,y,λρ' new hm f m=> ?_⟩;simp only [NR,az];exact⟨u,r,rfl,ai.mono (λb l=>⟨f b l,rfl⟩) hm _ _ k,z ρ' new hm f m⟩
  cases a
  case row i' C=>simp only [gw,M1,NL] at h;obtain⟨rfl,rfl,rfl,rfl⟩:=h;simp only [ai] at k;refine⟨u,k,λρ' new hm f m=> ?_⟩;simp only [Ow,az];exact⟨u,r,rfl,by simp only [ai];exact m,az.mono (λb l=>⟨f b l,rfl⟩) hm _ _ o⟩
  all_goals exact j h
theorem FE{R:Type}{An:cx}{Or:ax}(Y:ic P An Or){fO:Bool}{d:Nat}{f:FuncId}{args:List AV}{bh:List Value}{K:AV->aE->Option R}{r:R}(hc:cc=none\/cc=some true)(hs:HS c w s.h ρ O)(T:az w (AA c w O) ρ args bh)
  (a:im fO P An Or s d cc f args K=some r):
  ∃v us fn l,K v us=some r/\P.funcs[f]? =some fn/\fn.body=some l/\fn.name≠ "runtime.NumGoroutine" /\
   (gq d s.h us=true->Calls P f bh.toArray w λe w'=>∃x,e= .returned x/\∃ρ' O',Le w ρ O w' ρ' O'/\HS c w' (aJ s.h us) ρ' O'/\ai w' (AA c w' O') ρ' v x):=by
 unfold im at a;split at a
 .exact y7 Y hc hs T a
 .rename_i l1 i n l2 o;have o:gw args=some (l1,i,n,l2):=by
   cases fO with
   | true=>exact o
   | false=>cases o
  split at a
  .rename_i b sz col rsz nx es S;replace a:=aM a (.inl rfl);obtain⟨p,hp,a⟩:=a;cases m:s.h (.s (2500000+d) 0) with
   | some x=>rw [m] at a;simp at a
   | none=>
    rw [m] at a;simp only [PZ,cond_true] at a;obtain⟨U,E,hargs⟩:=rM (A':=AA c w O) T o;obtain⟨V,cq,hs1⟩:=hs.fO (new:= .s (2500000+d) 0) S hp E m rfl;have z:az w (AA c w V) (aH ρ (.s (2500000+d) 0) (some U)) (l1++ .own (.s (2500000+d) 0)::l2) bh:=by obtain⟨v1,z,D⟩:=rM (A':=AA c w V) T o;rw [E] at z;cases z;exact D _ _ cq.dU (λb Q=>(cq.A b Q).1) (aC _ _ _)
    obtain⟨v,us,fn,l,a,hfn,H,M,I⟩:=y7 (s:=⟨s.t,_⟩) Y (cc:=none) (.inl rfl) hs1 z a;unfold qq at a;split at a
    .rename_i b2 sz2 col2 rsz2 nx2 es2 G b3 xs3 W X;split at a
     .rename_i J;obtain⟨rfl,rfl⟩:=J;replace a:=aM a (.inl rfl);obtain⟨u,hu,a⟩:=a;refine⟨v,_,fn,l,a,hfn,H,M,λL=> ?_⟩;have hfr:gq d (aH (aH s.h i (some (.rows b sz col G nx (cR n none es)))) (.s (2500000+d) 0) (some (.sl false G p.1 p.2))) us=true:=by
       refine Nt.2 λq o=> ?_;have:=Nt.1 L q (Nn _ (Nl _ o));obtain⟨x,y⟩:=q;cases x with
       | s C k=>
        simp only at this⊢;by_cases Z:C=d
        .subst Z;have hn:s.h (.s C k)=none:=by simpa using this
         have h1:Id.s C k≠ .s (2500000+C) 0:=by intro h;simp only [Id.s.injEq] at h;omega
         have h2:Id.s C k≠i:=λh=>by rw [<-h,hn] at S;cases S
         rw [aq _ _ h1,aq _ _ h2,hn];simp
        .simp [Z]
       | c k=>rfl
       | g j k=>exact this
      refine(I hfr).mono ?_;rintro e w' ⟨x,rfl,ρ',O',F,hs2,hx⟩;have hw:ρ' (.s (2500000+d) 0)=some U:=F.dU _ _ (aC _ _ _);have hv2:ρ' (.g i n)=some U:=F.dU _ _ (cq.dU _ _ E);rw [jY,cJ,dr] at W X;obtain⟨O3,N,hs3⟩:=hs2.back W hu X hv2 hw;refine⟨x,rfl,ρ',O3,cq.trans (F.trans N), ?_,ai.mono (λb Q=>N.A b Q) (λ_ _ h=>h) _ _ hx⟩;rw [jY,jY,cJ,dr,cJ,dr];exact hs3
     .simp at a
    .simp at a
  .simp at a
end
open Go
section
variable {P:Program} {An:cx} {Or:ax} {w w':World} {A A':Nat->Prop} {c:Ctx} {ρ:Id->Option Value} {O:Id->Option Nat} {s:St} {cc:Option Bool} {h:Id->Option ab}
def Good(P:Program)(c:Ctx)(w:World)(s:St)(ρ:Id->Option Value)(O:Id->Option Nat)(o:Oper)(a:Act)(v:AV)(us:aE):Prop:=
 gF P o a w λx w'=>∃ρ' O',Le w ρ O w' ρ' O'/\HS c w' (aJ s.h us) ρ' O'/\ai w' (AA c w' O') ρ' v x
theorem Good.pure{o:Oper}{a:Act}{v:AV}{x:Value}(hs:HS c w s.h ρ O)(b:(execOp a.eval o).run P w= .ok (.value x) w)(d:ai w (AA c w O) ρ v x):Good P c w s ρ O o a v []:=by unfold Good gF;rw [b];exact⟨ρ,O,Le.refl,hs,d⟩
theorem Good.val{o:Oper}{a:Act}{v:AV}{us:aE}{x:Value}{ρ':Id->Option Value}{O':Id->Option Nat}(b:(execOp a.eval o).run P w= .ok (.value x) w')(le:Le w ρ O w' ρ' O')(hs:HS c w' (aJ s.h us) ρ' O')(d:ai w' (AA c w' O') ρ' v x):Good P c w s ρ O o a v us:=by unfold Good gF;rw [b];exact⟨ρ',O',le,hs,d⟩
theorem pc{a:Act}{g:Option Gs}(d:SS w A ρ s.t a.tmps)(b:jc a.tmps g):∀(xs:List Operand),az w A ρ (xs.map (s.get g)) (xs.map a.eval)
 | []=>by simp [az]
 | x::xs=>by simp only [NH,az];exact⟨_,_,rfl,SS.get (h:=s.h) d b x,pc d b xs⟩
theorem HH{op:BinOp}(h:op≠ .eql/\op≠ .neq){t:TypeId}{x y:Operand}{a b:Value}:(eqGuard op t x y a b).run P w= .ok () w:=by cases op <;> simp_all [eqGuard]
set_option maxHeartbeats 2000000 in
theorem cF.EA{sz:Nat}{b:Bool}{xs:List (List T)}{v:Value}{Q:Nat->Prop}(h:cF w A sz b xs v Q)(m:∀d,Q d->A d):ay w A (.ad sz b xs) v:=by
 obtain⟨a,cap,rfl,f,g,_,i⟩:=h;simp only [ay];cases a with
 | none=>
  rcases i with rfl | ⟨_,_,_,_,e,_⟩
  .have:xs= []:=Ny.1 (by omega);subst this;exact .inl ⟨g.1 rfl,rfl,rfl⟩
  .cases e
 | some a=>
  have j:b=false:=by
   cases b with
   | false=>rfl
   | true=>have:=g.2 rfl;cases this
  obtain⟨ae,off,sp⟩:=a;right;rcases i with rfl | ⟨blk',off',arr,t,e,k,n,o,l⟩
  .have:xs= []:=Ny.1 (by omega);subst this;exact⟨j,ae,off,sp,0,rfl,f, .inl rfl,by simp [bd]⟩
  .cases e;exact⟨j,ae,off,none,cap,rfl,f, .inr ⟨rfl,m _ k⟩,l⟩
theorem yD:∀{vs:List AV} {l:List T},dK vs=some l->l.length=vs.length
 | [],l,h=>by simp only [dK,M1] at h;subst h;rfl
 | v::r,l,h=>by cases v <;> simp only [dK,reduceCtorEq] at h;obtain⟨q,a,h⟩:=M2.1 h;simp only [M1] at h;subst h;simp [yD a]
theorem Dv:∀{vs:List AV} {b:List AV} {i:Id} {n:Nat} {d:List AV},gw vs=some (b,i,n,d)->vs=b++ .row i n::d
 | [],_,_,_,_,h=>by simp [gw] at h
 | v::r,b,i,n,d,h=>by
  unfold gw at h;split at h
  .cases h
  .rename_i i' g f a;simp only [Oa] at a;obtain⟨rfl,rfl⟩:=a;simp only [M1,NL] at h;obtain⟨rfl,rfl,rfl,rfl⟩:=h;rfl
  .rename_i o f _ a;simp only [Oa] at a;obtain⟨rfl,rfl⟩:=a;obtain⟨q,e,h⟩:=M2.1 h;obtain⟨j,k,l,m⟩:=q;simp only [M1,NL] at h;obtain⟨rfl,rfl,rfl,rfl⟩:=h;rw [Dv e];rfl
theorem az.swap{A:Nat->Prop}{x y:AV}(h:∀u,ai w A ρ x u->ai w A ρ y u):∀{g b:List AV} {vs:List Value},az w A ρ (g++x::b) vs->az w A ρ (g++y::b) vs
 | [],b,vs,a=>by simp only [Ow,az] at a⊢;obtain⟨u,r,e,d,f⟩:=a;exact⟨u,r,e,h u d,f⟩
 | z::g,b,vs,a=>by simp only [NR,az] at a⊢;obtain⟨u,r,e,d,f⟩:=a;exact⟨u,r,e,d,az.swap h f⟩
theorem Ky{R:Type}{e:TypeId}{d:Nat}{cc:Option Bool}{v:AV}{u:Value}{K:AV->aE->Option R}{r:R}(hs:HS c w s.h ρ O)(Y:ai w (AA c w O) ρ v u)(h:lP P s e d cc v K=some r):
  ∃J us,K J us=some r/\cc=none/\u.cells.size=P.cellsOf e/\(P.cellsOf e<=1000/\0 < P.cellsOf e/\(gz P e).isSome=true)/\
   (gq d s.h us=true->∃ρ' O',Le w ρ O (w.alloc (.cells u.cells.toList.toArray e)) ρ' O'/\HS c (w.alloc (.cells u.cells.toList.toArray e)) (aJ s.h us) ρ' O'/\
    ai (w.alloc (.cells u.cells.toList.toArray e)) (AA c (w.alloc (.cells u.cells.toList.toArray e)) O') ρ' J (.slice (some ⟨w.heap.size,0,none⟩) 1 1)):=by
 unfold lP at h;split at h
 .rename_i vs;split at h
  .rename_i l1 i n l2 j;split at h
   .rename_i b sz col rsz I es E;replace h:=aM h (.inl rfl);obtain⟨p,hf,h⟩:=h;obtain⟨l,hl,h⟩:=M2.1 h;split at h
    .rename_i a;obtain⟨F,a⟩:=a;simp only [ai] at Y;obtain⟨C,rfl,m,hone⟩:=Y;obtain⟨v,D,_⟩:=rM (A':=AA c w O) m j;have hws:C.length=l.length:=by
      have N:=m.length;have h2:=yD hl;rw [Dv j] at N;simp only [N6,Nf] at N h2;omega
     refine⟨_,_,h,rfl,by simp [Value.cells];omega,a,λf=> ?_⟩;have hX:s.h (.s d 1)=none:=gP f (M4 _ M3);have Q:s.h (.s d 0)=none:=gP f (M4 _ (M4 _ M3));obtain⟨O1,cq,X⟩:=hs.fO E hf D hX rfl;obtain⟨L,Z,k,_,_,_⟩:=X.nR (us:= [(.s d 1, .sl true rsz p.1 p.2)]) (λq g=>by
      rw [Ng.1 g];exact .inl ⟨rsz,p.1,p.2,rfl, .inl (aC _ _ _)⟩)
     rw [dr] at k;have z:=cq.trans Z;obtain⟨J,r1,r2,_⟩:=k.ae (.s d 1) _ (aC _ _ _);rw [aC] at r1;cases r1;have hT:ay w (AA c w L) (.ad rsz p.1 p.2) v:=cF.EA r2 λd g=>by simpa using g
     obtain⟨v2,o,G⟩:=rM (A':=AA c w L) m j;rw [D] at o;cases o;have V:=G (aH ρ (.s d 1) (some v)) (.s d 1) z.dU (λb hb=>(z.A b hb).1) (aC _ _ _);have W:=az.swap (y:= .t (.ad rsz p.1 p.2)) (λu H=>by
      simp only [ai] at H⊢;rw [aC] at H;cases H;exact hT) V
     have S:=aR.jo hl W;have U:Id.s d 0≠i:=λe=>by rw [<-e,Q] at E;cases E
     have T:aH (aH (aH s.h i (some (.rows b sz col rsz I (cR n none es)))) (.s d 1) (some (.sl false rsz p.1 p.2))) (.s d 1) (some (.sl true rsz p.1 p.2)) (.s d 0)=none:=by rw [aq _ _ (by intro e;injection e with _ e;cases e),aq _ _ (by intro e;injection e with _ e;cases e),aq _ _ U];exact Q
     obtain⟨k1,k2⟩:=k.tK (i:= .s d 0) (sz:=P.cellsOf e) (xs:= [l]) (vss:= [C]) T e C.toArray 1 ⟨C,[],rfl,F,S,rfl⟩ (λq v g=>by simpa using g) (by simp) (by simp;omega);refine⟨_,_,z.trans k1, ?_,by simp [ai]⟩;have e3:aJ s.h [(i, .rows b sz col rsz I (cR n none es)),(.s d 1, .sl true rsz p.1 p.2),(.s d 0, .sl false (P.cellsOf e) false [l])]=aH (aH (aH (aH s.h i (some (.rows b sz col rsz I (cR n none es)))) (.s d 1) (some (.sl false rsz p.1 p.2))) (.s d 1) (some (.sl true rsz p.1 p.2))) (.s d 0) (some (.sl false (P.cellsOf e) false [l])):=by
      rw [cJ,cJ,dr];funext x;unfold aH;by_cases M:x= .s d 0
      .simp [M]
      .by_cases c2:x= .s d 1 <;> simp [M,c2]
     rw [e3];exact k2
    .cases h
   .cases h
  .cases h
 .cases h
theorem HR{v:AV}{u:Value}{A:Nat->Prop}(h:ai w A ρ v u):ai w A ρ (ku v) u:=by
 unfold ku;split
 .simp only [ai,ay] at h⊢;subst h;exact⟨[],[],rfl,by simp [az],by simp [az]⟩
 .exact h
theorem yJ(hO:ic P An Or){o:Oper}{a:Act}{g:Option Gs}{v:AV}{us:aE}(hs:HS c w s.h ρ O)(ht:SS w (AA c w O) ρ s.t a.tmps)(hr:jc a.tmps g)(j:cG P An Or g o s=some (v,us))(Q:gq (o.dst.getD 0) s.h us=true):
  Good P c w s ρ O o a v us:=by
 have I:=hr.cond;have ev:∀x,ai w (AA c w O) ρ (s.get g x) (a.eval x):=λx=>SS.get (h:=s.h) ht hr x;have tt:∀x y,(s.get g x).t? =some y->ay w (AA c w O) y (a.eval x):=by intro x y e;have:=ev x;rw [AV.jV e] at this;simpa [ai] using this
 have D:∀{v':AV} {X:aE},some (v',X)=some (v,us)->v'=v/\X=us:=by intro v' X e;simpa using e
 unfold cG gK at j;cases E:o.op <;> rw [E] at j <;> dsimp only at j
 case move x=>obtain⟨rfl,rfl⟩:=D j;exact Good.pure hs (by simp [execOp,E]) (ev x)
 case assign x=>obtain⟨rfl,rfl⟩:=D j;exact Good.pure hs (by simp [execOp,E]) (ev x)
 case pick k x y=>
  replace j:=M2.1 j;obtain⟨k',hk',j⟩:=j;have hkv:=tt k k' hk';replace j:=aM j I;obtain⟨kb,hkb,j⟩:=j;have:=T.gL hkb;subst this;simp only [ay] at hkv;replace j:=M2.1 j;obtain⟨tx,htx,j⟩:=j;replace j:=nT j;obtain⟨xb,j,hxb⟩:=j;replace j:=M2.1 j;obtain⟨ty,hty,j⟩:=j;replace j:=nT j;obtain⟨yb,j,hyb⟩:=j;obtain⟨rfl,rfl⟩:=D j;have hg:∀b,tm (g.map (·.c)) b=some b:=by intro b;unfold tm;rcases I with e | e <;> rw [e] <;> rfl
  refine Good.pure (x:= .bool (cond kb xb yb)) hs ?_ (by simp [ai,ay]);simp only [execOp,E,hkv];cases kb with
  | true=>
   have arm:=SS.kx (h:=s.h) ht hr k x true hkv;rw [AV.jV htx] at arm;rcases hxb with e | ⟨_,e⟩
   .have:=T.gL e;subst this;simp only [ai,ay] at arm;simp [asBool,arm]
   .rw [hg] at e;cases e
  | false=>
   have arm:=SS.kx (h:=s.h) ht hr k y false hkv;rw [AV.jV hty] at arm;rcases hyb with e | ⟨_,e⟩
   .have:=T.gL e;subst this;simp only [ai,ay] at arm;simp [asBool,arm]
   .rw [hg] at e;cases e
 case alloc t=>
  cases G:g.map (·.c) with
  | some b=>simp [G] at j
  | none=>simp only [G] at j;replace j:=M2.1 j;obtain⟨l,hl,j⟩:=j;obtain⟨rfl,rfl⟩:=D j;obtain⟨i,z,Z,hz,hof⟩:=lW hl;have hzr:aR w (AA c w O) l z.cells.toList:=mJ hof;obtain⟨R,U⟩:=hs.CD (i:= .s (o.dst.getD 0) 0) (gP Q (Ng.2 rfl)) t (az.jM (ρ:=ρ) hzr) hzr.one;refine Good.val (x:= .pointer (some ⟨w.heap.size,0,none⟩)) (w':=w.alloc (.cells z.cells.toList.toArray t)) ?_ R (by rw [dr];exact U) (by simp [ai]);simp [execOp,E,Instr.alloc,zeroValue,typeInfo,Z,hz,newVar,DP]
 case box t x=>
  cases G:g.map (·.c) with
  | some b=>simp [G] at j
  | none=>
   simp only [G] at j;split at j
   .rename_i hcell;obtain⟨rfl,rfl⟩:=D j;obtain⟨R,U⟩:=sI hs (ev x) hcell;obtain⟨k1,k2⟩:=hs.CD (i:= .s (o.dst.getD 0) 0) (gP Q (Ng.2 rfl)) t R U;refine Good.val (x:= .pointer (some ⟨w.heap.size,0,none⟩)) (w':=w.alloc (.cells (a.eval x).cells.toList.toArray t)) ?_ k1 (by rw [dr];exact k2) (by simp [ai]);simp [execOp,E,Instr.box,newVar,DP]
   .simp at j
 case build t ps=>replace j:=M2.1 j;obtain⟨v',N,j⟩:=j;obtain⟨rfl,rfl⟩:=D j;obtain⟨x,J,K⟩:=Fs hs ht hr N;exact Good.pure hs (by simp only [execOp,E,Nv,J,Ni,NJ]) K
 case buildSlice t n ps=>
  replace j:=M2.1 j;obtain⟨e,he,j⟩:=j;obtain⟨hu,hok⟩:=sX he;split at j
  .split at j
   .rename_i x G hps;split at j
    .rename_i hcond;obtain⟨⟨hl,hall⟩,hn2,hpos,hz⟩:=hcond;obtain⟨rfl,rfl⟩:=D j;obtain⟨R,U⟩:=sI hs (ev x) hall;have hsz:(a.eval x).cells.size=P.cellsOf e:=by rw [<-hl,<-NB];exact R.length
     have C:=uo (n:=1) (w:=w) hu hok hz hpos ⟨by omega,hn2⟩ [a.eval x] (by simpa using hsz) (by simp) (ps.map λ(i,x)=>(i,a.eval x)) (by simp [PJ,hps]);have Z:s.h (.s (o.dst.getD 0) 0)=none:=gP Q M3;obtain⟨k1,k2⟩:=hs.JO Z (cs:=fE _) (arr:=([a.eval x].flatMap λv=>v.cells.toList).toArray) e (by simpa using R) (by simpa using U);refine Good.val (x:= .slice (some ⟨w.heap.size,0,none⟩) 1 1) (by simp only [execOp,E,Nv,C,Ni,NJ]) k1 (by rw [dr];exact k2) ?_;simp [ai]
    .simp at j
   .simp at j
  split at j
  .split at j
   .rename_i x hps;obtain⟨v',X,e1,G,hsz,⟨hn2,hpos,hz⟩,hg⟩:=Ky hs (ev x) j;obtain⟨rfl,rfl⟩:=D e1;have C:=uo (n:=1) (w:=w) hu hok hz hpos ⟨by omega,hn2⟩ [a.eval x] (by simpa using hsz) (by simp) (ps.map λ(i,x)=>(i,a.eval x)) (by simp [PJ,hps]);obtain⟨ρ',O',k1,k2,k3⟩:=hg Q;have ea:([a.eval x].flatMap λv=>v.cells.toList).toArray= (a.eval x).cells.toList.toArray:=by simp
    rw [ea] at C;exact Good.val (x:= .slice (some ⟨w.heap.size,0,none⟩) 1 1) (by simp only [execOp,E,Nv,C,Ni,NJ]) k1 k2 k3
   .simp at j
  split at j
  .rename_i hcond;obtain⟨hn,hn1,hn2,hpos,hz⟩:=hcond;split at j
   .rename_i h0;obtain⟨h00,_⟩:=h0;obtain⟨rfl,rfl⟩:=D j;have hps:ps.toList= []:=Ny.1 (by rw [NB];omega);have C:=uo (w:=w) hu hok hz hpos ⟨hn1,hn2⟩ [] (by simp) (by simp [h00]) (ps.map λ(i,x)=>(i,a.eval x)) (by simp [PJ,hps]);have exec:(execOp a.eval o).run P w= .ok (.value (.slice (some ⟨w.heap.size,0,none⟩) n n)) (w.alloc (.cells (([]:List Value).flatMap λv=>v.cells.toList).toArray e)):=by
     simp only [execOp,E,Nv,C,Ni,NJ]
    have lew:Le w ρ O (w.alloc (.cells (([]:List Value).flatMap λv=>v.cells.toList).toArray e)) ρ O:=⟨rfl,rfl,rfl,by simp,λ_ _ h=>h,λb V _=>NN _ _ _ V,λi b h=> .inl ⟨i,h⟩⟩;have hs2:=hs.world lew λi ae Z=>NN _ _ _ (hs.lt i ae Z);refine Good.val exec lew hs2 ?_;simp only [ai,ay];exact .inr ⟨trivial,_,_,_,by rw [h00]⟩
   replace j:=M2.1 j;obtain⟨q,hq,j⟩:=j;obtain⟨hfz,hlen⟩:=AS hq;obtain⟨O1,cq,hs1,hO1,hf1,hkeep⟩:=hs.nR hfz;obtain⟨vs,e1,S,e3⟩:=AT hs ht hr cq hO1 hq hf1;have hvl:vs.length=n:=by have:=congrArg List.length e1;simp only [N3,List.length_zipIdx] at this;rw [<-this,NB,hn]
   have C:=uo (w:=w) hu hok hz hpos ⟨hn1,hn2⟩ vs e3 hvl (ps.map λ(i,x)=>(i,a.eval x)) (by simp only [PJ];exact e1);have hq1:q.1.length=n:=by have:=S.length.1;simp only [N3] at this;omega
   have fl:(vs.map λv=>v.cells.toList).flatten=vs.flatMap λv=>v.cells.toList:=rfl;have exec:(execOp a.eval o).run P w= .ok (.value (.slice (some ⟨w.heap.size,0,none⟩) n n)) (w.alloc (.cells (vs.flatMap λv=>v.cells.toList).toArray e)):=by simp only [execOp,E,Nv,C,Ni,NJ]
   cases G:g.map (·.c) with
   | some b=>
    simp only [G] at j;obtain⟨rfl,rfl⟩:=D j;have lew:Le w ρ O1 (w.alloc (.cells (vs.flatMap λv=>v.cells.toList).toArray e)) ρ O1:=⟨rfl,rfl,rfl,by simp,λ_ _ h=>h,λb V _=>NN _ _ _ V,λi b h=> .inl ⟨i,h⟩⟩;have hs2:=hs1.world lew λi ae Z=>NN _ _ _ (hs1.lt i ae Z);refine Good.val exec (cq.trans lew) hs2 ?_;simp only [ai,ay];right;refine⟨trivial,w.heap.size,0,none,n,by rw [hq1],by omega, ?_, ?_⟩
    .right;refine⟨rfl, ?_⟩;refine⟨.inr (.inr hs.size),by simp,λi Z=>Oz _ (hs1.lt i _ Z)⟩
    .refine bd.jq (cu.mono (λb V=>lew.A b V) S) (λp v hp=> ?_);rw [je (jh _),NF,<-fl];simpa using hp
   | none=>
    simp only [G] at j;obtain⟨rfl,rfl⟩:=D j;have Z:s.h (.s (o.dst.getD 0) 0)=none:=gP Q M3;have hi1:aJ s.h q.2 (.s (o.dst.getD 0) 0)=none:=by
     rw [de (λp hp e=> ?_)]
     .exact Z
     .have K:=hfz p hp;rw [e,Z] at K;rcases K with⟨sz,b,l,_,K⟩ | ⟨l,_,K⟩ <;> simp at K
    obtain⟨k1,k2⟩:=hs1.tK (sz:=P.cellsOf e) hi1 e (vs.flatMap λv=>v.cells.toList).toArray n S (λp v hp=>by rw [<-fl];simpa using hp) (by omega) (by
     have:=S.length.2;simp only [Oo];rw [<-fl,this,hq1];exact Ns _)
    rw [hq1] at k1 k2;refine Good.val exec (cq.trans k1) ?_ ?_
    .rw [cJ];have:aJ (aH s.h (.s (o.dst.getD 0) 0) (some (.sl false (P.cellsOf e) false q.1))) q.2=aH (aJ s.h q.2) (.s (o.dst.getD 0) 0) (some (.sl false (P.cellsOf e) false q.1)):=by
      refine rX (λp hp e=> ?_);have K:=hfz p hp;rw [e,Z] at K;rcases K with⟨sz,b,l,_,K⟩ | ⟨l,_,K⟩ <;> simp at K
     rw [this];exact k2
    .simp [ai]
  .simp at j
 case load t x=>obtain⟨av,y,e,C,F⟩:=Ce hs (ev x) I j;obtain⟨rfl,rfl⟩:=D e;exact Good.pure (x:=y) hs (by simp only [execOp,E,Nv,C,Ni,NJ]) F
 case store t x y=>
  cases G:g.map (·.c) with
  | some b=>simp [G] at j
  | none=>simp only [G] at j;obtain⟨X,w',ρ',O',e,C,le,W⟩:=Mp hs (ev x) (ev y) j;obtain⟨rfl,rfl⟩:=D e;unfold Good gF;simp only [execOp,E,Nv,C,Ni,NJ];exact⟨ρ',O',le,W,by simp [ai]⟩
 case nilCheck x=>
  have F:=ev x;split at j
  .rename_i i k e;obtain⟨rfl,rfl⟩:=D j;rw [e] at F;have N:=F;simp only [ai] at N;obtain⟨b,_,S⟩:=N;exact Good.pure hs (by simp [execOp,E,S]) F
  .rename_i i sz k off e;obtain⟨rfl,rfl⟩:=D j;rw [e] at F;have N:=F;simp only [ai] at N;obtain⟨b,o',L,cap,_,S⟩:=N;exact Good.pure hs (by simp [execOp,E,S]) F
  .rename_i i sz n k off e;obtain⟨rfl,rfl⟩:=D j;rw [e] at F;have N:=F;simp only [ai] at N;obtain⟨b,o',L,cap,_,S⟩:=N;exact Good.pure hs (by simp [execOp,E,S]) F
  .rename_i y e;replace j:=aM j I;obtain⟨cs,hcs,j⟩:=j;obtain⟨rfl,rfl⟩:=D j;have:=T.tV hcs;subst this;rw [e] at F;have N:=F;simp only [ai,ay] at N;obtain⟨b,o',S,_⟩:=N;exact Good.pure hs (by simp [execOp,E,S]) F
  .rename_i f x' y' e;obtain⟨rfl,rfl⟩:=D j;rw [e] at F;have N:=F;simp only [ai] at N;obtain⟨_,_,S,_⟩:=N;exact Good.pure hs (by simp [execOp,E,S]) F
  .simp at j
 case binOp op t x y ty=>
  have nilx:∀b,mH P t y=true->iv P s t (s.get g x)=some b->_:=λb J K=>BK (P:=P) hs (ev x) K y J a x y;have nily:∀b,mH P t x=true->iv P s t (s.get g y)=some b->_:=λb J K=>BK (P:=P) hs (ev y) K x J a x y;have go:∀(z:Value),(eqGuard op t x y (a.eval x) (a.eval y)).run P w= .ok () w->(binOp op t (a.eval x) (a.eval y)).run P w= .ok z w->(execOp a.eval o).run P w= .ok (.value z) w:=by intro z J K;simp only [execOp,E,Nv,J,K,Ni,NJ]
  split at j
  .rename_i J;replace j:=M2.1 j;obtain⟨b,V,j⟩:=j;obtain⟨rfl,rfl⟩:=D j;obtain⟨R,U⟩:=(nilx b J V).1;exact Good.pure hs (go _ R U) (by simp [ai,ay])
  .rename_i J;replace j:=M2.1 j;obtain⟨b,V,j⟩:=j;obtain⟨rfl,rfl⟩:=D j;obtain⟨R,U⟩:=(nilx b J V).2.1;exact Good.pure hs (go _ R U) (by simp [ai,ay])
  .rename_i J _;replace j:=M2.1 j;obtain⟨b,V,j⟩:=j;obtain⟨rfl,rfl⟩:=D j;obtain⟨R,U⟩:=(nily b J V).2.2.1;exact Good.pure hs (go _ R U) (by simp [ai,ay])
  .rename_i J _;replace j:=M2.1 j;obtain⟨b,V,j⟩:=j;obtain⟨rfl,rfl⟩:=D j;obtain⟨R,U⟩:=(nily b J V).2.2.2;exact Good.pure hs (go _ R U) (by simp [ai,ay])
  .obtain⟨b,e,⟨R,U⟩,_⟩:=AZ (P:=P) I (ev x) (ev y) j x y;obtain⟨rfl,rfl⟩:=D e;exact Good.pure hs (go _ R U) (by simp [ai,ay])
  .obtain⟨b,e,_,⟨R,U⟩⟩:=AZ (P:=P) I (ev x) (ev y) j x y;obtain⟨rfl,rfl⟩:=D e;exact Good.pure hs (go _ R U) (by simp [ai,ay])
  .replace j:=M2.1 j;obtain⟨x',hx',j⟩:=j;replace j:=M2.1 j;obtain⟨y',hy',j⟩:=j;obtain⟨hne,z,vz,e,F,C⟩:=Fm (P:=P) I (tt x x' hx') (tt y y' hy') j;obtain⟨rfl,rfl⟩:=D e;exact Good.pure hs (go _ (HH hne) C) (by simpa [ai] using F _ _)
 case unOp op t x=>replace j:=M2.1 j;obtain⟨x',hx',j⟩:=j;obtain⟨z,y,e,F,C⟩:=MH (P:=P) I (tt x x' hx') j;obtain⟨rfl,rfl⟩:=D e;exact Good.pure (x:=y) hs (by simp only [execOp,E,Nv,C,Ni,NJ]) (by simpa [ai] using F _ _)
 case convert src dst x=>
  split at j
  .rename_i e hu hu';split at j
   .rename_i he;unfold po at he;split at he
    .rename_i k he';simp only [M1] at he;subst he;replace j:=M2.1 j;obtain⟨y,hy,j⟩:=j;replace j:=aM j I;obtain⟨l,hl,j⟩:=j;replace hl:=M2.1 hl;obtain⟨p,hp,hl⟩:=hl;obtain⟨rfl,rfl⟩:=D j;have C:=Fv hs hu hu' he' (ev x) hy hp hl;exact Good.pure (x:= .string ⟨l.toArray⟩) hs (by simp only [execOp,E,Nv,C,Ni,NJ]) (by simp [ai,ay])
    .simp at he
   .simp at j
  .replace j:=M2.1 j;obtain⟨x',hx',j⟩:=j;obtain⟨z,y,e,C,F⟩:=FK I (tt x x' hx') j;obtain⟨rfl,rfl⟩:=D e;exact Good.pure (x:=y) hs (by simp only [execOp,E,Nv,C,Ni,NJ]) (by simpa [ai] using F)
 case makeFunc fn fst caps=>
  cases fn with
  | func f=>dsimp only at j;obtain⟨rfl,rfl⟩:=D j;refine Good.pure (x:= .func (.func f) (fst.map a.eval) (caps.map a.eval)) hs (by simp only [execOp,E,Instr.makeFunc,Nv,NJ,Ni]) ?_;simp only [ai];refine⟨fst.toList.map a.eval,caps.toList.map a.eval, ?_,pc ht hr _,pc ht hr _⟩;rw [show(fst.toList.map a.eval).toArray=fst.map a.eval from OL (by simp),show(caps.toList.map a.eval).toArray=caps.map a.eval from OL (by simp)]
  | _=>simp at j
 case makeSlice t l m=>
  cases G:g.map (·.c) with
  | some b=>simp [G] at j
  | none=>simp only [G] at j;replace j:=M2.1 j;obtain⟨n,hn,j⟩:=j;replace j:=M2.1 j;obtain⟨k,hk',j⟩:=j;obtain⟨v',X,e,hg⟩:=IN (vn:=a.eval l) (vm:=a.eval m) hs (by simpa [ai] using tt l n hn) (by simpa [ai] using tt m k hk') j;obtain⟨rfl,rfl⟩:=D e;obtain⟨u,w',ρ',O',C,le,W,F⟩:=hg Q;exact Good.val (x:=u) (by simp only [execOp,E,Nv,C,Ni,NJ]) le W F
 case makeMap t m=>
  cases G:g.map (·.c) with
  | some b=>simp [G] at j
  | none=>
   cases m with
   | some m=>simp [G] at j
   | none=>simp only [G] at j;obtain⟨v',X,e,hg⟩:=IQ hs j;obtain⟨rfl,rfl⟩:=D e;obtain⟨u,w',ρ',O',C,le,W,F⟩:=hg Q;exact Good.val (x:=u) (by simp only [execOp,E,PT,Nv,C,Ni,NJ]) le W F
 case lookup t x k ok=>obtain⟨av,y,e,C,F⟩:=IK hs (ev x) (ev k) I j;obtain⟨rfl,rfl⟩:=D e;exact Good.pure (x:=y) hs (by simp only [execOp,E,Nv,C,Ni,NJ]) F
 case mapUpdate t x k v'=>
  cases G:g.map (·.c) with
  | some b=>simp [G] at j
  | none=>simp only [G] at j;obtain⟨X,w',e,C,le,W⟩:=Km hs (ev x) (ev k) (ev v') j;obtain⟨rfl,rfl⟩:=D e;unfold Good gF;simp only [execOp,E,Nv,C,Ni,NJ];exact⟨ρ,O,le,W,by simp [ai]⟩
 case slice t x lo Z mx=>obtain⟨blo,j,J⟩:=ve ht hr I j;obtain⟨bhi,j,K⟩:=ve ht hr I j;obtain⟨bmx,j,h3⟩:=ve ht hr I j;obtain⟨av,y,e,C,F⟩:=L9 (P:=P) hs (ev x) I J K h3 j;obtain⟨rfl,rfl⟩:=D e;exact Good.pure (x:=y) hs (by simp only [execOp,E,Nv,C,Ni,NJ]) F
 case fieldAddr t x f=>obtain⟨av,y,e,C,F⟩:=HP (P:=P) (ev x) I j;obtain⟨rfl,rfl⟩:=D e;exact Good.pure (x:=y) hs (by simp only [execOp,E,Nv,C,Ni,NJ]) F
 case field t x f=>obtain⟨av,y,e,C,F⟩:=HN (P:=P) (ev x) j;obtain⟨rfl,rfl⟩:=D e;exact Good.pure (x:=y) hs (by simp only [execOp,E,Nv,C,Ni,NJ]) F
 case indexAddr t x i=>unfold mz at j;replace j:=M2.1 j;obtain⟨i',hi',j⟩:=j;replace j:=aM j I;obtain⟨n,hn,j⟩:=j;obtain⟨k,rfl⟩:=uV hn;have hiv:=tt i _ hi';simp only [ay] at hiv;obtain⟨av,y,e,C,F⟩:=Ig (P:=P) (ki:=k) hs (ev x) I j;obtain⟨rfl,rfl⟩:=D e;exact Good.pure (x:=y) hs (by simp only [execOp,E,hiv,Nv,C,Ni,NJ]) F
 case index t x i=>
  unfold mz at j;replace j:=M2.1 j;obtain⟨i',hi',j⟩:=j;replace j:=aM j I;obtain⟨n,hn,j⟩:=j;obtain⟨k,rfl⟩:=uV hn;have hiv:=tt i _ hi';simp only [ay] at hiv;have F:=ev x;split at j
  .rename_i hu;replace j:=M2.1 j;obtain⟨y,hy,j⟩:=j;replace j:=aM j I;obtain⟨b,V,j⟩:=j;have:=T.iY V;subst this;have hxv:=tt x _ hy;simp only [ay] at hxv;obtain⟨h0,J,j⟩:=mw I j;replace j:=aM j I;obtain⟨u,hu',j⟩:=j;obtain⟨rfl,rfl⟩:=D j;have V:b[n.toNat]? =some u:=by
    have hl:n.toNat < b.data.toList.length:=(M5.1 hu').1;have hlt:n.toNat < b.size:=by simpa using hl
    rw [getElem?_pos b n.toNat hlt];have:=(M5.1 hu').2;rw [<-this];simp [ByteArray.getElem_eq_getElem_data]
   exact Good.pure (x:= .int .u8 u.toNat) hs (by simp [execOp,E,hiv,hxv,Instr.index,asIntOf,run_underlying hu,h0,V]) (by simp [ai,ay])
  .rename_i m e hu;split at j
   .rename_i vs ex;cases hok:bW P e
    .simp [hok] at j
    simp only [hok,cond_true] at j;replace j:=M2.1 j;obtain⟨l,hl,j⟩:=j;obtain⟨h0,J,j⟩:=mw I j;rw [ex] at F;simp only [ai] at F;obtain⟨ws,S,R,U⟩:=F;obtain⟨av,y,e,C,F⟩:=IE (P:=P) (arr:=ws.toArray) (off:=n.toNat * P.cellsOf e) (ρ:=ρ) hok I ((aR.jo hl R).drop _) j;obtain⟨rfl,rfl⟩:=D e;exact Good.pure (x:=y) hs (by simp [execOp,E,hiv,S,Instr.index,asIntOf,run_underlying hu,h0,J,gW hok,C]) F
   .simp at j
  .simp at j
 case extract x k=>
  have F:=ev x;split at j
  .rename_i vs e;replace j:=M2.1 j;obtain⟨y,hy,j⟩:=j;obtain⟨rfl,rfl⟩:=D j;rw [e] at F;simp only [ai] at F;obtain⟨ws,S,J⟩:=F;obtain⟨u,K,h3⟩:=J.get hy;exact Good.pure hs (by simp [execOp,E,S,Instr.extract,K]) h3
  .simp at j
 case call cl=>
  have run0:∀f,cl.callee=f->(execOp a.eval o).run P w= ((resolve a.eval cl o.type).run P w).andThen λd w=>(invoke d.target d.args).run P w:=by intro f _;simp only [execOp,E,Nv]
  split at j
  .rename_i M;split at j
   .rename_i x t ts hx Y;obtain⟨av,y,e,C,F⟩:=It (P:=P) (ts:=cl.argTypes) (ty:=o.type) hs (ev x) I j (by rw [<-NU,Y];rfl);obtain⟨rfl,rfl⟩:=D e;have H:cl.args.map a.eval= #[a.eval x]:=by apply OL;simp [hx]
    exact Good.pure (x:=y) hs (by simp only [execOp,E,resolve,M,H,Nv,NJ,Ni,invoke,builtin,C]) F
   .simp at j
  .rename_i M;split at j
   .rename_i x y t u hgc hx Y;obtain⟨v',X,e,hg⟩:=EZ (P:=P) (tr:=o.type) hs (ev x) (ev y) j;obtain⟨rfl,rfl⟩:=D e;have H:cl.args.map a.eval= #[a.eval x,a.eval y]:=by apply OL;simp [hx]
    have htys':cl.argTypes= #[t,u]:=by apply OL;simp [Y]
    obtain⟨z,w',ρ',O',C,le,W,F⟩:=hg Q;exact Good.val (x:=z) (by simp only [execOp,E,resolve,M,H,htys',Nv,NJ,Ni,invoke,builtin,C]) le W F
   .simp at j
  .rename_i M;split at j
   .rename_i k hik;replace j:=M2.1 j;obtain⟨l,hl,j⟩:=j;split at j
    .rename_i x r;replace j:=aM j I;obtain⟨n,hn,j⟩:=j;have:=T.fp hn;subst this;obtain⟨v0,vs,e0,J,K⟩:=aR.jo hl (pc ht hr cl.args.toList);simp only [ay] at J;subst J;obtain⟨m,e,C⟩:=xg (P:=P) (w:=w) I true K j;obtain⟨rfl,rfl⟩:=D e;have H:(cl.args.map a.eval).toList= .int k n::vs:=by simp [e0]
     exact Good.pure (x:= .int k m) hs (by simp only [execOp,E,resolve,M,Nv,NJ,Ni,invoke,builtin,Builtin.max_,H];simp only [cond_true] at C;simp only [C,Ni]) (by simp [ai,ay])
    .simp at j
   .simp at j
  .rename_i M;split at j
   .rename_i k hik;replace j:=M2.1 j;obtain⟨l,hl,j⟩:=j;split at j
    .rename_i x r;replace j:=aM j I;obtain⟨n,hn,j⟩:=j;have:=T.fp hn;subst this;obtain⟨v0,vs,e0,J,K⟩:=aR.jo hl (pc ht hr cl.args.toList);simp only [ay] at J;subst J;obtain⟨m,e,C⟩:=xg (P:=P) (w:=w) I false K j;obtain⟨rfl,rfl⟩:=D e;have H:(cl.args.map a.eval).toList= .int k n::vs:=by simp [e0]
     exact Good.pure (x:= .int k m) hs (by simp only [execOp,E,resolve,M,Nv,NJ,Ni,invoke,builtin,Builtin.min_,H];simp only [cond_false] at C;simp only [C,Ni]) (by simp [ai,ay])
    .simp at j
   .simp at j
  .rename_i M;split at j
   .rename_i x y t ts hgc hx Y;obtain⟨X,w',e,C,le,W⟩:=FV (P:=P) (ty:=(ts.headD 0)) (tr:=o.type) hs (ev x) (ev y) j;obtain⟨rfl,rfl⟩:=D e;have H:cl.args.map a.eval= #[a.eval x,a.eval y]:=by apply OL;simp [hx]
    have run':(Builtin.delete_ cl.argTypes o.type #[a.eval x,a.eval y]).run P w= .ok (.tuple #[]) w':=by
     rw [<-C];have h0:cl.argTypes[0]? =some t:=by rw [<-NU,Y];rfl
     simp only [Builtin.delete_,h0];rfl
    refine Good.val (x:= .tuple #[]) (by simp only [execOp,E,resolve,M,H,Nv,NJ,Ni,invoke,builtin,run']) le W ?_;simp only [ai];exact⟨[],rfl,by simp [az]⟩
   .simp at j
  .rename_i M;split at j
   .rename_i x t ts hx Y;split at j
    .rename_i e hu;split at j
     .rename_i y hex;cases hy:tz y with
      | false=>rw [hy] at j;simp at j
      | true=>
       rw [hy] at j;obtain⟨rfl,rfl⟩:=D j;have F:=ev x;rw [hex] at F;simp only [ai] at F;have F:=Ij hy F;have H:cl.args.map a.eval= #[a.eval x]:=by apply OL;simp [hx]
       have hts:cl.argTypes[0]? =some t:=by rw [<-NU,Y];rfl
       exact Good.pure (x:= .int .i64 0) hs (by simp only [execOp,E,resolve,M,H,Nv,NJ,Ni,invoke,builtin];simp [Builtin.cap_,hts,run_underlying hu,F,goInt]) (by simp [ai,ay])
     .simp at j
    .simp at j
   .simp at j
  .rename_i fo M;split at j
   .rename_i f x1 y1 efo;have hfo:=HR (ev fo);rw [efo] at hfo;simp only [ai] at hfo;obtain⟨x',y',S,R,U⟩:=hfo;obtain⟨v',X,fn,body,e,hfn,hbody,hname,hcall⟩:=FE hO I hs ((R.append (pc ht hr cl.args.toList)).append U) j;obtain⟨rfl,rfl⟩:=D e;unfold Good gF;have C:(execOp a.eval o).run P w= .ok (.enter f (x'++cl.args.toList.map a.eval++y').toArray) w:=by
     have H:x'.toArray++cl.args.map a.eval++y'.toArray= (x'++cl.args.toList.map a.eval++y').toArray:=by apply OL;simp
     simp [execOp,E,resolve,M,S,Deferred.ofValue,invoke,callFunc,run_program,hfn,hbody,hname,H]
    rw [C];exact hcall Q
   .simp at j
  .simp at j
 all_goals simp at j
end
end Go.Aev
