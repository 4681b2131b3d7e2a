import Derived.Test.YtcjplcpngagalaaDoorBlastRoundQ3
set_option linter.all false
namespace Go.Aev
open Go
section
variable (B:Nat->Option Value) (w:World) (A:Nat->Prop)
def jk:ca->T->Value->List Nat->Prop
 | .f _,x,v,ob=>x.oR =some ()/\ay w A x v/\ob= []
 | .t _,x,v,ob=>ay w A x v/\ob= []
 | .own sz,x,v,ob=>∃o p,ob=o.toList/\x.an sz=some p/\cI w A sz p.1 p.2 v (λaf=>o=some af)
 | .rows sz col rsz,x,v,ob=>∃(b:Bool) (es:List Row) (i:Id) (l:Id->Option Value) (a:Id->Option Nat),aN x=some (b,es)/\cP w A l a i (.rows b sz col rsz es.length es)/\l i=some v/\i.real=true/\
   (∀x y d,a x=some d->a y=some d->x=y)/\(∀n u,l (.g i n)=some u->u.oneCell'=true/\u.cells= #[u])/\(∀x d,a x=some d->x=i\/∃n,x= .g i n)/\∀d,d∈ob↔∃x,a x=some d
 | .ref k off,_,v,ob=>(∃b,B k=some (.pointer (some ⟨b,0,none⟩))/\v= .pointer (some ⟨b,off,none⟩))/\ob= []
 | .same k,_,v,ob=>(B k=some v/\v.oneCell'=true/\v.cells= #[v])/\ob= []
 | .no,_,v,ob=>(v.oneCell'=true/\v.cells= #[v])/\ob= []
 | .mp ag ks vk,x,v,ob=>∃es b j m,x=aH es/\v= .map (some b)/\ob= [b]/\w.heap[b]? =some (.map j m)/\
   j.toList.map (λe=>(e.key,e.val))=es.map (λp=>(cZ ag p.1,dx p.2))/\(es.all λp=>cb ks p.1 && dH vk p.2)=true
 | .agg _,_,_,_=>False
 | .new _,_,_,_=>False
def fe:List ca->List T->List Value->List Nat->Prop
 | [],xs,vs,own=>xs= []/\vs= []/\own= []
 | r::rs,xs,vs,own=>∃x d v b ob a,xs=x::d/\vs=v::b/\own=ob++a/\jk B w A r x v ob/\fe rs d b a
def dC:List ca->List T->List Value->List Nat->Prop
 | [],xs,vs,own=>xs= []/\vs= []/\own= []
 | .agg l::rs,xs,vs,own=>∃e x2 g a o1 o2,xs=e++x2/\vs= .agg g.toArray::a/\own=o1++o2/\fe B w A l e g o1/\dC rs x2 a o2
 | .new l::rs,xs,vs,own=>∃e x2 b arr t a o1 o2,xs=e++x2/\vs= .pointer (some ⟨b,0,none⟩)::a/\own= (b::o1)++o2/\w.heap[b]? =some (.cells arr t (0,0))/\fe B w A l e arr.toList o1/\dC rs x2 a o2
 | r::rs,xs,vs,own=>∃x f v a ob d,xs=x::f/\vs=v::a/\own=ob++d/\jk B w A r x v ob/\dC rs f a d
def mV:Nat->List jg->List T->List Nat->Prop
 | _,[],xs,own=>xs= []/\own= []
 | j, .box l::r,xs,own=>∃f x2 b arr t o1 o2,xs=f++x2/\own=b:: (o1++o2)/\B j=some (.pointer (some ⟨b,0,none⟩))/\w.heap[b]? =some (.cells arr t (0,0))/\
   fe B w A l f arr.toList o1/\mV (j+1) r x2 o2
 | j, .sl sz::r,xs,own=>∃bb l x2 ob v o2,xs= .ab sz bb l::x2/\own=ob.toList++o2/\B j=some v/\cI w A sz bb l v (λaf=>ob=some af)/\mV (j+1) r x2 o2
 | j, .mp ag ks vk::r,xs,own=>∃es b a d x2 o2,xs=aH es::x2/\own=b::o2/\B j=some (.map (some b))/\w.heap[b]? =some (.map a d)/\
   a.toList.map (λe=>(e.key,e.val))=es.map (λp=>(cZ ag p.1,dx p.2))/\(es.all λp=>cb ks p.1 && dH vk p.2)=true/\mV (j+1) r x2 o2
 | j, .dead::r,xs,own=>mV (j+1) r xs own
end
def nQ:List Value->Value
 | [v]=>v
 | vs=> .tuple vs.toArray
structure tQ (w w':World):Prop where
 os:w'.os=w.os
 output:w'.output=w.output
 tape:w'.tape=w.tape
 size:w.heap.size<=w'.heap.size
 af:∀k,k < w.heap.size->w'.heap[k]? =w.heap[k]?
structure Ha (w w':World) (Own:Nat->Prop):Prop where
 os:w'.os=w.os
 output:w'.output=w.output
 tape:w'.tape=w.tape
 size:w.heap.size<=w'.heap.size
 af:∀k,k < w.heap.size->¬Own k->w'.heap[k]? =w.heap[k]?
def ny(m:Nat)(ρ:Id->Option Value)(j:Nat):Option Value:=if j < m then ρ (.c j) else none
def tw(P:Program)(A:cA)(f:FuncId)(fn:Func)(bn:List AV)(a:List ad)(xs:List T):Prop:=
 ∀(c:Ctx) (w:World) (ρ:Id->Option Value) (O:Id->Option Nat) (args:List Value),c.N0=w.heap.size->HS c w (jo a) ρ O->az w (AA c w O) ρ bn args->
  Calls P f args.toArray w λe w'=>∃rs d x2 o1 o2,e= .returned (nQ rs)/\Ha w w' (fv O)/\xs=d++x2/\(o1++o2).Nodup/\(∀b∈o1++o2,c.MO b/\b < w'.heap.size)/\
   dC (ny a.length ρ) w' (λb=>(c.A0 b\/c.MO b)/\b < w'.heap.size/\b∉o1++o2) (de P A f (gu a.head?) fn) d rs o1/\
   mV (ny a.length ρ) w' (λb=>(c.A0 b\/c.MO b)/\b < w'.heap.size/\b∉o1++o2) 0 (gA A f (gu a.head?)) x2 o2
def iQ(P:Program)(A:cA)(O:aq):Prop:= ∀f bn a xs,O (.call f) bn a=some xs->
 ∃fn b,P.funcs[f]? =some fn/\fn.body=some b/\fn.name≠ "runtime.NumGoroutine" /\tw P A f fn bn a xs
def l0(P:Program)(A:cA):Prop:= ∀f bn a xs,A.ext f bn a=some xs->
 ∃fn b,P.funcs[f]? =some fn/\fn.body=some b/\fn.name≠ "runtime.NumGoroutine" /\tw P A f fn bn a xs
theorem l0.no{P:Program}{A:cA}(h:∀f bn a,A.ext f bn a=none):l0 P A:=λf bn a xs e=>by rw [h] at e;cases e
theorem tw.values{P:Program}{A:cA}{f:FuncId}{fn:Func}{bn:List AV}{xs:List T}(h:tw P A f fn bn [] xs)(g:A.gS f=none)(A0:Nat->Prop)(w:World)(args:List Value)(D:∀b,A0 b->b < w.heap.size)
  (H:az w A0 (λ_=>none) bn args) (x:GlobOk w):
  Calls P f args.toArray w λe w'=>∃rs own,e= .returned (nQ rs)/\tQ w w'/\own.Nodup/\(∀b∈own,w.heap.size<=b/\b < w'.heap.size)/\
   dC (λ_=>none) w' (λb=>(A0 b\/w.heap.size<=b)/\b < w'.heap.size/\b∉own) (de P A f 0 fn) xs rs own:=by
 let c:Ctx:={A0:=A0,M:=λ_=>False,N0:=w.heap.size};have hs:HS c w (jo []) (λ_=>none) (λ_=>none):=⟨λi b g=>by cases i <;> simp [jo] at g,λi _ _=>⟨rfl,rfl⟩,λi n=>rfl,λi n _=>⟨rfl,rfl⟩,(by intro i n u G;cases G),(by intro i j b d;cases d),(by intro i b d;cases d),(by intro i b d;cases d),QV _,x.1,x.2,λ_ _ h=>h⟩;have v:∀b,A0 b->AA c w (λ_=>none) b/\w.heap[b]? =w.heap[b]?:=λb g=>⟨⟨.inl g,D b g,λi d=>by cases d⟩,rfl⟩;refine(h c w _ _ args rfl hs (az.mono v (λ_ _ h=>h) _ _ H)).mono ?_;rintro e w' ⟨rs,I,x2,o1,o2,E,m,y,o,q,r,ho⟩;have p:gA A f (gu ([]:List ad).head?)= []:=by simp [gA,g]
 rw [p] at ho;obtain⟨rfl,rfl⟩:=ho;rw [QX] at y o;subst y;have t:de P A f (gu ([]:List ad).head?) fn=de P A f 0 fn:=rfl;have z:ny ([]:List ad).length (λ_=>none)=λ_=>none:=by funext j;simp [ny]
 rw [t,z] at r;refine⟨rs,o1,E,⟨m.os,m.output,m.tape,m.size,λk F=>m.af k F (by rintro⟨i,d⟩;cases d)⟩,o,λb g=> ?_, ?_⟩
 .obtain⟨a,l⟩:=q b (by simpa using g);rcases a with a | a
  .exact a.elim
  .exact⟨a,l⟩
 .have C:(λb=>(c.A0 b\/c.MO b)/\b < w'.heap.size/\b∉o1++ [])=λb=>(A0 b\/w.heap.size<=b)/\b < w'.heap.size/\b∉o1:=by
   funext b;simp only [QX];refine propext ⟨?_, ?_⟩
   .rintro⟨a | a | a,l⟩
    .exact⟨.inl a,l⟩
    .exact a.elim
    .exact⟨.inr a,l⟩
   .rintro⟨a | a,l⟩
    .exact⟨.inl a,l⟩
    .exact⟨.inr (.inr a),l⟩
  rw [C] at r;exact r
structure fP (c:Ctx) (w:World) (A:Nat->Prop) (h:Id->Option ad) (ρ:Id->Option Value) (O:Id->Option Nat):Prop where
 af:∀i b,h i=some b->cP w A ρ O i b
 cw:∀i,i.real=true->h i=none->ρ i=none/\O i=none
 dG:∀i n,h (.g i n)=none
 fm:∀i n,h i=none->ρ (.g i n)=none/\O (.g i n)=none
 gone:∀i n u,ρ (.g i n)=some u->u.oneCell'=true/\u.cells= #[u]
 inj:∀i j b,O i=some b->O j=some b->i=j
 lt:∀i b,O i=some b->b < w.heap.size
 own:∀i b,O i=some b->c.MO b
 size:c.N0<=w.heap.size
 glob:qx w/\nr<=c.N0/\∀b,b < nr->¬c.M b
section
variable {P:Program} {B:Nat->Option Value} {ids:List Id} {w w':World} {A A':Nat->Prop} {c:Ctx} {ρ:Id->Option Value} {O:Id->Option Nat} {s:St} {cc:Option Bool} {h:Id->Option ad}
theorem fP.GS(hs:fP c w A h ρ O)(e:∀b,A b↔AA c w O b):HS c w h ρ O:=by have:A=AA c w O:=funext λb=>propext (e b);subst this;exact⟨hs.af,hs.cw,hs.dG,hs.fm,hs.gone,hs.inj,hs.lt,hs.own,hs.size,hs.glob⟩
theorem fP.real(hs:fP c w A h ρ O){i:Id}(a:h i≠none):i.real=true:=by
 cases i with
 | g i n=>exact(a (hs.dG i n)).elim
 | _=>rfl
theorem fP.wS{i:Id}(hrl:i.real=true)(hs:fP c w A h ρ O)(p:h i=none)(v:Value)(ob:Option Nat)(f:∀b,ob=some b->b < w.heap.size/\c.MO b/\∀j,O j≠some b)(x:ad)
  (q:cP w A (aG ρ i (some v)) (aG O i ob) i x):fP c w A (aG h i (some x)) (aG ρ i (some v)) (aG O i ob):=by
 refine⟨λj b a=> ?_,λj l a=> ?_,λj n=>by rw [au _ _ (aO hrl)];exact hs.dG j n,λj n a=> ?_,λj n u m=>by rw [au _ _ (aO hrl)] at m;exact hs.gone j n u m,λj k b a d=> ?_,λj b a=> ?_,λj b a=> ?_,hs.size,hs.glob⟩
 .by_cases e:j=i
  .subst e;rw [aA] at a;cases a;exact q
  .rw [au _ _ e] at a;refine cP.mono (λn=>⟨au _ _ (aO hrl),au _ _ (aO hrl),λ_ _=>rfl⟩) (λb o=>⟨o,rfl⟩) (λk u d=> ?_) (au _ _ e) (λ_ _=>rfl) (hs.af j b a);by_cases g:k=i
   .subst g;rw [(hs.cw _ hrl p).1] at d;cases d
   .rw [au _ _ g];exact d
 .by_cases e:j=i
  .subst e;rw [aA] at a;cases a
  .rw [au _ _ e] at a;rw [au _ _ e,au _ _ e];exact hs.cw j l a
 .by_cases e:j=i
  .subst e;rw [aA] at a;cases a
  .rw [au _ _ e] at a;rw [au _ _ (aO hrl),au _ _ (aO hrl)];exact hs.fm j n a
 .by_cases e:j=i <;> by_cases e':k=i
  .rw [e,e']
  .subst e;rw [aA] at a;rw [au _ _ e'] at d;exact((f b a).2.2 k d).elim
  .subst e';rw [aA] at d;rw [au _ _ e] at a;exact((f b d).2.2 j a).elim
  .rw [au _ _ e] at a;rw [au _ _ e'] at d;exact hs.inj j k b a d
 .by_cases e:j=i
  .subst e;rw [aA] at a;exact(f b a).1
  .rw [au _ _ e] at a;exact hs.lt j b a
 .by_cases e:j=i
  .subst e;rw [aA] at a;exact(f b a).2.1
  .rw [au _ _ e] at a;exact hs.own j b a
theorem fP.zy{i:Id}(hs:fP c w A h ρ O)(m:h i=some .dead)(ob:Option Nat)(f:∀b,ob=some b->b < w.heap.size/\c.MO b/\∀j,O j≠some b)(x:ad)
  (o:cP w A ρ (aG O i ob) i x):fP c w A (aG h i (some x)) ρ (aG O i ob):=by
 have hrl:=hs.real (i:=i) (by rw [m];simp);refine⟨λj b a=> ?_,λj g a=> ?_,λj n=>by rw [au _ _ (aO hrl)];exact hs.dG j n,λj n a=> ?_,hs.gone,λj k b a d=> ?_,λj b a=> ?_,λj b a=> ?_,hs.size,hs.glob⟩
 .by_cases e:j=i
  .subst e;rw [aA] at a;cases a;exact o
  .rw [au _ _ e] at a;exact cP.mono (λn=>⟨rfl,au _ _ (aO hrl),λ_ _=>rfl⟩) (λb l=>⟨l,rfl⟩) (λk u d=>d) (au _ _ e) (λ_ _=>rfl) (hs.af j b a)
 .by_cases e:j=i
  .subst e;rw [aA] at a;cases a
  .rw [au _ _ e] at a;rw [au _ _ e];exact hs.cw j g a
 .by_cases e:j=i
  .subst e;rw [aA] at a;cases a
  .rw [au _ _ e] at a;rw [au _ _ (aO hrl)];exact hs.fm j n a
 .by_cases e:j=i <;> by_cases e':k=i
  .rw [e,e']
  .subst e;rw [aA] at a;rw [au _ _ e'] at d;exact((f b a).2.2 k d).elim
  .subst e';rw [aA] at d;rw [au _ _ e] at a;exact((f b d).2.2 j a).elim
  .rw [au _ _ e] at a;rw [au _ _ e'] at d;exact hs.inj j k b a d
 .by_cases e:j=i
  .subst e;rw [aA] at a;exact(f b a).1
  .rw [au _ _ e] at a;exact hs.lt j b a
 .by_cases e:j=i
  .subst e;rw [aA] at a;exact(f b a).2.1
  .rw [au _ _ e] at a;exact hs.own j b a
def tv(B:Nat->Option Value)(ids:List Id)(ρ:Id->Option Value):Prop:= ∀k i v,ids[k]? =some i->B k=some v->ρ i=some v
def fE(B:Nat->Option Value)(ids:List Id)(c:Ctx)(w:World)(A:Nat->Prop)(us:aB)(own:List Nat)(Q:(Id->Option Value)->Prop):Prop:=
 ∀h ρ O,tv B ids ρ->fP c w A h ρ O->own.Nodup->(∀b∈own,b < w.heap.size/\c.MO b/\∀i,O i≠some b)->(∀p∈us,h p.1=none)->
  ∃ρ' O',(∀i u,ρ i=some u->ρ' i=some u)/\fP c w A (aJ h us) ρ' O'/\Q ρ'/\∀b,(∃i,O' i=some b)↔((∃i,O i=some b)\/b∈own)
def l6(d j a:Nat)(us:aB):Prop:= ∀p∈us,∃k,j<=k/\k < a/\p.1= .s d k
theorem fE.nil{Q:(Id->Option Value)->Prop}(d:∀ρ,tv B ids ρ->Q ρ):fE B ids c w A [] [] Q:=by intro h ρ O a hs _ _ _;exact⟨ρ,O,λ_ _ h=>h,hs,d ρ a,λb=>by simp⟩
theorem fE.append{d j F Y:Nat}{us vs:aB}{o1 o2:List Nat}{y z Q:(Id->Option Value)->Prop}(W:fE B ids c w A us o1 y)(X:fE B ids c w A vs o2 z)(n1:l6 d j F us)(n2:l6 d F Y vs)
  (x:∀ρ ρ',(∀i u,ρ i=some u->ρ' i=some u)->y ρ->z ρ'->Q ρ'):fE B ids c w A (us++vs) (o1++o2) Q:=by
 intro h ρ O m hs C f a;obtain⟨J,K,L⟩:=R5.1 C;obtain⟨n,M,H,D,q1,r1⟩:=W h ρ O m hs J (λb g=>f b (QQ _ g)) (λp l=>a p (QQ _ l));obtain⟨o,N,I,E,q2,r2⟩:=X (aJ h us) n M (λk i v R S=>H i v (m k i v R S)) D K (λb g=>by
  obtain⟨T,U,V⟩:=f b (QP _ g);refine⟨T,U,λi r=> ?_⟩;rcases(r1 b).1 ⟨i,r⟩ with⟨k,t⟩ | t
  .exact V k t
  .exact L b t b g rfl) (λp l=>by
  rw [dr (λq x e=> ?_)]
  .exact a p (QP _ l)
  .obtain⟨k,_,k2,Z⟩:=n1 q x;obtain⟨k',k1',_,G⟩:=n2 p l;rw [Z,G] at e;simp only [Id.s.injEq] at e;omega)
 refine⟨o,N,λi u r=>I i u (H i u r),by rw [lr];exact E,x n o I q1 q2,λb=> ?_⟩;rw [r2 b,r1 b,QR,or_assoc]
theorem Bi(es:List (List T×T)):aL (aH es)=some es:=by
 unfold aH aL;induction es with
 | nil=>rfl
 | cons p es a=>simp only [Rc,rV] at a⊢;rw [a];rfl
theorem fP.Hf{i' i:Id}{r:Id->Option Value}{p:Id->Option Nat}{b:Bool}{sz col rsz:Nat}{es:List Row}{v:Value}{ob:List Nat}(hrl:i'.real=true)(hs:fP c w A h ρ O)(hi:h i'=none)
  (L:cP w A r p i (.rows b sz col rsz es.length es)) (hv:r i=some v) (I:i.real=true) (D:∀x y d,p x=some d->p y=some d->x=y) (hg:∀n u,r (.g i n)=some u->u.oneCell'=true/\u.cells= #[u])
  (hdom:∀x d,p x=some d->x=i\/∃n,x= .g i n) (H:∀d,d∈ob↔∃x,p x=some d) (E:∀b∈ob,b < w.heap.size/\c.MO b/\∀i,O i≠some b):
  ∃ρ' O',(∀x u,ρ x=some u->ρ' x=some u)/\fP c w A (aG h i' (some (.rows b sz col rsz es.length es))) ρ' O'/\ρ' i'=some v/\∀d,(∃x,O' x=some d)↔((∃x,O x=some d)\/d∈ob):=by
 let V:Id->Option Value:=λx=>if x=i' then some v else match x with
  | .g y n=>if y=i' then r (.g i n) else ρ (.g y n)
  | x=>ρ x
 let Q:Id->Option Nat:=λx=>if x=i' then p i else match x with
  | .g y n=>if y=i' then p (.g i n) else O (.g y n)
  | x=>O x
 have V1:V i'=some v:=by simp only [V,if_true]
 have Z:Q i'=p i:=by simp only [Q,if_true]
 have V2:∀x,x.real=true->x≠i'->V x=ρ x:=by
  intro x k j;simp only [V,if_neg j];cases x with
  | g y n=>cases k
  | _=>rfl
 have N:∀x,x.real=true->x≠i'->Q x=O x:=by
  intro x k j;simp only [Q,if_neg j];cases x with
  | g y n=>cases k
  | _=>rfl
 have T:∀y n,y≠i'->V (.g y n)=ρ (.g y n):=by intro y n q;simp only [V,if_neg (aO hrl),if_neg q]
 have R:∀y n,y≠i'->Q (.g y n)=O (.g y n):=by intro y n q;simp only [Q,if_neg (aO hrl),if_neg q]
 have V4:∀n,V (.g i' n)=r (.g i n):=by intro n;simp only [V,if_neg (aO hrl),if_true]
 have S:∀n,Q (.g i' n)=p (.g i n):=by intro n;simp only [Q,if_neg (aO hrl),if_true]
 have K:∀x d,Q x=some d->(O x=some d/\x≠i'/\∀n,x≠ .g i' n)\/(x=i'/\p i=some d)\/∃n,x= .g i' n/\p (.g i n)=some d:=by
  intro x d j;by_cases e:x=i'
  .subst e;rw [Z] at j;exact .inr (.inl ⟨rfl,j⟩)
  .cases k:x.real with
   | true=>rw [N x k e] at j;exact .inl ⟨j,e,λn e'=>by rw [e'] at k;cases k⟩
   | false=>
    cases x with
    | g y n=>
     by_cases e':y=i'
     .subst e';rw [S] at j;exact .inr (.inr ⟨n,rfl,j⟩)
     .rw [R y n e'] at j;exact .inl ⟨j,e,λm U=>by simp only [Id.g.injEq] at U;exact e' U.1⟩
    | _=>cases k
 have n0:=hs.cw i' hrl hi;have ng:=λn=>hs.fm i' n hi;have mono:∀x u,ρ x=some u->V x=some u:=by
  intro x u j;cases k:x.real with
  | true=>rw [V2 x k (λe=>by rw [e,n0.1] at j;cases j)];exact j
  | false=>
   cases x with
   | g y n=>rw [T y n (λe=>by rw [e,(ng n).1] at j;cases j)];exact j
   | _=>cases k
 have M:∀d,(∃x,Q x=some d)↔((∃x,O x=some d)\/d∈ob):=by
  intro d;constructor
  .rintro⟨x,j⟩;rcases K x d j with⟨o,_⟩ | ⟨_,o⟩ | ⟨n,_,o⟩
   .exact .inl ⟨x,o⟩
   .exact .inr ((H d).2 ⟨_,o⟩)
   .exact .inr ((H d).2 ⟨_,o⟩)
  .rintro(⟨x,j⟩ | C)
   .cases k:x.real with
    | true=>exact⟨x,by rw [N x k (λe=>by rw [e,n0.2] at j;cases j)];exact j⟩
    | false=>
     cases x with
     | g y n=>exact⟨.g y n,by rw [R y n (λe=>by rw [e,(ng n).2] at j;cases j)];exact j⟩
     | _=>cases k
   .obtain⟨x,j⟩:=(H d).1 C;rcases hdom x d j with rfl | ⟨n,rfl⟩
    .exact⟨i',by rw [Z];exact j⟩
    .exact⟨.g i' n,by rw [S];exact j⟩
 have J:∀d,(∃x,p x=some d)->∀y,O y≠some d:=λd C=>(E d ((H d).2 C)).2.2;refine⟨V,Q,mono,⟨λx y j=> ?_,λx k j=> ?_,λx n=>by rw [au _ _ (aO hrl)];exact hs.dG x n,λx n j=> ?_,λx n u Y=> ?_,λx y d j q=> ?_,λx d j=> ?_,λx d j=> ?_,hs.size,hs.glob⟩,V1,M⟩
 .by_cases e:x=i'
  .subst e;rw [aA] at j;cases j;obtain⟨a,cap,e1,U,e3,W,e5⟩:=L;rw [hv] at e1;cases e1;refine⟨a,cap,V1,U,e3,⟨W.1,W.2.1,λn X=>by rw [V4];exact W.2.2.1 n X,λn d X=>by rw [S] at X;exact W.2.2.2 n d X⟩, ?_⟩;rcases e5 with e5 | ⟨af,off,arr,t,q1,q2,q3,q4,q5⟩
   .exact .inl e5
   .exact .inr ⟨af,off,arr,t,q1,by rw [Z];exact q2,q3,q4,cq.move (λb L=>⟨L,rfl⟩) (λ_ _=>rfl) (λf _=>⟨V4 _,S _,λ_ _=>rfl⟩) q5⟩
  .rw [au _ _ e] at j;have hrx:=hs.real (i:=x) (by rw [j];simp);exact cP.mono (λn=>⟨T x n e,R x n e,λ_ _=>rfl⟩) (λb L=>⟨L,rfl⟩) mono (N x hrx e) (λ_ _=>rfl) (hs.af x y j)
 .have l:x≠i':=λe=>by rw [e,aA] at j;cases j
  rw [au _ _ l] at j;rw [V2 x k l,N x k l];exact hs.cw x k j
 .have l:x≠i':=λe=>by rw [e,aA] at j;cases j
  rw [au _ _ l] at j;rw [T x n l,R x n l];exact hs.fm x n j
 .by_cases l:x=i'
  .subst l;rw [V4] at Y;exact hg n u Y
  .rw [T x n l] at Y;exact hs.gone x n u Y
 .rcases K x d j with⟨o,z,h3⟩ | ⟨o,z⟩ | ⟨n,o,z⟩ <;> rcases K y d q with⟨F,G,k3⟩ | ⟨F,G⟩ | ⟨m,F,G⟩
  .exact hs.inj x y d o F
  .exact(J d ⟨_,G⟩ x o).elim
  .exact(J d ⟨_,G⟩ x o).elim
  .exact(J d ⟨_,z⟩ y F).elim
  .rw [o,F]
  .have:=D _ _ d z G;rw [this] at I;cases I
  .exact(J d ⟨_,z⟩ y F).elim
  .have:=D _ _ d G z;rw [this] at I;cases I
  .have:=D _ _ d z G;simp only [Id.g.injEq,true_and] at this;rw [o,F,this]
 .rcases(M d).1 ⟨x,j⟩ with⟨y,q⟩ | C
  .exact hs.lt y d q
  .exact(E d C).1
 .rcases(M d).1 ⟨x,j⟩ with⟨y,q⟩ | C
  .exact hs.own y d q
  .exact(E d C).2.1
theorem Bl{R:Type}{d j:Nat}{r:ca}{x:T}{v:Value}{ob:List Nat}{K:AV->aB->Nat->Option R}{res:R}(X:cc=none\/cc=some true)(n:jk B w A r x v ob)(a:lF ids d cc j r x K=some res):
  ∃W us V,K W us V=some res/\j<=V/\l6 d j V us/\fE B ids c w A us ob (λρ =>ai w A ρ W v):=by
 unfold lF at a;cases r with
 | f k=>obtain⟨_,D,rfl⟩:=n;simp only at a;obtain⟨y,a,D⟩:=nX X D a;exact⟨_,_,_,a,QV _,(by intro p G;cases G),fE.nil λρ _=>by simpa [ai] using D⟩
 | t k=>obtain⟨D,rfl⟩:=n;simp only at a;obtain⟨y,a,D⟩:=nX X D a;exact⟨_,_,_,a,QV _,(by intro p G;cases G),fE.nil λρ _=>by simpa [ai] using D⟩
 | own sz=>
  obtain⟨o,p,rfl,G,hsl⟩:=n;cases cc with
  | some b=>simp at a
  | none=>
   dsimp only at a;replace a:=aM a (.inl rfl);obtain⟨q,m,a⟩:=a;rw [G] at m;simp only [Qy] at m;subst m;refine⟨_,_,_,a,Nat.le_succ _, ?_, ?_⟩
   .intro q m;simp only [QL] at m;subst m;exact⟨j,QV _,SW _,rfl⟩
   .intro h ρ O H hs M F z;have C:h (.s d j)=none:=z _ (QL.2 rfl);refine⟨aG ρ (.s d j) (some v),aG O (.s d j) o,λi u E=> ?_, ?_,by simp [ai],λb=>⟨λ⟨i,g⟩=> ?_,λg=> ?_⟩⟩
    .by_cases e:i= .s d j
     .subst e;rw [(hs.cw _ rfl C).1] at E;cases E
     .rw [au _ _ e];exact E
    .rw [dy];refine hs.wS rfl C v o (λb g=>F b (by simp [g])) _ ⟨v,aA _ _ _, ?_,by simp⟩;simpa using hsl
    .by_cases e:i= .s d j
     .subst e;rw [aA] at g;right;simp [g]
     .rw [au _ _ e] at g;exact .inl ⟨i,g⟩
    .rcases g with⟨i,g⟩ | g
     .by_cases e:i= .s d j
      .subst e;rw [(hs.cw _ rfl C).2] at g;cases g
      .exact⟨i,by rw [au _ _ e];exact g⟩
     .exact⟨.s d j,by rw [aA];simpa using g⟩
 | ref k off=>
  obtain⟨⟨b,D,rfl⟩,rfl⟩:=n;dsimp only at a;split at a
  .rename_i i C;exact⟨_,_,_,a,QV _,(by intro p G;cases G),fE.nil λρ H=>by
    simp only [ai];exact⟨b,H k i _ C D,rfl⟩⟩
  .simp at a
 | same k=>
  obtain⟨⟨D,_⟩,rfl⟩:=n;dsimp only at a;split at a
  .rename_i i C;exact⟨_,_,_,a,QV _,(by intro p G;cases G),fE.nil λρ H=>by
    simp only [ai];exact H k i _ C D⟩
  .simp at a
 | rows sz col rsz=>
  obtain⟨b,es,i,ρ0,O0,Q,g,hv,hri,U,hg,S,Z⟩:=n;cases cc with
  | some b=>simp at a
  | none=>
   dsimp only at a;replace a:=aM a (.inl rfl);obtain⟨q,m,a⟩:=a;rw [Q] at m;simp only [Qy] at m;subst m;refine⟨_,_,_,a,Nat.le_succ _, ?_, ?_⟩
   .intro q m;simp only [QL] at m;subst m;exact⟨j,QV _,SW _,rfl⟩
   .intro h ρ O H hs M F z;have C:h (.s d j)=none:=z _ (QL.2 rfl);obtain⟨ρ',O',g1,g2,g3,g4⟩:=hs.Hf (i':= .s d j) rfl C g hv hri U hg S Z F;exact⟨ρ',O',g1,by rw [dy];exact g2,by simp only [ai];exact g3,g4⟩
 | no=>obtain⟨_,rfl⟩:=n;dsimp only at a;exact⟨_,_,_,a,QV _,(by intro p G;cases G),fE.nil λρ _=>by simp [ai]⟩
 | mp ag ks vk=>
  obtain⟨es,I,N,J,rfl,rfl,rfl,L,Y,hok⟩:=n;cases cc with
  | some b=>simp at a
  | none=>
   dsimp only at a;replace a:=aM a (.inl rfl);obtain⟨q,m,a⟩:=a;rw [Bi] at m;simp only [Qy] at m;subst m;refine⟨_,_,_,a,Nat.le_succ _, ?_, ?_⟩
   .intro q m;simp only [QL] at m;subst m;exact⟨j,QV _,SW _,rfl⟩
   .intro h ρ O H hs M F z;have C:h (.s d j)=none:=z _ (QL.2 rfl);refine⟨aG ρ (.s d j) (some (.map (some I))),aG O (.s d j) (some I),λi u E=> ?_, ?_,by simp [ai],λb=>⟨λ⟨i,g⟩=> ?_,λg=> ?_⟩⟩
    .by_cases e:i= .s d j
     .subst e;rw [(hs.cw _ rfl C).1] at E;cases E
     .rw [au _ _ e];exact E
    .rw [dy];exact hs.wS rfl C _ (some I) (λb g=>F b (by simp only [Qy] at g;simp [g])) _ ⟨I,N,J,aA _ _ _,aA _ _ _,L,Y,hok⟩
    .by_cases e:i= .s d j
     .subst e;rw [aA] at g;right;simp only [Qy] at g;simp [g]
     .rw [au _ _ e] at g;exact .inl ⟨i,g⟩
    .rcases g with⟨i,g⟩ | g
     .by_cases e:i= .s d j
      .subst e;rw [(hs.cw _ rfl C).2] at g;cases g
      .exact⟨i,by rw [au _ _ e];exact g⟩
     .exact⟨.s d j,by rw [aA];simp only [QL] at g;rw [g]⟩
 | agg l=>simp at a
 | new l=>simp at a
theorem uo{R:Type}{d:Nat}(l:cc=none\/cc=some true):∀{rs:List ca} {j:Nat} {g x2:List T} {vs:List Value} {own:List Nat} {K:List AV->aB->Nat->Option R} {res:R},fe B w A rs g vs own->jr ids d cc j rs (g++x2) K=some res->
  ∃i us n,K i us n=some res/\j<=n/\l6 d j n us/\fE B ids c w A us own (λρ =>az w A ρ i vs)
 | [],j,g,x2,vs,own,K,res,f,a=>by obtain⟨rfl,rfl,rfl⟩:=f;exact⟨_,_,_,a,QV _,(by intro p e;cases e),fE.nil λρ _=>by simp [az]⟩
 | r::rs,j,g,x2,vs,own,K,res,f,a=>by
  obtain⟨x,V,v,D,ob,J,rfl,rfl,rfl,E,F⟩:=f;simp only [jr,Rs,RK,Ss] at a;replace a:=aM a l;obtain⟨y,q,a⟩:=a;simp only [Qy] at q;subst q;obtain⟨i,us,W,a,H,z,N⟩:=Bl (c:=c) l E a;obtain⟨S,U,X,a,I,C,Q⟩:=uo l F a;refine⟨_,_,_,a,Rt H I, ?_,N.append Q z C λρ ρ' m L M=> ?_⟩
  .intro p e;rcases QR.1 e with e | e
   .obtain⟨k,t,u,o⟩:=z p e;exact⟨k,t,by omega,o⟩
   .obtain⟨k,t,u,o⟩:=C p e;exact⟨k,by omega,u,o⟩
  .simp only [az];exact⟨v,D,rfl,ai.mono (λb G=>⟨G,rfl⟩) m _ _ L,M⟩
theorem jk.one{r:ca}{x:T}{v:Value}{ob:List Nat}(h:jk B w A r x v ob):v.oneCell'=true/\v.cells= #[v]:=by
 cases r with
 | f k=>exact h.2.1.pc
 | t k=>exact h.1.pc
 | own sz=>obtain⟨o,p,_,_,a,cap,rfl,_⟩:=h;exact⟨rfl,rfl⟩
 | rows sz col rsz=>obtain⟨b,es,i,m,n,_,⟨a,cap,d,_⟩,j,_⟩:=h;rw [j] at d;cases d;exact⟨rfl,rfl⟩
 | ref k off=>obtain⟨⟨b,_,rfl⟩,_⟩:=h;exact⟨rfl,rfl⟩
 | same k=>exact h.1.2
 | no=>exact h.1
 | mp ag ks vk=>obtain⟨es,b,g,e,_,rfl,_⟩:=h;exact⟨rfl,rfl⟩
 | agg l=>exact h.elim
 | new l=>exact h.elim
theorem fe.one:∀{rs:List ca} {xs:List T} {vs:List Value} {own:List Nat},fe B w A rs xs vs own->∀u∈vs,u.oneCell'=true/\u.cells= #[u]
 | [],_,_,_,⟨_,rfl,_⟩,u,hu=>by cases hu
 | r::rs,xs,vs,own,h,u,hu=>by
  obtain⟨x,f,v,e,ob,d,rfl,rfl,rfl,a,b⟩:=h;rcases QN.1 hu with rfl | hu
  .exact a.one
  .exact fe.one b u hu
theorem fe.length:∀{rs:List ca} {xs:List T} {vs:List Value} {own:List Nat},fe B w A rs xs vs own->xs.length=rs.length
 | [],_,_,_,⟨rfl,_,_⟩=>rfl
 | r::rs,xs,vs,own,h=>by obtain⟨x,e,v,d,ob,b,rfl,rfl,rfl,f,a⟩:=h;simp [fe.length a]
theorem fE.box{d N j:Nat}{us:aB}{o1:List Nat}{E:List AV}{f:Nat}{arr:Array Value}{t:TypeId}(M:fE B ids c w A us o1 (λρ =>az w A ρ E arr.toList))(S:l6 d N j us)(l:w.heap[f]? =some (.cells arr t (0,0)))
  (ho:∀u∈arr.toList,u.oneCell'=true/\u.cells= #[u]):fE B ids c w A (us++ [(.s d j, .box E)]) (f::o1) (λρ =>ai w A ρ (.ref (.s d j) 0) (.pointer (some ⟨f,0,none⟩))):=by
 intro h ρ O G hs H m n;obtain⟨I,J⟩:=RN.1 H;obtain⟨y,z,R,r,T,r1⟩:=M h ρ O G hs J (λb l=>m b (QB _ l)) (λp D=>n p (QQ _ D));have C:aJ h us (.s d j)=none:=by
  rw [dr λp D e=> ?_]
  .exact n _ (QP _ (QL.2 rfl))
  .obtain⟨k,_,F,L⟩:=S p D;rw [L] at e;simp only [Id.s.injEq] at e;omega
 have o:∀k,z k≠some f:=by
  intro k a;rcases(r1 f).1 ⟨k,a⟩ with⟨Q,q⟩ | q
  .exact(m f QA).2.2 Q q
  .exact I q
 have mono:∀i u,y i=some u->aG y (.s d j) (some (.pointer (some ⟨f,0,none⟩))) i=some u:=by
  intro i u v;by_cases e:i= .s d j
  .subst e;rw [(r.cw _ rfl C).1] at v;cases v
  .rw [au _ _ e];exact v
 refine⟨aG y (.s d j) (some (.pointer (some ⟨f,0,none⟩))),aG z (.s d j) (some f),λi u v=>mono i u (R i u v), ?_, ?_,λb=> ?_⟩
 .rw [lr,dy];refine r.wS rfl C _ (some f) (λb l=> ?_) _ ⟨f,arr,t,aA _ _ _,aA _ _ _,l,az.mono (λb l=>⟨l,rfl⟩) mono _ _ T,ho⟩;simp only [Qy] at l;subst l;obtain⟨K,F,_⟩:=m f QA;exact⟨K,F,o⟩
 .simp only [ai];exact⟨f,aA _ _ _,by simp⟩
 .constructor
  .rintro⟨k,a⟩;by_cases e:k= .s d j
   .subst e;rw [aA] at a;cases a;exact .inr QA
   .rw [au _ _ e] at a;rcases(r1 b).1 ⟨k,a⟩ with g | g
    .exact .inl g
    .exact .inr (QB _ g)
  .intro a;have x:(∃k,z k=some b)->∃k,aG z (.s d j) (some f) k=some b:=by
    rintro⟨k,a⟩;by_cases e:k= .s d j
    .subst e;rw [(r.cw _ rfl C).2] at a;cases a
    .exact⟨k,by rw [au _ _ e];exact a⟩
   rcases a with a | a
   .exact x ((r1 b).2 (.inl a))
   .rcases QN.1 a with rfl | a
    .exact⟨_,aA _ _ _⟩
    .exact x ((r1 b).2 (.inr a))
theorem rW{R:Type}{d:Nat}(H:cc=none\/cc=some true):∀{rs:List ca} {j:Nat} {xs:List T} {vs:List Value} {own:List Nat} {K:List AV->aB->Nat->Option R} {res:R},dC B w A rs xs vs own->dJ ids d cc j rs xs K=some res->
  ∃z us D,K z us D=some res/\j<=D/\l6 d j D us/\fE B ids c w A us own (λρ =>az w A ρ z vs)
 | [],j,xs,vs,own,K,res,e,a=>by obtain⟨rfl,rfl,rfl⟩:=e;exact⟨_,_,_,a,QV _,(by intro p i;cases i),fE.nil λρ _=>by simp [az]⟩
 | r::rs,j,xs,vs,own,K,res,e,a=>by
  have g:(∃x W v o ob I,xs=x::W/\vs=v::o/\own=ob++I/\jk B w A r x v ob/\dC B w A rs W o I)->
    (aa cc xs.head? λx=>lF ids d cc j r x λv u j=>dJ ids d cc j rs xs.tail λvs us j=>K (v::vs) (u++us) j)=some res->
    ∃z us D,K z us D=some res/\j<=D/\l6 d j D us/\fE B ids c w A us own (λρ =>az w A ρ z vs):=by
   intro e a;obtain⟨x,W,v,o,ob,I,rfl,rfl,rfl,C,J⟩:=e;simp only [RK,Ss] at a;replace a:=aM a H;obtain⟨y,hy,a⟩:=a;simp only [Qy] at hy;subst hy;obtain⟨z,us,M,a,N,F,U⟩:=Bl (c:=c) H C a;obtain⟨Y,us',j2,a,X,G,V⟩:=rW H J a;refine⟨_,_,_,a,Rt N X, ?_,U.append V F G λρ ρ' m Q S=> ?_⟩
   .intro p i;rcases QR.1 i with i | i
    .obtain⟨k,q,E,n⟩:=F p i;exact⟨k,q,by omega,n⟩
    .obtain⟨k,q,E,n⟩:=G p i;exact⟨k,by omega,E,n⟩
   .simp only [az];exact⟨v,o,rfl,ai.mono (λb L=>⟨L,rfl⟩) m _ _ Q,S⟩
  cases r with
  | f k=>exact g e a
  | t k=>exact g e a
  | own sz=>exact g e a
  | rows sz col rsz=>exact g e a
  | mp ag ks vk=>exact g e a
  | new l=>
   obtain⟨x1,x2,b0,arr,ty,o,o1,o2,rfl,rfl,rfl,hb0,C,J⟩:=e;have a:(jr ids d cc j l (x1++x2) λv u j=>dJ ids d cc (j+1) rs ((x1++x2).drop l.length) λvs us D=>K (AV.ref (.s d j) 0::vs) (u++ [(.s d j, .box v)] ++us) D)=some res:=by
    cases cc with
    | none=>simp only [dJ] at a;exact a
    | some b=>simp [dJ] at a
   obtain⟨z,us,M,a,N,F,U⟩:=uo (c:=c) H C a;have hl:=C.length;rw [<-hl,TL] at a;obtain⟨Y,us',j2,a,X,G,V⟩:=rW H J a;have Z:l6 d j (M+1) (us++ [(.s d M, .box z)]):=by
    intro p i;rcases QR.1 i with i | i
    .obtain⟨k,q,E,n⟩:=F p i;exact⟨k,q,by omega,n⟩
    .rw [QL.1 i];exact⟨M,N,by omega,rfl⟩
   refine⟨_,_,_,a,by omega, ?_,(U.box F hb0 C.one).append V Z G λρ ρ' m Q S=> ?_⟩
   .intro p i;rcases QR.1 i with i | i
    .obtain⟨k,q,E,n⟩:=Z p i;exact⟨k,q,by omega,n⟩
    .obtain⟨k,q,E,n⟩:=G p i;exact⟨k,by omega,E,n⟩
   .simp only [az];exact⟨_,o,rfl,ai.mono (λb L=>⟨L,rfl⟩) m _ _ Q,S⟩
  | ref k off=>exact g e a
  | same k=>exact g e a
  | no=>exact g e a
  | agg l=>
   obtain⟨x1,x2,ws,o,o1,o2,rfl,rfl,rfl,C,J⟩:=e;simp only [dJ] at a;obtain⟨z,us,M,a,N,F,U⟩:=uo (c:=c) H C a;have hl:=C.length;rw [<-hl,TL] at a;obtain⟨Y,us',j2,a,X,G,V⟩:=rW H J a;refine⟨_,_,_,a,Rt N X, ?_,U.append V F G λρ ρ' m Q S=> ?_⟩
   .intro p i;rcases QR.1 i with i | i
    .obtain⟨k,q,E,n⟩:=F p i;exact⟨k,q,by omega,n⟩
    .obtain⟨k,q,E,n⟩:=G p i;exact⟨k,by omega,E,n⟩
   .simp only [az];refine⟨_,o,rfl, ?_,S⟩;simp only [ai];exact⟨ws,rfl,az.mono (λb L=>⟨L,rfl⟩) m _ _ Q,C.one⟩
theorem zu{vs:List AV}{rs:List Value}(h:az w A ρ vs rs):ai w A ρ (kV vs) (nQ rs):=by
 match vs,rs,h with
 | [],rs,h=>simp only [az] at h;subst h;simp only [kV,nQ,ai];exact⟨[],rfl,by simp [az]⟩
 | [v],rs,h=>simp only [az] at h;obtain⟨u,r,rfl,a,rfl⟩:=h;exact a
 | v::d::vs,rs,h=>
  have hl:=h.length
  match rs,hl with
  | u::b::rs,_=>simp only [kV,nQ,ai];exact⟨_,rfl,h⟩
theorem PS{v:AV}{x:T}{u:Value}(hs:HS c w h ρ O)(d:ai w (AA c w O) ρ v u)(a:zS h v=some x)
  (f:∀b,AA c w O b->A' b) (g:∀i af,O i=some af->A' af):ay w A' x u:=by
 have e:dv h v=some x->ay w A' x u:=λk=>lX hs d k f (λi af _ ho=>g i af ho);cases v
 case own i=>
  simp only [zS] at a;split at a
  .rename_i sz b xs j;exact e (by simp only [dv,j];exact a)
  .simp only [Qy] at a;subst a;simp only [ai] at d;simp only [ay];exact jD hs d
  .simp only [Qy] at a;subst a;simp only [ai] at d;simp only [ay];exact jD hs d
  .cases a
 all_goals exact e a
theorem Gj(hs:HS c w h ρ O)(e:∀b,AA c w O b->A' b):∀{vs:List AV} {xs:List T} {us:List Value},az w (AA c w O) ρ vs us->th h vs=some xs->
  (∀i af,O i=some af->A' af)->aS w A' xs us
 | [],xs,us,d,a,_=>by simp only [th,Qy] at a;subst a;simpa [az,aS] using d
 | v::vs,xs,us,d,a,f=>by simp only [th] at a;obtain⟨x,k,a⟩:=Qz.1 a;obtain⟨l,m,a⟩:=Qz.1 a;simp only [Qy] at a;subst a;simp only [az] at d;obtain⟨u,r,rfl,g,j⟩:=d;exact⟨u,r,rfl,PS hs g k e f,Gj hs e j m f⟩
theorem Hq{o:Bool}{v:AV}{u:Value}{q:T×aB}(hs:HS c w h ρ O)(m:ai w (AA c w O) ρ v u)(a:jm true o h v=some q):q.2= []/\ay w (λb=>b < w.heap.size) q.1 u:=by
 have f:∀b,AA c w O b->b < w.heap.size:=λb g=>g.2.1;have d:∀x:T,dv h v=some x->ay w (λb=>b < w.heap.size) x u:=λx n=>lX hs m n f (λi af _ ho=>hs.lt i af ho);cases v
 case ref i off=>
  simp only [jm,cond_true] at a;split at a
  .rename_i cs k;obtain⟨l,hl,a⟩:=Qz.1 a;simp only [Qy] at a;subst a;obtain⟨b,arr,t,z,C,D,p,F⟩:=hs.af i _ k;simp only [ai] at m;obtain⟨E,e,rfl⟩:=m;rw [z] at e;simp only [Qy,R6,RA] at e;obtain⟨rfl,_⟩:=e;refine⟨rfl, ?_⟩;simp only [ay];have y:aS w (λb=>b < w.heap.size) l (arr.toList.drop off):=by
    cases o with
    | true=>exact Gj hs f (p.drop off) hl (λi af ho=>hs.lt i af ho)
    | false=>exact aS.mono (λb g=>⟨f b g,rfl⟩) _ _ (aS.kc hl (p.drop off))
   refine⟨b,off,rfl, .inr (hs.lt i b C),aZ.ke y (λj v r=> ?_)⟩;rw [Sz] at r;simp only [World.cell?,D];simpa using r
  .rename_i l k;simp only [Qy] at a;subst a;exact⟨rfl,d _ (by simp [dv,k])⟩
  .simp at a
 all_goals
  simp only [jm] at a;obtain⟨x,n,a⟩:=Qz.1 a;simp only [cond_true,Qy] at a;subst a;exact⟨rfl,d _ n⟩
theorem Hr{m:Bool}{v:AV}{u:Value}{q:T×aB}(hs:HS c w h ρ O)(y:ai w (AA c w O) ρ v u)(a:jm false m h v=some q):
  fO h q.2/\∀O',Le w ρ O w ρ O'->(∀i,O' i=O i\/O' i=none)->(∀p∈q.2,O' p.1=none)->ay w (AA c w O') q.1 u:=by
 have k:∀x:T,dv h v=some x->q= (x,gv h v)->fO h q.2/\∀O',Le w ρ O w ρ O'->(∀i,O' i=O i\/O' i=none)->(∀p∈q.2,O' p.1=none)->ay w (AA c w O') q.1 u:=by
  intro x d e;subst e;refine⟨sb v,λO' le l o=>lX hs y d (λb n=>(le.A b n).1) (λi af r ho=> ?_)⟩;obtain⟨p,t,e⟩:=uT hs d r ho;refine⟨.inr (hs.own i af ho),hs.lt i af ho,λj f=> ?_⟩;rcases l j with g | g
  .rw [g] at f;have:=hs.inj j i af f ho;subst this;have:=o p t;rw [e,g,f] at this;cases this
  .rw [g] at f;cases f
 cases v
 case ref i off=>simp only [jm,cond_false] at a;obtain⟨x,d,a⟩:=Qz.1 a;simp only [Qy] at a;exact k x d a.symm
 all_goals
  simp only [jm] at a;obtain⟨x,d,a⟩:=Qz.1 a;simp only [cond_false,Qy] at a;exact k x d a.symm
def ic(c:Ctx)(w:World)(h:Id->Option ad)(ρ:Id->Option Value)(O:Id->Option Nat)(a:Bool)(us:aB)(Q:(Nat->Prop)->Prop):Prop:=
 (a=true->us= []/\Q (λb=>b < w.heap.size))/\
 (a=false->fO h us/\∀O',Le w ρ O w ρ O'->(∀i,O' i=O i\/O' i=none)->(∀p∈us,O' p.1=none)->Q (AA c w O'))
theorem AK{a f:Bool}{v:AV}{u:Value}{q:T×aB}(hs:HS c w h ρ O)(d:ai w (AA c w O) ρ v u)(b:jm a f h v=some q):ic c w h ρ O a q.2 (λA=>ay w A q.1 u):=
 ⟨λe=>by subst e;exact Hq hs d b,λe=>by subst e;exact Hr hs d b⟩
theorem ic.append{g:Bool}{us vs:aB}{j k Q:(Nat->Prop)->Prop}(l:ic c w h ρ O g us j)(m:ic c w h ρ O g vs k)(q:∀A,j A->k A->Q A):ic c w h ρ O g (us++vs) Q:=by
 refine⟨λe=> ?_,λe=> ?_⟩
 .obtain⟨a,b⟩:=l.1 e;obtain⟨d,f⟩:=m.1 e;exact⟨by rw [a,d];rfl,q _ b f⟩
 .obtain⟨a,b⟩:=l.2 e;obtain⟨d,f⟩:=m.2 e;exact⟨a.append d,λO' le n o=>q _ (b O' le n (λp i=>o p (QQ _ i))) (f O' le n (λp i=>o p (QP _ i)))⟩
theorem ic.nil{b:Bool}{Q:(Nat->Prop)->Prop}(a:∀A,Q A):ic c w h ρ O b [] Q:=⟨λ_=>⟨rfl,a _⟩,λ_=>⟨(by intro p d;cases d),λ_ _ _ _=>a _⟩⟩
theorem ic.imp{d:Bool}{us:aB}{b Q:(Nat->Prop)->Prop}(a:ic c w h ρ O d us b)(f:∀A,b A->Q A):ic c w h ρ O d us Q:=
 ⟨λe=>⟨(a.1 e).1,f _ (a.1 e).2⟩,λe=>⟨(a.2 e).1,λO' le g i=>f _ ((a.2 e).2 O' le g i)⟩⟩
theorem tW{f i:Bool}(hs:HS c w h ρ O):∀{vs:List AV} {us:List Value} {q:List T×aB},az w (AA c w O) ρ vs us->lC f i h vs=some q->ic c w h ρ O f q.2 (λA=>aS w A q.1 us)
 | [],us,q,e,d=>by simp only [az] at e;subst e;simp only [lC,Qy] at d;subst d;exact ic.nil λ_=>rfl
 | v::vs,us,q,e,d=>by simp only [az] at e;obtain⟨u,r,rfl,j,k⟩:=e;simp only [lC] at d;obtain⟨p,l,d⟩:=Qz.1 d;obtain⟨m,g,d⟩:=Qz.1 d;simp only [Qy] at d;subst d;exact(AK hs j l).append (tW hs k g) λA a b=>⟨u,r,rfl,a,b⟩
theorem AO{k m:Bool}(hs:HS c w h ρ O){v:AV}{u:Value}{q:AV×aB}(g:ai w (AA c w O) ρ v u)(d:kA k m h v=some q):ic c w h ρ O k q.2 (λA=>ai w A (λ_=>none) q.1 u):=by
 cases v
 case fn f a b=>simp only [ai] at g;obtain⟨o,r,rfl,i,j⟩:=g;simp only [kA] at d;obtain⟨p,e,d⟩:=Qz.1 d;obtain⟨t,l,d⟩:=Qz.1 d;simp only [Qy] at d;subst d;refine(tW hs i e).append (tW hs j l) λA a b=> ?_;simp only [ai];exact⟨o,r,rfl,az.kR a,az.kR b⟩
 case agg vs=>simp only [ai] at g;obtain⟨n,rfl,i,j⟩:=g;simp only [kA] at d;obtain⟨p,e,d⟩:=Qz.1 d;simp only [Qy] at d;subst d;refine(tW hs i e).imp λA a=> ?_;simp only [ai];exact⟨n,rfl,az.kR a,j⟩
 all_goals
  simp only [kA] at d;obtain⟨p,e,d⟩:=Qz.1 d;simp only [Qy] at d;subst d;refine(AK hs g e).imp λA a=> ?_;simpa [ai] using a
theorem AQ{f i:Bool}(hs:HS c w h ρ O):∀{vs:List AV} {us:List Value} {q:List AV×aB},az w (AA c w O) ρ vs us->kB f i h vs=some q->ic c w h ρ O f q.2 (λA=>az w A (λ_=>none) q.1 us)
 | [],us,q,e,d=>by simp only [az] at e;subst e;simp only [kB,Qy] at d;subst d;exact ic.nil λ_=>by simp [az]
 | v::vs,us,q,e,d=>by simp only [az] at e;obtain⟨u,r,rfl,j,k⟩:=e;simp only [kB] at d;obtain⟨p,l,d⟩:=Qz.1 d;obtain⟨m,g,d⟩:=Qz.1 d;simp only [Qy] at d;subst d;refine(AO hs j l).append (AQ hs k g) λA a b=> ?_;simp only [az];exact⟨u,r,rfl,a,b⟩
theorem ay.flat{x:T}{v:Value}(a:x.oR =some ())(h:ay w A x v):ay w A' x v:=by cases x <;> simp only [T.oR,reduceCtorEq] at a <;> simpa [ay] using h
theorem fe.flat:∀{rs:List ca} {xs:List T} {vs:List Value} {own:List Nat},(rs.all λr=>match r with | .f _=>true | _=>false)=true->fe B w A rs xs vs own->fe B w A' rs xs vs own/\own= []
 | [],_,_,_,_,h=>⟨h,h.2.2⟩
 | r::rs,xs,vs,own,a,h=>by simp only [RX,QF] at a;obtain⟨x,e,v,d,ob,l,rfl,rfl,rfl,i,j⟩:=h;obtain⟨g,rfl⟩:=fe.flat a.2 j;cases r <;> simp only [Q9,false_and] at a;obtain⟨b,k,rfl⟩:=i;exact⟨⟨x,e,v,d,[],[],rfl,rfl,rfl,⟨b,k.flat b,rfl⟩,g⟩,rfl⟩
theorem dC.flat:∀{rs:List ca} {xs:List T} {vs:List Value} {own:List Nat},rs.all qu=true->dC B w A rs xs vs own->dC B w A' rs xs vs own/\own= []
 | [],_,_,_,_,h=>⟨h,h.2.2⟩
 | r::rs,xs,vs,own,a,h=>by
  simp only [RX,QF] at a;cases r <;> simp only [qu,Q9,false_and] at a
  case f=>obtain⟨x,j,v,b,ob,n,rfl,rfl,rfl,e,g⟩:=h;obtain⟨d,rfl⟩:=dC.flat a.2 g;obtain⟨i,m,rfl⟩:=e;exact⟨⟨x,j,v,b,[],[],rfl,rfl,rfl,⟨i,m.flat i,rfl⟩,d⟩,rfl⟩
  case agg l=>obtain⟨p,x2,o,b,o1,o2,rfl,rfl,rfl,e,g⟩:=h;obtain⟨d,rfl⟩:=dC.flat a.2 g;obtain⟨k,rfl⟩:=fe.flat a.1 e;exact⟨⟨p,x2,o,b,[],[],rfl,rfl,rfl,k,d⟩,rfl⟩
theorem jk.mono{r:ca}{x:T}{v:Value}{ob:List Nat}(g:∀b,A b->A' b)(h:jk B w A r x v ob):jk B w A' r x v ob:=by
 have mT:∀x v,ay w A x v->ay w A' x v:=λx v=>ay.mono (λb a=>⟨g b a,rfl⟩) x v;cases r with
 | f k=>exact⟨h.1,mT _ _ h.2.1,h.2.2⟩
 | t k=>exact⟨mT _ _ h.1,h.2⟩
 | own sz=>obtain⟨o,p,h0,d,e⟩:=h;exact⟨o,p,h0,d,e.mono (λb a=>⟨g b a,rfl⟩) (λb a=>⟨a,rfl⟩)⟩
 | rows sz col rsz=>obtain⟨b,es,i,j,m,h0,d,e⟩:=h;exact⟨b,es,i,j,m,h0,cP.mono (λn=>⟨rfl,rfl,λ_ _=>rfl⟩) (λb a=>⟨g b a,rfl⟩) (λ_ _ h=>h) rfl (λ_ _=>rfl) d,e⟩
 | ref k off=>exact h
 | same k=>exact h
 | no=>exact h
 | mp ag ks vk=>exact h
 | agg l=>exact h.elim
 | new l=>exact h.elim
theorem fe.mono(d:∀b,A b->A' b):∀{rs:List ca} {xs:List T} {vs:List Value} {own:List Nat},fe B w A rs xs vs own->fe B w A' rs xs vs own
 | [],_,_,_,h=>h
 | r::rs,xs,vs,own,h=>by obtain⟨x,f,v,e,ob,a,rfl,rfl,rfl,g,i⟩:=h;exact⟨x,f,v,e,ob,a,rfl,rfl,rfl,g.mono d,fe.mono d i⟩
theorem dC.mono(d:∀b,A b->A' b):∀{rs:List ca} {xs:List T} {vs:List Value} {own:List Nat},dC B w A rs xs vs own->dC B w A' rs xs vs own
 | [],_,_,_,h=>h
 | r::rs,xs,vs,own,h=>by
  cases r with
  | agg l=>obtain⟨i,x2,n,a,o1,o2,rfl,rfl,rfl,e,f⟩:=h;exact⟨i,x2,n,a,o1,o2,rfl,rfl,rfl,e.mono d,dC.mono d f⟩
  | new l=>obtain⟨i,x2,m,arr,ty,a,o1,o2,rfl,rfl,rfl,j,e,f⟩:=h;exact⟨i,x2,m,arr,ty,a,o1,o2,rfl,rfl,rfl,j,e.mono d,dC.mono d f⟩
  | _=>obtain⟨x,k,v,a,ob,g,rfl,rfl,rfl,e,f⟩:=h;exact⟨x,k,v,a,ob,g,rfl,rfl,rfl,e.mono d,dC.mono d f⟩
theorem GL{R:Type}{d:Nat}{rs:List ca}{xs:List T}{bn:List Value}{own:List Nat}{K:List AV->aB->Nat->Option R}{res:R}(J:cc=none\/cc=some true)(hs:HS c w h ρ O)(f:tQ w w')(E:own.Nodup)(g:∀b∈own,w.heap.size<=b/\b < w'.heap.size)
  (D:dC (λ_=>none) w' (λb=>(c.A0 b\/c.MO b)/\b < w'.heap.size/\b∉own/\∀i,O i≠some b) rs xs bn own) (e:dJ [] d cc 0 rs xs K=some res):
  ∃o us j,K o us j=some res/\l6 d 0 j us/\((∀p∈us,h p.1=none)->∃ρ' O',Le w ρ O w' ρ' O'/\HS c w' (aJ h us) ρ' O'/\az w' (AA c w' O') ρ' o bn):=by
 obtain⟨o,us,j,e,_,x,L⟩:=rW (c:=c) J D e;refine⟨o,us,j,e,x,λu=> ?_⟩;have I:∀b,AA c w O b->((c.A0 b\/c.MO b)/\b < w'.heap.size/\b∉own/\∀i,O i≠some b)/\w'.heap[b]? =w.heap[b]?:=by intro b a;refine⟨⟨a.1,RC a.2.1 f.size,λhm=> ?_,a.2.2⟩,f.af b a.2.1⟩;have:=(g b hm).1;have:=a.2.1;omega
 have G:fP c w' (λb=>(c.A0 b\/c.MO b)/\b < w'.heap.size/\b∉own/\∀i,O i≠some b) h ρ O:=
  ⟨λi b a=>cP.mono (λn=>⟨rfl,rfl,λb a=>f.af b (hs.lt _ b a)⟩) I (λ_ _ h=>h) rfl (λb a=>f.af b (hs.lt i b a)) (hs.af i b a),hs.cw,hs.dG,hs.fm,hs.gone,hs.inj,λi b a=>RC (hs.lt i b a) f.size,hs.own,Rt hs.size f.size,yr (λb a=>f.af b (RC a (Rt hs.glob.2.1 hs.size))) hs.glob.1,hs.glob.2⟩
 obtain⟨ρ',O',m,F,q,r⟩:=L h ρ O (by intro k i v e;simp at e) G E (λb a=>⟨(g b a).2, .inr (Rt hs.size (g b a).1),λi l=>by have:=hs.lt i b l;have:=(g b a).1;omega⟩) u;have y:∀b,((c.A0 b\/c.MO b)/\b < w'.heap.size/\b∉own/\∀i,O i≠some b)↔AA c w' O' b:=by
  intro b;constructor
  .rintro⟨z,C,t,H⟩;refine⟨z,C,λi l=> ?_⟩;rcases(r b).1 ⟨i,l⟩ with⟨k,e⟩ | e
   .exact H k e
   .exact t e
  .rintro⟨z,C,t⟩;refine⟨z,C,λhm=> ?_,λi l=> ?_⟩
   .obtain⟨i,l⟩:=(r b).2 (.inr hm);exact t i l
   .obtain⟨k,e⟩:=(r b).2 (.inl ⟨i,l⟩);exact t k e
 refine⟨ρ',O',⟨f.os,f.output,f.tape,f.size,m,λk e _=>f.af k e,λi b l=> ?_⟩,F.GS y, ?_⟩
 .rcases(r b).1 ⟨i,l⟩ with e | e
  .exact .inl e
  .exact .inr (g b e).1
 .exact az.mono (λb a=>⟨(y b).1 a,rfl⟩) (λ_ _ h=>h) _ _ q
theorem qc{d:Type}{a b:List d}{n:Nat}(h:a.length=n):(a++b).drop n=b:=by rw [<-h,TL]
theorem rX{R:Type}{all:List Id}{d:Nat}:∀{outs:List jg} {Y:List Id} {j jj:Nat} {xs:List T} {own:List Nat} {K:aB->Option R} {res:R},mV B w A jj outs xs own->fH all d j Y outs xs K=some res->
  ∃us,K us=some res/\(∀p∈us,(∃k,j<=k/\p.1= .s d k)\/p.1∈Y)/\
   ∀h ρ O,tv B all ρ->(∀k i,Y[k]? =some i->h i=some .dead/\∀v,B (jj+k)=some v->ρ i=some v)->fP c w A h ρ O->own.Nodup->(∀b∈own,b < w.heap.size/\c.MO b/\∀i,O i≠some b)->Y.Nodup->
    (∀i∈Y,∀k,i≠ .s d k)->(∀p∈us,∀k,p.1= .s d k->h p.1=none)->
    ∃ρ' O',(∀i u,ρ i=some u->ρ' i=some u)/\fP c w A (aJ h us) ρ' O'/\∀b,(∃i,O' i=some b)↔((∃i,O i=some b)\/b∈own)
 | [],[],j,jj,xs,own,K,res,o,a=>by obtain⟨rfl,rfl⟩:=o;simp only [fH] at a;exact⟨[],a,(by intro p f;cases f),λh ρ O _ _ hs _ _ _ _ _=>⟨ρ,O,λ_ _ h=>h,hs,λb=>by simp⟩⟩
 | [],_::_,j,jj,xs,own,K,res,o,a=>by simp [fH] at a
 | r::outs,[],j,jj,xs,own,K,res,o,a=>by cases r <;> simp [fH] at a
 | .dead::outs,i::Y,j,jj,xs,own,K,res,o,a=>by
  simp only [fH] at a;obtain⟨us,a,y,tk⟩:=rX (jj:=jj+1) o a;refine⟨us,a,λp f=>(y p f).imp id (QB _),λh ρ O L U hs Q n G C q=> ?_⟩;exact tk h ρ O L (λk i a=>by
   have:=U (k+1) i (by simpa using a);rw [show jj+ (k+1)=jj+1+k by omega] at this;exact this) hs Q n (RN.1 G).2 (λi X=>C i (QB _ X)) q
 | .mp ag ks vk::outs,i::Y,j,jj,xs,own,K,res,o,a=>by
  obtain⟨es,F,ents,clock,x2,o2,rfl,rfl,hB,W,hes,hok,I⟩:=o;obtain⟨ob,hob⟩:∃ob:Option Nat,ob=some F:=⟨_,rfl⟩;rw [show F::o2=ob.toList++o2 by rw [hob];rfl] at *
  simp only [fH,RK,QD,Ss] at a;replace a:=aM a (.inl rfl);obtain⟨p,f,a⟩:=a;rw [Bi] at f;simp only [Qy] at f;subst f;obtain⟨us,a,y,tk⟩:=rX (jj:=jj+1) I a;refine⟨_,a,λp f=> ?_,λh ρ O L U hs Q n G C q=> ?_⟩
  .rcases QN.1 f with rfl | f
   .exact .inr QA
   .exact(y p f).imp id (QB _)
  obtain⟨n1,n2⟩:=RN.1 G;obtain⟨d1,d2⟩:=U 0 i rfl;obtain⟨k1,k2,k3⟩:=R5.1 Q;have V:=hs.zy d1 ob (λb D=>n b (QQ _ (by simp [D]))) (.mp ag ks vk es) ⟨F,ents,clock,d2 _ (by simpa using hB),by rw [aA,hob],W,hes,hok⟩;have Z:O i=none:=(hs.af i _ d1).2;have z:∀b,(∃k,aG O i ob k=some b)↔((∃k,O k=some b)\/b∈ob.toList):=by
   intro b;constructor
   .rintro⟨k,a⟩;by_cases e:k=i
    .rw [e,aA] at a;right;simp [a]
    .rw [au _ _ e] at a;exact .inl ⟨k,a⟩
   .rintro(⟨k,a⟩ | a)
    .by_cases e:k=i
     .rw [e,Z] at a;cases a
     .exact⟨k,by rw [au _ _ e];exact a⟩
    .exact⟨i,by rw [aA];simpa using a⟩
  have S:∀b∈o2,b < w.heap.size/\c.MO b/\∀k,aG O i ob k≠some b:=by
   intro b D;obtain⟨M,N,J⟩:=n b (QP _ D);refine⟨M,N,λi' hi'=> ?_⟩;rcases(z b).1 ⟨i',hi'⟩ with⟨k,a⟩ | a
   .exact J k a
   .exact k3 b a b D rfl
  have H:∀p∈us,∀k,p.1= .s d k->aG h i (some (.mp ag ks vk es)) p.1=none:=by intro p f k e;have E:p.1≠i:=λe'=>C i QA k (by rw [<-e',e]);rw [au _ _ E];exact q p (QB _ f) k e
  obtain⟨ρ',O',m,hs',rng⟩:=tk (aG h i (some (.mp ag ks vk es))) ρ (aG O i ob) L (λk i' a=>by
    have:=U (k+1) i' (by simpa using a);rw [show jj+ (k+1)=jj+1+k by omega] at this;refine⟨?_,this.2⟩;have E:i'≠i:=λe=>n1 (by rw [<-e];exact QH a);rw [au _ _ E];exact this.1) V k2 S n2 (λi X=>C i (QB _ X)) H
  refine⟨ρ',O',m,hs',λb=> ?_⟩;rw [rng b,z b,QR,or_assoc]
 | .sl sz::outs,i::Y,j,jj,xs,own,K,res,o,a=>by
  obtain⟨bb,l,x2,ob,v,o2,rfl,rfl,hB,hsl,I⟩:=o;simp only [fH,RK,QD,Ss] at a;replace a:=aM a (.inl rfl);obtain⟨p,f,a⟩:=a;simp only [T.an,if_true,Qy] at f;subst f;obtain⟨us,a,y,tk⟩:=rX (jj:=jj+1) I a;refine⟨_,a,λp f=> ?_,λh ρ O L U hs Q n G C q=> ?_⟩
  .rcases QN.1 f with rfl | f
   .exact .inr QA
   .exact(y p f).imp id (QB _)
  obtain⟨n1,n2⟩:=RN.1 G;obtain⟨d1,d2⟩:=U 0 i rfl;obtain⟨k1,k2,k3⟩:=R5.1 Q;have V:=hs.zy d1 ob (λb D=>n b (QQ _ (by simp [D]))) (.sl false sz bb l) ⟨v,d2 v (by simpa using hB),by simpa using hsl,by simp⟩;have Z:O i=none:=(hs.af i _ d1).2;have z:∀b,(∃k,aG O i ob k=some b)↔((∃k,O k=some b)\/b∈ob.toList):=by
   intro b;constructor
   .rintro⟨k,a⟩;by_cases e:k=i
    .rw [e,aA] at a;right;simp [a]
    .rw [au _ _ e] at a;exact .inl ⟨k,a⟩
   .rintro(⟨k,a⟩ | a)
    .by_cases e:k=i
     .rw [e,Z] at a;cases a
     .exact⟨k,by rw [au _ _ e];exact a⟩
    .exact⟨i,by rw [aA];simpa using a⟩
  have S:∀b∈o2,b < w.heap.size/\c.MO b/\∀k,aG O i ob k≠some b:=by
   intro b D;obtain⟨M,N,J⟩:=n b (QP _ D);refine⟨M,N,λi' hi'=> ?_⟩;rcases(z b).1 ⟨i',hi'⟩ with⟨k,a⟩ | a
   .exact J k a
   .exact k3 b a b D rfl
  have H:∀p∈us,∀k,p.1= .s d k->aG h i (some (.sl false sz bb l)) p.1=none:=by intro p f k e;have E:p.1≠i:=λe'=>C i QA k (by rw [<-e',e]);rw [au _ _ E];exact q p (QB _ f) k e
  obtain⟨ρ',O',m,hs',rng⟩:=tk (aG h i (some (.sl false sz bb l))) ρ (aG O i ob) L (λk i' a=>by
    have:=U (k+1) i' (by simpa using a);rw [show jj+ (k+1)=jj+1+k by omega] at this;refine⟨?_,this.2⟩;have E:i'≠i:=λe=>n1 (by rw [<-e];exact QH a);rw [au _ _ E];exact this.1) V k2 S n2 (λi X=>C i (QB _ X)) H
  refine⟨ρ',O',m,hs',λb=> ?_⟩;rw [rng b,z b,QR,or_assoc]
 | .box l::outs,i::Y,j,jj,xs,own,K,res,o,a=>by
  obtain⟨x1,x2,F,arr,t,o1,o2,rfl,rfl,hB,W,hL,I⟩:=o;simp only [fH] at a;obtain⟨av,us1,j1,a,hj,n1',t1⟩:=uo (c:=c) (ids:=all) (.inl rfl) hL a;rw [qc hL.length] at a;obtain⟨us2,a,y,tk⟩:=rX (jj:=jj+1) I a;refine⟨_,a,λp f=> ?_,λh ρ O L U hs Q n G C q=> ?_⟩
  .rcases QR.1 f with f | f
   .obtain⟨k,M,N,J⟩:=n1' p f;exact .inl ⟨k,M,J⟩
   .rcases QN.1 f with rfl | f
    .exact .inr QA
    .rcases y p f with⟨k,M,N⟩ | g
     .exact .inl ⟨k,by omega,N⟩
     .exact .inr (QB _ g)
  obtain⟨n1,n2⟩:=RN.1 G;obtain⟨d1,d2⟩:=U 0 i rfl;obtain⟨q1,q2⟩:=RN.1 Q;obtain⟨k1,k2,k3⟩:=R5.1 q2;have not1:∀x,(∀k,x≠ .s d k)->aJ h us1 x=h x:=λx hx=>dr λp f e=>by obtain⟨k,_,_,J⟩:=n1' p f;exact hx k (by rw [<-e,J])
  obtain⟨ρ1,O1,m1,V,v1,z⟩:=t1 h ρ O L hs k1 (λb D=>n b (QB _ (QQ _ D))) (λp f=>by
   obtain⟨k,_,_,J⟩:=n1' p f;exact q p (QQ _ f) k J)
  have hdi:aJ h us1 i=some .dead:=by rw [not1 i (C i QA)];exact d1
  have fresh0:∀k,O1 k≠some F:=by
   intro k a;rcases(z F).1 ⟨k,a⟩ with⟨k',hk'⟩ | hk'
   .exact(n F QA).2.2 k' hk'
   .exact q1 (QQ _ hk')
  have hs2:=V.zy hdi (some F) (λb D=>by
   simp only [Qy] at D;subst D;obtain⟨M,N,_⟩:=n F QA;exact⟨M,N,fresh0⟩) (.box av) ⟨F,arr,t,m1 _ _ (d2 _ (by simpa using hB)),aA _ _ _,W,v1,hL.one⟩
  have Z:O1 i=none:=(V.af i _ hdi).2;have rng2:∀b,(∃k,aG O1 i (some F) k=some b)↔((∃k,O k=some b)\/b∈F::o1):=by
   intro b;constructor
   .rintro⟨k,a⟩;by_cases e:k=i
    .rw [e,aA] at a;cases a;exact .inr QA
    .rw [au _ _ e] at a;rcases(z b).1 ⟨k,a⟩ with g | g
     .exact .inl g
     .exact .inr (QB _ g)
   .intro a;have lift:(∃k,O1 k=some b)->∃k,aG O1 i (some F) k=some b:=by
     rintro⟨k,a⟩;by_cases e:k=i
     .rw [e,Z] at a;cases a
     .exact⟨k,by rw [au _ _ e];exact a⟩
    rcases a with a | a
    .exact lift ((z b).2 (.inl a))
    .rcases QN.1 a with rfl | a
     .exact⟨i,aA _ _ _⟩
     .exact lift ((z b).2 (.inr a))
  have S:∀b∈o2,b < w.heap.size/\c.MO b/\∀k,aG O1 i (some F) k≠some b:=by
   intro b D;obtain⟨M,N,J⟩:=n b (QB _ (QP _ D));refine⟨M,N,λi' hi'=> ?_⟩;rcases(rng2 b).1 ⟨i',hi'⟩ with⟨k,a⟩ | a
   .exact J k a
   .rcases QN.1 a with rfl | a
    .exact q1 (QP _ D)
    .exact k3 b a b D rfl
  have H:∀p∈us2,∀k,p.1= .s d k->aG (aJ h us1) i (some (.box av)) p.1=none:=by
   intro p f k e;have E:p.1≠i:=λe'=>C i QA k (by rw [<-e',e]);rw [au _ _ E];rw [dr (λp' hp' e'=> ?_)]
   .exact q p (QP _ (QB _ f)) k e
   .obtain⟨k',M,N,J⟩:=n1' p' hp';rcases y p f with⟨k'',g4,g5⟩ | g
    .rw [J,g5] at e';simp only [Id.s.injEq] at e';omega
    .exact C p.1 (QB _ g) k e
  obtain⟨ρ',O',m,hs',rng⟩:=tk (aG (aJ h us1) i (some (.box av))) ρ1 (aG O1 i (some F)) (λk i v e1 e2=>m1 i v (L k i v e1 e2)) (λk i' a=>by
    have hm:=QH a;have:=U (k+1) i' (by simpa using a);rw [show jj+ (k+1)=jj+1+k by omega] at this;refine⟨?_,λv hv=>m1 _ _ (this.2 v hv)⟩;have E:i'≠i:=λe=>n1 (by rw [<-e];exact hm);rw [au _ _ E,not1 i' (C i' (QB _ hm))];exact this.1) hs2 k2 S n2 (λi X=>C i (QB _ X)) H
  refine⟨ρ',O',λi u X=>m i u (m1 i u X),by rw [lr,cM];exact hs',λb=> ?_⟩;rw [rng b,rng2 b,QN,QN,QR];simp only [or_assoc]
theorem AM{dL:List Id}(hs:HS c w h ρ O):∀{g:List Bool} {vs:List AV} {us:List Value} {q:List AV×aB},az w (AA c w O) ρ vs us->lD h dL g vs=some q->
  fO h q.2/\∀O',Le w ρ O w ρ O'->(∀i,O' i=O i\/O' i=none)->(∀p∈q.2,O' p.1=none)->az w (AA c w O') ρ q.1 us
 | g,[],us,q,f,d=>by simp only [az] at f;subst f;simp only [lD,Qy] at d;subst d;exact⟨(by intro p a;cases a),λ_ _ _ _=>by simp [az]⟩
 | g,v::vs,us,q,f,d=>by
  simp only [az] at f;obtain⟨u,r,rfl,n,z⟩:=f;simp only [lD] at d;obtain⟨p,a,d⟩:=Qz.1 d;obtain⟨E,o,d⟩:=Qz.1 d;simp only [Qy] at d;subst d;obtain⟨t,y⟩:=AM hs z o;have one:fO h p.2/\∀O',Le w ρ O w ρ O'->(∀i,O' i=O i\/O' i=none)->(∀x∈p.2,O' x.1=none)->ai w (AA c w O') ρ p.1 u:=by
   unfold rO at a;cases e:(g.headD false || (!v.ids.isEmpty && v.ids.all dL.contains)) with
   | true=>rw [e] at a;simp only [cond_true,Qy] at a;subst a;exact⟨(by intro p a;cases a),λO' le _ _=>ai.mono (λb l=>le.A b l) (λ_ _ h=>h) _ _ n⟩
   | false=>rw [e] at a;simp only [cond_false] at a;obtain⟨C,D⟩:=(AO hs n a).2 rfl;exact⟨C,λO' le j k=>ai.mono (λb l=>⟨l,rfl⟩) (by intro i v h;cases h) _ _ (D O' le j k)⟩
  refine⟨one.1.append t,λO' le j k=> ?_⟩;simp only [az];exact⟨u,r,rfl,one.2 O' le j (λx m=>k x (QQ _ m)),y O' le j (λx m=>k x (QP _ m))⟩
theorem dC.length:∀{rs:List ca} {xs:List T} {vs:List Value} {own:List Nat},dC B w A rs xs vs own->xs.length=lW rs
 | [],_,_,_,⟨rfl,_,_⟩=>rfl
 | r::rs,xs,vs,own,h=>by
  cases r with
  | agg l=>obtain⟨f,x2,k,d,o1,o2,rfl,rfl,rfl,b,a⟩:=h;simp [lW,ca.size,b.length,dC.length a]
  | new l=>obtain⟨f,x2,j,arr,ty,d,o1,o2,rfl,rfl,rfl,g,b,a⟩:=h;simp [lW,ca.size,b.length,dC.length a]
  | _=>obtain⟨x,i,v,d,ob,e,rfl,rfl,rfl,b,a⟩:=h;simp [lW,ca.size,dC.length a];omega
theorem Ie{R:Type}{d:Nat}:∀{rs:List ca} {e x2:List T} {j:Nat} {vs:List Value} {own:List Nat} {K:List AV->aB->Nat->Option R},dC B w A rs e vs own->
  dJ ids d cc j rs (e++x2) K=dJ ids d cc j rs e K:=by
 have one:∀{l:List ca} {e x2:List T} {j:Nat} {vs:List Value} {own:List Nat} {K:List AV->aB->Nat->Option R},fe B w A l e vs own->jr ids d cc j l (e++x2) K=jr ids d cc j l e K:=by
  intro l;induction l with
  | nil=>intro e x2 j vs own K h;rfl
  | cons r l p=>intro e x2 j vs own K h;obtain⟨x,o,v,g,ob,m,rfl,rfl,rfl,i,n⟩:=h;simp only [jr,Rs,RK,Ss];congr 1;funext y;congr 1;funext v u j;exact p n
 intro rs;induction rs with
 | nil=>intro e x2 j vs own K h;rfl
 | cons r rs p=>
  intro e x2 j vs own K h
  have a:(∃x o v g ob m,e=x::o/\vs=v::g/\own=ob++m/\jk B w A r x v ob/\dC B w A rs o g m)->
    (aa cc (e++x2).head? λx=>lF ids d cc j r x λv u j=>dJ ids d cc j rs (e++x2).tail λvs us j=>K (v::vs) (u++us) j)=
    aa cc e.head? λx=>lF ids d cc j r x λv u j=>dJ ids d cc j rs e.tail λvs us j=>K (v::vs) (u++us) j:=by
   rintro⟨x,o,v,g,ob,m,rfl,rfl,rfl,i,n⟩;simp only [Rs,RK,Ss];congr 1;funext y;congr 1;funext v u j;exact p n
  cases r with
  | agg l=>obtain⟨z,q,E,g,o1,o2,rfl,rfl,rfl,i,n⟩:=h;simp only [dJ];have hl:=i.length;rw [Q6,one i,one (x2:=q) i];congr 1;funext v u j;rw [qc hl,qc hl];exact p n
  | f k=>exact a h
  | t k=>exact a h
  | own sz=>exact a h
  | rows sz col rsz=>exact a h
  | mp ag ks vk=>exact a h
  | new l=>
   obtain⟨z,q,D,arr,ty,g,o1,o2,rfl,rfl,rfl,C,i,n⟩:=h;have hl:=i.length;cases cc with
   | some b=>simp only [dJ]
   | none=>
   simp only [dJ];rw [Q6,one i,one (x2:=q) i];congr 1;funext v u j;rw [qc hl,qc hl];exact p n
  | ref k off=>exact a h
  | same k=>exact a h
  | no=>exact a h
theorem uk{l:List Id}{h:Id->Option ad}{i:Id}(a:i∈l):aJ h (jq l) i=some .dead:=by
 induction l generalizing h with
 | nil=>cases a
 | cons j l f=>
  show aJ (aG h j (some .dead)) (jq l) i=some .dead;by_cases hm:i∈l
  .exact f hm
  .have:i=j:=by
    rcases QN.1 a with h | h
    .exact h
    .exact(hm h).elim
   subst this;rw [dr (λp d e=> ?_),aA];obtain⟨k,b,rfl⟩:=Rb.1 d;exact hm (e▸b)
theorem rU{l:List Id}{h:Id->Option ad}{i:Id}(a:i∉l):aJ h (jq l) i=h i:=by refine dr λp d e=> ?_;obtain⟨k,b,rfl⟩:=Rb.1 d;exact a (e▸b)
theorem Np{d:Nat}{l:List Id}(h:vE d l=true):∀i∈l,∀k,i≠ .s d k:=by intro i a k e;have:=QU.1 h i a;subst e;simp at this
theorem A7{R:Type}{An:cA}{Or:aq}(hO:iQ P An Or){d:Nat}{f:FuncId}{args:List AV}{bn:List Value}{K:AV->aB->Option R}{r:R}(hc:cc=none\/cc=some true)(hs:HS c w s.h ρ O)(hv:az w (AA c w O) ρ args bn)
  (a:fR P An Or s d cc f args K=some r):
  ∃v us fn Q,K v us=some r/\P.funcs[f]? =some fn/\fn.body=some Q/\fn.name≠ "runtime.NumGoroutine" /\
   (gW d s.h us=true->Calls P f bn.toArray w λe w'=>∃x,e= .returned x/\∃ρ' O',Le w ρ O w' ρ' O'/\HS c w' (aJ s.h us) ρ' O'/\ai w' (AA c w' O') ρ' v x):=by
 unfold fR at a;split at a
 .simp at a
 rename_i fn hfn;split at a
 .rename_i hbref;replace a:=Qz.1 a;obtain⟨p,hp,a⟩:=a;obtain⟨pt,a,Z⟩:=wF hc a;replace a:=aM a (.inl rfl);obtain⟨xs,hxs,a⟩:=a;replace hxs:Or (.call f) pt []=some xs:=by rcases hc with rfl | rfl <;> exact hxs
  obtain⟨fn',Q,U,V,X,C⟩:=hO f pt [] xs hxs;rw [hfn] at U;simp only [Qy] at U;subst U;have C:=C.values hbref;have ok:=AQ hs hv hp;rw [show dJ [] d cc 0 (de P An f 0 fn) xs (λvs u _=>K (kV vs) (p.2++u))= (dJ [] d cc 0 (de P An f 0 fn) xs (λvs u j=>some (vs,u,j))).bind (λq=>K (kV q.1) (p.2++q.2.1)) from by rw [oH];rfl] at a;replace a:=Qz.1 a;obtain⟨q,hq,a⟩:=a;refine⟨_,_,fn,Q,a,hfn,V,X,λW=> ?_⟩;have hfree':∀k,(∃b,(Id.s d k,b)∈q.2.1)->s.h (.s d k)=none:=by rintro k ⟨b,o⟩;have:=QU.1 W _ (QP _ o);simpa using this
  cases hfl:(de P An f 0 fn).all qu with
  | true=>
   obtain⟨hp2,S⟩:=ok.1 hfl;refine(C _ w bn (λb o=>o) (Z _ _ _ _ S) hs.ok).mono λe w' Y=> ?_;obtain⟨rs,own,rfl,L,hnd,D,J⟩:=Y;obtain⟨J,rfl⟩:=J.flat (A':=λb=>(c.A0 b\/c.MO b)/\b < w'.heap.size/\b∉([]:List Nat)/\∀i,O i≠some b) hfl;obtain⟨avs,us,j,hq',names,tk⟩:=GL hc hs L hnd D J hq;simp only [Qy] at hq';subst hq';obtain⟨ρ',O',le,hs',hv'⟩:=tk (λp hp=>by
    obtain⟨k,_,_,e⟩:=names p hp;rw [e];exact hfree' k ⟨p.2,by rw [<-e];exact hp⟩)
   refine⟨_,rfl,ρ',O',le, ?_,zu hv'⟩;rw [hp2];exact hs'
  | false=>
   obtain⟨hfz,S⟩:=ok.2 hfl;obtain⟨O1,cn,hs1,hO1,hf1,_⟩:=hs.oT hfz;refine(C _ w bn (λb o=>o.2.1) (Z _ _ _ _ (S O1 cn hO1 hf1)) hs.ok).mono λe w' Y=> ?_;obtain⟨rs,own,rfl,L,hnd,D,J⟩:=Y;have J:=J.mono (A':=λb=>(c.A0 b\/c.MO b)/\b < w'.heap.size/\b∉own/\∀i,O1 i≠some b) (by
    rintro b ⟨h1 | h1,E,h3⟩
    .exact⟨h1.1,E,h3,h1.2.2⟩
    .exact⟨.inr (.inr (Rt hs.size h1)),E,h3,λi t=>by have:=hs1.lt i b t;omega⟩)
   obtain⟨avs,us,j,hq',names,tk⟩:=GL hc hs1 L hnd D J hq;simp only [Qy] at hq';subst hq';obtain⟨ρ',O',le,hs',hv'⟩:=tk (λp' hp'=>by
    obtain⟨k,_,_,e⟩:=names p' hp';have hn:=hfree' k ⟨p'.2,by rw [<-e];exact hp'⟩;rw [dr (λx F ex=> ?_),e]
    .exact hn
    .have E:=hfz x F;rw [ex,e,hn] at E;rcases E with⟨sz,b,l,_,E⟩ | ⟨l,_,E⟩ <;> simp at E)
   exact⟨_,rfl,ρ',O',cn.trans le,by rw [lr];exact hs',zu hv'⟩
 .rename_i fl hbref;cases cc with
  | some b=>simp at a
  | none=>
  dsimp only at a;replace a:=Qz.1 a;obtain⟨p,hp,a⟩:=a;replace a:=Qz.1 a;obtain⟨us,hus,a⟩:=a;replace a:=Qz.1 a;obtain⟨seen,hseen,a⟩:=a;generalize hn0:gu ((bY p.1).head?.bind (aJ s.h p.2))=n0 at a hus;cases N:(vE d seen && Nat.beq (gu (seen.map λi=>gF seen (aJ (aJ s.h p.2) us i)).head?) n0) with
  | false=>rw [N] at a;simp at a
  | true=>
  rw [N,cond_true] at a;simp only [QF] at N;obtain⟨hnot,hd0⟩:=N;replace hd0:=Nat.eq_of_beq_eq_true hd0;have hns:=Np hnot;obtain⟨pt,a,Z⟩:=wF (.inl rfl) a;replace a:=aM a (.inl rfl);obtain⟨xs,hxs,a⟩:=a;obtain⟨fn',Q,U,V,X,C⟩:=hO f pt _ xs hxs;rw [hfn] at U;simp only [Qy] at U;subst U;obtain⟨hfz,S⟩:=AM hs hv hp;obtain⟨O1,cn,hs1,hO1,hf1,_⟩:=hs.oT hfz;have hv1:=S O1 cn hO1 hf1;obtain⟨ρ2,I,le2,z⟩:=zl hs1 hus;have hv2:=az.mono (λb o=>le2.A b o) le2.eD _ _ hv1;obtain⟨g1,_,g3,g4,g5⟩:=sX hseen Ta (by simp) (by simp);let c':Ctx:={A0:=AA c w I,M:=λb=>∃i,Of seen i/\I i=some b,N0:=w.heap.size};have hA3:∀b,AA c w I b->AA c' w (ct seen I) b:=λb o=>⟨.inl o,o.2.1,λi t=>by
   obtain⟨k,_,a⟩:=sZ ⟨i,t⟩;exact o.2.2 k a⟩
  have hs3:=z.FA (c':=c') g1 g4 g5 hA3 (λb o=> .inl (sZ o)) (QV _) ⟨Rt z.glob.2.1 z.size,λb o h=>by
   obtain⟨i,_,t⟩:=h;rcases z.own i b t with h | h
   .exact z.glob.2.2 b o h
   .have:=z.glob.2.1;omega⟩
  have hv3:=Z _ _ _ _ (az.rn (m:=seen) hA3 _ _ (λi t=>g3 i t) hv2);have C:=C c' w _ _ bn rfl hs3 hv3;rw [hd0] at C;obtain⟨blks,hblks⟩:∃blks,blks=seen.map λi=>gF seen (aJ (aJ s.h p.2) us i):=⟨_,rfl⟩;obtain⟨E,hh2⟩:∃E,E=aJ (aJ s.h p.2) us:=⟨_,rfl⟩;rw [<-hblks] at C;rw [<-hh2] at z g4 g5;rw [show(dJ seen d none 0 (de P An f n0 fn) xs λvs u j=>fH seen d j seen (gA An f n0) (xs.drop (lW (de P An f n0 fn))) λq=>K (kV vs) (p.2++us++jq seen++u++q))=
   ((dJ seen d none 0 (de P An f n0 fn) xs λvs u j=>some (vs,u,j)).bind λq0=>(fH seen d q0.2.2 seen (gA An f n0) (xs.drop (lW (de P An f n0 fn))) some).bind λq=>K (kV q0.1) (p.2++us++jq seen++q0.2.1++q)) from by
    rw [oH];congr 1;funext vs u j;simp only [QD];rw [uq];rfl] at a
  replace a:=Qz.1 a;obtain⟨⟨avs,u0,j0⟩,hq0,a⟩:=a;replace a:=Qz.1 a;obtain⟨qs,hqs,a⟩:=a;dsimp only at hqs a;refine⟨_,_,fn,Q,a,hfn,V,X,λW=> ?_⟩;refine C.mono ?_;rintro e w' ⟨rs,x1,x2,o1,o2,rfl,L,rfl,hnd,D,J,ho⟩;refine⟨_,rfl, ?_⟩;rw [qc J.length] at hqs;rw [Ie J] at hq0;obtain⟨n1,n2,n3⟩:=R5.1 hnd;have inMO:∀b,c'.MO b->c.MO b:=by
   rintro b (⟨i,_,t⟩ | o)
   .exact z.own i b t
   .exact .inr (Rt z.size o)
  have dL:∀b,b < w.heap.size->(∀i,Of seen i->I i≠some b)->w'.heap[b]? =w.heap[b]?:=λb o hn=>L.af b o λho=>by obtain⟨k,a,e⟩:=sZ ho;exact hn k a e
  have out:∀b∈o1++o2,∀i,¬Of seen i->I i≠some b:=by
   intro b o i t e;rcases(D b o).1 with⟨k,a,hkb⟩ | hN
   .exact t (z.inj k i b hkb e▸a)
   .have:=z.lt i b e;exact absurd hN (TD this)
  let A1:Nat->Prop:=λb=>(c'.A0 b\/c'.MO b)/\b < w'.heap.size/\b∉o1++o2
  classical
  let OD:Id->Option Nat:=λi=>if Of seen i then none else I i;have hreal:∀i∈seen,i.real=true:=λi t=>z.real (g4 i t);have hofr:∀{i:Id},i.real=true->Of seen i->i∈seen:=by
   rintro i J (t | ⟨j,n,_,rfl⟩)
   .exact t
   .cases J
  have hofg:∀{i:Id} {n:Nat},Of seen (.g i n)->i∈seen:=by
   rintro i n (t | ⟨j,m,hj,e⟩)
   .have:=hreal _ t;cases this
   .cases e;exact hj
  have H:∀i b,OD i=some b->¬Of seen i/\I i=some b:=by
   intro i b h;simp only [OD] at h;split at h
   .cases h
   .rename_i t;exact⟨t,h⟩
  have hA4:∀b,AA c w I b->A1 b/\w'.heap[b]? =w.heap[b]?:=by
   intro b o;refine⟨⟨.inl o,RC o.2.1 L.size,λhm=> ?_⟩,dL b o.2.1 λi _=>o.2.2 i⟩;rcases(D b hm).1 with⟨k,_,hkb⟩ | hN
   .exact o.2.2 k hkb
   .exact absurd hN (TD o.2.1)
  have hsa:fP c w' A1 (aJ E (jq seen)) ρ2 OD:=by
   refine⟨λi x F=> ?_,λi hir t=> ?_,λi n=> ?_,λi n t=> ?_,z.gone,λi j b t hj=> ?_,λi b t=> ?_,λi b t=> ?_,Rt z.size L.size,yr (λb o=>dL b (RC o (Rt z.glob.2.1 z.size)) λi _ t=>by
    rcases z.own i b t with h | h
    .exact z.glob.2.2 b o h
    .have:=z.glob.2.1;omega) z.glob.1,z.glob.2⟩
   .by_cases hm:i∈seen
    .rw [uk hm] at F;cases F;obtain⟨y,hy⟩:=SZ.1 (g4 i hm);exact⟨z.Gp hy,if_pos (.inl hm)⟩
    .rw [rU hm] at F;have hm':¬Of seen i:=λe=>hm (hofr (z.real (by rw [F];simp)) e);have hmg:∀n,¬Of seen (.g i n):=λn e=>hm (hofg e);refine cP.mono (λn=>⟨rfl,if_neg (hmg n),λb o=>dL b (z.lt _ b o) λk a e=>hmg n (z.inj k _ b e o▸a)⟩) hA4 (λ_ _ h=>h) (if_neg hm') (λb o=>dL b (z.lt i b o) λk a e=> ?_) (z.af i x F);exact hm' (z.inj k i b e o▸a)
   .by_cases hm:i∈seen
    .rw [uk hm] at t;cases t
    .rw [rU hm] at t;obtain⟨G,a2⟩:=z.cw i hir t;exact⟨G,by rw [show OD i=I i from if_neg λe=>hm (hofr hir e)];exact a2⟩
   .rw [rU λhm=>by have:=hreal _ hm;cases this];exact z.dG i n
   .by_cases hm:i∈seen
    .rw [uk hm] at t;cases t
    .rw [rU hm] at t;obtain⟨G,a2⟩:=z.fm i n t;exact⟨G,by rw [show OD (.g i n)=I (.g i n) from if_neg λe=>hm (hofg e)];exact a2⟩
   .exact z.inj i j b (H i b t).2 (H j b hj).2
   .exact RC (z.lt i b (H i b t).2) L.size
   .exact z.own i b (H i b t).2
  have hbr:tv (ny blks.length (ct seen ρ2)) seen ρ2:=by
   intro k i v a hB;simp only [ny] at hB;split at hB
   .simpa [ct,a] using hB
   .cases hB
  have hnew:∀k,(∃b,(Id.s d k,b)∈u0\/(Id.s d k,b)∈qs)->s.h (.s d k)=none:=by
   rintro k ⟨b,o⟩;have hm:(Id.s d k,b)∈p.2++us++jq seen++u0++qs:=by
    rcases o with o | o
    .exact QQ _ (QP _ o)
    .exact QP _ o
   have:=QU.1 W _ hm;simpa using this
  have hnone:∀k,s.h (.s d k)=none->aJ E (jq seen) (.s d k)=none:=by
   intro k a;rw [rU λhm=>hns _ hm k rfl,hh2];refine Fm (λk' e=> ?_) hus ?_
   .simp only [Id.s.injEq] at e;omega
   .rw [dr λx F ex=> ?_]
    .exact a
    .have E:=hfz x F;rw [ex,a] at E;rcases E with⟨sz,b,l,_,E⟩ | ⟨l,_,E⟩ <;> simp at E
  obtain⟨avs',u0',j0',hq0',_,T,tk0⟩:=rW (c:=c) (ids:=seen) (.inl rfl) J hq0;simp only [Qy,Rk] at hq0';obtain⟨rfl,rfl,rfl⟩:=hq0';obtain⟨ρ3,O3,m3,hs4,v3,rng3⟩:=tk0 _ ρ2 OD hbr hsa n1 (λb o=>⟨(D b (QQ _ o)).2,inMO b (D b (QQ _ o)).1,λi t=>out b (QQ _ o) i (H i b t).1 (H i b t).2⟩)
   (λx F=>by
    obtain⟨k,_,_,e⟩:=T x F;rw [e];exact hnone k (hnew k ⟨x.2, .inl (by rw [<-e];exact F)⟩))
  obtain⟨qs',hqs',names1,tk1⟩:=rX (c:=c) ho hqs;simp only [Qy] at hqs';subst hqs';have notin0:∀x,(∀k,x≠ .s d k)->aJ (aJ E (jq seen)) u0' x=aJ E (jq seen) x:=λx F=>dr λy hy e=>by obtain⟨k,_,_,g⟩:=T y hy;exact F k (by rw [<-e,g])
  obtain⟨ρ4,O4,m4,hs5,rng4⟩:=tk1 _ ρ3 O3 (λk i v U e2=>m3 i v (hbr k i v U e2)) (λk i a=>by
    have hm:=QH a;refine⟨by rw [notin0 i (hns i hm),uk hm],λv hv=> ?_⟩;rw [Rh] at hv;exact m3 i v (hbr k i v a hv)) hs4 n2 (λb o=>⟨(D b (QP _ o)).2,inMO b (D b (QP _ o)).1,λi t=>by
    rcases(rng3 b).1 ⟨i,t⟩ with⟨k,a⟩ | a
    .exact out b (QP _ o) k (H k b a).1 (H k b a).2
    .exact n3 b a b o rfl⟩) g1 (λi t k=>hns i t k) (λx F k e=>by
    rw [dr (λy hy ey=> ?_),e]
    .exact hnone k (hnew k ⟨x.2, .inr (by rw [<-e];exact F)⟩)
    .obtain⟨k',_,g2,g⟩:=T y hy;rcases names1 x F with⟨k'',g6,g7⟩ | g6
     .rw [g,g7] at ey;simp only [Id.s.injEq] at ey;omega
     .exact hns _ g6 k e)
  have rng:∀b,(∃i,O4 i=some b)↔(∃i,OD i=some b)\/b∈o1++o2:=by intro b;rw [rng4 b,rng3 b,QR,or_assoc]
  have hAA:∀b,A1 b↔AA c w' O4 b:=by
   intro b;constructor
   .rintro⟨G,a2,a3⟩;refine⟨?_,a2,λi t=> ?_⟩
    .rcases G with G | G
     .exact G.1
     .exact .inr (inMO b G)
    .rcases(rng b).1 ⟨i,t⟩ with⟨k,a⟩ | a
     .obtain⟨k1,k2⟩:=H k b a;rcases G with G | ⟨k',hk',e⟩ | G
      .exact G.2.2 k k2
      .exact k1 (z.inj k' k b e k2▸hk')
      .exact absurd G (TD (z.lt k b k2))
     .exact a3 a
   .rintro⟨G,a2,a3⟩;refine⟨?_,a2,λhm=> ?_⟩
    .by_cases o:b < w.heap.size
     .by_cases hex:∃i,I i=some b
      .obtain⟨i,t⟩:=hex;by_cases hm:Of seen i
       .exact .inr (.inl ⟨i,hm,t⟩)
       .obtain⟨k,a⟩:=(rng b).2 (.inl ⟨i,by simp only [OD,if_neg hm];exact t⟩);exact(a3 k a).elim
      .exact .inl ⟨G,o,λi t=>hex ⟨i,t⟩⟩
     .exact .inr (.inr (Nat.le_of_not_lt o))
    .obtain⟨k,a⟩:=(rng b).2 (.inr hm);exact a3 k a
  have le3:Le w ρ2 I w' ρ4 O4:=by
   refine⟨L.os,L.output,L.tape,L.size,λi v t=>m4 i v (m3 i v t),λb o hn=>dL b o λi _=>hn i,λi b t=> ?_⟩;rcases(rng b).1 ⟨i,t⟩ with⟨k,a⟩ | a
   .exact .inl ⟨k,(H k b a).2⟩
   .rcases(D b a).1 with⟨k,_,hkb⟩ | hN
    .exact .inl ⟨k,hkb⟩
    .exact .inr hN
  refine⟨ρ4,O4,cn.trans (le2.trans le3), ?_,zu (az.mono (λb o=>⟨(hAA b).1 o,rfl⟩) m4 _ _ v3)⟩;have:=hs5.GS hAA;rw [hh2] at this;simp only [lr];exact this
end
open Go
section
variable {P:Program} {w w':World} {A A':Nat->Prop} {c:Ctx} {ρ ρ':Id->Option Value} {O O':Id->Option Nat} {s:St} {cc:Option Bool} {h:Id->Option ad}
theorem cP.Gf{i:Id}{b:Bool}{sz col rsz R k:Nat}{es:List Row}{e:Row}(o:cP w A ρ O i (.rows b sz col rsz R es))(l:es[k]? =some e)(q:Option (Bool×List (List T)))(H:∀d,A d->A' d)
  (E:ρ' i=ρ i) (C:∀n,ρ' (.g i n)=ρ (.g i n)) (J:O' i=O i) (I:∀m,m≠e.n->O' (.g i m)=O (.g i m))
  (M:match q with | some p=>∀v,ρ (.g i e.n)=some v->cI w A' rsz p.1 p.2 v (λd=>O' (.g i e.n)=some d) | none=>O' (.g i e.n)=none):
  cP w A' ρ' O' i (.rows b sz col rsz R (es.set k {e with own:=q})):=by
 obtain⟨a,cap,r1,r2,r3,⟨N,Q,n3,n4⟩,F⟩:=o;have x:(es.set k {e with own:=q}).length=es.length:=by simp
 have z:(es.set k {e with own:=q}).map (·.n)=es.map (·.n):=by
  rw [TA];refine RV λm=> ?_;rw [RT];split
  .rename_i h;subst h;have:=(QC.1 l).1;rw [if_pos (by simpa using this)];simp [l]
  .rfl
 refine⟨a,cap,by rw [x,E];exact r1,by rw [x];exact r2,r3,⟨by rw [z];exact N,λf j=> ?_,λm hm=>by rw [C];exact n3 m hm,λm d K=> ?_⟩, ?_⟩
 .rcases Sn j with j | rfl
  .exact Q f j
  .exact Q e (QH l)
 .have L:∃f∈es,f.n=m:=by
   by_cases hm:m=e.n
   .exact⟨e,QH l,hm.symm⟩
   .rw [I m hm] at K;exact n4 m d K
  obtain⟨f,j,r⟩:=L;have:m∈(es.set k {e with own:=q}).map (·.n):=by rw [z];exact Rb.2 ⟨f,j,r⟩
  obtain⟨Y,h1,h2⟩:=Rb.1 this;exact⟨Y,h1,h2⟩
 .rcases F with F | ⟨af,off,arr,t,q1,q2,q3,q4,S⟩
  .exact .inl F
  .refine .inr ⟨af,off,arr,t,q1,by rw [J];exact q2,q3,q4, ?_⟩;have D:=S.get l;refine cq.set (λb o=>⟨H b o,rfl⟩) (QC.1 l).1 (λ_ _ _ _=>rfl) (λm f hm j=> ?_) ?_ S
   .have r:f.n≠e.n:=λh=>hm (sK N j l h);exact⟨C _,I _ r,λ_ _=>rfl⟩
   .obtain⟨V,W,X,u,a4,G,a7⟩:=D;refine⟨V,W,λm y hm hy=> ?_,u,a4,by rw [C];exact G, ?_⟩
    .obtain⟨U,Z,g2⟩:=X m y hm hy;exact⟨U,Z,ay.mono (λb o=>⟨H b o,rfl⟩) y U g2⟩
    .cases q with
     | none=>exact M
     | some p=>exact M u G
theorem ET{n:Nat}:∀{es:List Row} {u:Unit},qI n es=some u->∃k e,es[k]? =some e/\e.n=n/\e.own=none/\∀q,cU n q es=es.set k {e with own:=q}
 | [],_,h=>by simp [qI] at h
 | e::es,u,h=>by
  unfold qI at h;by_cases c:e.n=n
  .rw [if_pos c] at h;split at h
   .rename_i ho;exact⟨0,e,rfl,c,ho,λq=>by simp [cU,c]⟩
   .cases h
  .rw [if_neg c] at h;obtain⟨k,f,a,b,d,g⟩:=ET h;exact⟨k+1,f,by simpa using a,b,d,λq=>by simp [cU,c,g q]⟩
theorem HS.gy{i new:Id}{b:Bool}{sz col rsz R n:Nat}{es:List Row}{p:Bool×List (List T)}{v:Value}(hs:HS c w h ρ O)(t:h i=some (.rows b sz col rsz R es))(I:cy n es=some p)(X:ρ (.g i n)=some v)
  (z:h new=none) (hrl:new.real=true):
  ∃O',Le w ρ O w (aG ρ new (some v)) O'/\HS c w (aG (aG h i (some (.rows b sz col rsz R (cU n none es)))) new (some (.sl false rsz p.1 p.2))) (aG ρ new (some v)) O':=by
 have D:=hs.real (i:=i) (by rw [t];simp);have hne:i≠new:=λe=>by rw [e,z] at t;cases t
 obtain⟨k,e,W,C,heo,F⟩:=uM I;obtain⟨v',S,s2⟩:=vW (s:=⟨λ_=>(none, .top),h⟩) hs t I;rw [X] at S;cases S;let Q:Id->Option Nat:=λx=>if x=new then O (.g i n) else if x= .g i n then none else O x;have U:Q new=O (.g i n):=by simp only [Q,if_true]
 have V:Q (.g i n)=none:=by simp only [Q,if_neg (aO hrl),if_true]
 have o:∀x,x≠new->x≠ .g i n->Q x=O x:=λx f j=>by simp only [Q,if_neg f,if_neg j]
 have l:∀x d,Q x=some d->(x=new/\O (.g i n)=some d)\/(x≠new/\x≠ .g i n/\O x=some d):=by
  intro x d a;simp only [Q] at a;split at a
  .exact .inl ⟨by assumption,a⟩
  .split at a
   .cases a
   .exact .inr ⟨by assumption,by assumption,a⟩
 obtain⟨Z,n2⟩:=hs.cw new hrl z;have le:Le w ρ O w (aG ρ new (some v)) Q:=⟨rfl,rfl,rfl,QV _,λx u a=>by
  by_cases e:x=new
  .subst e;rw [Z] at a;cases a
  .rw [au _ _ e];exact a,λ_ _ _=>rfl,λx d a=>by
  rcases l x d a with⟨_,h⟩ | ⟨_,_,h⟩
  .exact .inl ⟨_,h⟩
  .exact .inl ⟨_,h⟩⟩
 refine⟨Q,le,hs.nv le (λx y a=> ?_) (λx J a=> ?_) (λx m=>by rw [au _ _ (aO hrl),au _ _ (aO D)];exact hs.dG x m) (λx m a=> ?_) (λx m u L=>by rw [au _ _ (aO hrl)] at L;exact hs.gone x m u L) (λx y d a Y=> ?_) (λx d a=> ?_)⟩
 .by_cases q:x=new
  .subst q;rw [aA] at a;cases a;right;refine⟨v,aA _ _ _,cI.mono (λd r=>le.A d r) (λd r=>⟨?_,rfl⟩) s2,by simp⟩;simp only [Q9,if_false];rw [U];exact r
  .rw [au _ _ q] at a;by_cases E:x=i
   .subst E;rw [aA] at a;cases a;right;rw [F];refine cP.Gf (hs.af x _ t) W none (λd r=>(le.A d r).1) (au _ _ q) (λm=>au _ _ (aO hrl)) (o x q (aO D).symm) (λm hm=>o _ (aO hrl) ?_) ?_
    .intro h;simp only [Id.g.injEq,true_and] at h;exact hm (h.trans C.symm)
    .simp only;rw [C];exact V
   .rw [au _ _ E] at a;have K:=hs.real (i:=x) (by rw [a];simp);refine .inl ⟨a,o x q (aO K).symm,λ_ _=>rfl,λm=>⟨au _ _ (aO hrl),o _ (aO hrl) ?_,λ_ _=>rfl⟩⟩;intro h;simp only [Id.g.injEq] at h;exact E h.1
 .have f:x≠new:=λe=>by rw [e,aA] at a;cases a
  rw [au _ _ f] at a;have j:x≠i:=λe=>by rw [e,aA] at a;cases a
  rw [au _ _ j] at a;rw [au _ _ f,o x f (aO J).symm];exact hs.cw x J a
 .have f:x≠new:=λe=>by rw [e,aA] at a;cases a
  rw [au _ _ f] at a;have j:x≠i:=λe=>by rw [e,aA] at a;cases a
  rw [au _ _ j] at a;rw [au _ _ (aO hrl),o _ (aO hrl) (by intro h;simp only [Id.g.injEq] at h;exact j h.1)];exact hs.fm x m a
 .rcases l x d a with⟨f,j⟩ | ⟨f,j,H⟩ <;> rcases l y d Y with⟨M,G⟩ | ⟨M,G,N⟩
  .rw [f,M]
  .exact(G (hs.inj _ _ d N j)).elim
  .exact(j (hs.inj _ _ d H G)).elim
  .exact hs.inj x y d H N
 .rcases l x d a with⟨_,h⟩ | ⟨_,_,h⟩
  .exact hs.lt _ d h
  .exact hs.lt _ d h
theorem HS.back{i new:Id}{b bb:Bool}{sz col rsz N n:Nat}{es:List Row}{xs:List (List T)}{v:Value}{u:Unit}(hs:HS c w h ρ O)(z:h i=some (.rows b sz col rsz N es))(W:qI n es=some u)(l:h new=some (.sl false rsz bb xs))
  (X:ρ (.g i n)=some v) (G:ρ new=some v):
  ∃O',Le w ρ O w ρ O'/\HS c w (aG (aG h i (some (.rows b sz col rsz N (cU n (some (bb,xs)) es)))) new (some .dead)) ρ O':=by
 have C:=hs.real (i:=i) (by rw [z];simp);have hrl:=hs.real (i:=new) (by rw [l];simp);have hne:i≠new:=λe=>by rw [e,l] at z;cases z
 obtain⟨k,e,V,r,heo,F⟩:=ET W;obtain⟨v',R,Z,_⟩:=hs.af new _ l;rw [G] at R;cases R;let Q:Id->Option Nat:=λx=>if x=new then none else if x= .g i n then O new else O x;have S:Q new=none:=by simp only [Q,if_true]
 have U:Q (.g i n)=O new:=by simp only [Q,if_neg (aO hrl),if_true]
 have p:∀x,x≠new->x≠ .g i n->Q x=O x:=λx f j=>by simp only [Q,if_neg f,if_neg j]
 have o:∀x d,Q x=some d->(x= .g i n/\O new=some d)\/(x≠new/\x≠ .g i n/\O x=some d):=by
  intro x d a;simp only [Q] at a;split at a
  .cases a
  .split at a
   .exact .inl ⟨by assumption,a⟩
   .exact .inr ⟨by assumption,by assumption,a⟩
 have le:Le w ρ O w ρ Q:=⟨rfl,rfl,rfl,QV _,λ_ _ h=>h,λ_ _ _=>rfl,λx d a=>by
  rcases o x d a with⟨_,h⟩ | ⟨_,_,h⟩
  .exact .inl ⟨_,h⟩
  .exact .inl ⟨_,h⟩⟩
 refine⟨Q,le,hs.nv le (λx y a=> ?_) (λx J a=> ?_) (λx m=>by rw [au _ _ (aO hrl),au _ _ (aO C)];exact hs.dG x m) (λx m a=> ?_) hs.gone (λx y d a Y=> ?_) (λx d a=> ?_)⟩
 .by_cases t:x=new
  .subst t;rw [aA] at a;cases a;exact .inr ⟨⟨v,G,jD hs G⟩,S⟩
  .rw [au _ _ t] at a;by_cases E:x=i
   .subst E;rw [aA] at a;cases a;right;rw [F];refine cP.Gf (hs.af x _ z) V (some (bb,xs)) (λd q=>(le.A d q).1) rfl (λm=>rfl) (p x t (aO C).symm) (λm hm=>p _ (aO hrl) ?_) ?_
    .intro h;simp only [Id.g.injEq,true_and] at h;exact hm (h.trans r.symm)
    .simp only;intro v' D;rw [r,X] at D;cases D;refine cI.mono (λd q=>le.A d q) (λd q=>⟨?_,rfl⟩) Z;simp only [Q9,if_false] at q;rw [r,U];exact q
   .rw [au _ _ E] at a;have K:=hs.real (i:=x) (by rw [a];simp);refine .inl ⟨a,p x t (aO K).symm,λ_ _=>rfl,λm=>⟨rfl,p _ (aO hrl) ?_,λ_ _=>rfl⟩⟩;intro h;simp only [Id.g.injEq] at h;exact E h.1
 .have f:x≠new:=λe=>by rw [e,aA] at a;cases a
  rw [au _ _ f] at a;have j:x≠i:=λe=>by rw [e,aA] at a;cases a
  rw [au _ _ j] at a;rw [p x f (aO J).symm];exact hs.cw x J a
 .have f:x≠new:=λe=>by rw [e,aA] at a;cases a
  rw [au _ _ f] at a;have j:x≠i:=λe=>by rw [e,aA] at a;cases a
  rw [au _ _ j] at a;rw [p _ (aO hrl) (by intro h;simp only [Id.g.injEq] at h;exact j h.1)];exact hs.fm x m a
 .rcases o x d a with⟨f,j⟩ | ⟨f,j,I⟩ <;> rcases o y d Y with⟨H,L⟩ | ⟨H,L,M⟩
  .rw [f,H]
  .exact(H (hs.inj _ _ d M j)).elim
  .exact(f (hs.inj _ _ d I L)).elim
  .exact hs.inj x y d I M
 .rcases o x d a with⟨_,h⟩ | ⟨_,_,h⟩
  .exact hs.lt _ d h
  .exact hs.lt _ d h
theorem s6:∀{args:List AV} {bn:List Value} {d:List AV} {i:Id} {n:Nat} {e:List AV},az w A ρ args bn->hY args=some (d,i,n,e)->
  ∃v,ρ (.g i n)=some v/\∀(ρ':Id->Option Value) (new:Id),(∀x u,ρ x=some u->ρ' x=some u)->(∀b,A b->A' b)->ρ' new=some v->az w A' ρ' (d++ .own new::e) bn
 | [],_,_,_,_,_,_,h=>by simp [hY] at h
 | a::args,bn,d,i,n,e,p,h=>by
  simp only [az] at p;obtain⟨u,r,rfl,k,o⟩:=p
  have j:(hY args).bind (λq=>some (a::q.1,q.2.1,q.2.2.1,q.2.2.2))=some (d,i,n,e)->
    ∃v,ρ (.g i n)=some v/\∀(ρ':Id->Option Value) (new:Id),(∀x u,ρ x=some u->ρ' x=some u)->(∀b,A b->A' b)->ρ' new=some v->az w A' ρ' (d++ .own new::e) (u::r):=by
   intro h;obtain⟨⟨D,i',C,E⟩,t,h⟩:=Qz.1 h;simp only [Qy,Rk] at h;obtain⟨rfl,rfl,rfl,rfl⟩:=h;obtain⟨v,y,z⟩:=s6 o t;refine⟨v,y,λρ' new hm f m=> ?_⟩;simp only [Rs,az];exact⟨u,r,rfl,ai.mono (λb l=>⟨f b l,rfl⟩) hm _ _ k,z ρ' new hm f m⟩
  cases a
  case row i' C=>simp only [hY,Qy,Rk] at h;obtain⟨rfl,rfl,rfl,rfl⟩:=h;simp only [ai] at k;refine⟨u,k,λρ' new hm f m=> ?_⟩;simp only [RO,az];exact⟨u,r,rfl,by simp only [ai];exact m,az.mono (λb l=>⟨f b l,rfl⟩) hm _ _ o⟩
  all_goals exact j h
theorem HZ{R:Type}{An:cA}{Or:aq}(Y:iQ P An Or){gy:Bool}{d:Nat}{f:FuncId}{args:List AV}{bn:List Value}{K:AV->aB->Option R}{r:R}(hc:cc=none\/cc=some true)(hs:HS c w s.h ρ O)(T:az w (AA c w O) ρ args bn)
  (a:iS gy P An Or s d cc f args K=some r):
  ∃v us fn l,K v us=some r/\P.funcs[f]? =some fn/\fn.body=some l/\fn.name≠ "runtime.NumGoroutine" /\
   (gW d s.h us=true->Calls P f bn.toArray w λe w'=>∃x,e= .returned x/\∃ρ' O',Le w ρ O w' ρ' O'/\HS c w' (aJ s.h us) ρ' O'/\ai w' (AA c w' O') ρ' v x):=by
 unfold iS at a;split at a
 .exact A7 Y hc hs T a
 .rename_i l1 i n l2 o;have o:hY args=some (l1,i,n,l2):=by
   cases gy with
   | true=>exact o
   | false=>cases o
  split at a
  .rename_i b sz col rsz nx es S;replace a:=aM a (.inl rfl);obtain⟨p,hp,a⟩:=a;cases m:s.h (.s (2500000+d) 0) with
   | some x=>rw [m] at a;simp at a
   | none=>
    rw [m] at a;simp only [Tv,cond_true] at a;obtain⟨U,E,hargs⟩:=s6 (A':=AA c w O) T o;obtain⟨V,cn,hs1⟩:=hs.gy (new:= .s (2500000+d) 0) S hp E m rfl;have z:az w (AA c w V) (aG ρ (.s (2500000+d) 0) (some U)) (l1++ .own (.s (2500000+d) 0)::l2) bn:=by obtain⟨v1,z,D⟩:=s6 (A':=AA c w V) T o;rw [E] at z;cases z;exact D _ _ cn.eD (λb Q=>(cn.A b Q).1) (aA _ _ _)
    obtain⟨v,us,fn,l,a,hfn,H,M,I⟩:=A7 (s:=⟨s.t,_⟩) Y (cc:=none) (.inl rfl) hs1 z a;unfold rQ at a;split at a
    .rename_i b2 sz2 col2 rsz2 nx2 es2 G b3 xs3 W X;split at a
     .rename_i J;obtain⟨rfl,rfl⟩:=J;replace a:=aM a (.inl rfl);obtain⟨u,hu,a⟩:=a;refine⟨v,_,fn,l,a,hfn,H,M,λL=> ?_⟩;have hfr:gW d (aG (aG s.h i (some (.rows b sz col G nx (cU n none es)))) (.s (2500000+d) 0) (some (.sl false G p.1 p.2))) us=true:=by
       refine QU.2 λq o=> ?_;have:=QU.1 L q (QQ _ (QP _ o));obtain⟨x,y⟩:=q;cases x with
       | s C k=>
        simp only at this⊢;by_cases Z:C=d
        .subst Z;have hn:s.h (.s C k)=none:=by simpa using this
         have h1:Id.s C k≠ .s (2500000+C) 0:=by intro h;simp only [Id.s.injEq] at h;omega
         have h2:Id.s C k≠i:=λh=>by rw [<-h,hn] at S;cases S
         rw [au _ _ h1,au _ _ h2,hn];simp
        .simp [Z]
       | c k=>rfl
       | g j k=>exact this
      refine(I hfr).mono ?_;rintro e w' ⟨x,rfl,ρ',O',F,hs2,hx⟩;have hw:ρ' (.s (2500000+d) 0)=some U:=F.eD _ _ (aA _ _ _);have hv2:ρ' (.g i n)=some U:=F.eD _ _ (cn.eD _ _ E);rw [lr,cM,dy] at W X;obtain⟨O3,N,hs3⟩:=hs2.back W hu X hv2 hw;refine⟨x,rfl,ρ',O3,cn.trans (F.trans N), ?_,ai.mono (λb Q=>N.A b Q) (λ_ _ h=>h) _ _ hx⟩;rw [lr,lr,cM,dy,cM,dy];exact hs3
     .simp at a
    .simp at a
  .simp at a
end
open Go
section
variable {P:Program} {An:cA} {Or:aq} {w w':World} {A A':Nat->Prop} {c:Ctx} {ρ:Id->Option Value} {O:Id->Option Nat} {s:St} {cc:Option Bool} {h:Id->Option ad}
def Good(P:Program)(c:Ctx)(w:World)(s:St)(ρ:Id->Option Value)(O:Id->Option Nat)(o:Oper)(a:Act)(v:AV)(us:aB):Prop:=
 ik P o a w λx w'=>∃ρ' O',Le w ρ O w' ρ' O'/\HS c w' (aJ s.h us) ρ' O'/\ai w' (AA c w' O') ρ' v x
theorem Good.pure{o:Oper}{a:Act}{v:AV}{x:Value}(hs:HS c w s.h ρ O)(b:(execOp a.eval o).run P w= .ok (.value x) w)(d:ai w (AA c w O) ρ v x):Good P c w s ρ O o a v []:=by unfold Good ik;rw [b];exact⟨ρ,O,Le.refl,hs,d⟩
theorem Good.val{o:Oper}{a:Act}{v:AV}{us:aB}{x:Value}{ρ':Id->Option Value}{O':Id->Option Nat}(b:(execOp a.eval o).run P w= .ok (.value x) w')(le:Le w ρ O w' ρ' O')(hs:HS c w' (aJ s.h us) ρ' O')(d:ai w' (AA c w' O') ρ' v x):Good P c w s ρ O o a v us:=by unfold Good ik;rw [b];exact⟨ρ',O',le,hs,d⟩
theorem qo{a:Act}{g:Option Gs}(d:SS w A ρ s.t a.tmps)(b:jO a.tmps g):∀(xs:List Operand),az w A ρ (xs.map (s.get g)) (xs.map a.eval)
 | []=>by simp [az]
 | x::xs=>by simp only [Rc,az];exact⟨_,_,rfl,SS.get (h:=s.h) d b x,qo d b xs⟩
theorem Kz{op:BinOp}(h:op≠ .eql/\op≠ .neq){t:TypeId}{x y:Operand}{a b:Value}:(eqGuard op t x y a b).run P w= .ok () w:=by cases op <;> simp_all [eqGuard]
set_option maxHeartbeats 2000000 in
theorem cI.GU{sz:Nat}{b:Bool}{xs:List (List T)}{v:Value}{Q:Nat->Prop}(h:cI w A sz b xs v Q)(m:∀d,Q d->A d):ay w A (.ab sz b xs) v:=by
 obtain⟨a,cap,rfl,f,g,_,i⟩:=h;simp only [ay];cases a with
 | none=>
  rcases i with rfl | ⟨_,_,_,_,e,_⟩
  .have:xs= []:=Q7.1 (by omega);subst this;exact .inl ⟨g.1 rfl,rfl,rfl⟩
  .cases e
 | some a=>
  have j:b=false:=by
   cases b with
   | false=>rfl
   | true=>have:=g.2 rfl;cases this
  obtain⟨af,off,sp⟩:=a;right;rcases i with rfl | ⟨blk',off',arr,t,e,k,n,o,l⟩
  .have:xs= []:=Q7.1 (by omega);subst this;exact⟨j,af,off,sp,0,rfl,f, .inl rfl,by simp [bd]⟩
  .cases e;exact⟨j,af,off,none,cap,rfl,f, .inr ⟨rfl,m _ k⟩,l⟩
theorem Ay:∀{vs:List AV} {l:List T},dR vs=some l->l.length=vs.length
 | [],l,h=>by simp only [dR,Qy] at h;subst h;rfl
 | v::r,l,h=>by cases v <;> simp only [dR,reduceCtorEq] at h;obtain⟨q,a,h⟩:=Qz.1 h;simp only [Qy] at h;subst h;simp [Ay a]
theorem FG:∀{vs:List AV} {b:List AV} {i:Id} {n:Nat} {d:List AV},hY vs=some (b,i,n,d)->vs=b++ .row i n::d
 | [],_,_,_,_,h=>by simp [hY] at h
 | v::r,b,i,n,d,h=>by
  unfold hY at h;split at h
  .cases h
  .rename_i i' g f a;simp only [RH] at a;obtain⟨rfl,rfl⟩:=a;simp only [Qy,Rk] at h;obtain⟨rfl,rfl,rfl,rfl⟩:=h;rfl
  .rename_i o f _ a;simp only [RH] at a;obtain⟨rfl,rfl⟩:=a;obtain⟨q,e,h⟩:=Qz.1 h;obtain⟨j,k,l,m⟩:=q;simp only [Qy,Rk] at h;obtain⟨rfl,rfl,rfl,rfl⟩:=h;rw [FG e];rfl
theorem az.swap{A:Nat->Prop}{x y:AV}(h:∀u,ai w A ρ x u->ai w A ρ y u):∀{g b:List AV} {vs:List Value},az w A ρ (g++x::b) vs->az w A ρ (g++y::b) vs
 | [],b,vs,a=>by simp only [RO,az] at a⊢;obtain⟨u,r,e,d,f⟩:=a;exact⟨u,r,e,h u d,f⟩
 | z::g,b,vs,a=>by simp only [Rs,az] at a⊢;obtain⟨u,r,e,d,f⟩:=a;exact⟨u,r,e,d,az.swap h f⟩
theorem N3{R:Type}{e:TypeId}{d:Nat}{cc:Option Bool}{v:AV}{u:Value}{K:AV->aB->Option R}{r:R}(hs:HS c w s.h ρ O)(Y:ai w (AA c w O) ρ v u)(h:mF P s e d cc v K=some r):
  ∃J us,K J us=some r/\cc=none/\u.cells.size=P.cellsOf e/\(P.cellsOf e<=1000/\0 < P.cellsOf e/\(hZ P e).isSome=true)/\
   (gW d s.h us=true->∃ρ' O',Le w ρ O (w.alloc (.cells u.cells.toList.toArray e)) ρ' O'/\HS c (w.alloc (.cells u.cells.toList.toArray e)) (aJ s.h us) ρ' O'/\
    ai (w.alloc (.cells u.cells.toList.toArray e)) (AA c (w.alloc (.cells u.cells.toList.toArray e)) O') ρ' J (.slice (some ⟨w.heap.size,0,none⟩) 1 1)):=by
 unfold mF at h;split at h
 .rename_i vs;split at h
  .rename_i l1 i n l2 j;split at h
   .rename_i b sz col rsz I es E;replace h:=aM h (.inl rfl);obtain⟨p,hf,h⟩:=h;obtain⟨l,hl,h⟩:=Qz.1 h;split at h
    .rename_i a;obtain⟨F,a⟩:=a;simp only [ai] at Y;obtain⟨C,rfl,m,hone⟩:=Y;obtain⟨v,D,_⟩:=s6 (A':=AA c w O) m j;have hws:C.length=l.length:=by
      have N:=m.length;have h2:=Ay hl;rw [FG j] at N;simp only [Ro,QJ] at N h2;omega
     refine⟨_,_,h,rfl,by simp [Value.cells];omega,a,λf=> ?_⟩;have hX:s.h (.s d 1)=none:=iw f (QB _ QA);have Q:s.h (.s d 0)=none:=iw f (QB _ (QB _ QA));obtain⟨O1,cn,X⟩:=hs.gy E hf D hX rfl;obtain⟨L,Z,k,_,_,_⟩:=X.oT (us:= [(.s d 1, .sl true rsz p.1 p.2)]) (λq g=>by
      rw [QL.1 g];exact .inl ⟨rsz,p.1,p.2,rfl, .inl (aA _ _ _)⟩)
     rw [dy] at k;have z:=cn.trans Z;obtain⟨J,r1,r2,_⟩:=k.af (.s d 1) _ (aA _ _ _);rw [aA] at r1;cases r1;have hT:ay w (AA c w L) (.ab rsz p.1 p.2) v:=cI.GU r2 λd g=>by simpa using g
     obtain⟨v2,o,G⟩:=s6 (A':=AA c w L) m j;rw [D] at o;cases o;have V:=G (aG ρ (.s d 1) (some v)) (.s d 1) z.eD (λb hb=>(z.A b hb).1) (aA _ _ _);have W:=az.swap (y:= .t (.ab rsz p.1 p.2)) (λu H=>by
      simp only [ai] at H⊢;rw [aA] at H;cases H;exact hT) V
     have S:=aS.kc hl W;have U:Id.s d 0≠i:=λe=>by rw [<-e,Q] at E;cases E
     have T:aG (aG (aG s.h i (some (.rows b sz col rsz I (cU n none es)))) (.s d 1) (some (.sl false rsz p.1 p.2))) (.s d 1) (some (.sl true rsz p.1 p.2)) (.s d 0)=none:=by rw [au _ _ (by intro e;injection e with _ e;cases e),au _ _ (by intro e;injection e with _ e;cases e),au _ _ U];exact Q
     obtain⟨k1,k2⟩:=k.vA (i:= .s d 0) (sz:=P.cellsOf e) (xs:= [l]) (vss:= [C]) T e C.toArray 1 ⟨C,[],rfl,F,S,rfl⟩ (λq v g=>by simpa using g) (by simp) (by simp;omega);refine⟨_,_,z.trans k1, ?_,by simp [ai]⟩;have e3:aJ s.h [(i, .rows b sz col rsz I (cU n none es)),(.s d 1, .sl true rsz p.1 p.2),(.s d 0, .sl false (P.cellsOf e) false [l])]=aG (aG (aG (aG s.h i (some (.rows b sz col rsz I (cU n none es)))) (.s d 1) (some (.sl false rsz p.1 p.2))) (.s d 1) (some (.sl true rsz p.1 p.2))) (.s d 0) (some (.sl false (P.cellsOf e) false [l])):=by
      rw [cM,cM,dy];funext x;unfold aG;by_cases M:x= .s d 0
      .simp [M]
      .by_cases c2:x= .s d 1 <;> simp [M,c2]
     rw [e3];exact k2
    .cases h
   .cases h
  .cases h
 .cases h
theorem KJ{v:AV}{u:Value}{A:Nat->Prop}(h:ai w A ρ v u):ai w A ρ (lJ v) u:=by
 unfold lJ;split
 .simp only [ai,ay] at h⊢;subst h;exact⟨[],[],rfl,by simp [az],by simp [az]⟩
 .exact h
theorem AF(hO:iQ P An Or){o:Oper}{a:Act}{g:Option Gs}{v:AV}{us:aB}(hs:HS c w s.h ρ O)(ht:SS w (AA c w O) ρ s.t a.tmps)(hr:jO a.tmps g)(j:cK P An Or g o s=some (v,us))(Q:gW (o.dst.getD 0) s.h us=true):
  Good P c w s ρ O o a v us:=by
 have I:=hr.cond;have ev:∀x,ai w (AA c w O) ρ (s.get g x) (a.eval x):=λx=>SS.get (h:=s.h) ht hr x;have tt:∀x y,(s.get g x).t? =some y->ay w (AA c w O) y (a.eval x):=by intro x y e;have:=ev x;rw [AV.lf e] at this;simpa [ai] using this
 have D:∀{v':AV} {X:aB},some (v',X)=some (v,us)->v'=v/\X=us:=by intro v' X e;simpa using e
 unfold cK iq at j;cases E:o.op <;> rw [E] at j <;> dsimp only at j
 case move x=>obtain⟨rfl,rfl⟩:=D j;exact Good.pure hs (by simp [execOp,E]) (ev x)
 case assign x=>obtain⟨rfl,rfl⟩:=D j;exact Good.pure hs (by simp [execOp,E]) (ev x)
 case pick k x y=>
  replace j:=Qz.1 j;obtain⟨k',hk',j⟩:=j;have hkv:=tt k k' hk';replace j:=aM j I;obtain⟨kb,hkb,j⟩:=j;have:=T.ir hkb;subst this;simp only [ay] at hkv;replace j:=Qz.1 j;obtain⟨tx,htx,j⟩:=j;replace j:=oV j;obtain⟨xb,j,hxb⟩:=j;replace j:=Qz.1 j;obtain⟨ty,hty,j⟩:=j;replace j:=oV j;obtain⟨yb,j,hyb⟩:=j;obtain⟨rfl,rfl⟩:=D j;have hg:∀b,uV (g.map (·.c)) b=some b:=by intro b;unfold uV;rcases I with e | e <;> rw [e] <;> rfl
  refine Good.pure (x:= .bool (cond kb xb yb)) hs ?_ (by simp [ai,ay]);simp only [execOp,E,hkv];cases kb with
  | true=>
   have arm:=SS.lL (h:=s.h) ht hr k x true hkv;rw [AV.lf htx] at arm;rcases hxb with e | ⟨_,e⟩
   .have:=T.ir e;subst this;simp only [ai,ay] at arm;simp [asBool,arm]
   .rw [hg] at e;cases e
  | false=>
   have arm:=SS.lL (h:=s.h) ht hr k y false hkv;rw [AV.lf hty] at arm;rcases hyb with e | ⟨_,e⟩
   .have:=T.ir e;subst this;simp only [ai,ay] at arm;simp [asBool,arm]
   .rw [hg] at e;cases e
 case alloc t=>
  cases G:g.map (·.c) with
  | some b=>simp [G] at j
  | none=>simp only [G] at j;replace j:=Qz.1 j;obtain⟨l,hl,j⟩:=j;obtain⟨rfl,rfl⟩:=D j;obtain⟨i,z,Z,hz,hof⟩:=mM hl;have hzr:aS w (AA c w O) l z.cells.toList:=nK hof;obtain⟨R,U⟩:=hs.EL (i:= .s (o.dst.getD 0) 0) (iw Q (QL.2 rfl)) t (az.kR (ρ:=ρ) hzr) hzr.one;refine Good.val (x:= .pointer (some ⟨w.heap.size,0,none⟩)) (w':=w.alloc (.cells z.cells.toList.toArray t)) ?_ R (by rw [dy];exact U) (by simp [ai]);simp [execOp,E,Instr.alloc,zeroValue,typeInfo,Z,hz,newVar,F1]
 case box t x=>
  cases G:g.map (·.c) with
  | some b=>simp [G] at j
  | none=>
   simp only [G] at j;split at j
   .rename_i hcell;obtain⟨rfl,rfl⟩:=D j;obtain⟨R,U⟩:=uf hs (ev x) hcell;obtain⟨k1,k2⟩:=hs.EL (i:= .s (o.dst.getD 0) 0) (iw Q (QL.2 rfl)) t R U;refine Good.val (x:= .pointer (some ⟨w.heap.size,0,none⟩)) (w':=w.alloc (.cells (a.eval x).cells.toList.toArray t)) ?_ k1 (by rw [dy];exact k2) (by simp [ai]);simp [execOp,E,Instr.box,newVar,F1]
   .simp at j
 case build t ps=>replace j:=Qz.1 j;obtain⟨v',N,j⟩:=j;obtain⟨rfl,rfl⟩:=D j;obtain⟨x,J,K⟩:=HK hs ht hr N;exact Good.pure hs (by simp only [execOp,E,QY,J,QO,Rj]) K
 case buildSlice t n ps=>
  replace j:=Qz.1 j;obtain⟨e,he,j⟩:=j;obtain⟨hu,hok⟩:=uF he;split at j
  .split at j
   .rename_i x G hps;split at j
    .rename_i hcond;obtain⟨⟨hl,hall⟩,hn2,hpos,hz⟩:=hcond;obtain⟨rfl,rfl⟩:=D j;obtain⟨R,U⟩:=uf hs (ev x) hall;have hsz:(a.eval x).cells.size=P.cellsOf e:=by rw [<-hl,<-Ra];exact R.length
     have C:=vX (n:=1) (w:=w) hu hok hz hpos ⟨by omega,hn2⟩ [a.eval x] (by simpa using hsz) (by simp) (ps.map λ(i,x)=>(i,a.eval x)) (by simp [hps]);have Z:s.h (.s (o.dst.getD 0) 0)=none:=iw Q QA;obtain⟨k1,k2⟩:=hs.Ng Z (cs:=fS _) (arr:=([a.eval x].flatMap λv=>v.cells.toList).toArray) e (by simpa using R) (by simpa using U);refine Good.val (x:= .slice (some ⟨w.heap.size,0,none⟩) 1 1) (by simp only [execOp,E,QY,C,QO,Rj]) k1 (by rw [dy];exact k2) ?_;simp [ai]
    .simp at j
   .simp at j
  split at j
  .split at j
   .rename_i x hps;obtain⟨v',X,e1,G,hsz,⟨hn2,hpos,hz⟩,hg⟩:=N3 hs (ev x) j;obtain⟨rfl,rfl⟩:=D e1;have C:=vX (n:=1) (w:=w) hu hok hz hpos ⟨by omega,hn2⟩ [a.eval x] (by simpa using hsz) (by simp) (ps.map λ(i,x)=>(i,a.eval x)) (by simp [hps]);obtain⟨ρ',O',k1,k2,k3⟩:=hg Q;have ea:([a.eval x].flatMap λv=>v.cells.toList).toArray= (a.eval x).cells.toList.toArray:=by simp
    rw [ea] at C;exact Good.val (x:= .slice (some ⟨w.heap.size,0,none⟩) 1 1) (by simp only [execOp,E,QY,C,QO,Rj]) k1 k2 k3
   .simp at j
  split at j
  .rename_i hcond;obtain⟨hn,hn1,hn2,hpos,hz⟩:=hcond;split at j
   .rename_i h0;obtain⟨h00,_⟩:=h0;obtain⟨rfl,rfl⟩:=D j;have hps:ps.toList= []:=Q7.1 (by rw [Ra];omega);have C:=vX (w:=w) hu hok hz hpos ⟨hn1,hn2⟩ [] (by simp) (by simp [h00]) (ps.map λ(i,x)=>(i,a.eval x)) (by simp [hps]);have exec:(execOp a.eval o).run P w= .ok (.value (.slice (some ⟨w.heap.size,0,none⟩) n n)) (w.alloc (.cells (([]:List Value).flatMap λv=>v.cells.toList).toArray e)):=by
     simp only [execOp,E,QY,C,QO,Rj]
    have lew:Le w ρ O (w.alloc (.cells (([]:List Value).flatMap λv=>v.cells.toList).toArray e)) ρ O:=⟨rfl,rfl,rfl,by simp,λ_ _ h=>h,λb V _=>Rn _ _ _ V,λi b h=> .inl ⟨i,h⟩⟩;have hs2:=hs.world lew λi af Z=>Rn _ _ _ (hs.lt i af Z);refine Good.val exec lew hs2 ?_;simp only [ai,ay];exact .inr ⟨trivial,_,_,_,by rw [h00]⟩
   replace j:=Qz.1 j;obtain⟨q,hq,j⟩:=j;obtain⟨hfz,hlen⟩:=CQ hq;obtain⟨O1,cn,hs1,hO1,hf1,hkeep⟩:=hs.oT hfz;obtain⟨vs,e1,S,e3⟩:=CR hs ht hr cn hO1 hq hf1;have hvl:vs.length=n:=by have:=congrArg List.length e1;simp only [Rr,List.length_zipIdx] at this;rw [<-this,Ra,hn]
   have C:=vX (w:=w) hu hok hz hpos ⟨hn1,hn2⟩ vs e3 hvl (ps.map λ(i,x)=>(i,a.eval x)) (by simp only [Te];exact e1);have hq1:q.1.length=n:=by have:=S.length.1;simp only [Rr] at this;omega
   have fl:(vs.map λv=>v.cells.toList).flatten=vs.flatMap λv=>v.cells.toList:=rfl;have exec:(execOp a.eval o).run P w= .ok (.value (.slice (some ⟨w.heap.size,0,none⟩) n n)) (w.alloc (.cells (vs.flatMap λv=>v.cells.toList).toArray e)):=by simp only [execOp,E,QY,C,QO,Rj]
   cases G:g.map (·.c) with
   | some b=>
    simp only [G] at j;obtain⟨rfl,rfl⟩:=D j;have lew:Le w ρ O1 (w.alloc (.cells (vs.flatMap λv=>v.cells.toList).toArray e)) ρ O1:=⟨rfl,rfl,rfl,by simp,λ_ _ h=>h,λb V _=>Rn _ _ _ V,λi b h=> .inl ⟨i,h⟩⟩;have hs2:=hs1.world lew λi af Z=>Rn _ _ _ (hs1.lt i af Z);refine Good.val exec (cn.trans lew) hs2 ?_;simp only [ai,ay];right;refine⟨trivial,w.heap.size,0,none,n,by rw [hq1],by omega, ?_, ?_⟩
    .right;refine⟨rfl, ?_⟩;refine⟨.inr (.inr hs.size),by simp,λi Z=>R0 _ (hs1.lt i _ Z)⟩
    .refine bd.ke (cx.mono (λb V=>lew.A b V) S) (λp v hp=> ?_);rw [jS (jU _),Rh,<-fl];simpa using hp
   | none=>
    simp only [G] at j;obtain⟨rfl,rfl⟩:=D j;have Z:s.h (.s (o.dst.getD 0) 0)=none:=iw Q QA;have hi1:aJ s.h q.2 (.s (o.dst.getD 0) 0)=none:=by
     rw [dr (λp hp e=> ?_)]
     .exact Z
     .have K:=hfz p hp;rw [e,Z] at K;rcases K with⟨sz,b,l,_,K⟩ | ⟨l,_,K⟩ <;> simp at K
    obtain⟨k1,k2⟩:=hs1.vA (sz:=P.cellsOf e) hi1 e (vs.flatMap λv=>v.cells.toList).toArray n S (λp v hp=>by rw [<-fl];simpa using hp) (by omega) (by
     have:=S.length.2;simp only [RU];rw [<-fl,this,hq1];exact QV _)
    rw [hq1] at k1 k2;refine Good.val exec (cn.trans k1) ?_ ?_
    .rw [cM];have:aJ (aG s.h (.s (o.dst.getD 0) 0) (some (.sl false (P.cellsOf e) false q.1))) q.2=aG (aJ s.h q.2) (.s (o.dst.getD 0) 0) (some (.sl false (P.cellsOf e) false q.1)):=by
      refine tq (λp hp e=> ?_);have K:=hfz p hp;rw [e,Z] at K;rcases K with⟨sz,b,l,_,K⟩ | ⟨l,_,K⟩ <;> simp at K
     rw [this];exact k2
    .simp [ai]
  .simp at j
 case load t x=>obtain⟨av,y,e,C,F⟩:=El hs (ev x) I j;obtain⟨rfl,rfl⟩:=D e;exact Good.pure (x:=y) hs (by simp only [execOp,E,QY,C,QO,Rj]) F
 case store t x y=>
  cases G:g.map (·.c) with
  | some b=>simp [G] at j
  | none=>simp only [G] at j;obtain⟨X,w',ρ',O',e,C,le,W⟩:=P3 hs (ev x) (ev y) j;obtain⟨rfl,rfl⟩:=D e;unfold Good ik;simp only [execOp,E,QY,C,QO,Rj];exact⟨ρ',O',le,W,by simp [ai]⟩
 case nilCheck x=>
  have F:=ev x;split at j
  .rename_i i k e;obtain⟨rfl,rfl⟩:=D j;rw [e] at F;have N:=F;simp only [ai] at N;obtain⟨b,_,S⟩:=N;exact Good.pure hs (by simp [execOp,E,S]) F
  .rename_i i sz k off e;obtain⟨rfl,rfl⟩:=D j;rw [e] at F;have N:=F;simp only [ai] at N;obtain⟨b,o',L,cap,_,S⟩:=N;exact Good.pure hs (by simp [execOp,E,S]) F
  .rename_i i sz n k off e;obtain⟨rfl,rfl⟩:=D j;rw [e] at F;have N:=F;simp only [ai] at N;obtain⟨b,o',L,cap,_,S⟩:=N;exact Good.pure hs (by simp [execOp,E,S]) F
  .rename_i y e;replace j:=aM j I;obtain⟨cs,hcs,j⟩:=j;obtain⟨rfl,rfl⟩:=D j;have:=T.vK hcs;subst this;rw [e] at F;have N:=F;simp only [ai,ay] at N;obtain⟨b,o',S,_⟩:=N;exact Good.pure hs (by simp [execOp,E,S]) F
  .rename_i f x' y' e;obtain⟨rfl,rfl⟩:=D j;rw [e] at F;have N:=F;simp only [ai] at N;obtain⟨_,_,S,_⟩:=N;exact Good.pure hs (by simp [execOp,E,S]) F
  .simp at j
 case binOp op t x y ty=>
  have nilx:∀b,nI P t y=true->iX P s t (s.get g x)=some b->_:=λb J K=>DN (P:=P) hs (ev x) K y J a x y;have nily:∀b,nI P t x=true->iX P s t (s.get g y)=some b->_:=λb J K=>DN (P:=P) hs (ev y) K x J a x y;have go:∀(z:Value),(eqGuard op t x y (a.eval x) (a.eval y)).run P w= .ok () w->(binOp op t (a.eval x) (a.eval y)).run P w= .ok z w->(execOp a.eval o).run P w= .ok (.value z) w:=by intro z J K;simp only [execOp,E,QY,J,K,QO,Rj]
  split at j
  .rename_i J;replace j:=Qz.1 j;obtain⟨b,V,j⟩:=j;obtain⟨rfl,rfl⟩:=D j;obtain⟨R,U⟩:=(nilx b J V).1;exact Good.pure hs (go _ R U) (by simp [ai,ay])
  .rename_i J;replace j:=Qz.1 j;obtain⟨b,V,j⟩:=j;obtain⟨rfl,rfl⟩:=D j;obtain⟨R,U⟩:=(nilx b J V).2.1;exact Good.pure hs (go _ R U) (by simp [ai,ay])
  .rename_i J _;replace j:=Qz.1 j;obtain⟨b,V,j⟩:=j;obtain⟨rfl,rfl⟩:=D j;obtain⟨R,U⟩:=(nily b J V).2.2.1;exact Good.pure hs (go _ R U) (by simp [ai,ay])
  .rename_i J _;replace j:=Qz.1 j;obtain⟨b,V,j⟩:=j;obtain⟨rfl,rfl⟩:=D j;obtain⟨R,U⟩:=(nily b J V).2.2.2;exact Good.pure hs (go _ R U) (by simp [ai,ay])
  .obtain⟨b,e,⟨R,U⟩,_⟩:=CX (P:=P) I (ev x) (ev y) j x y;obtain⟨rfl,rfl⟩:=D e;exact Good.pure hs (go _ R U) (by simp [ai,ay])
  .obtain⟨b,e,_,⟨R,U⟩⟩:=CX (P:=P) I (ev x) (ev y) j x y;obtain⟨rfl,rfl⟩:=D e;exact Good.pure hs (go _ R U) (by simp [ai,ay])
  .replace j:=Qz.1 j;obtain⟨x',hx',j⟩:=j;replace j:=Qz.1 j;obtain⟨y',hy',j⟩:=j;obtain⟨hne,z,vz,e,F,C⟩:=HD (P:=P) I (tt x x' hx') (tt y y' hy') j;obtain⟨rfl,rfl⟩:=D e;exact Good.pure hs (go _ (Kz hne) C) (by simpa [ai] using F _ _)
 case unOp op t x=>replace j:=Qz.1 j;obtain⟨x',hx',j⟩:=j;obtain⟨z,y,e,F,C⟩:=Qn (P:=P) I (tt x x' hx') j;obtain⟨rfl,rfl⟩:=D e;exact Good.pure (x:=y) hs (by simp only [execOp,E,QY,C,QO,Rj]) (by simpa [ai] using F _ _)
 case convert src dst x=>
  split at j
  .rename_i e hu hu';split at j
   .rename_i he;unfold qz at he;split at he
    .rename_i k he';simp only [Qy] at he;subst he;replace j:=Qz.1 j;obtain⟨y,hy,j⟩:=j;replace j:=aM j I;obtain⟨l,hl,j⟩:=j;replace hl:=Qz.1 hl;obtain⟨p,hp,hl⟩:=hl;obtain⟨rfl,rfl⟩:=D j;have C:=HN hs hu hu' he' (ev x) hy hp hl;exact Good.pure (x:= .string ⟨l.toArray⟩) hs (by simp only [execOp,E,QY,C,QO,Rj]) (by simp [ai,ay])
    .simp at he
   .simp at j
  .replace j:=Qz.1 j;obtain⟨x',hx',j⟩:=j;obtain⟨z,y,e,C,F⟩:=H8 I (tt x x' hx') j;obtain⟨rfl,rfl⟩:=D e;exact Good.pure (x:=y) hs (by simp only [execOp,E,QY,C,QO,Rj]) (by simpa [ai] using F)
 case makeFunc fn fst caps=>
  cases fn with
  | func f=>dsimp only at j;obtain⟨rfl,rfl⟩:=D j;refine Good.pure (x:= .func (.func f) (fst.map a.eval) (caps.map a.eval)) hs (by simp only [execOp,E,Instr.makeFunc,QY,Rj,QO]) ?_;simp only [ai];refine⟨fst.toList.map a.eval,caps.toList.map a.eval, ?_,qo ht hr _,qo ht hr _⟩;rw [show(fst.toList.map a.eval).toArray=fst.map a.eval from Sh (by simp),show(caps.toList.map a.eval).toArray=caps.map a.eval from Sh (by simp)]
  | _=>simp at j
 case makeSlice t l m=>
  cases G:g.map (·.c) with
  | some b=>simp [G] at j
  | none=>simp only [G] at j;replace j:=Qz.1 j;obtain⟨n,hn,j⟩:=j;replace j:=Qz.1 j;obtain⟨k,hk',j⟩:=j;obtain⟨v',X,e,hg⟩:=LC (vn:=a.eval l) (vm:=a.eval m) hs (by simpa [ai] using tt l n hn) (by simpa [ai] using tt m k hk') j;obtain⟨rfl,rfl⟩:=D e;obtain⟨u,w',ρ',O',C,le,W,F⟩:=hg Q;exact Good.val (x:=u) (by simp only [execOp,E,QY,C,QO,Rj]) le W F
 case makeMap t m=>
  cases G:g.map (·.c) with
  | some b=>simp [G] at j
  | none=>
   cases m with
   | some m=>simp [G] at j
   | none=>simp only [G] at j;obtain⟨v',X,e,hg⟩:=LF hs j;obtain⟨rfl,rfl⟩:=D e;obtain⟨u,w',ρ',O',C,le,W,F⟩:=hg Q;exact Good.val (x:=u) (by simp only [execOp,E,Tm,QY,C,QO,Rj]) le W F
 case lookup t x k ok=>obtain⟨av,y,e,C,F⟩:=Lz hs (ev x) (ev k) I j;obtain⟨rfl,rfl⟩:=D e;exact Good.pure (x:=y) hs (by simp only [execOp,E,QY,C,QO,Rj]) F
 case mapUpdate t x k v'=>
  cases G:g.map (·.c) with
  | some b=>simp [G] at j
  | none=>simp only [G] at j;obtain⟨X,w',e,C,le,W⟩:=NQ hs (ev x) (ev k) (ev v') j;obtain⟨rfl,rfl⟩:=D e;unfold Good ik;simp only [execOp,E,QY,C,QO,Rj];exact⟨ρ,O,le,W,by simp [ai]⟩
 case slice t x lo Z mx=>obtain⟨blo,j,J⟩:=xc ht hr I j;obtain⟨bhi,j,K⟩:=xc ht hr I j;obtain⟨bmx,j,h3⟩:=xc ht hr I j;obtain⟨av,y,e,C,F⟩:=PQ (P:=P) hs (ev x) I J K h3 j;obtain⟨rfl,rfl⟩:=D e;exact Good.pure (x:=y) hs (by simp only [execOp,E,QY,C,QO,Rj]) F
 case fieldAddr t x f=>obtain⟨av,y,e,C,F⟩:=KH (P:=P) (ev x) I j;obtain⟨rfl,rfl⟩:=D e;exact Good.pure (x:=y) hs (by simp only [execOp,E,QY,C,QO,Rj]) F
 case field t x f=>obtain⟨av,y,e,C,F⟩:=KF (P:=P) (ev x) j;obtain⟨rfl,rfl⟩:=D e;exact Good.pure (x:=y) hs (by simp only [execOp,E,QY,C,QO,Rj]) F
 case indexAddr t x i=>unfold nz at j;replace j:=Qz.1 j;obtain⟨i',hi',j⟩:=j;replace j:=aM j I;obtain⟨n,hn,j⟩:=j;obtain⟨k,rfl⟩:=wT hn;have hiv:=tt i _ hi';simp only [ay] at hiv;obtain⟨av,y,e,C,F⟩:=K5 (P:=P) (ki:=k) hs (ev x) I j;obtain⟨rfl,rfl⟩:=D e;exact Good.pure (x:=y) hs (by simp only [execOp,E,hiv,QY,C,QO,Rj]) F
 case index t x i=>
  unfold nz at j;replace j:=Qz.1 j;obtain⟨i',hi',j⟩:=j;replace j:=aM j I;obtain⟨n,hn,j⟩:=j;obtain⟨k,rfl⟩:=wT hn;have hiv:=tt i _ hi';simp only [ay] at hiv;have F:=ev x;split at j
  .rename_i hu;replace j:=Qz.1 j;obtain⟨y,hy,j⟩:=j;replace j:=aM j I;obtain⟨b,V,j⟩:=j;have:=T.jI V;subst this;have hxv:=tt x _ hy;simp only [ay] at hxv;obtain⟨h0,J,j⟩:=nw I j;replace j:=aM j I;obtain⟨u,hu',j⟩:=j;obtain⟨rfl,rfl⟩:=D j;have V:b[n.toNat]? =some u:=by
    have hl:n.toNat < b.data.toList.length:=(QC.1 hu').1;have hlt:n.toNat < b.size:=by simpa using hl
    rw [getElem?_pos b n.toNat hlt];have:=(QC.1 hu').2;rw [<-this];simp [ByteArray.getElem_eq_getElem_data]
   exact Good.pure (x:= .int .u8 u.toNat) hs (by simp [execOp,E,hiv,hxv,Instr.index,asIntOf,run_underlying hu,h0,V]) (by simp [ai,ay])
  .rename_i m e hu;split at j
   .rename_i vs ex;cases hok:bX P e
    .simp [hok] at j
    simp only [hok,cond_true] at j;replace j:=Qz.1 j;obtain⟨l,hl,j⟩:=j;obtain⟨h0,J,j⟩:=nw I j;rw [ex] at F;simp only [ai] at F;obtain⟨ws,S,R,U⟩:=F;obtain⟨av,y,e,C,F⟩:=Lt (P:=P) (arr:=ws.toArray) (off:=n.toNat * P.cellsOf e) (ρ:=ρ) hok I ((aS.kc hl R).drop _) j;obtain⟨rfl,rfl⟩:=D e;exact Good.pure (x:=y) hs (by simp [execOp,E,hiv,S,Instr.index,asIntOf,run_underlying hu,h0,J,iD hok,C]) F
   .simp at j
  .simp at j
 case extract x k=>
  have F:=ev x;split at j
  .rename_i vs e;replace j:=Qz.1 j;obtain⟨y,hy,j⟩:=j;obtain⟨rfl,rfl⟩:=D j;rw [e] at F;simp only [ai] at F;obtain⟨ws,S,J⟩:=F;obtain⟨u,K,h3⟩:=J.get hy;exact Good.pure hs (by simp [execOp,E,S,Instr.extract,K]) h3
  .simp at j
 case call cl=>
  have run0:∀f,cl.callee=f->(execOp a.eval o).run P w= ((resolve a.eval cl o.type).run P w).andThen λd w=>(invoke d.target d.args).run P w:=by intro f _;simp only [execOp,E,QY]
  split at j
  .rename_i M;split at j
   .rename_i x t ts hx Y;obtain⟨av,y,e,C,F⟩:=Lj (P:=P) (ts:=cl.argTypes) (ty:=o.type) hs (ev x) I j (by rw [<-Ru,Y];rfl);obtain⟨rfl,rfl⟩:=D e;have H:cl.args.map a.eval= #[a.eval x]:=by apply Sh;simp [hx]
    exact Good.pure (x:=y) hs (by simp only [execOp,E,resolve,M,H,QY,Rj,QO,invoke,builtin,C]) F
   .simp at j
  .rename_i M;split at j
   .rename_i x y t u hgc hx Y;obtain⟨v',X,e,hg⟩:=Hj (P:=P) (tr:=o.type) hs (ev x) (ev y) j;obtain⟨rfl,rfl⟩:=D e;have H:cl.args.map a.eval= #[a.eval x,a.eval y]:=by apply Sh;simp [hx]
    have htys':cl.argTypes= #[t,u]:=by apply Sh;simp [Y]
    obtain⟨z,w',ρ',O',C,le,W,F⟩:=hg Q;exact Good.val (x:=z) (by simp only [execOp,E,resolve,M,H,htys',QY,Rj,QO,invoke,builtin,C]) le W F
   .simp at j
  .rename_i M;split at j
   .rename_i k hik;replace j:=Qz.1 j;obtain⟨l,hl,j⟩:=j;split at j
    .rename_i x r;replace j:=aM j I;obtain⟨n,hn,j⟩:=j;have:=T.fK hn;subst this;obtain⟨v0,vs,e0,J,K⟩:=aS.kc hl (qo ht hr cl.args.toList);simp only [ay] at J;subst J;obtain⟨m,e,C⟩:=yY (P:=P) (w:=w) I true K j;obtain⟨rfl,rfl⟩:=D e;have H:(cl.args.map a.eval).toList= .int k n::vs:=by simp [e0]
     exact Good.pure (x:= .int k m) hs (by simp only [execOp,E,resolve,M,QY,Rj,QO,invoke,builtin,Builtin.max_,H];simp only [cond_true] at C;simp only [C,QO]) (by simp [ai,ay])
    .simp at j
   .simp at j
  .rename_i M;split at j
   .rename_i k hik;replace j:=Qz.1 j;obtain⟨l,hl,j⟩:=j;split at j
    .rename_i x r;replace j:=aM j I;obtain⟨n,hn,j⟩:=j;have:=T.fK hn;subst this;obtain⟨v0,vs,e0,J,K⟩:=aS.kc hl (qo ht hr cl.args.toList);simp only [ay] at J;subst J;obtain⟨m,e,C⟩:=yY (P:=P) (w:=w) I false K j;obtain⟨rfl,rfl⟩:=D e;have H:(cl.args.map a.eval).toList= .int k n::vs:=by simp [e0]
     exact Good.pure (x:= .int k m) hs (by simp only [execOp,E,resolve,M,QY,Rj,QO,invoke,builtin,Builtin.min_,H];simp only [cond_false] at C;simp only [C,QO]) (by simp [ai,ay])
    .simp at j
   .simp at j
  .rename_i M;split at j
   .rename_i x y t ts hgc hx Y;obtain⟨X,w',e,C,le,W⟩:=Ik (P:=P) (ty:=(ts.headD 0)) (tr:=o.type) hs (ev x) (ev y) j;obtain⟨rfl,rfl⟩:=D e;have H:cl.args.map a.eval= #[a.eval x,a.eval y]:=by apply Sh;simp [hx]
    have run':(Builtin.delete_ cl.argTypes o.type #[a.eval x,a.eval y]).run P w= .ok (.tuple #[]) w':=by
     rw [<-C];have h0:cl.argTypes[0]? =some t:=by rw [<-Ru,Y];rfl
     simp only [Builtin.delete_,h0];rfl
    refine Good.val (x:= .tuple #[]) (by simp only [execOp,E,resolve,M,H,QY,Rj,QO,invoke,builtin,run']) le W ?_;simp only [ai];exact⟨[],rfl,by simp [az]⟩
   .simp at j
  .rename_i M;split at j
   .rename_i x t ts hx Y;split at j
    .rename_i e hu;split at j
     .rename_i y hex;cases hy:ve y with
      | false=>rw [hy] at j;simp at j
      | true=>
       rw [hy] at j;obtain⟨rfl,rfl⟩:=D j;have F:=ev x;rw [hex] at F;simp only [ai] at F;have F:=K8 hy F;have H:cl.args.map a.eval= #[a.eval x]:=by apply Sh;simp [hx]
       have hts:cl.argTypes[0]? =some t:=by rw [<-Ru,Y];rfl
       exact Good.pure (x:= .int .i64 0) hs (by simp only [execOp,E,resolve,M,H,QY,Rj,QO,invoke,builtin];simp [Builtin.cap_,hts,run_underlying hu,F,goInt]) (by simp [ai,ay])
     .simp at j
    .simp at j
   .simp at j
  .rename_i fo M;split at j
   .rename_i f x1 y1 efo;have hfo:=KJ (ev fo);rw [efo] at hfo;simp only [ai] at hfo;obtain⟨x',y',S,R,U⟩:=hfo;obtain⟨v',X,fn,body,e,hfn,hbody,hname,hcall⟩:=HZ hO I hs ((R.append (qo ht hr cl.args.toList)).append U) j;obtain⟨rfl,rfl⟩:=D e;unfold Good ik;have C:(execOp a.eval o).run P w= .ok (.enter f (x'++cl.args.toList.map a.eval++y').toArray) w:=by
     have H:x'.toArray++cl.args.map a.eval++y'.toArray= (x'++cl.args.toList.map a.eval++y').toArray:=by apply Sh;simp
     simp [execOp,E,resolve,M,S,Deferred.ofValue,invoke,callFunc,run_program,hfn,hbody,hname,H]
    rw [C];exact hcall Q
   .simp at j
  .simp at j
 all_goals simp at j
end
end Go.Aev
