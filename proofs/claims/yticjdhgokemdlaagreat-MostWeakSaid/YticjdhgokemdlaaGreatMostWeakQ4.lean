import Derived.Test.YticjdhgokemdlaaGreatMostWeakQ3
set_option linter.all false
namespace Go.Aev
open Go
section
variable (B:Nat->Option Value) (w:World) (A:Nat->Prop)
def jV:bU->T->Value->List Nat->Prop
 | .f _,x,v,ob=>x.pX =some ()/\aA w A x v/\ob= []
 | .t _,x,v,ob=>aA w A x v/\ob= []
 | .own sz,x,v,ob=>∃o p,ob=o.toList/\x.aT sz=some p/\cP w A sz p.1 p.2 v (λaf=>o=some af)
 | .rows sz aD rsz,x,v,ob=>∃(b:Bool) (es:List Row) (i:Id) (l:Id->Option Value) (a:Id->Option Nat),kR x=some (b,es)/\cT w A l a i (.rows b sz aD rsz es.length es)/\l i=some v/\i.real=true/\
   (∀x y d,a x=some d->a y=some d->x=y)/\(∀n u,l (.g i n)=some u->u.oneCell'=true/\u.cells= #[u])/\(∀x d,a x=some d->x=i\/∃n,x= .g i n)/\∀d,d∈ob↔∃x,a x=some d
 | .ref k off,_,v,ob=>(∃b,B k=some (.pointer (some ⟨b,0,none⟩))/\v= .pointer (some ⟨b,off,none⟩))/\ob= []
 | .same k,_,v,ob=>(B k=some v/\v.oneCell'=true/\v.cells= #[v])/\ob= []
 | .no,_,v,ob=>(v.oneCell'=true/\v.cells= #[v])/\ob= []
 | .mp ag ks vk,x,v,ob=>∃es b j m,x=bQ es/\v= .map (some b)/\ob= [b]/\w.heap[b]? =some (.map j m)/\
   j.toList.map (λe=>(e.key,e.val))=es.map (λp=>(cY ag p.1,dI p.2))/\(es.all λp=>bY ks p.1 && dQ vk p.2)=true
 | .agg _,_,_,_=>False
 | .new _,_,_,_=>False
def fC:List bU->List T->List Value->List Nat->Prop
 | [],xs,vs,own=>xs= []/\vs= []/\own= []
 | r::e,xs,vs,own=>∃x d v b ob a,xs=x::d/\vs=v::b/\own=ob++a/\jV B w A r x v ob/\fC e d b a
def dM:List bU->List T->List Value->List Nat->Prop
 | [],xs,vs,own=>xs= []/\vs= []/\own= []
 | .agg l::f,xs,vs,own=>∃g x2 j a o1 d,xs=g++x2/\vs= .agg j.toArray::a/\own=o1++d/\fC B w A l g j o1/\dM f x2 a d
 | .new l::f,xs,vs,own=>∃g x2 b arr t a o1 d,xs=g++x2/\vs= .pointer (some ⟨b,0,none⟩)::a/\own= (b::o1)++d/\w.heap[b]? =some (.cells arr t (0,0))/\fC B w A l g arr.toList o1/\dM f x2 a d
 | r::f,xs,vs,own=>∃x i v a ob e,xs=x::i/\vs=v::a/\own=ob++e/\jV B w A r x v ob/\dM f i a e
def oB:Nat->List jU->List T->List Nat->Prop
 | _,[],xs,own=>xs= []/\own= []
 | j, .box l::r,xs,own=>∃g x2 b arr t o1 a,xs=g++x2/\own=b:: (o1++a)/\B j=some (.pointer (some ⟨b,0,none⟩))/\w.heap[b]? =some (.cells arr t (0,0))/\
   fC B w A l g arr.toList o1/\oB (j+1) r x2 a
 | j, .sl sz::r,xs,own=>∃bb l x2 ob v a,xs= .aa sz bb l::x2/\own=ob.toList++a/\B j=some v/\cP w A sz bb l v (λaf=>ob=some af)/\oB (j+1) r x2 a
 | j, .mp ag ks vk::r,xs,own=>∃es b d f x2 a,xs=bQ es::x2/\own=b::a/\B j=some (.map (some b))/\w.heap[b]? =some (.map d f)/\
   d.toList.map (λe=>(e.key,e.val))=es.map (λp=>(cY ag p.1,dI p.2))/\(es.all λp=>bY ks p.1 && dQ vk p.2)=true/\oB (j+1) r x2 a
 | j, .dead::r,xs,own=>oB (j+1) r xs own
end
def pe:List Value->Value
 | [v]=>v
 | vs=> .tuple vs.toArray
structure xk (w w':World):Prop where
 os:w'.os=w.os
 output:w'.output=w.output
 tape:w'.tape=w.tape
 size:w.heap.size<=w'.heap.size
 af:∀k,k < w.heap.size->w'.heap[k]? =w.heap[k]?
structure K8 (w w':World) (Own:Nat->Prop):Prop where
 os:w'.os=w.os
 output:w'.output=w.output
 tape:w'.tape=w.tape
 size:w.heap.size<=w'.heap.size
 af:∀k,k < w.heap.size->¬Own k->w'.heap[k]? =w.heap[k]?
def oQ(m:Nat)(ρ:Id->Option Value)(j:Nat):Option Value:=if j < m then ρ (.c j) else none
def wh(P:Program)(A:cJ)(f:FuncId)(fn:Func)(be:List AV)(a:List ab)(xs:List T):Prop:=
 ∀(c:Ctx) (w:World) (ρ:Id->Option Value) (O:Id->Option Nat) (args:List Value),c.N0=w.heap.size->HS c w (jY a) ρ O->aC w (AA c w O) ρ be args->
  Calls P f args.toArray w λe w'=>∃g i x2 o1 d,e= .returned (pe g)/\K8 w w' (fM O)/\xs=i++x2/\(o1++d).Nodup/\(∀b∈o1++d,c.MO b/\b < w'.heap.size)/\
   dM (oQ a.length ρ) w' (λb=>(c.A0 b\/c.MO b)/\b < w'.heap.size/\b∉o1++d) (dr P A f (iy a.head?) fn) i g o1/\
   oB (oQ a.length ρ) w' (λb=>(c.A0 b\/c.MO b)/\b < w'.heap.size/\b∉o1++d) 0 (im A f (iy a.head?)) x2 d
def jF(P:Program)(A:cJ)(O:au):Prop:= ∀f be a xs,O (.call f) be a=some xs->
 ∃fn b,P.funcs[f]? =some fn/\fn.body=some b/\fn.name≠ "runtime.NumGoroutine" /\wh P A f fn be a xs
def oe(P:Program)(A:cJ):Prop:= ∀f be a xs,A.ext f be a=some xs->
 ∃fn b,P.funcs[f]? =some fn/\fn.body=some b/\fn.name≠ "runtime.NumGoroutine" /\wh P A f fn be a xs
theorem oe.no{P:Program}{A:cJ}(h:∀f be a,A.ext f be a=none):oe P A:=λf be a xs e=>by rw [h] at e;cases e
theorem wh.values{P:Program}{A:cJ}{f:FuncId}{fn:Func}{be:List AV}{xs:List T}(h:wh P A f fn be [] xs)(hb:A.iK f=none)(A0:Nat->Prop)(w:World)(args:List Value)(y:∀b,A0 b->b < w.heap.size)
  (hv:aC w A0 (λ_=>none) be args):
  Calls P f args.toArray w λe w'=>∃g own,e= .returned (pe g)/\xk w w'/\own.Nodup/\(∀b∈own,w.heap.size<=b/\b < w'.heap.size)/\
   dM (λ_=>none) w' (λb=>(A0 b\/w.heap.size<=b)/\b < w'.heap.size/\b∉own) (dr P A f 0 fn) xs g own:=by
 let c:Ctx:={A0:=A0,M:=λ_=>False,N0:=w.heap.size};have hs:HS c w (jY []) (λ_=>none) (λ_=>none):=⟨λi b hb=>by cases i <;> simp [jY] at hb,λi _ _=>⟨rfl,rfl⟩,λi n=>rfl,λi n _=>⟨rfl,rfl⟩,(by intro i n u D;cases D),(by intro i j b hi;cases hi),(by intro i b hi;cases hi),(by intro i b hi;cases hi),UC _⟩;have r:∀b,A0 b->AA c w (λ_=>none) b/\w.heap[b]? =w.heap[b]?:=λb hb=>⟨⟨.inl hb,y b hb,λi hi=>by cases hi⟩,rfl⟩;refine(h c w _ _ args rfl hs (aC.mono r (λ_ _ h=>h) _ _ hv)).mono ?_;rintro e w' ⟨g,F,x2,o1,E,z,d,v,l,o,p,t⟩;have m:im A f (iy ([]:List ab).head?)= []:=by simp [im,hb]
 rw [m] at t;obtain⟨rfl,rfl⟩:=t;rw [Ve] at v l;subst v;have q:dr P A f (iy ([]:List ab).head?) fn=dr P A f 0 fn:=rfl;have e0:oQ ([]:List ab).length (λ_=>none)=λ_=>none:=by funext j;simp [oQ]
 rw [q,e0] at p;refine⟨g,o1,z,⟨d.os,d.output,d.tape,d.size,λk C=>d.af k C (by rintro⟨i,hi⟩;cases hi)⟩,l,λb hb=> ?_, ?_⟩
 .obtain⟨h1,a⟩:=o b (by simpa using hb);rcases h1 with h1 | h1
  .exact h1.elim
  .exact⟨h1,a⟩
 .have x:(λb=>(c.A0 b\/c.MO b)/\b < w'.heap.size/\b∉o1++ [])=λb=>(A0 b\/w.heap.size<=b)/\b < w'.heap.size/\b∉o1:=by
   funext b;simp only [Ve];refine propext ⟨?_, ?_⟩
   .rintro⟨h1 | h1 | h1,a⟩
    .exact⟨.inl h1,a⟩
    .exact h1.elim
    .exact⟨.inr h1,a⟩
   .rintro⟨h1 | h1,a⟩
    .exact⟨.inl h1,a⟩
    .exact⟨.inr (.inr h1),a⟩
  rw [x] at p;exact p
structure gL (c:Ctx) (w:World) (A:Nat->Prop) (h:Id->Option ab) (ρ:Id->Option Value) (O:Id->Option Nat):Prop where
 af:∀i b,h i=some b->cT w A ρ O i b
 cB:∀i,i.real=true->h i=none->ρ i=none/\O i=none
 ez:∀i n,h (.g i n)=none
 fG:∀i n,h i=none->ρ (.g i n)=none/\O (.g i n)=none
 gone:∀i n u,ρ (.g i n)=some u->u.oneCell'=true/\u.cells= #[u]
 inj:∀i j b,O i=some b->O j=some b->i=j
 lt:∀i b,O i=some b->b < w.heap.size
 own:∀i b,O i=some b->c.MO b
 size:c.N0<=w.heap.size
section
variable {P:Program} {B:Nat->Option Value} {ids:List Id} {w w':World} {A A':Nat->Prop} {c:Ctx} {ρ:Id->Option Value} {O:Id->Option Nat} {s:St} {cc:Option Bool} {h:Id->Option ab}
theorem gL.KI(hs:gL c w A h ρ O)(e:∀b,A b↔AA c w O b):HS c w h ρ O:=by have:A=AA c w O:=funext λb=>propext (e b);subst this;exact⟨hs.af,hs.cB,hs.ez,hs.fG,hs.gone,hs.inj,hs.lt,hs.own,hs.size⟩
theorem gL.real(hs:gL c w A h ρ O){i:Id}(hi:h i≠none):i.real=true:=by
 cases i with
 | g i n=>exact(hi (hs.ez i n)).elim
 | _=>rfl
theorem gL.A2{i:Id}(hrl:i.real=true)(hs:gL c w A h ρ O)(hi:h i=none)(v:Value)(ob:Option Nat)(f:∀b,ob=some b->b < w.heap.size/\c.MO b/\∀j,O j≠some b)(x:ab)
  (m:cT w A (aE ρ i (some v)) (aE O i ob) i x):gL c w A (aE h i (some x)) (aE ρ i (some v)) (aE O i ob):=by
 refine⟨λj b a=> ?_,λj g a=> ?_,λj n=>by rw [ar _ _ (aP hrl)];exact hs.ez j n,λj n a=> ?_,λj n u l=>by rw [ar _ _ (aP hrl)] at l;exact hs.gone j n u l,λj k b a d=> ?_,λj b a=> ?_,λj b a=> ?_,hs.size⟩
 .by_cases e:j=i
  .subst e;rw [aF] at a;cases a;exact m
  .rw [ar _ _ e] at a;refine cT.mono (λn=>⟨ar _ _ (aP hrl),ar _ _ (aP hrl),λ_ _=>rfl⟩) (λb hb=>⟨hb,rfl⟩) (λk u d=> ?_) (ar _ _ e) (λ_ _=>rfl) (hs.af j b a);by_cases e2:k=i
   .subst e2;rw [(hs.cB _ hrl hi).1] at d;cases d
   .rw [ar _ _ e2];exact d
 .by_cases e:j=i
  .subst e;rw [aF] at a;cases a
  .rw [ar _ _ e] at a;rw [ar _ _ e,ar _ _ e];exact hs.cB j g a
 .by_cases e:j=i
  .subst e;rw [aF] at a;cases a
  .rw [ar _ _ e] at a;rw [ar _ _ (aP hrl),ar _ _ (aP hrl)];exact hs.fG j n a
 .by_cases e:j=i <;> by_cases e':k=i
  .rw [e,e']
  .subst e;rw [aF] at a;rw [ar _ _ e'] at d;exact((f b a).2.2 k d).elim
  .subst e';rw [aF] at d;rw [ar _ _ e] at a;exact((f b d).2.2 j a).elim
  .rw [ar _ _ e] at a;rw [ar _ _ e'] at d;exact hs.inj j k b a d
 .by_cases e:j=i
  .subst e;rw [aF] at a;exact(f b a).1
  .rw [ar _ _ e] at a;exact hs.lt j b a
 .by_cases e:j=i
  .subst e;rw [aF] at a;exact(f b a).2.1
  .rw [ar _ _ e] at a;exact hs.own j b a
theorem gL.Di{i:Id}(hs:gL c w A h ρ O)(hi:h i=some .dead)(ob:Option Nat)(f:∀b,ob=some b->b < w.heap.size/\c.MO b/\∀j,O j≠some b)(x:ab)
  (l:cT w A ρ (aE O i ob) i x):gL c w A (aE h i (some x)) ρ (aE O i ob):=by
 have hrl:=hs.real (i:=i) (by rw [hi];simp);refine⟨λj b a=> ?_,λj g a=> ?_,λj n=>by rw [ar _ _ (aP hrl)];exact hs.ez j n,λj n a=> ?_,hs.gone,λj k b a d=> ?_,λj b a=> ?_,λj b a=> ?_,hs.size⟩
 .by_cases e:j=i
  .subst e;rw [aF] at a;cases a;exact l
  .rw [ar _ _ e] at a;exact cT.mono (λn=>⟨rfl,ar _ _ (aP hrl),λ_ _=>rfl⟩) (λb hb=>⟨hb,rfl⟩) (λk u d=>d) (ar _ _ e) (λ_ _=>rfl) (hs.af j b a)
 .by_cases e:j=i
  .subst e;rw [aF] at a;cases a
  .rw [ar _ _ e] at a;rw [ar _ _ e];exact hs.cB j g a
 .by_cases e:j=i
  .subst e;rw [aF] at a;cases a
  .rw [ar _ _ e] at a;rw [ar _ _ (aP hrl)];exact hs.fG j n a
 .by_cases e:j=i <;> by_cases e':k=i
  .rw [e,e']
  .subst e;rw [aF] at a;rw [ar _ _ e'] at d;exact((f b a).2.2 k d).elim
  .subst e';rw [aF] at d;rw [ar _ _ e] at a;exact((f b d).2.2 j a).elim
  .rw [ar _ _ e] at a;rw [ar _ _ e'] at d;exact hs.inj j k b a d
 .by_cases e:j=i
  .subst e;rw [aF] at a;exact(f b a).1
  .rw [ar _ _ e] at a;exact hs.lt j b a
 .by_cases e:j=i
  .subst e;rw [aF] at a;exact(f b a).2.1
  .rw [ar _ _ e] at a;exact hs.own j b a
def wg(B:Nat->Option Value)(ids:List Id)(ρ:Id->Option Value):Prop:= ∀k i v,ids[k]? =some i->B k=some v->ρ i=some v
def gp(B:Nat->Option Value)(ids:List Id)(c:Ctx)(w:World)(A:Nat->Prop)(us:aH)(own:List Nat)(Q:(Id->Option Value)->Prop):Prop:=
 ∀h ρ O,wg B ids ρ->gL c w A h ρ O->own.Nodup->(∀b∈own,b < w.heap.size/\c.MO b/\∀i,O i≠some b)->(∀p∈us,h p.1=none)->
  ∃ρ' O',(∀i u,ρ i=some u->ρ' i=some u)/\gL c w A (aK h us) ρ' O'/\Q ρ'/\∀b,(∃i,O' i=some b)↔((∃i,O i=some b)\/b∈own)
def m6(d j a:Nat)(us:aH):Prop:= ∀p∈us,∃k,j<=k/\k < a/\p.1= .s d k
theorem gp.nil{Q:(Id->Option Value)->Prop}(d:∀ρ,wg B ids ρ->Q ρ):gp B ids c w A [] [] Q:=by intro h ρ O a hs _ _ _;exact⟨ρ,O,λ_ _ h=>h,hs,d ρ a,λb=>by simp⟩
theorem gp.append{d j D V:Nat}{us vs:aH}{o1 K:List Nat}{t x Q:(Id->Option Value)->Prop}(h1:gp B ids c w A us o1 t)(U:gp B ids c w A vs K x)(X:m6 d j D us)(Y:m6 d D V vs)
  (r:∀ρ ρ',(∀i u,ρ i=some u->ρ' i=some u)->t ρ->x ρ'->Q ρ'):gp B ids c w A (us++vs) (o1++K) Q:=by
 intro h ρ O l hs y f a;obtain⟨H,I,J⟩:=Wb.1 y;obtain⟨m,L,F,z,q1,r1⟩:=h1 h ρ O l hs H (λb hb=>f b (Uy _ hb)) (λp g=>a p (Uy _ g));obtain⟨n,M,G,C,Z,r2⟩:=U (aK h us) m L (λk i v N e2=>F i v (l k i v N e2)) z I (λb hb=>by
  obtain⟨R,S,T⟩:=f b (Ux _ hb);refine⟨R,S,λi hi=> ?_⟩;rcases(r1 b).1 ⟨i,hi⟩ with⟨k,o⟩ | o
  .exact T k o
  .exact J b o b hb rfl) (λp g=>by
  rw [dS (λq r e=> ?_)]
  .exact a p (Ux _ g)
  .obtain⟨k,_,k2,W⟩:=X q r;obtain⟨k',k1',_,E⟩:=Y p g;rw [W,E] at e;simp only [Id.s.injEq] at e;omega)
 refine⟨n,M,λi u hi=>G i u (F i u hi),by rw [mw];exact C,r m n G q1 Z,λb=> ?_⟩;rw [r2 b,r1 b,UB,or_assoc]
theorem eG(es:List (List T×T)):iO (bQ es)=some es:=by
 unfold bQ iO;induction es with
 | nil=>rfl
 | cons p es a=>simp only [U5,Bq] at a⊢;rw [a];rfl
theorem gL.Ld{i' i:Id}{p:Id->Option Value}{o:Id->Option Nat}{b:Bool}{sz aD rsz:Nat}{es:List Row}{v:Value}{ob:List Nat}(hrl:i'.real=true)(hs:gL c w A h ρ O)(hi:h i'=none)
  (hb:cT w A p o i (.rows b sz aD rsz es.length es)) (hv:p i=some v) (F:i.real=true) (z:∀x y d,o x=some d->o y=some d->x=y) (hg:∀n u,p (.g i n)=some u->u.oneCell'=true/\u.cells= #[u])
  (X:∀x d,o x=some d->x=i\/∃n,x= .g i n) (E:∀d,d∈ob↔∃x,o x=some d) (C:∀b∈ob,b < w.heap.size/\c.MO b/\∀i,O i≠some b):
  ∃ρ' O',(∀x u,ρ x=some u->ρ' x=some u)/\gL c w A (aE h i' (some (.rows b sz aD rsz es.length es))) ρ' O'/\ρ' i'=some v/\∀d,(∃x,O' x=some d)↔((∃x,O x=some d)\/d∈ob):=by
 let V:Id->Option Value:=λx=>if x=i' then some v else match x with
  | .g y n=>if y=i' then p (.g i n) else ρ (.g y n)
  | x=>ρ x
 let Q:Id->Option Nat:=λx=>if x=i' then o i else match x with
  | .g y n=>if y=i' then o (.g i n) else O (.g y n)
  | x=>O x
 have Y:V i'=some v:=by simp only [V,if_true]
 have T:Q i'=o i:=by simp only [Q,if_true]
 have Z:∀x,x.real=true->x≠i'->V x=ρ x:=by
  intro x k j;simp only [V,if_neg j];cases x with
  | g y n=>cases k
  | _=>rfl
 have J:∀x,x.real=true->x≠i'->Q x=O x:=by
  intro x k j;simp only [Q,if_neg j];cases x with
  | g y n=>cases k
  | _=>rfl
 have M:∀y n,y≠i'->V (.g y n)=ρ (.g y n):=by intro y n hy;simp only [V,if_neg (aP hrl),if_neg hy]
 have K:∀y n,y≠i'->Q (.g y n)=O (.g y n):=by intro y n hy;simp only [Q,if_neg (aP hrl),if_neg hy]
 have U:∀n,V (.g i' n)=p (.g i n):=by intro n;simp only [V,if_neg (aP hrl),if_true]
 have L:∀n,Q (.g i' n)=o (.g i n):=by intro n;simp only [Q,if_neg (aP hrl),if_true]
 have H:∀x d,Q x=some d->(O x=some d/\x≠i'/\∀n,x≠ .g i' n)\/(x=i'/\o i=some d)\/∃n,x= .g i' n/\o (.g i n)=some d:=by
  intro x d j;by_cases e:x=i'
  .subst e;rw [T] at j;exact .inr (.inl ⟨rfl,j⟩)
  .cases k:x.real with
   | true=>rw [J x k e] at j;exact .inl ⟨j,e,λn e'=>by rw [e'] at k;cases k⟩
   | false=>
    cases x with
    | g y n=>
     by_cases e':y=i'
     .subst e';rw [L] at j;exact .inr (.inr ⟨n,rfl,j⟩)
     .rw [K y n e'] at j;exact .inl ⟨j,e,λm e2=>by simp only [Id.g.injEq] at e2;exact e' e2.1⟩
    | _=>cases k
 have n0:=hs.cB i' hrl hi;have ng:=λn=>hs.fG i' n hi;have mono:∀x u,ρ x=some u->V x=some u:=by
  intro x u j;cases k:x.real with
  | true=>rw [Z x k (λe=>by rw [e,n0.1] at j;cases j)];exact j
  | false=>
   cases x with
   | g y n=>rw [M y n (λe=>by rw [e,(ng n).1] at j;cases j)];exact j
   | _=>cases k
 have I:∀d,(∃x,Q x=some d)↔((∃x,O x=some d)\/d∈ob):=by
  intro d;constructor
  .rintro⟨x,j⟩;rcases H x d j with⟨h1,_⟩ | ⟨_,h1⟩ | ⟨n,_,h1⟩
   .exact .inl ⟨x,h1⟩
   .exact .inr ((E d).2 ⟨_,h1⟩)
   .exact .inr ((E d).2 ⟨_,h1⟩)
  .rintro(⟨x,j⟩ | r)
   .cases k:x.real with
    | true=>exact⟨x,by rw [J x k (λe=>by rw [e,n0.2] at j;cases j)];exact j⟩
    | false=>
     cases x with
     | g y n=>exact⟨.g y n,by rw [K y n (λe=>by rw [e,(ng n).2] at j;cases j)];exact j⟩
     | _=>cases k
   .obtain⟨x,j⟩:=(E d).1 r;rcases X x d j with rfl | ⟨n,rfl⟩
    .exact⟨i',by rw [T];exact j⟩
    .exact⟨.g i' n,by rw [L];exact j⟩
 have G:∀d,(∃x,o x=some d)->∀y,O y≠some d:=λd r=>(C d ((E d).2 r)).2.2;refine⟨V,Q,mono,⟨λx y j=> ?_,λx k j=> ?_,λx n=>by rw [ar _ _ (aP hrl)];exact hs.ez x n,λx n j=> ?_,λx n u S=> ?_,λx y d j hy=> ?_,λx d j=> ?_,λx d j=> ?_,hs.size⟩,Y,I⟩
 .by_cases e:x=i'
  .subst e;rw [aF] at j;cases j;obtain⟨a,cap,e1,e2,e3,N,W⟩:=hb;rw [hv] at e1;cases e1;refine⟨a,cap,Y,e2,e3,⟨N.1,N.2.1,λn R=>by rw [U];exact N.2.2.1 n R,λn d R=>by rw [L] at R;exact N.2.2.2 n d R⟩, ?_⟩;rcases W with W | ⟨af,off,arr,t,q1,q2,q3,q4,q5⟩
   .exact .inl W
   .exact .inr ⟨af,off,arr,t,q1,by rw [T];exact q2,q3,q4,ch.move (λb hb=>⟨hb,rfl⟩) (λ_ _=>rfl) (λf _=>⟨U _,L _,λ_ _=>rfl⟩) q5⟩
  .rw [ar _ _ e] at j;have hrx:=hs.real (i:=x) (by rw [j];simp);exact cT.mono (λn=>⟨M x n e,K x n e,λ_ _=>rfl⟩) (λb hb=>⟨hb,rfl⟩) mono (J x hrx e) (λ_ _=>rfl) (hs.af x y j)
 .have l:x≠i':=λe=>by rw [e,aF] at j;cases j
  rw [ar _ _ l] at j;rw [Z x k l,J x k l];exact hs.cB x k j
 .have l:x≠i':=λe=>by rw [e,aF] at j;cases j
  rw [ar _ _ l] at j;rw [M x n l,K x n l];exact hs.fG x n j
 .by_cases l:x=i'
  .subst l;rw [U] at S;exact hg n u S
  .rw [M x n l] at S;exact hs.gone x n u S
 .rcases H x d j with⟨h1,q,h3⟩ | ⟨h1,q⟩ | ⟨n,h1,q⟩ <;> rcases H y d hy with⟨D,k2,k3⟩ | ⟨D,k2⟩ | ⟨m,D,k2⟩
  .exact hs.inj x y d h1 D
  .exact(G d ⟨_,k2⟩ x h1).elim
  .exact(G d ⟨_,k2⟩ x h1).elim
  .exact(G d ⟨_,q⟩ y D).elim
  .rw [h1,D]
  .have:=z _ _ d q k2;rw [this] at F;cases F
  .exact(G d ⟨_,q⟩ y D).elim
  .have:=z _ _ d k2 q;rw [this] at F;cases F
  .have:=z _ _ d q k2;simp only [Id.g.injEq,true_and] at this;rw [h1,D,this]
 .rcases(I d).1 ⟨x,j⟩ with⟨y,hy⟩ | r
  .exact hs.lt y d hy
  .exact(C d r).1
 .rcases(I d).1 ⟨x,j⟩ with⟨y,hy⟩ | r
  .exact hs.own y d hy
  .exact(C d r).2.1
theorem Fp{R:Type}{d j:Nat}{r:bU}{x:T}{v:Value}{ob:List Nat}{K:AV->aH->Nat->Option R}{res:R}(S:cc=none\/cc=some true)(m:jV B w A r x v ob)(a:mH ids d cc j r x K=some res):
  ∃av us Q,K av us Q=some res/\j<=Q/\m6 d j Q us/\gp B ids c w A us ob (λρ =>ao w A ρ av v):=by
 unfold mH at a;cases r with
 | f k=>obtain⟨_,h1,rfl⟩:=m;simp only at a;obtain⟨y,a,h1⟩:=px S h1 a;exact⟨_,_,_,a,UC _,(by intro p D;cases D),gp.nil λρ _=>by simpa [ao] using h1⟩
 | t k=>obtain⟨h1,rfl⟩:=m;simp only at a;obtain⟨y,a,h1⟩:=px S h1 a;exact⟨_,_,_,a,UC _,(by intro p D;cases D),gp.nil λρ _=>by simpa [ao] using h1⟩
 | own sz=>
  obtain⟨o,p,rfl,D,Y⟩:=m;cases cc with
  | some b=>simp at a
  | none=>
   dsimp only at a;replace a:=aO a (.inl rfl);obtain⟨q,g,a⟩:=a;rw [D] at g;simp only [Uh] at g;subst g;refine⟨_,_,_,a,Nat.le_succ _, ?_, ?_⟩
   .intro q g;simp only [Uv] at g;subst g;exact⟨j,UC _,Wl _,rfl⟩
   .intro h ρ O E hs I C n;have hi:h (.s d j)=none:=n _ (Uv.2 rfl);refine⟨aE ρ (.s d j) (some v),aE O (.s d j) o,λi u z=> ?_, ?_,by simp [ao],λb=>⟨λ⟨i,hb⟩=> ?_,λhb=> ?_⟩⟩
    .by_cases e:i= .s d j
     .subst e;rw [(hs.cB _ rfl hi).1] at z;cases z
     .rw [ar _ _ e];exact z
    .rw [eK];refine hs.A2 rfl hi v o (λb hb=>C b (by simp [hb])) _ ⟨v,aF _ _ _, ?_,by simp⟩;simpa using Y
    .by_cases e:i= .s d j
     .subst e;rw [aF] at hb;right;simp [hb]
     .rw [ar _ _ e] at hb;exact .inl ⟨i,hb⟩
    .rcases hb with⟨i,hb⟩ | hb
     .by_cases e:i= .s d j
      .subst e;rw [(hs.cB _ rfl hi).2] at hb;cases hb
      .exact⟨i,by rw [ar _ _ e];exact hb⟩
     .exact⟨.s d j,by rw [aF];simpa using hb⟩
 | ref k off=>
  obtain⟨⟨b,h1,rfl⟩,rfl⟩:=m;dsimp only at a;split at a
  .rename_i i hi;exact⟨_,_,_,a,UC _,(by intro p D;cases D),gp.nil λρ E=>by
    simp only [ao];exact⟨b,E k i _ hi h1,rfl⟩⟩
  .simp at a
 | same k=>
  obtain⟨⟨h1,_⟩,rfl⟩:=m;dsimp only at a;split at a
  .rename_i i hi;exact⟨_,_,_,a,UC _,(by intro p D;cases D),gp.nil λρ E=>by
    simp only [ao];exact E k i _ hi h1⟩
  .simp at a
 | rows sz aD rsz=>
  obtain⟨b,es,i,ρ0,O0,L,hb,hv,X,N,hg,M,V⟩:=m;cases cc with
  | some b=>simp at a
  | none=>
   dsimp only at a;replace a:=aO a (.inl rfl);obtain⟨q,g,a⟩:=a;rw [L] at g;simp only [Uh] at g;subst g;refine⟨_,_,_,a,Nat.le_succ _, ?_, ?_⟩
   .intro q g;simp only [Uv] at g;subst g;exact⟨j,UC _,Wl _,rfl⟩
   .intro h ρ O E hs I C n;have hi:h (.s d j)=none:=n _ (Uv.2 rfl);obtain⟨ρ',O',Z,g2,g3,g4⟩:=hs.Ld (i':= .s d j) rfl hi hb hv X N hg M V C;exact⟨ρ',O',Z,by rw [eK];exact g2,by simp only [ao];exact g3,g4⟩
 | no=>obtain⟨_,rfl⟩:=m;dsimp only at a;exact⟨_,_,_,a,UC _,(by intro p D;cases D),gp.nil λρ _=>by simp [ao]⟩
 | mp ag ks vk=>
  obtain⟨es,F,J,G,rfl,rfl,rfl,H,U,W⟩:=m;cases cc with
  | some b=>simp at a
  | none=>
   dsimp only at a;replace a:=aO a (.inl rfl);obtain⟨q,g,a⟩:=a;rw [eG] at g;simp only [Uh] at g;subst g;refine⟨_,_,_,a,Nat.le_succ _, ?_, ?_⟩
   .intro q g;simp only [Uv] at g;subst g;exact⟨j,UC _,Wl _,rfl⟩
   .intro h ρ O E hs I C n;have hi:h (.s d j)=none:=n _ (Uv.2 rfl);refine⟨aE ρ (.s d j) (some (.map (some F))),aE O (.s d j) (some F),λi u z=> ?_, ?_,by simp [ao],λb=>⟨λ⟨i,hb⟩=> ?_,λhb=> ?_⟩⟩
    .by_cases e:i= .s d j
     .subst e;rw [(hs.cB _ rfl hi).1] at z;cases z
     .rw [ar _ _ e];exact z
    .rw [eK];exact hs.A2 rfl hi _ (some F) (λb hb=>C b (by simp only [Uh] at hb;simp [hb])) _ ⟨F,J,G,aF _ _ _,aF _ _ _,H,U,W⟩
    .by_cases e:i= .s d j
     .subst e;rw [aF] at hb;right;simp only [Uh] at hb;simp [hb]
     .rw [ar _ _ e] at hb;exact .inl ⟨i,hb⟩
    .rcases hb with⟨i,hb⟩ | hb
     .by_cases e:i= .s d j
      .subst e;rw [(hs.cB _ rfl hi).2] at hb;cases hb
      .exact⟨i,by rw [ar _ _ e];exact hb⟩
     .exact⟨.s d j,by rw [aF];simp only [Uv] at hb;rw [hb]⟩
 | agg l=>simp at a
 | new l=>simp at a
theorem yd{R:Type}{d:Nat}(i:cc=none\/cc=some true):∀{o:List bU} {j:Nat} {g x2:List T} {vs:List Value} {own:List Nat} {K:List AV->aH->Nat->Option R} {res:R},fC B w A o g vs own->kg ids d cc j o (g++x2) K=some res->
  ∃av us l,K av us l=some res/\j<=l/\m6 d j l us/\gp B ids c w A us own (λρ =>aC w A ρ av vs)
 | [],j,g,x2,vs,own,K,res,f,a=>by obtain⟨rfl,rfl,rfl⟩:=f;exact⟨_,_,_,a,UC _,(by intro p e;cases e),gp.nil λρ _=>by simp [aC]⟩
 | r::o,j,g,x2,vs,own,K,res,f,a=>by
  obtain⟨x,M,v,z,ob,F,rfl,rfl,rfl,h1,C⟩:=f;simp only [kg,Uo,VT,Xu] at a;replace a:=aO a i;obtain⟨y,hy,a⟩:=a;simp only [Uh] at hy;subst hy;obtain⟨av,us,N,a,D,t,H⟩:=Fp (c:=c) i h1 a;obtain⟨J,L,Q,a,E,u,I⟩:=yd i C a;refine⟨_,_,_,a,UY D E, ?_,H.append I t u λρ ρ' m q1 G=> ?_⟩
  .intro p e;rcases UB.1 e with e | e
   .obtain⟨k,q,k2,n⟩:=t p e;exact⟨k,q,by omega,n⟩
   .obtain⟨k,q,k2,n⟩:=u p e;exact⟨k,by omega,k2,n⟩
  .simp only [aC];exact⟨v,z,rfl,ao.mono (λb hb=>⟨hb,rfl⟩) m _ _ q1,G⟩
theorem jV.one{r:bU}{x:T}{v:Value}{ob:List Nat}(h:jV B w A r x v ob):v.oneCell'=true/\v.cells= #[v]:=by
 cases r with
 | f k=>exact h.2.1.qn
 | t k=>exact h.1.qn
 | own sz=>obtain⟨o,p,_,_,a,cap,rfl,_⟩:=h;exact⟨rfl,rfl⟩
 | rows sz aD rsz=>obtain⟨b,es,i,j,m,_,⟨a,cap,d,_⟩,hv,_⟩:=h;rw [hv] at d;cases d;exact⟨rfl,rfl⟩
 | ref k off=>obtain⟨⟨b,_,rfl⟩,_⟩:=h;exact⟨rfl,rfl⟩
 | same k=>exact h.1.2
 | no=>exact h.1
 | mp ag ks vk=>obtain⟨es,b,g,e,_,rfl,_⟩:=h;exact⟨rfl,rfl⟩
 | agg l=>exact h.elim
 | new l=>exact h.elim
theorem fC.one:∀{a:List bU} {xs:List T} {vs:List Value} {own:List Nat},fC B w A a xs vs own->∀u∈vs,u.oneCell'=true/\u.cells= #[u]
 | [],_,_,_,⟨_,rfl,_⟩,u,hu=>by cases hu
 | r::a,xs,vs,own,h,u,hu=>by
  obtain⟨x,f,v,e,ob,d,rfl,rfl,rfl,h1,b⟩:=h;rcases Uw.1 hu with rfl | hu
  .exact h1.one
  .exact fC.one b u hu
theorem fC.length:∀{a:List bU} {xs:List T} {vs:List Value} {own:List Nat},fC B w A a xs vs own->xs.length=a.length
 | [],_,_,_,⟨rfl,_,_⟩=>rfl
 | r::a,xs,vs,own,h=>by obtain⟨x,f,v,e,ob,d,rfl,rfl,rfl,h1,b⟩:=h;simp [fC.length b]
theorem gp.box{d K j:Nat}{us:aH}{o1:List Nat}{av:List AV}{f:Nat}{arr:Array Value}{t:TypeId}(h1:gp B ids c w A us o1 (λρ =>aC w A ρ av arr.toList))(N:m6 d K j us)(hb:w.heap[f]? =some (.cells arr t (0,0)))
  (J:∀u∈arr.toList,u.oneCell'=true/\u.cells= #[u]):gp B ids c w A (us++ [(.s d j, .box av)]) (f::o1) (λρ =>ao w A ρ (.ref (.s d j) 0) (.pointer (some ⟨f,0,none⟩))):=by
 intro h ρ O D hs E l m;obtain⟨F,G⟩:=VE.1 E;obtain⟨x,y,M,q,q1,r1⟩:=h1 h ρ O D hs G (λb hb=>l b (Um _ hb)) (λp z=>m p (Uy _ z));have hi:aK h us (.s d j)=none:=by
  rw [dS λp z e=> ?_]
  .exact m _ (Ux _ (Uv.2 rfl))
  .obtain⟨k,_,C,I⟩:=N p z;rw [I] at e;simp only [Id.s.injEq] at e;omega
 have n:∀k,y k≠some f:=by
  intro k a;rcases(r1 f).1 ⟨k,a⟩ with⟨L,o⟩ | o
  .exact(l f Uk).2.2 L o
  .exact F o
 have mono:∀i u,x i=some u->aE x (.s d j) (some (.pointer (some ⟨f,0,none⟩))) i=some u:=by
  intro i u r;by_cases e:i= .s d j
  .subst e;rw [(q.cB _ rfl hi).1] at r;cases r
  .rw [ar _ _ e];exact r
 refine⟨aE x (.s d j) (some (.pointer (some ⟨f,0,none⟩))),aE y (.s d j) (some f),λi u r=>mono i u (M i u r), ?_, ?_,λb=> ?_⟩
 .rw [mw,eK];refine q.A2 rfl hi _ (some f) (λb hb=> ?_) _ ⟨f,arr,t,aF _ _ _,aF _ _ _,hb,aC.mono (λb hb=>⟨hb,rfl⟩) mono _ _ q1,J⟩;simp only [Uh] at hb;subst hb;obtain⟨H,C,_⟩:=l f Uk;exact⟨H,C,n⟩
 .simp only [ao];exact⟨f,aF _ _ _,by simp⟩
 .constructor
  .rintro⟨k,a⟩;by_cases e:k= .s d j
   .subst e;rw [aF] at a;cases a;exact .inr Uk
   .rw [ar _ _ e] at a;rcases(r1 b).1 ⟨k,a⟩ with g | g
    .exact .inl g
    .exact .inr (Um _ g)
  .intro a;have v:(∃k,y k=some b)->∃k,aE y (.s d j) (some f) k=some b:=by
    rintro⟨k,a⟩;by_cases e:k= .s d j
    .subst e;rw [(q.cB _ rfl hi).2] at a;cases a
    .exact⟨k,by rw [ar _ _ e];exact a⟩
   rcases a with a | a
   .exact v ((r1 b).2 (.inl a))
   .rcases Uw.1 a with rfl | a
    .exact⟨_,aF _ _ _⟩
    .exact v ((r1 b).2 (.inr a))
theorem uq{R:Type}{d:Nat}(E:cc=none\/cc=some true):∀{G:List bU} {j:Nat} {xs:List T} {vs:List Value} {own:List Nat} {K:List AV->aH->Nat->Option R} {res:R},dM B w A G xs vs own->ee ids d cc j G xs K=some res->
  ∃av us z,K av us z=some res/\j<=z/\m6 d j z us/\gp B ids c w A us own (λρ =>aC w A ρ av vs)
 | [],j,xs,vs,own,K,res,e,a=>by obtain⟨rfl,rfl,rfl⟩:=e;exact⟨_,_,_,a,UC _,(by intro p i;cases i),gp.nil λρ _=>by simp [aC]⟩
 | r::G,j,xs,vs,own,K,res,e,a=>by
  have g:(∃x Q v o ob F,xs=x::Q/\vs=v::o/\own=ob++F/\jV B w A r x v ob/\dM B w A G Q o F)->
    (ae cc xs.head? λx=>mH ids d cc j r x λv u j=>ee ids d cc j G xs.tail λvs us j=>K (v::vs) (u++us) j)=some res->
    ∃av us z,K av us z=some res/\j<=z/\m6 d j z us/\gp B ids c w A us own (λρ =>aC w A ρ av vs):=by
   intro e a;obtain⟨x,Q,v,o,ob,F,rfl,rfl,rfl,h1,H⟩:=e;simp only [VT,Xu] at a;replace a:=aO a E;obtain⟨y,hy,a⟩:=a;simp only [Uh] at hy;subst hy;obtain⟨av,us,I,a,J,C,M⟩:=Fp (c:=c) E h1 a;obtain⟨U,W,j2,a,S,D,N⟩:=uq E H a;refine⟨_,_,_,a,UY J S, ?_,M.append N C D λρ ρ' m q1 L=> ?_⟩
   .intro p i;rcases UB.1 i with i | i
    .obtain⟨k,q,k2,n⟩:=C p i;exact⟨k,q,by omega,n⟩
    .obtain⟨k,q,k2,n⟩:=D p i;exact⟨k,by omega,k2,n⟩
   .simp only [aC];exact⟨v,o,rfl,ao.mono (λb hb=>⟨hb,rfl⟩) m _ _ q1,L⟩
  cases r with
  | f k=>exact g e a
  | t k=>exact g e a
  | own sz=>exact g e a
  | rows sz aD rsz=>exact g e a
  | mp ag ks vk=>exact g e a
  | new l=>
   obtain⟨Y,x2,b0,arr,ty,o,o1,o2,rfl,rfl,rfl,Z,h1,H⟩:=e;have a:(kg ids d cc j l (Y++x2) λv u j=>ee ids d cc (j+1) G ((Y++x2).drop l.length) λvs us z=>K (AV.ref (.s d j) 0::vs) (u++ [(.s d j, .box v)] ++us) z)=some res:=by
    cases cc with
    | none=>simp only [ee] at a;exact a
    | some b=>simp [ee] at a
   obtain⟨av,us,I,a,J,C,M⟩:=yd (c:=c) E h1 a;have X:=h1.length;rw [<-X,YP] at a;obtain⟨U,W,j2,a,S,D,N⟩:=uq E H a;have V:m6 d j (I+1) (us++ [(.s d I, .box av)]):=by
    intro p i;rcases UB.1 i with i | i
    .obtain⟨k,q,k2,n⟩:=C p i;exact⟨k,q,by omega,n⟩
    .rw [Uv.1 i];exact⟨I,J,by omega,rfl⟩
   refine⟨_,_,_,a,by omega, ?_,(M.box C Z h1.one).append N V D λρ ρ' m q1 L=> ?_⟩
   .intro p i;rcases UB.1 i with i | i
    .obtain⟨k,q,k2,n⟩:=V p i;exact⟨k,q,by omega,n⟩
    .obtain⟨k,q,k2,n⟩:=D p i;exact⟨k,by omega,k2,n⟩
   .simp only [aC];exact⟨_,o,rfl,ao.mono (λb hb=>⟨hb,rfl⟩) m _ _ q1,L⟩
  | ref k off=>exact g e a
  | same k=>exact g e a
  | no=>exact g e a
  | agg l=>
   obtain⟨Y,x2,ws,o,o1,o2,rfl,rfl,rfl,h1,H⟩:=e;simp only [ee] at a;obtain⟨av,us,I,a,J,C,M⟩:=yd (c:=c) E h1 a;have X:=h1.length;rw [<-X,YP] at a;obtain⟨U,W,j2,a,S,D,N⟩:=uq E H a;refine⟨_,_,_,a,UY J S, ?_,M.append N C D λρ ρ' m q1 L=> ?_⟩
   .intro p i;rcases UB.1 i with i | i
    .obtain⟨k,q,k2,n⟩:=C p i;exact⟨k,q,by omega,n⟩
    .obtain⟨k,q,k2,n⟩:=D p i;exact⟨k,by omega,k2,n⟩
   .simp only [aC];refine⟨_,o,rfl, ?_,L⟩;simp only [ao];exact⟨ws,rfl,aC.mono (λb hb=>⟨hb,rfl⟩) m _ _ q1,h1.one⟩
theorem De{vs:List AV}{a:List Value}(h:aC w A ρ vs a):ao w A ρ (mf vs) (pe a):=by
 match vs,a,h with
 | [],a,h=>simp only [aC] at h;subst h;simp only [mf,pe,ao];exact⟨[],rfl,by simp [aC]⟩
 | [v],a,h=>simp only [aC] at h;obtain⟨u,r,rfl,h1,rfl⟩:=h;exact h1
 | v::e::vs,a,h=>
  have b:=h.length
  match a,b with
  | u::d::a,_=>simp only [mf,pe,ao];exact⟨_,rfl,h⟩
theorem Sx{v:AV}{x:T}{u:Value}(hs:HS c w h ρ O)(hv:ao w (AA c w O) ρ v u)(a:DI h v=some x)
  (e:∀b,AA c w O b->A' b) (f:∀i af,O i=some af->A' af):aA w A' x u:=by
 have d:dH h v=some x->aA w A' x u:=λj=>mV hs hv j e (λi af _ g=>f i af g);cases v
 case own i=>
  simp only [DI] at a;split at a
  .rename_i sz b xs hi;exact d (by simp only [dH,hi];exact a)
  .simp only [Uh] at a;subst a;simp only [ao] at hv;simp only [aA];exact kD hs hv
  .simp only [Uh] at a;subst a;simp only [ao] at hv;simp only [aA];exact kD hs hv
  .cases a
 all_goals exact d a
theorem Ko(hs:HS c w h ρ O)(d:∀b,AA c w O b->A' b):∀{vs:List AV} {xs:List T} {us:List Value},aC w (AA c w O) ρ vs us->vP h vs=some xs->
  (∀i af,O i=some af->A' af)->aQ w A' xs us
 | [],xs,us,hv,a,_=>by simp only [vP,Uh] at a;subst a;simpa [aC,aQ] using hv
 | v::vs,xs,us,hv,a,e=>by simp only [vP] at a;obtain⟨x,h1,a⟩:=Ui.1 a;obtain⟨l,j,a⟩:=Ui.1 a;simp only [Uh] at a;subst a;simp only [aC] at hv;obtain⟨u,r,rfl,f,g⟩:=hv;exact⟨u,r,rfl,Sx hs f h1 d e,Ko hs d g j e⟩
theorem Lt{m:Bool}{v:AV}{u:Value}{q:T×aH}(hs:HS c w h ρ O)(hv:ao w (AA c w O) ρ v u)(a:jW true m h v=some q):q.2= []/\aA w (λb=>b < w.heap.size) q.1 u:=by
 have f:∀b,AA c w O b->b < w.heap.size:=λb hb=>hb.2.1;have d:∀x:T,dH h v=some x->aA w (λb=>b < w.heap.size) x u:=λx k=>mV hs hv k f (λi af _ g=>hs.lt i af g);cases v
 case ref i off=>
  simp only [jW,cond_true] at a;split at a
  .rename_i cs hi;obtain⟨l,p,a⟩:=Ui.1 a;simp only [Uh] at a;subst a;obtain⟨b,arr,t,h1,y,z,n,D⟩:=hs.af i _ hi;simp only [ao] at hv;obtain⟨C,e,rfl⟩:=hv;rw [h1] at e;simp only [Uh,Wn,Vt] at e;obtain⟨rfl,_⟩:=e;refine⟨rfl, ?_⟩;simp only [aA];have r:aQ w (λb=>b < w.heap.size) l (arr.toList.drop off):=by
    cases m with
    | true=>exact Ko hs f (n.drop off) p (λi af g=>hs.lt i af g)
    | false=>exact aQ.mono (λb hb=>⟨f b hb,rfl⟩) _ _ (aQ.l7 p (n.drop off))
   refine⟨b,off,rfl, .inr (hs.lt i b y),aU.lk r (λj v o=> ?_)⟩;rw [W1] at o;simp only [World.cell?,z];simpa using o
  .rename_i l hi;simp only [Uh] at a;subst a;exact⟨rfl,d _ (by simp [dH,hi])⟩
  .simp at a
 all_goals
  simp only [jW] at a;obtain⟨x,k,a⟩:=Ui.1 a;simp only [cond_true,Uh] at a;subst a;exact⟨rfl,d _ k⟩
theorem Lu{n:Bool}{v:AV}{u:Value}{q:T×aH}(hs:HS c w h ρ O)(hv:ao w (AA c w O) ρ v u)(a:jW false n h v=some q):
  iu h q.2/\∀O',Le w ρ O w ρ O'->(∀i,O' i=O i\/O' i=none)->(∀p∈q.2,O' p.1=none)->aA w (AA c w O') q.1 u:=by
 have l:∀x:T,dH h v=some x->q= (x,ij h v)->iu h q.2/\∀O',Le w ρ O w ρ O'->(∀i,O' i=O i\/O' i=none)->(∀p∈q.2,O' p.1=none)->aA w (AA c w O') q.1 u:=by
  intro x d e;subst e;refine⟨uH v,λO' le m o=>mV hs hv d (λb hb=>(le.A b hb).1) (λi af hi k=> ?_)⟩;obtain⟨p,r,e⟩:=yP hs d hi k;refine⟨.inr (hs.own i af k),hs.lt i af k,λj f=> ?_⟩;rcases m j with g | g
  .rw [g] at f;have:=hs.inj j i af f k;subst this;have:=o p r;rw [e,g,f] at this;cases this
  .rw [g] at f;cases f
 cases v
 case ref i off=>simp only [jW,cond_false] at a;obtain⟨x,d,a⟩:=Ui.1 a;simp only [Uh] at a;exact l x d a.symm
 all_goals
  simp only [jW] at a;obtain⟨x,d,a⟩:=Ui.1 a;simp only [cond_false,Uh] at a;exact l x d a.symm
def iT(c:Ctx)(w:World)(h:Id->Option ab)(ρ:Id->Option Value)(O:Id->Option Nat)(fl:Bool)(us:aH)(Q:(Nat->Prop)->Prop):Prop:=
 (fl=true->us= []/\Q (λb=>b < w.heap.size))/\
 (fl=false->iu h us/\∀O',Le w ρ O w ρ O'->(∀i,O' i=O i\/O' i=none)->(∀p∈us,O' p.1=none)->Q (AA c w O'))
theorem EB{fl b:Bool}{v:AV}{u:Value}{q:T×aH}(hs:HS c w h ρ O)(hv:ao w (AA c w O) ρ v u)(a:jW fl b h v=some q):iT c w h ρ O fl q.2 (λA=>aA w A q.1 u):=
 ⟨λe=>by subst e;exact Lt hs hv a,λe=>by subst e;exact Lu hs hv a⟩
theorem iT.append{fl:Bool}{us vs:aH}{i j Q:(Nat->Prop)->Prop}(h1:iT c w h ρ O fl us i)(k:iT c w h ρ O fl vs j)(n:∀A,i A->j A->Q A):iT c w h ρ O fl (us++vs) Q:=by
 refine⟨λe=> ?_,λe=> ?_⟩
 .obtain⟨a,b⟩:=h1.1 e;obtain⟨d,f⟩:=k.1 e;exact⟨by rw [a,d];rfl,n _ b f⟩
 .obtain⟨a,b⟩:=h1.2 e;obtain⟨d,f⟩:=k.2 e;exact⟨a.append d,λO' le l m=>n _ (b O' le l (λp g=>m p (Uy _ g))) (f O' le l (λp g=>m p (Ux _ g)))⟩
theorem iT.nil{fl:Bool}{Q:(Nat->Prop)->Prop}(a:∀A,Q A):iT c w h ρ O fl [] Q:=⟨λ_=>⟨rfl,a _⟩,λ_=>⟨(by intro p b;cases b),λ_ _ _ _=>a _⟩⟩
theorem iT.imp{fl:Bool}{us:aH}{a Q:(Nat->Prop)->Prop}(h1:iT c w h ρ O fl us a)(b:∀A,a A->Q A):iT c w h ρ O fl us Q:=
 ⟨λe=>⟨(h1.1 e).1,b _ (h1.1 e).2⟩,λe=>⟨(h1.2 e).1,λO' le d f=>b _ ((h1.2 e).2 O' le d f)⟩⟩
theorem xM{fl f:Bool}(hs:HS c w h ρ O):∀{vs:List AV} {us:List Value} {q:List T×aH},aC w (AA c w O) ρ vs us->mE fl f h vs=some q->iT c w h ρ O fl q.2 (λA=>aQ w A q.1 us)
 | [],us,q,hv,d=>by simp only [aC] at hv;subst hv;simp only [mE,Uh] at d;subst d;exact iT.nil λ_=>rfl
 | v::vs,us,q,hv,d=>by simp only [aC] at hv;obtain⟨u,r,rfl,h1,g⟩:=hv;simp only [mE] at d;obtain⟨p,i,d⟩:=Ui.1 d;obtain⟨j,e,d⟩:=Ui.1 d;simp only [Uh] at d;subst d;exact(EB hs h1 i).append (xM hs g e) λA a b=>⟨u,r,rfl,a,b⟩
theorem EF{fl j:Bool}(hs:HS c w h ρ O){v:AV}{u:Value}{q:AV×aH}(hv:ao w (AA c w O) ρ v u)(d:lO fl j h v=some q):iT c w h ρ O fl q.2 (λA=>ao w A (λ_=>none) q.1 u):=by
 cases v
 case fn f a b=>simp only [ao] at hv;obtain⟨l,y',rfl,h1,g⟩:=hv;simp only [lO] at d;obtain⟨p,e,d⟩:=Ui.1 d;obtain⟨m,i,d⟩:=Ui.1 d;simp only [Uh] at d;subst d;refine(xM hs h1 e).append (xM hs g i) λA a b=> ?_;simp only [ao];exact⟨l,y',rfl,aC.l8 a,aC.l8 b⟩
 case agg vs=>simp only [ao] at hv;obtain⟨k,rfl,h1,g⟩:=hv;simp only [lO] at d;obtain⟨p,e,d⟩:=Ui.1 d;simp only [Uh] at d;subst d;refine(xM hs h1 e).imp λA a=> ?_;simp only [ao];exact⟨k,rfl,aC.l8 a,g⟩
 all_goals
  simp only [lO] at d;obtain⟨p,e,d⟩:=Ui.1 d;simp only [Uh] at d;subst d;refine(EB hs hv e).imp λA a=> ?_;simpa [ao] using a
theorem EH{fl f:Bool}(hs:HS c w h ρ O):∀{vs:List AV} {us:List Value} {q:List AV×aH},aC w (AA c w O) ρ vs us->lP fl f h vs=some q->iT c w h ρ O fl q.2 (λA=>aC w A (λ_=>none) q.1 us)
 | [],us,q,hv,d=>by simp only [aC] at hv;subst hv;simp only [lP,Uh] at d;subst d;exact iT.nil λ_=>by simp [aC]
 | v::vs,us,q,hv,d=>by simp only [aC] at hv;obtain⟨u,r,rfl,h1,g⟩:=hv;simp only [lP] at d;obtain⟨p,i,d⟩:=Ui.1 d;obtain⟨j,e,d⟩:=Ui.1 d;simp only [Uh] at d;subst d;refine(EF hs h1 i).append (EH hs g e) λA a b=> ?_;simp only [aC];exact⟨u,r,rfl,a,b⟩
theorem aA.flat{x:T}{v:Value}(a:x.pX =some ())(h:aA w A x v):aA w A' x v:=by cases x <;> simp only [T.pX,reduceCtorEq] at a <;> simpa [aA] using h
theorem fC.flat:∀{a:List bU} {xs:List T} {vs:List Value} {own:List Nat},(a.all λr=>match r with | .f _=>true | _=>false)=true->fC B w A a xs vs own->fC B w A' a xs vs own/\own= []
 | [],_,_,_,_,h=>⟨h,h.2.2⟩
 | r::a,xs,vs,own,b,h=>by simp only [VZ,Un] at b;obtain⟨x,g,v,e,ob,k,rfl,rfl,rfl,h1,j⟩:=h;obtain⟨i,rfl⟩:=fC.flat b.2 j;cases r <;> simp only [UM,false_and] at b;obtain⟨d,k2,rfl⟩:=h1;exact⟨⟨x,g,v,e,[],[],rfl,rfl,rfl,⟨d,k2.flat d,rfl⟩,i⟩,rfl⟩
theorem dM.flat:∀{d:List bU} {xs:List T} {vs:List Value} {own:List Nat},d.all r7=true->dM B w A d xs vs own->dM B w A' d xs vs own/\own= []
 | [],_,_,_,_,h=>⟨h,h.2.2⟩
 | r::d,xs,vs,own,a,h=>by
  simp only [VZ,Un] at a;cases r <;> simp only [r7,UM,false_and] at a
  case f=>obtain⟨x,j,v,b,ob,m,rfl,rfl,rfl,h1,g⟩:=h;obtain⟨e,rfl⟩:=dM.flat a.2 g;obtain⟨i,k2,rfl⟩:=h1;exact⟨⟨x,j,v,b,[],[],rfl,rfl,rfl,⟨i,k2.flat i,rfl⟩,e⟩,rfl⟩
  case agg l=>obtain⟨o,x2,n,b,o1,p,rfl,rfl,rfl,h1,g⟩:=h;obtain⟨e,rfl⟩:=dM.flat a.2 g;obtain⟨k,rfl⟩:=fC.flat a.1 h1;exact⟨⟨o,x2,n,b,[],[],rfl,rfl,rfl,k,e⟩,rfl⟩
theorem jV.mono{r:bU}{x:T}{v:Value}{ob:List Nat}(e:∀b,A b->A' b)(h:jV B w A r x v ob):jV B w A' r x v ob:=by
 have g:∀x v,aA w A x v->aA w A' x v:=λx v=>aA.mono (λb hb=>⟨e b hb,rfl⟩) x v;cases r with
 | f k=>exact⟨h.1,g _ _ h.2.1,h.2.2⟩
 | t k=>exact⟨g _ _ h.1,h.2⟩
 | own sz=>obtain⟨o,p,a,h1,d⟩:=h;exact⟨o,p,a,h1,d.mono (λb hb=>⟨e b hb,rfl⟩) (λb hb=>⟨hb,rfl⟩)⟩
 | rows sz aD rsz=>obtain⟨b,es,i,j,m,a,h1,d⟩:=h;exact⟨b,es,i,j,m,a,cT.mono (λn=>⟨rfl,rfl,λ_ _=>rfl⟩) (λb hb=>⟨e b hb,rfl⟩) (λ_ _ h=>h) rfl (λ_ _=>rfl) h1,d⟩
 | ref k off=>exact h
 | same k=>exact h
 | no=>exact h
 | mp ag ks vk=>exact h
 | agg l=>exact h.elim
 | new l=>exact h.elim
theorem fC.mono(e:∀b,A b->A' b):∀{d:List bU} {xs:List T} {vs:List Value} {own:List Nat},fC B w A d xs vs own->fC B w A' d xs vs own
 | [],_,_,_,h=>h
 | r::d,xs,vs,own,h=>by obtain⟨x,g,v,f,ob,a,rfl,rfl,rfl,h1,i⟩:=h;exact⟨x,g,v,f,ob,a,rfl,rfl,rfl,h1.mono e,fC.mono e i⟩
theorem dM.mono(d:∀b,A b->A' b):∀{i:List bU} {xs:List T} {vs:List Value} {own:List Nat},dM B w A i xs vs own->dM B w A' i xs vs own
 | [],_,_,_,h=>h
 | r::i,xs,vs,own,h=>by
  cases r with
  | agg l=>obtain⟨j,x2,o,a,o1,f,rfl,rfl,rfl,h1,e⟩:=h;exact⟨j,x2,o,a,o1,f,rfl,rfl,rfl,h1.mono d,dM.mono d e⟩
  | new l=>obtain⟨j,x2,n,arr,ty,a,o1,f,rfl,rfl,rfl,k,h1,e⟩:=h;exact⟨j,x2,n,arr,ty,a,o1,f,rfl,rfl,rfl,k,h1.mono d,dM.mono d e⟩
  | _=>obtain⟨x,m,v,a,ob,g,rfl,rfl,rfl,h1,e⟩:=h;exact⟨x,m,v,a,ob,g,rfl,rfl,rfl,h1.mono d,dM.mono d e⟩
theorem KE{R:Type}{d:Nat}{E:List bU}{xs:List T}{be:List Value}{own:List Nat}{K:List AV->aH->Nat->Option R}{res:R}(H:cc=none\/cc=some true)(hs:HS c w h ρ O)(f:xk w w')(z:own.Nodup)(e:∀b∈own,w.heap.size<=b/\b < w'.heap.size)
  (y:dM (λ_=>none) w' (λb=>(c.A0 b\/c.MO b)/\b < w'.heap.size/\b∉own/\∀i,O i≠some b) E xs be own) (a:ee [] d cc 0 E xs K=some res):
  ∃g us j,K g us j=some res/\m6 d 0 j us/\((∀p∈us,h p.1=none)->∃ρ' O',Le w ρ O w' ρ' O'/\HS c w' (aK h us) ρ' O'/\aC w' (AA c w' O') ρ' g be):=by
 obtain⟨g,us,j,a,_,t,I⟩:=uq (c:=c) H y a;refine⟨g,us,j,a,t,λr=> ?_⟩;have G:∀b,AA c w O b->((c.A0 b\/c.MO b)/\b < w'.heap.size/\b∉own/\∀i,O i≠some b)/\w'.heap[b]? =w.heap[b]?:=by intro b hb;refine⟨⟨hb.1,V5 hb.2.1 f.size,λhm=> ?_,hb.2.2⟩,f.af b hb.2.1⟩;have:=(e b hm).1;have:=hb.2.1;omega
 have D:gL c w' (λb=>(c.A0 b\/c.MO b)/\b < w'.heap.size/\b∉own/\∀i,O i≠some b) h ρ O:=
  ⟨λi b hb=>cT.mono (λn=>⟨rfl,rfl,λb hb=>f.af b (hs.lt _ b hb)⟩) G (λ_ _ h=>h) rfl (λb hb=>f.af b (hs.lt i b hb)) (hs.af i b hb),hs.cB,hs.ez,hs.fG,hs.gone,hs.inj,λi b hb=>V5 (hs.lt i b hb) f.size,hs.own,UY hs.size f.size⟩
 obtain⟨ρ',O',m,C,q,l⟩:=I h ρ O (by intro k i v a;simp at a) D z (λb hb=>⟨(e b hb).2, .inr (UY hs.size (e b hb).1),λi hi=>by have:=hs.lt i b hi;have:=(e b hb).1;omega⟩) r;have u:∀b,((c.A0 b\/c.MO b)/\b < w'.heap.size/\b∉own/\∀i,O i≠some b)↔AA c w' O' b:=by
  intro b;constructor
  .rintro⟨h1,x,o,F⟩;refine⟨h1,x,λi hi=> ?_⟩;rcases(l b).1 ⟨i,hi⟩ with⟨k,a⟩ | a
   .exact F k a
   .exact o a
  .rintro⟨h1,x,o⟩;refine⟨h1,x,λhm=> ?_,λi hi=> ?_⟩
   .obtain⟨i,hi⟩:=(l b).2 (.inr hm);exact o i hi
   .obtain⟨k,a⟩:=(l b).2 (.inl ⟨i,hi⟩);exact o k a
 refine⟨ρ',O',⟨f.os,f.output,f.tape,f.size,m,λk a _=>f.af k a,λi b hi=> ?_⟩,C.KI u, ?_⟩
 .rcases(l b).1 ⟨i,hi⟩ with a | a
  .exact .inl a
  .exact .inr (e b a).1
 .exact aC.mono (λb hb=>⟨(u b).1 hb,rfl⟩) (λ_ _ h=>h) _ _ q
theorem rQ{d:Type}{a b:List d}{n:Nat}(h:a.length=n):(a++b).drop n=b:=by rw [<-h,YP]
theorem ur{R:Type}{all:List Id}{d:Nat}:∀{outs:List jU} {W:List Id} {j jj:Nat} {xs:List T} {own:List Nat} {K:aH->Option R} {res:R},oB B w A jj outs xs own->gv all d j W outs xs K=some res->
  ∃us,K us=some res/\(∀p∈us,(∃k,j<=k/\p.1= .s d k)\/p.1∈W)/\
   ∀h ρ O,wg B all ρ->(∀k i,W[k]? =some i->h i=some .dead/\∀v,B (jj+k)=some v->ρ i=some v)->gL c w A h ρ O->own.Nodup->(∀b∈own,b < w.heap.size/\c.MO b/\∀i,O i≠some b)->W.Nodup->
    (∀i∈W,∀k,i≠ .s d k)->(∀p∈us,∀k,p.1= .s d k->h p.1=none)->
    ∃ρ' O',(∀i u,ρ i=some u->ρ' i=some u)/\gL c w A (aK h us) ρ' O'/\∀b,(∃i,O' i=some b)↔((∃i,O i=some b)\/b∈own)
 | [],[],j,jj,xs,own,K,res,o,a=>by obtain⟨rfl,rfl⟩:=o;simp only [gv] at a;exact⟨[],a,(by intro p f;cases f),λh ρ O _ _ hs _ _ _ _ _=>⟨ρ,O,λ_ _ h=>h,hs,λb=>by simp⟩⟩
 | [],_::_,j,jj,xs,own,K,res,o,a=>by simp [gv] at a
 | r::outs,[],j,jj,xs,own,K,res,o,a=>by cases r <;> simp [gv] at a
 | .dead::outs,i::W,j,jj,xs,own,K,res,o,a=>by
  simp only [gv] at a;obtain⟨us,a,y,tk⟩:=ur (jj:=jj+1) o a;refine⟨us,a,λp f=>(y p f).imp id (Um _),λh ρ O J S hs N n F C q=> ?_⟩;exact tk h ρ O J (λk i a=>by
   have:=S (k+1) i (by simpa using a);rw [show jj+ (k+1)=jj+1+k by omega] at this;exact this) hs N n (VE.1 F).2 (λi hi=>C i (Um _ hi)) q
 | .mp ag ks vk::outs,i::W,j,jj,xs,own,K,res,o,a=>by
  obtain⟨es,E,ents,clock,x2,o2,rfl,rfl,hB,V,hes,hok,H⟩:=o;obtain⟨ob,hob⟩:∃ob:Option Nat,ob=some E:=⟨_,rfl⟩;rw [show E::o2=ob.toList++o2 by rw [hob];rfl] at *
  simp only [gv,VT,Ut,Xu] at a;replace a:=aO a (.inl rfl);obtain⟨p,f,a⟩:=a;rw [eG] at f;simp only [Uh] at f;subst f;obtain⟨us,a,y,tk⟩:=ur (jj:=jj+1) H a;refine⟨_,a,λp f=> ?_,λh ρ O J S hs N n F C q=> ?_⟩
  .rcases Uw.1 f with rfl | f
   .exact .inr Uk
   .exact(y p f).imp id (Um _)
  obtain⟨n1,n2⟩:=VE.1 F;obtain⟨d1,d2⟩:=S 0 i rfl;obtain⟨k1,k2,k3⟩:=Wb.1 N;have U:=hs.Di d1 ob (λb hb=>n b (Uy _ (by simp [hb]))) (.mp ag ks vk es) ⟨E,ents,clock,d2 _ (by simpa using hB),by rw [aF,hob],V,hes,hok⟩;have X:O i=none:=(hs.af i _ d1).2;have z:∀b,(∃k,aE O i ob k=some b)↔((∃k,O k=some b)\/b∈ob.toList):=by
   intro b;constructor
   .rintro⟨k,a⟩;by_cases e:k=i
    .rw [e,aF] at a;right;simp [a]
    .rw [ar _ _ e] at a;exact .inl ⟨k,a⟩
   .rintro(⟨k,a⟩ | a)
    .by_cases e:k=i
     .rw [e,X] at a;cases a
     .exact⟨k,by rw [ar _ _ e];exact a⟩
    .exact⟨i,by rw [aF];simpa using a⟩
  have Q:∀b∈o2,b < w.heap.size/\c.MO b/\∀k,aE O i ob k≠some b:=by
   intro b hb;obtain⟨L,M,I⟩:=n b (Ux _ hb);refine⟨L,M,λi' Y=> ?_⟩;rcases(z b).1 ⟨i',Y⟩ with⟨k,a⟩ | a
   .exact I k a
   .exact k3 b a b hb rfl
  have G:∀p∈us,∀k,p.1= .s d k->aE h i (some (.mp ag ks vk es)) p.1=none:=by intro p f k e;have D:p.1≠i:=λe'=>C i Uk k (by rw [<-e',e]);rw [ar _ _ D];exact q p (Um _ f) k e
  obtain⟨ρ',O',m,Z,rng⟩:=tk (aE h i (some (.mp ag ks vk es))) ρ (aE O i ob) J (λk i' a=>by
    have:=S (k+1) i' (by simpa using a);rw [show jj+ (k+1)=jj+1+k by omega] at this;refine⟨?_,this.2⟩;have D:i'≠i:=λe=>n1 (by rw [<-e];exact Uj a);rw [ar _ _ D];exact this.1) U k2 Q n2 (λi hi=>C i (Um _ hi)) G
  refine⟨ρ',O',m,Z,λb=> ?_⟩;rw [rng b,z b,UB,or_assoc]
 | .sl sz::outs,i::W,j,jj,xs,own,K,res,o,a=>by
  obtain⟨bb,l,x2,ob,v,o2,rfl,rfl,hB,hsl,H⟩:=o;simp only [gv,VT,Ut,Xu] at a;replace a:=aO a (.inl rfl);obtain⟨p,f,a⟩:=a;simp only [T.aT,if_true,Uh] at f;subst f;obtain⟨us,a,y,tk⟩:=ur (jj:=jj+1) H a;refine⟨_,a,λp f=> ?_,λh ρ O J S hs N n F C q=> ?_⟩
  .rcases Uw.1 f with rfl | f
   .exact .inr Uk
   .exact(y p f).imp id (Um _)
  obtain⟨n1,n2⟩:=VE.1 F;obtain⟨d1,d2⟩:=S 0 i rfl;obtain⟨k1,k2,k3⟩:=Wb.1 N;have U:=hs.Di d1 ob (λb hb=>n b (Uy _ (by simp [hb]))) (.sl false sz bb l) ⟨v,d2 v (by simpa using hB),by simpa using hsl,by simp⟩;have X:O i=none:=(hs.af i _ d1).2;have z:∀b,(∃k,aE O i ob k=some b)↔((∃k,O k=some b)\/b∈ob.toList):=by
   intro b;constructor
   .rintro⟨k,a⟩;by_cases e:k=i
    .rw [e,aF] at a;right;simp [a]
    .rw [ar _ _ e] at a;exact .inl ⟨k,a⟩
   .rintro(⟨k,a⟩ | a)
    .by_cases e:k=i
     .rw [e,X] at a;cases a
     .exact⟨k,by rw [ar _ _ e];exact a⟩
    .exact⟨i,by rw [aF];simpa using a⟩
  have Q:∀b∈o2,b < w.heap.size/\c.MO b/\∀k,aE O i ob k≠some b:=by
   intro b hb;obtain⟨L,M,I⟩:=n b (Ux _ hb);refine⟨L,M,λi' Y=> ?_⟩;rcases(z b).1 ⟨i',Y⟩ with⟨k,a⟩ | a
   .exact I k a
   .exact k3 b a b hb rfl
  have G:∀p∈us,∀k,p.1= .s d k->aE h i (some (.sl false sz bb l)) p.1=none:=by intro p f k e;have D:p.1≠i:=λe'=>C i Uk k (by rw [<-e',e]);rw [ar _ _ D];exact q p (Um _ f) k e
  obtain⟨ρ',O',m,Z,rng⟩:=tk (aE h i (some (.sl false sz bb l))) ρ (aE O i ob) J (λk i' a=>by
    have:=S (k+1) i' (by simpa using a);rw [show jj+ (k+1)=jj+1+k by omega] at this;refine⟨?_,this.2⟩;have D:i'≠i:=λe=>n1 (by rw [<-e];exact Uj a);rw [ar _ _ D];exact this.1) U k2 Q n2 (λi hi=>C i (Um _ hi)) G
  refine⟨ρ',O',m,Z,λb=> ?_⟩;rw [rng b,z b,UB,or_assoc]
 | .box l::outs,i::W,j,jj,xs,own,K,res,o,a=>by
  obtain⟨x1,x2,E,arr,t,o1,o2,rfl,rfl,hB,V,hL,H⟩:=o;simp only [gv] at a;obtain⟨av,us1,j1,a,hj,n1',t1⟩:=yd (c:=c) (ids:=all) (.inl rfl) hL a;rw [rQ hL.length] at a;obtain⟨us2,a,y,tk⟩:=ur (jj:=jj+1) H a;refine⟨_,a,λp f=> ?_,λh ρ O J S hs N n F C q=> ?_⟩
  .rcases UB.1 f with f | f
   .obtain⟨k,L,M,I⟩:=n1' p f;exact .inl ⟨k,L,I⟩
   .rcases Uw.1 f with rfl | f
    .exact .inr Uk
    .rcases y p f with⟨k,L,M⟩ | g
     .exact .inl ⟨k,by omega,M⟩
     .exact .inr (Um _ g)
  obtain⟨n1,n2⟩:=VE.1 F;obtain⟨d1,d2⟩:=S 0 i rfl;obtain⟨q1,q2⟩:=VE.1 N;obtain⟨k1,k2,k3⟩:=Wb.1 q2;have not1:∀x,(∀k,x≠ .s d k)->aK h us1 x=h x:=λx hx=>dS λp f e=>by obtain⟨k,_,_,I⟩:=n1' p f;exact hx k (by rw [<-e,I])
  obtain⟨ρ1,O1,m1,U,v1,z⟩:=t1 h ρ O J hs k1 (λb hb=>n b (Um _ (Uy _ hb))) (λp f=>by
   obtain⟨k,_,_,I⟩:=n1' p f;exact q p (Uy _ f) k I)
  have hdi:aK h us1 i=some .dead:=by rw [not1 i (C i Uk)];exact d1
  have fresh0:∀k,O1 k≠some E:=by
   intro k a;rcases(z E).1 ⟨k,a⟩ with⟨k',hk'⟩ | hk'
   .exact(n E Uk).2.2 k' hk'
   .exact q1 (Uy _ hk')
  have hs2:=U.Di hdi (some E) (λb hb=>by
   simp only [Uh] at hb;subst hb;obtain⟨L,M,_⟩:=n E Uk;exact⟨L,M,fresh0⟩) (.box av) ⟨E,arr,t,m1 _ _ (d2 _ (by simpa using hB)),aF _ _ _,V,v1,hL.one⟩
  have X:O1 i=none:=(U.af i _ hdi).2;have rng2:∀b,(∃k,aE O1 i (some E) k=some b)↔((∃k,O k=some b)\/b∈E::o1):=by
   intro b;constructor
   .rintro⟨k,a⟩;by_cases e:k=i
    .rw [e,aF] at a;cases a;exact .inr Uk
    .rw [ar _ _ e] at a;rcases(z b).1 ⟨k,a⟩ with g | g
     .exact .inl g
     .exact .inr (Um _ g)
   .intro a;have lift:(∃k,O1 k=some b)->∃k,aE O1 i (some E) k=some b:=by
     rintro⟨k,a⟩;by_cases e:k=i
     .rw [e,X] at a;cases a
     .exact⟨k,by rw [ar _ _ e];exact a⟩
    rcases a with a | a
    .exact lift ((z b).2 (.inl a))
    .rcases Uw.1 a with rfl | a
     .exact⟨i,aF _ _ _⟩
     .exact lift ((z b).2 (.inr a))
  have Q:∀b∈o2,b < w.heap.size/\c.MO b/\∀k,aE O1 i (some E) k≠some b:=by
   intro b hb;obtain⟨L,M,I⟩:=n b (Um _ (Ux _ hb));refine⟨L,M,λi' Y=> ?_⟩;rcases(rng2 b).1 ⟨i',Y⟩ with⟨k,a⟩ | a
   .exact I k a
   .rcases Uw.1 a with rfl | a
    .exact q1 (Ux _ hb)
    .exact k3 b a b hb rfl
  have G:∀p∈us2,∀k,p.1= .s d k->aE (aK h us1) i (some (.box av)) p.1=none:=by
   intro p f k e;have D:p.1≠i:=λe'=>C i Uk k (by rw [<-e',e]);rw [ar _ _ D];rw [dS (λp' hp' e'=> ?_)]
   .exact q p (Ux _ (Um _ f)) k e
   .obtain⟨k',L,M,I⟩:=n1' p' hp';rcases y p f with⟨k'',g4,g5⟩ | g
    .rw [I,g5] at e';simp only [Id.s.injEq] at e';omega
    .exact C p.1 (Um _ g) k e
  obtain⟨ρ',O',m,Z,rng⟩:=tk (aE (aK h us1) i (some (.box av))) ρ1 (aE O1 i (some E)) (λk i v e1 e2=>m1 i v (J k i v e1 e2)) (λk i' a=>by
    have hm:=Uj a;have:=S (k+1) i' (by simpa using a);rw [show jj+ (k+1)=jj+1+k by omega] at this;refine⟨?_,λv hv=>m1 _ _ (this.2 v hv)⟩;have D:i'≠i:=λe=>n1 (by rw [<-e];exact hm);rw [ar _ _ D,not1 i' (C i' (Um _ hm))];exact this.1) hs2 k2 Q n2 (λi hi=>C i (Um _ hi)) G
  refine⟨ρ',O',λi u hi=>m i u (m1 i u hi),by rw [mw,de];exact Z,λb=> ?_⟩;rw [rng b,rng2 b,Uw,Uw,UB];simp only [or_assoc]
theorem ED{fI:List Id}(hs:HS c w h ρ O):∀{fl:List Bool} {vs:List AV} {us:List Value} {q:List AV×aH},aC w (AA c w O) ρ vs us->mF h fI fl vs=some q->
  iu h q.2/\∀O',Le w ρ O w ρ O'->(∀i,O' i=O i\/O' i=none)->(∀p∈q.2,O' p.1=none)->aC w (AA c w O') ρ q.1 us
 | fl,[],us,q,hv,d=>by simp only [aC] at hv;subst hv;simp only [mF,Uh] at d;subst d;exact⟨(by intro p a;cases a),λ_ _ _ _=>by simp [aC]⟩
 | fl,v::vs,us,q,hv,d=>by
  simp only [aC] at hv;obtain⟨u,r,rfl,h1,n⟩:=hv;simp only [mF] at d;obtain⟨p,a,d⟩:=Ui.1 d;obtain⟨t,k,d⟩:=Ui.1 d;simp only [Uh] at d;subst d;obtain⟨l,m⟩:=ED hs n k;have one:iu h p.2/\∀O',Le w ρ O w ρ O'->(∀i,O' i=O i\/O' i=none)->(∀x∈p.2,O' x.1=none)->ao w (AA c w O') ρ p.1 u:=by
   unfold uc at a;cases e:(fl.headD false || (!v.ids.isEmpty && v.ids.all fI.contains)) with
   | true=>rw [e] at a;simp only [cond_true,Uh] at a;subst a;exact⟨(by intro p a;cases a),λO' le _ _=>ao.mono (λb hb=>le.A b hb) (λ_ _ h=>h) _ _ h1⟩
   | false=>rw [e] at a;simp only [cond_false] at a;obtain⟨o,k2⟩:=(EF hs h1 a).2 rfl;exact⟨o,λO' le f g=>ao.mono (λb hb=>⟨hb,rfl⟩) (by intro i v h;cases h) _ _ (k2 O' le f g)⟩
  refine⟨one.1.append l,λO' le f g=> ?_⟩;simp only [aC];exact⟨u,r,rfl,one.2 O' le f (λx j=>g x (Uy _ j)),m O' le f (λx j=>g x (Ux _ j))⟩
theorem dM.length:∀{d:List bU} {xs:List T} {vs:List Value} {own:List Nat},dM B w A d xs vs own->xs.length=mS d
 | [],_,_,_,⟨rfl,_,_⟩=>rfl
 | r::d,xs,vs,own,h=>by
  cases r with
  | agg l=>obtain⟨g,x2,m,b,o1,e,rfl,rfl,rfl,h1,a⟩:=h;simp [mS,bU.size,h1.length,dM.length a]
  | new l=>obtain⟨g,x2,k,arr,ty,b,o1,e,rfl,rfl,rfl,i,h1,a⟩:=h;simp [mS,bU.size,h1.length,dM.length a]
  | _=>obtain⟨x,j,v,b,ob,f,rfl,rfl,rfl,h1,a⟩:=h;simp [mS,bU.size,dM.length a];omega
theorem Ml{R:Type}{d:Nat}:∀{m:List bU} {e x2:List T} {j:Nat} {vs:List Value} {own:List Nat} {K:List AV->aH->Nat->Option R},dM B w A m e vs own->
  ee ids d cc j m (e++x2) K=ee ids d cc j m e K:=by
 have one:∀{l:List bU} {e x2:List T} {j:Nat} {vs:List Value} {own:List Nat} {K:List AV->aH->Nat->Option R},fC B w A l e vs own->kg ids d cc j l (e++x2) K=kg ids d cc j l e K:=by
  intro l;induction l with
  | nil=>intro e x2 j vs own K h;rfl
  | cons r l q=>intro e x2 j vs own K h;obtain⟨x,o,v,g,ob,i,rfl,rfl,rfl,h1,n⟩:=h;simp only [kg,Uo,VT,Xu];congr 1;funext y;congr 1;funext v u j;exact q n
 intro m;induction m with
 | nil=>intro e x2 j vs own K h;rfl
 | cons r m q=>
  intro e x2 j vs own K h
  have a:(∃x o v g ob i,e=x::o/\vs=v::g/\own=ob++i/\jV B w A r x v ob/\dM B w A m o g i)->
    (ae cc (e++x2).head? λx=>mH ids d cc j r x λv u j=>ee ids d cc j m (e++x2).tail λvs us j=>K (v::vs) (u++us) j)=
    ae cc e.head? λx=>mH ids d cc j r x λv u j=>ee ids d cc j m e.tail λvs us j=>K (v::vs) (u++us) j:=by
   rintro⟨x,o,v,g,ob,i,rfl,rfl,rfl,h1,n⟩;simp only [Uo,VT,Xu];congr 1;funext y;congr 1;funext v u j;exact q n
  cases r with
  | agg l=>obtain⟨D,z,G,g,o1,C,rfl,rfl,rfl,h1,n⟩:=h;simp only [ee];have p:=h1.length;rw [UR,one h1,one (x2:=z) h1];congr 1;funext v u j;rw [rQ p,rQ p];exact q n
  | f k=>exact a h
  | t k=>exact a h
  | own sz=>exact a h
  | rows sz aD rsz=>exact a h
  | mp ag ks vk=>exact a h
  | new l=>
   obtain⟨D,z,F,arr,ty,g,o1,C,rfl,rfl,rfl,E,h1,n⟩:=h;have p:=h1.length;cases cc with
   | some b=>simp only [ee]
   | none=>
   simp only [ee];rw [UR,one h1,one (x2:=z) h1];congr 1;funext v u j;rw [rQ p,rQ p];exact q n
  | ref k off=>exact a h
  | same k=>exact a h
  | no=>exact a h
theorem x9{l:List Id}{h:Id->Option ab}{i:Id}(hi:i∈l):aK h (kf l) i=some .dead:=by
 induction l generalizing h with
 | nil=>cases hi
 | cons j l d=>
  show aK (aE h j (some .dead)) (kf l) i=some .dead;by_cases hm:i∈l
  .exact d hm
  .have:i=j:=by
    rcases Uw.1 hi with h | h
    .exact h
    .exact(hm h).elim
   subst this;rw [dS (λp b e=> ?_),aF];obtain⟨k,a,rfl⟩:=UT.1 b;exact hm (e▸a)
theorem uo{l:List Id}{h:Id->Option ab}{i:Id}(hi:i∉l):aK h (kf l) i=h i:=by refine dS λp b e=> ?_;obtain⟨k,a,rfl⟩:=UT.1 b;exact hi (e▸a)
theorem QJ{d:Nat}{l:List Id}(h:zt d l=true):∀i∈l,∀k,i≠ .s d k:=by intro i hi k e;have:=UD.1 h i hi;subst e;simp at this
theorem E3{R:Type}{An:cJ}{Or:au}(hO:jF P An Or){d:Nat}{f:FuncId}{args:List AV}{be:List Value}{K:AV->aH->Option R}{r:R}(hc:cc=none\/cc=some true)(hs:HS c w s.h ρ O)(hv:aC w (AA c w O) ρ args be)
  (a:gP P An Or s d cc f args K=some r):
  ∃v us fn L,K v us=some r/\P.funcs[f]? =some fn/\fn.body=some L/\fn.name≠ "runtime.NumGoroutine" /\
   (jh d s.h us=true->Calls P f be.toArray w λe w'=>∃x,e= .returned x/\∃ρ' O',Le w ρ O w' ρ' O'/\HS c w' (aK s.h us) ρ' O'/\ao w' (AA c w' O') ρ' v x):=by
 unfold gP at a;split at a
 .simp at a
 rename_i fn hfn;split at a
 .rename_i hbref;replace a:=Ui.1 a;obtain⟨p,hp,a⟩:=a;obtain⟨pt,a,X⟩:=zZ hc a;replace a:=aO a (.inl rfl);obtain⟨xs,hxs,a⟩:=a;replace hxs:Or (.call f) pt []=some xs:=by rcases hc with rfl | rfl <;> exact hxs
  obtain⟨fn',L,S,T,V,t⟩:=hO f pt [] xs hxs;rw [hfn] at S;simp only [Uh] at S;subst S;have t:=t.values hbref;have ok:=EH hs hv hp;rw [show ee [] d cc 0 (dr P An f 0 fn) xs (λvs u _=>K (mf vs) (p.2++u))= (ee [] d cc 0 (dr P An f 0 fn) xs (λvs u j=>some (vs,u,j))).bind (λq=>K (mf q.1) (p.2++q.2.1)) from by rw [pQ];rfl] at a;replace a:=Ui.1 a;obtain⟨q,hq,a⟩:=a;refine⟨_,_,fn,L,a,hfn,T,V,λU=> ?_⟩;have hfree':∀k,(∃b,(Id.s d k,b)∈q.2.1)->s.h (.s d k)=none:=by rintro k ⟨b,hb⟩;have:=UD.1 U _ (Ux _ hb);simpa using this
  cases hfl:(dr P An f 0 fn).all r7 with
  | true=>
   obtain⟨hp2,N⟩:=ok.1 hfl;refine(t _ w be (λb hb=>hb) (X _ _ _ _ N)).mono λe w' W=> ?_;obtain⟨rs,own,rfl,I,hnd,z,H⟩:=W;obtain⟨H,rfl⟩:=H.flat (A':=λb=>(c.A0 b\/c.MO b)/\b < w'.heap.size/\b∉([]:List Nat)/\∀i,O i≠some b) hfl;obtain⟨avs,us,j,hq',Y,tk⟩:=KE hc hs I hnd z H hq;simp only [Uh] at hq';subst hq';obtain⟨ρ',O',le,hs',hv'⟩:=tk (λp hp=>by
    obtain⟨k,_,_,e⟩:=Y p hp;rw [e];exact hfree' k ⟨p.2,by rw [<-e];exact hp⟩)
   refine⟨_,rfl,ρ',O',le, ?_,De hv'⟩;rw [hp2];exact hs'
  | false=>
   obtain⟨hfz,N⟩:=ok.2 hfl;obtain⟨O1,cA,hs1,hO1,hf1,_⟩:=hs.r8 hfz;refine(t _ w be (λb hb=>hb.2.1) (X _ _ _ _ (N O1 cA hO1 hf1))).mono λe w' W=> ?_;obtain⟨rs,own,rfl,I,hnd,z,H⟩:=W;have H:=H.mono (A':=λb=>(c.A0 b\/c.MO b)/\b < w'.heap.size/\b∉own/\∀i,O1 i≠some b) (by
    rintro b ⟨h1 | h1,C,h3⟩
    .exact⟨h1.1,C,h3,h1.2.2⟩
    .exact⟨.inr (.inr (UY hs.size h1)),C,h3,λi hi=>by have:=hs1.lt i b hi;omega⟩)
   obtain⟨avs,us,j,hq',Y,tk⟩:=KE hc hs1 I hnd z H hq;simp only [Uh] at hq';subst hq';obtain⟨ρ',O',le,hs',hv'⟩:=tk (λp' hp'=>by
    obtain⟨k,_,_,e⟩:=Y p' hp';have hn:=hfree' k ⟨p'.2,by rw [<-e];exact hp'⟩;rw [dS (λx D ex=> ?_),e]
    .exact hn
    .have C:=hfz x D;rw [ex,e,hn] at C;rcases C with⟨sz,b,l,_,C⟩ | ⟨l,_,C⟩ <;> simp at C)
   exact⟨_,rfl,ρ',O',cA.trans le,by rw [mw];exact hs',De hv'⟩
 .rename_i fl hbref;cases cc with
  | some b=>simp at a
  | none=>
  dsimp only at a;replace a:=Ui.1 a;obtain⟨p,hp,a⟩:=a;replace a:=Ui.1 a;obtain⟨us,hus,a⟩:=a;replace a:=Ui.1 a;obtain⟨seen,hseen,a⟩:=a;generalize hn0:iy ((bX p.1).head?.bind (aK s.h p.2))=n0 at a hus;cases J:(zt d seen && Nat.beq (iy (seen.map λi=>iq seen (aK (aK s.h p.2) us i)).head?) n0) with
  | false=>rw [J] at a;simp at a
  | true=>
  rw [J,cond_true] at a;simp only [Un] at J;obtain⟨hnot,hd0⟩:=J;replace hd0:=Nat.eq_of_beq_eq_true hd0;have hns:=QJ hnot;obtain⟨pt,a,X⟩:=zZ (.inl rfl) a;replace a:=aO a (.inl rfl);obtain⟨xs,hxs,a⟩:=a;obtain⟨fn',L,S,T,V,t⟩:=hO f pt _ xs hxs;rw [hfn] at S;simp only [Uh] at S;subst S;obtain⟨hfz,N⟩:=ED hs hv hp;obtain⟨O1,cA,hs1,hO1,hf1,_⟩:=hs.r8 hfz;have hv1:=N O1 cA hO1 hf1;obtain⟨ρ2,G,le2,o⟩:=C1 hs1 hus;have hv2:=aC.mono (λb hb=>le2.A b hb) le2.eQ _ _ hv1;obtain⟨g1,_,g3,g4,g5⟩:=vA hseen XY (by simp) (by simp);let c':Ctx:={A0:=AA c w G,M:=λb=>∃i,Of seen i/\G i=some b,N0:=w.heap.size};have hA3:∀b,AA c w G b->AA c' w (ct seen G) b:=λb hb=>⟨.inl hb,hb.2.1,λi hi=>by
   obtain⟨k,_,a⟩:=vC ⟨i,hi⟩;exact hb.2.2 k a⟩
  have hs3:=o.JD (c':=c') g1 g4 g5 hA3 (λb hb=> .inl (vC hb)) (UC _);have hv3:=X _ _ _ _ (aC.rn (m:=seen) hA3 _ _ (λi hi=>g3 i hi) hv2);have t:=t c' w _ _ be rfl hs3 hv3;rw [hd0] at t;obtain⟨blks,hblks⟩:∃blks,blks=seen.map λi=>iq seen (aK (aK s.h p.2) us i):=⟨_,rfl⟩;obtain⟨C,hh2⟩:∃C,C=aK (aK s.h p.2) us:=⟨_,rfl⟩;rw [<-hblks] at t;rw [<-hh2] at o g4 g5;rw [show(ee seen d none 0 (dr P An f n0 fn) xs λvs u j=>gv seen d j seen (im An f n0) (xs.drop (mS (dr P An f n0 fn))) λq=>K (mf vs) (p.2++us++kf seen++u++q))=
   ((ee seen d none 0 (dr P An f n0 fn) xs λvs u j=>some (vs,u,j)).bind λq0=>(gv seen d q0.2.2 seen (im An f n0) (xs.drop (mS (dr P An f n0 fn))) some).bind λq=>K (mf q0.1) (p.2++us++kf seen++q0.2.1++q)) from by
    rw [pQ];congr 1;funext vs u j;simp only [Ut];rw [ye];rfl] at a
  replace a:=Ui.1 a;obtain⟨⟨avs,u0,j0⟩,hq0,a⟩:=a;replace a:=Ui.1 a;obtain⟨qs,hqs,a⟩:=a;dsimp only at hqs a;refine⟨_,_,fn,L,a,hfn,T,V,λU=> ?_⟩;refine t.mono ?_;rintro e w' ⟨rs,x1,x2,o1,o2,rfl,I,rfl,hnd,z,H,ho⟩;refine⟨_,rfl, ?_⟩;rw [rQ H.length] at hqs;rw [Ml H] at hq0;obtain⟨n1,n2,n3⟩:=Wb.1 hnd;have inMO:∀b,c'.MO b->c.MO b:=by
   rintro b (⟨i,_,hi⟩ | hb)
   .exact o.own i b hi
   .exact .inr (UY o.size hb)
  have fI:∀b,b < w.heap.size->(∀i,Of seen i->G i≠some b)->w'.heap[b]? =w.heap[b]?:=λb hb hn=>I.af b hb λho=>by obtain⟨k,a,e⟩:=vC ho;exact hn k a e
  have out:∀b∈o1++o2,∀i,¬Of seen i->G i≠some b:=by
   intro b hb i hi e;rcases(z b hb).1 with⟨k,a,hkb⟩ | hN
   .exact hi (o.inj k i b hkb e▸a)
   .have:=o.lt i b e;exact absurd hN (YF this)
  let A1:Nat->Prop:=λb=>(c'.A0 b\/c'.MO b)/\b < w'.heap.size/\b∉o1++o2
  classical
  let Z:Id->Option Nat:=λi=>if Of seen i then none else G i;have hreal:∀i∈seen,i.real=true:=λi hi=>o.real (g4 i hi);have hofr:∀{i:Id},i.real=true->Of seen i->i∈seen:=by
   rintro i H (hi | ⟨j,n,_,rfl⟩)
   .exact hi
   .cases H
  have hofg:∀{i:Id} {n:Nat},Of seen (.g i n)->i∈seen:=by
   rintro i n (hi | ⟨j,m,hj,e⟩)
   .have:=hreal _ hi;cases this
   .cases e;exact hj
  have F:∀i b,Z i=some b->¬Of seen i/\G i=some b:=by
   intro i b h;simp only [Z] at h;split at h
   .cases h
   .rename_i hi;exact⟨hi,h⟩
  have hA4:∀b,AA c w G b->A1 b/\w'.heap[b]? =w.heap[b]?:=by
   intro b hb;refine⟨⟨.inl hb,V5 hb.2.1 I.size,λhm=> ?_⟩,fI b hb.2.1 λi _=>hb.2.2 i⟩;rcases(z b hm).1 with⟨k,_,hkb⟩ | hN
   .exact hb.2.2 k hkb
   .exact absurd hN (YF hb.2.1)
  have hsa:gL c w' A1 (aK C (kf seen)) ρ2 Z:=by
   refine⟨λi x D=> ?_,λi hir hi=> ?_,λi n=> ?_,λi n hi=> ?_,o.gone,λi j b hi hj=> ?_,λi b hi=> ?_,λi b hi=> ?_,UY o.size I.size⟩
   .by_cases hm:i∈seen
    .rw [x9 hm] at D;cases D;obtain⟨y,hy⟩:=XI.1 (g4 i hm);exact⟨o.Kt hy,if_pos (.inl hm)⟩
    .rw [uo hm] at D;have hm':¬Of seen i:=λe=>hm (hofr (o.real (by rw [D];simp)) e);have hmg:∀n,¬Of seen (.g i n):=λn e=>hm (hofg e);refine cT.mono (λn=>⟨rfl,if_neg (hmg n),λb hb=>fI b (o.lt _ b hb) λk a e=>hmg n (o.inj k _ b e hb▸a)⟩) hA4 (λ_ _ h=>h) (if_neg hm') (λb hb=>fI b (o.lt i b hb) λk a e=> ?_) (o.af i x D);exact hm' (o.inj k i b e hb▸a)
   .by_cases hm:i∈seen
    .rw [x9 hm] at hi;cases hi
    .rw [uo hm] at hi;obtain⟨E,a2⟩:=o.cB i hir hi;exact⟨E,by rw [show Z i=G i from if_neg λe=>hm (hofr hir e)];exact a2⟩
   .rw [uo λhm=>by have:=hreal _ hm;cases this];exact o.ez i n
   .by_cases hm:i∈seen
    .rw [x9 hm] at hi;cases hi
    .rw [uo hm] at hi;obtain⟨E,a2⟩:=o.fG i n hi;exact⟨E,by rw [show Z (.g i n)=G (.g i n) from if_neg λe=>hm (hofg e)];exact a2⟩
   .exact o.inj i j b (F i b hi).2 (F j b hj).2
   .exact V5 (o.lt i b (F i b hi).2) I.size
   .exact o.own i b (F i b hi).2
  have hbr:wg (oQ blks.length (ct seen ρ2)) seen ρ2:=by
   intro k i v a hB;simp only [oQ] at hB;split at hB
   .simpa [ct,a] using hB
   .cases hB
  have hnew:∀k,(∃b,(Id.s d k,b)∈u0\/(Id.s d k,b)∈qs)->s.h (.s d k)=none:=by
   rintro k ⟨b,hb⟩;have hm:(Id.s d k,b)∈p.2++us++kf seen++u0++qs:=by
    rcases hb with hb | hb
    .exact Uy _ (Ux _ hb)
    .exact Ux _ hb
   have:=UD.1 U _ hm;simpa using this
  have hnone:∀k,s.h (.s d k)=none->aK C (kf seen) (.s d k)=none:=by
   intro k a;rw [uo λhm=>hns _ hm k rfl,hh2];refine Jj (λk' e=> ?_) hus ?_
   .simp only [Id.s.injEq] at e;omega
   .rw [dS λx D ex=> ?_]
    .exact a
    .have C:=hfz x D;rw [ex,a] at C;rcases C with⟨sz,b,l,_,C⟩ | ⟨l,_,C⟩ <;> simp at C
  obtain⟨avs',u0',j0',hq0',_,Q,tk0⟩:=uq (c:=c) (ids:=seen) (.inl rfl) H hq0;simp only [Uh,Vn] at hq0';obtain⟨rfl,rfl,rfl⟩:=hq0';obtain⟨ρ3,O3,m3,hs4,v3,rng3⟩:=tk0 _ ρ2 Z hbr hsa n1 (λb hb=>⟨(z b (Uy _ hb)).2,inMO b (z b (Uy _ hb)).1,λi hi=>out b (Uy _ hb) i (F i b hi).1 (F i b hi).2⟩)
   (λx D=>by
    obtain⟨k,_,_,e⟩:=Q x D;rw [e];exact hnone k (hnew k ⟨x.2, .inl (by rw [<-e];exact D)⟩))
  obtain⟨qs',hqs',names1,tk1⟩:=ur (c:=c) ho hqs;simp only [Uh] at hqs';subst hqs';have notin0:∀x,(∀k,x≠ .s d k)->aK (aK C (kf seen)) u0' x=aK C (kf seen) x:=λx D=>dS λy hy e=>by obtain⟨k,_,_,g⟩:=Q y hy;exact D k (by rw [<-e,g])
  obtain⟨ρ4,O4,m4,hs5,rng4⟩:=tk1 _ ρ3 O3 (λk i v S e2=>m3 i v (hbr k i v S e2)) (λk i a=>by
    have hm:=Uj a;refine⟨by rw [notin0 i (hns i hm),x9 hm],λv hv=> ?_⟩;rw [UW] at hv;exact m3 i v (hbr k i v a hv)) hs4 n2 (λb hb=>⟨(z b (Ux _ hb)).2,inMO b (z b (Ux _ hb)).1,λi hi=>by
    rcases(rng3 b).1 ⟨i,hi⟩ with⟨k,a⟩ | a
    .exact out b (Ux _ hb) k (F k b a).1 (F k b a).2
    .exact n3 b a b hb rfl⟩) g1 (λi hi k=>hns i hi k) (λx D k e=>by
    rw [dS (λy hy ey=> ?_),e]
    .exact hnone k (hnew k ⟨x.2, .inr (by rw [<-e];exact D)⟩)
    .obtain⟨k',_,g2,g⟩:=Q y hy;rcases names1 x D with⟨k'',g6,g7⟩ | g6
     .rw [g,g7] at ey;simp only [Id.s.injEq] at ey;omega
     .exact hns _ g6 k e)
  have rng:∀b,(∃i,O4 i=some b)↔(∃i,Z i=some b)\/b∈o1++o2:=by intro b;rw [rng4 b,rng3 b,UB,or_assoc]
  have hAA:∀b,A1 b↔AA c w' O4 b:=by
   intro b;constructor
   .rintro⟨E,a2,a3⟩;refine⟨?_,a2,λi hi=> ?_⟩
    .rcases E with E | E
     .exact E.1
     .exact .inr (inMO b E)
    .rcases(rng b).1 ⟨i,hi⟩ with⟨k,a⟩ | a
     .obtain⟨k1,k2⟩:=F k b a;rcases E with E | ⟨k',hk',e⟩ | E
      .exact E.2.2 k k2
      .exact k1 (o.inj k' k b e k2▸hk')
      .exact absurd E (YF (o.lt k b k2))
     .exact a3 a
   .rintro⟨E,a2,a3⟩;refine⟨?_,a2,λhm=> ?_⟩
    .by_cases hb:b < w.heap.size
     .by_cases hex:∃i,G i=some b
      .obtain⟨i,hi⟩:=hex;by_cases hm:Of seen i
       .exact .inr (.inl ⟨i,hm,hi⟩)
       .obtain⟨k,a⟩:=(rng b).2 (.inl ⟨i,by simp only [Z,if_neg hm];exact hi⟩);exact(a3 k a).elim
      .exact .inl ⟨E,hb,λi hi=>hex ⟨i,hi⟩⟩
     .exact .inr (.inr (WW hb))
    .obtain⟨k,a⟩:=(rng b).2 (.inr hm);exact a3 k a
  have le3:Le w ρ2 G w' ρ4 O4:=by
   refine⟨I.os,I.output,I.tape,I.size,λi v hi=>m4 i v (m3 i v hi),λb hb hn=>fI b hb λi _=>hn i,λi b hi=> ?_⟩;rcases(rng b).1 ⟨i,hi⟩ with⟨k,a⟩ | a
   .exact .inl ⟨k,(F k b a).2⟩
   .rcases(z b a).1 with⟨k,_,hkb⟩ | hN
    .exact .inl ⟨k,hkb⟩
    .exact .inr hN
  refine⟨ρ4,O4,cA.trans (le2.trans le3), ?_,De (aC.mono (λb hb=>⟨(hAA b).1 hb,rfl⟩) m4 _ _ v3)⟩;have:=hs5.KI hAA;rw [hh2] at this;simp only [mw];exact this
end
open Go
section
variable {P:Program} {w w':World} {A A':Nat->Prop} {c:Ctx} {ρ ρ':Id->Option Value} {O O':Id->Option Nat} {s:St} {cc:Option Bool} {h:Id->Option ab}
theorem cT.Kf{i:Id}{b:Bool}{sz aD rsz nx k:Nat}{es:List Row}{e:Row}(hb:cT w A ρ O i (.rows b sz aD rsz nx es))(l:es[k]? =some e)(q:Option (Bool×List (List T)))(G:∀d,A d->A' d)
  (D:ρ' i=ρ i) (z:∀n,ρ' (.g i n)=ρ (.g i n)) (I:O' i=O i) (H:∀m,m≠e.n->O' (.g i m)=O (.g i m))
  (L:match q with | some p=>∀v,ρ (.g i e.n)=some v->cP w A' rsz p.1 p.2 v (λd=>O' (.g i e.n)=some d) | none=>O' (.g i e.n)=none):
  cT w A' ρ' O' i (.rows b sz aD rsz nx (es.set k {e with own:=q})):=by
 obtain⟨a,cap,r1,r2,r3,⟨M,N,n3,n4⟩,E⟩:=hb;have r:(es.set k {e with own:=q}).length=es.length:=by simp
 have x:(es.set k {e with own:=q}).map (·.n)=es.map (·.n):=by
  rw [Xe];refine WT λm=> ?_;rw [VG];split
  .rename_i h;subst h;have:=(Us.1 l).1;rw [if_pos (by simpa using this)];simp [l]
  .rfl
 refine⟨a,cap,by rw [r,D];exact r1,by rw [r];exact r2,r3,⟨by rw [x];exact M,λf j=> ?_,λm hm=>by rw [z];exact n3 m hm,λm d J=> ?_⟩, ?_⟩
 .rcases U1 j with j | rfl
  .exact N f j
  .exact N e (Uj l)
 .have K:∃f∈es,f.n=m:=by
   by_cases hm:m=e.n
   .exact⟨e,Uj l,hm.symm⟩
   .rw [H m hm] at J;exact n4 m d J
  obtain⟨f,j,o⟩:=K;have:m∈(es.set k {e with own:=q}).map (·.n):=by rw [x];exact UT.2 ⟨f,j,o⟩
  obtain⟨X,h1,h2⟩:=UT.1 this;exact⟨X,h1,h2⟩
 .rcases E with E | ⟨af,off,arr,t,q1,q2,q3,q4,Q⟩
  .exact .inl E
  .refine .inr ⟨af,off,arr,t,q1,by rw [I];exact q2,q3,q4, ?_⟩;have C:=Q.get l;refine ch.set (λb hb=>⟨G b hb,rfl⟩) (Us.1 l).1 (λ_ _ _ _=>rfl) (λm f hm j=> ?_) ?_ Q
   .have o:f.n≠e.n:=λh=>hm (u4 M j l h);exact⟨z _,H _ o,λ_ _=>rfl⟩
   .obtain⟨S,U,V,u,W,F,a7⟩:=C;refine⟨S,U,λm y hm hy=> ?_,u,W,by rw [z];exact F, ?_⟩
    .obtain⟨R,Y,Z⟩:=V m y hm hy;exact⟨R,Y,aA.mono (λb hb=>⟨G b hb,rfl⟩) y R Z⟩
    .cases q with
     | none=>exact L
     | some p=>exact L u F
theorem IV{n:Nat}:∀{es:List Row} {u:Unit},lZ n es=some u->∃k e,es[k]? =some e/\e.n=n/\e.own=none/\∀q,dG n q es=es.set k {e with own:=q}
 | [],_,h=>by simp [lZ] at h
 | e::es,u,h=>by
  unfold lZ at h;by_cases c:e.n=n
  .rw [if_pos c] at h;split at h
   .rename_i g;exact⟨0,e,rfl,c,g,λq=>by simp [dG,c]⟩
   .cases h
  .rw [if_neg c] at h;obtain⟨k,f,h1,a,b,d⟩:=IV h;exact⟨k+1,f,by simpa using h1,a,b,λq=>by simp [dG,c,d q]⟩
theorem HS.iC{i new:Id}{b:Bool}{sz aD rsz nx n:Nat}{es:List Row}{p:Bool×List (List T)}{v:Value}(hs:HS c w h ρ O)(hi:h i=some (.rows b sz aD rsz nx es))(E:bB n es=some p)(hv:ρ (.g i n)=some v)
  (r:h new=none) (hrl:new.real=true):
  ∃O',Le w ρ O w (aE ρ new (some v)) O'/\HS c w (aE (aE h i (some (.rows b sz aD rsz nx (dG n none es)))) new (some (.sl false rsz p.1 p.2))) (aE ρ new (some v)) O':=by
 have z:=hs.real (i:=i) (by rw [hi];simp);have V:i≠new:=λe=>by rw [e,r] at hi;cases hi
 obtain⟨k,e,N,t,U,C⟩:=yI E;obtain⟨X,K,S⟩:=zJ (s:=⟨λ_=>(none, .top),h⟩) hs hi E;rw [hv] at K;cases K;let Q:Id->Option Nat:=λx=>if x=new then O (.g i n) else if x= .g i n then none else O x;have L:Q new=O (.g i n):=by simp only [Q,if_true]
 have M:Q (.g i n)=none:=by simp only [Q,if_neg (aP hrl),if_true]
 have l:∀x,x≠new->x≠ .g i n->Q x=O x:=λx h1 f=>by simp only [Q,if_neg h1,if_neg f]
 have j:∀x d,Q x=some d->(x=new/\O (.g i n)=some d)\/(x≠new/\x≠ .g i n/\O x=some d):=by
  intro x d a;simp only [Q] at a;split at a
  .exact .inl ⟨by assumption,a⟩
  .split at a
   .cases a
   .exact .inr ⟨by assumption,by assumption,a⟩
 obtain⟨R,W⟩:=hs.cB new hrl r;have le:Le w ρ O w (aE ρ new (some v)) Q:=⟨rfl,rfl,rfl,UC _,λx u a=>by
  by_cases e:x=new
  .subst e;rw [R] at a;cases a
  .rw [ar _ _ e];exact a,λ_ _ _=>rfl,λx d a=>by
  rcases j x d a with⟨_,h⟩ | ⟨_,_,h⟩
  .exact .inl ⟨_,h⟩
  .exact .inl ⟨_,h⟩⟩
 refine⟨Q,le,hs.oN le (λx y a=> ?_) (λx F a=> ?_) (λx m=>by rw [ar _ _ (aP hrl),ar _ _ (aP z)];exact hs.ez x m) (λx m a=> ?_) (λx m u H=>by rw [ar _ _ (aP hrl)] at H;exact hs.gone x m u H) (λx y d a hy=> ?_) (λx d a=> ?_)⟩
 .by_cases o:x=new
  .subst o;rw [aF] at a;cases a;right;refine⟨v,aF _ _ _,cP.mono (λd q=>le.A d q) (λd q=>⟨?_,rfl⟩) S,by simp⟩;simp only [UM,if_false];rw [L];exact q
  .rw [ar _ _ o] at a;by_cases e2:x=i
   .subst e2;rw [aF] at a;cases a;right;rw [C];refine cT.Kf (hs.af x _ hi) N none (λd q=>(le.A d q).1) (ar _ _ o) (λm=>ar _ _ (aP hrl)) (l x o (aP z).symm) (λm hm=>l _ (aP hrl) ?_) ?_
    .intro h;simp only [Id.g.injEq,true_and] at h;exact hm (h.trans t.symm)
    .simp only;rw [t];exact M
   .rw [ar _ _ e2] at a;have G:=hs.real (i:=x) (by rw [a];simp);refine .inl ⟨a,l x o (aP G).symm,λ_ _=>rfl,λm=>⟨ar _ _ (aP hrl),l _ (aP hrl) ?_,λ_ _=>rfl⟩⟩;intro h;simp only [Id.g.injEq] at h;exact e2 h.1
 .have h1:x≠new:=λe=>by rw [e,aF] at a;cases a
  rw [ar _ _ h1] at a;have f:x≠i:=λe=>by rw [e,aF] at a;cases a
  rw [ar _ _ f] at a;rw [ar _ _ h1,l x h1 (aP F).symm];exact hs.cB x F a
 .have h1:x≠new:=λe=>by rw [e,aF] at a;cases a
  rw [ar _ _ h1] at a;have f:x≠i:=λe=>by rw [e,aF] at a;cases a
  rw [ar _ _ f] at a;rw [ar _ _ (aP hrl),l _ (aP hrl) (by intro h;simp only [Id.g.injEq] at h;exact f h.1)];exact hs.fG x m a
 .rcases j x d a with⟨h1,f⟩ | ⟨h1,f,D⟩ <;> rcases j y d hy with⟨I,k2⟩ | ⟨I,k2,J⟩
  .rw [h1,I]
  .exact(k2 (hs.inj _ _ d J f)).elim
  .exact(f (hs.inj _ _ d D k2)).elim
  .exact hs.inj x y d D J
 .rcases j x d a with⟨_,h⟩ | ⟨_,_,h⟩
  .exact hs.lt _ d h
  .exact hs.lt _ d h
theorem HS.back{i new:Id}{b bb:Bool}{sz aD rsz nx n:Nat}{es:List Row}{xs:List (List T)}{v:Value}{u:Unit}(hs:HS c w h ρ O)(hi:h i=some (.rows b sz aD rsz nx es))(N:lZ n es=some u)(j:h new=some (.sl false rsz bb xs))
  (hv:ρ (.g i n)=some v) (D:ρ new=some v):
  ∃O',Le w ρ O w ρ O'/\HS c w (aE (aE h i (some (.rows b sz aD rsz nx (dG n (some (bb,xs)) es)))) new (some .dead)) ρ O':=by
 have t:=hs.real (i:=i) (by rw [hi];simp);have hrl:=hs.real (i:=new) (by rw [j];simp);have V:i≠new:=λe=>by rw [e,j] at hi;cases hi
 obtain⟨k,e,M,q,U,C⟩:=IV N;obtain⟨S,J,R,_⟩:=hs.af new _ j;rw [D] at J;cases J;let Q:Id->Option Nat:=λx=>if x=new then none else if x= .g i n then O new else O x;have K:Q new=none:=by simp only [Q,if_true]
 have L:Q (.g i n)=O new:=by simp only [Q,if_neg (aP hrl),if_true]
 have o:∀x,x≠new->x≠ .g i n->Q x=O x:=λx h1 f=>by simp only [Q,if_neg h1,if_neg f]
 have l:∀x d,Q x=some d->(x= .g i n/\O new=some d)\/(x≠new/\x≠ .g i n/\O x=some d):=by
  intro x d a;simp only [Q] at a;split at a
  .cases a
  .split at a
   .exact .inl ⟨by assumption,a⟩
   .exact .inr ⟨by assumption,by assumption,a⟩
 have le:Le w ρ O w ρ Q:=⟨rfl,rfl,rfl,UC _,λ_ _ h=>h,λ_ _ _=>rfl,λx d a=>by
  rcases l x d a with⟨_,h⟩ | ⟨_,_,h⟩
  .exact .inl ⟨_,h⟩
  .exact .inl ⟨_,h⟩⟩
 refine⟨Q,le,hs.oN le (λx y a=> ?_) (λx G a=> ?_) (λx m=>by rw [ar _ _ (aP hrl),ar _ _ (aP t)];exact hs.ez x m) (λx m a=> ?_) hs.gone (λx y d a hy=> ?_) (λx d a=> ?_)⟩
 .by_cases r:x=new
  .subst r;rw [aF] at a;cases a;exact .inr ⟨⟨v,D,kD hs D⟩,K⟩
  .rw [ar _ _ r] at a;by_cases e2:x=i
   .subst e2;rw [aF] at a;cases a;right;rw [C];refine cT.Kf (hs.af x _ hi) M (some (bb,xs)) (λd p=>(le.A d p).1) rfl (λm=>rfl) (o x r (aP t).symm) (λm hm=>o _ (aP hrl) ?_) ?_
    .intro h;simp only [Id.g.injEq,true_and] at h;exact hm (h.trans q.symm)
    .simp only;intro S z;rw [q,hv] at z;cases z;refine cP.mono (λd p=>le.A d p) (λd p=>⟨?_,rfl⟩) R;simp only [UM,if_false] at p;rw [q,L];exact p
   .rw [ar _ _ e2] at a;have H:=hs.real (i:=x) (by rw [a];simp);refine .inl ⟨a,o x r (aP H).symm,λ_ _=>rfl,λm=>⟨rfl,o _ (aP hrl) ?_,λ_ _=>rfl⟩⟩;intro h;simp only [Id.g.injEq] at h;exact e2 h.1
 .have h1:x≠new:=λe=>by rw [e,aF] at a;cases a
  rw [ar _ _ h1] at a;have f:x≠i:=λe=>by rw [e,aF] at a;cases a
  rw [ar _ _ f] at a;rw [o x h1 (aP G).symm];exact hs.cB x G a
 .have h1:x≠new:=λe=>by rw [e,aF] at a;cases a
  rw [ar _ _ h1] at a;have f:x≠i:=λe=>by rw [e,aF] at a;cases a
  rw [ar _ _ f] at a;rw [o _ (aP hrl) (by intro h;simp only [Id.g.injEq] at h;exact f h.1)];exact hs.fG x m a
 .rcases l x d a with⟨h1,f⟩ | ⟨h1,f,F⟩ <;> rcases l y d hy with⟨E,k2⟩ | ⟨E,k2,I⟩
  .rw [h1,E]
  .exact(E (hs.inj _ _ d I f)).elim
  .exact(h1 (hs.inj _ _ d F k2)).elim
  .exact hs.inj x y d F I
 .rcases l x d a with⟨_,h⟩ | ⟨_,_,h⟩
  .exact hs.lt _ d h
  .exact hs.lt _ d h
theorem Dn:∀{args:List AV} {be:List Value} {d:List AV} {i:Id} {n:Nat} {e:List AV},aC w A ρ args be->nQ args=some (d,i,n,e)->
  ∃v,ρ (.g i n)=some v/\∀(ρ':Id->Option Value) (new:Id),(∀x u,ρ x=some u->ρ' x=some u)->(∀b,A b->A' b)->ρ' new=some v->aC w A' ρ' (d++ .own new::e) be
 | [],_,_,_,_,_,_,h=>by simp [nQ] at h
 | a::args,be,d,i,n,e,hv,h=>by
  simp only [aC] at hv;obtain⟨u,r,rfl,k,m⟩:=hv
  have j:(nQ args).bind (λq=>some (a::q.1,q.2.1,q.2.2.1,q.2.2.2))=some (d,i,n,e)->
    ∃v,ρ (.g i n)=some v/\∀(ρ':Id->Option Value) (new:Id),(∀x u,ρ x=some u->ρ' x=some u)->(∀b,A b->A' b)->ρ' new=some v->aC w A' ρ' (d++ .own new::e) (u::r):=by
   intro h;obtain⟨⟨y,i',t,z⟩,o,h⟩:=Ui.1 h;simp only [Uh,Vn] at h;obtain⟨rfl,rfl,rfl,rfl⟩:=h;obtain⟨v,p,k2⟩:=Dn m o;refine⟨v,p,λρ' new hm f l=> ?_⟩;simp only [Uo,aC];exact⟨u,r,rfl,ao.mono (λb hb=>⟨f b hb,rfl⟩) hm _ _ k,k2 ρ' new hm f l⟩
  cases a
  case row i' t=>simp only [nQ,Uh,Vn] at h;obtain⟨rfl,rfl,rfl,rfl⟩:=h;simp only [ao] at k;refine⟨u,k,λρ' new hm f l=> ?_⟩;simp only [Uq,aC];exact⟨u,r,rfl,by simp only [ao];exact l,aC.mono (λb hb=>⟨f b hb,rfl⟩) hm _ _ m⟩
  all_goals exact j h
theorem L5{R:Type}{An:cJ}{Or:au}(U:jF P An Or){iC:Bool}{d:Nat}{f:FuncId}{args:List AV}{be:List Value}{K:AV->aH->Option R}{r:R}(hc:cc=none\/cc=some true)(hs:HS c w s.h ρ O)(hv:aC w (AA c w O) ρ args be)
  (a:jH iC P An Or s d cc f args K=some r):
  ∃v us fn l,K v us=some r/\P.funcs[f]? =some fn/\fn.body=some l/\fn.name≠ "runtime.NumGoroutine" /\
   (jh d s.h us=true->Calls P f be.toArray w λe w'=>∃x,e= .returned x/\∃ρ' O',Le w ρ O w' ρ' O'/\HS c w' (aK s.h us) ρ' O'/\ao w' (AA c w' O') ρ' v x):=by
 unfold jH at a;split at a
 .exact E3 U hc hs hv a
 .rename_i l1 i n l2 o;have o:nQ args=some (l1,i,n,l2):=by
   cases iC with
   | true=>exact o
   | false=>cases o
  split at a
  .rename_i b sz aD rsz nx es hi;replace a:=aO a (.inl rfl);obtain⟨p,hp,a⟩:=a;cases m:s.h (.s (2500000+d) 0) with
   | some x=>rw [m] at a;simp at a
   | none=>
    rw [m] at a;simp only [Yr,cond_true] at a;obtain⟨Q,E,hargs⟩:=Dn (A':=AA c w O) hv o;obtain⟨S,cA,Z⟩:=hs.iC (new:= .s (2500000+d) 0) hi hp E m rfl;have z:aC w (AA c w S) (aE ρ (.s (2500000+d) 0) (some Q)) (l1++ .own (.s (2500000+d) 0)::l2) be:=by obtain⟨v1,z,D⟩:=Dn (A':=AA c w S) hv o;rw [E] at z;cases z;exact D _ _ cA.eQ (λb hb=>(cA.A b hb).1) (aF _ _ _)
    obtain⟨v,us,fn,l,a,W,H,M,I⟩:=E3 (s:=⟨s.t,_⟩) U (cc:=none) (.inl rfl) Z z a;unfold ue at a;split at a
    .rename_i b2 sz2 col2 rsz2 nx2 es2 G b3 xs3 T e2;split at a
     .rename_i J;obtain⟨rfl,rfl⟩:=J;replace a:=aO a (.inl rfl);obtain⟨u,hu,a⟩:=a;refine⟨v,_,fn,l,a,W,H,M,λL=> ?_⟩;have X:jh d (aE (aE s.h i (some (.rows b sz aD G nx (dG n none es)))) (.s (2500000+d) 0) (some (.sl false G p.1 p.2))) us=true:=by
       refine UD.2 λq o=> ?_;have:=UD.1 L q (Uy _ (Ux _ o));obtain⟨x,y⟩:=q;cases x with
       | s C k=>
        simp only at this⊢;by_cases V:C=d
        .subst V;have Y:s.h (.s C k)=none:=by simpa using this
         have h1:Id.s C k≠ .s (2500000+C) 0:=by intro h;simp only [Id.s.injEq] at h;omega
         have h2:Id.s C k≠i:=λh=>by rw [<-h,Y] at hi;cases hi
         rw [ar _ _ h1,ar _ _ h2,Y];simp
        .simp [V]
       | c k=>rfl
       | g j k=>exact this
      refine(I X).mono ?_;rintro e w' ⟨x,rfl,ρ',O',F,hs2,hx⟩;have hw:ρ' (.s (2500000+d) 0)=some Q:=F.eQ _ _ (aF _ _ _);have hv2:ρ' (.g i n)=some Q:=F.eQ _ _ (cA.eQ _ _ E);rw [mw,de,eK] at T e2;obtain⟨O3,N,hs3⟩:=hs2.back T hu e2 hv2 hw;refine⟨x,rfl,ρ',O3,cA.trans (F.trans N), ?_,ao.mono (λb hb=>N.A b hb) (λ_ _ h=>h) _ _ hx⟩;rw [mw,mw,de,eK,de,eK];exact hs3
     .simp at a
    .simp at a
  .simp at a
end
open Go
section
variable {P:Program} {An:cJ} {Or:au} {w w':World} {A A':Nat->Prop} {c:Ctx} {ρ:Id->Option Value} {O:Id->Option Nat} {s:St} {cc:Option Bool} {h:Id->Option ab}
def Good(P:Program)(c:Ctx)(w:World)(s:St)(ρ:Id->Option Value)(O:Id->Option Nat)(o:Oper)(a:Act)(v:AV)(us:aH):Prop:=
 iV P o a w λx w'=>∃ρ' O',Le w ρ O w' ρ' O'/\HS c w' (aK s.h us) ρ' O'/\ao w' (AA c w' O') ρ' v x
theorem Good.pure{o:Oper}{a:Act}{v:AV}{x:Value}(hs:HS c w s.h ρ O)(b:(execOp a.eval o).run P w= .ok (.value x) w)(hv:ao w (AA c w O) ρ v x):Good P c w s ρ O o a v []:=by unfold Good iV;rw [b];exact⟨ρ,O,Le.refl,hs,hv⟩
theorem Good.val{o:Oper}{a:Act}{v:AV}{us:aH}{x:Value}{ρ':Id->Option Value}{O':Id->Option Nat}(b:(execOp a.eval o).run P w= .ok (.value x) w')(le:Le w ρ O w' ρ' O')(hs:HS c w' (aK s.h us) ρ' O')(hv:ao w' (AA c w' O') ρ' v x):Good P c w s ρ O o a v us:=by unfold Good iV;rw [b];exact⟨ρ',O',le,hs,hv⟩
theorem rW{a:Act}{g:Option Gs}(d:SS w A ρ s.t a.tmps)(b:kM a.tmps g):∀(xs:List Operand),aC w A ρ (xs.map (s.get g)) (xs.map a.eval)
 | []=>by simp [aC]
 | x::xs=>by simp only [U5,aC];exact⟨_,_,rfl,SS.get (h:=s.h) d b x,rW d b xs⟩
theorem OB{op:BinOp}(h:op≠ .eql/\op≠ .neq){t:TypeId}{x y:Operand}{a b:Value}:(eqGuard op t x y a b).run P w= .ok () w:=by cases op <;> simp_all [eqGuard]
set_option maxHeartbeats 2000000 in
theorem Ex(hO:jF P An Or){o:Oper}{a:Act}{g:Option Gs}{v:AV}{us:aH}(hs:HS c w s.h ρ O)(Y:SS w (AA c w O) ρ s.t a.tmps)(X:kM a.tmps g)(j:dA P An Or g o s=some (v,us))(N:jh (o.dst.getD 0) s.h us=true):
  Good P c w s ρ O o a v us:=by
 have H:=X.cond;have ev:∀x,ao w (AA c w O) ρ (s.get g x) (a.eval x):=λx=>SS.get (h:=s.h) Y X x;have tt:∀x y,(s.get g x).t? =some y->aA w (AA c w O) y (a.eval x):=by intro x y e;have:=ev x;rw [AV.mo e] at this;simpa [ao] using this
 have D:∀{v':AV} {V:aH},some (v',V)=some (v,us)->v'=v/\V=us:=by intro v' V e;simpa using e
 unfold dA jG at j;cases E:o.op <;> rw [E] at j <;> dsimp only at j
 case move x=>obtain⟨rfl,rfl⟩:=D j;exact Good.pure hs (by simp [execOp,E]) (ev x)
 case assign x=>obtain⟨rfl,rfl⟩:=D j;exact Good.pure hs (by simp [execOp,E]) (ev x)
 case pick k x y=>
  replace j:=Ui.1 j;obtain⟨k',hk',j⟩:=j;have hkv:=tt k k' hk';replace j:=aO j H;obtain⟨kb,hkb,j⟩:=j;have:=T.ja hkb;subst this;simp only [aA] at hkv;replace j:=Ui.1 j;obtain⟨tx,htx,j⟩:=j;replace j:=p4 j;obtain⟨xb,j,hxb⟩:=j;replace j:=Ui.1 j;obtain⟨ty,hty,j⟩:=j;replace j:=p4 j;obtain⟨yb,j,hyb⟩:=j;obtain⟨rfl,rfl⟩:=D j;have hg:∀b,yU (g.map (·.c)) b=some b:=by intro b;unfold yU;rcases H with e | e <;> rw [e] <;> rfl
  refine Good.pure (x:= .bool (cond kb xb yb)) hs ?_ (by simp [ao,aA]);simp only [execOp,E,hkv];cases kb with
  | true=>
   have arm:=SS.mJ (h:=s.h) Y X k x true hkv;rw [AV.mo htx] at arm;rcases hxb with e | ⟨_,e⟩
   .have:=T.ja e;subst this;simp only [ao,aA] at arm;simp [asBool,arm]
   .rw [hg] at e;cases e
  | false=>
   have arm:=SS.mJ (h:=s.h) Y X k y false hkv;rw [AV.mo hty] at arm;rcases hyb with e | ⟨_,e⟩
   .have:=T.ja e;subst this;simp only [ao,aA] at arm;simp [asBool,arm]
   .rw [hg] at e;cases e
 case alloc t=>
  cases G:g.map (·.c) with
  | some b=>simp [G] at j
  | none=>simp only [G] at j;replace j:=Ui.1 j;obtain⟨l,S,j⟩:=j;obtain⟨rfl,rfl⟩:=D j;obtain⟨i,z,hi,hz,hof⟩:=oc S;have hzr:aQ w (AA c w O) l z.cells.toList:=oZ hof;obtain⟨M,Q⟩:=hs.IK (i:= .s (o.dst.getD 0) 0) (kW N (Uv.2 rfl)) t (aC.l8 (ρ:=ρ) hzr) hzr.one;refine Good.val (x:= .pointer (some ⟨w.heap.size,0,none⟩)) (w':=w.alloc (.cells z.cells.toList.toArray t)) ?_ M (by rw [eK];exact Q) (by simp [ao]);simp [execOp,E,Instr.alloc,zeroValue,typeInfo,hi,hz,newVar,JM]
 case box t x=>
  cases G:g.map (·.c) with
  | some b=>simp [G] at j
  | none=>
   simp only [G] at j;split at j
   .rename_i hcell;obtain⟨rfl,rfl⟩:=D j;obtain⟨M,Q⟩:=xT hs (ev x) hcell;obtain⟨k1,k2⟩:=hs.IK (i:= .s (o.dst.getD 0) 0) (kW N (Uv.2 rfl)) t M Q;refine Good.val (x:= .pointer (some ⟨w.heap.size,0,none⟩)) (w':=w.alloc (.cells (a.eval x).cells.toList.toArray t)) ?_ k1 (by rw [eK];exact k2) (by simp [ao]);simp [execOp,E,Instr.box,newVar,JM]
   .simp at j
 case build t ps=>replace j:=Ui.1 j;obtain⟨v',K,j⟩:=j;obtain⟨rfl,rfl⟩:=D j;obtain⟨x,h1,I⟩:=LM hs Y X K;exact Good.pure hs (by simp only [execOp,E,UI,h1,Uu,US]) I
 case buildSlice t n ps=>
  replace j:=Ui.1 j;obtain⟨e,he,j⟩:=j;obtain⟨hu,Z⟩:=yz he;split at j
  .split at j
   .rename_i x G hps;split at j
    .rename_i hcond;obtain⟨⟨S,hall⟩,hn2,hpos,hz⟩:=hcond;obtain⟨rfl,rfl⟩:=D j;obtain⟨M,Q⟩:=xT hs (ev x) hall;have hsz:(a.eval x).cells.size=P.cellsOf e:=by rw [<-S,<-UP];exact M.length
     have C:=Dt (n:=1) (w:=w) hu Z hz hpos ⟨by omega,hn2⟩ [a.eval x] (by simpa using hsz) (by simp) (ps.map λ(i,x)=>(i,a.eval x)) (by simp [YG,hps]);have hi:s.h (.s (o.dst.getD 0) 0)=none:=kW N Uk;obtain⟨k1,k2⟩:=hs.QD hi (cs:=hZ _) (arr:=([a.eval x].flatMap λv=>v.cells.toList).toArray) e (by simpa using M) (by simpa using Q);refine Good.val (x:= .slice (some ⟨w.heap.size,0,none⟩) 1 1) (by simp only [execOp,E,UI,C,Uu,US]) k1 (by rw [eK];exact k2) ?_;simp [ao]
    .simp at j
   .simp at j
  split at j
  .rename_i hcond;obtain⟨hn,hn1,hn2,hpos,hz⟩:=hcond;split at j
   .rename_i h0;obtain⟨h00,_⟩:=h0;obtain⟨rfl,rfl⟩:=D j;have hps:ps.toList= []:=UA.1 (by rw [UP];omega);have C:=Dt (w:=w) hu Z hz hpos ⟨hn1,hn2⟩ [] (by simp) (by simp [h00]) (ps.map λ(i,x)=>(i,a.eval x)) (by simp [YG,hps]);have exec:(execOp a.eval o).run P w= .ok (.value (.slice (some ⟨w.heap.size,0,none⟩) n n)) (w.alloc (.cells (([]:List Value).flatMap λv=>v.cells.toList).toArray e)):=by
     simp only [execOp,E,UI,C,Uu,US]
    have lew:Le w ρ O (w.alloc (.cells (([]:List Value).flatMap λv=>v.cells.toList).toArray e)) ρ O:=⟨rfl,rfl,rfl,by simp,λ_ _ h=>h,λb hb _=>U6 _ _ _ hb,λi b h=> .inl ⟨i,h⟩⟩;have hs2:=hs.world lew λi af hi=>U6 _ _ _ (hs.lt i af hi);refine Good.val exec lew hs2 ?_;simp only [ao,aA];exact .inr ⟨trivial,_,_,_,by rw [h00]⟩
   replace j:=Ui.1 j;obtain⟨q,hq,j⟩:=j;obtain⟨hfz,hlen⟩:=Gv hq;obtain⟨O1,cA,hs1,hO1,hf1,hkeep⟩:=hs.r8 hfz;obtain⟨vs,e1,e2,e3⟩:=Gw hs Y X cA hO1 hq hf1;have hvl:vs.length=n:=by have:=congrArg List.length e1;simp only [WC,List.length_zipIdx] at this;rw [<-this,UP,hn]
   have C:=Dt (w:=w) hu Z hz hpos ⟨hn1,hn2⟩ vs e3 hvl (ps.map λ(i,x)=>(i,a.eval x)) (by simp only [YG];exact e1);have hq1:q.1.length=n:=by have:=e2.length.1;simp only [WC] at this;omega
   have fl:(vs.map λv=>v.cells.toList).flatten=vs.flatMap λv=>v.cells.toList:=rfl;have exec:(execOp a.eval o).run P w= .ok (.value (.slice (some ⟨w.heap.size,0,none⟩) n n)) (w.alloc (.cells (vs.flatMap λv=>v.cells.toList).toArray e)):=by simp only [execOp,E,UI,C,Uu,US]
   cases G:g.map (·.c) with
   | some b=>
    simp only [G] at j;obtain⟨rfl,rfl⟩:=D j;have lew:Le w ρ O1 (w.alloc (.cells (vs.flatMap λv=>v.cells.toList).toArray e)) ρ O1:=⟨rfl,rfl,rfl,by simp,λ_ _ h=>h,λb hb _=>U6 _ _ _ hb,λi b h=> .inl ⟨i,h⟩⟩;have hs2:=hs1.world lew λi af hi=>U6 _ _ _ (hs1.lt i af hi);refine Good.val exec (cA.trans lew) hs2 ?_;simp only [ao,aA];right;refine⟨trivial,w.heap.size,0,none,n,by rw [hq1],by omega, ?_, ?_⟩
    .right;refine⟨rfl, ?_⟩;refine⟨.inr (.inr hs.size),by simp,λi hi=>WU _ (hs1.lt i _ hi)⟩
    .refine aX.lk (cv.mono (λb hb=>lew.A b hb) e2) (λp v hp=> ?_);rw [kQ (kX _),UW,<-fl];simpa using hp
   | none=>
    simp only [G] at j;obtain⟨rfl,rfl⟩:=D j;have hi:s.h (.s (o.dst.getD 0) 0)=none:=kW N Uk;have hi1:aK s.h q.2 (.s (o.dst.getD 0) 0)=none:=by
     rw [dS (λp hp e=> ?_)]
     .exact hi
     .have I:=hfz p hp;rw [e,hi] at I;rcases I with⟨sz,b,l,_,I⟩ | ⟨l,_,I⟩ <;> simp at I
    obtain⟨k1,k2⟩:=hs1.CP (sz:=P.cellsOf e) hi1 e (vs.flatMap λv=>v.cells.toList).toArray n e2 (λp v hp=>by rw [<-fl];simpa using hp) (by omega) (by
     have:=e2.length.2;simp only [VX];rw [<-fl,this,hq1];exact UC _)
    rw [hq1] at k1 k2;refine Good.val exec (cA.trans k1) ?_ ?_
    .rw [de];have:aK (aE s.h (.s (o.dst.getD 0) 0) (some (.sl false (P.cellsOf e) false q.1))) q.2=aE (aK s.h q.2) (.s (o.dst.getD 0) 0) (some (.sl false (P.cellsOf e) false q.1)):=by
      refine vX (λp hp e=> ?_);have I:=hfz p hp;rw [e,hi] at I;rcases I with⟨sz,b,l,_,I⟩ | ⟨l,_,I⟩ <;> simp at I
     rw [this];exact k2
    .simp [ao]
  .simp at j
 case load t x=>obtain⟨av,y,e,C,hv⟩:=Ii hs (ev x) H j;obtain⟨rfl,rfl⟩:=D e;exact Good.pure (x:=y) hs (by simp only [execOp,E,UI,C,Uu,US]) hv
 case store t x y=>
  cases G:g.map (·.c) with
  | some b=>simp [G] at j
  | none=>simp only [G] at j;obtain⟨V,w',ρ',O',e,C,le,U⟩:=SI hs (ev x) (ev y) j;obtain⟨rfl,rfl⟩:=D e;unfold Good iV;simp only [execOp,E,UI,C,Uu,US];exact⟨ρ',O',le,U,by simp [ao]⟩
 case nilCheck x=>
  have hv:=ev x;split at j
  .rename_i i k e;obtain⟨rfl,rfl⟩:=D j;rw [e] at hv;have K:=hv;simp only [ao] at K;obtain⟨b,_,e2⟩:=K;exact Good.pure hs (by simp [execOp,E,e2]) hv
  .rename_i i sz k off e;obtain⟨rfl,rfl⟩:=D j;rw [e] at hv;have K:=hv;simp only [ao] at K;obtain⟨b,o',L,cap,_,e2⟩:=K;exact Good.pure hs (by simp [execOp,E,e2]) hv
  .rename_i i sz n k off e;obtain⟨rfl,rfl⟩:=D j;rw [e] at hv;have K:=hv;simp only [ao] at K;obtain⟨b,o',L,cap,_,e2⟩:=K;exact Good.pure hs (by simp [execOp,E,e2]) hv
  .rename_i y e;replace j:=aO j H;obtain⟨cs,hcs,j⟩:=j;obtain⟨rfl,rfl⟩:=D j;have:=T.zy hcs;subst this;rw [e] at hv;have K:=hv;simp only [ao,aA] at K;obtain⟨b,o',e2,_⟩:=K;exact Good.pure hs (by simp [execOp,E,e2]) hv
  .rename_i f x' y' e;obtain⟨rfl,rfl⟩:=D j;rw [e] at hv;have K:=hv;simp only [ao] at K;obtain⟨_,_,e2,_⟩:=K;exact Good.pure hs (by simp [execOp,E,e2]) hv
  .simp at j
 case binOp op t x y ty=>
  have nilx:∀b,oX P t y=true->jN P s t (s.get g x)=some b->_:=λb h1 I=>H0 (P:=P) hs (ev x) I y h1 a x y;have nily:∀b,oX P t x=true->jN P s t (s.get g y)=some b->_:=λb h1 I=>H0 (P:=P) hs (ev y) I x h1 a x y;have go:∀(z:Value),(eqGuard op t x y (a.eval x) (a.eval y)).run P w= .ok () w->(binOp op t (a.eval x) (a.eval y)).run P w= .ok z w->(execOp a.eval o).run P w= .ok (.value z) w:=by intro z h1 I;simp only [execOp,E,UI,h1,I,Uu,US]
  split at j
  .rename_i h1;replace j:=Ui.1 j;obtain⟨b,hb,j⟩:=j;obtain⟨rfl,rfl⟩:=D j;obtain⟨M,Q⟩:=(nilx b h1 hb).1;exact Good.pure hs (go _ M Q) (by simp [ao,aA])
  .rename_i h1;replace j:=Ui.1 j;obtain⟨b,hb,j⟩:=j;obtain⟨rfl,rfl⟩:=D j;obtain⟨M,Q⟩:=(nilx b h1 hb).2.1;exact Good.pure hs (go _ M Q) (by simp [ao,aA])
  .rename_i h1 _;replace j:=Ui.1 j;obtain⟨b,hb,j⟩:=j;obtain⟨rfl,rfl⟩:=D j;obtain⟨M,Q⟩:=(nily b h1 hb).2.2.1;exact Good.pure hs (go _ M Q) (by simp [ao,aA])
  .rename_i h1 _;replace j:=Ui.1 j;obtain⟨b,hb,j⟩:=j;obtain⟨rfl,rfl⟩:=D j;obtain⟨M,Q⟩:=(nily b h1 hb).2.2.2;exact Good.pure hs (go _ M Q) (by simp [ao,aA])
  .obtain⟨b,e,⟨M,Q⟩,_⟩:=GY (P:=P) H (ev x) (ev y) j x y;obtain⟨rfl,rfl⟩:=D e;exact Good.pure hs (go _ M Q) (by simp [ao,aA])
  .obtain⟨b,e,_,⟨M,Q⟩⟩:=GY (P:=P) H (ev x) (ev y) j x y;obtain⟨rfl,rfl⟩:=D e;exact Good.pure hs (go _ M Q) (by simp [ao,aA])
  .replace j:=Ui.1 j;obtain⟨x',hx',j⟩:=j;replace j:=Ui.1 j;obtain⟨y',hy',j⟩:=j;obtain⟨hne,z,vz,e,hv,C⟩:=LH (P:=P) H (tt x x' hx') (tt y y' hy') j;obtain⟨rfl,rfl⟩:=D e;exact Good.pure hs (go _ (OB hne) C) (by simpa [ao] using hv _ _)
 case unOp op t x=>replace j:=Ui.1 j;obtain⟨x',hx',j⟩:=j;obtain⟨z,y,e,hv,C⟩:=TZ (P:=P) H (tt x x' hx') j;obtain⟨rfl,rfl⟩:=D e;exact Good.pure (x:=y) hs (by simp only [execOp,E,UI,C,Uu,US]) (by simpa [ao] using hv _ _)
 case convert src dst x=>
  split at j
  .rename_i e hu hu';split at j
   .rename_i he;unfold su at he;split at he
    .rename_i k he';simp only [Uh] at he;subst he;replace j:=Ui.1 j;obtain⟨y,hy,j⟩:=j;replace j:=aO j H;obtain⟨l,S,j⟩:=j;replace S:=Ui.1 S;obtain⟨p,hp,S⟩:=S;obtain⟨rfl,rfl⟩:=D j;have C:=LW hs hu hu' he' (ev x) hy hp S;exact Good.pure (x:= .string ⟨l.toArray⟩) hs (by simp only [execOp,E,UI,C,Uu,US]) (by simp [ao,aA])
    .simp at he
   .simp at j
  .replace j:=Ui.1 j;obtain⟨x',hx',j⟩:=j;obtain⟨z,y,e,C,hv⟩:=Mh H (tt x x' hx') j;obtain⟨rfl,rfl⟩:=D e;exact Good.pure (x:=y) hs (by simp only [execOp,E,UI,C,Uu,US]) (by simpa [ao] using hv)
 case makeFunc fn fst caps=>
  cases fn with
  | func f=>dsimp only at j;obtain⟨rfl,rfl⟩:=D j;refine Good.pure (x:= .func (.func f) (fst.map a.eval) (caps.map a.eval)) hs (by simp only [execOp,E,Instr.makeFunc,UI,US,Uu]) ?_;simp only [ao];refine⟨fst.toList.map a.eval,caps.toList.map a.eval, ?_,rW Y X _,rW Y X _⟩;rw [show(fst.toList.map a.eval).toArray=fst.map a.eval from WO (by simp),show(caps.toList.map a.eval).toArray=caps.map a.eval from WO (by simp)]
  | _=>simp at j
 case makeSlice t l m=>
  cases G:g.map (·.c) with
  | some b=>simp [G] at j
  | none=>simp only [G] at j;replace j:=Ui.1 j;obtain⟨n,hn,j⟩:=j;replace j:=Ui.1 j;obtain⟨k,hk',j⟩:=j;obtain⟨v',V,e,hg⟩:=P3 (vn:=a.eval l) (vm:=a.eval m) hs (by simpa [ao] using tt l n hn) (by simpa [ao] using tt m k hk') j;obtain⟨rfl,rfl⟩:=D e;obtain⟨u,w',ρ',O',C,le,U,hv⟩:=hg N;exact Good.val (x:=u) (by simp only [execOp,E,UI,C,Uu,US]) le U hv
 case makeMap t m=>
  cases G:g.map (·.c) with
  | some b=>simp [G] at j
  | none=>
   cases m with
   | some m=>simp [G] at j
   | none=>simp only [G] at j;obtain⟨v',V,e,hg⟩:=P5 hs j;obtain⟨rfl,rfl⟩:=D e;obtain⟨u,w',ρ',O',C,le,U,hv⟩:=hg N;exact Good.val (x:=u) (by simp only [execOp,E,XQ,UI,C,Uu,US]) le U hv
 case lookup t x k ok=>obtain⟨av,y,e,C,hv⟩:=PX hs (ev x) (ev k) H j;obtain⟨rfl,rfl⟩:=D e;exact Good.pure (x:=y) hs (by simp only [execOp,E,UI,C,Uu,US]) hv
 case mapUpdate t x k v'=>
  cases G:g.map (·.c) with
  | some b=>simp [G] at j
  | none=>simp only [G] at j;obtain⟨V,w',e,C,le,U⟩:=Rh hs (ev x) (ev k) (ev v') j;obtain⟨rfl,rfl⟩:=D e;unfold Good iV;simp only [execOp,E,UI,C,Uu,US];exact⟨ρ,O,le,U,by simp [ao]⟩
 case slice t x lo hi mx=>obtain⟨blo,j,h1⟩:=Bc Y X H j;obtain⟨bhi,j,I⟩:=Bc Y X H j;obtain⟨bmx,j,h3⟩:=Bc Y X H j;obtain⟨av,y,e,C,hv⟩:=Sv (P:=P) hs (ev x) H h1 I h3 j;obtain⟨rfl,rfl⟩:=D e;exact Good.pure (x:=y) hs (by simp only [execOp,E,UI,C,Uu,US]) hv
 case fieldAddr t x f=>obtain⟨av,y,e,C,hv⟩:=OS (P:=P) (ev x) H j;obtain⟨rfl,rfl⟩:=D e;exact Good.pure (x:=y) hs (by simp only [execOp,E,UI,C,Uu,US]) hv
 case field t x f=>obtain⟨av,y,e,C,hv⟩:=OQ (P:=P) (ev x) j;obtain⟨rfl,rfl⟩:=D e;exact Good.pure (x:=y) hs (by simp only [execOp,E,UI,C,Uu,US]) hv
 case indexAddr t x i=>unfold oR at j;replace j:=Ui.1 j;obtain⟨i',hi',j⟩:=j;replace j:=aO j H;obtain⟨n,hn,j⟩:=j;obtain⟨k,rfl⟩:=A4 hn;have hiv:=tt i _ hi';simp only [aA] at hiv;obtain⟨av,y,e,C,hv⟩:=Pw (P:=P) (ki:=k) hs (ev x) H j;obtain⟨rfl,rfl⟩:=D e;exact Good.pure (x:=y) hs (by simp only [execOp,E,hiv,UI,C,Uu,US]) hv
 case index t x i=>
  unfold oR at j;replace j:=Ui.1 j;obtain⟨i',hi',j⟩:=j;replace j:=aO j H;obtain⟨n,hn,j⟩:=j;obtain⟨k,rfl⟩:=A4 hn;have hiv:=tt i _ hi';simp only [aA] at hiv;have hv:=ev x;split at j
  .rename_i hu;replace j:=Ui.1 j;obtain⟨y,hy,j⟩:=j;replace j:=aO j H;obtain⟨b,hb,j⟩:=j;have:=T.kK hb;subst this;have hxv:=tt x _ hy;simp only [aA] at hxv;obtain⟨h0,h1,j⟩:=oP H j;replace j:=aO j H;obtain⟨u,hu',j⟩:=j;obtain⟨rfl,rfl⟩:=D j;have hb:b[n.toNat]? =some u:=by
    have S:n.toNat < b.data.toList.length:=(Us.1 hu').1;have hlt:n.toNat < b.size:=by simpa using S
    rw [getElem?_pos b n.toNat hlt];have:=(Us.1 hu').2;rw [<-this];simp [ByteArray.getElem_eq_getElem_data]
   exact Good.pure (x:= .int .u8 u.toNat) hs (by simp [execOp,E,hiv,hxv,Instr.index,asIntOf,run_underlying hu,h0,hb]) (by simp [ao,aA])
  .rename_i m e hu;split at j
   .rename_i vs ex;cases Z:bR P e
    .simp [Z] at j
    simp only [Z,cond_true] at j;replace j:=Ui.1 j;obtain⟨l,S,j⟩:=j;obtain⟨h0,h1,j⟩:=oP H j;rw [ex] at hv;simp only [ao] at hv;obtain⟨ws,e2,M,Q⟩:=hv;obtain⟨av,y,e,C,hv⟩:=PR (P:=P) (arr:=ws.toArray) (off:=n.toNat * P.cellsOf e) (ρ:=ρ) Z H ((aQ.l7 S M).drop _) j;obtain⟨rfl,rfl⟩:=D e;exact Good.pure (x:=y) hs (by simp [execOp,E,hiv,e2,Instr.index,asIntOf,run_underlying hu,h0,h1,ju Z,C]) hv
   .simp at j
  .simp at j
 case extract x k=>
  have hv:=ev x;split at j
  .rename_i vs e;replace j:=Ui.1 j;obtain⟨y,hy,j⟩:=j;obtain⟨rfl,rfl⟩:=D j;rw [e] at hv;simp only [ao] at hv;obtain⟨ws,e2,h1⟩:=hv;obtain⟨u,I,h3⟩:=h1.get hy;exact Good.pure hs (by simp [execOp,E,e2,Instr.extract,I]) h3
  .simp at j
 case call R=>
  have run0:∀f,R.callee=f->(execOp a.eval o).run P w= ((resolve a.eval R o.type).run P w).andThen λd w=>(invoke d.target d.args).run P w:=by intro f _;simp only [execOp,E,UI]
  split at j
  .rename_i J;split at j
   .rename_i x t ts hx W;obtain⟨av,y,e,C,hv⟩:=PJ (P:=P) (ts:=R.argTypes) (ty:=o.type) hs (ev x) H j (by rw [<-Vo,W];rfl);obtain⟨rfl,rfl⟩:=D e;have F:R.args.map a.eval= #[a.eval x]:=by apply WO;simp [hx]
    exact Good.pure (x:=y) hs (by simp only [execOp,E,resolve,J,F,UI,US,Uu,invoke,builtin,C]) hv
   .simp at j
  .rename_i J;split at j
   .rename_i x y t u hgc hx W;obtain⟨v',V,e,hg⟩:=Ll (P:=P) (tr:=o.type) hs (ev x) (ev y) j;obtain⟨rfl,rfl⟩:=D e;have F:R.args.map a.eval= #[a.eval x,a.eval y]:=by apply WO;simp [hx]
    have htys':R.argTypes= #[t,u]:=by apply WO;simp [W]
    obtain⟨z,w',ρ',O',C,le,U,hv⟩:=hg N;exact Good.val (x:=z) (by simp only [execOp,E,resolve,J,F,htys',UI,US,Uu,invoke,builtin,C]) le U hv
   .simp at j
  .rename_i J;split at j
   .rename_i k hik;replace j:=Ui.1 j;obtain⟨l,S,j⟩:=j;split at j
    .rename_i x r;replace j:=aO j H;obtain⟨n,hn,j⟩:=j;have:=T.gw hn;subst this;obtain⟨v0,vs,e0,h1,I⟩:=aQ.l7 S (rW Y X R.args.toList);simp only [aA] at h1;subst h1;obtain⟨m,e,C⟩:=CD (P:=P) (w:=w) H true I j;obtain⟨rfl,rfl⟩:=D e;have F:(R.args.map a.eval).toList= .int k n::vs:=by simp [e0]
     exact Good.pure (x:= .int k m) hs (by simp only [execOp,E,resolve,J,UI,US,Uu,invoke,builtin,Builtin.max_,F];simp only [cond_true] at C;simp only [C,Uu]) (by simp [ao,aA])
    .simp at j
   .simp at j
  .rename_i J;split at j
   .rename_i k hik;replace j:=Ui.1 j;obtain⟨l,S,j⟩:=j;split at j
    .rename_i x r;replace j:=aO j H;obtain⟨n,hn,j⟩:=j;have:=T.gw hn;subst this;obtain⟨v0,vs,e0,h1,I⟩:=aQ.l7 S (rW Y X R.args.toList);simp only [aA] at h1;subst h1;obtain⟨m,e,C⟩:=CD (P:=P) (w:=w) H false I j;obtain⟨rfl,rfl⟩:=D e;have F:(R.args.map a.eval).toList= .int k n::vs:=by simp [e0]
     exact Good.pure (x:= .int k m) hs (by simp only [execOp,E,resolve,J,UI,US,Uu,invoke,builtin,Builtin.min_,F];simp only [cond_false] at C;simp only [C,Uu]) (by simp [ao,aA])
    .simp at j
   .simp at j
  .rename_i J;split at j
   .rename_i x y t ts hgc hx W;obtain⟨V,w',e,C,le,U⟩:=Mp (P:=P) (ty:=(ts.headD 0)) (tr:=o.type) hs (ev x) (ev y) j;obtain⟨rfl,rfl⟩:=D e;have F:R.args.map a.eval= #[a.eval x,a.eval y]:=by apply WO;simp [hx]
    have run':(Builtin.delete_ R.argTypes o.type #[a.eval x,a.eval y]).run P w= .ok (.tuple #[]) w':=by
     rw [<-C];have h0:R.argTypes[0]? =some t:=by rw [<-Vo,W];rfl
     simp only [Builtin.delete_,h0];rfl
    refine Good.val (x:= .tuple #[]) (by simp only [execOp,E,resolve,J,F,UI,US,Uu,invoke,builtin,run']) le U ?_;simp only [ao];exact⟨[],rfl,by simp [aC]⟩
   .simp at j
  .rename_i J;split at j
   .rename_i x t ts hx W;split at j
    .rename_i e hu;split at j
     .rename_i y hex;cases hy:y6 y with
      | false=>rw [hy] at j;simp at j
      | true=>
       rw [hy] at j;obtain⟨rfl,rfl⟩:=D j;have hv:=ev x;rw [hex] at hv;simp only [ao] at hv;have hv:=PB hy hv;have F:R.args.map a.eval= #[a.eval x]:=by apply WO;simp [hx]
       have hts:R.argTypes[0]? =some t:=by rw [<-Vo,W];rfl
       exact Good.pure (x:= .int .i64 0) hs (by simp only [execOp,E,resolve,J,F,UI,US,Uu,invoke,builtin];simp [Builtin.cap_,hts,run_underlying hu,hv,goInt]) (by simp [ao,aA])
     .simp at j
    .simp at j
   .simp at j
  .rename_i fo J;split at j
   .rename_i f x1 y1 efo;have hfo:=ev fo;rw [efo] at hfo;simp only [ao] at hfo;obtain⟨x',y',e2,M,Q⟩:=hfo;obtain⟨v',V,fn,body,e,hfn,hbody,hname,hcall⟩:=L5 hO H hs ((M.append (rW Y X R.args.toList)).append Q) j;obtain⟨rfl,rfl⟩:=D e;unfold Good iV;have C:(execOp a.eval o).run P w= .ok (.enter f (x'++R.args.toList.map a.eval++y').toArray) w:=by
     have F:x'.toArray++R.args.map a.eval++y'.toArray= (x'++R.args.toList.map a.eval++y').toArray:=by apply WO;simp
     simp [execOp,E,resolve,J,e2,Deferred.ofValue,invoke,callFunc,run_program,hfn,hbody,hname,F]
    rw [C];exact hcall N
   .simp at j
  .simp at j
 all_goals simp at j
end
end Go.Aev
