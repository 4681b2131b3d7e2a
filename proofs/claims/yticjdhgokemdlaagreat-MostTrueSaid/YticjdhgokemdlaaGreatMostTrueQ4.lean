import Derived.Test.YticjdhgokemdlaaGreatMostTrueQ3
set_option linter.all false
namespace Go.Aev
open Go
section
variable (B:Nat->Option Value) (w:World) (A:Nat->Prop)
def jZ:bY->T->Value->List Nat->Prop
 | .f _,x,v,ob=>x.qg =some ()/\aA w A x v/\ob= []
 | .t _,x,v,ob=>aA w A x v/\ob= []
 | .own sz,x,v,ob=>∃o p,ob=o.toList/\x.aU sz=some p/\cU w A sz p.1 p.2 v (λaf=>o=some af)
 | .rows sz aD rsz,x,v,ob=>∃(b:Bool) (es:List Row) (i:Id) (l:Id->Option Value) (a:Id->Option Nat),kU x=some (b,es)/\cZ w A l a i (.rows b sz aD rsz es.length es)/\l i=some v/\i.real=true/\
   (∀x y d,a x=some d->a y=some d->x=y)/\(∀n u,l (.g i n)=some u->u.oneCell'=true/\u.cells= #[u])/\(∀x d,a x=some d->x=i\/∃n,x= .g i n)/\∀d,d∈ob↔∃x,a x=some d
 | .ref k off,_,v,ob=>(∃b,B k=some (.pointer (some ⟨b,0,none⟩))/\v= .pointer (some ⟨b,off,none⟩))/\ob= []
 | .same k,_,v,ob=>(B k=some v/\v.oneCell'=true/\v.cells= #[v])/\ob= []
 | .no,_,v,ob=>(v.oneCell'=true/\v.cells= #[v])/\ob= []
 | .mp ag ks vk,x,v,ob=>∃es b j m,x=bS es/\v= .map (some b)/\ob= [b]/\w.heap[b]? =some (.map j m)/\
   j.toList.map (λe=>(e.key,e.val))=es.map (λp=>(dr ag p.1,dQ p.2))/\(es.all λp=>cd ks p.1 && eD vk p.2)=true
 | .agg _,_,_,_=>False
 | .new _,_,_,_=>False
def fS:List bY->List T->List Value->List Nat->Prop
 | [],xs,vs,own=>xs= []/\vs= []/\own= []
 | r::e,xs,vs,own=>∃x d v b ob a,xs=x::d/\vs=v::b/\own=ob++a/\jZ B w A r x v ob/\fS e d b a
def eu:List bY->List T->List Value->List Nat->Prop
 | [],xs,vs,own=>xs= []/\vs= []/\own= []
 | .agg l::f,xs,vs,own=>∃g x2 j a o1 d,xs=g++x2/\vs= .agg j.toArray::a/\own=o1++d/\fS B w A l g j o1/\eu f x2 a d
 | .new l::f,xs,vs,own=>∃g x2 b arr t a o1 d,xs=g++x2/\vs= .pointer (some ⟨b,0,none⟩)::a/\own= (b::o1)++d/\w.heap[b]? =some (.cells arr t (0,0))/\fS B w A l g arr.toList o1/\eu f x2 a d
 | r::f,xs,vs,own=>∃x i v a ob e,xs=x::i/\vs=v::a/\own=ob++e/\jZ B w A r x v ob/\eu f i a e
def oJ:Nat->List jY->List T->List Nat->Prop
 | _,[],xs,own=>xs= []/\own= []
 | j, .box l::r,xs,own=>∃g x2 b arr t o1 a,xs=g++x2/\own=b:: (o1++a)/\B j=some (.pointer (some ⟨b,0,none⟩))/\w.heap[b]? =some (.cells arr t (0,0))/\
   fS B w A l g arr.toList o1/\oJ (j+1) r x2 a
 | j, .sl sz::r,xs,own=>∃bb l x2 ob v a,xs= .aa sz bb l::x2/\own=ob.toList++a/\B j=some v/\cU w A sz bb l v (λaf=>ob=some af)/\oJ (j+1) r x2 a
 | j, .mp ag ks vk::r,xs,own=>∃es b d f x2 a,xs=bS es::x2/\own=b::a/\B j=some (.map (some b))/\w.heap[b]? =some (.map d f)/\
   d.toList.map (λe=>(e.key,e.val))=es.map (λp=>(dr ag p.1,dQ p.2))/\(es.all λp=>cd ks p.1 && eD vk p.2)=true/\oJ (j+1) r x2 a
 | j, .dead::r,xs,own=>oJ (j+1) r xs own
end
def pn:List Value->Value
 | [v]=>v
 | vs=> .tuple vs.toArray
structure xR (w w':World):Prop where
 os:w'.os=w.os
 output:w'.output=w.output
 tape:w'.tape=w.tape
 size:w.heap.size<=w'.heap.size
 af:∀k,k < w.heap.size->w'.heap[k]? =w.heap[k]?
structure LW (w w':World) (Own:Nat->Prop):Prop where
 os:w'.os=w.os
 output:w'.output=w.output
 tape:w'.tape=w.tape
 size:w.heap.size<=w'.heap.size
 af:∀k,k < w.heap.size->¬Own k->w'.heap[k]? =w.heap[k]?
def oX(m:Nat)(ρ:Id->Option Value)(j:Nat):Option Value:=if j < m then ρ (.c j) else none
def wQ(P:Program)(A:cP)(f:FuncId)(fn:Func)(bg:List AV)(a:List ab)(xs:List T):Prop:=
 ∀(c:Ctx) (w:World) (ρ:Id->Option Value) (O:Id->Option Nat) (args:List Value),c.N0=w.heap.size->HS c w (kj a) ρ O->aC w (AA c w O) ρ bg args->
  Calls P f args.toArray w λe w'=>∃g i x2 o1 d,e= .returned (pn g)/\LW w w' (gu O)/\xs=i++x2/\(o1++d).Nodup/\(∀b∈o1++d,c.MO b/\b < w'.heap.size)/\
   eu (oX a.length ρ) w' (λb=>(c.A0 b\/c.MO b)/\b < w'.heap.size/\b∉o1++d) (dE P A f (iG a.head?) fn) i g o1/\
   oJ (oX a.length ρ) w' (λb=>(c.A0 b\/c.MO b)/\b < w'.heap.size/\b∉o1++d) 0 (iA A f (iG a.head?)) x2 d
def jJ(P:Program)(A:cP)(O:ar):Prop:= ∀f bg a xs,O (.call f) bg a=some xs->
 ∃fn b,P.funcs[f]? =some fn/\fn.body=some b/\fn.name≠ "runtime.NumGoroutine" /\wQ P A f fn bg a xs
def oA(P:Program)(A:cP):Prop:= ∀f bg a xs,A.ext f bg a=some xs->
 ∃fn b,P.funcs[f]? =some fn/\fn.body=some b/\fn.name≠ "runtime.NumGoroutine" /\wQ P A f fn bg a xs
theorem oA.no{P:Program}{A:cP}(h:∀f bg a,A.ext f bg a=none):oA P A:=λf bg a xs e=>by rw [h] at e;cases e
theorem wQ.values{P:Program}{A:cP}{f:FuncId}{fn:Func}{bg:List AV}{xs:List T}(h:wQ P A f fn bg [] xs)(hb:A.iT f=none)(A0:Nat->Prop)(w:World)(args:List Value)(y:∀b,A0 b->b < w.heap.size)
  (hv:aC w A0 (λ_=>none) bg args):
  Calls P f args.toArray w λe w'=>∃g own,e= .returned (pn g)/\xR w w'/\own.Nodup/\(∀b∈own,w.heap.size<=b/\b < w'.heap.size)/\
   eu (λ_=>none) w' (λb=>(A0 b\/w.heap.size<=b)/\b < w'.heap.size/\b∉own) (dE P A f 0 fn) xs g own:=by
 let c:Ctx:={A0:=A0,M:=λ_=>False,N0:=w.heap.size};have hs:HS c w (kj []) (λ_=>none) (λ_=>none):=⟨λi b hb=>by cases i <;> simp [kj] at hb,λi _ _=>⟨rfl,rfl⟩,λi n=>rfl,λi n _=>⟨rfl,rfl⟩,(by intro i n u D;cases D),(by intro i j b hi;cases hi),(by intro i b hi;cases hi),(by intro i b hi;cases hi),Vs _⟩;have r:∀b,A0 b->AA c w (λ_=>none) b/\w.heap[b]? =w.heap[b]?:=λb hb=>⟨⟨.inl hb,y b hb,λi hi=>by cases hi⟩,rfl⟩;refine(h c w _ _ args rfl hs (aC.mono r (λ_ _ h=>h) _ _ hv)).mono ?_;rintro e w' ⟨g,F,x2,o1,E,z,d,v,l,o,p,t⟩;have m:iA A f (iG ([]:List ab).head?)= []:=by simp [iA,hb]
 rw [m] at t;obtain⟨rfl,rfl⟩:=t;rw [V9] at v l;subst v;have q:dE P A f (iG ([]:List ab).head?) fn=dE P A f 0 fn:=rfl;have e0:oX ([]:List ab).length (λ_=>none)=λ_=>none:=by funext j;simp [oX]
 rw [q,e0] at p;refine⟨g,o1,z,⟨d.os,d.output,d.tape,d.size,λk C=>d.af k C (by rintro⟨i,hi⟩;cases hi)⟩,l,λb hb=> ?_, ?_⟩
 .obtain⟨h1,a⟩:=o b (by simpa using hb);rcases h1 with h1 | h1
  .exact h1.elim
  .exact⟨h1,a⟩
 .have x:(λb=>(c.A0 b\/c.MO b)/\b < w'.heap.size/\b∉o1++ [])=λb=>(A0 b\/w.heap.size<=b)/\b < w'.heap.size/\b∉o1:=by
   funext b;simp only [V9];refine propext ⟨?_, ?_⟩
   .rintro⟨h1 | h1 | h1,a⟩
    .exact⟨.inl h1,a⟩
    .exact h1.elim
    .exact⟨.inr h1,a⟩
   .rintro⟨h1 | h1,a⟩
    .exact⟨.inl h1,a⟩
    .exact⟨.inr (.inr h1),a⟩
  rw [x] at p;exact p
structure gW (c:Ctx) (w:World) (A:Nat->Prop) (h:Id->Option ab) (ρ:Id->Option Value) (O:Id->Option Nat):Prop where
 af:∀i b,h i=some b->cZ w A ρ O i b
 cG:∀i,i.real=true->h i=none->ρ i=none/\O i=none
 eO:∀i n,h (.g i n)=none
 fY:∀i n,h i=none->ρ (.g i n)=none/\O (.g i n)=none
 gone:∀i n u,ρ (.g i n)=some u->u.oneCell'=true/\u.cells= #[u]
 inj:∀i j b,O i=some b->O j=some b->i=j
 lt:∀i b,O i=some b->b < w.heap.size
 own:∀i b,O i=some b->c.MO b
 size:c.N0<=w.heap.size
section
variable {P:Program} {B:Nat->Option Value} {ids:List Id} {w w':World} {A A':Nat->Prop} {c:Ctx} {ρ:Id->Option Value} {O:Id->Option Nat} {s:St} {cc:Option Bool} {h:Id->Option ab}
theorem gW.Lo(hs:gW c w A h ρ O)(e:∀b,A b↔AA c w O b):HS c w h ρ O:=by have:A=AA c w O:=funext λb=>propext (e b);subst this;exact⟨hs.af,hs.cG,hs.eO,hs.fY,hs.gone,hs.inj,hs.lt,hs.own,hs.size⟩
theorem gW.real(hs:gW c w A h ρ O){i:Id}(hi:h i≠none):i.real=true:=by
 cases i with
 | g i n=>exact(hi (hs.eO i n)).elim
 | _=>rfl
theorem gW.BG{i:Id}(hrl:i.real=true)(hs:gW c w A h ρ O)(hi:h i=none)(v:Value)(ob:Option Nat)(f:∀b,ob=some b->b < w.heap.size/\c.MO b/\∀j,O j≠some b)(x:ab)
  (m:cZ w A (aE ρ i (some v)) (aE O i ob) i x):gW c w A (aE h i (some x)) (aE ρ i (some v)) (aE O i ob):=by
 refine⟨λj b a=> ?_,λj g a=> ?_,λj n=>by rw [au _ _ (aR hrl)];exact hs.eO j n,λj n a=> ?_,λj n u l=>by rw [au _ _ (aR hrl)] at l;exact hs.gone j n u l,λj k b a d=> ?_,λj b a=> ?_,λj b a=> ?_,hs.size⟩
 .by_cases e:j=i
  .subst e;rw [aF] at a;cases a;exact m
  .rw [au _ _ e] at a;refine cZ.mono (λn=>⟨au _ _ (aR hrl),au _ _ (aR hrl),λ_ _=>rfl⟩) (λb hb=>⟨hb,rfl⟩) (λk u d=> ?_) (au _ _ e) (λ_ _=>rfl) (hs.af j b a);by_cases e2:k=i
   .subst e2;rw [(hs.cG _ hrl hi).1] at d;cases d
   .rw [au _ _ e2];exact d
 .by_cases e:j=i
  .subst e;rw [aF] at a;cases a
  .rw [au _ _ e] at a;rw [au _ _ e,au _ _ e];exact hs.cG j g a
 .by_cases e:j=i
  .subst e;rw [aF] at a;cases a
  .rw [au _ _ e] at a;rw [au _ _ (aR hrl),au _ _ (aR hrl)];exact hs.fY j n a
 .by_cases e:j=i <;> by_cases e':k=i
  .rw [e,e']
  .subst e;rw [aF] at a;rw [au _ _ e'] at d;exact((f b a).2.2 k d).elim
  .subst e';rw [aF] at d;rw [au _ _ e] at a;exact((f b d).2.2 j a).elim
  .rw [au _ _ e] at a;rw [au _ _ e'] at d;exact hs.inj j k b a d
 .by_cases e:j=i
  .subst e;rw [aF] at a;exact(f b a).1
  .rw [au _ _ e] at a;exact hs.lt j b a
 .by_cases e:j=i
  .subst e;rw [aF] at a;exact(f b a).2.1
  .rw [au _ _ e] at a;exact hs.own j b a
theorem gW.D6{i:Id}(hs:gW c w A h ρ O)(hi:h i=some .dead)(ob:Option Nat)(f:∀b,ob=some b->b < w.heap.size/\c.MO b/\∀j,O j≠some b)(x:ab)
  (l:cZ w A ρ (aE O i ob) i x):gW c w A (aE h i (some x)) ρ (aE O i ob):=by
 have hrl:=hs.real (i:=i) (by rw [hi];simp);refine⟨λj b a=> ?_,λj g a=> ?_,λj n=>by rw [au _ _ (aR hrl)];exact hs.eO j n,λj n a=> ?_,hs.gone,λj k b a d=> ?_,λj b a=> ?_,λj b a=> ?_,hs.size⟩
 .by_cases e:j=i
  .subst e;rw [aF] at a;cases a;exact l
  .rw [au _ _ e] at a;exact cZ.mono (λn=>⟨rfl,au _ _ (aR hrl),λ_ _=>rfl⟩) (λb hb=>⟨hb,rfl⟩) (λk u d=>d) (au _ _ e) (λ_ _=>rfl) (hs.af j b a)
 .by_cases e:j=i
  .subst e;rw [aF] at a;cases a
  .rw [au _ _ e] at a;rw [au _ _ e];exact hs.cG j g a
 .by_cases e:j=i
  .subst e;rw [aF] at a;cases a
  .rw [au _ _ e] at a;rw [au _ _ (aR hrl)];exact hs.fY j n a
 .by_cases e:j=i <;> by_cases e':k=i
  .rw [e,e']
  .subst e;rw [aF] at a;rw [au _ _ e'] at d;exact((f b a).2.2 k d).elim
  .subst e';rw [aF] at d;rw [au _ _ e] at a;exact((f b d).2.2 j a).elim
  .rw [au _ _ e] at a;rw [au _ _ e'] at d;exact hs.inj j k b a d
 .by_cases e:j=i
  .subst e;rw [aF] at a;exact(f b a).1
  .rw [au _ _ e] at a;exact hs.lt j b a
 .by_cases e:j=i
  .subst e;rw [aF] at a;exact(f b a).2.1
  .rw [au _ _ e] at a;exact hs.own j b a
def wP(B:Nat->Option Value)(ids:List Id)(ρ:Id->Option Value):Prop:= ∀k i v,ids[k]? =some i->B k=some v->ρ i=some v
def gE(B:Nat->Option Value)(ids:List Id)(c:Ctx)(w:World)(A:Nat->Prop)(us:aH)(own:List Nat)(Q:(Id->Option Value)->Prop):Prop:=
 ∀h ρ O,wP B ids ρ->gW c w A h ρ O->own.Nodup->(∀b∈own,b < w.heap.size/\c.MO b/\∀i,O i≠some b)->(∀p∈us,h p.1=none)->
  ∃ρ' O',(∀i u,ρ i=some u->ρ' i=some u)/\gW c w A (aK h us) ρ' O'/\Q ρ'/\∀b,(∃i,O' i=some b)↔((∃i,O i=some b)\/b∈own)
def nq(d j a:Nat)(us:aH):Prop:= ∀p∈us,∃k,j<=k/\k < a/\p.1= .s d k
theorem gE.nil{Q:(Id->Option Value)->Prop}(d:∀ρ,wP B ids ρ->Q ρ):gE B ids c w A [] [] Q:=by intro h ρ O a hs _ _ _;exact⟨ρ,O,λ_ _ h=>h,hs,d ρ a,λb=>by simp⟩
theorem gE.append{d j D V:Nat}{us vs:aH}{o1 K:List Nat}{t x Q:(Id->Option Value)->Prop}(h1:gE B ids c w A us o1 t)(U:gE B ids c w A vs K x)(X:nq d j D us)(Y:nq d D V vs)
  (r:∀ρ ρ',(∀i u,ρ i=some u->ρ' i=some u)->t ρ->x ρ'->Q ρ'):gE B ids c w A (us++vs) (o1++K) Q:=by
 intro h ρ O l hs y f a;obtain⟨H,I,J⟩:=W5.1 y;obtain⟨m,L,F,z,q1,r1⟩:=h1 h ρ O l hs H (λb hb=>f b (Vo _ hb)) (λp g=>a p (Vo _ g));obtain⟨n,M,G,C,Z,r2⟩:=U (aK h us) m L (λk i v N e2=>F i v (l k i v N e2)) z I (λb hb=>by
  obtain⟨R,S,T⟩:=f b (Vm _ hb);refine⟨R,S,λi hi=> ?_⟩;rcases(r1 b).1 ⟨i,hi⟩ with⟨k,o⟩ | o
  .exact T k o
  .exact J b o b hb rfl) (λp g=>by
  rw [eF (λq r e=> ?_)]
  .exact a p (Vm _ g)
  .obtain⟨k,_,k2,W⟩:=X q r;obtain⟨k',k1',_,E⟩:=Y p g;rw [W,E] at e;simp only [Id.s.injEq] at e;omega)
 refine⟨n,M,λi u hi=>G i u (F i u hi),by rw [mD];exact C,r m n G q1 Z,λb=> ?_⟩;rw [r2 b,r1 b,Vr,or_assoc]
theorem dB(es:List (List T×T)):iW (bS es)=some es:=by
 unfold bS iW;induction es with
 | nil=>rfl
 | cons p es a=>simp only [VN,Ca] at a⊢;rw [a];rfl
theorem gW.L3{i' i:Id}{p:Id->Option Value}{o:Id->Option Nat}{b:Bool}{sz aD rsz:Nat}{es:List Row}{v:Value}{ob:List Nat}(hrl:i'.real=true)(hs:gW c w A h ρ O)(hi:h i'=none)
  (hb:cZ w A p o i (.rows b sz aD rsz es.length es)) (hv:p i=some v) (F:i.real=true) (z:∀x y d,o x=some d->o y=some d->x=y) (hg:∀n u,p (.g i n)=some u->u.oneCell'=true/\u.cells= #[u])
  (X:∀x d,o x=some d->x=i\/∃n,x= .g i n) (E:∀d,d∈ob↔∃x,o x=some d) (C:∀b∈ob,b < w.heap.size/\c.MO b/\∀i,O i≠some b):
  ∃ρ' O',(∀x u,ρ x=some u->ρ' x=some u)/\gW c w A (aE h i' (some (.rows b sz aD rsz es.length es))) ρ' O'/\ρ' i'=some v/\∀d,(∃x,O' x=some d)↔((∃x,O x=some d)\/d∈ob):=by
 let V:Id->Option Value:=λx=>if x=i' then some v else match x with
  | .g y n=>if y=i' then p (.g i n) else ρ (.g y n)
  | x=>ρ x
 let Q:Id->Option Nat:=λx=>if x=i' then o i else match x with
  | .g y n=>if y=i' then o (.g i n) else O (.g y n)
  | x=>O x
 have Y:V i'=some v:=by simp only [V,if_true]
 have T:Q i'=o i:=by simp only [Q,if_true]
 have Z:∀x,x.real=true->x≠i'->V x=ρ x:=by
  intro x k j;simp only [V,if_neg j];cases x with
  | g y n=>cases k
  | _=>rfl
 have J:∀x,x.real=true->x≠i'->Q x=O x:=by
  intro x k j;simp only [Q,if_neg j];cases x with
  | g y n=>cases k
  | _=>rfl
 have M:∀y n,y≠i'->V (.g y n)=ρ (.g y n):=by intro y n hy;simp only [V,if_neg (aR hrl),if_neg hy]
 have K:∀y n,y≠i'->Q (.g y n)=O (.g y n):=by intro y n hy;simp only [Q,if_neg (aR hrl),if_neg hy]
 have U:∀n,V (.g i' n)=p (.g i n):=by intro n;simp only [V,if_neg (aR hrl),if_true]
 have L:∀n,Q (.g i' n)=o (.g i n):=by intro n;simp only [Q,if_neg (aR hrl),if_true]
 have H:∀x d,Q x=some d->(O x=some d/\x≠i'/\∀n,x≠ .g i' n)\/(x=i'/\o i=some d)\/∃n,x= .g i' n/\o (.g i n)=some d:=by
  intro x d j;by_cases e:x=i'
  .subst e;rw [T] at j;exact .inr (.inl ⟨rfl,j⟩)
  .cases k:x.real with
   | true=>rw [J x k e] at j;exact .inl ⟨j,e,λn e'=>by rw [e'] at k;cases k⟩
   | false=>
    cases x with
    | g y n=>
     by_cases e':y=i'
     .subst e';rw [L] at j;exact .inr (.inr ⟨n,rfl,j⟩)
     .rw [K y n e'] at j;exact .inl ⟨j,e,λm e2=>by simp only [Id.g.injEq] at e2;exact e' e2.1⟩
    | _=>cases k
 have n0:=hs.cG i' hrl hi;have ng:=λn=>hs.fY i' n hi;have mono:∀x u,ρ x=some u->V x=some u:=by
  intro x u j;cases k:x.real with
  | true=>rw [Z x k (λe=>by rw [e,n0.1] at j;cases j)];exact j
  | false=>
   cases x with
   | g y n=>rw [M y n (λe=>by rw [e,(ng n).1] at j;cases j)];exact j
   | _=>cases k
 have I:∀d,(∃x,Q x=some d)↔((∃x,O x=some d)\/d∈ob):=by
  intro d;constructor
  .rintro⟨x,j⟩;rcases H x d j with⟨h1,_⟩ | ⟨_,h1⟩ | ⟨n,_,h1⟩
   .exact .inl ⟨x,h1⟩
   .exact .inr ((E d).2 ⟨_,h1⟩)
   .exact .inr ((E d).2 ⟨_,h1⟩)
  .rintro(⟨x,j⟩ | r)
   .cases k:x.real with
    | true=>exact⟨x,by rw [J x k (λe=>by rw [e,n0.2] at j;cases j)];exact j⟩
    | false=>
     cases x with
     | g y n=>exact⟨.g y n,by rw [K y n (λe=>by rw [e,(ng n).2] at j;cases j)];exact j⟩
     | _=>cases k
   .obtain⟨x,j⟩:=(E d).1 r;rcases X x d j with rfl | ⟨n,rfl⟩
    .exact⟨i',by rw [T];exact j⟩
    .exact⟨.g i' n,by rw [L];exact j⟩
 have G:∀d,(∃x,o x=some d)->∀y,O y≠some d:=λd r=>(C d ((E d).2 r)).2.2;refine⟨V,Q,mono,⟨λx y j=> ?_,λx k j=> ?_,λx n=>by rw [au _ _ (aR hrl)];exact hs.eO x n,λx n j=> ?_,λx n u S=> ?_,λx y d j hy=> ?_,λx d j=> ?_,λx d j=> ?_,hs.size⟩,Y,I⟩
 .by_cases e:x=i'
  .subst e;rw [aF] at j;cases j;obtain⟨a,cap,e1,e2,e3,N,W⟩:=hb;rw [hv] at e1;cases e1;refine⟨a,cap,Y,e2,e3,⟨N.1,N.2.1,λn R=>by rw [U];exact N.2.2.1 n R,λn d R=>by rw [L] at R;exact N.2.2.2 n d R⟩, ?_⟩;rcases W with W | ⟨af,off,arr,t,q1,q2,q3,q4,q5⟩
   .exact .inl W
   .exact .inr ⟨af,off,arr,t,q1,by rw [T];exact q2,q3,q4,cw.move (λb hb=>⟨hb,rfl⟩) (λ_ _=>rfl) (λf _=>⟨U _,L _,λ_ _=>rfl⟩) q5⟩
  .rw [au _ _ e] at j;have hrx:=hs.real (i:=x) (by rw [j];simp);exact cZ.mono (λn=>⟨M x n e,K x n e,λ_ _=>rfl⟩) (λb hb=>⟨hb,rfl⟩) mono (J x hrx e) (λ_ _=>rfl) (hs.af x y j)
 .have l:x≠i':=λe=>by rw [e,aF] at j;cases j
  rw [au _ _ l] at j;rw [Z x k l,J x k l];exact hs.cG x k j
 .have l:x≠i':=λe=>by rw [e,aF] at j;cases j
  rw [au _ _ l] at j;rw [M x n l,K x n l];exact hs.fY x n j
 .by_cases l:x=i'
  .subst l;rw [U] at S;exact hg n u S
  .rw [M x n l] at S;exact hs.gone x n u S
 .rcases H x d j with⟨h1,q,h3⟩ | ⟨h1,q⟩ | ⟨n,h1,q⟩ <;> rcases H y d hy with⟨D,k2,k3⟩ | ⟨D,k2⟩ | ⟨m,D,k2⟩
  .exact hs.inj x y d h1 D
  .exact(G d ⟨_,k2⟩ x h1).elim
  .exact(G d ⟨_,k2⟩ x h1).elim
  .exact(G d ⟨_,q⟩ y D).elim
  .rw [h1,D]
  .have:=z _ _ d q k2;rw [this] at F;cases F
  .exact(G d ⟨_,q⟩ y D).elim
  .have:=z _ _ d k2 q;rw [this] at F;cases F
  .have:=z _ _ d q k2;simp only [Id.g.injEq,true_and] at this;rw [h1,D,this]
 .rcases(I d).1 ⟨x,j⟩ with⟨y,hy⟩ | r
  .exact hs.lt y d hy
  .exact(C d r).1
 .rcases(I d).1 ⟨x,j⟩ with⟨y,hy⟩ | r
  .exact hs.own y d hy
  .exact(C d r).2.1
theorem F2{R:Type}{d j:Nat}{r:bY}{x:T}{v:Value}{ob:List Nat}{K:AV->aH->Nat->Option R}{res:R}(S:cc=none\/cc=some true)(m:jZ B w A r x v ob)(a:mM ids d cc j r x K=some res):
  ∃av us Q,K av us Q=some res/\j<=Q/\nq d j Q us/\gE B ids c w A us ob (λρ =>ao w A ρ av v):=by
 unfold mM at a;cases r with
 | f k=>obtain⟨_,h1,rfl⟩:=m;simp only at a;obtain⟨y,a,h1⟩:=pE S h1 a;exact⟨_,_,_,a,Vs _,(by intro p D;cases D),gE.nil λρ _=>by simpa [ao] using h1⟩
 | t k=>obtain⟨h1,rfl⟩:=m;simp only at a;obtain⟨y,a,h1⟩:=pE S h1 a;exact⟨_,_,_,a,Vs _,(by intro p D;cases D),gE.nil λρ _=>by simpa [ao] using h1⟩
 | own sz=>
  obtain⟨o,p,rfl,D,Y⟩:=m;cases cc with
  | some b=>simp at a
  | none=>
   dsimp only at a;replace a:=aO a (.inl rfl);obtain⟨q,g,a⟩:=a;rw [D] at g;simp only [U5] at g;subst g;refine⟨_,_,_,a,Nat.le_succ _, ?_, ?_⟩
   .intro q g;simp only [Vj] at g;subst g;exact⟨j,Vs _,Xc _,rfl⟩
   .intro h ρ O E hs I C n;have hi:h (.s d j)=none:=n _ (Vj.2 rfl);refine⟨aE ρ (.s d j) (some v),aE O (.s d j) o,λi u z=> ?_, ?_,by simp [ao],λb=>⟨λ⟨i,hb⟩=> ?_,λhb=> ?_⟩⟩
    .by_cases e:i= .s d j
     .subst e;rw [(hs.cG _ rfl hi).1] at z;cases z
     .rw [au _ _ e];exact z
    .rw [eX];refine hs.BG rfl hi v o (λb hb=>C b (by simp [hb])) _ ⟨v,aF _ _ _, ?_,by simp⟩;simpa using Y
    .by_cases e:i= .s d j
     .subst e;rw [aF] at hb;right;simp [hb]
     .rw [au _ _ e] at hb;exact .inl ⟨i,hb⟩
    .rcases hb with⟨i,hb⟩ | hb
     .by_cases e:i= .s d j
      .subst e;rw [(hs.cG _ rfl hi).2] at hb;cases hb
      .exact⟨i,by rw [au _ _ e];exact hb⟩
     .exact⟨.s d j,by rw [aF];simpa using hb⟩
 | ref k off=>
  obtain⟨⟨b,h1,rfl⟩,rfl⟩:=m;dsimp only at a;split at a
  .rename_i i hi;exact⟨_,_,_,a,Vs _,(by intro p D;cases D),gE.nil λρ E=>by
    simp only [ao];exact⟨b,E k i _ hi h1,rfl⟩⟩
  .simp at a
 | same k=>
  obtain⟨⟨h1,_⟩,rfl⟩:=m;dsimp only at a;split at a
  .rename_i i hi;exact⟨_,_,_,a,Vs _,(by intro p D;cases D),gE.nil λρ E=>by
    simp only [ao];exact E k i _ hi h1⟩
  .simp at a
 | rows sz aD rsz=>
  obtain⟨b,es,i,ρ0,O0,L,hb,hv,X,N,hg,M,V⟩:=m;cases cc with
  | some b=>simp at a
  | none=>
   dsimp only at a;replace a:=aO a (.inl rfl);obtain⟨q,g,a⟩:=a;rw [L] at g;simp only [U5] at g;subst g;refine⟨_,_,_,a,Nat.le_succ _, ?_, ?_⟩
   .intro q g;simp only [Vj] at g;subst g;exact⟨j,Vs _,Xc _,rfl⟩
   .intro h ρ O E hs I C n;have hi:h (.s d j)=none:=n _ (Vj.2 rfl);obtain⟨ρ',O',Z,g2,g3,g4⟩:=hs.L3 (i':= .s d j) rfl hi hb hv X N hg M V C;exact⟨ρ',O',Z,by rw [eX];exact g2,by simp only [ao];exact g3,g4⟩
 | no=>obtain⟨_,rfl⟩:=m;dsimp only at a;exact⟨_,_,_,a,Vs _,(by intro p D;cases D),gE.nil λρ _=>by simp [ao]⟩
 | mp ag ks vk=>
  obtain⟨es,F,J,G,rfl,rfl,rfl,H,U,W⟩:=m;cases cc with
  | some b=>simp at a
  | none=>
   dsimp only at a;replace a:=aO a (.inl rfl);obtain⟨q,g,a⟩:=a;rw [dB] at g;simp only [U5] at g;subst g;refine⟨_,_,_,a,Nat.le_succ _, ?_, ?_⟩
   .intro q g;simp only [Vj] at g;subst g;exact⟨j,Vs _,Xc _,rfl⟩
   .intro h ρ O E hs I C n;have hi:h (.s d j)=none:=n _ (Vj.2 rfl);refine⟨aE ρ (.s d j) (some (.map (some F))),aE O (.s d j) (some F),λi u z=> ?_, ?_,by simp [ao],λb=>⟨λ⟨i,hb⟩=> ?_,λhb=> ?_⟩⟩
    .by_cases e:i= .s d j
     .subst e;rw [(hs.cG _ rfl hi).1] at z;cases z
     .rw [au _ _ e];exact z
    .rw [eX];exact hs.BG rfl hi _ (some F) (λb hb=>C b (by simp only [U5] at hb;simp [hb])) _ ⟨F,J,G,aF _ _ _,aF _ _ _,H,U,W⟩
    .by_cases e:i= .s d j
     .subst e;rw [aF] at hb;right;simp only [U5] at hb;simp [hb]
     .rw [au _ _ e] at hb;exact .inl ⟨i,hb⟩
    .rcases hb with⟨i,hb⟩ | hb
     .by_cases e:i= .s d j
      .subst e;rw [(hs.cG _ rfl hi).2] at hb;cases hb
      .exact⟨i,by rw [au _ _ e];exact hb⟩
     .exact⟨.s d j,by rw [aF];simp only [Vj] at hb;rw [hb]⟩
 | agg l=>simp at a
 | new l=>simp at a
theorem yP{R:Type}{d:Nat}(i:cc=none\/cc=some true):∀{o:List bY} {j:Nat} {g x2:List T} {vs:List Value} {own:List Nat} {K:List AV->aH->Nat->Option R} {res:R},fS B w A o g vs own->kx ids d cc j o (g++x2) K=some res->
  ∃av us l,K av us l=some res/\j<=l/\nq d j l us/\gE B ids c w A us own (λρ =>aC w A ρ av vs)
 | [],j,g,x2,vs,own,K,res,f,a=>by obtain⟨rfl,rfl,rfl⟩:=f;exact⟨_,_,_,a,Vs _,(by intro p e;cases e),gE.nil λρ _=>by simp [aC]⟩
 | r::o,j,g,x2,vs,own,K,res,f,a=>by
  obtain⟨x,M,v,z,ob,F,rfl,rfl,rfl,h1,C⟩:=f;simp only [kx,Vc,WS,Yh] at a;replace a:=aO a i;obtain⟨y,hy,a⟩:=a;simp only [U5] at hy;subst hy;obtain⟨av,us,N,a,D,t,H⟩:=F2 (c:=c) i h1 a;obtain⟨J,L,Q,a,E,u,I⟩:=yP i C a;refine⟨_,_,_,a,VU D E, ?_,H.append I t u λρ ρ' m q1 G=> ?_⟩
  .intro p e;rcases Vr.1 e with e | e
   .obtain⟨k,q,k2,n⟩:=t p e;exact⟨k,q,by omega,n⟩
   .obtain⟨k,q,k2,n⟩:=u p e;exact⟨k,by omega,k2,n⟩
  .simp only [aC];exact⟨v,z,rfl,ao.mono (λb hb=>⟨hb,rfl⟩) m _ _ q1,G⟩
theorem jZ.one{r:bY}{x:T}{v:Value}{ob:List Nat}(h:jZ B w A r x v ob):v.oneCell'=true/\v.cells= #[v]:=by
 cases r with
 | f k=>exact h.2.1.qE
 | t k=>exact h.1.qE
 | own sz=>obtain⟨o,p,_,_,a,cap,rfl,_⟩:=h;exact⟨rfl,rfl⟩
 | rows sz aD rsz=>obtain⟨b,es,i,j,m,_,⟨a,cap,d,_⟩,hv,_⟩:=h;rw [hv] at d;cases d;exact⟨rfl,rfl⟩
 | ref k off=>obtain⟨⟨b,_,rfl⟩,_⟩:=h;exact⟨rfl,rfl⟩
 | same k=>exact h.1.2
 | no=>exact h.1
 | mp ag ks vk=>obtain⟨es,b,g,e,_,rfl,_⟩:=h;exact⟨rfl,rfl⟩
 | agg l=>exact h.elim
 | new l=>exact h.elim
theorem fS.one:∀{a:List bY} {xs:List T} {vs:List Value} {own:List Nat},fS B w A a xs vs own->∀u∈vs,u.oneCell'=true/\u.cells= #[u]
 | [],_,_,_,⟨_,rfl,_⟩,u,hu=>by cases hu
 | r::a,xs,vs,own,h,u,hu=>by
  obtain⟨x,f,v,e,ob,d,rfl,rfl,rfl,h1,b⟩:=h;rcases Vk.1 hu with rfl | hu
  .exact h1.one
  .exact fS.one b u hu
theorem fS.length:∀{a:List bY} {xs:List T} {vs:List Value} {own:List Nat},fS B w A a xs vs own->xs.length=a.length
 | [],_,_,_,⟨rfl,_,_⟩=>rfl
 | r::a,xs,vs,own,h=>by obtain⟨x,f,v,e,ob,d,rfl,rfl,rfl,h1,b⟩:=h;simp [fS.length b]
theorem gE.box{d K j:Nat}{us:aH}{o1:List Nat}{av:List AV}{f:Nat}{arr:Array Value}{t:TypeId}(h1:gE B ids c w A us o1 (λρ =>aC w A ρ av arr.toList))(N:nq d K j us)(hb:w.heap[f]? =some (.cells arr t (0,0)))
  (J:∀u∈arr.toList,u.oneCell'=true/\u.cells= #[u]):gE B ids c w A (us++ [(.s d j, .box av)]) (f::o1) (λρ =>ao w A ρ (.ref (.s d j) 0) (.pointer (some ⟨f,0,none⟩))):=by
 intro h ρ O D hs E l m;obtain⟨F,G⟩:=WA.1 E;obtain⟨x,y,M,q,q1,r1⟩:=h1 h ρ O D hs G (λb hb=>l b (Va _ hb)) (λp z=>m p (Vo _ z));have hi:aK h us (.s d j)=none:=by
  rw [eF λp z e=> ?_]
  .exact m _ (Vm _ (Vj.2 rfl))
  .obtain⟨k,_,C,I⟩:=N p z;rw [I] at e;simp only [Id.s.injEq] at e;omega
 have n:∀k,y k≠some f:=by
  intro k a;rcases(r1 f).1 ⟨k,a⟩ with⟨L,o⟩ | o
  .exact(l f U9).2.2 L o
  .exact F o
 have mono:∀i u,x i=some u->aE x (.s d j) (some (.pointer (some ⟨f,0,none⟩))) i=some u:=by
  intro i u r;by_cases e:i= .s d j
  .subst e;rw [(q.cG _ rfl hi).1] at r;cases r
  .rw [au _ _ e];exact r
 refine⟨aE x (.s d j) (some (.pointer (some ⟨f,0,none⟩))),aE y (.s d j) (some f),λi u r=>mono i u (M i u r), ?_, ?_,λb=> ?_⟩
 .rw [mD,eX];refine q.BG rfl hi _ (some f) (λb hb=> ?_) _ ⟨f,arr,t,aF _ _ _,aF _ _ _,hb,aC.mono (λb hb=>⟨hb,rfl⟩) mono _ _ q1,J⟩;simp only [U5] at hb;subst hb;obtain⟨H,C,_⟩:=l f U9;exact⟨H,C,n⟩
 .simp only [ao];exact⟨f,aF _ _ _,by simp⟩
 .constructor
  .rintro⟨k,a⟩;by_cases e:k= .s d j
   .subst e;rw [aF] at a;cases a;exact .inr U9
   .rw [au _ _ e] at a;rcases(r1 b).1 ⟨k,a⟩ with g | g
    .exact .inl g
    .exact .inr (Va _ g)
  .intro a;have v:(∃k,y k=some b)->∃k,aE y (.s d j) (some f) k=some b:=by
    rintro⟨k,a⟩;by_cases e:k= .s d j
    .subst e;rw [(q.cG _ rfl hi).2] at a;cases a
    .exact⟨k,by rw [au _ _ e];exact a⟩
   rcases a with a | a
   .exact v ((r1 b).2 (.inl a))
   .rcases Vk.1 a with rfl | a
    .exact⟨_,aF _ _ _⟩
    .exact v ((r1 b).2 (.inr a))
theorem uH{R:Type}{d:Nat}(E:cc=none\/cc=some true):∀{G:List bY} {j:Nat} {xs:List T} {vs:List Value} {own:List Nat} {K:List AV->aH->Nat->Option R} {res:R},eu B w A G xs vs own->eJ ids d cc j G xs K=some res->
  ∃av us z,K av us z=some res/\j<=z/\nq d j z us/\gE B ids c w A us own (λρ =>aC w A ρ av vs)
 | [],j,xs,vs,own,K,res,e,a=>by obtain⟨rfl,rfl,rfl⟩:=e;exact⟨_,_,_,a,Vs _,(by intro p i;cases i),gE.nil λρ _=>by simp [aC]⟩
 | r::G,j,xs,vs,own,K,res,e,a=>by
  have g:(∃x Q v o ob F,xs=x::Q/\vs=v::o/\own=ob++F/\jZ B w A r x v ob/\eu B w A G Q o F)->
    (ae cc xs.head? λx=>mM ids d cc j r x λv u j=>eJ ids d cc j G xs.tail λvs us j=>K (v::vs) (u++us) j)=some res->
    ∃av us z,K av us z=some res/\j<=z/\nq d j z us/\gE B ids c w A us own (λρ =>aC w A ρ av vs):=by
   intro e a;obtain⟨x,Q,v,o,ob,F,rfl,rfl,rfl,h1,H⟩:=e;simp only [WS,Yh] at a;replace a:=aO a E;obtain⟨y,hy,a⟩:=a;simp only [U5] at hy;subst hy;obtain⟨av,us,I,a,J,C,M⟩:=F2 (c:=c) E h1 a;obtain⟨U,W,j2,a,S,D,N⟩:=uH E H a;refine⟨_,_,_,a,VU J S, ?_,M.append N C D λρ ρ' m q1 L=> ?_⟩
   .intro p i;rcases Vr.1 i with i | i
    .obtain⟨k,q,k2,n⟩:=C p i;exact⟨k,q,by omega,n⟩
    .obtain⟨k,q,k2,n⟩:=D p i;exact⟨k,by omega,k2,n⟩
   .simp only [aC];exact⟨v,o,rfl,ao.mono (λb hb=>⟨hb,rfl⟩) m _ _ q1,L⟩
  cases r with
  | f k=>exact g e a
  | t k=>exact g e a
  | own sz=>exact g e a
  | rows sz aD rsz=>exact g e a
  | mp ag ks vk=>exact g e a
  | new l=>
   obtain⟨Y,x2,b0,arr,ty,o,o1,o2,rfl,rfl,rfl,Z,h1,H⟩:=e;have a:(kx ids d cc j l (Y++x2) λv u j=>eJ ids d cc (j+1) G ((Y++x2).drop l.length) λvs us z=>K (AV.ref (.s d j) 0::vs) (u++ [(.s d j, .box v)] ++us) z)=some res:=by
    cases cc with
    | none=>simp only [eJ] at a;exact a
    | some b=>simp [eJ] at a
   obtain⟨av,us,I,a,J,C,M⟩:=yP (c:=c) E h1 a;have X:=h1.length;rw [<-X,ZN] at a;obtain⟨U,W,j2,a,S,D,N⟩:=uH E H a;have V:nq d j (I+1) (us++ [(.s d I, .box av)]):=by
    intro p i;rcases Vr.1 i with i | i
    .obtain⟨k,q,k2,n⟩:=C p i;exact⟨k,q,by omega,n⟩
    .rw [Vj.1 i];exact⟨I,J,by omega,rfl⟩
   refine⟨_,_,_,a,by omega, ?_,(M.box C Z h1.one).append N V D λρ ρ' m q1 L=> ?_⟩
   .intro p i;rcases Vr.1 i with i | i
    .obtain⟨k,q,k2,n⟩:=V p i;exact⟨k,q,by omega,n⟩
    .obtain⟨k,q,k2,n⟩:=D p i;exact⟨k,by omega,k2,n⟩
   .simp only [aC];exact⟨_,o,rfl,ao.mono (λb hb=>⟨hb,rfl⟩) m _ _ q1,L⟩
  | ref k off=>exact g e a
  | same k=>exact g e a
  | no=>exact g e a
  | agg l=>
   obtain⟨Y,x2,ws,o,o1,o2,rfl,rfl,rfl,h1,H⟩:=e;simp only [eJ] at a;obtain⟨av,us,I,a,J,C,M⟩:=yP (c:=c) E h1 a;have X:=h1.length;rw [<-X,ZN] at a;obtain⟨U,W,j2,a,S,D,N⟩:=uH E H a;refine⟨_,_,_,a,VU J S, ?_,M.append N C D λρ ρ' m q1 L=> ?_⟩
   .intro p i;rcases Vr.1 i with i | i
    .obtain⟨k,q,k2,n⟩:=C p i;exact⟨k,q,by omega,n⟩
    .obtain⟨k,q,k2,n⟩:=D p i;exact⟨k,by omega,k2,n⟩
   .simp only [aC];refine⟨_,o,rfl, ?_,L⟩;simp only [ao];exact⟨ws,rfl,aC.mono (λb hb=>⟨hb,rfl⟩) m _ _ q1,h1.one⟩
theorem D3{vs:List AV}{a:List Value}(h:aC w A ρ vs a):ao w A ρ (mo vs) (pn a):=by
 match vs,a,h with
 | [],a,h=>simp only [aC] at h;subst h;simp only [mo,pn,ao];exact⟨[],rfl,by simp [aC]⟩
 | [v],a,h=>simp only [aC] at h;obtain⟨u,r,rfl,h1,rfl⟩:=h;exact h1
 | v::e::vs,a,h=>
  have b:=h.length
  match a,b with
  | u::d::a,_=>simp only [mo,pn,ao];exact⟨_,rfl,h⟩
theorem Ts{v:AV}{x:T}{u:Value}(hs:HS c w h ρ O)(hv:ao w (AA c w O) ρ v u)(a:Ew h v=some x)
  (e:∀b,AA c w O b->A' b) (f:∀i af,O i=some af->A' af):aA w A' x u:=by
 have d:dP h v=some x->aA w A' x u:=λj=>m7 hs hv j e (λi af _ g=>f i af g);cases v
 case own i=>
  simp only [Ew] at a;split at a
  .rename_i sz b xs hi;exact d (by simp only [dP,hi];exact a)
  .simp only [U5] at a;subst a;simp only [ao] at hv;simp only [aA];exact kI hs hv
  .simp only [U5] at a;subst a;simp only [ao] at hv;simp only [aA];exact kI hs hv
  .cases a
 all_goals exact d a
theorem K1(hs:HS c w h ρ O)(d:∀b,AA c w O b->A' b):∀{vs:List AV} {xs:List T} {us:List Value},aC w (AA c w O) ρ vs us->wD h vs=some xs->
  (∀i af,O i=some af->A' af)->aT w A' xs us
 | [],xs,us,hv,a,_=>by simp only [wD,U5] at a;subst a;simpa [aC,aT] using hv
 | v::vs,xs,us,hv,a,e=>by simp only [wD] at a;obtain⟨x,h1,a⟩:=U6.1 a;obtain⟨l,j,a⟩:=U6.1 a;simp only [U5] at a;subst a;simp only [aC] at hv;obtain⟨u,r,rfl,f,g⟩:=hv;exact⟨u,r,rfl,Ts hs f h1 d e,K1 hs d g j e⟩
theorem Mg{m:Bool}{v:AV}{u:Value}{q:T×aH}(hs:HS c w h ρ O)(hv:ao w (AA c w O) ρ v u)(a:ke true m h v=some q):q.2= []/\aA w (λb=>b < w.heap.size) q.1 u:=by
 have f:∀b,AA c w O b->b < w.heap.size:=λb hb=>hb.2.1;have d:∀x:T,dP h v=some x->aA w (λb=>b < w.heap.size) x u:=λx k=>m7 hs hv k f (λi af _ g=>hs.lt i af g);cases v
 case ref i off=>
  simp only [ke,cond_true] at a;split at a
  .rename_i cs hi;obtain⟨l,p,a⟩:=U6.1 a;simp only [U5] at a;subst a;obtain⟨b,arr,t,h1,y,z,n,D⟩:=hs.af i _ hi;simp only [ao] at hv;obtain⟨C,e,rfl⟩:=hv;rw [h1] at e;simp only [U5,Xe,Wq] at e;obtain⟨rfl,_⟩:=e;refine⟨rfl, ?_⟩;simp only [aA];have r:aT w (λb=>b < w.heap.size) l (arr.toList.drop off):=by
    cases m with
    | true=>exact K1 hs f (n.drop off) p (λi af g=>hs.lt i af g)
    | false=>exact aT.mono (λb hb=>⟨f b hb,rfl⟩) _ _ (aT.mh p (n.drop off))
   refine⟨b,off,rfl, .inr (hs.lt i b y),aV.lA r (λj v o=> ?_)⟩;rw [XP] at o;simp only [World.cell?,z];simpa using o
  .rename_i l hi;simp only [U5] at a;subst a;exact⟨rfl,d _ (by simp [dP,hi])⟩
  .simp at a
 all_goals
  simp only [ke] at a;obtain⟨x,k,a⟩:=U6.1 a;simp only [cond_true,U5] at a;subst a;exact⟨rfl,d _ k⟩
theorem Mh{n:Bool}{v:AV}{u:Value}{q:T×aH}(hs:HS c w h ρ O)(hv:ao w (AA c w O) ρ v u)(a:ke false n h v=some q):
  iE h q.2/\∀O',Le w ρ O w ρ O'->(∀i,O' i=O i\/O' i=none)->(∀p∈q.2,O' p.1=none)->aA w (AA c w O') q.1 u:=by
 have l:∀x:T,dP h v=some x->q= (x,iy h v)->iE h q.2/\∀O',Le w ρ O w ρ O'->(∀i,O' i=O i\/O' i=none)->(∀p∈q.2,O' p.1=none)->aA w (AA c w O') q.1 u:=by
  intro x d e;subst e;refine⟨u5 v,λO' le m o=>m7 hs hv d (λb hb=>(le.A b hb).1) (λi af hi k=> ?_)⟩;obtain⟨p,r,e⟩:=zA hs d hi k;refine⟨.inr (hs.own i af k),hs.lt i af k,λj f=> ?_⟩;rcases m j with g | g
  .rw [g] at f;have:=hs.inj j i af f k;subst this;have:=o p r;rw [e,g,f] at this;cases this
  .rw [g] at f;cases f
 cases v
 case ref i off=>simp only [ke,cond_false] at a;obtain⟨x,d,a⟩:=U6.1 a;simp only [U5] at a;exact l x d a.symm
 all_goals
  simp only [ke] at a;obtain⟨x,d,a⟩:=U6.1 a;simp only [cond_false,U5] at a;exact l x d a.symm
def jc(c:Ctx)(w:World)(h:Id->Option ab)(ρ:Id->Option Value)(O:Id->Option Nat)(fl:Bool)(us:aH)(Q:(Nat->Prop)->Prop):Prop:=
 (fl=true->us= []/\Q (λb=>b < w.heap.size))/\
 (fl=false->iE h us/\∀O',Le w ρ O w ρ O'->(∀i,O' i=O i\/O' i=none)->(∀p∈us,O' p.1=none)->Q (AA c w O'))
theorem Fm{fl b:Bool}{v:AV}{u:Value}{q:T×aH}(hs:HS c w h ρ O)(hv:ao w (AA c w O) ρ v u)(a:ke fl b h v=some q):jc c w h ρ O fl q.2 (λA=>aA w A q.1 u):=
 ⟨λe=>by subst e;exact Mg hs hv a,λe=>by subst e;exact Mh hs hv a⟩
theorem jc.append{fl:Bool}{us vs:aH}{i j Q:(Nat->Prop)->Prop}(h1:jc c w h ρ O fl us i)(k:jc c w h ρ O fl vs j)(n:∀A,i A->j A->Q A):jc c w h ρ O fl (us++vs) Q:=by
 refine⟨λe=> ?_,λe=> ?_⟩
 .obtain⟨a,b⟩:=h1.1 e;obtain⟨d,f⟩:=k.1 e;exact⟨by rw [a,d];rfl,n _ b f⟩
 .obtain⟨a,b⟩:=h1.2 e;obtain⟨d,f⟩:=k.2 e;exact⟨a.append d,λO' le l m=>n _ (b O' le l (λp g=>m p (Vo _ g))) (f O' le l (λp g=>m p (Vm _ g)))⟩
theorem jc.nil{fl:Bool}{Q:(Nat->Prop)->Prop}(a:∀A,Q A):jc c w h ρ O fl [] Q:=⟨λ_=>⟨rfl,a _⟩,λ_=>⟨(by intro p b;cases b),λ_ _ _ _=>a _⟩⟩
theorem jc.imp{fl:Bool}{us:aH}{a Q:(Nat->Prop)->Prop}(h1:jc c w h ρ O fl us a)(b:∀A,a A->Q A):jc c w h ρ O fl us Q:=
 ⟨λe=>⟨(h1.1 e).1,b _ (h1.1 e).2⟩,λe=>⟨(h1.2 e).1,λO' le d f=>b _ ((h1.2 e).2 O' le d f)⟩⟩
theorem yx{fl f:Bool}(hs:HS c w h ρ O):∀{vs:List AV} {us:List Value} {q:List T×aH},aC w (AA c w O) ρ vs us->mJ fl f h vs=some q->jc c w h ρ O fl q.2 (λA=>aT w A q.1 us)
 | [],us,q,hv,d=>by simp only [aC] at hv;subst hv;simp only [mJ,U5] at d;subst d;exact jc.nil λ_=>rfl
 | v::vs,us,q,hv,d=>by simp only [aC] at hv;obtain⟨u,r,rfl,h1,g⟩:=hv;simp only [mJ] at d;obtain⟨p,i,d⟩:=U6.1 d;obtain⟨j,e,d⟩:=U6.1 d;simp only [U5] at d;subst d;exact(Fm hs h1 i).append (yx hs g e) λA a b=>⟨u,r,rfl,a,b⟩
theorem Fs{fl j:Bool}(hs:HS c w h ρ O){v:AV}{u:Value}{q:AV×aH}(hv:ao w (AA c w O) ρ v u)(d:lS fl j h v=some q):jc c w h ρ O fl q.2 (λA=>ao w A (λ_=>none) q.1 u):=by
 cases v
 case fn f a b=>simp only [ao] at hv;obtain⟨l,y',rfl,h1,g⟩:=hv;simp only [lS] at d;obtain⟨p,e,d⟩:=U6.1 d;obtain⟨m,i,d⟩:=U6.1 d;simp only [U5] at d;subst d;refine(yx hs h1 e).append (yx hs g i) λA a b=> ?_;simp only [ao];exact⟨l,y',rfl,aC.mj a,aC.mj b⟩
 case agg vs=>simp only [ao] at hv;obtain⟨k,rfl,h1,g⟩:=hv;simp only [lS] at d;obtain⟨p,e,d⟩:=U6.1 d;simp only [U5] at d;subst d;refine(yx hs h1 e).imp λA a=> ?_;simp only [ao];exact⟨k,rfl,aC.mj a,g⟩
 all_goals
  simp only [lS] at d;obtain⟨p,e,d⟩:=U6.1 d;simp only [U5] at d;subst d;refine(Fm hs hv e).imp λA a=> ?_;simpa [ao] using a
theorem Fu{fl f:Bool}(hs:HS c w h ρ O):∀{vs:List AV} {us:List Value} {q:List AV×aH},aC w (AA c w O) ρ vs us->lT fl f h vs=some q->jc c w h ρ O fl q.2 (λA=>aC w A (λ_=>none) q.1 us)
 | [],us,q,hv,d=>by simp only [aC] at hv;subst hv;simp only [lT,U5] at d;subst d;exact jc.nil λ_=>by simp [aC]
 | v::vs,us,q,hv,d=>by simp only [aC] at hv;obtain⟨u,r,rfl,h1,g⟩:=hv;simp only [lT] at d;obtain⟨p,i,d⟩:=U6.1 d;obtain⟨j,e,d⟩:=U6.1 d;simp only [U5] at d;subst d;refine(Fs hs h1 i).append (Fu hs g e) λA a b=> ?_;simp only [aC];exact⟨u,r,rfl,a,b⟩
theorem aA.flat{x:T}{v:Value}(a:x.qg =some ())(h:aA w A x v):aA w A' x v:=by cases x <;> simp only [T.qg,reduceCtorEq] at a <;> simpa [aA] using h
theorem fS.flat:∀{a:List bY} {xs:List T} {vs:List Value} {own:List Nat},(a.all λr=>match r with | .f _=>true | _=>false)=true->fS B w A a xs vs own->fS B w A' a xs vs own/\own= []
 | [],_,_,_,_,h=>⟨h,h.2.2⟩
 | r::a,xs,vs,own,b,h=>by simp only [WK,Vd] at b;obtain⟨x,g,v,e,ob,k,rfl,rfl,rfl,h1,j⟩:=h;obtain⟨i,rfl⟩:=fS.flat b.2 j;cases r <;> simp only [VD,false_and] at b;obtain⟨d,k2,rfl⟩:=h1;exact⟨⟨x,g,v,e,[],[],rfl,rfl,rfl,⟨d,k2.flat d,rfl⟩,i⟩,rfl⟩
theorem eu.flat:∀{d:List bY} {xs:List T} {vs:List Value} {own:List Nat},d.all sA=true->eu B w A d xs vs own->eu B w A' d xs vs own/\own= []
 | [],_,_,_,_,h=>⟨h,h.2.2⟩
 | r::d,xs,vs,own,a,h=>by
  simp only [WK,Vd] at a;cases r <;> simp only [sA,VD,false_and] at a
  case f=>obtain⟨x,j,v,b,ob,m,rfl,rfl,rfl,h1,g⟩:=h;obtain⟨e,rfl⟩:=eu.flat a.2 g;obtain⟨i,k2,rfl⟩:=h1;exact⟨⟨x,j,v,b,[],[],rfl,rfl,rfl,⟨i,k2.flat i,rfl⟩,e⟩,rfl⟩
  case agg l=>obtain⟨o,x2,n,b,o1,p,rfl,rfl,rfl,h1,g⟩:=h;obtain⟨e,rfl⟩:=eu.flat a.2 g;obtain⟨k,rfl⟩:=fS.flat a.1 h1;exact⟨⟨o,x2,n,b,[],[],rfl,rfl,rfl,k,e⟩,rfl⟩
theorem jZ.mono{r:bY}{x:T}{v:Value}{ob:List Nat}(e:∀b,A b->A' b)(h:jZ B w A r x v ob):jZ B w A' r x v ob:=by
 have g:∀x v,aA w A x v->aA w A' x v:=λx v=>aA.mono (λb hb=>⟨e b hb,rfl⟩) x v;cases r with
 | f k=>exact⟨h.1,g _ _ h.2.1,h.2.2⟩
 | t k=>exact⟨g _ _ h.1,h.2⟩
 | own sz=>obtain⟨o,p,a,h1,d⟩:=h;exact⟨o,p,a,h1,d.mono (λb hb=>⟨e b hb,rfl⟩) (λb hb=>⟨hb,rfl⟩)⟩
 | rows sz aD rsz=>obtain⟨b,es,i,j,m,a,h1,d⟩:=h;exact⟨b,es,i,j,m,a,cZ.mono (λn=>⟨rfl,rfl,λ_ _=>rfl⟩) (λb hb=>⟨e b hb,rfl⟩) (λ_ _ h=>h) rfl (λ_ _=>rfl) h1,d⟩
 | ref k off=>exact h
 | same k=>exact h
 | no=>exact h
 | mp ag ks vk=>exact h
 | agg l=>exact h.elim
 | new l=>exact h.elim
theorem fS.mono(e:∀b,A b->A' b):∀{d:List bY} {xs:List T} {vs:List Value} {own:List Nat},fS B w A d xs vs own->fS B w A' d xs vs own
 | [],_,_,_,h=>h
 | r::d,xs,vs,own,h=>by obtain⟨x,g,v,f,ob,a,rfl,rfl,rfl,h1,i⟩:=h;exact⟨x,g,v,f,ob,a,rfl,rfl,rfl,h1.mono e,fS.mono e i⟩
theorem eu.mono(d:∀b,A b->A' b):∀{i:List bY} {xs:List T} {vs:List Value} {own:List Nat},eu B w A i xs vs own->eu B w A' i xs vs own
 | [],_,_,_,h=>h
 | r::i,xs,vs,own,h=>by
  cases r with
  | agg l=>obtain⟨j,x2,o,a,o1,f,rfl,rfl,rfl,h1,e⟩:=h;exact⟨j,x2,o,a,o1,f,rfl,rfl,rfl,h1.mono d,eu.mono d e⟩
  | new l=>obtain⟨j,x2,n,arr,ty,a,o1,f,rfl,rfl,rfl,k,h1,e⟩:=h;exact⟨j,x2,n,arr,ty,a,o1,f,rfl,rfl,rfl,k,h1.mono d,eu.mono d e⟩
  | _=>obtain⟨x,m,v,a,ob,g,rfl,rfl,rfl,h1,e⟩:=h;exact⟨x,m,v,a,ob,g,rfl,rfl,rfl,h1.mono d,eu.mono d e⟩
theorem Lj{R:Type}{d:Nat}{E:List bY}{xs:List T}{bg:List Value}{own:List Nat}{K:List AV->aH->Nat->Option R}{res:R}(H:cc=none\/cc=some true)(hs:HS c w h ρ O)(f:xR w w')(z:own.Nodup)(e:∀b∈own,w.heap.size<=b/\b < w'.heap.size)
  (y:eu (λ_=>none) w' (λb=>(c.A0 b\/c.MO b)/\b < w'.heap.size/\b∉own/\∀i,O i≠some b) E xs bg own) (a:eJ [] d cc 0 E xs K=some res):
  ∃g us j,K g us j=some res/\nq d 0 j us/\((∀p∈us,h p.1=none)->∃ρ' O',Le w ρ O w' ρ' O'/\HS c w' (aK h us) ρ' O'/\aC w' (AA c w' O') ρ' g bg):=by
 obtain⟨g,us,j,a,_,t,I⟩:=uH (c:=c) H y a;refine⟨g,us,j,a,t,λr=> ?_⟩;have G:∀b,AA c w O b->((c.A0 b\/c.MO b)/\b < w'.heap.size/\b∉own/\∀i,O i≠some b)/\w'.heap[b]? =w.heap[b]?:=by intro b hb;refine⟨⟨hb.1,WY hb.2.1 f.size,λhm=> ?_,hb.2.2⟩,f.af b hb.2.1⟩;have:=(e b hm).1;have:=hb.2.1;omega
 have D:gW c w' (λb=>(c.A0 b\/c.MO b)/\b < w'.heap.size/\b∉own/\∀i,O i≠some b) h ρ O:=
  ⟨λi b hb=>cZ.mono (λn=>⟨rfl,rfl,λb hb=>f.af b (hs.lt _ b hb)⟩) G (λ_ _ h=>h) rfl (λb hb=>f.af b (hs.lt i b hb)) (hs.af i b hb),hs.cG,hs.eO,hs.fY,hs.gone,hs.inj,λi b hb=>WY (hs.lt i b hb) f.size,hs.own,VU hs.size f.size⟩
 obtain⟨ρ',O',m,C,q,l⟩:=I h ρ O (by intro k i v a;simp at a) D z (λb hb=>⟨(e b hb).2, .inr (VU hs.size (e b hb).1),λi hi=>by have:=hs.lt i b hi;have:=(e b hb).1;omega⟩) r;have u:∀b,((c.A0 b\/c.MO b)/\b < w'.heap.size/\b∉own/\∀i,O i≠some b)↔AA c w' O' b:=by
  intro b;constructor
  .rintro⟨h1,x,o,F⟩;refine⟨h1,x,λi hi=> ?_⟩;rcases(l b).1 ⟨i,hi⟩ with⟨k,a⟩ | a
   .exact F k a
   .exact o a
  .rintro⟨h1,x,o⟩;refine⟨h1,x,λhm=> ?_,λi hi=> ?_⟩
   .obtain⟨i,hi⟩:=(l b).2 (.inr hm);exact o i hi
   .obtain⟨k,a⟩:=(l b).2 (.inl ⟨i,hi⟩);exact o k a
 refine⟨ρ',O',⟨f.os,f.output,f.tape,f.size,m,λk a _=>f.af k a,λi b hi=> ?_⟩,C.Lo u, ?_⟩
 .rcases(l b).1 ⟨i,hi⟩ with a | a
  .exact .inl a
  .exact .inr (e b a).1
 .exact aC.mono (λb hb=>⟨(u b).1 hb,rfl⟩) (λ_ _ h=>h) _ _ q
theorem r6{d:Type}{a b:List d}{n:Nat}(h:a.length=n):(a++b).drop n=b:=by rw [<-h,ZN]
theorem uI{R:Type}{all:List Id}{d:Nat}:∀{outs:List jY} {W:List Id} {j jj:Nat} {xs:List T} {own:List Nat} {K:aH->Option R} {res:R},oJ B w A jj outs xs own->gG all d j W outs xs K=some res->
  ∃us,K us=some res/\(∀p∈us,(∃k,j<=k/\p.1= .s d k)\/p.1∈W)/\
   ∀h ρ O,wP B all ρ->(∀k i,W[k]? =some i->h i=some .dead/\∀v,B (jj+k)=some v->ρ i=some v)->gW c w A h ρ O->own.Nodup->(∀b∈own,b < w.heap.size/\c.MO b/\∀i,O i≠some b)->W.Nodup->
    (∀i∈W,∀k,i≠ .s d k)->(∀p∈us,∀k,p.1= .s d k->h p.1=none)->
    ∃ρ' O',(∀i u,ρ i=some u->ρ' i=some u)/\gW c w A (aK h us) ρ' O'/\∀b,(∃i,O' i=some b)↔((∃i,O i=some b)\/b∈own)
 | [],[],j,jj,xs,own,K,res,o,a=>by obtain⟨rfl,rfl⟩:=o;simp only [gG] at a;exact⟨[],a,(by intro p f;cases f),λh ρ O _ _ hs _ _ _ _ _=>⟨ρ,O,λ_ _ h=>h,hs,λb=>by simp⟩⟩
 | [],_::_,j,jj,xs,own,K,res,o,a=>by simp [gG] at a
 | r::outs,[],j,jj,xs,own,K,res,o,a=>by cases r <;> simp [gG] at a
 | .dead::outs,i::W,j,jj,xs,own,K,res,o,a=>by
  simp only [gG] at a;obtain⟨us,a,y,tk⟩:=uI (jj:=jj+1) o a;refine⟨us,a,λp f=>(y p f).imp id (Va _),λh ρ O J S hs N n F C q=> ?_⟩;exact tk h ρ O J (λk i a=>by
   have:=S (k+1) i (by simpa using a);rw [show jj+ (k+1)=jj+1+k by omega] at this;exact this) hs N n (WA.1 F).2 (λi hi=>C i (Va _ hi)) q
 | .mp ag ks vk::outs,i::W,j,jj,xs,own,K,res,o,a=>by
  obtain⟨es,E,ents,clock,x2,o2,rfl,rfl,hB,V,hes,hok,H⟩:=o;obtain⟨ob,hob⟩:∃ob:Option Nat,ob=some E:=⟨_,rfl⟩;rw [show E::o2=ob.toList++o2 by rw [hob];rfl] at *
  simp only [gG,WS,Vf,Yh] at a;replace a:=aO a (.inl rfl);obtain⟨p,f,a⟩:=a;rw [dB] at f;simp only [U5] at f;subst f;obtain⟨us,a,y,tk⟩:=uI (jj:=jj+1) H a;refine⟨_,a,λp f=> ?_,λh ρ O J S hs N n F C q=> ?_⟩
  .rcases Vk.1 f with rfl | f
   .exact .inr U9
   .exact(y p f).imp id (Va _)
  obtain⟨n1,n2⟩:=WA.1 F;obtain⟨d1,d2⟩:=S 0 i rfl;obtain⟨k1,k2,k3⟩:=W5.1 N;have U:=hs.D6 d1 ob (λb hb=>n b (Vo _ (by simp [hb]))) (.mp ag ks vk es) ⟨E,ents,clock,d2 _ (by simpa using hB),by rw [aF,hob],V,hes,hok⟩;have X:O i=none:=(hs.af i _ d1).2;have z:∀b,(∃k,aE O i ob k=some b)↔((∃k,O k=some b)\/b∈ob.toList):=by
   intro b;constructor
   .rintro⟨k,a⟩;by_cases e:k=i
    .rw [e,aF] at a;right;simp [a]
    .rw [au _ _ e] at a;exact .inl ⟨k,a⟩
   .rintro(⟨k,a⟩ | a)
    .by_cases e:k=i
     .rw [e,X] at a;cases a
     .exact⟨k,by rw [au _ _ e];exact a⟩
    .exact⟨i,by rw [aF];simpa using a⟩
  have Q:∀b∈o2,b < w.heap.size/\c.MO b/\∀k,aE O i ob k≠some b:=by
   intro b hb;obtain⟨L,M,I⟩:=n b (Vm _ hb);refine⟨L,M,λi' Y=> ?_⟩;rcases(z b).1 ⟨i',Y⟩ with⟨k,a⟩ | a
   .exact I k a
   .exact k3 b a b hb rfl
  have G:∀p∈us,∀k,p.1= .s d k->aE h i (some (.mp ag ks vk es)) p.1=none:=by intro p f k e;have D:p.1≠i:=λe'=>C i U9 k (by rw [<-e',e]);rw [au _ _ D];exact q p (Va _ f) k e
  obtain⟨ρ',O',m,Z,rng⟩:=tk (aE h i (some (.mp ag ks vk es))) ρ (aE O i ob) J (λk i' a=>by
    have:=S (k+1) i' (by simpa using a);rw [show jj+ (k+1)=jj+1+k by omega] at this;refine⟨?_,this.2⟩;have D:i'≠i:=λe=>n1 (by rw [<-e];exact U8 a);rw [au _ _ D];exact this.1) U k2 Q n2 (λi hi=>C i (Va _ hi)) G
  refine⟨ρ',O',m,Z,λb=> ?_⟩;rw [rng b,z b,Vr,or_assoc]
 | .sl sz::outs,i::W,j,jj,xs,own,K,res,o,a=>by
  obtain⟨bb,l,x2,ob,v,o2,rfl,rfl,hB,hsl,H⟩:=o;simp only [gG,WS,Vf,Yh] at a;replace a:=aO a (.inl rfl);obtain⟨p,f,a⟩:=a;simp only [T.aU,if_true,U5] at f;subst f;obtain⟨us,a,y,tk⟩:=uI (jj:=jj+1) H a;refine⟨_,a,λp f=> ?_,λh ρ O J S hs N n F C q=> ?_⟩
  .rcases Vk.1 f with rfl | f
   .exact .inr U9
   .exact(y p f).imp id (Va _)
  obtain⟨n1,n2⟩:=WA.1 F;obtain⟨d1,d2⟩:=S 0 i rfl;obtain⟨k1,k2,k3⟩:=W5.1 N;have U:=hs.D6 d1 ob (λb hb=>n b (Vo _ (by simp [hb]))) (.sl false sz bb l) ⟨v,d2 v (by simpa using hB),by simpa using hsl,by simp⟩;have X:O i=none:=(hs.af i _ d1).2;have z:∀b,(∃k,aE O i ob k=some b)↔((∃k,O k=some b)\/b∈ob.toList):=by
   intro b;constructor
   .rintro⟨k,a⟩;by_cases e:k=i
    .rw [e,aF] at a;right;simp [a]
    .rw [au _ _ e] at a;exact .inl ⟨k,a⟩
   .rintro(⟨k,a⟩ | a)
    .by_cases e:k=i
     .rw [e,X] at a;cases a
     .exact⟨k,by rw [au _ _ e];exact a⟩
    .exact⟨i,by rw [aF];simpa using a⟩
  have Q:∀b∈o2,b < w.heap.size/\c.MO b/\∀k,aE O i ob k≠some b:=by
   intro b hb;obtain⟨L,M,I⟩:=n b (Vm _ hb);refine⟨L,M,λi' Y=> ?_⟩;rcases(z b).1 ⟨i',Y⟩ with⟨k,a⟩ | a
   .exact I k a
   .exact k3 b a b hb rfl
  have G:∀p∈us,∀k,p.1= .s d k->aE h i (some (.sl false sz bb l)) p.1=none:=by intro p f k e;have D:p.1≠i:=λe'=>C i U9 k (by rw [<-e',e]);rw [au _ _ D];exact q p (Va _ f) k e
  obtain⟨ρ',O',m,Z,rng⟩:=tk (aE h i (some (.sl false sz bb l))) ρ (aE O i ob) J (λk i' a=>by
    have:=S (k+1) i' (by simpa using a);rw [show jj+ (k+1)=jj+1+k by omega] at this;refine⟨?_,this.2⟩;have D:i'≠i:=λe=>n1 (by rw [<-e];exact U8 a);rw [au _ _ D];exact this.1) U k2 Q n2 (λi hi=>C i (Va _ hi)) G
  refine⟨ρ',O',m,Z,λb=> ?_⟩;rw [rng b,z b,Vr,or_assoc]
 | .box l::outs,i::W,j,jj,xs,own,K,res,o,a=>by
  obtain⟨x1,x2,E,arr,t,o1,o2,rfl,rfl,hB,V,hL,H⟩:=o;simp only [gG] at a;obtain⟨av,us1,j1,a,hj,n1',t1⟩:=yP (c:=c) (ids:=all) (.inl rfl) hL a;rw [r6 hL.length] at a;obtain⟨us2,a,y,tk⟩:=uI (jj:=jj+1) H a;refine⟨_,a,λp f=> ?_,λh ρ O J S hs N n F C q=> ?_⟩
  .rcases Vr.1 f with f | f
   .obtain⟨k,L,M,I⟩:=n1' p f;exact .inl ⟨k,L,I⟩
   .rcases Vk.1 f with rfl | f
    .exact .inr U9
    .rcases y p f with⟨k,L,M⟩ | g
     .exact .inl ⟨k,by omega,M⟩
     .exact .inr (Va _ g)
  obtain⟨n1,n2⟩:=WA.1 F;obtain⟨d1,d2⟩:=S 0 i rfl;obtain⟨q1,q2⟩:=WA.1 N;obtain⟨k1,k2,k3⟩:=W5.1 q2;have not1:∀x,(∀k,x≠ .s d k)->aK h us1 x=h x:=λx hx=>eF λp f e=>by obtain⟨k,_,_,I⟩:=n1' p f;exact hx k (by rw [<-e,I])
  obtain⟨ρ1,O1,m1,U,v1,z⟩:=t1 h ρ O J hs k1 (λb hb=>n b (Va _ (Vo _ hb))) (λp f=>by
   obtain⟨k,_,_,I⟩:=n1' p f;exact q p (Vo _ f) k I)
  have hdi:aK h us1 i=some .dead:=by rw [not1 i (C i U9)];exact d1
  have fresh0:∀k,O1 k≠some E:=by
   intro k a;rcases(z E).1 ⟨k,a⟩ with⟨k',hk'⟩ | hk'
   .exact(n E U9).2.2 k' hk'
   .exact q1 (Vo _ hk')
  have hs2:=U.D6 hdi (some E) (λb hb=>by
   simp only [U5] at hb;subst hb;obtain⟨L,M,_⟩:=n E U9;exact⟨L,M,fresh0⟩) (.box av) ⟨E,arr,t,m1 _ _ (d2 _ (by simpa using hB)),aF _ _ _,V,v1,hL.one⟩
  have X:O1 i=none:=(U.af i _ hdi).2;have rng2:∀b,(∃k,aE O1 i (some E) k=some b)↔((∃k,O k=some b)\/b∈E::o1):=by
   intro b;constructor
   .rintro⟨k,a⟩;by_cases e:k=i
    .rw [e,aF] at a;cases a;exact .inr U9
    .rw [au _ _ e] at a;rcases(z b).1 ⟨k,a⟩ with g | g
     .exact .inl g
     .exact .inr (Va _ g)
   .intro a;have lift:(∃k,O1 k=some b)->∃k,aE O1 i (some E) k=some b:=by
     rintro⟨k,a⟩;by_cases e:k=i
     .rw [e,X] at a;cases a
     .exact⟨k,by rw [au _ _ e];exact a⟩
    rcases a with a | a
    .exact lift ((z b).2 (.inl a))
    .rcases Vk.1 a with rfl | a
     .exact⟨i,aF _ _ _⟩
     .exact lift ((z b).2 (.inr a))
  have Q:∀b∈o2,b < w.heap.size/\c.MO b/\∀k,aE O1 i (some E) k≠some b:=by
   intro b hb;obtain⟨L,M,I⟩:=n b (Va _ (Vm _ hb));refine⟨L,M,λi' Y=> ?_⟩;rcases(rng2 b).1 ⟨i',Y⟩ with⟨k,a⟩ | a
   .exact I k a
   .rcases Vk.1 a with rfl | a
    .exact q1 (Vm _ hb)
    .exact k3 b a b hb rfl
  have G:∀p∈us2,∀k,p.1= .s d k->aE (aK h us1) i (some (.box av)) p.1=none:=by
   intro p f k e;have D:p.1≠i:=λe'=>C i U9 k (by rw [<-e',e]);rw [au _ _ D];rw [eF (λp' hp' e'=> ?_)]
   .exact q p (Vm _ (Va _ f)) k e
   .obtain⟨k',L,M,I⟩:=n1' p' hp';rcases y p f with⟨k'',g4,g5⟩ | g
    .rw [I,g5] at e';simp only [Id.s.injEq] at e';omega
    .exact C p.1 (Va _ g) k e
  obtain⟨ρ',O',m,Z,rng⟩:=tk (aE (aK h us1) i (some (.box av))) ρ1 (aE O1 i (some E)) (λk i v e1 e2=>m1 i v (J k i v e1 e2)) (λk i' a=>by
    have hm:=U8 a;have:=S (k+1) i' (by simpa using a);rw [show jj+ (k+1)=jj+1+k by omega] at this;refine⟨?_,λv hv=>m1 _ _ (this.2 v hv)⟩;have D:i'≠i:=λe=>n1 (by rw [<-e];exact hm);rw [au _ _ D,not1 i' (C i' (Va _ hm))];exact this.1) hs2 k2 Q n2 (λi hi=>C i (Va _ hi)) G
  refine⟨ρ',O',λi u hi=>m i u (m1 i u hi),by rw [mD,dA];exact Z,λb=> ?_⟩;rw [rng b,rng2 b,Vk,Vk,Vr];simp only [or_assoc]
theorem Fp{fZ:List Id}(hs:HS c w h ρ O):∀{fl:List Bool} {vs:List AV} {us:List Value} {q:List AV×aH},aC w (AA c w O) ρ vs us->mK h fZ fl vs=some q->
  iE h q.2/\∀O',Le w ρ O w ρ O'->(∀i,O' i=O i\/O' i=none)->(∀p∈q.2,O' p.1=none)->aC w (AA c w O') ρ q.1 us
 | fl,[],us,q,hv,d=>by simp only [aC] at hv;subst hv;simp only [mK,U5] at d;subst d;exact⟨(by intro p a;cases a),λ_ _ _ _=>by simp [aC]⟩
 | fl,v::vs,us,q,hv,d=>by
  simp only [aC] at hv;obtain⟨u,r,rfl,h1,n⟩:=hv;simp only [mK] at d;obtain⟨p,a,d⟩:=U6.1 d;obtain⟨t,k,d⟩:=U6.1 d;simp only [U5] at d;subst d;obtain⟨l,m⟩:=Fp hs n k;have one:iE h p.2/\∀O',Le w ρ O w ρ O'->(∀i,O' i=O i\/O' i=none)->(∀x∈p.2,O' x.1=none)->ao w (AA c w O') ρ p.1 u:=by
   unfold uy at a;cases e:(fl.headD false || (!v.ids.isEmpty && v.ids.all fZ.contains)) with
   | true=>rw [e] at a;simp only [cond_true,U5] at a;subst a;exact⟨(by intro p a;cases a),λO' le _ _=>ao.mono (λb hb=>le.A b hb) (λ_ _ h=>h) _ _ h1⟩
   | false=>rw [e] at a;simp only [cond_false] at a;obtain⟨o,k2⟩:=(Fs hs h1 a).2 rfl;exact⟨o,λO' le f g=>ao.mono (λb hb=>⟨hb,rfl⟩) (by intro i v h;cases h) _ _ (k2 O' le f g)⟩
  refine⟨one.1.append l,λO' le f g=> ?_⟩;simp only [aC];exact⟨u,r,rfl,one.2 O' le f (λx j=>g x (Vo _ j)),m O' le f (λx j=>g x (Vm _ j))⟩
theorem eu.length:∀{d:List bY} {xs:List T} {vs:List Value} {own:List Nat},eu B w A d xs vs own->xs.length=m6 d
 | [],_,_,_,⟨rfl,_,_⟩=>rfl
 | r::d,xs,vs,own,h=>by
  cases r with
  | agg l=>obtain⟨g,x2,m,b,o1,e,rfl,rfl,rfl,h1,a⟩:=h;simp [m6,bY.size,h1.length,eu.length a]
  | new l=>obtain⟨g,x2,k,arr,ty,b,o1,e,rfl,rfl,rfl,i,h1,a⟩:=h;simp [m6,bY.size,h1.length,eu.length a]
  | _=>obtain⟨x,j,v,b,ob,f,rfl,rfl,rfl,h1,a⟩:=h;simp [m6,bY.size,eu.length a];omega
theorem Na{R:Type}{d:Nat}:∀{m:List bY} {e x2:List T} {j:Nat} {vs:List Value} {own:List Nat} {K:List AV->aH->Nat->Option R},eu B w A m e vs own->
  eJ ids d cc j m (e++x2) K=eJ ids d cc j m e K:=by
 have one:∀{l:List bY} {e x2:List T} {j:Nat} {vs:List Value} {own:List Nat} {K:List AV->aH->Nat->Option R},fS B w A l e vs own->kx ids d cc j l (e++x2) K=kx ids d cc j l e K:=by
  intro l;induction l with
  | nil=>intro e x2 j vs own K h;rfl
  | cons r l q=>intro e x2 j vs own K h;obtain⟨x,o,v,g,ob,i,rfl,rfl,rfl,h1,n⟩:=h;simp only [kx,Vc,WS,Yh];congr 1;funext y;congr 1;funext v u j;exact q n
 intro m;induction m with
 | nil=>intro e x2 j vs own K h;rfl
 | cons r m q=>
  intro e x2 j vs own K h
  have a:(∃x o v g ob i,e=x::o/\vs=v::g/\own=ob++i/\jZ B w A r x v ob/\eu B w A m o g i)->
    (ae cc (e++x2).head? λx=>mM ids d cc j r x λv u j=>eJ ids d cc j m (e++x2).tail λvs us j=>K (v::vs) (u++us) j)=
    ae cc e.head? λx=>mM ids d cc j r x λv u j=>eJ ids d cc j m e.tail λvs us j=>K (v::vs) (u++us) j:=by
   rintro⟨x,o,v,g,ob,i,rfl,rfl,rfl,h1,n⟩;simp only [Vc,WS,Yh];congr 1;funext y;congr 1;funext v u j;exact q n
  cases r with
  | agg l=>obtain⟨D,z,G,g,o1,C,rfl,rfl,rfl,h1,n⟩:=h;simp only [eJ];have p:=h1.length;rw [VI,one h1,one (x2:=z) h1];congr 1;funext v u j;rw [r6 p,r6 p];exact q n
  | f k=>exact a h
  | t k=>exact a h
  | own sz=>exact a h
  | rows sz aD rsz=>exact a h
  | mp ag ks vk=>exact a h
  | new l=>
   obtain⟨D,z,F,arr,ty,g,o1,C,rfl,rfl,rfl,E,h1,n⟩:=h;have p:=h1.length;cases cc with
   | some b=>simp only [eJ]
   | none=>
   simp only [eJ];rw [VI,one h1,one (x2:=z) h1];congr 1;funext v u j;rw [r6 p,r6 p];exact q n
  | ref k off=>exact a h
  | same k=>exact a h
  | no=>exact a h
theorem yN{l:List Id}{h:Id->Option ab}{i:Id}(hi:i∈l):aK h (kr l) i=some .dead:=by
 induction l generalizing h with
 | nil=>cases hi
 | cons j l d=>
  show aK (aE h j (some .dead)) (kr l) i=some .dead;by_cases hm:i∈l
  .exact d hm
  .have:i=j:=by
    rcases Vk.1 hi with h | h
    .exact h
    .exact(hm h).elim
   subst this;rw [eF (λp b e=> ?_),aF];obtain⟨k,a,rfl⟩:=VJ.1 b;exact hm (e▸a)
theorem uG{l:List Id}{h:Id->Option ab}{i:Id}(hi:i∉l):aK h (kr l) i=h i:=by refine eF λp b e=> ?_;obtain⟨k,a,rfl⟩:=VJ.1 b;exact hi (e▸a)
theorem Ry{d:Nat}{l:List Id}(h:Ae d l=true):∀i∈l,∀k,i≠ .s d k:=by intro i hi k e;have:=Vt.1 h i hi;subst e;simp at this
theorem FL{R:Type}{An:cP}{Or:ar}(hO:jJ P An Or){d:Nat}{f:FuncId}{args:List AV}{bg:List Value}{K:AV->aH->Option R}{r:R}(hc:cc=none\/cc=some true)(hs:HS c w s.h ρ O)(hv:aC w (AA c w O) ρ args bg)
  (a:hF P An Or s d cc f args K=some r):
  ∃v us fn L,K v us=some r/\P.funcs[f]? =some fn/\fn.body=some L/\fn.name≠ "runtime.NumGoroutine" /\
   (jr d s.h us=true->Calls P f bg.toArray w λe w'=>∃x,e= .returned x/\∃ρ' O',Le w ρ O w' ρ' O'/\HS c w' (aK s.h us) ρ' O'/\ao w' (AA c w' O') ρ' v x):=by
 unfold hF at a;split at a
 .simp at a
 rename_i fn hfn;split at a
 .rename_i hbref;replace a:=U6.1 a;obtain⟨p,hp,a⟩:=a;obtain⟨pt,a,X⟩:=AO hc a;replace a:=aO a (.inl rfl);obtain⟨xs,hxs,a⟩:=a;replace hxs:Or (.call f) pt []=some xs:=by rcases hc with rfl | rfl <;> exact hxs
  obtain⟨fn',L,S,T,V,t⟩:=hO f pt [] xs hxs;rw [hfn] at S;simp only [U5] at S;subst S;have t:=t.values hbref;have ok:=Fu hs hv hp;rw [show eJ [] d cc 0 (dE P An f 0 fn) xs (λvs u _=>K (mo vs) (p.2++u))= (eJ [] d cc 0 (dE P An f 0 fn) xs (λvs u j=>some (vs,u,j))).bind (λq=>K (mo q.1) (p.2++q.2.1)) from by rw [pZ];rfl] at a;replace a:=U6.1 a;obtain⟨q,hq,a⟩:=a;refine⟨_,_,fn,L,a,hfn,T,V,λU=> ?_⟩;have hfree':∀k,(∃b,(Id.s d k,b)∈q.2.1)->s.h (.s d k)=none:=by rintro k ⟨b,hb⟩;have:=Vt.1 U _ (Vm _ hb);simpa using this
  cases hfl:(dE P An f 0 fn).all sA with
  | true=>
   obtain⟨hp2,N⟩:=ok.1 hfl;refine(t _ w bg (λb hb=>hb) (X _ _ _ _ N)).mono λe w' W=> ?_;obtain⟨rs,own,rfl,I,hnd,z,H⟩:=W;obtain⟨H,rfl⟩:=H.flat (A':=λb=>(c.A0 b\/c.MO b)/\b < w'.heap.size/\b∉([]:List Nat)/\∀i,O i≠some b) hfl;obtain⟨avs,us,j,hq',Y,tk⟩:=Lj hc hs I hnd z H hq;simp only [U5] at hq';subst hq';obtain⟨ρ',O',le,hs',hv'⟩:=tk (λp hp=>by
    obtain⟨k,_,_,e⟩:=Y p hp;rw [e];exact hfree' k ⟨p.2,by rw [<-e];exact hp⟩)
   refine⟨_,rfl,ρ',O',le, ?_,D3 hv'⟩;rw [hp2];exact hs'
  | false=>
   obtain⟨hfz,N⟩:=ok.2 hfl;obtain⟨O1,df,hs1,hO1,hf1,_⟩:=hs.sC hfz;refine(t _ w bg (λb hb=>hb.2.1) (X _ _ _ _ (N O1 df hO1 hf1))).mono λe w' W=> ?_;obtain⟨rs,own,rfl,I,hnd,z,H⟩:=W;have H:=H.mono (A':=λb=>(c.A0 b\/c.MO b)/\b < w'.heap.size/\b∉own/\∀i,O1 i≠some b) (by
    rintro b ⟨h1 | h1,C,h3⟩
    .exact⟨h1.1,C,h3,h1.2.2⟩
    .exact⟨.inr (.inr (VU hs.size h1)),C,h3,λi hi=>by have:=hs1.lt i b hi;omega⟩)
   obtain⟨avs,us,j,hq',Y,tk⟩:=Lj hc hs1 I hnd z H hq;simp only [U5] at hq';subst hq';obtain⟨ρ',O',le,hs',hv'⟩:=tk (λp' hp'=>by
    obtain⟨k,_,_,e⟩:=Y p' hp';have hn:=hfree' k ⟨p'.2,by rw [<-e];exact hp'⟩;rw [eF (λx D ex=> ?_),e]
    .exact hn
    .have C:=hfz x D;rw [ex,e,hn] at C;rcases C with⟨sz,b,l,_,C⟩ | ⟨l,_,C⟩ <;> simp at C)
   exact⟨_,rfl,ρ',O',df.trans le,by rw [mD];exact hs',D3 hv'⟩
 .rename_i fl hbref;cases cc with
  | some b=>simp at a
  | none=>
  dsimp only at a;replace a:=U6.1 a;obtain⟨p,hp,a⟩:=a;replace a:=U6.1 a;obtain⟨us,hus,a⟩:=a;replace a:=U6.1 a;obtain⟨seen,hseen,a⟩:=a;generalize hn0:iG ((b9 p.1).head?.bind (aK s.h p.2))=n0 at a hus;cases J:(Ae d seen && Nat.beq (iG (seen.map λi=>iB seen (aK (aK s.h p.2) us i)).head?) n0) with
  | false=>rw [J] at a;simp at a
  | true=>
  rw [J,cond_true] at a;simp only [Vd] at J;obtain⟨hnot,hd0⟩:=J;replace hd0:=Nat.eq_of_beq_eq_true hd0;have hns:=Ry hnot;obtain⟨pt,a,X⟩:=AO (.inl rfl) a;replace a:=aO a (.inl rfl);obtain⟨xs,hxs,a⟩:=a;obtain⟨fn',L,S,T,V,t⟩:=hO f pt _ xs hxs;rw [hfn] at S;simp only [U5] at S;subst S;obtain⟨hfz,N⟩:=Fp hs hv hp;obtain⟨O1,df,hs1,hO1,hf1,_⟩:=hs.sC hfz;have hv1:=N O1 df hO1 hf1;obtain⟨ρ2,G,le2,o⟩:=DO hs1 hus;have hv2:=aC.mono (λb hb=>le2.A b hb) le2.fb _ _ hv1;obtain⟨g1,_,g3,g4,g5⟩:=vV hseen YJ (by simp) (by simp);let c':Ctx:={A0:=AA c w G,M:=λb=>∃i,Of seen i/\G i=some b,N0:=w.heap.size};have hA3:∀b,AA c w G b->AA c' w (cC seen G) b:=λb hb=>⟨.inl hb,hb.2.1,λi hi=>by
   obtain⟨k,_,a⟩:=vX ⟨i,hi⟩;exact hb.2.2 k a⟩
  have hs3:=o.Kf (c':=c') g1 g4 g5 hA3 (λb hb=> .inl (vX hb)) (Vs _);have hv3:=X _ _ _ _ (aC.rn (m:=seen) hA3 _ _ (λi hi=>g3 i hi) hv2);have t:=t c' w _ _ bg rfl hs3 hv3;rw [hd0] at t;obtain⟨blks,hblks⟩:∃blks,blks=seen.map λi=>iB seen (aK (aK s.h p.2) us i):=⟨_,rfl⟩;obtain⟨C,hh2⟩:∃C,C=aK (aK s.h p.2) us:=⟨_,rfl⟩;rw [<-hblks] at t;rw [<-hh2] at o g4 g5;rw [show(eJ seen d none 0 (dE P An f n0 fn) xs λvs u j=>gG seen d j seen (iA An f n0) (xs.drop (m6 (dE P An f n0 fn))) λq=>K (mo vs) (p.2++us++kr seen++u++q))=
   ((eJ seen d none 0 (dE P An f n0 fn) xs λvs u j=>some (vs,u,j)).bind λq0=>(gG seen d q0.2.2 seen (iA An f n0) (xs.drop (m6 (dE P An f n0 fn))) some).bind λq=>K (mo q0.1) (p.2++us++kr seen++q0.2.1++q)) from by
    rw [pZ];congr 1;funext vs u j;simp only [Vf];rw [yQ];rfl] at a
  replace a:=U6.1 a;obtain⟨⟨avs,u0,j0⟩,hq0,a⟩:=a;replace a:=U6.1 a;obtain⟨qs,hqs,a⟩:=a;dsimp only at hqs a;refine⟨_,_,fn,L,a,hfn,T,V,λU=> ?_⟩;refine t.mono ?_;rintro e w' ⟨rs,x1,x2,o1,o2,rfl,I,rfl,hnd,z,H,ho⟩;refine⟨_,rfl, ?_⟩;rw [r6 H.length] at hqs;rw [Na H] at hq0;obtain⟨n1,n2,n3⟩:=W5.1 hnd;have inMO:∀b,c'.MO b->c.MO b:=by
   rintro b (⟨i,_,hi⟩ | hb)
   .exact o.own i b hi
   .exact .inr (VU o.size hb)
  have fZ:∀b,b < w.heap.size->(∀i,Of seen i->G i≠some b)->w'.heap[b]? =w.heap[b]?:=λb hb hn=>I.af b hb λho=>by obtain⟨k,a,e⟩:=vX ho;exact hn k a e
  have out:∀b∈o1++o2,∀i,¬Of seen i->G i≠some b:=by
   intro b hb i hi e;rcases(z b hb).1 with⟨k,a,hkb⟩ | hN
   .exact hi (o.inj k i b hkb e▸a)
   .have:=o.lt i b e;exact absurd hN (ZA this)
  let A1:Nat->Prop:=λb=>(c'.A0 b\/c'.MO b)/\b < w'.heap.size/\b∉o1++o2
  classical
  let Z:Id->Option Nat:=λi=>if Of seen i then none else G i;have hreal:∀i∈seen,i.real=true:=λi hi=>o.real (g4 i hi);have hofr:∀{i:Id},i.real=true->Of seen i->i∈seen:=by
   rintro i H (hi | ⟨j,n,_,rfl⟩)
   .exact hi
   .cases H
  have hofg:∀{i:Id} {n:Nat},Of seen (.g i n)->i∈seen:=by
   rintro i n (hi | ⟨j,m,hj,e⟩)
   .have:=hreal _ hi;cases this
   .cases e;exact hj
  have F:∀i b,Z i=some b->¬Of seen i/\G i=some b:=by
   intro i b h;simp only [Z] at h;split at h
   .cases h
   .rename_i hi;exact⟨hi,h⟩
  have hA4:∀b,AA c w G b->A1 b/\w'.heap[b]? =w.heap[b]?:=by
   intro b hb;refine⟨⟨.inl hb,WY hb.2.1 I.size,λhm=> ?_⟩,fZ b hb.2.1 λi _=>hb.2.2 i⟩;rcases(z b hm).1 with⟨k,_,hkb⟩ | hN
   .exact hb.2.2 k hkb
   .exact absurd hN (ZA hb.2.1)
  have hsa:gW c w' A1 (aK C (kr seen)) ρ2 Z:=by
   refine⟨λi x D=> ?_,λi hir hi=> ?_,λi n=> ?_,λi n hi=> ?_,o.gone,λi j b hi hj=> ?_,λi b hi=> ?_,λi b hi=> ?_,VU o.size I.size⟩
   .by_cases hm:i∈seen
    .rw [yN hm] at D;cases D;obtain⟨y,hy⟩:=Yt.1 (g4 i hm);exact⟨o.K6 hy,if_pos (.inl hm)⟩
    .rw [uG hm] at D;have hm':¬Of seen i:=λe=>hm (hofr (o.real (by rw [D];simp)) e);have hmg:∀n,¬Of seen (.g i n):=λn e=>hm (hofg e);refine cZ.mono (λn=>⟨rfl,if_neg (hmg n),λb hb=>fZ b (o.lt _ b hb) λk a e=>hmg n (o.inj k _ b e hb▸a)⟩) hA4 (λ_ _ h=>h) (if_neg hm') (λb hb=>fZ b (o.lt i b hb) λk a e=> ?_) (o.af i x D);exact hm' (o.inj k i b e hb▸a)
   .by_cases hm:i∈seen
    .rw [yN hm] at hi;cases hi
    .rw [uG hm] at hi;obtain⟨E,a2⟩:=o.cG i hir hi;exact⟨E,by rw [show Z i=G i from if_neg λe=>hm (hofr hir e)];exact a2⟩
   .rw [uG λhm=>by have:=hreal _ hm;cases this];exact o.eO i n
   .by_cases hm:i∈seen
    .rw [yN hm] at hi;cases hi
    .rw [uG hm] at hi;obtain⟨E,a2⟩:=o.fY i n hi;exact⟨E,by rw [show Z (.g i n)=G (.g i n) from if_neg λe=>hm (hofg e)];exact a2⟩
   .exact o.inj i j b (F i b hi).2 (F j b hj).2
   .exact WY (o.lt i b (F i b hi).2) I.size
   .exact o.own i b (F i b hi).2
  have hbr:wP (oX blks.length (cC seen ρ2)) seen ρ2:=by
   intro k i v a hB;simp only [oX] at hB;split at hB
   .simpa [cC,a] using hB
   .cases hB
  have hnew:∀k,(∃b,(Id.s d k,b)∈u0\/(Id.s d k,b)∈qs)->s.h (.s d k)=none:=by
   rintro k ⟨b,hb⟩;have hm:(Id.s d k,b)∈p.2++us++kr seen++u0++qs:=by
    rcases hb with hb | hb
    .exact Vo _ (Vm _ hb)
    .exact Vm _ hb
   have:=Vt.1 U _ hm;simpa using this
  have hnone:∀k,s.h (.s d k)=none->aK C (kr seen) (.s d k)=none:=by
   intro k a;rw [uG λhm=>hns _ hm k rfl,hh2];refine J0 (λk' e=> ?_) hus ?_
   .simp only [Id.s.injEq] at e;omega
   .rw [eF λx D ex=> ?_]
    .exact a
    .have C:=hfz x D;rw [ex,a] at C;rcases C with⟨sz,b,l,_,C⟩ | ⟨l,_,C⟩ <;> simp at C
  obtain⟨avs',u0',j0',hq0',_,Q,tk0⟩:=uH (c:=c) (ids:=seen) (.inl rfl) H hq0;simp only [U5,Wk] at hq0';obtain⟨rfl,rfl,rfl⟩:=hq0';obtain⟨ρ3,O3,m3,hs4,v3,rng3⟩:=tk0 _ ρ2 Z hbr hsa n1 (λb hb=>⟨(z b (Vo _ hb)).2,inMO b (z b (Vo _ hb)).1,λi hi=>out b (Vo _ hb) i (F i b hi).1 (F i b hi).2⟩)
   (λx D=>by
    obtain⟨k,_,_,e⟩:=Q x D;rw [e];exact hnone k (hnew k ⟨x.2, .inl (by rw [<-e];exact D)⟩))
  obtain⟨qs',hqs',names1,tk1⟩:=uI (c:=c) ho hqs;simp only [U5] at hqs';subst hqs';have notin0:∀x,(∀k,x≠ .s d k)->aK (aK C (kr seen)) u0' x=aK C (kr seen) x:=λx D=>eF λy hy e=>by obtain⟨k,_,_,g⟩:=Q y hy;exact D k (by rw [<-e,g])
  obtain⟨ρ4,O4,m4,hs5,rng4⟩:=tk1 _ ρ3 O3 (λk i v S e2=>m3 i v (hbr k i v S e2)) (λk i a=>by
    have hm:=U8 a;refine⟨by rw [notin0 i (hns i hm),yN hm],λv hv=> ?_⟩;rw [VM] at hv;exact m3 i v (hbr k i v a hv)) hs4 n2 (λb hb=>⟨(z b (Vm _ hb)).2,inMO b (z b (Vm _ hb)).1,λi hi=>by
    rcases(rng3 b).1 ⟨i,hi⟩ with⟨k,a⟩ | a
    .exact out b (Vm _ hb) k (F k b a).1 (F k b a).2
    .exact n3 b a b hb rfl⟩) g1 (λi hi k=>hns i hi k) (λx D k e=>by
    rw [eF (λy hy ey=> ?_),e]
    .exact hnone k (hnew k ⟨x.2, .inr (by rw [<-e];exact D)⟩)
    .obtain⟨k',_,g2,g⟩:=Q y hy;rcases names1 x D with⟨k'',g6,g7⟩ | g6
     .rw [g,g7] at ey;simp only [Id.s.injEq] at ey;omega
     .exact hns _ g6 k e)
  have rng:∀b,(∃i,O4 i=some b)↔(∃i,Z i=some b)\/b∈o1++o2:=by intro b;rw [rng4 b,rng3 b,Vr,or_assoc]
  have hAA:∀b,A1 b↔AA c w' O4 b:=by
   intro b;constructor
   .rintro⟨E,a2,a3⟩;refine⟨?_,a2,λi hi=> ?_⟩
    .rcases E with E | E
     .exact E.1
     .exact .inr (inMO b E)
    .rcases(rng b).1 ⟨i,hi⟩ with⟨k,a⟩ | a
     .obtain⟨k1,k2⟩:=F k b a;rcases E with E | ⟨k',hk',e⟩ | E
      .exact E.2.2 k k2
      .exact k1 (o.inj k' k b e k2▸hk')
      .exact absurd E (ZA (o.lt k b k2))
     .exact a3 a
   .rintro⟨E,a2,a3⟩;refine⟨?_,a2,λhm=> ?_⟩
    .by_cases hb:b < w.heap.size
     .by_cases hex:∃i,G i=some b
      .obtain⟨i,hi⟩:=hex;by_cases hm:Of seen i
       .exact .inr (.inl ⟨i,hm,hi⟩)
       .obtain⟨k,a⟩:=(rng b).2 (.inl ⟨i,by simp only [Z,if_neg hm];exact hi⟩);exact(a3 k a).elim
      .exact .inl ⟨E,hb,λi hi=>hex ⟨i,hi⟩⟩
     .exact .inr (.inr (XJ hb))
    .obtain⟨k,a⟩:=(rng b).2 (.inr hm);exact a3 k a
  have le3:Le w ρ2 G w' ρ4 O4:=by
   refine⟨I.os,I.output,I.tape,I.size,λi v hi=>m4 i v (m3 i v hi),λb hb hn=>fZ b hb λi _=>hn i,λi b hi=> ?_⟩;rcases(rng b).1 ⟨i,hi⟩ with⟨k,a⟩ | a
   .exact .inl ⟨k,(F k b a).2⟩
   .rcases(z b a).1 with⟨k,_,hkb⟩ | hN
    .exact .inl ⟨k,hkb⟩
    .exact .inr hN
  refine⟨ρ4,O4,df.trans (le2.trans le3), ?_,D3 (aC.mono (λb hb=>⟨(hAA b).1 hb,rfl⟩) m4 _ _ v3)⟩;have:=hs5.Lo hAA;rw [hh2] at this;simp only [mD];exact this
end
open Go
section
variable {P:Program} {w w':World} {A A':Nat->Prop} {c:Ctx} {ρ ρ':Id->Option Value} {O O':Id->Option Nat} {s:St} {cc:Option Bool} {h:Id->Option ab}
theorem cZ.KS{i:Id}{b:Bool}{sz aD rsz nx k:Nat}{es:List Row}{e:Row}(hb:cZ w A ρ O i (.rows b sz aD rsz nx es))(l:es[k]? =some e)(q:Option (Bool×List (List T)))(G:∀d,A d->A' d)
  (D:ρ' i=ρ i) (z:∀n,ρ' (.g i n)=ρ (.g i n)) (I:O' i=O i) (H:∀m,m≠e.n->O' (.g i m)=O (.g i m))
  (L:match q with | some p=>∀v,ρ (.g i e.n)=some v->cU w A' rsz p.1 p.2 v (λd=>O' (.g i e.n)=some d) | none=>O' (.g i e.n)=none):
  cZ w A' ρ' O' i (.rows b sz aD rsz nx (es.set k {e with own:=q})):=by
 obtain⟨a,cap,r1,r2,r3,⟨M,N,n3,n4⟩,E⟩:=hb;have r:(es.set k {e with own:=q}).length=es.length:=by simp
 have x:(es.set k {e with own:=q}).map (·.n)=es.map (·.n):=by
  rw [X2];refine XD λm=> ?_;rw [WE];split
  .rename_i h;subst h;have:=(Vh.1 l).1;rw [if_pos (by simpa using this)];simp [l]
  .rfl
 refine⟨a,cap,by rw [r,D];exact r1,by rw [r];exact r2,r3,⟨by rw [x];exact M,λf j=> ?_,λm hm=>by rw [z];exact n3 m hm,λm d J=> ?_⟩, ?_⟩
 .rcases VR j with j | rfl
  .exact N f j
  .exact N e (U8 l)
 .have K:∃f∈es,f.n=m:=by
   by_cases hm:m=e.n
   .exact⟨e,U8 l,hm.symm⟩
   .rw [H m hm] at J;exact n4 m d J
  obtain⟨f,j,o⟩:=K;have:m∈(es.set k {e with own:=q}).map (·.n):=by rw [x];exact VJ.2 ⟨f,j,o⟩
  obtain⟨X,h1,h2⟩:=VJ.1 this;exact⟨X,h1,h2⟩
 .rcases E with E | ⟨af,off,arr,t,q1,q2,q3,q4,Q⟩
  .exact .inl E
  .refine .inr ⟨af,off,arr,t,q1,by rw [I];exact q2,q3,q4, ?_⟩;have C:=Q.get l;refine cw.set (λb hb=>⟨G b hb,rfl⟩) (Vh.1 l).1 (λ_ _ _ _=>rfl) (λm f hm j=> ?_) ?_ Q
   .have o:f.n≠e.n:=λh=>hm (vJ M j l h);exact⟨z _,H _ o,λ_ _=>rfl⟩
   .obtain⟨S,U,V,u,W,F,a7⟩:=C;refine⟨S,U,λm y hm hy=> ?_,u,W,by rw [z];exact F, ?_⟩
    .obtain⟨R,Y,Z⟩:=V m y hm hy;exact⟨R,Y,aA.mono (λb hb=>⟨G b hb,rfl⟩) y R Z⟩
    .cases q with
     | none=>exact L
     | some p=>exact L u F
theorem JG{n:Nat}:∀{es:List Row} {u:Unit},mb n es=some u->∃k e,es[k]? =some e/\e.n=n/\e.own=none/\∀q,dO n q es=es.set k {e with own:=q}
 | [],_,h=>by simp [mb] at h
 | e::es,u,h=>by
  unfold mb at h;by_cases c:e.n=n
  .rw [if_pos c] at h;split at h
   .rename_i g;exact⟨0,e,rfl,c,g,λq=>by simp [dO,c]⟩
   .cases h
  .rw [if_neg c] at h;obtain⟨k,f,h1,a,b,d⟩:=JG h;exact⟨k+1,f,by simpa using h1,a,b,λq=>by simp [dO,c,d q]⟩
theorem HS.iK{i new:Id}{b:Bool}{sz aD rsz nx n:Nat}{es:List Row}{p:Bool×List (List T)}{v:Value}(hs:HS c w h ρ O)(hi:h i=some (.rows b sz aD rsz nx es))(E:bC n es=some p)(hv:ρ (.g i n)=some v)
  (r:h new=none) (hrl:new.real=true):
  ∃O',Le w ρ O w (aE ρ new (some v)) O'/\HS c w (aE (aE h i (some (.rows b sz aD rsz nx (dO n none es)))) new (some (.sl false rsz p.1 p.2))) (aE ρ new (some v)) O':=by
 have z:=hs.real (i:=i) (by rw [hi];simp);have V:i≠new:=λe=>by rw [e,r] at hi;cases hi
 obtain⟨k,e,N,t,U,C⟩:=zr E;obtain⟨X,K,S⟩:=Au (s:=⟨λ_=>(none, .top),h⟩) hs hi E;rw [hv] at K;cases K;let Q:Id->Option Nat:=λx=>if x=new then O (.g i n) else if x= .g i n then none else O x;have L:Q new=O (.g i n):=by simp only [Q,if_true]
 have M:Q (.g i n)=none:=by simp only [Q,if_neg (aR hrl),if_true]
 have l:∀x,x≠new->x≠ .g i n->Q x=O x:=λx h1 f=>by simp only [Q,if_neg h1,if_neg f]
 have j:∀x d,Q x=some d->(x=new/\O (.g i n)=some d)\/(x≠new/\x≠ .g i n/\O x=some d):=by
  intro x d a;simp only [Q] at a;split at a
  .exact .inl ⟨by assumption,a⟩
  .split at a
   .cases a
   .exact .inr ⟨by assumption,by assumption,a⟩
 obtain⟨R,W⟩:=hs.cG new hrl r;have le:Le w ρ O w (aE ρ new (some v)) Q:=⟨rfl,rfl,rfl,Vs _,λx u a=>by
  by_cases e:x=new
  .subst e;rw [R] at a;cases a
  .rw [au _ _ e];exact a,λ_ _ _=>rfl,λx d a=>by
  rcases j x d a with⟨_,h⟩ | ⟨_,_,h⟩
  .exact .inl ⟨_,h⟩
  .exact .inl ⟨_,h⟩⟩
 refine⟨Q,le,hs.oU le (λx y a=> ?_) (λx F a=> ?_) (λx m=>by rw [au _ _ (aR hrl),au _ _ (aR z)];exact hs.eO x m) (λx m a=> ?_) (λx m u H=>by rw [au _ _ (aR hrl)] at H;exact hs.gone x m u H) (λx y d a hy=> ?_) (λx d a=> ?_)⟩
 .by_cases o:x=new
  .subst o;rw [aF] at a;cases a;right;refine⟨v,aF _ _ _,cU.mono (λd q=>le.A d q) (λd q=>⟨?_,rfl⟩) S,by simp⟩;simp only [VD,if_false];rw [L];exact q
  .rw [au _ _ o] at a;by_cases e2:x=i
   .subst e2;rw [aF] at a;cases a;right;rw [C];refine cZ.KS (hs.af x _ hi) N none (λd q=>(le.A d q).1) (au _ _ o) (λm=>au _ _ (aR hrl)) (l x o (aR z).symm) (λm hm=>l _ (aR hrl) ?_) ?_
    .intro h;simp only [Id.g.injEq,true_and] at h;exact hm (h.trans t.symm)
    .simp only;rw [t];exact M
   .rw [au _ _ e2] at a;have G:=hs.real (i:=x) (by rw [a];simp);refine .inl ⟨a,l x o (aR G).symm,λ_ _=>rfl,λm=>⟨au _ _ (aR hrl),l _ (aR hrl) ?_,λ_ _=>rfl⟩⟩;intro h;simp only [Id.g.injEq] at h;exact e2 h.1
 .have h1:x≠new:=λe=>by rw [e,aF] at a;cases a
  rw [au _ _ h1] at a;have f:x≠i:=λe=>by rw [e,aF] at a;cases a
  rw [au _ _ f] at a;rw [au _ _ h1,l x h1 (aR F).symm];exact hs.cG x F a
 .have h1:x≠new:=λe=>by rw [e,aF] at a;cases a
  rw [au _ _ h1] at a;have f:x≠i:=λe=>by rw [e,aF] at a;cases a
  rw [au _ _ f] at a;rw [au _ _ (aR hrl),l _ (aR hrl) (by intro h;simp only [Id.g.injEq] at h;exact f h.1)];exact hs.fY x m a
 .rcases j x d a with⟨h1,f⟩ | ⟨h1,f,D⟩ <;> rcases j y d hy with⟨I,k2⟩ | ⟨I,k2,J⟩
  .rw [h1,I]
  .exact(k2 (hs.inj _ _ d J f)).elim
  .exact(f (hs.inj _ _ d D k2)).elim
  .exact hs.inj x y d D J
 .rcases j x d a with⟨_,h⟩ | ⟨_,_,h⟩
  .exact hs.lt _ d h
  .exact hs.lt _ d h
theorem HS.back{i new:Id}{b bb:Bool}{sz aD rsz nx n:Nat}{es:List Row}{xs:List (List T)}{v:Value}{u:Unit}(hs:HS c w h ρ O)(hi:h i=some (.rows b sz aD rsz nx es))(N:mb n es=some u)(j:h new=some (.sl false rsz bb xs))
  (hv:ρ (.g i n)=some v) (D:ρ new=some v):
  ∃O',Le w ρ O w ρ O'/\HS c w (aE (aE h i (some (.rows b sz aD rsz nx (dO n (some (bb,xs)) es)))) new (some .dead)) ρ O':=by
 have t:=hs.real (i:=i) (by rw [hi];simp);have hrl:=hs.real (i:=new) (by rw [j];simp);have V:i≠new:=λe=>by rw [e,j] at hi;cases hi
 obtain⟨k,e,M,q,U,C⟩:=JG N;obtain⟨S,J,R,_⟩:=hs.af new _ j;rw [D] at J;cases J;let Q:Id->Option Nat:=λx=>if x=new then none else if x= .g i n then O new else O x;have K:Q new=none:=by simp only [Q,if_true]
 have L:Q (.g i n)=O new:=by simp only [Q,if_neg (aR hrl),if_true]
 have o:∀x,x≠new->x≠ .g i n->Q x=O x:=λx h1 f=>by simp only [Q,if_neg h1,if_neg f]
 have l:∀x d,Q x=some d->(x= .g i n/\O new=some d)\/(x≠new/\x≠ .g i n/\O x=some d):=by
  intro x d a;simp only [Q] at a;split at a
  .cases a
  .split at a
   .exact .inl ⟨by assumption,a⟩
   .exact .inr ⟨by assumption,by assumption,a⟩
 have le:Le w ρ O w ρ Q:=⟨rfl,rfl,rfl,Vs _,λ_ _ h=>h,λ_ _ _=>rfl,λx d a=>by
  rcases l x d a with⟨_,h⟩ | ⟨_,_,h⟩
  .exact .inl ⟨_,h⟩
  .exact .inl ⟨_,h⟩⟩
 refine⟨Q,le,hs.oU le (λx y a=> ?_) (λx G a=> ?_) (λx m=>by rw [au _ _ (aR hrl),au _ _ (aR t)];exact hs.eO x m) (λx m a=> ?_) hs.gone (λx y d a hy=> ?_) (λx d a=> ?_)⟩
 .by_cases r:x=new
  .subst r;rw [aF] at a;cases a;exact .inr ⟨⟨v,D,kI hs D⟩,K⟩
  .rw [au _ _ r] at a;by_cases e2:x=i
   .subst e2;rw [aF] at a;cases a;right;rw [C];refine cZ.KS (hs.af x _ hi) M (some (bb,xs)) (λd p=>(le.A d p).1) rfl (λm=>rfl) (o x r (aR t).symm) (λm hm=>o _ (aR hrl) ?_) ?_
    .intro h;simp only [Id.g.injEq,true_and] at h;exact hm (h.trans q.symm)
    .simp only;intro S z;rw [q,hv] at z;cases z;refine cU.mono (λd p=>le.A d p) (λd p=>⟨?_,rfl⟩) R;simp only [VD,if_false] at p;rw [q,L];exact p
   .rw [au _ _ e2] at a;have H:=hs.real (i:=x) (by rw [a];simp);refine .inl ⟨a,o x r (aR H).symm,λ_ _=>rfl,λm=>⟨rfl,o _ (aR hrl) ?_,λ_ _=>rfl⟩⟩;intro h;simp only [Id.g.injEq] at h;exact e2 h.1
 .have h1:x≠new:=λe=>by rw [e,aF] at a;cases a
  rw [au _ _ h1] at a;have f:x≠i:=λe=>by rw [e,aF] at a;cases a
  rw [au _ _ f] at a;rw [o x h1 (aR G).symm];exact hs.cG x G a
 .have h1:x≠new:=λe=>by rw [e,aF] at a;cases a
  rw [au _ _ h1] at a;have f:x≠i:=λe=>by rw [e,aF] at a;cases a
  rw [au _ _ f] at a;rw [o _ (aR hrl) (by intro h;simp only [Id.g.injEq] at h;exact f h.1)];exact hs.fY x m a
 .rcases l x d a with⟨h1,f⟩ | ⟨h1,f,F⟩ <;> rcases l y d hy with⟨E,k2⟩ | ⟨E,k2,I⟩
  .rw [h1,E]
  .exact(E (hs.inj _ _ d I f)).elim
  .exact(h1 (hs.inj _ _ d F k2)).elim
  .exact hs.inj x y d F I
 .rcases l x d a with⟨_,h⟩ | ⟨_,_,h⟩
  .exact hs.lt _ d h
  .exact hs.lt _ d h
theorem Eb:∀{args:List AV} {bg:List Value} {d:List AV} {i:Id} {n:Nat} {e:List AV},aC w A ρ args bg->n7 args=some (d,i,n,e)->
  ∃v,ρ (.g i n)=some v/\∀(ρ':Id->Option Value) (new:Id),(∀x u,ρ x=some u->ρ' x=some u)->(∀b,A b->A' b)->ρ' new=some v->aC w A' ρ' (d++ .own new::e) bg
 | [],_,_,_,_,_,_,h=>by simp [n7] at h
 | a::args,bg,d,i,n,e,hv,h=>by
  simp only [aC] at hv;obtain⟨u,r,rfl,k,m⟩:=hv
  have j:(n7 args).bind (λq=>some (a::q.1,q.2.1,q.2.2.1,q.2.2.2))=some (d,i,n,e)->
    ∃v,ρ (.g i n)=some v/\∀(ρ':Id->Option Value) (new:Id),(∀x u,ρ x=some u->ρ' x=some u)->(∀b,A b->A' b)->ρ' new=some v->aC w A' ρ' (d++ .own new::e) (u::r):=by
   intro h;obtain⟨⟨y,i',t,z⟩,o,h⟩:=U6.1 h;simp only [U5,Wk] at h;obtain⟨rfl,rfl,rfl,rfl⟩:=h;obtain⟨v,p,k2⟩:=Eb m o;refine⟨v,p,λρ' new hm f l=> ?_⟩;simp only [Vc,aC];exact⟨u,r,rfl,ao.mono (λb hb=>⟨f b hb,rfl⟩) hm _ _ k,k2 ρ' new hm f l⟩
  cases a
  case row i' t=>simp only [n7,U5,Wk] at h;obtain⟨rfl,rfl,rfl,rfl⟩:=h;simp only [ao] at k;refine⟨u,k,λρ' new hm f l=> ?_⟩;simp only [Ve,aC];exact⟨u,r,rfl,by simp only [ao];exact l,aC.mono (λb hb=>⟨f b hb,rfl⟩) hm _ _ m⟩
  all_goals exact j h
theorem MG{R:Type}{An:cP}{Or:ar}(U:jJ P An Or){iK:Bool}{d:Nat}{f:FuncId}{args:List AV}{bg:List Value}{K:AV->aH->Option R}{r:R}(hc:cc=none\/cc=some true)(hs:HS c w s.h ρ O)(hv:aC w (AA c w O) ρ args bg)
  (a:jL iK P An Or s d cc f args K=some r):
  ∃v us fn l,K v us=some r/\P.funcs[f]? =some fn/\fn.body=some l/\fn.name≠ "runtime.NumGoroutine" /\
   (jr d s.h us=true->Calls P f bg.toArray w λe w'=>∃x,e= .returned x/\∃ρ' O',Le w ρ O w' ρ' O'/\HS c w' (aK s.h us) ρ' O'/\ao w' (AA c w' O') ρ' v x):=by
 unfold jL at a;split at a
 .exact FL U hc hs hv a
 .rename_i l1 i n l2 o;have o:n7 args=some (l1,i,n,l2):=by
   cases iK with
   | true=>exact o
   | false=>cases o
  split at a
  .rename_i b sz aD rsz nx es hi;replace a:=aO a (.inl rfl);obtain⟨p,hp,a⟩:=a;cases m:s.h (.s (2500000+d) 0) with
   | some x=>rw [m] at a;simp at a
   | none=>
    rw [m] at a;simp only [Zm,cond_true] at a;obtain⟨Q,E,hargs⟩:=Eb (A':=AA c w O) hv o;obtain⟨S,df,Z⟩:=hs.iK (new:= .s (2500000+d) 0) hi hp E m rfl;have z:aC w (AA c w S) (aE ρ (.s (2500000+d) 0) (some Q)) (l1++ .own (.s (2500000+d) 0)::l2) bg:=by obtain⟨v1,z,D⟩:=Eb (A':=AA c w S) hv o;rw [E] at z;cases z;exact D _ _ df.fb (λb hb=>(df.A b hb).1) (aF _ _ _)
    obtain⟨v,us,fn,l,a,W,H,M,I⟩:=FL (s:=⟨s.t,_⟩) U (cc:=none) (.inl rfl) Z z a;unfold uz at a;split at a
    .rename_i b2 sz2 col2 rsz2 nx2 es2 G b3 xs3 T e2;split at a
     .rename_i J;obtain⟨rfl,rfl⟩:=J;replace a:=aO a (.inl rfl);obtain⟨u,hu,a⟩:=a;refine⟨v,_,fn,l,a,W,H,M,λL=> ?_⟩;have X:jr d (aE (aE s.h i (some (.rows b sz aD G nx (dO n none es)))) (.s (2500000+d) 0) (some (.sl false G p.1 p.2))) us=true:=by
       refine Vt.2 λq o=> ?_;have:=Vt.1 L q (Vo _ (Vm _ o));obtain⟨x,y⟩:=q;cases x with
       | s C k=>
        simp only at this⊢;by_cases V:C=d
        .subst V;have Y:s.h (.s C k)=none:=by simpa using this
         have h1:Id.s C k≠ .s (2500000+C) 0:=by intro h;simp only [Id.s.injEq] at h;omega
         have h2:Id.s C k≠i:=λh=>by rw [<-h,Y] at hi;cases hi
         rw [au _ _ h1,au _ _ h2,Y];simp
        .simp [V]
       | c k=>rfl
       | g j k=>exact this
      refine(I X).mono ?_;rintro e w' ⟨x,rfl,ρ',O',F,hs2,hx⟩;have hw:ρ' (.s (2500000+d) 0)=some Q:=F.fb _ _ (aF _ _ _);have hv2:ρ' (.g i n)=some Q:=F.fb _ _ (df.fb _ _ E);rw [mD,dA,eX] at T e2;obtain⟨O3,N,hs3⟩:=hs2.back T hu e2 hv2 hw;refine⟨x,rfl,ρ',O3,df.trans (F.trans N), ?_,ao.mono (λb hb=>N.A b hb) (λ_ _ h=>h) _ _ hx⟩;rw [mD,mD,dA,eX,dA,eX];exact hs3
     .simp at a
    .simp at a
  .simp at a
end
open Go
section
variable {P:Program} {An:cP} {Or:ar} {w w':World} {A A':Nat->Prop} {c:Ctx} {ρ:Id->Option Value} {O:Id->Option Nat} {s:St} {cc:Option Bool} {h:Id->Option ab}
def Good(P:Program)(c:Ctx)(w:World)(s:St)(ρ:Id->Option Value)(O:Id->Option Nat)(o:Oper)(a:Act)(v:AV)(us:aH):Prop:=
 jd P o a w λx w'=>∃ρ' O',Le w ρ O w' ρ' O'/\HS c w' (aK s.h us) ρ' O'/\ao w' (AA c w' O') ρ' v x
theorem Good.pure{o:Oper}{a:Act}{v:AV}{x:Value}(hs:HS c w s.h ρ O)(b:(execOp a.eval o).run P w= .ok (.value x) w)(hv:ao w (AA c w O) ρ v x):Good P c w s ρ O o a v []:=by unfold Good jd;rw [b];exact⟨ρ,O,Le.refl,hs,hv⟩
theorem Good.val{o:Oper}{a:Act}{v:AV}{us:aH}{x:Value}{ρ':Id->Option Value}{O':Id->Option Nat}(b:(execOp a.eval o).run P w= .ok (.value x) w')(le:Le w ρ O w' ρ' O')(hs:HS c w' (aK s.h us) ρ' O')(hv:ao w' (AA c w' O') ρ' v x):Good P c w s ρ O o a v us:=by unfold Good jd;rw [b];exact⟨ρ',O',le,hs,hv⟩
theorem se{a:Act}{g:Option Gs}(d:SS w A ρ s.t a.tmps)(b:kQ a.tmps g):∀(xs:List Operand),aC w A ρ (xs.map (s.get g)) (xs.map a.eval)
 | []=>by simp [aC]
 | x::xs=>by simp only [VN,aC];exact⟨_,_,rfl,SS.get (h:=s.h) d b x,se d b xs⟩
theorem PA{op:BinOp}(h:op≠ .eql/\op≠ .neq){t:TypeId}{x y:Operand}{a b:Value}:(eqGuard op t x y a b).run P w= .ok () w:=by cases op <;> simp_all [eqGuard]
set_option maxHeartbeats 2000000 in
theorem Fh(hO:jJ P An Or){o:Oper}{a:Act}{g:Option Gs}{v:AV}{us:aH}(hs:HS c w s.h ρ O)(Y:SS w (AA c w O) ρ s.t a.tmps)(X:kQ a.tmps g)(j:dI P An Or g o s=some (v,us))(N:jr (o.dst.getD 0) s.h us=true):
  Good P c w s ρ O o a v us:=by
 have H:=X.cond;have ev:∀x,ao w (AA c w O) ρ (s.get g x) (a.eval x):=λx=>SS.get (h:=s.h) Y X x;have tt:∀x y,(s.get g x).t? =some y->aA w (AA c w O) y (a.eval x):=by intro x y e;have:=ev x;rw [AV.mA e] at this;simpa [ao] using this
 have D:∀{v':AV} {V:aH},some (v',V)=some (v,us)->v'=v/\V=us:=by intro v' V e;simpa using e
 unfold dI jK at j;cases E:o.op <;> rw [E] at j <;> dsimp only at j
 case move x=>obtain⟨rfl,rfl⟩:=D j;exact Good.pure hs (by simp [execOp,E]) (ev x)
 case assign x=>obtain⟨rfl,rfl⟩:=D j;exact Good.pure hs (by simp [execOp,E]) (ev x)
 case pick k x y=>
  replace j:=U6.1 j;obtain⟨k',hk',j⟩:=j;have hkv:=tt k k' hk';replace j:=aO j H;obtain⟨kb,hkb,j⟩:=j;have:=T.ji hkb;subst this;simp only [aA] at hkv;replace j:=U6.1 j;obtain⟨tx,htx,j⟩:=j;replace j:=qn j;obtain⟨xb,j,hxb⟩:=j;replace j:=U6.1 j;obtain⟨ty,hty,j⟩:=j;replace j:=qn j;obtain⟨yb,j,hyb⟩:=j;obtain⟨rfl,rfl⟩:=D j;have hg:∀b,zF (g.map (·.c)) b=some b:=by intro b;unfold zF;rcases H with e | e <;> rw [e] <;> rfl
  refine Good.pure (x:= .bool (cond kb xb yb)) hs ?_ (by simp [ao,aA]);simp only [execOp,E,hkv];cases kb with
  | true=>
   have arm:=SS.mP (h:=s.h) Y X k x true hkv;rw [AV.mA htx] at arm;rcases hxb with e | ⟨_,e⟩
   .have:=T.ji e;subst this;simp only [ao,aA] at arm;simp [asBool,arm]
   .rw [hg] at e;cases e
  | false=>
   have arm:=SS.mP (h:=s.h) Y X k y false hkv;rw [AV.mA hty] at arm;rcases hyb with e | ⟨_,e⟩
   .have:=T.ji e;subst this;simp only [ao,aA] at arm;simp [asBool,arm]
   .rw [hg] at e;cases e
 case alloc t=>
  cases G:g.map (·.c) with
  | some b=>simp [G] at j
  | none=>simp only [G] at j;replace j:=U6.1 j;obtain⟨l,S,j⟩:=j;obtain⟨rfl,rfl⟩:=D j;obtain⟨i,z,hi,hz,hof⟩:=ow S;have hzr:aT w (AA c w O) l z.cells.toList:=pa hof;obtain⟨M,Q⟩:=hs.Jy (i:= .s (o.dst.getD 0) 0) (kY N (Vj.2 rfl)) t (aC.mj (ρ:=ρ) hzr) hzr.one;refine Good.val (x:= .pointer (some ⟨w.heap.size,0,none⟩)) (w':=w.alloc (.cells z.cells.toList.toArray t)) ?_ M (by rw [eX];exact Q) (by simp [ao]);simp [execOp,E,Instr.alloc,zeroValue,typeInfo,hi,hz,newVar,Ko]
 case box t x=>
  cases G:g.map (·.c) with
  | some b=>simp [G] at j
  | none=>
   simp only [G] at j;split at j
   .rename_i hcell;obtain⟨rfl,rfl⟩:=D j;obtain⟨M,Q⟩:=yF hs (ev x) hcell;obtain⟨k1,k2⟩:=hs.Jy (i:= .s (o.dst.getD 0) 0) (kY N (Vj.2 rfl)) t M Q;refine Good.val (x:= .pointer (some ⟨w.heap.size,0,none⟩)) (w':=w.alloc (.cells (a.eval x).cells.toList.toArray t)) ?_ k1 (by rw [eX];exact k2) (by simp [ao]);simp [execOp,E,Instr.box,newVar,Ko]
   .simp at j
 case build t ps=>replace j:=U6.1 j;obtain⟨v',K,j⟩:=j;obtain⟨rfl,rfl⟩:=D j;obtain⟨x,h1,I⟩:=Mw hs Y X K;exact Good.pure hs (by simp only [execOp,E,Vy,h1,Vi,VK]) I
 case buildSlice t n ps=>
  replace j:=U6.1 j;obtain⟨e,he,j⟩:=j;obtain⟨hu,Z⟩:=ze he;split at j
  .split at j
   .rename_i x G hps;split at j
    .rename_i hcond;obtain⟨⟨S,hall⟩,hn2,hpos,hz⟩:=hcond;obtain⟨rfl,rfl⟩:=D j;obtain⟨M,Q⟩:=yF hs (ev x) hall;have hsz:(a.eval x).cells.size=P.cellsOf e:=by rw [<-S,<-VG];exact M.length
     have C:=Eg (n:=1) (w:=w) hu Z hz hpos ⟨by omega,hn2⟩ [a.eval x] (by simpa using hsz) (by simp) (ps.map λ(i,x)=>(i,a.eval x)) (by simp [hps]);have hi:s.h (.s (o.dst.getD 0) 0)=none:=kY N U9;obtain⟨k1,k2⟩:=hs.Rs hi (cs:=iw _) (arr:=([a.eval x].flatMap λv=>v.cells.toList).toArray) e (by simpa using M) (by simpa using Q);refine Good.val (x:= .slice (some ⟨w.heap.size,0,none⟩) 1 1) (by simp only [execOp,E,Vy,C,Vi,VK]) k1 (by rw [eX];exact k2) ?_;simp [ao]
    .simp at j
   .simp at j
  split at j
  .rename_i hcond;obtain⟨hn,hn1,hn2,hpos,hz⟩:=hcond;split at j
   .rename_i h0;obtain⟨h00,_⟩:=h0;obtain⟨rfl,rfl⟩:=D j;have hps:ps.toList= []:=Vq.1 (by rw [VG];omega);have C:=Eg (w:=w) hu Z hz hpos ⟨hn1,hn2⟩ [] (by simp) (by simp [h00]) (ps.map λ(i,x)=>(i,a.eval x)) (by simp [hps]);have exec:(execOp a.eval o).run P w= .ok (.value (.slice (some ⟨w.heap.size,0,none⟩) n n)) (w.alloc (.cells (([]:List Value).flatMap λv=>v.cells.toList).toArray e)):=by
     simp only [execOp,E,Vy,C,Vi,VK]
    have lew:Le w ρ O (w.alloc (.cells (([]:List Value).flatMap λv=>v.cells.toList).toArray e)) ρ O:=⟨rfl,rfl,rfl,by simp,λ_ _ h=>h,λb hb _=>VW _ _ _ hb,λi b h=> .inl ⟨i,h⟩⟩;have hs2:=hs.world lew λi af hi=>VW _ _ _ (hs.lt i af hi);refine Good.val exec lew hs2 ?_;simp only [ao,aA];exact .inr ⟨trivial,_,_,_,by rw [h00]⟩
   replace j:=U6.1 j;obtain⟨q,hq,j⟩:=j;obtain⟨hfz,hlen⟩:=Hh hq;obtain⟨O1,df,hs1,hO1,hf1,hkeep⟩:=hs.sC hfz;obtain⟨vs,e1,e2,e3⟩:=Hi hs Y X df hO1 hq hf1;have hvl:vs.length=n:=by have:=congrArg List.length e1;simp only [WB,List.length_zipIdx] at this;rw [<-this,VG,hn]
   have C:=Eg (w:=w) hu Z hz hpos ⟨hn1,hn2⟩ vs e3 hvl (ps.map λ(i,x)=>(i,a.eval x)) (by simp only [ZB];exact e1);have hq1:q.1.length=n:=by have:=e2.length.1;simp only [WB] at this;omega
   have fl:(vs.map λv=>v.cells.toList).flatten=vs.flatMap λv=>v.cells.toList:=rfl;have exec:(execOp a.eval o).run P w= .ok (.value (.slice (some ⟨w.heap.size,0,none⟩) n n)) (w.alloc (.cells (vs.flatMap λv=>v.cells.toList).toArray e)):=by simp only [execOp,E,Vy,C,Vi,VK]
   cases G:g.map (·.c) with
   | some b=>
    simp only [G] at j;obtain⟨rfl,rfl⟩:=D j;have lew:Le w ρ O1 (w.alloc (.cells (vs.flatMap λv=>v.cells.toList).toArray e)) ρ O1:=⟨rfl,rfl,rfl,by simp,λ_ _ h=>h,λb hb _=>VW _ _ _ hb,λi b h=> .inl ⟨i,h⟩⟩;have hs2:=hs1.world lew λi af hi=>VW _ _ _ (hs1.lt i af hi);refine Good.val exec (df.trans lew) hs2 ?_;simp only [ao,aA];right;refine⟨trivial,w.heap.size,0,none,n,by rw [hq1],by omega, ?_, ?_⟩
    .right;refine⟨rfl, ?_⟩;refine⟨.inr (.inr hs.size),by simp,λi hi=>XF _ (hs1.lt i _ hi)⟩
    .refine aY.lA (cF.mono (λb hb=>lew.A b hb) e2) (λp v hp=> ?_);rw [kT (kZ _),VM,<-fl];simpa using hp
   | none=>
    simp only [G] at j;obtain⟨rfl,rfl⟩:=D j;have hi:s.h (.s (o.dst.getD 0) 0)=none:=kY N U9;have hi1:aK s.h q.2 (.s (o.dst.getD 0) 0)=none:=by
     rw [eF (λp hp e=> ?_)]
     .exact hi
     .have I:=hfz p hp;rw [e,hi] at I;rcases I with⟨sz,b,l,_,I⟩ | ⟨l,_,I⟩ <;> simp at I
    obtain⟨k1,k2⟩:=hs1.DB (sz:=P.cellsOf e) hi1 e (vs.flatMap λv=>v.cells.toList).toArray n e2 (λp v hp=>by rw [<-fl];simpa using hp) (by omega) (by
     have:=e2.length.2;simp only [WW];rw [<-fl,this,hq1];exact Vs _)
    rw [hq1] at k1 k2;refine Good.val exec (df.trans k1) ?_ ?_
    .rw [dA];have:aK (aE s.h (.s (o.dst.getD 0) 0) (some (.sl false (P.cellsOf e) false q.1))) q.2=aE (aK s.h q.2) (.s (o.dst.getD 0) 0) (some (.sl false (P.cellsOf e) false q.1)):=by
      refine wL (λp hp e=> ?_);have I:=hfz p hp;rw [e,hi] at I;rcases I with⟨sz,b,l,_,I⟩ | ⟨l,_,I⟩ <;> simp at I
     rw [this];exact k2
    .simp [ao]
  .simp at j
 case load t x=>obtain⟨av,y,e,C,hv⟩:=IX hs (ev x) H j;obtain⟨rfl,rfl⟩:=D e;exact Good.pure (x:=y) hs (by simp only [execOp,E,Vy,C,Vi,VK]) hv
 case store t x y=>
  cases G:g.map (·.c) with
  | some b=>simp [G] at j
  | none=>simp only [G] at j;obtain⟨V,w',ρ',O',e,C,le,U⟩:=TC hs (ev x) (ev y) j;obtain⟨rfl,rfl⟩:=D e;unfold Good jd;simp only [execOp,E,Vy,C,Vi,VK];exact⟨ρ',O',le,U,by simp [ao]⟩
 case nilCheck x=>
  have hv:=ev x;split at j
  .rename_i i k e;obtain⟨rfl,rfl⟩:=D j;rw [e] at hv;have K:=hv;simp only [ao] at K;obtain⟨b,_,e2⟩:=K;exact Good.pure hs (by simp [execOp,E,e2]) hv
  .rename_i i sz k off e;obtain⟨rfl,rfl⟩:=D j;rw [e] at hv;have K:=hv;simp only [ao] at K;obtain⟨b,o',L,cap,_,e2⟩:=K;exact Good.pure hs (by simp [execOp,E,e2]) hv
  .rename_i i sz n k off e;obtain⟨rfl,rfl⟩:=D j;rw [e] at hv;have K:=hv;simp only [ao] at K;obtain⟨b,o',L,cap,_,e2⟩:=K;exact Good.pure hs (by simp [execOp,E,e2]) hv
  .rename_i y e;replace j:=aO j H;obtain⟨cs,hcs,j⟩:=j;obtain⟨rfl,rfl⟩:=D j;have:=T.Ai hcs;subst this;rw [e] at hv;have K:=hv;simp only [ao,aA] at K;obtain⟨b,o',e2,_⟩:=K;exact Good.pure hs (by simp [execOp,E,e2]) hv
  .rename_i f x' y' e;obtain⟨rfl,rfl⟩:=D j;rw [e] at hv;have K:=hv;simp only [ao] at K;obtain⟨_,_,e2,_⟩:=K;exact Good.pure hs (by simp [execOp,E,e2]) hv
  .simp at j
 case binOp op t x y ty=>
  have nilx:∀b,o8 P t y=true->jS P s t (s.get g x)=some b->_:=λb h1 I=>IG (P:=P) hs (ev x) I y h1 a x y;have nily:∀b,o8 P t x=true->jS P s t (s.get g y)=some b->_:=λb h1 I=>IG (P:=P) hs (ev y) I x h1 a x y;have go:∀(z:Value),(eqGuard op t x y (a.eval x) (a.eval y)).run P w= .ok () w->(binOp op t (a.eval x) (a.eval y)).run P w= .ok z w->(execOp a.eval o).run P w= .ok (.value z) w:=by intro z h1 I;simp only [execOp,E,Vy,h1,I,Vi,VK]
  split at j
  .rename_i h1;replace j:=U6.1 j;obtain⟨b,hb,j⟩:=j;obtain⟨rfl,rfl⟩:=D j;obtain⟨M,Q⟩:=(nilx b h1 hb).1;exact Good.pure hs (go _ M Q) (by simp [ao,aA])
  .rename_i h1;replace j:=U6.1 j;obtain⟨b,hb,j⟩:=j;obtain⟨rfl,rfl⟩:=D j;obtain⟨M,Q⟩:=(nilx b h1 hb).2.1;exact Good.pure hs (go _ M Q) (by simp [ao,aA])
  .rename_i h1 _;replace j:=U6.1 j;obtain⟨b,hb,j⟩:=j;obtain⟨rfl,rfl⟩:=D j;obtain⟨M,Q⟩:=(nily b h1 hb).2.2.1;exact Good.pure hs (go _ M Q) (by simp [ao,aA])
  .rename_i h1 _;replace j:=U6.1 j;obtain⟨b,hb,j⟩:=j;obtain⟨rfl,rfl⟩:=D j;obtain⟨M,Q⟩:=(nily b h1 hb).2.2.2;exact Good.pure hs (go _ M Q) (by simp [ao,aA])
  .obtain⟨b,e,⟨M,Q⟩,_⟩:=HK (P:=P) H (ev x) (ev y) j x y;obtain⟨rfl,rfl⟩:=D e;exact Good.pure hs (go _ M Q) (by simp [ao,aA])
  .obtain⟨b,e,_,⟨M,Q⟩⟩:=HK (P:=P) H (ev x) (ev y) j x y;obtain⟨rfl,rfl⟩:=D e;exact Good.pure hs (go _ M Q) (by simp [ao,aA])
  .replace j:=U6.1 j;obtain⟨x',hx',j⟩:=j;replace j:=U6.1 j;obtain⟨y',hy',j⟩:=j;obtain⟨hne,z,vz,e,hv,C⟩:=Mr (P:=P) H (tt x x' hx') (tt y y' hy') j;obtain⟨rfl,rfl⟩:=D e;exact Good.pure hs (go _ (PA hne) C) (by simpa [ao] using hv _ _)
 case unOp op t x=>replace j:=U6.1 j;obtain⟨x',hx',j⟩:=j;obtain⟨z,y,e,hv,C⟩:=UJ (P:=P) H (tt x x' hx') j;obtain⟨rfl,rfl⟩:=D e;exact Good.pure (x:=y) hs (by simp only [execOp,E,Vy,C,Vi,VK]) (by simpa [ao] using hv _ _)
 case convert src dst x=>
  split at j
  .rename_i e hu hu';split at j
   .rename_i he;unfold sJ at he;split at he
    .rename_i k he';simp only [U5] at he;subst he;replace j:=U6.1 j;obtain⟨y,hy,j⟩:=j;replace j:=aO j H;obtain⟨l,S,j⟩:=j;replace S:=U6.1 S;obtain⟨p,hp,S⟩:=S;obtain⟨rfl,rfl⟩:=D j;have C:=MA hs hu hu' he' (ev x) hy hp S;exact Good.pure (x:= .string ⟨l.toArray⟩) hs (by simp only [execOp,E,Vy,C,Vi,VK]) (by simp [ao,aA])
    .simp at he
   .simp at j
  .replace j:=U6.1 j;obtain⟨x',hx',j⟩:=j;obtain⟨z,y,e,C,hv⟩:=MS H (tt x x' hx') j;obtain⟨rfl,rfl⟩:=D e;exact Good.pure (x:=y) hs (by simp only [execOp,E,Vy,C,Vi,VK]) (by simpa [ao] using hv)
 case makeFunc fn fst caps=>
  cases fn with
  | func f=>dsimp only at j;obtain⟨rfl,rfl⟩:=D j;refine Good.pure (x:= .func (.func f) (fst.map a.eval) (caps.map a.eval)) hs (by simp only [execOp,E,Instr.makeFunc,Vy,VK,Vi]) ?_;simp only [ao];refine⟨fst.toList.map a.eval,caps.toList.map a.eval, ?_,se Y X _,se Y X _⟩;rw [show(fst.toList.map a.eval).toArray=fst.map a.eval from Xz (by simp),show(caps.toList.map a.eval).toArray=caps.map a.eval from Xz (by simp)]
  | _=>simp at j
 case makeSlice t l m=>
  cases G:g.map (·.c) with
  | some b=>simp [G] at j
  | none=>simp only [G] at j;replace j:=U6.1 j;obtain⟨n,hn,j⟩:=j;replace j:=U6.1 j;obtain⟨k,hk',j⟩:=j;obtain⟨v',V,e,hg⟩:=QK (vn:=a.eval l) (vm:=a.eval m) hs (by simpa [ao] using tt l n hn) (by simpa [ao] using tt m k hk') j;obtain⟨rfl,rfl⟩:=D e;obtain⟨u,w',ρ',O',C,le,U,hv⟩:=hg N;exact Good.val (x:=u) (by simp only [execOp,E,Vy,C,Vi,VK]) le U hv
 case makeMap t m=>
  cases G:g.map (·.c) with
  | some b=>simp [G] at j
  | none=>
   cases m with
   | some m=>simp [G] at j
   | none=>simp only [G] at j;obtain⟨v',V,e,hg⟩:=QM hs j;obtain⟨rfl,rfl⟩:=D e;obtain⟨u,w',ρ',O',C,le,U,hv⟩:=hg N;exact Good.val (x:=u) (by simp only [execOp,E,YB,Vy,C,Vi,VK]) le U hv
 case lookup t x k ok=>obtain⟨av,y,e,C,hv⟩:=QE hs (ev x) (ev k) H j;obtain⟨rfl,rfl⟩:=D e;exact Good.pure (x:=y) hs (by simp only [execOp,E,Vy,C,Vi,VK]) hv
 case mapUpdate t x k v'=>
  cases G:g.map (·.c) with
  | some b=>simp [G] at j
  | none=>simp only [G] at j;obtain⟨V,w',e,C,le,U⟩:=R0 hs (ev x) (ev k) (ev v') j;obtain⟨rfl,rfl⟩:=D e;unfold Good jd;simp only [execOp,E,Vy,C,Vi,VK];exact⟨ρ,O,le,U,by simp [ao]⟩
 case slice t x lo hi mx=>obtain⟨blo,j,h1⟩:=BR Y X H j;obtain⟨bhi,j,I⟩:=BR Y X H j;obtain⟨bmx,j,h3⟩:=BR Y X H j;obtain⟨av,y,e,C,hv⟩:=Tq (P:=P) hs (ev x) H h1 I h3 j;obtain⟨rfl,rfl⟩:=D e;exact Good.pure (x:=y) hs (by simp only [execOp,E,Vy,C,Vi,VK]) hv
 case fieldAddr t x f=>obtain⟨av,y,e,C,hv⟩:=PQ (P:=P) (ev x) H j;obtain⟨rfl,rfl⟩:=D e;exact Good.pure (x:=y) hs (by simp only [execOp,E,Vy,C,Vi,VK]) hv
 case field t x f=>obtain⟨av,y,e,C,hv⟩:=PN (P:=P) (ev x) j;obtain⟨rfl,rfl⟩:=D e;exact Good.pure (x:=y) hs (by simp only [execOp,E,Vy,C,Vi,VK]) hv
 case indexAddr t x i=>unfold oY at j;replace j:=U6.1 j;obtain⟨i',hi',j⟩:=j;replace j:=aO j H;obtain⟨n,hn,j⟩:=j;obtain⟨k,rfl⟩:=BI hn;have hiv:=tt i _ hi';simp only [aA] at hiv;obtain⟨av,y,e,C,hv⟩:=Qe (P:=P) (ki:=k) hs (ev x) H j;obtain⟨rfl,rfl⟩:=D e;exact Good.pure (x:=y) hs (by simp only [execOp,E,hiv,Vy,C,Vi,VK]) hv
 case index t x i=>
  unfold oY at j;replace j:=U6.1 j;obtain⟨i',hi',j⟩:=j;replace j:=aO j H;obtain⟨n,hn,j⟩:=j;obtain⟨k,rfl⟩:=BI hn;have hiv:=tt i _ hi';simp only [aA] at hiv;have hv:=ev x;split at j
  .rename_i hu;replace j:=U6.1 j;obtain⟨y,hy,j⟩:=j;replace j:=aO j H;obtain⟨b,hb,j⟩:=j;have:=T.kO hb;subst this;have hxv:=tt x _ hy;simp only [aA] at hxv;obtain⟨h0,h1,j⟩:=oW H j;replace j:=aO j H;obtain⟨u,hu',j⟩:=j;obtain⟨rfl,rfl⟩:=D j;have hb:b[n.toNat]? =some u:=by
    have S:n.toNat < b.data.toList.length:=(Vh.1 hu').1;have hlt:n.toNat < b.size:=by simpa using S
    rw [getElem?_pos b n.toNat hlt];have:=(Vh.1 hu').2;rw [<-this];simp [ByteArray.getElem_eq_getElem_data]
   exact Good.pure (x:= .int .u8 u.toNat) hs (by simp [execOp,E,hiv,hxv,Instr.index,asIntOf,run_underlying hu,h0,hb]) (by simp [ao,aA])
  .rename_i m e hu;split at j
   .rename_i vs ex;cases Z:bV P e
    .simp [Z] at j
    simp only [Z,cond_true] at j;replace j:=U6.1 j;obtain⟨l,S,j⟩:=j;obtain⟨h0,h1,j⟩:=oW H j;rw [ex] at hv;simp only [ao] at hv;obtain⟨ws,e2,M,Q⟩:=hv;obtain⟨av,y,e,C,hv⟩:=Qx (P:=P) (arr:=ws.toArray) (off:=n.toNat * P.cellsOf e) (ρ:=ρ) Z H ((aT.mh S M).drop _) j;obtain⟨rfl,rfl⟩:=D e;exact Good.pure (x:=y) hs (by simp [execOp,E,hiv,e2,Instr.index,asIntOf,run_underlying hu,h0,h1,jz Z,C]) hv
   .simp at j
  .simp at j
 case extract x k=>
  have hv:=ev x;split at j
  .rename_i vs e;replace j:=U6.1 j;obtain⟨y,hy,j⟩:=j;obtain⟨rfl,rfl⟩:=D j;rw [e] at hv;simp only [ao] at hv;obtain⟨ws,e2,h1⟩:=hv;obtain⟨u,I,h3⟩:=h1.get hy;exact Good.pure hs (by simp [execOp,E,e2,Instr.extract,I]) h3
  .simp at j
 case call R=>
  have run0:∀f,R.callee=f->(execOp a.eval o).run P w= ((resolve a.eval R o.type).run P w).andThen λd w=>(invoke d.target d.args).run P w:=by intro f _;simp only [execOp,E,Vy]
  split at j
  .rename_i J;split at j
   .rename_i x t ts hx W;obtain⟨av,y,e,C,hv⟩:=Qq (P:=P) (ts:=R.argTypes) (ty:=o.type) hs (ev x) H j (by rw [<-Wl,W];rfl);obtain⟨rfl,rfl⟩:=D e;have F:R.args.map a.eval= #[a.eval x]:=by apply Xz;simp [hx]
    exact Good.pure (x:=y) hs (by simp only [execOp,E,resolve,J,F,Vy,VK,Vi,invoke,builtin,C]) hv
   .simp at j
  .rename_i J;split at j
   .rename_i x y t u hgc hx W;obtain⟨v',V,e,hg⟩:=L9 (P:=P) (tr:=o.type) hs (ev x) (ev y) j;obtain⟨rfl,rfl⟩:=D e;have F:R.args.map a.eval= #[a.eval x,a.eval y]:=by apply Xz;simp [hx]
    have htys':R.argTypes= #[t,u]:=by apply Xz;simp [W]
    obtain⟨z,w',ρ',O',C,le,U,hv⟩:=hg N;exact Good.val (x:=z) (by simp only [execOp,E,resolve,J,F,htys',Vy,VK,Vi,invoke,builtin,C]) le U hv
   .simp at j
  .rename_i J;split at j
   .rename_i k hik;replace j:=U6.1 j;obtain⟨l,S,j⟩:=j;split at j
    .rename_i x r;replace j:=aO j H;obtain⟨n,hn,j⟩:=j;have:=T.gH hn;subst this;obtain⟨v0,vs,e0,h1,I⟩:=aT.mh S (se Y X R.args.toList);simp only [aA] at h1;subst h1;obtain⟨m,e,C⟩:=Dn (P:=P) (w:=w) H true I j;obtain⟨rfl,rfl⟩:=D e;have F:(R.args.map a.eval).toList= .int k n::vs:=by simp [e0]
     exact Good.pure (x:= .int k m) hs (by simp only [execOp,E,resolve,J,Vy,VK,Vi,invoke,builtin,Builtin.max_,F];simp only [cond_true] at C;simp only [C,Vi]) (by simp [ao,aA])
    .simp at j
   .simp at j
  .rename_i J;split at j
   .rename_i k hik;replace j:=U6.1 j;obtain⟨l,S,j⟩:=j;split at j
    .rename_i x r;replace j:=aO j H;obtain⟨n,hn,j⟩:=j;have:=T.gH hn;subst this;obtain⟨v0,vs,e0,h1,I⟩:=aT.mh S (se Y X R.args.toList);simp only [aA] at h1;subst h1;obtain⟨m,e,C⟩:=Dn (P:=P) (w:=w) H false I j;obtain⟨rfl,rfl⟩:=D e;have F:(R.args.map a.eval).toList= .int k n::vs:=by simp [e0]
     exact Good.pure (x:= .int k m) hs (by simp only [execOp,E,resolve,J,Vy,VK,Vi,invoke,builtin,Builtin.min_,F];simp only [cond_false] at C;simp only [C,Vi]) (by simp [ao,aA])
    .simp at j
   .simp at j
  .rename_i J;split at j
   .rename_i x y t ts hgc hx W;obtain⟨V,w',e,C,le,U⟩:=Nf (P:=P) (ty:=(ts.headD 0)) (tr:=o.type) hs (ev x) (ev y) j;obtain⟨rfl,rfl⟩:=D e;have F:R.args.map a.eval= #[a.eval x,a.eval y]:=by apply Xz;simp [hx]
    have run':(Builtin.delete_ R.argTypes o.type #[a.eval x,a.eval y]).run P w= .ok (.tuple #[]) w':=by
     rw [<-C];have h0:R.argTypes[0]? =some t:=by rw [<-Wl,W];rfl
     simp only [Builtin.delete_,h0];rfl
    refine Good.val (x:= .tuple #[]) (by simp only [execOp,E,resolve,J,F,Vy,VK,Vi,invoke,builtin,run']) le U ?_;simp only [ao];exact⟨[],rfl,by simp [aC]⟩
   .simp at j
  .rename_i J;split at j
   .rename_i x t ts hx W;split at j
    .rename_i e hu;split at j
     .rename_i y hex;cases hy:zO y with
      | false=>rw [hy] at j;simp at j
      | true=>
       rw [hy] at j;obtain⟨rfl,rfl⟩:=D j;have hv:=ev x;rw [hex] at hv;simp only [ao] at hv;have hv:=Qi hy hv;have F:R.args.map a.eval= #[a.eval x]:=by apply Xz;simp [hx]
       have hts:R.argTypes[0]? =some t:=by rw [<-Wl,W];rfl
       exact Good.pure (x:= .int .i64 0) hs (by simp only [execOp,E,resolve,J,F,Vy,VK,Vi,invoke,builtin];simp [Builtin.cap_,hts,run_underlying hu,hv,goInt]) (by simp [ao,aA])
     .simp at j
    .simp at j
   .simp at j
  .rename_i fo J;split at j
   .rename_i f x1 y1 efo;have hfo:=ev fo;rw [efo] at hfo;simp only [ao] at hfo;obtain⟨x',y',e2,M,Q⟩:=hfo;obtain⟨v',V,fn,body,e,hfn,hbody,hname,hcall⟩:=MG hO H hs ((M.append (se Y X R.args.toList)).append Q) j;obtain⟨rfl,rfl⟩:=D e;unfold Good jd;have C:(execOp a.eval o).run P w= .ok (.enter f (x'++R.args.toList.map a.eval++y').toArray) w:=by
     have F:x'.toArray++R.args.map a.eval++y'.toArray= (x'++R.args.toList.map a.eval++y').toArray:=by apply Xz;simp
     simp [execOp,E,resolve,J,e2,Deferred.ofValue,invoke,callFunc,run_program,hfn,hbody,hname,F]
    rw [C];exact hcall N
   .simp at j
  .simp at j
 all_goals simp at j
end
end Go.Aev
