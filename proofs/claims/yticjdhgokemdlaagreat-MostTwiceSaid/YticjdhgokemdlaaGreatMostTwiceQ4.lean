import Derived.Test.YticjdhgokemdlaaGreatMostTwiceQ3
set_option linter.all false
namespace Go.Aev
open Go
section
variable (B:Nat->Option Value) (w:World) (A:Nat->Prop)
def jX:bX->T->Value->List Nat->Prop
 | .f _,x,v,ob=>x.qG =some ()/\aB w A x v/\ob= []
 | .t _,x,v,ob=>aB w A x v/\ob= []
 | .own sz,x,v,ob=>∃o p,ob=o.toList/\x.aQ sz=some p/\cT w A sz p.1 p.2 v (λah=>o=some ah)
 | .rows sz aD rsz,x,v,ob=>∃(b:Bool) (es:List Row) (i:Id) (l:Id->Option Value) (a:Id->Option Nat),kV x=some (b,es)/\de w A l a i (.rows b sz aD rsz es.length es)/\l i=some v/\i.real=true/\
   (∀x y d,a x=some d->a y=some d->x=y)/\(∀n u,l (.g i n)=some u->u.oneCell'=true/\u.cells= #[u])/\(∀x d,a x=some d->x=i\/∃n,x= .g i n)/\∀d,d∈ob↔∃x,a x=some d
 | .ref k off,_,v,ob=>(∃b,B k=some (.pointer (some ⟨b,0,none⟩))/\v= .pointer (some ⟨b,off,none⟩))/\ob= []
 | .same k,_,v,ob=>(B k=some v/\v.oneCell'=true/\v.cells= #[v])/\ob= []
 | .no,_,v,ob=>(v.oneCell'=true/\v.cells= #[v])/\ob= []
 | .mp ag ks vk,x,v,ob=>∃es b j m,x=bT es/\v= .map (some b)/\ob= [b]/\w.heap[b]? =some (.map j m)/\
   j.toList.map (λe=>(e.key,e.val))=es.map (λp=>(dr ag p.1,dL p.2))/\(es.all λp=>b9 ks p.1 && ef vk p.2)=true
 | .agg _,_,_,_=>False
 | .new _,_,_,_=>False
def fH:List bX->List T->List Value->List Nat->Prop
 | [],xs,vs,own=>xs= []/\vs= []/\own= []
 | r::e,xs,vs,own=>∃x d v b ob a,xs=x::d/\vs=v::b/\own=ob++a/\jX B w A r x v ob/\fH e d b a
def dP:List bX->List T->List Value->List Nat->Prop
 | [],xs,vs,own=>xs= []/\vs= []/\own= []
 | .agg l::f,xs,vs,own=>∃g x2 j a o1 d,xs=g++x2/\vs= .agg j.toArray::a/\own=o1++d/\fH B w A l g j o1/\dP f x2 a d
 | .new l::f,xs,vs,own=>∃g x2 b arr t a o1 d,xs=g++x2/\vs= .pointer (some ⟨b,0,none⟩)::a/\own= (b::o1)++d/\w.heap[b]? =some (.cells arr t (0,0))/\fH B w A l g arr.toList o1/\dP f x2 a d
 | r::f,xs,vs,own=>∃x i v a ob e,xs=x::i/\vs=v::a/\own=ob++e/\jX B w A r x v ob/\dP f i a e
def oM:Nat->List jV->List T->List Nat->Prop
 | _,[],xs,own=>xs= []/\own= []
 | j, .box l::r,xs,own=>∃g x2 b arr t o1 a,xs=g++x2/\own=b:: (o1++a)/\B j=some (.pointer (some ⟨b,0,none⟩))/\w.heap[b]? =some (.cells arr t (0,0))/\
   fH B w A l g arr.toList o1/\oM (j+1) r x2 a
 | j, .sl sz::r,xs,own=>∃bb l x2 ob v a,xs= .aa sz bb l::x2/\own=ob.toList++a/\B j=some v/\cT w A sz bb l v (λah=>ob=some ah)/\oM (j+1) r x2 a
 | j, .mp ag ks vk::r,xs,own=>∃es b d f x2 a,xs=bT es::x2/\own=b::a/\B j=some (.map (some b))/\w.heap[b]? =some (.map d f)/\
   d.toList.map (λe=>(e.key,e.val))=es.map (λp=>(dr ag p.1,dL p.2))/\(es.all λp=>b9 ks p.1 && ef vk p.2)=true/\oM (j+1) r x2 a
 | j, .dead::r,xs,own=>oM (j+1) r xs own
end
def pD:List Value->Value
 | [v]=>v
 | vs=> .tuple vs.toArray
structure xJ (w w':World):Prop where
 os:w'.os=w.os
 output:w'.output=w.output
 tape:w'.tape=w.tape
 size:w.heap.size<=w'.heap.size
 ah:∀k,k < w.heap.size->w'.heap[k]? =w.heap[k]?
structure Md (w w':World) (Own:Nat->Prop):Prop where
 os:w'.os=w.os
 output:w'.output=w.output
 tape:w'.tape=w.tape
 size:w.heap.size<=w'.heap.size
 ah:∀k,k < w.heap.size->¬Own k->w'.heap[k]? =w.heap[k]?
def o9(m:Nat)(ρ:Id->Option Value)(j:Nat):Option Value:=if j < m then ρ (.c j) else none
def wT(P:Program)(A:cM)(f:FuncId)(fn:Func)(bg:List AV)(a:List ab)(xs:List T):Prop:=
 ∀(c:Ctx) (w:World) (ρ:Id->Option Value) (O:Id->Option Nat) (args:List Value),c.N0=w.heap.size->HS c w (ke a) ρ O->aC w (AA c w O) ρ bg args->
  Calls P f args.toArray w λe w'=>∃g i x2 o1 d,e= .returned (pD g)/\Md w w' (fW O)/\xs=i++x2/\(o1++d).Nodup/\(∀b∈o1++d,c.MO b/\b < w'.heap.size)/\
   dP (o9 a.length ρ) w' (λb=>(c.A0 b\/c.MO b)/\b < w'.heap.size/\b∉o1++d) (dC P A f (iA a.head?) fn) i g o1/\
   oM (o9 a.length ρ) w' (λb=>(c.A0 b\/c.MO b)/\b < w'.heap.size/\b∉o1++d) 0 (iq A f (iA a.head?)) x2 d
def jG(P:Program)(A:cM)(O:au):Prop:= ∀f bg a xs,O (.call f) bg a=some xs->
 ∃fn b,P.funcs[f]? =some fn/\fn.body=some b/\fn.name≠ "runtime.NumGoroutine" /\wT P A f fn bg a xs
def oC(P:Program)(A:cM):Prop:= ∀f bg a xs,A.ext f bg a=some xs->
 ∃fn b,P.funcs[f]? =some fn/\fn.body=some b/\fn.name≠ "runtime.NumGoroutine" /\wT P A f fn bg a xs
theorem oC.no{P:Program}{A:cM}(h:∀f bg a,A.ext f bg a=none):oC P A:=λf bg a xs e=>by rw [h] at e;cases e
theorem wT.values{P:Program}{A:cM}{f:FuncId}{fn:Func}{bg:List AV}{xs:List T}(h:wT P A f fn bg [] xs)(hb:A.iP f=none)(A0:Nat->Prop)(w:World)(args:List Value)(y:∀b,A0 b->b < w.heap.size)
  (hv:aC w A0 (λ_=>none) bg args):
  Calls P f args.toArray w λe w'=>∃g own,e= .returned (pD g)/\xJ w w'/\own.Nodup/\(∀b∈own,w.heap.size<=b/\b < w'.heap.size)/\
   dP (λ_=>none) w' (λb=>(A0 b\/w.heap.size<=b)/\b < w'.heap.size/\b∉own) (dC P A f 0 fn) xs g own:=by
 let c:Ctx:={A0:=A0,M:=λ_=>False,N0:=w.heap.size};have hs:HS c w (ke []) (λ_=>none) (λ_=>none):=⟨λi b hb=>by cases i <;> simp [ke] at hb,λi _ _=>⟨rfl,rfl⟩,λi n=>rfl,λi n _=>⟨rfl,rfl⟩,(by intro i n u D;cases D),(by intro i j b hi;cases hi),(by intro i b hi;cases hi),(by intro i b hi;cases hi),Vq _⟩;have r:∀b,A0 b->AA c w (λ_=>none) b/\w.heap[b]? =w.heap[b]?:=λb hb=>⟨⟨.inl hb,y b hb,λi hi=>by cases hi⟩,rfl⟩;refine(h c w _ _ args rfl hs (aC.mono r (λ_ _ h=>h) _ _ hv)).mono ?_;rintro e w' ⟨g,F,x2,o1,E,z,d,v,l,o,p,t⟩;have m:iq A f (iA ([]:List ab).head?)= []:=by simp [iq,hb]
 rw [m] at t;obtain⟨rfl,rfl⟩:=t;rw [We] at v l;subst v;have q:dC P A f (iA ([]:List ab).head?) fn=dC P A f 0 fn:=rfl;have e0:o9 ([]:List ab).length (λ_=>none)=λ_=>none:=by funext j;simp [o9]
 rw [q,e0] at p;refine⟨g,o1,z,⟨d.os,d.output,d.tape,d.size,λk C=>d.ah k C (by rintro⟨i,hi⟩;cases hi)⟩,l,λb hb=> ?_, ?_⟩
 .obtain⟨h1,a⟩:=o b (by simpa using hb);rcases h1 with h1 | h1
  .exact h1.elim
  .exact⟨h1,a⟩
 .have x:(λb=>(c.A0 b\/c.MO b)/\b < w'.heap.size/\b∉o1++ [])=λb=>(A0 b\/w.heap.size<=b)/\b < w'.heap.size/\b∉o1:=by
   funext b;simp only [We];refine propext ⟨?_, ?_⟩
   .rintro⟨h1 | h1 | h1,a⟩
    .exact⟨.inl h1,a⟩
    .exact h1.elim
    .exact⟨.inr h1,a⟩
   .rintro⟨h1 | h1,a⟩
    .exact⟨.inl h1,a⟩
    .exact⟨.inr (.inr h1),a⟩
  rw [x] at p;exact p
structure gS (c:Ctx) (w:World) (A:Nat->Prop) (h:Id->Option ab) (ρ:Id->Option Value) (O:Id->Option Nat):Prop where
 ah:∀i b,h i=some b->de w A ρ O i b
 cC:∀i,i.real=true->h i=none->ρ i=none/\O i=none
 eH:∀i n,h (.g i n)=none
 fO:∀i n,h i=none->ρ (.g i n)=none/\O (.g i n)=none
 gone:∀i n u,ρ (.g i n)=some u->u.oneCell'=true/\u.cells= #[u]
 inj:∀i j b,O i=some b->O j=some b->i=j
 lt:∀i b,O i=some b->b < w.heap.size
 own:∀i b,O i=some b->c.MO b
 size:c.N0<=w.heap.size
section
variable {P:Program} {B:Nat->Option Value} {ids:List Id} {w w':World} {A A':Nat->Prop} {c:Ctx} {ρ:Id->Option Value} {O:Id->Option Nat} {s:St} {cc:Option Bool} {h:Id->Option ab}
theorem gS.LB(hs:gS c w A h ρ O)(e:∀b,A b↔AA c w O b):HS c w h ρ O:=by have:A=AA c w O:=funext λb=>propext (e b);subst this;exact⟨hs.ah,hs.cC,hs.eH,hs.fO,hs.gone,hs.inj,hs.lt,hs.own,hs.size⟩
theorem gS.real(hs:gS c w A h ρ O){i:Id}(hi:h i≠none):i.real=true:=by
 cases i with
 | g i n=>exact(hi (hs.eH i n)).elim
 | _=>rfl
theorem gS.Bq{i:Id}(hrl:i.real=true)(hs:gS c w A h ρ O)(hi:h i=none)(v:Value)(ob:Option Nat)(f:∀b,ob=some b->b < w.heap.size/\c.MO b/\∀j,O j≠some b)(x:ab)
  (m:de w A (aE ρ i (some v)) (aE O i ob) i x):gS c w A (aE h i (some x)) (aE ρ i (some v)) (aE O i ob):=by
 refine⟨λj b a=> ?_,λj g a=> ?_,λj n=>by rw [ar _ _ (aP hrl)];exact hs.eH j n,λj n a=> ?_,λj n u l=>by rw [ar _ _ (aP hrl)] at l;exact hs.gone j n u l,λj k b a d=> ?_,λj b a=> ?_,λj b a=> ?_,hs.size⟩
 .by_cases e:j=i
  .subst e;rw [aF] at a;cases a;exact m
  .rw [ar _ _ e] at a;refine de.mono (λn=>⟨ar _ _ (aP hrl),ar _ _ (aP hrl),λ_ _=>rfl⟩) (λb hb=>⟨hb,rfl⟩) (λk u d=> ?_) (ar _ _ e) (λ_ _=>rfl) (hs.ah j b a);by_cases e2:k=i
   .subst e2;rw [(hs.cC _ hrl hi).1] at d;cases d
   .rw [ar _ _ e2];exact d
 .by_cases e:j=i
  .subst e;rw [aF] at a;cases a
  .rw [ar _ _ e] at a;rw [ar _ _ e,ar _ _ e];exact hs.cC j g a
 .by_cases e:j=i
  .subst e;rw [aF] at a;cases a
  .rw [ar _ _ e] at a;rw [ar _ _ (aP hrl),ar _ _ (aP hrl)];exact hs.fO j n a
 .by_cases e:j=i <;> by_cases e':k=i
  .rw [e,e']
  .subst e;rw [aF] at a;rw [ar _ _ e'] at d;exact((f b a).2.2 k d).elim
  .subst e';rw [aF] at d;rw [ar _ _ e] at a;exact((f b d).2.2 j a).elim
  .rw [ar _ _ e] at a;rw [ar _ _ e'] at d;exact hs.inj j k b a d
 .by_cases e:j=i
  .subst e;rw [aF] at a;exact(f b a).1
  .rw [ar _ _ e] at a;exact hs.lt j b a
 .by_cases e:j=i
  .subst e;rw [aF] at a;exact(f b a).2.1
  .rw [ar _ _ e] at a;exact hs.own j b a
theorem gS.DU{i:Id}(hs:gS c w A h ρ O)(hi:h i=some .dead)(ob:Option Nat)(f:∀b,ob=some b->b < w.heap.size/\c.MO b/\∀j,O j≠some b)(x:ab)
  (l:de w A ρ (aE O i ob) i x):gS c w A (aE h i (some x)) ρ (aE O i ob):=by
 have hrl:=hs.real (i:=i) (by rw [hi];simp);refine⟨λj b a=> ?_,λj g a=> ?_,λj n=>by rw [ar _ _ (aP hrl)];exact hs.eH j n,λj n a=> ?_,hs.gone,λj k b a d=> ?_,λj b a=> ?_,λj b a=> ?_,hs.size⟩
 .by_cases e:j=i
  .subst e;rw [aF] at a;cases a;exact l
  .rw [ar _ _ e] at a;exact de.mono (λn=>⟨rfl,ar _ _ (aP hrl),λ_ _=>rfl⟩) (λb hb=>⟨hb,rfl⟩) (λk u d=>d) (ar _ _ e) (λ_ _=>rfl) (hs.ah j b a)
 .by_cases e:j=i
  .subst e;rw [aF] at a;cases a
  .rw [ar _ _ e] at a;rw [ar _ _ e];exact hs.cC j g a
 .by_cases e:j=i
  .subst e;rw [aF] at a;cases a
  .rw [ar _ _ e] at a;rw [ar _ _ (aP hrl)];exact hs.fO j n a
 .by_cases e:j=i <;> by_cases e':k=i
  .rw [e,e']
  .subst e;rw [aF] at a;rw [ar _ _ e'] at d;exact((f b a).2.2 k d).elim
  .subst e';rw [aF] at d;rw [ar _ _ e] at a;exact((f b d).2.2 j a).elim
  .rw [ar _ _ e] at a;rw [ar _ _ e'] at d;exact hs.inj j k b a d
 .by_cases e:j=i
  .subst e;rw [aF] at a;exact(f b a).1
  .rw [ar _ _ e] at a;exact hs.lt j b a
 .by_cases e:j=i
  .subst e;rw [aF] at a;exact(f b a).2.1
  .rw [ar _ _ e] at a;exact hs.own j b a
def wS(B:Nat->Option Value)(ids:List Id)(ρ:Id->Option Value):Prop:= ∀k i v,ids[k]? =some i->B k=some v->ρ i=some v
def gx(B:Nat->Option Value)(ids:List Id)(c:Ctx)(w:World)(A:Nat->Prop)(us:aH)(own:List Nat)(Q:(Id->Option Value)->Prop):Prop:=
 ∀h ρ O,wS B ids ρ->gS c w A h ρ O->own.Nodup->(∀b∈own,b < w.heap.size/\c.MO b/\∀i,O i≠some b)->(∀p∈us,h p.1=none)->
  ∃ρ' O',(∀i u,ρ i=some u->ρ' i=some u)/\gS c w A (aL h us) ρ' O'/\Q ρ'/\∀b,(∃i,O' i=some b)↔((∃i,O i=some b)\/b∈own)
def np(d j a:Nat)(us:aH):Prop:= ∀p∈us,∃k,j<=k/\k < a/\p.1= .s d k
theorem gx.nil{Q:(Id->Option Value)->Prop}(d:∀ρ,wS B ids ρ->Q ρ):gx B ids c w A [] [] Q:=by intro h ρ O a hs _ _ _;exact⟨ρ,O,λ_ _ h=>h,hs,d ρ a,λb=>by simp⟩
theorem gx.append{d j D V:Nat}{us vs:aH}{o1 K:List Nat}{t x Q:(Id->Option Value)->Prop}(h1:gx B ids c w A us o1 t)(U:gx B ids c w A vs K x)(X:np d j D us)(Y:np d D V vs)
  (r:∀ρ ρ',(∀i u,ρ i=some u->ρ' i=some u)->t ρ->x ρ'->Q ρ'):gx B ids c w A (us++vs) (o1++K) Q:=by
 intro h ρ O l hs y f a;obtain⟨H,I,J⟩:=W6.1 y;obtain⟨m,L,F,z,q1,r1⟩:=h1 h ρ O l hs H (λb hb=>f b (Vn _ hb)) (λp g=>a p (Vn _ g));obtain⟨n,M,G,C,Z,r2⟩:=U (aL h us) m L (λk i v N e2=>F i v (l k i v N e2)) z I (λb hb=>by
  obtain⟨R,S,T⟩:=f b (Vp _ hb);refine⟨R,S,λi hi=> ?_⟩;rcases(r1 b).1 ⟨i,hi⟩ with⟨k,o⟩ | o
  .exact T k o
  .exact J b o b hb rfl) (λp g=>by
  rw [ei (λq r e=> ?_)]
  .exact a p (Vp _ g)
  .obtain⟨k,_,k2,W⟩:=X q r;obtain⟨k',k1',_,E⟩:=Y p g;rw [W,E] at e;simp only [Id.s.injEq] at e;omega)
 refine⟨n,M,λi u hi=>G i u (F i u hi),by rw [mE];exact C,r m n G q1 Z,λb=> ?_⟩;rw [r2 b,r1 b,Vr,or_assoc]
theorem eM(es:List (List T×T)):iS (bT es)=some es:=by
 unfold bT iS;induction es with
 | nil=>rfl
 | cons p es a=>simp only [V6,BS] at a⊢;rw [a];rfl
theorem gS.Mh{i' i:Id}{p:Id->Option Value}{o:Id->Option Nat}{b:Bool}{sz aD rsz:Nat}{es:List Row}{v:Value}{ob:List Nat}(hrl:i'.real=true)(hs:gS c w A h ρ O)(hi:h i'=none)
  (hb:de w A p o i (.rows b sz aD rsz es.length es)) (hv:p i=some v) (F:i.real=true) (z:∀x y d,o x=some d->o y=some d->x=y) (hg:∀n u,p (.g i n)=some u->u.oneCell'=true/\u.cells= #[u])
  (X:∀x d,o x=some d->x=i\/∃n,x= .g i n) (E:∀d,d∈ob↔∃x,o x=some d) (C:∀b∈ob,b < w.heap.size/\c.MO b/\∀i,O i≠some b):
  ∃ρ' O',(∀x u,ρ x=some u->ρ' x=some u)/\gS c w A (aE h i' (some (.rows b sz aD rsz es.length es))) ρ' O'/\ρ' i'=some v/\∀d,(∃x,O' x=some d)↔((∃x,O x=some d)\/d∈ob):=by
 let V:Id->Option Value:=λx=>if x=i' then some v else match x with
  | .g y n=>if y=i' then p (.g i n) else ρ (.g y n)
  | x=>ρ x
 let Q:Id->Option Nat:=λx=>if x=i' then o i else match x with
  | .g y n=>if y=i' then o (.g i n) else O (.g y n)
  | x=>O x
 have Y:V i'=some v:=by simp only [V,if_true]
 have T:Q i'=o i:=by simp only [Q,if_true]
 have Z:∀x,x.real=true->x≠i'->V x=ρ x:=by
  intro x k j;simp only [V,if_neg j];cases x with
  | g y n=>cases k
  | _=>rfl
 have J:∀x,x.real=true->x≠i'->Q x=O x:=by
  intro x k j;simp only [Q,if_neg j];cases x with
  | g y n=>cases k
  | _=>rfl
 have M:∀y n,y≠i'->V (.g y n)=ρ (.g y n):=by intro y n hy;simp only [V,if_neg (aP hrl),if_neg hy]
 have K:∀y n,y≠i'->Q (.g y n)=O (.g y n):=by intro y n hy;simp only [Q,if_neg (aP hrl),if_neg hy]
 have U:∀n,V (.g i' n)=p (.g i n):=by intro n;simp only [V,if_neg (aP hrl),if_true]
 have L:∀n,Q (.g i' n)=o (.g i n):=by intro n;simp only [Q,if_neg (aP hrl),if_true]
 have H:∀x d,Q x=some d->(O x=some d/\x≠i'/\∀n,x≠ .g i' n)\/(x=i'/\o i=some d)\/∃n,x= .g i' n/\o (.g i n)=some d:=by
  intro x d j;by_cases e:x=i'
  .subst e;rw [T] at j;exact .inr (.inl ⟨rfl,j⟩)
  .cases k:x.real with
   | true=>rw [J x k e] at j;exact .inl ⟨j,e,λn e'=>by rw [e'] at k;cases k⟩
   | false=>
    cases x with
    | g y n=>
     by_cases e':y=i'
     .subst e';rw [L] at j;exact .inr (.inr ⟨n,rfl,j⟩)
     .rw [K y n e'] at j;exact .inl ⟨j,e,λm e2=>by simp only [Id.g.injEq] at e2;exact e' e2.1⟩
    | _=>cases k
 have n0:=hs.cC i' hrl hi;have ng:=λn=>hs.fO i' n hi;have mono:∀x u,ρ x=some u->V x=some u:=by
  intro x u j;cases k:x.real with
  | true=>rw [Z x k (λe=>by rw [e,n0.1] at j;cases j)];exact j
  | false=>
   cases x with
   | g y n=>rw [M y n (λe=>by rw [e,(ng n).1] at j;cases j)];exact j
   | _=>cases k
 have I:∀d,(∃x,Q x=some d)↔((∃x,O x=some d)\/d∈ob):=by
  intro d;constructor
  .rintro⟨x,j⟩;rcases H x d j with⟨h1,_⟩ | ⟨_,h1⟩ | ⟨n,_,h1⟩
   .exact .inl ⟨x,h1⟩
   .exact .inr ((E d).2 ⟨_,h1⟩)
   .exact .inr ((E d).2 ⟨_,h1⟩)
  .rintro(⟨x,j⟩ | r)
   .cases k:x.real with
    | true=>exact⟨x,by rw [J x k (λe=>by rw [e,n0.2] at j;cases j)];exact j⟩
    | false=>
     cases x with
     | g y n=>exact⟨.g y n,by rw [K y n (λe=>by rw [e,(ng n).2] at j;cases j)];exact j⟩
     | _=>cases k
   .obtain⟨x,j⟩:=(E d).1 r;rcases X x d j with rfl | ⟨n,rfl⟩
    .exact⟨i',by rw [T];exact j⟩
    .exact⟨.g i' n,by rw [L];exact j⟩
 have G:∀d,(∃x,o x=some d)->∀y,O y≠some d:=λd r=>(C d ((E d).2 r)).2.2;refine⟨V,Q,mono,⟨λx y j=> ?_,λx k j=> ?_,λx n=>by rw [ar _ _ (aP hrl)];exact hs.eH x n,λx n j=> ?_,λx n u S=> ?_,λx y d j hy=> ?_,λx d j=> ?_,λx d j=> ?_,hs.size⟩,Y,I⟩
 .by_cases e:x=i'
  .subst e;rw [aF] at j;cases j;obtain⟨a,cap,e1,e2,e3,N,W⟩:=hb;rw [hv] at e1;cases e1;refine⟨a,cap,Y,e2,e3,⟨N.1,N.2.1,λn R=>by rw [U];exact N.2.2.1 n R,λn d R=>by rw [L] at R;exact N.2.2.2 n d R⟩, ?_⟩;rcases W with W | ⟨ah,off,arr,t,q1,q2,q3,q4,q5⟩
   .exact .inl W
   .exact .inr ⟨ah,off,arr,t,q1,by rw [T];exact q2,q3,q4,cr.move (λb hb=>⟨hb,rfl⟩) (λ_ _=>rfl) (λf _=>⟨U _,L _,λ_ _=>rfl⟩) q5⟩
  .rw [ar _ _ e] at j;have hrx:=hs.real (i:=x) (by rw [j];simp);exact de.mono (λn=>⟨M x n e,K x n e,λ_ _=>rfl⟩) (λb hb=>⟨hb,rfl⟩) mono (J x hrx e) (λ_ _=>rfl) (hs.ah x y j)
 .have l:x≠i':=λe=>by rw [e,aF] at j;cases j
  rw [ar _ _ l] at j;rw [Z x k l,J x k l];exact hs.cC x k j
 .have l:x≠i':=λe=>by rw [e,aF] at j;cases j
  rw [ar _ _ l] at j;rw [M x n l,K x n l];exact hs.fO x n j
 .by_cases l:x=i'
  .subst l;rw [U] at S;exact hg n u S
  .rw [M x n l] at S;exact hs.gone x n u S
 .rcases H x d j with⟨h1,q,h3⟩ | ⟨h1,q⟩ | ⟨n,h1,q⟩ <;> rcases H y d hy with⟨D,k2,k3⟩ | ⟨D,k2⟩ | ⟨m,D,k2⟩
  .exact hs.inj x y d h1 D
  .exact(G d ⟨_,k2⟩ x h1).elim
  .exact(G d ⟨_,k2⟩ x h1).elim
  .exact(G d ⟨_,q⟩ y D).elim
  .rw [h1,D]
  .have:=z _ _ d q k2;rw [this] at F;cases F
  .exact(G d ⟨_,q⟩ y D).elim
  .have:=z _ _ d k2 q;rw [this] at F;cases F
  .have:=z _ _ d q k2;simp only [Id.g.injEq,true_and] at this;rw [h1,D,this]
 .rcases(I d).1 ⟨x,j⟩ with⟨y,hy⟩ | r
  .exact hs.lt y d hy
  .exact(C d r).1
 .rcases(I d).1 ⟨x,j⟩ with⟨y,hy⟩ | r
  .exact hs.own y d hy
  .exact(C d r).2.1
theorem F4{R:Type}{d j:Nat}{r:bX}{x:T}{v:Value}{ob:List Nat}{K:AV->aH->Nat->Option R}{res:R}(S:cc=none\/cc=some true)(m:jX B w A r x v ob)(a:mP ids d cc j r x K=some res):
  ∃av us Q,K av us Q=some res/\j<=Q/\np d j Q us/\gx B ids c w A us ob (λρ =>an w A ρ av v):=by
 unfold mP at a;cases r with
 | f k=>obtain⟨_,h1,rfl⟩:=m;simp only at a;obtain⟨y,a,h1⟩:=pQ S h1 a;exact⟨_,_,_,a,Vq _,(by intro p D;cases D),gx.nil λρ _=>by simpa [an] using h1⟩
 | t k=>obtain⟨h1,rfl⟩:=m;simp only at a;obtain⟨y,a,h1⟩:=pQ S h1 a;exact⟨_,_,_,a,Vq _,(by intro p D;cases D),gx.nil λρ _=>by simpa [an] using h1⟩
 | own sz=>
  obtain⟨o,p,rfl,D,Y⟩:=m;cases cc with
  | some b=>simp at a
  | none=>
   dsimp only at a;replace a:=aO a (.inl rfl);obtain⟨q,g,a⟩:=a;rw [D] at g;simp only [U7] at g;subst g;refine⟨_,_,_,a,Nat.le_succ _, ?_, ?_⟩
   .intro q g;simp only [Vk] at g;subst g;exact⟨j,Vq _,Xf _,rfl⟩
   .intro h ρ O E hs I C n;have hi:h (.s d j)=none:=n _ (Vk.2 rfl);refine⟨aE ρ (.s d j) (some v),aE O (.s d j) o,λi u z=> ?_, ?_,by simp [an],λb=>⟨λ⟨i,hb⟩=> ?_,λhb=> ?_⟩⟩
    .by_cases e:i= .s d j
     .subst e;rw [(hs.cC _ rfl hi).1] at z;cases z
     .rw [ar _ _ e];exact z
    .rw [eP];refine hs.Bq rfl hi v o (λb hb=>C b (by simp [hb])) _ ⟨v,aF _ _ _, ?_,by simp⟩;simpa using Y
    .by_cases e:i= .s d j
     .subst e;rw [aF] at hb;right;simp [hb]
     .rw [ar _ _ e] at hb;exact .inl ⟨i,hb⟩
    .rcases hb with⟨i,hb⟩ | hb
     .by_cases e:i= .s d j
      .subst e;rw [(hs.cC _ rfl hi).2] at hb;cases hb
      .exact⟨i,by rw [ar _ _ e];exact hb⟩
     .exact⟨.s d j,by rw [aF];simpa using hb⟩
 | ref k off=>
  obtain⟨⟨b,h1,rfl⟩,rfl⟩:=m;dsimp only at a;split at a
  .rename_i i hi;exact⟨_,_,_,a,Vq _,(by intro p D;cases D),gx.nil λρ E=>by
    simp only [an];exact⟨b,E k i _ hi h1,rfl⟩⟩
  .simp at a
 | same k=>
  obtain⟨⟨h1,_⟩,rfl⟩:=m;dsimp only at a;split at a
  .rename_i i hi;exact⟨_,_,_,a,Vq _,(by intro p D;cases D),gx.nil λρ E=>by
    simp only [an];exact E k i _ hi h1⟩
  .simp at a
 | rows sz aD rsz=>
  obtain⟨b,es,i,ρ0,O0,L,hb,hv,X,N,hg,M,V⟩:=m;cases cc with
  | some b=>simp at a
  | none=>
   dsimp only at a;replace a:=aO a (.inl rfl);obtain⟨q,g,a⟩:=a;rw [L] at g;simp only [U7] at g;subst g;refine⟨_,_,_,a,Nat.le_succ _, ?_, ?_⟩
   .intro q g;simp only [Vk] at g;subst g;exact⟨j,Vq _,Xf _,rfl⟩
   .intro h ρ O E hs I C n;have hi:h (.s d j)=none:=n _ (Vk.2 rfl);obtain⟨ρ',O',Z,g2,g3,g4⟩:=hs.Mh (i':= .s d j) rfl hi hb hv X N hg M V C;exact⟨ρ',O',Z,by rw [eP];exact g2,by simp only [an];exact g3,g4⟩
 | no=>obtain⟨_,rfl⟩:=m;dsimp only at a;exact⟨_,_,_,a,Vq _,(by intro p D;cases D),gx.nil λρ _=>by simp [an]⟩
 | mp ag ks vk=>
  obtain⟨es,F,J,G,rfl,rfl,rfl,H,U,W⟩:=m;cases cc with
  | some b=>simp at a
  | none=>
   dsimp only at a;replace a:=aO a (.inl rfl);obtain⟨q,g,a⟩:=a;rw [eM] at g;simp only [U7] at g;subst g;refine⟨_,_,_,a,Nat.le_succ _, ?_, ?_⟩
   .intro q g;simp only [Vk] at g;subst g;exact⟨j,Vq _,Xf _,rfl⟩
   .intro h ρ O E hs I C n;have hi:h (.s d j)=none:=n _ (Vk.2 rfl);refine⟨aE ρ (.s d j) (some (.map (some F))),aE O (.s d j) (some F),λi u z=> ?_, ?_,by simp [an],λb=>⟨λ⟨i,hb⟩=> ?_,λhb=> ?_⟩⟩
    .by_cases e:i= .s d j
     .subst e;rw [(hs.cC _ rfl hi).1] at z;cases z
     .rw [ar _ _ e];exact z
    .rw [eP];exact hs.Bq rfl hi _ (some F) (λb hb=>C b (by simp only [U7] at hb;simp [hb])) _ ⟨F,J,G,aF _ _ _,aF _ _ _,H,U,W⟩
    .by_cases e:i= .s d j
     .subst e;rw [aF] at hb;right;simp only [U7] at hb;simp [hb]
     .rw [ar _ _ e] at hb;exact .inl ⟨i,hb⟩
    .rcases hb with⟨i,hb⟩ | hb
     .by_cases e:i= .s d j
      .subst e;rw [(hs.cC _ rfl hi).2] at hb;cases hb
      .exact⟨i,by rw [ar _ _ e];exact hb⟩
     .exact⟨.s d j,by rw [aF];simp only [Vk] at hb;rw [hb]⟩
 | agg l=>simp at a
 | new l=>simp at a
theorem yC{R:Type}{d:Nat}(i:cc=none\/cc=some true):∀{o:List bX} {j:Nat} {g x2:List T} {vs:List Value} {own:List Nat} {K:List AV->aH->Nat->Option R} {res:R},fH B w A o g vs own->kj ids d cc j o (g++x2) K=some res->
  ∃av us l,K av us l=some res/\j<=l/\np d j l us/\gx B ids c w A us own (λρ =>aC w A ρ av vs)
 | [],j,g,x2,vs,own,K,res,f,a=>by obtain⟨rfl,rfl,rfl⟩:=f;exact⟨_,_,_,a,Vq _,(by intro p e;cases e),gx.nil λρ _=>by simp [aC]⟩
 | r::o,j,g,x2,vs,own,K,res,f,a=>by
  obtain⟨x,M,v,z,ob,F,rfl,rfl,rfl,h1,C⟩:=f;simp only [kj,Vf,WU,Yn] at a;replace a:=aO a i;obtain⟨y,hy,a⟩:=a;simp only [U7] at hy;subst hy;obtain⟨av,us,N,a,D,t,H⟩:=F4 (c:=c) i h1 a;obtain⟨J,L,Q,a,E,u,I⟩:=yC i C a;refine⟨_,_,_,a,VO D E, ?_,H.append I t u λρ ρ' m q1 G=> ?_⟩
  .intro p e;rcases Vr.1 e with e | e
   .obtain⟨k,q,k2,n⟩:=t p e;exact⟨k,q,by omega,n⟩
   .obtain⟨k,q,k2,n⟩:=u p e;exact⟨k,by omega,k2,n⟩
  .simp only [aC];exact⟨v,z,rfl,an.mono (λb hb=>⟨hb,rfl⟩) m _ _ q1,G⟩
theorem jX.one{r:bX}{x:T}{v:Value}{ob:List Nat}(h:jX B w A r x v ob):v.oneCell'=true/\v.cells= #[v]:=by
 cases r with
 | f k=>exact h.2.1.qT
 | t k=>exact h.1.qT
 | own sz=>obtain⟨o,p,_,_,a,cap,rfl,_⟩:=h;exact⟨rfl,rfl⟩
 | rows sz aD rsz=>obtain⟨b,es,i,j,m,_,⟨a,cap,d,_⟩,hv,_⟩:=h;rw [hv] at d;cases d;exact⟨rfl,rfl⟩
 | ref k off=>obtain⟨⟨b,_,rfl⟩,_⟩:=h;exact⟨rfl,rfl⟩
 | same k=>exact h.1.2
 | no=>exact h.1
 | mp ag ks vk=>obtain⟨es,b,g,e,_,rfl,_⟩:=h;exact⟨rfl,rfl⟩
 | agg l=>exact h.elim
 | new l=>exact h.elim
theorem fH.one:∀{a:List bX} {xs:List T} {vs:List Value} {own:List Nat},fH B w A a xs vs own->∀u∈vs,u.oneCell'=true/\u.cells= #[u]
 | [],_,_,_,⟨_,rfl,_⟩,u,hu=>by cases hu
 | r::a,xs,vs,own,h,u,hu=>by
  obtain⟨x,f,v,e,ob,d,rfl,rfl,rfl,h1,b⟩:=h;rcases Vo.1 hu with rfl | hu
  .exact h1.one
  .exact fH.one b u hu
theorem fH.length:∀{a:List bX} {xs:List T} {vs:List Value} {own:List Nat},fH B w A a xs vs own->xs.length=a.length
 | [],_,_,_,⟨rfl,_,_⟩=>rfl
 | r::a,xs,vs,own,h=>by obtain⟨x,f,v,e,ob,d,rfl,rfl,rfl,h1,b⟩:=h;simp [fH.length b]
theorem gx.box{d K j:Nat}{us:aH}{o1:List Nat}{av:List AV}{f:Nat}{arr:Array Value}{t:TypeId}(h1:gx B ids c w A us o1 (λρ =>aC w A ρ av arr.toList))(N:np d K j us)(hb:w.heap[f]? =some (.cells arr t (0,0)))
  (J:∀u∈arr.toList,u.oneCell'=true/\u.cells= #[u]):gx B ids c w A (us++ [(.s d j, .box av)]) (f::o1) (λρ =>an w A ρ (.ref (.s d j) 0) (.pointer (some ⟨f,0,none⟩))):=by
 intro h ρ O D hs E l m;obtain⟨F,G⟩:=WC.1 E;obtain⟨x,y,M,q,q1,r1⟩:=h1 h ρ O D hs G (λb hb=>l b (Vc _ hb)) (λp z=>m p (Vn _ z));have hi:aL h us (.s d j)=none:=by
  rw [ei λp z e=> ?_]
  .exact m _ (Vp _ (Vk.2 rfl))
  .obtain⟨k,_,C,I⟩:=N p z;rw [I] at e;simp only [Id.s.injEq] at e;omega
 have n:∀k,y k≠some f:=by
  intro k a;rcases(r1 f).1 ⟨k,a⟩ with⟨L,o⟩ | o
  .exact(l f Vb).2.2 L o
  .exact F o
 have mono:∀i u,x i=some u->aE x (.s d j) (some (.pointer (some ⟨f,0,none⟩))) i=some u:=by
  intro i u r;by_cases e:i= .s d j
  .subst e;rw [(q.cC _ rfl hi).1] at r;cases r
  .rw [ar _ _ e];exact r
 refine⟨aE x (.s d j) (some (.pointer (some ⟨f,0,none⟩))),aE y (.s d j) (some f),λi u r=>mono i u (M i u r), ?_, ?_,λb=> ?_⟩
 .rw [mE,eP];refine q.Bq rfl hi _ (some f) (λb hb=> ?_) _ ⟨f,arr,t,aF _ _ _,aF _ _ _,hb,aC.mono (λb hb=>⟨hb,rfl⟩) mono _ _ q1,J⟩;simp only [U7] at hb;subst hb;obtain⟨H,C,_⟩:=l f Vb;exact⟨H,C,n⟩
 .simp only [an];exact⟨f,aF _ _ _,by simp⟩
 .constructor
  .rintro⟨k,a⟩;by_cases e:k= .s d j
   .subst e;rw [aF] at a;cases a;exact .inr Vb
   .rw [ar _ _ e] at a;rcases(r1 b).1 ⟨k,a⟩ with g | g
    .exact .inl g
    .exact .inr (Vc _ g)
  .intro a;have v:(∃k,y k=some b)->∃k,aE y (.s d j) (some f) k=some b:=by
    rintro⟨k,a⟩;by_cases e:k= .s d j
    .subst e;rw [(q.cC _ rfl hi).2] at a;cases a
    .exact⟨k,by rw [ar _ _ e];exact a⟩
   rcases a with a | a
   .exact v ((r1 b).2 (.inl a))
   .rcases Vo.1 a with rfl | a
    .exact⟨_,aF _ _ _⟩
    .exact v ((r1 b).2 (.inr a))
theorem uO{R:Type}{d:Nat}(E:cc=none\/cc=some true):∀{G:List bX} {j:Nat} {xs:List T} {vs:List Value} {own:List Nat} {K:List AV->aH->Nat->Option R} {res:R},dP B w A G xs vs own->eC ids d cc j G xs K=some res->
  ∃av us z,K av us z=some res/\j<=z/\np d j z us/\gx B ids c w A us own (λρ =>aC w A ρ av vs)
 | [],j,xs,vs,own,K,res,e,a=>by obtain⟨rfl,rfl,rfl⟩:=e;exact⟨_,_,_,a,Vq _,(by intro p i;cases i),gx.nil λρ _=>by simp [aC]⟩
 | r::G,j,xs,vs,own,K,res,e,a=>by
  have g:(∃x Q v o ob F,xs=x::Q/\vs=v::o/\own=ob++F/\jX B w A r x v ob/\dP B w A G Q o F)->
    (ae cc xs.head? λx=>mP ids d cc j r x λv u j=>eC ids d cc j G xs.tail λvs us j=>K (v::vs) (u++us) j)=some res->
    ∃av us z,K av us z=some res/\j<=z/\np d j z us/\gx B ids c w A us own (λρ =>aC w A ρ av vs):=by
   intro e a;obtain⟨x,Q,v,o,ob,F,rfl,rfl,rfl,h1,H⟩:=e;simp only [WU,Yn] at a;replace a:=aO a E;obtain⟨y,hy,a⟩:=a;simp only [U7] at hy;subst hy;obtain⟨av,us,I,a,J,C,M⟩:=F4 (c:=c) E h1 a;obtain⟨U,W,j2,a,S,D,N⟩:=uO E H a;refine⟨_,_,_,a,VO J S, ?_,M.append N C D λρ ρ' m q1 L=> ?_⟩
   .intro p i;rcases Vr.1 i with i | i
    .obtain⟨k,q,k2,n⟩:=C p i;exact⟨k,q,by omega,n⟩
    .obtain⟨k,q,k2,n⟩:=D p i;exact⟨k,by omega,k2,n⟩
   .simp only [aC];exact⟨v,o,rfl,an.mono (λb hb=>⟨hb,rfl⟩) m _ _ q1,L⟩
  cases r with
  | f k=>exact g e a
  | t k=>exact g e a
  | own sz=>exact g e a
  | rows sz aD rsz=>exact g e a
  | mp ag ks vk=>exact g e a
  | new l=>
   obtain⟨Y,x2,b0,arr,ty,o,o1,o2,rfl,rfl,rfl,Z,h1,H⟩:=e;have a:(kj ids d cc j l (Y++x2) λv u j=>eC ids d cc (j+1) G ((Y++x2).drop l.length) λvs us z=>K (AV.ref (.s d j) 0::vs) (u++ [(.s d j, .box v)] ++us) z)=some res:=by
    cases cc with
    | none=>simp only [eC] at a;exact a
    | some b=>simp [eC] at a
   obtain⟨av,us,I,a,J,C,M⟩:=yC (c:=c) E h1 a;have X:=h1.length;rw [<-X,ZU] at a;obtain⟨U,W,j2,a,S,D,N⟩:=uO E H a;have V:np d j (I+1) (us++ [(.s d I, .box av)]):=by
    intro p i;rcases Vr.1 i with i | i
    .obtain⟨k,q,k2,n⟩:=C p i;exact⟨k,q,by omega,n⟩
    .rw [Vk.1 i];exact⟨I,J,by omega,rfl⟩
   refine⟨_,_,_,a,by omega, ?_,(M.box C Z h1.one).append N V D λρ ρ' m q1 L=> ?_⟩
   .intro p i;rcases Vr.1 i with i | i
    .obtain⟨k,q,k2,n⟩:=V p i;exact⟨k,q,by omega,n⟩
    .obtain⟨k,q,k2,n⟩:=D p i;exact⟨k,by omega,k2,n⟩
   .simp only [aC];exact⟨_,o,rfl,an.mono (λb hb=>⟨hb,rfl⟩) m _ _ q1,L⟩
  | ref k off=>exact g e a
  | same k=>exact g e a
  | no=>exact g e a
  | agg l=>
   obtain⟨Y,x2,ws,o,o1,o2,rfl,rfl,rfl,h1,H⟩:=e;simp only [eC] at a;obtain⟨av,us,I,a,J,C,M⟩:=yC (c:=c) E h1 a;have X:=h1.length;rw [<-X,ZU] at a;obtain⟨U,W,j2,a,S,D,N⟩:=uO E H a;refine⟨_,_,_,a,VO J S, ?_,M.append N C D λρ ρ' m q1 L=> ?_⟩
   .intro p i;rcases Vr.1 i with i | i
    .obtain⟨k,q,k2,n⟩:=C p i;exact⟨k,q,by omega,n⟩
    .obtain⟨k,q,k2,n⟩:=D p i;exact⟨k,by omega,k2,n⟩
   .simp only [aC];refine⟨_,o,rfl, ?_,L⟩;simp only [an];exact⟨ws,rfl,aC.mono (λb hb=>⟨hb,rfl⟩) m _ _ q1,h1.one⟩
theorem DR{vs:List AV}{a:List Value}(h:aC w A ρ vs a):an w A ρ (mw vs) (pD a):=by
 match vs,a,h with
 | [],a,h=>simp only [aC] at h;subst h;simp only [mw,pD,an];exact⟨[],rfl,by simp [aC]⟩
 | [v],a,h=>simp only [aC] at h;obtain⟨u,r,rfl,h1,rfl⟩:=h;exact h1
 | v::e::vs,a,h=>
  have b:=h.length
  match a,b with
  | u::d::a,_=>simp only [mw,pD,an];exact⟨_,rfl,h⟩
theorem Tx{v:AV}{x:T}{u:Value}(hs:HS c w h ρ O)(hv:an w (AA c w O) ρ v u)(a:Ep h v=some x)
  (e:∀b,AA c w O b->A' b) (f:∀i ah,O i=some ah->A' ah):aB w A' x u:=by
 have d:dK h v=some x->aB w A' x u:=λj=>m8 hs hv j e (λi ah _ g=>f i ah g);cases v
 case own i=>
  simp only [Ep] at a;split at a
  .rename_i sz b xs hi;exact d (by simp only [dK,hi];exact a)
  .simp only [U7] at a;subst a;simp only [an] at hv;simp only [aB];exact kF hs hv
  .simp only [U7] at a;subst a;simp only [an] at hv;simp only [aB];exact kF hs hv
  .cases a
 all_goals exact d a
theorem Lf(hs:HS c w h ρ O)(d:∀b,AA c w O b->A' b):∀{vs:List AV} {xs:List T} {us:List Value},aC w (AA c w O) ρ vs us->wF h vs=some xs->
  (∀i ah,O i=some ah->A' ah)->aR w A' xs us
 | [],xs,us,hv,a,_=>by simp only [wF,U7] at a;subst a;simpa [aC,aR] using hv
 | v::vs,xs,us,hv,a,e=>by simp only [wF] at a;obtain⟨x,h1,a⟩:=U8.1 a;obtain⟨l,j,a⟩:=U8.1 a;simp only [U7] at a;subst a;simp only [aC] at hv;obtain⟨u,r,rfl,f,g⟩:=hv;exact⟨u,r,rfl,Tx hs f h1 d e,Lf hs d g j e⟩
theorem Mt{m:Bool}{v:AV}{u:Value}{q:T×aH}(hs:HS c w h ρ O)(hv:an w (AA c w O) ρ v u)(a:jY true m h v=some q):q.2= []/\aB w (λb=>b < w.heap.size) q.1 u:=by
 have f:∀b,AA c w O b->b < w.heap.size:=λb hb=>hb.2.1;have d:∀x:T,dK h v=some x->aB w (λb=>b < w.heap.size) x u:=λx k=>m8 hs hv k f (λi ah _ g=>hs.lt i ah g);cases v
 case ref i off=>
  simp only [jY,cond_true] at a;split at a
  .rename_i cs hi;obtain⟨l,p,a⟩:=U8.1 a;simp only [U7] at a;subst a;obtain⟨b,arr,t,h1,y,z,n,D⟩:=hs.ah i _ hi;simp only [an] at hv;obtain⟨C,e,rfl⟩:=hv;rw [h1] at e;simp only [U7,Xk,Wr] at e;obtain⟨rfl,_⟩:=e;refine⟨rfl, ?_⟩;simp only [aB];have r:aR w (λb=>b < w.heap.size) l (arr.toList.drop off):=by
    cases m with
    | true=>exact Lf hs f (n.drop off) p (λi ah g=>hs.lt i ah g)
    | false=>exact aR.mono (λb hb=>⟨f b hb,rfl⟩) _ _ (aR.mj p (n.drop off))
   refine⟨b,off,rfl, .inr (hs.lt i b y),aX.lA r (λj v o=> ?_)⟩;rw [XU] at o;simp only [World.cell?,z];simpa using o
  .rename_i l hi;simp only [U7] at a;subst a;exact⟨rfl,d _ (by simp [dK,hi])⟩
  .simp at a
 all_goals
  simp only [jY] at a;obtain⟨x,k,a⟩:=U8.1 a;simp only [cond_true,U7] at a;subst a;exact⟨rfl,d _ k⟩
theorem Mu{n:Bool}{v:AV}{u:Value}{q:T×aH}(hs:HS c w h ρ O)(hv:an w (AA c w O) ρ v u)(a:jY false n h v=some q):
  ix h q.2/\∀O',Le w ρ O w ρ O'->(∀i,O' i=O i\/O' i=none)->(∀p∈q.2,O' p.1=none)->aB w (AA c w O') q.1 u:=by
 have l:∀x:T,dK h v=some x->q= (x,ik h v)->ix h q.2/\∀O',Le w ρ O w ρ O'->(∀i,O' i=O i\/O' i=none)->(∀p∈q.2,O' p.1=none)->aB w (AA c w O') q.1 u:=by
  intro x d e;subst e;refine⟨vf v,λO' le m o=>m8 hs hv d (λb hb=>(le.A b hb).1) (λi ah hi k=> ?_)⟩;obtain⟨p,r,e⟩:=zh hs d hi k;refine⟨.inr (hs.own i ah k),hs.lt i ah k,λj f=> ?_⟩;rcases m j with g | g
  .rw [g] at f;have:=hs.inj j i ah f k;subst this;have:=o p r;rw [e,g,f] at this;cases this
  .rw [g] at f;cases f
 cases v
 case ref i off=>simp only [jY,cond_false] at a;obtain⟨x,d,a⟩:=U8.1 a;simp only [U7] at a;exact l x d a.symm
 all_goals
  simp only [jY] at a;obtain⟨x,d,a⟩:=U8.1 a;simp only [cond_false,U7] at a;exact l x d a.symm
def iZ(c:Ctx)(w:World)(h:Id->Option ab)(ρ:Id->Option Value)(O:Id->Option Nat)(fl:Bool)(us:aH)(Q:(Nat->Prop)->Prop):Prop:=
 (fl=true->us= []/\Q (λb=>b < w.heap.size))/\
 (fl=false->ix h us/\∀O',Le w ρ O w ρ O'->(∀i,O' i=O i\/O' i=none)->(∀p∈us,O' p.1=none)->Q (AA c w O'))
theorem Fi{fl b:Bool}{v:AV}{u:Value}{q:T×aH}(hs:HS c w h ρ O)(hv:an w (AA c w O) ρ v u)(a:jY fl b h v=some q):iZ c w h ρ O fl q.2 (λA=>aB w A q.1 u):=
 ⟨λe=>by subst e;exact Mt hs hv a,λe=>by subst e;exact Mu hs hv a⟩
theorem iZ.append{fl:Bool}{us vs:aH}{i j Q:(Nat->Prop)->Prop}(h1:iZ c w h ρ O fl us i)(k:iZ c w h ρ O fl vs j)(n:∀A,i A->j A->Q A):iZ c w h ρ O fl (us++vs) Q:=by
 refine⟨λe=> ?_,λe=> ?_⟩
 .obtain⟨a,b⟩:=h1.1 e;obtain⟨d,f⟩:=k.1 e;exact⟨by rw [a,d];rfl,n _ b f⟩
 .obtain⟨a,b⟩:=h1.2 e;obtain⟨d,f⟩:=k.2 e;exact⟨a.append d,λO' le l m=>n _ (b O' le l (λp g=>m p (Vn _ g))) (f O' le l (λp g=>m p (Vp _ g)))⟩
theorem iZ.nil{fl:Bool}{Q:(Nat->Prop)->Prop}(a:∀A,Q A):iZ c w h ρ O fl [] Q:=⟨λ_=>⟨rfl,a _⟩,λ_=>⟨(by intro p b;cases b),λ_ _ _ _=>a _⟩⟩
theorem iZ.imp{fl:Bool}{us:aH}{a Q:(Nat->Prop)->Prop}(h1:iZ c w h ρ O fl us a)(b:∀A,a A->Q A):iZ c w h ρ O fl us Q:=
 ⟨λe=>⟨(h1.1 e).1,b _ (h1.1 e).2⟩,λe=>⟨(h1.2 e).1,λO' le d f=>b _ ((h1.2 e).2 O' le d f)⟩⟩
theorem yf{fl f:Bool}(hs:HS c w h ρ O):∀{vs:List AV} {us:List Value} {q:List T×aH},aC w (AA c w O) ρ vs us->mL fl f h vs=some q->iZ c w h ρ O fl q.2 (λA=>aR w A q.1 us)
 | [],us,q,hv,d=>by simp only [aC] at hv;subst hv;simp only [mL,U7] at d;subst d;exact iZ.nil λ_=>rfl
 | v::vs,us,q,hv,d=>by simp only [aC] at hv;obtain⟨u,r,rfl,h1,g⟩:=hv;simp only [mL] at d;obtain⟨p,i,d⟩:=U8.1 d;obtain⟨j,e,d⟩:=U8.1 d;simp only [U7] at d;subst d;exact(Fi hs h1 i).append (yf hs g e) λA a b=>⟨u,r,rfl,a,b⟩
theorem Fo{fl j:Bool}(hs:HS c w h ρ O){v:AV}{u:Value}{q:AV×aH}(hv:an w (AA c w O) ρ v u)(d:lS fl j h v=some q):iZ c w h ρ O fl q.2 (λA=>an w A (λ_=>none) q.1 u):=by
 cases v
 case fn f a b=>simp only [an] at hv;obtain⟨l,y',rfl,h1,g⟩:=hv;simp only [lS] at d;obtain⟨p,e,d⟩:=U8.1 d;obtain⟨m,i,d⟩:=U8.1 d;simp only [U7] at d;subst d;refine(yf hs h1 e).append (yf hs g i) λA a b=> ?_;simp only [an];exact⟨l,y',rfl,aC.mn a,aC.mn b⟩
 case agg vs=>simp only [an] at hv;obtain⟨k,rfl,h1,g⟩:=hv;simp only [lS] at d;obtain⟨p,e,d⟩:=U8.1 d;simp only [U7] at d;subst d;refine(yf hs h1 e).imp λA a=> ?_;simp only [an];exact⟨k,rfl,aC.mn a,g⟩
 all_goals
  simp only [lS] at d;obtain⟨p,e,d⟩:=U8.1 d;simp only [U7] at d;subst d;refine(Fi hs hv e).imp λA a=> ?_;simpa [an] using a
theorem Fq{fl f:Bool}(hs:HS c w h ρ O):∀{vs:List AV} {us:List Value} {q:List AV×aH},aC w (AA c w O) ρ vs us->lT fl f h vs=some q->iZ c w h ρ O fl q.2 (λA=>aC w A (λ_=>none) q.1 us)
 | [],us,q,hv,d=>by simp only [aC] at hv;subst hv;simp only [lT,U7] at d;subst d;exact iZ.nil λ_=>by simp [aC]
 | v::vs,us,q,hv,d=>by simp only [aC] at hv;obtain⟨u,r,rfl,h1,g⟩:=hv;simp only [lT] at d;obtain⟨p,i,d⟩:=U8.1 d;obtain⟨j,e,d⟩:=U8.1 d;simp only [U7] at d;subst d;refine(Fo hs h1 i).append (Fq hs g e) λA a b=> ?_;simp only [aC];exact⟨u,r,rfl,a,b⟩
theorem aB.flat{x:T}{v:Value}(a:x.qG =some ())(h:aB w A x v):aB w A' x v:=by cases x <;> simp only [T.qG,reduceCtorEq] at a <;> simpa [aB] using h
theorem fH.flat:∀{a:List bX} {xs:List T} {vs:List Value} {own:List Nat},(a.all λr=>match r with | .f _=>true | _=>false)=true->fH B w A a xs vs own->fH B w A' a xs vs own/\own= []
 | [],_,_,_,_,h=>⟨h,h.2.2⟩
 | r::a,xs,vs,own,b,h=>by simp only [WV,Ve] at b;obtain⟨x,g,v,e,ob,k,rfl,rfl,rfl,h1,j⟩:=h;obtain⟨i,rfl⟩:=fH.flat b.2 j;cases r <;> simp only [VF,false_and] at b;obtain⟨d,k2,rfl⟩:=h1;exact⟨⟨x,g,v,e,[],[],rfl,rfl,rfl,⟨d,k2.flat d,rfl⟩,i⟩,rfl⟩
theorem dP.flat:∀{d:List bX} {xs:List T} {vs:List Value} {own:List Nat},d.all sN=true->dP B w A d xs vs own->dP B w A' d xs vs own/\own= []
 | [],_,_,_,_,h=>⟨h,h.2.2⟩
 | r::d,xs,vs,own,a,h=>by
  simp only [WV,Ve] at a;cases r <;> simp only [sN,VF,false_and] at a
  case f=>obtain⟨x,j,v,b,ob,m,rfl,rfl,rfl,h1,g⟩:=h;obtain⟨e,rfl⟩:=dP.flat a.2 g;obtain⟨i,k2,rfl⟩:=h1;exact⟨⟨x,j,v,b,[],[],rfl,rfl,rfl,⟨i,k2.flat i,rfl⟩,e⟩,rfl⟩
  case agg l=>obtain⟨o,x2,n,b,o1,p,rfl,rfl,rfl,h1,g⟩:=h;obtain⟨e,rfl⟩:=dP.flat a.2 g;obtain⟨k,rfl⟩:=fH.flat a.1 h1;exact⟨⟨o,x2,n,b,[],[],rfl,rfl,rfl,k,e⟩,rfl⟩
theorem jX.mono{r:bX}{x:T}{v:Value}{ob:List Nat}(e:∀b,A b->A' b)(h:jX B w A r x v ob):jX B w A' r x v ob:=by
 have g:∀x v,aB w A x v->aB w A' x v:=λx v=>aB.mono (λb hb=>⟨e b hb,rfl⟩) x v;cases r with
 | f k=>exact⟨h.1,g _ _ h.2.1,h.2.2⟩
 | t k=>exact⟨g _ _ h.1,h.2⟩
 | own sz=>obtain⟨o,p,a,h1,d⟩:=h;exact⟨o,p,a,h1,d.mono (λb hb=>⟨e b hb,rfl⟩) (λb hb=>⟨hb,rfl⟩)⟩
 | rows sz aD rsz=>obtain⟨b,es,i,j,m,a,h1,d⟩:=h;exact⟨b,es,i,j,m,a,de.mono (λn=>⟨rfl,rfl,λ_ _=>rfl⟩) (λb hb=>⟨e b hb,rfl⟩) (λ_ _ h=>h) rfl (λ_ _=>rfl) h1,d⟩
 | ref k off=>exact h
 | same k=>exact h
 | no=>exact h
 | mp ag ks vk=>exact h
 | agg l=>exact h.elim
 | new l=>exact h.elim
theorem fH.mono(e:∀b,A b->A' b):∀{d:List bX} {xs:List T} {vs:List Value} {own:List Nat},fH B w A d xs vs own->fH B w A' d xs vs own
 | [],_,_,_,h=>h
 | r::d,xs,vs,own,h=>by obtain⟨x,g,v,f,ob,a,rfl,rfl,rfl,h1,i⟩:=h;exact⟨x,g,v,f,ob,a,rfl,rfl,rfl,h1.mono e,fH.mono e i⟩
theorem dP.mono(d:∀b,A b->A' b):∀{i:List bX} {xs:List T} {vs:List Value} {own:List Nat},dP B w A i xs vs own->dP B w A' i xs vs own
 | [],_,_,_,h=>h
 | r::i,xs,vs,own,h=>by
  cases r with
  | agg l=>obtain⟨j,x2,o,a,o1,f,rfl,rfl,rfl,h1,e⟩:=h;exact⟨j,x2,o,a,o1,f,rfl,rfl,rfl,h1.mono d,dP.mono d e⟩
  | new l=>obtain⟨j,x2,n,arr,ty,a,o1,f,rfl,rfl,rfl,k,h1,e⟩:=h;exact⟨j,x2,n,arr,ty,a,o1,f,rfl,rfl,rfl,k,h1.mono d,dP.mono d e⟩
  | _=>obtain⟨x,m,v,a,ob,g,rfl,rfl,rfl,h1,e⟩:=h;exact⟨x,m,v,a,ob,g,rfl,rfl,rfl,h1.mono d,dP.mono d e⟩
theorem Lx{R:Type}{d:Nat}{E:List bX}{xs:List T}{bg:List Value}{own:List Nat}{K:List AV->aH->Nat->Option R}{res:R}(H:cc=none\/cc=some true)(hs:HS c w h ρ O)(f:xJ w w')(z:own.Nodup)(e:∀b∈own,w.heap.size<=b/\b < w'.heap.size)
  (y:dP (λ_=>none) w' (λb=>(c.A0 b\/c.MO b)/\b < w'.heap.size/\b∉own/\∀i,O i≠some b) E xs bg own) (a:eC [] d cc 0 E xs K=some res):
  ∃g us j,K g us j=some res/\np d 0 j us/\((∀p∈us,h p.1=none)->∃ρ' O',Le w ρ O w' ρ' O'/\HS c w' (aL h us) ρ' O'/\aC w' (AA c w' O') ρ' g bg):=by
 obtain⟨g,us,j,a,_,t,I⟩:=uO (c:=c) H y a;refine⟨g,us,j,a,t,λr=> ?_⟩;have G:∀b,AA c w O b->((c.A0 b\/c.MO b)/\b < w'.heap.size/\b∉own/\∀i,O i≠some b)/\w'.heap[b]? =w.heap[b]?:=by intro b hb;refine⟨⟨hb.1,W0 hb.2.1 f.size,λhm=> ?_,hb.2.2⟩,f.ah b hb.2.1⟩;have:=(e b hm).1;have:=hb.2.1;omega
 have D:gS c w' (λb=>(c.A0 b\/c.MO b)/\b < w'.heap.size/\b∉own/\∀i,O i≠some b) h ρ O:=
  ⟨λi b hb=>de.mono (λn=>⟨rfl,rfl,λb hb=>f.ah b (hs.lt _ b hb)⟩) G (λ_ _ h=>h) rfl (λb hb=>f.ah b (hs.lt i b hb)) (hs.ah i b hb),hs.cC,hs.eH,hs.fO,hs.gone,hs.inj,λi b hb=>W0 (hs.lt i b hb) f.size,hs.own,VO hs.size f.size⟩
 obtain⟨ρ',O',m,C,q,l⟩:=I h ρ O (by intro k i v a;simp at a) D z (λb hb=>⟨(e b hb).2, .inr (VO hs.size (e b hb).1),λi hi=>by have:=hs.lt i b hi;have:=(e b hb).1;omega⟩) r;have u:∀b,((c.A0 b\/c.MO b)/\b < w'.heap.size/\b∉own/\∀i,O i≠some b)↔AA c w' O' b:=by
  intro b;constructor
  .rintro⟨h1,x,o,F⟩;refine⟨h1,x,λi hi=> ?_⟩;rcases(l b).1 ⟨i,hi⟩ with⟨k,a⟩ | a
   .exact F k a
   .exact o a
  .rintro⟨h1,x,o⟩;refine⟨h1,x,λhm=> ?_,λi hi=> ?_⟩
   .obtain⟨i,hi⟩:=(l b).2 (.inr hm);exact o i hi
   .obtain⟨k,a⟩:=(l b).2 (.inl ⟨i,hi⟩);exact o k a
 refine⟨ρ',O',⟨f.os,f.output,f.tape,f.size,m,λk a _=>f.ah k a,λi b hi=> ?_⟩,C.LB u, ?_⟩
 .rcases(l b).1 ⟨i,hi⟩ with a | a
  .exact .inl a
  .exact .inr (e b a).1
 .exact aC.mono (λb hb=>⟨(u b).1 hb,rfl⟩) (λ_ _ h=>h) _ _ q
theorem sC{d:Type}{a b:List d}{n:Nat}(h:a.length=n):(a++b).drop n=b:=by rw [<-h,ZU]
theorem uP{R:Type}{all:List Id}{d:Nat}:∀{outs:List jV} {W:List Id} {j jj:Nat} {xs:List T} {own:List Nat} {K:aH->Option R} {res:R},oM B w A jj outs xs own->gz all d j W outs xs K=some res->
  ∃us,K us=some res/\(∀p∈us,(∃k,j<=k/\p.1= .s d k)\/p.1∈W)/\
   ∀h ρ O,wS B all ρ->(∀k i,W[k]? =some i->h i=some .dead/\∀v,B (jj+k)=some v->ρ i=some v)->gS c w A h ρ O->own.Nodup->(∀b∈own,b < w.heap.size/\c.MO b/\∀i,O i≠some b)->W.Nodup->
    (∀i∈W,∀k,i≠ .s d k)->(∀p∈us,∀k,p.1= .s d k->h p.1=none)->
    ∃ρ' O',(∀i u,ρ i=some u->ρ' i=some u)/\gS c w A (aL h us) ρ' O'/\∀b,(∃i,O' i=some b)↔((∃i,O i=some b)\/b∈own)
 | [],[],j,jj,xs,own,K,res,o,a=>by obtain⟨rfl,rfl⟩:=o;simp only [gz] at a;exact⟨[],a,(by intro p f;cases f),λh ρ O _ _ hs _ _ _ _ _=>⟨ρ,O,λ_ _ h=>h,hs,λb=>by simp⟩⟩
 | [],_::_,j,jj,xs,own,K,res,o,a=>by simp [gz] at a
 | r::outs,[],j,jj,xs,own,K,res,o,a=>by cases r <;> simp [gz] at a
 | .dead::outs,i::W,j,jj,xs,own,K,res,o,a=>by
  simp only [gz] at a;obtain⟨us,a,y,tk⟩:=uP (jj:=jj+1) o a;refine⟨us,a,λp f=>(y p f).imp id (Vc _),λh ρ O J S hs N n F C q=> ?_⟩;exact tk h ρ O J (λk i a=>by
   have:=S (k+1) i (by simpa using a);rw [show jj+ (k+1)=jj+1+k by omega] at this;exact this) hs N n (WC.1 F).2 (λi hi=>C i (Vc _ hi)) q
 | .mp ag ks vk::outs,i::W,j,jj,xs,own,K,res,o,a=>by
  obtain⟨es,E,ents,clock,x2,o2,rfl,rfl,hB,V,hes,hok,H⟩:=o;obtain⟨ob,hob⟩:∃ob:Option Nat,ob=some E:=⟨_,rfl⟩;rw [show E::o2=ob.toList++o2 by rw [hob];rfl] at *
  simp only [gz,WU,Vj,Yn] at a;replace a:=aO a (.inl rfl);obtain⟨p,f,a⟩:=a;rw [eM] at f;simp only [U7] at f;subst f;obtain⟨us,a,y,tk⟩:=uP (jj:=jj+1) H a;refine⟨_,a,λp f=> ?_,λh ρ O J S hs N n F C q=> ?_⟩
  .rcases Vo.1 f with rfl | f
   .exact .inr Vb
   .exact(y p f).imp id (Vc _)
  obtain⟨n1,n2⟩:=WC.1 F;obtain⟨d1,d2⟩:=S 0 i rfl;obtain⟨k1,k2,k3⟩:=W6.1 N;have U:=hs.DU d1 ob (λb hb=>n b (Vn _ (by simp [hb]))) (.mp ag ks vk es) ⟨E,ents,clock,d2 _ (by simpa using hB),by rw [aF,hob],V,hes,hok⟩;have X:O i=none:=(hs.ah i _ d1).2;have z:∀b,(∃k,aE O i ob k=some b)↔((∃k,O k=some b)\/b∈ob.toList):=by
   intro b;constructor
   .rintro⟨k,a⟩;by_cases e:k=i
    .rw [e,aF] at a;right;simp [a]
    .rw [ar _ _ e] at a;exact .inl ⟨k,a⟩
   .rintro(⟨k,a⟩ | a)
    .by_cases e:k=i
     .rw [e,X] at a;cases a
     .exact⟨k,by rw [ar _ _ e];exact a⟩
    .exact⟨i,by rw [aF];simpa using a⟩
  have Q:∀b∈o2,b < w.heap.size/\c.MO b/\∀k,aE O i ob k≠some b:=by
   intro b hb;obtain⟨L,M,I⟩:=n b (Vp _ hb);refine⟨L,M,λi' Y=> ?_⟩;rcases(z b).1 ⟨i',Y⟩ with⟨k,a⟩ | a
   .exact I k a
   .exact k3 b a b hb rfl
  have G:∀p∈us,∀k,p.1= .s d k->aE h i (some (.mp ag ks vk es)) p.1=none:=by intro p f k e;have D:p.1≠i:=λe'=>C i Vb k (by rw [<-e',e]);rw [ar _ _ D];exact q p (Vc _ f) k e
  obtain⟨ρ',O',m,Z,rng⟩:=tk (aE h i (some (.mp ag ks vk es))) ρ (aE O i ob) J (λk i' a=>by
    have:=S (k+1) i' (by simpa using a);rw [show jj+ (k+1)=jj+1+k by omega] at this;refine⟨?_,this.2⟩;have D:i'≠i:=λe=>n1 (by rw [<-e];exact Va a);rw [ar _ _ D];exact this.1) U k2 Q n2 (λi hi=>C i (Vc _ hi)) G
  refine⟨ρ',O',m,Z,λb=> ?_⟩;rw [rng b,z b,Vr,or_assoc]
 | .sl sz::outs,i::W,j,jj,xs,own,K,res,o,a=>by
  obtain⟨bb,l,x2,ob,v,o2,rfl,rfl,hB,hsl,H⟩:=o;simp only [gz,WU,Vj,Yn] at a;replace a:=aO a (.inl rfl);obtain⟨p,f,a⟩:=a;simp only [T.aQ,if_true,U7] at f;subst f;obtain⟨us,a,y,tk⟩:=uP (jj:=jj+1) H a;refine⟨_,a,λp f=> ?_,λh ρ O J S hs N n F C q=> ?_⟩
  .rcases Vo.1 f with rfl | f
   .exact .inr Vb
   .exact(y p f).imp id (Vc _)
  obtain⟨n1,n2⟩:=WC.1 F;obtain⟨d1,d2⟩:=S 0 i rfl;obtain⟨k1,k2,k3⟩:=W6.1 N;have U:=hs.DU d1 ob (λb hb=>n b (Vn _ (by simp [hb]))) (.sl false sz bb l) ⟨v,d2 v (by simpa using hB),by simpa using hsl,by simp⟩;have X:O i=none:=(hs.ah i _ d1).2;have z:∀b,(∃k,aE O i ob k=some b)↔((∃k,O k=some b)\/b∈ob.toList):=by
   intro b;constructor
   .rintro⟨k,a⟩;by_cases e:k=i
    .rw [e,aF] at a;right;simp [a]
    .rw [ar _ _ e] at a;exact .inl ⟨k,a⟩
   .rintro(⟨k,a⟩ | a)
    .by_cases e:k=i
     .rw [e,X] at a;cases a
     .exact⟨k,by rw [ar _ _ e];exact a⟩
    .exact⟨i,by rw [aF];simpa using a⟩
  have Q:∀b∈o2,b < w.heap.size/\c.MO b/\∀k,aE O i ob k≠some b:=by
   intro b hb;obtain⟨L,M,I⟩:=n b (Vp _ hb);refine⟨L,M,λi' Y=> ?_⟩;rcases(z b).1 ⟨i',Y⟩ with⟨k,a⟩ | a
   .exact I k a
   .exact k3 b a b hb rfl
  have G:∀p∈us,∀k,p.1= .s d k->aE h i (some (.sl false sz bb l)) p.1=none:=by intro p f k e;have D:p.1≠i:=λe'=>C i Vb k (by rw [<-e',e]);rw [ar _ _ D];exact q p (Vc _ f) k e
  obtain⟨ρ',O',m,Z,rng⟩:=tk (aE h i (some (.sl false sz bb l))) ρ (aE O i ob) J (λk i' a=>by
    have:=S (k+1) i' (by simpa using a);rw [show jj+ (k+1)=jj+1+k by omega] at this;refine⟨?_,this.2⟩;have D:i'≠i:=λe=>n1 (by rw [<-e];exact Va a);rw [ar _ _ D];exact this.1) U k2 Q n2 (λi hi=>C i (Vc _ hi)) G
  refine⟨ρ',O',m,Z,λb=> ?_⟩;rw [rng b,z b,Vr,or_assoc]
 | .box l::outs,i::W,j,jj,xs,own,K,res,o,a=>by
  obtain⟨x1,x2,E,arr,t,o1,o2,rfl,rfl,hB,V,hL,H⟩:=o;simp only [gz] at a;obtain⟨av,us1,j1,a,hj,n1',t1⟩:=yC (c:=c) (ids:=all) (.inl rfl) hL a;rw [sC hL.length] at a;obtain⟨us2,a,y,tk⟩:=uP (jj:=jj+1) H a;refine⟨_,a,λp f=> ?_,λh ρ O J S hs N n F C q=> ?_⟩
  .rcases Vr.1 f with f | f
   .obtain⟨k,L,M,I⟩:=n1' p f;exact .inl ⟨k,L,I⟩
   .rcases Vo.1 f with rfl | f
    .exact .inr Vb
    .rcases y p f with⟨k,L,M⟩ | g
     .exact .inl ⟨k,by omega,M⟩
     .exact .inr (Vc _ g)
  obtain⟨n1,n2⟩:=WC.1 F;obtain⟨d1,d2⟩:=S 0 i rfl;obtain⟨q1,q2⟩:=WC.1 N;obtain⟨k1,k2,k3⟩:=W6.1 q2;have not1:∀x,(∀k,x≠ .s d k)->aL h us1 x=h x:=λx hx=>ei λp f e=>by obtain⟨k,_,_,I⟩:=n1' p f;exact hx k (by rw [<-e,I])
  obtain⟨ρ1,O1,m1,U,v1,z⟩:=t1 h ρ O J hs k1 (λb hb=>n b (Vc _ (Vn _ hb))) (λp f=>by
   obtain⟨k,_,_,I⟩:=n1' p f;exact q p (Vn _ f) k I)
  have hdi:aL h us1 i=some .dead:=by rw [not1 i (C i Vb)];exact d1
  have fresh0:∀k,O1 k≠some E:=by
   intro k a;rcases(z E).1 ⟨k,a⟩ with⟨k',hk'⟩ | hk'
   .exact(n E Vb).2.2 k' hk'
   .exact q1 (Vn _ hk')
  have hs2:=U.DU hdi (some E) (λb hb=>by
   simp only [U7] at hb;subst hb;obtain⟨L,M,_⟩:=n E Vb;exact⟨L,M,fresh0⟩) (.box av) ⟨E,arr,t,m1 _ _ (d2 _ (by simpa using hB)),aF _ _ _,V,v1,hL.one⟩
  have X:O1 i=none:=(U.ah i _ hdi).2;have rng2:∀b,(∃k,aE O1 i (some E) k=some b)↔((∃k,O k=some b)\/b∈E::o1):=by
   intro b;constructor
   .rintro⟨k,a⟩;by_cases e:k=i
    .rw [e,aF] at a;cases a;exact .inr Vb
    .rw [ar _ _ e] at a;rcases(z b).1 ⟨k,a⟩ with g | g
     .exact .inl g
     .exact .inr (Vc _ g)
   .intro a;have lift:(∃k,O1 k=some b)->∃k,aE O1 i (some E) k=some b:=by
     rintro⟨k,a⟩;by_cases e:k=i
     .rw [e,X] at a;cases a
     .exact⟨k,by rw [ar _ _ e];exact a⟩
    rcases a with a | a
    .exact lift ((z b).2 (.inl a))
    .rcases Vo.1 a with rfl | a
     .exact⟨i,aF _ _ _⟩
     .exact lift ((z b).2 (.inr a))
  have Q:∀b∈o2,b < w.heap.size/\c.MO b/\∀k,aE O1 i (some E) k≠some b:=by
   intro b hb;obtain⟨L,M,I⟩:=n b (Vc _ (Vp _ hb));refine⟨L,M,λi' Y=> ?_⟩;rcases(rng2 b).1 ⟨i',Y⟩ with⟨k,a⟩ | a
   .exact I k a
   .rcases Vo.1 a with rfl | a
    .exact q1 (Vp _ hb)
    .exact k3 b a b hb rfl
  have G:∀p∈us2,∀k,p.1= .s d k->aE (aL h us1) i (some (.box av)) p.1=none:=by
   intro p f k e;have D:p.1≠i:=λe'=>C i Vb k (by rw [<-e',e]);rw [ar _ _ D];rw [ei (λp' hp' e'=> ?_)]
   .exact q p (Vp _ (Vc _ f)) k e
   .obtain⟨k',L,M,I⟩:=n1' p' hp';rcases y p f with⟨k'',g4,g5⟩ | g
    .rw [I,g5] at e';simp only [Id.s.injEq] at e';omega
    .exact C p.1 (Vc _ g) k e
  obtain⟨ρ',O',m,Z,rng⟩:=tk (aE (aL h us1) i (some (.box av))) ρ1 (aE O1 i (some E)) (λk i v e1 e2=>m1 i v (J k i v e1 e2)) (λk i' a=>by
    have hm:=Va a;have:=S (k+1) i' (by simpa using a);rw [show jj+ (k+1)=jj+1+k by omega] at this;refine⟨?_,λv hv=>m1 _ _ (this.2 v hv)⟩;have D:i'≠i:=λe=>n1 (by rw [<-e];exact hm);rw [ar _ _ D,not1 i' (C i' (Vc _ hm))];exact this.1) hs2 k2 Q n2 (λi hi=>C i (Vc _ hi)) G
  refine⟨ρ',O',λi u hi=>m i u (m1 i u hi),by rw [mE,dA];exact Z,λb=> ?_⟩;rw [rng b,rng2 b,Vo,Vo,Vr];simp only [or_assoc]
theorem Fk{fS:List Id}(hs:HS c w h ρ O):∀{fl:List Bool} {vs:List AV} {us:List Value} {q:List AV×aH},aC w (AA c w O) ρ vs us->mM h fS fl vs=some q->
  ix h q.2/\∀O',Le w ρ O w ρ O'->(∀i,O' i=O i\/O' i=none)->(∀p∈q.2,O' p.1=none)->aC w (AA c w O') ρ q.1 us
 | fl,[],us,q,hv,d=>by simp only [aC] at hv;subst hv;simp only [mM,U7] at d;subst d;exact⟨(by intro p a;cases a),λ_ _ _ _=>by simp [aC]⟩
 | fl,v::vs,us,q,hv,d=>by
  simp only [aC] at hv;obtain⟨u,r,rfl,h1,n⟩:=hv;simp only [mM] at d;obtain⟨p,a,d⟩:=U8.1 d;obtain⟨t,k,d⟩:=U8.1 d;simp only [U7] at d;subst d;obtain⟨l,m⟩:=Fk hs n k;have one:ix h p.2/\∀O',Le w ρ O w ρ O'->(∀i,O' i=O i\/O' i=none)->(∀x∈p.2,O' x.1=none)->an w (AA c w O') ρ p.1 u:=by
   unfold uH at a;cases e:(fl.headD false || (!v.ids.isEmpty && v.ids.all fS.contains)) with
   | true=>rw [e] at a;simp only [cond_true,U7] at a;subst a;exact⟨(by intro p a;cases a),λO' le _ _=>an.mono (λb hb=>le.A b hb) (λ_ _ h=>h) _ _ h1⟩
   | false=>rw [e] at a;simp only [cond_false] at a;obtain⟨o,k2⟩:=(Fo hs h1 a).2 rfl;exact⟨o,λO' le f g=>an.mono (λb hb=>⟨hb,rfl⟩) (by intro i v h;cases h) _ _ (k2 O' le f g)⟩
  refine⟨one.1.append l,λO' le f g=> ?_⟩;simp only [aC];exact⟨u,r,rfl,one.2 O' le f (λx j=>g x (Vn _ j)),m O' le f (λx j=>g x (Vp _ j))⟩
theorem dP.length:∀{d:List bX} {xs:List T} {vs:List Value} {own:List Nat},dP B w A d xs vs own->xs.length=m6 d
 | [],_,_,_,⟨rfl,_,_⟩=>rfl
 | r::d,xs,vs,own,h=>by
  cases r with
  | agg l=>obtain⟨g,x2,m,b,o1,e,rfl,rfl,rfl,h1,a⟩:=h;simp [m6,bX.size,h1.length,dP.length a]
  | new l=>obtain⟨g,x2,k,arr,ty,b,o1,e,rfl,rfl,rfl,i,h1,a⟩:=h;simp [m6,bX.size,h1.length,dP.length a]
  | _=>obtain⟨x,j,v,b,ob,f,rfl,rfl,rfl,h1,a⟩:=h;simp [m6,bX.size,dP.length a];omega
theorem Nd{R:Type}{d:Nat}:∀{m:List bX} {e x2:List T} {j:Nat} {vs:List Value} {own:List Nat} {K:List AV->aH->Nat->Option R},dP B w A m e vs own->
  eC ids d cc j m (e++x2) K=eC ids d cc j m e K:=by
 have one:∀{l:List bX} {e x2:List T} {j:Nat} {vs:List Value} {own:List Nat} {K:List AV->aH->Nat->Option R},fH B w A l e vs own->kj ids d cc j l (e++x2) K=kj ids d cc j l e K:=by
  intro l;induction l with
  | nil=>intro e x2 j vs own K h;rfl
  | cons r l q=>intro e x2 j vs own K h;obtain⟨x,o,v,g,ob,i,rfl,rfl,rfl,h1,n⟩:=h;simp only [kj,Vf,WU,Yn];congr 1;funext y;congr 1;funext v u j;exact q n
 intro m;induction m with
 | nil=>intro e x2 j vs own K h;rfl
 | cons r m q=>
  intro e x2 j vs own K h
  have a:(∃x o v g ob i,e=x::o/\vs=v::g/\own=ob++i/\jX B w A r x v ob/\dP B w A m o g i)->
    (ae cc (e++x2).head? λx=>mP ids d cc j r x λv u j=>eC ids d cc j m (e++x2).tail λvs us j=>K (v::vs) (u++us) j)=
    ae cc e.head? λx=>mP ids d cc j r x λv u j=>eC ids d cc j m e.tail λvs us j=>K (v::vs) (u++us) j:=by
   rintro⟨x,o,v,g,ob,i,rfl,rfl,rfl,h1,n⟩;simp only [Vf,WU,Yn];congr 1;funext y;congr 1;funext v u j;exact q n
  cases r with
  | agg l=>obtain⟨D,z,G,g,o1,C,rfl,rfl,rfl,h1,n⟩:=h;simp only [eC];have p:=h1.length;rw [VJ,one h1,one (x2:=z) h1];congr 1;funext v u j;rw [sC p,sC p];exact q n
  | f k=>exact a h
  | t k=>exact a h
  | own sz=>exact a h
  | rows sz aD rsz=>exact a h
  | mp ag ks vk=>exact a h
  | new l=>
   obtain⟨D,z,F,arr,ty,g,o1,C,rfl,rfl,rfl,E,h1,n⟩:=h;have p:=h1.length;cases cc with
   | some b=>simp only [eC]
   | none=>
   simp only [eC];rw [VJ,one h1,one (x2:=z) h1];congr 1;funext v u j;rw [sC p,sC p];exact q n
  | ref k off=>exact a h
  | same k=>exact a h
  | no=>exact a h
theorem yA{l:List Id}{h:Id->Option ab}{i:Id}(hi:i∈l):aL h (kg l) i=some .dead:=by
 induction l generalizing h with
 | nil=>cases hi
 | cons j l d=>
  show aL (aE h j (some .dead)) (kg l) i=some .dead;by_cases hm:i∈l
  .exact d hm
  .have:i=j:=by
    rcases Vo.1 hi with h | h
    .exact h
    .exact(hm h).elim
   subst this;rw [ei (λp b e=> ?_),aF];obtain⟨k,a,rfl⟩:=VK.1 b;exact hm (e▸a)
theorem uN{l:List Id}{h:Id->Option ab}{i:Id}(hi:i∉l):aL h (kg l) i=h i:=by refine ei λp b e=> ?_;obtain⟨k,a,rfl⟩:=VK.1 b;exact hi (e▸a)
theorem RE{d:Nat}{l:List Id}(h:zL d l=true):∀i∈l,∀k,i≠ .s d k:=by intro i hi k e;have:=Vu.1 h i hi;subst e;simp at this
theorem FI{R:Type}{An:cM}{Or:au}(hO:jG P An Or){d:Nat}{f:FuncId}{args:List AV}{bg:List Value}{K:AV->aH->Option R}{r:R}(hc:cc=none\/cc=some true)(hs:HS c w s.h ρ O)(hv:aC w (AA c w O) ρ args bg)
  (a:gV P An Or s d cc f args K=some r):
  ∃v us fn L,K v us=some r/\P.funcs[f]? =some fn/\fn.body=some L/\fn.name≠ "runtime.NumGoroutine" /\
   (jq d s.h us=true->Calls P f bg.toArray w λe w'=>∃x,e= .returned x/\∃ρ' O',Le w ρ O w' ρ' O'/\HS c w' (aL s.h us) ρ' O'/\an w' (AA c w' O') ρ' v x):=by
 unfold gV at a;split at a
 .simp at a
 rename_i fn hfn;split at a
 .rename_i hbref;replace a:=U8.1 a;obtain⟨p,hp,a⟩:=a;obtain⟨pt,a,X⟩:=Aq hc a;replace a:=aO a (.inl rfl);obtain⟨xs,hxs,a⟩:=a;replace hxs:Or (.call f) pt []=some xs:=by rcases hc with rfl | rfl <;> exact hxs
  obtain⟨fn',L,S,T,V,t⟩:=hO f pt [] xs hxs;rw [hfn] at S;simp only [U7] at S;subst S;have t:=t.values hbref;have ok:=Fq hs hv hp;rw [show eC [] d cc 0 (dC P An f 0 fn) xs (λvs u _=>K (mw vs) (p.2++u))= (eC [] d cc 0 (dC P An f 0 fn) xs (λvs u j=>some (vs,u,j))).bind (λq=>K (mw q.1) (p.2++q.2.1)) from by rw [qp];rfl] at a;replace a:=U8.1 a;obtain⟨q,hq,a⟩:=a;refine⟨_,_,fn,L,a,hfn,T,V,λU=> ?_⟩;have hfree':∀k,(∃b,(Id.s d k,b)∈q.2.1)->s.h (.s d k)=none:=by rintro k ⟨b,hb⟩;have:=Vu.1 U _ (Vp _ hb);simpa using this
  cases hfl:(dC P An f 0 fn).all sN with
  | true=>
   obtain⟨hp2,N⟩:=ok.1 hfl;refine(t _ w bg (λb hb=>hb) (X _ _ _ _ N)).mono λe w' W=> ?_;obtain⟨rs,own,rfl,I,hnd,z,H⟩:=W;obtain⟨H,rfl⟩:=H.flat (A':=λb=>(c.A0 b\/c.MO b)/\b < w'.heap.size/\b∉([]:List Nat)/\∀i,O i≠some b) hfl;obtain⟨avs,us,j,hq',Y,tk⟩:=Lx hc hs I hnd z H hq;simp only [U7] at hq';subst hq';obtain⟨ρ',O',le,hs',hv'⟩:=tk (λp hp=>by
    obtain⟨k,_,_,e⟩:=Y p hp;rw [e];exact hfree' k ⟨p.2,by rw [<-e];exact hp⟩)
   refine⟨_,rfl,ρ',O',le, ?_,DR hv'⟩;rw [hp2];exact hs'
  | false=>
   obtain⟨hfz,N⟩:=ok.2 hfl;obtain⟨O1,cV,hs1,hO1,hf1,_⟩:=hs.sO hfz;refine(t _ w bg (λb hb=>hb.2.1) (X _ _ _ _ (N O1 cV hO1 hf1))).mono λe w' W=> ?_;obtain⟨rs,own,rfl,I,hnd,z,H⟩:=W;have H:=H.mono (A':=λb=>(c.A0 b\/c.MO b)/\b < w'.heap.size/\b∉own/\∀i,O1 i≠some b) (by
    rintro b ⟨h1 | h1,C,h3⟩
    .exact⟨h1.1,C,h3,h1.2.2⟩
    .exact⟨.inr (.inr (VO hs.size h1)),C,h3,λi hi=>by have:=hs1.lt i b hi;omega⟩)
   obtain⟨avs,us,j,hq',Y,tk⟩:=Lx hc hs1 I hnd z H hq;simp only [U7] at hq';subst hq';obtain⟨ρ',O',le,hs',hv'⟩:=tk (λp' hp'=>by
    obtain⟨k,_,_,e⟩:=Y p' hp';have hn:=hfree' k ⟨p'.2,by rw [<-e];exact hp'⟩;rw [ei (λx D ex=> ?_),e]
    .exact hn
    .have C:=hfz x D;rw [ex,e,hn] at C;rcases C with⟨sz,b,l,_,C⟩ | ⟨l,_,C⟩ <;> simp at C)
   exact⟨_,rfl,ρ',O',cV.trans le,by rw [mE];exact hs',DR hv'⟩
 .rename_i fl hbref;cases cc with
  | some b=>simp at a
  | none=>
  dsimp only at a;replace a:=U8.1 a;obtain⟨p,hp,a⟩:=a;replace a:=U8.1 a;obtain⟨us,hus,a⟩:=a;replace a:=U8.1 a;obtain⟨seen,hseen,a⟩:=a;generalize hn0:iA ((b8 p.1).head?.bind (aL s.h p.2))=n0 at a hus;cases J:(zL d seen && Nat.beq (iA (seen.map λi=>ir seen (aL (aL s.h p.2) us i)).head?) n0) with
  | false=>rw [J] at a;simp at a
  | true=>
  rw [J,cond_true] at a;simp only [Ve] at J;obtain⟨hnot,hd0⟩:=J;replace hd0:=Nat.eq_of_beq_eq_true hd0;have hns:=RE hnot;obtain⟨pt,a,X⟩:=Aq (.inl rfl) a;replace a:=aO a (.inl rfl);obtain⟨xs,hxs,a⟩:=a;obtain⟨fn',L,S,T,V,t⟩:=hO f pt _ xs hxs;rw [hfn] at S;simp only [U7] at S;subst S;obtain⟨hfz,N⟩:=Fk hs hv hp;obtain⟨O1,cV,hs1,hO1,hf1,_⟩:=hs.sO hfz;have hv1:=N O1 cV hO1 hf1;obtain⟨ρ2,G,le2,o⟩:=DC hs1 hus;have hv2:=aC.mono (λb hb=>le2.A b hb) le2.eU _ _ hv1;obtain⟨g1,_,g3,g4,g5⟩:=vX hseen YM (by simp) (by simp);let c':Ctx:={A0:=AA c w G,M:=λb=>∃i,Of seen i/\G i=some b,N0:=w.heap.size};have hA3:∀b,AA c w G b->AA c' w (cv seen G) b:=λb hb=>⟨.inl hb,hb.2.1,λi hi=>by
   obtain⟨k,_,a⟩:=vZ ⟨i,hi⟩;exact hb.2.2 k a⟩
  have hs3:=o.Ks (c':=c') g1 g4 g5 hA3 (λb hb=> .inl (vZ hb)) (Vq _);have hv3:=X _ _ _ _ (aC.rn (m:=seen) hA3 _ _ (λi hi=>g3 i hi) hv2);have t:=t c' w _ _ bg rfl hs3 hv3;rw [hd0] at t;obtain⟨blks,hblks⟩:∃blks,blks=seen.map λi=>ir seen (aL (aL s.h p.2) us i):=⟨_,rfl⟩;obtain⟨C,hh2⟩:∃C,C=aL (aL s.h p.2) us:=⟨_,rfl⟩;rw [<-hblks] at t;rw [<-hh2] at o g4 g5;rw [show(eC seen d none 0 (dC P An f n0 fn) xs λvs u j=>gz seen d j seen (iq An f n0) (xs.drop (m6 (dC P An f n0 fn))) λq=>K (mw vs) (p.2++us++kg seen++u++q))=
   ((eC seen d none 0 (dC P An f n0 fn) xs λvs u j=>some (vs,u,j)).bind λq0=>(gz seen d q0.2.2 seen (iq An f n0) (xs.drop (m6 (dC P An f n0 fn))) some).bind λq=>K (mw q0.1) (p.2++us++kg seen++q0.2.1++q)) from by
    rw [qp];congr 1;funext vs u j;simp only [Vj];rw [yD];rfl] at a
  replace a:=U8.1 a;obtain⟨⟨avs,u0,j0⟩,hq0,a⟩:=a;replace a:=U8.1 a;obtain⟨qs,hqs,a⟩:=a;dsimp only at hqs a;refine⟨_,_,fn,L,a,hfn,T,V,λU=> ?_⟩;refine t.mono ?_;rintro e w' ⟨rs,x1,x2,o1,o2,rfl,I,rfl,hnd,z,H,ho⟩;refine⟨_,rfl, ?_⟩;rw [sC H.length] at hqs;rw [Nd H] at hq0;obtain⟨n1,n2,n3⟩:=W6.1 hnd;have inMO:∀b,c'.MO b->c.MO b:=by
   rintro b (⟨i,_,hi⟩ | hb)
   .exact o.own i b hi
   .exact .inr (VO o.size hb)
  have fS:∀b,b < w.heap.size->(∀i,Of seen i->G i≠some b)->w'.heap[b]? =w.heap[b]?:=λb hb hn=>I.ah b hb λho=>by obtain⟨k,a,e⟩:=vZ ho;exact hn k a e
  have out:∀b∈o1++o2,∀i,¬Of seen i->G i≠some b:=by
   intro b hb i hi e;rcases(z b hb).1 with⟨k,a,hkb⟩ | hN
   .exact hi (o.inj k i b hkb e▸a)
   .have:=o.lt i b e;exact absurd hN (ZI this)
  let A1:Nat->Prop:=λb=>(c'.A0 b\/c'.MO b)/\b < w'.heap.size/\b∉o1++o2
  classical
  let Z:Id->Option Nat:=λi=>if Of seen i then none else G i;have hreal:∀i∈seen,i.real=true:=λi hi=>o.real (g4 i hi);have hofr:∀{i:Id},i.real=true->Of seen i->i∈seen:=by
   rintro i H (hi | ⟨j,n,_,rfl⟩)
   .exact hi
   .cases H
  have hofg:∀{i:Id} {n:Nat},Of seen (.g i n)->i∈seen:=by
   rintro i n (hi | ⟨j,m,hj,e⟩)
   .have:=hreal _ hi;cases this
   .cases e;exact hj
  have F:∀i b,Z i=some b->¬Of seen i/\G i=some b:=by
   intro i b h;simp only [Z] at h;split at h
   .cases h
   .rename_i hi;exact⟨hi,h⟩
  have hA4:∀b,AA c w G b->A1 b/\w'.heap[b]? =w.heap[b]?:=by
   intro b hb;refine⟨⟨.inl hb,W0 hb.2.1 I.size,λhm=> ?_⟩,fS b hb.2.1 λi _=>hb.2.2 i⟩;rcases(z b hm).1 with⟨k,_,hkb⟩ | hN
   .exact hb.2.2 k hkb
   .exact absurd hN (ZI hb.2.1)
  have hsa:gS c w' A1 (aL C (kg seen)) ρ2 Z:=by
   refine⟨λi x D=> ?_,λi hir hi=> ?_,λi n=> ?_,λi n hi=> ?_,o.gone,λi j b hi hj=> ?_,λi b hi=> ?_,λi b hi=> ?_,VO o.size I.size⟩
   .by_cases hm:i∈seen
    .rw [yA hm] at D;cases D;obtain⟨y,hy⟩:=YA.1 (g4 i hm);exact⟨o.Ll hy,if_pos (.inl hm)⟩
    .rw [uN hm] at D;have hm':¬Of seen i:=λe=>hm (hofr (o.real (by rw [D];simp)) e);have hmg:∀n,¬Of seen (.g i n):=λn e=>hm (hofg e);refine de.mono (λn=>⟨rfl,if_neg (hmg n),λb hb=>fS b (o.lt _ b hb) λk a e=>hmg n (o.inj k _ b e hb▸a)⟩) hA4 (λ_ _ h=>h) (if_neg hm') (λb hb=>fS b (o.lt i b hb) λk a e=> ?_) (o.ah i x D);exact hm' (o.inj k i b e hb▸a)
   .by_cases hm:i∈seen
    .rw [yA hm] at hi;cases hi
    .rw [uN hm] at hi;obtain⟨E,a2⟩:=o.cC i hir hi;exact⟨E,by rw [show Z i=G i from if_neg λe=>hm (hofr hir e)];exact a2⟩
   .rw [uN λhm=>by have:=hreal _ hm;cases this];exact o.eH i n
   .by_cases hm:i∈seen
    .rw [yA hm] at hi;cases hi
    .rw [uN hm] at hi;obtain⟨E,a2⟩:=o.fO i n hi;exact⟨E,by rw [show Z (.g i n)=G (.g i n) from if_neg λe=>hm (hofg e)];exact a2⟩
   .exact o.inj i j b (F i b hi).2 (F j b hj).2
   .exact W0 (o.lt i b (F i b hi).2) I.size
   .exact o.own i b (F i b hi).2
  have hbr:wS (o9 blks.length (cv seen ρ2)) seen ρ2:=by
   intro k i v a hB;simp only [o9] at hB;split at hB
   .simpa [cv,a] using hB
   .cases hB
  have hnew:∀k,(∃b,(Id.s d k,b)∈u0\/(Id.s d k,b)∈qs)->s.h (.s d k)=none:=by
   rintro k ⟨b,hb⟩;have hm:(Id.s d k,b)∈p.2++us++kg seen++u0++qs:=by
    rcases hb with hb | hb
    .exact Vn _ (Vp _ hb)
    .exact Vp _ hb
   have:=Vu.1 U _ hm;simpa using this
  have hnone:∀k,s.h (.s d k)=none->aL C (kg seen) (.s d k)=none:=by
   intro k a;rw [uN λhm=>hns _ hm k rfl,hh2];refine Kc (λk' e=> ?_) hus ?_
   .simp only [Id.s.injEq] at e;omega
   .rw [ei λx D ex=> ?_]
    .exact a
    .have C:=hfz x D;rw [ex,a] at C;rcases C with⟨sz,b,l,_,C⟩ | ⟨l,_,C⟩ <;> simp at C
  obtain⟨avs',u0',j0',hq0',_,Q,tk0⟩:=uO (c:=c) (ids:=seen) (.inl rfl) H hq0;simp only [U7,Wk] at hq0';obtain⟨rfl,rfl,rfl⟩:=hq0';obtain⟨ρ3,O3,m3,hs4,v3,rng3⟩:=tk0 _ ρ2 Z hbr hsa n1 (λb hb=>⟨(z b (Vn _ hb)).2,inMO b (z b (Vn _ hb)).1,λi hi=>out b (Vn _ hb) i (F i b hi).1 (F i b hi).2⟩)
   (λx D=>by
    obtain⟨k,_,_,e⟩:=Q x D;rw [e];exact hnone k (hnew k ⟨x.2, .inl (by rw [<-e];exact D)⟩))
  obtain⟨qs',hqs',names1,tk1⟩:=uP (c:=c) ho hqs;simp only [U7] at hqs';subst hqs';have notin0:∀x,(∀k,x≠ .s d k)->aL (aL C (kg seen)) u0' x=aL C (kg seen) x:=λx D=>ei λy hy e=>by obtain⟨k,_,_,g⟩:=Q y hy;exact D k (by rw [<-e,g])
  obtain⟨ρ4,O4,m4,hs5,rng4⟩:=tk1 _ ρ3 O3 (λk i v S e2=>m3 i v (hbr k i v S e2)) (λk i a=>by
    have hm:=Va a;refine⟨by rw [notin0 i (hns i hm),yA hm],λv hv=> ?_⟩;rw [VP] at hv;exact m3 i v (hbr k i v a hv)) hs4 n2 (λb hb=>⟨(z b (Vp _ hb)).2,inMO b (z b (Vp _ hb)).1,λi hi=>by
    rcases(rng3 b).1 ⟨i,hi⟩ with⟨k,a⟩ | a
    .exact out b (Vp _ hb) k (F k b a).1 (F k b a).2
    .exact n3 b a b hb rfl⟩) g1 (λi hi k=>hns i hi k) (λx D k e=>by
    rw [ei (λy hy ey=> ?_),e]
    .exact hnone k (hnew k ⟨x.2, .inr (by rw [<-e];exact D)⟩)
    .obtain⟨k',_,g2,g⟩:=Q y hy;rcases names1 x D with⟨k'',g6,g7⟩ | g6
     .rw [g,g7] at ey;simp only [Id.s.injEq] at ey;omega
     .exact hns _ g6 k e)
  have rng:∀b,(∃i,O4 i=some b)↔(∃i,Z i=some b)\/b∈o1++o2:=by intro b;rw [rng4 b,rng3 b,Vr,or_assoc]
  have hAA:∀b,A1 b↔AA c w' O4 b:=by
   intro b;constructor
   .rintro⟨E,a2,a3⟩;refine⟨?_,a2,λi hi=> ?_⟩
    .rcases E with E | E
     .exact E.1
     .exact .inr (inMO b E)
    .rcases(rng b).1 ⟨i,hi⟩ with⟨k,a⟩ | a
     .obtain⟨k1,k2⟩:=F k b a;rcases E with E | ⟨k',hk',e⟩ | E
      .exact E.2.2 k k2
      .exact k1 (o.inj k' k b e k2▸hk')
      .exact absurd E (ZI (o.lt k b k2))
     .exact a3 a
   .rintro⟨E,a2,a3⟩;refine⟨?_,a2,λhm=> ?_⟩
    .by_cases hb:b < w.heap.size
     .by_cases hex:∃i,G i=some b
      .obtain⟨i,hi⟩:=hex;by_cases hm:Of seen i
       .exact .inr (.inl ⟨i,hm,hi⟩)
       .obtain⟨k,a⟩:=(rng b).2 (.inl ⟨i,by simp only [Z,if_neg hm];exact hi⟩);exact(a3 k a).elim
      .exact .inl ⟨E,hb,λi hi=>hex ⟨i,hi⟩⟩
     .exact .inr (.inr (Xg hb))
    .obtain⟨k,a⟩:=(rng b).2 (.inr hm);exact a3 k a
  have le3:Le w ρ2 G w' ρ4 O4:=by
   refine⟨I.os,I.output,I.tape,I.size,λi v hi=>m4 i v (m3 i v hi),λb hb hn=>fS b hb λi _=>hn i,λi b hi=> ?_⟩;rcases(rng b).1 ⟨i,hi⟩ with⟨k,a⟩ | a
   .exact .inl ⟨k,(F k b a).2⟩
   .rcases(z b a).1 with⟨k,_,hkb⟩ | hN
    .exact .inl ⟨k,hkb⟩
    .exact .inr hN
  refine⟨ρ4,O4,cV.trans (le2.trans le3), ?_,DR (aC.mono (λb hb=>⟨(hAA b).1 hb,rfl⟩) m4 _ _ v3)⟩;have:=hs5.LB hAA;rw [hh2] at this;simp only [mE];exact this
end
open Go
section
variable {P:Program} {w w':World} {A A':Nat->Prop} {c:Ctx} {ρ ρ':Id->Option Value} {O O':Id->Option Nat} {s:St} {cc:Option Bool} {h:Id->Option ab}
theorem de.K4{i:Id}{b:Bool}{sz aD rsz nx k:Nat}{es:List Row}{e:Row}(hb:de w A ρ O i (.rows b sz aD rsz nx es))(l:es[k]? =some e)(q:Option (Bool×List (List T)))(G:∀d,A d->A' d)
  (D:ρ' i=ρ i) (z:∀n,ρ' (.g i n)=ρ (.g i n)) (I:O' i=O i) (H:∀m,m≠e.n->O' (.g i m)=O (.g i m))
  (L:match q with | some p=>∀v,ρ (.g i e.n)=some v->cT w A' rsz p.1 p.2 v (λd=>O' (.g i e.n)=some d) | none=>O' (.g i e.n)=none):
  de w A' ρ' O' i (.rows b sz aD rsz nx (es.set k {e with own:=q})):=by
 obtain⟨a,cap,r1,r2,r3,⟨M,N,n3,n4⟩,E⟩:=hb;have r:(es.set k {e with own:=q}).length=es.length:=by simp
 have x:(es.set k {e with own:=q}).map (·.n)=es.map (·.n):=by
  rw [X8];refine XL λm=> ?_;rw [WE];split
  .rename_i h;subst h;have:=(Vi.1 l).1;rw [if_pos (by simpa using this)];simp [l]
  .rfl
 refine⟨a,cap,by rw [r,D];exact r1,by rw [r];exact r2,r3,⟨by rw [x];exact M,λf j=> ?_,λm hm=>by rw [z];exact n3 m hm,λm d J=> ?_⟩, ?_⟩
 .rcases VM j with j | rfl
  .exact N f j
  .exact N e (Va l)
 .have K:∃f∈es,f.n=m:=by
   by_cases hm:m=e.n
   .exact⟨e,Va l,hm.symm⟩
   .rw [H m hm] at J;exact n4 m d J
  obtain⟨f,j,o⟩:=K;have:m∈(es.set k {e with own:=q}).map (·.n):=by rw [x];exact VK.2 ⟨f,j,o⟩
  obtain⟨X,h1,h2⟩:=VK.1 this;exact⟨X,h1,h2⟩
 .rcases E with E | ⟨ah,off,arr,t,q1,q2,q3,q4,Q⟩
  .exact .inl E
  .refine .inr ⟨ah,off,arr,t,q1,by rw [I];exact q2,q3,q4, ?_⟩;have C:=Q.get l;refine cr.set (λb hb=>⟨G b hb,rfl⟩) (Vi.1 l).1 (λ_ _ _ _=>rfl) (λm f hm j=> ?_) ?_ Q
   .have o:f.n≠e.n:=λh=>hm (vL M j l h);exact⟨z _,H _ o,λ_ _=>rfl⟩
   .obtain⟨S,U,V,u,W,F,a7⟩:=C;refine⟨S,U,λm y hm hy=> ?_,u,W,by rw [z];exact F, ?_⟩
    .obtain⟨R,Y,Z⟩:=V m y hm hy;exact⟨R,Y,aB.mono (λb hb=>⟨G b hb,rfl⟩) y R Z⟩
    .cases q with
     | none=>exact L
     | some p=>exact L u F
theorem JM{n:Nat}:∀{es:List Row} {u:Unit},mf n es=some u->∃k e,es[k]? =some e/\e.n=n/\e.own=none/\∀q,dJ n q es=es.set k {e with own:=q}
 | [],_,h=>by simp [mf] at h
 | e::es,u,h=>by
  unfold mf at h;by_cases c:e.n=n
  .rw [if_pos c] at h;split at h
   .rename_i g;exact⟨0,e,rfl,c,g,λq=>by simp [dJ,c]⟩
   .cases h
  .rw [if_neg c] at h;obtain⟨k,f,h1,a,b,d⟩:=JM h;exact⟨k+1,f,by simpa using h1,a,b,λq=>by simp [dJ,c,d q]⟩
theorem HS.iE{i new:Id}{b:Bool}{sz aD rsz nx n:Nat}{es:List Row}{p:Bool×List (List T)}{v:Value}(hs:HS c w h ρ O)(hi:h i=some (.rows b sz aD rsz nx es))(E:bA n es=some p)(hv:ρ (.g i n)=some v)
  (r:h new=none) (hrl:new.real=true):
  ∃O',Le w ρ O w (aE ρ new (some v)) O'/\HS c w (aE (aE h i (some (.rows b sz aD rsz nx (dJ n none es)))) new (some (.sl false rsz p.1 p.2))) (aE ρ new (some v)) O':=by
 have z:=hs.real (i:=i) (by rw [hi];simp);have V:i≠new:=λe=>by rw [e,r] at hi;cases hi
 obtain⟨k,e,N,t,U,C⟩:=y8 E;obtain⟨X,K,S⟩:=z9 (s:=⟨λ_=>(none, .top),h⟩) hs hi E;rw [hv] at K;cases K;let Q:Id->Option Nat:=λx=>if x=new then O (.g i n) else if x= .g i n then none else O x;have L:Q new=O (.g i n):=by simp only [Q,if_true]
 have M:Q (.g i n)=none:=by simp only [Q,if_neg (aP hrl),if_true]
 have l:∀x,x≠new->x≠ .g i n->Q x=O x:=λx h1 f=>by simp only [Q,if_neg h1,if_neg f]
 have j:∀x d,Q x=some d->(x=new/\O (.g i n)=some d)\/(x≠new/\x≠ .g i n/\O x=some d):=by
  intro x d a;simp only [Q] at a;split at a
  .exact .inl ⟨by assumption,a⟩
  .split at a
   .cases a
   .exact .inr ⟨by assumption,by assumption,a⟩
 obtain⟨R,W⟩:=hs.cC new hrl r;have le:Le w ρ O w (aE ρ new (some v)) Q:=⟨rfl,rfl,rfl,Vq _,λx u a=>by
  by_cases e:x=new
  .subst e;rw [R] at a;cases a
  .rw [ar _ _ e];exact a,λ_ _ _=>rfl,λx d a=>by
  rcases j x d a with⟨_,h⟩ | ⟨_,_,h⟩
  .exact .inl ⟨_,h⟩
  .exact .inl ⟨_,h⟩⟩
 refine⟨Q,le,hs.o7 le (λx y a=> ?_) (λx F a=> ?_) (λx m=>by rw [ar _ _ (aP hrl),ar _ _ (aP z)];exact hs.eH x m) (λx m a=> ?_) (λx m u H=>by rw [ar _ _ (aP hrl)] at H;exact hs.gone x m u H) (λx y d a hy=> ?_) (λx d a=> ?_)⟩
 .by_cases o:x=new
  .subst o;rw [aF] at a;cases a;right;refine⟨v,aF _ _ _,cT.mono (λd q=>le.A d q) (λd q=>⟨?_,rfl⟩) S,by simp⟩;simp only [VF,if_false];rw [L];exact q
  .rw [ar _ _ o] at a;by_cases e2:x=i
   .subst e2;rw [aF] at a;cases a;right;rw [C];refine de.K4 (hs.ah x _ hi) N none (λd q=>(le.A d q).1) (ar _ _ o) (λm=>ar _ _ (aP hrl)) (l x o (aP z).symm) (λm hm=>l _ (aP hrl) ?_) ?_
    .intro h;simp only [Id.g.injEq,true_and] at h;exact hm (h.trans t.symm)
    .simp only;rw [t];exact M
   .rw [ar _ _ e2] at a;have G:=hs.real (i:=x) (by rw [a];simp);refine .inl ⟨a,l x o (aP G).symm,λ_ _=>rfl,λm=>⟨ar _ _ (aP hrl),l _ (aP hrl) ?_,λ_ _=>rfl⟩⟩;intro h;simp only [Id.g.injEq] at h;exact e2 h.1
 .have h1:x≠new:=λe=>by rw [e,aF] at a;cases a
  rw [ar _ _ h1] at a;have f:x≠i:=λe=>by rw [e,aF] at a;cases a
  rw [ar _ _ f] at a;rw [ar _ _ h1,l x h1 (aP F).symm];exact hs.cC x F a
 .have h1:x≠new:=λe=>by rw [e,aF] at a;cases a
  rw [ar _ _ h1] at a;have f:x≠i:=λe=>by rw [e,aF] at a;cases a
  rw [ar _ _ f] at a;rw [ar _ _ (aP hrl),l _ (aP hrl) (by intro h;simp only [Id.g.injEq] at h;exact f h.1)];exact hs.fO x m a
 .rcases j x d a with⟨h1,f⟩ | ⟨h1,f,D⟩ <;> rcases j y d hy with⟨I,k2⟩ | ⟨I,k2,J⟩
  .rw [h1,I]
  .exact(k2 (hs.inj _ _ d J f)).elim
  .exact(f (hs.inj _ _ d D k2)).elim
  .exact hs.inj x y d D J
 .rcases j x d a with⟨_,h⟩ | ⟨_,_,h⟩
  .exact hs.lt _ d h
  .exact hs.lt _ d h
theorem HS.back{i new:Id}{b bb:Bool}{sz aD rsz nx n:Nat}{es:List Row}{xs:List (List T)}{v:Value}{u:Unit}(hs:HS c w h ρ O)(hi:h i=some (.rows b sz aD rsz nx es))(N:mf n es=some u)(j:h new=some (.sl false rsz bb xs))
  (hv:ρ (.g i n)=some v) (D:ρ new=some v):
  ∃O',Le w ρ O w ρ O'/\HS c w (aE (aE h i (some (.rows b sz aD rsz nx (dJ n (some (bb,xs)) es)))) new (some .dead)) ρ O':=by
 have t:=hs.real (i:=i) (by rw [hi];simp);have hrl:=hs.real (i:=new) (by rw [j];simp);have V:i≠new:=λe=>by rw [e,j] at hi;cases hi
 obtain⟨k,e,M,q,U,C⟩:=JM N;obtain⟨S,J,R,_⟩:=hs.ah new _ j;rw [D] at J;cases J;let Q:Id->Option Nat:=λx=>if x=new then none else if x= .g i n then O new else O x;have K:Q new=none:=by simp only [Q,if_true]
 have L:Q (.g i n)=O new:=by simp only [Q,if_neg (aP hrl),if_true]
 have o:∀x,x≠new->x≠ .g i n->Q x=O x:=λx h1 f=>by simp only [Q,if_neg h1,if_neg f]
 have l:∀x d,Q x=some d->(x= .g i n/\O new=some d)\/(x≠new/\x≠ .g i n/\O x=some d):=by
  intro x d a;simp only [Q] at a;split at a
  .cases a
  .split at a
   .exact .inl ⟨by assumption,a⟩
   .exact .inr ⟨by assumption,by assumption,a⟩
 have le:Le w ρ O w ρ Q:=⟨rfl,rfl,rfl,Vq _,λ_ _ h=>h,λ_ _ _=>rfl,λx d a=>by
  rcases l x d a with⟨_,h⟩ | ⟨_,_,h⟩
  .exact .inl ⟨_,h⟩
  .exact .inl ⟨_,h⟩⟩
 refine⟨Q,le,hs.o7 le (λx y a=> ?_) (λx G a=> ?_) (λx m=>by rw [ar _ _ (aP hrl),ar _ _ (aP t)];exact hs.eH x m) (λx m a=> ?_) hs.gone (λx y d a hy=> ?_) (λx d a=> ?_)⟩
 .by_cases r:x=new
  .subst r;rw [aF] at a;cases a;exact .inr ⟨⟨v,D,kF hs D⟩,K⟩
  .rw [ar _ _ r] at a;by_cases e2:x=i
   .subst e2;rw [aF] at a;cases a;right;rw [C];refine de.K4 (hs.ah x _ hi) M (some (bb,xs)) (λd p=>(le.A d p).1) rfl (λm=>rfl) (o x r (aP t).symm) (λm hm=>o _ (aP hrl) ?_) ?_
    .intro h;simp only [Id.g.injEq,true_and] at h;exact hm (h.trans q.symm)
    .simp only;intro S z;rw [q,hv] at z;cases z;refine cT.mono (λd p=>le.A d p) (λd p=>⟨?_,rfl⟩) R;simp only [VF,if_false] at p;rw [q,L];exact p
   .rw [ar _ _ e2] at a;have H:=hs.real (i:=x) (by rw [a];simp);refine .inl ⟨a,o x r (aP H).symm,λ_ _=>rfl,λm=>⟨rfl,o _ (aP hrl) ?_,λ_ _=>rfl⟩⟩;intro h;simp only [Id.g.injEq] at h;exact e2 h.1
 .have h1:x≠new:=λe=>by rw [e,aF] at a;cases a
  rw [ar _ _ h1] at a;have f:x≠i:=λe=>by rw [e,aF] at a;cases a
  rw [ar _ _ f] at a;rw [o x h1 (aP G).symm];exact hs.cC x G a
 .have h1:x≠new:=λe=>by rw [e,aF] at a;cases a
  rw [ar _ _ h1] at a;have f:x≠i:=λe=>by rw [e,aF] at a;cases a
  rw [ar _ _ f] at a;rw [o _ (aP hrl) (by intro h;simp only [Id.g.injEq] at h;exact f h.1)];exact hs.fO x m a
 .rcases l x d a with⟨h1,f⟩ | ⟨h1,f,F⟩ <;> rcases l y d hy with⟨E,k2⟩ | ⟨E,k2,I⟩
  .rw [h1,E]
  .exact(E (hs.inj _ _ d I f)).elim
  .exact(h1 (hs.inj _ _ d F k2)).elim
  .exact hs.inj x y d F I
 .rcases l x d a with⟨_,h⟩ | ⟨_,_,h⟩
  .exact hs.lt _ d h
  .exact hs.lt _ d h
theorem DZ:∀{args:List AV} {bg:List Value} {d:List AV} {i:Id} {n:Nat} {e:List AV},aC w A ρ args bg->n7 args=some (d,i,n,e)->
  ∃v,ρ (.g i n)=some v/\∀(ρ':Id->Option Value) (new:Id),(∀x u,ρ x=some u->ρ' x=some u)->(∀b,A b->A' b)->ρ' new=some v->aC w A' ρ' (d++ .own new::e) bg
 | [],_,_,_,_,_,_,h=>by simp [n7] at h
 | a::args,bg,d,i,n,e,hv,h=>by
  simp only [aC] at hv;obtain⟨u,r,rfl,k,m⟩:=hv
  have j:(n7 args).bind (λq=>some (a::q.1,q.2.1,q.2.2.1,q.2.2.2))=some (d,i,n,e)->
    ∃v,ρ (.g i n)=some v/\∀(ρ':Id->Option Value) (new:Id),(∀x u,ρ x=some u->ρ' x=some u)->(∀b,A b->A' b)->ρ' new=some v->aC w A' ρ' (d++ .own new::e) (u::r):=by
   intro h;obtain⟨⟨y,i',t,z⟩,o,h⟩:=U8.1 h;simp only [U7,Wk] at h;obtain⟨rfl,rfl,rfl,rfl⟩:=h;obtain⟨v,p,k2⟩:=DZ m o;refine⟨v,p,λρ' new hm f l=> ?_⟩;simp only [Vf,aC];exact⟨u,r,rfl,an.mono (λb hb=>⟨f b hb,rfl⟩) hm _ _ k,k2 ρ' new hm f l⟩
  cases a
  case row i' t=>simp only [n7,U7,Wk] at h;obtain⟨rfl,rfl,rfl,rfl⟩:=h;simp only [an] at k;refine⟨u,k,λρ' new hm f l=> ?_⟩;simp only [Vg,aC];exact⟨u,r,rfl,by simp only [an];exact l,aC.mono (λb hb=>⟨f b hb,rfl⟩) hm _ _ m⟩
  all_goals exact j h
theorem MX{R:Type}{An:cM}{Or:au}(U:jG P An Or){iE:Bool}{d:Nat}{f:FuncId}{args:List AV}{bg:List Value}{K:AV->aH->Option R}{r:R}(hc:cc=none\/cc=some true)(hs:HS c w s.h ρ O)(hv:aC w (AA c w O) ρ args bg)
  (a:jJ iE P An Or s d cc f args K=some r):
  ∃v us fn l,K v us=some r/\P.funcs[f]? =some fn/\fn.body=some l/\fn.name≠ "runtime.NumGoroutine" /\
   (jq d s.h us=true->Calls P f bg.toArray w λe w'=>∃x,e= .returned x/\∃ρ' O',Le w ρ O w' ρ' O'/\HS c w' (aL s.h us) ρ' O'/\an w' (AA c w' O') ρ' v x):=by
 unfold jJ at a;split at a
 .exact FI U hc hs hv a
 .rename_i l1 i n l2 o;have o:n7 args=some (l1,i,n,l2):=by
   cases iE with
   | true=>exact o
   | false=>cases o
  split at a
  .rename_i b sz aD rsz nx es hi;replace a:=aO a (.inl rfl);obtain⟨p,hp,a⟩:=a;cases m:s.h (.s (2500000+d) 0) with
   | some x=>rw [m] at a;simp at a
   | none=>
    rw [m] at a;simp only [Zs,cond_true] at a;obtain⟨Q,E,hargs⟩:=DZ (A':=AA c w O) hv o;obtain⟨S,cV,Z⟩:=hs.iE (new:= .s (2500000+d) 0) hi hp E m rfl;have z:aC w (AA c w S) (aE ρ (.s (2500000+d) 0) (some Q)) (l1++ .own (.s (2500000+d) 0)::l2) bg:=by obtain⟨v1,z,D⟩:=DZ (A':=AA c w S) hv o;rw [E] at z;cases z;exact D _ _ cV.eU (λb hb=>(cV.A b hb).1) (aF _ _ _)
    obtain⟨v,us,fn,l,a,W,H,M,I⟩:=FI (s:=⟨s.t,_⟩) U (cc:=none) (.inl rfl) Z z a;unfold uI at a;split at a
    .rename_i b2 sz2 col2 rsz2 nx2 es2 G b3 xs3 T e2;split at a
     .rename_i J;obtain⟨rfl,rfl⟩:=J;replace a:=aO a (.inl rfl);obtain⟨u,hu,a⟩:=a;refine⟨v,_,fn,l,a,W,H,M,λL=> ?_⟩;have X:jq d (aE (aE s.h i (some (.rows b sz aD G nx (dJ n none es)))) (.s (2500000+d) 0) (some (.sl false G p.1 p.2))) us=true:=by
       refine Vu.2 λq o=> ?_;have:=Vu.1 L q (Vn _ (Vp _ o));obtain⟨x,y⟩:=q;cases x with
       | s C k=>
        simp only at this⊢;by_cases V:C=d
        .subst V;have Y:s.h (.s C k)=none:=by simpa using this
         have h1:Id.s C k≠ .s (2500000+C) 0:=by intro h;simp only [Id.s.injEq] at h;omega
         have h2:Id.s C k≠i:=λh=>by rw [<-h,Y] at hi;cases hi
         rw [ar _ _ h1,ar _ _ h2,Y];simp
        .simp [V]
       | c k=>rfl
       | g j k=>exact this
      refine(I X).mono ?_;rintro e w' ⟨x,rfl,ρ',O',F,hs2,hx⟩;have hw:ρ' (.s (2500000+d) 0)=some Q:=F.eU _ _ (aF _ _ _);have hv2:ρ' (.g i n)=some Q:=F.eU _ _ (cV.eU _ _ E);rw [mE,dA,eP] at T e2;obtain⟨O3,N,hs3⟩:=hs2.back T hu e2 hv2 hw;refine⟨x,rfl,ρ',O3,cV.trans (F.trans N), ?_,an.mono (λb hb=>N.A b hb) (λ_ _ h=>h) _ _ hx⟩;rw [mE,mE,dA,eP,dA,eP];exact hs3
     .simp at a
    .simp at a
  .simp at a
end
open Go
section
variable {P:Program} {An:cM} {Or:au} {w w':World} {A A':Nat->Prop} {c:Ctx} {ρ:Id->Option Value} {O:Id->Option Nat} {s:St} {cc:Option Bool} {h:Id->Option ab}
def Good(P:Program)(c:Ctx)(w:World)(s:St)(ρ:Id->Option Value)(O:Id->Option Nat)(o:Oper)(a:Act)(v:AV)(us:aH):Prop:=
 ja P o a w λx w'=>∃ρ' O',Le w ρ O w' ρ' O'/\HS c w' (aL s.h us) ρ' O'/\an w' (AA c w' O') ρ' v x
theorem Good.pure{o:Oper}{a:Act}{v:AV}{x:Value}(hs:HS c w s.h ρ O)(b:(execOp a.eval o).run P w= .ok (.value x) w)(hv:an w (AA c w O) ρ v x):Good P c w s ρ O o a v []:=by unfold Good ja;rw [b];exact⟨ρ,O,Le.refl,hs,hv⟩
theorem Good.val{o:Oper}{a:Act}{v:AV}{us:aH}{x:Value}{ρ':Id->Option Value}{O':Id->Option Nat}(b:(execOp a.eval o).run P w= .ok (.value x) w')(le:Le w ρ O w' ρ' O')(hs:HS c w' (aL s.h us) ρ' O')(hv:an w' (AA c w' O') ρ' v x):Good P c w s ρ O o a v us:=by unfold Good ja;rw [b];exact⟨ρ',O',le,hs,hv⟩
theorem sI{a:Act}{g:Option Gs}(d:SS w A ρ s.t a.tmps)(b:kP a.tmps g):∀(xs:List Operand),aC w A ρ (xs.map (s.get g)) (xs.map a.eval)
 | []=>by simp [aC]
 | x::xs=>by simp only [V6,aC];exact⟨_,_,rfl,SS.get (h:=s.h) d b x,sI d b xs⟩
theorem Pv{op:BinOp}(h:op≠ .eql/\op≠ .neq){t:TypeId}{x y:Operand}{a b:Value}:(eqGuard op t x y a b).run P w= .ok () w:=by cases op <;> simp_all [eqGuard]
set_option maxHeartbeats 2000000 in
theorem Fe(hO:jG P An Or){o:Oper}{a:Act}{g:Option Gs}{v:AV}{us:aH}(hs:HS c w s.h ρ O)(Y:SS w (AA c w O) ρ s.t a.tmps)(X:kP a.tmps g)(j:dG P An Or g o s=some (v,us))(N:jq (o.dst.getD 0) s.h us=true):
  Good P c w s ρ O o a v us:=by
 have H:=X.cond;have ev:∀x,an w (AA c w O) ρ (s.get g x) (a.eval x):=λx=>SS.get (h:=s.h) Y X x;have tt:∀x y,(s.get g x).t? =some y->aB w (AA c w O) y (a.eval x):=by intro x y e;have:=ev x;rw [AV.mB e] at this;simpa [an] using this
 have D:∀{v':AV} {V:aH},some (v',V)=some (v,us)->v'=v/\V=us:=by intro v' V e;simpa using e
 unfold dG jI at j;cases E:o.op <;> rw [E] at j <;> dsimp only at j
 case move x=>obtain⟨rfl,rfl⟩:=D j;exact Good.pure hs (by simp [execOp,E]) (ev x)
 case assign x=>obtain⟨rfl,rfl⟩:=D j;exact Good.pure hs (by simp [execOp,E]) (ev x)
 case pick k x y=>
  replace j:=U8.1 j;obtain⟨k',hk',j⟩:=j;have hkv:=tt k k' hk';replace j:=aO j H;obtain⟨kb,hkb,j⟩:=j;have:=T.jf hkb;subst this;simp only [aB] at hkv;replace j:=U8.1 j;obtain⟨tx,htx,j⟩:=j;replace j:=qJ j;obtain⟨xb,j,hxb⟩:=j;replace j:=U8.1 j;obtain⟨ty,hty,j⟩:=j;replace j:=qJ j;obtain⟨yb,j,hyb⟩:=j;obtain⟨rfl,rfl⟩:=D j;have hg:∀b,zj (g.map (·.c)) b=some b:=by intro b;unfold zj;rcases H with e | e <;> rw [e] <;> rfl
  refine Good.pure (x:= .bool (cond kb xb yb)) hs ?_ (by simp [an,aB]);simp only [execOp,E,hkv];cases kb with
  | true=>
   have arm:=SS.mS (h:=s.h) Y X k x true hkv;rw [AV.mB htx] at arm;rcases hxb with e | ⟨_,e⟩
   .have:=T.jf e;subst this;simp only [an,aB] at arm;simp [asBool,arm]
   .rw [hg] at e;cases e
  | false=>
   have arm:=SS.mS (h:=s.h) Y X k y false hkv;rw [AV.mB hty] at arm;rcases hyb with e | ⟨_,e⟩
   .have:=T.jf e;subst this;simp only [an,aB] at arm;simp [asBool,arm]
   .rw [hg] at e;cases e
 case alloc t=>
  cases G:g.map (·.c) with
  | some b=>simp [G] at j
  | none=>simp only [G] at j;replace j:=U8.1 j;obtain⟨l,S,j⟩:=j;obtain⟨rfl,rfl⟩:=D j;obtain⟨i,z,hi,hz,hof⟩:=oA S;have hzr:aR w (AA c w O) l z.cells.toList:=po hof;obtain⟨M,Q⟩:=hs.JB (i:= .s (o.dst.getD 0) 0) (kY N (Vk.2 rfl)) t (aC.mn (ρ:=ρ) hzr) hzr.one;refine Good.val (x:= .pointer (some ⟨w.heap.size,0,none⟩)) (w':=w.alloc (.cells z.cells.toList.toArray t)) ?_ M (by rw [eP];exact Q) (by simp [an]);simp [execOp,E,Instr.alloc,zeroValue,typeInfo,hi,hz,newVar,KC]
 case box t x=>
  cases G:g.map (·.c) with
  | some b=>simp [G] at j
  | none=>
   simp only [G] at j;split at j
   .rename_i hcell;obtain⟨rfl,rfl⟩:=D j;obtain⟨M,Q⟩:=yo hs (ev x) hcell;obtain⟨k1,k2⟩:=hs.JB (i:= .s (o.dst.getD 0) 0) (kY N (Vk.2 rfl)) t M Q;refine Good.val (x:= .pointer (some ⟨w.heap.size,0,none⟩)) (w':=w.alloc (.cells (a.eval x).cells.toList.toArray t)) ?_ k1 (by rw [eP];exact k2) (by simp [an]);simp [execOp,E,Instr.box,newVar,KC]
   .simp at j
 case build t ps=>replace j:=U8.1 j;obtain⟨v',K,j⟩:=j;obtain⟨rfl,rfl⟩:=D j;obtain⟨x,h1,I⟩:=MN hs Y X K;exact Good.pure hs (by simp only [execOp,E,Vz,h1,Vm,VQ]) I
 case buildSlice t n ps=>
  replace j:=U8.1 j;obtain⟨e,he,j⟩:=j;obtain⟨hu,Z⟩:=yU he;split at j
  .split at j
   .rename_i x G hps;split at j
    .rename_i hcond;obtain⟨⟨S,hall⟩,hn2,hpos,hz⟩:=hcond;obtain⟨rfl,rfl⟩:=D j;obtain⟨M,Q⟩:=yo hs (ev x) hall;have hsz:(a.eval x).cells.size=P.cellsOf e:=by rw [<-S,<-VH];exact M.length
     have C:=D6 (n:=1) (w:=w) hu Z hz hpos ⟨by omega,hn2⟩ [a.eval x] (by simpa using hsz) (by simp) (ps.map λ(i,x)=>(i,a.eval x)) (by simp [ZJ,hps]);have hi:s.h (.s (o.dst.getD 0) 0)=none:=kY N Vb;obtain⟨k1,k2⟩:=hs.Ry hi (cs:=ic _) (arr:=([a.eval x].flatMap λv=>v.cells.toList).toArray) e (by simpa using M) (by simpa using Q);refine Good.val (x:= .slice (some ⟨w.heap.size,0,none⟩) 1 1) (by simp only [execOp,E,Vz,C,Vm,VQ]) k1 (by rw [eP];exact k2) ?_;simp [an]
    .simp at j
   .simp at j
  split at j
  .rename_i hcond;obtain⟨hn,hn1,hn2,hpos,hz⟩:=hcond;split at j
   .rename_i h0;obtain⟨h00,_⟩:=h0;obtain⟨rfl,rfl⟩:=D j;have hps:ps.toList= []:=Vt.1 (by rw [VH];omega);have C:=D6 (w:=w) hu Z hz hpos ⟨hn1,hn2⟩ [] (by simp) (by simp [h00]) (ps.map λ(i,x)=>(i,a.eval x)) (by simp [ZJ,hps]);have exec:(execOp a.eval o).run P w= .ok (.value (.slice (some ⟨w.heap.size,0,none⟩) n n)) (w.alloc (.cells (([]:List Value).flatMap λv=>v.cells.toList).toArray e)):=by
     simp only [execOp,E,Vz,C,Vm,VQ]
    have lew:Le w ρ O (w.alloc (.cells (([]:List Value).flatMap λv=>v.cells.toList).toArray e)) ρ O:=⟨rfl,rfl,rfl,by simp,λ_ _ h=>h,λb hb _=>VW _ _ _ hb,λi b h=> .inl ⟨i,h⟩⟩;have hs2:=hs.world lew λi ah hi=>VW _ _ _ (hs.lt i ah hi);refine Good.val exec lew hs2 ?_;simp only [an,aB];exact .inr ⟨trivial,_,_,_,by rw [h00]⟩
   replace j:=U8.1 j;obtain⟨q,hq,j⟩:=j;obtain⟨hfz,hlen⟩:=Hn hq;obtain⟨O1,cV,hs1,hO1,hf1,hkeep⟩:=hs.sO hfz;obtain⟨vs,e1,e2,e3⟩:=Ho hs Y X cV hO1 hq hf1;have hvl:vs.length=n:=by have:=congrArg List.length e1;simp only [W9,List.length_zipIdx] at this;rw [<-this,VH,hn]
   have C:=D6 (w:=w) hu Z hz hpos ⟨hn1,hn2⟩ vs e3 hvl (ps.map λ(i,x)=>(i,a.eval x)) (by simp only [ZJ];exact e1);have hq1:q.1.length=n:=by have:=e2.length.1;simp only [W9] at this;omega
   have fl:(vs.map λv=>v.cells.toList).flatten=vs.flatMap λv=>v.cells.toList:=rfl;have exec:(execOp a.eval o).run P w= .ok (.value (.slice (some ⟨w.heap.size,0,none⟩) n n)) (w.alloc (.cells (vs.flatMap λv=>v.cells.toList).toArray e)):=by simp only [execOp,E,Vz,C,Vm,VQ]
   cases G:g.map (·.c) with
   | some b=>
    simp only [G] at j;obtain⟨rfl,rfl⟩:=D j;have lew:Le w ρ O1 (w.alloc (.cells (vs.flatMap λv=>v.cells.toList).toArray e)) ρ O1:=⟨rfl,rfl,rfl,by simp,λ_ _ h=>h,λb hb _=>VW _ _ _ hb,λi b h=> .inl ⟨i,h⟩⟩;have hs2:=hs1.world lew λi ah hi=>VW _ _ _ (hs1.lt i ah hi);refine Good.val exec (cV.trans lew) hs2 ?_;simp only [an,aB];right;refine⟨trivial,w.heap.size,0,none,n,by rw [hq1],by omega, ?_, ?_⟩
    .right;refine⟨rfl, ?_⟩;refine⟨.inr (.inr hs.size),by simp,λi hi=>XN _ (hs1.lt i _ hi)⟩
    .refine aZ.lA (cB.mono (λb hb=>lew.A b hb) e2) (λp v hp=> ?_);rw [kU (kZ _),VP,<-fl];simpa using hp
   | none=>
    simp only [G] at j;obtain⟨rfl,rfl⟩:=D j;have hi:s.h (.s (o.dst.getD 0) 0)=none:=kY N Vb;have hi1:aL s.h q.2 (.s (o.dst.getD 0) 0)=none:=by
     rw [ei (λp hp e=> ?_)]
     .exact hi
     .have I:=hfz p hp;rw [e,hi] at I;rcases I with⟨sz,b,l,_,I⟩ | ⟨l,_,I⟩ <;> simp at I
    obtain⟨k1,k2⟩:=hs1.Dm (sz:=P.cellsOf e) hi1 e (vs.flatMap λv=>v.cells.toList).toArray n e2 (λp v hp=>by rw [<-fl];simpa using hp) (by omega) (by
     have:=e2.length.2;simp only [WX];rw [<-fl,this,hq1];exact Vq _)
    rw [hq1] at k1 k2;refine Good.val exec (cV.trans k1) ?_ ?_
    .rw [dA];have:aL (aE s.h (.s (o.dst.getD 0) 0) (some (.sl false (P.cellsOf e) false q.1))) q.2=aE (aL s.h q.2) (.s (o.dst.getD 0) 0) (some (.sl false (P.cellsOf e) false q.1)):=by
      refine wN (λp hp e=> ?_);have I:=hfz p hp;rw [e,hi] at I;rcases I with⟨sz,b,l,_,I⟩ | ⟨l,_,I⟩ <;> simp at I
     rw [this];exact k2
    .simp [an]
  .simp at j
 case load t x=>obtain⟨av,y,e,C,hv⟩:=IZ hs (ev x) H j;obtain⟨rfl,rfl⟩:=D e;exact Good.pure (x:=y) hs (by simp only [execOp,E,Vz,C,Vm,VQ]) hv
 case store t x y=>
  cases G:g.map (·.c) with
  | some b=>simp [G] at j
  | none=>simp only [G] at j;obtain⟨V,w',ρ',O',e,C,le,U⟩:=TG hs (ev x) (ev y) j;obtain⟨rfl,rfl⟩:=D e;unfold Good ja;simp only [execOp,E,Vz,C,Vm,VQ];exact⟨ρ',O',le,U,by simp [an]⟩
 case nilCheck x=>
  have hv:=ev x;split at j
  .rename_i i k e;obtain⟨rfl,rfl⟩:=D j;rw [e] at hv;have K:=hv;simp only [an] at K;obtain⟨b,_,e2⟩:=K;exact Good.pure hs (by simp [execOp,E,e2]) hv
  .rename_i i sz k off e;obtain⟨rfl,rfl⟩:=D j;rw [e] at hv;have K:=hv;simp only [an] at K;obtain⟨b,o',L,cap,_,e2⟩:=K;exact Good.pure hs (by simp [execOp,E,e2]) hv
  .rename_i i sz n k off e;obtain⟨rfl,rfl⟩:=D j;rw [e] at hv;have K:=hv;simp only [an] at K;obtain⟨b,o',L,cap,_,e2⟩:=K;exact Good.pure hs (by simp [execOp,E,e2]) hv
  .rename_i y e;replace j:=aO j H;obtain⟨cs,hcs,j⟩:=j;obtain⟨rfl,rfl⟩:=D j;have:=T.zP hcs;subst this;rw [e] at hv;have K:=hv;simp only [an,aB] at K;obtain⟨b,o',e2,_⟩:=K;exact Good.pure hs (by simp [execOp,E,e2]) hv
  .rename_i f x' y' e;obtain⟨rfl,rfl⟩:=D j;rw [e] at hv;have K:=hv;simp only [an] at K;obtain⟨_,_,e2,_⟩:=K;exact Good.pure hs (by simp [execOp,E,e2]) hv
  .simp at j
 case binOp op t x y ty=>
  have nilx:∀b,pk P t y=true->jP P s t (s.get g x)=some b->_:=λb h1 I=>IH (P:=P) hs (ev x) I y h1 a x y;have nily:∀b,pk P t x=true->jP P s t (s.get g y)=some b->_:=λb h1 I=>IH (P:=P) hs (ev y) I x h1 a x y;have go:∀(z:Value),(eqGuard op t x y (a.eval x) (a.eval y)).run P w= .ok () w->(binOp op t (a.eval x) (a.eval y)).run P w= .ok z w->(execOp a.eval o).run P w= .ok (.value z) w:=by intro z h1 I;simp only [execOp,E,Vz,h1,I,Vm,VQ]
  split at j
  .rename_i h1;replace j:=U8.1 j;obtain⟨b,hb,j⟩:=j;obtain⟨rfl,rfl⟩:=D j;obtain⟨M,Q⟩:=(nilx b h1 hb).1;exact Good.pure hs (go _ M Q) (by simp [an,aB])
  .rename_i h1;replace j:=U8.1 j;obtain⟨b,hb,j⟩:=j;obtain⟨rfl,rfl⟩:=D j;obtain⟨M,Q⟩:=(nilx b h1 hb).2.1;exact Good.pure hs (go _ M Q) (by simp [an,aB])
  .rename_i h1 _;replace j:=U8.1 j;obtain⟨b,hb,j⟩:=j;obtain⟨rfl,rfl⟩:=D j;obtain⟨M,Q⟩:=(nily b h1 hb).2.2.1;exact Good.pure hs (go _ M Q) (by simp [an,aB])
  .rename_i h1 _;replace j:=U8.1 j;obtain⟨b,hb,j⟩:=j;obtain⟨rfl,rfl⟩:=D j;obtain⟨M,Q⟩:=(nily b h1 hb).2.2.2;exact Good.pure hs (go _ M Q) (by simp [an,aB])
  .obtain⟨b,e,⟨M,Q⟩,_⟩:=HQ (P:=P) H (ev x) (ev y) j x y;obtain⟨rfl,rfl⟩:=D e;exact Good.pure hs (go _ M Q) (by simp [an,aB])
  .obtain⟨b,e,_,⟨M,Q⟩⟩:=HQ (P:=P) H (ev x) (ev y) j x y;obtain⟨rfl,rfl⟩:=D e;exact Good.pure hs (go _ M Q) (by simp [an,aB])
  .replace j:=U8.1 j;obtain⟨x',hx',j⟩:=j;replace j:=U8.1 j;obtain⟨y',hy',j⟩:=j;obtain⟨hne,z,vz,e,hv,C⟩:=MG (P:=P) H (tt x x' hx') (tt y y' hy') j;obtain⟨rfl,rfl⟩:=D e;exact Good.pure hs (go _ (Pv hne) C) (by simpa [an] using hv _ _)
 case unOp op t x=>replace j:=U8.1 j;obtain⟨x',hx',j⟩:=j;obtain⟨z,y,e,hv,C⟩:=UL (P:=P) H (tt x x' hx') j;obtain⟨rfl,rfl⟩:=D e;exact Good.pure (x:=y) hs (by simp only [execOp,E,Vz,C,Vm,VQ]) (by simpa [an] using hv _ _)
 case convert src dst x=>
  split at j
  .rename_i e hu hu';split at j
   .rename_i he;unfold sS at he;split at he
    .rename_i k he';simp only [U7] at he;subst he;replace j:=U8.1 j;obtain⟨y,hy,j⟩:=j;replace j:=aO j H;obtain⟨l,S,j⟩:=j;replace S:=U8.1 S;obtain⟨p,hp,S⟩:=S;obtain⟨rfl,rfl⟩:=D j;have C:=MR hs hu hu' he' (ev x) hy hp S;exact Good.pure (x:= .string ⟨l.toArray⟩) hs (by simp only [execOp,E,Vz,C,Vm,VQ]) (by simp [an,aB])
    .simp at he
   .simp at j
  .replace j:=U8.1 j;obtain⟨x',hx',j⟩:=j;obtain⟨z,y,e,C,hv⟩:=Na H (tt x x' hx') j;obtain⟨rfl,rfl⟩:=D e;exact Good.pure (x:=y) hs (by simp only [execOp,E,Vz,C,Vm,VQ]) (by simpa [an] using hv)
 case makeFunc fn fst caps=>
  cases fn with
  | func f=>dsimp only at j;obtain⟨rfl,rfl⟩:=D j;refine Good.pure (x:= .func (.func f) (fst.map a.eval) (caps.map a.eval)) hs (by simp only [execOp,E,Instr.makeFunc,Vz,VQ,Vm]) ?_;simp only [an];refine⟨fst.toList.map a.eval,caps.toList.map a.eval, ?_,sI Y X _,sI Y X _⟩;rw [show(fst.toList.map a.eval).toArray=fst.map a.eval from XJ (by simp),show(caps.toList.map a.eval).toArray=caps.map a.eval from XJ (by simp)]
  | _=>simp at j
 case makeSlice t l m=>
  cases G:g.map (·.c) with
  | some b=>simp [G] at j
  | none=>simp only [G] at j;replace j:=U8.1 j;obtain⟨n,hn,j⟩:=j;replace j:=U8.1 j;obtain⟨k,hk',j⟩:=j;obtain⟨v',V,e,hg⟩:=QT (vn:=a.eval l) (vm:=a.eval m) hs (by simpa [an] using tt l n hn) (by simpa [an] using tt m k hk') j;obtain⟨rfl,rfl⟩:=D e;obtain⟨u,w',ρ',O',C,le,U,hv⟩:=hg N;exact Good.val (x:=u) (by simp only [execOp,E,Vz,C,Vm,VQ]) le U hv
 case makeMap t m=>
  cases G:g.map (·.c) with
  | some b=>simp [G] at j
  | none=>
   cases m with
   | some m=>simp [G] at j
   | none=>simp only [G] at j;obtain⟨v',V,e,hg⟩:=QV hs j;obtain⟨rfl,rfl⟩:=D e;obtain⟨u,w',ρ',O',C,le,U,hv⟩:=hg N;exact Good.val (x:=u) (by simp only [execOp,E,YH,Vz,C,Vm,VQ]) le U hv
 case lookup t x k ok=>obtain⟨av,y,e,C,hv⟩:=QL hs (ev x) (ev k) H j;obtain⟨rfl,rfl⟩:=D e;exact Good.pure (x:=y) hs (by simp only [execOp,E,Vz,C,Vm,VQ]) hv
 case mapUpdate t x k v'=>
  cases G:g.map (·.c) with
  | some b=>simp [G] at j
  | none=>simp only [G] at j;obtain⟨V,w',e,C,le,U⟩:=R6 hs (ev x) (ev k) (ev v') j;obtain⟨rfl,rfl⟩:=D e;unfold Good ja;simp only [execOp,E,Vz,C,Vm,VQ];exact⟨ρ,O,le,U,by simp [an]⟩
 case slice t x lo hi mx=>obtain⟨blo,j,h1⟩:=BD Y X H j;obtain⟨bhi,j,I⟩:=BD Y X H j;obtain⟨bmx,j,h3⟩:=BD Y X H j;obtain⟨av,y,e,C,hv⟩:=Tu (P:=P) hs (ev x) H h1 I h3 j;obtain⟨rfl,rfl⟩:=D e;exact Good.pure (x:=y) hs (by simp only [execOp,E,Vz,C,Vm,VQ]) hv
 case fieldAddr t x f=>obtain⟨av,y,e,C,hv⟩:=PK (P:=P) (ev x) H j;obtain⟨rfl,rfl⟩:=D e;exact Good.pure (x:=y) hs (by simp only [execOp,E,Vz,C,Vm,VQ]) hv
 case field t x f=>obtain⟨av,y,e,C,hv⟩:=PI (P:=P) (ev x) j;obtain⟨rfl,rfl⟩:=D e;exact Good.pure (x:=y) hs (by simp only [execOp,E,Vz,C,Vm,VQ]) hv
 case indexAddr t x i=>unfold pa at j;replace j:=U8.1 j;obtain⟨i',hi',j⟩:=j;replace j:=aO j H;obtain⟨n,hn,j⟩:=j;obtain⟨k,rfl⟩:=Bs hn;have hiv:=tt i _ hi';simp only [aB] at hiv;obtain⟨av,y,e,C,hv⟩:=Qi (P:=P) (ki:=k) hs (ev x) H j;obtain⟨rfl,rfl⟩:=D e;exact Good.pure (x:=y) hs (by simp only [execOp,E,hiv,Vz,C,Vm,VQ]) hv
 case index t x i=>
  unfold pa at j;replace j:=U8.1 j;obtain⟨i',hi',j⟩:=j;replace j:=aO j H;obtain⟨n,hn,j⟩:=j;obtain⟨k,rfl⟩:=Bs hn;have hiv:=tt i _ hi';simp only [aB] at hiv;have hv:=ev x;split at j
  .rename_i hu;replace j:=U8.1 j;obtain⟨y,hy,j⟩:=j;replace j:=aO j H;obtain⟨b,hb,j⟩:=j;have:=T.kK hb;subst this;have hxv:=tt x _ hy;simp only [aB] at hxv;obtain⟨h0,h1,j⟩:=o8 H j;replace j:=aO j H;obtain⟨u,hu',j⟩:=j;obtain⟨rfl,rfl⟩:=D j;have hb:b[n.toNat]? =some u:=by
    have S:n.toNat < b.data.toList.length:=(Vi.1 hu').1;have hlt:n.toNat < b.size:=by simpa using S
    rw [getElem?_pos b n.toNat hlt];have:=(Vi.1 hu').2;rw [<-this];simp [ByteArray.getElem_eq_getElem_data]
   exact Good.pure (x:= .int .u8 u.toNat) hs (by simp [execOp,E,hiv,hxv,Instr.index,asIntOf,run_underlying hu,h0,hb]) (by simp [an,aB])
  .rename_i m e hu;split at j
   .rename_i vs ex;cases Z:bV P e
    .simp [Z] at j
    simp only [Z,cond_true] at j;replace j:=U8.1 j;obtain⟨l,S,j⟩:=j;obtain⟨h0,h1,j⟩:=o8 H j;rw [ex] at hv;simp only [an] at hv;obtain⟨ws,e2,M,Q⟩:=hv;obtain⟨av,y,e,C,hv⟩:=QF (P:=P) (arr:=ws.toArray) (off:=n.toNat * P.cellsOf e) (ρ:=ρ) Z H ((aR.mj S M).drop _) j;obtain⟨rfl,rfl⟩:=D e;exact Good.pure (x:=y) hs (by simp [execOp,E,hiv,e2,Instr.index,asIntOf,run_underlying hu,h0,h1,jw Z,C]) hv
   .simp at j
  .simp at j
 case extract x k=>
  have hv:=ev x;split at j
  .rename_i vs e;replace j:=U8.1 j;obtain⟨y,hy,j⟩:=j;obtain⟨rfl,rfl⟩:=D j;rw [e] at hv;simp only [an] at hv;obtain⟨ws,e2,h1⟩:=hv;obtain⟨u,I,h3⟩:=h1.get hy;exact Good.pure hs (by simp [execOp,E,e2,Instr.extract,I]) h3
  .simp at j
 case call R=>
  have run0:∀f,R.callee=f->(execOp a.eval o).run P w= ((resolve a.eval R o.type).run P w).andThen λd w=>(invoke d.target d.args).run P w:=by intro f _;simp only [execOp,E,Vz]
  split at j
  .rename_i J;split at j
   .rename_i x t ts hx W;obtain⟨av,y,e,C,hv⟩:=Qx (P:=P) (ts:=R.argTypes) (ty:=o.type) hs (ev x) H j (by rw [<-Wl,W];rfl);obtain⟨rfl,rfl⟩:=D e;have F:R.args.map a.eval= #[a.eval x]:=by apply XJ;simp [hx]
    exact Good.pure (x:=y) hs (by simp only [execOp,E,resolve,J,F,Vz,VQ,Vm,invoke,builtin,C]) hv
   .simp at j
  .rename_i J;split at j
   .rename_i x y t u hgc hx W;obtain⟨v',V,e,hg⟩:=Mm (P:=P) (tr:=o.type) hs (ev x) (ev y) j;obtain⟨rfl,rfl⟩:=D e;have F:R.args.map a.eval= #[a.eval x,a.eval y]:=by apply XJ;simp [hx]
    have htys':R.argTypes= #[t,u]:=by apply XJ;simp [W]
    obtain⟨z,w',ρ',O',C,le,U,hv⟩:=hg N;exact Good.val (x:=z) (by simp only [execOp,E,resolve,J,F,htys',Vz,VQ,Vm,invoke,builtin,C]) le U hv
   .simp at j
  .rename_i J;split at j
   .rename_i k hik;replace j:=U8.1 j;obtain⟨l,S,j⟩:=j;split at j
    .rename_i x r;replace j:=aO j H;obtain⟨n,hn,j⟩:=j;have:=T.gA hn;subst this;obtain⟨v0,vs,e0,h1,I⟩:=aR.mj S (sI Y X R.args.toList);simp only [aB] at h1;subst h1;obtain⟨m,e,C⟩:=C9 (P:=P) (w:=w) H true I j;obtain⟨rfl,rfl⟩:=D e;have F:(R.args.map a.eval).toList= .int k n::vs:=by simp [e0]
     exact Good.pure (x:= .int k m) hs (by simp only [execOp,E,resolve,J,Vz,VQ,Vm,invoke,builtin,Builtin.max_,F];simp only [cond_true] at C;simp only [C,Vm]) (by simp [an,aB])
    .simp at j
   .simp at j
  .rename_i J;split at j
   .rename_i k hik;replace j:=U8.1 j;obtain⟨l,S,j⟩:=j;split at j
    .rename_i x r;replace j:=aO j H;obtain⟨n,hn,j⟩:=j;have:=T.gA hn;subst this;obtain⟨v0,vs,e0,h1,I⟩:=aR.mj S (sI Y X R.args.toList);simp only [aB] at h1;subst h1;obtain⟨m,e,C⟩:=C9 (P:=P) (w:=w) H false I j;obtain⟨rfl,rfl⟩:=D e;have F:(R.args.map a.eval).toList= .int k n::vs:=by simp [e0]
     exact Good.pure (x:= .int k m) hs (by simp only [execOp,E,resolve,J,Vz,VQ,Vm,invoke,builtin,Builtin.min_,F];simp only [cond_false] at C;simp only [C,Vm]) (by simp [an,aB])
    .simp at j
   .simp at j
  .rename_i J;split at j
   .rename_i x y t ts hgc hx W;obtain⟨V,w',e,C,le,U⟩:=Ni (P:=P) (ty:=(ts.headD 0)) (tr:=o.type) hs (ev x) (ev y) j;obtain⟨rfl,rfl⟩:=D e;have F:R.args.map a.eval= #[a.eval x,a.eval y]:=by apply XJ;simp [hx]
    have run':(Builtin.delete_ R.argTypes o.type #[a.eval x,a.eval y]).run P w= .ok (.tuple #[]) w':=by
     rw [<-C];have h0:R.argTypes[0]? =some t:=by rw [<-Wl,W];rfl
     simp only [Builtin.delete_,h0];rfl
    refine Good.val (x:= .tuple #[]) (by simp only [execOp,E,resolve,J,F,Vz,VQ,Vm,invoke,builtin,run']) le U ?_;simp only [an];exact⟨[],rfl,by simp [aC]⟩
   .simp at j
  .rename_i J;split at j
   .rename_i x t ts hx W;split at j
    .rename_i e hu;split at j
     .rename_i y hex;cases hy:zr y with
      | false=>rw [hy] at j;simp at j
      | true=>
       rw [hy] at j;obtain⟨rfl,rfl⟩:=D j;have hv:=ev x;rw [hex] at hv;simp only [an] at hv;have hv:=Qn hy hv;have F:R.args.map a.eval= #[a.eval x]:=by apply XJ;simp [hx]
       have hts:R.argTypes[0]? =some t:=by rw [<-Wl,W];rfl
       exact Good.pure (x:= .int .i64 0) hs (by simp only [execOp,E,resolve,J,F,Vz,VQ,Vm,invoke,builtin];simp [Builtin.cap_,hts,run_underlying hu,hv,goInt]) (by simp [an,aB])
     .simp at j
    .simp at j
   .simp at j
  .rename_i fo J;split at j
   .rename_i f x1 y1 efo;have hfo:=ev fo;rw [efo] at hfo;simp only [an] at hfo;obtain⟨x',y',e2,M,Q⟩:=hfo;obtain⟨v',V,fn,body,e,hfn,hbody,hname,hcall⟩:=MX hO H hs ((M.append (sI Y X R.args.toList)).append Q) j;obtain⟨rfl,rfl⟩:=D e;unfold Good ja;have C:(execOp a.eval o).run P w= .ok (.enter f (x'++R.args.toList.map a.eval++y').toArray) w:=by
     have F:x'.toArray++R.args.map a.eval++y'.toArray= (x'++R.args.toList.map a.eval++y').toArray:=by apply XJ;simp
     simp [execOp,E,resolve,J,e2,Deferred.ofValue,invoke,callFunc,run_program,hfn,hbody,hname,F]
    rw [C];exact hcall N
   .simp at j
  .simp at j
 all_goals simp at j
end
end Go.Aev
