import Derived.Test.YtcffabneepdohaaGreatDoorBlastBackQ3
set_option linter.all false
namespace Go.Aev
open Go
section
variable (B:Nat->Option Value) (w:World) (A:Nat->Prop)
def kQ:cH->T->Value->List Nat->Prop
 | .f _,x,v,ob=>x.rX =some ()/\az w A x v/\ob= []
 | .t _,x,v,ob=>az w A x v/\ob= []
 | .own sz,x,v,ob=>∃o p,ob=o.toList/\x.aQ sz=some p/\dr w A sz p.1 p.2 v (λah=>o=some ah)
 | .rows sz col rsz,x,v,ob=>∃(b:Bool) (es:List Row) (i:Id) (l:Id->Option Value) (a:Id->Option Nat),kB x=some (b,es)/\dF w A l a i (.rows b sz col rsz es.length es)/\l i=some v/\i.real=true/\
   (∀x y d,a x=some d->a y=some d->x=y)/\(∀n u,l (.g i n)=some u->u.oneCell'=true/\u.cells= #[u])/\(∀x d,a x=some d->x=i\/∃n,x= .g i n)/\∀d,d∈ob↔∃x,a x=some d
 | .ref k off,_,v,ob=>(∃b,B k=some (.pointer (some ⟨b,0,none⟩))/\v= .pointer (some ⟨b,off,none⟩))/\ob= []
 | .same k,_,v,ob=>(B k=some v/\v.oneCell'=true/\v.cells= #[v])/\ob= []
 | .no,_,v,ob=>(v.oneCell'=true/\v.cells= #[v])/\ob= []
 | .mp ag ks vk,x,v,ob=>∃es b j m,x=aO es/\v= .map (some b)/\ob= [b]/\w.heap[b]? =some (.map j m)/\
   j.toList.map (λe=>(e.key,e.val))=es.map (λp=>(dP ag p.1,eF p.2))/\(es.all λp=>cI ks p.1 && eQ vk p.2)=true
 | .agg _,_,_,_=>False
 | .new _,_,_,_=>False
def gy:List cH->List T->List Value->List Nat->Prop
 | [],xs,vs,own=>xs= []/\vs= []/\own= []
 | r::rs,xs,vs,own=>∃x d v b ob a,xs=x::d/\vs=v::b/\own=ob++a/\kQ B w A r x v ob/\gy rs d b a
def eM:List cH->List T->List Value->List Nat->Prop
 | [],xs,vs,own=>xs= []/\vs= []/\own= []
 | .agg l::rs,xs,vs,own=>∃e x2 g a o1 o2,xs=e++x2/\vs= .agg g.toArray::a/\own=o1++o2/\gy B w A l e g o1/\eM rs x2 a o2
 | .new l::rs,xs,vs,own=>∃e x2 b arr t a o1 o2,xs=e++x2/\vs= .pointer (some ⟨b,0,none⟩)::a/\own= (b::o1)++o2/\w.heap[b]? =some (.cells arr t (0,0))/\gy B w A l e arr.toList o1/\eM rs x2 a o2
 | r::rs,xs,vs,own=>∃x f v a ob d,xs=x::f/\vs=v::a/\own=ob++d/\kQ B w A r x v ob/\eM rs f a d
def pT:Nat->List kO->List T->List Nat->Prop
 | _,[],xs,own=>xs= []/\own= []
 | j, .box l::r,xs,own=>∃f x2 b arr t o1 o2,xs=f++x2/\own=b:: (o1++o2)/\B j=some (.pointer (some ⟨b,0,none⟩))/\w.heap[b]? =some (.cells arr t (0,0))/\
   gy B w A l f arr.toList o1/\pT (j+1) r x2 o2
 | j, .sl sz::r,xs,own=>∃bb l x2 ob v o2,xs= .aa sz bb l::x2/\own=ob.toList++o2/\B j=some v/\dr w A sz bb l v (λah=>ob=some ah)/\pT (j+1) r x2 o2
 | j, .mp ag ks vk::r,xs,own=>∃es b a d x2 o2,xs=aO es::x2/\own=b::o2/\B j=some (.map (some b))/\w.heap[b]? =some (.map a d)/\
   a.toList.map (λe=>(e.key,e.val))=es.map (λp=>(dP ag p.1,eF p.2))/\(es.all λp=>cI ks p.1 && eQ vk p.2)=true/\pT (j+1) r x2 o2
 | j, .dead::r,xs,own=>pT (j+1) r xs own
end
def qO:List Value->Value
 | [v]=>v
 | vs=> .tuple vs.toArray
structure xP (w w':World):Prop where
 os:w'.os=w.os
 output:w'.output=w.output
 tape:w'.tape=w.tape
 size:w.heap.size<=w'.heap.size
 ah:∀k,k < w.heap.size->w'.heap[k]? =w.heap[k]?
structure L4 (w w':World) (Own:Nat->Prop):Prop where
 os:w'.os=w.os
 output:w'.output=w.output
 tape:w'.tape=w.tape
 size:w.heap.size<=w'.heap.size
 ah:∀k,k < w.heap.size->¬Own k->w'.heap[k]? =w.heap[k]?
def qt(m:Nat)(ρ:Id->Option Value)(j:Nat):Option Value:=if j < m then ρ (.c j) else none
def xz(P:Program)(A:cW)(f:FuncId)(fn:Func)(bE:List AV)(a:List ad)(xs:List T):Prop:=
 ∀(c:Ctx) (w:World) (ρ:Id->Option Value) (O:Id->Option Nat) (args:List Value),c.N0=w.heap.size->HS c w (kZ a) ρ O->aD w (AA c w O) ρ bE args->
  Calls P f args.toArray w λe w'=>∃rs d x2 o1 o2,e= .returned (qO rs)/\L4 w w' (gK O)/\xs=d++x2/\(o1++o2).Nodup/\(∀b∈o1++o2,c.MO b/\b < w'.heap.size)/\
   eM (qt a.length ρ) w' (λb=>(c.A0 b\/c.MO b)/\b < w'.heap.size/\b∉o1++o2) (dQ P A f (iJ a.head?) fn) d rs o1/\
   pT (qt a.length ρ) w' (λb=>(c.A0 b\/c.MO b)/\b < w'.heap.size/\b∉o1++o2) 0 (iP A f (iJ a.head?)) x2 o2
def ko(P:Program)(A:cW)(O:aq):Prop:= ∀f bE a xs,O (.call f) bE a=some xs->
 ∃fn b,P.funcs[f]? =some fn/\fn.body=some b/\fn.name≠ "runtime.NumGoroutine" /\xz P A f fn bE a xs
def oo(P:Program)(A:cW):Prop:= ∀f bE a xs,A.ext f bE a=some xs->
 ∃fn b,P.funcs[f]? =some fn/\fn.body=some b/\fn.name≠ "runtime.NumGoroutine" /\xz P A f fn bE a xs
theorem oo.no{P:Program}{A:cW}(h:∀f bE a,A.ext f bE a=none):oo P A:=λf bE a xs e=>by rw [h] at e;cases e
theorem xz.values{P:Program}{A:cW}{f:FuncId}{fn:Func}{bE:List AV}{xs:List T}(h:xz P A f fn bE [] xs)(g:A.jm f=none)(A0:Nat->Prop)(w:World)(args:List Value)(D:∀b,A0 b->b < w.heap.size)
  (H:aD w A0 (λ_=>none) bE args) (x:GlobOk w):
  Calls P f args.toArray w λe w'=>∃rs own,e= .returned (qO rs)/\xP w w'/\own.Nodup/\(∀b∈own,w.heap.size<=b/\b < w'.heap.size)/\
   eM (λ_=>none) w' (λb=>(A0 b\/w.heap.size<=b)/\b < w'.heap.size/\b∉own) (dQ P A f 0 fn) xs rs own:=by
 let c:Ctx:={A0:=A0,M:=λ_=>False,N0:=w.heap.size};have hs:HS c w (kZ []) (λ_=>none) (λ_=>none):=⟨λi b g=>by cases i <;> simp [kZ] at g,λi _ _=>⟨rfl,rfl⟩,λi n=>rfl,λi n _=>⟨rfl,rfl⟩,(by intro i n u G;cases G),(by intro i j b d;cases d),(by intro i b d;cases d),(by intro i b d;cases d),Xr _,x.1,x.2,λ_ _ h=>h⟩;have v:∀b,A0 b->AA c w (λ_=>none) b/\w.heap[b]? =w.heap[b]?:=λb g=>⟨⟨.inl g,D b g,λi d=>by cases d⟩,rfl⟩;refine(h c w _ _ args rfl hs (aD.mono v (λ_ _ h=>h) _ _ H)).mono ?_;rintro e w' ⟨rs,I,x2,o1,o2,E,m,y,o,q,r,ho⟩;have p:iP A f (iJ ([]:List ad).head?)= []:=by simp [iP,g]
 rw [p] at ho;obtain⟨rfl,rfl⟩:=ho;rw [XA] at y o;subst y;have t:dQ P A f (iJ ([]:List ad).head?) fn=dQ P A f 0 fn:=rfl;have z:qt ([]:List ad).length (λ_=>none)=λ_=>none:=by funext j;simp [qt]
 rw [t,z] at r;refine⟨rs,o1,E,⟨m.os,m.output,m.tape,m.size,λk F=>m.ah k F (by rintro⟨i,d⟩;cases d)⟩,o,λb g=> ?_, ?_⟩
 .obtain⟨a,l⟩:=q b (by simpa using g);rcases a with a | a
  .exact a.elim
  .exact⟨a,l⟩
 .have C:(λb=>(c.A0 b\/c.MO b)/\b < w'.heap.size/\b∉o1++ [])=λb=>(A0 b\/w.heap.size<=b)/\b < w'.heap.size/\b∉o1:=by
   funext b;simp only [XA];refine propext ⟨?_, ?_⟩
   .rintro⟨a | a | a,l⟩
    .exact⟨.inl a,l⟩
    .exact a.elim
    .exact⟨.inr a,l⟩
   .rintro⟨a | a,l⟩
    .exact⟨.inl a,l⟩
    .exact⟨.inr (.inr a),l⟩
  rw [C] at r;exact r
structure ik (c:Ctx) (w:World) (A:Nat->Prop) (h:Id->Option ad) (ρ:Id->Option Value) (O:Id->Option Nat):Prop where
 ah:∀i b,h i=some b->dF w A ρ O i b
 cO:∀i,i.real=true->h i=none->ρ i=none/\O i=none
 eP:∀i n,h (.g i n)=none
 gG:∀i n,h i=none->ρ (.g i n)=none/\O (.g i n)=none
 gone:∀i n u,ρ (.g i n)=some u->u.oneCell'=true/\u.cells= #[u]
 inj:∀i j b,O i=some b->O j=some b->i=j
 lt:∀i b,O i=some b->b < w.heap.size
 own:∀i b,O i=some b->c.MO b
 size:c.N0<=w.heap.size
 glob:tZ w/\qo<=c.N0/\∀b,b < qo->¬c.M b
section
variable {P:Program} {B:Nat->Option Value} {ids:List Id} {w w':World} {A A':Nat->Prop} {c:Ctx} {ρ:Id->Option Value} {O:Id->Option Nat} {s:St} {cc:Option Bool} {h:Id->Option ad}
theorem ik.Li(hs:ik c w A h ρ O)(e:∀b,A b↔AA c w O b):HS c w h ρ O:=by have:A=AA c w O:=funext λb=>propext (e b);subst this;exact⟨hs.ah,hs.cO,hs.eP,hs.gG,hs.gone,hs.inj,hs.lt,hs.own,hs.size,hs.glob⟩
theorem ik.real(hs:ik c w A h ρ O){i:Id}(a:h i≠none):i.real=true:=by
 cases i with
 | g i n=>exact(a (hs.eP i n)).elim
 | _=>rfl
theorem ik.AL{i:Id}(hrl:i.real=true)(hs:ik c w A h ρ O)(p:h i=none)(v:Value)(ob:Option Nat)(f:∀b,ob=some b->b < w.heap.size/\c.MO b/\∀j,O j≠some b)(x:ad)
  (q:dF w A (aN ρ i (some v)) (aN O i ob) i x):ik c w A (aN h i (some x)) (aN ρ i (some v)) (aN O i ob):=by
 refine⟨λj b a=> ?_,λj l a=> ?_,λj n=>by rw [ay _ _ (aY hrl)];exact hs.eP j n,λj n a=> ?_,λj n u m=>by rw [ay _ _ (aY hrl)] at m;exact hs.gone j n u m,λj k b a d=> ?_,λj b a=> ?_,λj b a=> ?_,hs.size,hs.glob⟩
 .by_cases e:j=i
  .subst e;rw [aH] at a;cases a;exact q
  .rw [ay _ _ e] at a;refine dF.mono (λn=>⟨ay _ _ (aY hrl),ay _ _ (aY hrl),λ_ _=>rfl⟩) (λb o=>⟨o,rfl⟩) (λk u d=> ?_) (ay _ _ e) (λ_ _=>rfl) (hs.ah j b a);by_cases g:k=i
   .subst g;rw [(hs.cO _ hrl p).1] at d;cases d
   .rw [ay _ _ g];exact d
 .by_cases e:j=i
  .subst e;rw [aH] at a;cases a
  .rw [ay _ _ e] at a;rw [ay _ _ e,ay _ _ e];exact hs.cO j l a
 .by_cases e:j=i
  .subst e;rw [aH] at a;cases a
  .rw [ay _ _ e] at a;rw [ay _ _ (aY hrl),ay _ _ (aY hrl)];exact hs.gG j n a
 .by_cases e:j=i <;> by_cases e':k=i
  .rw [e,e']
  .subst e;rw [aH] at a;rw [ay _ _ e'] at d;exact((f b a).2.2 k d).elim
  .subst e';rw [aH] at d;rw [ay _ _ e] at a;exact((f b d).2.2 j a).elim
  .rw [ay _ _ e] at a;rw [ay _ _ e'] at d;exact hs.inj j k b a d
 .by_cases e:j=i
  .subst e;rw [aH] at a;exact(f b a).1
  .rw [ay _ _ e] at a;exact hs.lt j b a
 .by_cases e:j=i
  .subst e;rw [aH] at a;exact(f b a).2.1
  .rw [ay _ _ e] at a;exact hs.own j b a
theorem ik.Dh{i:Id}(hs:ik c w A h ρ O)(m:h i=some .dead)(ob:Option Nat)(f:∀b,ob=some b->b < w.heap.size/\c.MO b/\∀j,O j≠some b)(x:ad)
  (o:dF w A ρ (aN O i ob) i x):ik c w A (aN h i (some x)) ρ (aN O i ob):=by
 have hrl:=hs.real (i:=i) (by rw [m];simp);refine⟨λj b a=> ?_,λj g a=> ?_,λj n=>by rw [ay _ _ (aY hrl)];exact hs.eP j n,λj n a=> ?_,hs.gone,λj k b a d=> ?_,λj b a=> ?_,λj b a=> ?_,hs.size,hs.glob⟩
 .by_cases e:j=i
  .subst e;rw [aH] at a;cases a;exact o
  .rw [ay _ _ e] at a;exact dF.mono (λn=>⟨rfl,ay _ _ (aY hrl),λ_ _=>rfl⟩) (λb l=>⟨l,rfl⟩) (λk u d=>d) (ay _ _ e) (λ_ _=>rfl) (hs.ah j b a)
 .by_cases e:j=i
  .subst e;rw [aH] at a;cases a
  .rw [ay _ _ e] at a;rw [ay _ _ e];exact hs.cO j g a
 .by_cases e:j=i
  .subst e;rw [aH] at a;cases a
  .rw [ay _ _ e] at a;rw [ay _ _ (aY hrl)];exact hs.gG j n a
 .by_cases e:j=i <;> by_cases e':k=i
  .rw [e,e']
  .subst e;rw [aH] at a;rw [ay _ _ e'] at d;exact((f b a).2.2 k d).elim
  .subst e';rw [aH] at d;rw [ay _ _ e] at a;exact((f b d).2.2 j a).elim
  .rw [ay _ _ e] at a;rw [ay _ _ e'] at d;exact hs.inj j k b a d
 .by_cases e:j=i
  .subst e;rw [aH] at a;exact(f b a).1
  .rw [ay _ _ e] at a;exact hs.lt j b a
 .by_cases e:j=i
  .subst e;rw [aH] at a;exact(f b a).2.1
  .rw [ay _ _ e] at a;exact hs.own j b a
def xy(B:Nat->Option Value)(ids:List Id)(ρ:Id->Option Value):Prop:= ∀k i v,ids[k]? =some i->B k=some v->ρ i=some v
def gU(B:Nat->Option Value)(ids:List Id)(c:Ctx)(w:World)(A:Nat->Prop)(us:aK)(own:List Nat)(Q:(Id->Option Value)->Prop):Prop:=
 ∀h ρ O,xy B ids ρ->ik c w A h ρ O->own.Nodup->(∀b∈own,b < w.heap.size/\c.MO b/\∀i,O i≠some b)->(∀p∈us,h p.1=none)->
  ∃ρ' O',(∀i u,ρ i=some u->ρ' i=some u)/\ik c w A (aR h us) ρ' O'/\Q ρ'/\∀b,(∃i,O' i=some b)↔((∃i,O i=some b)\/b∈own)
def ou(d j a:Nat)(us:aK):Prop:= ∀p∈us,∃k,j<=k/\k < a/\p.1= .s d k
theorem gU.nil{Q:(Id->Option Value)->Prop}(d:∀ρ,xy B ids ρ->Q ρ):gU B ids c w A [] [] Q:=by intro h ρ O a hs _ _ _;exact⟨ρ,O,λ_ _ h=>h,hs,d ρ a,λb=>by simp⟩
theorem gU.append{d j F X:Nat}{us vs:aK}{o1 o2:List Nat}{y z Q:(Id->Option Value)->Prop}(V:gU B ids c w A us o1 y)(W:gU B ids c w A vs o2 z)(Y:ou d j F us)(Z:ou d F X vs)
  (x:∀ρ ρ',(∀i u,ρ i=some u->ρ' i=some u)->y ρ->z ρ'->Q ρ'):gU B ids c w A (us++vs) (o1++o2) Q:=by
 intro h ρ O m hs C f a;obtain⟨J,K,L⟩:=YH.1 C;obtain⟨n,M,H,D,q1,r1⟩:=V h ρ O m hs J (λb g=>f b (Xp _ g)) (λp l=>a p (Xp _ l));obtain⟨o,N,I,E,q2,r2⟩:=W (aR h us) n M (λk i v R S=>H i v (m k i v R S)) D K (λb g=>by
  obtain⟨g1,T,U⟩:=f b (Xn _ g);refine⟨g1,T,λi r=> ?_⟩;rcases(r1 b).1 ⟨i,r⟩ with⟨k,t⟩ | t
  .exact U k t
  .exact L b t b g rfl) (λp l=>by
  rw [dZ (λq x e=> ?_)]
  .exact a p (Xn _ l)
  .obtain⟨k,_,k2,k3⟩:=Y q x;obtain⟨k',k1',_,G⟩:=Z p l;rw [k3,G] at e;simp only [Id.s.injEq] at e;omega)
 refine⟨o,N,λi u r=>I i u (H i u r),by rw [np];exact E,x n o I q1 q2,λb=> ?_⟩;rw [r2 b,r1 b,Xo,or_assoc]
theorem Fo(es:List (List T×T)):jL (aO es)=some es:=by
 unfold aO jL;induction es with
 | nil=>rfl
 | cons p es a=>simp only [Xq,vM] at a⊢;rw [a];rfl
theorem ik.Mc{i' i:Id}{r:Id->Option Value}{p:Id->Option Nat}{b:Bool}{sz col rsz:Nat}{es:List Row}{v:Value}{ob:List Nat}(hrl:i'.real=true)(hs:ik c w A h ρ O)(hi:h i'=none)
  (J:dF w A r p i (.rows b sz col rsz es.length es)) (hv:r i=some v) (G:i.real=true) (D:∀x y d,p x=some d->p y=some d->x=y) (hg:∀n u,r (.g i n)=some u->u.oneCell'=true/\u.cells= #[u])
  (hdom:∀x d,p x=some d->x=i\/∃n,x= .g i n) (F:∀d,d∈ob↔∃x,p x=some d) (E:∀b∈ob,b < w.heap.size/\c.MO b/\∀i,O i≠some b):
  ∃ρ' O',(∀x u,ρ x=some u->ρ' x=some u)/\ik c w A (aN h i' (some (.rows b sz col rsz es.length es))) ρ' O'/\ρ' i'=some v/\∀d,(∃x,O' x=some d)↔((∃x,O x=some d)\/d∈ob):=by
 let V:Id->Option Value:=λx=>if x=i' then some v else match x with
  | .g y n=>if y=i' then r (.g i n) else ρ (.g y n)
  | x=>ρ x
 let Q:Id->Option Nat:=λx=>if x=i' then p i else match x with
  | .g y n=>if y=i' then p (.g i n) else O (.g y n)
  | x=>O x
 have V1:V i'=some v:=by simp only [V,if_true]
 have X:Q i'=p i:=by simp only [Q,if_true]
 have V2:∀x,x.real=true->x≠i'->V x=ρ x:=by
  intro x k j;simp only [V,if_neg j];cases x with
  | g y n=>cases k
  | _=>rfl
 have L:∀x,x.real=true->x≠i'->Q x=O x:=by
  intro x k j;simp only [Q,if_neg j];cases x with
  | g y n=>cases k
  | _=>rfl
 have R:∀y n,y≠i'->V (.g y n)=ρ (.g y n):=by intro y n q;simp only [V,if_neg (aY hrl),if_neg q]
 have M:∀y n,y≠i'->Q (.g y n)=O (.g y n):=by intro y n q;simp only [Q,if_neg (aY hrl),if_neg q]
 have Y:∀n,V (.g i' n)=r (.g i n):=by intro n;simp only [V,if_neg (aY hrl),if_true]
 have N:∀n,Q (.g i' n)=p (.g i n):=by intro n;simp only [Q,if_neg (aY hrl),if_true]
 have I:∀x d,Q x=some d->(O x=some d/\x≠i'/\∀n,x≠ .g i' n)\/(x=i'/\p i=some d)\/∃n,x= .g i' n/\p (.g i n)=some d:=by
  intro x d j;by_cases e:x=i'
  .subst e;rw [X] at j;exact .inr (.inl ⟨rfl,j⟩)
  .cases k:x.real with
   | true=>rw [L x k e] at j;exact .inl ⟨j,e,λn e'=>by rw [e'] at k;cases k⟩
   | false=>
    cases x with
    | g y n=>
     by_cases e':y=i'
     .subst e';rw [N] at j;exact .inr (.inr ⟨n,rfl,j⟩)
     .rw [M y n e'] at j;exact .inl ⟨j,e,λm S=>by simp only [Id.g.injEq] at S;exact e' S.1⟩
    | _=>cases k
 have n0:=hs.cO i' hrl hi;have ng:=λn=>hs.gG i' n hi;have mono:∀x u,ρ x=some u->V x=some u:=by
  intro x u j;cases k:x.real with
  | true=>rw [V2 x k (λe=>by rw [e,n0.1] at j;cases j)];exact j
  | false=>
   cases x with
   | g y n=>rw [R y n (λe=>by rw [e,(ng n).1] at j;cases j)];exact j
   | _=>cases k
 have K:∀d,(∃x,Q x=some d)↔((∃x,O x=some d)\/d∈ob):=by
  intro d;constructor
  .rintro⟨x,j⟩;rcases I x d j with⟨o,_⟩ | ⟨_,o⟩ | ⟨n,_,o⟩
   .exact .inl ⟨x,o⟩
   .exact .inr ((F d).2 ⟨_,o⟩)
   .exact .inr ((F d).2 ⟨_,o⟩)
  .rintro(⟨x,j⟩ | C)
   .cases k:x.real with
    | true=>exact⟨x,by rw [L x k (λe=>by rw [e,n0.2] at j;cases j)];exact j⟩
    | false=>
     cases x with
     | g y n=>exact⟨.g y n,by rw [M y n (λe=>by rw [e,(ng n).2] at j;cases j)];exact j⟩
     | _=>cases k
   .obtain⟨x,j⟩:=(F d).1 C;rcases hdom x d j with rfl | ⟨n,rfl⟩
    .exact⟨i',by rw [X];exact j⟩
    .exact⟨.g i' n,by rw [N];exact j⟩
 have H:∀d,(∃x,p x=some d)->∀y,O y≠some d:=λd C=>(E d ((F d).2 C)).2.2;refine⟨V,Q,mono,⟨λx y j=> ?_,λx k j=> ?_,λx n=>by rw [ay _ _ (aY hrl)];exact hs.eP x n,λx n j=> ?_,λx n u W=> ?_,λx y d j q=> ?_,λx d j=> ?_,λx d j=> ?_,hs.size,hs.glob⟩,V1,K⟩
 .by_cases e:x=i'
  .subst e;rw [aH] at j;cases j;obtain⟨a,cap,e1,S,e3,T,Z⟩:=J;rw [hv] at e1;cases e1;refine⟨a,cap,V1,S,e3,⟨T.1,T.2.1,λn U=>by rw [Y];exact T.2.2.1 n U,λn d U=>by rw [N] at U;exact T.2.2.2 n d U⟩, ?_⟩;rcases Z with Z | ⟨ah,off,arr,t,q1,q2,q3,q4,q5⟩
   .exact .inl Z
   .exact .inr ⟨ah,off,arr,t,q1,by rw [X];exact q2,q3,q4,cL.move (λb J=>⟨J,rfl⟩) (λ_ _=>rfl) (λf _=>⟨Y _,N _,λ_ _=>rfl⟩) q5⟩
  .rw [ay _ _ e] at j;have hrx:=hs.real (i:=x) (by rw [j];simp);exact dF.mono (λn=>⟨R x n e,M x n e,λ_ _=>rfl⟩) (λb J=>⟨J,rfl⟩) mono (L x hrx e) (λ_ _=>rfl) (hs.ah x y j)
 .have l:x≠i':=λe=>by rw [e,aH] at j;cases j
  rw [ay _ _ l] at j;rw [V2 x k l,L x k l];exact hs.cO x k j
 .have l:x≠i':=λe=>by rw [e,aH] at j;cases j
  rw [ay _ _ l] at j;rw [R x n l,M x n l];exact hs.gG x n j
 .by_cases l:x=i'
  .subst l;rw [Y] at W;exact hg n u W
  .rw [R x n l] at W;exact hs.gone x n u W
 .rcases I x d j with⟨o,z,h3⟩ | ⟨o,z⟩ | ⟨n,o,z⟩ <;> rcases I y d q with⟨k1,k2,k3⟩ | ⟨k1,k2⟩ | ⟨m,k1,k2⟩
  .exact hs.inj x y d o k1
  .exact(H d ⟨_,k2⟩ x o).elim
  .exact(H d ⟨_,k2⟩ x o).elim
  .exact(H d ⟨_,z⟩ y k1).elim
  .rw [o,k1]
  .have:=D _ _ d z k2;rw [this] at G;cases G
  .exact(H d ⟨_,z⟩ y k1).elim
  .have:=D _ _ d k2 z;rw [this] at G;cases G
  .have:=D _ _ d z k2;simp only [Id.g.injEq,true_and] at this;rw [o,k1,this]
 .rcases(K d).1 ⟨x,j⟩ with⟨y,q⟩ | C
  .exact hs.lt y d q
  .exact(E d C).1
 .rcases(K d).1 ⟨x,j⟩ with⟨y,q⟩ | C
  .exact hs.own y d q
  .exact(E d C).2.1
theorem Fs{R:Type}{d j:Nat}{r:cH}{x:T}{v:Value}{ob:List Nat}{K:AV->aK->Nat->Option R}{res:R}(X:cc=none\/cc=some true)(n:kQ B w A r x v ob)(a:nI ids d cc j r x K=some res):
  ∃W us V,K W us V=some res/\j<=V/\ou d j V us/\gU B ids c w A us ob (λρ =>an w A ρ W v):=by
 unfold nI at a;cases r with
 | f k=>obtain⟨_,D,rfl⟩:=n;simp only at a;obtain⟨y,a,D⟩:=qU X D a;exact⟨_,_,_,a,Xr _,(by intro p G;cases G),gU.nil λρ _=>by simpa [an] using D⟩
 | t k=>obtain⟨D,rfl⟩:=n;simp only at a;obtain⟨y,a,D⟩:=qU X D a;exact⟨_,_,_,a,Xr _,(by intro p G;cases G),gU.nil λρ _=>by simpa [an] using D⟩
 | own sz=>
  obtain⟨o,p,rfl,G,hsl⟩:=n;cases cc with
  | some b=>simp at a
  | none=>
   dsimp only at a;replace a:=aW a (.inl rfl);obtain⟨q,m,a⟩:=a;rw [G] at m;simp only [W5] at m;subst m;refine⟨_,_,_,a,Nat.le_succ _, ?_, ?_⟩
   .intro q m;simp only [Xi] at m;subst m;exact⟨j,Xr _,Zv _,rfl⟩
   .intro h ρ O H hs M F z;have C:h (.s d j)=none:=z _ (Xi.2 rfl);refine⟨aN ρ (.s d j) (some v),aN O (.s d j) o,λi u E=> ?_, ?_,by simp [an],λb=>⟨λ⟨i,g⟩=> ?_,λg=> ?_⟩⟩
    .by_cases e:i= .s d j
     .subst e;rw [(hs.cO _ rfl C).1] at E;cases E
     .rw [ay _ _ e];exact E
    .rw [eG];refine hs.AL rfl C v o (λb g=>F b (by simp [g])) _ ⟨v,aH _ _ _, ?_,by simp⟩;simpa using hsl
    .by_cases e:i= .s d j
     .subst e;rw [aH] at g;right;simp [g]
     .rw [ay _ _ e] at g;exact .inl ⟨i,g⟩
    .rcases g with⟨i,g⟩ | g
     .by_cases e:i= .s d j
      .subst e;rw [(hs.cO _ rfl C).2] at g;cases g
      .exact⟨i,by rw [ay _ _ e];exact g⟩
     .exact⟨.s d j,by rw [aH];simpa using g⟩
 | ref k off=>
  obtain⟨⟨b,D,rfl⟩,rfl⟩:=n;dsimp only at a;split at a
  .rename_i i C;exact⟨_,_,_,a,Xr _,(by intro p G;cases G),gU.nil λρ H=>by
    simp only [an];exact⟨b,H k i _ C D,rfl⟩⟩
  .simp at a
 | same k=>
  obtain⟨⟨D,_⟩,rfl⟩:=n;dsimp only at a;split at a
  .rename_i i C;exact⟨_,_,_,a,Xr _,(by intro p G;cases G),gU.nil λρ H=>by
    simp only [an];exact H k i _ C D⟩
  .simp at a
 | rows sz col rsz=>
  obtain⟨b,es,i,ρ0,O0,Q,g,hv,hri,U,hg,S,Z⟩:=n;cases cc with
  | some b=>simp at a
  | none=>
   dsimp only at a;replace a:=aW a (.inl rfl);obtain⟨q,m,a⟩:=a;rw [Q] at m;simp only [W5] at m;subst m;refine⟨_,_,_,a,Nat.le_succ _, ?_, ?_⟩
   .intro q m;simp only [Xi] at m;subst m;exact⟨j,Xr _,Zv _,rfl⟩
   .intro h ρ O H hs M F z;have C:h (.s d j)=none:=z _ (Xi.2 rfl);obtain⟨ρ',O',g1,g2,g3,g4⟩:=hs.Mc (i':= .s d j) rfl C g hv hri U hg S Z F;exact⟨ρ',O',g1,by rw [eG];exact g2,by simp only [an];exact g3,g4⟩
 | no=>obtain⟨_,rfl⟩:=n;dsimp only at a;exact⟨_,_,_,a,Xr _,(by intro p G;cases G),gU.nil λρ _=>by simp [an]⟩
 | mp ag ks vk=>
  obtain⟨es,I,N,J,rfl,rfl,rfl,L,Y,hok⟩:=n;cases cc with
  | some b=>simp at a
  | none=>
   dsimp only at a;replace a:=aW a (.inl rfl);obtain⟨q,m,a⟩:=a;rw [Fo] at m;simp only [W5] at m;subst m;refine⟨_,_,_,a,Nat.le_succ _, ?_, ?_⟩
   .intro q m;simp only [Xi] at m;subst m;exact⟨j,Xr _,Zv _,rfl⟩
   .intro h ρ O H hs M F z;have C:h (.s d j)=none:=z _ (Xi.2 rfl);refine⟨aN ρ (.s d j) (some (.map (some I))),aN O (.s d j) (some I),λi u E=> ?_, ?_,by simp [an],λb=>⟨λ⟨i,g⟩=> ?_,λg=> ?_⟩⟩
    .by_cases e:i= .s d j
     .subst e;rw [(hs.cO _ rfl C).1] at E;cases E
     .rw [ay _ _ e];exact E
    .rw [eG];exact hs.AL rfl C _ (some I) (λb g=>F b (by simp only [W5] at g;simp [g])) _ ⟨I,N,J,aH _ _ _,aH _ _ _,L,Y,hok⟩
    .by_cases e:i= .s d j
     .subst e;rw [aH] at g;right;simp only [W5] at g;simp [g]
     .rw [ay _ _ e] at g;exact .inl ⟨i,g⟩
    .rcases g with⟨i,g⟩ | g
     .by_cases e:i= .s d j
      .subst e;rw [(hs.cO _ rfl C).2] at g;cases g
      .exact⟨i,by rw [ay _ _ e];exact g⟩
     .exact⟨.s d j,by rw [aH];simp only [Xi] at g;rw [g]⟩
 | agg l=>simp at a
 | new l=>simp at a
theorem yv{R:Type}{d:Nat}(l:cc=none\/cc=some true):∀{rs:List cH} {j:Nat} {g x2:List T} {vs:List Value} {own:List Nat} {K:List AV->aK->Nat->Option R} {res:R},gy B w A rs g vs own->lB ids d cc j rs (g++x2) K=some res->
  ∃i us n,K i us n=some res/\j<=n/\ou d j n us/\gU B ids c w A us own (λρ =>aD w A ρ i vs)
 | [],j,g,x2,vs,own,K,res,f,a=>by obtain⟨rfl,rfl,rfl⟩:=f;exact⟨_,_,_,a,Xr _,(by intro p e;cases e),gU.nil λρ _=>by simp [aD]⟩
 | r::rs,j,g,x2,vs,own,K,res,f,a=>by
  obtain⟨x,Q,v,u,ob,G,rfl,rfl,rfl,z,C⟩:=f;simp only [lB,X7,Yl,Y4] at a;replace a:=aW a l;obtain⟨y,o,a⟩:=a;simp only [W5] at o;subst o;obtain⟨i,us,S,a,E,q,J⟩:=Fs (c:=c) l z a;obtain⟨M,N,U,a,F,t,L⟩:=yv l C a;refine⟨_,_,_,a,X2 E F, ?_,J.append L q t λρ ρ' m H I=> ?_⟩
  .intro p e;rcases Xo.1 e with e | e
   .obtain⟨k,k1,k2,k3⟩:=q p e;exact⟨k,k1,by omega,k3⟩
   .obtain⟨k,k1,k2,k3⟩:=t p e;exact⟨k,by omega,k2,k3⟩
  .simp only [aD];exact⟨v,u,rfl,an.mono (λb D=>⟨D,rfl⟩) m _ _ H,I⟩
theorem kQ.one{r:cH}{x:T}{v:Value}{ob:List Nat}(h:kQ B w A r x v ob):v.oneCell'=true/\v.cells= #[v]:=by
 cases r with
 | f k=>exact h.2.1.sE
 | t k=>exact h.1.sE
 | own sz=>obtain⟨o,p,_,_,a,cap,rfl,_⟩:=h;exact⟨rfl,rfl⟩
 | rows sz col rsz=>obtain⟨b,es,i,m,n,_,⟨a,cap,d,_⟩,j,_⟩:=h;rw [j] at d;cases d;exact⟨rfl,rfl⟩
 | ref k off=>obtain⟨⟨b,_,rfl⟩,_⟩:=h;exact⟨rfl,rfl⟩
 | same k=>exact h.1.2
 | no=>exact h.1
 | mp ag ks vk=>obtain⟨es,b,g,e,_,rfl,_⟩:=h;exact⟨rfl,rfl⟩
 | agg l=>exact h.elim
 | new l=>exact h.elim
theorem gy.one:∀{rs:List cH} {xs:List T} {vs:List Value} {own:List Nat},gy B w A rs xs vs own->∀u∈vs,u.oneCell'=true/\u.cells= #[u]
 | [],_,_,_,⟨_,rfl,_⟩,u,hu=>by cases hu
 | r::rs,xs,vs,own,h,u,hu=>by
  obtain⟨x,f,v,e,ob,d,rfl,rfl,rfl,a,b⟩:=h;rcases Xl.1 hu with rfl | hu
  .exact a.one
  .exact gy.one b u hu
theorem gy.length:∀{rs:List cH} {xs:List T} {vs:List Value} {own:List Nat},gy B w A rs xs vs own->xs.length=rs.length
 | [],_,_,_,⟨rfl,_,_⟩=>rfl
 | r::rs,xs,vs,own,h=>by obtain⟨x,e,v,d,ob,b,rfl,rfl,rfl,f,a⟩:=h;simp [gy.length a]
theorem gU.box{d M j:Nat}{us:aK}{o1:List Nat}{E:List AV}{f:Nat}{arr:Array Value}{t:TypeId}(L:gU B ids c w A us o1 (λρ =>aD w A ρ E arr.toList))(R:ou d M j us)(l:w.heap[f]? =some (.cells arr t (0,0)))
  (ho:∀u∈arr.toList,u.oneCell'=true/\u.cells= #[u]):gU B ids c w A (us++ [(.s d j, .box E)]) (f::o1) (λρ =>an w A ρ (.ref (.s d j) 0) (.pointer (some ⟨f,0,none⟩))):=by
 intro h ρ O G hs H m n;obtain⟨I,J⟩:=Yq.1 H;obtain⟨y,z,Q,r,S,r1⟩:=L h ρ O G hs J (λb l=>m b (W8 _ l)) (λp D=>n p (Xp _ D));have C:aR h us (.s d j)=none:=by
  rw [dZ λp D e=> ?_]
  .exact n _ (Xn _ (Xi.2 rfl))
  .obtain⟨k,_,F,K⟩:=R p D;rw [K] at e;simp only [Id.s.injEq] at e;omega
 have o:∀k,z k≠some f:=by
  intro k a;rcases(r1 f).1 ⟨k,a⟩ with⟨N,q⟩ | q
  .exact(m f W7).2.2 N q
  .exact I q
 have mono:∀i u,y i=some u->aN y (.s d j) (some (.pointer (some ⟨f,0,none⟩))) i=some u:=by
  intro i u v;by_cases e:i= .s d j
  .subst e;rw [(r.cO _ rfl C).1] at v;cases v
  .rw [ay _ _ e];exact v
 refine⟨aN y (.s d j) (some (.pointer (some ⟨f,0,none⟩))),aN z (.s d j) (some f),λi u v=>mono i u (Q i u v), ?_, ?_,λb=> ?_⟩
 .rw [np,eG];refine r.AL rfl C _ (some f) (λb l=> ?_) _ ⟨f,arr,t,aH _ _ _,aH _ _ _,l,aD.mono (λb l=>⟨l,rfl⟩) mono _ _ S,ho⟩;simp only [W5] at l;subst l;obtain⟨g1,F,_⟩:=m f W7;exact⟨g1,F,o⟩
 .simp only [an];exact⟨f,aH _ _ _,by simp⟩
 .constructor
  .rintro⟨k,a⟩;by_cases e:k= .s d j
   .subst e;rw [aH] at a;cases a;exact .inr W7
   .rw [ay _ _ e] at a;rcases(r1 b).1 ⟨k,a⟩ with g | g
    .exact .inl g
    .exact .inr (W8 _ g)
  .intro a;have x:(∃k,z k=some b)->∃k,aN z (.s d j) (some f) k=some b:=by
    rintro⟨k,a⟩;by_cases e:k= .s d j
    .subst e;rw [(r.cO _ rfl C).2] at a;cases a
    .exact⟨k,by rw [ay _ _ e];exact a⟩
   rcases a with a | a
   .exact x ((r1 b).2 (.inl a))
   .rcases Xl.1 a with rfl | a
    .exact⟨_,aH _ _ _⟩
    .exact x ((r1 b).2 (.inr a))
theorem vN{R:Type}{d:Nat}(E:cc=none\/cc=some true):∀{rs:List cH} {j:Nat} {xs:List T} {vs:List Value} {own:List Nat} {K:List AV->aK->Nat->Option R} {res:R},eM B w A rs xs vs own->eT ids d cc j rs xs K=some res->
  ∃o us z,K o us z=some res/\j<=z/\ou d j z us/\gU B ids c w A us own (λρ =>aD w A ρ o vs)
 | [],j,xs,vs,own,K,res,e,a=>by obtain⟨rfl,rfl,rfl⟩:=e;exact⟨_,_,_,a,Xr _,(by intro p i;cases i),gU.nil λρ _=>by simp [aD]⟩
 | r::rs,j,xs,vs,own,K,res,e,a=>by
  have g:(∃x S v n ob F,xs=x::S/\vs=v::n/\own=ob++F/\kQ B w A r x v ob/\eM B w A rs S n F)->
    (ab cc xs.head? λx=>nI ids d cc j r x λv u j=>eT ids d cc j rs xs.tail λvs us j=>K (v::vs) (u++us) j)=some res->
    ∃o us z,K o us z=some res/\j<=z/\ou d j z us/\gU B ids c w A us own (λρ =>aD w A ρ o vs):=by
   intro e a;obtain⟨x,S,v,n,ob,F,rfl,rfl,rfl,q,G⟩:=e;simp only [Yl,Y4] at a;replace a:=aW a E;obtain⟨y,hy,a⟩:=a;simp only [W5] at hy;subst hy;obtain⟨o,us,I,a,J,C,N⟩:=Fs (c:=c) E q a;obtain⟨V,X,j2,a,U,D,Q⟩:=vN E G a;refine⟨_,_,_,a,X2 J U, ?_,N.append Q C D λρ ρ' m L M=> ?_⟩
   .intro p i;rcases Xo.1 i with i | i
    .obtain⟨k,k1,k2,k3⟩:=C p i;exact⟨k,k1,by omega,k3⟩
    .obtain⟨k,k1,k2,k3⟩:=D p i;exact⟨k,by omega,k2,k3⟩
   .simp only [aD];exact⟨v,n,rfl,an.mono (λb H=>⟨H,rfl⟩) m _ _ L,M⟩
  cases r with
  | f k=>exact g e a
  | t k=>exact g e a
  | own sz=>exact g e a
  | rows sz col rsz=>exact g e a
  | mp ag ks vk=>exact g e a
  | new l=>
   obtain⟨Y,x2,b0,arr,ty,n,o1,o2,rfl,rfl,rfl,Z,q,G⟩:=e;have a:(lB ids d cc j l (Y++x2) λv u j=>eT ids d cc (j+1) rs ((Y++x2).drop l.length) λvs us z=>K (AV.ref (.s d j) 0::vs) (u++ [(.s d j, .box v)] ++us) z)=some res:=by
    cases cc with
    | none=>simp only [eT] at a;exact a
    | some b=>simp [eT] at a
   obtain⟨o,us,I,a,J,C,N⟩:=yv (c:=c) E q a;have hl:=q.length;rw [<-hl,aas] at a;obtain⟨V,X,j2,a,U,D,Q⟩:=vN E G a;have W:ou d j (I+1) (us++ [(.s d I, .box o)]):=by
    intro p i;rcases Xo.1 i with i | i
    .obtain⟨k,k1,k2,k3⟩:=C p i;exact⟨k,k1,by omega,k3⟩
    .rw [Xi.1 i];exact⟨I,J,by omega,rfl⟩
   refine⟨_,_,_,a,by omega, ?_,(N.box C Z q.one).append Q W D λρ ρ' m L M=> ?_⟩
   .intro p i;rcases Xo.1 i with i | i
    .obtain⟨k,k1,k2,k3⟩:=W p i;exact⟨k,k1,by omega,k3⟩
    .obtain⟨k,k1,k2,k3⟩:=D p i;exact⟨k,by omega,k2,k3⟩
   .simp only [aD];exact⟨_,n,rfl,an.mono (λb H=>⟨H,rfl⟩) m _ _ L,M⟩
  | ref k off=>exact g e a
  | same k=>exact g e a
  | no=>exact g e a
  | agg l=>
   obtain⟨Y,x2,ws,n,o1,o2,rfl,rfl,rfl,q,G⟩:=e;simp only [eT] at a;obtain⟨o,us,I,a,J,C,N⟩:=yv (c:=c) E q a;have hl:=q.length;rw [<-hl,aas] at a;obtain⟨V,X,j2,a,U,D,Q⟩:=vN E G a;refine⟨_,_,_,a,X2 J U, ?_,N.append Q C D λρ ρ' m L M=> ?_⟩
   .intro p i;rcases Xo.1 i with i | i
    .obtain⟨k,k1,k2,k3⟩:=C p i;exact⟨k,k1,by omega,k3⟩
    .obtain⟨k,k1,k2,k3⟩:=D p i;exact⟨k,by omega,k2,k3⟩
   .simp only [aD];refine⟨_,n,rfl, ?_,M⟩;simp only [an];exact⟨ws,rfl,aD.mono (λb H=>⟨H,rfl⟩) m _ _ L,q.one⟩
theorem De{vs:List AV}{rs:List Value}(h:aD w A ρ vs rs):an w A ρ (mV vs) (qO rs):=by
 match vs,rs,h with
 | [],rs,h=>simp only [aD] at h;subst h;simp only [mV,qO,an];exact⟨[],rfl,by simp [aD]⟩
 | [v],rs,h=>simp only [aD] at h;obtain⟨u,r,rfl,a,rfl⟩:=h;exact a
 | v::d::vs,rs,h=>
  have hl:=h.length
  match rs,hl with
  | u::b::rs,_=>simp only [mV,qO,an];exact⟨_,rfl,h⟩
theorem U4{v:AV}{x:T}{u:Value}(hs:HS c w h ρ O)(d:an w (AA c w O) ρ v u)(a:DE h v=some x)
  (f:∀b,AA c w O b->A' b) (g:∀i ah,O i=some ah->A' ah):az w A' x u:=by
 have e:eD h v=some x->az w A' x u:=λk=>oc hs d k f (λi ah _ ho=>g i ah ho);cases v
 case own i=>
  simp only [DE] at a;split at a
  .rename_i sz b xs j;exact e (by simp only [eD,j];exact a)
  .simp only [W5] at a;subst a;simp only [an] at d;simp only [az];exact lK hs d
  .simp only [W5] at a;subst a;simp only [an] at d;simp only [az];exact lK hs d
  .cases a
 all_goals exact e a
theorem KH(hs:HS c w h ρ O)(e:∀b,AA c w O b->A' b):∀{vs:List AV} {xs:List T} {us:List Value},aD w (AA c w O) ρ vs us->xn h vs=some xs->
  (∀i ah,O i=some ah->A' ah)->ba w A' xs us
 | [],xs,us,d,a,_=>by simp only [xn,W5] at a;subst a;simpa [aD,ba] using d
 | v::vs,xs,us,d,a,f=>by simp only [xn] at a;obtain⟨x,j,a⟩:=W6.1 a;obtain⟨l,k,a⟩:=W6.1 a;simp only [W5] at a;subst a;simp only [aD] at d;obtain⟨u,r,rfl,g1,g⟩:=d;exact⟨u,r,rfl,U4 hs g1 j e f,KH hs e g k f⟩
theorem Mq{o:Bool}{v:AV}{u:Value}{q:T×aK}(hs:HS c w h ρ O)(m:an w (AA c w O) ρ v u)(a:kW true o h v=some q):q.2= []/\az w (λb=>b < w.heap.size) q.1 u:=by
 have f:∀b,AA c w O b->b < w.heap.size:=λb g=>g.2.1;have d:∀x:T,eD h v=some x->az w (λb=>b < w.heap.size) x u:=λx n=>oc hs m n f (λi ah _ ho=>hs.lt i ah ho);cases v
 case ref i off=>
  simp only [kW,cond_true] at a;split at a
  .rename_i cs k;obtain⟨l,hl,a⟩:=W6.1 a;simp only [W5] at a;subst a;obtain⟨b,arr,t,z,C,D,p,E⟩:=hs.ah i _ k;simp only [an] at m;obtain⟨b',e,rfl⟩:=m;rw [z] at e;simp only [W5,YI,Yd] at e;obtain⟨rfl,_⟩:=e;refine⟨rfl, ?_⟩;simp only [az];have y:ba w (λb=>b < w.heap.size) l (arr.toList.drop off):=by
    cases o with
    | true=>exact KH hs f (p.drop off) hl (λi ah ho=>hs.lt i ah ho)
    | false=>exact ba.mono (λb g=>⟨f b g,rfl⟩) _ _ (ba.mg hl (p.drop off))
   refine⟨b,off,rfl, .inr (hs.lt i b C),bn.mh y (λj v r=> ?_)⟩;rw [YT] at r;simp only [World.cell?,D];simpa using r
  .rename_i l k;simp only [W5] at a;subst a;exact⟨rfl,d _ (by simp [eD,k])⟩
  .simp at a
 all_goals
  simp only [kW] at a;obtain⟨x,n,a⟩:=W6.1 a;simp only [cond_true,W5] at a;subst a;exact⟨rfl,d _ n⟩
theorem Mr{m:Bool}{v:AV}{u:Value}{q:T×aK}(hs:HS c w h ρ O)(y:an w (AA c w O) ρ v u)(a:kW false m h v=some q):
  ij h q.2/\∀O',Le w ρ O w ρ O'->(∀i,O' i=O i\/O' i=none)->(∀p∈q.2,O' p.1=none)->az w (AA c w O') q.1 u:=by
 have k:∀x:T,eD h v=some x->q= (x,iL h v)->ij h q.2/\∀O',Le w ρ O w ρ O'->(∀i,O' i=O i\/O' i=none)->(∀p∈q.2,O' p.1=none)->az w (AA c w O') q.1 u:=by
  intro x d e;subst e;refine⟨wc v,λO' le l o=>oc hs y d (λb n=>(le.A b n).1) (λi ah r ho=> ?_)⟩;obtain⟨p,t,e⟩:=yV hs d r ho;refine⟨.inr (hs.own i ah ho),hs.lt i ah ho,λj f=> ?_⟩;rcases l j with g | g
  .rw [g] at f;have:=hs.inj j i ah f ho;subst this;have:=o p t;rw [e,g,f] at this;cases this
  .rw [g] at f;cases f
 cases v
 case ref i off=>simp only [kW,cond_false] at a;obtain⟨x,d,a⟩:=W6.1 a;simp only [W5] at a;exact k x d a.symm
 all_goals
  simp only [kW] at a;obtain⟨x,d,a⟩:=W6.1 a;simp only [cond_false,W5] at a;exact k x d a.symm
def jy(c:Ctx)(w:World)(h:Id->Option ad)(ρ:Id->Option Value)(O:Id->Option Nat)(a:Bool)(us:aK)(Q:(Nat->Prop)->Prop):Prop:=
 (a=true->us= []/\Q (λb=>b < w.heap.size))/\
 (a=false->ij h us/\∀O',Le w ρ O w ρ O'->(∀i,O' i=O i\/O' i=none)->(∀p∈us,O' p.1=none)->Q (AA c w O'))
theorem ED{a f:Bool}{v:AV}{u:Value}{q:T×aK}(hs:HS c w h ρ O)(d:an w (AA c w O) ρ v u)(b:kW a f h v=some q):jy c w h ρ O a q.2 (λA=>az w A q.1 u):=
 ⟨λe=>by subst e;exact Mq hs d b,λe=>by subst e;exact Mr hs d b⟩
theorem jy.append{g:Bool}{us vs:aK}{j k Q:(Nat->Prop)->Prop}(l:jy c w h ρ O g us j)(m:jy c w h ρ O g vs k)(q:∀A,j A->k A->Q A):jy c w h ρ O g (us++vs) Q:=by
 refine⟨λe=> ?_,λe=> ?_⟩
 .obtain⟨a,b⟩:=l.1 e;obtain⟨d,f⟩:=m.1 e;exact⟨by rw [a,d];rfl,q _ b f⟩
 .obtain⟨a,b⟩:=l.2 e;obtain⟨d,f⟩:=m.2 e;exact⟨a.append d,λO' le n o=>q _ (b O' le n (λp i=>o p (Xp _ i))) (f O' le n (λp i=>o p (Xn _ i)))⟩
theorem jy.nil{b:Bool}{Q:(Nat->Prop)->Prop}(a:∀A,Q A):jy c w h ρ O b [] Q:=⟨λ_=>⟨rfl,a _⟩,λ_=>⟨(by intro p d;cases d),λ_ _ _ _=>a _⟩⟩
theorem jy.imp{d:Bool}{us:aK}{b Q:(Nat->Prop)->Prop}(a:jy c w h ρ O d us b)(f:∀A,b A->Q A):jy c w h ρ O d us Q:=
 ⟨λe=>⟨(a.1 e).1,f _ (a.1 e).2⟩,λe=>⟨(a.2 e).1,λO' le g i=>f _ ((a.2 e).2 O' le g i)⟩⟩
theorem xZ{f i:Bool}(hs:HS c w h ρ O):∀{vs:List AV} {us:List Value} {q:List T×aK},aD w (AA c w O) ρ vs us->nw f i h vs=some q->jy c w h ρ O f q.2 (λA=>ba w A q.1 us)
 | [],us,q,e,d=>by simp only [aD] at e;subst e;simp only [nw,W5] at d;subst d;exact jy.nil λ_=>rfl
 | v::vs,us,q,e,d=>by simp only [aD] at e;obtain⟨u,r,rfl,j,k⟩:=e;simp only [nw] at d;obtain⟨p,l,d⟩:=W6.1 d;obtain⟨m,g,d⟩:=W6.1 d;simp only [W5] at d;subst d;exact(ED hs j l).append (xZ hs k g) λA a b=>⟨u,r,rfl,a,b⟩
theorem EI{k m:Bool}(hs:HS c w h ρ O){v:AV}{u:Value}{q:AV×aK}(g:an w (AA c w O) ρ v u)(d:my k m h v=some q):jy c w h ρ O k q.2 (λA=>an w A (λ_=>none) q.1 u):=by
 cases v
 case fn f a b=>simp only [an] at g;obtain⟨o,r,rfl,i,j⟩:=g;simp only [my] at d;obtain⟨p,e,d⟩:=W6.1 d;obtain⟨t,l,d⟩:=W6.1 d;simp only [W5] at d;subst d;refine(xZ hs i e).append (xZ hs j l) λA a b=> ?_;simp only [an];exact⟨o,r,rfl,aD.mP a,aD.mP b⟩
 case agg vs=>simp only [an] at g;obtain⟨n,rfl,i,j⟩:=g;simp only [my] at d;obtain⟨p,e,d⟩:=W6.1 d;simp only [W5] at d;subst d;refine(xZ hs i e).imp λA a=> ?_;simp only [an];exact⟨n,rfl,aD.mP a,j⟩
 all_goals
  simp only [my] at d;obtain⟨p,e,d⟩:=W6.1 d;simp only [W5] at d;subst d;refine(ED hs g e).imp λA a=> ?_;simpa [an] using a
theorem EK{f i:Bool}(hs:HS c w h ρ O):∀{vs:List AV} {us:List Value} {q:List AV×aK},aD w (AA c w O) ρ vs us->mz f i h vs=some q->jy c w h ρ O f q.2 (λA=>aD w A (λ_=>none) q.1 us)
 | [],us,q,e,d=>by simp only [aD] at e;subst e;simp only [mz,W5] at d;subst d;exact jy.nil λ_=>by simp [aD]
 | v::vs,us,q,e,d=>by simp only [aD] at e;obtain⟨u,r,rfl,j,k⟩:=e;simp only [mz] at d;obtain⟨p,l,d⟩:=W6.1 d;obtain⟨m,g,d⟩:=W6.1 d;simp only [W5] at d;subst d;refine(EI hs j l).append (EK hs k g) λA a b=> ?_;simp only [aD];exact⟨u,r,rfl,a,b⟩
theorem az.flat{x:T}{v:Value}(a:x.rX =some ())(h:az w A x v):az w A' x v:=by cases x <;> simp only [T.rX,reduceCtorEq] at a <;> simpa [az] using h
theorem gy.flat:∀{rs:List cH} {xs:List T} {vs:List Value} {own:List Nat},(rs.all λr=>match r with | .f _=>true | _=>false)=true->gy B w A rs xs vs own->gy B w A' rs xs vs own/\own= []
 | [],_,_,_,_,h=>⟨h,h.2.2⟩
 | r::rs,xs,vs,own,a,h=>by simp only [Yp,Xf] at a;obtain⟨x,d,v,b,ob,i,rfl,rfl,rfl,e,g⟩:=h;obtain⟨g1,rfl⟩:=gy.flat a.2 g;cases r <;> simp only [XD,false_and] at a;obtain⟨k1,k2,rfl⟩:=e;exact⟨⟨x,d,v,b,[],[],rfl,rfl,rfl,⟨k1,k2.flat k1,rfl⟩,g1⟩,rfl⟩
theorem eM.flat:∀{rs:List cH} {xs:List T} {vs:List Value} {own:List Nat},rs.all tW=true->eM B w A rs xs vs own->eM B w A' rs xs vs own/\own= []
 | [],_,_,_,_,h=>⟨h,h.2.2⟩
 | r::rs,xs,vs,own,a,h=>by
  simp only [Yp,Xf] at a;cases r <;> simp only [tW,XD,false_and] at a
  case f=>obtain⟨x,g,v,b,ob,j,rfl,rfl,rfl,d,e⟩:=h;obtain⟨g1,rfl⟩:=eM.flat a.2 e;obtain⟨k1,k2,rfl⟩:=d;exact⟨⟨x,g,v,b,[],[],rfl,rfl,rfl,⟨k1,k2.flat k1,rfl⟩,g1⟩,rfl⟩
  case agg l=>obtain⟨m,x2,k,b,o1,o2,rfl,rfl,rfl,d,e⟩:=h;obtain⟨g1,rfl⟩:=eM.flat a.2 e;obtain⟨i,rfl⟩:=gy.flat a.1 d;exact⟨⟨m,x2,k,b,[],[],rfl,rfl,rfl,i,g1⟩,rfl⟩
theorem kQ.mono{r:cH}{x:T}{v:Value}{ob:List Nat}(g:∀b,A b->A' b)(h:kQ B w A r x v ob):kQ B w A' r x v ob:=by
 have mT:∀x v,az w A x v->az w A' x v:=λx v=>az.mono (λb a=>⟨g b a,rfl⟩) x v;cases r with
 | f k=>exact⟨h.1,mT _ _ h.2.1,h.2.2⟩
 | t k=>exact⟨mT _ _ h.1,h.2⟩
 | own sz=>obtain⟨o,p,h0,d,e⟩:=h;exact⟨o,p,h0,d,e.mono (λb a=>⟨g b a,rfl⟩) (λb a=>⟨a,rfl⟩)⟩
 | rows sz col rsz=>obtain⟨b,es,i,j,m,h0,d,e⟩:=h;exact⟨b,es,i,j,m,h0,dF.mono (λn=>⟨rfl,rfl,λ_ _=>rfl⟩) (λb a=>⟨g b a,rfl⟩) (λ_ _ h=>h) rfl (λ_ _=>rfl) d,e⟩
 | ref k off=>exact h
 | same k=>exact h
 | no=>exact h
 | mp ag ks vk=>exact h
 | agg l=>exact h.elim
 | new l=>exact h.elim
theorem gy.mono(d:∀b,A b->A' b):∀{rs:List cH} {xs:List T} {vs:List Value} {own:List Nat},gy B w A rs xs vs own->gy B w A' rs xs vs own
 | [],_,_,_,h=>h
 | r::rs,xs,vs,own,h=>by obtain⟨x,f,v,e,ob,a,rfl,rfl,rfl,g,i⟩:=h;exact⟨x,f,v,e,ob,a,rfl,rfl,rfl,g.mono d,gy.mono d i⟩
theorem eM.mono(d:∀b,A b->A' b):∀{rs:List cH} {xs:List T} {vs:List Value} {own:List Nat},eM B w A rs xs vs own->eM B w A' rs xs vs own
 | [],_,_,_,h=>h
 | r::rs,xs,vs,own,h=>by
  cases r with
  | agg l=>obtain⟨i,x2,n,a,o1,o2,rfl,rfl,rfl,e,f⟩:=h;exact⟨i,x2,n,a,o1,o2,rfl,rfl,rfl,e.mono d,eM.mono d f⟩
  | new l=>obtain⟨i,x2,m,arr,ty,a,o1,o2,rfl,rfl,rfl,j,e,f⟩:=h;exact⟨i,x2,m,arr,ty,a,o1,o2,rfl,rfl,rfl,j,e.mono d,eM.mono d f⟩
  | _=>obtain⟨x,k,v,a,ob,g,rfl,rfl,rfl,e,f⟩:=h;exact⟨x,k,v,a,ob,g,rfl,rfl,rfl,e.mono d,eM.mono d f⟩
theorem K7{R:Type}{d:Nat}{rs:List cH}{xs:List T}{bE:List Value}{own:List Nat}{K:List AV->aK->Nat->Option R}{res:R}(J:cc=none\/cc=some true)(hs:HS c w h ρ O)(f:xP w w')(E:own.Nodup)(g:∀b∈own,w.heap.size<=b/\b < w'.heap.size)
  (D:eM (λ_=>none) w' (λb=>(c.A0 b\/c.MO b)/\b < w'.heap.size/\b∉own/\∀i,O i≠some b) rs xs bE own) (e:eT [] d cc 0 rs xs K=some res):
  ∃o us j,K o us j=some res/\ou d 0 j us/\((∀p∈us,h p.1=none)->∃ρ' O',Le w ρ O w' ρ' O'/\HS c w' (aR h us) ρ' O'/\aD w' (AA c w' O') ρ' o bE):=by
 obtain⟨o,us,j,e,_,x,L⟩:=vN (c:=c) J D e;refine⟨o,us,j,e,x,λu=> ?_⟩;have I:∀b,AA c w O b->((c.A0 b\/c.MO b)/\b < w'.heap.size/\b∉own/\∀i,O i≠some b)/\w'.heap[b]? =w.heap[b]?:=by intro b a;refine⟨⟨a.1,X5 a.2.1 f.size,λhm=> ?_,a.2.2⟩,f.ah b a.2.1⟩;have:=(g b hm).1;have:=a.2.1;omega
 have G:ik c w' (λb=>(c.A0 b\/c.MO b)/\b < w'.heap.size/\b∉own/\∀i,O i≠some b) h ρ O:=
  ⟨λi b a=>dF.mono (λn=>⟨rfl,rfl,λb a=>f.ah b (hs.lt _ b a)⟩) I (λ_ _ h=>h) rfl (λb a=>f.ah b (hs.lt i b a)) (hs.ah i b a),hs.cO,hs.eP,hs.gG,hs.gone,hs.inj,λi b a=>X5 (hs.lt i b a) f.size,hs.own,X2 hs.size f.size,B7 (λb a=>f.ah b (X5 a (X2 hs.glob.2.1 hs.size))) hs.glob.1,hs.glob.2⟩
 obtain⟨ρ',O',m,F,q,r⟩:=L h ρ O (by intro k i v e;simp at e) G E (λb a=>⟨(g b a).2, .inr (X2 hs.size (g b a).1),λi l=>by have:=hs.lt i b l;have:=(g b a).1;omega⟩) u;have y:∀b,((c.A0 b\/c.MO b)/\b < w'.heap.size/\b∉own/\∀i,O i≠some b)↔AA c w' O' b:=by
  intro b;constructor
  .rintro⟨z,C,t,H⟩;refine⟨z,C,λi l=> ?_⟩;rcases(r b).1 ⟨i,l⟩ with⟨k,e⟩ | e
   .exact H k e
   .exact t e
  .rintro⟨z,C,t⟩;refine⟨z,C,λhm=> ?_,λi l=> ?_⟩
   .obtain⟨i,l⟩:=(r b).2 (.inr hm);exact t i l
   .obtain⟨k,e⟩:=(r b).2 (.inl ⟨i,l⟩);exact t k e
 refine⟨ρ',O',⟨f.os,f.output,f.tape,f.size,m,λk e _=>f.ah k e,λi b l=> ?_⟩,F.Li y, ?_⟩
 .rcases(r b).1 ⟨i,l⟩ with e | e
  .exact .inl e
  .exact .inr (g b e).1
 .exact aD.mono (λb a=>⟨(y b).1 a,rfl⟩) (λ_ _ h=>h) _ _ q
theorem tJ{d:Type}{a b:List d}{n:Nat}(h:a.length=n):(a++b).drop n=b:=by rw [<-h,aas]
theorem vO{R:Type}{all:List Id}{d:Nat}:∀{outs:List kO} {X:List Id} {j jj:Nat} {xs:List T} {own:List Nat} {K:aK->Option R} {res:R},pT B w A jj outs xs own->gX all d j X outs xs K=some res->
  ∃us,K us=some res/\(∀p∈us,(∃k,j<=k/\p.1= .s d k)\/p.1∈X)/\
   ∀h ρ O,xy B all ρ->(∀k i,X[k]? =some i->h i=some .dead/\∀v,B (jj+k)=some v->ρ i=some v)->ik c w A h ρ O->own.Nodup->(∀b∈own,b < w.heap.size/\c.MO b/\∀i,O i≠some b)->X.Nodup->
    (∀i∈X,∀k,i≠ .s d k)->(∀p∈us,∀k,p.1= .s d k->h p.1=none)->
    ∃ρ' O',(∀i u,ρ i=some u->ρ' i=some u)/\ik c w A (aR h us) ρ' O'/\∀b,(∃i,O' i=some b)↔((∃i,O i=some b)\/b∈own)
 | [],[],j,jj,xs,own,K,res,o,a=>by obtain⟨rfl,rfl⟩:=o;simp only [gX] at a;exact⟨[],a,(by intro p f;cases f),λh ρ O _ _ hs _ _ _ _ _=>⟨ρ,O,λ_ _ h=>h,hs,λb=>by simp⟩⟩
 | [],_::_,j,jj,xs,own,K,res,o,a=>by simp [gX] at a
 | r::outs,[],j,jj,xs,own,K,res,o,a=>by cases r <;> simp [gX] at a
 | .dead::outs,i::X,j,jj,xs,own,K,res,o,a=>by
  simp only [gX] at a;obtain⟨us,a,y,tk⟩:=vO (jj:=jj+1) o a;refine⟨us,a,λp f=>(y p f).imp id (W8 _),λh ρ O L S hs N n G C q=> ?_⟩;exact tk h ρ O L (λk i a=>by
   have:=S (k+1) i (by simpa using a);rw [show jj+ (k+1)=jj+1+k by omega] at this;exact this) hs N n (Yq.1 G).2 (λi W=>C i (W8 _ W)) q
 | .mp ag ks vk::outs,i::X,j,jj,xs,own,K,res,o,a=>by
  obtain⟨es,F,ents,clock,x2,o2,rfl,rfl,hB,V,hes,hok,I⟩:=o;obtain⟨ob,hob⟩:∃ob:Option Nat,ob=some F:=⟨_,rfl⟩;rw [show F::o2=ob.toList++o2 by rw [hob];rfl] at *
  simp only [gX,Yl,Xb,Y4] at a;replace a:=aW a (.inl rfl);obtain⟨p,f,a⟩:=a;rw [Fo] at f;simp only [W5] at f;subst f;obtain⟨us,a,y,tk⟩:=vO (jj:=jj+1) I a;refine⟨_,a,λp f=> ?_,λh ρ O L S hs N n G C q=> ?_⟩
  .rcases Xl.1 f with rfl | f
   .exact .inr W7
   .exact(y p f).imp id (W8 _)
  obtain⟨n1,n2⟩:=Yq.1 G;obtain⟨d1,d2⟩:=S 0 i rfl;obtain⟨k1,k2,k3⟩:=YH.1 N;have U:=hs.Dh d1 ob (λb D=>n b (Xp _ (by simp [D]))) (.mp ag ks vk es) ⟨F,ents,clock,d2 _ (by simpa using hB),by rw [aH,hob],V,hes,hok⟩;have Y:O i=none:=(hs.ah i _ d1).2;have z:∀b,(∃k,aN O i ob k=some b)↔((∃k,O k=some b)\/b∈ob.toList):=by
   intro b;constructor
   .rintro⟨k,a⟩;by_cases e:k=i
    .rw [e,aH] at a;right;simp [a]
    .rw [ay _ _ e] at a;exact .inl ⟨k,a⟩
   .rintro(⟨k,a⟩ | a)
    .by_cases e:k=i
     .rw [e,Y] at a;cases a
     .exact⟨k,by rw [ay _ _ e];exact a⟩
    .exact⟨i,by rw [aH];simpa using a⟩
  have Q:∀b∈o2,b < w.heap.size/\c.MO b/\∀k,aN O i ob k≠some b:=by
   intro b D;obtain⟨g1,M,J⟩:=n b (Xn _ D);refine⟨g1,M,λi' Z=> ?_⟩;rcases(z b).1 ⟨i',Z⟩ with⟨k,a⟩ | a
   .exact J k a
   .exact k3 b a b D rfl
  have H:∀p∈us,∀k,p.1= .s d k->aN h i (some (.mp ag ks vk es)) p.1=none:=by intro p f k e;have E:p.1≠i:=λe'=>C i W7 k (by rw [<-e',e]);rw [ay _ _ E];exact q p (W8 _ f) k e
  obtain⟨ρ',O',m,hs',rng⟩:=tk (aN h i (some (.mp ag ks vk es))) ρ (aN O i ob) L (λk i' a=>by
    have:=S (k+1) i' (by simpa using a);rw [show jj+ (k+1)=jj+1+k by omega] at this;refine⟨?_,this.2⟩;have E:i'≠i:=λe=>n1 (by rw [<-e];exact Xg a);rw [ay _ _ E];exact this.1) U k2 Q n2 (λi W=>C i (W8 _ W)) H
  refine⟨ρ',O',m,hs',λb=> ?_⟩;rw [rng b,z b,Xo,or_assoc]
 | .sl sz::outs,i::X,j,jj,xs,own,K,res,o,a=>by
  obtain⟨bb,l,x2,ob,v,o2,rfl,rfl,hB,hsl,I⟩:=o;simp only [gX,Yl,Xb,Y4] at a;replace a:=aW a (.inl rfl);obtain⟨p,f,a⟩:=a;simp only [T.aQ,if_true,W5] at f;subst f;obtain⟨us,a,y,tk⟩:=vO (jj:=jj+1) I a;refine⟨_,a,λp f=> ?_,λh ρ O L S hs N n G C q=> ?_⟩
  .rcases Xl.1 f with rfl | f
   .exact .inr W7
   .exact(y p f).imp id (W8 _)
  obtain⟨n1,n2⟩:=Yq.1 G;obtain⟨d1,d2⟩:=S 0 i rfl;obtain⟨k1,k2,k3⟩:=YH.1 N;have U:=hs.Dh d1 ob (λb D=>n b (Xp _ (by simp [D]))) (.sl false sz bb l) ⟨v,d2 v (by simpa using hB),by simpa using hsl,by simp⟩;have Y:O i=none:=(hs.ah i _ d1).2;have z:∀b,(∃k,aN O i ob k=some b)↔((∃k,O k=some b)\/b∈ob.toList):=by
   intro b;constructor
   .rintro⟨k,a⟩;by_cases e:k=i
    .rw [e,aH] at a;right;simp [a]
    .rw [ay _ _ e] at a;exact .inl ⟨k,a⟩
   .rintro(⟨k,a⟩ | a)
    .by_cases e:k=i
     .rw [e,Y] at a;cases a
     .exact⟨k,by rw [ay _ _ e];exact a⟩
    .exact⟨i,by rw [aH];simpa using a⟩
  have Q:∀b∈o2,b < w.heap.size/\c.MO b/\∀k,aN O i ob k≠some b:=by
   intro b D;obtain⟨g1,M,J⟩:=n b (Xn _ D);refine⟨g1,M,λi' Z=> ?_⟩;rcases(z b).1 ⟨i',Z⟩ with⟨k,a⟩ | a
   .exact J k a
   .exact k3 b a b D rfl
  have H:∀p∈us,∀k,p.1= .s d k->aN h i (some (.sl false sz bb l)) p.1=none:=by intro p f k e;have E:p.1≠i:=λe'=>C i W7 k (by rw [<-e',e]);rw [ay _ _ E];exact q p (W8 _ f) k e
  obtain⟨ρ',O',m,hs',rng⟩:=tk (aN h i (some (.sl false sz bb l))) ρ (aN O i ob) L (λk i' a=>by
    have:=S (k+1) i' (by simpa using a);rw [show jj+ (k+1)=jj+1+k by omega] at this;refine⟨?_,this.2⟩;have E:i'≠i:=λe=>n1 (by rw [<-e];exact Xg a);rw [ay _ _ E];exact this.1) U k2 Q n2 (λi W=>C i (W8 _ W)) H
  refine⟨ρ',O',m,hs',λb=> ?_⟩;rw [rng b,z b,Xo,or_assoc]
 | .box l::outs,i::X,j,jj,xs,own,K,res,o,a=>by
  obtain⟨x1,x2,F,arr,t,o1,o2,rfl,rfl,hB,V,hL,I⟩:=o;simp only [gX] at a;obtain⟨av,us1,j1,a,hj,n1',t1⟩:=yv (c:=c) (ids:=all) (.inl rfl) hL a;rw [tJ hL.length] at a;obtain⟨us2,a,y,tk⟩:=vO (jj:=jj+1) I a;refine⟨_,a,λp f=> ?_,λh ρ O L S hs N n G C q=> ?_⟩
  .rcases Xo.1 f with f | f
   .obtain⟨k,g1,M,J⟩:=n1' p f;exact .inl ⟨k,g1,J⟩
   .rcases Xl.1 f with rfl | f
    .exact .inr W7
    .rcases y p f with⟨k,g1,M⟩ | g
     .exact .inl ⟨k,by omega,M⟩
     .exact .inr (W8 _ g)
  obtain⟨n1,n2⟩:=Yq.1 G;obtain⟨d1,d2⟩:=S 0 i rfl;obtain⟨q1,q2⟩:=Yq.1 N;obtain⟨k1,k2,k3⟩:=YH.1 q2;have not1:∀x,(∀k,x≠ .s d k)->aR h us1 x=h x:=λx hx=>dZ λp f e=>by obtain⟨k,_,_,J⟩:=n1' p f;exact hx k (by rw [<-e,J])
  obtain⟨ρ1,O1,m1,U,v1,z⟩:=t1 h ρ O L hs k1 (λb D=>n b (W8 _ (Xp _ D))) (λp f=>by
   obtain⟨k,_,_,J⟩:=n1' p f;exact q p (Xp _ f) k J)
  have hdi:aR h us1 i=some .dead:=by rw [not1 i (C i W7)];exact d1
  have fresh0:∀k,O1 k≠some F:=by
   intro k a;rcases(z F).1 ⟨k,a⟩ with⟨k',hk'⟩ | hk'
   .exact(n F W7).2.2 k' hk'
   .exact q1 (Xp _ hk')
  have hs2:=U.Dh hdi (some F) (λb D=>by
   simp only [W5] at D;subst D;obtain⟨g1,M,_⟩:=n F W7;exact⟨g1,M,fresh0⟩) (.box av) ⟨F,arr,t,m1 _ _ (d2 _ (by simpa using hB)),aH _ _ _,V,v1,hL.one⟩
  have Y:O1 i=none:=(U.ah i _ hdi).2;have rng2:∀b,(∃k,aN O1 i (some F) k=some b)↔((∃k,O k=some b)\/b∈F::o1):=by
   intro b;constructor
   .rintro⟨k,a⟩;by_cases e:k=i
    .rw [e,aH] at a;cases a;exact .inr W7
    .rw [ay _ _ e] at a;rcases(z b).1 ⟨k,a⟩ with g | g
     .exact .inl g
     .exact .inr (W8 _ g)
   .intro a;have lift:(∃k,O1 k=some b)->∃k,aN O1 i (some F) k=some b:=by
     rintro⟨k,a⟩;by_cases e:k=i
     .rw [e,Y] at a;cases a
     .exact⟨k,by rw [ay _ _ e];exact a⟩
    rcases a with a | a
    .exact lift ((z b).2 (.inl a))
    .rcases Xl.1 a with rfl | a
     .exact⟨i,aH _ _ _⟩
     .exact lift ((z b).2 (.inr a))
  have Q:∀b∈o2,b < w.heap.size/\c.MO b/\∀k,aN O1 i (some F) k≠some b:=by
   intro b D;obtain⟨g1,M,J⟩:=n b (W8 _ (Xn _ D));refine⟨g1,M,λi' Z=> ?_⟩;rcases(rng2 b).1 ⟨i',Z⟩ with⟨k,a⟩ | a
   .exact J k a
   .rcases Xl.1 a with rfl | a
    .exact q1 (Xn _ D)
    .exact k3 b a b D rfl
  have H:∀p∈us2,∀k,p.1= .s d k->aN (aR h us1) i (some (.box av)) p.1=none:=by
   intro p f k e;have E:p.1≠i:=λe'=>C i W7 k (by rw [<-e',e]);rw [ay _ _ E];rw [dZ (λp' hp' e'=> ?_)]
   .exact q p (Xn _ (W8 _ f)) k e
   .obtain⟨k',g1,M,J⟩:=n1' p' hp';rcases y p f with⟨k'',g4,g5⟩ | g
    .rw [J,g5] at e';simp only [Id.s.injEq] at e';omega
    .exact C p.1 (W8 _ g) k e
  obtain⟨ρ',O',m,hs',rng⟩:=tk (aN (aR h us1) i (some (.box av))) ρ1 (aN O1 i (some F)) (λk i v e1 e2=>m1 i v (L k i v e1 e2)) (λk i' a=>by
    have hm:=Xg a;have:=S (k+1) i' (by simpa using a);rw [show jj+ (k+1)=jj+1+k by omega] at this;refine⟨?_,λv hv=>m1 _ _ (this.2 v hv)⟩;have E:i'≠i:=λe=>n1 (by rw [<-e];exact hm);rw [ay _ _ E,not1 i' (C i' (W8 _ hm))];exact this.1) hs2 k2 Q n2 (λi W=>C i (W8 _ W)) H
  refine⟨ρ',O',λi u W=>m i u (m1 i u W),by rw [np,dx];exact hs',λb=> ?_⟩;rw [rng b,rng2 b,Xl,Xl,Xo];simp only [or_assoc]
theorem EF{eV:List Id}(hs:HS c w h ρ O):∀{g:List Bool} {vs:List AV} {us:List Value} {q:List AV×aK},aD w (AA c w O) ρ vs us->ny h eV g vs=some q->
  ij h q.2/\∀O',Le w ρ O w ρ O'->(∀i,O' i=O i\/O' i=none)->(∀p∈q.2,O' p.1=none)->aD w (AA c w O') ρ q.1 us
 | g,[],us,q,f,d=>by simp only [aD] at f;subst f;simp only [ny,W5] at d;subst d;exact⟨(by intro p a;cases a),λ_ _ _ _=>by simp [aD]⟩
 | g,v::vs,us,q,f,d=>by
  simp only [aD] at f;obtain⟨u,r,rfl,n,y⟩:=f;simp only [ny] at d;obtain⟨p,a,d⟩:=W6.1 d;obtain⟨z,o,d⟩:=W6.1 d;simp only [W5] at d;subst d;obtain⟨g1,t⟩:=EF hs y o;have one:ij h p.2/\∀O',Le w ρ O w ρ O'->(∀i,O' i=O i\/O' i=none)->(∀x∈p.2,O' x.1=none)->an w (AA c w O') ρ p.1 u:=by
   unfold vw at a;cases e:(g.headD false || (!v.ids.isEmpty && v.ids.all eV.contains)) with
   | true=>rw [e] at a;simp only [cond_true,W5] at a;subst a;exact⟨(by intro p a;cases a),λO' le _ _=>an.mono (λb l=>le.A b l) (λ_ _ h=>h) _ _ n⟩
   | false=>rw [e] at a;simp only [cond_false] at a;obtain⟨k1,k2⟩:=(EI hs n a).2 rfl;exact⟨k1,λO' le j k=>an.mono (λb l=>⟨l,rfl⟩) (by intro i v h;cases h) _ _ (k2 O' le j k)⟩
  refine⟨one.1.append g1,λO' le j k=> ?_⟩;simp only [aD];exact⟨u,r,rfl,one.2 O' le j (λx m=>k x (Xp _ m)),t O' le j (λx m=>k x (Xn _ m))⟩
theorem eM.length:∀{rs:List cH} {xs:List T} {vs:List Value} {own:List Nat},eM B w A rs xs vs own->xs.length=oa rs
 | [],_,_,_,⟨rfl,_,_⟩=>rfl
 | r::rs,xs,vs,own,h=>by
  cases r with
  | agg l=>obtain⟨f,x2,k,d,o1,o2,rfl,rfl,rfl,b,a⟩:=h;simp [oa,cH.size,b.length,eM.length a]
  | new l=>obtain⟨f,x2,j,arr,ty,d,o1,o2,rfl,rfl,rfl,g,b,a⟩:=h;simp [oa,cH.size,b.length,eM.length a]
  | _=>obtain⟨x,i,v,d,ob,e,rfl,rfl,rfl,b,a⟩:=h;simp [oa,cH.size,eM.length a];omega
theorem Nj{R:Type}{d:Nat}:∀{rs:List cH} {e x2:List T} {j:Nat} {vs:List Value} {own:List Nat} {K:List AV->aK->Nat->Option R},eM B w A rs e vs own->
  eT ids d cc j rs (e++x2) K=eT ids d cc j rs e K:=by
 have one:∀{l:List cH} {e x2:List T} {j:Nat} {vs:List Value} {own:List Nat} {K:List AV->aK->Nat->Option R},gy B w A l e vs own->lB ids d cc j l (e++x2) K=lB ids d cc j l e K:=by
  intro l;induction l with
  | nil=>intro e x2 j vs own K h;rfl
  | cons r l p=>intro e x2 j vs own K h;obtain⟨x,o,v,g,ob,m,rfl,rfl,rfl,i,n⟩:=h;simp only [lB,X7,Yl,Y4];congr 1;funext y;congr 1;funext v u j;exact p n
 intro rs;induction rs with
 | nil=>intro e x2 j vs own K h;rfl
 | cons r rs p=>
  intro e x2 j vs own K h
  have a:(∃x o v g ob m,e=x::o/\vs=v::g/\own=ob++m/\kQ B w A r x v ob/\eM B w A rs o g m)->
    (ab cc (e++x2).head? λx=>nI ids d cc j r x λv u j=>eT ids d cc j rs (e++x2).tail λvs us j=>K (v::vs) (u++us) j)=
    ab cc e.head? λx=>nI ids d cc j r x λv u j=>eT ids d cc j rs e.tail λvs us j=>K (v::vs) (u++us) j:=by
   rintro⟨x,o,v,g,ob,m,rfl,rfl,rfl,i,n⟩;simp only [X7,Yl,Y4];congr 1;funext y;congr 1;funext v u j;exact p n
  cases r with
  | agg l=>obtain⟨z,q,E,g,o1,o2,rfl,rfl,rfl,i,n⟩:=h;simp only [eT];have hl:=i.length;rw [XC,one i,one (x2:=q) i];congr 1;funext v u j;rw [tJ hl,tJ hl];exact p n
  | f k=>exact a h
  | t k=>exact a h
  | own sz=>exact a h
  | rows sz col rsz=>exact a h
  | mp ag ks vk=>exact a h
  | new l=>
   obtain⟨z,q,D,arr,ty,g,o1,o2,rfl,rfl,rfl,C,i,n⟩:=h;have hl:=i.length;cases cc with
   | some b=>simp only [eT]
   | none=>
   simp only [eT];rw [XC,one i,one (x2:=q) i];congr 1;funext v u j;rw [tJ hl,tJ hl];exact p n
  | ref k off=>exact a h
  | same k=>exact a h
  | no=>exact a h
theorem yt{l:List Id}{h:Id->Option ad}{i:Id}(a:i∈l):aR h (lA l) i=some .dead:=by
 induction l generalizing h with
 | nil=>cases a
 | cons j l f=>
  show aR (aN h j (some .dead)) (lA l) i=some .dead;by_cases hm:i∈l
  .exact f hm
  .have:i=j:=by
    rcases Xl.1 a with h | h
    .exact h
    .exact(hm h).elim
   subst this;rw [dZ (λp d e=> ?_),aH];obtain⟨k,b,rfl⟩:=XB.1 d;exact hm (e▸b)
theorem vL{l:List Id}{h:Id->Option ad}{i:Id}(a:i∉l):aR h (lA l) i=h i:=by refine dZ λp d e=> ?_;obtain⟨k,b,rfl⟩:=XB.1 d;exact a (e▸b)
theorem SC{d:Nat}{l:List Id}(h:zy d l=true):∀i∈l,∀k,i≠ .s d k:=by intro i a k e;have:=Xw.1 h i a;subst e;simp at this
theorem E8{R:Type}{An:cW}{Or:aq}(hO:ko P An Or){d:Nat}{f:FuncId}{args:List AV}{bE:List Value}{K:AV->aK->Option R}{r:R}(hc:cc=none\/cc=some true)(hs:HS c w s.h ρ O)(hv:aD w (AA c w O) ρ args bE)
  (a:im P An Or s d cc f args K=some r):
  ∃v us fn Q,K v us=some r/\P.funcs[f]? =some fn/\fn.body=some Q/\fn.name≠ "runtime.NumGoroutine" /\
   (jr d s.h us=true->Calls P f bE.toArray w λe w'=>∃x,e= .returned x/\∃ρ' O',Le w ρ O w' ρ' O'/\HS c w' (aR s.h us) ρ' O'/\an w' (AA c w' O') ρ' v x):=by
 unfold im at a;split at a
 .simp at a
 rename_i fn hfn;split at a
 .rename_i hbref;replace a:=W6.1 a;obtain⟨p,hp,a⟩:=a;obtain⟨pt,a,Z⟩:=Ar hc a;replace a:=aW a (.inl rfl);obtain⟨xs,hxs,a⟩:=a;replace hxs:Or (.call f) pt []=some xs:=by rcases hc with rfl | rfl <;> exact hxs
  obtain⟨fn',Q,U,V,X,C⟩:=hO f pt [] xs hxs;rw [hfn] at U;simp only [W5] at U;subst U;have C:=C.values hbref;have ok:=EK hs hv hp;rw [show eT [] d cc 0 (dQ P An f 0 fn) xs (λvs u _=>K (mV vs) (p.2++u))= (eT [] d cc 0 (dQ P An f 0 fn) xs (λvs u j=>some (vs,u,j))).bind (λq=>K (mV q.1) (p.2++q.2.1)) from by rw [rP];rfl] at a;replace a:=W6.1 a;obtain⟨q,hq,a⟩:=a;refine⟨_,_,fn,Q,a,hfn,V,X,λW=> ?_⟩;have hfree':∀k,(∃b,(Id.s d k,b)∈q.2.1)->s.h (.s d k)=none:=by rintro k ⟨b,o⟩;have:=Xw.1 W _ (Xn _ o);simpa using this
  cases hfl:(dQ P An f 0 fn).all tW with
  | true=>
   obtain⟨hp2,S⟩:=ok.1 hfl;refine(C _ w bE (λb o=>o) (Z _ _ _ _ S) hs.ok).mono λe w' Y=> ?_;obtain⟨rs,own,rfl,L,hnd,D,J⟩:=Y;obtain⟨J,rfl⟩:=J.flat (A':=λb=>(c.A0 b\/c.MO b)/\b < w'.heap.size/\b∉([]:List Nat)/\∀i,O i≠some b) hfl;obtain⟨avs,us,j,hq',names,tk⟩:=K7 hc hs L hnd D J hq;simp only [W5] at hq';subst hq';obtain⟨ρ',O',le,hs',hv'⟩:=tk (λp hp=>by
    obtain⟨k,_,_,e⟩:=names p hp;rw [e];exact hfree' k ⟨p.2,by rw [<-e];exact hp⟩)
   refine⟨_,rfl,ρ',O',le, ?_,De hv'⟩;rw [hp2];exact hs'
  | false=>
   obtain⟨hfz,S⟩:=ok.2 hfl;obtain⟨O1,cD,hs1,hO1,hf1,_⟩:=hs.rZ hfz;refine(C _ w bE (λb o=>o.2.1) (Z _ _ _ _ (S O1 cD hO1 hf1)) hs.ok).mono λe w' Y=> ?_;obtain⟨rs,own,rfl,L,hnd,D,J⟩:=Y;have J:=J.mono (A':=λb=>(c.A0 b\/c.MO b)/\b < w'.heap.size/\b∉own/\∀i,O1 i≠some b) (by
    rintro b ⟨h1 | h1,E,h3⟩
    .exact⟨h1.1,E,h3,h1.2.2⟩
    .exact⟨.inr (.inr (X2 hs.size h1)),E,h3,λi t=>by have:=hs1.lt i b t;omega⟩)
   obtain⟨avs,us,j,hq',names,tk⟩:=K7 hc hs1 L hnd D J hq;simp only [W5] at hq';subst hq';obtain⟨ρ',O',le,hs',hv'⟩:=tk (λp' hp'=>by
    obtain⟨k,_,_,e⟩:=names p' hp';have hn:=hfree' k ⟨p'.2,by rw [<-e];exact hp'⟩;rw [dZ (λx F ex=> ?_),e]
    .exact hn
    .have E:=hfz x F;rw [ex,e,hn] at E;rcases E with⟨sz,b,l,_,E⟩ | ⟨l,_,E⟩ <;> simp at E)
   exact⟨_,rfl,ρ',O',cD.trans le,by rw [np];exact hs',De hv'⟩
 .rename_i fl hbref;cases cc with
  | some b=>simp at a
  | none=>
  dsimp only at a;replace a:=W6.1 a;obtain⟨p,hp,a⟩:=a;replace a:=W6.1 a;obtain⟨us,hus,a⟩:=a;replace a:=W6.1 a;obtain⟨seen,hseen,a⟩:=a;generalize hn0:iJ ((cC p.1).head?.bind (aR s.h p.2))=n0 at a hus;cases N:(zy d seen && Nat.beq (iJ (seen.map λi=>iQ seen (aR (aR s.h p.2) us i)).head?) n0) with
  | false=>rw [N] at a;simp at a
  | true=>
  rw [N,cond_true] at a;simp only [Xf] at N;obtain⟨hnot,hd0⟩:=N;replace hd0:=Nat.eq_of_beq_eq_true hd0;have hns:=SC hnot;obtain⟨pt,a,Z⟩:=Ar (.inl rfl) a;replace a:=aW a (.inl rfl);obtain⟨xs,hxs,a⟩:=a;obtain⟨fn',Q,U,V,X,C⟩:=hO f pt _ xs hxs;rw [hfn] at U;simp only [W5] at U;subst U;obtain⟨hfz,S⟩:=EF hs hv hp;obtain⟨O1,cD,hs1,hO1,hf1,_⟩:=hs.rZ hfz;have hv1:=S O1 cD hO1 hf1;obtain⟨ρ2,I,le2,z⟩:=C4 hs1 hus;have hv2:=aD.mono (λb o=>le2.A b o) le2.fu _ _ hv1;obtain⟨g1,_,g3,g4,g5⟩:=w7 hseen ZK (by simp) (by simp);let c':Ctx:={A0:=AA c w I,M:=λb=>∃i,Of seen i/\I i=some b,N0:=w.heap.size};have hA3:∀b,AA c w I b->AA c' w (cN seen I) b:=λb o=>⟨.inl o,o.2.1,λi t=>by
   obtain⟨k,_,a⟩:=w9 ⟨i,t⟩;exact o.2.2 k a⟩
  have hs3:=z.JW (c':=c') g1 g4 g5 hA3 (λb o=> .inl (w9 o)) (Xr _) ⟨X2 z.glob.2.1 z.size,λb o h=>by
   obtain⟨i,_,t⟩:=h;rcases z.own i b t with h | h
   .exact z.glob.2.2 b o h
   .have:=z.glob.2.1;omega⟩
  have hv3:=Z _ _ _ _ (aD.rn (m:=seen) hA3 _ _ (λi t=>g3 i t) hv2);have C:=C c' w _ _ bE rfl hs3 hv3;rw [hd0] at C;obtain⟨blks,hblks⟩:∃blks,blks=seen.map λi=>iQ seen (aR (aR s.h p.2) us i):=⟨_,rfl⟩;obtain⟨E,hh2⟩:∃E,E=aR (aR s.h p.2) us:=⟨_,rfl⟩;rw [<-hblks] at C;rw [<-hh2] at z g4 g5;rw [show(eT seen d none 0 (dQ P An f n0 fn) xs λvs u j=>gX seen d j seen (iP An f n0) (xs.drop (oa (dQ P An f n0 fn))) λq=>K (mV vs) (p.2++us++lA seen++u++q))=
   ((eT seen d none 0 (dQ P An f n0 fn) xs λvs u j=>some (vs,u,j)).bind λq0=>(gX seen d q0.2.2 seen (iP An f n0) (xs.drop (oa (dQ P An f n0 fn))) some).bind λq=>K (mV q0.1) (p.2++us++lA seen++q0.2.1++q)) from by
    rw [rP];congr 1;funext vs u j;simp only [Xb];rw [yw];rfl] at a
  replace a:=W6.1 a;obtain⟨⟨avs,u0,j0⟩,hq0,a⟩:=a;replace a:=W6.1 a;obtain⟨qs,hqs,a⟩:=a;dsimp only at hqs a;refine⟨_,_,fn,Q,a,hfn,V,X,λW=> ?_⟩;refine C.mono ?_;rintro e w' ⟨rs,x1,x2,o1,o2,rfl,L,rfl,hnd,D,J,ho⟩;refine⟨_,rfl, ?_⟩;rw [tJ J.length] at hqs;rw [Nj J] at hq0;obtain⟨n1,n2,n3⟩:=YH.1 hnd;have inMO:∀b,c'.MO b->c.MO b:=by
   rintro b (⟨i,_,t⟩ | o)
   .exact z.own i b t
   .exact .inr (X2 z.size o)
  have eV:∀b,b < w.heap.size->(∀i,Of seen i->I i≠some b)->w'.heap[b]? =w.heap[b]?:=λb o hn=>L.ah b o λho=>by obtain⟨k,a,e⟩:=w9 ho;exact hn k a e
  have out:∀b∈o1++o2,∀i,¬Of seen i->I i≠some b:=by
   intro b o i t e;rcases(D b o).1 with⟨k,a,hkb⟩ | hN
   .exact t (z.inj k i b hkb e▸a)
   .have:=z.lt i b e;exact absurd hN (aah this)
  let A1:Nat->Prop:=λb=>(c'.A0 b\/c'.MO b)/\b < w'.heap.size/\b∉o1++o2
  classical
  let OD:Id->Option Nat:=λi=>if Of seen i then none else I i;have hreal:∀i∈seen,i.real=true:=λi t=>z.real (g4 i t);have hofr:∀{i:Id},i.real=true->Of seen i->i∈seen:=by
   rintro i J (t | ⟨j,n,_,rfl⟩)
   .exact t
   .cases J
  have hofg:∀{i:Id} {n:Nat},Of seen (.g i n)->i∈seen:=by
   rintro i n (t | ⟨j,m,hj,e⟩)
   .have:=hreal _ t;cases this
   .cases e;exact hj
  have H:∀i b,OD i=some b->¬Of seen i/\I i=some b:=by
   intro i b h;simp only [OD] at h;split at h
   .cases h
   .rename_i t;exact⟨t,h⟩
  have hA4:∀b,AA c w I b->A1 b/\w'.heap[b]? =w.heap[b]?:=by
   intro b o;refine⟨⟨.inl o,X5 o.2.1 L.size,λhm=> ?_⟩,eV b o.2.1 λi _=>o.2.2 i⟩;rcases(D b hm).1 with⟨k,_,hkb⟩ | hN
   .exact o.2.2 k hkb
   .exact absurd hN (aah o.2.1)
  have hsa:ik c w' A1 (aR E (lA seen)) ρ2 OD:=by
   refine⟨λi x F=> ?_,λi hir t=> ?_,λi n=> ?_,λi n t=> ?_,z.gone,λi j b t hj=> ?_,λi b t=> ?_,λi b t=> ?_,X2 z.size L.size,B7 (λb o=>eV b (X5 o (X2 z.glob.2.1 z.size)) λi _ t=>by
    rcases z.own i b t with h | h
    .exact z.glob.2.2 b o h
    .have:=z.glob.2.1;omega) z.glob.1,z.glob.2⟩
   .by_cases hm:i∈seen
    .rw [yt hm] at F;cases F;obtain⟨y,hy⟩:=Zz.1 (g4 i hm);exact⟨z.KM hy,if_pos (.inl hm)⟩
    .rw [vL hm] at F;have hm':¬Of seen i:=λe=>hm (hofr (z.real (by rw [F];simp)) e);have hmg:∀n,¬Of seen (.g i n):=λn e=>hm (hofg e);refine dF.mono (λn=>⟨rfl,if_neg (hmg n),λb o=>eV b (z.lt _ b o) λk a e=>hmg n (z.inj k _ b e o▸a)⟩) hA4 (λ_ _ h=>h) (if_neg hm') (λb o=>eV b (z.lt i b o) λk a e=> ?_) (z.ah i x F);exact hm' (z.inj k i b e o▸a)
   .by_cases hm:i∈seen
    .rw [yt hm] at t;cases t
    .rw [vL hm] at t;obtain⟨G,a2⟩:=z.cO i hir t;exact⟨G,by rw [show OD i=I i from if_neg λe=>hm (hofr hir e)];exact a2⟩
   .rw [vL λhm=>by have:=hreal _ hm;cases this];exact z.eP i n
   .by_cases hm:i∈seen
    .rw [yt hm] at t;cases t
    .rw [vL hm] at t;obtain⟨G,a2⟩:=z.gG i n t;exact⟨G,by rw [show OD (.g i n)=I (.g i n) from if_neg λe=>hm (hofg e)];exact a2⟩
   .exact z.inj i j b (H i b t).2 (H j b hj).2
   .exact X5 (z.lt i b (H i b t).2) L.size
   .exact z.own i b (H i b t).2
  have hbr:xy (qt blks.length (cN seen ρ2)) seen ρ2:=by
   intro k i v a hB;simp only [qt] at hB;split at hB
   .simpa [cN,a] using hB
   .cases hB
  have hnew:∀k,(∃b,(Id.s d k,b)∈u0\/(Id.s d k,b)∈qs)->s.h (.s d k)=none:=by
   rintro k ⟨b,o⟩;have hm:(Id.s d k,b)∈p.2++us++lA seen++u0++qs:=by
    rcases o with o | o
    .exact Xp _ (Xn _ o)
    .exact Xn _ o
   have:=Xw.1 W _ hm;simpa using this
  have hnone:∀k,s.h (.s d k)=none->aR E (lA seen) (.s d k)=none:=by
   intro k a;rw [vL λhm=>hns _ hm k rfl,hh2];refine JF (λk' e=> ?_) hus ?_
   .simp only [Id.s.injEq] at e;omega
   .rw [dZ λx F ex=> ?_]
    .exact a
    .have E:=hfz x F;rw [ex,a] at E;rcases E with⟨sz,b,l,_,E⟩ | ⟨l,_,E⟩ <;> simp at E
  obtain⟨avs',u0',j0',hq0',_,T,tk0⟩:=vN (c:=c) (ids:=seen) (.inl rfl) J hq0;simp only [W5,XP] at hq0';obtain⟨rfl,rfl,rfl⟩:=hq0';obtain⟨ρ3,O3,m3,hs4,v3,rng3⟩:=tk0 _ ρ2 OD hbr hsa n1 (λb o=>⟨(D b (Xp _ o)).2,inMO b (D b (Xp _ o)).1,λi t=>out b (Xp _ o) i (H i b t).1 (H i b t).2⟩)
   (λx F=>by
    obtain⟨k,_,_,e⟩:=T x F;rw [e];exact hnone k (hnew k ⟨x.2, .inl (by rw [<-e];exact F)⟩))
  obtain⟨qs',hqs',names1,tk1⟩:=vO (c:=c) ho hqs;simp only [W5] at hqs';subst hqs';have notin0:∀x,(∀k,x≠ .s d k)->aR (aR E (lA seen)) u0' x=aR E (lA seen) x:=λx F=>dZ λy hy e=>by obtain⟨k,_,_,g⟩:=T y hy;exact F k (by rw [<-e,g])
  obtain⟨ρ4,O4,m4,hs5,rng4⟩:=tk1 _ ρ3 O3 (λk i v U e2=>m3 i v (hbr k i v U e2)) (λk i a=>by
    have hm:=Xg a;refine⟨by rw [notin0 i (hns i hm),yt hm],λv hv=> ?_⟩;rw [XF] at hv;exact m3 i v (hbr k i v a hv)) hs4 n2 (λb o=>⟨(D b (Xn _ o)).2,inMO b (D b (Xn _ o)).1,λi t=>by
    rcases(rng3 b).1 ⟨i,t⟩ with⟨k,a⟩ | a
    .exact out b (Xn _ o) k (H k b a).1 (H k b a).2
    .exact n3 b a b o rfl⟩) g1 (λi t k=>hns i t k) (λx F k e=>by
    rw [dZ (λy hy ey=> ?_),e]
    .exact hnone k (hnew k ⟨x.2, .inr (by rw [<-e];exact F)⟩)
    .obtain⟨k',_,g2,g⟩:=T y hy;rcases names1 x F with⟨k'',g6,g7⟩ | g6
     .rw [g,g7] at ey;simp only [Id.s.injEq] at ey;omega
     .exact hns _ g6 k e)
  have rng:∀b,(∃i,O4 i=some b)↔(∃i,OD i=some b)\/b∈o1++o2:=by intro b;rw [rng4 b,rng3 b,Xo,or_assoc]
  have hAA:∀b,A1 b↔AA c w' O4 b:=by
   intro b;constructor
   .rintro⟨G,a2,a3⟩;refine⟨?_,a2,λi t=> ?_⟩
    .rcases G with G | G
     .exact G.1
     .exact .inr (inMO b G)
    .rcases(rng b).1 ⟨i,t⟩ with⟨k,a⟩ | a
     .obtain⟨k1,k2⟩:=H k b a;rcases G with G | ⟨k',hk',e⟩ | G
      .exact G.2.2 k k2
      .exact k1 (z.inj k' k b e k2▸hk')
      .exact absurd G (aah (z.lt k b k2))
     .exact a3 a
   .rintro⟨G,a2,a3⟩;refine⟨?_,a2,λhm=> ?_⟩
    .by_cases o:b < w.heap.size
     .by_cases hex:∃i,I i=some b
      .obtain⟨i,t⟩:=hex;by_cases hm:Of seen i
       .exact .inr (.inl ⟨i,hm,t⟩)
       .obtain⟨k,a⟩:=(rng b).2 (.inl ⟨i,by simp only [OD,if_neg hm];exact t⟩);exact(a3 k a).elim
      .exact .inl ⟨G,o,λi t=>hex ⟨i,t⟩⟩
     .exact .inr (.inr (Nat.le_of_not_lt o))
    .obtain⟨k,a⟩:=(rng b).2 (.inr hm);exact a3 k a
  have le3:Le w ρ2 I w' ρ4 O4:=by
   refine⟨L.os,L.output,L.tape,L.size,λi v t=>m4 i v (m3 i v t),λb o hn=>eV b o λi _=>hn i,λi b t=> ?_⟩;rcases(rng b).1 ⟨i,t⟩ with⟨k,a⟩ | a
   .exact .inl ⟨k,(H k b a).2⟩
   .rcases(D b a).1 with⟨k,_,hkb⟩ | hN
    .exact .inl ⟨k,hkb⟩
    .exact .inr hN
  refine⟨ρ4,O4,cD.trans (le2.trans le3), ?_,De (aD.mono (λb o=>⟨(hAA b).1 o,rfl⟩) m4 _ _ v3)⟩;have:=hs5.Li hAA;rw [hh2] at this;simp only [np];exact this
end
open Go
section
variable {P:Program} {w w':World} {A A':Nat->Prop} {c:Ctx} {ρ ρ':Id->Option Value} {O O':Id->Option Nat} {s:St} {cc:Option Bool} {h:Id->Option ad}
theorem dF.KC{i:Id}{b:Bool}{sz col rsz R k:Nat}{es:List Row}{e:Row}(o:dF w A ρ O i (.rows b sz col rsz R es))(l:es[k]? =some e)(q:Option (Bool×List (List T)))(H:∀d,A d->A' d)
  (E:ρ' i=ρ i) (C:∀n,ρ' (.g i n)=ρ (.g i n)) (J:O' i=O i) (I:∀m,m≠e.n->O' (.g i m)=O (.g i m))
  (M:match q with | some p=>∀v,ρ (.g i e.n)=some v->dr w A' rsz p.1 p.2 v (λd=>O' (.g i e.n)=some d) | none=>O' (.g i e.n)=none):
  dF w A' ρ' O' i (.rows b sz col rsz R (es.set k {e with own:=q})):=by
 obtain⟨a,cap,r1,r2,r3,⟨N,Q,n3,n4⟩,F⟩:=o;have x:(es.set k {e with own:=q}).length=es.length:=by simp
 have z:(es.set k {e with own:=q}).map (·.n)=es.map (·.n):=by
  rw [aae];refine Yz λm=> ?_;rw [Yx];split
  .rename_i h;subst h;have:=(W9.1 l).1;rw [if_pos (by simpa using this)];simp [l]
  .rfl
 refine⟨a,cap,by rw [x,E];exact r1,by rw [x];exact r2,r3,⟨by rw [z];exact N,λf j=> ?_,λm hm=>by rw [C];exact n3 m hm,λm d K=> ?_⟩, ?_⟩
 .rcases YV j with j | rfl
  .exact Q f j
  .exact Q e (Xg l)
 .have L:∃f∈es,f.n=m:=by
   by_cases hm:m=e.n
   .exact⟨e,Xg l,hm.symm⟩
   .rw [I m hm] at K;exact n4 m d K
  obtain⟨f,j,r⟩:=L;have:m∈(es.set k {e with own:=q}).map (·.n):=by rw [z];exact XB.2 ⟨f,j,r⟩
  obtain⟨Y,h1,h2⟩:=XB.1 this;exact⟨Y,h1,h2⟩
 .rcases F with F | ⟨ah,off,arr,t,q1,q2,q3,q4,S⟩
  .exact .inl F
  .refine .inr ⟨ah,off,arr,t,q1,by rw [J];exact q2,q3,q4, ?_⟩;have D:=S.get l;refine cL.set (λb o=>⟨H b o,rfl⟩) (W9.1 l).1 (λ_ _ _ _=>rfl) (λm f hm j=> ?_) ?_ S
   .have r:f.n≠e.n:=λh=>hm (wM N j l h);exact⟨C _,I _ r,λ_ _=>rfl⟩
   .obtain⟨V,W,X,u,a4,G,a7⟩:=D;refine⟨V,W,λm y hm hy=> ?_,u,a4,by rw [C];exact G, ?_⟩
    .obtain⟨U,g1,Z⟩:=X m y hm hy;exact⟨U,g1,az.mono (λb o=>⟨H b o,rfl⟩) y U Z⟩
    .cases q with
     | none=>exact M
     | some p=>exact M u G
theorem Jb{n:Nat}:∀{es:List Row} {u:Unit},uq n es=some u->∃k e,es[k]? =some e/\e.n=n/\e.own=none/\∀q,dG n q es=es.set k {e with own:=q}
 | [],_,h=>by simp [uq] at h
 | e::es,u,h=>by
  unfold uq at h;by_cases c:e.n=n
  .rw [if_pos c] at h;split at h
   .rename_i ho;exact⟨0,e,rfl,c,ho,λq=>by simp [dG,c]⟩
   .cases h
  .rw [if_neg c] at h;obtain⟨k,f,a,b,d,g⟩:=Jb h;exact⟨k+1,f,by simpa using a,b,d,λq=>by simp [dG,c,g q]⟩
theorem HS.iO{i new:Id}{b:Bool}{sz col rsz L n:Nat}{es:List Row}{p:Bool×List (List T)}{v:Value}(hs:HS c w h ρ O)(t:h i=some (.rows b sz col rsz L es))(H:cU n es=some p)(U:ρ (.g i n)=some v)
  (z:h new=none) (hrl:new.real=true):
  ∃O',Le w ρ O w (aN ρ new (some v)) O'/\HS c w (aN (aN h i (some (.rows b sz col rsz L (dG n none es)))) new (some (.sl false rsz p.1 p.2))) (aN ρ new (some v)) O':=by
 have D:=hs.real (i:=i) (by rw [t];simp);have Z:i≠new:=λe=>by rw [e,z] at t;cases t
 obtain⟨k,e,S,C,Y,F⟩:=yM H;obtain⟨v',M,X⟩:=zS (s:=⟨λ_=>(none, .top),h⟩) hs t H;rw [U] at M;cases M;let Q:Id->Option Nat:=λx=>if x=new then O (.g i n) else if x= .g i n then none else O x;have N:Q new=O (.g i n):=by simp only [Q,if_true]
 have R:Q (.g i n)=none:=by simp only [Q,if_neg (aY hrl),if_true]
 have o:∀x,x≠new->x≠ .g i n->Q x=O x:=λx f j=>by simp only [Q,if_neg f,if_neg j]
 have l:∀x d,Q x=some d->(x=new/\O (.g i n)=some d)\/(x≠new/\x≠ .g i n/\O x=some d):=by
  intro x d a;simp only [Q] at a;split at a
  .exact .inl ⟨by assumption,a⟩
  .split at a
   .cases a
   .exact .inr ⟨by assumption,by assumption,a⟩
 obtain⟨W,n2⟩:=hs.cO new hrl z;have le:Le w ρ O w (aN ρ new (some v)) Q:=⟨rfl,rfl,rfl,Xr _,λx u a=>by
  by_cases e:x=new
  .subst e;rw [W] at a;cases a
  .rw [ay _ _ e];exact a,λ_ _ _=>rfl,λx d a=>by
  rcases l x d a with⟨_,h⟩ | ⟨_,_,h⟩
  .exact .inl ⟨_,h⟩
  .exact .inl ⟨_,h⟩⟩
 refine⟨Q,le,hs.qp le (λx y a=> ?_) (λx I a=> ?_) (λx m=>by rw [ay _ _ (aY hrl),ay _ _ (aY D)];exact hs.eP x m) (λx m a=> ?_) (λx m u K=>by rw [ay _ _ (aY hrl)] at K;exact hs.gone x m u K) (λx y d a V=> ?_) (λx d a=> ?_)⟩
 .by_cases q:x=new
  .subst q;rw [aH] at a;cases a;right;refine⟨v,aH _ _ _,dr.mono (λd r=>le.A d r) (λd r=>⟨?_,rfl⟩) X,by simp⟩;simp only [XD,if_false];rw [N];exact r
  .rw [ay _ _ q] at a;by_cases E:x=i
   .subst E;rw [aH] at a;cases a;right;rw [F];refine dF.KC (hs.ah x _ t) S none (λd r=>(le.A d r).1) (ay _ _ q) (λm=>ay _ _ (aY hrl)) (o x q (aY D).symm) (λm hm=>o _ (aY hrl) ?_) ?_
    .intro h;simp only [Id.g.injEq,true_and] at h;exact hm (h.trans C.symm)
    .simp only;rw [C];exact R
   .rw [ay _ _ E] at a;have J:=hs.real (i:=x) (by rw [a];simp);refine .inl ⟨a,o x q (aY J).symm,λ_ _=>rfl,λm=>⟨ay _ _ (aY hrl),o _ (aY hrl) ?_,λ_ _=>rfl⟩⟩;intro h;simp only [Id.g.injEq] at h;exact E h.1
 .have f:x≠new:=λe=>by rw [e,aH] at a;cases a
  rw [ay _ _ f] at a;have j:x≠i:=λe=>by rw [e,aH] at a;cases a
  rw [ay _ _ j] at a;rw [ay _ _ f,o x f (aY I).symm];exact hs.cO x I a
 .have f:x≠new:=λe=>by rw [e,aH] at a;cases a
  rw [ay _ _ f] at a;have j:x≠i:=λe=>by rw [e,aH] at a;cases a
  rw [ay _ _ j] at a;rw [ay _ _ (aY hrl),o _ (aY hrl) (by intro h;simp only [Id.g.injEq] at h;exact j h.1)];exact hs.gG x m a
 .rcases l x d a with⟨f,j⟩ | ⟨f,j,G⟩ <;> rcases l y d V with⟨k1,k2⟩ | ⟨k1,k2,k3⟩
  .rw [f,k1]
  .exact(k2 (hs.inj _ _ d k3 j)).elim
  .exact(j (hs.inj _ _ d G k2)).elim
  .exact hs.inj x y d G k3
 .rcases l x d a with⟨_,h⟩ | ⟨_,_,h⟩
  .exact hs.lt _ d h
  .exact hs.lt _ d h
theorem HS.back{i new:Id}{b bb:Bool}{sz col rsz K n:Nat}{es:List Row}{xs:List (List T)}{v:Value}{u:Unit}(hs:HS c w h ρ O)(z:h i=some (.rows b sz col rsz K es))(S:uq n es=some u)(l:h new=some (.sl false rsz bb xs))
  (U:ρ (.g i n)=some v) (G:ρ new=some v):
  ∃O',Le w ρ O w ρ O'/\HS c w (aN (aN h i (some (.rows b sz col rsz K (dG n (some (bb,xs)) es)))) new (some .dead)) ρ O':=by
 have C:=hs.real (i:=i) (by rw [z];simp);have hrl:=hs.real (i:=new) (by rw [l];simp);have Z:i≠new:=λe=>by rw [e,l] at z;cases z
 obtain⟨k,e,R,r,Y,F⟩:=Jb S;obtain⟨X,L,W,_⟩:=hs.ah new _ l;rw [G] at L;cases L;let Q:Id->Option Nat:=λx=>if x=new then none else if x= .g i n then O new else O x;have M:Q new=none:=by simp only [Q,if_true]
 have N:Q (.g i n)=O new:=by simp only [Q,if_neg (aY hrl),if_true]
 have p:∀x,x≠new->x≠ .g i n->Q x=O x:=λx f j=>by simp only [Q,if_neg f,if_neg j]
 have o:∀x d,Q x=some d->(x= .g i n/\O new=some d)\/(x≠new/\x≠ .g i n/\O x=some d):=by
  intro x d a;simp only [Q] at a;split at a
  .cases a
  .split at a
   .exact .inl ⟨by assumption,a⟩
   .exact .inr ⟨by assumption,by assumption,a⟩
 have le:Le w ρ O w ρ Q:=⟨rfl,rfl,rfl,Xr _,λ_ _ h=>h,λ_ _ _=>rfl,λx d a=>by
  rcases o x d a with⟨_,h⟩ | ⟨_,_,h⟩
  .exact .inl ⟨_,h⟩
  .exact .inl ⟨_,h⟩⟩
 refine⟨Q,le,hs.qp le (λx y a=> ?_) (λx I a=> ?_) (λx m=>by rw [ay _ _ (aY hrl),ay _ _ (aY C)];exact hs.eP x m) (λx m a=> ?_) hs.gone (λx y d a V=> ?_) (λx d a=> ?_)⟩
 .by_cases t:x=new
  .subst t;rw [aH] at a;cases a;exact .inr ⟨⟨v,G,lK hs G⟩,M⟩
  .rw [ay _ _ t] at a;by_cases E:x=i
   .subst E;rw [aH] at a;cases a;right;rw [F];refine dF.KC (hs.ah x _ z) R (some (bb,xs)) (λd q=>(le.A d q).1) rfl (λm=>rfl) (p x t (aY C).symm) (λm hm=>p _ (aY hrl) ?_) ?_
    .intro h;simp only [Id.g.injEq,true_and] at h;exact hm (h.trans r.symm)
    .simp only;intro X D;rw [r,U] at D;cases D;refine dr.mono (λd q=>le.A d q) (λd q=>⟨?_,rfl⟩) W;simp only [XD,if_false] at q;rw [r,N];exact q
   .rw [ay _ _ E] at a;have J:=hs.real (i:=x) (by rw [a];simp);refine .inl ⟨a,p x t (aY J).symm,λ_ _=>rfl,λm=>⟨rfl,p _ (aY hrl) ?_,λ_ _=>rfl⟩⟩;intro h;simp only [Id.g.injEq] at h;exact E h.1
 .have f:x≠new:=λe=>by rw [e,aH] at a;cases a
  rw [ay _ _ f] at a;have j:x≠i:=λe=>by rw [e,aH] at a;cases a
  rw [ay _ _ j] at a;rw [p x f (aY I).symm];exact hs.cO x I a
 .have f:x≠new:=λe=>by rw [e,aH] at a;cases a
  rw [ay _ _ f] at a;have j:x≠i:=λe=>by rw [e,aH] at a;cases a
  rw [ay _ _ j] at a;rw [p _ (aY hrl) (by intro h;simp only [Id.g.injEq] at h;exact j h.1)];exact hs.gG x m a
 .rcases o x d a with⟨f,j⟩ | ⟨f,j,H⟩ <;> rcases o y d V with⟨k1,k2⟩ | ⟨k1,k2,k3⟩
  .rw [f,k1]
  .exact(k1 (hs.inj _ _ d k3 j)).elim
  .exact(f (hs.inj _ _ d H k2)).elim
  .exact hs.inj x y d H k3
 .rcases o x d a with⟨_,h⟩ | ⟨_,_,h⟩
  .exact hs.lt _ d h
  .exact hs.lt _ d h
theorem xe:∀{args:List AV} {bE:List Value} {d:List AV} {i:Id} {n:Nat} {e:List AV},aD w A ρ args bE->ju args=some (d,i,n,e)->
  ∃v,ρ (.g i n)=some v/\∀(ρ':Id->Option Value) (new:Id),(∀x u,ρ x=some u->ρ' x=some u)->(∀b,A b->A' b)->ρ' new=some v->aD w A' ρ' (d++ .own new::e) bE
 | [],_,_,_,_,_,_,h=>by simp [ju] at h
 | a::args,bE,d,i,n,e,o,h=>by
  simp only [aD] at o;obtain⟨u,r,rfl,g1,m⟩:=o
  have j:(ju args).bind (λq=>some (a::q.1,q.2.1,q.2.2.1,q.2.2.2))=some (d,i,n,e)->
    ∃v,ρ (.g i n)=some v/\∀(ρ':Id->Option Value) (new:Id),(∀x u,ρ x=some u->ρ' x=some u)->(∀b,A b->A' b)->ρ' new=some v->aD w A' ρ' (d++ .own new::e) (u::r):=by
   intro h;obtain⟨⟨y,i',t,z⟩,p,h⟩:=W6.1 h;simp only [W5,XP] at h;obtain⟨rfl,rfl,rfl,rfl⟩:=h;obtain⟨v,k1,k2⟩:=xe m p;refine⟨v,k1,λρ' new hm f l=> ?_⟩;simp only [X7,aD];exact⟨u,r,rfl,an.mono (λb k=>⟨f b k,rfl⟩) hm _ _ g1,k2 ρ' new hm f l⟩
  cases a
  case row i' t=>simp only [ju,W5,XP] at h;obtain⟨rfl,rfl,rfl,rfl⟩:=h;simp only [an] at g1;refine⟨u,g1,λρ' new hm f l=> ?_⟩;simp only [Yf,aD];exact⟨u,r,rfl,by simp only [an];exact l,aD.mono (λb k=>⟨f b k,rfl⟩) hm _ _ m⟩
  all_goals exact j h
theorem M5{R:Type}{An:cW}{Or:aq}(X:ko P An Or){iO:Bool}{d:Nat}{f:FuncId}{args:List AV}{bE:List Value}{K:AV->aK->Option R}{r:R}(hc:cc=none\/cc=some true)(hs:HS c w s.h ρ O)(T:aD w (AA c w O) ρ args bE)
  (a:kx iO P An Or s d cc f args K=some r):
  ∃v us fn l,K v us=some r/\P.funcs[f]? =some fn/\fn.body=some l/\fn.name≠ "runtime.NumGoroutine" /\
   (jr d s.h us=true->Calls P f bE.toArray w λe w'=>∃x,e= .returned x/\∃ρ' O',Le w ρ O w' ρ' O'/\HS c w' (aR s.h us) ρ' O'/\an w' (AA c w' O') ρ' v x):=by
 unfold kx at a;split at a
 .exact E8 X hc hs T a
 .rename_i l1 i n l2 o;have o:ju args=some (l1,i,n,l2):=by
   cases iO with
   | true=>exact o
   | false=>cases o
  split at a
  .rename_i b sz col rsz nx es S;replace a:=aW a (.inl rfl);obtain⟨p,hp,a⟩:=a;cases m:s.h (.s (2500000+d) 0) with
   | some x=>rw [m] at a;simp at a
   | none=>
    rw [m] at a;simp only [Z6,cond_true] at a;obtain⟨v0,E,hargs⟩:=xe (A':=AA c w O) T o;obtain⟨U,cD,hs1⟩:=hs.iO (new:= .s (2500000+d) 0) S hp E m rfl;have z:aD w (AA c w U) (aN ρ (.s (2500000+d) 0) (some v0)) (l1++ .own (.s (2500000+d) 0)::l2) bE:=by obtain⟨v1,z,D⟩:=xe (A':=AA c w U) T o;rw [E] at z;cases z;exact D _ _ cD.fu (λb Q=>(cD.A b Q).1) (aH _ _ _)
    obtain⟨v,us,fn,l,a,Z,H,M,I⟩:=E8 (s:=⟨s.t,_⟩) X (cc:=none) (.inl rfl) hs1 z a;unfold vB at a;split at a
    .rename_i b2 sz2 col2 rsz2 nx2 es2 G b3 xs3 V W;split at a
     .rename_i J;obtain⟨rfl,rfl⟩:=J;replace a:=aW a (.inl rfl);obtain⟨u,hu,a⟩:=a;refine⟨v,_,fn,l,a,Z,H,M,λL=> ?_⟩;have hfr:jr d (aN (aN s.h i (some (.rows b sz col G nx (dG n none es)))) (.s (2500000+d) 0) (some (.sl false G p.1 p.2))) us=true:=by
       refine Xw.2 λq o=> ?_;have:=Xw.1 L q (Xp _ (Xn _ o));obtain⟨x,y⟩:=q;cases x with
       | s C k=>
        simp only at this⊢;by_cases Y:C=d
        .subst Y;have hn:s.h (.s C k)=none:=by simpa using this
         have h1:Id.s C k≠ .s (2500000+C) 0:=by intro h;simp only [Id.s.injEq] at h;omega
         have h2:Id.s C k≠i:=λh=>by rw [<-h,hn] at S;cases S
         rw [ay _ _ h1,ay _ _ h2,hn];simp
        .simp [Y]
       | c k=>rfl
       | g j k=>exact this
      refine(I hfr).mono ?_;rintro e w' ⟨x,rfl,ρ',O',F,hs2,hx⟩;have hw:ρ' (.s (2500000+d) 0)=some v0:=F.fu _ _ (aH _ _ _);have hv2:ρ' (.g i n)=some v0:=F.fu _ _ (cD.fu _ _ E);rw [np,dx,eG] at V W;obtain⟨O3,N,hs3⟩:=hs2.back V hu W hv2 hw;refine⟨x,rfl,ρ',O3,cD.trans (F.trans N), ?_,an.mono (λb Q=>N.A b Q) (λ_ _ h=>h) _ _ hx⟩;rw [np,np,dx,eG,dx,eG];exact hs3
     .simp at a
    .simp at a
  .simp at a
end
open Go
section
variable {P:Program} {An:cW} {Or:aq} {w w':World} {A A':Nat->Prop} {c:Ctx} {ρ:Id->Option Value} {O:Id->Option Nat} {s:St} {cc:Option Bool} {h:Id->Option ad}
def Good(P:Program)(c:Ctx)(w:World)(s:St)(ρ:Id->Option Value)(O:Id->Option Nat)(o:Oper)(a:Act)(v:AV)(us:aK):Prop:=
 jC P o a w λx w'=>∃ρ' O',Le w ρ O w' ρ' O'/\HS c w' (aR s.h us) ρ' O'/\an w' (AA c w' O') ρ' v x
theorem Good.pure{o:Oper}{a:Act}{v:AV}{x:Value}(hs:HS c w s.h ρ O)(b:(execOp a.eval o).run P w= .ok (.value x) w)(d:an w (AA c w O) ρ v x):Good P c w s ρ O o a v []:=by unfold Good jC;rw [b];exact⟨ρ,O,Le.refl,hs,d⟩
theorem Good.val{o:Oper}{a:Act}{v:AV}{us:aK}{x:Value}{ρ':Id->Option Value}{O':Id->Option Nat}(b:(execOp a.eval o).run P w= .ok (.value x) w')(le:Le w ρ O w' ρ' O')(hs:HS c w' (aR s.h us) ρ' O')(d:an w' (AA c w' O') ρ' v x):Good P c w s ρ O o a v us:=by unfold Good jC;rw [b];exact⟨ρ',O',le,hs,d⟩
theorem tS{a:Act}{g:Option Gs}(d:SS w A ρ s.t a.tmps)(b:lY a.tmps g):∀(xs:List Operand),aD w A ρ (xs.map (s.get g)) (xs.map a.eval)
 | []=>by simp [aD]
 | x::xs=>by simp only [Xq,aD];exact⟨_,_,rfl,SS.get (h:=s.h) d b x,tS d b xs⟩
theorem PQ{op:BinOp}(h:op≠ .eql/\op≠ .neq){t:TypeId}{x y:Operand}{a b:Value}:(eqGuard op t x y a b).run P w= .ok () w:=by cases op <;> simp_all [eqGuard]
set_option maxHeartbeats 2000000 in
theorem dr.Lj{sz:Nat}{b:Bool}{xs:List (List T)}{v:Value}{Q:Nat->Prop}(h:dr w A sz b xs v Q)(l:∀d,Q d->A d):az w A (.aa sz b xs) v:=by
 obtain⟨a,cap,rfl,f,g,_,i⟩:=h;simp only [az];cases a with
 | none=>
  rcases i with rfl | ⟨_,_,_,_,e,_⟩
  .have:xs= []:=Xz.1 (by omega);subst this;exact .inl ⟨g.1 rfl,rfl,rfl⟩
  .cases e
 | some a=>
  have j:b=false:=by
   cases b with
   | false=>rfl
   | true=>have:=g.2 rfl;cases this
  obtain⟨ah,off,sp⟩:=a;right;rcases i with rfl | ⟨blk',off',arr,t,e,g1,m,n,k⟩
  .have:xs= []:=Xz.1 (by omega);subst this;exact⟨j,ah,off,sp,0,rfl,f, .inl rfl,by simp [bx]⟩
  .cases e;exact⟨j,ah,off,none,cap,rfl,f, .inr ⟨rfl,l _ g1⟩,k⟩
theorem Er:∀{vs:List AV} {l:List T},ff vs=some l->l.length=vs.length
 | [],l,h=>by simp only [ff,W5] at h;subst h;rfl
 | v::r,l,h=>by cases v <;> simp only [ff,reduceCtorEq] at h;obtain⟨q,a,h⟩:=W6.1 h;simp only [W5] at h;subst h;simp [Er a]
theorem J1:∀{vs:List AV} {b:List AV} {i:Id} {n:Nat} {d:List AV},ju vs=some (b,i,n,d)->vs=b++ .row i n::d
 | [],_,_,_,_,h=>by simp [ju] at h
 | v::r,b,i,n,d,h=>by
  unfold ju at h;split at h
  .cases h
  .rename_i i' g f a;simp only [Yh] at a;obtain⟨rfl,rfl⟩:=a;simp only [W5,XP] at h;obtain⟨rfl,rfl,rfl,rfl⟩:=h;rfl
  .rename_i o f _ a;simp only [Yh] at a;obtain⟨rfl,rfl⟩:=a;obtain⟨q,e,h⟩:=W6.1 h;obtain⟨j,k,l,m⟩:=q;simp only [W5,XP] at h;obtain⟨rfl,rfl,rfl,rfl⟩:=h;rw [J1 e];rfl
theorem aD.swap{A:Nat->Prop}{x y:AV}(h:∀u,an w A ρ x u->an w A ρ y u):∀{f b:List AV} {vs:List Value},aD w A ρ (f++x::b) vs->aD w A ρ (f++y::b) vs
 | [],b,vs,a=>by simp only [Yf,aD] at a⊢;obtain⟨u,r,e,g1,d⟩:=a;exact⟨u,r,e,h u g1,d⟩
 | z::f,b,vs,a=>by simp only [X7,aD] at a⊢;obtain⟨u,r,e,g1,d⟩:=a;exact⟨u,r,e,g1,aD.swap h d⟩
theorem Ti{R:Type}{e:TypeId}{d:Nat}{cc:Option Bool}{v:AV}{u:Value}{K:AV->aK->Option R}{r:R}(hs:HS c w s.h ρ O)(Y:an w (AA c w O) ρ v u)(h:pf P s e d cc v K=some r):
  ∃J us,K J us=some r/\cc=none/\u.cells.size=P.cellsOf e/\(P.cellsOf e<=1000/\0 < P.cellsOf e/\(jx P e).isSome=true)/\
   (jr d s.h us=true->∃ρ' O',Le w ρ O (w.alloc (.cells u.cells.toList.toArray e)) ρ' O'/\HS c (w.alloc (.cells u.cells.toList.toArray e)) (aR s.h us) ρ' O'/\
    an (w.alloc (.cells u.cells.toList.toArray e)) (AA c (w.alloc (.cells u.cells.toList.toArray e)) O') ρ' J (.slice (some ⟨w.heap.size,0,none⟩) 1 1)):=by
 unfold pf at h;split at h
 .rename_i vs;split at h
  .rename_i l1 i n l2 j;split at h
   .rename_i b sz col rsz I es E;replace h:=aW h (.inl rfl);obtain⟨p,hf,h⟩:=h;obtain⟨l,hl,h⟩:=W6.1 h;split at h
    .rename_i a;obtain⟨F,a⟩:=a;simp only [an] at Y;obtain⟨C,rfl,m,hone⟩:=Y;obtain⟨v,D,_⟩:=xe (A':=AA c w O) m j;have hws:C.length=l.length:=by
      have N:=m.length;have h2:=Er hl;rw [J1 j] at N;simp only [XK,Xj] at N h2;omega
     refine⟨_,_,h,rfl,by simp [Value.cells];omega,a,λf=> ?_⟩;have hX:s.h (.s d 1)=none:=jN f (W8 _ W7);have Q:s.h (.s d 0)=none:=jN f (W8 _ (W8 _ W7));obtain⟨O1,cD,X⟩:=hs.iO E hf D hX rfl;obtain⟨L,Z,k,_,_,_⟩:=X.rZ (us:= [(.s d 1, .sl true rsz p.1 p.2)]) (λq g=>by
      rw [Xi.1 g];exact .inl ⟨rsz,p.1,p.2,rfl, .inl (aH _ _ _)⟩)
     rw [eG] at k;have z:=cD.trans Z;obtain⟨J,r1,r2,_⟩:=k.ah (.s d 1) _ (aH _ _ _);rw [aH] at r1;cases r1;have hT:az w (AA c w L) (.aa rsz p.1 p.2) v:=dr.Lj r2 λd g=>by simpa using g
     obtain⟨v2,o,G⟩:=xe (A':=AA c w L) m j;rw [D] at o;cases o;have V:=G (aN ρ (.s d 1) (some v)) (.s d 1) z.fu (λb hb=>(z.A b hb).1) (aH _ _ _);have W:=aD.swap (y:= .t (.aa rsz p.1 p.2)) (λu H=>by
      simp only [an] at H⊢;rw [aH] at H;cases H;exact hT) V
     have S:=ba.mg hl W;have U:Id.s d 0≠i:=λe=>by rw [<-e,Q] at E;cases E
     have T:aN (aN (aN s.h i (some (.rows b sz col rsz I (dG n none es)))) (.s d 1) (some (.sl false rsz p.1 p.2))) (.s d 1) (some (.sl true rsz p.1 p.2)) (.s d 0)=none:=by rw [ay _ _ (by intro e;injection e with _ e;cases e),ay _ _ (by intro e;injection e with _ e;cases e),ay _ _ U];exact Q
     obtain⟨k1,k2⟩:=k.zt (i:= .s d 0) (sz:=P.cellsOf e) (xs:= [l]) (vss:= [C]) T e C.toArray 1 ⟨C,[],rfl,F,S,rfl⟩ (λq v g=>by simpa using g) (by simp) (by simp;omega);refine⟨_,_,z.trans k1, ?_,by simp [an]⟩;have e3:aR s.h [(i, .rows b sz col rsz I (dG n none es)),(.s d 1, .sl true rsz p.1 p.2),(.s d 0, .sl false (P.cellsOf e) false [l])]=aN (aN (aN (aN s.h i (some (.rows b sz col rsz I (dG n none es)))) (.s d 1) (some (.sl false rsz p.1 p.2))) (.s d 1) (some (.sl true rsz p.1 p.2))) (.s d 0) (some (.sl false (P.cellsOf e) false [l])):=by
      rw [dx,dx,eG];funext x;unfold aN;by_cases M:x= .s d 0
      .simp [M]
      .by_cases c2:x= .s d 1 <;> simp [M,c2]
     rw [e3];exact k2
    .cases h
   .cases h
  .cases h
 .cases h
theorem P3{v:AV}{u:Value}{A:Nat->Prop}(h:an w A ρ v u):an w A ρ (nN v) u:=by
 unfold nN;split
 .simp only [an,az] at h⊢;subst h;exact⟨[],[],rfl,by simp [aD],by simp [aD]⟩
 .exact h
theorem Ez(hO:ko P An Or){o:Oper}{a:Act}{g:Option Gs}{v:AV}{us:aK}(hs:HS c w s.h ρ O)(ht:SS w (AA c w O) ρ s.t a.tmps)(hr:lY a.tmps g)(j:dt P An Or g o s=some (v,us))(Q:jr (o.dst.getD 0) s.h us=true):
  Good P c w s ρ O o a v us:=by
 have I:=hr.cond;have ev:∀x,an w (AA c w O) ρ (s.get g x) (a.eval x):=λx=>SS.get (h:=s.h) ht hr x;have tt:∀x y,(s.get g x).t? =some y->az w (AA c w O) y (a.eval x):=by intro x y e;have:=ev x;rw [AV.nf e] at this;simpa [an] using this
 have D:∀{v':AV} {W:aK},some (v',W)=some (v,us)->v'=v/\W=us:=by intro v' W e;simpa using e
 unfold dt jF at j;cases E:o.op <;> rw [E] at j <;> dsimp only at j
 case move x=>obtain⟨rfl,rfl⟩:=D j;exact Good.pure hs (by simp [execOp,E]) (ev x)
 case assign x=>obtain⟨rfl,rfl⟩:=D j;exact Good.pure hs (by simp [execOp,E]) (ev x)
 case pick k x y=>
  replace j:=W6.1 j;obtain⟨k',hk',j⟩:=j;have hkv:=tt k k' hk';replace j:=aW j I;obtain⟨kb,hkb,j⟩:=j;have:=T.jI hkb;subst this;simp only [az] at hkv;replace j:=W6.1 j;obtain⟨tx,htx,j⟩:=j;replace j:=r7 j;obtain⟨xb,j,hxb⟩:=j;replace j:=W6.1 j;obtain⟨ty,hty,j⟩:=j;replace j:=r7 j;obtain⟨yb,j,hyb⟩:=j;obtain⟨rfl,rfl⟩:=D j;have hg:∀b,yX (g.map (·.c)) b=some b:=by intro b;unfold yX;rcases I with e | e <;> rw [e] <;> rfl
  refine Good.pure (x:= .bool (cond kb xb yb)) hs ?_ (by simp [an,az]);simp only [execOp,E,hkv];cases kb with
  | true=>
   have arm:=SS.nP (h:=s.h) ht hr k x true hkv;rw [AV.nf htx] at arm;rcases hxb with e | ⟨_,e⟩
   .have:=T.jI e;subst this;simp only [an,az] at arm;simp [asBool,arm]
   .rw [hg] at e;cases e
  | false=>
   have arm:=SS.nP (h:=s.h) ht hr k y false hkv;rw [AV.nf hty] at arm;rcases hyb with e | ⟨_,e⟩
   .have:=T.jI e;subst this;simp only [an,az] at arm;simp [asBool,arm]
   .rw [hg] at e;cases e
 case alloc t=>
  cases G:g.map (·.c) with
  | some b=>simp [G] at j
  | none=>simp only [G] at j;replace j:=W6.1 j;obtain⟨l,hl,j⟩:=j;obtain⟨rfl,rfl⟩:=D j;obtain⟨i,z,Y,hz,hof⟩:=pH hl;have hzr:ba w (AA c w O) l z.cells.toList:=qI hof;obtain⟨g1,S⟩:=hs.I6 (i:= .s (o.dst.getD 0) 0) (jN Q (Xi.2 rfl)) t (aD.mP (ρ:=ρ) hzr) hzr.one;refine Good.val (x:= .pointer (some ⟨w.heap.size,0,none⟩)) (w':=w.alloc (.cells z.cells.toList.toArray t)) ?_ g1 (by rw [eG];exact S) (by simp [an]);simp [execOp,E,Instr.alloc,zeroValue,typeInfo,Y,hz,newVar,Kl]
 case box t x=>
  cases G:g.map (·.c) with
  | some b=>simp [G] at j
  | none=>
   simp only [G] at j;split at j
   .rename_i hcell;obtain⟨rfl,rfl⟩:=D j;obtain⟨g1,S⟩:=yd hs (ev x) hcell;obtain⟨k1,k2⟩:=hs.I6 (i:= .s (o.dst.getD 0) 0) (jN Q (Xi.2 rfl)) t g1 S;refine Good.val (x:= .pointer (some ⟨w.heap.size,0,none⟩)) (w':=w.alloc (.cells (a.eval x).cells.toList.toArray t)) ?_ k1 (by rw [eG];exact k2) (by simp [an]);simp [execOp,E,Instr.box,newVar,Kl]
   .simp at j
 case build t ps=>replace j:=W6.1 j;obtain⟨v',N,j⟩:=j;obtain⟨rfl,rfl⟩:=D j;obtain⟨x,J,K⟩:=MQ hs ht hr N;exact Good.pure hs (by simp only [execOp,E,Xx,J,Xm,XO]) K
 case buildSlice t n ps=>
  replace j:=W6.1 j;obtain⟨e,he,j⟩:=j;obtain⟨hu,Z⟩:=yG he;split at j
  .split at j
   .rename_i x G hps;split at j
    .rename_i hcond;obtain⟨⟨hl,hall⟩,hn2,hpos,hz⟩:=hcond;obtain⟨rfl,rfl⟩:=D j;obtain⟨g1,S⟩:=yd hs (ev x) hall;have hsz:(a.eval x).cells.size=P.cellsOf e:=by rw [<-hl,<-XE];exact g1.length
     have C:=zU (n:=1) (w:=w) hu Z hz hpos ⟨by omega,hn2⟩ [a.eval x] (by simpa using hsz) (by simp) (ps.map λ(i,x)=>(i,a.eval x)) (by simp [ZS,hps]);have Y:s.h (.s (o.dst.getD 0) 0)=none:=jN Q W7;obtain⟨k1,k2⟩:=hs.Ss Y (cs:=iq _) (arr:=([a.eval x].flatMap λv=>v.cells.toList).toArray) e (by simpa using g1) (by simpa using S);refine Good.val (x:= .slice (some ⟨w.heap.size,0,none⟩) 1 1) (by simp only [execOp,E,Xx,C,Xm,XO]) k1 (by rw [eG];exact k2) ?_;simp [an]
    .simp at j
   .simp at j
  split at j
  .split at j
   .rename_i x hps;obtain⟨v',W,e1,G,hsz,⟨hn2,hpos,hz⟩,hg⟩:=Ti hs (ev x) j;obtain⟨rfl,rfl⟩:=D e1;have C:=zU (n:=1) (w:=w) hu Z hz hpos ⟨by omega,hn2⟩ [a.eval x] (by simpa using hsz) (by simp) (ps.map λ(i,x)=>(i,a.eval x)) (by simp [ZS,hps]);obtain⟨ρ',O',k1,k2,k3⟩:=hg Q;have ea:([a.eval x].flatMap λv=>v.cells.toList).toArray= (a.eval x).cells.toList.toArray:=by simp
    rw [ea] at C;exact Good.val (x:= .slice (some ⟨w.heap.size,0,none⟩) 1 1) (by simp only [execOp,E,Xx,C,Xm,XO]) k1 k2 k3
   .simp at j
  split at j
  .rename_i hcond;obtain⟨hn,hn1,hn2,hpos,hz⟩:=hcond;split at j
   .rename_i h0;obtain⟨h00,_⟩:=h0;obtain⟨rfl,rfl⟩:=D j;have hps:ps.toList= []:=Xz.1 (by rw [XE];omega);have C:=zU (w:=w) hu Z hz hpos ⟨hn1,hn2⟩ [] (by simp) (by simp [h00]) (ps.map λ(i,x)=>(i,a.eval x)) (by simp [ZS,hps]);have exec:(execOp a.eval o).run P w= .ok (.value (.slice (some ⟨w.heap.size,0,none⟩) n n)) (w.alloc (.cells (([]:List Value).flatMap λv=>v.cells.toList).toArray e)):=by
     simp only [execOp,E,Xx,C,Xm,XO]
    have lew:Le w ρ O (w.alloc (.cells (([]:List Value).flatMap λv=>v.cells.toList).toArray e)) ρ O:=⟨rfl,rfl,rfl,by simp,λ_ _ h=>h,λb U _=>XV _ _ _ U,λi b h=> .inl ⟨i,h⟩⟩;have hs2:=hs.world lew λi ah Y=>XV _ _ _ (hs.lt i ah Y);refine Good.val exec lew hs2 ?_;simp only [an,az];exact .inr ⟨trivial,_,_,_,by rw [h00]⟩
   replace j:=W6.1 j;obtain⟨q,hq,j⟩:=j;obtain⟨hfz,hlen⟩:=GX hq;obtain⟨O1,cD,hs1,hO1,hf1,hkeep⟩:=hs.rZ hfz;obtain⟨vs,e1,R,e3⟩:=GY hs ht hr cD hO1 hq hf1;have hvl:vs.length=n:=by have:=congrArg List.length e1;simp only [XQ,List.length_zipIdx] at this;rw [<-this,XE,hn]
   have C:=zU (w:=w) hu Z hz hpos ⟨hn1,hn2⟩ vs e3 hvl (ps.map λ(i,x)=>(i,a.eval x)) (by simp only [ZS];exact e1);have hq1:q.1.length=n:=by have:=R.length.1;simp only [XQ] at this;omega
   have fl:(vs.map λv=>v.cells.toList).flatten=vs.flatMap λv=>v.cells.toList:=rfl;have exec:(execOp a.eval o).run P w= .ok (.value (.slice (some ⟨w.heap.size,0,none⟩) n n)) (w.alloc (.cells (vs.flatMap λv=>v.cells.toList).toArray e)):=by simp only [execOp,E,Xx,C,Xm,XO]
   cases G:g.map (·.c) with
   | some b=>
    simp only [G] at j;obtain⟨rfl,rfl⟩:=D j;have lew:Le w ρ O1 (w.alloc (.cells (vs.flatMap λv=>v.cells.toList).toArray e)) ρ O1:=⟨rfl,rfl,rfl,by simp,λ_ _ h=>h,λb U _=>XV _ _ _ U,λi b h=> .inl ⟨i,h⟩⟩;have hs2:=hs1.world lew λi ah Y=>XV _ _ _ (hs1.lt i ah Y);refine Good.val exec (cD.trans lew) hs2 ?_;simp only [an,az];right;refine⟨trivial,w.heap.size,0,none,n,by rw [hq1],by omega, ?_, ?_⟩
    .right;refine⟨rfl, ?_⟩;refine⟨.inr (.inr hs.size),by simp,λi Y=>YD _ (hs1.lt i _ Y)⟩
    .refine bx.mh (cQ.mono (λb U=>lew.A b U) R) (λp v hp=> ?_);rw [l5 (l8 _),XF,<-fl];simpa using hp
   | none=>
    simp only [G] at j;obtain⟨rfl,rfl⟩:=D j;have Y:s.h (.s (o.dst.getD 0) 0)=none:=jN Q W7;have hi1:aR s.h q.2 (.s (o.dst.getD 0) 0)=none:=by
     rw [dZ (λp hp e=> ?_)]
     .exact Y
     .have K:=hfz p hp;rw [e,Y] at K;rcases K with⟨sz,b,l,_,K⟩ | ⟨l,_,K⟩ <;> simp at K
    obtain⟨k1,k2⟩:=hs1.zt (sz:=P.cellsOf e) hi1 e (vs.flatMap λv=>v.cells.toList).toArray n R (λp v hp=>by rw [<-fl];simpa using hp) (by omega) (by
     have:=R.length.2;simp only [Yy];rw [<-fl,this,hq1];exact Xr _)
    rw [hq1] at k1 k2;refine Good.val exec (cD.trans k1) ?_ ?_
    .rw [dx];have:aR (aN s.h (.s (o.dst.getD 0) 0) (some (.sl false (P.cellsOf e) false q.1))) q.2=aN (aR s.h q.2) (.s (o.dst.getD 0) 0) (some (.sl false (P.cellsOf e) false q.1)):=by
      refine xu (λp hp e=> ?_);have K:=hfz p hp;rw [e,Y] at K;rcases K with⟨sz,b,l,_,K⟩ | ⟨l,_,K⟩ <;> simp at K
     rw [this];exact k2
    .simp [an]
  .simp at j
 case load t x=>obtain⟨av,y,e,C,F⟩:=ID hs (ev x) I j;obtain⟨rfl,rfl⟩:=D e;exact Good.pure (x:=y) hs (by simp only [execOp,E,Xx,C,Xm,XO]) F
 case store t x y=>
  cases G:g.map (·.c) with
  | some b=>simp [G] at j
  | none=>simp only [G] at j;obtain⟨W,w',ρ',O',e,C,le,V⟩:=Vi hs (ev x) (ev y) j;obtain⟨rfl,rfl⟩:=D e;unfold Good jC;simp only [execOp,E,Xx,C,Xm,XO];exact⟨ρ',O',le,V,by simp [an]⟩
 case nilCheck x=>
  have F:=ev x;split at j
  .rename_i i k e;obtain⟨rfl,rfl⟩:=D j;rw [e] at F;have N:=F;simp only [an] at N;obtain⟨b,_,R⟩:=N;exact Good.pure hs (by simp [execOp,E,R]) F
  .rename_i i sz k off e;obtain⟨rfl,rfl⟩:=D j;rw [e] at F;have N:=F;simp only [an] at N;obtain⟨b,o',L,cap,_,R⟩:=N;exact Good.pure hs (by simp [execOp,E,R]) F
  .rename_i i sz n k off e;obtain⟨rfl,rfl⟩:=D j;rw [e] at F;have N:=F;simp only [an] at N;obtain⟨b,o',L,cap,_,R⟩:=N;exact Good.pure hs (by simp [execOp,E,R]) F
  .rename_i y e;replace j:=aW j I;obtain⟨cs,hcs,j⟩:=j;obtain⟨rfl,rfl⟩:=D j;have:=T.zG hcs;subst this;rw [e] at F;have N:=F;simp only [an,az] at N;obtain⟨b,o',R,_⟩:=N;exact Good.pure hs (by simp [execOp,E,R]) F
  .rename_i f x' y' e;obtain⟨rfl,rfl⟩:=D j;rw [e] at F;have N:=F;simp only [an] at N;obtain⟨_,_,R,_⟩:=N;exact Good.pure hs (by simp [execOp,E,R]) F
  .simp at j
 case binOp op t x y ty=>
  have nilx:∀b,qE P t y=true->kF P s t (s.get g x)=some b->_:=λb J K=>HU (P:=P) hs (ev x) K y J a x y;have nily:∀b,qE P t x=true->kF P s t (s.get g y)=some b->_:=λb J K=>HU (P:=P) hs (ev y) K x J a x y;have go:∀(z:Value),(eqGuard op t x y (a.eval x) (a.eval y)).run P w= .ok () w->(binOp op t (a.eval x) (a.eval y)).run P w= .ok z w->(execOp a.eval o).run P w= .ok (.value z) w:=by intro z J K;simp only [execOp,E,Xx,J,K,Xm,XO]
  split at j
  .rename_i J;replace j:=W6.1 j;obtain⟨b,U,j⟩:=j;obtain⟨rfl,rfl⟩:=D j;obtain⟨g1,S⟩:=(nilx b J U).1;exact Good.pure hs (go _ g1 S) (by simp [an,az])
  .rename_i J;replace j:=W6.1 j;obtain⟨b,U,j⟩:=j;obtain⟨rfl,rfl⟩:=D j;obtain⟨g1,S⟩:=(nilx b J U).2.1;exact Good.pure hs (go _ g1 S) (by simp [an,az])
  .rename_i J _;replace j:=W6.1 j;obtain⟨b,U,j⟩:=j;obtain⟨rfl,rfl⟩:=D j;obtain⟨g1,S⟩:=(nily b J U).2.2.1;exact Good.pure hs (go _ g1 S) (by simp [an,az])
  .rename_i J _;replace j:=W6.1 j;obtain⟨b,U,j⟩:=j;obtain⟨rfl,rfl⟩:=D j;obtain⟨g1,S⟩:=(nily b J U).2.2.2;exact Good.pure hs (go _ g1 S) (by simp [an,az])
  .obtain⟨b,e,⟨g1,S⟩,_⟩:=G4 (P:=P) I (ev x) (ev y) j x y;obtain⟨rfl,rfl⟩:=D e;exact Good.pure hs (go _ g1 S) (by simp [an,az])
  .obtain⟨b,e,_,⟨g1,S⟩⟩:=G4 (P:=P) I (ev x) (ev y) j x y;obtain⟨rfl,rfl⟩:=D e;exact Good.pure hs (go _ g1 S) (by simp [an,az])
  .replace j:=W6.1 j;obtain⟨x',hx',j⟩:=j;replace j:=W6.1 j;obtain⟨y',hy',j⟩:=j;obtain⟨hne,z,vz,e,F,C⟩:=MD (P:=P) I (tt x x' hx') (tt y y' hy') j;obtain⟨rfl,rfl⟩:=D e;exact Good.pure hs (go _ (PQ hne) C) (by simpa [an] using F _ _)
 case unOp op t x=>replace j:=W6.1 j;obtain⟨x',hx',j⟩:=j;obtain⟨z,y,e,F,C⟩:=VI (P:=P) I (tt x x' hx') j;obtain⟨rfl,rfl⟩:=D e;exact Good.pure (x:=y) hs (by simp only [execOp,E,Xx,C,Xm,XO]) (by simpa [an] using F _ _)
 case convert src dst x=>
  split at j
  .rename_i e hu hu';split at j
   .rename_i he;unfold ue at he;split at he
    .rename_i k he';simp only [W5] at he;subst he;replace j:=W6.1 j;obtain⟨y,hy,j⟩:=j;replace j:=aW j I;obtain⟨l,hl,j⟩:=j;replace hl:=W6.1 hl;obtain⟨p,hp,hl⟩:=hl;obtain⟨rfl,rfl⟩:=D j;have C:=MT hs hu hu' he' (ev x) hy hp hl;exact Good.pure (x:= .string ⟨l.toArray⟩) hs (by simp only [execOp,E,Xx,C,Xm,XO]) (by simp [an,az])
    .simp at he
   .simp at j
  .replace j:=W6.1 j;obtain⟨x',hx',j⟩:=j;obtain⟨z,y,e,C,F⟩:=Nf I (tt x x' hx') j;obtain⟨rfl,rfl⟩:=D e;exact Good.pure (x:=y) hs (by simp only [execOp,E,Xx,C,Xm,XO]) (by simpa [an] using F)
 case makeFunc fn fst caps=>
  cases fn with
  | func f=>dsimp only at j;obtain⟨rfl,rfl⟩:=D j;refine Good.pure (x:= .func (.func f) (fst.map a.eval) (caps.map a.eval)) hs (by simp only [execOp,E,Instr.makeFunc,Xx,XO,Xm]) ?_;simp only [an];refine⟨fst.toList.map a.eval,caps.toList.map a.eval, ?_,tS ht hr _,tS ht hr _⟩;rw [show(fst.toList.map a.eval).toArray=fst.map a.eval from YR (by simp),show(caps.toList.map a.eval).toArray=caps.map a.eval from YR (by simp)]
  | _=>simp at j
 case makeSlice t l m=>
  cases G:g.map (·.c) with
  | some b=>simp [G] at j
  | none=>simp only [G] at j;replace j:=W6.1 j;obtain⟨n,hn,j⟩:=j;replace j:=W6.1 j;obtain⟨k,hk',j⟩:=j;obtain⟨v',W,e,hg⟩:=QT (vn:=a.eval l) (vm:=a.eval m) hs (by simpa [an] using tt l n hn) (by simpa [an] using tt m k hk') j;obtain⟨rfl,rfl⟩:=D e;obtain⟨u,w',ρ',O',C,le,V,F⟩:=hg Q;exact Good.val (x:=u) (by simp only [execOp,E,Xx,C,Xm,XO]) le V F
 case makeMap t m=>
  cases G:g.map (·.c) with
  | some b=>simp [G] at j
  | none=>
   cases m with
   | some m=>simp [G] at j
   | none=>simp only [G] at j;obtain⟨v',W,e,hg⟩:=QV hs j;obtain⟨rfl,rfl⟩:=D e;obtain⟨u,w',ρ',O',C,le,V,F⟩:=hg Q;exact Good.val (x:=u) (by simp only [execOp,E,ZZ,Xx,C,Xm,XO]) le V F
 case lookup t x k ok=>obtain⟨av,y,e,C,F⟩:=QQ hs (ev x) (ev k) I j;obtain⟨rfl,rfl⟩:=D e;exact Good.pure (x:=y) hs (by simp only [execOp,E,Xx,C,Xm,XO]) F
 case mapUpdate t x k v'=>
  cases G:g.map (·.c) with
  | some b=>simp [G] at j
  | none=>simp only [G] at j;obtain⟨W,w',e,C,le,V⟩:=S6 hs (ev x) (ev k) (ev v') j;obtain⟨rfl,rfl⟩:=D e;unfold Good jC;simp only [execOp,E,Xx,C,Xm,XO];exact⟨ρ,O,le,V,by simp [an]⟩
 case slice t x lo Y mx=>obtain⟨blo,j,J⟩:=A7 ht hr I j;obtain⟨bhi,j,K⟩:=A7 ht hr I j;obtain⟨bmx,j,h3⟩:=A7 ht hr I j;obtain⟨av,y,e,C,F⟩:=U2 (P:=P) hs (ev x) I J K h3 j;obtain⟨rfl,rfl⟩:=D e;exact Good.pure (x:=y) hs (by simp only [execOp,E,Xx,C,Xm,XO]) F
 case fieldAddr t x f=>obtain⟨av,y,e,C,F⟩:=P1 (P:=P) (ev x) I j;obtain⟨rfl,rfl⟩:=D e;exact Good.pure (x:=y) hs (by simp only [execOp,E,Xx,C,Xm,XO]) F
 case field t x f=>obtain⟨av,y,e,C,F⟩:=PZ (P:=P) (ev x) j;obtain⟨rfl,rfl⟩:=D e;exact Good.pure (x:=y) hs (by simp only [execOp,E,Xx,C,Xm,XO]) F
 case indexAddr t x i=>unfold qu at j;replace j:=W6.1 j;obtain⟨i',hi',j⟩:=j;replace j:=aW j I;obtain⟨n,hn,j⟩:=j;obtain⟨k,rfl⟩:=AN hn;have hiv:=tt i _ hi';simp only [az] at hiv;obtain⟨av,y,e,C,F⟩:=Qm (P:=P) (ki:=k) hs (ev x) I j;obtain⟨rfl,rfl⟩:=D e;exact Good.pure (x:=y) hs (by simp only [execOp,E,hiv,Xx,C,Xm,XO]) F
 case index t x i=>
  unfold qu at j;replace j:=W6.1 j;obtain⟨i',hi',j⟩:=j;replace j:=aW j I;obtain⟨n,hn,j⟩:=j;obtain⟨k,rfl⟩:=AN hn;have hiv:=tt i _ hi';simp only [az] at hiv;have F:=ev x;split at j
  .rename_i hu;replace j:=W6.1 j;obtain⟨y,hy,j⟩:=j;replace j:=aW j I;obtain⟨b,U,j⟩:=j;have:=T.lP U;subst this;have hxv:=tt x _ hy;simp only [az] at hxv;obtain⟨h0,J,j⟩:=qq I j;replace j:=aW j I;obtain⟨u,hu',j⟩:=j;obtain⟨rfl,rfl⟩:=D j;have U:b[n.toNat]? =some u:=by
    have hl:n.toNat < b.data.toList.length:=(W9.1 hu').1;have hlt:n.toNat < b.size:=by simpa using hl
    rw [getElem?_pos b n.toNat hlt];have:=(W9.1 hu').2;rw [<-this];simp [ByteArray.getElem_eq_getElem_data]
   exact Good.pure (x:= .int .u8 u.toNat) hs (by simp [execOp,E,hiv,hxv,Instr.index,asIntOf,run_underlying hu,h0,U]) (by simp [an,az])
  .rename_i m e hu;split at j
   .rename_i vs ex;cases Z:cB P e
    .simp [Z] at j
    simp only [Z,cond_true] at j;replace j:=W6.1 j;obtain⟨l,hl,j⟩:=j;obtain⟨h0,J,j⟩:=qq I j;rw [ex] at F;simp only [an] at F;obtain⟨ws,R,g1,S⟩:=F;obtain⟨av,y,e,C,F⟩:=QK (P:=P) (arr:=ws.toArray) (off:=n.toNat * P.cellsOf e) (ρ:=ρ) Z I ((ba.mg hl g1).drop _) j;obtain⟨rfl,rfl⟩:=D e;exact Good.pure (x:=y) hs (by simp [execOp,E,hiv,R,Instr.index,asIntOf,run_underlying hu,h0,J,jU Z,C]) F
   .simp at j
  .simp at j
 case extract x k=>
  have F:=ev x;split at j
  .rename_i vs e;replace j:=W6.1 j;obtain⟨y,hy,j⟩:=j;obtain⟨rfl,rfl⟩:=D j;rw [e] at F;simp only [an] at F;obtain⟨ws,R,J⟩:=F;obtain⟨u,K,h3⟩:=J.get hy;exact Good.pure hs (by simp [execOp,E,R,Instr.extract,K]) h3
  .simp at j
 case call cl=>
  have run0:∀f,cl.callee=f->(execOp a.eval o).run P w= ((resolve a.eval cl o.type).run P w).andThen λd w=>(invoke d.target d.args).run P w:=by intro f _;simp only [execOp,E,Xx]
  split at j
  .rename_i M;split at j
   .rename_i x t ts hx X;obtain⟨av,y,e,C,F⟩:=Qx (P:=P) (ts:=cl.argTypes) (ty:=o.type) hs (ev x) I j (by rw [<-X8,X];rfl);obtain⟨rfl,rfl⟩:=D e;have H:cl.args.map a.eval= #[a.eval x]:=by apply YR;simp [hx]
    exact Good.pure (x:=y) hs (by simp only [execOp,E,resolve,M,H,Xx,XO,Xm,invoke,builtin,C]) F
   .simp at j
  .rename_i M;split at j
   .rename_i x y t u hgc hx X;obtain⟨v',W,e,hg⟩:=Mi (P:=P) (tr:=o.type) hs (ev x) (ev y) j;obtain⟨rfl,rfl⟩:=D e;have H:cl.args.map a.eval= #[a.eval x,a.eval y]:=by apply YR;simp [hx]
    have htys':cl.argTypes= #[t,u]:=by apply YR;simp [X]
    obtain⟨z,w',ρ',O',C,le,V,F⟩:=hg Q;exact Good.val (x:=z) (by simp only [execOp,E,resolve,M,H,htys',Xx,XO,Xm,invoke,builtin,C]) le V F
   .simp at j
  .rename_i M;split at j
   .rename_i k hik;replace j:=W6.1 j;obtain⟨l,hl,j⟩:=j;split at j
    .rename_i x r;replace j:=aW j I;obtain⟨n,hn,j⟩:=j;have:=T.gY hn;subst this;obtain⟨v0,vs,e0,J,K⟩:=ba.mg hl (tS ht hr cl.args.toList);simp only [az] at J;subst J;obtain⟨m,e,C⟩:=CN (P:=P) (w:=w) I true K j;obtain⟨rfl,rfl⟩:=D e;have H:(cl.args.map a.eval).toList= .int k n::vs:=by simp [e0]
     exact Good.pure (x:= .int k m) hs (by simp only [execOp,E,resolve,M,Xx,XO,Xm,invoke,builtin,Builtin.max_,H];simp only [cond_true] at C;simp only [C,Xm]) (by simp [an,az])
    .simp at j
   .simp at j
  .rename_i M;split at j
   .rename_i k hik;replace j:=W6.1 j;obtain⟨l,hl,j⟩:=j;split at j
    .rename_i x r;replace j:=aW j I;obtain⟨n,hn,j⟩:=j;have:=T.gY hn;subst this;obtain⟨v0,vs,e0,J,K⟩:=ba.mg hl (tS ht hr cl.args.toList);simp only [az] at J;subst J;obtain⟨m,e,C⟩:=CN (P:=P) (w:=w) I false K j;obtain⟨rfl,rfl⟩:=D e;have H:(cl.args.map a.eval).toList= .int k n::vs:=by simp [e0]
     exact Good.pure (x:= .int k m) hs (by simp only [execOp,E,resolve,M,Xx,XO,Xm,invoke,builtin,Builtin.min_,H];simp only [cond_false] at C;simp only [C,Xm]) (by simp [an,az])
    .simp at j
   .simp at j
  .rename_i M;split at j
   .rename_i x y t ts hgc hx X;obtain⟨W,w',e,C,le,V⟩:=Nq (P:=P) (ty:=(ts.headD 0)) (tr:=o.type) hs (ev x) (ev y) j;obtain⟨rfl,rfl⟩:=D e;have H:cl.args.map a.eval= #[a.eval x,a.eval y]:=by apply YR;simp [hx]
    have run':(Builtin.delete_ cl.argTypes o.type #[a.eval x,a.eval y]).run P w= .ok (.tuple #[]) w':=by
     rw [<-C];have h0:cl.argTypes[0]? =some t:=by rw [<-X8,X];rfl
     simp only [Builtin.delete_,h0];rfl
    refine Good.val (x:= .tuple #[]) (by simp only [execOp,E,resolve,M,H,Xx,XO,Xm,invoke,builtin,run']) le V ?_;simp only [an];exact⟨[],rfl,by simp [aD]⟩
   .simp at j
  .rename_i M;split at j
   .rename_i x t ts hx X;split at j
    .rename_i e hu;split at j
     .rename_i y hex;cases hy:y8 y with
      | false=>rw [hy] at j;simp at j
      | true=>
       rw [hy] at j;obtain⟨rfl,rfl⟩:=D j;have F:=ev x;rw [hex] at F;simp only [an] at F;have F:=Qp hy F;have H:cl.args.map a.eval= #[a.eval x]:=by apply YR;simp [hx]
       have hts:cl.argTypes[0]? =some t:=by rw [<-X8,X];rfl
       exact Good.pure (x:= .int .i64 0) hs (by simp only [execOp,E,resolve,M,H,Xx,XO,Xm,invoke,builtin];simp [Builtin.cap_,hts,run_underlying hu,F,goInt]) (by simp [an,az])
     .simp at j
    .simp at j
   .simp at j
  .rename_i fo M;split at j
   .rename_i f x1 y1 efo;have hfo:=P3 (ev fo);rw [efo] at hfo;simp only [an] at hfo;obtain⟨x',y',R,g1,S⟩:=hfo;obtain⟨v',W,fn,body,e,hfn,hbody,hname,hcall⟩:=M5 hO I hs ((g1.append (tS ht hr cl.args.toList)).append S) j;obtain⟨rfl,rfl⟩:=D e;unfold Good jC;have C:(execOp a.eval o).run P w= .ok (.enter f (x'++cl.args.toList.map a.eval++y').toArray) w:=by
     have H:x'.toArray++cl.args.map a.eval++y'.toArray= (x'++cl.args.toList.map a.eval++y').toArray:=by apply YR;simp
     simp [execOp,E,resolve,M,R,Deferred.ofValue,invoke,callFunc,run_program,hfn,hbody,hname,H]
    rw [C];exact hcall Q
   .simp at j
  .simp at j
 all_goals simp at j
end
end Go.Aev
