import Derived.Test.YtdjbbnlgpddbmaaAwayAllQ3
set_option linter.all false
namespace Go.Aev
open Go
section
variable (B:Nat->Option Value) (w:World) (A:Nat->Prop)
def je:bG->T->Value->List Nat->Prop
 | .f _,x,v,ob=>x.oX =some ()/\au w A x v/\ob= []
 | .t _,x,v,ob=>au w A x v/\ob= []
 | .own sz,x,v,ob=>∃o p,ob=o.toList/\x.aM sz=some p/\cg w A sz p.1 p.2 v (λaf=>o=some af)
 | .rows sz ax rsz,x,v,ob=>∃(b:Bool) (es:List Row) (i:Id) (l:Id->Option Value) (a:Id->Option Nat),jN x=some (b,es)/\cr w A l a i (.rows b sz ax rsz es.length es)/\l i=some v/\i.real=true/\
   (∀x y d,a x=some d->a y=some d->x=y)/\(∀n u,l (.g i n)=some u->u.oneCell'=true/\u.cells= #[u])/\(∀x d,a x=some d->x=i\/∃n,x= .g i n)/\∀d,d∈ob↔∃x,a x=some d
 | .ref k off,_,v,ob=>(∃b,B k=some (.pointer (some ⟨b,0,none⟩))/\v= .pointer (some ⟨b,off,none⟩))/\ob= []
 | .same k,_,v,ob=>(B k=some v/\v.oneCell'=true/\v.cells= #[v])/\ob= []
 | .no,_,v,ob=>(v.oneCell'=true/\v.cells= #[v])/\ob= []
 | .mp ag ks vk,x,v,ob=>∃es b j m,x=ee es/\v= .map (some b)/\ob= [b]/\w.heap[b]? =some (.map j m)/\
   j.toList.map (λe=>(e.key,e.val))=es.map (λp=>(cu ag p.1,cR p.2))/\(es.all λp=>bL ks p.1 && de vk p.2)=true
 | .agg _,_,_,_=>False
 | .new _,_,_,_=>False
def eL:List bG->List T->List Value->List Nat->Prop
 | [],xs,vs,own=>xs= []/\vs= []/\own= []
 | r::e,xs,vs,own=>∃x d v b ob a,xs=x::d/\vs=v::b/\own=ob++a/\je B w A r x v ob/\eL e d b a
def cW:List bG->List T->List Value->List Nat->Prop
 | [],xs,vs,own=>xs= []/\vs= []/\own= []
 | .agg l::f,xs,vs,own=>∃g x2 j a o1 d,xs=g++x2/\vs= .agg j.toArray::a/\own=o1++d/\eL B w A l g j o1/\cW f x2 a d
 | .new l::f,xs,vs,own=>∃g x2 b arr t a o1 d,xs=g++x2/\vs= .pointer (some ⟨b,0,none⟩)::a/\own= (b::o1)++d/\w.heap[b]? =some (.cells arr t (0,0))/\eL B w A l g arr.toList o1/\cW f x2 a d
 | r::f,xs,vs,own=>∃x i v a ob e,xs=x::i/\vs=v::a/\own=ob++e/\je B w A r x v ob/\cW f i a e
def nu:Nat->List jd->List T->List Nat->Prop
 | _,[],xs,own=>xs= []/\own= []
 | j, .box l::r,xs,own=>∃g x2 b arr t o1 a,xs=g++x2/\own=b:: (o1++a)/\B j=some (.pointer (some ⟨b,0,none⟩))/\w.heap[b]? =some (.cells arr t (0,0))/\
   eL B w A l g arr.toList o1/\nu (j+1) r x2 a
 | j, .sl sz::r,xs,own=>∃bb l x2 ob v a,xs= .ae sz bb l::x2/\own=ob.toList++a/\B j=some v/\cg w A sz bb l v (λaf=>ob=some af)/\nu (j+1) r x2 a
 | j, .mp ag ks vk::r,xs,own=>∃es b d f x2 a,xs=ee es::x2/\own=b::a/\B j=some (.map (some b))/\w.heap[b]? =some (.map d f)/\
   d.toList.map (λe=>(e.key,e.val))=es.map (λp=>(cu ag p.1,cR p.2))/\(es.all λp=>bL ks p.1 && de vk p.2)=true/\nu (j+1) r x2 a
 | j, .dead::r,xs,own=>nu (j+1) r xs own
end
def oa:List Value->Value
 | [v]=>v
 | vs=> .tuple vs.toArray
structure uE (w w':World):Prop where
 os:w'.os=w.os
 output:w'.output=w.output
 tape:w'.tape=w.tape
 size:w.heap.size<=w'.heap.size
 af:∀k,k < w.heap.size->w'.heap[k]? =w.heap[k]?
structure JC (w w':World) (Own:Nat->Prop):Prop where
 os:w'.os=w.os
 output:w'.output=w.output
 tape:w'.tape=w.tape
 size:w.heap.size<=w'.heap.size
 af:∀k,k < w.heap.size->¬Own k->w'.heap[k]? =w.heap[k]?
def nJ(m:Nat)(ρ:Id->Option Value)(j:Nat):Option Value:=if j < m then ρ (.c j) else none
def tM(P:Program)(A:bZ)(f:FuncId)(fn:Func)(aU:List AV)(a:List ab)(xs:List T):Prop:=
 ∀(c:Ctx) (w:World) (ρ:Id->Option Value) (O:Id->Option Nat) (args:List Value),c.N0=w.heap.size->HS c w (jh a) ρ O->aw w (AA c w O) ρ aU args->
  Calls P f args.toArray w λe w'=>∃g i x2 o1 d,e= .returned (oa g)/\JC w w' (eX O)/\xs=i++x2/\(o1++d).Nodup/\(∀b∈o1++d,c.MO b/\b < w'.heap.size)/\
   cW (nJ a.length ρ) w' (λb=>(c.A0 b\/c.MO b)/\b < w'.heap.size/\b∉o1++d) (cF P A f (gD a.head?) fn) i g o1/\
   nu (nJ a.length ρ) w' (λb=>(c.A0 b\/c.MO b)/\b < w'.heap.size/\b∉o1++d) 0 (gw A f (gD a.head?)) x2 d
def iJ(P:Program)(A:bZ)(O:az):Prop:= ∀f aU a xs,O (.call f) aU a=some xs->
 ∃fn b,P.funcs[f]? =some fn/\fn.body=some b/\fn.name≠ "runtime.NumGoroutine" /\tM P A f fn aU a xs
def nk(P:Program)(A:bZ):Prop:= ∀f aU a xs,A.ext f aU a=some xs->
 ∃fn b,P.funcs[f]? =some fn/\fn.body=some b/\fn.name≠ "runtime.NumGoroutine" /\tM P A f fn aU a xs
theorem nk.no{P:Program}{A:bZ}(h:∀f aU a,A.ext f aU a=none):nk P A:=λf aU a xs e=>by rw [h] at e;cases e
theorem tM.values{P:Program}{A:bZ}{f:FuncId}{fn:Func}{aU:List AV}{xs:List T}(h:tM P A f fn aU [] xs)(hb:A.gQ f=none)(A0:Nat->Prop)(w:World)(args:List Value)(x:∀b,A0 b->b < w.heap.size)
  (hv:aw w A0 (λ_=>none) aU args):
  Calls P f args.toArray w λe w'=>∃g own,e= .returned (oa g)/\uE w w'/\own.Nodup/\(∀b∈own,w.heap.size<=b/\b < w'.heap.size)/\
   cW (λ_=>none) w' (λb=>(A0 b\/w.heap.size<=b)/\b < w'.heap.size/\b∉own) (cF P A f 0 fn) xs g own:=by
 let c:Ctx:={A0:=A0,M:=λ_=>False,N0:=w.heap.size};have hs:HS c w (jh []) (λ_=>none) (λ_=>none):=⟨λi b hb=>by cases i <;> simp [jh] at hb,λi _ _=>⟨rfl,rfl⟩,λi n=>rfl,λi n _=>⟨rfl,rfl⟩,(by intro i n u z;cases z),(by intro i j b hi;cases hi),(by intro i b hi;cases hi),(by intro i b hi;cases hi),R3 _⟩;have q:∀b,A0 b->AA c w (λ_=>none) b/\w.heap[b]? =w.heap[b]?:=λb hb=>⟨⟨.inl hb,x b hb,λi hi=>by cases hi⟩,rfl⟩;refine(h c w _ _ args rfl hs (aw.mono q (λ_ _ h=>h) _ _ hv)).mono ?_;rintro e w' ⟨g,D,x2,o1,C,y,d,t,l,o,hr,r⟩;have m:gw A f (gD ([]:List ab).head?)= []:=by simp [gw,hb]
 rw [m] at r;obtain⟨rfl,rfl⟩:=r;rw [SN] at t l;subst t;have p:cF P A f (gD ([]:List ab).head?) fn=cF P A f 0 fn:=rfl;have e0:nJ ([]:List ab).length (λ_=>none)=λ_=>none:=by funext j;simp [nJ]
 rw [p,e0] at hr;refine⟨g,o1,y,⟨d.os,d.output,d.tape,d.size,λk hk=>d.af k hk (by rintro⟨i,hi⟩;cases hi)⟩,l,λb hb=> ?_, ?_⟩
 .obtain⟨h1,a⟩:=o b (by simpa using hb);rcases h1 with h1 | h1
  .exact h1.elim
  .exact⟨h1,a⟩
 .have v:(λb=>(c.A0 b\/c.MO b)/\b < w'.heap.size/\b∉o1++ [])=λb=>(A0 b\/w.heap.size<=b)/\b < w'.heap.size/\b∉o1:=by
   funext b;simp only [SN];refine propext ⟨?_, ?_⟩
   .rintro⟨h1 | h1 | h1,a⟩
    .exact⟨.inl h1,a⟩
    .exact h1.elim
    .exact⟨.inr h1,a⟩
   .rintro⟨h1 | h1,a⟩
    .exact⟨.inl h1,a⟩
    .exact⟨.inr (.inr h1),a⟩
  rw [v] at hr;exact hr
structure fQ (c:Ctx) (w:World) (A:Nat->Prop) (h:Id->Option ab) (ρ:Id->Option Value) (O:Id->Option Nat):Prop where
 af:∀i b,h i=some b->cr w A ρ O i b
 bS:∀i,i.real=true->h i=none->ρ i=none/\O i=none
 dc:∀i n,h (.g i n)=none
 eO:∀i n,h i=none->ρ (.g i n)=none/\O (.g i n)=none
 gone:∀i n u,ρ (.g i n)=some u->u.oneCell'=true/\u.cells= #[u]
 inj:∀i j b,O i=some b->O j=some b->i=j
 lt:∀i b,O i=some b->b < w.heap.size
 own:∀i b,O i=some b->c.MO b
 size:c.N0<=w.heap.size
section
variable {P:Program} {B:Nat->Option Value} {ids:List Id} {w w':World} {A A':Nat->Prop} {c:Ctx} {ρ:Id->Option Value} {O:Id->Option Nat} {s:St} {cc:Option Bool} {h:Id->Option ab}
theorem fQ.I3(hs:fQ c w A h ρ O)(e:∀b,A b↔AA c w O b):HS c w h ρ O:=by have:A=AA c w O:=funext λb=>propext (e b);subst this;exact⟨hs.af,hs.bS,hs.dc,hs.eO,hs.gone,hs.inj,hs.lt,hs.own,hs.size⟩
theorem fQ.real(hs:fQ c w A h ρ O){i:Id}(hi:h i≠none):i.real=true:=by
 cases i with
 | g i n=>exact(hi (hs.dc i n)).elim
 | _=>rfl
theorem fQ.yF{i:Id}(hrl:i.real=true)(hs:fQ c w A h ρ O)(hi:h i=none)(v:Value)(ob:Option Nat)(d:∀b,ob=some b->b < w.heap.size/\c.MO b/\∀j,O j≠some b)(x:ab)
  (o:cr w A (aA ρ i (some v)) (aA O i ob) i x):fQ c w A (aA h i (some x)) (aA ρ i (some v)) (aA O i ob):=by
 refine⟨λj b a=> ?_,λj l a=> ?_,λj n=>by rw [al _ _ (aJ hrl)];exact hs.dc j n,λj n a=> ?_,λj n u m=>by rw [al _ _ (aJ hrl)] at m;exact hs.gone j n u m,λj k b a hk=> ?_,λj b a=> ?_,λj b a=> ?_,hs.size⟩
 .by_cases e:j=i
  .subst e;rw [aB] at a;cases a;exact o
  .rw [al _ _ e] at a;refine cr.mono (λn=>⟨al _ _ (aJ hrl),al _ _ (aJ hrl),λ_ _=>rfl⟩) (λb hb=>⟨hb,rfl⟩) (λk u hk=> ?_) (al _ _ e) (λ_ _=>rfl) (hs.af j b a);by_cases g:k=i
   .subst g;rw [(hs.bS _ hrl hi).1] at hk;cases hk
   .rw [al _ _ g];exact hk
 .by_cases e:j=i
  .subst e;rw [aB] at a;cases a
  .rw [al _ _ e] at a;rw [al _ _ e,al _ _ e];exact hs.bS j l a
 .by_cases e:j=i
  .subst e;rw [aB] at a;cases a
  .rw [al _ _ e] at a;rw [al _ _ (aJ hrl),al _ _ (aJ hrl)];exact hs.eO j n a
 .by_cases e:j=i <;> by_cases f:k=i
  .rw [e,f]
  .subst e;rw [aB] at a;rw [al _ _ f] at hk;exact((d b a).2.2 k hk).elim
  .subst f;rw [aB] at hk;rw [al _ _ e] at a;exact((d b hk).2.2 j a).elim
  .rw [al _ _ e] at a;rw [al _ _ f] at hk;exact hs.inj j k b a hk
 .by_cases e:j=i
  .subst e;rw [aB] at a;exact(d b a).1
  .rw [al _ _ e] at a;exact hs.lt j b a
 .by_cases e:j=i
  .subst e;rw [aB] at a;exact(d b a).2.1
  .rw [al _ _ e] at a;exact hs.own j b a
theorem fQ.Bg{i:Id}(hs:fQ c w A h ρ O)(hi:h i=some .dead)(ob:Option Nat)(d:∀b,ob=some b->b < w.heap.size/\c.MO b/\∀j,O j≠some b)(x:ab)
  (l:cr w A ρ (aA O i ob) i x):fQ c w A (aA h i (some x)) ρ (aA O i ob):=by
 have hrl:=hs.real (i:=i) (by rw [hi];simp);refine⟨λj b a=> ?_,λj g a=> ?_,λj n=>by rw [al _ _ (aJ hrl)];exact hs.dc j n,λj n a=> ?_,hs.gone,λj k b a hk=> ?_,λj b a=> ?_,λj b a=> ?_,hs.size⟩
 .by_cases e:j=i
  .subst e;rw [aB] at a;cases a;exact l
  .rw [al _ _ e] at a;exact cr.mono (λn=>⟨rfl,al _ _ (aJ hrl),λ_ _=>rfl⟩) (λb hb=>⟨hb,rfl⟩) (λk u hk=>hk) (al _ _ e) (λ_ _=>rfl) (hs.af j b a)
 .by_cases e:j=i
  .subst e;rw [aB] at a;cases a
  .rw [al _ _ e] at a;rw [al _ _ e];exact hs.bS j g a
 .by_cases e:j=i
  .subst e;rw [aB] at a;cases a
  .rw [al _ _ e] at a;rw [al _ _ (aJ hrl)];exact hs.eO j n a
 .by_cases e:j=i <;> by_cases f:k=i
  .rw [e,f]
  .subst e;rw [aB] at a;rw [al _ _ f] at hk;exact((d b a).2.2 k hk).elim
  .subst f;rw [aB] at hk;rw [al _ _ e] at a;exact((d b hk).2.2 j a).elim
  .rw [al _ _ e] at a;rw [al _ _ f] at hk;exact hs.inj j k b a hk
 .by_cases e:j=i
  .subst e;rw [aB] at a;exact(d b a).1
  .rw [al _ _ e] at a;exact hs.lt j b a
 .by_cases e:j=i
  .subst e;rw [aB] at a;exact(d b a).2.1
  .rw [al _ _ e] at a;exact hs.own j b a
def tL(B:Nat->Option Value)(ids:List Id)(ρ:Id->Option Value):Prop:= ∀k i v,ids[k]? =some i->B k=some v->ρ i=some v
def fh(B:Nat->Option Value)(ids:List Id)(c:Ctx)(w:World)(A:Nat->Prop)(us:aE)(own:List Nat)(Q:(Id->Option Value)->Prop):Prop:=
 ∀h ρ O,tL B ids ρ->fQ c w A h ρ O->own.Nodup->(∀b∈own,b < w.heap.size/\c.MO b/\∀i,O i≠some b)->(∀p∈us,h p.1=none)->
  ∃ρ' O',(∀i u,ρ i=some u->ρ' i=some u)/\fQ c w A (aG h us) ρ' O'/\Q ρ'/\∀b,(∃i,O' i=some b)↔((∃i,O i=some b)\/b∈own)
def mf(d j a:Nat)(us:aE):Prop:= ∀p∈us,∃k,j<=k/\k < a/\p.1= .s d k
theorem fh.nil{Q:(Id->Option Value)->Prop}(d:∀ρ,tL B ids ρ->Q ρ):fh B ids c w A [] [] Q:=by intro h ρ O a hs _ _ _;exact⟨ρ,O,λ_ _ h=>h,hs,d ρ a,λb=>by simp⟩
theorem fh.append{d j C V:Nat}{us vs:aE}{o1 J:List Nat}{r t Q:(Id->Option Value)->Prop}(h1:fh B ids c w A us o1 r)(U:fh B ids c w A vs J t)(X:mf d j C us)(Y:mf d C V vs)
  (o:∀ρ ρ',(∀i u,ρ i=some u->ρ' i=some u)->r ρ->t ρ'->Q ρ'):fh B ids c w A (us++vs) (o1++J) Q:=by
 intro h ρ O l hs x f a;obtain⟨G,H,I⟩:=Tk.1 x;obtain⟨m,K,E,y,q1,r1⟩:=h1 h ρ O l hs G (λb hb=>f b (RY _ hb)) (λp g=>a p (RY _ g));obtain⟨n,L,F,z,Z,r2⟩:=U (aG h us) m K (λk i v M N=>E i v (l k i v M N)) y H (λb hb=>by
  obtain⟨R,S,T⟩:=f b (RW _ hb);refine⟨R,S,λi hi=> ?_⟩;rcases(r1 b).1 ⟨i,hi⟩ with⟨k,hk⟩ | hk
  .exact T k hk
  .exact I b hk b hb rfl) (λp g=>by
  rw [df (λq o e=> ?_)]
  .exact a p (RW _ g)
  .obtain⟨k,_,k2,W⟩:=X q o;obtain⟨k',k1',_,D⟩:=Y p g;rw [W,D] at e;simp only [Id.s.injEq] at e;omega)
 refine⟨n,L,λi u hi=>F i u (E i u hi),by rw [lp];exact z,o m n F q1 Z,λb=> ?_⟩;rw [r2 b,r1 b,RX,or_assoc]
theorem iP(es:List (List T×T)):lM (ee es)=some es:=by
 unfold ee lM;induction es with
 | nil=>rfl
 | cons p es a=>simp only [Se,zb] at a⊢;rw [a];rfl
theorem fQ.JF{i' i:Id}{o:Id->Option Value}{l:Id->Option Nat}{b:Bool}{sz ax rsz:Nat}{es:List Row}{v:Value}{ob:List Nat}(hrl:i'.real=true)(hs:fQ c w A h ρ O)(hi:h i'=none)
  (hb:cr w A o l i (.rows b sz ax rsz es.length es)) (hv:o i=some v) (E:i.real=true) (r:∀x y d,l x=some d->l y=some d->x=y) (hg:∀n u,o (.g i n)=some u->u.oneCell'=true/\u.cells= #[u])
  (W:∀x d,l x=some d->x=i\/∃n,x= .g i n) (D:∀d,d∈ob↔∃x,l x=some d) (z:∀b∈ob,b < w.heap.size/\c.MO b/\∀i,O i≠some b):
  ∃ρ' O',(∀x u,ρ x=some u->ρ' x=some u)/\fQ c w A (aA h i' (some (.rows b sz ax rsz es.length es))) ρ' O'/\ρ' i'=some v/\∀d,(∃x,O' x=some d)↔((∃x,O x=some d)\/d∈ob):=by
 let V:Id->Option Value:=λx=>if x=i' then some v else match x with
  | .g y n=>if y=i' then o (.g i n) else ρ (.g y n)
  | x=>ρ x
 let Q:Id->Option Nat:=λx=>if x=i' then l i else match x with
  | .g y n=>if y=i' then l (.g i n) else O (.g y n)
  | x=>O x
 have X:V i'=some v:=by simp only [V,if_true]
 have T:Q i'=l i:=by simp only [Q,if_true]
 have Y:∀x,x.real=true->x≠i'->V x=ρ x:=by
  intro x hr j;simp only [V,if_neg j];cases x with
  | g y n=>cases hr
  | _=>rfl
 have J:∀x,x.real=true->x≠i'->Q x=O x:=by
  intro x hr j;simp only [Q,if_neg j];cases x with
  | g y n=>cases hr
  | _=>rfl
 have M:∀y n,y≠i'->V (.g y n)=ρ (.g y n):=by intro y n hy;simp only [V,if_neg (aJ hrl),if_neg hy]
 have K:∀y n,y≠i'->Q (.g y n)=O (.g y n):=by intro y n hy;simp only [Q,if_neg (aJ hrl),if_neg hy]
 have U:∀n,V (.g i' n)=o (.g i n):=by intro n;simp only [V,if_neg (aJ hrl),if_true]
 have L:∀n,Q (.g i' n)=l (.g i n):=by intro n;simp only [Q,if_neg (aJ hrl),if_true]
 have G:∀x d,Q x=some d->(O x=some d/\x≠i'/\∀n,x≠ .g i' n)\/(x=i'/\l i=some d)\/∃n,x= .g i' n/\l (.g i n)=some d:=by
  intro x d j;by_cases e:x=i'
  .subst e;rw [T] at j;exact .inr (.inl ⟨rfl,j⟩)
  .cases hr:x.real with
   | true=>rw [J x hr e] at j;exact .inl ⟨j,e,λn H=>by rw [H] at hr;cases hr⟩
   | false=>
    cases x with
    | g y n=>
     by_cases H:y=i'
     .subst H;rw [L] at j;exact .inr (.inr ⟨n,rfl,j⟩)
     .rw [K y n H] at j;exact .inl ⟨j,e,λm N=>by simp only [Id.g.injEq] at N;exact H N.1⟩
    | _=>cases hr
 have n0:=hs.bS i' hrl hi;have ng:=λn=>hs.eO i' n hi;have mono:∀x u,ρ x=some u->V x=some u:=by
  intro x u j;cases hr:x.real with
  | true=>rw [Y x hr (λe=>by rw [e,n0.1] at j;cases j)];exact j
  | false=>
   cases x with
   | g y n=>rw [M y n (λe=>by rw [e,(ng n).1] at j;cases j)];exact j
   | _=>cases hr
 have I:∀d,(∃x,Q x=some d)↔((∃x,O x=some d)\/d∈ob):=by
  intro d;constructor
  .rintro⟨x,j⟩;rcases G x d j with⟨h1,_⟩ | ⟨_,h1⟩ | ⟨n,_,h1⟩
   .exact .inl ⟨x,h1⟩
   .exact .inr ((D d).2 ⟨_,h1⟩)
   .exact .inr ((D d).2 ⟨_,h1⟩)
  .rintro(⟨x,j⟩ | q)
   .cases hr:x.real with
    | true=>exact⟨x,by rw [J x hr (λe=>by rw [e,n0.2] at j;cases j)];exact j⟩
    | false=>
     cases x with
     | g y n=>exact⟨.g y n,by rw [K y n (λe=>by rw [e,(ng n).2] at j;cases j)];exact j⟩
     | _=>cases hr
   .obtain⟨x,j⟩:=(D d).1 q;rcases W x d j with rfl | ⟨n,rfl⟩
    .exact⟨i',by rw [T];exact j⟩
    .exact⟨.g i' n,by rw [L];exact j⟩
 have F:∀d,(∃x,l x=some d)->∀y,O y≠some d:=λd q=>(z d ((D d).2 q)).2.2;refine⟨V,Q,mono,⟨λx y j=> ?_,λx hr j=> ?_,λx n=>by rw [al _ _ (aJ hrl)];exact hs.dc x n,λx n j=> ?_,λx n u S=> ?_,λx y d j hy=> ?_,λx d j=> ?_,λx d j=> ?_,hs.size⟩,X,I⟩
 .by_cases e:x=i'
  .subst e;rw [aB] at j;cases j;obtain⟨a,cap,Z,N,e3,R,e5⟩:=hb;rw [hv] at Z;cases Z;refine⟨a,cap,X,N,e3,⟨R.1,R.2.1,λn hn=>by rw [U];exact R.2.2.1 n hn,λn d hn=>by rw [L] at hn;exact R.2.2.2 n d hn⟩, ?_⟩;rcases e5 with e5 | ⟨af,off,arr,t,q1,q2,q3,q4,q5⟩
   .exact .inl e5
   .exact .inr ⟨af,off,arr,t,q1,by rw [T];exact q2,q3,q4,bO.move (λb hb=>⟨hb,rfl⟩) (λ_ _=>rfl) (λf _=>⟨U _,L _,λ_ _=>rfl⟩) q5⟩
  .rw [al _ _ e] at j;have hrx:=hs.real (i:=x) (by rw [j];simp);exact cr.mono (λn=>⟨M x n e,K x n e,λ_ _=>rfl⟩) (λb hb=>⟨hb,rfl⟩) mono (J x hrx e) (λ_ _=>rfl) (hs.af x y j)
 .have k:x≠i':=λe=>by rw [e,aB] at j;cases j
  rw [al _ _ k] at j;rw [Y x hr k,J x hr k];exact hs.bS x hr j
 .have k:x≠i':=λe=>by rw [e,aB] at j;cases j
  rw [al _ _ k] at j;rw [M x n k,K x n k];exact hs.eO x n j
 .by_cases k:x=i'
  .subst k;rw [U] at S;exact hg n u S
  .rw [M x n k] at S;exact hs.gone x n u S
 .rcases G x d j with⟨h1,p,h3⟩ | ⟨h1,p⟩ | ⟨n,h1,p⟩ <;> rcases G y d hy with⟨C,k2,k3⟩ | ⟨C,k2⟩ | ⟨m,C,k2⟩
  .exact hs.inj x y d h1 C
  .exact(F d ⟨_,k2⟩ x h1).elim
  .exact(F d ⟨_,k2⟩ x h1).elim
  .exact(F d ⟨_,p⟩ y C).elim
  .rw [h1,C]
  .have:=r _ _ d p k2;rw [this] at E;cases E
  .exact(F d ⟨_,p⟩ y C).elim
  .have:=r _ _ d k2 p;rw [this] at E;cases E
  .have:=r _ _ d p k2;simp only [Id.g.injEq,true_and] at this;rw [h1,C,this]
 .rcases(I d).1 ⟨x,j⟩ with⟨y,hy⟩ | q
  .exact hs.lt y d hy
  .exact(z d q).1
 .rcases(I d).1 ⟨x,j⟩ with⟨y,hy⟩ | q
  .exact hs.own y d hy
  .exact(z d q).2.1
theorem DJ{R:Type}{d j:Nat}{r:bG}{x:T}{v:Value}{ob:List Nat}{K:AV->aE->Nat->Option R}{res:R}(Q:cc=none\/cc=some true)(g:je B w A r x v ob)(hk:lN ids d cc j r x K=some res):
  ∃av us N,K av us N=some res/\j<=N/\mf d j N us/\fh B ids c w A us ob (λρ =>ai w A ρ av v):=by
 unfold lN at hk;cases r with
 | f k=>obtain⟨_,h1,rfl⟩:=g;simp only at hk;obtain⟨y,hk,h1⟩:=ow Q h1 hk;exact⟨_,_,_,hk,R3 _,(by intro p C;cases C),fh.nil λρ _=>by simpa [ai] using h1⟩
 | t k=>obtain⟨h1,rfl⟩:=g;simp only at hk;obtain⟨y,hk,h1⟩:=ow Q h1 hk;exact⟨_,_,_,hk,R3 _,(by intro p C;cases C),fh.nil λρ _=>by simpa [ai] using h1⟩
 | own sz=>
  obtain⟨o,p,rfl,C,X⟩:=g;cases cc with
  | some b=>simp at hk
  | none=>
   dsimp only at hk;replace hk:=aI hk (.inl rfl);obtain⟨q,a,hk⟩:=hk;rw [C] at a;simp only [RJ] at a;subst a;refine⟨_,_,_,hk,Nat.le_succ _, ?_, ?_⟩
   .intro q a;simp only [RP] at a;subst a;exact⟨j,R3 _,Ud _,rfl⟩
   .intro h ρ O D hs H z m;have hi:h (.s d j)=none:=m _ (RP.2 rfl);refine⟨aA ρ (.s d j) (some v),aA O (.s d j) o,λi u n=> ?_, ?_,by simp [ai],λb=>⟨λ⟨i,hb⟩=> ?_,λhb=> ?_⟩⟩
    .by_cases e:i= .s d j
     .subst e;rw [(hs.bS _ rfl hi).1] at n;cases n
     .rw [al _ _ e];exact n
    .rw [dB];refine hs.yF rfl hi v o (λb hb=>z b (by simp [hb])) _ ⟨v,aB _ _ _, ?_,by simp⟩;simpa using X
    .by_cases e:i= .s d j
     .subst e;rw [aB] at hb;right;simp [hb]
     .rw [al _ _ e] at hb;exact .inl ⟨i,hb⟩
    .rcases hb with⟨i,hb⟩ | hb
     .by_cases e:i= .s d j
      .subst e;rw [(hs.bS _ rfl hi).2] at hb;cases hb
      .exact⟨i,by rw [al _ _ e];exact hb⟩
     .exact⟨.s d j,by rw [aB];simpa using hb⟩
 | ref k off=>
  obtain⟨⟨b,h1,rfl⟩,rfl⟩:=g;dsimp only at hk;split at hk
  .rename_i i hi;exact⟨_,_,_,hk,R3 _,(by intro p C;cases C),fh.nil λρ D=>by
    simp only [ai];exact⟨b,D k i _ hi h1,rfl⟩⟩
  .simp at hk
 | same k=>
  obtain⟨⟨h1,_⟩,rfl⟩:=g;dsimp only at hk;split at hk
  .rename_i i hi;exact⟨_,_,_,hk,R3 _,(by intro p C;cases C),fh.nil λρ D=>by
    simp only [ai];exact D k i _ hi h1⟩
  .simp at hk
 | rows sz ax rsz=>
  obtain⟨b,es,i,ρ0,O0,J,hb,hv,W,M,hg,L,U⟩:=g;cases cc with
  | some b=>simp at hk
  | none=>
   dsimp only at hk;replace hk:=aI hk (.inl rfl);obtain⟨q,a,hk⟩:=hk;rw [J] at a;simp only [RJ] at a;subst a;refine⟨_,_,_,hk,Nat.le_succ _, ?_, ?_⟩
   .intro q a;simp only [RP] at a;subst a;exact⟨j,R3 _,Ud _,rfl⟩
   .intro h ρ O D hs H z m;have hi:h (.s d j)=none:=m _ (RP.2 rfl);obtain⟨ρ',O',Y,Z,g3,g4⟩:=hs.JF (i':= .s d j) rfl hi hb hv W M hg L U z;exact⟨ρ',O',Y,by rw [dB];exact Z,by simp only [ai];exact g3,g4⟩
 | no=>obtain⟨_,rfl⟩:=g;dsimp only at hk;exact⟨_,_,_,hk,R3 _,(by intro p C;cases C),fh.nil λρ _=>by simp [ai]⟩
 | mp ag ks vk=>
  obtain⟨es,E,I,F,rfl,rfl,rfl,G,S,V⟩:=g;cases cc with
  | some b=>simp at hk
  | none=>
   dsimp only at hk;replace hk:=aI hk (.inl rfl);obtain⟨q,a,hk⟩:=hk;rw [iP] at a;simp only [RJ] at a;subst a;refine⟨_,_,_,hk,Nat.le_succ _, ?_, ?_⟩
   .intro q a;simp only [RP] at a;subst a;exact⟨j,R3 _,Ud _,rfl⟩
   .intro h ρ O D hs H z m;have hi:h (.s d j)=none:=m _ (RP.2 rfl);refine⟨aA ρ (.s d j) (some (.map (some E))),aA O (.s d j) (some E),λi u n=> ?_, ?_,by simp [ai],λb=>⟨λ⟨i,hb⟩=> ?_,λhb=> ?_⟩⟩
    .by_cases e:i= .s d j
     .subst e;rw [(hs.bS _ rfl hi).1] at n;cases n
     .rw [al _ _ e];exact n
    .rw [dB];exact hs.yF rfl hi _ (some E) (λb hb=>z b (by simp only [RJ] at hb;simp [hb])) _ ⟨E,I,F,aB _ _ _,aB _ _ _,G,S,V⟩
    .by_cases e:i= .s d j
     .subst e;rw [aB] at hb;right;simp only [RJ] at hb;simp [hb]
     .rw [al _ _ e] at hb;exact .inl ⟨i,hb⟩
    .rcases hb with⟨i,hb⟩ | hb
     .by_cases e:i= .s d j
      .subst e;rw [(hs.bS _ rfl hi).2] at hb;cases hb
      .exact⟨i,by rw [al _ _ e];exact hb⟩
     .exact⟨.s d j,by rw [aB];simp only [RP] at hb;rw [hb]⟩
 | agg l=>simp at hk
 | new l=>simp at hk
theorem vl{R:Type}{d:Nat}(g:cc=none\/cc=some true):∀{n:List bG} {j:Nat} {f x2:List T} {vs:List Value} {own:List Nat} {K:List AV->aE->Nat->Option R} {res:R},eL B w A n f vs own->jk ids d cc j n (f++x2) K=some res->
  ∃av us i,K av us i=some res/\j<=i/\mf d j i us/\fh B ids c w A us own (λρ =>aw w A ρ av vs)
 | [],j,f,x2,vs,own,K,res,e,hk=>by obtain⟨rfl,rfl,rfl⟩:=e;exact⟨_,_,_,hk,R3 _,(by intro p a;cases a),fh.nil λρ _=>by simp [aw]⟩
 | r::n,j,f,x2,vs,own,K,res,e,hk=>by
  obtain⟨x,L,v,u,ob,E,rfl,rfl,rfl,h1,z⟩:=e;simp only [jk,RU,S8,UY] at hk;replace hk:=aI hk g;obtain⟨y,hy,hk⟩:=hk;simp only [RJ] at hy;subst hy;obtain⟨av,us,M,hk,C,q,G⟩:=DJ (c:=c) g h1 hk;obtain⟨I,J,N,hk,D,t,H⟩:=vl g z hk;refine⟨_,_,_,hk,Sh C D, ?_,G.append H q t λρ ρ' m q1 F=> ?_⟩
  .intro p a;rcases RX.1 a with a | a
   .obtain⟨k,o,k2,l⟩:=q p a;exact⟨k,o,by omega,l⟩
   .obtain⟨k,o,k2,l⟩:=t p a;exact⟨k,by omega,k2,l⟩
  .simp only [aw];exact⟨v,u,rfl,ai.mono (λb hb=>⟨hb,rfl⟩) m _ _ q1,F⟩
theorem je.one{r:bG}{x:T}{v:Value}{ob:List Nat}(h:je B w A r x v ob):v.oneCell'=true/\v.cells= #[v]:=by
 cases r with
 | f k=>exact h.2.1.pc
 | t k=>exact h.1.pc
 | own sz=>obtain⟨o,p,_,_,a,cap,rfl,_⟩:=h;exact⟨rfl,rfl⟩
 | rows sz ax rsz=>obtain⟨b,es,i,j,m,_,⟨a,cap,d,_⟩,hv,_⟩:=h;rw [hv] at d;cases d;exact⟨rfl,rfl⟩
 | ref k off=>obtain⟨⟨b,_,rfl⟩,_⟩:=h;exact⟨rfl,rfl⟩
 | same k=>exact h.1.2
 | no=>exact h.1
 | mp ag ks vk=>obtain⟨es,b,g,e,_,rfl,_⟩:=h;exact⟨rfl,rfl⟩
 | agg l=>exact h.elim
 | new l=>exact h.elim
theorem eL.one:∀{a:List bG} {xs:List T} {vs:List Value} {own:List Nat},eL B w A a xs vs own->∀u∈vs,u.oneCell'=true/\u.cells= #[u]
 | [],_,_,_,⟨_,rfl,_⟩,u,hu=>by cases hu
 | r::a,xs,vs,own,h,u,hu=>by
  obtain⟨x,f,v,e,ob,d,rfl,rfl,rfl,h1,b⟩:=h;rcases RV.1 hu with rfl | hu
  .exact h1.one
  .exact eL.one b u hu
theorem eL.length:∀{a:List bG} {xs:List T} {vs:List Value} {own:List Nat},eL B w A a xs vs own->xs.length=a.length
 | [],_,_,_,⟨rfl,_,_⟩=>rfl
 | r::a,xs,vs,own,h=>by obtain⟨x,f,v,e,ob,d,rfl,rfl,rfl,h1,b⟩:=h;simp [eL.length b]
theorem fh.box{d J j:Nat}{us:aE}{o1:List Nat}{av:List AV}{a:Nat}{arr:Array Value}{t:TypeId}(h1:fh B ids c w A us o1 (λρ =>aw w A ρ av arr.toList))(M:mf d J j us)(hb:w.heap[a]? =some (.cells arr t (0,0)))
  (I:∀u∈arr.toList,u.oneCell'=true/\u.cells= #[u]):fh B ids c w A (us++ [(.s d j, .box av)]) (a::o1) (λρ =>ai w A ρ (.ref (.s d j) 0) (.pointer (some ⟨a,0,none⟩))):=by
 intro h ρ O C hs D f l;obtain⟨E,F⟩:=SU.1 D;obtain⟨v,x,L,o,q1,r1⟩:=h1 h ρ O C hs F (λb hb=>f b (RM _ hb)) (λp y=>l p (RY _ y));have hi:aG h us (.s d j)=none:=by
  rw [df λp y e=> ?_]
  .exact l _ (RW _ (RP.2 rfl))
  .obtain⟨k,_,z,H⟩:=M p y;rw [H] at e;simp only [Id.s.injEq] at e;omega
 have m:∀k,x k≠some a:=by
  intro k hk;rcases(r1 a).1 ⟨k,hk⟩ with⟨K,n⟩ | n
  .exact(f a RL).2.2 K n
  .exact E n
 have mono:∀i u,v i=some u->aA v (.s d j) (some (.pointer (some ⟨a,0,none⟩))) i=some u:=by
  intro i u q;by_cases e:i= .s d j
  .subst e;rw [(o.bS _ rfl hi).1] at q;cases q
  .rw [al _ _ e];exact q
 refine⟨aA v (.s d j) (some (.pointer (some ⟨a,0,none⟩))),aA x (.s d j) (some a),λi u q=>mono i u (L i u q), ?_, ?_,λb=> ?_⟩
 .rw [lp,dB];refine o.yF rfl hi _ (some a) (λb hb=> ?_) _ ⟨a,arr,t,aB _ _ _,aB _ _ _,hb,aw.mono (λb hb=>⟨hb,rfl⟩) mono _ _ q1,I⟩;simp only [RJ] at hb;subst hb;obtain⟨G,z,_⟩:=f a RL;exact⟨G,z,m⟩
 .simp only [ai];exact⟨a,aB _ _ _,by simp⟩
 .constructor
  .rintro⟨k,hk⟩;by_cases e:k= .s d j
   .subst e;rw [aB] at hk;cases hk;exact .inr RL
   .rw [al _ _ e] at hk;rcases(r1 b).1 ⟨k,hk⟩ with g | g
    .exact .inl g
    .exact .inr (RM _ g)
  .intro hk;have r:(∃k,x k=some b)->∃k,aA x (.s d j) (some a) k=some b:=by
    rintro⟨k,hk⟩;by_cases e:k= .s d j
    .subst e;rw [(o.bS _ rfl hi).2] at hk;cases hk
    .exact⟨k,by rw [al _ _ e];exact hk⟩
   rcases hk with hk | hk
   .exact r ((r1 b).2 (.inl hk))
   .rcases RV.1 hk with rfl | hk
    .exact⟨_,aB _ _ _⟩
    .exact r ((r1 b).2 (.inr hk))
theorem r7{R:Type}{d:Nat}(D:cc=none\/cc=some true):∀{F:List bG} {j:Nat} {xs:List T} {vs:List Value} {own:List Nat} {K:List AV->aE->Nat->Option R} {res:R},cW B w A F xs vs own->dq ids d cc j F xs K=some res->
  ∃av us q,K av us q=some res/\j<=q/\mf d j q us/\fh B ids c w A us own (λρ =>aw w A ρ av vs)
 | [],j,xs,vs,own,K,res,a,hk=>by obtain⟨rfl,rfl,rfl⟩:=a;exact⟨_,_,_,hk,R3 _,(by intro p g;cases g),fh.nil λρ _=>by simp [aw]⟩
 | r::F,j,xs,vs,own,K,res,a,hk=>by
  have e:(∃x N v n ob E,xs=x::N/\vs=v::n/\own=ob++E/\je B w A r x v ob/\cW B w A F N n E)->
    (aa cc xs.head? λx=>lN ids d cc j r x λv u j=>dq ids d cc j F xs.tail λvs us j=>K (v::vs) (u++us) j)=some res->
    ∃av us q,K av us q=some res/\j<=q/\mf d j q us/\fh B ids c w A us own (λρ =>aw w A ρ av vs):=by
   intro a hk;obtain⟨x,N,v,n,ob,E,rfl,rfl,rfl,h1,G⟩:=a;simp only [S8,UY] at hk;replace hk:=aI hk D;obtain⟨y,hy,hk⟩:=hk;simp only [RJ] at hy;subst hy;obtain⟨av,us,H,hk,I,z,L⟩:=DJ (c:=c) D h1 hk;obtain⟨S,V,Y,hk,Q,C,M⟩:=r7 D G hk;refine⟨_,_,_,hk,Sh I Q, ?_,L.append M z C λρ ρ' m q1 J=> ?_⟩
   .intro p g;rcases RX.1 g with g | g
    .obtain⟨k,o,k2,i⟩:=z p g;exact⟨k,o,by omega,i⟩
    .obtain⟨k,o,k2,i⟩:=C p g;exact⟨k,by omega,k2,i⟩
   .simp only [aw];exact⟨v,n,rfl,ai.mono (λb hb=>⟨hb,rfl⟩) m _ _ q1,J⟩
  cases r with
  | f k=>exact e a hk
  | t k=>exact e a hk
  | own sz=>exact e a hk
  | rows sz ax rsz=>exact e a hk
  | mp ag ks vk=>exact e a hk
  | new l=>
   obtain⟨W,x2,b0,arr,ty,n,o1,Z,rfl,rfl,rfl,X,h1,G⟩:=a;have hk:(jk ids d cc j l (W++x2) λv u j=>dq ids d cc (j+1) F ((W++x2).drop l.length) λvs us q=>K (AV.ref (.s d j) 0::vs) (u++ [(.s d j, .box v)] ++us) q)=some res:=by
    cases cc with
    | none=>simp only [dq] at hk;exact hk
    | some b=>simp [dq] at hk
   obtain⟨av,us,H,hk,I,z,L⟩:=vl (c:=c) D h1 hk;have hl:=h1.length;rw [<-hl,Ws] at hk;obtain⟨S,V,Y,hk,Q,C,M⟩:=r7 D G hk;have U:mf d j (H+1) (us++ [(.s d H, .box av)]):=by
    intro p g;rcases RX.1 g with g | g
    .obtain⟨k,o,k2,i⟩:=z p g;exact⟨k,o,by omega,i⟩
    .rw [RP.1 g];exact⟨H,I,by omega,rfl⟩
   refine⟨_,_,_,hk,by omega, ?_,(L.box z X h1.one).append M U C λρ ρ' m q1 J=> ?_⟩
   .intro p g;rcases RX.1 g with g | g
    .obtain⟨k,o,k2,i⟩:=U p g;exact⟨k,o,by omega,i⟩
    .obtain⟨k,o,k2,i⟩:=C p g;exact⟨k,by omega,k2,i⟩
   .simp only [aw];exact⟨_,n,rfl,ai.mono (λb hb=>⟨hb,rfl⟩) m _ _ q1,J⟩
  | ref k off=>exact e a hk
  | same k=>exact e a hk
  | no=>exact e a hk
  | agg l=>
   obtain⟨W,x2,ws,n,o1,Z,rfl,rfl,rfl,h1,G⟩:=a;simp only [dq] at hk;obtain⟨av,us,H,hk,I,z,L⟩:=vl (c:=c) D h1 hk;have hl:=h1.length;rw [<-hl,Ws] at hk;obtain⟨S,V,Y,hk,Q,C,M⟩:=r7 D G hk;refine⟨_,_,_,hk,Sh I Q, ?_,L.append M z C λρ ρ' m q1 J=> ?_⟩
   .intro p g;rcases RX.1 g with g | g
    .obtain⟨k,o,k2,i⟩:=z p g;exact⟨k,o,by omega,i⟩
    .obtain⟨k,o,k2,i⟩:=C p g;exact⟨k,by omega,k2,i⟩
   .simp only [aw];refine⟨_,n,rfl, ?_,J⟩;simp only [ai];exact⟨ws,rfl,aw.mono (λb hb=>⟨hb,rfl⟩) m _ _ q1,h1.one⟩
theorem Bc{vs:List AV}{a:List Value}(h:aw w A ρ vs a):ai w A ρ (kY vs) (oa a):=by
 match vs,a,h with
 | [],a,h=>simp only [aw] at h;subst h;simp only [kY,oa,ai];exact⟨[],rfl,by simp [aw]⟩
 | [v],a,h=>simp only [aw] at h;obtain⟨u,r,rfl,h1,rfl⟩:=h;exact h1
 | v::d::vs,a,h=>
  have hl:=h.length
  match a,hl with
  | u::b::a,_=>simp only [kY,oa,ai];exact⟨_,rfl,h⟩
theorem Qd{v:AV}{x:T}{u:Value}(hs:HS c w h ρ O)(hv:ai w (AA c w O) ρ v u)(a:BI h v=some x)
  (e:∀b,AA c w O b->A' b) (f:∀i af,O i=some af->A' af):au w A' x u:=by
 have d:cO h v=some x->au w A' x u:=λj=>l8 hs hv j e (λi af _ g=>f i af g);cases v
 case own i=>
  simp only [BI] at a;split at a
  .rename_i sz b xs hi;exact d (by simp only [cO,hi];exact a)
  .simp only [RJ] at a;subst a;simp only [ai] at hv;simp only [au];exact jw hs hv
  .simp only [RJ] at a;subst a;simp only [ai] at hv;simp only [au];exact jw hs hv
  .cases a
 all_goals exact d a
theorem II(hs:HS c w h ρ O)(d:∀b,AA c w O b->A' b):∀{vs:List AV} {xs:List T} {us:List Value},aw w (AA c w O) ρ vs us->tz h vs=some xs->
  (∀i af,O i=some af->A' af)->aO w A' xs us
 | [],xs,us,hv,a,_=>by simp only [tz,RJ] at a;subst a;simpa [aw,aO] using hv
 | v::vs,xs,us,hv,a,e=>by simp only [tz] at a;obtain⟨x,h1,a⟩:=RK.1 a;obtain⟨l,j,a⟩:=RK.1 a;simp only [RJ] at a;subst a;simp only [aw] at hv;obtain⟨u,r,rfl,f,g⟩:=hv;exact⟨u,r,rfl,Qd hs f h1 d e,II hs d g j e⟩
theorem JT{m:Bool}{v:AV}{u:Value}{q:T×aE}(hs:HS c w h ρ O)(hv:ai w (AA c w O) ρ v u)(a:jg true m h v=some q):q.2= []/\au w (λb=>b < w.heap.size) q.1 u:=by
 have f:∀b,AA c w O b->b < w.heap.size:=λb hb=>hb.2.1;have d:∀x:T,cO h v=some x->au w (λb=>b < w.heap.size) x u:=λx k=>l8 hs hv k f (λi af _ g=>hs.lt i af g);cases v
 case ref i off=>
  simp only [jg,cond_true] at a;split at a
  .rename_i cs hi;obtain⟨l,hl,a⟩:=RK.1 a;simp only [RJ] at a;subst a;obtain⟨b,arr,t,h1,r,y,n,C⟩:=hs.af i _ hi;simp only [ai] at hv;obtain⟨z,e,rfl⟩:=hv;rw [h1] at e;simp only [RJ,Tv,SL] at e;obtain⟨rfl,_⟩:=e;refine⟨rfl, ?_⟩;simp only [au];have p:aO w (λb=>b < w.heap.size) l (arr.toList.drop off):=by
    cases m with
    | true=>exact II hs f (n.drop off) hl (λi af g=>hs.lt i af g)
    | false=>exact aO.mono (λb hb=>⟨f b hb,rfl⟩) _ _ (aO.kT hl (n.drop off))
   refine⟨b,off,rfl, .inr (hs.lt i b r),aP.jZ p (λj v o=> ?_)⟩;rw [Vi] at o;simp only [World.cell?,y];simpa using o
  .rename_i l hi;simp only [RJ] at a;subst a;exact⟨rfl,d _ (by simp [cO,hi])⟩
  .simp at a
 all_goals
  simp only [jg] at a;obtain⟨x,k,a⟩:=RK.1 a;simp only [cond_true,RJ] at a;subst a;exact⟨rfl,d _ k⟩
theorem JU{n:Bool}{v:AV}{u:Value}{q:T×aE}(hs:HS c w h ρ O)(hv:ai w (AA c w O) ρ v u)(a:jg false n h v=some q):
  fP h q.2/\∀O',Le w ρ O w ρ O'->(∀i,O' i=O i\/O' i=none)->(∀p∈q.2,O' p.1=none)->au w (AA c w O') q.1 u:=by
 have l:∀x:T,cO h v=some x->q= (x,gu h v)->fP h q.2/\∀O',Le w ρ O w ρ O'->(∀i,O' i=O i\/O' i=none)->(∀p∈q.2,O' p.1=none)->au w (AA c w O') q.1 u:=by
  intro x d e;subst e;refine⟨su v,λO' le m o=>l8 hs hv d (λb hb=>(le.A b hb).1) (λi af hi k=> ?_)⟩;obtain⟨p,r,e⟩:=vX hs d hi k;refine⟨.inr (hs.own i af k),hs.lt i af k,λj f=> ?_⟩;rcases m j with g | g
  .rw [g] at f;have:=hs.inj j i af f k;subst this;have:=o p r;rw [e,g,f] at this;cases this
  .rw [g] at f;cases f
 cases v
 case ref i off=>simp only [jg,cond_false] at a;obtain⟨x,d,a⟩:=RK.1 a;simp only [RJ] at a;exact l x d a.symm
 all_goals
  simp only [jg] at a;obtain⟨x,d,a⟩:=RK.1 a;simp only [cond_false,RJ] at a;exact l x d a.symm
def hY(c:Ctx)(w:World)(h:Id->Option ab)(ρ:Id->Option Value)(O:Id->Option Nat)(fl:Bool)(us:aE)(Q:(Nat->Prop)->Prop):Prop:=
 (fl=true->us= []/\Q (λb=>b < w.heap.size))/\
 (fl=false->fP h us/\∀O',Le w ρ O w ρ O'->(∀i,O' i=O i\/O' i=none)->(∀p∈us,O' p.1=none)->Q (AA c w O'))
theorem C0{fl b:Bool}{v:AV}{u:Value}{q:T×aE}(hs:HS c w h ρ O)(hv:ai w (AA c w O) ρ v u)(a:jg fl b h v=some q):hY c w h ρ O fl q.2 (λA=>au w A q.1 u):=
 ⟨λe=>by subst e;exact JT hs hv a,λe=>by subst e;exact JU hs hv a⟩
theorem hY.append{fl:Bool}{us vs:aE}{i j Q:(Nat->Prop)->Prop}(h1:hY c w h ρ O fl us i)(k:hY c w h ρ O fl vs j)(n:∀A,i A->j A->Q A):hY c w h ρ O fl (us++vs) Q:=by
 refine⟨λe=> ?_,λe=> ?_⟩
 .obtain⟨a,b⟩:=h1.1 e;obtain⟨d,f⟩:=k.1 e;exact⟨by rw [a,d];rfl,n _ b f⟩
 .obtain⟨a,b⟩:=h1.2 e;obtain⟨d,f⟩:=k.2 e;exact⟨a.append d,λO' le l m=>n _ (b O' le l (λp g=>m p (RY _ g))) (f O' le l (λp g=>m p (RW _ g)))⟩
theorem hY.nil{fl:Bool}{Q:(Nat->Prop)->Prop}(a:∀A,Q A):hY c w h ρ O fl [] Q:=⟨λ_=>⟨rfl,a _⟩,λ_=>⟨(by intro p b;cases b),λ_ _ _ _=>a _⟩⟩
theorem hY.imp{fl:Bool}{us:aE}{a Q:(Nat->Prop)->Prop}(h1:hY c w h ρ O fl us a)(b:∀A,a A->Q A):hY c w h ρ O fl us Q:=
 ⟨λe=>⟨(h1.1 e).1,b _ (h1.1 e).2⟩,λe=>⟨(h1.2 e).1,λO' le d f=>b _ ((h1.2 e).2 O' le d f)⟩⟩
theorem uU{fl f:Bool}(hs:HS c w h ρ O):∀{vs:List AV} {us:List Value} {q:List T×aE},aw w (AA c w O) ρ vs us->lD fl f h vs=some q->hY c w h ρ O fl q.2 (λA=>aO w A q.1 us)
 | [],us,q,hv,d=>by simp only [aw] at hv;subst hv;simp only [lD,RJ] at d;subst d;exact hY.nil λ_=>rfl
 | v::vs,us,q,hv,d=>by simp only [aw] at hv;obtain⟨u,r,rfl,h1,g⟩:=hv;simp only [lD] at d;obtain⟨p,i,d⟩:=RK.1 d;obtain⟨j,e,d⟩:=RK.1 d;simp only [RJ] at d;subst d;exact(C0 hs h1 i).append (uU hs g e) λA a b=>⟨u,r,rfl,a,b⟩
theorem C4{fl j:Bool}(hs:HS c w h ρ O){v:AV}{u:Value}{q:AV×aE}(hv:ai w (AA c w O) ρ v u)(d:kF fl j h v=some q):hY c w h ρ O fl q.2 (λA=>ai w A (λ_=>none) q.1 u):=by
 cases v
 case fn f a b=>simp only [ai] at hv;obtain⟨l,y',rfl,h1,g⟩:=hv;simp only [kF] at d;obtain⟨p,e,d⟩:=RK.1 d;obtain⟨m,i,d⟩:=RK.1 d;simp only [RJ] at d;subst d;refine(uU hs h1 e).append (uU hs g i) λA a b=> ?_;simp only [ai];exact⟨l,y',rfl,aw.kU a,aw.kU b⟩
 case agg vs=>simp only [ai] at hv;obtain⟨k,rfl,h1,g⟩:=hv;simp only [kF] at d;obtain⟨p,e,d⟩:=RK.1 d;simp only [RJ] at d;subst d;refine(uU hs h1 e).imp λA a=> ?_;simp only [ai];exact⟨k,rfl,aw.kU a,g⟩
 all_goals
  simp only [kF] at d;obtain⟨p,e,d⟩:=RK.1 d;simp only [RJ] at d;subst d;refine(C0 hs hv e).imp λA a=> ?_;simpa [ai] using a
theorem C6{fl f:Bool}(hs:HS c w h ρ O):∀{vs:List AV} {us:List Value} {q:List AV×aE},aw w (AA c w O) ρ vs us->kG fl f h vs=some q->hY c w h ρ O fl q.2 (λA=>aw w A (λ_=>none) q.1 us)
 | [],us,q,hv,d=>by simp only [aw] at hv;subst hv;simp only [kG,RJ] at d;subst d;exact hY.nil λ_=>by simp [aw]
 | v::vs,us,q,hv,d=>by simp only [aw] at hv;obtain⟨u,r,rfl,h1,g⟩:=hv;simp only [kG] at d;obtain⟨p,i,d⟩:=RK.1 d;obtain⟨j,e,d⟩:=RK.1 d;simp only [RJ] at d;subst d;refine(C4 hs h1 i).append (C6 hs g e) λA a b=> ?_;simp only [aw];exact⟨u,r,rfl,a,b⟩
theorem au.flat{x:T}{v:Value}(a:x.oX =some ())(h:au w A x v):au w A' x v:=by cases x <;> simp only [T.oX,reduceCtorEq] at a <;> simpa [au] using h
theorem eL.flat:∀{a:List bG} {xs:List T} {vs:List Value} {own:List Nat},(a.all λr=>match r with | .f _=>true | _=>false)=true->eL B w A a xs vs own->eL B w A' a xs vs own/\own= []
 | [],_,_,_,_,h=>⟨h,h.2.2⟩
 | r::a,xs,vs,own,b,h=>by simp only [Tu,RQ] at b;obtain⟨x,g,v,e,ob,k,rfl,rfl,rfl,h1,j⟩:=h;obtain⟨i,rfl⟩:=eL.flat b.2 j;cases r <;> simp only [R9,false_and] at b;obtain⟨d,k2,rfl⟩:=h1;exact⟨⟨x,g,v,e,[],[],rfl,rfl,rfl,⟨d,k2.flat d,rfl⟩,i⟩,rfl⟩
theorem cW.flat:∀{d:List bG} {xs:List T} {vs:List Value} {own:List Nat},d.all qq=true->cW B w A d xs vs own->cW B w A' d xs vs own/\own= []
 | [],_,_,_,_,h=>⟨h,h.2.2⟩
 | r::d,xs,vs,own,a,h=>by
  simp only [Tu,RQ] at a;cases r <;> simp only [qq,R9,false_and] at a
  case f=>obtain⟨x,j,v,b,ob,m,rfl,rfl,rfl,h1,g⟩:=h;obtain⟨e,rfl⟩:=cW.flat a.2 g;obtain⟨i,k2,rfl⟩:=h1;exact⟨⟨x,j,v,b,[],[],rfl,rfl,rfl,⟨i,k2.flat i,rfl⟩,e⟩,rfl⟩
  case agg l=>obtain⟨o,x2,n,b,o1,p,rfl,rfl,rfl,h1,g⟩:=h;obtain⟨e,rfl⟩:=cW.flat a.2 g;obtain⟨k,rfl⟩:=eL.flat a.1 h1;exact⟨⟨o,x2,n,b,[],[],rfl,rfl,rfl,k,e⟩,rfl⟩
theorem je.mono{r:bG}{x:T}{v:Value}{ob:List Nat}(e:∀b,A b->A' b)(h:je B w A r x v ob):je B w A' r x v ob:=by
 have g:∀x v,au w A x v->au w A' x v:=λx v=>au.mono (λb hb=>⟨e b hb,rfl⟩) x v;cases r with
 | f k=>exact⟨h.1,g _ _ h.2.1,h.2.2⟩
 | t k=>exact⟨g _ _ h.1,h.2⟩
 | own sz=>obtain⟨o,p,a,h1,d⟩:=h;exact⟨o,p,a,h1,d.mono (λb hb=>⟨e b hb,rfl⟩) (λb hb=>⟨hb,rfl⟩)⟩
 | rows sz ax rsz=>obtain⟨b,es,i,j,m,a,h1,d⟩:=h;exact⟨b,es,i,j,m,a,cr.mono (λn=>⟨rfl,rfl,λ_ _=>rfl⟩) (λb hb=>⟨e b hb,rfl⟩) (λ_ _ h=>h) rfl (λ_ _=>rfl) h1,d⟩
 | ref k off=>exact h
 | same k=>exact h
 | no=>exact h
 | mp ag ks vk=>exact h
 | agg l=>exact h.elim
 | new l=>exact h.elim
theorem eL.mono(e:∀b,A b->A' b):∀{d:List bG} {xs:List T} {vs:List Value} {own:List Nat},eL B w A d xs vs own->eL B w A' d xs vs own
 | [],_,_,_,h=>h
 | r::d,xs,vs,own,h=>by obtain⟨x,g,v,f,ob,a,rfl,rfl,rfl,h1,i⟩:=h;exact⟨x,g,v,f,ob,a,rfl,rfl,rfl,h1.mono e,eL.mono e i⟩
theorem cW.mono(d:∀b,A b->A' b):∀{i:List bG} {xs:List T} {vs:List Value} {own:List Nat},cW B w A i xs vs own->cW B w A' i xs vs own
 | [],_,_,_,h=>h
 | r::i,xs,vs,own,h=>by
  cases r with
  | agg l=>obtain⟨j,x2,o,a,o1,f,rfl,rfl,rfl,h1,e⟩:=h;exact⟨j,x2,o,a,o1,f,rfl,rfl,rfl,h1.mono d,cW.mono d e⟩
  | new l=>obtain⟨j,x2,n,arr,ty,a,o1,f,rfl,rfl,rfl,k,h1,e⟩:=h;exact⟨j,x2,n,arr,ty,a,o1,f,rfl,rfl,rfl,k,h1.mono d,cW.mono d e⟩
  | _=>obtain⟨x,m,v,a,ob,g,rfl,rfl,rfl,h1,e⟩:=h;exact⟨x,m,v,a,ob,g,rfl,rfl,rfl,h1.mono d,cW.mono d e⟩
theorem I0{R:Type}{d:Nat}{D:List bG}{xs:List T}{aU:List Value}{own:List Nat}{K:List AV->aE->Nat->Option R}{res:R}(G:cc=none\/cc=some true)(hs:HS c w h ρ O)(e:uE w w')(y:own.Nodup)(a:∀b∈own,w.heap.size<=b/\b < w'.heap.size)
  (x:cW (λ_=>none) w' (λb=>(c.A0 b\/c.MO b)/\b < w'.heap.size/\b∉own/\∀i,O i≠some b) D xs aU own) (hk:dq [] d cc 0 D xs K=some res):
  ∃f us j,K f us j=some res/\mf d 0 j us/\((∀p∈us,h p.1=none)->∃ρ' O',Le w ρ O w' ρ' O'/\HS c w' (aG h us) ρ' O'/\aw w' (AA c w' O') ρ' f aU):=by
 obtain⟨f,us,j,hk,_,r,H⟩:=r7 (c:=c) G x hk;refine⟨f,us,j,hk,r,λo=> ?_⟩;have F:∀b,AA c w O b->((c.A0 b\/c.MO b)/\b < w'.heap.size/\b∉own/\∀i,O i≠some b)/\w'.heap[b]? =w.heap[b]?:=by intro b hb;refine⟨⟨hb.1,Tc hb.2.1 e.size,λhm=> ?_,hb.2.2⟩,e.af b hb.2.1⟩;have:=(a b hm).1;have:=hb.2.1;omega
 have C:fQ c w' (λb=>(c.A0 b\/c.MO b)/\b < w'.heap.size/\b∉own/\∀i,O i≠some b) h ρ O:=
  ⟨λi b hb=>cr.mono (λn=>⟨rfl,rfl,λb hb=>e.af b (hs.lt _ b hb)⟩) F (λ_ _ h=>h) rfl (λb hb=>e.af b (hs.lt i b hb)) (hs.af i b hb),hs.bS,hs.dc,hs.eO,hs.gone,hs.inj,λi b hb=>Tc (hs.lt i b hb) e.size,hs.own,Sh hs.size e.size⟩
 obtain⟨ρ',O',m,z,q,g⟩:=H h ρ O (by intro k i v hk;simp at hk) C y (λb hb=>⟨(a b hb).2, .inr (Sh hs.size (a b hb).1),λi hi=>by have:=hs.lt i b hi;have:=(a b hb).1;omega⟩) o;have t:∀b,((c.A0 b\/c.MO b)/\b < w'.heap.size/\b∉own/\∀i,O i≠some b)↔AA c w' O' b:=by
  intro b;constructor
  .rintro⟨h1,u,l,E⟩;refine⟨h1,u,λi hi=> ?_⟩;rcases(g b).1 ⟨i,hi⟩ with⟨k,hk⟩ | hk
   .exact E k hk
   .exact l hk
  .rintro⟨h1,u,l⟩;refine⟨h1,u,λhm=> ?_,λi hi=> ?_⟩
   .obtain⟨i,hi⟩:=(g b).2 (.inr hm);exact l i hi
   .obtain⟨k,hk⟩:=(g b).2 (.inl ⟨i,hi⟩);exact l k hk
 refine⟨ρ',O',⟨e.os,e.output,e.tape,e.size,m,λk hk _=>e.af k hk,λi b hi=> ?_⟩,z.I3 t, ?_⟩
 .rcases(g b).1 ⟨i,hi⟩ with hk | hk
  .exact .inl hk
  .exact .inr (a b hk).1
 .exact aw.mono (λb hb=>⟨(t b).1 hb,rfl⟩) (λ_ _ h=>h) _ _ q
theorem qd{d:Type}{a b:List d}{n:Nat}(h:a.length=n):(a++b).drop n=b:=by rw [<-h,Ws]
theorem r8{R:Type}{all:List Id}{d:Nat}:∀{outs:List jd} {V:List Id} {j jj:Nat} {xs:List T} {own:List Nat} {K:aE->Option R} {res:R},nu B w A jj outs xs own->fq all d j V outs xs K=some res->
  ∃us,K us=some res/\(∀p∈us,(∃k,j<=k/\p.1= .s d k)\/p.1∈V)/\
   ∀h ρ O,tL B all ρ->(∀k i,V[k]? =some i->h i=some .dead/\∀v,B (jj+k)=some v->ρ i=some v)->fQ c w A h ρ O->own.Nodup->(∀b∈own,b < w.heap.size/\c.MO b/\∀i,O i≠some b)->V.Nodup->
    (∀i∈V,∀k,i≠ .s d k)->(∀p∈us,∀k,p.1= .s d k->h p.1=none)->
    ∃ρ' O',(∀i u,ρ i=some u->ρ' i=some u)/\fQ c w A (aG h us) ρ' O'/\∀b,(∃i,O' i=some b)↔((∃i,O i=some b)\/b∈own)
 | [],[],j,jj,xs,own,K,res,n,hk=>by obtain⟨rfl,rfl⟩:=n;simp only [fq] at hk;exact⟨[],hk,(by intro p a;cases a),λh ρ O _ _ hs _ _ _ _ _=>⟨ρ,O,λ_ _ h=>h,hs,λb=>by simp⟩⟩
 | [],_::_,j,jj,xs,own,K,res,n,hk=>by simp [fq] at hk
 | r::outs,[],j,jj,xs,own,K,res,n,hk=>by cases r <;> simp [fq] at hk
 | .dead::outs,i::V,j,jj,xs,own,K,res,n,hk=>by
  simp only [fq] at hk;obtain⟨us,hk,q,tk⟩:=r8 (jj:=jj+1) n hk;refine⟨us,hk,λp a=>(q p a).imp id (RM _),λh ρ O I Q hs M f E z o=> ?_⟩;exact tk h ρ O I (λk i hk=>by
   have:=Q (k+1) i (by simpa using hk);rw [show jj+ (k+1)=jj+1+k by omega] at this;exact this) hs M f (SU.1 E).2 (λi hi=>z i (RM _ hi)) o
 | .mp ag ks vk::outs,i::V,j,jj,xs,own,K,res,n,hk=>by
  obtain⟨es,D,ents,clock,x2,o2,rfl,rfl,hB,U,hes,hok,G⟩:=n;obtain⟨ob,hob⟩:∃ob:Option Nat,ob=some D:=⟨_,rfl⟩;rw [show D::o2=ob.toList++o2 by rw [hob];rfl] at *
  simp only [fq,S8,R2,UY] at hk;replace hk:=aI hk (.inl rfl);obtain⟨p,a,hk⟩:=hk;rw [iP] at a;simp only [RJ] at a;subst a;obtain⟨us,hk,q,tk⟩:=r8 (jj:=jj+1) G hk;refine⟨_,hk,λp a=> ?_,λh ρ O I Q hs M f E z o=> ?_⟩
  .rcases RV.1 a with rfl | a
   .exact .inr RL
   .exact(q p a).imp id (RM _)
  obtain⟨n1,n2⟩:=SU.1 E;obtain⟨d1,d2⟩:=Q 0 i rfl;obtain⟨k1,k2,k3⟩:=Tk.1 M;have S:=hs.Bg d1 ob (λb hb=>f b (RY _ (by simp [hb]))) (.mp ag ks vk es) ⟨D,ents,clock,d2 _ (by simpa using hB),by rw [aB,hob],U,hes,hok⟩;have X:O i=none:=(hs.af i _ d1).2;have y:∀b,(∃k,aA O i ob k=some b)↔((∃k,O k=some b)\/b∈ob.toList):=by
   intro b;constructor
   .rintro⟨k,hk⟩;by_cases e:k=i
    .rw [e,aB] at hk;right;simp [hk]
    .rw [al _ _ e] at hk;exact .inl ⟨k,hk⟩
   .rintro(⟨k,hk⟩ | hk)
    .by_cases e:k=i
     .rw [e,X] at hk;cases hk
     .exact⟨k,by rw [al _ _ e];exact hk⟩
    .exact⟨i,by rw [aB];simpa using hk⟩
  have N:∀b∈o2,b < w.heap.size/\c.MO b/\∀k,aA O i ob k≠some b:=by
   intro b hb;obtain⟨J,L,H⟩:=f b (RW _ hb);refine⟨J,L,λi' Y=> ?_⟩;rcases(y b).1 ⟨i',Y⟩ with⟨k,hk⟩ | hk
   .exact H k hk
   .exact k3 b hk b hb rfl
  have F:∀p∈us,∀k,p.1= .s d k->aA h i (some (.mp ag ks vk es)) p.1=none:=by intro p a k e;have C:p.1≠i:=λW=>z i RL k (by rw [<-W,e]);rw [al _ _ C];exact o p (RM _ a) k e
  obtain⟨ρ',O',m,Z,rng⟩:=tk (aA h i (some (.mp ag ks vk es))) ρ (aA O i ob) I (λk i' hk=>by
    have:=Q (k+1) i' (by simpa using hk);rw [show jj+ (k+1)=jj+1+k by omega] at this;refine⟨?_,this.2⟩;have C:i'≠i:=λe=>n1 (by rw [<-e];exact RN hk);rw [al _ _ C];exact this.1) S k2 N n2 (λi hi=>z i (RM _ hi)) F
  refine⟨ρ',O',m,Z,λb=> ?_⟩;rw [rng b,y b,RX,or_assoc]
 | .sl sz::outs,i::V,j,jj,xs,own,K,res,n,hk=>by
  obtain⟨bb,l,x2,ob,v,o2,rfl,rfl,hB,hsl,G⟩:=n;simp only [fq,S8,R2,UY] at hk;replace hk:=aI hk (.inl rfl);obtain⟨p,a,hk⟩:=hk;simp only [T.aM,if_true,RJ] at a;subst a;obtain⟨us,hk,q,tk⟩:=r8 (jj:=jj+1) G hk;refine⟨_,hk,λp a=> ?_,λh ρ O I Q hs M f E z o=> ?_⟩
  .rcases RV.1 a with rfl | a
   .exact .inr RL
   .exact(q p a).imp id (RM _)
  obtain⟨n1,n2⟩:=SU.1 E;obtain⟨d1,d2⟩:=Q 0 i rfl;obtain⟨k1,k2,k3⟩:=Tk.1 M;have S:=hs.Bg d1 ob (λb hb=>f b (RY _ (by simp [hb]))) (.sl false sz bb l) ⟨v,d2 v (by simpa using hB),by simpa using hsl,by simp⟩;have X:O i=none:=(hs.af i _ d1).2;have y:∀b,(∃k,aA O i ob k=some b)↔((∃k,O k=some b)\/b∈ob.toList):=by
   intro b;constructor
   .rintro⟨k,hk⟩;by_cases e:k=i
    .rw [e,aB] at hk;right;simp [hk]
    .rw [al _ _ e] at hk;exact .inl ⟨k,hk⟩
   .rintro(⟨k,hk⟩ | hk)
    .by_cases e:k=i
     .rw [e,X] at hk;cases hk
     .exact⟨k,by rw [al _ _ e];exact hk⟩
    .exact⟨i,by rw [aB];simpa using hk⟩
  have N:∀b∈o2,b < w.heap.size/\c.MO b/\∀k,aA O i ob k≠some b:=by
   intro b hb;obtain⟨J,L,H⟩:=f b (RW _ hb);refine⟨J,L,λi' Y=> ?_⟩;rcases(y b).1 ⟨i',Y⟩ with⟨k,hk⟩ | hk
   .exact H k hk
   .exact k3 b hk b hb rfl
  have F:∀p∈us,∀k,p.1= .s d k->aA h i (some (.sl false sz bb l)) p.1=none:=by intro p a k e;have C:p.1≠i:=λW=>z i RL k (by rw [<-W,e]);rw [al _ _ C];exact o p (RM _ a) k e
  obtain⟨ρ',O',m,Z,rng⟩:=tk (aA h i (some (.sl false sz bb l))) ρ (aA O i ob) I (λk i' hk=>by
    have:=Q (k+1) i' (by simpa using hk);rw [show jj+ (k+1)=jj+1+k by omega] at this;refine⟨?_,this.2⟩;have C:i'≠i:=λe=>n1 (by rw [<-e];exact RN hk);rw [al _ _ C];exact this.1) S k2 N n2 (λi hi=>z i (RM _ hi)) F
  refine⟨ρ',O',m,Z,λb=> ?_⟩;rw [rng b,y b,RX,or_assoc]
 | .box l::outs,i::V,j,jj,xs,own,K,res,n,hk=>by
  obtain⟨x1,x2,D,arr,t,o1,o2,rfl,rfl,hB,U,hL,G⟩:=n;simp only [fq] at hk;obtain⟨av,us1,j1,hk,hj,n1',t1⟩:=vl (c:=c) (ids:=all) (.inl rfl) hL hk;rw [qd hL.length] at hk;obtain⟨us2,hk,q,tk⟩:=r8 (jj:=jj+1) G hk;refine⟨_,hk,λp a=> ?_,λh ρ O I Q hs M f E z o=> ?_⟩
  .rcases RX.1 a with a | a
   .obtain⟨k,J,L,H⟩:=n1' p a;exact .inl ⟨k,J,H⟩
   .rcases RV.1 a with rfl | a
    .exact .inr RL
    .rcases q p a with⟨k,J,L⟩ | g
     .exact .inl ⟨k,by omega,L⟩
     .exact .inr (RM _ g)
  obtain⟨n1,n2⟩:=SU.1 E;obtain⟨d1,d2⟩:=Q 0 i rfl;obtain⟨q1,q2⟩:=SU.1 M;obtain⟨k1,k2,k3⟩:=Tk.1 q2;have not1:∀x,(∀k,x≠ .s d k)->aG h us1 x=h x:=λx hx=>df λp a e=>by obtain⟨k,_,_,H⟩:=n1' p a;exact hx k (by rw [<-e,H])
  obtain⟨ρ1,O1,m1,S,v1,y⟩:=t1 h ρ O I hs k1 (λb hb=>f b (RM _ (RY _ hb))) (λp a=>by
   obtain⟨k,_,_,H⟩:=n1' p a;exact o p (RY _ a) k H)
  have hdi:aG h us1 i=some .dead:=by rw [not1 i (z i RL)];exact d1
  have fresh0:∀k,O1 k≠some D:=by
   intro k hk;rcases(y D).1 ⟨k,hk⟩ with⟨k',hk'⟩ | hk'
   .exact(f D RL).2.2 k' hk'
   .exact q1 (RY _ hk')
  have hs2:=S.Bg hdi (some D) (λb hb=>by
   simp only [RJ] at hb;subst hb;obtain⟨J,L,_⟩:=f D RL;exact⟨J,L,fresh0⟩) (.box av) ⟨D,arr,t,m1 _ _ (d2 _ (by simpa using hB)),aB _ _ _,U,v1,hL.one⟩
  have X:O1 i=none:=(S.af i _ hdi).2;have rng2:∀b,(∃k,aA O1 i (some D) k=some b)↔((∃k,O k=some b)\/b∈D::o1):=by
   intro b;constructor
   .rintro⟨k,hk⟩;by_cases e:k=i
    .rw [e,aB] at hk;cases hk;exact .inr RL
    .rw [al _ _ e] at hk;rcases(y b).1 ⟨k,hk⟩ with g | g
     .exact .inl g
     .exact .inr (RM _ g)
   .intro hk;have lift:(∃k,O1 k=some b)->∃k,aA O1 i (some D) k=some b:=by
     rintro⟨k,hk⟩;by_cases e:k=i
     .rw [e,X] at hk;cases hk
     .exact⟨k,by rw [al _ _ e];exact hk⟩
    rcases hk with hk | hk
    .exact lift ((y b).2 (.inl hk))
    .rcases RV.1 hk with rfl | hk
     .exact⟨i,aB _ _ _⟩
     .exact lift ((y b).2 (.inr hk))
  have N:∀b∈o2,b < w.heap.size/\c.MO b/\∀k,aA O1 i (some D) k≠some b:=by
   intro b hb;obtain⟨J,L,H⟩:=f b (RM _ (RW _ hb));refine⟨J,L,λi' Y=> ?_⟩;rcases(rng2 b).1 ⟨i',Y⟩ with⟨k,hk⟩ | hk
   .exact H k hk
   .rcases RV.1 hk with rfl | hk
    .exact q1 (RW _ hb)
    .exact k3 b hk b hb rfl
  have F:∀p∈us2,∀k,p.1= .s d k->aA (aG h us1) i (some (.box av)) p.1=none:=by
   intro p a k e;have C:p.1≠i:=λW=>z i RL k (by rw [<-W,e]);rw [al _ _ C];rw [df (λp' hp' W=> ?_)]
   .exact o p (RW _ (RM _ a)) k e
   .obtain⟨k',J,L,H⟩:=n1' p' hp';rcases q p a with⟨k'',g4,g5⟩ | g
    .rw [H,g5] at W;simp only [Id.s.injEq] at W;omega
    .exact z p.1 (RM _ g) k e
  obtain⟨ρ',O',m,Z,rng⟩:=tk (aA (aG h us1) i (some (.box av))) ρ1 (aA O1 i (some D)) (λk i v e1 e2=>m1 i v (I k i v e1 e2)) (λk i' hk=>by
    have hm:=RN hk;have:=Q (k+1) i' (by simpa using hk);rw [show jj+ (k+1)=jj+1+k by omega] at this;refine⟨?_,λv hv=>m1 _ _ (this.2 v hv)⟩;have C:i'≠i:=λe=>n1 (by rw [<-e];exact hm);rw [al _ _ C,not1 i' (z i' (RM _ hm))];exact this.1) hs2 k2 N n2 (λi hi=>z i (RM _ hi)) F
  refine⟨ρ',O',λi u hi=>m i u (m1 i u hi),by rw [lp,cw];exact Z,λb=> ?_⟩;rw [rng b,rng2 b,RV,RV,RX];simp only [or_assoc]
theorem C2{eQ:List Id}(hs:HS c w h ρ O):∀{fl:List Bool} {vs:List AV} {us:List Value} {q:List AV×aE},aw w (AA c w O) ρ vs us->lG h eQ fl vs=some q->
  fP h q.2/\∀O',Le w ρ O w ρ O'->(∀i,O' i=O i\/O' i=none)->(∀p∈q.2,O' p.1=none)->aw w (AA c w O') ρ q.1 us
 | fl,[],us,q,hv,d=>by simp only [aw] at hv;subst hv;simp only [lG,RJ] at d;subst d;exact⟨(by intro p a;cases a),λ_ _ _ _=>by simp [aw]⟩
 | fl,v::vs,us,q,hv,d=>by
  simp only [aw] at hv;obtain⟨u,r,rfl,h1,n⟩:=hv;simp only [lG] at d;obtain⟨p,a,d⟩:=RK.1 d;obtain⟨t,k,d⟩:=RK.1 d;simp only [RJ] at d;subst d;obtain⟨l,m⟩:=C2 hs n k;have one:fP h p.2/\∀O',Le w ρ O w ρ O'->(∀i,O' i=O i\/O' i=none)->(∀x∈p.2,O' x.1=none)->ai w (AA c w O') ρ p.1 u:=by
   unfold rS at a;cases e:(fl.headD false || (!v.ids.isEmpty && v.ids.all eQ.contains)) with
   | true=>rw [e] at a;simp only [cond_true,RJ] at a;subst a;exact⟨(by intro p a;cases a),λO' le _ _=>ai.mono (λb hb=>le.A b hb) (λ_ _ h=>h) _ _ h1⟩
   | false=>rw [e] at a;simp only [cond_false] at a;obtain⟨o,k2⟩:=(C4 hs h1 a).2 rfl;exact⟨o,λO' le f g=>ai.mono (λb hb=>⟨hb,rfl⟩) (by intro i v h;cases h) _ _ (k2 O' le f g)⟩
  refine⟨one.1.append l,λO' le f g=> ?_⟩;simp only [aw];exact⟨u,r,rfl,one.2 O' le f (λx j=>g x (RY _ j)),m O' le f (λx j=>g x (RW _ j))⟩
theorem cW.length:∀{d:List bG} {xs:List T} {vs:List Value} {own:List Nat},cW B w A d xs vs own->xs.length=l6 d
 | [],_,_,_,⟨rfl,_,_⟩=>rfl
 | r::d,xs,vs,own,h=>by
  cases r with
  | agg l=>obtain⟨g,x2,m,b,o1,e,rfl,rfl,rfl,h1,a⟩:=h;simp [l6,bG.size,h1.length,cW.length a]
  | new l=>obtain⟨g,x2,k,arr,ty,b,o1,e,rfl,rfl,rfl,i,h1,a⟩:=h;simp [l6,bG.size,h1.length,cW.length a]
  | _=>obtain⟨x,j,v,b,ob,f,rfl,rfl,rfl,h1,a⟩:=h;simp [l6,bG.size,cW.length a];omega
theorem KL{R:Type}{d:Nat}:∀{m:List bG} {e x2:List T} {j:Nat} {vs:List Value} {own:List Nat} {K:List AV->aE->Nat->Option R},cW B w A m e vs own->
  dq ids d cc j m (e++x2) K=dq ids d cc j m e K:=by
 have one:∀{l:List bG} {e x2:List T} {j:Nat} {vs:List Value} {own:List Nat} {K:List AV->aE->Nat->Option R},eL B w A l e vs own->jk ids d cc j l (e++x2) K=jk ids d cc j l e K:=by
  intro l;induction l with
  | nil=>intro e x2 j vs own K h;rfl
  | cons r l p=>intro e x2 j vs own K h;obtain⟨x,o,v,g,ob,i,rfl,rfl,rfl,h1,n⟩:=h;simp only [jk,RU,S8,UY];congr 1;funext y;congr 1;funext v u j;exact p n
 intro m;induction m with
 | nil=>intro e x2 j vs own K h;rfl
 | cons r m p=>
  intro e x2 j vs own K h
  have a:(∃x o v g ob i,e=x::o/\vs=v::g/\own=ob++i/\je B w A r x v ob/\cW B w A m o g i)->
    (aa cc (e++x2).head? λx=>lN ids d cc j r x λv u j=>dq ids d cc j m (e++x2).tail λvs us j=>K (v::vs) (u++us) j)=
    aa cc e.head? λx=>lN ids d cc j r x λv u j=>dq ids d cc j m e.tail λvs us j=>K (v::vs) (u++us) j:=by
   rintro⟨x,o,v,g,ob,i,rfl,rfl,rfl,h1,n⟩;simp only [RU,S8,UY];congr 1;funext y;congr 1;funext v u j;exact p n
  cases r with
  | agg l=>obtain⟨C,q,F,g,o1,z,rfl,rfl,rfl,h1,n⟩:=h;simp only [dq];have hl:=h1.length;rw [Sj,one h1,one (x2:=q) h1];congr 1;funext v u j;rw [qd hl,qd hl];exact p n
  | f k=>exact a h
  | t k=>exact a h
  | own sz=>exact a h
  | rows sz ax rsz=>exact a h
  | mp ag ks vk=>exact a h
  | new l=>
   obtain⟨C,q,E,arr,ty,g,o1,z,rfl,rfl,rfl,D,h1,n⟩:=h;have hl:=h1.length;cases cc with
   | some b=>simp only [dq]
   | none=>
   simp only [dq];rw [Sj,one h1,one (x2:=q) h1];congr 1;funext v u j;rw [qd hl,qd hl];exact p n
  | ref k off=>exact a h
  | same k=>exact a h
  | no=>exact a h
theorem vg{l:List Id}{h:Id->Option ab}{i:Id}(hi:i∈l):aG h (ji l) i=some .dead:=by
 induction l generalizing h with
 | nil=>cases hi
 | cons j l b=>
  show aG (aA h j (some .dead)) (ji l) i=some .dead;by_cases hm:i∈l
  .exact b hm
  .have:i=j:=by
    rcases RV.1 hi with h | h
    .exact h
    .exact(hm h).elim
   subst this;rw [df (λp a e=> ?_),aB];obtain⟨k,hk,rfl⟩:=Si.1 a;exact hm (e▸hk)
theorem r6{l:List Id}{h:Id->Option ab}{i:Id}(hi:i∉l):aG h (ji l) i=h i:=by refine df λp a e=> ?_;obtain⟨k,hk,rfl⟩:=Si.1 a;exact hi (e▸hk)
theorem Oo{d:Nat}{l:List Id}(h:wQ d l=true):∀i∈l,∀k,i≠ .s d k:=by intro i hi k e;have:=R7.1 h i hi;subst e;simp at this
theorem Ds{R:Type}{An:bZ}{Or:az}(hO:iJ P An Or){d:Nat}{f:FuncId}{args:List AV}{aU:List Value}{K:AV->aE->Option R}{r:R}(hc:cc=none\/cc=some true)(hs:HS c w s.h ρ O)(hv:aw w (AA c w O) ρ args aU)
  (hk:fR P An Or s d cc f args K=some r):
  ∃v us fn I,K v us=some r/\P.funcs[f]? =some fn/\fn.body=some I/\fn.name≠ "runtime.NumGoroutine" /\
   (iu d s.h us=true->Calls P f aU.toArray w λe w'=>∃x,e= .returned x/\∃ρ' O',Le w ρ O w' ρ' O'/\HS c w' (aG s.h us) ρ' O'/\ai w' (AA c w' O') ρ' v x):=by
 unfold fR at hk;split at hk
 .simp at hk
 rename_i fn hfn;split at hk
 .rename_i hbref;replace hk:=RK.1 hk;obtain⟨p,hp,hk⟩:=hk;obtain⟨pt,hk,V⟩:=xP hc hk;replace hk:=aI hk (.inl rfl);obtain⟨xs,hxs,hk⟩:=hk;replace hxs:Or (.call f) pt []=some xs:=by rcases hc with rfl | rfl <;> exact hxs
  obtain⟨fn',I,N,Q,T,o⟩:=hO f pt [] xs hxs;rw [hfn] at N;simp only [RJ] at N;subst N;have o:=o.values hbref;have ok:=C6 hs hv hp;rw [show dq [] d cc 0 (cF P An f 0 fn) xs (λvs u _=>K (kY vs) (p.2++u))= (dq [] d cc 0 (cF P An f 0 fn) xs (λvs u j=>some (vs,u,j))).bind (λq=>K (kY q.1) (p.2++q.2.1)) from by rw [oS];rfl] at hk;replace hk:=RK.1 hk;obtain⟨q,hq,hk⟩:=hk;refine⟨_,_,fn,I,hk,hfn,Q,T,λS=> ?_⟩;have Y:∀k,(∃b,(Id.s d k,b)∈q.2.1)->s.h (.s d k)=none:=by rintro k ⟨b,hb⟩;have:=R7.1 S _ (RW _ hb);simpa using this
  cases hfl:(cF P An f 0 fn).all qq with
  | true=>
   obtain⟨hp2,J⟩:=ok.1 hfl;refine(o _ w aU (λb hb=>hb) (V _ _ _ _ J)).mono λe w' U=> ?_;obtain⟨rs,own,rfl,G,hnd,t,hr⟩:=U;obtain⟨hr,rfl⟩:=hr.flat (A':=λb=>(c.A0 b\/c.MO b)/\b < w'.heap.size/\b∉([]:List Nat)/\∀i,O i≠some b) hfl;obtain⟨avs,us,j,hq',W,tk⟩:=I0 hc hs G hnd t hr hq;simp only [RJ] at hq';subst hq';obtain⟨ρ',O',le,hs',hv'⟩:=tk (λp hp=>by
    obtain⟨k,_,_,e⟩:=W p hp;rw [e];exact Y k ⟨p.2,by rw [<-e];exact hp⟩)
   refine⟨_,rfl,ρ',O',le, ?_,Bc hv'⟩;rw [hp2];exact hs'
  | false=>
   obtain⟨Z,J⟩:=ok.2 hfl;obtain⟨O1,cn,hs1,hO1,hf1,_⟩:=hs.qy Z;refine(o _ w aU (λb hb=>hb.2.1) (V _ _ _ _ (J O1 cn hO1 hf1))).mono λe w' U=> ?_;obtain⟨rs,own,rfl,G,hnd,t,hr⟩:=U;have hr:=hr.mono (A':=λb=>(c.A0 b\/c.MO b)/\b < w'.heap.size/\b∉own/\∀i,O1 i≠some b) (by
    rintro b ⟨h1 | h1,z,h3⟩
    .exact⟨h1.1,z,h3,h1.2.2⟩
    .exact⟨.inr (.inr (Sh hs.size h1)),z,h3,λi hi=>by have:=hs1.lt i b hi;omega⟩)
   obtain⟨avs,us,j,hq',W,tk⟩:=I0 hc hs1 G hnd t hr hq;simp only [RJ] at hq';subst hq';obtain⟨ρ',O',le,hs',hv'⟩:=tk (λp' hp'=>by
    obtain⟨k,_,_,e⟩:=W p' hp';have hn:=Y k ⟨p'.2,by rw [<-e];exact hp'⟩;rw [df (λx C ex=> ?_),e]
    .exact hn
    .have z:=Z x C;rw [ex,e,hn] at z;rcases z with⟨sz,b,l,_,z⟩ | ⟨l,_,z⟩ <;> simp at z)
   exact⟨_,rfl,ρ',O',cn.trans le,by rw [lp];exact hs',Bc hv'⟩
 .rename_i fl hbref;cases cc with
  | some b=>simp at hk
  | none=>
  dsimp only at hk;replace hk:=RK.1 hk;obtain⟨p,hp,hk⟩:=hk;replace hk:=RK.1 hk;obtain⟨us,hus,hk⟩:=hk;replace hk:=RK.1 hk;obtain⟨seen,hseen,hk⟩:=hk;generalize hn0:gD ((bI p.1).head?.bind (aG s.h p.2))=n0 at hk hus;cases H:(wQ d seen && Nat.beq (gD (seen.map λi=>gx seen (aG (aG s.h p.2) us i)).head?) n0) with
  | false=>rw [H] at hk;simp at hk
  | true=>
  rw [H,cond_true] at hk;simp only [RQ] at H;obtain⟨hnot,hd0⟩:=H;replace hd0:=Nat.eq_of_beq_eq_true hd0;have hns:=Oo hnot;obtain⟨pt,hk,V⟩:=xP (.inl rfl) hk;replace hk:=aI hk (.inl rfl);obtain⟨xs,hxs,hk⟩:=hk;obtain⟨fn',I,N,Q,T,o⟩:=hO f pt _ xs hxs;rw [hfn] at N;simp only [RJ] at N;subst N;obtain⟨Z,J⟩:=C2 hs hv hp;obtain⟨O1,cn,hs1,hO1,hf1,_⟩:=hs.qy Z;have hv1:=J O1 cn hO1 hf1;obtain⟨ρ2,F,le2,a⟩:=AX hs1 hus;have hv2:=aw.mono (λb hb=>le2.A b hb) le2.dL _ _ hv1;obtain⟨g1,_,g3,g4,g5⟩:=sZ hseen Vo (by simp) (by simp);let c':Ctx:={A0:=AA c w F,M:=λb=>∃i,Of seen i/\F i=some b,N0:=w.heap.size};have hA3:∀b,AA c w F b->AA c' w (bQ seen F) b:=λb hb=>⟨.inl hb,hb.2.1,λi hi=>by
   obtain⟨k,_,hk⟩:=s9 ⟨i,hi⟩;exact hb.2.2 k hk⟩
  have hs3:=a.HV (c':=c') g1 g4 g5 hA3 (λb hb=> .inl (s9 hb)) (R3 _);have hv3:=V _ _ _ _ (aw.rn (m:=seen) hA3 _ _ (λi hi=>g3 i hi) hv2);have o:=o c' w _ _ aU rfl hs3 hv3;rw [hd0] at o;obtain⟨blks,hblks⟩:∃blks,blks=seen.map λi=>gx seen (aG (aG s.h p.2) us i):=⟨_,rfl⟩;obtain⟨z,hh2⟩:∃z,z=aG (aG s.h p.2) us:=⟨_,rfl⟩;rw [<-hblks] at o;rw [<-hh2] at a g4 g5;rw [show(dq seen d none 0 (cF P An f n0 fn) xs λvs u j=>fq seen d j seen (gw An f n0) (xs.drop (l6 (cF P An f n0 fn))) λq=>K (kY vs) (p.2++us++ji seen++u++q))=
   ((dq seen d none 0 (cF P An f n0 fn) xs λvs u j=>some (vs,u,j)).bind λq0=>(fq seen d q0.2.2 seen (gw An f n0) (xs.drop (l6 (cF P An f n0 fn))) some).bind λq=>K (kY q0.1) (p.2++us++ji seen++q0.2.1++q)) from by
    rw [oS];congr 1;funext vs u j;simp only [R2];rw [vo];rfl] at hk
  replace hk:=RK.1 hk;obtain⟨⟨avs,u0,j0⟩,hq0,hk⟩:=hk;replace hk:=RK.1 hk;obtain⟨qs,hqs,hk⟩:=hk;dsimp only at hqs hk;refine⟨_,_,fn,I,hk,hfn,Q,T,λS=> ?_⟩;refine o.mono ?_;rintro e w' ⟨rs,x1,x2,o1,o2,rfl,G,rfl,hnd,t,hr,ho⟩;refine⟨_,rfl, ?_⟩;rw [qd hr.length] at hqs;rw [KL hr] at hq0;obtain⟨n1,n2,n3⟩:=Tk.1 hnd;have inMO:∀b,c'.MO b->c.MO b:=by
   rintro b (⟨i,_,hi⟩ | hb)
   .exact a.own i b hi
   .exact .inr (Sh a.size hb)
  have eQ:∀b,b < w.heap.size->(∀i,Of seen i->F i≠some b)->w'.heap[b]? =w.heap[b]?:=λb hb hn=>G.af b hb λho=>by obtain⟨k,hk,e⟩:=s9 ho;exact hn k hk e
  have out:∀b∈o1++o2,∀i,¬Of seen i->F i≠some b:=by
   intro b hb i hi e;rcases(t b hb).1 with⟨k,hk,hkb⟩ | hN
   .exact hi (a.inj k i b hkb e▸hk)
   .have:=a.lt i b e;exact absurd hN (Wa this)
  let A1:Nat->Prop:=λb=>(c'.A0 b\/c'.MO b)/\b < w'.heap.size/\b∉o1++o2
  classical
  let X:Id->Option Nat:=λi=>if Of seen i then none else F i;have hreal:∀i∈seen,i.real=true:=λi hi=>a.real (g4 i hi);have hofr:∀{i:Id},i.real=true->Of seen i->i∈seen:=by
   rintro i hr (hi | ⟨j,n,_,rfl⟩)
   .exact hi
   .cases hr
  have hofg:∀{i:Id} {n:Nat},Of seen (.g i n)->i∈seen:=by
   rintro i n (hi | ⟨j,m,hj,e⟩)
   .have:=hreal _ hi;cases this
   .cases e;exact hj
  have E:∀i b,X i=some b->¬Of seen i/\F i=some b:=by
   intro i b h;simp only [X] at h;split at h
   .cases h
   .rename_i hi;exact⟨hi,h⟩
  have hA4:∀b,AA c w F b->A1 b/\w'.heap[b]? =w.heap[b]?:=by
   intro b hb;refine⟨⟨.inl hb,Tc hb.2.1 G.size,λhm=> ?_⟩,eQ b hb.2.1 λi _=>hb.2.2 i⟩;rcases(t b hm).1 with⟨k,_,hkb⟩ | hN
   .exact hb.2.2 k hkb
   .exact absurd hN (Wa hb.2.1)
  have hsa:fQ c w' A1 (aG z (ji seen)) ρ2 X:=by
   refine⟨λi x C=> ?_,λi hir hi=> ?_,λi n=> ?_,λi n hi=> ?_,a.gone,λi j b hi hj=> ?_,λi b hi=> ?_,λi b hi=> ?_,Sh a.size G.size⟩
   .by_cases hm:i∈seen
    .rw [vg hm] at C;cases C;obtain⟨y,hy⟩:=U8.1 (g4 i hm);exact⟨a.IN hy,if_pos (.inl hm)⟩
    .rw [r6 hm] at C;have hm':¬Of seen i:=λe=>hm (hofr (a.real (by rw [C];simp)) e);have hmg:∀n,¬Of seen (.g i n):=λn e=>hm (hofg e);refine cr.mono (λn=>⟨rfl,if_neg (hmg n),λb hb=>eQ b (a.lt _ b hb) λk hk e=>hmg n (a.inj k _ b e hb▸hk)⟩) hA4 (λ_ _ h=>h) (if_neg hm') (λb hb=>eQ b (a.lt i b hb) λk hk e=> ?_) (a.af i x C);exact hm' (a.inj k i b e hb▸hk)
   .by_cases hm:i∈seen
    .rw [vg hm] at hi;cases hi
    .rw [r6 hm] at hi;obtain⟨D,a2⟩:=a.bS i hir hi;exact⟨D,by rw [show X i=F i from if_neg λe=>hm (hofr hir e)];exact a2⟩
   .rw [r6 λhm=>by have:=hreal _ hm;cases this];exact a.dc i n
   .by_cases hm:i∈seen
    .rw [vg hm] at hi;cases hi
    .rw [r6 hm] at hi;obtain⟨D,a2⟩:=a.eO i n hi;exact⟨D,by rw [show X (.g i n)=F (.g i n) from if_neg λe=>hm (hofg e)];exact a2⟩
   .exact a.inj i j b (E i b hi).2 (E j b hj).2
   .exact Tc (a.lt i b (E i b hi).2) G.size
   .exact a.own i b (E i b hi).2
  have hbr:tL (nJ blks.length (bQ seen ρ2)) seen ρ2:=by
   intro k i v hk hB;simp only [nJ] at hB;split at hB
   .simpa [bQ,hk] using hB
   .cases hB
  have hnew:∀k,(∃b,(Id.s d k,b)∈u0\/(Id.s d k,b)∈qs)->s.h (.s d k)=none:=by
   rintro k ⟨b,hb⟩;have hm:(Id.s d k,b)∈p.2++us++ji seen++u0++qs:=by
    rcases hb with hb | hb
    .exact RY _ (RW _ hb)
    .exact RW _ hb
   have:=R7.1 S _ hm;simpa using this
  have hnone:∀k,s.h (.s d k)=none->aG z (ji seen) (.s d k)=none:=by
   intro k hk;rw [r6 λhm=>hns _ hm k rfl,hh2];refine HF (λk' e=> ?_) hus ?_
   .simp only [Id.s.injEq] at e;omega
   .rw [df λx C ex=> ?_]
    .exact hk
    .have z:=Z x C;rw [ex,hk] at z;rcases z with⟨sz,b,l,_,z⟩ | ⟨l,_,z⟩ <;> simp at z
  obtain⟨avs',u0',j0',hq0',_,L,tk0⟩:=r7 (c:=c) (ids:=seen) (.inl rfl) hr hq0;simp only [RJ,SA] at hq0';obtain⟨rfl,rfl,rfl⟩:=hq0';obtain⟨ρ3,O3,m3,hs4,v3,rng3⟩:=tk0 _ ρ2 X hbr hsa n1 (λb hb=>⟨(t b (RY _ hb)).2,inMO b (t b (RY _ hb)).1,λi hi=>out b (RY _ hb) i (E i b hi).1 (E i b hi).2⟩)
   (λx C=>by
    obtain⟨k,_,_,e⟩:=L x C;rw [e];exact hnone k (hnew k ⟨x.2, .inl (by rw [<-e];exact C)⟩))
  obtain⟨qs',hqs',names1,tk1⟩:=r8 (c:=c) ho hqs;simp only [RJ] at hqs';subst hqs';have notin0:∀x,(∀k,x≠ .s d k)->aG (aG z (ji seen)) u0' x=aG z (ji seen) x:=λx C=>df λy hy e=>by obtain⟨k,_,_,g⟩:=L y hy;exact C k (by rw [<-e,g])
  obtain⟨ρ4,O4,m4,hs5,rng4⟩:=tk1 _ ρ3 O3 (λk i v N e2=>m3 i v (hbr k i v N e2)) (λk i hk=>by
    have hm:=RN hk;refine⟨by rw [notin0 i (hns i hm),vg hm],λv hv=> ?_⟩;rw [Sn] at hv;exact m3 i v (hbr k i v hk hv)) hs4 n2 (λb hb=>⟨(t b (RW _ hb)).2,inMO b (t b (RW _ hb)).1,λi hi=>by
    rcases(rng3 b).1 ⟨i,hi⟩ with⟨k,hk⟩ | hk
    .exact out b (RW _ hb) k (E k b hk).1 (E k b hk).2
    .exact n3 b hk b hb rfl⟩) g1 (λi hi k=>hns i hi k) (λx C k e=>by
    rw [df (λy hy ey=> ?_),e]
    .exact hnone k (hnew k ⟨x.2, .inr (by rw [<-e];exact C)⟩)
    .obtain⟨k',_,g2,g⟩:=L y hy;rcases names1 x C with⟨k'',g6,g7⟩ | g6
     .rw [g,g7] at ey;simp only [Id.s.injEq] at ey;omega
     .exact hns _ g6 k e)
  have rng:∀b,(∃i,O4 i=some b)↔(∃i,X i=some b)\/b∈o1++o2:=by intro b;rw [rng4 b,rng3 b,RX,or_assoc]
  have hAA:∀b,A1 b↔AA c w' O4 b:=by
   intro b;constructor
   .rintro⟨D,a2,a3⟩;refine⟨?_,a2,λi hi=> ?_⟩
    .rcases D with D | D
     .exact D.1
     .exact .inr (inMO b D)
    .rcases(rng b).1 ⟨i,hi⟩ with⟨k,hk⟩ | hk
     .obtain⟨k1,k2⟩:=E k b hk;rcases D with D | ⟨k',hk',e⟩ | D
      .exact D.2.2 k k2
      .exact k1 (a.inj k' k b e k2▸hk')
      .exact absurd D (Wa (a.lt k b k2))
     .exact a3 hk
   .rintro⟨D,a2,a3⟩;refine⟨?_,a2,λhm=> ?_⟩
    .by_cases hb:b < w.heap.size
     .by_cases hex:∃i,F i=some b
      .obtain⟨i,hi⟩:=hex;by_cases hm:Of seen i
       .exact .inr (.inl ⟨i,hm,hi⟩)
       .obtain⟨k,hk⟩:=(rng b).2 (.inl ⟨i,by simp only [X,if_neg hm];exact hi⟩);exact(a3 k hk).elim
      .exact .inl ⟨D,hb,λi hi=>hex ⟨i,hi⟩⟩
     .exact .inr (.inr (UH hb))
    .obtain⟨k,hk⟩:=(rng b).2 (.inr hm);exact a3 k hk
  have le3:Le w ρ2 F w' ρ4 O4:=by
   refine⟨G.os,G.output,G.tape,G.size,λi v hi=>m4 i v (m3 i v hi),λb hb hn=>eQ b hb λi _=>hn i,λi b hi=> ?_⟩;rcases(rng b).1 ⟨i,hi⟩ with⟨k,hk⟩ | hk
   .exact .inl ⟨k,(E k b hk).2⟩
   .rcases(t b hk).1 with⟨k,_,hkb⟩ | hN
    .exact .inl ⟨k,hkb⟩
    .exact .inr hN
  refine⟨ρ4,O4,cn.trans (le2.trans le3), ?_,Bc (aw.mono (λb hb=>⟨(hAA b).1 hb,rfl⟩) m4 _ _ v3)⟩;have:=hs5.I3 hAA;rw [hh2] at this;simp only [lp];exact this
end
open Go
section
variable {P:Program} {w w':World} {A A':Nat->Prop} {c:Ctx} {ρ ρ':Id->Option Value} {O O':Id->Option Nat} {s:St} {cc:Option Bool} {h:Id->Option ab}
theorem cr.Iv{i:Id}{b:Bool}{sz ax rsz nx k:Nat}{es:List Row}{e:Row}(hb:cr w A ρ O i (.rows b sz ax rsz nx es))(hk:es[k]? =some e)(q:Option (Bool×List (List T)))(F:∀d,A d->A' d)
  (C:ρ' i=ρ i) (x:∀n,ρ' (.g i n)=ρ (.g i n)) (H:O' i=O i) (G:∀m,m≠e.n->O' (.g i m)=O (.g i m))
  (K:match q with | some p=>∀v,ρ (.g i e.n)=some v->cg w A' rsz p.1 p.2 v (λd=>O' (.g i e.n)=some d) | none=>O' (.g i e.n)=none):
  cr w A' ρ' O' i (.rows b sz ax rsz nx (es.set k {e with own:=q})):=by
 obtain⟨a,cap,r1,r2,r3,⟨L,M,n3,n4⟩,D⟩:=hb;have o:(es.set k {e with own:=q}).length=es.length:=by simp
 have r:(es.set k {e with own:=q}).map (·.n)=es.map (·.n):=by
  rw [Uk];refine T7 λm=> ?_;rw [SW];split
  .rename_i h;subst h;have:=(RS.1 hk).1;rw [if_pos (by simpa using this)];simp [hk]
  .rfl
 refine⟨a,cap,by rw [o,C];exact r1,by rw [o];exact r2,r3,⟨by rw [r];exact L,λf j=> ?_,λm hm=>by rw [x];exact n3 m hm,λm d I=> ?_⟩, ?_⟩
 .rcases Su j with j | rfl
  .exact M f j
  .exact M e (RN hk)
 .have J:∃f∈es,f.n=m:=by
   by_cases hm:m=e.n
   .exact⟨e,RN hk,hm.symm⟩
   .rw [G m hm] at I;exact n4 m d I
  obtain⟨f,j,l⟩:=J;have:m∈(es.set k {e with own:=q}).map (·.n):=by rw [r];exact Si.2 ⟨f,j,l⟩
  obtain⟨W,h1,Z⟩:=Si.1 this;exact⟨W,h1,Z⟩
 .rcases D with D | ⟨af,off,arr,t,q1,q2,q3,q4,N⟩
  .exact .inl D
  .refine .inr ⟨af,off,arr,t,q1,by rw [H];exact q2,q3,q4, ?_⟩;have z:=N.get hk;refine bO.set (λb hb=>⟨F b hb,rfl⟩) (RS.1 hk).1 (λ_ _ _ _=>rfl) (λm f hm j=> ?_) ?_ N
   .have l:f.n≠e.n:=λh=>hm (sM L j hk h);exact⟨x _,G _ l,λ_ _=>rfl⟩
   .obtain⟨R,S,U,u,V,E,a7⟩:=z;refine⟨R,S,λm y hm hy=> ?_,u,V,by rw [x];exact E, ?_⟩
    .obtain⟨Q,X,Y⟩:=U m y hm hy;exact⟨Q,X,au.mono (λb hb=>⟨F b hb,rfl⟩) y Q Y⟩
    .cases q with
     | none=>exact K
     | some p=>exact K u E
theorem Hd{n:Nat}:∀{es:List Row} {u:Unit},kR n es=some u->∃k e,es[k]? =some e/\e.n=n/\e.own=none/\∀q,cN n q es=es.set k {e with own:=q}
 | [],_,h=>by simp [kR] at h
 | e::es,u,h=>by
  unfold kR at h;by_cases c:e.n=n
  .rw [if_pos c] at h;split at h
   .rename_i g;exact⟨0,e,rfl,c,g,λq=>by simp [cN,c]⟩
   .cases h
  .rw [if_neg c] at h;obtain⟨k,f,h1,a,b,d⟩:=Hd h;exact⟨k+1,f,by simpa using h1,a,b,λq=>by simp [cN,c,d q]⟩
theorem HS.gE{i new:Id}{b:Bool}{sz ax rsz nx n:Nat}{es:List Row}{p:Bool×List (List T)}{v:Value}(hs:HS c w h ρ O)(hi:h i=some (.rows b sz ax rsz nx es))(F:bq n es=some p)(hv:ρ (.g i n)=some v)
  (r:h new=none) (hrl:new.real=true):
  ∃O',Le w ρ O w (aA ρ new (some v)) O'/\HS c w (aA (aA h i (some (.rows b sz ax rsz nx (cN n none es)))) new (some (.sl false rsz p.1 p.2))) (aA ρ new (some v)) O':=by
 have z:=hs.real (i:=i) (by rw [hi];simp);have S:i≠new:=λe=>by rw [e,r] at hi;cases hi
 obtain⟨k,e,hk,t,R,D⟩:=vQ F;obtain⟨V,s1,N⟩:=xg (s:=⟨λ_=>(none, .top),h⟩) hs hi F;rw [hv] at s1;cases s1;let Q:Id->Option Nat:=λx=>if x=new then O (.g i n) else if x= .g i n then none else O x;have K:Q new=O (.g i n):=by simp only [Q,if_true]
 have L:Q (.g i n)=none:=by simp only [Q,if_neg (aJ hrl),if_true]
 have l:∀x,x≠new->x≠ .g i n->Q x=O x:=λx h1 f=>by simp only [Q,if_neg h1,if_neg f]
 have j:∀x d,Q x=some d->(x=new/\O (.g i n)=some d)\/(x≠new/\x≠ .g i n/\O x=some d):=by
  intro x d a;simp only [Q] at a;split at a
  .exact .inl ⟨by assumption,a⟩
  .split at a
   .cases a
   .exact .inr ⟨by assumption,by assumption,a⟩
 obtain⟨M,U⟩:=hs.bS new hrl r;have le:Le w ρ O w (aA ρ new (some v)) Q:=⟨rfl,rfl,rfl,R3 _,λx u a=>by
  by_cases e:x=new
  .subst e;rw [M] at a;cases a
  .rw [al _ _ e];exact a,λ_ _ _=>rfl,λx d a=>by
  rcases j x d a with⟨_,h⟩ | ⟨_,_,h⟩
  .exact .inl ⟨_,h⟩
  .exact .inl ⟨_,h⟩⟩
 refine⟨Q,le,hs.nH le (λx y a=> ?_) (λx hr a=> ?_) (λx m=>by rw [al _ _ (aJ hrl),al _ _ (aJ z)];exact hs.dc x m) (λx m a=> ?_) (λx m u H=>by rw [al _ _ (aJ hrl)] at H;exact hs.gone x m u H) (λx y d a hy=> ?_) (λx d a=> ?_)⟩
 .by_cases o:x=new
  .subst o;rw [aB] at a;cases a;right;refine⟨v,aB _ _ _,cg.mono (λd q=>le.A d q) (λd q=>⟨?_,rfl⟩) N,by simp⟩;simp only [R9,if_false];rw [K];exact q
  .rw [al _ _ o] at a;by_cases C:x=i
   .subst C;rw [aB] at a;cases a;right;rw [D];refine cr.Iv (hs.af x _ hi) hk none (λd q=>(le.A d q).1) (al _ _ o) (λm=>al _ _ (aJ hrl)) (l x o (aJ z).symm) (λm hm=>l _ (aJ hrl) ?_) ?_
    .intro h;simp only [Id.g.injEq,true_and] at h;exact hm (h.trans t.symm)
    .simp only;rw [t];exact L
   .rw [al _ _ C] at a;have G:=hs.real (i:=x) (by rw [a];simp);refine .inl ⟨a,l x o (aJ G).symm,λ_ _=>rfl,λm=>⟨al _ _ (aJ hrl),l _ (aJ hrl) ?_,λ_ _=>rfl⟩⟩;intro h;simp only [Id.g.injEq] at h;exact C h.1
 .have h1:x≠new:=λe=>by rw [e,aB] at a;cases a
  rw [al _ _ h1] at a;have f:x≠i:=λe=>by rw [e,aB] at a;cases a
  rw [al _ _ f] at a;rw [al _ _ h1,l x h1 (aJ hr).symm];exact hs.bS x hr a
 .have h1:x≠new:=λe=>by rw [e,aB] at a;cases a
  rw [al _ _ h1] at a;have f:x≠i:=λe=>by rw [e,aB] at a;cases a
  rw [al _ _ f] at a;rw [al _ _ (aJ hrl),l _ (aJ hrl) (by intro h;simp only [Id.g.injEq] at h;exact f h.1)];exact hs.eO x m a
 .rcases j x d a with⟨h1,f⟩ | ⟨h1,f,E⟩ <;> rcases j y d hy with⟨I,k2⟩ | ⟨I,k2,J⟩
  .rw [h1,I]
  .exact(k2 (hs.inj _ _ d J f)).elim
  .exact(f (hs.inj _ _ d E k2)).elim
  .exact hs.inj x y d E J
 .rcases j x d a with⟨_,h⟩ | ⟨_,_,h⟩
  .exact hs.lt _ d h
  .exact hs.lt _ d h
theorem HS.back{i new:Id}{b bb:Bool}{sz ax rsz nx n:Nat}{es:List Row}{xs:List (List T)}{v:Value}{u:Unit}(hs:HS c w h ρ O)(hi:h i=some (.rows b sz ax rsz nx es))(hn:kR n es=some u)(j:h new=some (.sl false rsz bb xs))
  (hv:ρ (.g i n)=some v) (E:ρ new=some v):
  ∃O',Le w ρ O w ρ O'/\HS c w (aA (aA h i (some (.rows b sz ax rsz nx (cN n (some (bb,xs)) es)))) new (some .dead)) ρ O':=by
 have t:=hs.real (i:=i) (by rw [hi];simp);have hrl:=hs.real (i:=new) (by rw [j];simp);have R:i≠new:=λe=>by rw [e,j] at hi;cases hi
 obtain⟨k,e,hk,q,N,D⟩:=Hd hn;obtain⟨M,s1,L,_⟩:=hs.af new _ j;rw [E] at s1;cases s1;let Q:Id->Option Nat:=λx=>if x=new then none else if x= .g i n then O new else O x;have J:Q new=none:=by simp only [Q,if_true]
 have K:Q (.g i n)=O new:=by simp only [Q,if_neg (aJ hrl),if_true]
 have o:∀x,x≠new->x≠ .g i n->Q x=O x:=λx h1 f=>by simp only [Q,if_neg h1,if_neg f]
 have l:∀x d,Q x=some d->(x= .g i n/\O new=some d)\/(x≠new/\x≠ .g i n/\O x=some d):=by
  intro x d a;simp only [Q] at a;split at a
  .cases a
  .split at a
   .exact .inl ⟨by assumption,a⟩
   .exact .inr ⟨by assumption,by assumption,a⟩
 have le:Le w ρ O w ρ Q:=⟨rfl,rfl,rfl,R3 _,λ_ _ h=>h,λ_ _ _=>rfl,λx d a=>by
  rcases l x d a with⟨_,h⟩ | ⟨_,_,h⟩
  .exact .inl ⟨_,h⟩
  .exact .inl ⟨_,h⟩⟩
 refine⟨Q,le,hs.nH le (λx y a=> ?_) (λx hr a=> ?_) (λx m=>by rw [al _ _ (aJ hrl),al _ _ (aJ t)];exact hs.dc x m) (λx m a=> ?_) hs.gone (λx y d a hy=> ?_) (λx d a=> ?_)⟩
 .by_cases r:x=new
  .subst r;rw [aB] at a;cases a;exact .inr ⟨⟨v,E,jw hs E⟩,J⟩
  .rw [al _ _ r] at a;by_cases C:x=i
   .subst C;rw [aB] at a;cases a;right;rw [D];refine cr.Iv (hs.af x _ hi) hk (some (bb,xs)) (λd p=>(le.A d p).1) rfl (λm=>rfl) (o x r (aJ t).symm) (λm hm=>o _ (aJ hrl) ?_) ?_
    .intro h;simp only [Id.g.injEq,true_and] at h;exact hm (h.trans q.symm)
    .simp only;intro M z;rw [q,hv] at z;cases z;refine cg.mono (λd p=>le.A d p) (λd p=>⟨?_,rfl⟩) L;simp only [R9,if_false] at p;rw [q,K];exact p
   .rw [al _ _ C] at a;have H:=hs.real (i:=x) (by rw [a];simp);refine .inl ⟨a,o x r (aJ H).symm,λ_ _=>rfl,λm=>⟨rfl,o _ (aJ hrl) ?_,λ_ _=>rfl⟩⟩;intro h;simp only [Id.g.injEq] at h;exact C h.1
 .have h1:x≠new:=λe=>by rw [e,aB] at a;cases a
  rw [al _ _ h1] at a;have f:x≠i:=λe=>by rw [e,aB] at a;cases a
  rw [al _ _ f] at a;rw [o x h1 (aJ hr).symm];exact hs.bS x hr a
 .have h1:x≠new:=λe=>by rw [e,aB] at a;cases a
  rw [al _ _ h1] at a;have f:x≠i:=λe=>by rw [e,aB] at a;cases a
  rw [al _ _ f] at a;rw [o _ (aJ hrl) (by intro h;simp only [Id.g.injEq] at h;exact f h.1)];exact hs.eO x m a
 .rcases l x d a with⟨h1,f⟩ | ⟨h1,f,G⟩ <;> rcases l y d hy with⟨F,k2⟩ | ⟨F,k2,I⟩
  .rw [h1,F]
  .exact(F (hs.inj _ _ d I f)).elim
  .exact(h1 (hs.inj _ _ d G k2)).elim
  .exact hs.inj x y d G I
 .rcases l x d a with⟨_,h⟩ | ⟨_,_,h⟩
  .exact hs.lt _ d h
  .exact hs.lt _ d h
theorem Bk:∀{args:List AV} {aU:List Value} {d:List AV} {i:Id} {n:Nat} {e:List AV},aw w A ρ args aU->mX args=some (d,i,n,e)->
  ∃v,ρ (.g i n)=some v/\∀(ρ':Id->Option Value) (new:Id),(∀x u,ρ x=some u->ρ' x=some u)->(∀b,A b->A' b)->ρ' new=some v->aw w A' ρ' (d++ .own new::e) aU
 | [],_,_,_,_,_,_,h=>by simp [mX] at h
 | a::args,aU,d,i,n,e,hv,h=>by
  simp only [aw] at hv;obtain⟨u,r,rfl,k,l⟩:=hv
  have j:(mX args).bind (λq=>some (a::q.1,q.2.1,q.2.2.1,q.2.2.2))=some (d,i,n,e)->
    ∃v,ρ (.g i n)=some v/\∀(ρ':Id->Option Value) (new:Id),(∀x u,ρ x=some u->ρ' x=some u)->(∀b,A b->A' b)->ρ' new=some v->aw w A' ρ' (d++ .own new::e) (u::r):=by
   intro h;obtain⟨⟨t,i',p,y⟩,m,h⟩:=RK.1 h;simp only [RJ,SA] at h;obtain⟨rfl,rfl,rfl,rfl⟩:=h;obtain⟨v,o,k2⟩:=Bk l m;refine⟨v,o,λρ' new hm f hn=> ?_⟩;simp only [RU,aw];exact⟨u,r,rfl,ai.mono (λb hb=>⟨f b hb,rfl⟩) hm _ _ k,k2 ρ' new hm f hn⟩
  cases a
  case row i' p=>simp only [mX,RJ,SA] at h;obtain⟨rfl,rfl,rfl,rfl⟩:=h;simp only [ai] at k;refine⟨u,k,λρ' new hm f hn=> ?_⟩;simp only [R0,aw];exact⟨u,r,rfl,by simp only [ai];exact hn,aw.mono (λb hb=>⟨f b hb,rfl⟩) hm _ _ l⟩
  all_goals exact j h
theorem Kt{R:Type}{An:bZ}{Or:az}(U:iJ P An Or){gE:Bool}{d:Nat}{f:FuncId}{args:List AV}{aU:List Value}{K:AV->aE->Option R}{r:R}(hc:cc=none\/cc=some true)(hs:HS c w s.h ρ O)(hv:aw w (AA c w O) ρ args aU)
  (hk:iM gE P An Or s d cc f args K=some r):
  ∃v us fn a,K v us=some r/\P.funcs[f]? =some fn/\fn.body=some a/\fn.name≠ "runtime.NumGoroutine" /\
   (iu d s.h us=true->Calls P f aU.toArray w λe w'=>∃x,e= .returned x/\∃ρ' O',Le w ρ O w' ρ' O'/\HS c w' (aG s.h us) ρ' O'/\ai w' (AA c w' O') ρ' v x):=by
 unfold iM at hk;split at hk
 .exact Ds U hc hs hv hk
 .rename_i l1 i n l2 m;have m:mX args=some (l1,i,n,l2):=by
   cases gE with
   | true=>exact m
   | false=>cases m
  split at hk
  .rename_i b sz ax rsz nx es hi;replace hk:=aI hk (.inl rfl);obtain⟨p,hp,hk⟩:=hk;cases l:s.h (.s (2500000+d) 0) with
   | some x=>rw [l] at hk;simp at hk
   | none=>
    rw [l] at hk;simp only [VQ,cond_true] at hk;obtain⟨N,D,hargs⟩:=Bk (A':=AA c w O) hv m;obtain⟨Q,cn,Y⟩:=hs.gE (new:= .s (2500000+d) 0) hi hp D l rfl;have o:aw w (AA c w Q) (aA ρ (.s (2500000+d) 0) (some N)) (l1++ .own (.s (2500000+d) 0)::l2) aU:=by obtain⟨v1,o,C⟩:=Bk (A':=AA c w Q) hv m;rw [D] at o;cases o;exact C _ _ cn.dL (λb hb=>(cn.A b hb).1) (aB _ _ _)
    obtain⟨v,us,fn,a,hk,W,G,L,H⟩:=Ds (s:=⟨s.t,_⟩) U (cc:=none) (.inl rfl) Y o hk;unfold rT at hk;split at hk
    .rename_i b2 sz2 col2 rsz2 nx2 es2 F b3 xs3 S T;split at hk
     .rename_i I;obtain⟨rfl,rfl⟩:=I;replace hk:=aI hk (.inl rfl);obtain⟨u,hu,hk⟩:=hk;refine⟨v,_,fn,a,hk,W,G,L,λJ=> ?_⟩;have X:iu d (aA (aA s.h i (some (.rows b sz ax F nx (cN n none es)))) (.s (2500000+d) 0) (some (.sl false F p.1 p.2))) us=true:=by
       refine R7.2 λq m=> ?_;have:=R7.1 J q (RY _ (RW _ m));obtain⟨x,y⟩:=q;cases x with
       | s z k=>
        simp only at this⊢;by_cases V:z=d
        .subst V;have hn:s.h (.s z k)=none:=by simpa using this
         have h1:Id.s z k≠ .s (2500000+z) 0:=by intro h;simp only [Id.s.injEq] at h;omega
         have h2:Id.s z k≠i:=λh=>by rw [<-h,hn] at hi;cases hi
         rw [al _ _ h1,al _ _ h2,hn];simp
        .simp [V]
       | c k=>rfl
       | g j k=>exact this
      refine(H X).mono ?_;rintro e w' ⟨x,rfl,ρ',O',E,Z,hx⟩;have hw:ρ' (.s (2500000+d) 0)=some N:=E.dL _ _ (aB _ _ _);have hv2:ρ' (.g i n)=some N:=E.dL _ _ (cn.dL _ _ D);rw [lp,cw,dB] at S T;obtain⟨O3,M,hs3⟩:=Z.back S hu T hv2 hw;refine⟨x,rfl,ρ',O3,cn.trans (E.trans M), ?_,ai.mono (λb hb=>M.A b hb) (λ_ _ h=>h) _ _ hx⟩;rw [lp,lp,cw,dB,cw,dB];exact hs3
     .simp at hk
    .simp at hk
  .simp at hk
end
open Go
section
variable {P:Program} {An:bZ} {Or:az} {w w':World} {A A':Nat->Prop} {c:Ctx} {ρ:Id->Option Value} {O:Id->Option Nat} {s:St} {cc:Option Bool} {h:Id->Option ab}
def Good(P:Program)(c:Ctx)(w:World)(s:St)(ρ:Id->Option Value)(O:Id->Option Nat)(o:Oper)(a:Act)(v:AV)(us:aE):Prop:=
 ic P o a w λx w'=>∃ρ' O',Le w ρ O w' ρ' O'/\HS c w' (aG s.h us) ρ' O'/\ai w' (AA c w' O') ρ' v x
theorem Good.pure{o:Oper}{a:Act}{v:AV}{x:Value}(hs:HS c w s.h ρ O)(b:(execOp a.eval o).run P w= .ok (.value x) w)(hv:ai w (AA c w O) ρ v x):Good P c w s ρ O o a v []:=by unfold Good ic;rw [b];exact⟨ρ,O,Le.refl,hs,hv⟩
theorem Good.val{o:Oper}{a:Act}{v:AV}{us:aE}{x:Value}{ρ':Id->Option Value}{O':Id->Option Nat}(b:(execOp a.eval o).run P w= .ok (.value x) w')(le:Le w ρ O w' ρ' O')(hs:HS c w' (aG s.h us) ρ' O')(hv:ai w' (AA c w' O') ρ' v x):Good P c w s ρ O o a v us:=by unfold Good ic;rw [b];exact⟨ρ',O',le,hs,hv⟩
theorem ql{a:Act}{g:Option Gs}(b:SS w A ρ s.t a.tmps)(hr:jG a.tmps g):∀(xs:List Operand),aw w A ρ (xs.map (s.get g)) (xs.map a.eval)
 | []=>by simp [aw]
 | x::xs=>by simp only [Se,aw];exact⟨_,_,rfl,SS.get (h:=s.h) b hr x,ql b hr xs⟩
theorem Mz{op:BinOp}(h:op≠ .eql/\op≠ .neq){t:TypeId}{x y:Operand}{a b:Value}:(eqGuard op t x y a b).run P w= .ok () w:=by cases op <;> simp_all [eqGuard]
set_option maxHeartbeats 2000000 in
theorem CW(hO:iJ P An Or){o:Oper}{a:Act}{g:Option Gs}{v:AV}{us:aE}(hs:HS c w s.h ρ O)(W:SS w (AA c w O) ρ s.t a.tmps)(hr:jG a.tmps g)(hk:cI P An Or g o s=some (v,us))(M:iu (o.dst.getD 0) s.h us=true):
  Good P c w s ρ O o a v us:=by
 have G:=hr.cond;have ev:∀x,ai w (AA c w O) ρ (s.get g x) (a.eval x):=λx=>SS.get (h:=s.h) W hr x;have tt:∀x y,(s.get g x).t? =some y->au w (AA c w O) y (a.eval x):=by intro x y e;have:=ev x;rw [AV.lf e] at this;simpa [ai] using this
 have C:∀{v':AV} {U:aE},some (v',U)=some (v,us)->v'=v/\U=us:=by intro v' U e;simpa using e
 unfold cI iK at hk;cases D:o.op <;> rw [D] at hk <;> dsimp only at hk
 case move x=>obtain⟨rfl,rfl⟩:=C hk;exact Good.pure hs (by simp [execOp,D]) (ev x)
 case assign x=>obtain⟨rfl,rfl⟩:=C hk;exact Good.pure hs (by simp [execOp,D]) (ev x)
 case pick k x y=>
  replace hk:=RK.1 hk;obtain⟨k',hk',hk⟩:=hk;have hkv:=tt k k' hk';replace hk:=aI hk G;obtain⟨kb,hkb,hk⟩:=hk;have:=T.ik hkb;subst this;simp only [au] at hkv;replace hk:=RK.1 hk;obtain⟨tx,htx,hk⟩:=hk;replace hk:=o4 hk;obtain⟨xb,hk,hxb⟩:=hk;replace hk:=RK.1 hk;obtain⟨ty,hty,hk⟩:=hk;replace hk:=o4 hk;obtain⟨yb,hk,hyb⟩:=hk;obtain⟨rfl,rfl⟩:=C hk;have hg:∀b,vZ (g.map (·.c)) b=some b:=by intro b;unfold vZ;rcases G with e | e <;> rw [e] <;> rfl
  refine Good.pure (x:= .bool (cond kb xb yb)) hs ?_ (by simp [ai,au]);simp only [execOp,D,hkv];cases kb with
  | true=>
   have Y:=SS.lT (h:=s.h) W hr k x true hkv;rw [AV.lf htx] at Y;rcases hxb with e | ⟨_,e⟩
   .have:=T.ik e;subst this;simp only [ai,au] at Y;simp [asBool,Y]
   .rw [hg] at e;cases e
  | false=>
   have Y:=SS.lT (h:=s.h) W hr k y false hkv;rw [AV.lf hty] at Y;rcases hyb with e | ⟨_,e⟩
   .have:=T.ik e;subst this;simp only [ai,au] at Y;simp [asBool,Y]
   .rw [hg] at e;cases e
 case alloc t=>
  cases F:g.map (·.c) with
  | some b=>simp [F] at hk
  | none=>simp only [F] at hk;replace hk:=RK.1 hk;obtain⟨l,hl,hk⟩:=hk;obtain⟨rfl,rfl⟩:=C hk;obtain⟨i,z,hi,hz,hof⟩:=nf hl;have hzr:aO w (AA c w O) l z.cells.toList:=nU hof;obtain⟨K,Q⟩:=hs.GS (i:= .s (o.dst.getD 0) 0) (jS M (RP.2 rfl)) t (aw.kU (ρ:=ρ) hzr) hzr.one;refine Good.val (x:= .pointer (some ⟨w.heap.size,0,none⟩)) (w':=w.alloc (.cells z.cells.toList.toArray t)) ?_ K (by rw [dB];exact Q) (by simp [ai]);simp [execOp,D,Instr.alloc,zeroValue,typeInfo,hi,hz,newVar,H7]
 case box t x=>
  cases F:g.map (·.c) with
  | some b=>simp [F] at hk
  | none=>
   simp only [F] at hk;split at hk
   .rename_i hcell;obtain⟨rfl,rfl⟩:=C hk;obtain⟨K,Q⟩:=u7 hs (ev x) hcell;obtain⟨k1,k2⟩:=hs.GS (i:= .s (o.dst.getD 0) 0) (jS M (RP.2 rfl)) t K Q;refine Good.val (x:= .pointer (some ⟨w.heap.size,0,none⟩)) (w':=w.alloc (.cells (a.eval x).cells.toList.toArray t)) ?_ k1 (by rw [dB];exact k2) (by simp [ai]);simp [execOp,D,Instr.box,newVar,H7]
   .simp at hk
 case build t ps=>replace hk:=RK.1 hk;obtain⟨v',J,hk⟩:=hk;obtain⟨rfl,rfl⟩:=C hk;obtain⟨x,h1,H⟩:=Kc hs W hr J;exact Good.pure hs (by simp only [execOp,D,R6,h1,RT,Sf]) H
 case buildSlice t n ps=>
  replace hk:=RK.1 hk;obtain⟨e,he,hk⟩:=hk;obtain⟨Z,X⟩:=vK he;split at hk
  .split at hk
   .rename_i x F hps;split at hk
    .rename_i hcond;obtain⟨⟨hl,hall⟩,hn2,hpos,hz⟩:=hcond;obtain⟨rfl,rfl⟩:=C hk;obtain⟨K,Q⟩:=u7 hs (ev x) hall;have hsz:(a.eval x).cells.size=P.cellsOf e:=by rw [<-hl,<-R8];exact K.length
     have j:=Bq (n:=1) (w:=w) Z X hz hpos ⟨by omega,hn2⟩ [a.eval x] (by simpa using hsz) (by simp) (ps.map λ(i,x)=>(i,a.eval x)) (by simp [Wb,hps]);have hi:s.h (.s (o.dst.getD 0) 0)=none:=jS M RL;obtain⟨k1,k2⟩:=hs.Oh hi (cs:=gm _) (arr:=([a.eval x].flatMap λv=>v.cells.toList).toArray) e (by simpa using K) (by simpa using Q);refine Good.val (x:= .slice (some ⟨w.heap.size,0,none⟩) 1 1) (by simp only [execOp,D,R6,j,RT,Sf]) k1 (by rw [dB];exact k2) ?_;simp [ai]
    .simp at hk
   .simp at hk
  split at hk
  .rename_i hcond;obtain⟨hn,hn1,hn2,hpos,hz⟩:=hcond;split at hk
   .rename_i h0;obtain⟨h00,_⟩:=h0;obtain⟨rfl,rfl⟩:=C hk;have hps:ps.toList= []:=R4.1 (by rw [R8];omega);have j:=Bq (w:=w) Z X hz hpos ⟨hn1,hn2⟩ [] (by simp) (by simp [h00]) (ps.map λ(i,x)=>(i,a.eval x)) (by simp [Wb,hps]);have exec:(execOp a.eval o).run P w= .ok (.value (.slice (some ⟨w.heap.size,0,none⟩) n n)) (w.alloc (.cells (([]:List Value).flatMap λv=>v.cells.toList).toArray e)):=by
     simp only [execOp,D,R6,j,RT,Sf]
    have lew:Le w ρ O (w.alloc (.cells (([]:List Value).flatMap λv=>v.cells.toList).toArray e)) ρ O:=⟨rfl,rfl,rfl,by simp,λ_ _ h=>h,λb hb _=>So _ _ _ hb,λi b h=> .inl ⟨i,h⟩⟩;have hs2:=hs.world lew λi af hi=>So _ _ _ (hs.lt i af hi);refine Good.val exec lew hs2 ?_;simp only [ai,au];exact .inr ⟨trivial,_,_,_,by rw [h00]⟩
   replace hk:=RK.1 hk;obtain⟨q,hq,hk⟩:=hk;obtain⟨hfz,hlen⟩:=EM hq;obtain⟨O1,cn,hs1,hO1,hf1,hkeep⟩:=hs.qy hfz;obtain⟨vs,e1,N,e3⟩:=EO hs W hr cn hO1 hq hf1;have hvl:vs.length=n:=by have:=congrArg List.length e1;simp only [Ty,List.length_zipIdx] at this;rw [<-this,R8,hn]
   have j:=Bq (w:=w) Z X hz hpos ⟨hn1,hn2⟩ vs e3 hvl (ps.map λ(i,x)=>(i,a.eval x)) (by simp only [Wb];exact e1);have hq1:q.1.length=n:=by have:=N.length.1;simp only [Ty] at this;omega
   have fl:(vs.map λv=>v.cells.toList).flatten=vs.flatMap λv=>v.cells.toList:=rfl;have exec:(execOp a.eval o).run P w= .ok (.value (.slice (some ⟨w.heap.size,0,none⟩) n n)) (w.alloc (.cells (vs.flatMap λv=>v.cells.toList).toArray e)):=by simp only [execOp,D,R6,j,RT,Sf]
   cases F:g.map (·.c) with
   | some b=>
    simp only [F] at hk;obtain⟨rfl,rfl⟩:=C hk;have lew:Le w ρ O1 (w.alloc (.cells (vs.flatMap λv=>v.cells.toList).toArray e)) ρ O1:=⟨rfl,rfl,rfl,by simp,λ_ _ h=>h,λb hb _=>So _ _ _ hb,λi b h=> .inl ⟨i,h⟩⟩;have hs2:=hs1.world lew λi af hi=>So _ _ _ (hs1.lt i af hi);refine Good.val exec (cn.trans lew) hs2 ?_;simp only [ai,au];right;refine⟨trivial,w.heap.size,0,none,n,by rw [hq1],by omega, ?_, ?_⟩
    .right;refine⟨rfl, ?_⟩;refine⟨.inr (.inr hs.size),by simp,λi hi=>Ua _ (hs1.lt i _ hi)⟩
    .refine aR.jZ (bT.mono (λb hb=>lew.A b hb) N) (λp v hp=> ?_);rw [jL (jV _),Sn,<-fl];simpa using hp
   | none=>
    simp only [F] at hk;obtain⟨rfl,rfl⟩:=C hk;have hi:s.h (.s (o.dst.getD 0) 0)=none:=jS M RL;have hi1:aG s.h q.2 (.s (o.dst.getD 0) 0)=none:=by
     rw [df (λp hp e=> ?_)]
     .exact hi
     .have H:=hfz p hp;rw [e,hi] at H;rcases H with⟨sz,b,l,_,H⟩ | ⟨l,_,H⟩ <;> simp at H
    obtain⟨k1,k2⟩:=hs1.AI (sz:=P.cellsOf e) hi1 e (vs.flatMap λv=>v.cells.toList).toArray n N (λp v hp=>by rw [<-fl];simpa using hp) (by omega) (by
     have:=N.length.2;simp only [Ta];rw [<-fl,this,hq1];exact R3 _)
    rw [hq1] at k1 k2;refine Good.val exec (cn.trans k1) ?_ ?_
    .rw [cw];have:aG (aA s.h (.s (o.dst.getD 0) 0) (some (.sl false (P.cellsOf e) false q.1))) q.2=aA (aG s.h q.2) (.s (o.dst.getD 0) 0) (some (.sl false (P.cellsOf e) false q.1)):=by
      refine tJ (λp hp e=> ?_);have H:=hfz p hp;rw [e,hi] at H;rcases H with⟨sz,b,l,_,H⟩ | ⟨l,_,H⟩ <;> simp at H
     rw [this];exact k2
    .simp [ai]
  .simp at hk
 case load t x=>obtain⟨av,y,e,j,hv⟩:=Gf hs (ev x) G hk;obtain⟨rfl,rfl⟩:=C e;exact Good.pure (x:=y) hs (by simp only [execOp,D,R6,j,RT,Sf]) hv
 case store t x y=>
  cases F:g.map (·.c) with
  | some b=>simp [F] at hk
  | none=>simp only [F] at hk;obtain⟨U,w',ρ',O',e,j,le,S⟩:=Qm hs (ev x) (ev y) hk;obtain⟨rfl,rfl⟩:=C e;unfold Good ic;simp only [execOp,D,R6,j,RT,Sf];exact⟨ρ',O',le,S,by simp [ai]⟩
 case nilCheck x=>
  have hv:=ev x;split at hk
  .rename_i i k e;obtain⟨rfl,rfl⟩:=C hk;rw [e] at hv;have J:=hv;simp only [ai] at J;obtain⟨b,_,N⟩:=J;exact Good.pure hs (by simp [execOp,D,N]) hv
  .rename_i i sz k off e;obtain⟨rfl,rfl⟩:=C hk;rw [e] at hv;have J:=hv;simp only [ai] at J;obtain⟨b,o',L,cap,_,N⟩:=J;exact Good.pure hs (by simp [execOp,D,N]) hv
  .rename_i i sz n k off e;obtain⟨rfl,rfl⟩:=C hk;rw [e] at hv;have J:=hv;simp only [ai] at J;obtain⟨b,o',L,cap,_,N⟩:=J;exact Good.pure hs (by simp [execOp,D,N]) hv
  .rename_i y e;replace hk:=aI hk G;obtain⟨cs,hcs,hk⟩:=hk;obtain⟨rfl,rfl⟩:=C hk;have:=T.wV hcs;subst this;rw [e] at hv;have J:=hv;simp only [ai,au] at J;obtain⟨b,o',N,_⟩:=J;exact Good.pure hs (by simp [execOp,D,N]) hv
  .rename_i f x' y' e;obtain⟨rfl,rfl⟩:=C hk;rw [e] at hv;have J:=hv;simp only [ai] at J;obtain⟨_,_,N,_⟩:=J;exact Good.pure hs (by simp [execOp,D,N]) hv
  .simp at hk
 case binOp op t x y ty=>
  have nilx:∀b,nS P t y=true->iV P s t (s.get g x)=some b->_:=λb h1 H=>F4 (P:=P) hs (ev x) H y h1 a x y;have nily:∀b,nS P t x=true->iV P s t (s.get g y)=some b->_:=λb h1 H=>F4 (P:=P) hs (ev y) H x h1 a x y;have go:∀(z:Value),(eqGuard op t x y (a.eval x) (a.eval y)).run P w= .ok () w->(binOp op t (a.eval x) (a.eval y)).run P w= .ok z w->(execOp a.eval o).run P w= .ok (.value z) w:=by intro z h1 H;simp only [execOp,D,R6,h1,H,RT,Sf]
  split at hk
  .rename_i h1;replace hk:=RK.1 hk;obtain⟨b,hb,hk⟩:=hk;obtain⟨rfl,rfl⟩:=C hk;obtain⟨K,Q⟩:=(nilx b h1 hb).1;exact Good.pure hs (go _ K Q) (by simp [ai,au])
  .rename_i h1;replace hk:=RK.1 hk;obtain⟨b,hb,hk⟩:=hk;obtain⟨rfl,rfl⟩:=C hk;obtain⟨K,Q⟩:=(nilx b h1 hb).2.1;exact Good.pure hs (go _ K Q) (by simp [ai,au])
  .rename_i h1 _;replace hk:=RK.1 hk;obtain⟨b,hb,hk⟩:=hk;obtain⟨rfl,rfl⟩:=C hk;obtain⟨K,Q⟩:=(nily b h1 hb).2.2.1;exact Good.pure hs (go _ K Q) (by simp [ai,au])
  .rename_i h1 _;replace hk:=RK.1 hk;obtain⟨b,hb,hk⟩:=hk;obtain⟨rfl,rfl⟩:=C hk;obtain⟨K,Q⟩:=(nily b h1 hb).2.2.2;exact Good.pure hs (go _ K Q) (by simp [ai,au])
  .obtain⟨b,e,⟨K,Q⟩,_⟩:=Fb (P:=P) G (ev x) (ev y) hk x y;obtain⟨rfl,rfl⟩:=C e;exact Good.pure hs (go _ K Q) (by simp [ai,au])
  .obtain⟨b,e,_,⟨K,Q⟩⟩:=Fb (P:=P) G (ev x) (ev y) hk x y;obtain⟨rfl,rfl⟩:=C e;exact Good.pure hs (go _ K Q) (by simp [ai,au])
  .replace hk:=RK.1 hk;obtain⟨x',hx',hk⟩:=hk;replace hk:=RK.1 hk;obtain⟨y',hy',hk⟩:=hk;obtain⟨hne,z,vz,e,hv,j⟩:=J7 (P:=P) G (tt x x' hx') (tt y y' hy') hk;obtain⟨rfl,rfl⟩:=C e;exact Good.pure hs (go _ (Mz hne) j) (by simpa [ai] using hv _ _)
 case unOp op t x=>replace hk:=RK.1 hk;obtain⟨x',hx',hk⟩:=hk;obtain⟨z,y,e,hv,j⟩:=Rd (P:=P) G (tt x x' hx') hk;obtain⟨rfl,rfl⟩:=C e;exact Good.pure (x:=y) hs (by simp only [execOp,D,R6,j,RT,Sf]) (by simpa [ai] using hv _ _)
 case convert src dst x=>
  split at hk
  .rename_i e Z hu';split at hk
   .rename_i he;unfold qF at he;split at he
    .rename_i k he';simp only [RJ] at he;subst he;replace hk:=RK.1 hk;obtain⟨y,hy,hk⟩:=hk;replace hk:=aI hk G;obtain⟨l,hl,hk⟩:=hk;replace hl:=RK.1 hl;obtain⟨p,hp,hl⟩:=hl;obtain⟨rfl,rfl⟩:=C hk;have j:=Kh hs Z hu' he' (ev x) hy hp hl;exact Good.pure (x:= .string ⟨l.toArray⟩) hs (by simp only [execOp,D,R6,j,RT,Sf]) (by simp [ai,au])
    .simp at he
   .simp at hk
  .replace hk:=RK.1 hk;obtain⟨x',hx',hk⟩:=hk;obtain⟨z,y,e,j,hv⟩:=KI G (tt x x' hx') hk;obtain⟨rfl,rfl⟩:=C e;exact Good.pure (x:=y) hs (by simp only [execOp,D,R6,j,RT,Sf]) (by simpa [ai] using hv)
 case makeFunc fn fst caps=>
  cases fn with
  | func f=>dsimp only at hk;obtain⟨rfl,rfl⟩:=C hk;refine Good.pure (x:= .func (.func f) (fst.map a.eval) (caps.map a.eval)) hs (by simp only [execOp,D,Instr.makeFunc,R6,Sf,RT]) ?_;simp only [ai];refine⟨fst.toList.map a.eval,caps.toList.map a.eval, ?_,ql W hr _,ql W hr _⟩;rw [show(fst.toList.map a.eval).toArray=fst.map a.eval from TY (by simp),show(caps.toList.map a.eval).toArray=caps.map a.eval from TY (by simp)]
  | _=>simp at hk
 case makeSlice t l m=>
  cases F:g.map (·.c) with
  | some b=>simp [F] at hk
  | none=>simp only [F] at hk;replace hk:=RK.1 hk;obtain⟨n,hn,hk⟩:=hk;replace hk:=RK.1 hk;obtain⟨k,hk',hk⟩:=hk;obtain⟨v',U,e,hg⟩:=NG (vn:=a.eval l) (vm:=a.eval m) hs (by simpa [ai] using tt l n hn) (by simpa [ai] using tt m k hk') hk;obtain⟨rfl,rfl⟩:=C e;obtain⟨u,w',ρ',O',j,le,S,hv⟩:=hg M;exact Good.val (x:=u) (by simp only [execOp,D,R6,j,RT,Sf]) le S hv
 case makeMap t m=>
  cases F:g.map (·.c) with
  | some b=>simp [F] at hk
  | none=>
   cases m with
   | some m=>simp [F] at hk
   | none=>simp only [F] at hk;obtain⟨v',U,e,hg⟩:=NI hs hk;obtain⟨rfl,rfl⟩:=C e;obtain⟨u,w',ρ',O',j,le,S,hv⟩:=hg M;exact Good.val (x:=u) (by simp only [execOp,D,Wg,R6,j,RT,Sf]) le S hv
 case lookup t x k ok=>obtain⟨av,y,e,j,hv⟩:=NB hs (ev x) (ev k) G hk;obtain⟨rfl,rfl⟩:=C e;exact Good.pure (x:=y) hs (by simp only [execOp,D,R6,j,RT,Sf]) hv
 case mapUpdate t x k v'=>
  cases F:g.map (·.c) with
  | some b=>simp [F] at hk
  | none=>simp only [F] at hk;obtain⟨U,w',e,j,le,S⟩:=OU hs (ev x) (ev k) (ev v') hk;obtain⟨rfl,rfl⟩:=C e;unfold Good ic;simp only [execOp,D,R6,j,RT,Sf];exact⟨ρ,O,le,S,by simp [ai]⟩
 case slice t x lo hi mx=>obtain⟨blo,hk,h1⟩:=yQ W hr G hk;obtain⟨bhi,hk,H⟩:=yQ W hr G hk;obtain⟨bmx,hk,h3⟩:=yQ W hr G hk;obtain⟨av,y,e,j,hv⟩:=P9 (P:=P) hs (ev x) G h1 H h3 hk;obtain⟨rfl,rfl⟩:=C e;exact Good.pure (x:=y) hs (by simp only [execOp,D,R6,j,RT,Sf]) hv
 case fieldAddr t x f=>obtain⟨av,y,e,j,hv⟩:=MI (P:=P) (ev x) G hk;obtain⟨rfl,rfl⟩:=C e;exact Good.pure (x:=y) hs (by simp only [execOp,D,R6,j,RT,Sf]) hv
 case field t x f=>obtain⟨av,y,e,j,hv⟩:=MG (P:=P) (ev x) hk;obtain⟨rfl,rfl⟩:=C e;exact Good.pure (x:=y) hs (by simp only [execOp,D,R6,j,RT,Sf]) hv
 case indexAddr t x i=>unfold nK at hk;replace hk:=RK.1 hk;obtain⟨i',hi',hk⟩:=hk;replace hk:=aI hk G;obtain⟨n,hn,hk⟩:=hk;obtain⟨k,rfl⟩:=yH hn;have hiv:=tt i _ hi';simp only [au] at hiv;obtain⟨av,y,e,j,hv⟩:=Na (P:=P) (ki:=k) hs (ev x) G hk;obtain⟨rfl,rfl⟩:=C e;exact Good.pure (x:=y) hs (by simp only [execOp,D,hiv,R6,j,RT,Sf]) hv
 case index t x i=>
  unfold nK at hk;replace hk:=RK.1 hk;obtain⟨i',hi',hk⟩:=hk;replace hk:=aI hk G;obtain⟨n,hn,hk⟩:=hk;obtain⟨k,rfl⟩:=yH hn;have hiv:=tt i _ hi';simp only [au] at hiv;have hv:=ev x;split at hk
  .rename_i Z;replace hk:=RK.1 hk;obtain⟨y,hy,hk⟩:=hk;replace hk:=aI hk G;obtain⟨b,hb,hk⟩:=hk;have:=T.jB hb;subst this;have hxv:=tt x _ hy;simp only [au] at hxv;obtain⟨h0,h1,hk⟩:=nI G hk;replace hk:=aI hk G;obtain⟨u,hu',hk⟩:=hk;obtain⟨rfl,rfl⟩:=C hk;have hb:b[n.toNat]? =some u:=by
    have hl:n.toNat < b.data.toList.length:=(RS.1 hu').1;have hlt:n.toNat < b.size:=by simpa using hl
    rw [getElem?_pos b n.toNat hlt];have:=(RS.1 hu').2;rw [<-this];simp [ByteArray.getElem_eq_getElem_data]
   exact Good.pure (x:= .int .u8 u.toNat) hs (by simp [execOp,D,hiv,hxv,Instr.index,asIntOf,run_underlying Z,h0,hb]) (by simp [ai,au])
  .rename_i m e Z;split at hk
   .rename_i vs ex;cases X:bB P e
    .simp [X] at hk
    simp only [X,cond_true] at hk;replace hk:=RK.1 hk;obtain⟨l,hl,hk⟩:=hk;obtain⟨h0,h1,hk⟩:=nI G hk;rw [ex] at hv;simp only [ai] at hv;obtain⟨ws,N,K,Q⟩:=hv;obtain⟨av,y,e,j,hv⟩:=Nv (P:=P) (arr:=ws.toArray) (off:=n.toNat * P.cellsOf e) (ρ:=ρ) X G ((aO.kT hl K).drop _) hk;obtain⟨rfl,rfl⟩:=C e;exact Good.pure (x:=y) hs (by simp [execOp,D,hiv,N,Instr.index,asIntOf,run_underlying Z,h0,h1,iB X,j]) hv
   .simp at hk
  .simp at hk
 case extract x k=>
  have hv:=ev x;split at hk
  .rename_i vs e;replace hk:=RK.1 hk;obtain⟨y,hy,hk⟩:=hk;obtain⟨rfl,rfl⟩:=C hk;rw [e] at hv;simp only [ai] at hv;obtain⟨ws,N,h1⟩:=hv;obtain⟨u,H,h3⟩:=h1.get hy;exact Good.pure hs (by simp [execOp,D,N,Instr.extract,H]) h3
  .simp at hk
 case call R=>
  have run0:∀f,R.callee=f->(execOp a.eval o).run P w= ((resolve a.eval R o.type).run P w).andThen λd w=>(invoke d.target d.args).run P w:=by intro f _;simp only [execOp,D,R6]
  split at hk
  .rename_i I;split at hk
   .rename_i x t ts hx V;obtain⟨av,y,e,j,hv⟩:=Nl (P:=P) (ts:=R.argTypes) (ty:=o.type) hs (ev x) G hk (by rw [<-SG,V];rfl);obtain⟨rfl,rfl⟩:=C e;have E:R.args.map a.eval= #[a.eval x]:=by apply TY;simp [hx]
    exact Good.pure (x:=y) hs (by simp only [execOp,D,resolve,I,E,R6,Sf,RT,invoke,builtin,j]) hv
   .simp at hk
  .rename_i I;split at hk
   .rename_i x y t u hgc hx V;obtain⟨v',U,e,hg⟩:=JM (P:=P) (tr:=o.type) hs (ev x) (ev y) hk;obtain⟨rfl,rfl⟩:=C e;have E:R.args.map a.eval= #[a.eval x,a.eval y]:=by apply TY;simp [hx]
    have htys':R.argTypes= #[t,u]:=by apply TY;simp [V]
    obtain⟨z,w',ρ',O',j,le,S,hv⟩:=hg M;exact Good.val (x:=z) (by simp only [execOp,D,resolve,I,E,htys',R6,Sf,RT,invoke,builtin,j]) le S hv
   .simp at hk
  .rename_i I;split at hk
   .rename_i k hik;replace hk:=RK.1 hk;obtain⟨l,hl,hk⟩:=hk;split at hk
    .rename_i x r;replace hk:=aI hk G;obtain⟨n,hn,hk⟩:=hk;have:=T.fA hn;subst this;obtain⟨v0,vs,e0,h1,H⟩:=aO.kT hl (ql W hr R.args.toList);simp only [au] at h1;subst h1;obtain⟨m,e,j⟩:=Ax (P:=P) (w:=w) G true H hk;obtain⟨rfl,rfl⟩:=C e;have E:(R.args.map a.eval).toList= .int k n::vs:=by simp [e0]
     exact Good.pure (x:= .int k m) hs (by simp only [execOp,D,resolve,I,R6,Sf,RT,invoke,builtin,Builtin.max_,E];simp only [cond_true] at j;simp only [j,RT]) (by simp [ai,au])
    .simp at hk
   .simp at hk
  .rename_i I;split at hk
   .rename_i k hik;replace hk:=RK.1 hk;obtain⟨l,hl,hk⟩:=hk;split at hk
    .rename_i x r;replace hk:=aI hk G;obtain⟨n,hn,hk⟩:=hk;have:=T.fA hn;subst this;obtain⟨v0,vs,e0,h1,H⟩:=aO.kT hl (ql W hr R.args.toList);simp only [au] at h1;subst h1;obtain⟨m,e,j⟩:=Ax (P:=P) (w:=w) G false H hk;obtain⟨rfl,rfl⟩:=C e;have E:(R.args.map a.eval).toList= .int k n::vs:=by simp [e0]
     exact Good.pure (x:= .int k m) hs (by simp only [execOp,D,resolve,I,R6,Sf,RT,invoke,builtin,Builtin.min_,E];simp only [cond_false] at j;simp only [j,RT]) (by simp [ai,au])
    .simp at hk
   .simp at hk
  .rename_i I;split at hk
   .rename_i x y t ts hgc hx V;obtain⟨U,w',e,j,le,S⟩:=KP (P:=P) (ty:=(ts.headD 0)) (tr:=o.type) hs (ev x) (ev y) hk;obtain⟨rfl,rfl⟩:=C e;have E:R.args.map a.eval= #[a.eval x,a.eval y]:=by apply TY;simp [hx]
    have run':(Builtin.delete_ R.argTypes o.type #[a.eval x,a.eval y]).run P w= .ok (.tuple #[]) w':=by
     rw [<-j];have h0:R.argTypes[0]? =some t:=by rw [<-SG,V];rfl
     simp only [Builtin.delete_,h0];rfl
    refine Good.val (x:= .tuple #[]) (by simp only [execOp,D,resolve,I,E,R6,Sf,RT,invoke,builtin,run']) le S ?_;simp only [ai];exact⟨[],rfl,by simp [aw]⟩
   .simp at hk
  .rename_i I;split at hk
   .rename_i x t ts hx V;split at hk
    .rename_i e Z;split at hk
     .rename_i y hex;cases hy:wz y with
      | false=>rw [hy] at hk;simp at hk
      | true=>
       rw [hy] at hk;obtain⟨rfl,rfl⟩:=C hk;have hv:=ev x;rw [hex] at hv;simp only [ai] at hv;have hv:=Nf hy hv;have E:R.args.map a.eval= #[a.eval x]:=by apply TY;simp [hx]
       have hts:R.argTypes[0]? =some t:=by rw [<-SG,V];rfl
       exact Good.pure (x:= .int .i64 0) hs (by simp only [execOp,D,resolve,I,E,R6,Sf,RT,invoke,builtin];simp [Builtin.cap_,hts,run_underlying Z,hv,goInt]) (by simp [ai,au])
     .simp at hk
    .simp at hk
   .simp at hk
  .rename_i fo I;split at hk
   .rename_i f x1 y1 efo;have hfo:=ev fo;rw [efo] at hfo;simp only [ai] at hfo;obtain⟨x',y',N,K,Q⟩:=hfo;obtain⟨v',U,fn,body,e,hfn,hbody,hname,hcall⟩:=Kt hO G hs ((K.append (ql W hr R.args.toList)).append Q) hk;obtain⟨rfl,rfl⟩:=C e;unfold Good ic;have j:(execOp a.eval o).run P w= .ok (.enter f (x'++R.args.toList.map a.eval++y').toArray) w:=by
     have E:x'.toArray++R.args.map a.eval++y'.toArray= (x'++R.args.toList.map a.eval++y').toArray:=by apply TY;simp
     simp [execOp,D,resolve,I,N,Deferred.ofValue,invoke,callFunc,run_program,hfn,hbody,hname,E]
    rw [j];exact hcall M
   .simp at hk
  .simp at hk
 all_goals simp at hk
end
end Go.Aev
