import Derived.Test.YtgkhhafdkdmlpaaGreatTopMostQ4
import Derived.Orders
import Derived.Still
import Derived.Below
import Derived.Deep.Slices
import Derived.Carry
import Derived.ProofKit
import Derived.OpenShut
import Derived.SizedLaws
set_option linter.all false
namespace Go.Aev
open Go Go.IntKind
section
variable {P:Program} {An:cG} {Or:aB} {w w':World} {A A':Nat->Prop} {c:Ctx} {ρ:Id->Option Value} {O:Id->Option Nat} {s s':St}
structure eD (c:Ctx) (nt:Nat) (w:World) (s:St) (ρ:Id->Option Value) (O:Id->Option Nat) (a:Act):Prop where
 hs:HS c w s.h ρ O
 ss:SS w (AA c w O) ρ s.t a.tmps
 nt:a.tmps.size=nt
 defers:a.defers= []
def nS(ops:Array Oper)(s:St):Prop:= ∀k g v,s.t k= (some g,v)->dK ops (some g.d)=true
theorem mY{a:Act}{d k:Nat}{x:Value}(b:d < a.tmps.size):(a.put (some d) x).tmps.getD k undef=if k=d then x else a.tmps.getD k undef:=by
 simp only [Act.put];by_cases e:k=d
 .subst e;simp [b]
 .rw [if_neg e];simp [Vb (Vp e)]
theorem xR(a:Act)(d:Option Nat)(x:Value):(a.put d x).tmps.size=a.tmps.size:=by cases d <;> simp [Act.put]
theorem xP(a:Act)(d:Option Nat)(x:Value):(a.put d x).defers=a.defers:=by cases d <;> rfl
theorem MH{ops:Array Oper}{o:Oper}{a:Act}{g:Option Gs}(J:SS w A ρ s.t a.tmps)(h:dq ops o s some=some g):
  (Region.wanted o (yielded ops a.tmps)=true->jW a.tmps g)/\
  (Region.wanted o (yielded ops a.tmps)=false->∃i,g=some i/\a.tmps.getD i.d undef≠ .bool i.want/\i.c=false)/\
  (∀i,g=some i->dK ops (some i.d)=true\/∀M∈ops,M≠o):=by
 unfold dq at h;cases m:o.guard with
 | none=>simp only [m,Rp] at h;subst h;exact⟨λ_=>trivial,λh=>by simp [Region.wanted,m] at h,λi h=>by cases h⟩
 | some p=>
  obtain⟨j,want⟩:=p;simp only [m] at h;cases y:(ops[j]?).bind (·.dst) with
  | none=>simp [y] at h
  | some d=>
   simp only [y] at h;replace h:=Rq.1 h;obtain⟨x,l,h⟩:=h;have K:Region.wanted o (yielded ops a.tmps)=true↔a.tmps.getD d undef= .bool want:=by
    simp only [Region.wanted,m,yielded,y,RA,beq_iff_eq];rw [Ti];cases a.tmps[d]? with
    | none=>simp [undef]
    | some u=>cases u <;> simp
   have G:∀i,g=some i->i.d=d/\i.want=want:=by intro i e;replace h:=pK h;obtain⟨b,h,_⟩:=h;simp only [Rp] at h;rw [<-h] at e;simp only [Rp] at e;subst e;exact⟨rfl,rfl⟩
   have z:∃i,g=some i:=by replace h:=pK h;obtain⟨b,h,_⟩:=h;simp only [Rp] at h;exact⟨_,h.symm⟩
   obtain⟨i,rfl⟩:=z;obtain⟨D,E⟩:=G i rfl;refine⟨λL=> ?_,λC=>⟨i,rfl, ?_⟩,λV e=> ?_⟩
   .have B:=K.1 L;simp only [jW,D,E];refine⟨B, ?_⟩;have f:=J d;rw [B] at f;cases r:s.t d with
    | mk gd v=>
     rw [r] at f l h;dsimp only at l h f;rw [AV.lN l] at f;cases gd with
     | none=>simp only [ak] at f;simp only [UW] at h;replace h:=aK h (.inl rfl);obtain⟨b,hb,h⟩:=h;simp only [Rp] at h;have:=T.iD hb;subst this;simp only [aw,Value.bool.injEq] at f;rw [<-h,<-f];cases want <;> rfl
     | some N=>
      simp only at f;rcases f with⟨_,k,hv⟩ | ⟨_,_,U⟩
      .simp only [Ts,k] at h;replace h:=aK h (.inr rfl);obtain⟨b,hb,h⟩:=h;simp only [Rp] at h;have:=T.iD hb;subst this;simp only [ak,aw,Value.bool.injEq] at hv;rw [<-h,<-hv];simp only [gC,k];cases want <;> rfl
      .simp [undef] at U
   .have q:a.tmps.getD d undef≠ .bool want:=λQ=>by
     have:=K.2 Q;rw [this] at C;cases C
    refine⟨by rw [D,E];exact q, ?_⟩;have f:=J d;cases r:s.t d with
    | mk gd v=>
     rw [r] at f l h;dsimp only at l h f;rw [AV.lN l] at f;cases gd with
     | none=>simp only [ak] at f;simp only [UW] at h;replace h:=aK h (.inl rfl);obtain⟨b,hb,h⟩:=h;simp only [Rp] at h;have:=T.iD hb;subst this;simp only [aw] at f;have F:b≠want:=λe=>q (by rw [f,e]);rw [<-h];simp only [gC];cases b <;> cases want <;> simp_all [wm]
     | some N=>
      simp only at f;rcases f with⟨_,k,hv⟩ | ⟨_,k,_⟩
      .simp only [Ts,k] at h;replace h:=aK h (.inr rfl);obtain⟨b,hb,h⟩:=h;simp only [Rp] at h;have:=T.iD hb;subst this;simp only [ak,aw] at hv;have F:b≠want:=λe=>q (by rw [hv,e]);rw [<-h];simp only [gC,k];cases b <;> cases want <;> simp_all [wm]
      .replace h:=pK h;obtain⟨b,h,_⟩:=h;simp only [Rp] at h;rw [<-h];simp [gC,k]
   .simp only [Rp] at e;subst e;by_cases hm:o∈ops
    .left;unfold dK;rw [Uu];exact⟨o,hm,by simp [m,y,D]⟩
    .right;intro M I e;exact hm (e▸I)
theorem By{ops:Array Oper}{o:Oper}{g:Option Gs}{v:AV}{us:aG}(b:nS ops s)(p:∀q,g=some q->dK ops (some q.d)=true):nS ops (s.put (dK ops o.dst) o.dst g v us):=by
 intro k m u a;cases r:o.dst with
 | none=>simp only [St.put,r] at a;exact b k m u a
 | some d=>
  simp only [St.put,r] at a;by_cases e:k=d
  .simp only [if_pos e,Sk] at a;exact p m a.1
  .simp only [if_neg e] at a;cases f:dK ops (some d) with
   | false=>rw [f,cond_false] at a;exact b k m u a
   | true=>
    rw [f,cond_true] at a;cases l:s.t k with
    | mk i vk=>
     rw [l] at a;cases i with
     | none=>simp [l8] at a
     | some i=>
      simp only [l8] at a;cases j:(i.d==d) with
      | true=>simp [j] at a
      | false=>simp only [j,cond_false,Sk,Rp] at a;rw [<-a.1];exact b k i vk l
theorem xS{nt:Nat}{ops:Array Oper}{o:Oper}{a:Act}{g:Option Gs}{v:AV}{us:aG}(ss:SS w (AA c w O) ρ s.t a.tmps)(E:a.tmps.size=nt)(D:nS ops s)
  (u:∀d,o.dst=some d->d < nt) (C:∀j d,g=some j->o.dst=some d->j.d≠d)
  (w':World) (ρ':Id->Option Value) (O':Id->Option Nat) (x:Value) (J:∀b,AA c w O b->AA c w' O' b/\w'.heap[b]? =w.heap[b]?) (G:∀i v,ρ i=some v->ρ' i=some v)
  (F:match g with
   | none=>ak w' (AA c w' O') ρ' v x
   | some j=>(a.tmps.getD j.d undef= .bool j.want/\j.c=true/\ak w' (AA c w' O') ρ' v x)\/(a.tmps.getD j.d undef≠ .bool j.want/\j.c=false/\x=undef)):
  SS w' (AA c w' O') ρ' (s.put (dK ops o.dst) o.dst g v us).t (a.put o.dst x).tmps:=by
 have r:=SS.mono J G ss;cases z:o.dst with
 | none=>simp only [St.put,Act.put];exact r
 | some d=>
  have f:d < a.tmps.size:=by rw [E];exact u d z
  intro k;simp only [St.put];by_cases e:k=d
  .subst e;simp only [if_true];cases g with
   | none=>simp only;rw [mY f,if_pos rfl];exact F
   | some j=>have p:j.d≠k:=C j k rfl z;simp only;rw [mY f,mY f,if_neg p,if_pos rfl];exact F
  .simp only [if_neg e];have l:=r k;cases y:dK ops (some d) with
   | false=>
    simp only [cond_false];cases q:s.t k with
    | mk m vk=>
     rw [q] at l;cases m with
     | none=>simp only at l⊢;rw [mY f,if_neg e];exact l
     | some m=>
      have p:m.d≠d:=by intro I;have:=D k m vk q;rw [I,y] at this;cases this
      simp only at l⊢;rw [mY f,mY f,if_neg e,if_neg p];exact l
   | true=>
    simp only [cond_true];cases q:s.t k with
    | mk m vk=>
     rw [q] at l;cases m with
     | none=>simp only [l8] at l⊢;rw [mY f,if_neg e];exact l
     | some m=>
      simp only [l8];cases B:(m.d==d) with
      | true=>simp [ak]
      | false=>
       have p:m.d≠d:=by simpa using B
       simp only [cond_false] at l⊢;rw [mY f,mY f,if_neg e,if_neg p];exact l
theorem SS.rK{tmps:Array Value}{e:Gs}(hs:SS w A ρ s.t tmps)(l:tmps.getD e.d undef= .bool e.want):SS w A ρ (s.rK e).t tmps:=by
 intro k;have b:=hs k;simp only [St.rK];cases f:s.t k with
 | mk i v=>
  rw [f] at b;cases i with
  | none=>simp only [kE,cond_true] at b⊢;exact b
  | some g=>
   by_cases a:kE (some g) (some e)=true
   .simp only [a,cond_true];simp only [kE,Rw,beq_iff_eq] at a;simp only at b;rcases b with⟨_,_,j⟩ | ⟨h1,_⟩
    .exact j
    .exfalso;apply h1;rw [a.1,a.2];exact l
   .simp only [VF] at a;simp only [a,cond_false];exact b
theorem He{E:Bool}{nt:Nat}{ops:Array Oper}{o:Oper}{a:Act}(hO:jc P An Or)(f:eD c nt w s ρ O a)(m:nS ops s)(Z:o∈ops)(h:eU P An Or E nt ops o s=some s'):
  nS ops s'/\∀(K:Act->World->Prop) (Q:Exit->Act->World->Prop),(∀a' w' ρ' O',Le w ρ O w' ρ' O'->eD c nt w' s' ρ' O' a'->K a' w')->
   if Region.wanted o (yielded ops a.tmps) then o.wp P a w K Q\/(o.asks P a w/\LetsOut Q) else K (a.put o.dst undef) w:=by
 unfold eU oJ at h;rw [xk] at h;replace h:=Rq.1 h;obtain⟨g,hg,h⟩:=h;obtain⟨F,y,X⟩:=MH f.ss hg;have r:∀j,g=some j->dK ops (some j.d)=true:=λj e=>(X j e).resolve_right λhn=>hn o Z rfl;cases l:p5 An E o g with
 | none=>
  rw [l] at h;dsimp only at h;rw [qJ] at h;replace h:=Rq.1 h;obtain⟨⟨v,us⟩,L,h⟩:=h;dsimp only at h;split at h
  .rename_i D;simp only [Rp] at h;subst h;simp only [oI,Rw] at D;obtain⟨⟨⟨Y,G⟩,u⟩,_⟩:=D;have k:∀d,o.dst=some d->d < nt:=λd e=>by simpa [e] using Y
   have C:∀j d,g=some j->o.dst=some d->j.d≠d:=λj d U V=>by subst U;simp only [V,Rw,SL,beq_eq_false_iff_ne,ne_eq,Rp] at G;exact λe=>G.2 e.symm
   refine⟨By m r,λK Q J=> ?_⟩;split
   .rename_i p;left;have i:=F p;refine iy.wp (C6 hO f.hs f.ss i L u) λx w' ⟨ρ',O',le,M,hv⟩=> ?_;refine J _ w' ρ' O' le ⟨M, ?_,by rw [xR];exact f.nt,by rw [xP];exact f.defers⟩;refine xS f.ss f.nt m k C w' ρ' O' x (λb hb=>le.A b hb) le.eB ?_;cases g with
    | none=>exact hv
    | some j=>exact .inl ⟨i.1,i.2,hv⟩
   .rename_i p;obtain⟨j,rfl,I,q⟩:=y (by simpa using p);have hus:us= []:=by
     simp only [Rw,U8] at G;exact G.1
    subst hus;refine J _ w ρ O Le.refl ⟨f.hs, ?_,by rw [xR];exact f.nt,by rw [xP];exact f.defers⟩;exact xS f.ss f.nt m k C w ρ O undef (λb hb=>⟨hb,rfl⟩) (λ_ _ h=>h) (.inr ⟨I,q,rfl⟩)
  .simp at h
 | some j=>
  rw [l] at h;dsimp only at h;have hg':g=some j:=by
   cases g with
   | none=>simp [p5] at l
   | some g0=>
    simp only [p5] at l;cases hb:(!E && e9 An o) with
    | false=>rw [hb] at l;cases l
    | true=>rw [hb] at l;simpa using l
  subst hg';cases B:wG nt o j with
  | false=>rw [B] at h;cases h
  | true=>
   rw [B,cond_true] at h;simp only [wG,Rw] at B;have k:∀d,o.dst=some d->d < nt:=λd e=>by simpa [e] using B.1
   have C:∀z d,some j=some z->o.dst=some d->z.d≠d:=λz d U V=>by cases U;have:=B.2;simp only [V,SL,beq_eq_false_iff_ne,ne_eq,Rp] at this;exact λe=>this e.symm
   cases N:j.c with
   | false=>
    rw [N,cond_false] at h;simp only [Rp] at h;subst h;refine⟨By m r,λK Q J=> ?_⟩;split
    .rename_i p;have:=(F p).2;rw [N] at this;cases this
    .rename_i p;obtain⟨z,e,I,q⟩:=y (by simpa using p);cases e;refine J _ w ρ O Le.refl ⟨f.hs, ?_,by rw [xR];exact f.nt,by rw [xP];exact f.defers⟩;exact xS f.ss f.nt m k C w ρ O undef (λb hb=>⟨hb,rfl⟩) (λ_ _ h=>h) (.inr ⟨I,q,rfl⟩)
   | true=>
    rw [N,cond_true,qJ] at h;replace h:=Rq.1 h;obtain⟨⟨v,us⟩,L,h⟩:=h;dsimp only at h;split at h
    .rename_i D;simp only [Rp] at h;subst h;simp only [oI,Rw] at D;obtain⟨⟨⟨_,_⟩,u⟩,_⟩:=D;refine⟨By m r,λK Q J=> ?_⟩;split
     .rename_i p;left;have i:=F p;refine iy.wp (C6 (s:=s.rK j) (g:=none) hO f.hs (f.ss.rK i.1) trivial L u) λx w' ⟨ρ',O',le,M,hv⟩=> ?_;refine J _ w' ρ' O' le ⟨M, ?_,by rw [xR];exact f.nt,by rw [xP];exact f.defers⟩;exact xS f.ss f.nt m k C w' ρ' O' x (λb hb=>le.A b hb) le.eB (.inl ⟨i.1,i.2,hv⟩)
     .rename_i p;obtain⟨z,e,I,q⟩:=y (by simpa using p);cases e;rw [N] at q;cases q
    .simp at h
theorem eD.clear{nt:Nat}{a:Act}(b:eD c nt w s ρ O a):eD c nt w s.clear ρ O a:=by
 refine⟨b.hs,λk=> ?_,b.nt,b.defers⟩;have:=b.ss k;simp only [St.clear];cases d:s.t k with
 | mk e vk=>
  rw [d] at this;cases e with
  | none=>exact this
  | some g=>simp [ak]
def nN(s:St):Prop:= ∀k g v,s.t k≠(some g,v)
theorem Ka(s:St):nN s.clear:=by intro k g v h;simp only [St.clear] at h;split at h <;> simp at h
theorem nN.FX(h:nN s)(ops:Array Oper):nS ops s:=λk g v e=>(h k g v e).elim
theorem HQ{g:Bool}{nt:Nat}{ops:Array Oper}(y:jc P An Or){Q:Exit->Act->World->Prop}:∀{l:List Oper} {k:Nat} {w:World} {s:St} {ρ:Id->Option Value} {O:Id->Option Nat} {a:Act},
  (∀j,l[j]? =ops[k+j]?)->eD c nt w s ρ O a->nS ops s->iS P An Or g nt ops l s=some s'->
  (∀f w' ρ' O',Le w ρ O w' ρ' O'->eD c nt w' s' ρ' O' f->Q .normal f w')->wpOps P ops Q (List.range' k l.length) a w
 | [],k,w,s,ρ,O,a,p,b,e,h,i=>by simp only [iS,Rp] at h;subst h;exact i a w ρ O Le.refl b
 | o::l,k,w,s,ρ,O,a,p,b,e,h,i=>by
  simp only [iS] at h;obtain⟨s1,h1,h⟩:=Rq.1 h;have x:ops[k]? =some o:=by simpa using (p 0).symm
  obtain⟨m,step⟩:=He y b e (RT x) h1;rw [RP,Ui];simp only [wpOps,x];refine step _ Q λf w' ρ' O' le q=> ?_;exact HQ y (λj=>by have:=p (j+1);simpa [Uc,Ve 1 j] using this) q m h
   (λv B r u z d=>i v B r u (le.trans z) d)
theorem OG{nt id:Nat}{ops:Array Oper}{a:Act}(f:jc P An Or){Q:Exit->Act->World->Prop}(e:eD c nt w s ρ O a)(hb:nN s)(h:iS P An Or false nt ops ops.toList s=some s')
  (g:∀b w' ρ' O',Le w ρ O w' ρ' O'->eD c nt w' s'.clear ρ' O' b->Q .normal b w'):(Code.region id ops false).wp P Q a w:=by
 refine wp_region ?_;rw [UK,<-RR];exact HQ f (by intro j;simp) e (hb.FX ops) h λb w' ρ' O' le d=>g b w' ρ' O' le d.clear
end
open Go Go.IntKind
section
variable {P:Program} {A:cG} {O:aB} {R:Type} {h h':Id->Option ab} {s s':St}
theorem jE{v:AV}{vs:List AV}{i:Id}:i∈bT (v::vs)↔i∈v.ids\/i∈bT vs:=by simp [bT]
theorem rX{v:AV}(a:∀i∈v.ids,h' i=h i):dt h' v=dt h v:=by
 cases v <;> simp only [dt]
 all_goals rw [a _ (by simp [AV.ids])]
theorem xc{v:AV}(a:∀i∈v.ids,h' i=h i):gM h' v=gM h v:=by
 cases v <;> simp only [gM]
 all_goals rw [a _ (by simp [AV.ids])]
theorem Iu:∀{vs:List AV},(∀i∈bT vs,h' i=h i)->kI h' vs=kI h vs
 | [],_=>rfl
 | v::vs,a=>by simp only [kI];rw [rX λi hi=>a i (jE.2 (.inl hi)),Iu λi hi=>a i (jE.2 (.inr hi))]
theorem FA:∀{vs:List AV},(∀i∈bT vs,h' i=h i)->mb h' vs=mb h vs
 | [],_=>rfl
 | v::vs,a=>by simp only [mb];rw [xc λi hi=>a i (jE.2 (.inl hi)),FA λi hi=>a i (jE.2 (.inr hi))]
theorem Ix{v:AV}(a:∀i∈v.ids,h' i=h i):kH h' v=kH h v:=by
 cases v
 case agg vs=>simp only [kH];exact Iu (by simpa [AV.ids] using a)
 all_goals (simp only [kH];rw [rX a])
theorem FD{v:AV}(a:∀i∈v.ids,h' i=h i):gz h' v=gz h v:=by
 cases v
 case agg vs=>simp only [gz];exact FA (by simpa [AV.ids] using a)
 all_goals (simp only [gz];rw [xc a])
theorem C9{fl:Bool}{v:AV}(a:∀i∈v.ids,h' i=h i):ju fl false h' v=ju fl false h v:=by
 cases v
 case ref i off=>simp only [ju,cond_false];rw [a i (by simp [AV.ids]),rX a,xc a]
 all_goals (simp only [ju];rw [rX a,xc a])
theorem vT{fl:Bool}:∀{vs:List AV},(∀i∈bT vs,h' i=h i)->lX fl false h' vs=lX fl false h vs
 | [],_=>rfl
 | v::vs,a=>by simp only [lX];rw [C9 λi hi=>a i (jE.2 (.inl hi)),vT λi hi=>a i (jE.2 (.inr hi))]
theorem Dd{fl:Bool}{v:AV}(d:∀i∈v.ids,h' i=h i):kR fl false h' v=kR fl false h v:=by
 cases v
 case agg vs=>simp only [kR];rw [vT (by simpa [AV.ids] using d)]
 case fn f a b=>simp only [AV.ids,RM] at d;simp only [kR];rw [vT λi hi=>d i (.inl hi),vT λi hi=>d i (.inr hi)]
 all_goals (simp only [kR];rw [C9 d])
theorem Df{fl:Bool}:∀{vs:List AV},(∀i∈bT vs,h' i=h i)->kS fl false h' vs=kS fl false h vs
 | [],_=>rfl
 | v::vs,a=>by simp only [kS];rw [Dd λi hi=>a i (jE.2 (.inl hi)),Df λi hi=>a i (jE.2 (.inr hi))]
theorem tB:∀{a b:List AV} {i:Id},i∈bT (a++b)↔i∈bT a\/i∈bT b
 | [],b,i=>by simp [bT]
 | v::a,b,i=>by rw [Rx,jE,jE,tB,or_assoc]
theorem AM:∀{vs:List AV} {i:Id},i∈bT vs->∃v∈vs,i∈v.ids
 | v::vs,i,hi=>by
  rcases jE.1 hi with hi | hi
  .exact⟨v,Rs,hi⟩
  .obtain⟨u,h1,a⟩:=AM hi;exact⟨u,Ru _ h1,a⟩
 | [],i,hi=>by simp [bT] at hi
theorem zE{d:Nat}{c:Option Bool}{f:FuncId}{args:List AV}{K:AV->aG->Option R}(a:s'.h=s.h\/(A.ig f=none/\A.deep f=false/\∀i∈bT args,s'.h i=s.h i)):gw P A O s' d c f args K=gw P A O s d c f args K:=by
 unfold gw;rcases a with a | ⟨hb,b,a⟩
 .rw [a]
 .have e:∀fl,kS fl false s'.h args=kS fl false s.h args:=λfl=>Df a;simp only [hb,b,e]
theorem BO{c:Option Bool}{i:Id}{n:Nat}{K:Nat->Bool->List (List T)->Option R}(a:h' i=h i):lI h' c i n K=lI h c i n K:=by unfold lI;rw [a]
theorem J0{gX:Bool}{d:Nat}{c:Option Bool}{f:FuncId}{args:List AV}{K:AV->aG->Option R}(a:s'.h=s.h\/(gX=false/\A.ig f=none/\A.deep f=false/\∀i∈bT args,s'.h i=s.h i)):je gX P A O s' d c f args K=je gX P A O s d c f args K:=by
 rcases a with a | ⟨rfl,a⟩
 .unfold je;rw [a];cases cond gX (nA args) none with
  | none=>exact zE (.inl a)
  | some q=>obtain⟨b,i,n,e⟩:=q;dsimp only;split <;> rfl
 .exact zE (.inr a)
theorem M6{c:Option Bool}{t:TypeId}{a:AV}{K:AV->Option R}(b:∀i∈a.ids,s'.h i=s.h i):jH P s' c t a K=jH P s c t a K:=by unfold jH;cases a <;> (try rfl) <;> (simp only [];first | rw [BO (b _ (by simp [AV.ids]))] | rw [b _ (by simp [AV.ids])])
theorem PS{t:TypeId}{a v:AV}{K:aG->Option R}(b:∀i∈a.ids,s'.h i=s.h i)(hv:∀i∈v.ids,s'.h i=s.h i):iW P s' t a v K=iW P s t a v K:=by
 unfold iW;cases a <;> (try rfl) <;> (simp only [];rw [b _ (by simp [AV.ids])];try rw [Ix hv,FD hv]);cases v
 case own j=>simp only [hv j (by simp [AV.ids])]
 all_goals rfl
theorem MK{c:Option Bool}{t:TypeId}{x:AV}{i:Int}{K:AV->Option R}(a:∀i∈x.ids,s'.h i=s.h i):jk P s' c t x i K=jk P s c t x i K:=by
 unfold jk;cases x
 case row i n=>simp only [BO (a i (by simp [AV.ids]))]
 all_goals first | rfl | (simp only [];rw [a _ (by simp [AV.ids])])
theorem MZ{c:Option Bool}{t:TypeId}{x:AV}{K:AV->Option R}(a:∀i∈x.ids,s'.h i=s.h i):m5 P s' c t x K=m5 P s c t x K:=by
 unfold m5;cases x
 case row i n=>simp only [BO (a i (by simp [AV.ids]))]
 all_goals first | rfl | (simp only [];rw [a _ (by simp [AV.ids])])
theorem PF{c:Option Bool}{t:TypeId}{x:AV}{a hi b:Option Int}{K:AV->Option R}(d:∀i∈x.ids,s'.h i=s.h i):nE P s' c t x a hi b K=nE P s c t x a hi b K:=by unfold nE;cases x <;> (try rfl) <;> (simp only [];rw [d _ (by simp [AV.ids])])
theorem F0{t:TypeId}{x:AV}(a:∀i∈x.ids,s'.h i=s.h i):jl P s' t x=jl P s t x:=by
 unfold jl;cases x
 case own i=>simp only [a i (by simp [AV.ids])]
 case t z=>cases z <;> rfl
 all_goals rfl
theorem Jx{t:TypeId}{sz:Nat}{a:List T}{y:AV}{K:List (List T)->Option R}(b:∀i∈y.ids,s'.h i=s.h i):lW P s' t sz a y K=lW P s t sz a y K:=by unfold lW;rw [rX b]
theorem Jn{d:Nat}{t ty:TypeId}{x y:AV}{K:AV->aG->Option R}(a:∀i∈x.ids,s'.h i=s.h i)(hy:∀i∈y.ids,s'.h i=s.h i):jZ P s' d false t ty x y K=jZ P s d false t ty x y K:=by
 unfold jZ;simp only [cond_false];cases x <;> simp only [Jx hy]
 case own i=>rw [a i (by simp [AV.ids])]
 case part i sz off n=>rw [a i (by simp [AV.ids])]
 all_goals rfl
theorem Nf{c:Option Bool}{t:TypeId}{x k:AV}{ok:Bool}{K:AV->Option R}(a:∀i∈x.ids,s'.h i=s.h i):m7 P s' c t x k ok K=m7 P s c t x k ok K:=by unfold m7;cases x <;> (try rfl) <;> (simp only [];rw [a _ (by simp [AV.ids])])
theorem Ol{t:TypeId}{x k v:AV}{K:aG->Option R}(a:∀i∈x.ids,s'.h i=s.h i):nr P s' t x k v K=nr P s t x k v K:=by unfold nr;cases x <;> (try rfl) <;> (simp only [];rw [a _ (by simp [AV.ids])])
theorem Kl{t:TypeId}{x k:AV}{K:aG->Option R}(a:∀i∈x.ids,s'.h i=s.h i):mN P s' t x k K=mN P s t x k K:=by unfold mN;cases x <;> (try rfl) <;> (simp only [];rw [a _ (by simp [AV.ids])])
theorem EF{e:TypeId}{ev:Operand->AV}:∀{a:List (Nat×Operand)} {n:Nat},(∀x∈a.map (·.2),∀i∈(ev x).ids,h' i=h i)->iq P h' e ev n a=iq P h e ev n a
 | [],n,_=>rfl
 | (k,o)::a,n,b=>by simp only [iq];rw [Ix (b o (by simp)),FD (b o (by simp)),EF λx d=>b x (by simp only [RX];exact Ru _ d)]
theorem EG{e:TypeId}{ev b:Operand->AV}:∀{a:List (Nat×Operand)} {n:Nat},(∀x∈a.map (·.2),b x=ev x)->iq P h e b n a=iq P h e ev n a
 | [],n,_=>rfl
 | (k,o)::a,n,d=>by simp only [iq];rw [d o (by simp),EG λx f=>d x (by simp only [RX];exact Ru _ f)]
theorem Hr{t:TypeId}{ev b:Operand->AV}:∀{a:List (Nat×Operand)},(∀x∈a.map (·.2),b x=ev x)->oM P t b a=oM P t ev a
 | [],_=>rfl
 | (k,o)::a,d=>by simp only [oM];rw [d o (by simp),Hr λx e=>d x (by simp only [RX];exact Ru _ e)]
theorem ru{g:Option Gs}{x:Operand}(a:∀k,x= .tmp k->s'.t k=s.t k):s'.get g x=s.get g x:=by
 cases x with
 | tmp k=>show(cond (kE (s'.t k).1 g) (s'.t k).2 AV.top)=cond (kE (s.t k).1 g) (s.t k).2 AV.top;rw [a k rfl]
 | _=>rfl
theorem FK{g:Option Gs}{b x:Operand}{w:Bool}(a:∀k,x= .tmp k->s'.t k=s.t k):s'.mh g b w x=s.mh g b w x:=by
 unfold St.mh;split
 .rw [a _ rfl]
 .exact ru a
set_option maxHeartbeats 1000000 in
theorem kQ{g:Option Gs}{o:Oper}(F:∀x∈o.op.operands,∀k,x= .tmp k->s'.t k=s.t k)(J:fT P o=true\/iM o=true\/s'.h=s.h\/(e9 A o=false/\eS A o=false/\∀x∈o.op.operands,∀i∈(s.get g x).ids,s'.h i=s.h i)):
  df P A O g o s'=df P A O g o s:=by
 have eg:∀x∈o.op.operands,s'.get g x=s.get g x:=λx l=>ru (F x l);have j:fT P o=true\/iM o=true\/∀x∈o.op.operands,∀i∈(s.get g x).ids,s'.h i=s.h i:=by
  rcases J with h | h | h | h
  .exact .inl h
  .exact .inr (.inl h)
  .exact .inr (.inr λ_ _ i _=>by rw [h])
  .exact .inr (.inr h.2.2)
 have hw:∀p,o.op= .call p->∀f,p.callee= .value f->fT P o=false:=by intro p h1 f h2;simp [fT,h1,h2]
 have X:∀p,o.op= .call p->iM o=false:=by intro p h1;simp [iM,h1]
 have L:fT P o=true\/iM o=true\/s'.h=s.h\/(e9 A o=false/\eS A o=false):=J.imp id (Or.imp id (Or.imp id λh=>⟨h.1,h.2.1⟩));unfold df jd;cases q:o.op <;> rw [q] at F eg j <;> simp only [fT,iM,q,RS,false_or] at j <;> dsimp only <;> simp only [Op.operands] at F eg j
 case pick a b x=>rw [eg a (by simp),FK (F b (by simp)),FK (F x (by simp))]
 case build t U=>unfold vX;rw [Hr (ev:=s.get g) (by simpa using eg)]
 case buildSlice t n U=>
  have B:∀e,iq P s'.h e (s'.get g) 0 U.toList=iq P s.h e (s.get g) 0 U.toList:=λe=>by rw [EG (ev:=s.get g) (by simpa using eg),EF (by simpa using j)]
  simp only [B];congr 1;funext e;split
  .split
   .rename_i x _ Z;rw [eg x (by simp [Z])]
   .rfl
  .rfl
 case load t x=>rw [eg x (by simp),M6 (j x (by simp))]
 case store t x y=>rw [eg x (by simp),eg y (by simp),PS (j x (by simp)) (j y (by simp))]
 case binOp op t x y ty=>
  rw [eg x (by simp),eg y (by simp)];rcases j with j | j
  .simp only [SL,Vc] at j;rw [j.1,j.2];cases op <;> rfl
  .rw [F0 (j x (by simp)),F0 (j y (by simp))]
 case convert src dst x=>rw [eg x (by simp),rX (j x (by simp))]
 case makeFunc fn G E=>
  cases fn <;> try rfl
  have B:G.toList.map (s'.get g)=G.toList.map (s.get g):=Tr λx l=>eg x (by simp at l⊢;exact .inl l);have e2:E.toList.map (s'.get g)=E.toList.map (s.get g):=Tr λx l=>eg x (by simp at l⊢;exact .inr l);simp only [B,e2]
 case slice t x N hi Q=>
  have eb:∀(o:Option Operand) (c:Option Bool) (K:Option Int->Option (AV×aG)),(∀y,o=some y->y∈#[x] ++N.toArray++hi.toArray++Q.toArray)->iE s' c g o K=iE s c g o K:=by
   intro o c K hm;unfold iE;cases o with
   | none=>rfl
   | some y=>simp only [eg y (hm y rfl)]
  have l:x∈#[x] ++N.toArray++hi.toArray++Q.toArray:=by simp
  rw [eg x l];simp only [PF (j x l)];rw [eb N _ _ (by intro y e;subst e;simp)];congr 1;funext lo';rw [eb hi _ _ (by intro y e;subst e;simp)];congr 1;funext hi';rw [eb Q _ _ (by intro y e;subst e;simp)]
 case indexAddr t x i=>rw [eg x (by simp),eg i (by simp)];simp only [MK (j x (by simp))]
 case call p=>
  simp only [Call.operands] at eg j;split
  .rename_i m;split
   .rename_i x t ts l _;have hm:x∈(match p.callee with | .value f=> #[f] | .invoke r _=> #[r] | .builtin _=> #[])++p.args:=by
     simp [<-Array.mem_toList_iff,l]
    rw [eg x hm];rcases j with j | j
    .simp [m] at j
    .exact MZ (j x hm)
   .rfl
  .rename_i m;split
   .rename_i x y t u _ l _;have hm:∀z,(z=x\/z=y)->z∈(match p.callee with | .value f=> #[f] | .invoke r _=> #[r] | .builtin _=> #[])++p.args:=by
     intro z hz;simp [<-Array.mem_toList_iff,l,hz]
    rw [eg x (hm x (.inl rfl)),eg y (hm y (.inr rfl))];rcases j with j | j
    .simp [m] at j
    .cases hn:(A.nk o.dst o.type==3) with
     | false=>exact Jn (j x (hm x (.inl rfl))) (j y (hm y (.inr rfl)))
     | true=>
      rcases L with h | h | h | h
      .simp [fT,q,m] at h
      .simp [iM,q] at h
      .have:∀(d:Nat) (b:Bool) (t ty:TypeId) (x y:AV) (K:AV->aG->Option (AV×aG)),jZ P s' d b t ty x y K=jZ P s d b t ty x y K:=λd b t ty x y K=>by
        unfold jZ pq lW;rw [h]
       exact this _ _ _ _ _ _ _
      .have:=h.2;simp [eS,q,m,hn] at this
   .rfl
  .have B:p.args.toList.map (s'.get g)=p.args.toList.map (s.get g):=Tr λx l=>eg x (by simp at l⊢;exact .inr l);rw [B]
  .have B:p.args.toList.map (s'.get g)=p.args.toList.map (s.get g):=Tr λx l=>eg x (by simp at l⊢;exact .inr l);rw [B]
  .rename_i m;split
   .rename_i x y t ts _ l _;have hm:∀z,(z=x\/z=y)->z∈(match p.callee with | .value f=> #[f] | .invoke r _=> #[r] | .builtin _=> #[])++p.args:=by
     intro z hz;simp [<-Array.mem_toList_iff,l,hz]
    rw [eg x (hm x (.inl rfl)),eg y (hm y (.inr rfl))];rcases j with j | j
    .simp [m] at j
    .exact Kl (j x (hm x (.inl rfl)))
   .rfl
  .rename_i m;split
   .rename_i x t ts l _;have hm:x∈(match p.callee with | .value f=> #[f] | .invoke r _=> #[r] | .builtin _=> #[])++p.args:=by
     simp [<-Array.mem_toList_iff,l]
    rw [eg x hm]
   .rfl
  .rename_i D m;have B:p.args.toList.map (s'.get g)=p.args.toList.map (s.get g):=Tr λx l=>eg x (by simp at l⊢;exact .inr l);have I:D∈(match p.callee with | .value f=> #[f] | .invoke r _=> #[r] | .builtin _=> #[])++p.args:=by simp [m]
   rw [B,eg D I];rcases j with j | j
   .simp [m] at j
   .cases hv:s.get g D <;> try rfl
    rename_i f a b;have C:=j D I;rw [hv] at C;simp only [AV.ids,RM] at C;refine J0 ?_;have M:∀i∈bT (a++p.args.toList.map (s.get g)++b),s'.h i=s.h i:=by
     intro i hi;rcases tB.1 hi with hi | hi
     .rcases tB.1 hi with hi | hi
      .exact C i (.inl hi)
      .obtain⟨v,hv,hi⟩:=AM hi;obtain⟨x,l,rfl⟩:=RU.1 hv;exact j x (by simp at l⊢;exact .inr l) i hi
     .exact C i (.inr hi)
    rcases L with h | h | h | h
    .rw [hw p q D m] at h;cases h
    .rw [X p q] at h;cases h
    .exact .inl h
    .obtain⟨h,Y⟩:=h;simp only [e9,q,m] at h;simp only [eS,q,m] at Y;cases D with
     | func V=>
      simp only [St.get] at hv;obtain⟨rfl,_,_⟩:V=f/\_/\_:=by simpa using hv
      cases hb:A.ig V with
      | some x=>dsimp only at h;rw [hb] at h;simp at h
      | none=>exact .inr ⟨rfl,rfl,Y,M⟩
     | _=>simp at h
  .rfl
 case move x=>rw [eg x (by simp)]
 case assign x=>rw [eg x (by simp)]
 case box t x=>rw [eg x (by simp)]
 case nilCheck x=>rw [eg x (by simp)]
 case unOp op t x=>rw [eg x (by simp)]
 case makeSlice t x y=>rw [eg x (by simp),eg y (by simp)]
 case lookup t x k ok=>rw [eg x (by simp),eg k (by simp),Nf (j x (by simp))]
 case mapUpdate t x k v=>rw [eg x (by simp),eg k (by simp),eg v (by simp),Ol (j x (by simp))]
 case fieldAddr t x f=>rw [eg x (by simp)]
 case field t x f=>rw [eg x (by simp)]
 case index t x i=>rw [eg x (by simp),eg i (by simp)]
 case extract x k=>rw [eg x (by simp)]
theorem JC{fk:List Id}{b:Bool}{v:AV}(a:∀i∈v.ids,h' i=h i):sS h' fk b v=sS h fk b v:=by unfold sS;rw [Dd a]
theorem Db{fk:List Id}:∀{fl:List Bool} {vs:List AV},(∀i∈bT vs,h' i=h i)->lY h' fk fl vs=lY h fk fl vs
 | _,[],_=>by simp [lY]
 | fl,v::vs,a=>by simp only [lY];rw [JC λi hi=>a i (jE.2 (.inl hi)),Db λi hi=>a i (jE.2 (.inr hi))]
theorem yA{N:Id->Prop}:∀{us:aG} {h h':Id->Option ab},(∀i,¬N i->h' i=h i)->∀i,¬N i->aJ h' us i=aJ h us i
 | [],_,_,a,i,hi=>a i hi
 | (j,b)::us,h,h',a,i,hi=>by
  rw [cX,cX];refine yA (N:=N) (λk d=> ?_) i hi;by_cases e:k=j
  .subst e;rw [aC,aC]
  .rw [aq _ _ e,aq _ _ e];exact a k d
theorem Ob{N:Id->Prop}{new i:Id}{k sz:Nat}{us:aG}(a:∀i,¬N i->h' i=h i)(hi:¬N i)(d:¬N new)(l:∀p∈us,¬N p.1)(e:oK h new i k sz=some us):oK h' new i k sz=some us:=by
 unfold oK at e⊢;cases hb:Nat.ble 100000 sz with
 | true=>rw [hb,cond_true] at e;rw [cond_true];unfold rR at e⊢;rw [a i hi,a new d];exact e
 | false=>
 rw [hb,cond_false] at e;rw [cond_false];rw [a i hi,a new d];split at e
 .rename_i cs hi
  try simp only [hi]
  split at e
  .exact e
  .exact e
  .exact e
  .rename_i j r n u;split at e
   .rename_i q b xs o;split at e
    .rename_i m;have f:¬N j:=by
      cases g:(h new).isNone with
      | false=>rw [g] at e;simp at e
      | true=>rw [g] at e;simp only [cond_true,Rp] at e;subst e;exact l (j,_) Rs
     rw [a j f,o];simp only [if_pos m];exact e
    .cases e
   .cases e
  .cases e
 .cases e
theorem Hx{N:Id->Prop}{f:Nat}(a:∀k,¬N (.s f k)):∀{l:List (Id×Nat×Nat)} {j:Nat} {h h':Id->Option ab} {us:aG},(∀i,¬N i->h' i=h i)->(∀q∈l,¬N q.1)->(∀p∈us,¬N p.1)->jK f j h l=some us->jK f j h' l=some us
 | [],_,_,_,_,_,_,_,e=>e
 | (i,k,sz)::l,j,h,h',us,g,m,b,e=>by simp only [jK] at e⊢;obtain⟨v,o,e⟩:=Rq.1 e;obtain⟨x,r,e⟩:=Rq.1 e;simp only [Rp] at e;subst e;rw [Ob g (m (i,k,sz) Rs) (a j) (λp d=>b p (RD _ d)) o];simp only [RA];rw [Hx a (yA g) (λq u=>m q (Ru _ u)) (λp d=>b p (RE _ d)) r];rfl
theorem uf:∀{n:Nat} {todo a seen:List Id},eW h n todo a=some seen->(∀i∈seen,h' i=h i)->eW h' n todo a=some seen
 | 0,todo,a,seen,e,_=>by simp [eW] at e
 | n+1,[],a,seen,e,_=>e
 | n+1,i::todo,a,seen,e,hs=>by
  simp only [eW] at e⊢;cases b:a.contains i with
  | true=>rw [b,cond_true] at e;rw [cond_true];exact uf e hs
  | false=>
   rw [b,cond_false] at e;rw [cond_false];have hm:i∈seen:=by
    have:a++ [i] <+:seen:=by
     split at e
     .exact oQ e
     .exact oQ e
     .exact oQ e
     .cases e
    exact this.subset (RE _ (RF.2 rfl))
   rw [hs i hm];split at e
   .exact uf e hs
   .exact uf e hs
   .exact uf e hs
   .cases e
theorem zQ:∀{l seen:List Id},∀i∈py l seen,i∈l
 | [],_,i,hi=>by simp [py] at hi
 | j::l,seen,i,hi=>by
  simp only [py] at hi;cases a:seen.contains j with
  | true=>rw [a,cond_true] at hi;exact Ru _ (zQ i hi)
  | false=>
   rw [a,cond_false] at hi;rcases RC.1 hi with rfl | hi
   .exact Rs
   .exact Ru _ (zQ i hi)
theorem xU{i:Id}:∀{l:List bR} {k:Nat},∀q∈nw i k l,q.1=i
 | [],_,q,a=>by simp [nw] at a
 | r::l,k,q,a=>by
  cases r with
  | own sz=>
   simp only [nw] at a;rcases RC.1 a with rfl | a
   .rfl
   .exact xU q a
  | rows sz az rsz=>
   simp only [nw] at a;rcases RC.1 a with rfl | a
   .rfl
   .exact xU q a
  | _=>simp only [nw] at a;exact xU q a
theorem BE:∀{d:List Id} {bs:List jr},∀q∈ny d bs,q.1∈d
 | [],bs,q,a=>by cases bs <;> simp [ny] at a
 | i::d,[],q,a=>by simp [ny] at a
 | i::d,b::bs,q,a=>by
  cases b with
  | box l=>
   simp only [ny,RM] at a;rcases a with a | a
   .rw [xU q a];exact Rs
   .exact Ru _ (BE q a)
  | _=>simp only [ny] at a;exact Ru _ (BE q a)
theorem JZ{N:Id->Prop}{d:Nat}{c:Option Bool}{f:FuncId}{args:List AV}{v:AV}{us:aG}(E:∀i,¬N i->s'.h i=s.h i)(J:A.deep f=false)(l:∀i∈bT args,¬N i)(F:∀k,¬N (.s (2000000+d) k))(D:∀p∈us,¬N p.1)
  (e:gw P A O s d c f args (λv u=>some (v,u))=some (v,us)):gw P A O s' d c f args (λv u=>some (v,u))=some (v,us):=by
 cases hb:A.ig f with
 | none=>rw [zE (.inr ⟨hb,J,λi hi=>E i (l i hi)⟩)];exact e
 | some fl=>
  unfold gw at e⊢;cases C:P.funcs[f]? with
  | none=>rw [C] at e;simp at e
  | some fn=>
   simp only [C,hb] at e⊢;cases c with
   | some b=>simp at e
   | none=>
    simp only at e⊢;rw [Db λi hi=>E i (l i hi)];obtain⟨p,L,e⟩:=Rq.1 e;rw [L,RA];obtain⟨a,G,e⟩:=Rq.1 e;obtain⟨seen,m,e⟩:=Rq.1 e;obtain⟨_,_,I,_,_⟩:=ug m UZ (by simp) (by simp);have e0:=e;have g:(∀q∈a,¬N q.1)/\∀i∈seen,¬N i:=by
     cases B:(xH d seen && Nat.beq (gU (seen.map λi=>gO seen (aJ (aJ s.h p.2) a i)).head?) (gU ((bT p.1).head?.bind (aJ s.h p.2)))) with
     | false=>rw [B] at e;simp at e
     | true=>
      rw [B,cond_true] at e;obtain⟨pt,e,_⟩:=yw (.inl rfl) e;obtain⟨xs,_,e⟩:=aK e (.inl rfl);rw [show ∀(n:Nat),(dL seen d none 0 (dc P A f n fn) xs λvs u j=>fR seen d j seen (gN A f n) (xs.drop (mB (dc P A f n fn))) λq=>(some (lH vs,p.2++a++jy seen++u++q):Option (AV×aG)))=
       ((dL seen d none 0 (dc P A f n fn) xs λvs u j=>some (vs,u,j)).bind λy=>(fR seen d y.2.2 seen (gN A f n) (xs.drop (mB (dc P A f n fn))) some).bind λq=>some (lH y.1,p.2++a++jy seen++y.2.1++q)) from λn=>by
        rw [px];congr 1;funext vs u j;simp only [RA];rw [wB];rfl] at e
      obtain⟨y,_,e⟩:=Rq.1 e;obtain⟨q,_,e⟩:=Rq.1 e;simp only [Rp,Sk] at e;obtain⟨_,rfl⟩:=e;refine⟨λx Q=>D x ?_,λi hi=>D (i, .dead) ?_⟩
      .exact RD _ (RD _ (RD _ (RE _ Q)))
      .exact RD _ (RD _ (RE _ (RU.2 ⟨i,hi,rfl⟩)))
    have o:∀i,¬N i->aJ s'.h p.2 i=aJ s.h p.2 i:=yA E;have z:∀i,¬N i->aJ (aJ s'.h p.2) a i=aJ (aJ s.h p.2) a i:=yA o;have r:(bT p.1).head?.bind (aJ s'.h p.2)= (bT p.1).head?.bind (aJ s.h p.2):=by
     cases K:(bT p.1).head? with
     | none=>rfl
     | some i=>exact o i (g.2 i (I i (List.mem_of_mem_head? (by rw [K];rfl))))
    rw [r];rw [Hx F o (λq M=>g.2 q.1 (I q.1 (zQ q.1 (BE q M)))) g.1 G,RA];rw [uf m λi hi=>z i (g.2 i hi),RA];have hm:(seen.map λi=>gO seen (aJ (aJ s'.h p.2) a i))=seen.map λi=>gO seen (aJ (aJ s.h p.2) a i):=Tr λi hi=>by rw [z i (g.2 i hi)]
    rw [hm];exact e0
theorem vS{N:Id->Prop}{g:Option Gs}{o:Oper}{v:AV}{us:aG}(I:∀x∈o.op.operands,∀k,x= .tmp k->s'.t k=s.t k)(G:∀i,¬N i->s'.h i=s.h i)(y:eS A o=false)(j:∀x∈o.op.operands,∀i∈(s.get g x).ids,¬N i)
  (D:∀k,¬N (.s (2000000+o.dst.getD 0) k)) (J:∀p∈us,¬N p.1) (e:df P A O g o s=some (v,us)):df P A O g o s'=some (v,us):=by
 cases E:e9 A o with
 | false=>rw [kQ (s:=s) I (.inr (.inr (.inr ⟨E,y,λx m i hi=>G i (j x m i hi)⟩)))];exact e
 | true=>
  have eg:∀x∈o.op.operands,s'.get g x=s.get g x:=λx m=>ru (I x m);cases u:o.op <;> simp only [e9,u,RS] at E;rename_i z;cases d:z.callee <;> simp only [d,RS] at E;rename_i q;unfold df jd at e⊢;rw [u] at e j eg⊢;simp only [Op.operands,Call.operands] at j eg;simp only [d] at e⊢;have K:z.args.toList.map (s'.get g)=z.args.toList.map (s.get g):=Tr λx m=>eg x (by simp at m⊢;exact .inr m);have C:q∈(match z.callee with | .value f=> #[f] | .invoke r _=> #[r] | .builtin _=> #[])++z.args:=by simp [d]
  rw [K,eg q C];cases hv:s.get g q <;> rw [hv] at e <;> simp only [reduceCtorEq] at e;rename_i f a b;have l:=j q C;rw [hv] at l;simp only [AV.ids,RM] at l;have B:A.deep f=false:=by
   simp only [eS,u,d] at y;cases q with
   | func F=>
    simp only [St.get] at hv;obtain⟨rfl,_,_⟩:F=f/\_/\_:=by simpa using hv
    exact y
   | _=>simp at y
  have L:Gb q=false:=by
   simp only [eS,u,d] at y;cases q with
   | func F=>rfl
   | _=>simp at y
  dsimp only at e⊢;rw [L,J1] at e⊢;refine JZ G B ?_ D J e;intro i hi;rcases tB.1 hi with hi | hi
  .rcases tB.1 hi with hi | hi
   .exact l i (.inl hi)
   .obtain⟨v,hv,hi⟩:=AM hi;obtain⟨x,m,rfl⟩:=RU.1 hv;exact j x (by simp at m⊢;exact .inr m) i hi
  .exact l i (.inr hi)
end
open Go Go.IntKind
section
variable {P:Program} {An:cG} {Or:aB} {w w':World} {A A':Nat->Prop} {c:Ctx} {ρ:Id->Option Value} {O:Id->Option Nat} {s s' s1 s2:St} {h:Id->Option ab} {ops:Array Oper} {nt:Nat}
structure sO (P:Program) (An:cG) (Or:aB) (nt:Nat) (ops:Array Oper) (o:Oper) (s:St) (g:Option Gs) (v:AV) (us:aG):Prop where
 guard:dq ops o s some=some g
 op:df P An Or g o s=some (v,us)
 ok:oI P An true nt ops o g s us=true
theorem Iz{o:Oper}{g:Option Gs}:p5 An true o g=none:=by cases g <;> rfl
theorem Bp{o:Oper}(e:eU P An Or true nt ops o s=some s'):∃g v us,sO P An Or nt ops o s g v us/\s'=s.put (dK ops o.dst) o.dst g v us:=by
 unfold eU oJ at e;rw [xk] at e;replace e:=Rq.1 e;obtain⟨g,d,e⟩:=e;rw [Iz] at e;dsimp only at e;rw [qJ] at e;replace e:=Rq.1 e;obtain⟨⟨v,us⟩,b,e⟩:=e;dsimp only at e;split at e
 .rename_i a;simp only [Rp] at e;exact⟨g,v,us,⟨d,b,a⟩,e.symm⟩
 .simp at e
theorem sO.eU{o:Oper}{g:Option Gs}{v:AV}{us:aG}(a:sO P An Or nt ops o s g v us):eU P An Or true nt ops o s=some (s.put (dK ops o.dst) o.dst g v us):=by unfold Aev.eU oJ;rw [xk,a.guard,RA,Iz];dsimp only;rw [qJ,a.op,RA];dsimp only;rw [if_pos a.ok]
def qq(ops:Array Oper)(a:Array Bool)(s:St):Prop:= ∀k g v,s.t k= (some g,v)->∃i o,ops[i]? =some o/\a.getD i false=true/\o.dst=some g.d
theorem pB{d:Nat}{o:Oper}(a:o.dst=some d):∀(l:List Oper),o∈l->d∈gx l:=by
 intro l;induction l with
 | nil=>intro hm;cases hm
 | cons x l b=>
  intro hm;simp only [gx];rcases RC.1 hm with rfl | hm
  .rw [a];exact Rs
  .have:=b hm;split
   .exact Ru _ this
   .exact this
theorem Eg:∀{l:List Oper},tQ (gx l)=true->∀{i j:Nat} {x y:Oper} {d:Nat},l[i]? =some x->l[j]? =some y->x.dst=some d->y.dst=some d->i=j
 | [],_,i,j,x,y,d,hi,_,_,_=>by simp at hi
 | z::l,a,i,j,x,y,d,hi,b,g,hy=>by
  have f:tQ (gx l)=true/\∀d,z.dst=some d->d∉gx l:=by
   simp only [gx] at a;cases hz:z.dst with
   | none=>rw [hz] at a;exact⟨a,λd h=>by cases h⟩
   | some e=>
    rw [hz] at a;simp only [tQ,Rw,SL] at a;refine⟨a.2,λd h=> ?_⟩;simp only [Rp] at h;subst h;intro hm;have:(gx l).contains e=true:=by simpa using hm
    rw [this] at a;cases a.1
  cases i with
  | zero=>
   simp only [SQ,Rp] at hi;subst hi;cases j with
   | zero=>rfl
   | succ j=>simp only [SR] at b;exact(f.2 d g (pB hy _ (Rt b))).elim
  | succ i=>
   simp only [SR] at hi;cases j with
   | zero=>simp only [SQ,Rp] at b;subst b;exact(f.2 d hy (pB g _ (Rt hi))).elim
   | succ j=>simp only [SR] at b;rw [Eg f.1 hi b g hy]
def qI(ops:Array Oper):Prop:= ∀{i j:Nat} {x y:Oper} {d:Nat},ops[i]? =some x->ops[j]? =some y->x.dst=some d->y.dst=some d->i=j
theorem uG{a:Array Bool}{i:Nat}(h:a.getD i true=false):a.getD i false=true->False:=by
 intro d;rw [Ti] at h d;cases e:a[i]? with
 | none=>rw [e] at h;simp at h
 | some b=>rw [e] at h d;simp at h d;rw [h] at d;cases d
theorem Bz{a:Array Bool}{i:Nat}{o:Oper}{g:Option Gs}{v:AV}{us:aG}(y:qI ops)(hi:ops[i]? =some o)(x:a.getD i true=false)(u:qq ops a s)(b:Bool):
  s.put b o.dst g v us=s.put false o.dst g v us:=by
 unfold St.put;cases r:o.dst with
 | none=>rfl
 | some d=>
  simp only [St.mk.injEq,and_true];funext k;split
  .rfl
  .cases b with
   | false=>rfl
   | true=>
    simp only [cond_true,cond_false];cases p:s.t k with
    | mk f vk=>
     cases f with
     | none=>rfl
     | some f=>
      simp only [l8];cases m:(f.d==d) with
      | false=>rfl
      | true=>
       exfalso;obtain⟨j,z,h1,q,l⟩:=u k f vk p;have e:f.d=d:=by simpa using m
       rw [e] at l;have:=y h1 hi l r;subst this;exact uG x q
theorem gZ{o:Oper}{k:Nat}(h:(.tmp k:Operand)∈o.op.operands):k∈o.looksAt ops:=by unfold Oper.looksAt;refine RD _ (UX.2 ⟨.tmp k,by simpa using h,rfl⟩)
theorem Gj{o:Oper}{j d:Nat}{b:Bool}(h:o.guard=some (j,b))(a:(ops[j]?).bind (·.dst)=some d):d∈o.looksAt ops:=by unfold Oper.looksAt;refine RE _ ?_;rw [h];simp [a]
theorem pV{b:Bool}{o:Oper}{g:Option Gs}{v:AV}{us:aG}{k:Nat}(f:o.dst≠some k):(s.put false o.dst g v us).t k=s.t k:=by
 unfold St.put;cases a:o.dst with
 | none=>rfl
 | some d=>have:k≠d:=λe=>f (by rw [a,e]);simp [if_neg this]
theorem FR{o:Oper}(f:∀j b d,o.guard=some (j,b)->(ops[j]?).bind (·.dst)=some d->s'.t d=s.t d):dq ops o s' some=dq ops o s some:=by
 unfold dq;cases e:o.guard with
 | none=>rfl
 | some p=>
  obtain⟨j,b⟩:=p;simp only;cases a:(ops[j]?).bind (·.dst) with
  | none=>rfl
  | some d=>simp only [f j b d e a]
theorem yB:∀{us:aG} {h:Id->Option ab} {i:Id},aJ h us i=none->(∀q∈us,q.1≠i)/\h i=none
 | [],h,i,e=>⟨by simp,e⟩
 | (j,x)::us,h,i,e=>by
  rw [cX] at e;obtain⟨f,b⟩:=yB e;by_cases a:i=j
  .subst a;rw [aC] at b;cases b
  .rw [aq _ _ a] at b;refine⟨λq d=> ?_,b⟩;rcases RC.1 d with rfl | d
   .exact λe=>a e.symm
   .exact f q d
theorem GM{o:Oper}{g:Option Gs}(a:∀x∈o.op.operands,s'.get g x=s.get g x):oD ops g o s'=oD ops g o s:=by
 unfold oD;have key:∀l:List Operand,(∀x∈l,s'.get g x=s.get g x)->(l.all λx=>(s'.get g x).ids.all λi=>match i with
  | .s d _=>qN ops o d
  | .c _=>true
  | .g _ _=>false)= (l.all λx=>(s.get g x).ids.all λi=>match i with
  | .s d _=>qN ops o d
  | .c _=>true
  | .g _ _=>false):=by
  intro l;induction l with
  | nil=>intro _;rfl
  | cons x l e=>intro h;rw [SZ,SZ,h x Rs,e λy hy=>h y (Ru _ hy)]
 exact key _ λx b=>a x (by simpa using b)
theorem xB{o:Oper}{g:Option Gs}(j:oD ops g o s=true){x:Operand}(q:x∈o.op.operands){d k:Nat}(hi:Id.s d k∈(s.get g x).ids){i:Nat}{l:Oper}(a:ops[i]? =some l)(m:l.dst=some d):
  ∃e∈o.after,Region.binds .any e=true/\(e.on=i\/gS ops 12 e.on i=true):=by
 unfold oD at j;have h1:=RK.1 j x (by simpa using q);have b:=RK.1 h1 _ hi;simp only at b;unfold qN at b;have f:=RK.1 b i (Tp.2 (UN.1 a).1);rw [a] at f;simp only [m,BEq.rfl,RH,Sx] at f;obtain⟨e,p,hb⟩:=Uu.1 f;simp only [Rw,SJ,beq_iff_eq] at hb;exact⟨e,p,hb.1,hb.2⟩
theorem fX{o:Oper}{us:aG}(a:kA o us=true){i:Id}(hi:∃q∈us,q.1=i):∃d k,i= .s d k/\o.dst=some d:=by
 obtain⟨q,b,rfl⟩:=hi;have:=RK.1 a q b;split at this
 .rename_i d k e;exact⟨d,k,e,by simpa using this⟩
 .simp at this
 .simp at this
theorem Q7{us vs:aG}(a:∀p∈us,∀q∈vs,p.1≠q.1):∀{h:Id->Option ab},aJ (aJ h us) vs=aJ (aJ h vs) us:=by
 induction us with
 | nil=>intro h;rfl
 | cons p us g=>intro h;obtain⟨i,b⟩:=p;rw [cX,cX,g (λp d=>a p (Ru _ d)),uI (λq f e=>a (i,b) Rs q f e.symm)]
def qe(ops:Array Oper)(a:Array Bool):Prop:= ∀k ok,ops[k]? =some ok->a.getD k false=true->∀e∈ok.after,Region.binds .any e=true->a.getD e.on false=true
theorem zx{a:Array Bool}(f:qe ops a){i:Nat}(hi:a.getD i true=false):∀{n j:Nat} {d:Oper},ops[j]? =some d->(∀e∈d.after,Region.binds .any e=true->a.getD e.on false=true)->gS ops n j i=false
 | 0,j,d,_,_=>rfl
 | n+1,j,d,o,g=>by
  simp only [gS,o];rw [Array.any_eq_false'];intro e m hb;simp only [Rw,SJ,beq_iff_eq] at hb;obtain⟨h1,b⟩:=hb;have l:=g e m h1;rcases b with b | ⟨_,b⟩
  .exact uG hi (b▸l)
  .cases k:ops[e.on]? with
   | none=>
    cases n with
    | zero=>simp [gS] at b
    | succ n=>simp [gS,k] at b
   | some ok=>rw [zx f hi k (f e.on ok k l)] at b;cases b
theorem B9{a b:Oper}(h:kJ An ops a b=true):∃k d,gh ops a=some k/\gh ops b=some d/\k≠d/\k∉gx ops.toList/\d∉gx ops.toList:=by
 unfold kJ at h;simp only [Rw] at h;obtain⟨_,h⟩:=h;split at h
 .rename_i k d h1 e;simp only [Rw,SL,beq_eq_false_iff_ne,ne_eq] at h;obtain⟨⟨f,g⟩,i⟩:=h;exact⟨k,d,h1,e,f,by simpa using g,by simpa using i⟩
 .cases h
theorem PN{a b:Oper}(h:kJ An ops a b=true):kJ An ops b a=true:=by have d:=h;unfold kJ at d;simp only [Rw] at d;obtain⟨k,l,h1,f,g,i,j⟩:=B9 h;unfold kJ;rw [h1,f,d.1];simp only [S0,Rw,SL,beq_eq_false_iff_ne,ne_eq];exact⟨⟨λe=>g e.symm,by simpa using j⟩,by simpa using i⟩
theorem ID{o a:Oper}{us:aG}{k d:Nat}(h:jQ P An ops o s us=true)(hm:a∈ops)(e:kJ An ops o a=true)(l:gh ops o=some k)(b:gh ops a=some d):
  (∀x∈o.op.operands,∀i∈(s.get none x).ids,i∈(s.t k).2.ids)/\(∀p∈us,p.1∈(s.t k).2.ids)/\(∀p∈us,p.1∉(s.t d).2.ids):=by
 have h1:=Sa.1 h a hm;simp only [Rw] at h1;replace h1:=h1.1.1.1.1;rw [e] at h1;simp only [RH,Sx,Cb,l,b,Rw,RK,decide_eq_true_eq] at h1;obtain⟨⟨f,g⟩,j⟩:=h1;exact⟨λx m=>f x (Array.mem_toList_iff.2 m),g,j⟩
theorem tG{a b:Oper}(h:jG P An ops a b=true):(∃k,jO ops b=some (some k)/\k∉gx ops.toList)\/jO ops b=some none:=by
 unfold jG at h;simp only [Rw] at h;obtain⟨_,h⟩:=h;split at h
 .rename_i k d;exact .inl ⟨k,d,by simpa using h⟩
 .rename_i d;exact .inr d
 .cases h
theorem F9{a b:Oper}(h:jG P An ops a b=true):a.guard=none/\fU P An a=true/\e9 An a=false/\eS An a=false:=by
 unfold jG at h;simp only [Rw] at h;obtain⟨⟨_,h⟩,_⟩:=h;unfold C7 at h;simp only [Rw,Ug] at h;obtain⟨⟨h1,i⟩,d⟩:=h;refine⟨h1,i, ?_⟩;split at d
 .rename_i j g;split at d
  .rename_i e;simp only [SL] at d;simp [e9,eS,g,e,d]
  .rename_i f e;simp only [Rw,Ug,SL] at d;simp [e9,eS,g,e,d.1,d.2]
  .cases d
 .cases d
theorem BL{o:Oper}{r:Option Nat}(h:jO ops o=some r):o.guard=none/\fU P An o=false/\e9 An o=false/\eS An o=false:=by
 unfold jO at h;split at h
 .rename_i h1 a;simp [h1,fU,e9,eS,a]
 .rename_i h1 a;simp [h1,fU,e9,eS,a]
 .cases h
theorem OO{o:Oper}{k:Nat}(h:jO ops o=some (some k)):gh ops o=some k:=by
 unfold jO at h;split at h
 .rename_i h1 a;simp only [Rp] at h;subst h;simp [gh,h1,a]
 .cases h
 .cases h
theorem pN{o:Oper}{k:Bool}(h:jm P o k=true):∃t a y,o.guard=none/\o.op= .store t (.tmp a) y:=by
 unfold jm at h;split at h
 .rename_i t a y h1 b;exact⟨t,a,y,h1,b⟩
 .cases h
theorem PV{k off:Nat}{l:List T}{xs a:List (List T)}(h:bI k off l xs=some a):a.length=xs.length:=by
 unfold bI at h;split at h
 .split at h
  .simp only [Rp] at h;subst h;simp
  .cases h
 .cases h
theorem F3{t:TypeId}{a v y:AV}{us:aG}(h:iW P s t a v (λu=>some (AV.top,u))=some (y,us))(f:ka us=true):
  ∃i sz k off j rsz X,a= .el i sz k off/\v= .own j/\(∃bb xs,s.h j=some (.sl false rsz bb xs))/\rsz≠1/\us= [(j, .dead),(i,X)]/\∃b d az nx es r es',s.h i=some (.rows b d az rsz nx es)/\X= .rows b d az rsz r es'/\es'.length=es.length:=by
 unfold iW at h;cases q:bN P t with
 | false=>rw [q] at h;cases h
 | true=>
  rw [q,cond_true] at h;split at h
  .split at h
   .split at h
    .simp only [Rp,Sk] at h;obtain⟨_,rfl⟩:=h;simp [ka] at f
    .cases h
   .cases h
  .rename_i i sz k off;split at h
   .obtain⟨l,_,h⟩:=Rq.1 h;split at h
    .replace h:=aK h (.inl rfl);obtain⟨z,_,h⟩:=h;simp only [Rp,Sk] at h;obtain⟨_,rfl⟩:=h;simp [ka] at f
    .cases h
   .rename_i b d az rsz nx es hi;split at h
    .rename_i j;split at h
     .rename_i g B xs x;split at h
      .rename_i m;have o:=m.2.2.1;subst o;replace h:=aK h (.inl rfl);obtain⟨e,_,h⟩:=h;simp only [Rp,Sk] at h;obtain⟨_,rfl⟩:=h;refine⟨i,sz,k,off,j,g,_,rfl,rfl,⟨_,_,x⟩, ?_,rfl,b,d,az,nx,es,_,_,hi,by rw [show sz=d from m.1.symm],by simp⟩;simpa [ka] using f
      .cases h
     .cases h
    .cases h
   .cases h
  .split at h
   .replace h:=aK h (.inl rfl);obtain⟨p,_,h⟩:=h;obtain⟨l,_,h⟩:=Rq.1 h;split at h
    .replace h:=aK h (.inl rfl);obtain⟨z,_,h⟩:=h;simp only [Rp,Sk] at h;obtain⟨_,rfl⟩:=h;simp [ka] at f
    .cases h
   .cases h
  .cases h
theorem F4{t:TypeId}{a v y:AV}{us:aG}(h:iW P s t a v (λu=>some (AV.top,u))=some (y,us))(d:kb us=true):
  ∃i sz k off b f,a= .el i sz k off/\(∃xs,s.h i=some (.sl false 1 b xs)/\f.length=xs.length)/\us= [(i, .sl false 1 b f)]:=by
 unfold iW at h;cases m:bN P t with
 | false=>rw [m] at h;cases h
 | true=>
  rw [m,cond_true] at h;split at h
  .split at h
   .split at h
    .simp only [Rp,Sk] at h;obtain⟨_,rfl⟩:=h;simp [kb] at d
    .cases h
   .cases h
  .rename_i i sz k off;split at h
   .rename_i z b xs hi;obtain⟨l,_,h⟩:=Rq.1 h;split at h
    .rename_i x;obtain⟨j,_,_⟩:=x;subst j;replace h:=aK h (.inl rfl);obtain⟨f,o,h⟩:=h;simp only [Rp,Sk] at h;obtain⟨_,rfl⟩:=h;cases g:gz s.h v with
     | cons q r=>rw [g] at d;simp [kb] at d
     | nil=>rw [g] at d;simp only [kb,beq_iff_eq] at d;subst d;exact⟨_,_,_,_,_,_,rfl,⟨_,hi,PV o⟩,rfl⟩
    .cases h
   .split at h
    .split at h
     .split at h
      .replace h:=aK h (.inl rfl);obtain⟨e,_,h⟩:=h;simp only [Rp,Sk] at h;obtain⟨_,rfl⟩:=h;simp [kb] at d
      .cases h
     .cases h
    .cases h
   .cases h
  .split at h
   .replace h:=aK h (.inl rfl);obtain⟨p,_,h⟩:=h;obtain⟨l,_,h⟩:=Rq.1 h;split at h
    .replace h:=aK h (.inl rfl);obtain⟨f,_,h⟩:=h;simp only [Rp,Sk] at h;obtain⟨_,rfl⟩:=h;simp [kb] at d
    .cases h
   .cases h
  .cases h
theorem Cc{o:Oper}{t:TypeId}{a:Nat}{y:Operand}{v:AV}{us:aG}(b:o.op= .store t (.tmp a) y)(h:df P An Or none o s=some (v,us)):iW P s t (s.get none (.tmp a)) (s.get none y) (λu=>some (AV.top,u))=some (v,us):=by unfold df jd at h;rw [b] at h;exact h
theorem IB{a b:Oper}(z:lL P An ops a b=true)(Q:a∈ops)(hb:b∈ops){s1 s2:St}{U V:AV}{u v:aG}(N:df P An Or none a s1=some (U,u))(eb:df P An Or none b s2=some (V,v))
  (G:jQ P An ops a s1 u=true) (I:jQ P An ops b s2 v=true) (o:s2.h=aJ s1.h u\/s1.h=aJ s2.h v):
  (∀p∈u,∀q∈v,p.1≠q.1)/\(∀x∈a.op.operands,∀i∈(s1.get none x).ids,∃p∈u,p.1=i)/\(∀x∈b.op.operands,∀i∈(s2.get none x).ids,∃p∈v,p.1=i):=by
 have h1:=Sa.1 G b hb;have l:=Sa.1 I a Q;simp only [Rw] at h1 l;replace h1:=h1.1.2.1;replace l:=l.1.2.2;rw [z] at h1 l;simp only [RH,Sx,Rw] at h1 l;simp only [lL,Rw] at z;obtain⟨ta,Y,ya,ga,B⟩:=pN z.1.2;obtain⟨tb,Z,yb,gb,r⟩:=pN z.2;obtain⟨i,sz,k,off,j,rsz,X,J,K,⟨_,_,y⟩,L,rfl,_,_,_,_,_,_,_,C,rfl,_⟩:=F3 (Cc B N) h1;obtain⟨i',sz',k',off',b',ys',M,⟨_,g,_⟩,rfl⟩:=F4 (Cc r eb) l.1;have m:=l.2;simp only [zu,r,U8] at m;have ne:i'≠i/\i'≠j:=by
  rcases o with o | o
  .rw [o,cX,dH] at g;constructor
   .rintro rfl;rw [aC] at g;cases g
   .intro e;by_cases D:i'=i
    .rw [D,aC] at g;cases g
    .rw [aq _ _ D,e,aC] at g;cases g
  .rw [o,dH] at C y;constructor
   .rintro rfl;rw [aC] at C;cases C
   .rintro rfl;rw [aC] at y;simp only [Rp,ab.sl.injEq] at y;exact L y.2.1.symm
 refine⟨λp E q F e=> ?_,λx f id d=> ?_,λx f id d=> ?_⟩
 .simp only [RC,Um,or_false] at E F;subst F;rcases E with rfl | rfl
  .exact ne.2 e.symm
  .exact ne.1 e.symm
 .simp only [B,Op.operands] at f;have f:x= .tmp Y\/x=ya:=by simpa using f
  rcases f with rfl | rfl
  .rw [J] at d;simp only [AV.ids,RF] at d;subst d;exact⟨_,Ru _ (RF.2 rfl),rfl⟩
  .rw [K] at d;simp only [AV.ids,RF] at d;subst d;exact⟨_,Rs,rfl⟩
 .simp only [r,Op.operands] at f;have f:x= .tmp Z\/x=yb:=by simpa using f
  rcases f with rfl | rfl
  .rw [M] at d;simp only [AV.ids,RF] at d;subst d;exact⟨_,Rs,rfl⟩
  .rw [m] at d;cases d
theorem AO{o:Oper}(h:xp P o=true):∃a,o.guard=none/\((∃t e n,o.op= .indexAddr t (.tmp a) n/\mQ P t=some e/\P.cellsOf e=1)\/∃t,o.op= .load t (.tmp a)):=by
 unfold xp at h;split at h
 .rename_i t a n h1 b;split at h
  .rename_i e d;exact⟨a,h1, .inl ⟨t,e,n,b,d,by simpa using h⟩⟩
  .cases h
 .rename_i t a h1 b;exact⟨a,h1, .inr ⟨t,b⟩⟩
 .cases h
def pe(h h':Id->Option ab):Prop:= ∀m,h' m=h m\/(∃g sz b xs d f a,h m=some (.sl g sz b xs)/\h' m=some (.sl d sz f a)/\a.length=xs.length)\/
 (∃b sz az rsz nx es e es',h m=some (.rows b sz az rsz nx es)/\h' m=some (.rows b sz az rsz e es')/\es'.length=es.length)\/∃sz b xs,sz≠1/\h m=some (.sl false sz b xs)/\h' m=some .dead
theorem pe.index{t e:TypeId}{m:Id}{n:Int}{K:AV->Option (AV×aG)}{r:AV×aG}(H:pe s.h s'.h)(g:mQ P t=some e)(f:P.cellsOf e=1):jk P s none t (.own m) n K=some r↔jk P s' none t (.own m) n K=some r:=by
 unfold jk;simp only [g];rcases H m with h | ⟨_,_,_,_,_,_,_,h1,a,b⟩ | ⟨_,_,_,_,_,_,_,_,h1,a,b⟩ | ⟨sz,_,_,d,h1,a⟩
 .rw [h]
 .rw [h1,a];simp only [b]
 .rw [h1,a];simp only [b]
 .rw [h1,a];simp only [f,if_neg d,reduceCtorEq]
theorem pe.load{t:TypeId}{m:Id}{off:Nat}{K:AV->Option (AV×aG)}{r:AV×aG}(H:pe s.h s'.h):jH P s none t (.ref m off) K=some r↔jH P s' none t (.ref m off) K=some r:=by
 unfold jH;rcases H m with h | ⟨_,_,_,_,_,_,_,h1,a,b⟩ | ⟨_,_,_,_,_,_,_,_,h1,a,b⟩ | ⟨sz,_,_,d,h1,a⟩
 .simp only [h]
 .simp only [h1,a]
 .simp only [h1,a]
 .simp only [h1,a]
theorem pe.store{t:TypeId}{a v r:AV}{us:aG}(h:iW P s t a v (λu=>some (AV.top,u))=some (r,us))(d:ka us=true\/kb us=true):pe s.h (aJ s.h us):=by
 rcases d with d | d
 .obtain⟨i,sz,k,off,j,rsz,X,_,_,⟨_,_,g⟩,l,rfl,_,_,_,_,_,_,_,f,rfl,o⟩:=F3 h d;intro m;rw [cX,dH];by_cases b:m=i
  .subst b;exact .inr (.inr (.inl ⟨_,_,_,_,_,_,_,_,f,aC _ _ _,o⟩))
  .rw [aq _ _ b];by_cases e:m=j
   .subst e;exact .inr (.inr (.inr ⟨_,_,_,l,g,aC _ _ _⟩))
   .rw [aq _ _ e];exact .inl rfl
 .obtain⟨i,_,_,_,_,_,_,⟨_,p,q⟩,rfl⟩:=F4 h d;intro m;rw [dH];by_cases b:m=i
  .subst b;exact .inr (.inl ⟨_,_,_,_,_,_,_,p,aC _ _ _,q⟩)
  .rw [aq _ _ b];exact .inl rfl
theorem IC{a b:Oper}(i:kK P An ops a b=true)(C:a∈ops)(hb:b∈ops){s1 s2 u:St}{I:AV}{l:aG}{G:aG}(B:df P An Or none a s1=some (I,l))(o:jQ P An ops a s1 l=true)(p:jQ P An ops b u G=true)
  (F:s2.h=aJ s1.h l) (g:∀x∈b.op.operands,s2.get none x=s1.get none x) (k:∀x∈b.op.operands,u.get none x=s1.get none x) (r:AV×aG):df P An Or none b s1=some r↔df P An Or none b s2=some r:=by
 have h1:=Sa.1 o b hb;have f:=Sa.1 p a C;simp only [Rw] at h1 f;replace h1:=h1.2.1;replace f:=f.2.2;rw [i] at h1 f;simp only [RH,Sx,SJ] at h1 f;simp only [kK,Rw,SJ] at i;obtain⟨K,L,M,J,q⟩:∃t x y,a.guard=none/\a.op= .store t (.tmp x) y:=by rcases i.1.2 with h | h <;> exact pN h
 have H:=pe.store (Cc q B) h1;rw [<-F] at H;obtain⟨j,gb,⟨tb,e,n,d,E,D⟩ | ⟨tb,d⟩⟩:=AO i.2
 case inr=>
  simp only [tX,d] at f;rw [k (.tmp j) (by simp [d,Op.operands])] at f;split at f
  .rename_i m off hm;unfold df jd;rw [d];dsimp only;rw [g (.tmp j) (by simp [d,Op.operands]),hm];exact H.load
  .cases f
 simp only [tX,d] at f;rw [k (.tmp j) (by simp [d,Op.operands])] at f;split at f
 .rename_i m hm;unfold df jd;rw [d];dsimp only;rw [g (.tmp j) (by simp [d,Op.operands]),g n (by simp [d,Op.operands]),hm];unfold ot;cases(s1.get none n).t? with
  | none=>exact Vo
  | some y=>
   simp only [RA];cases iE.anyInt y with
   | none=>exact Vo
   | some z=>change (jk P s1 none tb (AV.own m) z λv=>some (v,[]))=some r↔(jk P s2 none tb (AV.own m) z λv=>some (v,[]))=some r;exact H.index E D
 .cases f
theorem Ga{a b:Oper}{s1 s2:St}{us:aG}{v:aG}(j:jG P An ops a b=true)(o:a∈ops)(hb:b∈ops)(l:jQ P An ops a s1 us=true)(m:jQ P An ops b s2 v=true)(u:∀k,k∉gx ops.toList->(s1.t k).2= (s2.t k).2):
  ∀x∈b.op.operands,∀i∈(s2.get none x).ids,∀q∈us,q.1≠i:=by
 have h1:=Sa.1 l b hb;have d:=Sa.1 m a o;simp only [Rw] at h1 d;replace h1:=h1.1.1.1.2;replace d:=d.1.1.2;rw [j] at h1 d;simp only [RH,Sx] at h1 d;rcases tG j with⟨k,f,p⟩ | f
 .simp only [xu,tH,f,RK,decide_eq_true_eq] at h1 d;intro x g i hi q r e;have:=d x (Array.mem_toList_iff.2 g) i hi;rw [<-u k p,<-e] at this;exact h1 q r this
 .simp only [tH,f,RK,U8] at d;intro x g i hi;rw [d x (Array.mem_toList_iff.2 g)] at hi;cases hi
theorem Ca{o:Oper}{us:aG}(r:∀k,k∉gx ops.toList->s'.t k=s.t k)(q:∀k,gh ops o=some k\/jO ops o=some none->∀x∈o.op.operands,s'.get none x=s.get none x)(v:o.guard=none->∀x∈o.op.operands,s'.get none x=s.get none x)(h:jQ P An ops o s us=true):jQ P An ops o s' us=true:=by
 refine Sa.2 λm hm=> ?_;have D:=Sa.1 h m hm;simp only [Rw] at D⊢;obtain⟨⟨⟨⟨h1,p⟩,hb⟩,J,j⟩,E,f⟩:=D;refine⟨⟨⟨⟨?_, ?_⟩, ?_⟩,J, ?_⟩,E, ?_⟩
 .cases g:kJ An ops o m with
  | false=>rfl
  | true=>obtain⟨k,K,b,F,L,G,I⟩:=B9 g;rw [g] at h1;simp only [RH,Sx,Cb,b,F,Rw,RK] at h1⊢;rw [r k G,r K I];refine⟨⟨λx i=> ?_,h1.1.2⟩,h1.2⟩;rw [q k (.inl b) x (Array.mem_toList_iff.1 i)];exact h1.1.1 x i
 .cases g:jG P An ops o m with
  | false=>rfl
  | true=>
   rw [g] at p;simp only [RH,Sx] at p⊢;rcases tG g with⟨k,b,C⟩ | b
   .simp only [xu,b] at p⊢;rw [r k C];exact p
   .simp only [xu,b]
 .cases g:jG P An ops m o with
  | false=>rfl
  | true=>
   rw [g] at hb;simp only [RH,Sx] at hb⊢;rcases tG g with⟨k,b,C⟩ | b
   .simp only [tH,b,RK] at hb⊢;rw [r k C];intro x i;rw [q k (.inl (OO b)) x (Array.mem_toList_iff.1 i)];exact hb x i
   .simp only [tH,b,RK] at hb⊢;intro x i;rw [q 0 (.inr b) x (Array.mem_toList_iff.1 i)];exact hb x i
 .cases z:lL P An ops m o with
  | false=>rfl
  | true=>
   rw [z] at j;simp only [RH,Sx,Rw] at j⊢;refine⟨j.1, ?_⟩;have u:=j.2;simp only [lL,Rw] at z;obtain⟨t,a,y,l,d⟩:=pN z.2;have b:gh ops o=some (rQ ops a):=by simp [gh,l,d]
   simp only [zu,d] at u⊢;rw [q _ (.inl b) y (by simp [d,Op.operands])];exact u
 .cases B:kK P An ops m o with
  | false=>rfl
  | true=>
   rw [B] at f;simp only [RH,Sx] at f⊢;simp only [kK,Rw] at B;obtain⟨a,l,⟨t,e,n,d,_,_⟩ | ⟨t,d⟩⟩:=AO B.2
   .simp only [tX,d] at f⊢;rw [v l (.tmp a) (by simp [d,Op.operands])];exact f
   .simp only [tX,d] at f⊢;rw [v l (.tmp a) (by simp [d,Op.operands])];exact f
theorem PY{V:Array Bool}{i j:Nat}{l u:Oper}(hu:qI ops)(hgk:rv ops=true)(hi:ops[i]? =some l)(hj:ops[j]? =some u)(hne:j≠i)(hri:i∈Region.ready .any ops V)(hrj:j∈Region.ready .any ops V)
  (hcl:qe ops V) (hap:l.apart ops u=true) (hcm0':qO P An l u=true\/rY P An ops l u=true) (hG:qq ops V s) (J:eU P An Or true nt ops l s=some s1) (K:eU P An Or true nt ops u s1=some s2):
  ∃sj,eU P An Or true nt ops u s=some sj/\eU P An Or true nt ops l sj=some s2:=by
 obtain⟨G,vi,C,wi,rfl⟩:=Bp J;obtain⟨I,vj,B,wj,rfl⟩:=Bp K;obtain⟨hli,oi',hi',hai⟩:=mem_ready.1 hri;rw [hi] at hi';simp only [Rp] at hi';subst hi';obtain⟨hlj,oj',hj',haj⟩:=mem_ready.1 hrj;rw [hj] at hj';simp only [Rp] at hj';subst hj';obtain⟨a1,a2,a3⟩:=Oper.apart_spec hap;have behind:∀(o:Oper) (m:Nat),V.getD m true=false->(∀e∈o.after,Region.binds .any e=true->V.getD e.on false=true)->∀e∈o.after,Region.binds .any e=true->¬(e.on=m\/gS ops 12 e.on m=true):=by
  intro o m hlm hall e he hb h;rcases h with h | h
  .exact uG hlm (h▸hall e he hb)
  .have hl:=hall e he hb;cases Z:ops[e.on]? with
   | none=>simp [gS,Z] at h
   | some ok=>rw [zx hcl hlm Z (hcl e.on ok Z hl)] at h;cases h
 have noti:=behind u i hli haj;have notj:=behind l j hlj hai;have wiok:=wi.ok;have wjok:=wj.ok;simp only [oI,RH,Sx,Rw] at wiok wjok;obtain⟨⟨⟨i1,i2⟩,i3⟩,⟨⟨⟨⟨⟨i4,i5⟩,i6⟩,i7⟩,i8⟩,i9⟩,i10⟩:=wiok;obtain⟨⟨⟨j1,j2⟩,j3⟩,⟨⟨⟨⟨⟨j4,j5⟩,j6⟩,j7⟩,j8⟩,j9⟩,j10⟩:=wjok;have pli:=Bz (g:=G) (v:=vi) (us:=C) hu hi hli hG (dK ops l.dst);have tj:∀k,k∈u.looksAt ops->(s.put (dK ops l.dst) l.dst G vi C).t k=s.t k:=by intro k Z;rw [pli];exact pV (b:=false) λe=>a1 k e Z
 have ti:∀(g:Option Gs) (v:AV) (us:aG) k,k∈l.looksAt ops->(s.put false u.dst g v us).t k=s.t k:=λg v us k Z=>pV (b:=false) λe=>a3 k e Z;have gj':dq ops u s some=some I:=by rw [<-wj.guard];exact(FR λx b d h1 h2=>tj d (Gj h1 h2)).symm
 have getj:∀x∈u.op.operands,(s.put (dK ops l.dst) l.dst G vi C).get I x=s.get I x:=λx z=>ru λk e=>tj k (gZ (e▸z));have nj:oD ops I u s=true:=by rw [<-j4];exact(GM getj).symm
 have a2':∀d,u.dst=some d->l.dst≠some d:=λd h h'=>a2 d h' h;have guardA:∀(o:Oper) (g:Option Gs) (s0:St) (k:Nat),gh ops o=some k->dq ops o s0 some=some g->g=none/\e9 An o=false/\eS An o=false:=by
  intro o g s0 k h Q;unfold gh at h;split at h
  .rename_i h1 h2;unfold dq at Q;rw [h1] at Q;simp only [Rp] at Q;exact⟨Q.symm,by simp [e9,h2],by simp [eS,h2]⟩
  .rename_i h1 h2;unfold dq at Q;rw [h1] at Q;simp only [Rp] at Q;exact⟨Q.symm,by simp [e9,h2],by simp [eS,h2]⟩
  .cases h
 have al_w:∀o:Oper,iM o=true->fU P An o=false:=by intro o h;cases hop:o.op <;> simp only [iM,hop,RS] at h <;> simp [fU,hop]
 have w_r:∀o:Oper,fU P An o=false->e9 An o=false:=by
  intro o h;cases hr:e9 An o with
  | false=>rfl
  | true=>
   exfalso;cases hop:o.op <;> simp only [e9,hop,RS] at hr;rename_i cl;cases hcal:cl.callee <;> simp only [hcal,RS] at hr;rename_i fo;simp only [fU,hop,hcal] at h;cases fo with
   | func f=>
    dsimp only at h hr;cases hb:An.ig f with
    | none=>rw [hb] at hr;simp at hr
    | some x=>rw [hb] at h;simp at h
   | _=>simp at h
 have U:∀(o:Oper) (us:aG) (m:Nat) (om:Oper),ops[m]? =some om->(∀e∈o.after,Region.binds .any e=true->¬(e.on=m\/gS ops 12 e.on m=true))->se ops o us=true->(∀d,om.dst=some d->o.dst≠some d)->∀q∈us,∀d k,om.dst=some d->q.1≠ .s d k:=by
  intro o us m om hm hnot hok hdst q D d k hd e;have h1:=RK.1 hok q D;rw [e] at h1;simp only [SJ] at h1;rcases h1 with h1 | h1
  .unfold qN at h1;have h3:=RK.1 h1 m (Tp.2 (UN.1 hm).1);rw [hm] at h3;simp only [hd,BEq.rfl,RH,Sx] at h3;obtain⟨e',he,hb⟩:=Uu.1 h3;simp only [Rw,SJ,beq_iff_eq] at hb;exact hnot e' he hb.1 hb.2
  .exact hdst d hd (by simpa using h1)
 have ltd:∀(o:Oper),(match o.dst with | some d=>decide (d < nt) | none=>true)=true->Nat.ble nt 1000000=true->∀d,o.dst=some d->d < 1000000:=by intro o h1 h2 d hd;rw [hd] at h1;simp only [decide_eq_true_eq] at h1;exact S7 h1 (Nat.le_of_ble_eq_true h2)
 have guardB:∀(o:Oper) (g:Option Gs) (s0:St) (k:Nat),(gh ops o=some k\/jO ops o=some none)->dq ops o s0 some=some g->g=none:=by
  intro o g s0 k h Q;rcases h with h | h
  .exact(guardA o g s0 k h Q).1
  .have h1:=(BL (P:=P) (An:=An) h).1;unfold dq at Q;rw [h1] at Q;simp only [Rp] at Q;exact Q.symm
 have three:df P An Or I u s=some (vj,B)/\df P An Or G l (s.put false u.dst I vj B)=some (vi,C)/\(∀p∈C,∀q∈B,p.1≠q.1):=by
  rcases hcm0' with hcm | hst
  .skip
   have hcm0:=hcm;unfold qO at hcm0;simp only [Rw] at hcm0;obtain⟨⟨hcm1,hcd1⟩,hcd2⟩:=hcm0;have hcm':(fU P An l=false\/fT P u=true\/iM u=true)/\(fU P An u=false\/fT P l=true\/iM l=true):=by simp only [SL,Vc,Bool.and_eq_false_iff,Bool.not_eq_false',SJ] at hcm1;exact hcm1
   have hdi:eS An l=false\/B= []:=by
    simp only [SJ,SL] at hcd1;rcases hcd1 with h | h
    .exact .inl h
    .right;simpa [h] using j7
   have hdj:eS An u=false\/C= []:=by
    simp only [SJ,SL] at hcd2;rcases hcd2 with h | h
    .exact .inl h
    .right;simpa [h] using i7
   have purei:fT P l=true->C= []:=λh=>by simpa [h] using i6
   have purej:fT P u=true->B= []:=λh=>by simpa [h] using j6
   have opj:df P An Or I u s=some (vj,B):=by
    have old:fT P u=true\/iM u=true\/aJ s.h C=s.h\/(e9 An u=false/\eS An u=false/\∀x∈u.op.operands,∀id∈(s.get I x).ids,aJ s.h C id=s.h id)->df P An Or I u s=some (vj,B):=by intro h;rw [<-wj.op];exact(kQ (s:=s) (s':=s.put (dK ops l.dst) l.dst G vi C) (λx z k e=>tj k (gZ (e▸z))) h).symm
    rcases hcm'.1 with hw | F | F
    case inr.inl=>exact old (.inl F)
    case inr.inr=>exact old (.inr (.inl F))
    have L:kA l C=true:=by simpa [hw] using i5
    have direct:∀x∈u.op.operands,∀id∈(s.get I x).ids,∀q∈C,q.1≠id:=by intro x z id E q D e;obtain⟨d,k,J,K⟩:=fX L ⟨q,D,e⟩;subst J;obtain⟨ed,he,hb,ho⟩:=xB nj z E hi K;exact noti ed he hb ho
    rcases hdj with hdj | hdj
    case inr=>exact old (.inr (.inr (.inl (by rw [hdj];rfl))))
    rcases hcm'.2 with hwj | hpi | hai'
    .exact old (.inr (.inr (.inr ⟨w_r u hwj,hdj,λx z id E=>dI λq D e=>direct x z id E q D e⟩)))
    .exact old (.inr (.inr (.inl (by rw [purei hpi];rfl))))
    .cases hwj:fU P An u with
     | false=>exact old (.inr (.inr (.inr ⟨w_r u hwj,hdj,λx z id E=>dI λq D e=>direct x z id E q D e⟩)))
     | true=>
      have hus:se ops u B=true:=by simpa [hwj] using j8
      refine vS (s:=s.put (dK ops l.dst) l.dst G vi C) (s':=s) (N:=λi=>∃q∈C,q.1=i) (λx z k e=>(tj k (gZ (e▸z))).symm) (λi hi=> ?_) hdj (λx z id E=> ?_) (λk=> ?_) (λp F=> ?_) wj.op
      .exact(dI λq D e=>hi ⟨q,D,e⟩).symm
      .rw [getj x z] at E;rintro⟨q,D,e⟩;exact direct x z id E q D e
      .rintro⟨q,D,e⟩;obtain⟨d,k',J,K⟩:=fX L ⟨q,D,e⟩;simp only [Id.s.injEq] at J;have h:=ltd l i1 i9 d K;rw [<-J.1] at h;exact absurd h (TG.2 (R4 (by decide) (Un 2000000 _)))
      .rintro⟨q,D,e⟩;obtain⟨d,k',J,K⟩:=fX L ⟨q,D,rfl⟩;exact U u B i l hi noti hus a2 p F d k' K (by rw [<-e,J])
   have opi:df P An Or G l (s.put false u.dst I vj B)=some (vi,C):=by
    have old:fT P l=true\/iM l=true\/aJ s.h B=s.h\/(e9 An l=false/\eS An l=false/\∀x∈l.op.operands,∀id∈(s.get G x).ids,aJ s.h B id=s.h id)->df P An Or G l (s.put false u.dst I vj B)=some (vi,C):=by intro h;rw [<-wi.op];exact kQ (λx z k e=>ti _ _ _ k (gZ (e▸z))) h
    rcases hcm'.2 with hw | F | F
    case inr.inl=>exact old (.inl F)
    case inr.inr=>exact old (.inr (.inl F))
    have L:kA u B=true:=by simpa [hw] using j5
    have direct:∀x∈l.op.operands,∀id∈(s.get G x).ids,∀q∈B,q.1≠id:=by intro x z id E q D e;obtain⟨d,k,J,K⟩:=fX L ⟨q,D,e⟩;subst J;obtain⟨ed,he,hb,ho⟩:=xB i4 z E hj K;exact notj ed he hb ho
    rcases hdi with hdi | hdi
    case inr=>exact old (.inr (.inr (.inl (by rw [hdi];rfl))))
    rcases hcm'.1 with hwi | hpj | haj'
    .exact old (.inr (.inr (.inr ⟨w_r l hwi,hdi,λx z id E=>dI λq D e=>direct x z id E q D e⟩)))
    .exact old (.inr (.inr (.inl (by rw [purej hpj];rfl))))
    .cases hwi:fU P An l with
     | false=>exact old (.inr (.inr (.inr ⟨w_r l hwi,hdi,λx z id E=>dI λq D e=>direct x z id E q D e⟩)))
     | true=>
      have hus:se ops l C=true:=by simpa [hwi] using i8
      refine vS (s:=s) (s':=s.put false u.dst I vj B) (N:=λi=>∃q∈B,q.1=i) (λx z k e=>ti _ _ _ k (gZ (e▸z))) (λi hi=> ?_) hdi (λx z id E=> ?_) (λk=> ?_) (λp F=> ?_) wi.op
      .exact dI λq D e=>hi ⟨q,D,e⟩
      .rintro⟨q,D,e⟩;exact direct x z id E q D e
      .rintro⟨q,D,e⟩;obtain⟨d,k',J,K⟩:=fX L ⟨q,D,e⟩;simp only [Id.s.injEq] at J;have h:=ltd u j1 j9 d K;rw [<-J.1] at h;exact absurd h (TG.2 (R4 (by decide) (Un 2000000 _)))
      .rintro⟨q,D,e⟩;obtain⟨d,k',J,K⟩:=fX L ⟨q,D,rfl⟩;exact U l C j u hj notj hus a2' p F d k' K (by rw [<-e,J])
   have disj:∀p∈C,∀q∈B,p.1≠q.1:=by
    intro p F q D e;rcases hcm'.1 with hw | hpj | haj'
    .rcases hcm'.2 with hw' | hpi | hai'
     .obtain⟨d,k,J,K⟩:=fX (by simpa [hw] using i5:kA l C=true) ⟨p,F,rfl⟩;obtain⟨d',k',e3,e4⟩:=fX (by simpa [hw'] using j5:kA u B=true) ⟨q,D,rfl⟩;rw [J,e3] at e;simp only [Id.s.injEq] at e;obtain⟨rfl,_⟩:=e;exact a2 d K e4
     .rw [purei hpi] at F;cases F
     .obtain⟨d,k,J,K⟩:=fX (by simpa [hw] using i5:kA l C=true) ⟨p,F,rfl⟩;cases hwj:fU P An u with
      | false=>obtain⟨d',k',e3,e4⟩:=fX (by simpa [hwj] using j5:kA u B=true) ⟨q,D,rfl⟩;rw [J,e3] at e;simp only [Id.s.injEq] at e;obtain⟨rfl,_⟩:=e;exact a2 d K e4
      | true=>exact U u B i l hi noti (by simpa [hwj] using j8) a2 q D d k K (by rw [<-e,J])
    .rw [purej hpj] at D;cases D
    .obtain⟨d,k,J,K⟩:=fX (by simpa [al_w u haj'] using j5:kA u B=true) ⟨q,D,rfl⟩;cases hwi:fU P An l with
     | false=>obtain⟨d',k',e3,e4⟩:=fX (by simpa [hwi] using i5:kA l C=true) ⟨p,F,rfl⟩;rw [J,e3] at e;simp only [Id.s.injEq] at e;obtain⟨rfl,_⟩:=e;exact a2 d' e4 K
     | true=>exact U l C j u hj notj (by simpa [hwi] using i8) a2' p F d k K (by rw [e,J])
   exact⟨opj,opi,disj⟩
  .have hst2:(((kJ An ops l u=true\/jG P An ops l u=true)\/jG P An ops u l=true)\/(lL P An ops l u=true\/lL P An ops u l=true))\/(kK P An ops l u=true\/kK P An ops u l=true):=by
    unfold rY at hst;simpa only [SJ] using hst
   rcases hst2 with hst1 | hst5
   case inr=>
    have ixq:∀o,xp P o=true->o.guard=none/\rM P An o=true/\fT P o=false:=λo h=>by
     obtain⟨a,h1,⟨t,e,n,h2,_⟩ | ⟨t,h2⟩⟩:=AO h
     .exact⟨h1,by simp [rM,h2],by simp [fT,h2]⟩
     .exact⟨h1,by simp [rM,h2],by simp [fT,h2]⟩
    have gn:∀(o:Oper) (g:Option Gs) (s0:St),o.guard=none->dq ops o s0 some=some g->g=none:=by intro o g s0 h1 Q;unfold dq at Q;rw [h1] at Q;simp only [Rp] at Q;exact Q.symm
    have stg:∀o,(jm P o true=true\/jm P o false=true)->o.guard=none/\e9 An o=false/\eS An o=false:=λo h=>by
     obtain⟨t,a,y,h1,h2⟩:∃t a y,o.guard=none/\o.op= .store t (.tmp a) y:=by rcases h with h | h <;> exact pN h
     exact⟨h1,by simp [e9,h2],by simp [eS,h2]⟩
    rcases hst5 with h5 | h5
    .have h5':=h5;simp only [kK,Rw,SJ] at h5';obtain⟨gdi,ri,di⟩:=stg l h5'.1.2;obtain⟨gdj,qj,_⟩:=ixq u h5'.2;have gni:=gn l G s gdi wi.guard;have gnj:=gn u I s gdj gj';have uj:B= []:=by simpa [qj] using j7
     have eiop:=wi.op;have ejop:=wj.op;rw [gni] at eiop;rw [gnj] at ejop;have hget:∀x∈u.op.operands,(s.put (dK ops l.dst) l.dst G vi C).get none x=s.get none x:=λx z=>by have:=getj x z;rwa [gnj] at this
     refine⟨?_, ?_,λp F q D=>by rw [uj] at D;cases D⟩
     .rw [gnj];exact(IC h5 (RT hi) (RT hj) eiop i10 j10 rfl hget hget _).2 ejop
     .rw [<-wi.op];exact kQ (λx z k e=>ti _ _ _ k (gZ (e▸z))) (.inr (.inr (.inl (by rw [uj];rfl))))
    .have h5':=h5;simp only [kK,Rw,SJ] at h5';obtain⟨gdj,rj,dj⟩:=stg u h5'.1.2;obtain⟨gdi,qi,_⟩:=ixq l h5'.2;have gni:=gn l G s gdi wi.guard;have gnj:=gn u I s gdj gj';have ui:C= []:=by simpa [qi] using i7
     have eiop:=wi.op;rw [gni] at eiop;have opj:df P An Or I u s=some (vj,B):=by rw [<-wj.op];exact(kQ (s:=s) (s':=s.put (dK ops l.dst) l.dst G vi C) (λx z k e=>tj k (gZ (e▸z))) (.inr (.inr (.inl (by rw [ui];rfl))))).symm
     have geti:∀x∈l.op.operands,(s.put false u.dst I vj B).get none x=s.get none x:=λx z=>ru λk e=>ti _ _ _ k (gZ (e▸z));have okj:jQ P An ops u s B=true:=by
      refine Ca (λk Z=> ?_) (λk Z x z=> ?_) (λQ x z=> ?_) j10
      .rw [pli];exact(pV (b:=false) λe=>Z (pB e ops.toList (Array.mem_toList_iff.2 (RT hi)))).symm
      .have h:=getj x z;rw [gnj] at h;exact h.symm
      .have h:=getj x z;rw [gnj] at h;exact h.symm
     refine⟨opj, ?_,λp F=>by rw [ui] at F;cases F⟩;rw [gni];rw [gnj] at opj;exact(IC h5 (RT hj) (RT hi) opj okj i10 rfl geti (λ_ _=>rfl) _).1 eiop
   have hst1:=hst1;rcases hst1 with hst0 | hst4
   case inr=>
    have both:∀o,(jm P o true=true\/jm P o false=true)->∃t a y,o.guard=none/\o.op= .store t (.tmp a) y:=λo h=>by
     rcases h with h | h
     .exact pN h
     .exact pN h
    have si:(jm P l true=true\/jm P l false=true)/\(jm P u true=true\/jm P u false=true):=by
     rcases hst4 with h | h <;> simp only [lL,Rw] at h
     .exact⟨.inl h.1.2, .inr h.2⟩
     .exact⟨.inr h.2, .inl h.1.2⟩
    obtain⟨ti',xi,yi,gdi,opi'⟩:=both l si.1;obtain⟨tj',xj,yj,gdj,opj'⟩:=both u si.2;have hki:gh ops l=some (rQ ops xi):=by simp [gh,gdi,opi']
    have hkj:gh ops u=some (rQ ops xj):=by simp [gh,gdj,opj']
    obtain⟨gni,ri,di⟩:=guardA l G s _ hki wi.guard;obtain⟨gnj,rj,dj⟩:=guardA u I s _ hkj gj';have eiop:=wi.op;have ejop:=wj.op;rw [gni] at eiop;rw [gnj] at ejop;have hres:(∀p∈C,∀q∈B,p.1≠q.1)/\(∀x∈l.op.operands,∀i∈(s.get none x).ids,∃p∈C,p.1=i)/\(∀x∈u.op.operands,∀i∈((s.put (dK ops l.dst) l.dst G vi C).get none x).ids,∃p∈B,p.1=i):=by
     rcases hst4 with h | h
     .exact IB h (RT hi) (RT hj) eiop ejop i10 j10 (.inl rfl)
     .obtain⟨r1,r2,r3⟩:=IB h (RT hj) (RT hi) ejop eiop j10 i10 (.inr rfl);exact⟨λp F q D e=>r1 q D p F e.symm,r3,r2⟩
    obtain⟨d1,d2,d3⟩:=hres;refine⟨?_, ?_,d1⟩
    .rw [<-wj.op];refine(kQ (s:=s) (s':=s.put (dK ops l.dst) l.dst G vi C) (λx z k e=>tj k (gZ (e▸z))) (.inr (.inr (.inr ⟨rj,dj,λx z id E=> ?_⟩)))).symm;refine dI λq D e=> ?_;rw [<-getj x z,gnj] at E;obtain⟨p,F,K⟩:=d3 x z id E;exact d1 q D p F (e.trans K.symm)
    .rw [<-wi.op];refine kQ (λx z k e=>ti _ _ _ k (gZ (e▸z))) (.inr (.inr (.inr ⟨ri,di,λx z id E=> ?_⟩)));refine dI λq D e=> ?_;rw [gni] at E;obtain⟨p,F,K⟩:=d2 x z id E;exact d1 p F q D (K.trans e.symm)
   have tk:∀k,k∉gx ops.toList->(s.put (dK ops l.dst) l.dst G vi C).t k=s.t k:=λk dk=>by rw [pli];exact pV (b:=false) λe=>dk (pB e ops.toList (Array.mem_toList_iff.2 (RT hi)))
   have gnone:∀(o:Oper) (g:Option Gs) (s0:St),o.guard=none->dq ops o s0 some=some g->g=none:=by intro o g s0 h1 Q;unfold dq at Q;rw [h1] at Q;simp only [Rp] at Q;exact Q.symm
   rcases hst0 with(hst | hld) | hld
   rotate_left
   ·
    obtain⟨ga,wa,ra,da⟩:=F9 hld;obtain⟨rb',hrb'⟩:∃r,jO ops u=some r:=by rcases tG hld with⟨k,Z,_⟩ | Z <;> exact⟨_,Z⟩
    obtain⟨gb,wb,rb,db⟩:=BL (P:=P) (An:=An) hrb';have gni:=gnone l G s ga wi.guard;have gnj:=gnone u I s gb gj';have L:kA u B=true:=by simpa [wb] using j5
    have hus:se ops l C=true:=by simpa [wa] using i8
    have hap2:=Ga hld (RT hi) (RT hj) i10 j10 (λk Z=>by rw [tk k Z]);refine⟨?_, ?_, ?_⟩
    .rw [<-wj.op];refine(kQ (s:=s) (s':=s.put (dK ops l.dst) l.dst G vi C) (λx z k e=>tj k (gZ (e▸z))) (.inr (.inr (.inr ⟨rb,db,λx z id E=> ?_⟩)))).symm;refine dI λq D e=> ?_;rw [<-getj x z,gnj] at E;exact hap2 x z id E q D e
    .refine vS (s:=s) (s':=s.put false u.dst I vj B) (N:=λi=>∃q∈B,q.1=i) (λx z k e=>ti _ _ _ k (gZ (e▸z))) (λi hi=> ?_) da (λx z id E=> ?_) (λk=> ?_) (λp F=> ?_) wi.op
     .exact dI λq D e=>hi ⟨q,D,e⟩
     .rintro⟨q,D,e⟩;obtain⟨d,k,J,K⟩:=fX L ⟨q,D,e⟩;subst J;obtain⟨ed,he,hb,ho⟩:=xB i4 z E hj K;exact notj ed he hb ho
     .rintro⟨q,D,e⟩;obtain⟨d,k',J,K⟩:=fX L ⟨q,D,e⟩;simp only [Id.s.injEq] at J;have h:=ltd u j1 j9 d K;rw [<-J.1] at h;exact absurd h (TG.2 (R4 (by decide) (Un 2000000 _)))
     .rintro⟨q,D,e⟩;obtain⟨d,k',J,K⟩:=fX L ⟨q,D,rfl⟩;exact U l C j u hj notj hus a2' p F d k' K (by rw [<-e,J])
    .intro p F q D e;obtain⟨d,k,J,K⟩:=fX L ⟨q,D,rfl⟩;exact U l C j u hj notj hus a2' p F d k K (by rw [e,J])
   ·
    obtain⟨ga,wa,ra,da⟩:=F9 hld;obtain⟨rb',hrb'⟩:∃r,jO ops l=some r:=by rcases tG hld with⟨k,Z,_⟩ | Z <;> exact⟨_,Z⟩
    obtain⟨gb,wb,rb,db⟩:=BL (P:=P) (An:=An) hrb';have gni:=gnone l G s gb wi.guard;have gnj:=gnone u I s ga gj';have L:kA l C=true:=by simpa [wb] using i5
    have hus:se ops u B=true:=by simpa [wa] using j8
    have hap2:=Ga hld (RT hj) (RT hi) j10 i10 (λk Z=>by rw [tk k Z]);refine⟨?_, ?_, ?_⟩
    .refine vS (s:=s.put (dK ops l.dst) l.dst G vi C) (s':=s) (N:=λi=>∃q∈C,q.1=i) (λx z k e=>(tj k (gZ (e▸z))).symm) (λi hi=> ?_) da (λx z id E=> ?_) (λk=> ?_) (λp F=> ?_) wj.op
     .exact(dI λq D e=>hi ⟨q,D,e⟩).symm
     .rw [getj x z] at E;rintro⟨q,D,e⟩;obtain⟨d,k,J,K⟩:=fX L ⟨q,D,e⟩;subst J;obtain⟨ed,he,hb,ho⟩:=xB nj z E hi K;exact noti ed he hb ho
     .rintro⟨q,D,e⟩;obtain⟨d,k',J,K⟩:=fX L ⟨q,D,e⟩;simp only [Id.s.injEq] at J;have h:=ltd l i1 i9 d K;rw [<-J.1] at h;exact absurd h (TG.2 (R4 (by decide) (Un 2000000 _)))
     .rintro⟨q,D,e⟩;obtain⟨d,k',J,K⟩:=fX L ⟨q,D,rfl⟩;exact U u B i l hi noti hus a2 p F d k' K (by rw [<-e,J])
    .rw [<-wi.op];refine kQ (λx z k e=>ti _ _ _ k (gZ (e▸z))) (.inr (.inr (.inr ⟨rb,db,λx z id E=> ?_⟩)));refine dI λq D e=> ?_;rw [gni] at E;exact hap2 x z id E q D e
    .intro p F q D e;obtain⟨d,k,J,K⟩:=fX L ⟨p,F,rfl⟩;exact U u B i l hi noti hus a2 q D d k K (by rw [<-e,J])
   obtain⟨k,k',sk,sk',nek,dk,dk'⟩:=B9 hst;obtain⟨gni,ri,di⟩:=guardA l G s k sk wi.guard;obtain⟨gnj,rj,dj⟩:=guardA u I s k' sk' gj';have hst':kJ An ops u l=true:=PN hst;obtain⟨p1,p2,p3⟩:=ID i10 (RT hj) hst sk sk';obtain⟨q1,q2,q3⟩:=ID j10 (RT hi) hst' sk' sk;replace tk:=tk k dk;have tk':(s.put (dK ops l.dst) l.dst G vi C).t k'=s.t k':=by rw [pli];exact pV (b:=false) λe=>dk' (pB e ops.toList (Array.mem_toList_iff.2 (RT hi)))
   rw [tk] at q3;rw [tk'] at q2;refine⟨?_, ?_,λp F q D e=>q3 q D (e▸p2 p F)⟩
   .rw [<-wj.op];refine(kQ (s:=s) (s':=s.put (dK ops l.dst) l.dst G vi C) (λx z k e=>tj k (gZ (e▸z))) (.inr (.inr (.inr ⟨rj,dj,λx z id E=> ?_⟩)))).symm;refine dI λq D e=> ?_;rw [<-getj x z,gnj] at E;have:=q1 x z id E;rw [tk'] at this;exact p3 q D (e▸this)
   .rw [<-wi.op];refine kQ (λx z k e=>ti _ _ _ k (gZ (e▸z))) (.inr (.inr (.inr ⟨ri,di,λx z id E=> ?_⟩)));refine dI λq D e=> ?_;rw [gni] at E;exact q3 q D (e▸p1 x z id E)
 obtain⟨opj,opi,disj⟩:=three;have sj10:jQ P An ops u s B=true:=by
  refine Ca (λk Z=> ?_) (λk Z x z=> ?_) (λQ x z=> ?_) j10
  .rw [pli];exact(pV (b:=false) λe=>Z (pB e ops.toList (Array.mem_toList_iff.2 (RT hi)))).symm
  .have:=guardB u I s k Z gj';have h:=getj x z;rw [this] at h;exact h.symm
  .have hgn:I=none:=by
    have h:=gj';unfold dq at h;rw [Q] at h;simp only [Rp] at h;exact h.symm
   have h:=getj x z;rw [hgn] at h;exact h.symm
 have frj:iK (u.dst.getD 0) s.h B=true:=by
  unfold iK at j3⊢;refine RK.2 λp F=> ?_;have:=RK.1 j3 p F;split at this
  .simp only [SJ,Ug] at this⊢;rcases this with h | h
   .exact .inl h
   .exact .inr (yB h).2
  .rfl
  .cases this
 have wj0:sO P An Or nt ops u s I vj B:=⟨gj',opj,by
  simp only [oI,RH,Sx,Rw];exact⟨⟨⟨j1,j2⟩,frj⟩,⟨⟨⟨⟨⟨nj,j5⟩,j6⟩,j7⟩,j8⟩,j9⟩,sj10⟩⟩
 have plj:=Bz (g:=I) (v:=vj) (us:=B) hu hj hlj hG (dK ops u.dst);refine⟨_,wj0.eU, ?_⟩;rw [plj];have gi':dq ops l (s.put false u.dst I vj B) some=some G:=by rw [<-wi.guard];exact FR λx b d h1 h2=>ti _ _ _ d (Gj h1 h2)
 have geti:∀x∈l.op.operands,(s.put false u.dst I vj B).get G x=s.get G x:=λx z=>ru λk e=>ti _ _ _ k (gZ (e▸z));have ni:oD ops G l (s.put false u.dst I vj B)=true:=by rw [<-i4];exact GM geti
 have fri:iK (l.dst.getD 0) (s.put false u.dst I vj B).h C=true:=by
  unfold iK at i3⊢;refine RK.2 λp F=> ?_;have:=RK.1 i3 p F;split at this
  .rename_i d k ep;simp only [SJ,Ug] at this⊢;rcases this with h | h
   .exact .inl h
   .right;show aJ s.h B p.1=none;rw [dI λq D e=>disj p F q D e.symm];exact h
  .rfl
  .cases this
 have si10:jQ P An ops l (s.put false u.dst I vj B) C=true:=by
  refine Ca (λk Z=> ?_) (λk Z x z=> ?_) (λQ x z=> ?_) i10
  .exact pV (b:=false) λe=>Z (pB e ops.toList (Array.mem_toList_iff.2 (RT hj)))
  .have:=guardB l G s k Z wi.guard;have h:=geti x z;rw [this] at h;exact h
  .have hgn:G=none:=by
    have h:=wi.guard;unfold dq at h;rw [Q] at h;simp only [Rp] at h;exact h.symm
   have h:=geti x z;rw [hgn] at h;exact h
 have wi0:sO P An Or nt ops l (s.put false u.dst I vj B) G vi C:=⟨gi',opi,by
  simp only [oI,RH,Sx,Rw];exact⟨⟨⟨i1,i2⟩,fri⟩,⟨⟨⟨⟨⟨ni,i5⟩,i6⟩,i7⟩,i8⟩,i9⟩,si10⟩⟩
 rw [wi0.eU,pli];have dij:∀d,l.dst=some d->u.dst≠some d:=a2;have dF:∀(g:Option Gs) (o:Oper) (m:Nat) (om:Oper),ops[m]? =some om->V.getD m true=false->dq ops o s some=some g->o∈ops->(∀e∈o.after,Region.binds .any e=true->V.getD e.on false=true)->∀gs,g=some gs->om.dst≠some gs.d:=by
  intro g o m om hom hlm M hmem hall gs hgs hd;unfold dq at M;cases hog:o.guard with
  | none=>rw [hog] at M;simp only [Rp] at M;rw [hgs] at M;cases M
  | some p=>
   obtain⟨jj,b⟩:=p;rw [hog] at M;simp only at M;cases hdd:(ops[jj]?).bind (·.dst) with
   | none=>rw [hdd] at M;simp at M
   | some d=>
    rw [hdd] at M;simp only at M;replace M:=Rq.1 M;obtain⟨x,_,M⟩:=M;obtain⟨bb,M,_⟩:=pK M;simp only [Rp] at M;rw [hgs] at M;simp only [Rp] at M;have hgd:gs.d=d:=by rw [<-M]
    rw [hgd] at hd;obtain⟨ojj,h1,h2⟩:=Rq.1 hdd;have:=hu hom h1 hd h2;subst this;have hge:=Sa.1 hgk o hmem;rw [hog] at hge;simp only at hge;obtain⟨e,he,hb⟩:=Uu.1 hge;simp only [Rw,beq_iff_eq] at hb;exact uG hlm (hb.2▸hall e he hb.1)
 have nogi:=dF G l j u hj hlj wi.guard (RT hi) hai;have nogj:=dF I u i l hi hli gj' (RT hj) haj;have nos:∀(m:Nat) (om:Oper),ops[m]? =some om->V.getD m true=false->∀k g v,s.t k= (some g,v)->om.dst≠some g.d:=by intro m om hom hlm k g v hst hd;obtain⟨x,ox,h1,h2,h3⟩:=hG k g v hst;have:=hu hom h1 hd h3;subst this;exact uG hlm h2
 have tcomm:∀(bi bj:Bool),((s.put false u.dst I vj B).put bi l.dst G vi C).t= ((s.put false l.dst G vi C).put bj u.dst I vj B).t:=by
  intro bi bj;funext k;cases hdi:l.dst with
  | none=>
   cases hdj:u.dst with
   | none=>rfl
   | some dj=>
    simp only [St.put];by_cases ek:k=dj
    .simp [ek]
    .simp only [if_neg ek,cond_false];cases bj with
     | false=>rfl
     | true=>
      simp only [cond_true];cases hst:s.t k with
      | mk gk vk=>
       cases gk with
       | none=>rfl
       | some gk=>
        have:=nos j u hj hlj k gk vk hst;rw [hdj] at this;have hb:(gk.d==dj)=false:=by simp only [beq_eq_false_iff_ne,ne_eq];exact λe=>this (by rw [e])
        simp [l8,hb]
  | some di=>
   cases hdj:u.dst with
   | none=>
    simp only [St.put];by_cases ek:k=di
    .simp [ek]
    .simp only [if_neg ek,cond_false];cases bi with
     | false=>rfl
     | true=>
      simp only [cond_true];cases hst:s.t k with
      | mk gk vk=>
       cases gk with
       | none=>rfl
       | some gk=>
        have:=nos i l hi hli k gk vk hst;rw [hdi] at this;have hb:(gk.d==di)=false:=by simp only [beq_eq_false_iff_ne,ne_eq];exact λe=>this (by rw [e])
        simp [l8,hb]
   | some dj=>
    have hne':di≠dj:=λe=>dij di hdi (by rw [hdj,e]);simp only [St.put];have drop1:∀(b:Bool) (g:Option Gs) (v:AV) (d:Nat),(∀gs,g=some gs->gs.d≠d)->cond b (l8 d (g,v)) (g,v)= (g,v):=by
     intro b g v d Q;cases b with
     | false=>rfl
     | true=>
      cases g with
      | none=>rfl
      | some gs=>
       have hb:(gs.d==d)=false:=by simpa using Q gs rfl
       simp [l8,hb]
    by_cases eki:k=di
    .subst eki;simp only [if_true,if_neg hne',cond_false];rw [drop1 bj G vi dj λgs e h=>nogi gs e (by rw [hdj,h])]
    .by_cases ekj:k=dj
     .subst ekj;simp only [if_true,if_neg eki,cond_false];rw [drop1 bi I vj di λgs e h=>nogj gs e (by rw [hdi,h])]
     .simp only [if_neg eki,if_neg ekj,cond_false];cases hst:s.t k with
      | mk gk vk=>rw [drop1 bi gk vk di λgs e h=>by subst e;exact nos i l hi hli k gs vk hst (by rw [hdi,h]),drop1 bj gk vk dj λgs e h=>by subst e;exact nos j u hj hlj k gs vk hst (by rw [hdj,h])]
 have:∀(bi bj:Bool),(s.put false u.dst I vj B).put bi l.dst G vi C= (s.put false l.dst G vi C).put bj u.dst I vj B:=by
  intro bi bj;have ht:=tcomm bi bj;have hh:((s.put false u.dst I vj B).put bi l.dst G vi C).h= ((s.put false l.dst G vi C).put bj u.dst I vj B).h:=by show aJ (aJ s.h B) C=aJ (aJ s.h C) B;exact(Q7 disj).symm
  generalize (s.put false u.dst I vj B).put bi l.dst G vi C=X at *
  generalize (s.put false l.dst G vi C).put bj u.dst I vj B=Y at *
  cases X;cases Y;simp only at ht hh;rw [ht,hh]
 rw [this]
theorem MG{o:Oper}{l:Gs}{f:Array Bool}(u:rv ops=true)(a:dq ops o s some=some (some l))(q:o∈ops)(m:∀e∈o.after,Region.binds .any e=true->f.getD e.on false=true):
  ∃i v,ops[i]? =some v/\f.getD i false=true/\v.dst=some l.d:=by
 unfold dq at a;cases k:o.guard with
 | none=>rw [k] at a;simp at a
 | some p=>
  obtain⟨jj,b⟩:=p;rw [k] at a;simp only at a;cases g:(ops[jj]?).bind (·.dst) with
  | none=>rw [g] at a;simp at a
  | some d=>
   rw [g] at a;simp only at a;replace a:=Rq.1 a;obtain⟨x,_,a⟩:=a;obtain⟨bb,a,_⟩:=pK a;simp only [Rp] at a;have r:l.d=d:=by rw [<-a]
   obtain⟨y,h1,z⟩:=Rq.1 g;have j:=Sa.1 u o q;rw [k] at j;simp only at j;obtain⟨e,B,hb⟩:=Uu.1 j;simp only [Rw,beq_iff_eq] at hb;exact⟨jj,y,h1,hb.2▸m e B hb.1,by rw [r];exact z⟩
theorem FL{a:Array Bool}{i:Nat}{p:Oper}(G:qI ops)(B:rv ops=true)(hi:ops[i]? =some p)(D:i∈Region.ready .any ops a)(u:qq ops a s)(e:eU P An Or true nt ops p s=some s1):
  qq ops (a.setIfInBounds i true) s1:=by
 obtain⟨g,v,us,I,rfl⟩:=Bp e;obtain⟨C,J,f,y⟩:=mem_ready.1 D;rw [hi] at f;simp only [Rp] at f;subst f;rw [Bz G hi C u];have j:∀k g v,s.t k= (some g,v)->∃i' o,ops[i']? =some o/\(a.setIfInBounds i true).getD i' false=true/\o.dst=some g.d:=by intro k g v E;obtain⟨x,q,h1,l,m⟩:=u k g v E;exact⟨x,q,h1,getD_set_true l,m⟩
 intro k r F b;unfold St.put at b;cases z:p.dst with
 | none=>rw [z] at b;exact j k r F b
 | some d=>
  rw [z] at b;dsimp only at b;split at b
  .simp only [Sk] at b;obtain⟨x,q,h1,l,m⟩:=MG B (by rw [<-b.1];exact I.guard) (RT hi) y;exact⟨x,q,h1,getD_set_true l,m⟩
  .exact j k r F b
def sR(P:Program)(An:cG)(Or:aB)(nt:Nat)(ops:Array Oper)(Q:St->Prop):Nat->Array Bool->St->Prop
 | 0,a,s=>Region.ready .any ops a= []/\Q s
 | n+1,a,s=>(Region.ready .any ops a= []->Q s)/\∀i∈Region.ready .any ops a,∃o s1,ops[i]? =some o/\eU P An Or true nt ops o s=some s1/\sR P An Or nt ops Q n (a.setIfInBounds i true) s1
theorem JR{n j i:Nat}{b:Oper}(f:ops[j]? =some b)(h:gS ops (n+1) j i=false):∀e∈b.after,Region.binds .any e=true->e.on≠i:=by intro e d hb a;simp only [gS,f] at h;rw [Array.any_eq_false'] at h;exact h e d (by simp [hb,a])
theorem DN{a:Array Bool}{j:Nat}(g:qe ops a)(p:j∈Region.ready .any ops a):qe ops (a.setIfInBounds j true):=by
 intro k ok l m e i hb;obtain⟨q,r,b,f⟩:=mem_ready.1 p;refine getD_set_true ?_;by_cases d:j=k
 .subst d;rw [l] at b;simp only [Rp] at b;subst b;exact f e i hb
 .have o:a.getD k false=true:=by
   rw [Ti,Vb d] at m;rw [Ti];exact m
  exact g k ok l o e i hb
theorem Jm{Q:St->Prop}{i:Nat}{d:Oper}(J:qI ops)(v:rv ops=true)(hi:ops[i]? =some d):∀(jD:Nat) (a:Array Bool) (s s1:St),
  (∀j o,ops[j]? =some o->j≠i->a.getD j true=false->gS ops 12 j i=false->d.apart ops o=true/\(qO P An d o=true\/rY P An ops d o=true))->qe ops a->
  i∈Region.ready .any ops a->qq ops a s->eU P An Or true nt ops d s=some s1->sR P An Or nt ops Q jD (a.setIfInBounds i true) s1->sR P An Or nt ops Q (jD+1) a s:=by
 intro jD;induction jD with
 | zero=>
  intro a s s1 _ _ g z e H;refine⟨λh=>(by rw [h] at g;cases g),λj l=> ?_⟩;by_cases b:j=i
  .subst b;exact⟨d,s1,hi,e,H⟩
  .have:=ready_mono l b;rw [H.1] at this;cases this
 | succ jD V=>
  intro a s s1 p q g z e H;refine⟨λh=>(by rw [h] at g;cases g),λj l=> ?_⟩;by_cases b:j=i
  .subst b;exact⟨d,s1,hi,e,H⟩
  .obtain⟨o,s2,f,M,L⟩:=H.2 j (ready_mono l b);obtain⟨u,X,m,B⟩:=mem_ready.1 l;rw [f] at m;simp only [Rp] at m;subst m;have C:gS ops 12 j i=false:=zx q (mem_ready.1 g).1 f B;obtain⟨E,F⟩:=p j o f b u C;obtain⟨K,D,N⟩:=PY J v hi f b g l q E F z e M;refine⟨o,K,f,D, ?_⟩
   have r:∀k ok,ops[k]? =some ok->k≠i->(a.setIfInBounds j true).getD k true=false->
     gS ops 12 k i=false->d.apart ops ok=true/\(qO P An d ok=true\/rY P An ops d ok=true):=λk ok U G y I=>by
    refine p k ok U G ?_ I;by_cases x:j=k
    .subst x;exact u
    .rw [getD_set_ne true x] at y;exact y
   refine V (a.setIfInBounds j true) K s2 r (DN q l) (ready_mono g (Vp b)) (FL J v f l z D) N ?_;rw [Array.setIfInBounds_comm _ _ b];exact L
theorem Mv{i:Nat}{b:Oper}{a:Array Bool}(hi:ops[i]? =some b)(h:Ay P An ops a i=true)(j:Nat)(d:Oper)(e:ops[j]? =some d)(f:j≠i)(k:a.getD j true=false)
  (g:gS ops 12 j i=false):qO P An b d=true\/rY P An ops b d=true:=by
 simp only [Ay,hi,RK,Tp] at h;have h1:=h j (UN.1 e).1;simp only [e,SJ,beq_iff_eq,f,false_or,k,RS,g,or_false] at h1;exact h1
theorem C4{Q:St->Prop}(v:qI ops)(b:rv ops=true):∀(l:List Oper) (k:Nat) (a:Array Bool) (s:St),(∀j,l[j]? =ops[k+j]?)->Region.lexFrom .any ops l.length k a=true->xw P An ops l.length k a=true->qe ops a->qq ops a s->
  iS P An Or true nt ops l s=some s'->Q s'->sR P An Or nt ops Q l.length a s
 | [],k,a,s,_,f,_,_,_,h,r=>by simp only [iS,Rp] at h;subst h;exact⟨by simpa [Region.lexFrom] using f,r⟩
 | o::l,k,a,s,z,f,q,g,y,h,r=>by
  simp only [iS] at h;obtain⟨s1,h1,h⟩:=Rq.1 h;have e:ops[k]? =some o:=by simpa using (z 0).symm
  simp only [RP,Region.lexFrom,Rw] at f;obtain⟨⟨D,C⟩,x⟩:=f;simp only [RP,xw,Rw] at q;have d:k∈Region.ready .any ops a:=by simpa using D
  exact Jm v b e l.length a s s1 (λj B u i p m=>⟨Region.free_spec e C j B u i p (JR u m),Mv e q.1 j B u i p m⟩) g d y h1
   (C4 v b l (k+1) _ s1 (λj=>by have:=z (j+1);simpa [Uc,Ve 1 j] using this) x q.2 (DN g d) (FL v b e d y h1) h r)
theorem C5(u:jc P An Or){Q:Exit->Act->World->Prop}{s':St}:∀{jD:Nat} {b:Array Bool} {w:World} {s:St} {ρ:Id->Option Value} {O:Id->Option Nat} {a:Act},
  eD c nt w s ρ O a->nS ops s->sR P An Or nt ops (· =s') jD b s->(∀k w' ρ' O',Le w ρ O w' ρ' O'->eD c nt w' s' ρ' O' k->Q .normal k w')->wpAny P .any ops Q jD b a w
 | 0,b,w,s,ρ,O,a,d,j,h,f=>⟨h.1,f a w ρ O Le.refl (h.2▸d)⟩
 | jD+1,b,w,s,ρ,O,a,d,j,h,f=>by refine⟨λz=>f a w ρ O Le.refl (h.1 z▸d),λi hi=> ?_⟩;obtain⟨o,s1,v,e,H⟩:=h.2 i hi;obtain⟨l,step⟩:=He u d j (RT v) e;unfold wpOp;rw [v];exact step _ Q λk w' ρ' O' le m=>C5 u m l H λr y p q x g=>f r y p q (le.trans x) g
theorem OH{R:Type}{id:Nat}{f:Bool}{a:Act}{K:St->Option R}{r:R}(hm:P.follows .mixedOrders=true)(C:jc P An Or)(l:eD c nt w s ρ O a)(hb:nN s)(e:region P An Or nt f ops s K=some r):
  ∃s':St,K s'.clear=some r/\∀Q:Exit->Act->World->Prop,(∀p w' ρ' O',Le w ρ O w' ρ' O'->eD c nt w' s'.clear ρ' O' p->Q .normal p w')->(Code.region id ops f).wp P Q a w:=by
 unfold region at e;cases m:BD P An f ops with
 | false=>simp [m] at e
 | true=>
  rw [m,cond_true,BM] at e;replace e:=Rq.1 e;obtain⟨s',e,F⟩:=e;refine⟨s',F,λQ D=> ?_⟩;cases f with
  | false=>exact OG C l hb e D
  | true=>simp only [BD,RH,Sx,Rw] at m;obtain⟨⟨⟨B,G⟩,I⟩,E⟩:=m;simp only [Region.lexB,Rw] at B;have L:qI ops:=λ{i j x y d} hi J M hy=>Eg I (by simpa using hi) (by simpa using J) M hy;have o:Le w ρ O w.drew ρ O:=⟨rfl,rfl,rfl,RI _,λ_ _ h=>h,λ_ _ _=>rfl,λi b h=> .inl ⟨i,h⟩⟩;have z:eD c nt w.drew s ρ O a:=⟨l.hs.world o λ_ _ _=>rfl,SS.mono (λb hb=>o.A b hb) o.eB l.ss,l.nt,l.defers⟩;refine wp_region_any hm ?_;have:=C4 (P:=P) (An:=An) (Or:=Or) (nt:=nt) (Q:=(· =s')) L E ops.toList 0 (Array.replicate ops.size false) s (by simp) (by simpa using B.2) (by simpa using G) (λk ok F q=>by simp [Ti,Array.getElem?_replicate] at q;split at q <;> simp at q) (λk g v h=>(hb k g v h).elim) e rfl;simp only [RR] at this;exact C5 C z (hb.FX ops) this λp w' ρ' O' le u=>D p w' ρ' O' (o.trans le) u.clear
end
open Go Go.IntKind
section
variable {P:Program} {An:cG} {Or:aB} {w w':World} {A A':Nat->Prop} {c:Ctx} {ρ:Id->Option Value} {O:Id->Option Nat} {s s':St} {h:Id->Option ab}
def Ends(P:Program)(f:FuncId)(fn:Func)(todo:List Item)(a:Act)(w:World)(R:Value->World->Prop):Prop:=
 ∀(b:Frame),b.fn=f->b.kind= .normal->∀cs,∃d w' v todo',Steps P (lone (b.at a todo) cs w) (lone {b.at d todo' with mode:= .returning} cs w')/\
  d.defers= []/\(results fn d.tmps).run P w'= .ok v w'/\R v w'
theorem Ends.mono{f:FuncId}{fn:Func}{todo:List Item}{a:Act}{R d:Value->World->Prop}(h:Ends P f fn todo a w R)(l:∀v w',R v w'->d v w'):Ends P f fn todo a w d:=
 λb hb k cs=>let⟨e,w',v,t,h1,g,i,j⟩:=h b hb k cs;⟨e,w',v,t,h1,g,i,l _ _ j⟩
theorem Ends.step{f:FuncId}{fn:Func}{todo todo':List Item}{a:Act}{R:Value->World->Prop}(d:∀(b:Frame) cs,step P (lone (b.at a todo) cs w)= .next (lone (b.at a todo') cs w))(h:Ends P f fn todo' a w R):Ends P f fn todo a w R:=
 λb hb i cs=>let⟨e,w',v,t,h1,g⟩:=h b hb i cs;⟨e,w',v,t, .head (d b cs) h1,g⟩
theorem Ends.region{f:FuncId}{fn:Func}{id:Nat}{ops:Array Oper}{d:Bool}{k:List Item}{a:Act}{R:Value->World->Prop}
  (h:(Code.region id ops d).wp P (λe g w'=>e= .normal/\Ends P f fn k g w' R) a w):Ends P f fn (.code (.region id ops d)::k) a w R:=by
 intro b hb m cs;obtain⟨e,j,p,⟨rfl,o⟩,i⟩:=h b k cs;obtain⟨g,w',v,t,h1,l⟩:=o b hb m cs;exact⟨g,w',v,t,Steps.trans i h1,l⟩
theorem J4{f:FuncId}{fn:Func}{a:Code}{args:Array Value}{R:Value->World->Prop}(g:P.funcs[f]? =some fn)(hb:fn.body=some a)
  (h:Ends P f fn [.code a] {tmps:=args++Array.replicate (fn.ntmps - args.size) undef,defers:= []} w R):Calls P f args w λe w'=>∃v,e= .returned v/\R v w':=by
 intro cs;let b:Frame:={(default:Frame) with fn:=f,kind:= .normal};have d:Frame.enter P f args .normal=b.at {tmps:=args++Array.replicate (fn.ntmps - args.size) undef,defers:= []} [.code a]:=by simp [Frame.enter,Frame.at,g,hb,b]
 obtain⟨l,w',v,todo',hs,j,k,i⟩:=h b rfl rfl cs;rw [<-d] at hs;exact⟨.returned v,w',_,⟨v,rfl,i⟩,hs,rfl,rfl,j,rfl,fn,g,k⟩
structure Fin (P:Program) (c:Ctx) (B:Nat->Option Value) (sh:List bR) (outs:List jr) (xs:List T) (Own:Nat->Prop) (w:World) (v:Value) (w':World):Prop where
 os:w'.os=w.os
 output:w'.output=w.output
 tape:w'.tape=w.tape
 size:w.heap.size<=w'.heap.size
 ah:∀b,b < w.heap.size->¬Own b->w'.heap[b]? =w.heap[b]?
 res:∃rs x1 x2 o1 o2,v=oR rs/\xs=x1++x2/\(o1++o2).Nodup/\(∀b∈o1++o2,c.MO b/\b < w'.heap.size)/\dv B w' (λb=>(c.A0 b\/c.MO b)/\b < w'.heap.size/\b∉o1++o2) sh x1 rs o1/\
  nY B w' (λb=>(c.A0 b\/c.MO b)/\b < w'.heap.size/\b∉o1++o2) 0 outs x2 o2
theorem Fin.le{B:Nat->Option Value}{sh:List bR}{os:List jr}{xs:List T}{v:Value}{w'':World}{ρ':Id->Option Value}{O':Id->Option Nat}(le:Le w ρ O w' ρ' O')(h:Fin P c B sh os xs (fu O') w' v w''):Fin P c B sh os xs (fu O) w v w'' where
 os:=h.os.trans le.os
 output:=h.output.trans le.output
 tape:=h.tape.trans le.tape
 size:=R4 le.size h.size
 ah b hb hn:=by
  rw [h.ah b (S7 hb le.size) (λ⟨i,hi⟩=> ?_),le.ah b hb (λi hi=>hn ⟨i,hi⟩)];rcases le.own i b hi with⟨j,hj⟩ | hj
  .exact hn ⟨j,hj⟩
  .omega
 res:=h.res
theorem Fin.own{B:Nat->Option Value}{d:List bR}{os:List jr}{xs:List T}{v:Value}{a:World}{O':Id->Option Nat}(e:∀b,fu O' b->fu O b)(h:Fin P c B d os xs (fu O') w v a):Fin P c B d os xs (fu O) w v a:=
 {h with ah:=λb hb f=>h.ah b hb λg=>f (e b g)}
theorem Gl:∀{l:List Id},xG l=true->l.Nodup
 | [],_=>UZ
 | i::r,h=>by
  simp only [xG,Rw,SL] at h;refine SB.2 ⟨λhm=> ?_,Gl h.2⟩;have:r.contains i=true:=by simpa using hm
  rw [this] at h;cases h.1
def kU(O:Id->Option Nat)(l:List Id):List Nat:=l.filterMap O
theorem Dn(hs:HS c w h ρ O):∀{l:List Id},l.Nodup->(kU O l).Nodup
 | [],_=>UZ
 | i::l,g=>by
  obtain⟨h1,d⟩:=SB.1 g;have a:=Dn hs d;unfold kU at *
  cases hi:O i with
  | none=>rw [List.filterMap_cons_none hi];exact a
  | some b=>rw [List.filterMap_cons_some hi];refine SB.2 ⟨λhm=> ?_,a⟩;obtain⟨j,f,e⟩:=UX.1 hm;have:=hs.inj i j b hi e;exact h1 (this▸f)
theorem JQ(a b:List Id):kU O (a++b)=kU O a++kU O b:=by simp [kU]
def fp(O:Id->Option Nat)(l:List Id)(own:List Nat):Prop:=(∀i∈l,i.real=true)/\∃ids,own=kU O ids/\(l.Nodup->ids.Nodup)/\∀x∈ids,Of l x
theorem fp.nil:fp O [] []:=⟨by simp,[],rfl,λh=>h,by simp⟩
theorem fp.one{i:Id}(a:i.real=true):fp O [i] (O i).toList:=by refine⟨by simpa using a,[i], ?_,λh=>h,λx b=> .inl b⟩;cases h:O i <;> simp [kU,h]
theorem fp.append{a b:List Id}{o1 r:List Nat}(h1:fp O a o1)(v:fp O b r):fp O (a++b) (o1++r):=by
 obtain⟨r1,D,rfl,F,p⟩:=h1;obtain⟨u,E,rfl,G,q⟩:=v;refine⟨λi hi=> ?_,D++E,(JQ _ _).symm,λz=> ?_,λx d=> ?_⟩
 .rcases RM.1 hi with hi | hi
  .exact r1 i hi
  .exact u i hi
 .obtain⟨C,k2,o⟩:=Tc.1 z;refine Tc.2 ⟨F C,G k2,λx d y hy e=> ?_⟩;subst e;rcases p x d with k | ⟨j,n,k,m⟩ <;> rcases q x hy with l | ⟨B,I,l,f⟩
  .exact o x k x l rfl
  .have:=r1 x k;rw [f] at this;cases this
  .have:=u x l;rw [m] at this;cases this
  .rw [m] at f;simp only [Id.g.injEq] at f;exact o j k B l f.1
 .rcases RM.1 d with d | d
  .rcases p x d with g | ⟨j,n,g,e⟩
   .exact .inl (RD _ g)
   .exact .inr ⟨j,n,RD _ g,e⟩
  .rcases q x d with g | ⟨j,n,g,e⟩
   .exact .inl (RE _ g)
   .exact .inr ⟨j,n,RE _ g,e⟩
theorem fp.mem{l:List Id}{own:List Nat}(h:fp O l own){b:Nat}(hb:b∈own):∃i,Of l i/\O i=some b:=by obtain⟨_,ids,rfl,_,m⟩:=h;obtain⟨i,hi,e⟩:=UX.1 hb;exact⟨i,m i hi,e⟩
def mw:Nat->List Row->List Row
 | _,[]=> []
 | n,e::r=>{e with n:=n}::mw (n+1) r
theorem uh:∀(es:List Row) (n:Nat),(mw n es).length=es.length
 | [],_=>rfl
 | e::r,n=>by simp [mw,uh r]
theorem xT:∀(es:List Row) (n:Nat),(mw n es).map (·.n)=List.range' n es.length
 | [],_=>rfl
 | e::r,n=>by simp [mw,xT r,Ui]
theorem DV:∀{es:List Row} {n:Nat},bE es=true->qQ n (es.map λe=> [.ptr e.cs,oU e])=some (mw n es)
 | [],_,_=>rfl
 | e::r,n,h=>by
  simp only [bE,SZ,Rw] at h;have d:=DV (es:=r) (n:=n+1) h.2;obtain⟨f,a,b⟩:=e;cases b with
  | none=>simp at h
  | some p=>show((qQ (n+1) (r.map λe=> [.ptr e.cs,oU e])).bind λl=>some (⟨n,a,some (p.1,p.2)⟩::l))=_;rw [d];rfl
theorem HM{A A':Nat->Prop}{d:Id->Option Value}{a:Id->Option Nat}{i:Id}{ah sz az rsz:Nat}(m:∀b,A b->A' b):∀{es:List Row} {k base:Nat},(∀j e,es[j]? =some e->d (.g i (k+j))=ρ (.g i e.n)/\a (.g i (k+j))=O (.g i e.n))->
  b9 w A ρ O i ah sz az rsz base es->b9 w A' d a i ah sz az rsz base (mw k es)
 | [],_,_,_,_=>trivial
 | e::r,k,base,o,h=>by
  obtain⟨l,h1⟩:=h;obtain⟨C,D⟩:=o 0 e rfl;refine⟨?_,HM m (k:=k+1) (λj f E=>by
   have:=o (j+1) f (by simpa using E);rw [show k+1+j=k+ (j+1) by omega];exact this) h1⟩
  have l:=l.move (A':=A') (w':=w) (ρ':=ρ) (O':=O) (λ_ _=>rfl) (λb hb=>⟨m b hb,rfl⟩) rfl rfl (λ_ _=>rfl);obtain⟨q,v,x,u,y,z,B⟩:=l;refine⟨q,v,x,u,y,by rw [<-z];exact C, ?_⟩;revert B;show(match e.own with | some p=>cM w A' rsz p.1 p.2 u (λb=>O (.g i e.n)=some b) | none=>O (.g i e.n)=none)->(match e.own with | some p=>cM w A' rsz p.1 p.2 u (λb=>a (.g i k)=some b) | none=>a (.g i k)=none);rw [show a (.g i k)=O (.g i e.n) from D];exact id
def qz(w:World)(c:Ctx)(O:Id->Option Nat)(b:List Id)(Q:(Nat->Prop)->Prop):Prop:=
 ∀A:Nat->Prop,(∀k,AA c w O k->A k)->(∀i ah,i∈b->i.real=true->O i=some ah->A ah)->Q A
def iA(m:Nat)(B:Nat->Option Value)(ρ:Id->Option Value):Prop:= ∀j,j < m->∃v,B j=some v/\ρ (.c j)=some v
theorem EL{B:Nat->Option Value}{i:Id}{b:Bool}{sz az rsz nx:Nat}{es:List Row}{u:Value}{l:List Id}(hs:HS c w h ρ O)(hi:h i=some (.rows b sz az rsz nx es))(hv:ρ i=some u)(M:bE es=true):
  fp O [i] (kU O (i::es.map λe=> .g i e.n))/\qz w c O l λA=>js B w A (.rows sz az rsz) (bH b es) u (kU O (i::es.map λe=> .g i e.n)):=by
 have o:=hs.real (i:=i) (by rw [hi];simp);obtain⟨a,cap,r1,r2,r3,⟨U,n2,n3,n4⟩,J⟩:=hs.ah i _ hi;have N:(i::es.map λe=>Id.g i e.n).Nodup:=by
  refine SB.2 ⟨λhm=> ?_, ?_⟩
  .obtain⟨e,_,F⟩:=RU.1 hm;rw [<-F] at o;cases o
  .have:(es.map λe=>Id.g i e.n)= (es.map (·.n)).map (Id.g i):=by rw [Ul];rfl
   rw [this];exact List.pairwise_map.2 (U.imp λh e=>h (by simpa using e))
 refine⟨⟨by simpa using o,_,rfl,λ_=>N,λx m=> ?_⟩,λA Y _=> ?_⟩
 .rcases RC.1 m with rfl | m
  .exact .inl Rs
  .obtain⟨e,_,rfl⟩:=RU.1 m;exact .inr ⟨i,e.n,Rs,rfl⟩
 .let V:Id->Option Value:=λx=>match x with
   | .g y k=>if y=i then(es[k]?).bind λe=>ρ (.g i e.n) else none
   | x=>if x=i then ρ i else none
  let Q:Id->Option Nat:=λx=>match x with
   | .g y k=>if y=i then(es[k]?).bind λe=>O (.g i e.n) else none
   | x=>if x=i then O i else none
  have L:V i=ρ i:=by
   cases i with
   | g y n=>cases o
   | _=>simp only [V,if_true]
  have K:Q i=O i:=by
   cases i with
   | g y n=>cases o
   | _=>simp only [Q,if_true]
  have D:∀k,V (.g i k)= (es[k]?).bind λe=>ρ (.g i e.n):=λk=>by simp only [V,if_true]
  have C:∀k,Q (.g i k)= (es[k]?).bind λe=>O (.g i e.n):=λk=>by simp only [Q,if_true]
  have r:∀x d,Q x=some d->(x=i/\O i=some d)\/∃k e,x= .g i k/\es[k]? =some e/\O (.g i e.n)=some d:=by
   intro x d m;cases x with
   | g y k=>
    simp only [Q] at m;split at m
    .rename_i e;subst e;obtain⟨e,h1,E⟩:=Rq.1 m;exact .inr ⟨k,e,rfl,h1,E⟩
    .cases m
   | s y k=>
    simp only [Q] at m;split at m
    .rename_i e;exact .inl ⟨e,m⟩
    .cases m
   | c k=>
    simp only [Q] at m;split at m
    .rename_i e;exact .inl ⟨e,m⟩
    .cases m
  refine⟨b,mw 0 es,i,V,Q, ?_,⟨a,cap,by rw [L,uh];exact r1,by rw [uh];exact r2,r3,⟨?_,λf G=> ?_,λk p=> ?_,λk d p=> ?_⟩, ?_⟩,by rw [L];exact hv,o,λx y d m hy=> ?_,λk v p=> ?_,λx d m=> ?_,λd=> ?_⟩
  .simp only [bH,kg,DV M,RA]
  .rw [xT];exact List.nodup_range'
  .have:f.n∈(mw 0 es).map (·.n):=RU.2 ⟨f,G,rfl⟩;rw [xT,List.mem_range'_1] at this;rw [uh];omega
  .rw [uh] at p;rw [D,Sh p];rfl
  .rw [C] at p;obtain⟨e,h1,_⟩:=Rq.1 p;have hlt:=(Rz.1 h1).1;have:k∈(mw 0 es).map (·.n):=by rw [xT,List.mem_range'_1];omega
   obtain⟨f,G,X⟩:=RU.1 this;exact⟨f,G,X⟩
  .rcases J with J | ⟨ah,off,arr,t,q1,q2,q3,q4,q5⟩
   .exact .inl J
   .refine .inr ⟨ah,off,arr,t,q1,by rw [K];exact q2,q3,q4,HM Y (λj e Z=> ?_) q5⟩;rw [RY,D,C,Z];exact⟨rfl,rfl⟩
  .rcases r x d m with⟨rfl,q⟩ | ⟨k,e,rfl,q,z⟩ <;> rcases r y d hy with⟨rfl,I⟩ | ⟨k',e',rfl,I,k2⟩
   .rfl
   .have:=hs.inj _ _ d q k2;rw [this] at o;cases o
   .have:=hs.inj _ _ d I z;rw [this] at o;cases o
   .have:=hs.inj _ _ d z k2;simp only [Id.g.injEq,true_and] at this;rw [tR U q I this]
  .rw [D] at p;obtain⟨e,_,E⟩:=Rq.1 p;exact hs.gone i e.n v E
  .rcases r x d m with⟨rfl,_⟩ | ⟨k,_,rfl,_⟩
   .exact .inl rfl
   .exact .inr ⟨k,rfl⟩
  .simp only [kU,UX,RC,RU];constructor
   .rintro⟨x,rfl | ⟨e,F,rfl⟩,m⟩
    .exact⟨x,by rw [K];exact m⟩
    .obtain⟨k,p⟩:=List.getElem?_of_mem F;exact⟨.g i k,by rw [C,p];exact m⟩
   .rintro⟨x,m⟩;rcases r x d m with⟨rfl,q⟩ | ⟨k,e,rfl,q,z⟩
    .exact⟨x, .inl rfl,q⟩
    .exact⟨.g i e.n, .inr ⟨e,Rt q,rfl⟩,z⟩
theorem EK{R:Type}{m:Nat}{B:Nat->Option Value}{r:bR}{v:AV}{u:Value}{K:T->List Id->List Id->Option R}{res:R}(hB:iA m B ρ)(hs:HS c w h ρ O)(hv:ak w (AA c w O) ρ v u)(d:jh m h r v K=some res):
  ∃x a b ob,K x a b=some res/\fp O a ob/\qz w c O b λA=>js B w A r x u ob:=by
 cases r with
 | f k=>simp only [jh] at d;replace d:=Rq.1 d;obtain⟨x,N,d⟩:=d;replace d:=aK d (.inl rfl);obtain⟨y,hy,d⟩:=d;rw [AV.lN N] at hv;simp only [ak] at hv;exact⟨_,_,_,[],d, .nil,λA j q=>⟨hy,hv.flat hy,rfl⟩⟩
 | t k=>simp only [jh] at d;replace d:=Rq.1 d;obtain⟨x,N,d⟩:=d;refine⟨_,_,_,[],d, .nil,λA j q=>⟨mC hs hv N j (λi ah hi ho=> ?_),rfl⟩⟩;obtain⟨p,z,e⟩:=xd hs N hi ho;refine q i ah (RU.2 ⟨p,z,e⟩) ?_ ho;rw [<-e];refine hs.real λe0=> ?_;have F:=tA (h:=h) v p z;rw [e0] at F;rcases F with⟨sz,b,l,_,F⟩ | ⟨l,_,F⟩ <;> simp at F
 | own sz=>
  simp only [jh] at d;split at d
  .rename_i i;replace d:=Rq.1 d;obtain⟨p,z,d⟩:=d;simp only [Hm] at z;split at z
   .rename_i sz' b xs hi;split at z
    .rename_i hsz;subst hsz;simp only [Rp] at z;subst z;refine⟨_,_,_,(O i).toList,d, .one (hs.real (by rw [hi];simp)),λA j q=> ?_⟩;obtain⟨v',E,Z,_⟩:=hs.ah i _ hi;simp only [ak] at hv;rw [E] at hv;simp only [Rp] at hv;subst hv;exact⟨O i,(b,xs),rfl,by simp [T.aP],Z.mono (λb hb=>⟨j b hb,rfl⟩) (λb hb=>⟨by simpa using hb,rfl⟩)⟩
    .simp at z
   .simp at z
  .rename_i i sz1 n;split at d
   .rename_i sz2 b xs hi;split at d
    .rename_i g;obtain⟨rfl,rfl⟩:=g;refine⟨_,_,_,(O i).toList,d, .one (hs.real (by rw [hi];simp)),λA j q=> ?_⟩;obtain⟨v',E,⟨a,cap,rfl,f2,f3,_,Y⟩,_⟩:=hs.ah i _ hi;simp only [ak] at hv;obtain⟨a1,L,cap1,U,D,M,e3,rfl,e4⟩:=hv;rw [E] at D;simp only [Rp,SD] at D;obtain⟨rfl,rfl,rfl⟩:=D;have G:(xs.take n).length=n:=by rw [So];omega
     have ha:U=none↔a=none:=by
      rcases e4 with⟨_,rfl⟩ | ⟨_,h,_⟩ | ⟨_,_,rfl,rfl⟩
      .exact Vo
      .exact h
      .simp
     refine⟨O i,(b,xs.take n),rfl,by simp [T.aP],U,cap,by rw [G];rfl,by rw [G];omega,by rw [ha];exact f3,trivial, ?_⟩
     .rcases Y with Y | ⟨ah,off,V,t',q1,q2,q3,q4,q5⟩
      .exact .inl Y
      .by_cases Q:cap=0
       .exact .inl Q
       .right;subst q1;have:U=some ⟨ah,off,none⟩:=by
         rcases e4 with⟨_,rfl⟩ | ⟨h,_⟩ | ⟨b',o,e5,rfl⟩
         .rfl
         .exact absurd h.symm Q
         .simp only [Rp,Ss] at e5;obtain⟨rfl,rfl,_⟩:=e5;simp
        exact⟨ah,off,V,t',this,by simpa using q2,q3,q4,(aU.m8 (λb hb=>⟨j b hb,rfl⟩) ah _ rfl off xs q5).take n⟩
    .simp at d
   .simp at d
  .rename_i b;simp only [ak,aw] at hv;refine⟨_,_,_,[],d, .nil,λA j q=>⟨none,(b,[]),rfl,by simp [T.aP], ?_⟩⟩;rcases hv with⟨rfl,rfl⟩ | ⟨rfl,ah,off,sp,rfl⟩
   .exact⟨none,0,rfl,by simp,by simp,trivial, .inl rfl⟩
   .exact⟨some ⟨ah,off,sp⟩,0,rfl,by simp,by simp,trivial, .inl rfl⟩
  .simp only [ak,aw] at hv;refine⟨_,_,_,[],d, .nil,λA j q=>⟨none,(true,[]),rfl,by simp [T.aP], ?_⟩⟩;rcases hv with⟨_,_,rfl⟩ | ⟨h,_⟩
   .exact⟨none,0,rfl,by simp,by simp,trivial, .inl rfl⟩
   .cases h
  .simp at d
 | ref k off=>
  simp only [jh] at d;split at d
  .rename_i k' off';split at d
   .rename_i g;obtain⟨rfl,rfl,I⟩:=g;refine⟨_,_,_,[],d, .nil,λA j q=>⟨?_,rfl⟩⟩;simp only [ak] at hv;obtain⟨b,D,rfl⟩:=hv;obtain⟨v,M,e3⟩:=hB _ I;rw [D] at e3;simp only [Rp] at e3;subst e3;exact⟨b,M,rfl⟩
   .simp at d
  .simp at d
 | same k=>
  simp only [jh] at d;split at d
  .rename_i k';split at d
   .rename_i g;obtain⟨rfl,I⟩:=g;refine⟨_,_,_,[],d, .nil,λA j q=>⟨?_,rfl⟩⟩;simp only [ak] at hv;obtain⟨v,M,e3⟩:=hB _ I;rw [hv] at e3;simp only [Rp] at e3;subst e3;exact⟨M,jM hs hv⟩
   .simp at d
  .simp at d
 | no=>
  simp only [jh] at d;split at d
  .refine⟨_,_,_,[],d, .nil,λA j q=>⟨?_,rfl⟩⟩;simp only [ak] at hv;obtain⟨b,_,rfl⟩:=hv;exact⟨rfl,rfl⟩
  .simp at d
 | rows sz az rsz=>
  simp only [jh] at d;split at d
  .rename_i i;split at d
   .rename_i b sz' col' rsz' nx es hi;split at d
    .rename_i g;obtain⟨rfl,rfl,rfl⟩:=g;replace d:=aK d (.inl rfl);obtain⟨_,C,d⟩:=d;have C:bE es=true:=by
      split at C
      .assumption
      .cases C
     simp only [ak] at hv;exact⟨_,_,_,_,d,(EL (B:=B) (l:= []) hs hi hv C).1,(EL hs hi hv C).2⟩
    .simp at d
   .simp at d
  .simp at d
 | mp ag ks vk=>
  simp only [jh] at d;split at d
  .rename_i i;split at d
   .rename_i ag' ks' vk' es hi;split at d
    .rename_i g;obtain⟨rfl,rfl,rfl⟩:=g;obtain⟨b,X,J,E,Z,g3,g4,g5⟩:=hs.ah i _ hi;simp only [ak] at hv;rw [E] at hv;simp only [Rp] at hv;subst hv;refine⟨_,_,_,[b],d, ?_,λA j q=>⟨es,b,X,J,rfl,rfl,rfl,g3,g4,g5⟩⟩;have:=fp.one (O:=O) (hs.real (i:=i) (by rw [hi];simp));rw [Z] at this;exact this
    .simp at d
   .simp at d
  .simp at d
 | agg l=>simp [jh] at d
 | new l=>simp [jh] at d
theorem wP{R:Type}{m:Nat}{B:Nat->Option Value}(k:iA m B ρ)(hs:HS c w h ρ O):∀{e:List bR} {vs:List AV} {us:List Value} {K:List T->List Id->List Id->Option R} {res:R},ay w (AA c w O) ρ vs us->mR m h e vs K=some res->
  ∃xs a b own,K xs a b=some res/\fp O a own/\qz w c O b λA=>ff B w A e xs us own
 | [],[],us,K,res,hv,d=>by simp only [ay] at hv;subst hv;simp only [mR] at d;exact⟨_,_,_,[],d, .nil,λA _ _=>⟨rfl,rfl,rfl⟩⟩
 | [],v::vs,us,K,res,hv,d=>by simp [mR] at d
 | r::e,[],us,K,res,hv,d=>by simp [mR] at d
 | r::e,v::vs,us,K,res,hv,d=>by simp only [ay] at hv;obtain⟨u,o,rfl,h1,C⟩:=hv;simp only [mR] at d;obtain⟨x,a,b,ob,d,p,y⟩:=EK k hs h1 d;obtain⟨xs,E,F,own,d,q,z⟩:=wP k hs C d;refine⟨_,_,_,_,d,p.append q,λA j l=> ?_⟩;have D:=y A j (λi ah hi g f=>l i ah (RD _ hi) g f);exact⟨x,xs,u,o,ob,own,rfl,rfl,rfl,D,z A j (λi ah hi g f=>l i ah (RE _ hi) g f)⟩
theorem wQ{R:Type}{m:Nat}{B:Nat->Option Value}(C:iA m B ρ)(hs:HS c w h ρ O):∀{z:List bR} {vs:List AV} {us:List Value} {K:List T->List Id->List Id->Option R} {res:R},ay w (AA c w O) ρ vs us->bS m h z vs K=some res->
  ∃xs a b own,K xs a b=some res/\fp O a own/\qz w c O b λA=>dv B w A z xs us own
 | [],[],us,K,res,hv,d=>by simp only [ay] at hv;subst hv;simp only [bS] at d;exact⟨_,_,_,[],d, .nil,λA _ _=>⟨rfl,rfl,rfl⟩⟩
 | [],v::vs,us,K,res,hv,d=>by simp [bS] at d
 | r::z,[],us,K,res,hv,d=>by cases r <;> simp [bS] at d
 | r::z,v::vs,us,K,res,hv,d=>by
  simp only [ay] at hv;obtain⟨u,q,rfl,h1,U⟩:=hv
  have e:(jh m h r v λx a b=>bS m h z vs λxs J L=>K (x::xs) (a++J) (b++L))=some res->(∀l,r≠ .agg l)->(∀l,r≠ .new l)->
    ∃xs a b own,K xs a b=some res/\fp O a own/\qz w c O b λA=>dv B w A (r::z) xs (u::q) own:=by
   intro d g Y;obtain⟨x,a,b,ob,d,D,F⟩:=EK C hs h1 d;obtain⟨xs,J,L,own,d,E,G⟩:=wQ C hs U d;refine⟨_,_,_,_,d,D.append E,λA o p=> ?_⟩;have y:=F A o (λi ah hi g j=>p i ah (RD _ hi) g j);have:∃Z Q v N M I,x::xs=Z::Q/\u::q=v::N/\ob++own=M++I/\js B w A r Z v M/\dv B w A z Q N I:=
    ⟨x,xs,u,q,ob,own,rfl,rfl,rfl,y,G A o (λi ah hi g j=>p i ah (RE _ hi) g j)⟩
   cases r with
   | agg l=>exact(g l rfl).elim
   | new l=>exact(Y l rfl).elim
   | _=>exact this
  cases r with
  | f k=>exact e (by simpa [bS] using d) (by simp) (by simp)
  | t k=>exact e (by simpa [bS] using d) (by simp) (by simp)
  | own sz=>exact e (by simpa [bS] using d) (by simp) (by simp)
  | rows sz az rsz=>exact e (by simpa [bS] using d) (by simp) (by simp)
  | mp ag ks vk=>exact e (by simpa [bS] using d) (by simp) (by simp)
  | new l=>
   simp only [bS] at d;split at d
   .rename_i i;split at d
    .rename_i cs hi;obtain⟨b0,arr,ty,e1,e2,e3,e4,e5⟩:=hs.ah i _ hi;simp only [ak] at h1;obtain⟨b,y,rfl⟩:=h1;rw [e1] at y;simp only [Rp,Tq,Ss] at y;obtain⟨rfl,_⟩:=y;obtain⟨xs,a,b,o1,d,D,F⟩:=wP C hs e4 d;obtain⟨X,J,L,V,d,E,G⟩:=wQ C hs U d;refine⟨_,_,_,_,d,(fp.one (hs.real (i:=i) (by rw [hi];simp))).append (D.append E),λA o p=> ?_⟩;exact⟨xs,X,b0,arr,ty,q,o1,V,rfl,by simp,by simp [e2],e3,F A o (λi ah hi g j=>p i ah (RD _ hi) g j),G A o (λi ah hi g j=>p i ah (RE _ hi) g j)⟩
    .simp at d
   .simp at d
  | ref k off=>exact e (by simpa [bS] using d) (by simp) (by simp)
  | same k=>exact e (by simpa [bS] using d) (by simp) (by simp)
  | no=>exact e (by simpa [bS] using d) (by simp) (by simp)
  | agg l=>
   cases v with
   | agg cs=>simp only [bS] at d;simp only [ak] at h1;obtain⟨ws,rfl,y,k2⟩:=h1;obtain⟨xs,a,b,o1,d,D,F⟩:=wP C hs y d;obtain⟨X,J,L,V,d,E,G⟩:=wQ C hs U d;refine⟨_,_,_,_,d,D.append E,λA o p=> ?_⟩;exact⟨xs,X,ws,q,o1,V,rfl,rfl,rfl,F A o (λi ah hi g j=>p i ah (RD _ hi) g j),G A o (λi ah hi g j=>p i ah (RE _ hi) g j)⟩
   | _=>simp [bS] at d
def xW(tmps:Array Value):ResultVar->Sem Value
 | .tmp t=>pure (tmps.getD t undef)
 | .cell b t=>do loadVar t (<-asAddr (tmps.getD b undef))
theorem ON(fn:Func)(tmps:Array Value):results fn tmps= (do
  let vs <-fn.results.mapM (xW tmps)
  pure (if h:vs.size=1 then vs[0] else .tuple vs)):=rfl
theorem BH{R:Type}{a:Act}(hs:HS c w s.h ρ O)(g:SS w (AA c w O) ρ s.t a.tmps):∀{l:List ResultVar} {K:List AV->Option R} {r:R},rP P s l K=some r->
  ∃vs us,K vs=some r/\ay w (AA c w O) ρ vs us/\(l.mapM (xW a.tmps)).run P w= .ok us w
 | [],K,r,h=>⟨[],[],h,by simp [ay],by simp⟩
 | .tmp k::l,K,r,h=>by
  simp only [rP] at h;have d:=g k;split at h
  .rename_i v e;rw [e] at d;obtain⟨vs,us,h1,i,j⟩:=BH hs g h;refine⟨v::vs,_::us,h1,by simp only [ay];exact⟨_,us,rfl,d,i⟩, ?_⟩;rw [VW];simp only [xW,RO,R0,RB,j]
  .simp at h
 | .cell k t::l,K,r,h=>by
  simp only [rP] at h;have d:=g k;split at h
  .rename_i v e;rw [e] at d;obtain⟨av,y,m,f,hv⟩:=Gg hs d (.inl rfl) h;obtain⟨vs,us,h1,i,j⟩:=BH hs g m;refine⟨av::vs,y::us,h1,by simp only [ay];exact⟨y,us,rfl,hv,i⟩, ?_⟩;rw [VW];have:(do loadVar t (<-asAddr (a.tmps.getD k undef)):Sem Value).run P w= .ok y w:=by
    rw [<-f];generalize a.tmps.getD k undef=o at *
    unfold Instr.loadAt at *
    cases o with
    | pointer p=>
     cases p with
     | none=>simp [Instr.sureAddr,runtimePanic] at f
     | some b=>simp [Instr.sureAddr,asAddr]
    | _=>simp [Instr.sureAddr,runtimePanic] at f
   simp only [xW,RO,R0,RB] at this⊢;rw [this];simp only [RB,j]
  .simp at h
theorem tg{R:Type}{m:Nat}{B:Nat->Option Value}(g:iA m B ρ)(hs:HS c w h ρ O):∀{os:List jr} {j:Nat} {K:List T->List Id->List Id->Option R} {res:R},j+os.length<=m->la m h j os K=some res->
  ∃xs a b own,K xs a b=some res/\fp O a own/\qz w c O b λA=>nY B w A j os xs own
 | [],j,K,res,_,d=>by simp only [la] at d;exact⟨_,_,_,[],d, .nil,λA _ _=>⟨rfl,rfl⟩⟩
 | .box l::os,j,K,res,hm,d=>by
  simp only [RP] at hm;simp only [la] at d;split at d
  .rename_i cs hi;obtain⟨E,arr,t,h1,x,G,I,M⟩:=hs.ah _ _ hi;obtain⟨xs,a,b,o1,d,Q,U⟩:=wP g hs I d;obtain⟨r,C,D,q,d,o,p⟩:=tg g hs (by omega) d;refine⟨_,_,_,_,d,(fp.one (i:= .c j) rfl).append (Q.append o),λA f k=> ?_⟩;obtain⟨v,u,e⟩:=g j (by omega);rw [h1] at e;simp only [Rp] at e;subst e;exact⟨xs,r,E,arr,t,o1,q,rfl,by simp [x],u,G,U A f (λi ah hi L J=>k i ah (RD _ hi) L J),p A f (λi ah hi L J=>k i ah (RE _ hi) L J)⟩
  .simp at d
 | .sl sz::os,j,K,res,hm,d=>by
  simp only [RP] at hm;simp only [la] at d;split at d
  .rename_i Z bb l hi;split at d
   .rename_i N;subst N;obtain⟨v,h1,x,_⟩:=hs.ah _ _ hi;obtain⟨r,C,D,q,d,o,p⟩:=tg g hs (by omega) d;refine⟨_,_,_,_,d,(fp.one (i:= .c j) rfl).append o,λA f k=> ?_⟩;obtain⟨V,u,e⟩:=g j (by omega);rw [h1] at e;simp only [Rp] at e;subst e;exact⟨bb,l,r,O (.c j),_,q,rfl,rfl,u,x.mono (λb hb=>⟨f b hb,rfl⟩) (λb hb=>⟨by simpa using hb,rfl⟩),p A f k⟩
   .simp at d
  .simp at d
 | .mp ag ks vk::os,j,K,res,hm,d=>by
  simp only [RP] at hm;simp only [la] at d;split at d
  .rename_i X Y vk' es hi;split at d
   .rename_i z;obtain⟨rfl,rfl,rfl⟩:=z;obtain⟨E,F,y,h1,x,G,I,M⟩:=hs.ah _ _ hi;obtain⟨r,C,D,q,d,o,p⟩:=tg g hs (by omega) d;refine⟨_,_,_,_,d,(fp.one (i:= .c j) rfl).append o,λA f k=> ?_⟩;obtain⟨V,u,e⟩:=g j (by omega);rw [h1] at e;simp only [Rp] at e;subst e;exact⟨es,E,F,y,r,q,rfl,by simp [x],u,G,I,M,p A f k⟩
   .simp at d
  .simp at d
 | .dead::os,j,K,res,hm,d=>by simp only [RP] at hm;simp only [la] at d;obtain⟨r,C,D,q,d,o,p⟩:=tg g hs (by omega) d;exact⟨_,_,_,q,d,o,λA f k=>p A f k⟩
theorem Ft{f:FuncId}{fn:Func}{nt:Nat}{m:Nat×Nat}{B:Nat->Option Value}{xs:List T}{a:Act}(J:iA m.1 B ρ)(d:eD c nt w s ρ O a)(h:wY P An f fn m s=some xs):
  ∃v,(results fn a.tmps).run P w= .ok v w/\Fin P c B (dc P An f m.2 fn) (gN An f m.2) xs (fu O) w v w:=by
 unfold wY at h;obtain⟨vs,us,h,h1,E⟩:=BH d.hs d.ss h;split at h
 .rename_i hm;obtain⟨Z,M,Y,o1,h,Q,F⟩:=wQ J d.hs h1 h;obtain⟨zs,D,N,x,h,U,z⟩:=tg J d.hs (by omega) h;split at h
  .rename_i q;simp only [Rp] at h;subst h;simp only [Rw,RK,SL] at q;have L:=Gl q.1;have C:=Q.append U;have g:∀b,b∈o1++x->∃i,Of (M++D) i/\O i=some b:=λb hb=>C.mem hb;have I:∀k,AA c w O k->(c.A0 k\/c.MO k)/\k < w.heap.size/\k∉o1++x:=by
    intro b hb;refine⟨hb.1,hb.2.1,λhm=> ?_⟩;obtain⟨i,hi,e⟩:=g b hm;exact hb.2.2 i e
   have K:∀i ah,i∈Y++N->i.real=true->O i=some ah->(c.A0 ah\/c.MO ah)/\ah < w.heap.size/\ah∉o1++x:=by
    intro i ah hi o l;refine⟨.inr (d.hs.own i ah l),d.hs.lt i ah l,λhm=> ?_⟩;obtain⟨j,G,e⟩:=g ah hm;have:=d.hs.inj i j ah l e;subst this;have h1:=q.2 i hi;rcases G with G | ⟨y,n,_,V⟩
    .have E:(M++D).contains i=true:=by simpa using G
     rw [E] at h1;cases h1
    .rw [V] at o;cases o
   have p:(o1++x).Nodup:=by obtain⟨_,ids,e,n,_⟩:=C;rw [e];exact Dn d.hs (n L)
   refine⟨oR us, ?_,rfl,rfl,rfl,RI _,λ_ _ _=>rfl,us,Z,zs,o1,x,rfl,rfl,p,λb hb=> ?_, ?_, ?_⟩
   .rw [ON,Array.mapM_eq_mapM_toList];simp only [RO,map_eq_pure_bind,R0];rw [E];simp only [RB];congr 1;unfold oR;split
    .rename_i r;have X:us.length=1:=by simpa using r
     obtain⟨u,rfl⟩:=List.length_eq_one_iff.1 X;rfl
    .rename_i r;split
     .rename_i u;simp at r
     .rfl
   .obtain⟨i,hi,e⟩:=g b hb;exact⟨d.hs.own i b e,d.hs.lt i b e⟩
   .exact F _ I λi ah hi o l=>K i ah (RD _ hi) o l
   .exact z _ I λi ah hi o l=>K i ah (RE _ hi) o l
  .simp at h
 .simp at h
end
open Go Go.IntKind
section
variable {P:Program} {An:cG} {Or:aB} {w w':World} {A A':Nat->Prop} {c:Ctx} {ρ:Id->Option Value} {O:Id->Option Nat} {s s':St} {h:Id->Option ab}
theorem Bm{v:AV}{u:Value}(hs:HS c w h ρ O)(hv:ak w (AA c w O) ρ v u):ak w (AA c w O) ρ (nh h v) u:=by
 cases v
 case own i=>
  simp only [nh];split
  .rename_i sz b xs hi;have k:O i=none:=by
    obtain⟨_,_,_,a⟩:=hs.ah i _ hi;exact a rfl
   have:=mC (x:= .ae sz b xs) (A':=AA c w O) hs hv (by simp [dt,hi]) (λ_ h=>h) (λj ah g d=>by
    rcases g with e | ⟨_,_,_,e⟩ | ⟨_,e⟩
    .cases e;rw [k] at d;cases d
    .cases e
    .cases e)
   simpa [ak] using this
  .exact hv
 case part i sz off n=>
  simp only [nh];split
  .rename_i p b xs hi;split
   .rename_i m;have k:O i=none:=by
     obtain⟨_,_,_,a⟩:=hs.ah i _ hi;exact a rfl
    have:=mC (x:= .ae sz b ((xs.drop off).take n)) (A':=AA c w O) hs hv (by simp [dt,hi,m]) (λ_ h=>h) (λj ah g d=>by
     rcases g with e | ⟨_,_,_,e⟩ | ⟨_,e⟩
     .cases e
     .cases e;rw [k] at d;cases d
     .cases e)
    simpa [ak] using this
   .exact hv
  .exact hv
 case ref i off=>
  simp only [nh];split
  .rename_i l hi;obtain⟨b,h1,r,a,o⟩:=hs.ah i _ hi;simp only [ak] at hv;obtain⟨q,f,rfl⟩:=hv;rw [h1] at f;simp only [Rp,Tq,Ss] at f;obtain⟨rfl,_⟩:=f;simp only [ak,aw];refine⟨b,off,rfl, .inr a, ?_⟩;have:=o.drop off;rwa [RY] at this
  .exact hv
 all_goals exact hv
theorem M5{k:Nat×Option Nat}{p:AV×aG}{tmps:Array Value}{f:Id->Option Value}(hs:HS c w s.h ρ O)(j:SS w (AA c w O) ρ s.t tmps)(e:tI s k=some p)(d:∀i v,ρ i=some v->f i=some v)
  (h1:∀q∈p.2,f q.1=some (tmps.getD k.1 undef)):ak w (AA c w O) f p.1 (tmps.getD k.1 undef):=by
 unfold tI at e;have a:=j k.1;split at e
 .simp at e
 .rename_i v g;rw [g] at a;simp only at a;split at e
  .simp only [Rp] at e;subst e;exact ak.mono (λb hb=>⟨hb,rfl⟩) d _ _ (Bm hs a)
  .split at e
   .simp only [Rp] at e;subst e;exact ak.mono (λb hb=>⟨hb,rfl⟩) d _ _ (Bm hs a)
   split at e
   .split at e
    .simp only [Rp] at e;subst e;exact ak.mono (λb hb=>⟨hb,rfl⟩) d _ _ a
    .simp at e
   .simp only [Rp] at e;subst e;simp only [ak];exact h1 _ (RF.2 rfl)
   .simp at e
theorem Gf{tmps:Array Value}{f:Id->Option Value}(hs:HS c w s.h ρ O)(o:SS w (AA c w O) ρ s.t tmps)(j:∀i v,ρ i=some v->f i=some v):∀{l:List (Nat×Option Nat)} {p:List AV×aG},ow s l=some p->
  (∀q∈p.2,∀k,q.1= .s (1000000+k) 0->f q.1=some (tmps.getD k undef))->ay w (AA c w O) f p.1 (l.map λk=>tmps.getD k.1 undef)/\
   ∀q∈p.2,∃k sz b,q= (.s (1000000+k) 0, .sl false sz b [])/\aw w (AA c w O) (.aT b) (tmps.getD k undef)
 | [],p,e,_=>by simp only [ow,Rp] at e;subst e;exact⟨by simp [ay],(by intro q a;cases a)⟩
 | k::l,p,e,h1=>by
  simp only [ow] at e;replace e:=Rq.1 e;obtain⟨x,d,e⟩:=e;replace e:=Rq.1 e;obtain⟨y,hy,e⟩:=e;simp only [Rp] at e;subst e;have g:∀q∈x.2,∃sz b,q= (.s (1000000+k.1) 0, .sl false sz b [])/\aw w (AA c w O) (.aT b) (tmps.getD k.1 undef):=by
   intro q a;have m:=o k.1;unfold tI at d;split at d
   .simp at d
   .rename_i v r;rw [r] at m;simp only at m;split at d
    .simp only [Rp] at d;subst d;cases a
    .split at d
     .simp only [Rp] at d;subst d;cases a
     split at d
     .split at d
      .simp only [Rp] at d;subst d;cases a
      .simp at d
     .simp only [Rp] at d;subst d;simp only [RF] at a;subst a;exact⟨_,_,rfl,by simpa [ak] using m⟩
     .simp at d
  obtain⟨u,z⟩:=Gf hs o j hy (λq a=>h1 q (RE _ a));refine⟨?_,λq a=> ?_⟩
  .simp only [RX,ay];refine⟨_,_,rfl,M5 hs o d j (λq a=> ?_),u⟩;obtain⟨sz,b,e,_⟩:=g q a;exact h1 q (RD _ a) k.1 (by rw [e])
  .rcases RM.1 a with a | a
   .obtain⟨sz,b,e,B⟩:=g q a;exact⟨k.1,sz,b,e,B⟩
   .exact z q a
theorem I3:∀{us:aG} {h:Id->Option ab} {i:Id} {b:ab},aJ h us i=some b->(i,b)∈us\/((∀q∈us,q.1≠i)/\h i=some b)
 | [],h,i,b,e=> .inr ⟨by simp,e⟩
 | (j,x)::us,h,i,b,e=>by
  rw [cX] at e;rcases I3 e with e | ⟨g,a⟩
  .exact .inl (Ru _ e)
  .by_cases d:i=j
   .subst d;rw [aC] at a;simp only [Rp] at a;subst a;exact .inl Rs
   .rw [aq _ _ d] at a;refine .inr ⟨λq f=> ?_,a⟩;rcases RC.1 f with rfl | f
    .exact λe=>d e.symm
    .exact g q f
theorem HS.Jh{us:aG}{a:Id->Option Value}(o:∀q∈us,q.1.real=true)(hs:HS c w h ρ O)(x:∀q∈us,h q.1=none)(p:∀q∈us,∃sz b u,q.2= .sl false sz b []/\a q.1=some u/\aw w A (.aT b) u)
  (d:∀i,(∀q∈us,q.1≠i)->a i=ρ i):HS c w (aJ h us) a O:=by
 have mono:∀i v,ρ i=some v->a i=some v:=by
  intro i v hi;rw [d i (λq f e=> ?_)]
  .exact hi
  .have:=(hs.cr _ (o q f) (x q f)).1;rw [e,hi] at this;cases this
 have j:∀i n,∀q∈us,q.1≠ .g i n:=λi n q f e=>by have:=o q f;rw [e] at this;cases this
 have le:Le w ρ O w a O:=⟨rfl,rfl,rfl,RI _,mono,λ_ _ _=>rfl,λi b h=> .inl ⟨i,h⟩⟩;refine hs.go le (λi n=>⟨d _ (j i n),rfl,λ_ _=>rfl⟩) (λi b hb=> ?_) (λi m hi=> ?_) (λi hi=>(yB hi).2) (λi n=>by rw [dI (j i n)];exact hs.dF i n) hs.inj hs.lt
 .rcases I3 hb with hm | ⟨_,hb⟩
  .right;obtain⟨sz,y,u,k,l,e3⟩:=p _ hm;simp only at k l;subst k;refine⟨u,l, ?_,by simp⟩;simp only [aw] at e3;rcases e3 with⟨rfl,rfl⟩ | ⟨rfl,ah,off,sp,rfl⟩
   .exact⟨none,0,rfl,by simp,by simp,by simp, .inl rfl⟩
   .exact⟨some ⟨ah,off,sp⟩,0,rfl,by simp,by simp,trivial, .inl rfl⟩
  .exact .inl ⟨hb,rfl,λ_ _=>rfl⟩
 .obtain⟨h1,r⟩:=yB hi;rw [d i h1];exact hs.cr i m r
theorem Gi{a:Id->Option Value}{tmps:Array Value}:∀{live:List (Nat×Option Nat)} {bc:List AV},ay w A a bc (live.map λk=>tmps.getD k.1 undef)->∀k,ak w A a (mW.look live bc k) (tmps.getD k undef)
 | [],bc,hv,k=>by cases bc <;> simp [mW.look,ak]
 | (j,o)::live,bc,hv,k=>by
  cases bc with
  | nil=>simp [ay] at hv
  | cons v bc=>
   simp only [RX,ay,TD] at hv;obtain⟨u,r,⟨rfl,rfl⟩,h1,b⟩:=hv;simp only [mW.look];split
   .rename_i e;subst e;exact h1
   .exact Gi b k
def tP:List Item->List Item
 | .inLoop b::k=> .code b:: .inLoop b::k
 | t=>t
def po(P:Program)(An:cG)(Or:aB):Prop:= ∀f fn todo live m bc b xs,Or (.node f todo live m) bc b=some xs->P.funcs[f]? =some fn->
 ∀c w ρ O a B,iA m.1 B ρ->eD c fn.ntmps w (mW live bc b) ρ O a->Ends P f fn (tP todo) a w (Fin P c B (dc P An f m.2 fn) (gN An f m.2) xs (fu O) w)
theorem eD.B3{nt:Nat}{a:Act}{h':Id->Option ab}{ρ':Id->Option Value}{O':Id->Option Nat}(d:eD c nt w s ρ O a)(le:Le w ρ O w ρ' O')(hs:HS c w h' ρ' O'):eD c nt w {t:=s.t,h:=h'} ρ' O' a:=
 ⟨hs,SS.mono (λb hb=>le.A b hb) le.eB d.ss,d.nt,d.defers⟩
theorem iA.le{m:Nat}{B:Nat->Option Value}{ρ':Id->Option Value}(h:iA m B ρ)(le:∀i v,ρ i=some v->ρ' i=some v):iA m B ρ':=λj d=>by obtain⟨v,a,b⟩:=h j d;exact⟨v,a,le _ _ b⟩
theorem A4{s:St}:∀{live:List (Nat×Option Nat)} {p:List AV×aG},ow s live=some p->∀q∈p.2,∃k,q.1=Id.s (1000000+k) 0
 | [],p,a,q,b=>by simp only [ow,Rp] at a;subst a;cases b
 | k::live,p,a,q,b=>by
  simp only [ow] at a;obtain⟨e,h1,a⟩:=Rq.1 a;obtain⟨f,d,a⟩:=Rq.1 a;simp only [Rp] at a;subst a;rcases RM.1 b with b | b
  .unfold tI at h1;split at h1
   .cases h1
   .split at h1
    .simp only [Rp] at h1;subst h1;cases b
    .split at h1
     .simp only [Rp] at h1;subst h1;cases b
     .split at h1
      .split at h1
       .simp only [Rp] at h1;subst h1;cases b
       .cases h1
      .simp only [Rp] at h1;subst h1;rw [RF.1 b];exact⟨_,rfl⟩
      .cases h1
  .exact A4 d q b
theorem P2{f:FuncId}{fn:Func}{todo:List Item}{live:List (Nat×Option Nat)}{m:Nat×Nat}{B:Nat->Option Value}{xs:List T}{a:Act}(hN:po P An Or)(N:P.funcs[f]? =some fn)(hB:iA m.1 B ρ)(o:eD c fn.ntmps w s ρ O a)(e:yt Or f todo live m s=some xs):
  Ends P f fn (tP todo) a w (Fin P c B (dc P An f m.2 fn) (gN An f m.2) xs (fu O) w):=by
 unfold yt at e;replace e:=Rq.1 e;obtain⟨p,J,e⟩:=e;split at e
 .rename_i u;replace e:=Rq.1 e;obtain⟨seen,r,e⟩:=e;let l:Id->Option Value:=λi=>if p.2.any (λq=>decide (q.1=i)) then(match i with | .s d _=>some (a.tmps.getD (d - 1000000) undef) | _=>none) else ρ i;have M:∀q∈p.2,s.h q.1=none:=by
   intro q g;have:=RK.1 u q g;simpa using this
  have y:∀i,(∀q∈p.2,q.1≠i)->l i=ρ i:=by
   intro i hi;have:p.2.any (λq=>decide (q.1=i))=false:=by rw [List.any_eq_false];intro q g;simpa using hi q g
   simp only [l,this,RS,if_false]
  have E:∀q∈p.2,∀k,q.1= .s (1000000+k) 0->l q.1=some (a.tmps.getD k undef):=by intro q g k e;have:p.2.any (λx=>decide (x.1=q.1))=true:=List.any_eq_true.2 ⟨q,g,by simp⟩;simp only [l,this,if_true];rw [e];simp
  have mono:∀i v,ρ i=some v->l i=some v:=by
   intro i v hi;rw [y i (λq g e=> ?_)]
   .exact hi
   .cases D:q.1.real with
    | true=>have:=(o.hs.cr _ D (M q g)).1;rw [e,hi] at this;cases this
    | false=>have hm:p.2.any (λx=>decide (x.1=q.1))=true:=List.any_eq_true.2 ⟨q,g,by simp⟩;obtain⟨k,F⟩:=A4 J q g;rw [F] at D;cases D
  obtain⟨hv,V⟩:=Gf o.hs o.ss mono J E;have Q:HS c w (aJ s.h p.2) l O:=o.hs.Jh (λq g=>by obtain⟨k,F⟩:=A4 J q g;rw [F];rfl) M (A:=AA c w O) (λq g=>by
   obtain⟨k,sz,b,e,D⟩:=V q g;exact⟨sz,b,_,by rw [e],E q g k (by rw [e]),D⟩) y
  obtain⟨g1,g2,g3,g4,g5⟩:=ug r UZ (by simp) (by simp);obtain⟨U,z⟩:=Q.rn g1 g4 g5;have hA:∀b,AA c w O b->AA c w (cf seen O) b:=λb hb=>⟨hb.1,hb.2.1,λi hi=>by
   obtain⟨k,hk⟩:=z b ⟨i,hi⟩;exact hb.2.2 k hk⟩
  have X:=ay.rn (m:=seen) hA _ _ (λi hi=>g3 i (RE _ hi)) hv;have K:eD c fn.ntmps w (mW live (jN seen p.1) (seen.map λi=>gO seen (aJ s.h p.2 i))) (cf seen l) (cf seen O) a:=
   ⟨U,λk=>Gi X k,o.nt,o.defers⟩
  have C:=HK r (by
   exact List.pairwise_map.2 (List.nodup_range.imp λh e=>h (by simpa using e))) (by simp)
  rw [Ry] at C;have L:iA m.1 B (cf seen l):=by
   intro j I;obtain⟨v,Y,Z⟩:=hB.le mono j I;refine⟨v,Y, ?_⟩;obtain⟨t,ht⟩:=C;have:seen[j]? =some (.c j):=by rw [<-ht,SH (by simpa using I)];simp [I]
   simp [cf,this,Z]
  exact(hN f fn todo live m _ _ xs e N c w _ _ a B L K).mono λv w' G=>G.own z
 .simp at e
theorem xe:∀{l:List (Nat×Option Nat)},gp s.h (mX s l)
 | []=>by intro p a;cases a
 | (k,none)::l=>by simp only [mX];exact xe
 | (k,some 0)::l=>by simp only [mX];exact(tA _).append xe
 | (k,some (n+1))::l=>by
  simp only [mX];refine gp.append ?_ xe;cases Nat.beq n 999998 with
  | false=>intro p a;cases a
  | true=>
   show gp s.h (AB s.h (s.t k).2);unfold AB;split
   .split
    .exact Az _
    .intro p a;cases a
   .intro p a;cases a
theorem GY{h:Id->Option ab}(hs:HS c w h ρ O)(v:AV):HS c w (xI h v) ρ O:=by
 unfold xI;split
 .rename_i i off;split
  .rename_i cs hi;obtain⟨b,arr,t,h1,p,q,y,z⟩:=hs.ah i _ hi;have g:=hs.real (i:=i) (by rw [hi];simp);have B:ay w (AA c w O) ρ (cs.map (nh h)) arr.toList:=by
    have d:∀(l:List AV) (us:List Value),ay w (AA c w O) ρ l us->ay w (AA c w O) ρ (l.map (nh h)) us:=by
     intro l;induction l with
     | nil=>intro us h;exact h
     | cons x l C=>intro us h;simp only [RX,ay] at h⊢;obtain⟨u,r,e,j,o⟩:=h;exact⟨u,r,e,Bm hs j,C r o⟩
    exact d _ _ y
   rw [dH];refine hs.go Le.refl (λk m=>⟨rfl,rfl,λ_ _=>rfl⟩) (λk x a=> ?_) (λk f a=> ?_) (λk a=> ?_) (λk m=>by rw [aq _ _ (aL g)];exact hs.dF k m) hs.inj hs.lt
   .by_cases e:k=i
    .subst e;rw [aC] at a;simp only [Rp] at a;subst a;exact .inr ⟨b,arr,t,h1,p,q,B,z⟩
    .rw [aq _ _ e] at a;exact .inl ⟨a,rfl,λ_ _=>rfl⟩
   .by_cases e:k=i
    .subst e;rw [aC] at a;cases a
    .rw [aq _ _ e] at a;exact hs.cr k f a
   .by_cases e:k=i
    .subst e;rw [aC] at a;cases a
    .rw [aq _ _ e] at a;exact a
  .exact hs
 .exact hs
theorem Fy(live:List (Nat×Option Nat))(bc:List AV)(a:List ab):nN (mW live bc a):=by intro k g v e;simp [mW] at e
theorem cM.P3{sz:Nat}{b:Bool}{xs:List (List T)}{v:Value}{Q:Nat->Prop}(h:cM w A sz b xs v Q)(l:∀d,Q d->A d):aw w A (.ae sz b xs) v:=by
 obtain⟨a,cap,rfl,f,g,_,i⟩:=h;simp only [aw];cases a with
 | none=>
  rcases i with rfl | ⟨_,_,_,_,e,_⟩
  .have:xs= []:=RN.1 (by omega);subst this;exact .inl ⟨g.1 rfl,rfl,rfl⟩
  .cases e
 | some a=>
  have hb:b=false:=by
   cases b with
   | false=>rfl
   | true=>have:=g.2 rfl;cases this
  obtain⟨ah,off,sp⟩:=a;right;rcases i with rfl | ⟨blk',off',arr,t,e,j,m,o,k⟩
  .have:xs= []:=RN.1 (by omega);subst this;exact⟨hb,ah,off,sp,0,rfl,f, .inl rfl,by simp [aU]⟩
  .cases e;exact⟨hb,ah,off,none,cap,rfl,f, .inr ⟨rfl,l _ j⟩,k⟩
theorem aS.tU{ah:Nat}:∀{cs:List T} {off:Nat},(∀(j:Nat) (x:T),cs[j]? =some x->∃v,w.cell? ⟨ah,off+j,none⟩=some v/\aw w A x v)->aS w A ah off cs
 | [],_,_=>by simp [aS]
 | x::cs,off,h=>by simp only [aS];refine⟨by simpa using h 0 x rfl,aS.tU λj y a=> ?_⟩;have:=h (j+1) y (by simpa using a);rw [show off+1+j=off+ (j+1) by omega];exact this
theorem HT{i:Id}{ah sz az rsz:Nat}:∀{es:List Row} {base:Nat},bE es=true->b9 w A ρ O i ah sz az rsz base es->(∀e∈es,∀d,O (.g i e.n)=some d->A d)->aU w A ah sz base (es.map (rS az rsz))
 | [],_,_,_,_=>by simp [aU]
 | e::es,base,b,E,l=>by
  simp only [bE,SZ,Rw] at b;obtain⟨m,o⟩:=E;simp only [RX,aU];obtain⟨q,J,r,u,v,K,z⟩:=m;have key:∃x,rS az rsz e=e.cs.set az x/\aw w A x u:=by
   obtain⟨L,I,B⟩:=e;cases B with
   | none=>simp at b
   | some p=>refine⟨_,rfl, ?_⟩;exact cM.P3 z λd D=>l _ Rs d D
  obtain⟨x,G,F⟩:=key;rw [G];refine⟨by rw [Sf];exact q,aS.tU λj y a=> ?_,HT b.2 o λf C=>l f (Ru _ C)⟩;rw [SC] at a;split at a
  .rename_i k;subst k;split at a
   .cases a;exact⟨u,v,F⟩
   .cases a
  .rename_i k;exact r j y (λe=>k e.symm) a
theorem HS.Ik{i:Id}{b:Bool}{sz az rsz nx:Nat}{es:List Row}(hs:HS c w h ρ O)(hi:h i=some (.rows b sz az rsz nx es))(C:bE es=true):
  ∃O',Le w ρ O w ρ O'/\HS c w (aA h i (some (.sl true sz b (es.map (rS az rsz))))) ρ O':=by
 classical
 have q:=hs.real (i:=i) (by rw [hi];simp);let Q:Id->Option Nat:=λx=>if Of [i] x then none else O x;have E:Q i=none:=if_pos (.inl Rs);have U:∀n,Q (.g i n)=none:=λn=>if_pos (.inr ⟨i,n,Rs,rfl⟩);have o:∀x d,Q x=some d->O x=some d/\¬Of [i] x:=by
  intro x d k;simp only [Q] at k;split at k
  .cases k
  .rename_i G;exact⟨k,G⟩
 have z:∀x,x.real=true->x≠i->Q x=O x:=by
  intro x r k;refine if_neg ?_;rintro(hm | ⟨j,n,_,rfl⟩)
  .exact k (RF.1 hm)
  .cases r
 have B:∀x n,x≠i->Q (.g x n)=O (.g x n):=by
  intro x n k;refine if_neg ?_;rintro(hm | ⟨j,m,F,e⟩)
  .rw [<-RF.1 hm] at q;cases q
  .simp only [Id.g.injEq] at e;exact k (e.1.trans (RF.1 F))
 have le:Le w ρ O w ρ Q:=⟨rfl,rfl,rfl,RI _,λ_ _ h=>h,λ_ _ _=>rfl,λx d k=> .inl ⟨x,(o x d k).1⟩⟩;have u:∀x d,Of [i] x->O x=some d->AA c w Q d:=by intro x d k p;refine⟨.inr (hs.own x d p),hs.lt x d p,λy hy=> ?_⟩;obtain⟨I,k2⟩:=o y d hy;exact k2 (hs.inj x y d p I▸k)
 refine⟨Q,le,hs.oh le (λx y k=> ?_) (λx r k=> ?_) (λx n=>by rw [aq _ _ (aL q)];exact hs.dF x n) (λx n k=> ?_) hs.gone (λx y d k hy=>hs.inj x y d (o x d k).1 (o y d hy).1) (λx d k=>hs.lt x d (o x d k).1)⟩
 .by_cases e:x=i
  .subst e;rw [aC] at k;cases k;right;obtain⟨a,cap,r1,M,N,X,v⟩:=hs.ah x _ hi;refine⟨_,r1,⟨a,cap,by rw [SI],by rw [SI];exact M,N,trivial, ?_⟩,λ_=>E⟩;rcases v with v | ⟨ah,off,arr,t,q1,J,q3,K,L⟩
   .exact .inl v
   .refine .inr ⟨ah,off,arr,t,q1,by simp only [if_true];exact u x ah (.inl Rs) J,q3,K, ?_⟩;refine HT (ρ:=ρ) (O:=O) (i:=x) C (b9.move (λb hb=>le.A b hb) (λ_ _=>rfl) (λf _=>⟨rfl,rfl,λ_ _=>rfl⟩) L) λf V d p=>u _ d (.inr ⟨x,f.n,Rs,rfl⟩) p
  .rw [aq _ _ e] at k;have D:=hs.real (i:=x) (by rw [k];simp);exact .inl ⟨k,z x D e,λ_ _=>rfl,λn=>⟨rfl,B x n e,λ_ _=>rfl⟩⟩
 .have l:x≠i:=λe=>by rw [e,aC] at k;cases k
  rw [aq _ _ l] at k;rw [z x r l];exact hs.cr x r k
 .have l:x≠i:=λe=>by rw [e,aC] at k;cases k
  rw [aq _ _ l] at k;rw [B x n l];exact hs.fj x n k
theorem B0{R:Type}:∀{l:List Id} {h:Id->Option ab} {O:Id->Option Nat} {K:aG->Option R} {r:R},HS c w h ρ O->uu h l K=some r->∃us O',K us=some r/\Le w ρ O w ρ O'/\HS c w (aJ h us) ρ O'
 | [],h,O,K,r,hs,e=>⟨[],O,e,Le.refl,hs⟩
 | i::l,h,O,K,r,hs,e=>by
  simp only [uu] at e;split at e
  .rename_i b sz az rsz nx es hi;replace e:=aK e (.inl rfl);obtain⟨_,a,e⟩:=e;have a:bE es=true:=by
    split at a
    .assumption
    .cases a
   obtain⟨k,cC,d⟩:=hs.Ik hi a;obtain⟨us,j,e,g,f⟩:=B0 d e;exact⟨_,j,e,cC.trans g,by rw [cX];exact f⟩
  .exact B0 hs e
theorem PD{h:Id->Option ab}{O:Id->Option Nat}(hs:HS c w h ρ O)(v:AV):∃O',Le w ρ O w ρ O'/\HS c w (B1 h v) ρ O':=by
 unfold B1;split
 .split
  .rename_i b sz az rsz nx es hi;cases e:bE es with
   | true=>obtain⟨d,cC,a⟩:=hs.Ik hi e;exact⟨d,cC,by rw [cond_true,dH];exact a⟩
   | false=>exact⟨O,Le.refl,hs⟩
  .exact⟨O,Le.refl,hs⟩
 .exact⟨O,Le.refl,hs⟩
theorem Il:∀(l:List AV) {h:Id->Option ab} {O:Id->Option Nat},HS c w h ρ O->∃O',Le w ρ O w ρ O'/\HS c w (B2 h l) ρ O'
 | [],h,O,hs=>⟨O,Le.refl,hs⟩
 | v::r,h,O,hs=>by obtain⟨f,cC,a⟩:=PD hs v;obtain⟨e,d,b⟩:=Il r a;exact⟨e,cC.trans d,b⟩
theorem PC{h:Id->Option ab}{O:Id->Option Nat}(hs:HS c w h ρ O)(v:AV):∃O',Le w ρ O w ρ O'/\HS c w (BZ h v) ρ O':=by
 unfold BZ;split
 .split
  .exact Il _ hs
  .exact⟨O,Le.refl,hs⟩
 .exact⟨O,Le.refl,hs⟩
theorem tS{t:Nat->Option Gs×AV}:∀{l:List (Nat×Option Nat)} {h:Id->Option ab} {O:Id->Option Nat},HS c w h ρ O->∃O',Le w ρ O w ρ O'/\HS c w (rI t h l) ρ O'
 | [],h,O,hs=>⟨O,Le.refl,hs⟩
 | (k,some n)::l,h,O,hs=>by
  simp only [rI];cases Nat.beq n 999999 with
  | true=>exact tS (GY hs _)
  | false=>
   cases Nat.beq n 999998 with
   | true=>obtain⟨f,cC,a⟩:=PC hs (t k).2;obtain⟨e,d,b⟩:=tS (t:=t) (l:=l) (GY a (t k).2);exact⟨e,cC.trans d,b⟩
   | false=>exact tS hs
 | (k,none)::l,h,O,hs=>by simp only [rI];exact tS hs
theorem Ch{f:FuncId}{fn:Func}{todo:List Item}{live:List (Nat×Option Nat)}{m:Nat×Nat}{B:Nat->Option Value}{xs:List T}{a:Act}(y:po P An Or)(o:P.funcs[f]? =some fn)(x:iA m.1 B ρ)(i:eD c fn.ntmps w s ρ O a)(e:lO Or f todo live m s=some xs):
  Ends P f fn (tP todo) a w (Fin P c B (dc P An f m.2 fn) (gN An f m.2) xs (fu O) w):=by
 unfold lO at e;obtain⟨us,u,e⟩:=Rq.1 e;obtain⟨C,cC,p,_⟩:=i.hs.rq xe;have d:=i.B3 cC p;obtain⟨z,D,b,q⟩:=Bt d.hs u;obtain⟨E,g,r⟩:=tS (t:=s.t) (l:=live) q;have k:=d.B3 (b.trans g) r;exact(P2 y o (x.le b.eB) k e).mono λv w' j=>Fin.le cC (Fin.le (b.trans g) j)
theorem Fu{f:FuncId}{fn:Func}{nt:Nat}{m:Nat×Nat}{B:Nat->Option Value}{xs:List T}{a:Act}(d:iA m.1 B ρ)(b:eD c nt w s ρ O a)(h:wX P An f fn m s=some xs):
  ∃v,(results fn a.tmps).run P w= .ok v w/\Fin P c B (dc P An f m.2 fn) (gN An f m.2) xs (fu O) w v w:=by
 unfold wX at h;cases e:(dc P An f m.2 fn).any F2 with
 | true=>rw [e,cond_true] at h;exact Ft d b h
 | false=>rw [e,cond_false] at h;obtain⟨us,j,h,cC,g⟩:=B0 b.hs h;obtain⟨v,h1,i⟩:=Ft d (b.B3 cC g) h;exact⟨v,h1,Fin.le cC i⟩
theorem lh(hm:P.follows .mixedOrders=true)(r:jc P An Or)(o:po P An Or){f:FuncId}{fn:Func}{m:Nat×Nat}{B:Nat->Option Value}(l:P.funcs[f]? =some fn):∀{n:Nat} {j:Bool} {todo:List Item} {xs:List T} {w:World} {s:St} {ρ:Id->Option Value} {O:Id->Option Nat} {a:Act},
  iA m.1 B ρ->eD c fn.ntmps w s ρ O a->nN s->ev P An Or f fn m n j todo s=some xs->Ends P f fn todo a w (Fin P c B (dc P An f m.2 fn) (gN An f m.2) xs (fu O) w)
 | 0,j,todo,xs,w,s,ρ,O,a,i,d,hb,e=>by simp [ev] at e
 | n+1,j,[],xs,w,s,ρ,O,a,i,d,hb,e=>by simp only [ev] at e;obtain⟨v,h1,z⟩:=Fu i d e;exact λb I D cs=>⟨a,w,v,[], .one step_end,d.defers,h1,z⟩
 | n+1,j, .code .skip::k,xs,w,s,ρ,O,a,i,d,hb,e=>by simp only [ev] at e;exact Ends.step (λb cs=>step_skip) (lh hm r o l i d hb e)
 | n+1,j, .code (.seq x y)::k,xs,w,s,ρ,O,a,i,d,hb,e=>by simp only [ev] at e;exact Ends.step (λb cs=>step_seq) (lh hm r o l i d hb e)
 | n+1,j, .code (.region id ops u)::k,xs,w,s,ρ,O,a,i,d,hb,e=>by
  simp only [ev] at e;split at e
  .rename_i live _;exact Ch (todo:= .code (.region id ops u)::k) o l i d e
  .obtain⟨s',e,E⟩:=OH hm r d hb e;refine Ends.region (E _ λL w' ρ' O' le G=>⟨rfl, ?_⟩);exact(lh hm r o l (i.le le.eB) G (Ka _) e).mono λv K C=>C.le le
 | n+1,j, .code (.cond x p q)::k,xs,w,s,ρ,O,a,i,d,hb,e=>by
  simp only [ev] at e;replace e:=Rq.1 e;obtain⟨y,hy,e⟩:=e;replace e:=aK e (.inl rfl);obtain⟨t,J,e⟩:=e;have F:=SS.get (h:=s.h) d.ss (g:=none) trivial x;rw [show(⟨s.t,s.h⟩:St)=s from rfl,AV.lN hy,T.iD J] at F;simp only [ak,aw] at F;refine Ends.step (todo':= .code (if t then p else q)::k) (λb cs=>step_cond F) ?_;cases t with
  | true=>exact lh hm r o l i d hb e
  | false=>exact lh hm r o l i d hb e
 | n+1,j, .code (.block id b)::k,xs,w,s,ρ,O,a,i,d,hb,e=>by simp only [ev] at e;exact Ends.step (λb cs=>step_block) (lh hm r o l i d hb e)
 | n+1,j, .code (.loop b)::k,xs,w,s,ρ,O,a,i,d,hb,e=>by
  simp only [ev] at e;split at e
  .exact Ends.step (λb cs=>step_loop) (Ch (todo:= .inLoop b::k) o l i d e)
  .simp at e
 | n+1,j, .code (.exit id)::k,xs,w,s,ρ,O,a,i,d,hb,e=>by
  simp only [ev] at e;split at e
  .rename_i M D;exact Ends.step (λb cs=>step_exit D) (lh hm r o l i d hb e)
  .simp at e
 | n+1,j, .code .ret::k,xs,w,s,ρ,O,a,i,d,hb,e=>by simp only [ev] at e;obtain⟨v,h1,z⟩:=Fu i d e;exact λb I D cs=>⟨a,w,v,_, .one step_ret,d.defers,h1,z⟩
 | n+1,j, .inBlock id::k,xs,w,s,ρ,O,a,i,d,hb,e=>by simp only [ev] at e;exact Ends.step (λb cs=>step_inBlock) (lh hm r o l i d hb e)
 | n+1,j, .inLoop b::k,xs,w,s,ρ,O,a,i,d,hb,e=>by
  simp only [ev] at e;split at e
  .exact Ends.step (λb cs=>step_inLoop) (Ch (todo:= .inLoop b::k) o l i d e)
  .simp at e
 | n+1,j, .code (.label _)::k,xs,w,s,ρ,O,a,i,d,hb,e=>by simp [ev] at e
 | n+1,j, .code (.goto _)::k,xs,w,s,ρ,O,a,i,d,hb,e=>by simp [ev] at e
theorem Nd{a:Id->Option Value}{bc:List AV}{args:List Value}(hv:ay w A a bc args)(m k:Nat):ak w A a (bc.getD k .top) ((args.toArray++Array.replicate m undef).getD k undef):=by
 have e:(args.toArray++Array.replicate m undef).getD k undef= (args++List.replicate m undef).getD k undef:=by rw [Ti,Rr,<-Sl];simp
 rw [e,Rr,Rr];cases f:bc[k]? with
 | none=>simp [ak]
 | some v=>obtain⟨u,d,g⟩:=hv.get f;have b:k < args.length:=(Rz.1 d).1;rw [SH b,d];exact g
theorem PR(G:nO P An)(hm:P.follows .mixedOrders=true)(K:∀(f:FuncId) (fn:Func),P.funcs[f]? =some fn->fn.name≠ "runtime.NumGoroutine")(F:jc P An Or)(E:po P An Or):jc P An (aF P An Or):=by
 intro f bc a xs e;simp only [aF] at e;split at e
 .rename_i r x;exact G f bc a xs (x.trans e)
 split at e
 .rename_i fn l;split at e
  .rename_i p d;split at e
   .rename_i J;refine⟨fn,p,l,d,K f fn l,λc w ρ O args V hs m=> ?_⟩;have X:=m.length;have C:(tz bc a).h=jw a:=by funext i;cases i <;> rfl
    have B:eD c fn.ntmps w (tz bc a) ρ O {tmps:=args.toArray++Array.replicate (fn.ntmps - args.toArray.size) undef,defers:= []}:=by refine⟨by rw [C];exact hs,λk=>Nd m _ k, ?_,rfl⟩;simp only [U3,SY,Array.size_replicate];omega
    have o:nN (tz bc a):=by intro k g v e;simp [tz] at e
    have D:iA (a.length,gU a.head?).1 (oq a.length ρ) ρ:=by
     intro j q;simp only at q;have y:jw a (.c j)=some a[j]:=by simp [jw,q]
     obtain⟨v,hv,_⟩:=hs.Iy y;exact⟨v,by simp [oq,q,hv],hv⟩
    refine(J4 l d (lh hm F E l D B o e)).mono λe w' ⟨v,I,b⟩=> ?_;obtain⟨Q,U,x2,o1,N,hv,M,z,u,x,L⟩:=b.res;exact⟨Q,U,x2,o1,N,by rw [I,hv],⟨b.os,b.output,b.tape,b.size,b.ah⟩,M,z,u,x,L⟩
   .simp at e
  .simp at e
 .simp at e
theorem PQ(hm:P.follows .mixedOrders=true)(l:jc P An Or)(j:po P An Or):po P An (aF P An Or):=by
 intro f fn todo live m bc p xs e d c w ρ O a B i g;simp only [aF,d] at e;split at e
 .exact lh hm l j d i g (Fy _ _ _) e
 .rename_i o;have:tP todo=todo:=by
   unfold tP;split
   .rename_i b k;exact(o b k rfl).elim
   .rfl
  rw [this];exact lh hm l j d i g (Fy _ _ _) e
theorem Hh(b:nO P An)(hm:P.follows .mixedOrders=true)(d:∀(f:FuncId) (fn:Func),P.funcs[f]? =some fn->fn.name≠ "runtime.NumGoroutine"):∀n,jc P An (iP P An n)/\po P An (iP P An n)
 | 0=>⟨λ_ _ _ _ e=>by simp [iP] at e,λ_ _ _ _ _ _ _ _ e=>by simp [iP] at e⟩
 | n+1=>by obtain⟨h1,a⟩:=Hh b hm d n;exact⟨PR b hm d h1 a,PQ hm h1 a⟩
theorem Hk{k:Key}{vs:List AV}{bs:List ab}{r:List T}(e:mn P An k vs bs=some r):∃n,iP P An n k vs bs=some r:=by
 unfold mn at e;split at e
 .rename_i a;simp only [Rp] at e;exact⟨_,by rw [<-e];exact T7 (T7 a)⟩
 .simp at e
theorem N9(b:nO P An)(hm:P.follows .mixedOrders=true)(d:∀(f:FuncId) (fn:Func),P.funcs[f]? =some fn->fn.name≠ "runtime.NumGoroutine"):jc P An (mn P An):=by intro f bc a xs e;obtain⟨n,e⟩:=Hk e;exact(Hh b hm d n).1 f bc a xs e
end
open Go Go.IntKind
abbrev Jc:=Key×List AV×List ab×List T
def yG(O:aB)(L:List Jc):Prop:= ∀q∈L,O q.1 q.2.1 q.2.2.1=some q.2.2.2
def aE{R:Type}(F:aB->Option R):Prop:= ∀O r,F O=some r->∃L,yG O L/\∀O',yG O' L->F O'=some r
section
variable {P:Program} {A:cG} {R S:Type}
theorem aE.const(m:Option R):aE (λ_=>m):=λ_ r h=>⟨[],(by intro q a;cases a),λ_ _=>h⟩
theorem aE.bind{F:aB->Option R}{G:R->aB->Option S}(h1:aE F)(l:∀a,aE (G a)):aE (λO=>(F O).bind λa=>G a O):=by
 intro O r h;obtain⟨a,m,h⟩:=Rq.1 h;obtain⟨e,g,j⟩:=h1 O a m;obtain⟨f,i,k⟩:=l a O r h;refine⟨e++f,λq b=> ?_,λO' d=> ?_⟩
 .rcases RM.1 b with b | b
  .exact g q b
  .exact i q b
 .have:=j O' (λq b=>d q (RD _ b));simp only [this,RA];exact k O' (λq b=>d q (RE _ b))
theorem aE.ask(k:Key)(vs:List AV)(bs:List ab):aE (λO=>O k vs bs):=λO r h=>⟨[(k,vs,bs,r)],(by intro q a;simp only [RF] at a;subst a;exact h),
 λO' b=>b _ (RF.2 rfl)⟩
theorem aE.cond{b:Bool}{F G:aB->Option R}(h1:aE F)(a:aE G):aE (λO=>cond b (F O) (G O)):=by cases b <;> assumption
theorem aE.ite{p:Prop}[Decidable p]{F G:aB->Option R}(h1:aE F)(b:aE G):aE (λO=>if p then F O else G O):=by
 by_cases a:p
 .simp only [a,if_true];exact h1
 .simp only [a,if_false];exact b
theorem aE.aa{d:Type}[Inhabited d]{c:Option Bool}{m:Option d}{K:d->aB->Option R}(h:∀a,aE (K a)):aE (λO=>aa c m λa=>K a O):=by
 unfold Aev.aa;cases m with
 | some a=>exact h a
 | none=>cases c with
  | none=>exact aE.const none
  | some b=>exact aE.cond (aE.const none) (h default)
theorem aE.eX{k:Ck}{c:Option Bool}{x:T}{K:T->aB->Option R}(h:∀a,aE (K a)):aE (λO=>eX k c x λa=>K a O):=by
 unfold Aev.eX;cases k <;> (try dsimp only)
 case x=>exact h x
 all_goals exact aE.aa λa=>h _
theorem aE.eM{c:Option Bool}:∀{ks:List Ck} {xs:List T} {K:List T->aB->Option R},(∀a,aE (K a))->aE (λO=>eM c ks xs λa=>K a O)
 | [],xs,K,h=>h xs
 | _::_,[],K,h=>h []
 | k::ks,x::xs,K,h=>by simp only [Aev.eM];exact aE.eX (K:=λy O=>Aev.eM c ks xs λb=>K (y::b) O) λy=>aE.eM (K:=λb O=>K (y::b) O) λb=>h _
theorem aE.mD{c:Option Bool}{t:TypeId}{v:AV}{K:AV->aB->Option R}(h:∀a,aE (K a)):aE (λO=>mD P c t v λa=>K a O):=by
 unfold Aev.mD;cases v <;> (try exact h _)
 case t x=>exact aE.eX (K:=λy O=>K (.t y) O) λy=>h _
 case agg vs=>
  dsimp only;cases eO vs with
  | none=>exact h _
  | some l=>exact aE.eM (K:=λl O=>K (.agg (l.map .t)) O) λy=>h _
theorem aE.iY{c:Option Bool}:∀{ts:List TypeId} {vs:List AV} {K:List AV->aB->Option R},(∀a,aE (K a))->aE (λO=>iY P c ts vs λa=>K a O)
 | [],vs,K,h=>h vs
 | _::_,[],K,h=>h []
 | t::ts,v::vs,K,h=>by simp only [Aev.iY];exact aE.mD (K:=λu O=>Aev.iY P c ts vs λus=>K (u::us) O) λu=>aE.iY (K:=λus O=>K (u::us) O) λus=>h _
theorem aE.gw{s:St}{d:Nat}{c:Option Bool}{f:FuncId}{args:List AV}{K:AV->aG->Option R}:aE (λO=>gw P A O s d c f args K):=by
 unfold Aev.gw;cases P.funcs[f]? with
 | none=>exact aE.const none
 | some fn=>
  dsimp only;have e:∀(m:Option (List T)) (k:List T->Option R),Aev.aa none m k=m.bind k:=by intro m k;cases m <;> rfl
  cases A.ig f with
  | none=>
   dsimp only;refine aE.bind (F:=λ_=>kS ((dc P A f 0 fn).all rp) (A.deep f) s.h args) (aE.const _) λp=> ?_;simp only [e];refine aE.iY λq=> ?_;refine aE.bind (F:=λO=>cB c (O (.call f) q [])) ?_ λxs=>aE.const _;unfold cB;cases c with
   | none=>exact aE.ask _ _ _
   | some b=>exact aE.cond (aE.ask _ _ _) (aE.const _)
  | some fl=>
   cases c with
   | some b=>exact aE.const none
   | none=>dsimp only;refine aE.bind (F:=λ_=>lY s.h (zD fl args) fl args) (aE.const _) λp=> ?_;refine aE.bind (F:=λ_=>jK (2000000+d) 0 (aJ s.h p.2) (ny (py (bT p.1) []) (gN A f (gU ((bT p.1).head?.bind (aJ s.h p.2)))))) (aE.const _) λus=> ?_;refine aE.bind (F:=λ_=>eW (aJ (aJ s.h p.2) us) 1000 (bT p.1) []) (aE.const _) λseen=> ?_;refine aE.cond ?_ (aE.const none);simp only [e];refine aE.iY λq=> ?_;exact aE.bind (aE.ask _ _ _) λxs=>aE.const _
theorem aE.je{gX:Bool}{s:St}{d:Nat}{c:Option Bool}{f:FuncId}{args:List AV}{K:AV->aG->Option R}:aE (λO=>je gX P A O s d c f args K):=by
 unfold Aev.je;cases _root_.cond gX (nA args) none with
 | none=>exact aE.gw
 | some q=>
  obtain⟨a,i,n,e⟩:=q;cases c with
  | some b=>exact aE.const none
  | none=>
   dsimp only;cases s.h i with
   | none=>exact aE.const none
   | some b=>
    cases b with
    | rows b sz az rsz nx es=>
     dsimp only;cases br n es with
     | none=>exact aE.const none
     | some p=>exact aE.cond aE.gw (aE.const none)
    | _=>exact aE.const none
theorem aE.df{g:Option Gs}{o:Oper}{s:St}:aE (λO=>df P A O g o s):=by
 unfold Aev.df jd;cases o.op <;> (try dsimp only) <;> try exact aE.const _
 case makeFunc fn a b=>cases fn <;> (try dsimp only) <;> exact aE.const _
 case call d=>
  cases d.callee <;> (try dsimp only)
  case value e=>cases s.get g e <;> (try dsimp only) <;> first | exact aE.je | exact aE.const _
  case builtin b=>cases b <;> (try dsimp only) <;> exact aE.const _
  all_goals exact aE.const _
theorem aE.eU{a:Bool}{nt:Nat}{ops:Array Oper}{o:Oper}{s:St}:aE (λO=>eU P A O a nt ops o s):=by
 unfold Aev.eU oJ;have key:∀{G:aB->Option Gs->Option St},(∀g,aE (λO=>G O g))->aE (λO=>dq ops o s (G O)):=λ{G} b=>by rw [show(λO=>dq ops o s (G O))=λO=>(dq ops o s some).bind (G O) from funext λO=>xk _ _ _ _];exact aE.bind (aE.const _) b
 refine key λg=> ?_;cases p5 A a o g with
 | none=>simp only [qJ];exact aE.bind aE.df λp=>aE.const _
 | some d=>simp only [qJ];exact aE.cond (aE.cond (aE.bind aE.df λp=>aE.const _) (aE.const _)) (aE.const _)
theorem aE.iS{a:Bool}{nt:Nat}{ops:Array Oper}:∀(l:List Oper) (s:St),aE (λO=>iS P A O a nt ops l s)
 | [],s=>aE.const _
 | o::r,s=>aE.bind (F:=λO=>Aev.eU P A O a nt ops o s) aE.eU λs'=>aE.iS r s'
theorem aE.region{nt:Nat}{a:Bool}{ops:Array Oper}{s:St}{K:St->aB->Option R}(h:∀s,aE (K s)):aE (λO=>region P A O nt a ops s λs'=>K s' O):=by
 unfold Aev.region;refine aE.cond ?_ (aE.const none);have:(λO=>um P A O a nt ops ops.toList s λs'=>K s'.clear O)=λO=>(Aev.iS P A O a nt ops ops.toList s).bind λs'=>K s'.clear O:=by funext O;rw [BM]
 rw [this];exact aE.bind (aE.iS _ _) λs'=>h _
theorem aE.lO{f:FuncId}{todo:List Item}{live:List (Nat×Option Nat)}{m:Nat×Nat}{s:St}:aE (λO=>lO O f todo live m s):=by unfold Aev.lO;refine aE.bind (aE.const _) λus=> ?_;unfold Aev.yt;refine aE.bind (aE.const _) λp=>aE.ite ?_ (aE.const none);exact aE.bind (aE.const _) λseen=>aE.ask _ _ _
theorem aE.ev{f:FuncId}{fn:Func}{m:Nat×Nat}:∀(n:Nat) (a:Bool) (todo:List Item) (s:St),aE (λO=>ev P A O f fn m n a todo s)
 | 0,a,todo,s=>by simp only [Aev.ev];exact aE.const none
 | n+1,a,[],s=>by simp only [Aev.ev];exact aE.const _
 | n+1,a, .code .skip::k,s=>by simp only [Aev.ev];exact aE.ev n _ _ _
 | n+1,a, .code (.seq x y)::k,s=>by simp only [Aev.ev];exact aE.ev n _ _ _
 | n+1,a, .code (.region id ops d)::k,s=>by
  simp only [Aev.ev];cases e:(bif a then A.join f id else none) with
  | some live=>exact aE.lO
  | none=>exact aE.region λs'=>aE.ev n _ _ _
 | n+1,a, .code (.cond x p q)::k,s=>by simp only [Aev.ev];refine aE.bind (F:=λ_=>(s.get none x).t?) (aE.const _) λy=>aE.aa λt=>aE.cond (aE.ev n _ _ _) (aE.ev n _ _ _)
 | n+1,a, .code (.block id b)::k,s=>by simp only [Aev.ev];exact aE.ev n _ _ _
 | n+1,a, .code (.loop b)::k,s=>by
  simp only [Aev.ev];cases A.live f (oS b) with
  | some live=>exact aE.lO
  | none=>exact aE.const none
 | n+1,a, .code (.exit id)::k,s=>by
  simp only [Aev.ev];cases exitTo id k with
  | some g=>exact aE.ev n _ _ _
  | none=>exact aE.const none
 | n+1,a, .code .ret::k,s=>by simp only [Aev.ev];exact aE.const _
 | n+1,a, .inBlock id::k,s=>by simp only [Aev.ev];exact aE.ev n _ _ _
 | n+1,a, .inLoop b::k,s=>by
  simp only [Aev.ev];cases A.live f (oS b) with
  | some live=>exact aE.lO
  | none=>exact aE.const none
 | n+1,a, .code (.label _)::k,s=>by simp only [Aev.ev];exact aE.const _
 | n+1,a, .code (.goto _)::k,s=>by simp only [Aev.ev];exact aE.const _
 | n+1,a, .code (.rangeFunc ..)::k,s=>by simp only [Aev.ev];exact aE.const _
 | n+1,a, .code (.scope _)::k,s=>by simp only [Aev.ev];exact aE.const _
 | n+1,a, .code (.refuse _)::k,s=>by simp only [Aev.ev];exact aE.const _
 | n+1,a, .inRegion ..::k,s=>by simp only [Aev.ev];exact aE.const _
 | n+1,a, .inScope _::k,s=>by simp only [Aev.ev];exact aE.const _
 | n+1,a, .inRangeFunc _::k,s=>by simp only [Aev.ev];exact aE.const _
 | n+1,a, .endRangeFunc _::k,s=>by simp only [Aev.ev];exact aE.const _
 | n+1,a, .beginRound::k,s=>by simp only [Aev.ev];exact aE.const _
 | n+1,a, .extern ..::k,s=>by simp only [Aev.ev];exact aE.const _
 | n+1,a, .call ..::k,s=>by simp only [Aev.ev];exact aE.const _
theorem aE.aF(k:Key)(vs:List AV)(bs:List ab):aE (λO=>aF P A O k vs bs):=by
 cases k with
 | call f=>
  simp only [Aev.aF];cases A.ext f vs bs with
  | some r=>exact aE.const _
  | none=>
   dsimp only;cases P.funcs[f]? with
   | none=>exact aE.const _
   | some fn=>
    dsimp only;cases fn.body with
    | none=>exact aE.const _
    | some c=>exact aE.ite (aE.ev _ _ _ _) (aE.const _)
 | node f todo live m=>
  simp only [Aev.aF];cases P.funcs[f]? with
  | none=>exact aE.const _
  | some fn=>
   dsimp only;split
   .exact aE.ev _ _ _ _
   .exact aE.ev _ _ _ _
theorem Hi:∀(n:Nat) {k:Key} {vs:List AV} {bs:List ab} {r:List T},iP P A n k vs bs=some r->iP P A (n+1) k vs bs=some r
 | 0,k,vs,bs,r,h=>by simp [iP] at h
 | n+1,k,vs,bs,r,h=>by obtain⟨L,e,g⟩:=aE.aF (P:=P) (A:=A) k vs bs _ r h;exact g _ λq a=>Hi n (e q a)
theorem xK{n m:Nat}(a:n<=m){k:Key}{vs:List AV}{bs:List ab}{r:List T}(h:iP P A n k vs bs=some r):iP P A m k vs bs=some r:=by
 induction a with
 | refl=>exact h
 | step _ b=>exact Hi _ b
theorem Hj{n:Nat}{k:Key}{vs:List AV}{bs:List ab}{r:List T}(h:iP P A n k vs bs=some r):mn P A k vs bs=some r:=by unfold mn;have d:∃n r,iP P A n k vs bs=some r:=⟨n,r,h⟩;rw [dif_pos d];have e:=T7 (T7 d);have a:=xK (Nat.le_max_left n (Classical.choose d)) h;have b:=xK (Nat.le_max_right n (Classical.choose d)) e;rw [a] at b;exact b.symm
theorem ao{k:Key}{vs:List AV}{bs:List ab}{r:List T}(h:aF P A (mn P A) k vs bs=some r):mn P A k vs bs=some r:=by
 obtain⟨L,e,g⟩:=aE.aF (P:=P) (A:=A) k vs bs _ r h;have:∃n,yG (iP P A n) L:=by
  clear g h;induction L with
  | nil=>exact⟨0,(by intro q a;cases a)⟩
  | cons q L f=>
   obtain⟨n,b⟩:=f λd a=>e d (Ru _ a);obtain⟨m,hm⟩:=Hk (e q Rs);refine⟨max n m,λd a=> ?_⟩;rcases RC.1 a with rfl | a
   .exact xK (Nat.le_max_right _ _) hm
   .exact xK (Nat.le_max_left _ _) (b d a)
 obtain⟨n,b⟩:=this;exact Hj (n:=n+1) (g _ b)
end
open Go Go.IntKind
section
variable {P:Program} {An:cG} {w w':World}
theorem vw.below(k:vw w w'):Go.RowKit.Below w.heap.size w w':=⟨k.os,k.tape,k.output,k.size,k.ah⟩
theorem J5{f:FuncId}{fn:Func}{bc:List AV}{args:List Value}{A0:Nat->Prop}(r:nO P An)(hm:P.follows .mixedOrders=true)(y:∀(f:FuncId) (fn:Func),P.funcs[f]? =some fn->fn.name≠ "runtime.NumGoroutine")
  (k:P.funcs[f]? =some fn) (a:An.ig f=none) (g:dc P An f 0 fn= [.f .b]) (q:∀b,A0 b->b < w.heap.size) (d:ay w A0 (λ_=>none) bc args)
  (e:mn P An (.call f) bc []=some [.bool true]):Calls P f args.toArray w λe w'=>e= .returned (.bool true)/\Go.RowKit.Below w.heap.size w w':=by
 obtain⟨C,m,h1,_,_,o⟩:=N9 r hm y f bc [] _ e;rw [k] at h1;simp only [Rp] at h1;subst h1;refine(o.values a A0 w args q d).mono λe w' ⟨G,own,u,z,_,_,l⟩=> ?_;rw [g] at l;obtain⟨x,E,v,D,ob,B,i,rfl,_,p,F,rfl,_⟩:=l;simp only [TD] at i;obtain⟨rfl,rfl⟩:=i;obtain⟨_,j,_⟩:=p;simp only [aw] at j;subst j;exact⟨u,z.below⟩
end
open Go Go.IntKind
abbrev I(n:Int):AV:= .t (.int .i64 n)
abbrev B(b:Bool):AV:= .t (.bool b)
theorem FJ{b R:Type}[Inhabited b](c:Option Bool)(a:b)(k:b->Option R):aa c (some a) k=k a:=by cases c <;> rfl
theorem cm{a R:Type}[Inhabited a](m:Option a)(k:a->Option R):aa (some false) m k=k (m.getD default):=by cases m <;> rfl
theorem FV{a:Type}(x:a)(l:List a):(x::l).head? =some x:=by cases l <;> rfl
theorem IJ{a:Type}(x:a)(l:List a):(x::l).tail=l:=by cases l <;> rfl
theorem D9{a:Type}(l:List a):l.drop 0=l:=by cases l <;> rfl
theorem Ea{a:Type}(x:a)(l:List a):(x::l).drop 1=l:=by cases l <;> rfl
theorem Eb{a:Type}(x y:a)(l:List a):(x::y::l).drop 2=l:=by cases l <;> rfl
theorem Ec{a:Type}(x y z:a)(l:List a):(x::y::z::l).drop 3=l:=by cases l <;> rfl
theorem Ed{a:Type}(x y z u:a)(l:List a):(x::y::z::u::l).drop 4=l:=by cases l <;> rfl
theorem Ee{a:Type}(x y z u v:a)(l:List a):(x::y::z::u::v::l).drop 5=l:=by cases l <;> rfl
theorem Ef{a:Type}(x y z u v t:a)(l:List a):(x::y::z::u::v::t::l).drop 6=l:=by cases l <;> rfl
theorem Dp(b:Bool):(T.bool b).bool? =some b:=by cases b <;> rfl
theorem AN(k:IntKind)(n:Int):(T.int k n).int? k=some n:=by cases k <;> simp [T.int?]
theorem IA(s:ByteArray):(T.str s).bx =some s:=by cases s;rfl
theorem tN(sz:Nat)(b:Bool)(l:List (List T)):(T.ae sz b l).aP sz=some (b,l):=by cases b <;> simp [T.aP]
theorem cC(sz:Nat)(b:Bool):(T.aT b).aP sz=some (b,[]):=by cases b <;> rfl
theorem HA(l:List T):(T.ptr l).pU =some l:=by cases l <;> rfl
theorem Fm(k:IntKind)(n:Int):(T.int k n).pH =some ():=by cases k <;> rfl
theorem Fk(b:Bool):(T.bool b).pH =some ():=by cases b <;> rfl
theorem FF(b:ByteArray):(T.str b).pH =some ():=by cases b;rfl
theorem zO{d:Type}(a b:d):cond true a b=a:=by simp
theorem we{d:Type}(a b:d):cond false a b=b:=by simp
theorem GZ:(!true)=false:=by decide
theorem GO:(!false)=true:=by decide
theorem C0(m:Option (List T)):cB none m=m:=by cases m <;> rfl
theorem C2(m:Option (List T)):cB (some true) m=m:=by cases m <;> rfl
theorem C1(m:Option (List T)):cB (some false) m=some []:=by cases m <;> rfl
theorem sW{d:Type}(p:Prop)[Decidable p](a b:d):(bif decide p then a else b)=if p then a else b:=by by_cases h:p <;> simp [h]
theorem DP{d:Type}(p:Prop)[Decidable p](a b:d):(bif !decide p then a else b)=if p then b else a:=by by_cases h:p <;> simp [h]
theorem DD{d:Type}(m n:Int)(a b:d):(bif m==n then a else b)=if m=n then a else b:=by
 by_cases h:m=n
 .simp [h]
 .have:(m==n)=false:=by simpa using h
  simp [h,this]
theorem DO{d:Type}(m n:Int)(a b:d):(bif !m==n then a else b)=if m=n then b else a:=by
 by_cases h:m=n
 .simp [h]
 .have:(m==n)=false:=by simpa using h
  simp [h,this]
theorem pv(a b:Bool):(bif a then b else false)= (a && b):=by cases a <;> simp
theorem kf(a b:Bool):(bif a then true else b)= (a || b):=by cases a <;> simp
theorem wr{v:Int}(h: -9223372036854775808<=v/\v < 9223372036854775808):i64.wrap v=v:=by simp [IntKind.wrap,IntKind.signed,IntKind.bits];omega
theorem al:(type_of% @FJ)/\(type_of% @FV)/\(type_of% @IJ)/\(type_of% @D9)/\(type_of% @Ea)/\(type_of% @Eb)/\(type_of% @Ec)/\(type_of% @Ed)/\(type_of% @Ee)/\(type_of% @Ef)/\(type_of% @Dp)/\(type_of% @AN)/\(type_of% @IA)/\(type_of% @tN)/\(type_of% @cC)/\(type_of% @HA)/\(type_of% @Fm)/\(type_of% @Fk)/\(type_of% @FF)/\(type_of% @zO)/\(type_of% @we)/\(type_of% @GZ)/\(type_of% @GO)/\(type_of% @C0)/\(type_of% @C2)/\(type_of% @C1)/\(type_of% @sW)/\(type_of% @DP)/\(type_of% @DD)/\(type_of% @DO)/\(type_of% @beq_self_eq_true.{0})/\(type_of% @Us)/\(type_of% @S0)/\(type_of% @Tf)/\(type_of% @U0):=⟨@FJ,@FV,@IJ,@D9,@Ea,@Eb,@Ec,@Ed,@Ee,@Ef,@Dp,@AN,@IA,@tN,@cC,@HA,@Fm,@Fk,@FF,@zO,@we,@GZ,@GO,@C0,@C2,@C1,@sW,@DP,@DD,@DO,@beq_self_eq_true.{0},@Us,@S0,@Tf,@U0⟩
open Go Go.ChangeShapes Go.WideShapes Go.ChangeAt Go.RowKit Go.IntKind
def uD(P:Program)(go:TypeId->Bool):List Field->Nat->Option Nat
 | [],off=>some off
 | f::r,off=>if f.offset=off/\go f.type=true then uD P go r (off+P.cellsOf f.type) else none
def jo(P:Program):Nat->TypeId->Bool
 | 0,_=>false
 | n+1,t=>match P.underlying t with
  | some .bool=>true
  | some (.int _)=>true
  | some .string=>true
  | some (.slice e)=>jo P n e && decide (0 < P.cellsOf e)
  | some (.struct a)=>decide (uD P (jo P n) a.toList 0=some (P.cellsOf t))
  | some (.array m e)=>jo P n e && decide (P.cellsOf t=m * P.cellsOf e)
  | _=>false
def za(W:TypeId->List T->Prop):List Field->List T->Prop
 | [],ts=>ts= []
 | f::r,ts=>∃a b,ts=a++b/\W f.type a/\za W r b
def y9(W:List T->Prop):Nat->List T->Prop
 | 0,ts=>ts= []
 | m+1,ts=>∃a b,ts=a++b/\W a/\y9 W m b
def Wt(P:Program):Nat->TypeId->List T->Prop
 | 0,_,_=>False
 | n+1,t,ts=>match P.underlying t with
  | some .bool=>∃b,ts= [.bool b]
  | some (.int k)=>∃m,ts= [.int k m]/\(Lit.int k m).wf=true
  | some .string=>∃s,ts= [.str s]/\s.size<=maxLen
  | some (.slice e)=>∃b xs,ts= [.ae (P.cellsOf e) b xs]/\(b=true->xs= [])/\xs.length<=maxLen/\(∀cs∈xs,Wt P n e cs)/\xs.length * P.bytesOf e<=reachBytes
  | some (.struct a)=>za (Wt P n) a.toList ts
  | some (.array m e)=>y9 (Wt P n e) m ts
  | _=>False
section
variable {H:Type} {enc:TypeId×Value->H} {P:Program} {w:World} {base:Nat} {sp:Nat->Bool} {held:Bool}
def pa{H:Type}(P:Program)(t:TypeId)(d:DataW H):Prop:= ∀k∈DataW.weights P t d,k<=reachBytes
theorem Co{H:Type}{P:Program}{e:TypeId}:∀{l:List (DataW H)} {d:DataW H},d∈l->∀k∈DataW.weights P e d,k∈DataW.weightsAll P e l
 | [],d,h,k,_=>by cases h
 | c::l,d,h,k,a=>by
  simp only [DataW.weightsAll,RM];rcases RC.1 h with rfl | h
  .exact .inl a
  .exact .inr (Co h k a)
theorem I8{H:Type}{P:Program}{us:List TypeId}{b:List (DataW H)}{k:Nat}:∀{ts:List TypeId} {a:List (DataW H)},k∈DataW.weightsEach P ts a->k∈DataW.weightsEach P (ts++us) (a++b)
 | [],a,h=>by simp [DataW.weightsEach] at h
 | t::ts,[],h=>by simp [DataW.weightsEach] at h
 | t::ts,d::a,h=>by simp only [DataW.weightsEach,Rx,RM] at h⊢;exact h.imp id I8
theorem aN.zp{A:Nat->Prop}:∀{a b:List T} {vs us:List Value},aN w A a vs->aN w A b us->aN w A (a++b) (vs++us)
 | [],b,vs,us,h,h'=>by simp only [aN] at h;subst h;simpa using h'
 | c::a,b,vs,us,⟨v,r,e,h1,d⟩,h'=>by subst e;exact⟨v,r++us,rfl,h1,aN.zp d h'⟩
theorem IM{n m:Nat}(o:∀(t:TypeId) (cs:List Value) (x:DataW H×List MemPlace),jo P n t=true->DataW.trod enc P w base sp held m t cs=some x->pa P t x.1->
   ∃ts,aN w (λb=>b < w.heap.size) ts cs/\Wt P n t ts) (cs:List Value):∀(i:List Field) (off E:Nat),uD P (jo P n) i off=some E->E<=cs.length->
   (∀f∈i,∃x,DataW.trod enc P w base sp held m f.type ((cs.drop f.offset).take (P.cellsOf f.type))=some x/\pa P f.type x.1)->
   off<=E/\∃ts,aN w (λb=>b < w.heap.size) ts ((cs.drop off).take (E - off))/\za (Wt P n) i ts
 | [],off,E,d,k,_=>by simp only [uD,Rp] at d;subst d;exact⟨RI _,[],by simp [aN],rfl⟩
 | f::i,off,E,d,k,l=>by
  simp only [uD] at d;split at d
  .rename_i r;obtain⟨p,q⟩:=r;obtain⟨x,v,j⟩:=l f Rs;obtain⟨a,y,B⟩:=o _ _ _ q v j;obtain⟨D,b,z,C⟩:=IM o cs i _ E d k λg u=>l g (Ru _ u);refine⟨by omega,a++b, ?_,⟨a,b,rfl,B,C⟩⟩;have e:(cs.drop off).take (E - off)= (cs.drop f.offset).take (P.cellsOf f.type)++ (cs.drop (off+P.cellsOf f.type)).take (E - (off+P.cellsOf f.type)):=by
    rw [p,<-Vn];have:E - off=P.cellsOf f.type+ (E - (off+P.cellsOf f.type)):=by omega
    rw [this,List.take_add]
   rw [e];exact aN.zp y z
  .cases d
theorem IN{n m e:Nat}(o:∀(t:TypeId) (cs:List Value) (x:DataW H×List MemPlace),jo P n t=true->DataW.trod enc P w base sp held m t cs=some x->pa P t x.1->
   ∃ts,aN w (λb=>b < w.heap.size) ts cs/\Wt P n t ts) (g:jo P n e=true):∀(k:Nat) (cs:List Value),cs.length=k * P.cellsOf e->
   (∀i,i < k->∃x,DataW.trod enc P w base sp held m e ((cs.drop (i * P.cellsOf e)).take (P.cellsOf e))=some x/\pa P e x.1)->∃ts,aN w (λb=>b < w.heap.size) ts cs/\y9 (Wt P n e) k ts
 | 0,cs,f,_=>by have:cs= []:=RN.1 (by simpa using f);subst this;exact⟨[],rfl,rfl⟩
 | k+1,cs,f,j=>by
  obtain⟨x,l,d⟩:=j 0 (Nat.zero_lt_succ _);simp only [Nat.zero_mul,UG] at l;obtain⟨a,p,r⟩:=o _ _ _ g l d;obtain⟨b,q,u⟩:=IN o g k (cs.drop (P.cellsOf e)) (by rw [Tk,f,Sn];omega) λi hi=>by
   obtain⟨y,hy,d⟩:=j (i+1) (by omega);refine⟨y, ?_,d⟩;rw [Vn];have:P.cellsOf e+i * P.cellsOf e= (i+1) * P.cellsOf e:=by rw [Sn];omega
   rw [this];exact hy
  refine⟨a++b, ?_,⟨a,b,rfl,r,u⟩⟩;have:=aN.zp p q;rwa [Va] at this
theorem Gq{A:Nat->Prop}{ah sz:Nat}{n e:Nat}:∀(len off:Nat),(∀i,i < len->∃ts a,ts.length=sz/\aN w A ts a/\Wt P n e ts/\∀j v,a[j]? =some v->w.cell? ⟨ah,off+i * sz+j,none⟩=some v)->
  ∃xs:List (List T),xs.length=len/\aU w A ah sz off xs/\∀cs∈xs,Wt P n e cs
 | 0,off,_=>⟨[],rfl,trivial,(by intro c b;cases b)⟩
 | len+1,off,h=>by
  obtain⟨ts,a,h1,d,f,g⟩:=h 0 (Nat.zero_lt_succ _);obtain⟨xs,l,k2,m⟩:=Gq (A:=A) (ah:=ah) (sz:=sz) (n:=n) (e:=e) len (off+sz) λi hi=>by
   obtain⟨ts,a,h1,d,f,g⟩:=h (i+1) (by omega);refine⟨ts,a,h1,d,f,λj v k=> ?_⟩;have:=g j v k;have e:off+ (i+1) * sz+j=off+sz+i * sz+j:=by rw [Sn];omega
   rwa [e] at this
  refine⟨ts::xs,by simp [l],⟨h1,aS.kB d λj v k=> ?_,k2⟩,λc b=> ?_⟩
  .have:=g j v k;simpa using this
  .rcases RC.1 b with rfl | b
   .exact f
   .exact m c b
theorem yu:∀(n:Nat) (m:Nat) (t:TypeId) (cs:List Value) (x:DataW H×List MemPlace),jo P n t=true->DataW.trod enc P w base sp held m t cs=some x->pa P t x.1->
  ∃ts,aN w (λb=>b < w.heap.size) ts cs/\Wt P n t ts
 | 0,m,t,cs,x,g,_,_=>by simp [jo] at g
 | n+1,m,t,cs,x,g,h,l=>by
  simp only [jo] at g;split at g
  .rename_i d;obtain⟨b,rfl,_⟩:=DataW.trod_bool d h;exact⟨[.bool b],⟨_,[],rfl,rfl,rfl⟩,by simp only [Wt,d];exact⟨b,rfl⟩⟩
  .rename_i k d;obtain⟨z,rfl,_,X⟩:=DataW.trod_int d h;exact⟨[.int k z],⟨_,[],rfl,rfl,rfl⟩,by simp only [Wt,d];exact⟨z,rfl,X⟩⟩
  .rename_i d;obtain⟨s,rfl,_,X⟩:=DataW.trod_string d h;exact⟨[.str s],⟨_,[],rfl,rfl,rfl⟩,by simp only [Wt,d];exact⟨s,rfl,X⟩⟩
  .rename_i e d;simp only [Rw,decide_eq_true_eq] at g;obtain⟨V,B⟩:=g;rcases Go.Deep.open_slice d h with⟨rfl,_⟩ | ⟨a,len,cap,k,E,D,Pl,rfl,hb,U,hm,hk,rfl,L⟩
   .exact⟨[.ae (P.cellsOf e) true []],⟨_,[],rfl, .inl ⟨rfl,rfl,rfl⟩,rfl⟩,by simp only [Wt,d];exact⟨true,[],rfl,λ_=>rfl,by simp,(by intro c y;cases y),by simp⟩⟩
   .obtain⟨ah,off,s⟩:=a;have hlk:len<=k:=by rw [hk];split <;> omega
    dsimp only at l;have N:len * P.bytesOf e<=reachBytes:=by have:=l ((len+ (k - len)) * P.bytesOf e) (by simp [DataW.weights,d]);exact R4 (Sc _ (Un _ _)) this
    have J:∀i,i < len->pa P e (D i):=λi hi q C=>l q (by
     simp only [DataW.weights,d,RC,RM];exact .inr (.inl (Co (RU.2 ⟨i,Tp.2 hi,rfl⟩) q C)))
    have G: 0 < len->s=none/\ah < w.heap.size:=by
     intro h0;obtain⟨u,y,_⟩:=L 0 (by omega);obtain⟨I,r,p⟩:=World.cells?_some y;have K:=World.cells?_block y B;have o:=p 0 B;have M:((⟨ah,off,s⟩:Addr).add (0 * P.cellsOf e)).add 0= ⟨ah,off,s⟩:=by simp [Addr.add]
     rw [M] at o;have hc2:∃v,u[0]? =some v:=⟨_,Rv (by omega)⟩;obtain⟨v,hv⟩:=hc2;rw [hv] at o;refine⟨?_, ?_⟩
     .cases s with
      | none=>rfl
      | some z=>simp only [World.cell?] at o;split at o <;> simp at o
     .have e:((⟨ah,off,s⟩:Addr).add (0 * P.cellsOf e))= ⟨ah,off,s⟩:=by simp [Addr.add]
      rw [e] at K;exact K
    obtain⟨xs,k1,k2,k3⟩:=Gq (P:=P) (w:=w) (A:=λb=>b < w.heap.size) (ah:=ah) (sz:=P.cellsOf e) (n:=n) (e:=e) len off λi hi=>by
     obtain⟨u,y,hd⟩:=L i (by omega);obtain⟨hs,_⟩:=G (by omega);subst hs;obtain⟨ts,r1,F⟩:=yu n E e u _ V hd (J i (by omega));obtain⟨I,r,p⟩:=World.cells?_some y;refine⟨ts,u,by rw [<-r1.length,r],r1,F,λj v hj=> ?_⟩;have hj':j < P.cellsOf e:=by rw [<-r];exact(Rz.1 hj).1
     have:=p j hj';rw [hj,gJ,gJ] at this;exact this
    refine⟨[.ae (P.cellsOf e) false xs],⟨_,[],rfl, .inr ⟨rfl,ah,off,s,cap,by rw [k1],by omega, ?_,k2⟩,rfl⟩,by simp only [Wt,d];exact⟨false,xs,rfl,λh=>(by cases h),by omega,k3,by rw [k1];exact N⟩⟩;by_cases h0:len=0
    .left;exact RN.1 (by omega)
    .right;exact G (by omega)
  .rename_i Z d;simp only [decide_eq_true_eq] at g;obtain⟨xs,E,rfl,rfl,U,hsz,Q⟩:=DataW.trod_struct d h;dsimp only at l;obtain⟨_,ts,r1,F⟩:=IM (λt cs x=>yu n E t cs x) cs Z.toList 0 _ g (by omega) λf hf'=>by
    obtain⟨i,hi,e⟩:=SF hf';have Y:Z.toList[i]? =some f:=by rw [Rv hi,e]
    have:=Q i f (by rw [<-Sl];exact Y);rw [this];have hx:xs[i]? =some (xs[i]'(by simp at hi;omega)):=Rv (by simp at hi;omega);refine⟨_,hx,λq C=>l q ?_⟩;simp only [DataW.weights,d];exact DataW.weights_mem_each (j:=i) (by rw [Sb,Y];rfl) (by rw [Sb,hx];rfl) q C
   refine⟨ts, ?_,by simp only [Wt,d];exact F⟩;simp only [UG,Sr] at r1;rwa [<-U,Uo] at r1
  .rename_i m' e d;simp only [Rw,decide_eq_true_eq] at g;obtain⟨xs,E,rfl,rfl,U,hsz,Q⟩:=DataW.trod_array d h;dsimp only at l;obtain⟨ts,r1,F⟩:=IN (λt cs x=>yu n E t cs x) g.1 m' cs (by omega) λi hi=>by
    rw [Q i hi];refine⟨_,Rv (by omega),λq C=>l q ?_⟩;simp only [DataW.weights,d];exact Co (RU.2 ⟨_,S9 _,rfl⟩) q C
   exact⟨ts,r1,by simp only [Wt,d];exact F⟩
  .cases g
end
def uL(P:Program)(n:Nat):List TypeId->List AV->Prop
 | [],as=>as= []
 | t::ts,as=>∃a r,as=a::r/\((bt P t=true/\∃l,Wt P n t l/\a= .agg (l.map .t))\/(bt P t=false/\∃x,Wt P n t [x]/\a= .t x))/\uL P n ts r
section
variable {H:Type} {enc:TypeId×Value->H} {P:Program} {W W':World} {sp:Nat->Bool} {held:Bool}
theorem N6{n:Nat}{t:TypeId}{v:Value}{d:DataW H}{F:List MemPlace}{r:Reach}{C base:Nat}(o:jo P (n+1) t=true)(f:Value.okWide P W r C t v)(h:DataW.Trod enc P W base sp held t v d F)(p:pa P t d):
  ∃a,((bt P t=true/\∃l,Wt P (n+1) t l/\a= .agg (l.map .t))\/(bt P t=false/\∃x,Wt P (n+1) t [x]/\a= .t x))/\ak W (λb=>b < W.heap.size) (λ_=>none) a v:=by
 obtain⟨m,hm⟩:=h;obtain⟨ts,r1,B⟩:=yu (n+1) m t _ _ o hm p;have j:bt P t=false->v.cells= #[v]->∃a,((bt P t=true/\∃l,Wt P (n+1) t l/\a= .agg (l.map .t))\/(bt P t=false/\∃x,Wt P (n+1) t [x]/\a= .t x))/\ak W (λb=>b < W.heap.size) (λ_=>none) a v:=by
  intro h1 E;rw [E] at r1
  match ts,r1 with
  | [],r1=>simp [aN] at r1
  | [x],⟨u,q,e,g,_⟩=>simp only [TD] at e;obtain⟨rfl,_⟩:=e;exact⟨.t x, .inr ⟨h1,x,B,rfl⟩,by simpa [ak] using g⟩
  | x::y::z,⟨u,q,e,_,⟨K,J,D,_⟩⟩=>subst D;simp at e
 have agg:bt P t=true->(∃cs,v= .agg cs)->∃a,((bt P t=true/\∃l,Wt P (n+1) t l/\a= .agg (l.map .t))\/(bt P t=false/\∃x,Wt P (n+1) t [x]/\a= .t x))/\ak W (λb=>b < W.heap.size) (λ_=>none) a v:=by rintro h1 ⟨cs,rfl⟩;refine⟨.agg (ts.map .t), .inl ⟨h1,ts,B,rfl⟩, ?_⟩;simp only [ak];exact⟨cs.toList,by simp,ay.lD r1,r1.one⟩
 simp only [jo] at o;split at o
 .rename_i i;simp only [Value.okWide,i,Cell.okWide] at f;refine j (by simp [bt,i]) ?_;cases v <;> first | rfl | (simp [Cell.ok,i] at f)
 .rename_i k i;simp only [Value.okWide,i,Cell.okWide] at f;refine j (by simp [bt,i]) ?_;cases v <;> first | rfl | (simp [Cell.ok,i] at f)
 .rename_i i;simp only [Value.okWide,i,Cell.okWide] at f;refine j (by simp [bt,i]) ?_;cases v <;> first | rfl | (simp [Cell.ok,i] at f)
 .rename_i e i;simp only [Value.okWide,i,Cell.okWide] at f;refine j (by simp [bt,i]) ?_;cases v <;> first | rfl | (simp [Cell.ok,i] at f)
 .rename_i G i;simp only [Value.okWide,i] at f;obtain⟨cs,e,_⟩:=f;exact agg (by simp [bt,i]) ⟨cs,e⟩
 .rename_i I e i;simp only [Value.okWide,i] at f;obtain⟨cs,e,_⟩:=f;exact agg (by simp [bt,i]) ⟨cs,e⟩
 .cases o
theorem Hf{n:Nat}{r:Reach}{y base:Nat}:∀{ts:List TypeId} {vs:List Value} {i:List (DataW H)} {m:List MemPlace},ts.all (jo P (n+1))=true->(∀(j:Nat) (t:TypeId) (v:Value),ts[j]? =some t->vs[j]? =some v->Value.okWide P W r y t v)->
  DataW.TrodAll enc P W base sp held ts vs i m->(∀k∈DataW.weightsEach P ts i,k<=reachBytes)->∃as,uL P (n+1) ts as/\ay W (λb=>b < W.heap.size) (λ_=>none) as vs
 | [],vs,i,m,_,_,h,_=>by obtain⟨rfl,_,_⟩:=trodAll_nil h;exact⟨[],rfl,by simp [ay]⟩
 | t::ts,vs,i,m,f,g,h,e=>by simp only [SZ,Rw] at f;obtain⟨v,x,d,G,p,q,rfl,rfl,rfl,h1,z⟩:=trodAll_cons h;obtain⟨a,B,C⟩:=N6 f.1 (g 0 t v rfl rfl) h1 (λk l=>e k (by simp only [DataW.weightsEach,RM];exact .inl l));obtain⟨as,o,u⟩:=Hf f.2 (λj E F D hv=>g (j+1) E F (by simpa using D) (by simpa using hv)) z (λk l=>e k (by simp only [DataW.weightsEach,RM];exact .inr l));exact⟨a::as,⟨a,as,rfl,B,o⟩,by simp only [ay];exact⟨v,x,rfl,C,u⟩⟩
theorem Im(j:laidOutB P=true)(hb:Below W.heap.size W W'):∀{ts:List TypeId} {vs:List Value} {e:List (DataW H)} {a:List MemPlace},(ts.all λt=>P.readableRec t && decide (t < P.types.size))=true->
  DataW.TrodAll enc P W 0 (λ_=>true) true ts vs e a->(∀x∈a,x.block < W.heap.size)->DataW.TrodAll enc P W' 0 (λb=>decide (b < W.heap.size)) true ts vs e a
 | [],vs,e,a,_,h,_=>by obtain⟨rfl,rfl,rfl⟩:=trodAll_nil h;exact trodAll_mk0
 | t::ts,vs,e,a,f,h,g=>by simp only [SZ,Rw,decide_eq_true_eq] at f;obtain⟨v,m,d,l,p,q,rfl,rfl,rfl,h1,k⟩:=trodAll_cons h;exact trodAll_cons_mk (Below.trod j f.1.1 f.1.2 h1 hb λx i=>g x (RD _ i)) (Im j hb (by simpa using f.2) k λx i=>g x (RE _ i))
theorem JI(hb:Below W.heap.size W W')(a:MemPlace->Prop):W.keptBut W' a:=by
 refine⟨hb.os,hb.output,λi hi=> ?_⟩;rw [hb.block i hi];cases W.heap[i]? with
 | none=>rfl
 | some o=>cases o <;> first | exact⟨rfl,rfl,rfl,λ_ _=>rfl⟩ | exact .inr ⟨rfl,rfl⟩ | rfl
theorem law_contract{n:Nat}{fn:Func}{s:ChangeSpec}{An:cG}{f:FuncId}{tb:TypeId}(hm:P.follows .mixedOrders=true)(hn:(P.funcs.toList.all λfn=>fn.name != "runtime.NumGoroutine")=true)(hl:laidOutB P=true)
  (M:P.funcs[f]? =some fn) (G:An.ig f=none) (I:dc P An f 0 fn= [.f .b]) (X:P.underlying tb=some .bool) (V:fn.resultTypes= #[tb])
  (C:fn.params.toList.all (jo P (n+1))=true) (l:(fn.params.toList.all λt=>P.readableRec t && decide (t < P.types.size))=true)
  (m:s.vars= []) (B:∀(a:List (DataW H)),a.length=fn.params.toList.length->s.fn H a= {results:= [.lit (.bool true)],args:=a})
  (g:∀as,uL P (n+1) fn.params.toList as->mn P An (.call f) as []=some [.bool true])
  (W:World) (base:Nat) (args:Array Value) (a J:List (DataW H)) (r:List MemPlace) (z:∀(j:Nat) t v,fn.params[j]? =some t->args[j]? =some v->Value.okWide P W .any base t v)
  (K:DataW.Whole enc P fn.params.toList s.vars false W args.toList a J r)
  (D:(DataW.weightsEach P (fn.params.toList++s.plain.varTypes P) (a++J)).all (· <=reachBytes)=true)
  (Z:nO P An:=by exact Go.Aev.nO.no λ_ _ _=>rfl):
  Calls P f args W λe W'=>∃v,e= .returned v/\s.post enc P fn false true false false W args v W':=by
 have u:=K;obtain⟨p,q,o,E,rfl,hz,N⟩:=K;rw [m] at E;obtain⟨rfl,rfl⟩:=trodVars_none E;obtain⟨as,L,U⟩:=Hf C (λj t v ht hv=>z j t v (by rw [<-Sl];exact ht) (by rw [<-Sl];exact hv)) o (λk hk=>by simpa using RK.1 D k (I8 hk));have F:a.length=fn.params.toList.length:=by
  clear u U L z hz N E l C g D;generalize fn.params.toList=ts at o;generalize args.toList=vs at o;induction ts generalizing vs a p with
  | nil=>obtain⟨_,rfl,_⟩:=trodAll_nil o;rfl
  | cons t ts ih=>obtain⟨v,vs',d,ds',p',q',_,rfl,_,_,Y⟩:=trodAll_cons o;simp [ih _ _ _ Y]
 have Q:∀(f:FuncId) (fn:Func),P.funcs[f]? =some fn->fn.name≠ "runtime.NumGoroutine" :=by intro f fn h;have:=RK.1 hn fn (Rt (i:=f) (by rw [Sl];exact h));simpa using this
 have:=J5 (w:=W) (A0:=λb=>b < W.heap.size) Z hm Q M G I (λ_ h=>h) U (g as L);rw [show args.toList.toArray=args from by simp] at this;refine this.mono λe W' ⟨he,hb⟩=>⟨.bool true,he, ?_⟩;have y:=B a F;refine⟨a,[],p++ [],[],p,[],u, ?_, ?_, ?_,JI hb _,λh=>by cases h⟩
 .rw [Sg,y,V];exact trodAll_cons_mk (shut_bool X true) trodAll_mk0
 .rw [Sg,y];exact Im hl hb l o (λx hx=>u.lt x (by simpa using hx))
 .rw [Sg,y,m];rfl
end
section
variable {P:Program} {n:Nat} {t:TypeId} {ts:List T}
theorem Ri{k:IntKind}(a:P.underlying t=some (.int k))(h:Wt P (n+1) t ts):∃m,ts= [.int k m]/\(Lit.int k m).wf=true:=by simpa only [Wt,a] using h
theorem Rl{e:TypeId}(a:P.underlying t=some (.slice e))(h:Wt P (n+1) t ts):∃b xs,ts= [.ae (P.cellsOf e) b xs]/\(b=true->xs= [])/\xs.length<=maxLen/\(∀cs∈xs,Wt P n e cs)/\xs.length * P.bytesOf e<=reachBytes:=by simpa only [Wt,a] using h
theorem Rk{j:Type}(g:j->List T){e:TypeId}(q:P.underlying t=some (.slice e))(h:Wt P (n+1) t ts)(o:∀cs,Wt P n e cs->∃a,cs=g a):
  ∃b l,ts= [.ae (P.cellsOf e) b (l.map g)]/\(b=true->l= [])/\l.length<=maxLen/\l.length * P.bytesOf e<=reachBytes:=by
 obtain⟨b,xs,rfl,h1,d,f,i⟩:=Rl q h;have:∃l:List j,xs=l.map g:=by
  clear h1 d h i;induction xs with
  | nil=>exact⟨[],rfl⟩
  | cons c xs r=>obtain⟨a,k⟩:=o c (f c Rs);obtain⟨l,p⟩:=r λcs m=>f cs (Ru _ m);exact⟨a::l,by rw [k,p];rfl⟩
 obtain⟨l,rfl⟩:=this;exact⟨b,l,rfl,λhb=>by simpa using h1 hb,by simpa using d,by simpa using i⟩
theorem Rj{k:Type}(g:k->List T){e:TypeId}(j:P.underlying t=some (.slice e))(h:Wt P (n+1) t ts)(i:∀cs,Wt P n e cs->∃a,cs=g a):
  ∃b l,ts= [.ae (P.cellsOf e) b (l.map g)]/\(b=true->l= [])/\l.length<=maxLen:=by
 obtain⟨b,l,h1,d,f,_⟩:=Rk g j h i;exact⟨b,l,h1,d,f⟩
theorem Di{a:AV}(h:(bt P t=true/\∃l,Wt P n t l/\a= .agg (l.map .t))\/(bt P t=false/\∃x,Wt P n t [x]/\a= .t x))(hb:bt P t=false):∃x,Wt P n t [x]/\a= .t x:=by
 rcases h with h | h
 .rw [hb] at h;cases h.1
 .exact h.2
end
end Go.Aev
