import Derived.Test.YticjdhgokemdlaaMostSureQ4
import Derived.Orders
import Derived.Still
import Derived.Below
import Derived.Deep.Slices
import Derived.Carry
import Derived.ProofKit
import Derived.OpenShut
import Derived.SizedLaws
set_option linter.all false
namespace Go.Aev
open Go Go.IntKind
section
variable {P:Program} {An:cE} {Or:aA} {w w':World} {A A':Nat->Prop} {c:Ctx} {ρ:Id->Option Value} {O:Id->Option Nat} {s s':St}
structure eH (c:Ctx) (nt:Nat) (w:World) (s:St) (ρ:Id->Option Value) (O:Id->Option Nat) (a:Act):Prop where
 hs:HS c w s.h ρ O
 ss:SS w (AA c w O) ρ s.t a.tmps
 nt:a.tmps.size=nt
 defers:a.defers= []
def n9(ops:Array Oper)(s:St):Prop:= ∀k g v,s.t k= (some g,v)->dN ops (some g.d)=true
theorem nu{a:Act}{d k:Nat}{x:Value}(b:d < a.tmps.size):(a.put (some d) x).tmps.getD k undef=if k=d then x else a.tmps.getD k undef:=by
 simp only [Act.put];by_cases e:k=d
 .subst e;simp [b]
 .rw [if_neg e];simp [WL (WY e)]
theorem yz(a:Act)(d:Option Nat)(x:Value):(a.put d x).tmps.size=a.tmps.size:=by cases d <;> simp [Act.put]
theorem yx(a:Act)(d:Option Nat)(x:Value):(a.put d x).defers=a.defers:=by cases d <;> rfl
theorem NS{ops:Array Oper}{o:Oper}{a:Act}{g:Option Gs}(J:SS w A ρ s.t a.tmps)(h:dr ops o s some=some g):
  (Region.wanted o (yielded ops a.tmps)=true->kC a.tmps g)/\
  (Region.wanted o (yielded ops a.tmps)=false->∃i,g=some i/\a.tmps.getD i.d undef≠ .bool i.want/\i.c=false)/\
  (∀i,g=some i->dN ops (some i.d)=true\/∀M∈ops,M≠o):=by
 unfold dr at h;cases m:o.guard with
 | none=>simp only [m,SR] at h;subst h;exact⟨λ_=>trivial,λh=>by simp [Region.wanted,m] at h,λi h=>by cases h⟩
 | some p=>
  obtain⟨j,want⟩:=p;simp only [m] at h;cases y:(ops[j]?).bind (·.dst) with
  | none=>simp [y] at h
  | some d=>
   simp only [y] at h;replace h:=SU.1 h;obtain⟨x,l,h⟩:=h;have K:Region.wanted o (yielded ops a.tmps)=true↔a.tmps.getD d undef= .bool want:=by
    simp only [Region.wanted,m,yielded,y,S9,beq_iff_eq];rw [UI];cases a.tmps[d]? with
    | none=>simp [undef]
    | some u=>cases u <;> simp
   have G:∀i,g=some i->i.d=d/\i.want=want:=by intro i e;replace h:=pR h;obtain⟨b,h,_⟩:=h;simp only [SR] at h;rw [<-h] at e;simp only [SR] at e;subst e;exact⟨rfl,rfl⟩
   have z:∃i,g=some i:=by replace h:=pR h;obtain⟨b,h,_⟩:=h;simp only [SR] at h;exact⟨_,h.symm⟩
   obtain⟨i,rfl⟩:=z;obtain⟨D,E⟩:=G i rfl;refine⟨λL=> ?_,λC=>⟨i,rfl, ?_⟩,λV e=> ?_⟩
   .have B:=K.1 L;simp only [kC,D,E];refine⟨B, ?_⟩;have f:=J d;rw [B] at f;cases r:s.t d with
    | mk gd v=>
     rw [r] at f l h;dsimp only at l h f;rw [AV.l8 l] at f;cases gd with
     | none=>simp only [al] at f;simp only [Ww] at h;replace h:=aL h (.inl rfl);obtain⟨b,hb,h⟩:=h;simp only [SR] at h;have:=T.iO hb;subst this;simp only [ax,Value.bool.injEq] at f;rw [<-h,<-f];cases want <;> rfl
     | some N=>
      simp only at f;rcases f with⟨_,k,hv⟩ | ⟨_,_,U⟩
      .simp only [UR,k] at h;replace h:=aL h (.inr rfl);obtain⟨b,hb,h⟩:=h;simp only [SR] at h;have:=T.iO hb;subst this;simp only [al,ax,Value.bool.injEq] at hv;rw [<-h,<-hv];simp only [gC,k];cases want <;> rfl
      .simp [undef] at U
   .have q:a.tmps.getD d undef≠ .bool want:=λQ=>by
     have:=K.2 Q;rw [this] at C;cases C
    refine⟨by rw [D,E];exact q, ?_⟩;have f:=J d;cases r:s.t d with
    | mk gd v=>
     rw [r] at f l h;dsimp only at l h f;rw [AV.l8 l] at f;cases gd with
     | none=>simp only [al] at f;simp only [Ww] at h;replace h:=aL h (.inl rfl);obtain⟨b,hb,h⟩:=h;simp only [SR] at h;have:=T.iO hb;subst this;simp only [ax] at f;have F:b≠want:=λe=>q (by rw [f,e]);rw [<-h];simp only [gC];cases b <;> cases want <;> simp_all [xc]
     | some N=>
      simp only at f;rcases f with⟨_,k,hv⟩ | ⟨_,k,_⟩
      .simp only [UR,k] at h;replace h:=aL h (.inr rfl);obtain⟨b,hb,h⟩:=h;simp only [SR] at h;have:=T.iO hb;subst this;simp only [al,ax] at hv;have F:b≠want:=λe=>q (by rw [hv,e]);rw [<-h];simp only [gC,k];cases b <;> cases want <;> simp_all [xc]
      .replace h:=pR h;obtain⟨b,h,_⟩:=h;simp only [SR] at h;rw [<-h];simp [gC,k]
   .simp only [SR] at e;subst e;by_cases hm:o∈ops
    .left;unfold dN;rw [VX];exact⟨o,hm,by simp [m,y,D]⟩
    .right;intro M I e;exact hm (e▸I)
theorem Cg{ops:Array Oper}{o:Oper}{g:Option Gs}{v:AV}{us:aH}(b:n9 ops s)(p:∀q,g=some q->dN ops (some q.d)=true):n9 ops (s.put (dN ops o.dst) o.dst g v us):=by
 intro k m u a;cases r:o.dst with
 | none=>simp only [St.put,r] at a;exact b k m u a
 | some d=>
  simp only [St.put,r] at a;by_cases e:k=d
  .simp only [if_pos e,T0] at a;exact p m a.1
  .simp only [if_neg e] at a;cases f:dN ops (some d) with
   | false=>rw [f,cond_false] at a;exact b k m u a
   | true=>
    rw [f,cond_true] at a;cases l:s.t k with
    | mk i vk=>
     rw [l] at a;cases i with
     | none=>simp [my] at a
     | some i=>
      simp only [my] at a;cases j:(i.d==d) with
      | true=>simp [j] at a
      | false=>simp only [j,cond_false,T0,SR] at a;rw [<-a.1];exact b k i vk l
theorem yA{nt:Nat}{ops:Array Oper}{o:Oper}{a:Act}{g:Option Gs}{v:AV}{us:aH}(ss:SS w (AA c w O) ρ s.t a.tmps)(E:a.tmps.size=nt)(D:n9 ops s)
  (u:∀d,o.dst=some d->d < nt) (C:∀j d,g=some j->o.dst=some d->j.d≠d)
  (w':World) (ρ':Id->Option Value) (O':Id->Option Nat) (x:Value) (J:∀b,AA c w O b->AA c w' O' b/\w'.heap[b]? =w.heap[b]?) (G:∀i v,ρ i=some v->ρ' i=some v)
  (F:match g with
   | none=>al w' (AA c w' O') ρ' v x
   | some j=>(a.tmps.getD j.d undef= .bool j.want/\j.c=true/\al w' (AA c w' O') ρ' v x)\/(a.tmps.getD j.d undef≠ .bool j.want/\j.c=false/\x=undef)):
  SS w' (AA c w' O') ρ' (s.put (dN ops o.dst) o.dst g v us).t (a.put o.dst x).tmps:=by
 have r:=SS.mono J G ss;cases z:o.dst with
 | none=>simp only [St.put,Act.put];exact r
 | some d=>
  have f:d < a.tmps.size:=by rw [E];exact u d z
  intro k;simp only [St.put];by_cases e:k=d
  .subst e;simp only [if_true];cases g with
   | none=>simp only;rw [nu f,if_pos rfl];exact F
   | some j=>have p:j.d≠k:=C j k rfl z;simp only;rw [nu f,nu f,if_neg p,if_pos rfl];exact F
  .simp only [if_neg e];have l:=r k;cases y:dN ops (some d) with
   | false=>
    simp only [cond_false];cases q:s.t k with
    | mk m vk=>
     rw [q] at l;cases m with
     | none=>simp only at l⊢;rw [nu f,if_neg e];exact l
     | some m=>
      have p:m.d≠d:=by intro I;have:=D k m vk q;rw [I,y] at this;cases this
      simp only at l⊢;rw [nu f,nu f,if_neg e,if_neg p];exact l
   | true=>
    simp only [cond_true];cases q:s.t k with
    | mk m vk=>
     rw [q] at l;cases m with
     | none=>simp only [my] at l⊢;rw [nu f,if_neg e];exact l
     | some m=>
      simp only [my];cases B:(m.d==d) with
      | true=>simp [al]
      | false=>
       have p:m.d≠d:=by simpa using B
       simp only [cond_false] at l⊢;rw [nu f,nu f,if_neg e,if_neg p];exact l
theorem SS.rZ{tmps:Array Value}{e:Gs}(hs:SS w A ρ s.t tmps)(l:tmps.getD e.d undef= .bool e.want):SS w A ρ (s.rZ e).t tmps:=by
 intro k;have b:=hs k;simp only [St.rZ];cases f:s.t k with
 | mk i v=>
  rw [f] at b;cases i with
  | none=>simp only [kV,cond_true] at b⊢;exact b
  | some g=>
   by_cases a:kV (some g) (some e)=true
   .simp only [a,cond_true];simp only [kV,S0,beq_iff_eq] at a;simp only at b;rcases b with⟨_,_,j⟩ | ⟨h1,_⟩
    .exact j
    .exfalso;apply h1;rw [a.1,a.2];exact l
   .simp only [Xi] at a;simp only [a,cond_false];exact b
theorem H4{E:Bool}{nt:Nat}{ops:Array Oper}{o:Oper}{a:Act}(hO:jo P An Or)(f:eH c nt w s ρ O a)(m:n9 ops s)(Z:o∈ops)(h:eW P An Or E nt ops o s=some s'):
  n9 ops s'/\∀(K:Act->World->Prop) (Q:Exit->Act->World->Prop),(∀a' w' ρ' O',Le w ρ O w' ρ' O'->eH c nt w' s' ρ' O' a'->K a' w')->
   if Region.wanted o (yielded ops a.tmps) then o.wp P a w K Q\/(o.asks P a w/\LetsOut Q) else K (a.put o.dst undef) w:=by
 unfold eW oW at h;rw [xV] at h;replace h:=SU.1 h;obtain⟨g,hg,h⟩:=h;obtain⟨F,y,X⟩:=NS f.ss hg;have r:∀j,g=some j->dN ops (some j.d)=true:=λj e=>(X j e).resolve_right λhn=>hn o Z rfl;cases l:qq An E o g with
 | none=>
  rw [l] at h;dsimp only at h;rw [qX] at h;replace h:=SU.1 h;obtain⟨⟨v,us⟩,L,h⟩:=h;dsimp only at h;split at h
  .rename_i D;simp only [SR] at h;subst h;simp only [oU,S0] at D;obtain⟨⟨⟨Y,G⟩,u⟩,_⟩:=D;have k:∀d,o.dst=some d->d < nt:=λd e=>by simpa [e] using Y
   have C:∀j d,g=some j->o.dst=some d->j.d≠d:=λj d U V=>by subst U;simp only [V,S0,Ul,beq_eq_false_iff_ne,ne_eq,SR] at G;exact λe=>G.2 e.symm
   refine⟨Cg m r,λK Q J=> ?_⟩;split
   .rename_i p;left;have i:=F p;refine iI.wp (DH hO f.hs f.ss i L u) λx w' ⟨ρ',O',le,M,hv⟩=> ?_;refine J _ w' ρ' O' le ⟨M, ?_,by rw [yz];exact f.nt,by rw [yx];exact f.defers⟩;refine yA f.ss f.nt m k C w' ρ' O' x (λb hb=>le.A b hb) le.eF ?_;cases g with
    | none=>exact hv
    | some j=>exact .inl ⟨i.1,i.2,hv⟩
   .rename_i p;obtain⟨j,rfl,I,q⟩:=y (by simpa using p);have hus:us= []:=by
     simp only [S0,WJ] at G;exact G.1
    subst hus;refine J _ w ρ O Le.refl ⟨f.hs, ?_,by rw [yz];exact f.nt,by rw [yx];exact f.defers⟩;exact yA f.ss f.nt m k C w ρ O undef (λb hb=>⟨hb,rfl⟩) (λ_ _ h=>h) (.inr ⟨I,q,rfl⟩)
  .simp at h
 | some j=>
  rw [l] at h;dsimp only at h;have hg':g=some j:=by
   cases g with
   | none=>simp [qq] at l
   | some g0=>
    simp only [qq] at l;cases hb:(!E && ff An o) with
    | false=>rw [hb] at l;cases l
    | true=>rw [hb] at l;simpa using l
  subst hg';cases B:xt nt o j with
  | false=>rw [B] at h;cases h
  | true=>
   rw [B,cond_true] at h;simp only [xt,S0] at B;have k:∀d,o.dst=some d->d < nt:=λd e=>by simpa [e] using B.1
   have C:∀z d,some j=some z->o.dst=some d->z.d≠d:=λz d U V=>by cases U;have:=B.2;simp only [V,Ul,beq_eq_false_iff_ne,ne_eq,SR] at this;exact λe=>this e.symm
   cases N:j.c with
   | false=>
    rw [N,cond_false] at h;simp only [SR] at h;subst h;refine⟨Cg m r,λK Q J=> ?_⟩;split
    .rename_i p;have:=(F p).2;rw [N] at this;cases this
    .rename_i p;obtain⟨z,e,I,q⟩:=y (by simpa using p);cases e;refine J _ w ρ O Le.refl ⟨f.hs, ?_,by rw [yz];exact f.nt,by rw [yx];exact f.defers⟩;exact yA f.ss f.nt m k C w ρ O undef (λb hb=>⟨hb,rfl⟩) (λ_ _ h=>h) (.inr ⟨I,q,rfl⟩)
   | true=>
    rw [N,cond_true,qX] at h;replace h:=SU.1 h;obtain⟨⟨v,us⟩,L,h⟩:=h;dsimp only at h;split at h
    .rename_i D;simp only [SR] at h;subst h;simp only [oU,S0] at D;obtain⟨⟨⟨_,_⟩,u⟩,_⟩:=D;refine⟨Cg m r,λK Q J=> ?_⟩;split
     .rename_i p;left;have i:=F p;refine iI.wp (DH (s:=s.rZ j) (g:=none) hO f.hs (f.ss.rZ i.1) trivial L u) λx w' ⟨ρ',O',le,M,hv⟩=> ?_;refine J _ w' ρ' O' le ⟨M, ?_,by rw [yz];exact f.nt,by rw [yx];exact f.defers⟩;exact yA f.ss f.nt m k C w' ρ' O' x (λb hb=>le.A b hb) le.eF (.inl ⟨i.1,i.2,hv⟩)
     .rename_i p;obtain⟨z,e,I,q⟩:=y (by simpa using p);cases e;rw [N] at q;cases q
    .simp at h
theorem eH.clear{nt:Nat}{a:Act}(b:eH c nt w s ρ O a):eH c nt w s.clear ρ O a:=by
 refine⟨b.hs,λk=> ?_,b.nt,b.defers⟩;have:=b.ss k;simp only [St.clear];cases d:s.t k with
 | mk e vk=>
  rw [d] at this;cases e with
  | none=>exact this
  | some g=>simp [al]
def nY(s:St):Prop:= ∀k g v,s.t k≠(some g,v)
theorem K4(s:St):nY s.clear:=by intro k g v h;simp only [St.clear] at h;split at h <;> simp at h
theorem nY.GM(h:nY s)(ops:Array Oper):n9 ops s:=λk g v e=>(h k g v e).elim
theorem IG{g:Bool}{nt:Nat}{ops:Array Oper}(y:jo P An Or){Q:Exit->Act->World->Prop}:∀{l:List Oper} {k:Nat} {w:World} {s:St} {ρ:Id->Option Value} {O:Id->Option Nat} {a:Act},
  (∀j,l[j]? =ops[k+j]?)->eH c nt w s ρ O a->n9 ops s->jc P An Or g nt ops l s=some s'->
  (∀f w' ρ' O',Le w ρ O w' ρ' O'->eH c nt w' s' ρ' O' f->Q .normal f w')->wpOps P ops Q (List.range' k l.length) a w
 | [],k,w,s,ρ,O,a,p,b,e,h,i=>by simp only [jc,SR] at h;subst h;exact i a w ρ O Le.refl b
 | o::l,k,w,s,ρ,O,a,p,b,e,h,i=>by
  simp only [jc] at h;obtain⟨s1,h1,h⟩:=SU.1 h;have x:ops[k]? =some o:=by simpa using (p 0).symm
  obtain⟨m,step⟩:=H4 y b e (Tx x) h1;rw [Tr,VQ];simp only [wpOps,x];refine step _ Q λf w' ρ' O' le q=> ?_;exact IG y (λj=>by have:=p (j+1);simpa [VK,WO 1 j] using this) q m h
   (λv B r u z d=>i v B r u (le.trans z) d)
theorem P9{nt id:Nat}{ops:Array Oper}{a:Act}(f:jo P An Or){Q:Exit->Act->World->Prop}(e:eH c nt w s ρ O a)(hb:nY s)(h:jc P An Or false nt ops ops.toList s=some s')
  (g:∀b w' ρ' O',Le w ρ O w' ρ' O'->eH c nt w' s'.clear ρ' O' b->Q .normal b w'):(Code.region id ops false).wp P Q a w:=by
 refine wp_region ?_;rw [Wj,<-Tu];exact IG f (by intro j;simp) e (hb.GM ops) h λb w' ρ' O' le d=>g b w' ρ' O' le d.clear
end
open Go
section
variable {P:Program} {A:cE} {O:aA} {R:Type} {h h':Id->Option aa} {s s':St}
theorem jS{v:AV}{vs:List AV}{i:Id}:i∈bQ (v::vs)↔i∈v.ids\/i∈bQ vs:=by simp [bQ]
theorem sv{v:AV}(a:∀i∈v.ids,h' i=h i):du h' v=du h v:=by
 cases v <;> simp only [du]
 all_goals rw [a _ (by simp [AV.ids])]
theorem xN{v:AV}(a:∀i∈v.ids,h' i=h i):gQ h' v=gQ h v:=by
 cases v <;> simp only [gQ]
 all_goals rw [a _ (by simp [AV.ids])]
theorem Jq:∀{vs:List AV},(∀i∈bQ vs,h' i=h i)->kY h' vs=kY h vs
 | [],_=>rfl
 | v::vs,a=>by simp only [kY];rw [sv λi hi=>a i (jS.2 (.inl hi)),Jq λi hi=>a i (jS.2 (.inr hi))]
theorem Gl:∀{vs:List AV},(∀i∈bQ vs,h' i=h i)->mB h' vs=mB h vs
 | [],_=>rfl
 | v::vs,a=>by simp only [mB];rw [xN λi hi=>a i (jS.2 (.inl hi)),Gl λi hi=>a i (jS.2 (.inr hi))]
theorem Jv{v:AV}(a:∀i∈v.ids,h' i=h i):kX h' v=kX h v:=by
 cases v
 case agg vs=>simp only [kX];exact Jq (by simpa [AV.ids] using a)
 all_goals (simp only [kX];rw [sv a])
theorem Gp{v:AV}(a:∀i∈v.ids,h' i=h i):gG h' v=gG h v:=by
 cases v
 case agg vs=>simp only [gG];exact Gl (by simpa [AV.ids] using a)
 all_goals (simp only [gG];rw [xN a])
theorem DK{fl:Bool}{v:AV}(a:∀i∈v.ids,h' i=h i):jJ fl false h' v=jJ fl false h v:=by
 cases v
 case ref i off=>simp only [jJ,cond_false];rw [a i (by simp [AV.ids]),sv a,xN a]
 all_goals (simp only [jJ];rw [sv a,xN a])
theorem wO{fl:Bool}:∀{vs:List AV},(∀i∈bQ vs,h' i=h i)->mo fl false h' vs=mo fl false h vs
 | [],_=>rfl
 | v::vs,a=>by simp only [mo];rw [DK λi hi=>a i (jS.2 (.inl hi)),wO λi hi=>a i (jS.2 (.inr hi))]
theorem DO{fl:Bool}{v:AV}(d:∀i∈v.ids,h' i=h i):lC fl false h' v=lC fl false h v:=by
 cases v
 case agg vs=>simp only [lC];rw [wO (by simpa [AV.ids] using d)]
 case fn f a b=>simp only [AV.ids,Tm] at d;simp only [lC];rw [wO λi hi=>d i (.inl hi),wO λi hi=>d i (.inr hi)]
 all_goals (simp only [lC];rw [DK d])
theorem DQ{fl:Bool}:∀{vs:List AV},(∀i∈bQ vs,h' i=h i)->lD fl false h' vs=lD fl false h vs
 | [],_=>rfl
 | v::vs,a=>by simp only [lD];rw [DO λi hi=>a i (jS.2 (.inl hi)),DQ λi hi=>a i (jS.2 (.inr hi))]
theorem tU:∀{a b:List AV} {i:Id},i∈bQ (a++b)↔i∈bQ a\/i∈bQ b
 | [],b,i=>by simp [bQ]
 | v::a,b,i=>by rw [S7,jS,jS,tU,or_assoc]
theorem Bp:∀{vs:List AV} {i:Id},i∈bQ vs->∃v∈vs,i∈v.ids
 | v::vs,i,hi=>by
  rcases jS.1 hi with hi | hi
  .exact⟨v,SW,hi⟩
  .obtain⟨u,h1,a⟩:=Bp hi;exact⟨u,SY _ h1,a⟩
 | [],i,hi=>by simp [bQ] at hi
theorem Ag{d:Nat}{c:Option Bool}{f:FuncId}{args:List AV}{K:AV->aH->Option R}(a:s'.h=s.h\/(A.iu f=none/\A.deep f=false/\∀i∈bQ args,s'.h i=s.h i)):gD P A O s' d c f args K=gD P A O s d c f args K:=by
 unfold gD;rcases a with a | ⟨hb,b,a⟩
 .rw [a]
 .have e:∀fl,lD fl false s'.h args=lD fl false s.h args:=λfl=>DQ a;simp only [hb,b,e]
theorem Cx{c:Option Bool}{i:Id}{n:Nat}{K:Nat->Bool->List (List T)->Option R}(a:h' i=h i):lZ h' c i n K=lZ h c i n K:=by unfold lZ;rw [a]
theorem KU{hI:Bool}{d:Nat}{c:Option Bool}{f:FuncId}{args:List AV}{K:AV->aH->Option R}(a:s'.h=s.h\/(hI=false/\A.iu f=none/\A.deep f=false/\∀i∈bQ args,s'.h i=s.h i)):jr hI P A O s' d c f args K=jr hI P A O s d c f args K:=by
 rcases a with a | ⟨rfl,a⟩
 .unfold jr;rw [a];cases cond hI (nN args) none with
  | none=>exact Ag (.inl a)
  | some q=>obtain⟨b,i,n,e⟩:=q;dsimp only;split <;> rfl
 .exact Ag (.inr a)
theorem Oi{c:Option Bool}{t:TypeId}{a:AV}{K:AV->Option R}(b:∀i∈a.ids,s'.h i=s.h i):jV P s' c t a K=jV P s c t a K:=by unfold jV;cases a <;> (try rfl) <;> (simp only [];first | rw [Cx (b _ (by simp [AV.ids]))] | rw [b _ (by simp [AV.ids])])
theorem Rq{t:TypeId}{a v:AV}{K:aH->Option R}(b:∀i∈a.ids,s'.h i=s.h i)(hv:∀i∈v.ids,s'.h i=s.h i):jh P s' t a v K=jh P s t a v K:=by
 unfold jh;cases a <;> (try rfl) <;> (simp only [];rw [b _ (by simp [AV.ids])];try rw [Jv hv,Gp hv]);cases v
 case own j=>simp only [hv j (by simp [AV.ids])]
 all_goals rfl
theorem NW{c:Option Bool}{t:TypeId}{x:AV}{i:Int}{K:AV->Option R}(a:∀i∈x.ids,s'.h i=s.h i):jy P s' c t x i K=jy P s c t x i K:=by
 unfold jy;cases x
 case row i n=>simp only [Cx (a i (by simp [AV.ids]))]
 all_goals first | rfl | (simp only [];rw [a _ (by simp [AV.ids])])
theorem Oc{c:Option Bool}{t:TypeId}{x:AV}{K:AV->Option R}(a:∀i∈x.ids,s'.h i=s.h i):ny P s' c t x K=ny P s c t x K:=by
 unfold ny;cases x
 case row i n=>simp only [Cx (a i (by simp [AV.ids]))]
 all_goals first | rfl | (simp only [];rw [a _ (by simp [AV.ids])])
theorem Q9{c:Option Bool}{t:TypeId}{x:AV}{a hi b:Option Int}{K:AV->Option R}(d:∀i∈x.ids,s'.h i=s.h i):nR P s' c t x a hi b K=nR P s c t x a hi b K:=by unfold nR;cases x <;> (try rfl) <;> (simp only [];rw [d _ (by simp [AV.ids])])
theorem GP{t:TypeId}{x:AV}(a:∀i∈x.ids,s'.h i=s.h i):jz P s' t x=jz P s t x:=by
 unfold jz;cases x
 case own i=>simp only [a i (by simp [AV.ids])]
 case t z=>cases z <;> rfl
 all_goals rfl
theorem Ks{t:TypeId}{sz:Nat}{a:List T}{y:AV}{K:List (List T)->Option R}(b:∀i∈y.ids,s'.h i=s.h i):mn P s' t sz a y K=mn P s t sz a y K:=by unfold mn;rw [sv b]
theorem Km{d:Nat}{t ty:TypeId}{x y:AV}{K:AV->aH->Option R}(a:∀i∈x.ids,s'.h i=s.h i)(hy:∀i∈y.ids,s'.h i=s.h i):kF P s' d false t ty x y K=kF P s d false t ty x y K:=by
 unfold kF;simp only [cond_false];cases x <;> simp only [Ks hy]
 case own i=>rw [a i (by simp [AV.ids])]
 case part i sz off n=>rw [a i (by simp [AV.ids])]
 all_goals rfl
theorem Ot{c:Option Bool}{t:TypeId}{x k:AV}{ok:Bool}{K:AV->Option R}(a:∀i∈x.ids,s'.h i=s.h i):nB P s' c t x k ok K=nB P s c t x k ok K:=by unfold nB;cases x <;> (try rfl) <;> (simp only [];rw [a _ (by simp [AV.ids])])
theorem PO{t:TypeId}{x k v:AV}{K:aH->Option R}(a:∀i∈x.ids,s'.h i=s.h i):nJ P s' t x k v K=nJ P s t x k v K:=by unfold nJ;cases x <;> (try rfl) <;> (simp only [];rw [a _ (by simp [AV.ids])])
theorem Ll{t:TypeId}{x k:AV}{K:aH->Option R}(a:∀i∈x.ids,s'.h i=s.h i):m6 P s' t x k K=m6 P s t x k K:=by unfold m6;cases x <;> (try rfl) <;> (simp only [];rw [a _ (by simp [AV.ids])])
theorem Fv{e:TypeId}{ev:Operand->AV}:∀{a:List (Nat×Operand)} {n:Nat},(∀x∈a.map (·.2),∀i∈(ev x).ids,h' i=h i)->iA P h' e ev n a=iA P h e ev n a
 | [],n,_=>rfl
 | (k,o)::a,n,b=>by simp only [iA];rw [Jv (b o (by simp)),Gp (b o (by simp)),Fv λx d=>b x (by simp only [TQ];exact SY _ d)]
theorem Fw{e:TypeId}{ev b:Operand->AV}:∀{a:List (Nat×Operand)} {n:Nat},(∀x∈a.map (·.2),b x=ev x)->iA P h e b n a=iA P h e ev n a
 | [],n,_=>rfl
 | (k,o)::a,n,d=>by simp only [iA];rw [d o (by simp),Fw λx f=>d x (by simp only [TQ];exact SY _ f)]
theorem If{t:TypeId}{ev b:Operand->AV}:∀{a:List (Nat×Operand)},(∀x∈a.map (·.2),b x=ev x)->oY P t b a=oY P t ev a
 | [],_=>rfl
 | (k,o)::a,d=>by simp only [oY];rw [d o (by simp),If λx e=>d x (by simp only [TQ];exact SY _ e)]
theorem rK{g:Option Gs}{x:Operand}(a:∀k,x= .tmp k->s'.t k=s.t k):s'.get g x=s.get g x:=by
 cases x with
 | tmp k=>show(cond (kV (s'.t k).1 g) (s'.t k).2 AV.top)=cond (kV (s.t k).1 g) (s.t k).2 AV.top;rw [a k rfl]
 | _=>rfl
theorem Gy{g:Option Gs}{b x:Operand}{w:Bool}(a:∀k,x= .tmp k->s'.t k=s.t k):s'.mC g b w x=s.mC g b w x:=by
 unfold St.mC;split
 .rw [a _ rfl]
 .exact rK a
set_option maxHeartbeats 1000000 in
theorem lB{g:Option Gs}{o:Oper}(F:∀x∈o.op.operands,∀k,x= .tmp k->s'.t k=s.t k)(J:fY P o=true\/iX o=true\/s'.h=s.h\/(ff A o=false/\eU A o=false/\∀x∈o.op.operands,∀i∈(s.get g x).ids,s'.h i=s.h i)):
  dh P A O g o s'=dh P A O g o s:=by
 have eg:∀x∈o.op.operands,s'.get g x=s.get g x:=λx l=>rK (F x l);have j:fY P o=true\/iX o=true\/∀x∈o.op.operands,∀i∈(s.get g x).ids,s'.h i=s.h i:=by
  rcases J with h | h | h | h
  .exact .inl h
  .exact .inr (.inl h)
  .exact .inr (.inr λ_ _ i _=>by rw [h])
  .exact .inr (.inr h.2.2)
 have hw:∀p,o.op= .call p->∀f,p.callee= .value f->fY P o=false:=by intro p h1 f h2;simp [fY,h1,h2]
 have X:∀p,o.op= .call p->iX o=false:=by intro p h1;simp [iX,h1]
 have L:fY P o=true\/iX o=true\/s'.h=s.h\/(ff A o=false/\eU A o=false):=J.imp id (Or.imp id (Or.imp id λh=>⟨h.1,h.2.1⟩));unfold dh jq;cases q:o.op <;> rw [q] at F eg j <;> simp only [fY,iX,q,Tv,false_or] at j <;> dsimp only <;> simp only [Op.operands] at F eg j
 case pick a b x=>rw [eg a (by simp),Gy (F b (by simp)),Gy (F x (by simp))]
 case build t U=>unfold wT;rw [If (ev:=s.get g) (by simpa using eg)]
 case buildSlice t n U=>
  have B:∀e,iA P s'.h e (s'.get g) 0 U.toList=iA P s.h e (s.get g) 0 U.toList:=λe=>by rw [Fw (ev:=s.get g) (by simpa using eg),Fv (by simpa using j)]
  simp only [B];congr 1;funext e;split
  .split
   .rename_i x _ Z;rw [eg x (by simp [Z])]
   .rfl
  .rfl
 case load t x=>rw [eg x (by simp),Oi (j x (by simp))]
 case store t x y=>rw [eg x (by simp),eg y (by simp),Rq (j x (by simp)) (j y (by simp))]
 case binOp op t x y ty=>
  rw [eg x (by simp),eg y (by simp)];rcases j with j | j
  .simp only [Ul,WM] at j;rw [j.1,j.2];cases op <;> rfl
  .rw [GP (j x (by simp)),GP (j y (by simp))]
 case convert src dst x=>rw [eg x (by simp),sv (j x (by simp))]
 case makeFunc fn G E=>
  cases fn <;> try rfl
  have B:G.toList.map (s'.get g)=G.toList.map (s.get g):=UQ λx l=>eg x (by simp at l⊢;exact .inl l);have e2:E.toList.map (s'.get g)=E.toList.map (s.get g):=UQ λx l=>eg x (by simp at l⊢;exact .inr l);simp only [B,e2]
 case slice t x N hi Q=>
  have eb:∀(o:Option Operand) (c:Option Bool) (K:Option Int->Option (AV×aH)),(∀y,o=some y->y∈#[x] ++N.toArray++hi.toArray++Q.toArray)->iP s' c g o K=iP s c g o K:=by
   intro o c K hm;unfold iP;cases o with
   | none=>rfl
   | some y=>simp only [eg y (hm y rfl)]
  have l:x∈#[x] ++N.toArray++hi.toArray++Q.toArray:=by simp
  rw [eg x l];simp only [Q9 (j x l)];rw [eb N _ _ (by intro y e;subst e;simp)];congr 1;funext lo';rw [eb hi _ _ (by intro y e;subst e;simp)];congr 1;funext hi';rw [eb Q _ _ (by intro y e;subst e;simp)]
 case indexAddr t x i=>rw [eg x (by simp),eg i (by simp)];simp only [NW (j x (by simp))]
 case call p=>
  simp only [Call.operands] at eg j;split
  .rename_i m;split
   .rename_i x t ts l _;have hm:x∈(match p.callee with | .value f=> #[f] | .invoke r _=> #[r] | .builtin _=> #[])++p.args:=by
     simp [<-Array.mem_toList_iff,l]
    rw [eg x hm];rcases j with j | j
    .simp [m] at j
    .exact Oc (j x hm)
   .rfl
  .rename_i m;split
   .rename_i x y t u _ l _;have hm:∀z,(z=x\/z=y)->z∈(match p.callee with | .value f=> #[f] | .invoke r _=> #[r] | .builtin _=> #[])++p.args:=by
     intro z hz;simp [<-Array.mem_toList_iff,l,hz]
    rw [eg x (hm x (.inl rfl)),eg y (hm y (.inr rfl))];rcases j with j | j
    .simp [m] at j
    .cases hn:(A.nH o.dst o.type==3) with
     | false=>exact Km (j x (hm x (.inl rfl))) (j y (hm y (.inr rfl)))
     | true=>
      rcases L with h | h | h | h
      .simp [fY,q,m] at h
      .simp [iX,q] at h
      .have:∀(d:Nat) (b:Bool) (t ty:TypeId) (x y:AV) (K:AV->aH->Option (AV×aH)),kF P s' d b t ty x y K=kF P s d b t ty x y K:=λd b t ty x y K=>by
        unfold kF pD mn;rw [h]
       exact this _ _ _ _ _ _ _
      .have:=h.2;simp [eU,q,m,hn] at this
   .rfl
  .have B:p.args.toList.map (s'.get g)=p.args.toList.map (s.get g):=UQ λx l=>eg x (by simp at l⊢;exact .inr l);rw [B]
  .have B:p.args.toList.map (s'.get g)=p.args.toList.map (s.get g):=UQ λx l=>eg x (by simp at l⊢;exact .inr l);rw [B]
  .rename_i m;split
   .rename_i x y t ts _ l _;have hm:∀z,(z=x\/z=y)->z∈(match p.callee with | .value f=> #[f] | .invoke r _=> #[r] | .builtin _=> #[])++p.args:=by
     intro z hz;simp [<-Array.mem_toList_iff,l,hz]
    rw [eg x (hm x (.inl rfl)),eg y (hm y (.inr rfl))];rcases j with j | j
    .simp [m] at j
    .exact Ll (j x (hm x (.inl rfl)))
   .rfl
  .rename_i m;split
   .rename_i x t ts l _;have hm:x∈(match p.callee with | .value f=> #[f] | .invoke r _=> #[r] | .builtin _=> #[])++p.args:=by
     simp [<-Array.mem_toList_iff,l]
    rw [eg x hm]
   .rfl
  .rename_i D m;have B:p.args.toList.map (s'.get g)=p.args.toList.map (s.get g):=UQ λx l=>eg x (by simp at l⊢;exact .inr l);have I:D∈(match p.callee with | .value f=> #[f] | .invoke r _=> #[r] | .builtin _=> #[])++p.args:=by simp [m]
   rw [B,eg D I];rcases j with j | j
   .simp [m] at j
   .cases hv:s.get g D <;> try rfl
    rename_i f a b;have C:=j D I;rw [hv] at C;simp only [AV.ids,Tm] at C;refine KU ?_;have M:∀i∈bQ (a++p.args.toList.map (s.get g)++b),s'.h i=s.h i:=by
     intro i hi;rcases tU.1 hi with hi | hi
     .rcases tU.1 hi with hi | hi
      .exact C i (.inl hi)
      .obtain⟨v,hv,hi⟩:=Bp hi;obtain⟨x,l,rfl⟩:=Tw.1 hv;exact j x (by simp at l⊢;exact .inr l) i hi
     .exact C i (.inr hi)
    rcases L with h | h | h | h
    .rw [hw p q D m] at h;cases h
    .rw [X p q] at h;cases h
    .exact .inl h
    .obtain⟨h,Y⟩:=h;simp only [ff,q,m] at h;simp only [eU,q,m] at Y;cases D with
     | func V=>
      simp only [St.get] at hv;obtain⟨rfl,_,_⟩:V=f/\_/\_:=by simpa using hv
      cases hb:A.iu V with
      | some x=>dsimp only at h;rw [hb] at h;simp at h
      | none=>exact .inr ⟨rfl,rfl,Y,M⟩
     | _=>simp at h
  .rfl
 case move x=>rw [eg x (by simp)]
 case assign x=>rw [eg x (by simp)]
 case box t x=>rw [eg x (by simp)]
 case nilCheck x=>rw [eg x (by simp)]
 case unOp op t x=>rw [eg x (by simp)]
 case makeSlice t x y=>rw [eg x (by simp),eg y (by simp)]
 case lookup t x k ok=>rw [eg x (by simp),eg k (by simp),Ot (j x (by simp))]
 case mapUpdate t x k v=>rw [eg x (by simp),eg k (by simp),eg v (by simp),PO (j x (by simp))]
 case fieldAddr t x f=>rw [eg x (by simp)]
 case field t x f=>rw [eg x (by simp)]
 case index t x i=>rw [eg x (by simp),eg i (by simp)]
 case extract x k=>rw [eg x (by simp)]
theorem Kx{ft:List Id}{b:Bool}{v:AV}(a:∀i∈v.ids,h' i=h i):tu h' ft b v=tu h ft b v:=by unfold tu;rw [DO a]
theorem DM{ft:List Id}:∀{fl:List Bool} {vs:List AV},(∀i∈bQ vs,h' i=h i)->mq h' ft fl vs=mq h ft fl vs
 | _,[],_=>by simp [mq]
 | fl,v::vs,a=>by simp only [mq];rw [Kx λi hi=>a i (jS.2 (.inl hi)),DM λi hi=>a i (jS.2 (.inr hi))]
theorem y9{N:Id->Prop}:∀{us:aH} {h h':Id->Option aa},(∀i,¬N i->h' i=h i)->∀i,¬N i->aK h' us i=aK h us i
 | [],_,_,a,i,hi=>a i hi
 | (j,b)::us,h,h',a,i,hi=>by
  rw [cY,cY];refine y9 (N:=N) (λk d=> ?_) i hi;by_cases e:k=j
  .subst e;rw [aD,aD]
  .rw [ar _ _ e,ar _ _ e];exact a k d
theorem PB{N:Id->Prop}{new i:Id}{k sz:Nat}{us:aH}(a:∀i,¬N i->h' i=h i)(hi:¬N i)(d:¬N new)(l:∀p∈us,¬N p.1)(e:oX h new i k sz=some us):oX h' new i k sz=some us:=by
 unfold oX at e⊢;cases hb:Nat.ble 100000 sz with
 | true=>rw [hb,cond_true] at e;rw [cond_true];unfold sc at e⊢;rw [a i hi,a new d];exact e
 | false=>
 rw [hb,cond_false] at e;rw [cond_false];rw [a i hi,a new d];split at e
 .rename_i cs hi
  try simp only [hi]
  split at e
  .exact e
  .exact e
  .exact e
  .rename_i j r n u;split at e
   .rename_i q b xs o;split at e
    .rename_i m;have f:¬N j:=by
      cases g:(h new).isNone with
      | false=>rw [g] at e;simp at e
      | true=>rw [g] at e;simp only [cond_true,SR] at e;subst e;exact l (j,_) SW
     rw [a j f,o];simp only [if_pos m];exact e
    .cases e
   .cases e
  .cases e
 .cases e
theorem Ik{N:Id->Prop}{f:Nat}(a:∀k,¬N (.s f k)):∀{l:List (Id×Nat×Nat)} {j:Nat} {h h':Id->Option aa} {us:aH},(∀i,¬N i->h' i=h i)->(∀q∈l,¬N q.1)->(∀p∈us,¬N p.1)->jZ f j h l=some us->jZ f j h' l=some us
 | [],_,_,_,_,_,_,_,e=>e
 | (i,k,sz)::l,j,h,h',us,g,m,b,e=>by simp only [jZ] at e⊢;obtain⟨v,o,e⟩:=SU.1 e;obtain⟨u2,r,e⟩:=SU.1 e;simp only [SR] at e;subst e;rw [PB g (m (i,k,sz) SW) (a j) (λp d=>b p (Tf _ d)) o];simp only [S9];rw [Ik a (y9 g) (λq u=>m q (SY _ u)) (λp d=>b p (Te _ d)) r];rfl
theorem uE:∀{n:Nat} {todo a seen:List Id},eY h n todo a=some seen->(∀i∈seen,h' i=h i)->eY h' n todo a=some seen
 | 0,todo,a,seen,e,_=>by simp [eY] at e
 | n+1,[],a,seen,e,_=>e
 | n+1,i::todo,a,seen,e,hs=>by
  simp only [eY] at e⊢;cases b:a.contains i with
  | true=>rw [b,cond_true] at e;rw [cond_true];exact uE e hs
  | false=>
   rw [b,cond_false] at e;rw [cond_false];have hm:i∈seen:=by
    have:a++ [i] <+:seen:=by
     split at e
     .exact o4 e
     .exact o4 e
     .exact o4 e
     .cases e
    exact this.subset (Te _ (Tc.2 rfl))
   rw [hs i hm];split at e
   .exact uE e hs
   .exact uE e hs
   .exact uE e hs
   .cases e
theorem Au:∀{l seen:List Id},∀i∈pH l seen,i∈l
 | [],_,i,hi=>by simp [pH] at hi
 | j::l,seen,i,hi=>by
  simp only [pH] at hi;cases a:seen.contains j with
  | true=>rw [a,cond_true] at hi;exact SY _ (Au i hi)
  | false=>
   rw [a,cond_false] at hi;rcases Tg.1 hi with rfl | hi
   .exact SW
   .exact SY _ (Au i hi)
theorem yC{i:Id}:∀{l:List bO} {k:Nat},∀q∈nL i k l,q.1=i
 | [],_,q,a=>by simp [nL] at a
 | r::l,k,q,a=>by
  cases r with
  | own sz=>
   simp only [nL] at a;rcases Tg.1 a with rfl | a
   .rfl
   .exact yC q a
  | rows sz az rsz=>
   simp only [nL] at a;rcases Tg.1 a with rfl | a
   .rfl
   .exact yC q a
  | _=>simp only [nL] at a;exact yC q a
theorem Cn:∀{d:List Id} {bs:List jG},∀q∈nM d bs,q.1∈d
 | [],bs,q,a=>by cases bs <;> simp [nM] at a
 | i::d,[],q,a=>by simp [nM] at a
 | i::d,b::bs,q,a=>by
  cases b with
  | box l=>
   simp only [nM,Tm] at a;rcases a with a | a
   .rw [yC q a];exact SW
   .exact SY _ (Cn q a)
  | _=>simp only [nM] at a;exact SY _ (Cn q a)
theorem KT{N:Id->Prop}{d:Nat}{c:Option Bool}{f:FuncId}{args:List AV}{v:AV}{us:aH}(E:∀i,¬N i->s'.h i=s.h i)(J:A.deep f=false)(l:∀i∈bQ args,¬N i)(F:∀k,¬N (.s (2000000+d) k))(D:∀p∈us,¬N p.1)
  (e:gD P A O s d c f args (λv u=>some (v,u))=some (v,us)):gD P A O s' d c f args (λv u=>some (v,u))=some (v,us):=by
 cases hb:A.iu f with
 | none=>rw [Ag (.inr ⟨hb,J,λi hi=>E i (l i hi)⟩)];exact e
 | some fl=>
  unfold gD at e⊢;cases C:P.funcs[f]? with
  | none=>rw [C] at e;simp at e
  | some fn=>
   simp only [C,hb] at e⊢;cases c with
   | some b=>simp at e
   | none=>
    simp only at e⊢;rw [DM λi hi=>E i (l i hi)];obtain⟨p,L,e⟩:=SU.1 e;rw [L,S9];obtain⟨a,G,e⟩:=SU.1 e;obtain⟨seen,m,e⟩:=SU.1 e;obtain⟨_,_,I,_,_⟩:=uF m WA (by simp) (by simp);have e0:=e;have g:(∀q∈a,¬N q.1)/\∀i∈seen,¬N i:=by
     cases B:(yo d seen && Nat.beq (gY (seen.map λi=>gT seen (aK (aK s.h p.2) a i)).head?) (gY ((bQ p.1).head?.bind (aK s.h p.2)))) with
     | false=>rw [B] at e;simp at e
     | true=>
      rw [B,cond_true] at e;obtain⟨pt,e,_⟩:=y5 (.inl rfl) e;obtain⟨xs,_,e⟩:=aL e (.inl rfl);rw [show ∀(n:Nat),(dO seen d none 0 (de P A f n fn) xs λvs u j=>fV seen d j seen (gS A f n) (xs.drop (mM (de P A f n fn))) λq=>(some (lY vs,p.2++a++jN seen++u++q):Option (AV×aH)))=
       ((dO seen d none 0 (de P A f n fn) xs λvs u j=>some (vs,u,j)).bind λy=>(fV seen d y.2.2 seen (gS A f n) (xs.drop (mM (de P A f n fn))) some).bind λq=>some (lY y.1,p.2++a++jN seen++y.2.1++q)) from λn=>by
        rw [pG];congr 1;funext vs u j;simp only [S9];rw [xk];rfl] at e
      obtain⟨y,_,e⟩:=SU.1 e;obtain⟨q,_,e⟩:=SU.1 e;simp only [SR,T0] at e;obtain⟨_,rfl⟩:=e;refine⟨λx Q=>D x ?_,λi hi=>D (i, .dead) ?_⟩
      .exact Tf _ (Tf _ (Tf _ (Te _ Q)))
      .exact Tf _ (Tf _ (Te _ (Tw.2 ⟨i,hi,rfl⟩)))
    have o:∀i,¬N i->aK s'.h p.2 i=aK s.h p.2 i:=y9 E;have z:∀i,¬N i->aK (aK s'.h p.2) a i=aK (aK s.h p.2) a i:=y9 o;have r:(bQ p.1).head?.bind (aK s'.h p.2)= (bQ p.1).head?.bind (aK s.h p.2):=by
     cases K:(bQ p.1).head? with
     | none=>rfl
     | some i=>exact o i (g.2 i (I i (List.mem_of_mem_head? (by rw [K];rfl))))
    rw [r];rw [Ik F o (λq M=>g.2 q.1 (I q.1 (Au q.1 (Cn q M)))) g.1 G,S9];rw [uE m λi hi=>z i (g.2 i hi),S9];have hm:(seen.map λi=>gT seen (aK (aK s'.h p.2) a i))=seen.map λi=>gT seen (aK (aK s.h p.2) a i):=UQ λi hi=>by rw [z i (g.2 i hi)]
    rw [hm];exact e0
theorem wN{N:Id->Prop}{g:Option Gs}{o:Oper}{v:AV}{us:aH}(G:∀x∈o.op.operands,∀k,x= .tmp k->s'.t k=s.t k)(F:∀i,¬N i->s'.h i=s.h i)(y:eU A o=false)(j:∀x∈o.op.operands,∀i∈(s.get g x).ids,¬N i)
  (D:∀k,¬N (.s (2000000+o.dst.getD 0) k)) (I:∀p∈us,¬N p.1) (e:dh P A O g o s=some (v,us)):dh P A O g o s'=some (v,us):=by
 cases hr:ff A o with
 | false=>rw [lB (s:=s) G (.inr (.inr (.inr ⟨hr,y,λx m i hi=>F i (j x m i hi)⟩)))];exact e
 | true=>
  have eg:∀x∈o.op.operands,s'.get g x=s.get g x:=λx m=>rK (G x m);cases u:o.op <;> simp only [ff,u,Tv] at hr;rename_i z;cases d:z.callee <;> simp only [d,Tv] at hr;rename_i q;unfold dh jq at e⊢;rw [u] at e j eg⊢;simp only [Op.operands,Call.operands] at j eg;simp only [d] at e⊢;have J:z.args.toList.map (s'.get g)=z.args.toList.map (s.get g):=UQ λx m=>eg x (by simp at m⊢;exact .inr m);have C:q∈(match z.callee with | .value f=> #[f] | .invoke r _=> #[r] | .builtin _=> #[])++z.args:=by simp [d]
  rw [J,eg q C];cases hv:s.get g q <;> rw [hv] at e <;> simp only [reduceCtorEq] at e;rename_i f a b;have l:=j q C;rw [hv] at l;simp only [AV.ids,Tm] at l;have B:A.deep f=false:=by
   simp only [eU,u,d] at y;cases q with
   | func E=>
    simp only [St.get] at hv;obtain⟨rfl,_,_⟩:E=f/\_/\_:=by simpa using hv
    exact y
   | _=>simp at y
  have K:Ha q=false:=by
   simp only [eU,u,d] at y;cases q with
   | func E=>rfl
   | _=>simp at y
  dsimp only at e⊢;rw [K,KV] at e⊢;refine KT F B ?_ D I e;intro i hi;rcases tU.1 hi with hi | hi
  .rcases tU.1 hi with hi | hi
   .exact l i (.inl hi)
   .obtain⟨v,hv,hi⟩:=Bp hi;obtain⟨x,m,rfl⟩:=Tw.1 hv;exact j x (by simp at m⊢;exact .inr m) i hi
  .exact l i (.inr hi)
end
open Go
section
variable {P:Program} {An:cE} {Or:aA} {w w':World} {A A':Nat->Prop} {c:Ctx} {ρ:Id->Option Value} {O:Id->Option Nat} {s s' s1 s2:St} {h:Id->Option aa} {ops:Array Oper} {nt:Nat}
structure th (P:Program) (An:cE) (Or:aA) (nt:Nat) (ops:Array Oper) (o:Oper) (s:St) (g:Option Gs) (v:AV) (us:aH):Prop where
 guard:dr ops o s some=some g
 op:dh P An Or g o s=some (v,us)
 ok:oU P An true nt ops o g s us=true
theorem Jy{o:Oper}{g:Option Gs}:qq An true o g=none:=by cases g <;> rfl
theorem B3{o:Oper}(e:eW P An Or true nt ops o s=some s'):∃g v us,th P An Or nt ops o s g v us/\s'=s.put (dN ops o.dst) o.dst g v us:=by
 unfold eW oW at e;rw [xV] at e;replace e:=SU.1 e;obtain⟨g,d,e⟩:=e;rw [Jy] at e;dsimp only at e;rw [qX] at e;replace e:=SU.1 e;obtain⟨⟨v,us⟩,b,e⟩:=e;dsimp only at e;split at e
 .rename_i a;simp only [SR] at e;exact⟨g,v,us,⟨d,b,a⟩,e.symm⟩
 .simp at e
theorem th.eW{o:Oper}{g:Option Gs}{v:AV}{us:aH}(a:th P An Or nt ops o s g v us):eW P An Or true nt ops o s=some (s.put (dN ops o.dst) o.dst g v us):=by unfold Aev.eW oW;rw [xV,a.guard,S9,Jy];dsimp only;rw [qX,a.op,S9];dsimp only;rw [if_pos a.ok]
def qJ(ops:Array Oper)(a:Array Bool)(s:St):Prop:= ∀k g v,s.t k= (some g,v)->∃i o,ops[i]? =some o/\a.getD i false=true/\o.dst=some g.d
theorem pJ{d:Nat}{o:Oper}(a:o.dst=some d):∀(l:List Oper),o∈l->d∈gE l:=by
 intro l;induction l with
 | nil=>intro hm;cases hm
 | cons x l b=>
  intro hm;simp only [gE];rcases Tg.1 hm with rfl | hm
  .rw [a];exact SW
  .have:=b hm;split
   .exact SY _ this
   .exact this
theorem EY:∀{l:List Oper},uq (gE l)=true->∀{i j:Nat} {x y:Oper} {d:Nat},l[i]? =some x->l[j]? =some y->x.dst=some d->y.dst=some d->i=j
 | [],_,i,j,x,y,d,hi,_,_,_=>by simp at hi
 | z::l,a,i,j,x,y,d,hi,b,g,hy=>by
  have f:uq (gE l)=true/\∀d,z.dst=some d->d∉gE l:=by
   simp only [gE] at a;cases hz:z.dst with
   | none=>rw [hz] at a;exact⟨a,λd h=>by cases h⟩
   | some e=>
    rw [hz] at a;simp only [uq,S0,Ul] at a;refine⟨a.2,λd h=> ?_⟩;simp only [SR] at h;subst h;intro hm;have:(gE l).contains e=true:=by simpa using hm
    rw [this] at a;cases a.1
  cases i with
  | zero=>
   simp only [U1,SR] at hi;subst hi;cases j with
   | zero=>rfl
   | succ j=>simp only [U3] at b;exact(f.2 d g (pJ hy _ (SX b))).elim
  | succ i=>
   simp only [U3] at hi;cases j with
   | zero=>simp only [U1,SR] at b;subst b;exact(f.2 d hy (pJ g _ (SX hi))).elim
   | succ j=>simp only [U3] at b;rw [EY f.1 hi b g hy]
def qV(ops:Array Oper):Prop:= ∀{i j:Nat} {x y:Oper} {d:Nat},ops[i]? =some x->ops[j]? =some y->x.dst=some d->y.dst=some d->i=j
theorem uY{a:Array Bool}{i:Nat}(h:a.getD i true=false):a.getD i false=true->False:=by
 intro d;rw [UI] at h d;cases e:a[i]? with
 | none=>rw [e] at h;simp at h
 | some b=>rw [e] at h d;simp at h d;rw [h] at d;cases d
theorem Ch{a:Array Bool}{i:Nat}{o:Oper}{g:Option Gs}{v:AV}{us:aH}(y:qV ops)(hi:ops[i]? =some o)(x:a.getD i true=false)(u:qJ ops a s)(b:Bool):
  s.put b o.dst g v us=s.put false o.dst g v us:=by
 unfold St.put;cases r:o.dst with
 | none=>rfl
 | some d=>
  simp only [St.mk.injEq,and_true];funext k;split
  .rfl
  .cases b with
   | false=>rfl
   | true=>
    simp only [cond_true,cond_false];cases p:s.t k with
    | mk f vk=>
     cases f with
     | none=>rfl
     | some f=>
      simp only [my];cases m:(f.d==d) with
      | false=>rfl
      | true=>
       exfalso;obtain⟨j,z,h1,q,l⟩:=u k f vk p;have e:f.d=d:=by simpa using m
       rw [e] at l;have:=y h1 hi l r;subst this;exact uY x q
theorem hY{o:Oper}{k:Nat}(h:(.tmp k:Operand)∈o.op.operands):k∈o.looksAt ops:=by unfold Oper.looksAt;refine Tf _ (Wx.2 ⟨.tmp k,by simpa using h,rfl⟩)
theorem Hi{o:Oper}{j d:Nat}{b:Bool}(h:o.guard=some (j,b))(a:(ops[j]?).bind (·.dst)=some d):d∈o.looksAt ops:=by unfold Oper.looksAt;refine Te _ ?_;rw [h];simp [a]
theorem p9{b:Bool}{o:Oper}{g:Option Gs}{v:AV}{us:aH}{k:Nat}(f:o.dst≠some k):(s.put false o.dst g v us).t k=s.t k:=by
 unfold St.put;cases a:o.dst with
 | none=>rfl
 | some d=>have:k≠d:=λe=>f (by rw [a,e]);simp [if_neg this]
theorem GG{o:Oper}(f:∀j b d,o.guard=some (j,b)->(ops[j]?).bind (·.dst)=some d->s'.t d=s.t d):dr ops o s' some=dr ops o s some:=by
 unfold dr;cases e:o.guard with
 | none=>rfl
 | some p=>
  obtain⟨j,b⟩:=p;simp only;cases a:(ops[j]?).bind (·.dst) with
  | none=>rfl
  | some d=>simp only [f j b d e a]
theorem za:∀{us:aH} {h:Id->Option aa} {i:Id},aK h us i=none->(∀q∈us,q.1≠i)/\h i=none
 | [],h,i,e=>⟨by simp,e⟩
 | (j,x)::us,h,i,e=>by
  rw [cY] at e;obtain⟨f,b⟩:=za e;by_cases a:i=j
  .subst a;rw [aD] at b;cases b
  .rw [ar _ _ a] at b;refine⟨λq d=> ?_,b⟩;rcases Tg.1 d with rfl | d
   .exact λe=>a e.symm
   .exact f q d
theorem HI{o:Oper}{g:Option Gs}(a:∀x∈o.op.operands,s'.get g x=s.get g x):oP ops g o s'=oP ops g o s:=by
 unfold oP;have key:∀l:List Operand,(∀x∈l,s'.get g x=s.get g x)->(l.all λx=>(s'.get g x).ids.all λi=>match i with
  | .s d _=>re ops o d
  | .c _=>true
  | .g _ _=>false)= (l.all λx=>(s.get g x).ids.all λi=>match i with
  | .s d _=>re ops o d
  | .c _=>true
  | .g _ _=>false):=by
  intro l;induction l with
  | nil=>intro _;rfl
  | cons x l e=>intro h;rw [Uu,Uu,h x SW,e λy hy=>h y (SY _ hy)]
 exact key _ λx b=>a x (by simpa using b)
theorem yg{o:Oper}{g:Option Gs}(j:oP ops g o s=true){x:Operand}(q:x∈o.op.operands){d k:Nat}(hi:Id.s d k∈(s.get g x).ids){i:Nat}{l:Oper}(a:ops[i]? =some l)(m:l.dst=some d):
  ∃e∈o.after,Region.binds .any e=true/\(e.on=i\/gW ops 12 e.on i=true):=by
 unfold oP at j;have h1:=Tk.1 j x (by simpa using q);have b:=Tk.1 h1 _ hi;simp only at b;unfold re at b;have f:=Tk.1 b i (UO.2 (Wo.1 a).1);rw [a] at f;simp only [m,BEq.rfl,Th,Ua] at f;obtain⟨e,p,hb⟩:=VX.1 f;simp only [S0,Uk,beq_iff_eq] at hb;exact⟨e,p,hb.1,hb.2⟩
theorem gh{o:Oper}{us:aH}(a:kR o us=true){i:Id}(hi:∃q∈us,q.1=i):∃d k,i= .s d k/\o.dst=some d:=by
 obtain⟨q,b,rfl⟩:=hi;have:=Tk.1 a q b;split at this
 .rename_i d k e;exact⟨d,k,e,by simpa using this⟩
 .simp at this
 .simp at this
theorem SB{us vs:aH}(a:∀p∈us,∀q∈vs,p.1≠q.1):∀{h:Id->Option aa},aK (aK h us) vs=aK (aK h vs) us:=by
 induction us with
 | nil=>intro h;rfl
 | cons p us g=>intro h;obtain⟨i,b⟩:=p;rw [cY,cY,g (λp d=>a p (SY _ d)),u4 (λq f e=>a (i,b) SW q f e.symm)]
def qC(ops:Array Oper)(a:Array Bool):Prop:= ∀k ok,ops[k]? =some ok->a.getD k false=true->∀e∈ok.after,Region.binds .any e=true->a.getD e.on false=true
theorem z8{a:Array Bool}(f:qC ops a){i:Nat}(hi:a.getD i true=false):∀{n j:Nat} {d:Oper},ops[j]? =some d->(∀e∈d.after,Region.binds .any e=true->a.getD e.on false=true)->gW ops n j i=false
 | 0,j,d,_,_=>rfl
 | n+1,j,d,o,g=>by
  simp only [gW,o];rw [Array.any_eq_false'];intro e m hb;simp only [S0,Uk,beq_iff_eq] at hb;obtain⟨h1,b⟩:=hb;have l:=g e m h1;rcases b with b | ⟨_,b⟩
  .exact uY hi (b▸l)
  .cases k:ops[e.on]? with
   | none=>
    cases n with
    | zero=>simp [gW] at b
    | succ n=>simp [gW,k] at b
   | some ok=>rw [z8 f hi k (f e.on ok k l)] at b;cases b
theorem CQ{a b:Oper}(h:kZ An ops a b=true):∃k d,gu ops a=some k/\gu ops b=some d/\k≠d/\k∉gE ops.toList/\d∉gE ops.toList:=by
 unfold kZ at h;simp only [S0] at h;obtain⟨_,h⟩:=h;split at h
 .rename_i k d h1 e;simp only [S0,Ul,beq_eq_false_iff_ne,ne_eq] at h;obtain⟨⟨f,g⟩,i⟩:=h;exact⟨k,d,h1,e,f,by simpa using g,by simpa using i⟩
 .cases h
theorem Rl{a b:Oper}(h:kZ An ops a b=true):kZ An ops b a=true:=by have d:=h;unfold kZ at d;simp only [S0] at d;obtain⟨k,l,h1,f,g,i,j⟩:=CQ h;unfold kZ;rw [h1,f,d.1];simp only [Uo,S0,Ul,beq_eq_false_iff_ne,ne_eq];exact⟨⟨λe=>g e.symm,by simpa using j⟩,by simpa using i⟩
theorem JC{o a:Oper}{us:aH}{k d:Nat}(h:kk P An ops o s us=true)(hm:a∈ops)(e:kZ An ops o a=true)(l:gu ops o=some k)(b:gu ops a=some d):
  (∀x∈o.op.operands,∀i∈(s.get none x).ids,i∈(s.t k).2.ids)/\(∀p∈us,p.1∈(s.t k).2.ids)/\(∀p∈us,p.1∉(s.t d).2.ids):=by
 have h1:=TO.1 h a hm;simp only [S0] at h1;replace h1:=h1.1.1.1.1;rw [e] at h1;simp only [Th,Ua,CS,l,b,S0,Tk,decide_eq_true_eq] at h1;obtain⟨⟨f,g⟩,j⟩:=h1;exact⟨λx m=>f x (Array.mem_toList_iff.2 m),g,j⟩
theorem tZ{a b:Oper}(h:jU P An ops a b=true):(∃k,kj ops b=some (some k)/\k∉gE ops.toList)\/kj ops b=some none:=by
 unfold jU at h;simp only [S0] at h;obtain⟨_,h⟩:=h;split at h
 .rename_i k d;exact .inl ⟨k,d,by simpa using h⟩
 .rename_i d;exact .inr d
 .cases h
theorem GY{a b:Oper}(h:jU P An ops a b=true):a.guard=none/\fZ P An a=true/\ff An a=false/\eU An a=false:=by
 unfold jU at h;simp only [S0] at h;obtain⟨⟨_,h⟩,_⟩:=h;unfold DI at h;simp only [S0,VN] at h;obtain⟨⟨h1,i⟩,d⟩:=h;refine⟨h1,i, ?_⟩;split at d
 .rename_i j g;split at d
  .rename_i e;simp only [Ul] at d;simp [ff,eU,g,e,d]
  .rename_i f e;simp only [S0,VN,Ul] at d;simp [ff,eU,g,e,d.1,d.2]
  .cases d
 .cases d
theorem Cu{o:Oper}{r:Option Nat}(h:kj ops o=some r):o.guard=none/\fZ P An o=false/\ff An o=false/\eU An o=false:=by
 unfold kj at h;split at h
 .rename_i h1 a;simp [h1,fZ,ff,eU,a]
 .rename_i h1 a;simp [h1,fZ,ff,eU,a]
 .cases h
theorem Qg{o:Oper}{k:Nat}(h:kj ops o=some (some k)):gu ops o=some k:=by
 unfold kj at h;split at h
 .rename_i h1 a;simp only [SR] at h;subst h;simp [gu,h1,a]
 .cases h
 .cases h
theorem pU{o:Oper}{k:Bool}(h:jA P o k=true):∃t a y,o.guard=none/\o.op= .store t (.tmp a) y:=by
 unfold jA at h;split at h
 .rename_i t a y h1 b;exact⟨t,a,y,h1,b⟩
 .cases h
theorem Ru{k off:Nat}{l:List T}{xs a:List (List T)}(h:bT k off l xs=some a):a.length=xs.length:=by
 unfold bT at h;split at h
 .split at h
  .simp only [SR] at h;subst h;simp
  .cases h
 .cases h
theorem GS{t:TypeId}{a v y:AV}{us:aH}(h:jh P s t a v (λu=>some (AV.top,u))=some (y,us))(f:ka us=true):
  ∃i sz k off j rsz X,a= .el i sz k off/\v= .own j/\(∃bb xs,s.h j=some (.sl false rsz bb xs))/\rsz≠1/\us= [(j, .dead),(i,X)]/\∃b d az nx es r es',s.h i=some (.rows b d az rsz nx es)/\X= .rows b d az rsz r es'/\es'.length=es.length:=by
 unfold jh at h;cases q:bL P t with
 | false=>rw [q] at h;cases h
 | true=>
  rw [q,cond_true] at h;split at h
  .split at h
   .split at h
    .simp only [SR,T0] at h;obtain⟨_,rfl⟩:=h;simp [ka] at f
    .cases h
   .cases h
  .rename_i i sz k off;split at h
   .obtain⟨l,_,h⟩:=SU.1 h;split at h
    .replace h:=aL h (.inl rfl);obtain⟨z,_,h⟩:=h;simp only [SR,T0] at h;obtain⟨_,rfl⟩:=h;simp [ka] at f
    .cases h
   .rename_i b d az rsz nx es hi;split at h
    .rename_i j;split at h
     .rename_i g B xs x;split at h
      .rename_i m;have o:=m.2.2.1;subst o;replace h:=aL h (.inl rfl);obtain⟨e,_,h⟩:=h;simp only [SR,T0] at h;obtain⟨_,rfl⟩:=h;refine⟨i,sz,k,off,j,g,_,rfl,rfl,⟨_,_,x⟩, ?_,rfl,b,d,az,nx,es,_,_,hi,by rw [show sz=d from m.1.symm],by simp⟩;simpa [ka] using f
      .cases h
     .cases h
    .cases h
   .cases h
  .split at h
   .replace h:=aL h (.inl rfl);obtain⟨p,_,h⟩:=h;obtain⟨l,_,h⟩:=SU.1 h;split at h
    .replace h:=aL h (.inl rfl);obtain⟨z,_,h⟩:=h;simp only [SR,T0] at h;obtain⟨_,rfl⟩:=h;simp [ka] at f
    .cases h
   .cases h
  .cases h
theorem GU{t:TypeId}{a v y:AV}{us:aH}(h:jh P s t a v (λu=>some (AV.top,u))=some (y,us))(d:kb us=true):
  ∃i sz k off b f,a= .el i sz k off/\(∃xs,s.h i=some (.sl false 1 b xs)/\f.length=xs.length)/\us= [(i, .sl false 1 b f)]:=by
 unfold jh at h;cases m:bL P t with
 | false=>rw [m] at h;cases h
 | true=>
  rw [m,cond_true] at h;split at h
  .split at h
   .split at h
    .simp only [SR,T0] at h;obtain⟨_,rfl⟩:=h;simp [kb] at d
    .cases h
   .cases h
  .rename_i i sz k off;split at h
   .rename_i z b xs hi;obtain⟨l,_,h⟩:=SU.1 h;split at h
    .rename_i x;obtain⟨j,_,_⟩:=x;subst j;replace h:=aL h (.inl rfl);obtain⟨f,o,h⟩:=h;simp only [SR,T0] at h;obtain⟨_,rfl⟩:=h;cases g:gG s.h v with
     | cons q r=>rw [g] at d;simp [kb] at d
     | nil=>rw [g] at d;simp only [kb,beq_iff_eq] at d;subst d;exact⟨_,_,_,_,_,_,rfl,⟨_,hi,Ru o⟩,rfl⟩
    .cases h
   .split at h
    .split at h
     .split at h
      .replace h:=aL h (.inl rfl);obtain⟨e,_,h⟩:=h;simp only [SR,T0] at h;obtain⟨_,rfl⟩:=h;simp [kb] at d
      .cases h
     .cases h
    .cases h
   .cases h
  .split at h
   .replace h:=aL h (.inl rfl);obtain⟨p,_,h⟩:=h;obtain⟨l,_,h⟩:=SU.1 h;split at h
    .replace h:=aL h (.inl rfl);obtain⟨f,_,h⟩:=h;simp only [SR,T0] at h;obtain⟨_,rfl⟩:=h;simp [kb] at d
    .cases h
   .cases h
  .cases h
theorem CT{o:Oper}{t:TypeId}{a:Nat}{y:Operand}{v:AV}{us:aH}(b:o.op= .store t (.tmp a) y)(h:dh P An Or none o s=some (v,us)):jh P s t (s.get none (.tmp a)) (s.get none y) (λu=>some (AV.top,u))=some (v,us):=by unfold dh jq at h;rw [b] at h;exact h
theorem JA{a b:Oper}(z:l7 P An ops a b=true)(Q:a∈ops)(hb:b∈ops){s1 s2:St}{U V:AV}{u v:aH}(N:dh P An Or none a s1=some (U,u))(eb:dh P An Or none b s2=some (V,v))
  (G:kk P An ops a s1 u=true) (I:kk P An ops b s2 v=true) (o:s2.h=aK s1.h u\/s1.h=aK s2.h v):
  (∀p∈u,∀q∈v,p.1≠q.1)/\(∀x∈a.op.operands,∀i∈(s1.get none x).ids,∃p∈u,p.1=i)/\(∀x∈b.op.operands,∀i∈(s2.get none x).ids,∃p∈v,p.1=i):=by
 have h1:=TO.1 G b hb;have l:=TO.1 I a Q;simp only [S0] at h1 l;replace h1:=h1.1.2.1;replace l:=l.1.2.2;rw [z] at h1 l;simp only [Th,Ua,S0] at h1 l;simp only [l7,S0] at z;obtain⟨ta,Y,ya,ga,B⟩:=pU z.1.2;obtain⟨tb,Z,yb,gb,r⟩:=pU z.2;obtain⟨i,sz,k,off,j,rsz,X,J,K,⟨_,_,y⟩,L,rfl,_,_,_,_,_,_,_,C,rfl,_⟩:=GS (CT B N) h1;obtain⟨i',sz',k',off',b',ys',M,⟨_,g,_⟩,rfl⟩:=GU (CT r eb) l.1;have m:=l.2;simp only [z6,r,WJ] at m;have ne:i'≠i/\i'≠j:=by
  rcases o with o | o
  .rw [o,cY,dZ] at g;constructor
   .rintro rfl;rw [aD] at g;cases g
   .intro e;by_cases D:i'=i
    .rw [D,aD] at g;cases g
    .rw [ar _ _ D,e,aD] at g;cases g
  .rw [o,dZ] at C y;constructor
   .rintro rfl;rw [aD] at C;cases C
   .rintro rfl;rw [aD] at y;simp only [SR,aa.sl.injEq] at y;exact L y.2.1.symm
 refine⟨λp E q F e=> ?_,λx f id d=> ?_,λx f id d=> ?_⟩
 .simp only [Tg,Xo,or_false] at E F;subst F;rcases E with rfl | rfl
  .exact ne.2 e.symm
  .exact ne.1 e.symm
 .simp only [B,Op.operands] at f;have f:x= .tmp Y\/x=ya:=by simpa using f
  rcases f with rfl | rfl
  .rw [J] at d;simp only [AV.ids,Tc] at d;subst d;exact⟨_,SY _ (Tc.2 rfl),rfl⟩
  .rw [K] at d;simp only [AV.ids,Tc] at d;subst d;exact⟨_,SW,rfl⟩
 .simp only [r,Op.operands] at f;have f:x= .tmp Z\/x=yb:=by simpa using f
  rcases f with rfl | rfl
  .rw [M] at d;simp only [AV.ids,Tc] at d;subst d;exact⟨_,SW,rfl⟩
  .rw [m] at d;cases d
theorem Bs{o:Oper}(h:xY P o=true):∃a,o.guard=none/\((∃t e n,o.op= .indexAddr t (.tmp a) n/\m9 P t=some e/\P.cellsOf e=1)\/∃t,o.op= .load t (.tmp a)):=by
 unfold xY at h;split at h
 .rename_i t a n h1 b;split at h
  .rename_i e d;exact⟨a,h1, .inl ⟨t,e,n,b,d,by simpa using h⟩⟩
  .cases h
 .rename_i t a h1 b;exact⟨a,h1, .inr ⟨t,b⟩⟩
 .cases h
def pr(h h':Id->Option aa):Prop:= ∀m,h' m=h m\/(∃g sz b xs d f a,h m=some (.sl g sz b xs)/\h' m=some (.sl d sz f a)/\a.length=xs.length)\/
 (∃b sz az rsz nx es e es',h m=some (.rows b sz az rsz nx es)/\h' m=some (.rows b sz az rsz e es')/\es'.length=es.length)\/∃sz b xs,sz≠1/\h m=some (.sl false sz b xs)/\h' m=some .dead
theorem pr.index{t e:TypeId}{m:Id}{n:Int}{K:AV->Option (AV×aH)}{r:AV×aH}(H:pr s.h s'.h)(g:m9 P t=some e)(f:P.cellsOf e=1):jy P s none t (.own m) n K=some r↔jy P s' none t (.own m) n K=some r:=by
 unfold jy;simp only [g];rcases H m with h | ⟨_,_,_,_,_,_,_,h1,a,b⟩ | ⟨_,_,_,_,_,_,_,_,h1,a,b⟩ | ⟨sz,_,_,d,h1,a⟩
 .rw [h]
 .rw [h1,a];simp only [b]
 .rw [h1,a];simp only [b]
 .rw [h1,a];simp only [f,if_neg d,reduceCtorEq]
theorem pr.load{t:TypeId}{m:Id}{off:Nat}{K:AV->Option (AV×aH)}{r:AV×aH}(H:pr s.h s'.h):jV P s none t (.ref m off) K=some r↔jV P s' none t (.ref m off) K=some r:=by
 unfold jV;rcases H m with h | ⟨_,_,_,_,_,_,_,h1,a,b⟩ | ⟨_,_,_,_,_,_,_,_,h1,a,b⟩ | ⟨sz,_,_,d,h1,a⟩
 .simp only [h]
 .simp only [h1,a]
 .simp only [h1,a]
 .simp only [h1,a]
theorem pr.store{t:TypeId}{a v r:AV}{us:aH}(h:jh P s t a v (λu=>some (AV.top,u))=some (r,us))(d:ka us=true\/kb us=true):pr s.h (aK s.h us):=by
 rcases d with d | d
 .obtain⟨i,sz,k,off,j,rsz,X,_,_,⟨_,_,g⟩,l,rfl,_,_,_,_,_,_,_,f,rfl,o⟩:=GS h d;intro m;rw [cY,dZ];by_cases b:m=i
  .subst b;exact .inr (.inr (.inl ⟨_,_,_,_,_,_,_,_,f,aD _ _ _,o⟩))
  .rw [ar _ _ b];by_cases e:m=j
   .subst e;exact .inr (.inr (.inr ⟨_,_,_,l,g,aD _ _ _⟩))
   .rw [ar _ _ e];exact .inl rfl
 .obtain⟨i,_,_,_,_,_,_,⟨_,p,q⟩,rfl⟩:=GU h d;intro m;rw [dZ];by_cases b:m=i
  .subst b;exact .inr (.inl ⟨_,_,_,_,_,_,_,p,aD _ _ _,q⟩)
  .rw [ar _ _ b];exact .inl rfl
theorem JB{a b:Oper}(i:la P An ops a b=true)(C:a∈ops)(hb:b∈ops){s1 s2 u:St}{I:AV}{l:aH}{G:aH}(B:dh P An Or none a s1=some (I,l))(o:kk P An ops a s1 l=true)(p:kk P An ops b u G=true)
  (F:s2.h=aK s1.h l) (g:∀x∈b.op.operands,s2.get none x=s1.get none x) (k:∀x∈b.op.operands,u.get none x=s1.get none x) (r:AV×aH):dh P An Or none b s1=some r↔dh P An Or none b s2=some r:=by
 have h1:=TO.1 o b hb;have f:=TO.1 p a C;simp only [S0] at h1 f;replace h1:=h1.2.1;replace f:=f.2.2;rw [i] at h1 f;simp only [Th,Ua,Uk] at h1 f;simp only [la,S0,Uk] at i;obtain⟨K,L,M,J,q⟩:∃t x y,a.guard=none/\a.op= .store t (.tmp x) y:=by rcases i.1.2 with h | h <;> exact pU h
 have H:=pr.store (CT q B) h1;rw [<-F] at H;obtain⟨j,gb,⟨tb,e,n,d,E,D⟩ | ⟨tb,d⟩⟩:=Bs i.2
 case inr=>
  simp only [uy,d] at f;rw [k (.tmp j) (by simp [d,Op.operands])] at f;split at f
  .rename_i m off hm;unfold dh jq;rw [d];dsimp only;rw [g (.tmp j) (by simp [d,Op.operands]),hm];exact H.load
  .cases f
 simp only [uy,d] at f;rw [k (.tmp j) (by simp [d,Op.operands])] at f;split at f
 .rename_i m hm;unfold dh jq;rw [d];dsimp only;rw [g (.tmp j) (by simp [d,Op.operands]),g n (by simp [d,Op.operands]),hm];unfold oI;cases(s1.get none n).t? with
  | none=>exact WX
  | some y=>
   simp only [S9];cases iP.anyInt y with
   | none=>exact WX
   | some z=>change (jy P s1 none tb (AV.own m) z λv=>some (v,[]))=some r↔(jy P s2 none tb (AV.own m) z λv=>some (v,[]))=some r;exact H.index E D
 .cases f
theorem GZ{a b:Oper}{s1 s2:St}{us:aH}{u2:aH}(j:jU P An ops a b=true)(o:a∈ops)(hb:b∈ops)(l:kk P An ops a s1 us=true)(m:kk P An ops b s2 u2=true)(u:∀k,k∉gE ops.toList->(s1.t k).2= (s2.t k).2):
  ∀x∈b.op.operands,∀i∈(s2.get none x).ids,∀q∈us,q.1≠i:=by
 have h1:=TO.1 l b hb;have d:=TO.1 m a o;simp only [S0] at h1 d;replace h1:=h1.1.1.1.2;replace d:=d.1.1.2;rw [j] at h1 d;simp only [Th,Ua] at h1 d;rcases tZ j with⟨k,f,p⟩ | f
 .simp only [x7,uc,f,Tk,decide_eq_true_eq] at h1 d;intro x g i hi q r e;have:=d x (Array.mem_toList_iff.2 g) i hi;rw [<-u k p,<-e] at this;exact h1 q r this
 .simp only [uc,f,Tk,WJ] at d;intro x g i hi;rw [d x (Array.mem_toList_iff.2 g)] at hi;cases hi
theorem CR{o:Oper}{us:aH}(r:∀k,k∉gE ops.toList->s'.t k=s.t k)(q:∀k,gu ops o=some k\/kj ops o=some none->∀x∈o.op.operands,s'.get none x=s.get none x)(v:o.guard=none->∀x∈o.op.operands,s'.get none x=s.get none x)(h:kk P An ops o s us=true):kk P An ops o s' us=true:=by
 refine TO.2 λm hm=> ?_;have D:=TO.1 h m hm;simp only [S0] at D⊢;obtain⟨⟨⟨⟨h1,p⟩,hb⟩,J,j⟩,E,f⟩:=D;refine⟨⟨⟨⟨?_, ?_⟩, ?_⟩,J, ?_⟩,E, ?_⟩
 .cases g:kZ An ops o m with
  | false=>rfl
  | true=>obtain⟨k,K,b,F,L,G,I⟩:=CQ g;rw [g] at h1;simp only [Th,Ua,CS,b,F,S0,Tk] at h1⊢;rw [r k G,r K I];refine⟨⟨λx i=> ?_,h1.1.2⟩,h1.2⟩;rw [q k (.inl b) x (Array.mem_toList_iff.1 i)];exact h1.1.1 x i
 .cases g:jU P An ops o m with
  | false=>rfl
  | true=>
   rw [g] at p;simp only [Th,Ua] at p⊢;rcases tZ g with⟨k,b,C⟩ | b
   .simp only [x7,b] at p⊢;rw [r k C];exact p
   .simp only [x7,b]
 .cases g:jU P An ops m o with
  | false=>rfl
  | true=>
   rw [g] at hb;simp only [Th,Ua] at hb⊢;rcases tZ g with⟨k,b,C⟩ | b
   .simp only [uc,b,Tk] at hb⊢;rw [r k C];intro x i;rw [q k (.inl (Qg b)) x (Array.mem_toList_iff.1 i)];exact hb x i
   .simp only [uc,b,Tk] at hb⊢;intro x i;rw [q 0 (.inr b) x (Array.mem_toList_iff.1 i)];exact hb x i
 .cases z:l7 P An ops m o with
  | false=>rfl
  | true=>
   rw [z] at j;simp only [Th,Ua,S0] at j⊢;refine⟨j.1, ?_⟩;have u:=j.2;simp only [l7,S0] at z;obtain⟨t,a,y,l,d⟩:=pU z.2;have b:gu ops o=some (sb ops a):=by simp [gu,l,d]
   simp only [z6,d] at u⊢;rw [q _ (.inl b) y (by simp [d,Op.operands])];exact u
 .cases B:la P An ops m o with
  | false=>rfl
  | true=>
   rw [B] at f;simp only [Th,Ua] at f⊢;simp only [la,S0] at B;obtain⟨a,l,⟨t,e,n,d,_,_⟩ | ⟨t,d⟩⟩:=Bs B.2
   .simp only [uy,d] at f⊢;rw [v l (.tmp a) (by simp [d,Op.operands])];exact f
   .simp only [uy,d] at f⊢;rw [v l (.tmp a) (by simp [d,Op.operands])];exact f
theorem Ry{V:Array Bool}{i j:Nat}{l u:Oper}(hu:qV ops)(hgk:rL ops=true)(hi:ops[i]? =some l)(hj:ops[j]? =some u)(hne:j≠i)(hri:i∈Region.ready .any ops V)(hrj:j∈Region.ready .any ops V)
  (hcl:qC ops V) (hap:l.apart ops u=true) (hcm0':rl P An l u=true\/sw P An ops l u=true) (hG:qJ ops V s) (J:eW P An Or true nt ops l s=some s1) (K:eW P An Or true nt ops u s1=some s2):
  ∃sj,eW P An Or true nt ops u s=some sj/\eW P An Or true nt ops l sj=some s2:=by
 obtain⟨G,vi,C,wi,rfl⟩:=B3 J;obtain⟨I,vj,B,wj,rfl⟩:=B3 K;obtain⟨hli,oi',hi',hai⟩:=mem_ready.1 hri;rw [hi] at hi';simp only [SR] at hi';subst hi';obtain⟨hlj,oj',hj',haj⟩:=mem_ready.1 hrj;rw [hj] at hj';simp only [SR] at hj';subst hj';obtain⟨a1,a2,a3⟩:=Oper.apart_spec hap;have behind:∀(o:Oper) (m:Nat),V.getD m true=false->(∀e∈o.after,Region.binds .any e=true->V.getD e.on false=true)->∀e∈o.after,Region.binds .any e=true->¬(e.on=m\/gW ops 12 e.on m=true):=by
  intro o m hlm hall e he hb h;rcases h with h | h
  .exact uY hlm (h▸hall e he hb)
  .have hl:=hall e he hb;cases Z:ops[e.on]? with
   | none=>simp [gW,Z] at h
   | some ok=>rw [z8 hcl hlm Z (hcl e.on ok Z hl)] at h;cases h
 have noti:=behind u i hli haj;have notj:=behind l j hlj hai;have wiok:=wi.ok;have wjok:=wj.ok;simp only [oU,Th,Ua,S0] at wiok wjok;obtain⟨⟨⟨i1,i2⟩,i3⟩,⟨⟨⟨⟨⟨i4,i5⟩,i6⟩,i7⟩,i8⟩,i9⟩,i10⟩:=wiok;obtain⟨⟨⟨j1,j2⟩,j3⟩,⟨⟨⟨⟨⟨j4,j5⟩,j6⟩,j7⟩,j8⟩,j9⟩,j10⟩:=wjok;have pli:=Ch (g:=G) (v:=vi) (us:=C) hu hi hli hG (dN ops l.dst);have tj:∀k,k∈u.looksAt ops->(s.put (dN ops l.dst) l.dst G vi C).t k=s.t k:=by intro k Z;rw [pli];exact p9 (b:=false) λe=>a1 k e Z
 have ti:∀(g:Option Gs) (v:AV) (us:aH) k,k∈l.looksAt ops->(s.put false u.dst g v us).t k=s.t k:=λg v us k Z=>p9 (b:=false) λe=>a3 k e Z;have gj':dr ops u s some=some I:=by rw [<-wj.guard];exact(GG λx b d h1 h2=>tj d (Hi h1 h2)).symm
 have getj:∀x∈u.op.operands,(s.put (dN ops l.dst) l.dst G vi C).get I x=s.get I x:=λx z=>rK λk e=>tj k (hY (e▸z));have nj:oP ops I u s=true:=by rw [<-j4];exact(HI getj).symm
 have a2':∀d,u.dst=some d->l.dst≠some d:=λd h h'=>a2 d h' h;have guardA:∀(o:Oper) (g:Option Gs) (s0:St) (k:Nat),gu ops o=some k->dr ops o s0 some=some g->g=none/\ff An o=false/\eU An o=false:=by
  intro o g s0 k h Q;unfold gu at h;split at h
  .rename_i h1 h2;unfold dr at Q;rw [h1] at Q;simp only [SR] at Q;exact⟨Q.symm,by simp [ff,h2],by simp [eU,h2]⟩
  .rename_i h1 h2;unfold dr at Q;rw [h1] at Q;simp only [SR] at Q;exact⟨Q.symm,by simp [ff,h2],by simp [eU,h2]⟩
  .cases h
 have al_w:∀o:Oper,iX o=true->fZ P An o=false:=by intro o h;cases hop:o.op <;> simp only [iX,hop,Tv] at h <;> simp [fZ,hop]
 have w_r:∀o:Oper,fZ P An o=false->ff An o=false:=by
  intro o h;cases hr:ff An o with
  | false=>rfl
  | true=>
   exfalso;cases hop:o.op <;> simp only [ff,hop,Tv] at hr;rename_i cl;cases hcal:cl.callee <;> simp only [hcal,Tv] at hr;rename_i fo;simp only [fZ,hop,hcal] at h;cases fo with
   | func f=>
    dsimp only at h hr;cases hb:An.iu f with
    | none=>rw [hb] at hr;simp at hr
    | some x=>rw [hb] at h;simp at h
   | _=>simp at h
 have U:∀(o:Oper) (us:aH) (m:Nat) (om:Oper),ops[m]? =some om->(∀e∈o.after,Region.binds .any e=true->¬(e.on=m\/gW ops 12 e.on m=true))->sJ ops o us=true->(∀d,om.dst=some d->o.dst≠some d)->∀q∈us,∀d k,om.dst=some d->q.1≠ .s d k:=by
  intro o us m om hm hnot hok hdst q D d k hd e;have h1:=Tk.1 hok q D;rw [e] at h1;simp only [Uk] at h1;rcases h1 with h1 | h1
  .unfold re at h1;have h3:=Tk.1 h1 m (UO.2 (Wo.1 hm).1);rw [hm] at h3;simp only [hd,BEq.rfl,Th,Ua] at h3;obtain⟨e',he,hb⟩:=VX.1 h3;simp only [S0,Uk,beq_iff_eq] at hb;exact hnot e' he hb.1 hb.2
  .exact hdst d hd (by simpa using h1)
 have ltd:∀(o:Oper),(match o.dst with | some d=>decide (d < nt) | none=>true)=true->Nat.ble nt 1000000=true->∀d,o.dst=some d->d < 1000000:=by intro o h1 h2 d hd;rw [hd] at h1;simp only [decide_eq_true_eq] at h1;exact Ux h1 (Nat.le_of_ble_eq_true h2)
 have guardB:∀(o:Oper) (g:Option Gs) (s0:St) (k:Nat),(gu ops o=some k\/kj ops o=some none)->dr ops o s0 some=some g->g=none:=by
  intro o g s0 k h Q;rcases h with h | h
  .exact(guardA o g s0 k h Q).1
  .have h1:=(Cu (P:=P) (An:=An) h).1;unfold dr at Q;rw [h1] at Q;simp only [SR] at Q;exact Q.symm
 have three:dh P An Or I u s=some (vj,B)/\dh P An Or G l (s.put false u.dst I vj B)=some (vi,C)/\(∀p∈C,∀q∈B,p.1≠q.1):=by
  rcases hcm0' with hcm | hst
  .skip
   have hcm0:=hcm;unfold rl at hcm0;simp only [S0] at hcm0;obtain⟨⟨hcm1,hcd1⟩,hcd2⟩:=hcm0;have hcm':(fZ P An l=false\/fY P u=true\/iX u=true)/\(fZ P An u=false\/fY P l=true\/iX l=true):=by simp only [Ul,WM,Bool.and_eq_false_iff,Bool.not_eq_false',Uk] at hcm1;exact hcm1
   have hdi:eU An l=false\/B= []:=by
    simp only [Uk,Ul] at hcd1;rcases hcd1 with h | h
    .exact .inl h
    .right;simpa [h] using j7
   have hdj:eU An u=false\/C= []:=by
    simp only [Uk,Ul] at hcd2;rcases hcd2 with h | h
    .exact .inl h
    .right;simpa [h] using i7
   have purei:fY P l=true->C= []:=λh=>by simpa [h] using i6
   have purej:fY P u=true->B= []:=λh=>by simpa [h] using j6
   have opj:dh P An Or I u s=some (vj,B):=by
    have old:fY P u=true\/iX u=true\/aK s.h C=s.h\/(ff An u=false/\eU An u=false/\∀x∈u.op.operands,∀id∈(s.get I x).ids,aK s.h C id=s.h id)->dh P An Or I u s=some (vj,B):=by intro h;rw [<-wj.op];exact(lB (s:=s) (s':=s.put (dN ops l.dst) l.dst G vi C) (λx z k e=>tj k (hY (e▸z))) h).symm
    rcases hcm'.1 with hw | F | F
    case inr.inl=>exact old (.inl F)
    case inr.inr=>exact old (.inr (.inl F))
    have L:kR l C=true:=by simpa [hw] using i5
    have direct:∀x∈u.op.operands,∀id∈(s.get I x).ids,∀q∈C,q.1≠id:=by intro x z id E q D e;obtain⟨d,k,J,K⟩:=gh L ⟨q,D,e⟩;subst J;obtain⟨ed,he,hb,ho⟩:=yg nj z E hi K;exact noti ed he hb ho
    rcases hdj with hdj | hdj
    case inr=>exact old (.inr (.inr (.inl (by rw [hdj];rfl))))
    rcases hcm'.2 with hwj | hpi | hai'
    .exact old (.inr (.inr (.inr ⟨w_r u hwj,hdj,λx z id E=>dK λq D e=>direct x z id E q D e⟩)))
    .exact old (.inr (.inr (.inl (by rw [purei hpi];rfl))))
    .cases hwj:fZ P An u with
     | false=>exact old (.inr (.inr (.inr ⟨w_r u hwj,hdj,λx z id E=>dK λq D e=>direct x z id E q D e⟩)))
     | true=>
      have hus:sJ ops u B=true:=by simpa [hwj] using j8
      refine wN (s:=s.put (dN ops l.dst) l.dst G vi C) (s':=s) (N:=λi=>∃q∈C,q.1=i) (λx z k e=>(tj k (hY (e▸z))).symm) (λi hi=> ?_) hdj (λx z id E=> ?_) (λk=> ?_) (λp F=> ?_) wj.op
      .exact(dK λq D e=>hi ⟨q,D,e⟩).symm
      .rw [getj x z] at E;rintro⟨q,D,e⟩;exact direct x z id E q D e
      .rintro⟨q,D,e⟩;obtain⟨d,k',J,K⟩:=gh L ⟨q,D,e⟩;simp only [Id.s.injEq] at J;have h:=ltd l i1 i9 d K;rw [<-J.1] at h;exact absurd h (Vb.2 (Tz (by decide) (UY 2000000 _)))
      .rintro⟨q,D,e⟩;obtain⟨d,k',J,K⟩:=gh L ⟨q,D,rfl⟩;exact U u B i l hi noti hus a2 p F d k' K (by rw [<-e,J])
   have opi:dh P An Or G l (s.put false u.dst I vj B)=some (vi,C):=by
    have old:fY P l=true\/iX l=true\/aK s.h B=s.h\/(ff An l=false/\eU An l=false/\∀x∈l.op.operands,∀id∈(s.get G x).ids,aK s.h B id=s.h id)->dh P An Or G l (s.put false u.dst I vj B)=some (vi,C):=by intro h;rw [<-wi.op];exact lB (λx z k e=>ti _ _ _ k (hY (e▸z))) h
    rcases hcm'.2 with hw | F | F
    case inr.inl=>exact old (.inl F)
    case inr.inr=>exact old (.inr (.inl F))
    have L:kR u B=true:=by simpa [hw] using j5
    have direct:∀x∈l.op.operands,∀id∈(s.get G x).ids,∀q∈B,q.1≠id:=by intro x z id E q D e;obtain⟨d,k,J,K⟩:=gh L ⟨q,D,e⟩;subst J;obtain⟨ed,he,hb,ho⟩:=yg i4 z E hj K;exact notj ed he hb ho
    rcases hdi with hdi | hdi
    case inr=>exact old (.inr (.inr (.inl (by rw [hdi];rfl))))
    rcases hcm'.1 with hwi | hpj | haj'
    .exact old (.inr (.inr (.inr ⟨w_r l hwi,hdi,λx z id E=>dK λq D e=>direct x z id E q D e⟩)))
    .exact old (.inr (.inr (.inl (by rw [purej hpj];rfl))))
    .cases hwi:fZ P An l with
     | false=>exact old (.inr (.inr (.inr ⟨w_r l hwi,hdi,λx z id E=>dK λq D e=>direct x z id E q D e⟩)))
     | true=>
      have hus:sJ ops l C=true:=by simpa [hwi] using i8
      refine wN (s:=s) (s':=s.put false u.dst I vj B) (N:=λi=>∃q∈B,q.1=i) (λx z k e=>ti _ _ _ k (hY (e▸z))) (λi hi=> ?_) hdi (λx z id E=> ?_) (λk=> ?_) (λp F=> ?_) wi.op
      .exact dK λq D e=>hi ⟨q,D,e⟩
      .rintro⟨q,D,e⟩;exact direct x z id E q D e
      .rintro⟨q,D,e⟩;obtain⟨d,k',J,K⟩:=gh L ⟨q,D,e⟩;simp only [Id.s.injEq] at J;have h:=ltd u j1 j9 d K;rw [<-J.1] at h;exact absurd h (Vb.2 (Tz (by decide) (UY 2000000 _)))
      .rintro⟨q,D,e⟩;obtain⟨d,k',J,K⟩:=gh L ⟨q,D,rfl⟩;exact U l C j u hj notj hus a2' p F d k' K (by rw [<-e,J])
   have disj:∀p∈C,∀q∈B,p.1≠q.1:=by
    intro p F q D e;rcases hcm'.1 with hw | hpj | haj'
    .rcases hcm'.2 with hw' | hpi | hai'
     .obtain⟨d,k,J,K⟩:=gh (by simpa [hw] using i5:kR l C=true) ⟨p,F,rfl⟩;obtain⟨d',k',e3,e4⟩:=gh (by simpa [hw'] using j5:kR u B=true) ⟨q,D,rfl⟩;rw [J,e3] at e;simp only [Id.s.injEq] at e;obtain⟨rfl,_⟩:=e;exact a2 d K e4
     .rw [purei hpi] at F;cases F
     .obtain⟨d,k,J,K⟩:=gh (by simpa [hw] using i5:kR l C=true) ⟨p,F,rfl⟩;cases hwj:fZ P An u with
      | false=>obtain⟨d',k',e3,e4⟩:=gh (by simpa [hwj] using j5:kR u B=true) ⟨q,D,rfl⟩;rw [J,e3] at e;simp only [Id.s.injEq] at e;obtain⟨rfl,_⟩:=e;exact a2 d K e4
      | true=>exact U u B i l hi noti (by simpa [hwj] using j8) a2 q D d k K (by rw [<-e,J])
    .rw [purej hpj] at D;cases D
    .obtain⟨d,k,J,K⟩:=gh (by simpa [al_w u haj'] using j5:kR u B=true) ⟨q,D,rfl⟩;cases hwi:fZ P An l with
     | false=>obtain⟨d',k',e3,e4⟩:=gh (by simpa [hwi] using i5:kR l C=true) ⟨p,F,rfl⟩;rw [J,e3] at e;simp only [Id.s.injEq] at e;obtain⟨rfl,_⟩:=e;exact a2 d' e4 K
     | true=>exact U l C j u hj notj (by simpa [hwi] using i8) a2' p F d k K (by rw [e,J])
   exact⟨opj,opi,disj⟩
  .have hst2:(((kZ An ops l u=true\/jU P An ops l u=true)\/jU P An ops u l=true)\/(l7 P An ops l u=true\/l7 P An ops u l=true))\/(la P An ops l u=true\/la P An ops u l=true):=by
    unfold sw at hst;simpa only [Uk] using hst
   rcases hst2 with hst1 | hst5
   case inr=>
    have ixq:∀o,xY P o=true->o.guard=none/\r7 P An o=true/\fY P o=false:=λo h=>by
     obtain⟨a,h1,⟨t,e,n,h2,_⟩ | ⟨t,h2⟩⟩:=Bs h
     .exact⟨h1,by simp [r7,h2],by simp [fY,h2]⟩
     .exact⟨h1,by simp [r7,h2],by simp [fY,h2]⟩
    have gn:∀(o:Oper) (g:Option Gs) (s0:St),o.guard=none->dr ops o s0 some=some g->g=none:=by intro o g s0 h1 Q;unfold dr at Q;rw [h1] at Q;simp only [SR] at Q;exact Q.symm
    have stg:∀o,(jA P o true=true\/jA P o false=true)->o.guard=none/\ff An o=false/\eU An o=false:=λo h=>by
     obtain⟨t,a,y,h1,h2⟩:∃t a y,o.guard=none/\o.op= .store t (.tmp a) y:=by rcases h with h | h <;> exact pU h
     exact⟨h1,by simp [ff,h2],by simp [eU,h2]⟩
    rcases hst5 with h5 | h5
    .have h5':=h5;simp only [la,S0,Uk] at h5';obtain⟨gdi,ri,di⟩:=stg l h5'.1.2;obtain⟨gdj,qj,_⟩:=ixq u h5'.2;have gni:=gn l G s gdi wi.guard;have gnj:=gn u I s gdj gj';have uj:B= []:=by simpa [qj] using j7
     have eiop:=wi.op;have ejop:=wj.op;rw [gni] at eiop;rw [gnj] at ejop;have hget:∀x∈u.op.operands,(s.put (dN ops l.dst) l.dst G vi C).get none x=s.get none x:=λx z=>by have:=getj x z;rwa [gnj] at this
     refine⟨?_, ?_,λp F q D=>by rw [uj] at D;cases D⟩
     .rw [gnj];exact(JB h5 (Tx hi) (Tx hj) eiop i10 j10 rfl hget hget _).2 ejop
     .rw [<-wi.op];exact lB (λx z k e=>ti _ _ _ k (hY (e▸z))) (.inr (.inr (.inl (by rw [uj];rfl))))
    .have h5':=h5;simp only [la,S0,Uk] at h5';obtain⟨gdj,rj,dj⟩:=stg u h5'.1.2;obtain⟨gdi,qi,_⟩:=ixq l h5'.2;have gni:=gn l G s gdi wi.guard;have gnj:=gn u I s gdj gj';have ui:C= []:=by simpa [qi] using i7
     have eiop:=wi.op;rw [gni] at eiop;have opj:dh P An Or I u s=some (vj,B):=by rw [<-wj.op];exact(lB (s:=s) (s':=s.put (dN ops l.dst) l.dst G vi C) (λx z k e=>tj k (hY (e▸z))) (.inr (.inr (.inl (by rw [ui];rfl))))).symm
     have geti:∀x∈l.op.operands,(s.put false u.dst I vj B).get none x=s.get none x:=λx z=>rK λk e=>ti _ _ _ k (hY (e▸z));have okj:kk P An ops u s B=true:=by
      refine CR (λk Z=> ?_) (λk Z x z=> ?_) (λQ x z=> ?_) j10
      .rw [pli];exact(p9 (b:=false) λe=>Z (pJ e ops.toList (Array.mem_toList_iff.2 (Tx hi)))).symm
      .have h:=getj x z;rw [gnj] at h;exact h.symm
      .have h:=getj x z;rw [gnj] at h;exact h.symm
     refine⟨opj, ?_,λp F=>by rw [ui] at F;cases F⟩;rw [gni];rw [gnj] at opj;exact(JB h5 (Tx hj) (Tx hi) opj okj i10 rfl geti (λ_ _=>rfl) _).1 eiop
   have hst1:=hst1;rcases hst1 with hst0 | hst4
   case inr=>
    have both:∀o,(jA P o true=true\/jA P o false=true)->∃t a y,o.guard=none/\o.op= .store t (.tmp a) y:=λo h=>by
     rcases h with h | h
     .exact pU h
     .exact pU h
    have si:(jA P l true=true\/jA P l false=true)/\(jA P u true=true\/jA P u false=true):=by
     rcases hst4 with h | h <;> simp only [l7,S0] at h
     .exact⟨.inl h.1.2, .inr h.2⟩
     .exact⟨.inr h.2, .inl h.1.2⟩
    obtain⟨ti',xi,yi,gdi,opi'⟩:=both l si.1;obtain⟨tj',xj,yj,gdj,opj'⟩:=both u si.2;have hki:gu ops l=some (sb ops xi):=by simp [gu,gdi,opi']
    have hkj:gu ops u=some (sb ops xj):=by simp [gu,gdj,opj']
    obtain⟨gni,ri,di⟩:=guardA l G s _ hki wi.guard;obtain⟨gnj,rj,dj⟩:=guardA u I s _ hkj gj';have eiop:=wi.op;have ejop:=wj.op;rw [gni] at eiop;rw [gnj] at ejop;have hres:(∀p∈C,∀q∈B,p.1≠q.1)/\(∀x∈l.op.operands,∀i∈(s.get none x).ids,∃p∈C,p.1=i)/\(∀x∈u.op.operands,∀i∈((s.put (dN ops l.dst) l.dst G vi C).get none x).ids,∃p∈B,p.1=i):=by
     rcases hst4 with h | h
     .exact JA h (Tx hi) (Tx hj) eiop ejop i10 j10 (.inl rfl)
     .obtain⟨r1,r2,r3⟩:=JA h (Tx hj) (Tx hi) ejop eiop j10 i10 (.inr rfl);exact⟨λp F q D e=>r1 q D p F e.symm,r3,r2⟩
    obtain⟨d1,d2,d3⟩:=hres;refine⟨?_, ?_,d1⟩
    .rw [<-wj.op];refine(lB (s:=s) (s':=s.put (dN ops l.dst) l.dst G vi C) (λx z k e=>tj k (hY (e▸z))) (.inr (.inr (.inr ⟨rj,dj,λx z id E=> ?_⟩)))).symm;refine dK λq D e=> ?_;rw [<-getj x z,gnj] at E;obtain⟨p,F,K⟩:=d3 x z id E;exact d1 q D p F (e.trans K.symm)
    .rw [<-wi.op];refine lB (λx z k e=>ti _ _ _ k (hY (e▸z))) (.inr (.inr (.inr ⟨ri,di,λx z id E=> ?_⟩)));refine dK λq D e=> ?_;rw [gni] at E;obtain⟨p,F,K⟩:=d2 x z id E;exact d1 p F q D (K.trans e.symm)
   have tk:∀k,k∉gE ops.toList->(s.put (dN ops l.dst) l.dst G vi C).t k=s.t k:=λk dk=>by rw [pli];exact p9 (b:=false) λe=>dk (pJ e ops.toList (Array.mem_toList_iff.2 (Tx hi)))
   have gnone:∀(o:Oper) (g:Option Gs) (s0:St),o.guard=none->dr ops o s0 some=some g->g=none:=by intro o g s0 h1 Q;unfold dr at Q;rw [h1] at Q;simp only [SR] at Q;exact Q.symm
   rcases hst0 with(hst | hld) | hld
   rotate_left
   ·
    obtain⟨ga,wa,ra,da⟩:=GY hld;obtain⟨rb',hrb'⟩:∃r,kj ops u=some r:=by rcases tZ hld with⟨k,Z,_⟩ | Z <;> exact⟨_,Z⟩
    obtain⟨gb,wb,rb,db⟩:=Cu (P:=P) (An:=An) hrb';have gni:=gnone l G s ga wi.guard;have gnj:=gnone u I s gb gj';have L:kR u B=true:=by simpa [wb] using j5
    have hus:sJ ops l C=true:=by simpa [wa] using i8
    have hap2:=GZ hld (Tx hi) (Tx hj) i10 j10 (λk Z=>by rw [tk k Z]);refine⟨?_, ?_, ?_⟩
    .rw [<-wj.op];refine(lB (s:=s) (s':=s.put (dN ops l.dst) l.dst G vi C) (λx z k e=>tj k (hY (e▸z))) (.inr (.inr (.inr ⟨rb,db,λx z id E=> ?_⟩)))).symm;refine dK λq D e=> ?_;rw [<-getj x z,gnj] at E;exact hap2 x z id E q D e
    .refine wN (s:=s) (s':=s.put false u.dst I vj B) (N:=λi=>∃q∈B,q.1=i) (λx z k e=>ti _ _ _ k (hY (e▸z))) (λi hi=> ?_) da (λx z id E=> ?_) (λk=> ?_) (λp F=> ?_) wi.op
     .exact dK λq D e=>hi ⟨q,D,e⟩
     .rintro⟨q,D,e⟩;obtain⟨d,k,J,K⟩:=gh L ⟨q,D,e⟩;subst J;obtain⟨ed,he,hb,ho⟩:=yg i4 z E hj K;exact notj ed he hb ho
     .rintro⟨q,D,e⟩;obtain⟨d,k',J,K⟩:=gh L ⟨q,D,e⟩;simp only [Id.s.injEq] at J;have h:=ltd u j1 j9 d K;rw [<-J.1] at h;exact absurd h (Vb.2 (Tz (by decide) (UY 2000000 _)))
     .rintro⟨q,D,e⟩;obtain⟨d,k',J,K⟩:=gh L ⟨q,D,rfl⟩;exact U l C j u hj notj hus a2' p F d k' K (by rw [<-e,J])
    .intro p F q D e;obtain⟨d,k,J,K⟩:=gh L ⟨q,D,rfl⟩;exact U l C j u hj notj hus a2' p F d k K (by rw [e,J])
   ·
    obtain⟨ga,wa,ra,da⟩:=GY hld;obtain⟨rb',hrb'⟩:∃r,kj ops l=some r:=by rcases tZ hld with⟨k,Z,_⟩ | Z <;> exact⟨_,Z⟩
    obtain⟨gb,wb,rb,db⟩:=Cu (P:=P) (An:=An) hrb';have gni:=gnone l G s gb wi.guard;have gnj:=gnone u I s ga gj';have L:kR l C=true:=by simpa [wb] using i5
    have hus:sJ ops u B=true:=by simpa [wa] using j8
    have hap2:=GZ hld (Tx hj) (Tx hi) j10 i10 (λk Z=>by rw [tk k Z]);refine⟨?_, ?_, ?_⟩
    .refine wN (s:=s.put (dN ops l.dst) l.dst G vi C) (s':=s) (N:=λi=>∃q∈C,q.1=i) (λx z k e=>(tj k (hY (e▸z))).symm) (λi hi=> ?_) da (λx z id E=> ?_) (λk=> ?_) (λp F=> ?_) wj.op
     .exact(dK λq D e=>hi ⟨q,D,e⟩).symm
     .rw [getj x z] at E;rintro⟨q,D,e⟩;obtain⟨d,k,J,K⟩:=gh L ⟨q,D,e⟩;subst J;obtain⟨ed,he,hb,ho⟩:=yg nj z E hi K;exact noti ed he hb ho
     .rintro⟨q,D,e⟩;obtain⟨d,k',J,K⟩:=gh L ⟨q,D,e⟩;simp only [Id.s.injEq] at J;have h:=ltd l i1 i9 d K;rw [<-J.1] at h;exact absurd h (Vb.2 (Tz (by decide) (UY 2000000 _)))
     .rintro⟨q,D,e⟩;obtain⟨d,k',J,K⟩:=gh L ⟨q,D,rfl⟩;exact U u B i l hi noti hus a2 p F d k' K (by rw [<-e,J])
    .rw [<-wi.op];refine lB (λx z k e=>ti _ _ _ k (hY (e▸z))) (.inr (.inr (.inr ⟨rb,db,λx z id E=> ?_⟩)));refine dK λq D e=> ?_;rw [gni] at E;exact hap2 x z id E q D e
    .intro p F q D e;obtain⟨d,k,J,K⟩:=gh L ⟨p,F,rfl⟩;exact U u B i l hi noti hus a2 q D d k K (by rw [<-e,J])
   obtain⟨k,k',sk,sk',nek,dk,dk'⟩:=CQ hst;obtain⟨gni,ri,di⟩:=guardA l G s k sk wi.guard;obtain⟨gnj,rj,dj⟩:=guardA u I s k' sk' gj';have hst':kZ An ops u l=true:=Rl hst;obtain⟨p1,p2,p3⟩:=JC i10 (Tx hj) hst sk sk';obtain⟨q1,q2,q3⟩:=JC j10 (Tx hi) hst' sk' sk;replace tk:=tk k dk;have tk':(s.put (dN ops l.dst) l.dst G vi C).t k'=s.t k':=by rw [pli];exact p9 (b:=false) λe=>dk' (pJ e ops.toList (Array.mem_toList_iff.2 (Tx hi)))
   rw [tk] at q3;rw [tk'] at q2;refine⟨?_, ?_,λp F q D e=>q3 q D (e▸p2 p F)⟩
   .rw [<-wj.op];refine(lB (s:=s) (s':=s.put (dN ops l.dst) l.dst G vi C) (λx z k e=>tj k (hY (e▸z))) (.inr (.inr (.inr ⟨rj,dj,λx z id E=> ?_⟩)))).symm;refine dK λq D e=> ?_;rw [<-getj x z,gnj] at E;have:=q1 x z id E;rw [tk'] at this;exact p3 q D (e▸this)
   .rw [<-wi.op];refine lB (λx z k e=>ti _ _ _ k (hY (e▸z))) (.inr (.inr (.inr ⟨ri,di,λx z id E=> ?_⟩)));refine dK λq D e=> ?_;rw [gni] at E;exact q3 q D (e▸p1 x z id E)
 obtain⟨opj,opi,disj⟩:=three;have sj10:kk P An ops u s B=true:=by
  refine CR (λk Z=> ?_) (λk Z x z=> ?_) (λQ x z=> ?_) j10
  .rw [pli];exact(p9 (b:=false) λe=>Z (pJ e ops.toList (Array.mem_toList_iff.2 (Tx hi)))).symm
  .have:=guardB u I s k Z gj';have h:=getj x z;rw [this] at h;exact h.symm
  .have hgn:I=none:=by
    have h:=gj';unfold dr at h;rw [Q] at h;simp only [SR] at h;exact h.symm
   have h:=getj x z;rw [hgn] at h;exact h.symm
 have frj:iV (u.dst.getD 0) s.h B=true:=by
  unfold iV at j3⊢;refine Tk.2 λp F=> ?_;have:=Tk.1 j3 p F;split at this
  .simp only [Uk,VN] at this⊢;rcases this with h | h
   .exact .inl h
   .exact .inr (za h).2
  .rfl
  .cases this
 have wj0:th P An Or nt ops u s I vj B:=⟨gj',opj,by
  simp only [oU,Th,Ua,S0];exact⟨⟨⟨j1,j2⟩,frj⟩,⟨⟨⟨⟨⟨nj,j5⟩,j6⟩,j7⟩,j8⟩,j9⟩,sj10⟩⟩
 have plj:=Ch (g:=I) (v:=vj) (us:=B) hu hj hlj hG (dN ops u.dst);refine⟨_,wj0.eW, ?_⟩;rw [plj];have gi':dr ops l (s.put false u.dst I vj B) some=some G:=by rw [<-wi.guard];exact GG λx b d h1 h2=>ti _ _ _ d (Hi h1 h2)
 have geti:∀x∈l.op.operands,(s.put false u.dst I vj B).get G x=s.get G x:=λx z=>rK λk e=>ti _ _ _ k (hY (e▸z));have ni:oP ops G l (s.put false u.dst I vj B)=true:=by rw [<-i4];exact HI geti
 have fri:iV (l.dst.getD 0) (s.put false u.dst I vj B).h C=true:=by
  unfold iV at i3⊢;refine Tk.2 λp F=> ?_;have:=Tk.1 i3 p F;split at this
  .rename_i d k ep;simp only [Uk,VN] at this⊢;rcases this with h | h
   .exact .inl h
   .right;show aK s.h B p.1=none;rw [dK λq D e=>disj p F q D e.symm];exact h
  .rfl
  .cases this
 have si10:kk P An ops l (s.put false u.dst I vj B) C=true:=by
  refine CR (λk Z=> ?_) (λk Z x z=> ?_) (λQ x z=> ?_) i10
  .exact p9 (b:=false) λe=>Z (pJ e ops.toList (Array.mem_toList_iff.2 (Tx hj)))
  .have:=guardB l G s k Z wi.guard;have h:=geti x z;rw [this] at h;exact h
  .have hgn:G=none:=by
    have h:=wi.guard;unfold dr at h;rw [Q] at h;simp only [SR] at h;exact h.symm
   have h:=geti x z;rw [hgn] at h;exact h
 have wi0:th P An Or nt ops l (s.put false u.dst I vj B) G vi C:=⟨gi',opi,by
  simp only [oU,Th,Ua,S0];exact⟨⟨⟨i1,i2⟩,fri⟩,⟨⟨⟨⟨⟨ni,i5⟩,i6⟩,i7⟩,i8⟩,i9⟩,si10⟩⟩
 rw [wi0.eW,pli];have dij:∀d,l.dst=some d->u.dst≠some d:=a2;have dH:∀(g:Option Gs) (o:Oper) (m:Nat) (om:Oper),ops[m]? =some om->V.getD m true=false->dr ops o s some=some g->o∈ops->(∀e∈o.after,Region.binds .any e=true->V.getD e.on false=true)->∀gs,g=some gs->om.dst≠some gs.d:=by
  intro g o m om hom hlm M hmem hall gs hgs hd;unfold dr at M;cases hog:o.guard with
  | none=>rw [hog] at M;simp only [SR] at M;rw [hgs] at M;cases M
  | some p=>
   obtain⟨jj,b⟩:=p;rw [hog] at M;simp only at M;cases hdd:(ops[jj]?).bind (·.dst) with
   | none=>rw [hdd] at M;simp at M
   | some d=>
    rw [hdd] at M;simp only at M;replace M:=SU.1 M;obtain⟨x,_,M⟩:=M;obtain⟨bb,M,_⟩:=pR M;simp only [SR] at M;rw [hgs] at M;simp only [SR] at M;have hgd:gs.d=d:=by rw [<-M]
    rw [hgd] at hd;obtain⟨ojj,h1,h2⟩:=SU.1 hdd;have:=hu hom h1 hd h2;subst this;have hge:=TO.1 hgk o hmem;rw [hog] at hge;simp only at hge;obtain⟨e,he,hb⟩:=VX.1 hge;simp only [S0,beq_iff_eq] at hb;exact uY hlm (hb.2▸hall e he hb.1)
 have nogi:=dH G l j u hj hlj wi.guard (Tx hi) hai;have nogj:=dH I u i l hi hli gj' (Tx hj) haj;have nos:∀(m:Nat) (om:Oper),ops[m]? =some om->V.getD m true=false->∀k g v,s.t k= (some g,v)->om.dst≠some g.d:=by intro m om hom hlm k g v hst hd;obtain⟨x,ox,h1,h2,h3⟩:=hG k g v hst;have:=hu hom h1 hd h3;subst this;exact uY hlm h2
 have tcomm:∀(bi bj:Bool),((s.put false u.dst I vj B).put bi l.dst G vi C).t= ((s.put false l.dst G vi C).put bj u.dst I vj B).t:=by
  intro bi bj;funext k;cases hdi:l.dst with
  | none=>
   cases hdj:u.dst with
   | none=>rfl
   | some dj=>
    simp only [St.put];by_cases ek:k=dj
    .simp [ek]
    .simp only [if_neg ek,cond_false];cases bj with
     | false=>rfl
     | true=>
      simp only [cond_true];cases hst:s.t k with
      | mk gk vk=>
       cases gk with
       | none=>rfl
       | some gk=>
        have:=nos j u hj hlj k gk vk hst;rw [hdj] at this;have hb:(gk.d==dj)=false:=by simp only [beq_eq_false_iff_ne,ne_eq];exact λe=>this (by rw [e])
        simp [my,hb]
  | some di=>
   cases hdj:u.dst with
   | none=>
    simp only [St.put];by_cases ek:k=di
    .simp [ek]
    .simp only [if_neg ek,cond_false];cases bi with
     | false=>rfl
     | true=>
      simp only [cond_true];cases hst:s.t k with
      | mk gk vk=>
       cases gk with
       | none=>rfl
       | some gk=>
        have:=nos i l hi hli k gk vk hst;rw [hdi] at this;have hb:(gk.d==di)=false:=by simp only [beq_eq_false_iff_ne,ne_eq];exact λe=>this (by rw [e])
        simp [my,hb]
   | some dj=>
    have hne':di≠dj:=λe=>dij di hdi (by rw [hdj,e]);simp only [St.put];have drop1:∀(b:Bool) (g:Option Gs) (v:AV) (d:Nat),(∀gs,g=some gs->gs.d≠d)->cond b (my d (g,v)) (g,v)= (g,v):=by
     intro b g v d Q;cases b with
     | false=>rfl
     | true=>
      cases g with
      | none=>rfl
      | some gs=>
       have hb:(gs.d==d)=false:=by simpa using Q gs rfl
       simp [my,hb]
    by_cases eki:k=di
    .subst eki;simp only [if_true,if_neg hne',cond_false];rw [drop1 bj G vi dj λgs e h=>nogi gs e (by rw [hdj,h])]
    .by_cases ekj:k=dj
     .subst ekj;simp only [if_true,if_neg eki,cond_false];rw [drop1 bi I vj di λgs e h=>nogj gs e (by rw [hdi,h])]
     .simp only [if_neg eki,if_neg ekj,cond_false];cases hst:s.t k with
      | mk gk vk=>rw [drop1 bi gk vk di λgs e h=>by subst e;exact nos i l hi hli k gs vk hst (by rw [hdi,h]),drop1 bj gk vk dj λgs e h=>by subst e;exact nos j u hj hlj k gs vk hst (by rw [hdj,h])]
 have:∀(bi bj:Bool),(s.put false u.dst I vj B).put bi l.dst G vi C= (s.put false l.dst G vi C).put bj u.dst I vj B:=by
  intro bi bj;have ht:=tcomm bi bj;have hh:((s.put false u.dst I vj B).put bi l.dst G vi C).h= ((s.put false l.dst G vi C).put bj u.dst I vj B).h:=by show aK (aK s.h B) C=aK (aK s.h C) B;exact(SB disj).symm
  generalize (s.put false u.dst I vj B).put bi l.dst G vi C=X at *
  generalize (s.put false l.dst G vi C).put bj u.dst I vj B=Y at *
  cases X;cases Y;simp only at ht hh;rw [ht,hh]
 rw [this]
theorem NR{o:Oper}{l:Gs}{f:Array Bool}(u:rL ops=true)(a:dr ops o s some=some (some l))(q:o∈ops)(m:∀e∈o.after,Region.binds .any e=true->f.getD e.on false=true):
  ∃i v,ops[i]? =some v/\f.getD i false=true/\v.dst=some l.d:=by
 unfold dr at a;cases k:o.guard with
 | none=>rw [k] at a;simp at a
 | some p=>
  obtain⟨jj,b⟩:=p;rw [k] at a;simp only at a;cases g:(ops[jj]?).bind (·.dst) with
  | none=>rw [g] at a;simp at a
  | some d=>
   rw [g] at a;simp only at a;replace a:=SU.1 a;obtain⟨x,_,a⟩:=a;obtain⟨bb,a,_⟩:=pR a;simp only [SR] at a;have r:l.d=d:=by rw [<-a]
   obtain⟨y,h1,z⟩:=SU.1 g;have j:=TO.1 u o q;rw [k] at j;simp only at j;obtain⟨e,B,hb⟩:=VX.1 j;simp only [S0,beq_iff_eq] at hb;exact⟨jj,y,h1,hb.2▸m e B hb.1,by rw [r];exact z⟩
theorem Gz{a:Array Bool}{i:Nat}{p:Oper}(G:qV ops)(B:rL ops=true)(hi:ops[i]? =some p)(D:i∈Region.ready .any ops a)(u:qJ ops a s)(e:eW P An Or true nt ops p s=some s1):
  qJ ops (a.setIfInBounds i true) s1:=by
 obtain⟨g,v,us,I,rfl⟩:=B3 e;obtain⟨C,J,f,y⟩:=mem_ready.1 D;rw [hi] at f;simp only [SR] at f;subst f;rw [Ch G hi C u];have j:∀k g v,s.t k= (some g,v)->∃i' o,ops[i']? =some o/\(a.setIfInBounds i true).getD i' false=true/\o.dst=some g.d:=by intro k g v E;obtain⟨x,q,h1,l,m⟩:=u k g v E;exact⟨x,q,h1,getD_set_true l,m⟩
 intro k r F b;unfold St.put at b;cases z:p.dst with
 | none=>rw [z] at b;exact j k r F b
 | some d=>
  rw [z] at b;dsimp only at b;split at b
  .simp only [T0] at b;obtain⟨x,q,h1,l,m⟩:=NR B (by rw [<-b.1];exact I.guard) (Tx hi) y;exact⟨x,q,h1,getD_set_true l,m⟩
  .exact j k r F b
def tq(P:Program)(An:cE)(Or:aA)(nt:Nat)(ops:Array Oper)(Q:St->Prop):Nat->Array Bool->St->Prop
 | 0,a,s=>Region.ready .any ops a= []/\Q s
 | n+1,a,s=>(Region.ready .any ops a= []->Q s)/\∀i∈Region.ready .any ops a,∃o s1,ops[i]? =some o/\eW P An Or true nt ops o s=some s1/\tq P An Or nt ops Q n (a.setIfInBounds i true) s1
theorem KL{n j i:Nat}{b:Oper}(f:ops[j]? =some b)(h:gW ops (n+1) j i=false):∀e∈b.after,Region.binds .any e=true->e.on≠i:=by intro e d hb a;simp only [gW,f] at h;rw [Array.any_eq_false'] at h;exact h e d (by simp [hb,a])
theorem Eo{a:Array Bool}{j:Nat}(g:qC ops a)(p:j∈Region.ready .any ops a):qC ops (a.setIfInBounds j true):=by
 intro k ok l m e i hb;obtain⟨q,r,b,f⟩:=mem_ready.1 p;refine getD_set_true ?_;by_cases d:j=k
 .subst d;rw [l] at b;simp only [SR] at b;subst b;exact f e i hb
 .have o:a.getD k false=true:=by
   rw [UI,WL d] at m;rw [UI];exact m
  exact g k ok l o e i hb
theorem Kl{Q:St->Prop}{i:Nat}{d:Oper}(I:qV ops)(u:rL ops=true)(hi:ops[i]? =some d):∀(jR:Nat) (a:Array Bool) (s s1:St),
  (∀j m,ops[j]? =some m->j≠i->a.getD j true=false->gW ops 12 j i=false->d.apart ops m=true/\(rl P An d m=true\/sw P An ops d m=true))->qC ops a->
  i∈Region.ready .any ops a->qJ ops a s->eW P An Or true nt ops d s=some s1->tq P An Or nt ops Q jR (a.setIfInBounds i true) s1->tq P An Or nt ops Q (jR+1) a s:=by
 intro jR;induction jR with
 | zero=>
  intro a s s1 _ _ hr y e H;refine⟨λh=>(by rw [h] at hr;cases hr),λj g=> ?_⟩;by_cases b:j=i
  .subst b;exact⟨d,s1,hi,e,H⟩
  .have:=ready_mono g b;rw [H.1] at this;cases this
 | succ jR U=>
  intro a s s1 o p hr y e H;refine⟨λh=>(by rw [h] at hr;cases hr),λj g=> ?_⟩;by_cases b:j=i
  .subst b;exact⟨d,s1,hi,e,H⟩
  .obtain⟨m,s2,f,L,K⟩:=H.2 j (ready_mono g b);obtain⟨r,V,l,z⟩:=mem_ready.1 g;rw [f] at l;simp only [SR] at l;subst l;have B:gW ops 12 j i=false:=z8 p (mem_ready.1 hr).1 f z;obtain⟨D,E⟩:=o j m f b r B;obtain⟨J,C,M⟩:=Ry I u hi f b hr g p D E y e L;refine⟨m,J,f,C, ?_⟩
   have q:∀k ok,ops[k]? =some ok->k≠i->(a.setIfInBounds j true).getD k true=false->
     gW ops 12 k i=false->d.apart ops ok=true/\(rl P An d ok=true\/sw P An ops d ok=true):=λk ok N F x G=>by
    refine o k ok N F ?_ G;by_cases v:j=k
    .subst v;exact r
    .rw [getD_set_ne true v] at x;exact x
   refine U (a.setIfInBounds j true) J s2 q (Eo p g) (ready_mono hr (WY b)) (Gz I u f g y C) M ?_;rw [Array.setIfInBounds_comm _ _ b];exact K
theorem NF{i:Nat}{b:Oper}{a:Array Bool}(hi:ops[i]? =some b)(h:Bf P An ops a i=true)(j:Nat)(d:Oper)(e:ops[j]? =some d)(f:j≠i)(k:a.getD j true=false)
  (g:gW ops 12 j i=false):rl P An b d=true\/sw P An ops b d=true:=by
 simp only [Bf,hi,Tk,UO] at h;have h1:=h j (Wo.1 e).1;simp only [e,Uk,beq_iff_eq,f,false_or,k,Tv,g,or_false] at h1;exact h1
theorem DF{Q:St->Prop}(v:qV ops)(b:rL ops=true):∀(l:List Oper) (k:Nat) (a:Array Bool) (s:St),(∀j,l[j]? =ops[k+j]?)->Region.lexFrom .any ops l.length k a=true->x9 P An ops l.length k a=true->qC ops a->qJ ops a s->
  jc P An Or true nt ops l s=some s'->Q s'->tq P An Or nt ops Q l.length a s
 | [],k,a,s,_,f,_,_,_,h,r=>by simp only [jc,SR] at h;subst h;exact⟨by simpa [Region.lexFrom] using f,r⟩
 | o::l,k,a,s,z,f,q,g,y,h,r=>by
  simp only [jc] at h;obtain⟨s1,h1,h⟩:=SU.1 h;have e:ops[k]? =some o:=by simpa using (z 0).symm
  simp only [Tr,Region.lexFrom,S0] at f;obtain⟨⟨hr,C⟩,x⟩:=f;simp only [Tr,x9,S0] at q;have d:k∈Region.ready .any ops a:=by simpa using hr
  exact Kl v b e l.length a s s1 (λj B u i p m=>⟨Region.free_spec e C j B u i p (KL u m),NF e q.1 j B u i p m⟩) g d y h1
   (DF v b l (k+1) _ s1 (λj=>by have:=z (j+1);simpa [VK,WO 1 j] using this) x q.2 (Eo g d) (Gz v b e d y h1) h r)
theorem DG(u:jo P An Or){Q:Exit->Act->World->Prop}{s':St}:∀{jR:Nat} {b:Array Bool} {w:World} {s:St} {ρ:Id->Option Value} {O:Id->Option Nat} {a:Act},
  eH c nt w s ρ O a->n9 ops s->tq P An Or nt ops (· =s') jR b s->(∀k w' ρ' O',Le w ρ O w' ρ' O'->eH c nt w' s' ρ' O' k->Q .normal k w')->wpAny P .any ops Q jR b a w
 | 0,b,w,s,ρ,O,a,d,j,h,f=>⟨h.1,f a w ρ O Le.refl (h.2▸d)⟩
 | jR+1,b,w,s,ρ,O,a,d,j,h,f=>by refine⟨λhr=>f a w ρ O Le.refl (h.1 hr▸d),λi hi=> ?_⟩;obtain⟨o,s1,v,e,H⟩:=h.2 i hi;obtain⟨l,step⟩:=H4 u d j (Tx v) e;unfold wpOp;rw [v];exact step _ Q λk w' ρ' O' le m=>DG u m l H λr y p q x g=>f r y p q (le.trans x) g
theorem Qa{R:Type}{id:Nat}{f:Bool}{a:Act}{K:St->Option R}{r:R}(hm:P.follows .mixedOrders=true)(C:jo P An Or)(l:eH c nt w s ρ O a)(hb:nY s)(e:region P An Or nt f ops s K=some r):
  ∃s':St,K s'.clear=some r/\∀Q:Exit->Act->World->Prop,(∀p w' ρ' O',Le w ρ O w' ρ' O'->eH c nt w' s'.clear ρ' O' p->Q .normal p w')->(Code.region id ops f).wp P Q a w:=by
 unfold region at e;cases m:Cm P An f ops with
 | false=>simp [m] at e
 | true=>
  rw [m,cond_true,Cv] at e;replace e:=SU.1 e;obtain⟨s',e,F⟩:=e;refine⟨s',F,λQ D=> ?_⟩;cases f with
  | false=>exact P9 C l hb e D
  | true=>simp only [Cm,Th,Ua,S0] at m;obtain⟨⟨⟨B,G⟩,I⟩,E⟩:=m;simp only [Region.lexB,S0] at B;have L:qV ops:=λ{i j x y d} hi J M hy=>EY I (by simpa using hi) (by simpa using J) M hy;have o:Le w ρ O w.drew ρ O:=⟨rfl,rfl,rfl,Tl _,λ_ _ h=>h,λ_ _ _=>rfl,λi b h=> .inl ⟨i,h⟩⟩;have z:eH c nt w.drew s ρ O a:=⟨l.hs.world o λ_ _ _=>rfl,SS.mono (λb hb=>o.A b hb) o.eF l.ss,l.nt,l.defers⟩;refine wp_region_any hm ?_;have:=DF (P:=P) (An:=An) (Or:=Or) (nt:=nt) (Q:=(· =s')) L E ops.toList 0 (Array.replicate ops.size false) s (by simp) (by simpa using B.2) (by simpa using G) (λk ok F q=>by simp [UI,Array.getElem?_replicate] at q;split at q <;> simp at q) (λk g v h=>(hb k g v h).elim) e rfl;simp only [Tu] at this;exact DG C z (hb.GM ops) this λp w' ρ' O' le u=>D p w' ρ' O' (o.trans le) u.clear
end
open Go
section
variable {P:Program} {An:cE} {Or:aA} {w w':World} {A A':Nat->Prop} {c:Ctx} {ρ:Id->Option Value} {O:Id->Option Nat} {s s':St} {h:Id->Option aa}
def Ends(P:Program)(f:FuncId)(fn:Func)(todo:List Item)(a:Act)(w:World)(R:Value->World->Prop):Prop:=
 ∀(b:Frame),b.fn=f->b.kind= .normal->∀cs,∃d w' v todo',Steps P (lone (b.at a todo) cs w) (lone {b.at d todo' with mode:= .returning} cs w')/\
  d.defers= []/\(results fn d.tmps).run P w'= .ok v w'/\R v w'
theorem Ends.mono{f:FuncId}{fn:Func}{todo:List Item}{a:Act}{R d:Value->World->Prop}(h:Ends P f fn todo a w R)(hr:∀v w',R v w'->d v w'):Ends P f fn todo a w d:=
 λb hb k cs=>let⟨e,w',v,t,h1,g,i,j⟩:=h b hb k cs;⟨e,w',v,t,h1,g,i,hr _ _ j⟩
theorem Ends.step{f:FuncId}{fn:Func}{todo todo':List Item}{a:Act}{R:Value->World->Prop}(d:∀(b:Frame) cs,step P (lone (b.at a todo) cs w)= .next (lone (b.at a todo') cs w))(h:Ends P f fn todo' a w R):Ends P f fn todo a w R:=
 λb hb i cs=>let⟨e,w',v,t,h1,g⟩:=h b hb i cs;⟨e,w',v,t, .head (d b cs) h1,g⟩
theorem Ends.region{f:FuncId}{fn:Func}{id:Nat}{ops:Array Oper}{d:Bool}{k:List Item}{a:Act}{R:Value->World->Prop}
  (h:(Code.region id ops d).wp P (λe g w'=>e= .normal/\Ends P f fn k g w' R) a w):Ends P f fn (.code (.region id ops d)::k) a w R:=by
 intro b hb m cs;obtain⟨e,j,p,⟨rfl,o⟩,i⟩:=h b k cs;obtain⟨g,w',v,t,h1,l⟩:=o b hb m cs;exact⟨g,w',v,t,Steps.trans i h1,l⟩
theorem KY{f:FuncId}{fn:Func}{a:Code}{args:Array Value}{R:Value->World->Prop}(g:P.funcs[f]? =some fn)(hb:fn.body=some a)
  (h:Ends P f fn [.code a] {tmps:=args++Array.replicate (fn.ntmps - args.size) undef,defers:= []} w R):Calls P f args w λe w'=>∃v,e= .returned v/\R v w':=by
 intro cs;let b:Frame:={(default:Frame) with fn:=f,kind:= .normal};have d:Frame.enter P f args .normal=b.at {tmps:=args++Array.replicate (fn.ntmps - args.size) undef,defers:= []} [.code a]:=by simp [Frame.enter,Frame.at,g,hb,b]
 obtain⟨k,w',v,todo',hs,j,hr,i⟩:=h b rfl rfl cs;rw [<-d] at hs;exact⟨.returned v,w',_,⟨v,rfl,i⟩,hs,rfl,rfl,j,rfl,fn,g,hr⟩
structure Fin (P:Program) (c:Ctx) (B:Nat->Option Value) (sh:List bO) (outs:List jG) (xs:List T) (Own:Nat->Prop) (w:World) (v:Value) (w':World):Prop where
 os:w'.os=w.os
 output:w'.output=w.output
 tape:w'.tape=w.tape
 size:w.heap.size<=w'.heap.size
 ah:∀b,b < w.heap.size->¬Own b->w'.heap[b]? =w.heap[b]?
 res:∃rs x1 x2 o1 o2,v=o5 rs/\xs=x1++x2/\(o1++o2).Nodup/\(∀b∈o1++o2,c.MO b/\b < w'.heap.size)/\dC B w' (λb=>(c.A0 b\/c.MO b)/\b < w'.heap.size/\b∉o1++o2) sh x1 rs o1/\
  oh B w' (λb=>(c.A0 b\/c.MO b)/\b < w'.heap.size/\b∉o1++o2) 0 outs x2 o2
theorem Fin.le{B:Nat->Option Value}{sh:List bO}{os:List jG}{xs:List T}{v:Value}{w'':World}{ρ':Id->Option Value}{O':Id->Option Nat}(le:Le w ρ O w' ρ' O')(h:Fin P c B sh os xs (fC O') w' v w''):Fin P c B sh os xs (fC O) w v w'' where
 os:=h.os.trans le.os
 output:=h.output.trans le.output
 tape:=h.tape.trans le.tape
 size:=Tz le.size h.size
 ah b hb hn:=by
  rw [h.ah b (Ux hb le.size) (λ⟨i,hi⟩=> ?_),le.ah b hb (λi hi=>hn ⟨i,hi⟩)];rcases le.own i b hi with⟨j,hj⟩ | hj
  .exact hn ⟨j,hj⟩
  .omega
 res:=h.res
theorem Fin.own{B:Nat->Option Value}{d:List bO}{os:List jG}{xs:List T}{v:Value}{a:World}{O':Id->Option Nat}(e:∀b,fC O' b->fC O b)(h:Fin P c B d os xs (fC O') w v a):Fin P c B d os xs (fC O) w v a:=
 {h with ah:=λb hb f=>h.ah b hb λg=>f (e b g)}
theorem Hm:∀{l:List Id},yn l=true->l.Nodup
 | [],_=>WA
 | i::r,h=>by
  simp only [yn,S0,Ul] at h;refine Ud.2 ⟨λhm=> ?_,Hm h.2⟩;have:r.contains i=true:=by simpa using hm
  rw [this] at h;cases h.1
def lH(O:Id->Option Nat)(l:List Id):List Nat:=l.filterMap O
theorem DX(hs:HS c w h ρ O):∀{l:List Id},l.Nodup->(lH O l).Nodup
 | [],_=>WA
 | i::l,g=>by
  obtain⟨h1,d⟩:=Ud.1 g;have a:=DX hs d;unfold lH at *
  cases hi:O i with
  | none=>rw [List.filterMap_cons_none hi];exact a
  | some b=>rw [List.filterMap_cons_some hi];refine Ud.2 ⟨λhm=> ?_,a⟩;obtain⟨j,f,e⟩:=Wx.1 hm;have:=hs.inj i j b hi e;exact h1 (this▸f)
theorem KK(a b:List Id):lH O (a++b)=lH O a++lH O b:=by simp [lH]
def fA(O:Id->Option Nat)(l:List Id)(own:List Nat):Prop:=(∀i∈l,i.real=true)/\∃ids,own=lH O ids/\(l.Nodup->ids.Nodup)/\∀x∈ids,Of l x
theorem fA.nil:fA O [] []:=⟨by simp,[],rfl,λh=>h,by simp⟩
theorem fA.one{i:Id}(hr:i.real=true):fA O [i] (O i).toList:=by refine⟨by simpa using hr,[i], ?_,λh=>h,λx a=> .inl a⟩;cases h:O i <;> simp [lH,h]
theorem fA.append{a b:List Id}{o1 r:List Nat}(h1:fA O a o1)(v:fA O b r):fA O (a++b) (o1++r):=by
 obtain⟨r1,D,rfl,F,p⟩:=h1;obtain⟨u,E,rfl,G,q⟩:=v;refine⟨λi hi=> ?_,D++E,(KK _ _).symm,λz=> ?_,λx d=> ?_⟩
 .rcases Tm.1 hi with hi | hi
  .exact r1 i hi
  .exact u i hi
 .obtain⟨C,k2,o⟩:=UC.1 z;refine UC.2 ⟨F C,G k2,λx d y hy e=> ?_⟩;subst e;rcases p x d with k | ⟨j,n,k,m⟩ <;> rcases q x hy with l | ⟨B,I,l,f⟩
  .exact o x k x l rfl
  .have:=r1 x k;rw [f] at this;cases this
  .have:=u x l;rw [m] at this;cases this
  .rw [m] at f;simp only [Id.g.injEq] at f;exact o j k B l f.1
 .rcases Tm.1 d with d | d
  .rcases p x d with g | ⟨j,n,g,e⟩
   .exact .inl (Tf _ g)
   .exact .inr ⟨j,n,Tf _ g,e⟩
  .rcases q x d with g | ⟨j,n,g,e⟩
   .exact .inl (Te _ g)
   .exact .inr ⟨j,n,Te _ g,e⟩
theorem fA.mem{l:List Id}{own:List Nat}(h:fA O l own){b:Nat}(hb:b∈own):∃i,Of l i/\O i=some b:=by obtain⟨_,ids,rfl,_,m⟩:=h;obtain⟨i,hi,e⟩:=Wx.1 hb;exact⟨i,m i hi,e⟩
def mJ:Nat->List Row->List Row
 | _,[]=> []
 | n,e::r=>{e with n:=n}::mJ (n+1) r
theorem uG:∀(es:List Row) (n:Nat),(mJ n es).length=es.length
 | [],_=>rfl
 | e::r,n=>by simp [mJ,uG r]
theorem yB:∀(es:List Row) (n:Nat),(mJ n es).map (·.n)=List.range' n es.length
 | [],_=>rfl
 | e::r,n=>by simp [mJ,yB r,VQ]
theorem Ey:∀{es:List Row} {n:Nat},bJ es=true->rp n (es.map λe=> [.ptr e.cs,o8 e])=some (mJ n es)
 | [],_,_=>rfl
 | e::r,n,h=>by
  simp only [bJ,Uu,S0] at h;have d:=Ey (es:=r) (n:=n+1) h.2;obtain⟨f,a,b⟩:=e;cases b with
  | none=>simp at h
  | some p=>show((rp (n+1) (r.map λe=> [.ptr e.cs,o8 e])).bind λl=>some (⟨n,a,some (p.1,p.2)⟩::l))=_;rw [d];rfl
theorem IC{A A':Nat->Prop}{d:Id->Option Value}{a:Id->Option Nat}{i:Id}{ah sz az rsz:Nat}(m:∀b,A b->A' b):∀{es:List Row} {k base:Nat},(∀j e,es[j]? =some e->d (.g i (k+j))=ρ (.g i e.n)/\a (.g i (k+j))=O (.g i e.n))->
  bZ w A ρ O i ah sz az rsz base es->bZ w A' d a i ah sz az rsz base (mJ k es)
 | [],_,_,_,_=>trivial
 | e::r,k,base,o,h=>by
  obtain⟨l,h1⟩:=h;obtain⟨C,D⟩:=o 0 e rfl;refine⟨?_,IC m (k:=k+1) (λj f E=>by
   have:=o (j+1) f (by simpa using E);rw [show k+1+j=k+ (j+1) by omega];exact this) h1⟩
  have l:=l.move (A':=A') (w':=w) (ρ':=ρ) (O':=O) (λ_ _=>rfl) (λb hb=>⟨m b hb,rfl⟩) rfl rfl (λ_ _=>rfl);obtain⟨q,v,x,u,y,z,B⟩:=l;refine⟨q,v,x,u,y,by rw [<-z];exact C, ?_⟩;revert B;show(match e.own with | some p=>cK w A' rsz p.1 p.2 u (λb=>O (.g i e.n)=some b) | none=>O (.g i e.n)=none)->(match e.own with | some p=>cK w A' rsz p.1 p.2 u (λb=>a (.g i k)=some b) | none=>a (.g i k)=none);rw [show a (.g i k)=O (.g i e.n) from D];exact id
def qM(w:World)(c:Ctx)(O:Id->Option Nat)(b:List Id)(Q:(Nat->Prop)->Prop):Prop:=
 ∀A:Nat->Prop,(∀k,AA c w O k->A k)->(∀i ah,i∈b->i.real=true->O i=some ah->A ah)->Q A
def iK(m:Nat)(B:Nat->Option Value)(ρ:Id->Option Value):Prop:= ∀j,j < m->∃v,B j=some v/\ρ (.c j)=some v
theorem FA{B:Nat->Option Value}{i:Id}{b:Bool}{sz az rsz nx:Nat}{es:List Row}{u:Value}{l:List Id}(hs:HS c w h ρ O)(hi:h i=some (.rows b sz az rsz nx es))(hv:ρ i=some u)(M:bJ es=true):
  fA O [i] (lH O (i::es.map λe=> .g i e.n))/\qM w c O l λA=>jH B w A (.rows sz az rsz) (bI b es) u (lH O (i::es.map λe=> .g i e.n)):=by
 have o:=hs.real (i:=i) (by rw [hi];simp);obtain⟨a,cap,r1,r2,r3,⟨U,n2,n3,n4⟩,J⟩:=hs.ah i _ hi;have N:(i::es.map λe=>Id.g i e.n).Nodup:=by
  refine Ud.2 ⟨λhm=> ?_, ?_⟩
  .obtain⟨e,_,F⟩:=Tw.1 hm;rw [<-F] at o;cases o
  .have:(es.map λe=>Id.g i e.n)= (es.map (·.n)).map (Id.g i):=by rw [VD];rfl
   rw [this];exact List.pairwise_map.2 (U.imp λh e=>h (by simpa using e))
 refine⟨⟨by simpa using o,_,rfl,λ_=>N,λx m=> ?_⟩,λA Y _=> ?_⟩
 .rcases Tg.1 m with rfl | m
  .exact .inl SW
  .obtain⟨e,_,rfl⟩:=Tw.1 m;exact .inr ⟨i,e.n,SW,rfl⟩
 .let V:Id->Option Value:=λx=>match x with
   | .g y k=>if y=i then(es[k]?).bind λe=>ρ (.g i e.n) else none
   | x=>if x=i then ρ i else none
  let Q:Id->Option Nat:=λx=>match x with
   | .g y k=>if y=i then(es[k]?).bind λe=>O (.g i e.n) else none
   | x=>if x=i then O i else none
  have L:V i=ρ i:=by
   cases i with
   | g y n=>cases o
   | _=>simp only [V,if_true]
  have K:Q i=O i:=by
   cases i with
   | g y n=>cases o
   | _=>simp only [Q,if_true]
  have D:∀k,V (.g i k)= (es[k]?).bind λe=>ρ (.g i e.n):=λk=>by simp only [V,if_true]
  have C:∀k,Q (.g i k)= (es[k]?).bind λe=>O (.g i e.n):=λk=>by simp only [Q,if_true]
  have r:∀x d,Q x=some d->(x=i/\O i=some d)\/∃k e,x= .g i k/\es[k]? =some e/\O (.g i e.n)=some d:=by
   intro x d m;cases x with
   | g y k=>
    simp only [Q] at m;split at m
    .rename_i e;subst e;obtain⟨e,h1,E⟩:=SU.1 m;exact .inr ⟨k,e,rfl,h1,E⟩
    .cases m
   | s y k=>
    simp only [Q] at m;split at m
    .rename_i e;exact .inl ⟨e,m⟩
    .cases m
   | c k=>
    simp only [Q] at m;split at m
    .rename_i e;exact .inl ⟨e,m⟩
    .cases m
  refine⟨b,mJ 0 es,i,V,Q, ?_,⟨a,cap,by rw [L,uG];exact r1,by rw [uG];exact r2,r3,⟨?_,λf G=> ?_,λk p=> ?_,λk d p=> ?_⟩, ?_⟩,by rw [L];exact hv,o,λx y d m hy=> ?_,λk v p=> ?_,λx d m=> ?_,λd=> ?_⟩
  .simp only [bI,kI,Ey M,S9]
  .rw [yB];exact List.nodup_range'
  .have:f.n∈(mJ 0 es).map (·.n):=Tw.2 ⟨f,G,rfl⟩;rw [yB,List.mem_range'_1] at this;rw [uG];omega
  .rw [uG] at p;rw [D,TU p];rfl
  .rw [C] at p;obtain⟨e,h1,_⟩:=SU.1 p;have hlt:=(Ta.1 h1).1;have:k∈(mJ 0 es).map (·.n):=by rw [yB,List.mem_range'_1];omega
   obtain⟨f,G,X⟩:=Tw.1 this;exact⟨f,G,X⟩
  .rcases J with J | ⟨ah,off,arr,t,q1,q2,q3,q4,q5⟩
   .exact .inl J
   .refine .inr ⟨ah,off,arr,t,q1,by rw [K];exact q2,q3,q4,IC Y (λj e Z=> ?_) q5⟩;rw [TC,D,C,Z];exact⟨rfl,rfl⟩
  .rcases r x d m with⟨rfl,q⟩ | ⟨k,e,rfl,q,z⟩ <;> rcases r y d hy with⟨rfl,I⟩ | ⟨k',e',rfl,I,k2⟩
   .rfl
   .have:=hs.inj _ _ d q k2;rw [this] at o;cases o
   .have:=hs.inj _ _ d I z;rw [this] at o;cases o
   .have:=hs.inj _ _ d z k2;simp only [Id.g.injEq,true_and] at this;rw [ur U q I this]
  .rw [D] at p;obtain⟨e,_,E⟩:=SU.1 p;exact hs.gone i e.n v E
  .rcases r x d m with⟨rfl,_⟩ | ⟨k,_,rfl,_⟩
   .exact .inl rfl
   .exact .inr ⟨k,rfl⟩
  .simp only [lH,Wx,Tg,Tw];constructor
   .rintro⟨x,rfl | ⟨e,F,rfl⟩,m⟩
    .exact⟨x,by rw [K];exact m⟩
    .obtain⟨k,p⟩:=List.getElem?_of_mem F;exact⟨.g i k,by rw [C,p];exact m⟩
   .rintro⟨x,m⟩;rcases r x d m with⟨rfl,q⟩ | ⟨k,e,rfl,q,z⟩
    .exact⟨x, .inl rfl,q⟩
    .exact⟨.g i e.n, .inr ⟨e,SX q,rfl⟩,z⟩
theorem Fz{R:Type}{m:Nat}{B:Nat->Option Value}{r:bO}{v:AV}{u:Value}{K:T->List Id->List Id->Option R}{res:R}(hB:iK m B ρ)(hs:HS c w h ρ O)(hv:al w (AA c w O) ρ v u)(d:jw m h r v K=some res):
  ∃x a b ob,K x a b=some res/\fA O a ob/\qM w c O b λA=>jH B w A r x u ob:=by
 cases r with
 | f k=>simp only [jw] at d;replace d:=SU.1 d;obtain⟨x,N,d⟩:=d;replace d:=aL d (.inl rfl);obtain⟨y,hy,d⟩:=d;rw [AV.l8 N] at hv;simp only [al] at hv;exact⟨_,_,_,[],d, .nil,λA j q=>⟨hy,hv.flat hy,rfl⟩⟩
 | t k=>simp only [jw] at d;replace d:=SU.1 d;obtain⟨x,N,d⟩:=d;refine⟨_,_,_,[],d, .nil,λA j q=>⟨mN hs hv N j (λi ah hi ho=> ?_),rfl⟩⟩;obtain⟨p,z,e⟩:=xO hs N hi ho;refine q i ah (Tw.2 ⟨p,z,e⟩) ?_ ho;rw [<-e];refine hs.real λe0=> ?_;have F:=tR (h:=h) v p z;rw [e0] at F;rcases F with⟨sz,b,l,_,F⟩ | ⟨l,_,F⟩ <;> simp at F
 | own sz=>
  simp only [jw] at d;split at d
  .rename_i i;replace d:=SU.1 d;obtain⟨p,z,d⟩:=d;simp only [Ib] at z;split at z
   .rename_i sz' b xs hi;split at z
    .rename_i hsz;subst hsz;simp only [SR] at z;subst z;refine⟨_,_,_,(O i).toList,d, .one (hs.real (by rw [hi];simp)),λA j q=> ?_⟩;obtain⟨v',E,Z,_⟩:=hs.ah i _ hi;simp only [al] at hv;rw [E] at hv;simp only [SR] at hv;subst hv;exact⟨O i,(b,xs),rfl,by simp [T.aP],Z.mono (λb hb=>⟨j b hb,rfl⟩) (λb hb=>⟨by simpa using hb,rfl⟩)⟩
    .simp at z
   .simp at z
  .rename_i i sz1 n;split at d
   .rename_i sz2 b xs hi;split at d
    .rename_i g;obtain⟨rfl,rfl⟩:=g;refine⟨_,_,_,(O i).toList,d, .one (hs.real (by rw [hi];simp)),λA j q=> ?_⟩;obtain⟨v',E,⟨a,cap,rfl,f2,f3,_,Y⟩,_⟩:=hs.ah i _ hi;simp only [al] at hv;obtain⟨a1,L,cap1,U,D,M,e3,rfl,e4⟩:=hv;rw [E] at D;simp only [SR,Uf] at D;obtain⟨rfl,rfl,rfl⟩:=D;have G:(xs.take n).length=n:=by rw [T3];omega
     have ha:U=none↔a=none:=by
      rcases e4 with⟨_,rfl⟩ | ⟨_,h,_⟩ | ⟨_,_,rfl,rfl⟩
      .exact WX
      .exact h
      .simp
     refine⟨O i,(b,xs.take n),rfl,by simp [T.aP],U,cap,by rw [G];rfl,by rw [G];omega,by rw [ha];exact f3,trivial, ?_⟩
     .rcases Y with Y | ⟨ah,off,V,t',q1,q2,q3,q4,q5⟩
      .exact .inl Y
      .by_cases Q:cap=0
       .exact .inl Q
       .right;subst q1;have:U=some ⟨ah,off,none⟩:=by
         rcases e4 with⟨_,rfl⟩ | ⟨h,_⟩ | ⟨b',o,e5,rfl⟩
         .rfl
         .exact absurd h.symm Q
         .simp only [SR,T5] at e5;obtain⟨rfl,rfl,_⟩:=e5;simp
        exact⟨ah,off,V,t',this,by simpa using q2,q3,q4,(aY.nC (λb hb=>⟨j b hb,rfl⟩) ah _ rfl off xs q5).take n⟩
    .simp at d
   .simp at d
  .rename_i b;simp only [al,ax] at hv;refine⟨_,_,_,[],d, .nil,λA j q=>⟨none,(b,[]),rfl,by simp [T.aP], ?_⟩⟩;rcases hv with⟨rfl,rfl⟩ | ⟨rfl,ah,off,sp,rfl⟩
   .exact⟨none,0,rfl,by simp,by simp,trivial, .inl rfl⟩
   .exact⟨some ⟨ah,off,sp⟩,0,rfl,by simp,by simp,trivial, .inl rfl⟩
  .simp only [al,ax] at hv;refine⟨_,_,_,[],d, .nil,λA j q=>⟨none,(true,[]),rfl,by simp [T.aP], ?_⟩⟩;rcases hv with⟨_,_,rfl⟩ | ⟨h,_⟩
   .exact⟨none,0,rfl,by simp,by simp,trivial, .inl rfl⟩
   .cases h
  .simp at d
 | ref k off=>
  simp only [jw] at d;split at d
  .rename_i k' off';split at d
   .rename_i g;obtain⟨rfl,rfl,I⟩:=g;refine⟨_,_,_,[],d, .nil,λA j q=>⟨?_,rfl⟩⟩;simp only [al] at hv;obtain⟨b,D,rfl⟩:=hv;obtain⟨v,M,e3⟩:=hB _ I;rw [D] at e3;simp only [SR] at e3;subst e3;exact⟨b,M,rfl⟩
   .simp at d
  .simp at d
 | same k=>
  simp only [jw] at d;split at d
  .rename_i k';split at d
   .rename_i g;obtain⟨rfl,I⟩:=g;refine⟨_,_,_,[],d, .nil,λA j q=>⟨?_,rfl⟩⟩;simp only [al] at hv;obtain⟨v,M,e3⟩:=hB _ I;rw [hv] at e3;simp only [SR] at e3;subst e3;exact⟨M,kf hs hv⟩
   .simp at d
  .simp at d
 | no=>
  simp only [jw] at d;split at d
  .refine⟨_,_,_,[],d, .nil,λA j q=>⟨?_,rfl⟩⟩;simp only [al] at hv;obtain⟨b,_,rfl⟩:=hv;exact⟨rfl,rfl⟩
  .simp at d
 | rows sz az rsz=>
  simp only [jw] at d;split at d
  .rename_i i;split at d
   .rename_i b sz' col' rsz' nx es hi;split at d
    .rename_i g;obtain⟨rfl,rfl,rfl⟩:=g;replace d:=aL d (.inl rfl);obtain⟨_,C,d⟩:=d;have C:bJ es=true:=by
      split at C
      .assumption
      .cases C
     simp only [al] at hv;exact⟨_,_,_,_,d,(FA (B:=B) (l:= []) hs hi hv C).1,(FA hs hi hv C).2⟩
    .simp at d
   .simp at d
  .simp at d
 | mp ag ks vk=>
  simp only [jw] at d;split at d
  .rename_i i;split at d
   .rename_i ag' ks' vk' es hi;split at d
    .rename_i g;obtain⟨rfl,rfl,rfl⟩:=g;obtain⟨b,X,J,E,Z,g3,g4,g5⟩:=hs.ah i _ hi;simp only [al] at hv;rw [E] at hv;simp only [SR] at hv;subst hv;refine⟨_,_,_,[b],d, ?_,λA j q=>⟨es,b,X,J,rfl,rfl,rfl,g3,g4,g5⟩⟩;have:=fA.one (O:=O) (hs.real (i:=i) (by rw [hi];simp));rw [Z] at this;exact this
    .simp at d
   .simp at d
  .simp at d
 | agg l=>simp [jw] at d
 | new l=>simp [jw] at d
theorem xA{R:Type}{m:Nat}{B:Nat->Option Value}(j:iK m B ρ)(hs:HS c w h ρ O):∀{e:List bO} {vs:List AV} {us:List Value} {K:List T->List Id->List Id->Option R} {res:R},ay w (AA c w O) ρ vs us->na m h e vs K=some res->
  ∃xs a b own,K xs a b=some res/\fA O a own/\qM w c O b λA=>fj B w A e xs us own
 | [],[],us,K,res,hv,d=>by simp only [ay] at hv;subst hv;simp only [na] at d;exact⟨_,_,_,[],d, .nil,λA _ _=>⟨rfl,rfl,rfl⟩⟩
 | [],v::vs,us,K,res,hv,d=>by simp [na] at d
 | r::e,[],us,K,res,hv,d=>by simp [na] at d
 | r::e,v::vs,us,K,res,hv,d=>by simp only [ay] at hv;obtain⟨u,l,rfl,h1,z⟩:=hv;simp only [na] at d;obtain⟨x,a,b,ob,d,o,q⟩:=Fz j hs h1 d;obtain⟨xs,D,E,own,d,p,y⟩:=xA j hs z d;refine⟨_,_,_,_,d,o.append p,λA g k=> ?_⟩;have C:=q A g (λi ah hi hr f=>k i ah (Tf _ hi) hr f);exact⟨x,xs,u,l,ob,own,rfl,rfl,rfl,C,y A g (λi ah hi hr f=>k i ah (Te _ hi) hr f)⟩
theorem xB{R:Type}{m:Nat}{B:Nat->Option Value}(z:iK m B ρ)(hs:HS c w h ρ O):∀{y:List bO} {vs:List AV} {us:List Value} {K:List T->List Id->List Id->Option R} {res:R},ay w (AA c w O) ρ vs us->bP m h y vs K=some res->
  ∃xs a b own,K xs a b=some res/\fA O a own/\qM w c O b λA=>dC B w A y xs us own
 | [],[],us,K,res,hv,d=>by simp only [ay] at hv;subst hv;simp only [bP] at d;exact⟨_,_,_,[],d, .nil,λA _ _=>⟨rfl,rfl,rfl⟩⟩
 | [],v::vs,us,K,res,hv,d=>by simp [bP] at d
 | r::y,[],us,K,res,hv,d=>by cases r <;> simp [bP] at d
 | r::y,v::vs,us,K,res,hv,d=>by
  simp only [ay] at hv;obtain⟨u,p,rfl,h1,Q⟩:=hv
  have e:(jw m h r v λx a b=>bP m h y vs λxs I J=>K (x::xs) (a++I) (b++J))=some res->(∀l,r≠ .agg l)->(∀l,r≠ .new l)->
    ∃xs a b own,K xs a b=some res/\fA O a own/\qM w c O b λA=>dC B w A (r::y) xs (u::p) own:=by
   intro d hr X;obtain⟨x,a,b,ob,d,C,E⟩:=Fz z hs h1 d;obtain⟨xs,I,J,own,d,D,F⟩:=xB z hs Q d;refine⟨_,_,_,_,d,C.append D,λA j o=> ?_⟩;have q:=E A j (λi ah hi hr g=>o i ah (Tf _ hi) hr g);have:∃Y N v M L G,x::xs=Y::N/\u::p=v::M/\ob++own=L++G/\jH B w A r Y v L/\dC B w A y N M G:=
    ⟨x,xs,u,p,ob,own,rfl,rfl,rfl,q,F A j (λi ah hi hr g=>o i ah (Te _ hi) hr g)⟩
   cases r with
   | agg l=>exact(hr l rfl).elim
   | new l=>exact(X l rfl).elim
   | _=>exact this
  cases r with
  | f k=>exact e (by simpa [bP] using d) (by simp) (by simp)
  | t k=>exact e (by simpa [bP] using d) (by simp) (by simp)
  | own sz=>exact e (by simpa [bP] using d) (by simp) (by simp)
  | rows sz az rsz=>exact e (by simpa [bP] using d) (by simp) (by simp)
  | mp ag ks vk=>exact e (by simpa [bP] using d) (by simp) (by simp)
  | new l=>
   simp only [bP] at d;split at d
   .rename_i i;split at d
    .rename_i cs hi;obtain⟨Z,arr,ty,e1,e2,e3,e4,e5⟩:=hs.ah i _ hi;simp only [al] at h1;obtain⟨b,q,rfl⟩:=h1;rw [e1] at q;simp only [SR,UP,T5] at q;obtain⟨rfl,_⟩:=q;obtain⟨xs,a,b,o1,d,C,E⟩:=xA z hs e4 d;obtain⟨V,I,J,U,d,D,F⟩:=xB z hs Q d;refine⟨_,_,_,_,d,(fA.one (hs.real (i:=i) (by rw [hi];simp))).append (C.append D),λA j o=> ?_⟩;exact⟨xs,V,Z,arr,ty,p,o1,U,rfl,by simp,by simp [e2],e3,E A j (λi ah hi hr g=>o i ah (Tf _ hi) hr g),F A j (λi ah hi hr g=>o i ah (Te _ hi) hr g)⟩
    .simp at d
   .simp at d
  | ref k off=>exact e (by simpa [bP] using d) (by simp) (by simp)
  | same k=>exact e (by simpa [bP] using d) (by simp) (by simp)
  | no=>exact e (by simpa [bP] using d) (by simp) (by simp)
  | agg l=>
   cases v with
   | agg cs=>simp only [bP] at d;simp only [al] at h1;obtain⟨ws,rfl,q,k2⟩:=h1;obtain⟨xs,a,b,o1,d,C,E⟩:=xA z hs q d;obtain⟨V,I,J,U,d,D,F⟩:=xB z hs Q d;refine⟨_,_,_,_,d,C.append D,λA j o=> ?_⟩;exact⟨xs,V,ws,p,o1,U,rfl,rfl,rfl,E A j (λi ah hi hr g=>o i ah (Tf _ hi) hr g),F A j (λi ah hi hr g=>o i ah (Te _ hi) hr g)⟩
   | _=>simp [bP] at d
def yE(tmps:Array Value):ResultVar->Sem Value
 | .tmp t=>pure (tmps.getD t undef)
 | .cell b t=>do loadVar t (<-asAddr (tmps.getD b undef))
theorem Qf(fn:Func)(tmps:Array Value):results fn tmps= (do
  let vs <-fn.results.mapM (yE tmps)
  pure (if h:vs.size=1 then vs[0] else .tuple vs)):=rfl
theorem Cq{R:Type}{a:Act}(hs:HS c w s.h ρ O)(g:SS w (AA c w O) ρ s.t a.tmps):∀{l:List ResultVar} {K:List AV->Option R} {r:R},sa P s l K=some r->
  ∃vs us,K vs=some r/\ay w (AA c w O) ρ vs us/\(l.mapM (yE a.tmps)).run P w= .ok us w
 | [],K,r,h=>⟨[],[],h,by simp [ay],by simp⟩
 | .tmp k::l,K,r,h=>by
  simp only [sa] at h;have d:=g k;split at h
  .rename_i v e;rw [e] at d;obtain⟨vs,us,h1,i,j⟩:=Cq hs g h;refine⟨v::vs,_::us,h1,by simp only [ay];exact⟨_,us,rfl,d,i⟩, ?_⟩;rw [Xw];simp only [yE,Tp,TD,Td,j]
  .simp at h
 | .cell k t::l,K,r,h=>by
  simp only [sa] at h;have d:=g k;split at h
  .rename_i v e;rw [e] at d;obtain⟨av,y,m,f,hv⟩:=Hf hs d (.inl rfl) h;obtain⟨vs,us,h1,i,j⟩:=Cq hs g m;refine⟨av::vs,y::us,h1,by simp only [ay];exact⟨y,us,rfl,hv,i⟩, ?_⟩;rw [Xw];have:(do loadVar t (<-asAddr (a.tmps.getD k undef)):Sem Value).run P w= .ok y w:=by
    rw [<-f];generalize a.tmps.getD k undef=o at *
    unfold Instr.loadAt at *
    cases o with
    | pointer p=>
     cases p with
     | none=>simp [Instr.sureAddr,runtimePanic] at f
     | some b=>simp [Instr.sureAddr,asAddr]
    | _=>simp [Instr.sureAddr,runtimePanic] at f
   simp only [yE,Tp,TD,Td] at this⊢;rw [this];simp only [Td,j]
  .simp at h
theorem tI{R:Type}{m:Nat}{B:Nat->Option Value}(g:iK m B ρ)(hs:HS c w h ρ O):∀{os:List jG} {j:Nat} {K:List T->List Id->List Id->Option R} {res:R},j+os.length<=m->lM m h j os K=some res->
  ∃xs a b own,K xs a b=some res/\fA O a own/\qM w c O b λA=>oh B w A j os xs own
 | [],j,K,res,_,d=>by simp only [lM] at d;exact⟨_,_,_,[],d, .nil,λA _ _=>⟨rfl,rfl⟩⟩
 | .box l::os,j,K,res,hm,d=>by
  simp only [Tr] at hm;simp only [lM] at d;split at d
  .rename_i cs hi;obtain⟨E,arr,t,h1,x,G,I,L⟩:=hs.ah _ _ hi;obtain⟨xs,a,b,o1,d,N,Q⟩:=xA g hs I d;obtain⟨r,C,D,q,d,o,p⟩:=tI g hs (by omega) d;refine⟨_,_,_,_,d,(fA.one (i:= .c j) rfl).append (N.append o),λA f k=> ?_⟩;obtain⟨v,u,e⟩:=g j (by omega);rw [h1] at e;simp only [SR] at e;subst e;exact⟨xs,r,E,arr,t,o1,q,rfl,by simp [x],u,G,Q A f (λi ah hi hr J=>k i ah (Tf _ hi) hr J),p A f (λi ah hi hr J=>k i ah (Te _ hi) hr J)⟩
  .simp at d
 | .sl sz::os,j,K,res,hm,d=>by
  simp only [Tr] at hm;simp only [lM] at d;split at d
  .rename_i Y bb l hi;split at d
   .rename_i M;subst M;obtain⟨v,h1,x,_⟩:=hs.ah _ _ hi;obtain⟨r,C,D,q,d,o,p⟩:=tI g hs (by omega) d;refine⟨_,_,_,_,d,(fA.one (i:= .c j) rfl).append o,λA f k=> ?_⟩;obtain⟨U,u,e⟩:=g j (by omega);rw [h1] at e;simp only [SR] at e;subst e;exact⟨bb,l,r,O (.c j),_,q,rfl,rfl,u,x.mono (λb hb=>⟨f b hb,rfl⟩) (λb hb=>⟨by simpa using hb,rfl⟩),p A f k⟩
   .simp at d
  .simp at d
 | .mp ag ks vk::os,j,K,res,hm,d=>by
  simp only [Tr] at hm;simp only [lM] at d;split at d
  .rename_i V X Z es hi;split at d
   .rename_i z;obtain⟨rfl,rfl,rfl⟩:=z;obtain⟨E,F,y,h1,x,G,I,L⟩:=hs.ah _ _ hi;obtain⟨r,C,D,q,d,o,p⟩:=tI g hs (by omega) d;refine⟨_,_,_,_,d,(fA.one (i:= .c j) rfl).append o,λA f k=> ?_⟩;obtain⟨U,u,e⟩:=g j (by omega);rw [h1] at e;simp only [SR] at e;subst e;exact⟨es,E,F,y,r,q,rfl,by simp [x],u,G,I,L,p A f k⟩
   .simp at d
  .simp at d
 | .dead::os,j,K,res,hm,d=>by simp only [Tr] at hm;simp only [lM] at d;obtain⟨r,C,D,q,d,o,p⟩:=tI g hs (by omega) d;exact⟨_,_,_,q,d,o,λA f k=>p A f k⟩
theorem Ge{f:FuncId}{fn:Func}{nt:Nat}{m:Nat×Nat}{B:Nat->Option Value}{xs:List T}{a:Act}(I:iK m.1 B ρ)(d:eH c nt w s ρ O a)(h:xJ P An f fn m s=some xs):
  ∃v,(results fn a.tmps).run P w= .ok v w/\Fin P c B (de P An f m.2 fn) (gS An f m.2) xs (fC O) w v w:=by
 unfold xJ at h;obtain⟨vs,us,h,h1,D⟩:=Cq d.hs d.ss h;split at h
 .rename_i hm;obtain⟨Y,L,X,o1,h,N,E⟩:=xB I d.hs h1 h;obtain⟨Z,C,M,r,h,Q,x⟩:=tI I d.hs (by omega) h;split at h
  .rename_i p;simp only [SR] at h;subst h;simp only [S0,Tk,Ul] at p;have K:=Hm p.1;have z:=N.append Q;have g:∀b,b∈o1++r->∃i,Of (L++C) i/\O i=some b:=λb hb=>z.mem hb;have G:∀k,AA c w O k->(c.A0 k\/c.MO k)/\k < w.heap.size/\k∉o1++r:=by
    intro b hb;refine⟨hb.1,hb.2.1,λhm=> ?_⟩;obtain⟨i,hi,e⟩:=g b hm;exact hb.2.2 i e
   have J:∀i ah,i∈X++M->i.real=true->O i=some ah->(c.A0 ah\/c.MO ah)/\ah < w.heap.size/\ah∉o1++r:=by
    intro i ah hi hr l;refine⟨.inr (d.hs.own i ah l),d.hs.lt i ah l,λhm=> ?_⟩;obtain⟨j,F,e⟩:=g ah hm;have:=d.hs.inj i j ah l e;subst this;have h1:=p.2 i hi;rcases F with F | ⟨y,n,_,U⟩
    .have D:(L++C).contains i=true:=by simpa using F
     rw [D] at h1;cases h1
    .rw [U] at hr;cases hr
   have o:(o1++r).Nodup:=by obtain⟨_,ids,e,n,_⟩:=z;rw [e];exact DX d.hs (n K)
   refine⟨o5 us, ?_,rfl,rfl,rfl,Tl _,λ_ _ _=>rfl,us,Y,Z,o1,r,rfl,rfl,o,λb hb=> ?_, ?_, ?_⟩
   .rw [Qf,Array.mapM_eq_mapM_toList];simp only [Tp,map_eq_pure_bind,TD];rw [D];simp only [Td];congr 1;unfold o5;split
    .rename_i q;have V:us.length=1:=by simpa using q
     obtain⟨u,rfl⟩:=List.length_eq_one_iff.1 V;rfl
    .rename_i q;split
     .rename_i u;simp at q
     .rfl
   .obtain⟨i,hi,e⟩:=g b hb;exact⟨d.hs.own i b e,d.hs.lt i b e⟩
   .exact E _ G λi ah hi hr l=>J i ah (Tf _ hi) hr l
   .exact x _ G λi ah hi hr l=>J i ah (Te _ hi) hr l
  .simp at h
 .simp at h
end
open Go
section
variable {P:Program} {An:cE} {Or:aA} {w w':World} {A A':Nat->Prop} {c:Ctx} {ρ:Id->Option Value} {O:Id->Option Nat} {s s':St} {h:Id->Option aa}
theorem BV{v:AV}{u:Value}(hs:HS c w h ρ O)(hv:al w (AA c w O) ρ v u):al w (AA c w O) ρ (nG h v) u:=by
 cases v
 case own i=>
  simp only [nG];split
  .rename_i sz b xs hi;have k:O i=none:=by
    obtain⟨_,_,_,a⟩:=hs.ah i _ hi;exact a rfl
   have:=mN (x:= .ae sz b xs) (A':=AA c w O) hs hv (by simp [du,hi]) (λ_ h=>h) (λj ah g d=>by
    rcases g with e | ⟨_,_,_,e⟩ | ⟨_,e⟩
    .cases e;rw [k] at d;cases d
    .cases e
    .cases e)
   simpa [al] using this
  .exact hv
 case part i sz off n=>
  simp only [nG];split
  .rename_i p b xs hi;split
   .rename_i m;have k:O i=none:=by
     obtain⟨_,_,_,a⟩:=hs.ah i _ hi;exact a rfl
    have:=mN (x:= .ae sz b ((xs.drop off).take n)) (A':=AA c w O) hs hv (by simp [du,hi,m]) (λ_ h=>h) (λj ah g d=>by
     rcases g with e | ⟨_,_,_,e⟩ | ⟨_,e⟩
     .cases e
     .cases e;rw [k] at d;cases d
     .cases e)
    simpa [al] using this
   .exact hv
  .exact hv
 case ref i off=>
  simp only [nG];split
  .rename_i l hi;obtain⟨b,h1,r,a,o⟩:=hs.ah i _ hi;simp only [al] at hv;obtain⟨q,f,rfl⟩:=hv;rw [h1] at f;simp only [SR,UP,T5] at f;obtain⟨rfl,_⟩:=f;simp only [al,ax];refine⟨b,off,rfl, .inr a, ?_⟩;have:=o.drop off;rwa [TC] at this
  .exact hv
 all_goals exact hv
theorem Oh{k:Nat×Option Nat}{p:AV×aH}{tmps:Array Value}{f:Id->Option Value}(hs:HS c w s.h ρ O)(j:SS w (AA c w O) ρ s.t tmps)(e:ud s k=some p)(d:∀i v,ρ i=some v->f i=some v)
  (h1:∀q∈p.2,f q.1=some (tmps.getD k.1 undef)):al w (AA c w O) f p.1 (tmps.getD k.1 undef):=by
 unfold ud at e;have a:=j k.1;split at e
 .simp at e
 .rename_i v g;rw [g] at a;simp only at a;split at e
  .simp only [SR] at e;subst e;exact al.mono (λb hb=>⟨hb,rfl⟩) d _ _ (BV hs a)
  .split at e
   .simp only [SR] at e;subst e;exact al.mono (λb hb=>⟨hb,rfl⟩) d _ _ (BV hs a)
   split at e
   .split at e
    .simp only [SR] at e;subst e;exact al.mono (λb hb=>⟨hb,rfl⟩) d _ _ a
    .simp at e
   .simp only [SR] at e;subst e;simp only [al];exact h1 _ (Tc.2 rfl)
   .simp at e
theorem He{tmps:Array Value}{f:Id->Option Value}(hs:HS c w s.h ρ O)(o:SS w (AA c w O) ρ s.t tmps)(j:∀i v,ρ i=some v->f i=some v):∀{l:List (Nat×Option Nat)} {p:List AV×aH},oK s l=some p->
  (∀q∈p.2,∀k,q.1= .s (1000000+k) 0->f q.1=some (tmps.getD k undef))->ay w (AA c w O) f p.1 (l.map λk=>tmps.getD k.1 undef)/\
   ∀q∈p.2,∃k sz b,q= (.s (1000000+k) 0, .sl false sz b [])/\ax w (AA c w O) (.aO b) (tmps.getD k undef)
 | [],p,e,_=>by simp only [oK,SR] at e;subst e;exact⟨by simp [ay],(by intro q a;cases a)⟩
 | k::l,p,e,h1=>by
  simp only [oK] at e;replace e:=SU.1 e;obtain⟨x,d,e⟩:=e;replace e:=SU.1 e;obtain⟨y,hy,e⟩:=e;simp only [SR] at e;subst e;have g:∀q∈x.2,∃sz b,q= (.s (1000000+k.1) 0, .sl false sz b [])/\ax w (AA c w O) (.aO b) (tmps.getD k.1 undef):=by
   intro q a;have m:=o k.1;unfold ud at d;split at d
   .simp at d
   .rename_i v r;rw [r] at m;simp only at m;split at d
    .simp only [SR] at d;subst d;cases a
    .split at d
     .simp only [SR] at d;subst d;cases a
     split at d
     .split at d
      .simp only [SR] at d;subst d;cases a
      .simp at d
     .simp only [SR] at d;subst d;simp only [Tc] at a;subst a;exact⟨_,_,rfl,by simpa [al] using m⟩
     .simp at d
  obtain⟨u,z⟩:=He hs o j hy (λq a=>h1 q (Te _ a));refine⟨?_,λq a=> ?_⟩
  .simp only [TQ,ay];refine⟨_,_,rfl,Oh hs o d j (λq a=> ?_),u⟩;obtain⟨sz,b,e,_⟩:=g q a;exact h1 q (Tf _ a) k.1 (by rw [e])
  .rcases Tm.1 a with a | a
   .obtain⟨sz,b,e,hr⟩:=g q a;exact⟨k.1,sz,b,e,hr⟩
   .exact z q a
theorem J5:∀{us:aH} {h:Id->Option aa} {i:Id} {b:aa},aK h us i=some b->(i,b)∈us\/((∀q∈us,q.1≠i)/\h i=some b)
 | [],h,i,b,e=> .inr ⟨by simp,e⟩
 | (j,x)::us,h,i,b,e=>by
  rw [cY] at e;rcases J5 e with e | ⟨g,a⟩
  .exact .inl (SY _ e)
  .by_cases d:i=j
   .subst d;rw [aD] at a;simp only [SR] at a;subst a;exact .inl SW
   .rw [ar _ _ d] at a;refine .inr ⟨λq f=> ?_,a⟩;rcases Tg.1 f with rfl | f
    .exact λe=>d e.symm
    .exact g q f
theorem HS.Kh{us:aH}{a:Id->Option Value}(hr:∀q∈us,q.1.real=true)(hs:HS c w h ρ O)(r:∀q∈us,h q.1=none)(o:∀q∈us,∃sz b u,q.2= .sl false sz b []/\a q.1=some u/\ax w A (.aO b) u)
  (d:∀i,(∀q∈us,q.1≠i)->a i=ρ i):HS c w (aK h us) a O:=by
 have mono:∀i v,ρ i=some v->a i=some v:=by
  intro i v hi;rw [d i (λq f e=> ?_)]
  .exact hi
  .have:=(hs.ch _ (hr q f) (r q f)).1;rw [e,hi] at this;cases this
 have j:∀i n,∀q∈us,q.1≠ .g i n:=λi n q f e=>by have:=hr q f;rw [e] at this;cases this
 have le:Le w ρ O w a O:=⟨rfl,rfl,rfl,Tl _,mono,λ_ _ _=>rfl,λi b h=> .inl ⟨i,h⟩⟩;refine hs.go le (λi n=>⟨d _ (j i n),rfl,λ_ _=>rfl⟩) (λi b hb=> ?_) (λi m hi=> ?_) (λi hi=>(za hi).2) (λi n=>by rw [dK (j i n)];exact hs.dH i n) hs.inj hs.lt
 .rcases J5 hb with hm | ⟨_,hb⟩
  .right;obtain⟨sz,x,u,k,l,e3⟩:=o _ hm;simp only at k l;subst k;refine⟨u,l, ?_,by simp⟩;simp only [ax] at e3;rcases e3 with⟨rfl,rfl⟩ | ⟨rfl,ah,off,sp,rfl⟩
   .exact⟨none,0,rfl,by simp,by simp,by simp, .inl rfl⟩
   .exact⟨some ⟨ah,off,sp⟩,0,rfl,by simp,by simp,trivial, .inl rfl⟩
  .exact .inl ⟨hb,rfl,λ_ _=>rfl⟩
 .obtain⟨h1,p⟩:=za hi;rw [d i h1];exact hs.ch i m p
theorem Hh{a:Id->Option Value}{tmps:Array Value}:∀{live:List (Nat×Option Nat)} {bc:List AV},ay w A a bc (live.map λk=>tmps.getD k.1 undef)->∀k,al w A a (np.look live bc k) (tmps.getD k undef)
 | [],bc,hv,k=>by cases bc <;> simp [np.look,al]
 | (j,o)::live,bc,hv,k=>by
  cases bc with
  | nil=>simp [ay] at hv
  | cons v bc=>
   simp only [TQ,ay,UT] at hv;obtain⟨u,r,⟨rfl,rfl⟩,h1,b⟩:=hv;simp only [np.look];split
   .rename_i e;subst e;exact h1
   .exact Hh b k
def uo:List Item->List Item
 | .inLoop b::k=> .code b:: .inLoop b::k
 | t=>t
def pB(P:Program)(An:cE)(Or:aA):Prop:= ∀f fn todo live m bc b xs,Or (.node f todo live m) bc b=some xs->P.funcs[f]? =some fn->
 ∀c w ρ O a B,iK m.1 B ρ->eH c fn.ntmps w (np live bc b) ρ O a->Ends P f fn (uo todo) a w (Fin P c B (de P An f m.2 fn) (gS An f m.2) xs (fC O) w)
theorem eH.CK{nt:Nat}{a:Act}{h':Id->Option aa}{ρ':Id->Option Value}{O':Id->Option Nat}(d:eH c nt w s ρ O a)(le:Le w ρ O w ρ' O')(hs:HS c w h' ρ' O'):eH c nt w {t:=s.t,h:=h'} ρ' O' a:=
 ⟨hs,SS.mono (λb hb=>le.A b hb) le.eF d.ss,d.nt,d.defers⟩
theorem iK.le{m:Nat}{B:Nat->Option Value}{ρ':Id->Option Value}(h:iK m B ρ)(le:∀i v,ρ i=some v->ρ' i=some v):iK m B ρ':=λj d=>by obtain⟨v,a,b⟩:=h j d;exact⟨v,a,le _ _ b⟩
theorem BE{s:St}:∀{live:List (Nat×Option Nat)} {p:List AV×aH},oK s live=some p->∀q∈p.2,∃k,q.1=Id.s (1000000+k) 0
 | [],p,a,q,b=>by simp only [oK,SR] at a;subst a;cases b
 | k::live,p,a,q,b=>by
  simp only [oK] at a;obtain⟨e,h1,a⟩:=SU.1 a;obtain⟨f,d,a⟩:=SU.1 a;simp only [SR] at a;subst a;rcases Tm.1 b with b | b
  .unfold ud at h1;split at h1
   .cases h1
   .split at h1
    .simp only [SR] at h1;subst h1;cases b
    .split at h1
     .simp only [SR] at h1;subst h1;cases b
     .split at h1
      .split at h1
       .simp only [SR] at h1;subst h1;cases b
       .cases h1
      .simp only [SR] at h1;subst h1;rw [Tc.1 b];exact⟨_,rfl⟩
      .cases h1
  .exact BE d q b
theorem RB{f:FuncId}{fn:Func}{todo:List Item}{live:List (Nat×Option Nat)}{m:Nat×Nat}{B:Nat->Option Value}{xs:List T}{a:Act}(hN:pB P An Or)(M:P.funcs[f]? =some fn)(hB:iK m.1 B ρ)(o:eH c fn.ntmps w s ρ O a)(e:yX Or f todo live m s=some xs):
  Ends P f fn (uo todo) a w (Fin P c B (de P An f m.2 fn) (gS An f m.2) xs (fC O) w):=by
 unfold yX at e;replace e:=SU.1 e;obtain⟨p,I,e⟩:=e;split at e
 .rename_i u;replace e:=SU.1 e;obtain⟨seen,r,e⟩:=e;let l:Id->Option Value:=λi=>if p.2.any (λq=>decide (q.1=i)) then(match i with | .s d _=>some (a.tmps.getD (d - 1000000) undef) | _=>none) else ρ i;have L:∀q∈p.2,s.h q.1=none:=by
   intro q g;have:=Tk.1 u q g;simpa using this
  have y:∀i,(∀q∈p.2,q.1≠i)->l i=ρ i:=by
   intro i hi;have:p.2.any (λq=>decide (q.1=i))=false:=by rw [List.any_eq_false];intro q g;simpa using hi q g
   simp only [l,this,Tv,if_false]
  have D:∀q∈p.2,∀k,q.1= .s (1000000+k) 0->l q.1=some (a.tmps.getD k undef):=by intro q g k e;have:p.2.any (λx=>decide (x.1=q.1))=true:=List.any_eq_true.2 ⟨q,g,by simp⟩;simp only [l,this,if_true];rw [e];simp
  have mono:∀i v,ρ i=some v->l i=some v:=by
   intro i v hi;rw [y i (λq g e=> ?_)]
   .exact hi
   .cases hr:q.1.real with
    | true=>have:=(o.hs.ch _ hr (L q g)).1;rw [e,hi] at this;cases this
    | false=>have hm:p.2.any (λx=>decide (x.1=q.1))=true:=List.any_eq_true.2 ⟨q,g,by simp⟩;obtain⟨k,E⟩:=BE I q g;rw [E] at hr;cases hr
  obtain⟨hv,U⟩:=He o.hs o.ss mono I D;have N:HS c w (aK s.h p.2) l O:=o.hs.Kh (λq g=>by obtain⟨k,E⟩:=BE I q g;rw [E];rfl) L (A:=AA c w O) (λq g=>by
   obtain⟨k,sz,b,e,hr⟩:=U q g;exact⟨sz,b,_,by rw [e],D q g k (by rw [e]),hr⟩) y
  obtain⟨Z,g2,g3,g4,g5⟩:=uF r WA (by simp) (by simp);obtain⟨Q,z⟩:=N.rn Z g4 g5;have hA:∀b,AA c w O b->AA c w (cd seen O) b:=λb hb=>⟨hb.1,hb.2.1,λi hi=>by
   obtain⟨k,hk⟩:=z b ⟨i,hi⟩;exact hb.2.2 k hk⟩
  have V:=ay.rn (m:=seen) hA _ _ (λi hi=>g3 i (Te _ hi)) hv;have J:eH c fn.ntmps w (np live (kg seen p.1) (seen.map λi=>gT seen (aK s.h p.2 i))) (cd seen l) (cd seen O) a:=
   ⟨Q,λk=>Hh V k,o.nt,o.defers⟩
  have C:=Iy r (by
   exact List.pairwise_map.2 (List.nodup_range.imp λh e=>h (by simpa using e))) (by simp)
  rw [S8] at C;have K:iK m.1 B (cd seen l):=by
   intro j G;obtain⟨v,X,Y⟩:=hB.le mono j G;refine⟨v,X, ?_⟩;obtain⟨t,ht⟩:=C;have:seen[j]? =some (.c j):=by rw [<-ht,Uj (by simpa using G)];simp [G]
   simp [cd,this,Y]
  exact(hN f fn todo live m _ _ xs e M c w _ _ a B K J).mono λv w' F=>F.own z
 .simp at e
theorem xP:∀{l:List (Nat×Option Nat)},gw s.h (nq s l)
 | []=>by intro p a;cases a
 | (k,none)::l=>by simp only [nq];exact xP
 | (k,some 0)::l=>by simp only [nq];exact(tR _).append xP
 | (k,some (n+1))::l=>by
  simp only [nq];refine gw.append ?_ xP;cases Nat.beq n 999998 with
  | false=>intro p a;cases a
  | true=>
   show gw s.h (Bh s.h (s.t k).2);unfold Bh;split
   .split
    .exact Bg _
    .intro p a;cases a
   .intro p a;cases a
theorem Ph{h:Id->Option aa}(hs:HS c w h ρ O)(v:AV):HS c w (BW h v) ρ O:=by
 unfold BW;split
 .rename_i i off;split
  .rename_i cs hi;obtain⟨b,arr,t,h1,p,q,y,z⟩:=hs.ah i _ hi;have g:=hs.real (i:=i) (by rw [hi];simp);have B:ay w (AA c w O) ρ (cs.map (nG h)) arr.toList:=by
    have d:∀(l:List AV) (us:List Value),ay w (AA c w O) ρ l us->ay w (AA c w O) ρ (l.map (nG h)) us:=by
     intro l;induction l with
     | nil=>intro us h;exact h
     | cons x l C=>intro us h;simp only [TQ,ay] at h⊢;obtain⟨u,r,e,j,o⟩:=h;exact⟨u,r,e,BV hs j,C r o⟩
    exact d _ _ y
   rw [dZ];refine hs.go Le.refl (λk m=>⟨rfl,rfl,λ_ _=>rfl⟩) (λk x a=> ?_) (λk f a=> ?_) (λk a=> ?_) (λk m=>by rw [ar _ _ (aM g)];exact hs.dH k m) hs.inj hs.lt
   .by_cases e:k=i
    .subst e;rw [aD] at a;simp only [SR] at a;subst a;exact .inr ⟨b,arr,t,h1,p,q,B,z⟩
    .rw [ar _ _ e] at a;exact .inl ⟨a,rfl,λ_ _=>rfl⟩
   .by_cases e:k=i
    .subst e;rw [aD] at a;cases a
    .rw [ar _ _ e] at a;exact hs.ch k f a
   .by_cases e:k=i
    .subst e;rw [aD] at a;cases a
    .rw [ar _ _ e] at a;exact a
  .exact hs
 .exact hs
theorem BX{t:Nat->Option Gs×AV}:∀{l:List (Nat×Option Nat)} {h:Id->Option aa},HS c w h ρ O->HS c w (rX t h l) ρ O
 | [],h,hs=>hs
 | (k,some n)::l,h,hs=>by
  simp only [rX];refine BX ?_;cases Nat.beq n 999999 with
  | true=>exact Ph hs _
  | false=>exact hs
 | (k,none)::l,h,hs=>by simp only [rX];exact BX hs
theorem CY{f:FuncId}{fn:Func}{todo:List Item}{live:List (Nat×Option Nat)}{m:Nat×Nat}{B:Nat->Option Value}{xs:List T}{a:Act}(u:pB P An Or)(k:P.funcs[f]? =some fn)(r:iK m.1 B ρ)(g:eH c fn.ntmps w s ρ O a)(e:l9 Or f todo live m s=some xs):
  Ends P f fn (uo todo) a w (Fin P c B (de P An f m.2 fn) (gS An f m.2) xs (fC O) w):=by
 unfold l9 at e;obtain⟨us,q,e⟩:=SU.1 e;obtain⟨y,cU,o,_⟩:=g.hs.rI xP;have d:=g.CK cU o;obtain⟨x,z,b,p⟩:=Cb d.hs q;have j:=d.CK b (BX (t:=s.t) (l:=live) p);exact(RB u k (r.le b.eF) j e).mono λv w' i=>Fin.le cU (Fin.le b i)
theorem Gj(live:List (Nat×Option Nat))(bc:List AV)(a:List aa):nY (np live bc a):=by intro k g v e;simp [np] at e
theorem cK.RC{sz:Nat}{b:Bool}{xs:List (List T)}{v:Value}{Q:Nat->Prop}(h:cK w A sz b xs v Q)(l:∀d,Q d->A d):ax w A (.ae sz b xs) v:=by
 obtain⟨a,cap,rfl,f,g,_,i⟩:=h;simp only [ax];cases a with
 | none=>
  rcases i with rfl | ⟨_,_,_,_,e,_⟩
  .have:xs= []:=To.1 (by omega);subst this;exact .inl ⟨g.1 rfl,rfl,rfl⟩
  .cases e
 | some a=>
  have hb:b=false:=by
   cases b with
   | false=>rfl
   | true=>have:=g.2 rfl;cases this
  obtain⟨ah,off,sp⟩:=a;right;rcases i with rfl | ⟨blk',off',arr,t,e,j,m,o,k⟩
  .have:xs= []:=To.1 (by omega);subst this;exact⟨hb,ah,off,sp,0,rfl,f, .inl rfl,by simp [aY]⟩
  .cases e;exact⟨hb,ah,off,none,cap,rfl,f, .inr ⟨rfl,l _ j⟩,k⟩
theorem aV.uv{ah:Nat}:∀{cs:List T} {off:Nat},(∀(j:Nat) (x:T),cs[j]? =some x->∃v,w.cell? ⟨ah,off+j,none⟩=some v/\ax w A x v)->aV w A ah off cs
 | [],_,_=>by simp [aV]
 | x::cs,off,h=>by simp only [aV];refine⟨by simpa using h 0 x rfl,aV.uv λj y a=> ?_⟩;have:=h (j+1) y (by simpa using a);rw [show off+1+j=off+ (j+1) by omega];exact this
theorem II{i:Id}{ah sz az rsz:Nat}:∀{es:List Row} {base:Nat},bJ es=true->bZ w A ρ O i ah sz az rsz base es->(∀e∈es,∀d,O (.g i e.n)=some d->A d)->aY w A ah sz base (es.map (uJ az rsz))
 | [],_,_,_,_=>by simp [aY]
 | e::es,base,b,hr,l=>by
  simp only [bJ,Uu,S0] at b;obtain⟨m,o⟩:=hr;simp only [TQ,aY];obtain⟨q,I,r,u,v,J,z⟩:=m;have key:∃x,uJ az rsz e=e.cs.set az x/\ax w A x u:=by
   obtain⟨K,G,B⟩:=e;cases B with
   | none=>simp at b
   | some p=>refine⟨_,rfl, ?_⟩;exact cK.RC z λd D=>l _ SW d D
  obtain⟨x,F,E⟩:=key;rw [F];refine⟨by rw [TT];exact q,aV.uv λj y a=> ?_,II b.2 o λf C=>l f (SY _ C)⟩;rw [Ue] at a;split at a
  .rename_i k;subst k;split at a
   .cases a;exact⟨u,v,E⟩
   .cases a
  .rename_i k;exact r j y (λe=>k e.symm) a
theorem HS.Q7{i:Id}{b:Bool}{sz az rsz nx:Nat}{es:List Row}(hs:HS c w h ρ O)(hi:h i=some (.rows b sz az rsz nx es))(B:bJ es=true):
  ∃O',Le w ρ O w ρ O'/\HS c w (aB h i (some (.sl true sz b (es.map (uJ az rsz))))) ρ O':=by
 classical
 have q:=hs.real (i:=i) (by rw [hi];simp);let Q:Id->Option Nat:=λx=>if Of [i] x then none else O x;have D:Q i=none:=if_pos (.inl SW);have U:∀n,Q (.g i n)=none:=λn=>if_pos (.inr ⟨i,n,SW,rfl⟩);have o:∀x d,Q x=some d->O x=some d/\¬Of [i] x:=by
  intro x d k;simp only [Q] at k;split at k
  .cases k
  .rename_i F;exact⟨k,F⟩
 have v:∀x,x.real=true->x≠i->Q x=O x:=by
  intro x hr k;refine if_neg ?_;rintro(hm | ⟨j,n,_,rfl⟩)
  .exact k (Tc.1 hm)
  .cases hr
 have z:∀x n,x≠i->Q (.g x n)=O (.g x n):=by
  intro x n k;refine if_neg ?_;rintro(hm | ⟨j,m,E,e⟩)
  .rw [<-Tc.1 hm] at q;cases q
  .simp only [Id.g.injEq] at e;exact k (e.1.trans (Tc.1 E))
 have le:Le w ρ O w ρ Q:=⟨rfl,rfl,rfl,Tl _,λ_ _ h=>h,λ_ _ _=>rfl,λx d k=> .inl ⟨x,(o x d k).1⟩⟩;have r:∀x d,Of [i] x->O x=some d->AA c w Q d:=by intro x d k p;refine⟨.inr (hs.own x d p),hs.lt x d p,λy hy=> ?_⟩;obtain⟨G,k2⟩:=o y d hy;exact k2 (hs.inj x y d p G▸k)
 refine⟨Q,le,hs.oF le (λx y k=> ?_) (λx hr k=> ?_) (λx n=>by rw [ar _ _ (aM q)];exact hs.dH x n) (λx n k=> ?_) hs.gone (λx y d k hy=>hs.inj x y d (o x d k).1 (o y d hy).1) (λx d k=>hs.lt x d (o x d k).1)⟩
 .by_cases e:x=i
  .subst e;rw [aD] at k;cases k;right;obtain⟨a,cap,r1,M,N,X,u⟩:=hs.ah x _ hi;refine⟨_,r1,⟨a,cap,by rw [Uv],by rw [Uv];exact M,N,trivial, ?_⟩,λ_=>D⟩;rcases u with u | ⟨ah,off,arr,t,q1,I,J,K,L⟩
   .exact .inl u
   .refine .inr ⟨ah,off,arr,t,q1,by simp only [if_true];exact r x ah (.inl SW) I,J,K, ?_⟩;refine II (ρ:=ρ) (O:=O) (i:=x) B (bZ.move (λb hb=>le.A b hb) (λ_ _=>rfl) (λf _=>⟨rfl,rfl,λ_ _=>rfl⟩) L) λf V d p=>r _ d (.inr ⟨x,f.n,SW,rfl⟩) p
  .rw [ar _ _ e] at k;have C:=hs.real (i:=x) (by rw [k];simp);exact .inl ⟨k,v x C e,λ_ _=>rfl,λn=>⟨rfl,z x n e,λ_ _=>rfl⟩⟩
 .have l:x≠i:=λe=>by rw [e,aD] at k;cases k
  rw [ar _ _ l] at k;rw [v x hr l];exact hs.ch x hr k
 .have l:x≠i:=λe=>by rw [e,aD] at k;cases k
  rw [ar _ _ l] at k;rw [z x n l];exact hs.fq x n k
theorem CJ{R:Type}:∀{l:List Id} {h:Id->Option aa} {O:Id->Option Nat} {K:aH->Option R} {r:R},HS c w h ρ O->uO h l K=some r->∃us O',K us=some r/\Le w ρ O w ρ O'/\HS c w (aK h us) ρ O'
 | [],h,O,K,r,hs,e=>⟨[],O,e,Le.refl,hs⟩
 | i::l,h,O,K,r,hs,e=>by
  simp only [uO] at e;split at e
  .rename_i b sz az rsz nx es hi;replace e:=aL e (.inl rfl);obtain⟨_,a,e⟩:=e;have a:bJ es=true:=by
    split at a
    .assumption
    .cases a
   obtain⟨k,cU,d⟩:=hs.Q7 hi a;obtain⟨us,j,e,g,f⟩:=CJ d e;exact⟨_,j,e,cU.trans g,by rw [cY];exact f⟩
  .exact CJ hs e
theorem Gf{f:FuncId}{fn:Func}{nt:Nat}{m:Nat×Nat}{B:Nat->Option Value}{xs:List T}{a:Act}(d:iK m.1 B ρ)(b:eH c nt w s ρ O a)(h:xI P An f fn m s=some xs):
  ∃v,(results fn a.tmps).run P w= .ok v w/\Fin P c B (de P An f m.2 fn) (gS An f m.2) xs (fC O) w v w:=by
 unfold xI at h;cases hr:(de P An f m.2 fn).any GR with
 | true=>rw [hr,cond_true] at h;exact Ge d b h
 | false=>rw [hr,cond_false] at h;obtain⟨us,i,h,cU,e⟩:=CJ b.hs h;obtain⟨v,h1,g⟩:=Ge d (b.CK cU e) h;exact⟨v,h1,Fin.le cU g⟩
theorem lO(hm:P.follows .mixedOrders=true)(r:jo P An Or)(o:pB P An Or){f:FuncId}{fn:Func}{m:Nat×Nat}{B:Nat->Option Value}(l:P.funcs[f]? =some fn):∀{n:Nat} {j:Bool} {todo:List Item} {xs:List T} {w:World} {s:St} {ρ:Id->Option Value} {O:Id->Option Nat} {a:Act},
  iK m.1 B ρ->eH c fn.ntmps w s ρ O a->nY s->ev P An Or f fn m n j todo s=some xs->Ends P f fn todo a w (Fin P c B (de P An f m.2 fn) (gS An f m.2) xs (fC O) w)
 | 0,j,todo,xs,w,s,ρ,O,a,i,d,hb,e=>by simp [ev] at e
 | n+1,j,[],xs,w,s,ρ,O,a,i,d,hb,e=>by simp only [ev] at e;obtain⟨v,h1,z⟩:=Gf i d e;exact λb I D cs=>⟨a,w,v,[], .one step_end,d.defers,h1,z⟩
 | n+1,j, .code .skip::k,xs,w,s,ρ,O,a,i,d,hb,e=>by simp only [ev] at e;exact Ends.step (λb cs=>step_skip) (lO hm r o l i d hb e)
 | n+1,j, .code (.seq x y)::k,xs,w,s,ρ,O,a,i,d,hb,e=>by simp only [ev] at e;exact Ends.step (λb cs=>step_seq) (lO hm r o l i d hb e)
 | n+1,j, .code (.region id ops u)::k,xs,w,s,ρ,O,a,i,d,hb,e=>by
  simp only [ev] at e;split at e
  .rename_i live _;exact CY (todo:= .code (.region id ops u)::k) o l i d e
  .obtain⟨s',e,E⟩:=Qa hm r d hb e;refine Ends.region (E _ λL w' ρ' O' le G=>⟨rfl, ?_⟩);exact(lO hm r o l (i.le le.eF) G (K4 _) e).mono λv K C=>C.le le
 | n+1,j, .code (.cond x p q)::k,xs,w,s,ρ,O,a,i,d,hb,e=>by
  simp only [ev] at e;replace e:=SU.1 e;obtain⟨y,hy,e⟩:=e;replace e:=aL e (.inl rfl);obtain⟨t,J,e⟩:=e;have F:=SS.get (h:=s.h) d.ss (g:=none) trivial x;rw [show(⟨s.t,s.h⟩:St)=s from rfl,AV.l8 hy,T.iO J] at F;simp only [al,ax] at F;refine Ends.step (todo':= .code (if t then p else q)::k) (λb cs=>step_cond F) ?_;cases t with
  | true=>exact lO hm r o l i d hb e
  | false=>exact lO hm r o l i d hb e
 | n+1,j, .code (.block id b)::k,xs,w,s,ρ,O,a,i,d,hb,e=>by simp only [ev] at e;exact Ends.step (λb cs=>step_block) (lO hm r o l i d hb e)
 | n+1,j, .code (.loop b)::k,xs,w,s,ρ,O,a,i,d,hb,e=>by
  simp only [ev] at e;split at e
  .exact Ends.step (λb cs=>step_loop) (CY (todo:= .inLoop b::k) o l i d e)
  .simp at e
 | n+1,j, .code (.exit id)::k,xs,w,s,ρ,O,a,i,d,hb,e=>by
  simp only [ev] at e;split at e
  .rename_i M D;exact Ends.step (λb cs=>step_exit D) (lO hm r o l i d hb e)
  .simp at e
 | n+1,j, .code .ret::k,xs,w,s,ρ,O,a,i,d,hb,e=>by simp only [ev] at e;obtain⟨v,h1,z⟩:=Gf i d e;exact λb I D cs=>⟨a,w,v,_, .one step_ret,d.defers,h1,z⟩
 | n+1,j, .inBlock id::k,xs,w,s,ρ,O,a,i,d,hb,e=>by simp only [ev] at e;exact Ends.step (λb cs=>step_inBlock) (lO hm r o l i d hb e)
 | n+1,j, .inLoop b::k,xs,w,s,ρ,O,a,i,d,hb,e=>by
  simp only [ev] at e;split at e
  .exact Ends.step (λb cs=>step_inLoop) (CY (todo:= .inLoop b::k) o l i d e)
  .simp at e
 | n+1,j, .code (.label _)::k,xs,w,s,ρ,O,a,i,d,hb,e=>by simp [ev] at e
 | n+1,j, .code (.goto _)::k,xs,w,s,ρ,O,a,i,d,hb,e=>by simp [ev] at e
theorem Oq{a:Id->Option Value}{bc:List AV}{args:List Value}(hv:ay w A a bc args)(m k:Nat):al w A a (bc.getD k .top) ((args.toArray++Array.replicate m undef).getD k undef):=by
 have e:(args.toArray++Array.replicate m undef).getD k undef= (args++List.replicate m undef).getD k undef:=by rw [UI,SV,<-T1];simp
 rw [e,SV,SV];cases f:bc[k]? with
 | none=>simp [al]
 | some v=>obtain⟨u,d,hr⟩:=hv.get f;have b:k < args.length:=(Ta.1 d).1;rw [Uj b,d];exact hr
theorem Rp(F:nZ P An)(hm:P.follows .mixedOrders=true)(J:∀(f:FuncId) (fn:Func),P.funcs[f]? =some fn->fn.name≠ "runtime.NumGoroutine")(E:jo P An Or)(D:pB P An Or):jo P An (aE P An Or):=by
 intro f bc a xs e;simp only [aE] at e;split at e
 .rename_i r hr;exact F f bc a xs (hr.trans e)
 split at e
 .rename_i fn l;split at e
  .rename_i p d;split at e
   .rename_i I;refine⟨fn,p,l,d,J f fn l,λc w ρ O args U hs m=> ?_⟩;have V:=m.length;have B:(tQ bc a).h=jL a:=by funext i;cases i <;> rfl
    have z:eH c fn.ntmps w (tQ bc a) ρ O {tmps:=args.toArray++Array.replicate (fn.ntmps - args.toArray.size) undef,defers:= []}:=by refine⟨by rw [B];exact hs,λk=>Oq m _ k, ?_,rfl⟩;simp only [WC,Uw,Array.size_replicate];omega
    have o:nY (tQ bc a):=by intro k g v e;simp [tQ] at e
    have C:iK (a.length,gY a.head?).1 (oH a.length ρ) ρ:=by
     intro j q;simp only at q;have x:jL a (.c j)=some a[j]:=by simp [jL,q]
     obtain⟨v,hv,_⟩:=hs.Jx x;exact⟨v,by simp [oH,q,hv],hv⟩
    refine(KY l d (lO hm E D l C z o e)).mono λe w' ⟨v,G,b⟩=> ?_;obtain⟨N,Q,x2,o1,M,hv,L,y,u,hr,K⟩:=b.res;exact⟨N,Q,x2,o1,M,by rw [G,hv],⟨b.os,b.output,b.tape,b.size,b.ah⟩,L,y,u,hr,K⟩
   .simp at e
  .simp at e
 .simp at e
theorem Rn(hm:P.follows .mixedOrders=true)(l:jo P An Or)(j:pB P An Or):pB P An (aE P An Or):=by
 intro f fn todo live m bc p xs e d c w ρ O a B i g;simp only [aE,d] at e;split at e
 .exact lO hm l j d i g (Gj _ _ _) e
 .rename_i o;have:uo todo=todo:=by
   unfold uo;split
   .rename_i b k;exact(o b k rfl).elim
   .rfl
  rw [this];exact lO hm l j d i g (Gj _ _ _) e
theorem H7(b:nZ P An)(hm:P.follows .mixedOrders=true)(d:∀(f:FuncId) (fn:Func),P.funcs[f]? =some fn->fn.name≠ "runtime.NumGoroutine"):∀n,jo P An (iZ P An n)/\pB P An (iZ P An n)
 | 0=>⟨λ_ _ _ _ e=>by simp [iZ] at e,λ_ _ _ _ _ _ _ _ e=>by simp [iZ] at e⟩
 | n+1=>by obtain⟨h1,a⟩:=H7 b hm d n;exact⟨Rp b hm d h1 a,Rn hm h1 a⟩
theorem H9{k:Key}{vs:List AV}{bs:List aa}{r:List T}(e:mF P An k vs bs=some r):∃n,iZ P An n k vs bs=some r:=by
 unfold mF at e;split at e
 .rename_i a;simp only [SR] at e;exact⟨_,by rw [<-e];exact VH (VH a)⟩
 .simp at e
theorem Pz(b:nZ P An)(hm:P.follows .mixedOrders=true)(d:∀(f:FuncId) (fn:Func),P.funcs[f]? =some fn->fn.name≠ "runtime.NumGoroutine"):jo P An (mF P An):=by intro f bc a xs e;obtain⟨n,e⟩:=H9 e;exact(H7 b hm d n).1 f bc a xs e
end
open Go
abbrev Kd:=Key×List AV×List aa×List T
def zg(O:aA)(L:List Kd):Prop:= ∀q∈L,O q.1 q.2.1 q.2.2.1=some q.2.2.2
def aF{R:Type}(F:aA->Option R):Prop:= ∀O r,F O=some r->∃L,zg O L/\∀O',zg O' L->F O'=some r
section
variable {P:Program} {A:cE} {R S:Type}
theorem aF.const(m:Option R):aF (λ_=>m):=λ_ r h=>⟨[],(by intro q a;cases a),λ_ _=>h⟩
theorem aF.bind{F:aA->Option R}{G:R->aA->Option S}(h1:aF F)(l:∀a,aF (G a)):aF (λO=>(F O).bind λa=>G a O):=by
 intro O r h;obtain⟨a,m,h⟩:=SU.1 h;obtain⟨e,g,j⟩:=h1 O a m;obtain⟨f,i,k⟩:=l a O r h;refine⟨e++f,λq b=> ?_,λO' d=> ?_⟩
 .rcases Tm.1 b with b | b
  .exact g q b
  .exact i q b
 .have:=j O' (λq b=>d q (Tf _ b));simp only [this,S9];exact k O' (λq b=>d q (Te _ b))
theorem aF.ask(k:Key)(vs:List AV)(bs:List aa):aF (λO=>O k vs bs):=λO r h=>⟨[(k,vs,bs,r)],(by intro q a;simp only [Tc] at a;subst a;exact h),
 λO' b=>b _ (Tc.2 rfl)⟩
theorem aF.cond{b:Bool}{F G:aA->Option R}(h1:aF F)(a:aF G):aF (λO=>cond b (F O) (G O)):=by cases b <;> assumption
theorem aF.ite{p:Prop}[Decidable p]{F G:aA->Option R}(h1:aF F)(b:aF G):aF (λO=>if p then F O else G O):=by
 by_cases a:p
 .simp only [a,if_true];exact h1
 .simp only [a,if_false];exact b
theorem aF.ab{d:Type}[Inhabited d]{c:Option Bool}{m:Option d}{K:d->aA->Option R}(h:∀a,aF (K a)):aF (λO=>ab c m λa=>K a O):=by
 unfold Aev.ab;cases m with
 | some a=>exact h a
 | none=>cases c with
  | none=>exact aF.const none
  | some b=>exact aF.cond (aF.const none) (h default)
theorem aF.eZ{k:Ck}{c:Option Bool}{x:T}{K:T->aA->Option R}(h:∀a,aF (K a)):aF (λO=>eZ k c x λa=>K a O):=by
 unfold Aev.eZ;cases k <;> (try dsimp only)
 case x=>exact h x
 all_goals exact aF.ab λa=>h _
theorem aF.eP{c:Option Bool}:∀{ks:List Ck} {xs:List T} {K:List T->aA->Option R},(∀a,aF (K a))->aF (λO=>eP c ks xs λa=>K a O)
 | [],xs,K,h=>h xs
 | _::_,[],K,h=>h []
 | k::ks,x::xs,K,h=>by simp only [Aev.eP];exact aF.eZ (K:=λy O=>Aev.eP c ks xs λb=>K (y::b) O) λy=>aF.eP (K:=λb O=>K (y::b) O) λb=>h _
theorem aF.mQ{c:Option Bool}{t:TypeId}{v:AV}{K:AV->aA->Option R}(h:∀a,aF (K a)):aF (λO=>mQ P c t v λa=>K a O):=by
 unfold Aev.mQ;cases v <;> (try exact h _)
 case t x=>exact aF.eZ (K:=λy O=>K (.t y) O) λy=>h _
 case agg vs=>
  dsimp only;cases eS vs with
  | none=>exact h _
  | some l=>exact aF.eP (K:=λl O=>K (.agg (l.map .t)) O) λy=>h _
theorem aF.jk{c:Option Bool}:∀{ts:List TypeId} {vs:List AV} {K:List AV->aA->Option R},(∀a,aF (K a))->aF (λO=>jk P c ts vs λa=>K a O)
 | [],vs,K,h=>h vs
 | _::_,[],K,h=>h []
 | t::ts,v::vs,K,h=>by simp only [Aev.jk];exact aF.mQ (K:=λu O=>Aev.jk P c ts vs λus=>K (u::us) O) λu=>aF.jk (K:=λus O=>K (u::us) O) λus=>h _
theorem aF.gD{s:St}{d:Nat}{c:Option Bool}{f:FuncId}{args:List AV}{K:AV->aH->Option R}:aF (λO=>gD P A O s d c f args K):=by
 unfold Aev.gD;cases P.funcs[f]? with
 | none=>exact aF.const none
 | some fn=>
  dsimp only;have e:∀(m:Option (List T)) (k:List T->Option R),Aev.ab none m k=m.bind k:=by intro m k;cases m <;> rfl
  cases A.iu f with
  | none=>
   dsimp only;refine aF.bind (F:=λ_=>lD ((de P A f 0 fn).all rH) (A.deep f) s.h args) (aF.const _) λp=> ?_;simp only [e];refine aF.jk λq=> ?_;refine aF.bind (F:=λO=>cv c (O (.call f) q [])) ?_ λxs=>aF.const _;unfold cv;cases c with
   | none=>exact aF.ask _ _ _
   | some b=>exact aF.cond (aF.ask _ _ _) (aF.const _)
  | some fl=>
   cases c with
   | some b=>exact aF.const none
   | none=>dsimp only;refine aF.bind (F:=λ_=>mq s.h (Af fl args) fl args) (aF.const _) λp=> ?_;refine aF.bind (F:=λ_=>jZ (2000000+d) 0 (aK s.h p.2) (nM (pH (bQ p.1) []) (gS A f (gY ((bQ p.1).head?.bind (aK s.h p.2)))))) (aF.const _) λus=> ?_;refine aF.bind (F:=λ_=>eY (aK (aK s.h p.2) us) 1000 (bQ p.1) []) (aF.const _) λseen=> ?_;refine aF.cond ?_ (aF.const none);simp only [e];refine aF.jk λq=> ?_;exact aF.bind (aF.ask _ _ _) λxs=>aF.const _
theorem aF.jr{hI:Bool}{s:St}{d:Nat}{c:Option Bool}{f:FuncId}{args:List AV}{K:AV->aH->Option R}:aF (λO=>jr hI P A O s d c f args K):=by
 unfold Aev.jr;cases _root_.cond hI (nN args) none with
 | none=>exact aF.gD
 | some q=>
  obtain⟨a,i,n,e⟩:=q;cases c with
  | some b=>exact aF.const none
  | none=>
   dsimp only;cases s.h i with
   | none=>exact aF.const none
   | some b=>
    cases b with
    | rows b sz az rsz nx es=>
     dsimp only;cases bt n es with
     | none=>exact aF.const none
     | some p=>exact aF.cond aF.gD (aF.const none)
    | _=>exact aF.const none
theorem aF.dh{g:Option Gs}{o:Oper}{s:St}:aF (λO=>dh P A O g o s):=by
 unfold Aev.dh jq;cases o.op <;> (try dsimp only) <;> try exact aF.const _
 case makeFunc fn a b=>cases fn <;> (try dsimp only) <;> exact aF.const _
 case call d=>
  cases d.callee <;> (try dsimp only)
  case value e=>cases s.get g e <;> (try dsimp only) <;> first | exact aF.jr | exact aF.const _
  case builtin b=>cases b <;> (try dsimp only) <;> exact aF.const _
  all_goals exact aF.const _
theorem aF.eW{a:Bool}{nt:Nat}{ops:Array Oper}{o:Oper}{s:St}:aF (λO=>eW P A O a nt ops o s):=by
 unfold Aev.eW oW;have key:∀{G:aA->Option Gs->Option St},(∀g,aF (λO=>G O g))->aF (λO=>dr ops o s (G O)):=λ{G} b=>by rw [show(λO=>dr ops o s (G O))=λO=>(dr ops o s some).bind (G O) from funext λO=>xV _ _ _ _];exact aF.bind (aF.const _) b
 refine key λg=> ?_;cases qq A a o g with
 | none=>simp only [qX];exact aF.bind aF.dh λp=>aF.const _
 | some d=>simp only [qX];exact aF.cond (aF.cond (aF.bind aF.dh λp=>aF.const _) (aF.const _)) (aF.const _)
theorem aF.jc{a:Bool}{nt:Nat}{ops:Array Oper}:∀(l:List Oper) (s:St),aF (λO=>jc P A O a nt ops l s)
 | [],s=>aF.const _
 | o::r,s=>aF.bind (F:=λO=>Aev.eW P A O a nt ops o s) aF.eW λs'=>aF.jc r s'
theorem aF.region{nt:Nat}{a:Bool}{ops:Array Oper}{s:St}{K:St->aA->Option R}(h:∀s,aF (K s)):aF (λO=>region P A O nt a ops s λs'=>K s' O):=by
 unfold Aev.region;refine aF.cond ?_ (aF.const none);have:(λO=>uI P A O a nt ops ops.toList s λs'=>K s'.clear O)=λO=>(Aev.jc P A O a nt ops ops.toList s).bind λs'=>K s'.clear O:=by funext O;rw [Cv]
 rw [this];exact aF.bind (aF.jc _ _) λs'=>h _
theorem aF.l9{f:FuncId}{todo:List Item}{live:List (Nat×Option Nat)}{m:Nat×Nat}{s:St}:aF (λO=>l9 O f todo live m s):=by unfold Aev.l9;refine aF.bind (aF.const _) λus=> ?_;unfold Aev.yX;refine aF.bind (aF.const _) λp=>aF.ite ?_ (aF.const none);exact aF.bind (aF.const _) λseen=>aF.ask _ _ _
theorem aF.ev{f:FuncId}{fn:Func}{m:Nat×Nat}:∀(n:Nat) (a:Bool) (todo:List Item) (s:St),aF (λO=>ev P A O f fn m n a todo s)
 | 0,a,todo,s=>by simp only [Aev.ev];exact aF.const none
 | n+1,a,[],s=>by simp only [Aev.ev];exact aF.const _
 | n+1,a, .code .skip::k,s=>by simp only [Aev.ev];exact aF.ev n _ _ _
 | n+1,a, .code (.seq x y)::k,s=>by simp only [Aev.ev];exact aF.ev n _ _ _
 | n+1,a, .code (.region id ops d)::k,s=>by
  simp only [Aev.ev];cases e:(bif a then A.join f id else none) with
  | some live=>exact aF.l9
  | none=>exact aF.region λs'=>aF.ev n _ _ _
 | n+1,a, .code (.cond x p q)::k,s=>by simp only [Aev.ev];refine aF.bind (F:=λ_=>(s.get none x).t?) (aF.const _) λy=>aF.ab λt=>aF.cond (aF.ev n _ _ _) (aF.ev n _ _ _)
 | n+1,a, .code (.block id b)::k,s=>by simp only [Aev.ev];exact aF.ev n _ _ _
 | n+1,a, .code (.loop b)::k,s=>by
  simp only [Aev.ev];cases A.live f (o6 b) with
  | some live=>exact aF.l9
  | none=>exact aF.const none
 | n+1,a, .code (.exit id)::k,s=>by
  simp only [Aev.ev];cases exitTo id k with
  | some g=>exact aF.ev n _ _ _
  | none=>exact aF.const none
 | n+1,a, .code .ret::k,s=>by simp only [Aev.ev];exact aF.const _
 | n+1,a, .inBlock id::k,s=>by simp only [Aev.ev];exact aF.ev n _ _ _
 | n+1,a, .inLoop b::k,s=>by
  simp only [Aev.ev];cases A.live f (o6 b) with
  | some live=>exact aF.l9
  | none=>exact aF.const none
 | n+1,a, .code (.label _)::k,s=>by simp only [Aev.ev];exact aF.const _
 | n+1,a, .code (.goto _)::k,s=>by simp only [Aev.ev];exact aF.const _
 | n+1,a, .code (.rangeFunc ..)::k,s=>by simp only [Aev.ev];exact aF.const _
 | n+1,a, .code (.scope _)::k,s=>by simp only [Aev.ev];exact aF.const _
 | n+1,a, .code (.refuse _)::k,s=>by simp only [Aev.ev];exact aF.const _
 | n+1,a, .inRegion ..::k,s=>by simp only [Aev.ev];exact aF.const _
 | n+1,a, .inScope _::k,s=>by simp only [Aev.ev];exact aF.const _
 | n+1,a, .inRangeFunc _::k,s=>by simp only [Aev.ev];exact aF.const _
 | n+1,a, .endRangeFunc _::k,s=>by simp only [Aev.ev];exact aF.const _
 | n+1,a, .beginRound::k,s=>by simp only [Aev.ev];exact aF.const _
 | n+1,a, .extern ..::k,s=>by simp only [Aev.ev];exact aF.const _
 | n+1,a, .call ..::k,s=>by simp only [Aev.ev];exact aF.const _
theorem aF.aE(k:Key)(vs:List AV)(bs:List aa):aF (λO=>aE P A O k vs bs):=by
 cases k with
 | call f=>
  simp only [Aev.aE];cases A.ext f vs bs with
  | some r=>exact aF.const _
  | none=>
   dsimp only;cases P.funcs[f]? with
   | none=>exact aF.const _
   | some fn=>
    dsimp only;cases fn.body with
    | none=>exact aF.const _
    | some c=>exact aF.ite (aF.ev _ _ _ _) (aF.const _)
 | node f todo live m=>
  simp only [Aev.aE];cases P.funcs[f]? with
  | none=>exact aF.const _
  | some fn=>
   dsimp only;split
   .exact aF.ev _ _ _ _
   .exact aF.ev _ _ _ _
theorem H8:∀(n:Nat) {k:Key} {vs:List AV} {bs:List aa} {r:List T},iZ P A n k vs bs=some r->iZ P A (n+1) k vs bs=some r
 | 0,k,vs,bs,r,h=>by simp [iZ] at h
 | n+1,k,vs,bs,r,h=>by obtain⟨L,e,g⟩:=aF.aE (P:=P) (A:=A) k vs bs _ r h;exact g _ λq a=>H8 n (e q a)
theorem yq{n m:Nat}(a:n<=m){k:Key}{vs:List AV}{bs:List aa}{r:List T}(h:iZ P A n k vs bs=some r):iZ P A m k vs bs=some r:=by
 induction a with
 | refl=>exact h
 | step _ b=>exact H8 _ b
theorem Py{n:Nat}{k:Key}{vs:List AV}{bs:List aa}{r:List T}(h:iZ P A n k vs bs=some r):mF P A k vs bs=some r:=by unfold mF;have d:∃n r,iZ P A n k vs bs=some r:=⟨n,r,h⟩;rw [dif_pos d];have e:=VH (VH d);have a:=yq (Nat.le_max_left n (Classical.choose d)) h;have b:=yq (Nat.le_max_right n (Classical.choose d)) e;rw [a] at b;exact b.symm
theorem an{k:Key}{vs:List AV}{bs:List aa}{r:List T}(h:aE P A (mF P A) k vs bs=some r):mF P A k vs bs=some r:=by
 obtain⟨L,e,g⟩:=aF.aE (P:=P) (A:=A) k vs bs _ r h;have:∃n,zg (iZ P A n) L:=by
  clear g h;induction L with
  | nil=>exact⟨0,(by intro q a;cases a)⟩
  | cons q L f=>
   obtain⟨n,b⟩:=f λd a=>e d (SY _ a);obtain⟨m,hm⟩:=H9 (e q SW);refine⟨max n m,λd a=> ?_⟩;rcases Tg.1 a with rfl | a
   .exact yq (Nat.le_max_right _ _) hm
   .exact yq (Nat.le_max_left _ _) (b d a)
 obtain⟨n,b⟩:=this;exact Py (n:=n+1) (g _ b)
end
open Go
section
variable {P:Program} {An:cE} {w w':World}
theorem we.below(k:we w w'):Go.RowKit.Below w.heap.size w w':=⟨k.os,k.tape,k.output,k.size,k.ah⟩
theorem KZ{f:FuncId}{fn:Func}{bc:List AV}{args:List Value}{A0:Nat->Prop}(q:nZ P An)(hm:P.follows .mixedOrders=true)(u:∀(f:FuncId) (fn:Func),P.funcs[f]? =some fn->fn.name≠ "runtime.NumGoroutine")
  (k:P.funcs[f]? =some fn) (a:An.iu f=none) (g:de P An f 0 fn= [.f .b]) (p:∀b,A0 b->b < w.heap.size) (d:ay w A0 (λ_=>none) bc args)
  (e:mF P An (.call f) bc []=some [.bool true]):Calls P f args.toArray w λe w'=>e= .returned (.bool true)/\Go.RowKit.Below w.heap.size w w':=by
 obtain⟨B,l,h1,_,_,m⟩:=Pz q hm u f bc [] _ e;rw [k] at h1;simp only [SR] at h1;subst h1;refine(m.values a A0 w args p d).mono λe w' ⟨F,own,r,y,_,_,hr⟩=> ?_;rw [g] at hr;obtain⟨x,D,v,C,ob,z,i,rfl,_,o,E,rfl,_⟩:=hr;simp only [UT] at i;obtain⟨rfl,rfl⟩:=i;obtain⟨_,j,_⟩:=o;simp only [ax] at j;subst j;exact⟨r,y.below⟩
end
open Go
abbrev I(n:Int):AV:= .t (.int .i64 n)
abbrev B(b:Bool):AV:= .t (.bool b)
theorem Gx{b R:Type}[Inhabited b](c:Option Bool)(a:b)(k:b->Option R):ab c (some a) k=k a:=by cases c <;> rfl
theorem bD{a R:Type}[Inhabited a](m:Option a)(k:a->Option R):ab (some false) m k=k (m.getD default):=by cases m <;> rfl
theorem GJ{a:Type}(x:a)(l:List a):(x::l).head? =some x:=by cases l <;> rfl
theorem JJ{a:Type}(x:a)(l:List a):(x::l).tail=l:=by cases l <;> rfl
theorem EP{a:Type}(l:List a):l.drop 0=l:=by cases l <;> rfl
theorem ER{a:Type}(x:a)(l:List a):(x::l).drop 1=l:=by cases l <;> rfl
theorem ES{a:Type}(x y:a)(l:List a):(x::y::l).drop 2=l:=by cases l <;> rfl
theorem ET{a:Type}(x y z:a)(l:List a):(x::y::z::l).drop 3=l:=by cases l <;> rfl
theorem EU{a:Type}(x y z u:a)(l:List a):(x::y::z::u::l).drop 4=l:=by cases l <;> rfl
theorem EW{a:Type}(x y z u v:a)(l:List a):(x::y::z::u::v::l).drop 5=l:=by cases l <;> rfl
theorem EX{a:Type}(x y z u v t:a)(l:List a):(x::y::z::u::v::t::l).drop 6=l:=by cases l <;> rfl
theorem DY(b:Bool):(T.bool b).bool? =some b:=by cases b <;> rfl
theorem Bq(k:IntKind)(n:Int):(T.int k n).int? k=some n:=by cases k <;> simp [T.int?]
theorem Jz(s:ByteArray):(T.str s).bw =some s:=by cases s;rfl
theorem rQ(sz:Nat)(b:Bool)(l:List (List T)):(T.ae sz b l).aP sz=some (b,l):=by cases b <;> simp [T.aP]
theorem cU(sz:Nat)(b:Bool):(T.aO b).aP sz=some (b,[]):=by cases b <;> rfl
theorem Io(l:List T):(T.ptr l).p7 =some l:=by cases l <;> rfl
theorem F9(k:IntKind)(n:Int):(T.int k n).pP =some ():=by cases k <;> rfl
theorem F8(b:Bool):(T.bool b).pP =some ():=by cases b <;> rfl
theorem Gr(b:ByteArray):(T.str b).pP =some ():=by cases b;rfl
theorem tB{d:Type}(a b:d):cond true a b=a:=by simp
theorem wY{d:Type}(a b:d):cond false a b=b:=by simp
theorem HV:(!true)=false:=by decide
theorem HK:(!false)=true:=by decide
theorem DB(m:Option (List T)):cv none m=m:=by cases m <;> rfl
theorem DD(m:Option (List T)):cv (some true) m=m:=by cases m <;> rfl
theorem DC(m:Option (List T)):cv (some false) m=some []:=by cases m <;> rfl
theorem rk{d:Type}(p:Prop)[Decidable p](a b:d):(bif decide p then a else b)=if p then a else b:=by by_cases h:p <;> simp [h]
theorem Er{d:Type}(p:Prop)[Decidable p](a b:d):(bif !decide p then a else b)=if p then b else a:=by by_cases h:p <;> simp [h]
theorem Ed{d:Type}(m n:Int)(a b:d):(bif m==n then a else b)=if m=n then a else b:=by
 by_cases h:m=n
 .simp [h]
 .have:(m==n)=false:=by simpa using h
  simp [h,this]
theorem Ep{d:Type}(m n:Int)(a b:d):(bif !m==n then a else b)=if m=n then b else a:=by
 by_cases h:m=n
 .simp [h]
 .have:(m==n)=false:=by simpa using h
  simp [h,this]
theorem fE(a b:Bool):(bif a then b else false)= (a && b):=by cases a <;> simp
theorem gX(a b:Bool):(bif a then true else b)= (a || b):=by cases a <;> simp
theorem wr{v:Int}(h: -9223372036854775808<=v/\v < 9223372036854775808):i64.wrap v=v:=by simp [IntKind.wrap,IntKind.signed,IntKind.bits];omega
theorem ak:(type_of% @Gx)/\(type_of% @GJ)/\(type_of% @JJ)/\(type_of% @EP)/\(type_of% @ER)/\(type_of% @ES)/\(type_of% @ET)/\(type_of% @EU)/\(type_of% @EW)/\(type_of% @EX)/\(type_of% @DY)/\(type_of% @Bq)/\(type_of% @Jz)/\(type_of% @rQ)/\(type_of% @cU)/\(type_of% @Io)/\(type_of% @F9)/\(type_of% @F8)/\(type_of% @Gr)/\(type_of% @tB)/\(type_of% @wY)/\(type_of% @HV)/\(type_of% @HK)/\(type_of% @DB)/\(type_of% @DD)/\(type_of% @DC)/\(type_of% @rk)/\(type_of% @Er)/\(type_of% @Ed)/\(type_of% @Ep)/\(type_of% @beq_self_eq_true.{0})/\(type_of% @Wm)/\(type_of% @Uo)/\(type_of% @UF)/\(type_of% @WZ):=⟨@Gx,@GJ,@JJ,@EP,@ER,@ES,@ET,@EU,@EW,@EX,@DY,@Bq,@Jz,@rQ,@cU,@Io,@F9,@F8,@Gr,@tB,@wY,@HV,@HK,@DB,@DD,@DC,@rk,@Er,@Ed,@Ep,@beq_self_eq_true.{0},@Wm,@Uo,@UF,@WZ⟩
open Go Go.ChangeShapes Go.WideShapes Go.ChangeAt Go.RowKit
def uV(P:Program)(go:TypeId->Bool):List Field->Nat->Option Nat
 | [],off=>some off
 | f::r,off=>if f.offset=off/\go f.type=true then uV P go r (off+P.cellsOf f.type) else none
def jC(P:Program):Nat->TypeId->Bool
 | 0,_=>false
 | n+1,t=>match P.underlying t with
  | some .bool=>true
  | some (.int _)=>true
  | some .string=>true
  | some (.slice e)=>jC P n e && decide (0 < P.cellsOf e)
  | some (.struct a)=>decide (uV P (jC P n) a.toList 0=some (P.cellsOf t))
  | some (.array m e)=>jC P n e && decide (P.cellsOf t=m * P.cellsOf e)
  | _=>false
def wK(W:TypeId->List T->Prop):List Field->List T->Prop
 | [],ts=>ts= []
 | f::r,ts=>∃a b,ts=a++b/\W f.type a/\wK W r b
def zJ(W:List T->Prop):Nat->List T->Prop
 | 0,ts=>ts= []
 | m+1,ts=>∃a b,ts=a++b/\W a/\zJ W m b
def Wt(P:Program):Nat->TypeId->List T->Prop
 | 0,_,_=>False
 | n+1,t,ts=>match P.underlying t with
  | some .bool=>∃b,ts= [.bool b]
  | some (.int k)=>∃m,ts= [.int k m]/\(Lit.int k m).wf=true
  | some .string=>∃s,ts= [.str s]/\s.size<=maxLen
  | some (.slice e)=>∃b xs,ts= [.ae (P.cellsOf e) b xs]/\(b=true->xs= [])/\xs.length<=maxLen/\(∀cs∈xs,Wt P n e cs)/\xs.length * P.bytesOf e<=reachBytes
  | some (.struct a)=>wK (Wt P n) a.toList ts
  | some (.array m e)=>zJ (Wt P n e) m ts
  | _=>False
section
variable {H:Type} {enc:TypeId×Value->H} {P:Program} {w:World} {base:Nat} {sp:Nat->Bool} {held:Bool}
def pk{H:Type}(P:Program)(t:TypeId)(d:DataW H):Prop:= ∀k∈DataW.weights P t d,k<=reachBytes
theorem C5{H:Type}{P:Program}{e:TypeId}:∀{l:List (DataW H)} {d:DataW H},d∈l->∀k∈DataW.weights P e d,k∈DataW.weightsAll P e l
 | [],d,h,k,_=>by cases h
 | c::l,d,h,k,a=>by
  simp only [DataW.weightsAll,Tm];rcases Tg.1 h with rfl | h
  .exact .inl a
  .exact .inr (C5 h k a)
theorem Kb{H:Type}{P:Program}{us:List TypeId}{b:List (DataW H)}{k:Nat}:∀{ts:List TypeId} {a:List (DataW H)},k∈DataW.weightsEach P ts a->k∈DataW.weightsEach P (ts++us) (a++b)
 | [],a,h=>by simp [DataW.weightsEach] at h
 | t::ts,[],h=>by simp [DataW.weightsEach] at h
 | t::ts,d::a,h=>by simp only [DataW.weightsEach,S7,Tm] at h⊢;exact h.imp id Kb
theorem aR.zX{A:Nat->Prop}:∀{a b:List T} {vs us:List Value},aR w A a vs->aR w A b us->aR w A (a++b) (vs++us)
 | [],b,vs,us,h,h'=>by simp only [aR] at h;subst h;simpa using h'
 | c::a,b,vs,us,⟨v,r,e,h1,d⟩,h'=>by subst e;exact⟨v,r++us,rfl,h1,aR.zX d h'⟩
theorem JN{n m:Nat}(l:∀(t:TypeId) (cs:List Value) (x:DataW H×List MemPlace),jC P n t=true->DataW.trod enc P w base sp held m t cs=some x->pk P t x.1->
   ∃ts,aR w (λb=>b < w.heap.size) ts cs/\Wt P n t ts) (cs:List Value):∀(i:List Field) (off E:Nat),uV P (jC P n) i off=some E->E<=cs.length->
   (∀f∈i,∃x,DataW.trod enc P w base sp held m f.type ((cs.drop f.offset).take (P.cellsOf f.type))=some x/\pk P f.type x.1)->
   off<=E/\∃ts,aR w (λb=>b < w.heap.size) ts ((cs.drop off).take (E - off))/\wK (Wt P n) i ts
 | [],off,E,d,k,_=>by simp only [uV,SR] at d;subst d;exact⟨Tl _,[],by simp [aR],rfl⟩
 | f::i,off,E,d,k,hr=>by
  simp only [uV] at d;split at d
  .rename_i q;obtain⟨o,p⟩:=q;obtain⟨x,u,j⟩:=hr f SW;obtain⟨a,v,z⟩:=l _ _ _ p u j;obtain⟨C,b,y,B⟩:=JN l cs i _ E d k λg r=>hr g (SY _ r);refine⟨by omega,a++b, ?_,⟨a,b,rfl,z,B⟩⟩;have e:(cs.drop off).take (E - off)= (cs.drop f.offset).take (P.cellsOf f.type)++ (cs.drop (off+P.cellsOf f.type)).take (E - (off+P.cellsOf f.type)):=by
    rw [o,<-WW];have:E - off=P.cellsOf f.type+ (E - (off+P.cellsOf f.type)):=by omega
    rw [this,List.take_add]
   rw [e];exact aR.zX v y
  .cases d
theorem JO{n m e:Nat}(l:∀(t:TypeId) (cs:List Value) (x:DataW H×List MemPlace),jC P n t=true->DataW.trod enc P w base sp held m t cs=some x->pk P t x.1->
   ∃ts,aR w (λb=>b < w.heap.size) ts cs/\Wt P n t ts) (g:jC P n e=true):∀(k:Nat) (cs:List Value),cs.length=k * P.cellsOf e->
   (∀i,i < k->∃x,DataW.trod enc P w base sp held m e ((cs.drop (i * P.cellsOf e)).take (P.cellsOf e))=some x/\pk P e x.1)->∃ts,aR w (λb=>b < w.heap.size) ts cs/\zJ (Wt P n e) k ts
 | 0,cs,f,_=>by have:cs= []:=To.1 (by simpa using f);subst this;exact⟨[],rfl,rfl⟩
 | k+1,cs,f,hr=>by
  obtain⟨x,j,d⟩:=hr 0 (Nat.zero_lt_succ _);simp only [Nat.zero_mul,We] at j;obtain⟨a,o,q⟩:=l _ _ _ g j d;obtain⟨b,p,r⟩:=JO l g k (cs.drop (P.cellsOf e)) (by rw [UK,f,T2];omega) λi hi=>by
   obtain⟨y,hy,d⟩:=hr (i+1) (by omega);refine⟨y, ?_,d⟩;rw [WW];have:P.cellsOf e+i * P.cellsOf e= (i+1) * P.cellsOf e:=by rw [T2];omega
   rw [this];exact hy
  refine⟨a++b, ?_,⟨a,b,rfl,q,r⟩⟩;have:=aR.zX o p;rwa [WK] at this
theorem Hq{A:Nat->Prop}{ah sz:Nat}{n e:Nat}:∀(len off:Nat),(∀i,i < len->∃ts a,ts.length=sz/\aR w A ts a/\Wt P n e ts/\∀j v,a[j]? =some v->w.cell? ⟨ah,off+i * sz+j,none⟩=some v)->
  ∃xs:List (List T),xs.length=len/\aY w A ah sz off xs/\∀cs∈xs,Wt P n e cs
 | 0,off,_=>⟨[],rfl,trivial,(by intro c b;cases b)⟩
 | len+1,off,h=>by
  obtain⟨ts,a,h1,d,f,g⟩:=h 0 (Nat.zero_lt_succ _);obtain⟨xs,l,k2,m⟩:=Hq (A:=A) (ah:=ah) (sz:=sz) (n:=n) (e:=e) len (off+sz) λi hi=>by
   obtain⟨ts,a,h1,d,f,g⟩:=h (i+1) (by omega);refine⟨ts,a,h1,d,f,λj v k=> ?_⟩;have:=g j v k;have e:off+ (i+1) * sz+j=off+sz+i * sz+j:=by rw [T2];omega
   rwa [e] at this
  refine⟨ts::xs,by simp [l],⟨h1,aV.kS d λj v k=> ?_,k2⟩,λc b=> ?_⟩
  .have:=g j v k;simpa using this
  .rcases Tg.1 b with rfl | b
   .exact f
   .exact m c b
theorem yY:∀(n:Nat) (m:Nat) (t:TypeId) (cs:List Value) (x:DataW H×List MemPlace),jC P n t=true->DataW.trod enc P w base sp held m t cs=some x->pk P t x.1->
  ∃ts,aR w (λb=>b < w.heap.size) ts cs/\Wt P n t ts
 | 0,m,t,cs,x,g,_,_=>by simp [jC] at g
 | n+1,m,t,cs,x,g,h,l=>by
  simp only [jC] at g;split at g
  .rename_i d;obtain⟨b,rfl,_⟩:=DataW.trod_bool d h;exact⟨[.bool b],⟨_,[],rfl,rfl,rfl⟩,by simp only [Wt,d];exact⟨b,rfl⟩⟩
  .rename_i k d;obtain⟨z,rfl,_,X⟩:=DataW.trod_int d h;exact⟨[.int k z],⟨_,[],rfl,rfl,rfl⟩,by simp only [Wt,d];exact⟨z,rfl,X⟩⟩
  .rename_i d;obtain⟨s,rfl,_,X⟩:=DataW.trod_string d h;exact⟨[.str s],⟨_,[],rfl,rfl,rfl⟩,by simp only [Wt,d];exact⟨s,rfl,X⟩⟩
  .rename_i e d;simp only [S0,decide_eq_true_eq] at g;obtain⟨V,B⟩:=g;rcases Go.Deep.open_slice d h with⟨rfl,_⟩ | ⟨a,len,cap,k,E,D,Pl,rfl,hb,U,hm,hk,rfl,L⟩
   .exact⟨[.ae (P.cellsOf e) true []],⟨_,[],rfl, .inl ⟨rfl,rfl,rfl⟩,rfl⟩,by simp only [Wt,d];exact⟨true,[],rfl,λ_=>rfl,by simp,(by intro c y;cases y),by simp⟩⟩
   .obtain⟨ah,off,s⟩:=a;have hlk:len<=k:=by rw [hk];split <;> omega
    dsimp only at l;have N:len * P.bytesOf e<=reachBytes:=by have:=l ((len+ (k - len)) * P.bytesOf e) (by simp [DataW.weights,d]);exact Tz (TK _ (UY _ _)) this
    have J:∀i,i < len->pk P e (D i):=λi hi q C=>l q (by
     simp only [DataW.weights,d,Tg,Tm];exact .inr (.inl (C5 (Tw.2 ⟨i,UO.2 hi,rfl⟩) q C)))
    have G: 0 < len->s=none/\ah < w.heap.size:=by
     intro h0;obtain⟨u,y,_⟩:=L 0 (by omega);obtain⟨I,r,p⟩:=World.cells?_some y;have K:=World.cells?_block y B;have o:=p 0 B;have M:((⟨ah,off,s⟩:Addr).add (0 * P.cellsOf e)).add 0= ⟨ah,off,s⟩:=by simp [Addr.add]
     rw [M] at o;have hc2:∃v,u[0]? =some v:=⟨_,SZ (by omega)⟩;obtain⟨v,hv⟩:=hc2;rw [hv] at o;refine⟨?_, ?_⟩
     .cases s with
      | none=>rfl
      | some z=>simp only [World.cell?] at o;split at o <;> simp at o
     .have e:((⟨ah,off,s⟩:Addr).add (0 * P.cellsOf e))= ⟨ah,off,s⟩:=by simp [Addr.add]
      rw [e] at K;exact K
    obtain⟨xs,k1,k2,k3⟩:=Hq (P:=P) (w:=w) (A:=λb=>b < w.heap.size) (ah:=ah) (sz:=P.cellsOf e) (n:=n) (e:=e) len off λi hi=>by
     obtain⟨u,y,hd⟩:=L i (by omega);obtain⟨hs,_⟩:=G (by omega);subst hs;obtain⟨ts,r1,F⟩:=yY n E e u _ V hd (J i (by omega));obtain⟨I,r,p⟩:=World.cells?_some y;refine⟨ts,u,by rw [<-r1.length,r],r1,F,λj v hj=> ?_⟩;have hj':j < P.cellsOf e:=by rw [<-r];exact(Ta.1 hj).1
     have:=p j hj';rw [hj,gM,gM] at this;exact this
    refine⟨[.ae (P.cellsOf e) false xs],⟨_,[],rfl, .inr ⟨rfl,ah,off,s,cap,by rw [k1],by omega, ?_,k2⟩,rfl⟩,by simp only [Wt,d];exact⟨false,xs,rfl,λh=>(by cases h),by omega,k3,by rw [k1];exact N⟩⟩;by_cases h0:len=0
    .left;exact To.1 (by omega)
    .right;exact G (by omega)
  .rename_i Z d;simp only [decide_eq_true_eq] at g;obtain⟨xs,E,rfl,rfl,U,hsz,Q⟩:=DataW.trod_struct d h;dsimp only at l;obtain⟨_,ts,r1,F⟩:=JN (λt cs x=>yY n E t cs x) cs Z.toList 0 _ g (by omega) λf hf'=>by
    obtain⟨i,hi,e⟩:=TY hf';have Y:Z.toList[i]? =some f:=by rw [SZ hi,e]
    have:=Q i f (by rw [<-T1];exact Y);rw [this];have hx:xs[i]? =some (xs[i]'(by simp at hi;omega)):=SZ (by simp at hi;omega);refine⟨_,hx,λq C=>l q ?_⟩;simp only [DataW.weights,d];exact DataW.weights_mem_each (j:=i) (by rw [TM,Y];rfl) (by rw [TM,hx];rfl) q C
   refine⟨ts, ?_,by simp only [Wt,d];exact F⟩;simp only [We,TZ] at r1;rwa [<-U,Vt] at r1
  .rename_i m' e d;simp only [S0,decide_eq_true_eq] at g;obtain⟨xs,E,rfl,rfl,U,hsz,Q⟩:=DataW.trod_array d h;dsimp only at l;obtain⟨ts,r1,F⟩:=JO (λt cs x=>yY n E t cs x) g.1 m' cs (by omega) λi hi=>by
    rw [Q i hi];refine⟨_,SZ (by omega),λq C=>l q ?_⟩;simp only [DataW.weights,d];exact C5 (Tw.2 ⟨_,UA _,rfl⟩) q C
   exact⟨ts,r1,by simp only [Wt,d];exact F⟩
  .cases g
end
def vf(P:Program)(n:Nat):List TypeId->List AV->Prop
 | [],as=>as= []
 | t::ts,as=>∃a r,as=a::r/\((bm P t=true/\∃l,Wt P n t l/\a= .agg (l.map .t))\/(bm P t=false/\∃x,Wt P n t [x]/\a= .t x))/\vf P n ts r
section
variable {H:Type} {enc:TypeId×Value->H} {P:Program} {W W':World} {sp:Nat->Bool} {held:Bool}
theorem Pv{n:Nat}{t:TypeId}{v:Value}{d:DataW H}{F:List MemPlace}{r:Reach}{C base:Nat}(o:jC P (n+1) t=true)(f:Value.okWide P W r C t v)(h:DataW.Trod enc P W base sp held t v d F)(p:pk P t d):
  ∃a,((bm P t=true/\∃l,Wt P (n+1) t l/\a= .agg (l.map .t))\/(bm P t=false/\∃x,Wt P (n+1) t [x]/\a= .t x))/\al W (λb=>b < W.heap.size) (λ_=>none) a v:=by
 obtain⟨m,hm⟩:=h;obtain⟨ts,r1,B⟩:=yY (n+1) m t _ _ o hm p;have j:bm P t=false->v.cells= #[v]->∃a,((bm P t=true/\∃l,Wt P (n+1) t l/\a= .agg (l.map .t))\/(bm P t=false/\∃x,Wt P (n+1) t [x]/\a= .t x))/\al W (λb=>b < W.heap.size) (λ_=>none) a v:=by
  intro h1 E;rw [E] at r1
  match ts,r1 with
  | [],r1=>simp [aR] at r1
  | [x],⟨u,q,e,g,_⟩=>simp only [UT] at e;obtain⟨rfl,_⟩:=e;exact⟨.t x, .inr ⟨h1,x,B,rfl⟩,by simpa [al] using g⟩
  | x::y::z,⟨u,q,e,_,⟨K,J,D,_⟩⟩=>subst D;simp at e
 have agg:bm P t=true->(∃cs,v= .agg cs)->∃a,((bm P t=true/\∃l,Wt P (n+1) t l/\a= .agg (l.map .t))\/(bm P t=false/\∃x,Wt P (n+1) t [x]/\a= .t x))/\al W (λb=>b < W.heap.size) (λ_=>none) a v:=by rintro h1 ⟨cs,rfl⟩;refine⟨.agg (ts.map .t), .inl ⟨h1,ts,B,rfl⟩, ?_⟩;simp only [al];exact⟨cs.toList,by simp,ay.lU r1,r1.one⟩
 simp only [jC] at o;split at o
 .rename_i i;simp only [Value.okWide,i,Cell.okWide] at f;refine j (by simp [bm,i]) ?_;cases v <;> first | rfl | (simp [Cell.ok,i] at f)
 .rename_i k i;simp only [Value.okWide,i,Cell.okWide] at f;refine j (by simp [bm,i]) ?_;cases v <;> first | rfl | (simp [Cell.ok,i] at f)
 .rename_i i;simp only [Value.okWide,i,Cell.okWide] at f;refine j (by simp [bm,i]) ?_;cases v <;> first | rfl | (simp [Cell.ok,i] at f)
 .rename_i e i;simp only [Value.okWide,i,Cell.okWide] at f;refine j (by simp [bm,i]) ?_;cases v <;> first | rfl | (simp [Cell.ok,i] at f)
 .rename_i G i;simp only [Value.okWide,i] at f;obtain⟨cs,e,_⟩:=f;exact agg (by simp [bm,i]) ⟨cs,e⟩
 .rename_i I e i;simp only [Value.okWide,i] at f;obtain⟨cs,e,_⟩:=f;exact agg (by simp [bm,i]) ⟨cs,e⟩
 .cases o
theorem H5{n:Nat}{r:Reach}{y base:Nat}:∀{ts:List TypeId} {vs:List Value} {i:List (DataW H)} {m:List MemPlace},ts.all (jC P (n+1))=true->(∀(j:Nat) (t:TypeId) (v:Value),ts[j]? =some t->vs[j]? =some v->Value.okWide P W r y t v)->
  DataW.TrodAll enc P W base sp held ts vs i m->(∀k∈DataW.weightsEach P ts i,k<=reachBytes)->∃as,vf P (n+1) ts as/\ay W (λb=>b < W.heap.size) (λ_=>none) as vs
 | [],vs,i,m,_,_,h,_=>by obtain⟨rfl,_,_⟩:=trodAll_nil h;exact⟨[],rfl,by simp [ay]⟩
 | t::ts,vs,i,m,f,g,h,e=>by simp only [Uu,S0] at f;obtain⟨v,x,d,F,p,q,rfl,rfl,rfl,h1,z⟩:=trodAll_cons h;obtain⟨a,B,hr⟩:=Pv f.1 (g 0 t v rfl rfl) h1 (λk l=>e k (by simp only [DataW.weightsEach,Tm];exact .inl l));obtain⟨as,o,u⟩:=H5 f.2 (λj D E C hv=>g (j+1) D E (by simpa using C) (by simpa using hv)) z (λk l=>e k (by simp only [DataW.weightsEach,Tm];exact .inr l));exact⟨a::as,⟨a,as,rfl,B,o⟩,by simp only [ay];exact⟨v,x,rfl,hr,u⟩⟩
theorem Jc(i:laidOutB P=true)(hb:Below W.heap.size W W'):∀{ts:List TypeId} {vs:List Value} {e:List (DataW H)} {a:List MemPlace},(ts.all λt=>P.readableRec t && decide (t < P.types.size))=true->
  DataW.TrodAll enc P W 0 (λ_=>true) true ts vs e a->(∀x∈a,x.block < W.heap.size)->DataW.TrodAll enc P W' 0 (λb=>decide (b < W.heap.size)) true ts vs e a
 | [],vs,e,a,_,h,_=>by obtain⟨rfl,rfl,rfl⟩:=trodAll_nil h;exact trodAll_mk0
 | t::ts,vs,e,a,hr,h,f=>by simp only [Uu,S0,decide_eq_true_eq] at hr;obtain⟨v,l,d,k,p,q,rfl,rfl,rfl,h1,j⟩:=trodAll_cons h;exact trodAll_cons_mk (Below.trod i hr.1.1 hr.1.2 h1 hb λx g=>f x (Tf _ g)) (Jc i hb (by simpa using hr.2) j λx g=>f x (Te _ g))
theorem KD(hb:Below W.heap.size W W')(a:MemPlace->Prop):W.keptBut W' a:=by
 refine⟨hb.os,hb.output,λi hi=> ?_⟩;rw [hb.block i hi];cases W.heap[i]? with
 | none=>rfl
 | some o=>cases o <;> first | exact⟨rfl,rfl,rfl,λ_ _=>rfl⟩ | exact .inr ⟨rfl,rfl⟩ | rfl
theorem law_contract{n:Nat}{fn:Func}{s:ChangeSpec}{An:cE}{f:FuncId}{tb:TypeId}(hm:P.follows .mixedOrders=true)(hn:(P.funcs.toList.all λfn=>fn.name != "runtime.NumGoroutine")=true)(hl:laidOutB P=true)
  (M:P.funcs[f]? =some fn) (G:An.iu f=none) (I:de P An f 0 fn= [.f .b]) (V:P.underlying tb=some .bool) (U:fn.resultTypes= #[tb])
  (C:fn.params.toList.all (jC P (n+1))=true) (l:(fn.params.toList.all λt=>P.readableRec t && decide (t < P.types.size))=true)
  (m:s.vars= []) (B:∀(a:List (DataW H)),a.length=fn.params.toList.length->s.fn H a= {results:= [.lit (.bool true)],args:=a})
  (g:∀as,vf P (n+1) fn.params.toList as->mF P An (.call f) as []=some [.bool true])
  (W:World) (base:Nat) (args:Array Value) (a J:List (DataW H)) (r:List MemPlace) (z:∀(j:Nat) t v,fn.params[j]? =some t->args[j]? =some v->Value.okWide P W .any base t v)
  (K:DataW.Whole enc P fn.params.toList s.vars false W args.toList a J r)
  (D:(DataW.weightsEach P (fn.params.toList++s.plain.varTypes P) (a++J)).all (· <=reachBytes)=true)
  (Y:nZ P An:=by exact Go.Aev.nZ.no λ_ _ _=>rfl):
  Calls P f args W λe W'=>∃v,e= .returned v/\s.post enc P fn false true false false W args v W':=by
 have u:=K;obtain⟨p,q,o,E,rfl,hz,N⟩:=K;rw [m] at E;obtain⟨rfl,rfl⟩:=trodVars_none E;obtain⟨as,L,hr⟩:=H5 C (λj t v ht hv=>z j t v (by rw [<-T1];exact ht) (by rw [<-T1];exact hv)) o (λk hk=>by simpa using Tk.1 D k (Kb hk));have F:a.length=fn.params.toList.length:=by
  clear u hr L z hz N E l C g D;generalize fn.params.toList=ts at o;generalize args.toList=vs at o;induction ts generalizing vs a p with
  | nil=>obtain⟨_,rfl,_⟩:=trodAll_nil o;rfl
  | cons t ts ih=>obtain⟨v,vs',d,ds',p',q',_,rfl,_,_,X⟩:=trodAll_cons o;simp [ih _ _ _ X]
 have Q:∀(f:FuncId) (fn:Func),P.funcs[f]? =some fn->fn.name≠ "runtime.NumGoroutine" :=by intro f fn h;have:=Tk.1 hn fn (SX (i:=f) (by rw [T1];exact h));simpa using this
 have:=KZ (w:=W) (A0:=λb=>b < W.heap.size) Y hm Q M G I (λ_ h=>h) hr (g as L);rw [show args.toList.toArray=args from by simp] at this;refine this.mono λe W' ⟨Z,hb⟩=>⟨.bool true,Z, ?_⟩;have y:=B a F;refine⟨a,[],p++ [],[],p,[],u, ?_, ?_, ?_,KD hb _,λh=>by cases h⟩
 .rw [T7,y,U];exact trodAll_cons_mk (shut_bool V true) trodAll_mk0
 .rw [T7,y];exact Jc hl hb l o (λx hx=>u.lt x (by simpa using hx))
 .rw [T7,y,m];rfl
end
section
variable {P:Program} {n:Nat} {t:TypeId} {ts:List T}
theorem SK{k:IntKind}(a:P.underlying t=some (.int k))(h:Wt P (n+1) t ts):∃m,ts= [.int k m]/\(Lit.int k m).wf=true:=by simpa only [Wt,a] using h
theorem SN{a:Array Field}(b:P.underlying t=some (.struct a))(h:Wt P (n+1) t ts):wK (Wt P n) a.toList ts:=by simpa only [Wt,b] using h
theorem SM{e:TypeId}(a:P.underlying t=some (.slice e))(h:Wt P (n+1) t ts):∃b xs,ts= [.ae (P.cellsOf e) b xs]/\(b=true->xs= [])/\xs.length<=maxLen/\(∀cs∈xs,Wt P n e cs)/\xs.length * P.bytesOf e<=reachBytes:=by simpa only [Wt,a] using h
theorem C8{j:Type}(g:j->List T){e:TypeId}(q:P.underlying t=some (.slice e))(h:Wt P (n+1) t ts)(o:∀cs,Wt P n e cs->∃a,cs=g a):
  ∃b l,ts= [.ae (P.cellsOf e) b (l.map g)]/\(b=true->l= [])/\l.length<=maxLen/\l.length * P.bytesOf e<=reachBytes:=by
 obtain⟨b,xs,rfl,h1,d,f,i⟩:=SM q h;have:∃l:List j,xs=l.map g:=by
  clear h1 d h i;induction xs with
  | nil=>exact⟨[],rfl⟩
  | cons c xs r=>obtain⟨a,k⟩:=o c (f c SW);obtain⟨l,p⟩:=r λcs m=>f cs (SY _ m);exact⟨a::l,by rw [k,p];rfl⟩
 obtain⟨l,rfl⟩:=this;exact⟨b,l,rfl,λhb=>by simpa using h1 hb,by simpa using d,by simpa using i⟩
theorem SL{k:Type}(g:k->List T){e:TypeId}(j:P.underlying t=some (.slice e))(h:Wt P (n+1) t ts)(i:∀cs,Wt P n e cs->∃a,cs=g a):
  ∃b l,ts= [.ae (P.cellsOf e) b (l.map g)]/\(b=true->l= [])/\l.length<=maxLen:=by
 obtain⟨b,l,h1,d,f,_⟩:=C8 g j h i;exact⟨b,l,h1,d,f⟩
theorem zY{a:AV}(h:(bm P t=true/\∃l,Wt P n t l/\a= .agg (l.map .t))\/(bm P t=false/\∃x,Wt P n t [x]/\a= .t x))(hb:bm P t=false):∃x,Wt P n t [x]/\a= .t x:=by
 rcases h with h | h
 .rw [hb] at h;cases h.1
 .exact h.2
end
end Go.Aev
