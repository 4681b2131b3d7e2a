import Derived.Test.YtdjbbnlgpddbmaaAwayAllQ4
import Derived.Orders
import Derived.Still
import Derived.Below
import Derived.Deep.Slices
import Derived.Carry
import Derived.ProofKit
import Derived.OpenShut
import Derived.SizedLaws
set_option linter.all false
namespace Go.Aev
open Go Go.IntKind
section
variable {P:Program} {An:bZ} {Or:az} {w w':World} {A A':Nat->Prop} {c:Ctx} {ρ:Id->Option Value} {O:Id->Option Nat} {s s':St}
structure dN (c:Ctx) (nt:Nat) (w:World) (s:St) (ρ:Id->Option Value) (O:Id->Option Nat) (a:Act):Prop where
 hs:HS c w s.h ρ O
 ss:SS w (AA c w O) ρ s.t a.tmps
 nt:a.tmps.size=nt
 defers:a.defers= []
def np(ops:Array Oper)(s:St):Prop:= ∀k g v,s.t k= (some g,v)->dm ops (some g.d)=true
theorem mH{a:Act}{d k:Nat}{x:Value}(b:d < a.tmps.size):(a.put (some d) x).tmps.getD k undef=if k=d then x else a.tmps.getD k undef:=by
 simp only [Act.put];by_cases e:k=d
 .subst e;simp [b]
 .rw [if_neg e];simp [VA (VL e)]
theorem wZ(a:Act)(d:Option Nat)(x:Value):(a.put d x).tmps.size=a.tmps.size:=by cases d <;> simp [Act.put]
theorem wX(a:Act)(d:Option Nat)(x:Value):(a.put d x).defers=a.defers:=by cases d <;> rfl
theorem M4{ops:Array Oper}{o:Oper}{a:Act}{g:Option Gs}(J:SS w A ρ s.t a.tmps)(h:cK ops o s some=some g):
  (Region.wanted o (yielded ops a.tmps)=true->jG a.tmps g)/\
  (Region.wanted o (yielded ops a.tmps)=false->∃i,g=some i/\a.tmps.getD i.d undef≠ .bool i.want/\i.c=false)/\
  (∀i,g=some i->dm ops (some i.d)=true\/∀M∈ops,M≠o):=by
 unfold cK at h;cases m:o.guard with
 | none=>simp only [m,RJ] at h;subst h;exact⟨λ_=>trivial,λh=>by simp [Region.wanted,m] at h,λi h=>by cases h⟩
 | some p=>
  obtain⟨j,want⟩:=p;simp only [m] at h;cases y:(ops[j]?).bind (·.dst) with
  | none=>simp [y] at h
  | some d=>
   simp only [y] at h;replace h:=RK.1 h;obtain⟨x,l,h⟩:=h;have K:Region.wanted o (yielded ops a.tmps)=true↔a.tmps.getD d undef= .bool want:=by
    simp only [Region.wanted,m,yielded,y,R2,beq_iff_eq];rw [Tp];cases a.tmps[d]? with
    | none=>simp [undef]
    | some u=>cases u <;> simp
   have G:∀i,g=some i->i.d=d/\i.want=want:=by intro i e;replace h:=o4 h;obtain⟨b,h,_⟩:=h;simp only [RJ] at h;rw [<-h] at e;simp only [RJ] at e;subst e;exact⟨rfl,rfl⟩
   have z:∃i,g=some i:=by replace h:=o4 h;obtain⟨b,h,_⟩:=h;simp only [RJ] at h;exact⟨_,h.symm⟩
   obtain⟨i,rfl⟩:=z;obtain⟨D,E⟩:=G i rfl;refine⟨λL=> ?_,λC=>⟨i,rfl, ?_⟩,λV e=> ?_⟩
   .have B:=K.1 L;simp only [jG,D,E];refine⟨B, ?_⟩;have f:=J d;rw [B] at f;cases r:s.t d with
    | mk gd v=>
     rw [r] at f l h;dsimp only at l h f;rw [AV.lf l] at f;cases gd with
     | none=>simp only [ai] at f;simp only [Wg] at h;replace h:=aI h (.inl rfl);obtain⟨b,hb,h⟩:=h;simp only [RJ] at h;have:=T.ik hb;subst this;simp only [au,Value.bool.injEq] at f;rw [<-h,<-f];cases want <;> rfl
     | some N=>
      simp only at f;rcases f with⟨_,k,hv⟩ | ⟨_,_,U⟩
      .simp only [TZ,k] at h;replace h:=aI h (.inr rfl);obtain⟨b,hb,h⟩:=h;simp only [RJ] at h;have:=T.ik hb;subst this;simp only [ai,au,Value.bool.injEq] at hv;rw [<-h,<-hv];simp only [gC,k];cases want <;> rfl
      .simp [undef] at U
   .have q:a.tmps.getD d undef≠ .bool want:=λQ=>by
     have:=K.2 Q;rw [this] at C;cases C
    refine⟨by rw [D,E];exact q, ?_⟩;have f:=J d;cases r:s.t d with
    | mk gd v=>
     rw [r] at f l h;dsimp only at l h f;rw [AV.lf l] at f;cases gd with
     | none=>simp only [ai] at f;simp only [Wg] at h;replace h:=aI h (.inl rfl);obtain⟨b,hb,h⟩:=h;simp only [RJ] at h;have:=T.ik hb;subst this;simp only [au] at f;have F:b≠want:=λe=>q (by rw [f,e]);rw [<-h];simp only [gC];cases b <;> cases want <;> simp_all [ve]
     | some N=>
      simp only at f;rcases f with⟨_,k,hv⟩ | ⟨_,k,_⟩
      .simp only [TZ,k] at h;replace h:=aI h (.inr rfl);obtain⟨b,hb,h⟩:=h;simp only [RJ] at h;have:=T.ik hb;subst this;simp only [ai,au] at hv;have F:b≠want:=λe=>q (by rw [hv,e]);rw [<-h];simp only [gC,k];cases b <;> cases want <;> simp_all [ve]
      .replace h:=o4 h;obtain⟨b,h,_⟩:=h;simp only [RJ] at h;rw [<-h];simp [gC,k]
   .simp only [RJ] at e;subst e;by_cases hm:o∈ops
    .left;unfold dm;rw [UM];exact⟨o,hm,by simp [m,y,D]⟩
    .right;intro M I e;exact hm (e▸I)
theorem A4{ops:Array Oper}{o:Oper}{g:Option Gs}{v:AV}{us:aE}(a:np ops s)(m:∀p,g=some p->dm ops (some p.d)=true):np ops (s.put (dm ops o.dst) o.dst g v us):=by
 intro k l r hk;cases q:o.dst with
 | none=>simp only [St.put,q] at hk;exact a k l r hk
 | some d=>
  simp only [St.put,q] at hk;by_cases e:k=d
  .simp only [if_pos e,SA] at hk;exact m l hk.1
  .simp only [if_neg e] at hk;cases b:dm ops (some d) with
   | false=>rw [b,cond_false] at hk;exact a k l r hk
   | true=>
    rw [b,cond_true] at hk;cases j:s.t k with
    | mk f vk=>
     rw [j] at hk;cases f with
     | none=>simp [lP] at hk
     | some f=>
      simp only [lP] at hk;cases i:(f.d==d) with
      | true=>simp [i] at hk
      | false=>simp only [i,cond_false,SA,RJ] at hk;rw [<-hk.1];exact a k f vk j
theorem w7{nt:Nat}{ops:Array Oper}{o:Oper}{a:Act}{g:Option Gs}{v:AV}{us:aE}(ss:SS w (AA c w O) ρ s.t a.tmps)(D:a.tmps.size=nt)(C:np ops s)
  (r:∀d,o.dst=some d->d < nt) (B:∀j d,g=some j->o.dst=some d->j.d≠d)
  (w':World) (ρ':Id->Option Value) (O':Id->Option Nat) (x:Value) (I:∀b,AA c w O b->AA c w' O' b/\w'.heap[b]? =w.heap[b]?) (F:∀i v,ρ i=some v->ρ' i=some v)
  (E:match g with
   | none=>ai w' (AA c w' O') ρ' v x
   | some j=>(a.tmps.getD j.d undef= .bool j.want/\j.c=true/\ai w' (AA c w' O') ρ' v x)\/(a.tmps.getD j.d undef≠ .bool j.want/\j.c=false/\x=undef)):
  SS w' (AA c w' O') ρ' (s.put (dm ops o.dst) o.dst g v us).t (a.put o.dst x).tmps:=by
 have q:=SS.mono I F ss;cases y:o.dst with
 | none=>simp only [St.put,Act.put];exact q
 | some d=>
  have f:d < a.tmps.size:=by rw [D];exact r d y
  intro k;simp only [St.put];by_cases e:k=d
  .subst e;simp only [if_true];cases g with
   | none=>simp only;rw [mH f,if_pos rfl];exact E
   | some j=>have m:j.d≠k:=B j k rfl y;simp only;rw [mH f,mH f,if_neg m,if_pos rfl];exact E
  .simp only [if_neg e];have hk:=q k;cases u:dm ops (some d) with
   | false=>
    simp only [cond_false];cases p:s.t k with
    | mk l vk=>
     rw [p] at hk;cases l with
     | none=>simp only at hk⊢;rw [mH f,if_neg e];exact hk
     | some l=>
      have m:l.d≠d:=by intro G;have:=C k l vk p;rw [G,u] at this;cases this
      simp only at hk⊢;rw [mH f,mH f,if_neg e,if_neg m];exact hk
   | true=>
    simp only [cond_true];cases p:s.t k with
    | mk l vk=>
     rw [p] at hk;cases l with
     | none=>simp only [lP] at hk⊢;rw [mH f,if_neg e];exact hk
     | some l=>
      simp only [lP];cases z:(l.d==d) with
      | true=>simp [ai]
      | false=>
       have m:l.d≠d:=by simpa using z
       simp only [cond_false] at hk⊢;rw [mH f,mH f,if_neg e,if_neg m];exact hk
theorem SS.qO{tmps:Array Value}{b:Gs}(hs:SS w A ρ s.t tmps)(j:tmps.getD b.d undef= .bool b.want):SS w A ρ (s.qO b).t tmps:=by
 intro k;have hk:=hs k;simp only [St.qO];cases e:s.t k with
 | mk g v=>
  rw [e] at hk;cases g with
  | none=>simp only [kk,cond_true] at hk⊢;exact hk
  | some f=>
   by_cases a:kk (some f) (some b)=true
   .simp only [a,cond_true];simp only [kk,RQ,beq_iff_eq] at a;simp only at hk;rcases hk with⟨_,_,i⟩ | ⟨h1,_⟩
    .exact i
    .exfalso;apply h1;rw [a.1,a.2];exact j
   .simp only [Vv] at a;simp only [a,cond_false];exact hk
theorem Hi{D:Bool}{nt:Nat}{ops:Array Oper}{o:Oper}{a:Act}(hO:iJ P An Or)(aN:dN c nt w s ρ O a)(l:np ops s)(Y:o∈ops)(h:eu P An Or D nt ops o s=some s'):
  np ops s'/\∀(K:Act->World->Prop) (Q:Exit->Act->World->Prop),(∀Z w' ρ' O',Le w ρ O w' ρ' O'->dN c nt w' s' ρ' O' Z->K Z w')->
   if Region.wanted o (yielded ops a.tmps) then o.wp P a w K Q\/(o.asks P a w/\LetsOut Q) else K (a.put o.dst undef) w:=by
 unfold eu nW at h;rw [we] at h;replace h:=RK.1 h;obtain⟨g,hg,h⟩:=h;obtain⟨E,u,V⟩:=M4 aN.ss hg;have q:∀i,g=some i->dm ops (some i.d)=true:=λi e=>(V i e).resolve_right λhn=>hn o Y rfl;cases k:pv An D o g with
 | none=>
  rw [k] at h;dsimp only at h;rw [pV] at h;replace h:=RK.1 h;obtain⟨⟨v,us⟩,J,h⟩:=h;dsimp only at h;split at h
  .rename_i C;simp only [RJ] at h;subst h;simp only [nV,RQ] at C;obtain⟨⟨⟨X,F⟩,r⟩,_⟩:=C;have j:∀d,o.dst=some d->d < nt:=λd e=>by simpa [e] using X
   have B:∀i d,g=some i->o.dst=some d->i.d≠d:=λi d N U=>by subst N;simp only [U,RQ,S4,beq_eq_false_iff_ne,ne_eq,RJ] at F;exact λe=>F.2 e.symm
   refine⟨A4 l q,λK Q I=> ?_⟩;split
   .rename_i m;left;have f:=E m;refine ic.wp (CW hO aN.hs aN.ss f J r) λx w' ⟨ρ',O',le,L,hv⟩=> ?_;refine I _ w' ρ' O' le ⟨L, ?_,by rw [wZ];exact aN.nt,by rw [wX];exact aN.defers⟩;refine w7 aN.ss aN.nt l j B w' ρ' O' x (λb hb=>le.A b hb) le.dL ?_;cases g with
    | none=>exact hv
    | some i=>exact .inl ⟨f.1,f.2,hv⟩
   .rename_i m;obtain⟨i,rfl,G,p⟩:=u (by simpa using m);have hus:us= []:=by
     simp only [RQ,Vw] at F;exact F.1
    subst hus;refine I _ w ρ O Le.refl ⟨aN.hs, ?_,by rw [wZ];exact aN.nt,by rw [wX];exact aN.defers⟩;exact w7 aN.ss aN.nt l j B w ρ O undef (λb hb=>⟨hb,rfl⟩) (λ_ _ h=>h) (.inr ⟨G,p,rfl⟩)
  .simp at h
 | some i=>
  rw [k] at h;dsimp only at h;have hg':g=some i:=by
   cases g with
   | none=>simp [pv] at k
   | some g0=>
    simp only [pv] at k;cases hb:(!D && eG An o) with
    | false=>rw [hb] at k;cases k
    | true=>rw [hb] at k;simpa using k
  subst hg';cases z:vB nt o i with
  | false=>rw [z] at h;cases h
  | true=>
   rw [z,cond_true] at h;simp only [vB,RQ] at z;have j:∀d,o.dst=some d->d < nt:=λd e=>by simpa [e] using z.1
   have B:∀y d,some i=some y->o.dst=some d->y.d≠d:=λy d N U=>by cases N;have:=z.2;simp only [U,S4,beq_eq_false_iff_ne,ne_eq,RJ] at this;exact λe=>this e.symm
   cases M:i.c with
   | false=>
    rw [M,cond_false] at h;simp only [RJ] at h;subst h;refine⟨A4 l q,λK Q I=> ?_⟩;split
    .rename_i m;have:=(E m).2;rw [M] at this;cases this
    .rename_i m;obtain⟨y,e,G,p⟩:=u (by simpa using m);cases e;refine I _ w ρ O Le.refl ⟨aN.hs, ?_,by rw [wZ];exact aN.nt,by rw [wX];exact aN.defers⟩;exact w7 aN.ss aN.nt l j B w ρ O undef (λb hb=>⟨hb,rfl⟩) (λ_ _ h=>h) (.inr ⟨G,p,rfl⟩)
   | true=>
    rw [M,cond_true,pV] at h;replace h:=RK.1 h;obtain⟨⟨v,us⟩,J,h⟩:=h;dsimp only at h;split at h
    .rename_i C;simp only [RJ] at h;subst h;simp only [nV,RQ] at C;obtain⟨⟨⟨_,_⟩,r⟩,_⟩:=C;refine⟨A4 l q,λK Q I=> ?_⟩;split
     .rename_i m;left;have f:=E m;refine ic.wp (CW (s:=s.qO i) (g:=none) hO aN.hs (aN.ss.qO f.1) trivial J r) λx w' ⟨ρ',O',le,L,hv⟩=> ?_;refine I _ w' ρ' O' le ⟨L, ?_,by rw [wZ];exact aN.nt,by rw [wX];exact aN.defers⟩;exact w7 aN.ss aN.nt l j B w' ρ' O' x (λb hb=>le.A b hb) le.dL (.inl ⟨f.1,f.2,hv⟩)
     .rename_i m;obtain⟨y,e,G,p⟩:=u (by simpa using m);cases e;rw [M] at p;cases p
    .simp at h
theorem dN.clear{nt:Nat}{a:Act}(aN:dN c nt w s ρ O a):dN c nt w s.clear ρ O a:=by
 refine⟨aN.hs,λk=> ?_,aN.nt,aN.defers⟩;have:=aN.ss k;simp only [St.clear];cases b:s.t k with
 | mk d vk=>
  rw [b] at this;cases d with
  | none=>exact this
  | some g=>simp [ai]
def nh(s:St):Prop:= ∀k g v,s.t k≠(some g,v)
theorem KD(s:St):nh s.clear:=by intro k g v h;simp only [St.clear] at h;split at h <;> simp at h
theorem nh.F1(h:nh s)(ops:Array Oper):np ops s:=λk g v e=>(h k g v e).elim
theorem HY{f:Bool}{nt:Nat}{ops:Array Oper}(v:iJ P An Or){Q:Exit->Act->World->Prop}:∀{l:List Oper} {k:Nat} {w:World} {s:St} {ρ:Id->Option Value} {O:Id->Option Nat} {a:Act},
  (∀j,l[j]? =ops[k+j]?)->dN c nt w s ρ O a->np ops s->iA P An Or f nt ops l s=some s'->
  (∀e w' ρ' O',Le w ρ O w' ρ' O'->dN c nt w' s' ρ' O' e->Q .normal e w')->wpOps P ops Q (List.range' k l.length) a w
 | [],k,w,s,ρ,O,a,hl,aN,d,h,g=>by simp only [iA,RJ] at h;subst h;exact g a w ρ O Le.refl aN
 | o::l,k,w,s,ρ,O,a,hl,aN,d,h,g=>by
  simp only [iA] at h;obtain⟨s1,h1,h⟩:=RK.1 h;have u:ops[k]? =some o:=by simpa using (hl 0).symm
  obtain⟨i,step⟩:=Hi v aN d (Sa u) h1;rw [Sc,U4];simp only [wpOps,u];refine step _ Q λe w' ρ' O' le m=> ?_;exact HY v (λj=>by have:=hl (j+1);simpa [Uv,VF 1 j] using this) m i h
   (λr y p q x b=>g r y p q (le.trans x) b)
theorem Pc{nt id:Nat}{ops:Array Oper}{a:Act}(e:iJ P An Or){Q:Exit->Act->World->Prop}(aN:dN c nt w s ρ O a)(hb:nh s)(h:iA P An Or false nt ops ops.toList s=some s')
  (f:∀b w' ρ' O',Le w ρ O w' ρ' O'->dN c nt w' s'.clear ρ' O' b->Q .normal b w'):(Code.region id ops false).wp P Q a w:=by
 refine wp_region ?_;rw [VD,<-R8];exact HY e (by intro j;simp) aN (hb.F1 ops) h λb w' ρ' O' le d=>f b w' ρ' O' le d.clear
end
open Go Go.IntKind
section
variable {P:Program} {A:bZ} {O:az} {R:Type} {h h':Id->Option ab} {s s':St}
theorem jn{v:AV}{vs:List AV}{i:Id}:i∈bI (v::vs)↔i∈v.ids\/i∈bI vs:=by simp [bI]
theorem qZ{v:AV}(a:∀i∈v.ids,h' i=h i):cO h' v=cO h v:=by
 cases v <;> simp only [cO]
 all_goals rw [a _ (by simp [AV.ids])]
theorem vW{v:AV}(a:∀i∈v.ids,h' i=h i):gu h' v=gu h v:=by
 cases v <;> simp only [gu]
 all_goals rw [a _ (by simp [AV.ids])]
theorem IJ:∀{vs:List AV},(∀i∈bI vs,h' i=h i)->kr h' vs=kr h vs
 | [],_=>rfl
 | v::vs,a=>by simp only [kr];rw [qZ λi hi=>a i (jn.2 (.inl hi)),IJ λi hi=>a i (jn.2 (.inr hi))]
theorem FE:∀{vs:List AV},(∀i∈bI vs,h' i=h i)->lS h' vs=lS h vs
 | [],_=>rfl
 | v::vs,a=>by simp only [lS];rw [vW λi hi=>a i (jn.2 (.inl hi)),FE λi hi=>a i (jn.2 (.inr hi))]
theorem IM{v:AV}(a:∀i∈v.ids,h' i=h i):ko h' v=ko h v:=by
 cases v
 case agg vs=>simp only [ko];exact IJ (by simpa [AV.ids] using a)
 all_goals (simp only [ko];rw [qZ a])
theorem FH{v:AV}(a:∀i∈v.ids,h' i=h i):fX h' v=fX h v:=by
 cases v
 case agg vs=>simp only [fX];exact FE (by simpa [AV.ids] using a)
 all_goals (simp only [fX];rw [vW a])
theorem CZ{fl:Bool}{v:AV}(a:∀i∈v.ids,h' i=h i):jg fl false h' v=jg fl false h v:=by
 cases v
 case ref i off=>simp only [jg,cond_false];rw [a i (by simp [AV.ids]),qZ a,vW a]
 all_goals (simp only [jg];rw [qZ a,vW a])
theorem uT{fl:Bool}:∀{vs:List AV},(∀i∈bI vs,h' i=h i)->lD fl false h' vs=lD fl false h vs
 | [],_=>rfl
 | v::vs,a=>by simp only [lD];rw [CZ λi hi=>a i (jn.2 (.inl hi)),uT λi hi=>a i (jn.2 (.inr hi))]
theorem C3{fl:Bool}{v:AV}(d:∀i∈v.ids,h' i=h i):kF fl false h' v=kF fl false h v:=by
 cases v
 case agg vs=>simp only [kF];rw [uT (by simpa [AV.ids] using d)]
 case fn f a b=>simp only [AV.ids,RX] at d;simp only [kF];rw [uT λi hi=>d i (.inl hi),uT λi hi=>d i (.inr hi)]
 all_goals (simp only [kF];rw [CZ d])
theorem C5{fl:Bool}:∀{vs:List AV},(∀i∈bI vs,h' i=h i)->kG fl false h' vs=kG fl false h vs
 | [],_=>rfl
 | v::vs,a=>by simp only [kG];rw [C3 λi hi=>a i (jn.2 (.inl hi)),C5 λi hi=>a i (jn.2 (.inr hi))]
theorem sv:∀{a b:List AV} {i:Id},i∈bI (a++b)↔i∈bI a\/i∈bI b
 | [],b,i=>by simp [bI]
 | v::a,b,i=>by rw [RU,jn,jn,sv,or_assoc]
theorem z6:∀{vs:List AV} {i:Id},i∈bI vs->∃v∈vs,i∈v.ids
 | v::vs,i,hi=>by
  rcases jn.1 hi with hi | hi
  .exact⟨v,RL,hi⟩
  .obtain⟨u,h1,a⟩:=z6 hi;exact⟨u,RM _ h1,a⟩
 | [],i,hi=>by simp [bI] at hi
theorem yW{d:Nat}{c:Option Bool}{f:FuncId}{args:List AV}{K:AV->aE->Option R}(a:s'.h=s.h\/(A.gQ f=none/\A.deep f=false/\∀i∈bI args,s'.h i=s.h i)):fR P A O s' d c f args K=fR P A O s d c f args K:=by
 unfold fR;rcases a with a | ⟨hb,b,a⟩
 .rw [a]
 .have e:∀fl,kG fl false s'.h args=kG fl false s.h args:=λfl=>C5 a;simp only [hb,b,e]
theorem Bl{c:Option Bool}{i:Id}{n:Nat}{K:Nat->Bool->List (List T)->Option R}(a:h' i=h i):kZ h' c i n K=kZ h c i n K:=by unfold kZ;rw [a]
theorem Kq{gE:Bool}{d:Nat}{c:Option Bool}{f:FuncId}{args:List AV}{K:AV->aE->Option R}(a:s'.h=s.h\/(gE=false/\A.gQ f=none/\A.deep f=false/\∀i∈bI args,s'.h i=s.h i)):iM gE P A O s' d c f args K=iM gE P A O s d c f args K:=by
 rcases a with a | ⟨rfl,a⟩
 .unfold iM;rw [a];cases cond gE (mX args) none with
  | none=>exact yW (.inl a)
  | some q=>obtain⟨b,i,n,e⟩:=q;dsimp only;split <;> rfl
 .exact yW (.inr a)
theorem Nr{c:Option Bool}{t:TypeId}{a:AV}{K:AV->Option R}(b:∀i∈a.ids,s'.h i=s.h i):jr P s' c t a K=jr P s c t a K:=by unfold jr;cases a <;> (try rfl) <;> (simp only [];first | rw [Bl (b _ (by simp [AV.ids]))] | rw [b _ (by simp [AV.ids])])
theorem Qk{t:TypeId}{a v:AV}{K:aE->Option R}(b:∀i∈a.ids,s'.h i=s.h i)(hv:∀i∈v.ids,s'.h i=s.h i):iE P s' t a v K=iE P s t a v K:=by
 unfold iE;cases a <;> (try rfl) <;> (simp only [];rw [b _ (by simp [AV.ids])];try rw [IM hv,FH hv]);cases v
 case own j=>simp only [hv j (by simp [AV.ids])]
 all_goals rfl
theorem M8{c:Option Bool}{t:TypeId}{x:AV}{i:Int}{K:AV->Option R}(a:∀i∈x.ids,s'.h i=s.h i):iU P s' c t x i K=iU P s c t x i K:=by
 unfold iU;cases x
 case row i n=>simp only [Bl (a i (by simp [AV.ids]))]
 all_goals first | rfl | (simp only [];rw [a _ (by simp [AV.ids])])
theorem Nj{c:Option Bool}{t:TypeId}{x:AV}{K:AV->Option R}(a:∀i∈x.ids,s'.h i=s.h i):mK P s' c t x K=mK P s c t x K:=by
 unfold mK;cases x
 case row i n=>simp only [Bl (a i (by simp [AV.ids]))]
 all_goals first | rfl | (simp only [];rw [a _ (by simp [AV.ids])])
theorem P7{c:Option Bool}{t:TypeId}{x:AV}{a hi b:Option Int}{K:AV->Option R}(d:∀i∈x.ids,s'.h i=s.h i):m5 P s' c t x a hi b K=m5 P s c t x a hi b K:=by unfold m5;cases x <;> (try rfl) <;> (simp only [];rw [d _ (by simp [AV.ids])])
theorem F3{t:TypeId}{x:AV}(a:∀i∈x.ids,s'.h i=s.h i):iV P s' t x=iV P s t x:=by
 unfold iV;cases x
 case own i=>simp only [a i (by simp [AV.ids])]
 case t z=>cases z <;> rfl
 all_goals rfl
theorem JQ{t:TypeId}{sz:Nat}{a:List T}{y:AV}{K:List (List T)->Option R}(b:∀i∈y.ids,s'.h i=s.h i):lC P s' t sz a y K=lC P s t sz a y K:=by unfold lC;rw [qZ b]
theorem JJ{d:Nat}{t ty:TypeId}{x y:AV}{K:AV->aE->Option R}(a:∀i∈x.ids,s'.h i=s.h i)(hy:∀i∈y.ids,s'.h i=s.h i):jJ P s' d false t ty x y K=jJ P s d false t ty x y K:=by
 unfold jJ;simp only [cond_false];cases x <;> simp only [JQ hy]
 case own i=>rw [a i (by simp [AV.ids])]
 case part i sz off n=>rw [a i (by simp [AV.ids])]
 all_goals rfl
theorem Nz{c:Option Bool}{t:TypeId}{x k:AV}{ok:Bool}{K:AV->Option R}(a:∀i∈x.ids,s'.h i=s.h i):mM P s' c t x k ok K=mM P s c t x k ok K:=by unfold mM;cases x <;> (try rfl) <;> (simp only [];rw [a _ (by simp [AV.ids])])
theorem OS{t:TypeId}{x k v:AV}{K:aE->Option R}(a:∀i∈x.ids,s'.h i=s.h i):mS P s' t x k v K=mS P s t x k v K:=by unfold mS;cases x <;> (try rfl) <;> (simp only [];rw [a _ (by simp [AV.ids])])
theorem KN{t:TypeId}{x k:AV}{K:aE->Option R}(a:∀i∈x.ids,s'.h i=s.h i):my P s' t x k K=my P s t x k K:=by unfold my;cases x <;> (try rfl) <;> (simp only [];rw [a _ (by simp [AV.ids])])
theorem EK{e:TypeId}{ev:Operand->AV}:∀{a:List (Nat×Operand)} {n:Nat},(∀x∈a.map (·.2),∀i∈(ev x).ids,h' i=h i)->gW P h' e ev n a=gW P h e ev n a
 | [],n,_=>rfl
 | (k,o)::a,n,b=>by simp only [gW];rw [IM (b o (by simp)),FH (b o (by simp)),EK λx d=>b x (by simp only [Se];exact RM _ d)]
theorem EL{e:TypeId}{ev b:Operand->AV}:∀{a:List (Nat×Operand)} {n:Nat},(∀x∈a.map (·.2),b x=ev x)->gW P h e b n a=gW P h e ev n a
 | [],n,_=>rfl
 | (k,o)::a,n,d=>by simp only [gW];rw [d o (by simp),EL λx f=>d x (by simp only [Se];exact RM _ f)]
theorem Hy{t:TypeId}{ev b:Operand->AV}:∀{a:List (Nat×Operand)},(∀x∈a.map (·.2),b x=ev x)->n7 P t b a=n7 P t ev a
 | [],_=>rfl
 | (k,o)::a,d=>by simp only [n7];rw [d o (by simp),Hy λx e=>d x (by simp only [Se];exact RM _ e)]
theorem qC{g:Option Gs}{x:Operand}(a:∀k,x= .tmp k->s'.t k=s.t k):s'.get g x=s.get g x:=by
 cases x with
 | tmp k=>show(cond (kk (s'.t k).1 g) (s'.t k).2 AV.top)=cond (kk (s.t k).1 g) (s.t k).2 AV.top;rw [a k rfl]
 | _=>rfl
theorem FP{g:Option Gs}{b x:Operand}{w:Bool}(a:∀k,x= .tmp k->s'.t k=s.t k):s'.lT g b w x=s.lT g b w x:=by
 unfold St.lT;split
 .rw [a _ rfl]
 .exact qC a
set_option maxHeartbeats 1000000 in
theorem kE{g:Option Gs}{o:Oper}(F:∀x∈o.op.operands,∀k,x= .tmp k->s'.t k=s.t k)(J:fB P o=true\/iv o=true\/s'.h=s.h\/(eG A o=false/\ef A o=false/\∀x∈o.op.operands,∀i∈(s.get g x).ids,s'.h i=s.h i)):
  cI P A O g o s'=cI P A O g o s:=by
 have eg:∀x∈o.op.operands,s'.get g x=s.get g x:=λx l=>qC (F x l);have j:fB P o=true\/iv o=true\/∀x∈o.op.operands,∀i∈(s.get g x).ids,s'.h i=s.h i:=by
  rcases J with h | h | h | h
  .exact .inl h
  .exact .inr (.inl h)
  .exact .inr (.inr λ_ _ i _=>by rw [h])
  .exact .inr (.inr h.2.2)
 have hw:∀p,o.op= .call p->∀f,p.callee= .value f->fB P o=false:=by intro p h1 f h2;simp [fB,h1,h2]
 have X:∀p,o.op= .call p->iv o=false:=by intro p h1;simp [iv,h1]
 have L:fB P o=true\/iv o=true\/s'.h=s.h\/(eG A o=false/\ef A o=false):=J.imp id (Or.imp id (Or.imp id λh=>⟨h.1,h.2.1⟩));unfold cI iK;cases q:o.op <;> rw [q] at F eg j <;> simp only [fB,iv,q,R9,false_or] at j <;> dsimp only <;> simp only [Op.operands] at F eg j
 case pick a b x=>rw [eg a (by simp),FP (F b (by simp)),FP (F x (by simp))]
 case build t U=>unfold uZ;rw [Hy (ev:=s.get g) (by simpa using eg)]
 case buildSlice t n U=>
  have B:∀e,gW P s'.h e (s'.get g) 0 U.toList=gW P s.h e (s.get g) 0 U.toList:=λe=>by rw [EL (ev:=s.get g) (by simpa using eg),EK (by simpa using j)]
  simp only [B];congr 1;funext e;split
  .split
   .rename_i x _ Z;rw [eg x (by simp [Z])]
   .rfl
  .rfl
 case load t x=>rw [eg x (by simp),Nr (j x (by simp))]
 case store t x y=>rw [eg x (by simp),eg y (by simp),Qk (j x (by simp)) (j y (by simp))]
 case binOp op t x y ty=>
  rw [eg x (by simp),eg y (by simp)];rcases j with j | j
  .simp only [S4,VE] at j;rw [j.1,j.2];cases op <;> rfl
  .rw [F3 (j x (by simp)),F3 (j y (by simp))]
 case convert src dst x=>rw [eg x (by simp),qZ (j x (by simp))]
 case makeFunc fn G E=>
  cases fn <;> try rfl
  have B:G.toList.map (s'.get g)=G.toList.map (s.get g):=TM λx l=>eg x (by simp at l⊢;exact .inl l);have e2:E.toList.map (s'.get g)=E.toList.map (s.get g):=TM λx l=>eg x (by simp at l⊢;exact .inr l);simp only [B,e2]
 case slice t x N hi Q=>
  have eb:∀(o:Option Operand) (c:Option Bool) (K:Option Int->Option (AV×aE)),(∀y,o=some y->y∈#[x] ++N.toArray++hi.toArray++Q.toArray)->il s' c g o K=il s c g o K:=by
   intro o c K hm;unfold il;cases o with
   | none=>rfl
   | some y=>simp only [eg y (hm y rfl)]
  have l:x∈#[x] ++N.toArray++hi.toArray++Q.toArray:=by simp
  rw [eg x l];simp only [P7 (j x l)];rw [eb N _ _ (by intro y e;subst e;simp)];congr 1;funext lo';rw [eb hi _ _ (by intro y e;subst e;simp)];congr 1;funext hi';rw [eb Q _ _ (by intro y e;subst e;simp)]
 case indexAddr t x i=>rw [eg x (by simp),eg i (by simp)];simp only [M8 (j x (by simp))]
 case call p=>
  simp only [Call.operands] at eg j;split
  .rename_i m;split
   .rename_i x t ts l _;have hm:x∈(match p.callee with | .value f=> #[f] | .invoke r _=> #[r] | .builtin _=> #[])++p.args:=by
     simp [<-Array.mem_toList_iff,l]
    rw [eg x hm];rcases j with j | j
    .simp [m] at j
    .exact Nj (j x hm)
   .rfl
  .rename_i m;split
   .rename_i x y t u _ l _;have hm:∀z,(z=x\/z=y)->z∈(match p.callee with | .value f=> #[f] | .invoke r _=> #[r] | .builtin _=> #[])++p.args:=by
     intro z hz;simp [<-Array.mem_toList_iff,l,hz]
    rw [eg x (hm x (.inl rfl)),eg y (hm y (.inr rfl))];rcases j with j | j
    .simp [m] at j
    .cases hn:(A.mQ o.dst o.type==3) with
     | false=>exact JJ (j x (hm x (.inl rfl))) (j y (hm y (.inr rfl)))
     | true=>
      rcases L with h | h | h | h
      .simp [fB,q,m] at h
      .simp [iv,q] at h
      .have:∀(d:Nat) (b:Bool) (t ty:TypeId) (x y:AV) (K:AV->aE->Option (AV×aE)),jJ P s' d b t ty x y K=jJ P s d b t ty x y K:=λd b t ty x y K=>by
        unfold jJ oN lC;rw [h]
       exact this _ _ _ _ _ _ _
      .have:=h.2;simp [ef,q,m,hn] at this
   .rfl
  .have B:p.args.toList.map (s'.get g)=p.args.toList.map (s.get g):=TM λx l=>eg x (by simp at l⊢;exact .inr l);rw [B]
  .have B:p.args.toList.map (s'.get g)=p.args.toList.map (s.get g):=TM λx l=>eg x (by simp at l⊢;exact .inr l);rw [B]
  .rename_i m;split
   .rename_i x y t ts _ l _;have hm:∀z,(z=x\/z=y)->z∈(match p.callee with | .value f=> #[f] | .invoke r _=> #[r] | .builtin _=> #[])++p.args:=by
     intro z hz;simp [<-Array.mem_toList_iff,l,hz]
    rw [eg x (hm x (.inl rfl)),eg y (hm y (.inr rfl))];rcases j with j | j
    .simp [m] at j
    .exact KN (j x (hm x (.inl rfl)))
   .rfl
  .rename_i m;split
   .rename_i x t ts l _;have hm:x∈(match p.callee with | .value f=> #[f] | .invoke r _=> #[r] | .builtin _=> #[])++p.args:=by
     simp [<-Array.mem_toList_iff,l]
    rw [eg x hm]
   .rfl
  .rename_i D m;have B:p.args.toList.map (s'.get g)=p.args.toList.map (s.get g):=TM λx l=>eg x (by simp at l⊢;exact .inr l);have I:D∈(match p.callee with | .value f=> #[f] | .invoke r _=> #[r] | .builtin _=> #[])++p.args:=by simp [m]
   rw [B,eg D I];rcases j with j | j
   .simp [m] at j
   .cases hv:s.get g D <;> try rfl
    rename_i f a b;have C:=j D I;rw [hv] at C;simp only [AV.ids,RX] at C;refine Kq ?_;have M:∀i∈bI (a++p.args.toList.map (s.get g)++b),s'.h i=s.h i:=by
     intro i hi;rcases sv.1 hi with hi | hi
     .rcases sv.1 hi with hi | hi
      .exact C i (.inl hi)
      .obtain⟨v,hv,hi⟩:=z6 hi;obtain⟨x,l,rfl⟩:=Si.1 hv;exact j x (by simp at l⊢;exact .inr l) i hi
     .exact C i (.inr hi)
    rcases L with h | h | h | h
    .rw [hw p q D m] at h;cases h
    .rw [X p q] at h;cases h
    .exact .inl h
    .obtain⟨h,Y⟩:=h;simp only [eG,q,m] at h;simp only [ef,q,m] at Y;cases D with
     | func V=>
      simp only [St.get] at hv;obtain⟨rfl,_,_⟩:V=f/\_/\_:=by simpa using hv
      cases hb:A.gQ V with
      | some x=>dsimp only at h;rw [hb] at h;simp at h
      | none=>exact .inr ⟨rfl,rfl,Y,M⟩
     | _=>simp at h
  .rfl
 case move x=>rw [eg x (by simp)]
 case assign x=>rw [eg x (by simp)]
 case box t x=>rw [eg x (by simp)]
 case nilCheck x=>rw [eg x (by simp)]
 case unOp op t x=>rw [eg x (by simp)]
 case makeSlice t x y=>rw [eg x (by simp),eg y (by simp)]
 case lookup t x k ok=>rw [eg x (by simp),eg k (by simp),Nz (j x (by simp))]
 case mapUpdate t x k v=>rw [eg x (by simp),eg k (by simp),eg v (by simp),OS (j x (by simp))]
 case fieldAddr t x f=>rw [eg x (by simp)]
 case field t x f=>rw [eg x (by simp)]
 case index t x i=>rw [eg x (by simp),eg i (by simp)]
 case extract x k=>rw [eg x (by simp)]
theorem JV{eQ:List Id}{b:Bool}{v:AV}(a:∀i∈v.ids,h' i=h i):rS h' eQ b v=rS h eQ b v:=by unfold rS;rw [C3 a]
theorem C1{eQ:List Id}:∀{fl:List Bool} {vs:List AV},(∀i∈bI vs,h' i=h i)->lG h' eQ fl vs=lG h eQ fl vs
 | _,[],_=>by simp [lG]
 | fl,v::vs,a=>by simp only [lG];rw [JV λi hi=>a i (jn.2 (.inl hi)),C1 λi hi=>a i (jn.2 (.inr hi))]
theorem xU{N:Id->Prop}:∀{us:aE} {h h':Id->Option ab},(∀i,¬N i->h' i=h i)->∀i,¬N i->aG h' us i=aG h us i
 | [],_,_,a,i,hi=>a i hi
 | (j,b)::us,h,h',a,i,hi=>by
  rw [cw,cw];refine xU (N:=N) (λk hk=> ?_) i hi;by_cases e:k=j
  .subst e;rw [aB,aB]
  .rw [al _ _ e,al _ _ e];exact a k hk
theorem OF{N:Id->Prop}{new i:Id}{k sz:Nat}{us:aE}(a:∀i,¬N i->h' i=h i)(hi:¬N i)(d:¬N new)(l:∀p∈us,¬N p.1)(e:nX h new i k sz=some us):nX h' new i k sz=some us:=by
 unfold nX at e⊢;cases hb:Nat.ble 100000 sz with
 | true=>rw [hb,cond_true] at e;rw [cond_true];unfold qV at e⊢;rw [a i hi,a new d];exact e
 | false=>
 rw [hb,cond_false] at e;rw [cond_false];rw [a i hi,a new d];split at e
 .rename_i cs hi
  try simp only [hi]
  split at e
  .exact e
  .exact e
  .exact e
  .rename_i j r n hk;split at e
   .rename_i q b xs o;split at e
    .rename_i m;have f:¬N j:=by
      cases g:(h new).isNone with
      | false=>rw [g] at e;simp at e
      | true=>rw [g] at e;simp only [cond_true,RJ] at e;subst e;exact l (j,_) RL
     rw [a j f,o];simp only [if_pos m];exact e
    .cases e
   .cases e
  .cases e
 .cases e
theorem HE{N:Id->Prop}{f:Nat}(a:∀k,¬N (.s f k)):∀{l:List (Id×Nat×Nat)} {j:Nat} {h h':Id->Option ab} {us:aE},(∀i,¬N i->h' i=h i)->(∀q∈l,¬N q.1)->(∀p∈us,¬N p.1)->jt f j h l=some us->jt f j h' l=some us
 | [],_,_,_,_,_,_,_,e=>e
 | (i,k,sz)::l,j,h,h',us,g,hl,b,e=>by simp only [jt] at e⊢;obtain⟨u,m,e⟩:=RK.1 e;obtain⟨u2,o,e⟩:=RK.1 e;simp only [RJ] at e;subst e;rw [OF g (hl (i,k,sz) RL) (a j) (λp d=>b p (RY _ d)) m];simp only [R2];rw [HE a (xU g) (λq r=>hl q (RM _ r)) (λp d=>b p (RW _ d)) o];rfl
theorem sY:∀{n:Nat} {todo a seen:List Id},ew h n todo a=some seen->(∀i∈seen,h' i=h i)->ew h' n todo a=some seen
 | 0,todo,a,seen,e,_=>by simp [ew] at e
 | n+1,[],a,seen,e,_=>e
 | n+1,i::todo,a,seen,e,hs=>by
  simp only [ew] at e⊢;cases b:a.contains i with
  | true=>rw [b,cond_true] at e;rw [cond_true];exact sY e hs
  | false=>
   rw [b,cond_false] at e;rw [cond_false];have hm:i∈seen:=by
    have:a++ [i] <+:seen:=by
     split at e
     .exact n9 e
     .exact n9 e
     .exact n9 e
     .cases e
    exact this.subset (RW _ (RP.2 rfl))
   rw [hs i hm];split at e
   .exact sY e hs
   .exact sY e hs
   .exact sY e hs
   .cases e
theorem zd:∀{l seen:List Id},∀i∈oT l seen,i∈l
 | [],_,i,hi=>by simp [oT] at hi
 | j::l,seen,i,hi=>by
  simp only [oT] at hi;cases a:seen.contains j with
  | true=>rw [a,cond_true] at hi;exact RM _ (zd i hi)
  | false=>
   rw [a,cond_false] at hi;rcases RV.1 hi with rfl | hi
   .exact RL
   .exact RM _ (zd i hi)
theorem xc{i:Id}:∀{l:List bG} {k:Nat},∀q∈mV i k l,q.1=i
 | [],_,q,a=>by simp [mV] at a
 | r::l,k,q,a=>by
  cases r with
  | own sz=>
   simp only [mV] at a;rcases RV.1 a with rfl | a
   .rfl
   .exact xc q a
  | rows sz ax rsz=>
   simp only [mV] at a;rcases RV.1 a with rfl | a
   .rfl
   .exact xc q a
  | _=>simp only [mV] at a;exact xc q a
theorem Bb:∀{d:List Id} {bs:List jd},∀q∈mW d bs,q.1∈d
 | [],bs,q,a=>by cases bs <;> simp [mW] at a
 | i::d,[],q,a=>by simp [mW] at a
 | i::d,b::bs,q,a=>by
  cases b with
  | box l=>
   simp only [mW,RX] at a;rcases a with a | a
   .rw [xc q a];exact RL
   .exact RM _ (Bb q a)
  | _=>simp only [mW] at a;exact RM _ (Bb q a)
theorem Kp{N:Id->Prop}{d:Nat}{c:Option Bool}{f:FuncId}{args:List AV}{v:AV}{us:aE}(E:∀i,¬N i->s'.h i=s.h i)(J:A.deep f=false)(l:∀i∈bI args,¬N i)(F:∀k,¬N (.s (2000000+d) k))(D:∀p∈us,¬N p.1)
  (e:fR P A O s d c f args (λv u=>some (v,u))=some (v,us)):fR P A O s' d c f args (λv u=>some (v,u))=some (v,us):=by
 cases hb:A.gQ f with
 | none=>rw [yW (.inr ⟨hb,J,λi hi=>E i (l i hi)⟩)];exact e
 | some fl=>
  unfold fR at e⊢;cases C:P.funcs[f]? with
  | none=>rw [C] at e;simp at e
  | some fn=>
   simp only [C,hb] at e⊢;cases c with
   | some b=>simp at e
   | none=>
    simp only at e⊢;rw [C1 λi hi=>E i (l i hi)];obtain⟨p,L,e⟩:=RK.1 e;rw [L,R2];obtain⟨a,G,e⟩:=RK.1 e;obtain⟨seen,m,e⟩:=RK.1 e;obtain⟨_,_,I,_,_⟩:=sZ m Vo (by simp) (by simp);have e0:=e;have g:(∀q∈a,¬N q.1)/\∀i∈seen,¬N i:=by
     cases B:(wQ d seen && Nat.beq (gD (seen.map λi=>gx seen (aG (aG s.h p.2) a i)).head?) (gD ((bI p.1).head?.bind (aG s.h p.2)))) with
     | false=>rw [B] at e;simp at e
     | true=>
      rw [B,cond_true] at e;obtain⟨pt,e,_⟩:=xP (.inl rfl) e;obtain⟨xs,_,e⟩:=aI e (.inl rfl);rw [show ∀(n:Nat),(dq seen d none 0 (cF P A f n fn) xs λvs u j=>fq seen d j seen (gw A f n) (xs.drop (l6 (cF P A f n fn))) λq=>(some (kY vs,p.2++a++ji seen++u++q):Option (AV×aE)))=
       ((dq seen d none 0 (cF P A f n fn) xs λvs u j=>some (vs,u,j)).bind λy=>(fq seen d y.2.2 seen (gw A f n) (xs.drop (l6 (cF P A f n fn))) some).bind λq=>some (kY y.1,p.2++a++ji seen++y.2.1++q)) from λn=>by
        rw [oS];congr 1;funext vs u j;simp only [R2];rw [vo];rfl] at e
      obtain⟨y,_,e⟩:=RK.1 e;obtain⟨q,_,e⟩:=RK.1 e;simp only [RJ,SA] at e;obtain⟨_,rfl⟩:=e;refine⟨λx Q=>D x ?_,λi hi=>D (i, .dead) ?_⟩
      .exact RY _ (RY _ (RY _ (RW _ Q)))
      .exact RY _ (RY _ (RW _ (Si.2 ⟨i,hi,rfl⟩)))
    have o:∀i,¬N i->aG s'.h p.2 i=aG s.h p.2 i:=xU E;have z:∀i,¬N i->aG (aG s'.h p.2) a i=aG (aG s.h p.2) a i:=xU o;have r:(bI p.1).head?.bind (aG s'.h p.2)= (bI p.1).head?.bind (aG s.h p.2):=by
     cases K:(bI p.1).head? with
     | none=>rfl
     | some i=>exact o i (g.2 i (I i (List.mem_of_mem_head? (by rw [K];rfl))))
    rw [r];rw [HE F o (λq M=>g.2 q.1 (I q.1 (zd q.1 (Bb q M)))) g.1 G,R2];rw [sY m λi hi=>z i (g.2 i hi),R2];have hm:(seen.map λi=>gx seen (aG (aG s'.h p.2) a i))=seen.map λi=>gx seen (aG (aG s.h p.2) a i):=TM λi hi=>by rw [z i (g.2 i hi)]
    rw [hm];exact e0
theorem uS{N:Id->Prop}{g:Option Gs}{o:Oper}{v:AV}{us:aE}(G:∀x∈o.op.operands,∀k,x= .tmp k->s'.t k=s.t k)(F:∀i,¬N i->s'.h i=s.h i)(y:ef A o=false)(j:∀x∈o.op.operands,∀i∈(s.get g x).ids,¬N i)
  (D:∀k,¬N (.s (2000000+o.dst.getD 0) k)) (I:∀p∈us,¬N p.1) (e:cI P A O g o s=some (v,us)):cI P A O g o s'=some (v,us):=by
 cases hr:eG A o with
 | false=>rw [kE (s:=s) G (.inr (.inr (.inr ⟨hr,y,λx m i hi=>F i (j x m i hi)⟩)))];exact e
 | true=>
  have eg:∀x∈o.op.operands,s'.get g x=s.get g x:=λx m=>qC (G x m);cases u:o.op <;> simp only [eG,u,R9] at hr;rename_i z;cases d:z.callee <;> simp only [d,R9] at hr;rename_i q;unfold cI iK at e⊢;rw [u] at e j eg⊢;simp only [Op.operands,Call.operands] at j eg;simp only [d] at e⊢;have J:z.args.toList.map (s'.get g)=z.args.toList.map (s.get g):=TM λx m=>eg x (by simp at m⊢;exact .inr m);have C:q∈(match z.callee with | .value f=> #[f] | .invoke r _=> #[r] | .builtin _=> #[])++z.args:=by simp [d]
  rw [J,eg q C];cases hv:s.get g q <;> rw [hv] at e <;> simp only [reduceCtorEq] at e;rename_i f a b;have l:=j q C;rw [hv] at l;simp only [AV.ids,RX] at l;have B:A.deep f=false:=by
   simp only [ef,u,d] at y;cases q with
   | func E=>
    simp only [St.get] at hv;obtain⟨rfl,_,_⟩:E=f/\_/\_:=by simpa using hv
    exact y
   | _=>simp at y
  have hl:Gc q=false:=by
   simp only [ef,u,d] at y;cases q with
   | func E=>rfl
   | _=>simp at y
  dsimp only at e⊢;rw [hl,Kr] at e⊢;refine Kp F B ?_ D I e;intro i hi;rcases sv.1 hi with hi | hi
  .rcases sv.1 hi with hi | hi
   .exact l i (.inl hi)
   .obtain⟨v,hv,hi⟩:=z6 hi;obtain⟨x,m,rfl⟩:=Si.1 hv;exact j x (by simp at m⊢;exact .inr m) i hi
  .exact l i (.inr hi)
end
open Go Go.IntKind
section
variable {P:Program} {An:bZ} {Or:az} {w w':World} {A A':Nat->Prop} {c:Ctx} {ρ:Id->Option Value} {O:Id->Option Nat} {s s' s1 s2:St} {h:Id->Option ab} {ops:Array Oper} {nt:Nat}
structure rP (P:Program) (An:bZ) (Or:az) (nt:Nat) (ops:Array Oper) (o:Oper) (s:St) (g:Option Gs) (v:AV) (us:aE):Prop where
 guard:cK ops o s some=some g
 op:cI P An Or g o s=some (v,us)
 ok:nV P An true nt ops o g s us=true
theorem IP{o:Oper}{g:Option Gs}:pv An true o g=none:=by cases g <;> rfl
theorem AR{o:Oper}(e:eu P An Or true nt ops o s=some s'):∃g v us,rP P An Or nt ops o s g v us/\s'=s.put (dm ops o.dst) o.dst g v us:=by
 unfold eu nW at e;rw [we] at e;replace e:=RK.1 e;obtain⟨g,d,e⟩:=e;rw [IP] at e;dsimp only at e;rw [pV] at e;replace e:=RK.1 e;obtain⟨⟨v,us⟩,b,e⟩:=e;dsimp only at e;split at e
 .rename_i a;simp only [RJ] at e;exact⟨g,v,us,⟨d,b,a⟩,e.symm⟩
 .simp at e
theorem rP.eu{o:Oper}{g:Option Gs}{v:AV}{us:aE}(a:rP P An Or nt ops o s g v us):eu P An Or true nt ops o s=some (s.put (dm ops o.dst) o.dst g v us):=by unfold Aev.eu nW;rw [we,a.guard,R2,IP];dsimp only;rw [pV,a.op,R2];dsimp only;rw [if_pos a.ok]
def pG(ops:Array Oper)(a:Array Bool)(s:St):Prop:= ∀k g v,s.t k= (some g,v)->∃i o,ops[i]? =some o/\a.getD i false=true/\o.dst=some g.d
theorem oU{d:Nat}{o:Oper}(a:o.dst=some d):∀(l:List Oper),o∈l->d∈fS l:=by
 intro l;induction l with
 | nil=>intro hm;cases hm
 | cons x l b=>
  intro hm;simp only [fS];rcases RV.1 hm with rfl | hm
  .rw [a];exact RL
  .have:=b hm;split
   .exact RM _ this
   .exact this
theorem D9:∀{l:List Oper},sL (fS l)=true->∀{i j:Nat} {x y:Oper} {d:Nat},l[i]? =some x->l[j]? =some y->x.dst=some d->y.dst=some d->i=j
 | [],_,i,j,x,y,d,hi,_,_,_=>by simp at hi
 | z::l,hn,i,j,x,y,d,hi,a,f,hy=>by
  have b:sL (fS l)=true/\∀d,z.dst=some d->d∉fS l:=by
   simp only [fS] at hn;cases hz:z.dst with
   | none=>rw [hz] at hn;exact⟨hn,λd h=>by cases h⟩
   | some e=>
    rw [hz] at hn;simp only [sL,RQ,S4] at hn;refine⟨hn.2,λd h=> ?_⟩;simp only [RJ] at h;subst h;intro hm;have:(fS l).contains e=true:=by simpa using hm
    rw [this] at hn;cases hn.1
  cases i with
  | zero=>
   simp only [Tq,RJ] at hi;subst hi;cases j with
   | zero=>rfl
   | succ j=>simp only [TE] at a;exact(b.2 d f (oU hy _ (RN a))).elim
  | succ i=>
   simp only [TE] at hi;cases j with
   | zero=>simp only [Tq,RJ] at a;subst a;exact(b.2 d hy (oU f _ (RN hi))).elim
   | succ j=>simp only [TE] at a;rw [D9 b.1 hi a f hy]
def pS(ops:Array Oper):Prop:= ∀{i j:Nat} {x y:Oper} {d:Nat},ops[i]? =some x->ops[j]? =some y->x.dst=some d->y.dst=some d->i=j
theorem tG{a:Array Bool}{i:Nat}(h:a.getD i true=false):a.getD i false=true->False:=by
 intro d;rw [Tp] at h d;cases e:a[i]? with
 | none=>rw [e] at h;simp at h
 | some b=>rw [e] at h d;simp at h d;rw [h] at d;cases d
theorem A5{a:Array Bool}{i:Nat}{o:Oper}{g:Option Gs}{v:AV}{us:aE}(x:pS ops)(hi:ops[i]? =some o)(hl:a.getD i true=false)(u:pG ops a s)(b:Bool):
  s.put b o.dst g v us=s.put false o.dst g v us:=by
 unfold St.put;cases r:o.dst with
 | none=>rfl
 | some d=>
  simp only [St.mk.injEq,and_true];funext k;split
  .rfl
  .cases b with
   | false=>rfl
   | true=>
    simp only [cond_true,cond_false];cases p:s.t k with
    | mk f vk=>
     cases f with
     | none=>rfl
     | some f=>
      simp only [lP];cases m:(f.d==d) with
      | false=>rfl
      | true=>
       exfalso;obtain⟨j,y,h1,q,l⟩:=u k f vk p;have e:f.d=d:=by simpa using m
       rw [e] at l;have:=x h1 hi l r;subst this;exact tG hl q
theorem gF{o:Oper}{k:Nat}(h:(.tmp k:Operand)∈o.op.operands):k∈o.looksAt ops:=by unfold Oper.looksAt;refine RY _ (Vj.2 ⟨.tmp k,by simpa using h,rfl⟩)
theorem Gi{o:Oper}{j d:Nat}{b:Bool}(h:o.guard=some (j,b))(a:(ops[j]?).bind (·.dst)=some d):d∈o.looksAt ops:=by unfold Oper.looksAt;refine RW _ ?_;rw [h];simp [a]
theorem pg{b:Bool}{o:Oper}{g:Option Gs}{v:AV}{us:aE}{k:Nat}(hk:o.dst≠some k):(s.put false o.dst g v us).t k=s.t k:=by
 unfold St.put;cases a:o.dst with
 | none=>rfl
 | some d=>have:k≠d:=λe=>hk (by rw [a,e]);simp [if_neg this]
theorem FV{o:Oper}(f:∀j b d,o.guard=some (j,b)->(ops[j]?).bind (·.dst)=some d->s'.t d=s.t d):cK ops o s' some=cK ops o s some:=by
 unfold cK;cases e:o.guard with
 | none=>rfl
 | some p=>
  obtain⟨j,b⟩:=p;simp only;cases a:(ops[j]?).bind (·.dst) with
  | none=>rfl
  | some d=>simp only [f j b d e a]
theorem xV:∀{us:aE} {h:Id->Option ab} {i:Id},aG h us i=none->(∀q∈us,q.1≠i)/\h i=none
 | [],h,i,e=>⟨by simp,e⟩
 | (j,x)::us,h,i,e=>by
  rw [cw] at e;obtain⟨f,b⟩:=xV e;by_cases a:i=j
  .subst a;rw [aB] at b;cases b
  .rw [al _ _ a] at b;refine⟨λq d=> ?_,b⟩;rcases RV.1 d with rfl | d
   .exact λe=>a e.symm
   .exact f q d
theorem GO{o:Oper}{g:Option Gs}(a:∀x∈o.op.operands,s'.get g x=s.get g x):nR ops g o s'=nR ops g o s:=by
 unfold nR;have key:∀l:List Operand,(∀x∈l,s'.get g x=s.get g x)->(l.all λx=>(s'.get g x).ids.all λi=>match i with
  | .s d _=>pY ops o d
  | .c _=>true
  | .g _ _=>false)= (l.all λx=>(s.get g x).ids.all λi=>match i with
  | .s d _=>pY ops o d
  | .c _=>true
  | .g _ _=>false):=by
  intro l;induction l with
  | nil=>intro _;rfl
  | cons x l e=>intro h;rw [Tu,Tu,h x RL,e λy hy=>h y (RM _ hy)]
 exact key _ λx b=>a x (by simpa using b)
theorem wJ{o:Oper}{g:Option Gs}(hn:nR ops g o s=true){x:Operand}(p:x∈o.op.operands){d k:Nat}(hi:Id.s d k∈(s.get g x).ids){i:Nat}{j:Oper}(a:ops[i]? =some j)(l:j.dst=some d):
  ∃e∈o.after,Region.binds .any e=true/\(e.on=i\/gB ops 12 e.on i=true):=by
 unfold nR at hn;have h1:=R7.1 hn x (by simpa using p);have b:=R7.1 h1 _ hi;simp only at b;unfold pY at b;have f:=R7.1 b i (UZ.2 (Va.1 a).1);rw [a] at f;simp only [l,BEq.rfl,Sl,SP] at f;obtain⟨e,m,hb⟩:=UM.1 f;simp only [RQ,SV,beq_iff_eq] at hb;exact⟨e,m,hb.1,hb.2⟩
theorem fF{o:Oper}{us:aE}(hn:jY o us=true){i:Id}(hi:∃q∈us,q.1=i):∃d k,i= .s d k/\o.dst=some d:=by
 obtain⟨q,a,rfl⟩:=hi;have:=R7.1 hn q a;split at this
 .rename_i d k e;exact⟨d,k,e,by simpa using this⟩
 .simp at this
 .simp at this
theorem Rj{us vs:aE}(a:∀p∈us,∀q∈vs,p.1≠q.1):∀{h:Id->Option ab},aG (aG h us) vs=aG (aG h vs) us:=by
 induction us with
 | nil=>intro h;rfl
 | cons p us g=>intro h;obtain⟨i,b⟩:=p;rw [cw,cw,g (λp d=>a p (RM _ d)),tJ (λq f e=>a (i,b) RL q f e.symm)]
def pB(ops:Array Oper)(a:Array Bool):Prop:= ∀k ok,ops[k]? =some ok->a.getD k false=true->∀e∈ok.after,Region.binds .any e=true->a.getD e.on false=true
theorem yP{a:Array Bool}(f:pB ops a){i:Nat}(hi:a.getD i true=false):∀{n j:Nat} {d:Oper},ops[j]? =some d->(∀e∈d.after,Region.binds .any e=true->a.getD e.on false=true)->gB ops n j i=false
 | 0,j,d,_,_=>rfl
 | n+1,j,d,l,g=>by
  simp only [gB,l];rw [Array.any_eq_false'];intro e k hb;simp only [RQ,SV,beq_iff_eq] at hb;obtain⟨h1,b⟩:=hb;have hl:=g e k h1;rcases b with b | ⟨_,b⟩
  .exact tG hi (b▸hl)
  .cases hk:ops[e.on]? with
   | none=>
    cases n with
    | zero=>simp [gB] at b
    | succ n=>simp [gB,hk] at b
   | some ok=>rw [yP f hi hk (f e.on ok hk hl)] at b;cases b
theorem BK{a b:Oper}(h:kv An ops a b=true):∃k d,fK ops a=some k/\fK ops b=some d/\k≠d/\k∉fS ops.toList/\d∉fS ops.toList:=by
 unfold kv at h;simp only [RQ] at h;obtain⟨_,h⟩:=h;split at h
 .rename_i k d h1 e;simp only [RQ,S4,beq_eq_false_iff_ne,ne_eq] at h;obtain⟨⟨f,g⟩,i⟩:=h;exact⟨k,d,h1,e,f,by simpa using g,by simpa using i⟩
 .cases h
theorem Qg{a b:Oper}(h:kv An ops a b=true):kv An ops b a=true:=by have d:=h;unfold kv at d;simp only [RQ] at d;obtain⟨k,l,h1,f,g,i,j⟩:=BK h;unfold kv;rw [h1,f,d.1];simp only [U9,RQ,S4,beq_eq_false_iff_ne,ne_eq];exact⟨⟨λe=>g e.symm,by simpa using j⟩,by simpa using i⟩
theorem IU{o a:Oper}{us:aE}{k d:Nat}(h:jA P An ops o s us=true)(hm:a∈ops)(e:kv An ops o a=true)(hk:fK ops o=some k)(b:fK ops a=some d):
  (∀x∈o.op.operands,∀i∈(s.get none x).ids,i∈(s.t k).2.ids)/\(∀p∈us,p.1∈(s.t k).2.ids)/\(∀p∈us,p.1∉(s.t d).2.ids):=by
 have h1:=Sq.1 h a hm;simp only [RQ] at h1;replace h1:=h1.1.1.1.1;rw [e] at h1;simp only [Sl,SP,BM,hk,b,RQ,R7,decide_eq_true_eq] at h1;obtain⟨⟨f,g⟩,j⟩:=h1;exact⟨λx l=>f x (Array.mem_toList_iff.2 l),g,j⟩
theorem sC{a b:Oper}(h:jq P An ops a b=true):(∃k,jy ops b=some (some k)/\k∉fS ops.toList)\/jy ops b=some none:=by
 unfold jq at h;simp only [RQ] at h;obtain⟨_,h⟩:=h;split at h
 .rename_i k hk;exact .inl ⟨k,hk,by simpa using h⟩
 .rename_i hk;exact .inr hk
 .cases h
theorem Ga{a b:Oper}(h:jq P An ops a b=true):a.guard=none/\fC P An a=true/\eG An a=false/\ef An a=false:=by
 unfold jq at h;simp only [RQ] at h;obtain⟨⟨_,h⟩,_⟩:=h;unfold CX at h;simp only [RQ,UB] at h;obtain⟨⟨h1,i⟩,d⟩:=h;refine⟨h1,i, ?_⟩;split at d
 .rename_i j g;split at d
  .rename_i e;simp only [S4] at d;simp [eG,ef,g,e,d]
  .rename_i f e;simp only [RQ,UB,S4] at d;simp [eG,ef,g,e,d.1,d.2]
  .cases d
 .cases d
theorem Bi{o:Oper}{r:Option Nat}(h:jy ops o=some r):o.guard=none/\fC P An o=false/\eG An o=false/\ef An o=false:=by
 unfold jy at h;split at h
 .rename_i h1 a;simp [h1,fC,eG,ef,a]
 .rename_i h1 a;simp [h1,fC,eG,ef,a]
 .cases h
theorem Pk{o:Oper}{k:Nat}(h:jy ops o=some (some k)):fK ops o=some k:=by
 unfold jy at h;split at h
 .rename_i h1 a;simp only [RJ] at h;subst h;simp [fK,h1,a]
 .cases h
 .cases h
theorem o7{o:Oper}{k:Bool}(h:iW P o k=true):∃t a y,o.guard=none/\o.op= .store t (.tmp a) y:=by
 unfold iW at h;split at h
 .rename_i t a y h1 b;exact⟨t,a,y,h1,b⟩
 .cases h
theorem Qn{k off:Nat}{l:List T}{xs a:List (List T)}(h:bt k off l xs=some a):a.length=xs.length:=by
 unfold bt at h;split at h
 .split at h
  .simp only [RJ] at h;subst h;simp
  .cases h
 .cases h
theorem F6{t:TypeId}{a v x:AV}{us:aE}(h:iE P s t a v (λu=>some (AV.top,u))=some (x,us))(hk:ka us=true):
  ∃i sz k off j rsz X,a= .el i sz k off/\v= .own j/\(∃bb xs,s.h j=some (.sl false rsz bb xs))/\rsz≠1/\us= [(j, .dead),(i,X)]/\∃b d ax nx es q es',s.h i=some (.rows b d ax rsz nx es)/\X= .rows b d ax rsz q es'/\es'.length=es.length:=by
 unfold iE at h;cases o:bB P t with
 | false=>rw [o] at h;cases h
 | true=>
  rw [o,cond_true] at h;split at h
  .split at h
   .split at h
    .simp only [RJ,SA] at h;obtain⟨_,rfl⟩:=h;simp [ka] at hk
    .cases h
   .cases h
  .rename_i i sz k off;split at h
   .obtain⟨l,_,h⟩:=RK.1 h;split at h
    .replace h:=aI h (.inl rfl);obtain⟨y,_,h⟩:=h;simp only [RJ,SA] at h;obtain⟨_,rfl⟩:=h;simp [ka] at hk
    .cases h
   .rename_i b d ax rsz nx es hi;split at h
    .rename_i j;split at h
     .rename_i f z xs r;split at h
      .rename_i g;have m:=g.2.2.1;subst m;replace h:=aI h (.inl rfl);obtain⟨e,_,h⟩:=h;simp only [RJ,SA] at h;obtain⟨_,rfl⟩:=h;refine⟨i,sz,k,off,j,f,_,rfl,rfl,⟨_,_,r⟩, ?_,rfl,b,d,ax,nx,es,_,_,hi,by rw [show sz=d from g.1.symm],by simp⟩;simpa [ka] using hk
      .cases h
     .cases h
    .cases h
   .cases h
  .split at h
   .replace h:=aI h (.inl rfl);obtain⟨p,_,h⟩:=h;obtain⟨l,_,h⟩:=RK.1 h;split at h
    .replace h:=aI h (.inl rfl);obtain⟨y,_,h⟩:=h;simp only [RJ,SA] at h;obtain⟨_,rfl⟩:=h;simp [ka] at hk
    .cases h
   .cases h
  .cases h
theorem F7{t:TypeId}{a v x:AV}{us:aE}(h:iE P s t a v (λu=>some (AV.top,u))=some (x,us))(hk:kb us=true):
  ∃i sz k off b d,a= .el i sz k off/\(∃xs,s.h i=some (.sl false 1 b xs)/\d.length=xs.length)/\us= [(i, .sl false 1 b d)]:=by
 unfold iE at h;cases j:bB P t with
 | false=>rw [j] at h;cases h
 | true=>
  rw [j,cond_true] at h;split at h
  .split at h
   .split at h
    .simp only [RJ,SA] at h;obtain⟨_,rfl⟩:=h;simp [kb] at hk
    .cases h
   .cases h
  .rename_i i sz k off;split at h
   .rename_i y b xs hi;obtain⟨l,_,h⟩:=RK.1 h;split at h
    .rename_i o;obtain⟨g,_,_⟩:=o;subst g;replace h:=aI h (.inl rfl);obtain⟨d,m,h⟩:=h;simp only [RJ,SA] at h;obtain⟨_,rfl⟩:=h;cases f:fX s.h v with
     | cons q r=>rw [f] at hk;simp [kb] at hk
     | nil=>rw [f] at hk;simp only [kb,beq_iff_eq] at hk;subst hk;exact⟨_,_,_,_,_,_,rfl,⟨_,hi,Qn m⟩,rfl⟩
    .cases h
   .split at h
    .split at h
     .split at h
      .replace h:=aI h (.inl rfl);obtain⟨e,_,h⟩:=h;simp only [RJ,SA] at h;obtain⟨_,rfl⟩:=h;simp [kb] at hk
      .cases h
     .cases h
    .cases h
   .cases h
  .split at h
   .replace h:=aI h (.inl rfl);obtain⟨p,_,h⟩:=h;obtain⟨l,_,h⟩:=RK.1 h;split at h
    .replace h:=aI h (.inl rfl);obtain⟨d,_,h⟩:=h;simp only [RJ,SA] at h;obtain⟨_,rfl⟩:=h;simp [kb] at hk
    .cases h
   .cases h
  .cases h
theorem BN{o:Oper}{t:TypeId}{a:Nat}{y:Operand}{v:AV}{us:aE}(b:o.op= .store t (.tmp a) y)(h:cI P An Or none o s=some (v,us)):iE P s t (s.get none (.tmp a)) (s.get none y) (λu=>some (AV.top,u))=some (v,us):=by unfold cI iK at h;rw [b] at h;exact h
theorem IS{a b:Oper}(hl:la P An ops a b=true)(N:a∈ops)(hb:b∈ops){s1 s2:St}{Q U:AV}{u v:aE}(M:cI P An Or none a s1=some (Q,u))(eb:cI P An Or none b s2=some (U,v))
  (F:jA P An ops a s1 u=true) (G:jA P An ops b s2 v=true) (o:s2.h=aG s1.h u\/s1.h=aG s2.h v):
  (∀p∈u,∀q∈v,p.1≠q.1)/\(∀x∈a.op.operands,∀i∈(s1.get none x).ids,∃p∈u,p.1=i)/\(∀x∈b.op.operands,∀i∈(s2.get none x).ids,∃p∈v,p.1=i):=by
 have h1:=Sq.1 F b hb;have l:=Sq.1 G a N;simp only [RQ] at h1 l;replace h1:=h1.1.2.1;replace l:=l.1.2.2;rw [hl] at h1 l;simp only [Sl,SP,RQ] at h1 l;simp only [la,RQ] at hl;obtain⟨ta,V,Z,ga,z⟩:=o7 hl.1.2;obtain⟨tb,Y,yb,gb,r⟩:=o7 hl.2;obtain⟨i,sz,k,off,j,rsz,X,I,J,⟨_,_,y⟩,K,rfl,_,_,_,_,_,_,_,B,rfl,_⟩:=F6 (BN z M) h1;obtain⟨i',sz',k',off',b',ys',L,⟨_,g,_⟩,rfl⟩:=F7 (BN r eb) l.1;have m:=l.2;simp only [yO,r,Vw] at m;have ne:i'≠i/\i'≠j:=by
  rcases o with o | o
  .rw [o,cw,dB] at g;constructor
   .rintro rfl;rw [aB] at g;cases g
   .intro e;by_cases C:i'=i
    .rw [C,aB] at g;cases g
    .rw [al _ _ C,e,aB] at g;cases g
  .rw [o,dB] at B y;constructor
   .rintro rfl;rw [aB] at B;cases B
   .rintro rfl;rw [aB] at y;simp only [RJ,ab.sl.injEq] at y;exact K y.2.1.symm
 refine⟨λp D q E e=> ?_,λx f id d=> ?_,λx f id d=> ?_⟩
 .simp only [RV,Wc,or_false] at D E;subst E;rcases D with rfl | rfl
  .exact ne.2 e.symm
  .exact ne.1 e.symm
 .simp only [z,Op.operands] at f;have f:x= .tmp V\/x=Z:=by simpa using f
  rcases f with rfl | rfl
  .rw [I] at d;simp only [AV.ids,RP] at d;subst d;exact⟨_,RM _ (RP.2 rfl),rfl⟩
  .rw [J] at d;simp only [AV.ids,RP] at d;subst d;exact⟨_,RL,rfl⟩
 .simp only [r,Op.operands] at f;have f:x= .tmp Y\/x=yb:=by simpa using f
  rcases f with rfl | rfl
  .rw [L] at d;simp only [AV.ids,RP] at d;subst d;exact⟨_,RL,rfl⟩
  .rw [m] at d;cases d
theorem Af{o:Oper}(h:wv P o=true):∃a,o.guard=none/\((∃t e n,o.op= .indexAddr t (.tmp a) n/\mA P t=some e/\P.cellsOf e=1)\/∃t,o.op= .load t (.tmp a)):=by
 unfold wv at h;split at h
 .rename_i t a n h1 b;split at h
  .rename_i e d;exact⟨a,h1, .inl ⟨t,e,n,b,d,by simpa using h⟩⟩
  .cases h
 .rename_i t a h1 b;exact⟨a,h1, .inr ⟨t,b⟩⟩
 .cases h
def oG(h h':Id->Option ab):Prop:= ∀m,h' m=h m\/(∃g sz b xs d f a,h m=some (.sl g sz b xs)/\h' m=some (.sl d sz f a)/\a.length=xs.length)\/
 (∃b sz ax rsz nx es e es',h m=some (.rows b sz ax rsz nx es)/\h' m=some (.rows b sz ax rsz e es')/\es'.length=es.length)\/∃sz b xs,sz≠1/\h m=some (.sl false sz b xs)/\h' m=some .dead
theorem oG.index{t e:TypeId}{m:Id}{n:Int}{K:AV->Option (AV×aE)}{r:AV×aE}(H:oG s.h s'.h)(g:mA P t=some e)(f:P.cellsOf e=1):iU P s none t (.own m) n K=some r↔iU P s' none t (.own m) n K=some r:=by
 unfold iU;simp only [g];rcases H m with h | ⟨_,_,_,_,_,_,_,h1,a,b⟩ | ⟨_,_,_,_,_,_,_,_,h1,a,b⟩ | ⟨sz,_,_,d,h1,a⟩
 .rw [h]
 .rw [h1,a];simp only [b]
 .rw [h1,a];simp only [b]
 .rw [h1,a];simp only [f,if_neg d,reduceCtorEq]
theorem oG.load{t:TypeId}{m:Id}{off:Nat}{K:AV->Option (AV×aE)}{r:AV×aE}(H:oG s.h s'.h):jr P s none t (.ref m off) K=some r↔jr P s' none t (.ref m off) K=some r:=by
 unfold jr;rcases H m with h | ⟨_,_,_,_,_,_,_,h1,a,b⟩ | ⟨_,_,_,_,_,_,_,_,h1,a,b⟩ | ⟨sz,_,_,d,h1,a⟩
 .simp only [h]
 .simp only [h1,a]
 .simp only [h1,a]
 .simp only [h1,a]
theorem oG.store{t:TypeId}{a v q:AV}{us:aE}(h:iE P s t a v (λu=>some (AV.top,u))=some (q,us))(hk:ka us=true\/kb us=true):oG s.h (aG s.h us):=by
 rcases hk with hk | hk
 .obtain⟨i,sz,k,off,j,rsz,X,_,_,⟨_,_,f⟩,g,rfl,_,_,_,_,_,_,_,e,rfl,l⟩:=F6 h hk;intro m;rw [cw,dB];by_cases b:m=i
  .subst b;exact .inr (.inr (.inl ⟨_,_,_,_,_,_,_,_,e,aB _ _ _,l⟩))
  .rw [al _ _ b];by_cases d:m=j
   .subst d;exact .inr (.inr (.inr ⟨_,_,_,g,f,aB _ _ _⟩))
   .rw [al _ _ d];exact .inl rfl
 .obtain⟨i,_,_,_,_,_,_,⟨_,o,p⟩,rfl⟩:=F7 h hk;intro m;rw [dB];by_cases b:m=i
  .subst b;exact .inr (.inl ⟨_,_,_,_,_,_,_,o,aB _ _ _,p⟩)
  .rw [al _ _ b];exact .inl rfl
theorem IT{a b:Oper}(hl:kx P An ops a b=true)(B:a∈ops)(hb:b∈ops){s1 s2 q:St}{G:AV}{k:aE}{F:aE}(u:cI P An Or none a s1=some (G,k))(l:jA P An ops a s1 k=true)(o:jA P An ops b q F=true)
  (E:s2.h=aG s1.h k) (g:∀x∈b.op.operands,s2.get none x=s1.get none x) (j:∀x∈b.op.operands,q.get none x=s1.get none x) (r:AV×aE):cI P An Or none b s1=some r↔cI P An Or none b s2=some r:=by
 have h1:=Sq.1 l b hb;have f:=Sq.1 o a B;simp only [RQ] at h1 f;replace h1:=h1.2.1;replace f:=f.2.2;rw [hl] at h1 f;simp only [Sl,SP,SV] at h1 f;simp only [kx,RQ,SV] at hl;obtain⟨J,K,L,I,p⟩:∃t x y,a.guard=none/\a.op= .store t (.tmp x) y:=by rcases hl.1.2 with h | h <;> exact o7 h
 have H:=oG.store (BN p u) h1;rw [<-E] at H;obtain⟨i,gb,⟨tb,e,n,d,D,C⟩ | ⟨tb,d⟩⟩:=Af hl.2
 case inr=>
  simp only [sR,d] at f;rw [j (.tmp i) (by simp [d,Op.operands])] at f;split at f
  .rename_i m off hm;unfold cI iK;rw [d];dsimp only;rw [g (.tmp i) (by simp [d,Op.operands]),hm];exact H.load
  .cases f
 simp only [sR,d] at f;rw [j (.tmp i) (by simp [d,Op.operands])] at f;split at f
 .rename_i m hm;unfold cI iK;rw [d];dsimp only;rw [g (.tmp i) (by simp [d,Op.operands]),g n (by simp [d,Op.operands]),hm];unfold nK;cases(s1.get none n).t? with
  | none=>exact VK
  | some y=>
   simp only [R2];cases il.anyInt y with
   | none=>exact VK
   | some z=>change (iU P s1 none tb (AV.own m) z λv=>some (v,[]))=some r↔(iU P s2 none tb (AV.own m) z λv=>some (v,[]))=some r;exact H.index D C
 .cases f
theorem Gb{a b:Oper}{s1 s2:St}{us:aE}{u2:aE}(hl:jq P An ops a b=true)(l:a∈ops)(hb:b∈ops)(g:jA P An ops a s1 us=true)(j:jA P An ops b s2 u2=true)(p:∀k,k∉fS ops.toList->(s1.t k).2= (s2.t k).2):
  ∀x∈b.op.operands,∀i∈(s2.get none x).ids,∀q∈us,q.1≠i:=by
 have h1:=Sq.1 g b hb;have d:=Sq.1 j a l;simp only [RQ] at h1 d;replace h1:=h1.1.1.1.2;replace d:=d.1.1.2;rw [hl] at h1 d;simp only [Sl,SP] at h1 d;rcases sC hl with⟨k,hk,m⟩ | hk
 .simp only [wA,sD,hk,R7,decide_eq_true_eq] at h1 d;intro x f i hi q o e;have:=d x (Array.mem_toList_iff.2 f) i hi;rw [<-p k m,<-e] at this;exact h1 q o this
 .simp only [sD,hk,R7,Vw] at d;intro x f i hi;rw [d x (Array.mem_toList_iff.2 f)] at hi;cases hi
theorem BL{o:Oper}{us:aE}(q:∀k,k∉fS ops.toList->s'.t k=s.t k)(p:∀k,fK ops o=some k\/jy ops o=some none->∀x∈o.op.operands,s'.get none x=s.get none x)(u:o.guard=none->∀x∈o.op.operands,s'.get none x=s.get none x)(h:jA P An ops o s us=true):jA P An ops o s' us=true:=by
 refine Sq.2 λl hm=> ?_;have C:=Sq.1 h l hm;simp only [RQ] at C⊢;obtain⟨⟨⟨⟨h1,m⟩,hb⟩,I,i⟩,D,d⟩:=C;refine⟨⟨⟨⟨?_, ?_⟩, ?_⟩,I, ?_⟩,D, ?_⟩
 .cases f:kv An ops o l with
  | false=>rfl
  | true=>obtain⟨k,J,hk,E,K,F,G⟩:=BK f;rw [f] at h1;simp only [Sl,SP,BM,hk,E,RQ,R7] at h1⊢;rw [q k F,q J G];refine⟨⟨λx g=> ?_,h1.1.2⟩,h1.2⟩;rw [p k (.inl hk) x (Array.mem_toList_iff.1 g)];exact h1.1.1 x g
 .cases f:jq P An ops o l with
  | false=>rfl
  | true=>
   rw [f] at m;simp only [Sl,SP] at m⊢;rcases sC f with⟨k,hk,B⟩ | hk
   .simp only [wA,hk] at m⊢;rw [q k B];exact m
   .simp only [wA,hk]
 .cases f:jq P An ops l o with
  | false=>rfl
  | true=>
   rw [f] at hb;simp only [Sl,SP] at hb⊢;rcases sC f with⟨k,hk,B⟩ | hk
   .simp only [sD,hk,R7] at hb⊢;rw [q k B];intro x g;rw [p k (.inl (Pk hk)) x (Array.mem_toList_iff.1 g)];exact hb x g
   .simp only [sD,hk,R7] at hb⊢;intro x g;rw [p 0 (.inr hk) x (Array.mem_toList_iff.1 g)];exact hb x g
 .cases v:la P An ops l o with
  | false=>rfl
  | true=>
   rw [v] at i;simp only [Sl,SP,RQ] at i⊢;refine⟨i.1, ?_⟩;have r:=i.2;simp only [la,RQ] at v;obtain⟨t,a,y,j,b⟩:=o7 v.2;have hk:fK ops o=some (qU ops a):=by simp [fK,j,b]
   simp only [yO,b] at r⊢;rw [p _ (.inl hk) y (by simp [b,Op.operands])];exact r
 .cases z:kx P An ops l o with
  | false=>rfl
  | true=>
   rw [z] at d;simp only [Sl,SP] at d⊢;simp only [kx,RQ] at z;obtain⟨a,j,⟨t,e,n,b,_,_⟩ | ⟨t,b⟩⟩:=Af z.2
   .simp only [sR,b] at d⊢;rw [u j (.tmp a) (by simp [b,Op.operands])];exact d
   .simp only [sR,b] at d⊢;rw [u j (.tmp a) (by simp [b,Op.operands])];exact d
theorem Qq{V:Array Bool}{i j:Nat}{l u:Oper}(hu:pS ops)(hgk:qE ops=true)(hi:ops[i]? =some l)(hj:ops[j]? =some u)(hne:j≠i)(hri:i∈Region.ready .any ops V)(hrj:j∈Region.ready .any ops V)
  (hcl:pB ops V) (hap:l.apart ops u=true) (hcm0':p4 P An l u=true\/re P An ops l u=true) (hG:pG ops V s) (J:eu P An Or true nt ops l s=some s1) (K:eu P An Or true nt ops u s1=some s2):
  ∃sj,eu P An Or true nt ops u s=some sj/\eu P An Or true nt ops l sj=some s2:=by
 obtain⟨G,Z,C,wi,rfl⟩:=AR J;obtain⟨I,vj,B,wj,rfl⟩:=AR K;obtain⟨hli,oi',hi',hai⟩:=mem_ready.1 hri;rw [hi] at hi';simp only [RJ] at hi';subst hi';obtain⟨hlj,oj',hj',haj⟩:=mem_ready.1 hrj;rw [hj] at hj';simp only [RJ] at hj';subst hj';obtain⟨a1,a2,a3⟩:=Oper.apart_spec hap;have behind:∀(o:Oper) (m:Nat),V.getD m true=false->(∀e∈o.after,Region.binds .any e=true->V.getD e.on false=true)->∀e∈o.after,Region.binds .any e=true->¬(e.on=m\/gB ops 12 e.on m=true):=by
  intro o m hlm hall e he hb h;rcases h with h | h
  .exact tG hlm (h▸hall e he hb)
  .have hl:=hall e he hb;cases hk:ops[e.on]? with
   | none=>simp [gB,hk] at h
   | some ok=>rw [yP hcl hlm hk (hcl e.on ok hk hl)] at h;cases h
 have noti:=behind u i hli haj;have notj:=behind l j hlj hai;have wiok:=wi.ok;have wjok:=wj.ok;simp only [nV,Sl,SP,RQ] at wiok wjok;obtain⟨⟨⟨i1,i2⟩,i3⟩,⟨⟨⟨⟨⟨i4,i5⟩,i6⟩,i7⟩,i8⟩,i9⟩,i10⟩:=wiok;obtain⟨⟨⟨j1,j2⟩,j3⟩,⟨⟨⟨⟨⟨j4,j5⟩,j6⟩,j7⟩,j8⟩,j9⟩,j10⟩:=wjok;have pli:=A5 (g:=G) (v:=Z) (us:=C) hu hi hli hG (dm ops l.dst);have tj:∀k,k∈u.looksAt ops->(s.put (dm ops l.dst) l.dst G Z C).t k=s.t k:=by intro k hk;rw [pli];exact pg (b:=false) λe=>a1 k e hk
 have ti:∀(g:Option Gs) (v:AV) (us:aE) k,k∈l.looksAt ops->(s.put false u.dst g v us).t k=s.t k:=λg v us k hk=>pg (b:=false) λe=>a3 k e hk;have gj':cK ops u s some=some I:=by rw [<-wj.guard];exact(FV λx b d h1 h2=>tj d (Gi h1 h2)).symm
 have getj:∀x∈u.op.operands,(s.put (dm ops l.dst) l.dst G Z C).get I x=s.get I x:=λx z=>qC λk e=>tj k (gF (e▸z));have nj:nR ops I u s=true:=by rw [<-j4];exact(GO getj).symm
 have a2':∀d,u.dst=some d->l.dst≠some d:=λd h h'=>a2 d h' h;have guardA:∀(o:Oper) (g:Option Gs) (s0:St) (k:Nat),fK ops o=some k->cK ops o s0 some=some g->g=none/\eG An o=false/\ef An o=false:=by
  intro o g s0 k h Q;unfold fK at h;split at h
  .rename_i h1 h2;unfold cK at Q;rw [h1] at Q;simp only [RJ] at Q;exact⟨Q.symm,by simp [eG,h2],by simp [ef,h2]⟩
  .rename_i h1 h2;unfold cK at Q;rw [h1] at Q;simp only [RJ] at Q;exact⟨Q.symm,by simp [eG,h2],by simp [ef,h2]⟩
  .cases h
 have al_w:∀o:Oper,iv o=true->fC P An o=false:=by intro o h;cases hop:o.op <;> simp only [iv,hop,R9] at h <;> simp [fC,hop]
 have w_r:∀o:Oper,fC P An o=false->eG An o=false:=by
  intro o h;cases hr:eG An o with
  | false=>rfl
  | true=>
   exfalso;cases hop:o.op <;> simp only [eG,hop,R9] at hr;rename_i cl;cases hcal:cl.callee <;> simp only [hcal,R9] at hr;rename_i fo;simp only [fC,hop,hcal] at h;cases fo with
   | func f=>
    dsimp only at h hr;cases hb:An.gQ f with
    | none=>rw [hb] at hr;simp at hr
    | some x=>rw [hb] at h;simp at h
   | _=>simp at h
 have U:∀(o:Oper) (us:aE) (m:Nat) (om:Oper),ops[m]? =some om->(∀e∈o.after,Region.binds .any e=true->¬(e.on=m\/gB ops 12 e.on m=true))->rr ops o us=true->(∀d,om.dst=some d->o.dst≠some d)->∀q∈us,∀d k,om.dst=some d->q.1≠ .s d k:=by
  intro o us m om hm hnot hok hdst q D d k hd e;have h1:=R7.1 hok q D;rw [e] at h1;simp only [SV] at h1;rcases h1 with h1 | h1
  .unfold pY at h1;have h3:=R7.1 h1 m (UZ.2 (Va.1 hm).1);rw [hm] at h3;simp only [hd,BEq.rfl,Sl,SP] at h3;obtain⟨e',he,hb⟩:=UM.1 h3;simp only [RQ,SV,beq_iff_eq] at hb;exact hnot e' he hb.1 hb.2
  .exact hdst d hd (by simpa using h1)
 have ltd:∀(o:Oper),(match o.dst with | some d=>decide (d < nt) | none=>true)=true->Nat.ble nt 1000000=true->∀d,o.dst=some d->d < 1000000:=by intro o h1 h2 d hd;rw [hd] at h1;simp only [decide_eq_true_eq] at h1;exact Tc h1 (Nat.le_of_ble_eq_true h2)
 have guardB:∀(o:Oper) (g:Option Gs) (s0:St) (k:Nat),(fK ops o=some k\/jy ops o=some none)->cK ops o s0 some=some g->g=none:=by
  intro o g s0 k h Q;rcases h with h | h
  .exact(guardA o g s0 k h Q).1
  .have h1:=(Bi (P:=P) (An:=An) h).1;unfold cK at Q;rw [h1] at Q;simp only [RJ] at Q;exact Q.symm
 have three:cI P An Or I u s=some (vj,B)/\cI P An Or G l (s.put false u.dst I vj B)=some (Z,C)/\(∀p∈C,∀q∈B,p.1≠q.1):=by
  rcases hcm0' with hcm | hst
  .skip
   have hcm0:=hcm;unfold p4 at hcm0;simp only [RQ] at hcm0;obtain⟨⟨hcm1,hcd1⟩,hcd2⟩:=hcm0;have hcm':(fC P An l=false\/fB P u=true\/iv u=true)/\(fC P An u=false\/fB P l=true\/iv l=true):=by simp only [S4,VE,Bool.and_eq_false_iff,Bool.not_eq_false',SV] at hcm1;exact hcm1
   have hdi:ef An l=false\/B= []:=by
    simp only [SV,S4] at hcd1;rcases hcd1 with h | h
    .exact .inl h
    .right;simpa [h] using j7
   have hdj:ef An u=false\/C= []:=by
    simp only [SV,S4] at hcd2;rcases hcd2 with h | h
    .exact .inl h
    .right;simpa [h] using i7
   have purei:fB P l=true->C= []:=λh=>by simpa [h] using i6
   have purej:fB P u=true->B= []:=λh=>by simpa [h] using j6
   have opj:cI P An Or I u s=some (vj,B):=by
    have old:fB P u=true\/iv u=true\/aG s.h C=s.h\/(eG An u=false/\ef An u=false/\∀x∈u.op.operands,∀id∈(s.get I x).ids,aG s.h C id=s.h id)->cI P An Or I u s=some (vj,B):=by intro h;rw [<-wj.op];exact(kE (s:=s) (s':=s.put (dm ops l.dst) l.dst G Z C) (λx z k e=>tj k (gF (e▸z))) h).symm
    rcases hcm'.1 with hw | F | F
    case inr.inl=>exact old (.inl F)
    case inr.inr=>exact old (.inr (.inl F))
    have L:jY l C=true:=by simpa [hw] using i5
    have direct:∀x∈u.op.operands,∀id∈(s.get I x).ids,∀q∈C,q.1≠id:=by intro x z id E q D e;obtain⟨d,k,J,K⟩:=fF L ⟨q,D,e⟩;subst J;obtain⟨ed,he,hb,ho⟩:=wJ nj z E hi K;exact noti ed he hb ho
    rcases hdj with hdj | hdj
    case inr=>exact old (.inr (.inr (.inl (by rw [hdj];rfl))))
    rcases hcm'.2 with hwj | hpi | hai'
    .exact old (.inr (.inr (.inr ⟨w_r u hwj,hdj,λx z id E=>df λq D e=>direct x z id E q D e⟩)))
    .exact old (.inr (.inr (.inl (by rw [purei hpi];rfl))))
    .cases hwj:fC P An u with
     | false=>exact old (.inr (.inr (.inr ⟨w_r u hwj,hdj,λx z id E=>df λq D e=>direct x z id E q D e⟩)))
     | true=>
      have hus:rr ops u B=true:=by simpa [hwj] using j8
      refine uS (s:=s.put (dm ops l.dst) l.dst G Z C) (s':=s) (N:=λi=>∃q∈C,q.1=i) (λx z k e=>(tj k (gF (e▸z))).symm) (λi hi=> ?_) hdj (λx z id E=> ?_) (λk=> ?_) (λp F=> ?_) wj.op
      .exact(df λq D e=>hi ⟨q,D,e⟩).symm
      .rw [getj x z] at E;rintro⟨q,D,e⟩;exact direct x z id E q D e
      .rintro⟨q,D,e⟩;obtain⟨d,k',J,K⟩:=fF L ⟨q,D,e⟩;simp only [Id.s.injEq] at J;have h:=ltd l i1 i9 d K;rw [<-J.1] at h;exact absurd h (T2.2 (Sh (by decide) (Ue 2000000 _)))
      .rintro⟨q,D,e⟩;obtain⟨d,k',J,K⟩:=fF L ⟨q,D,rfl⟩;exact U u B i l hi noti hus a2 p F d k' K (by rw [<-e,J])
   have opi:cI P An Or G l (s.put false u.dst I vj B)=some (Z,C):=by
    have old:fB P l=true\/iv l=true\/aG s.h B=s.h\/(eG An l=false/\ef An l=false/\∀x∈l.op.operands,∀id∈(s.get G x).ids,aG s.h B id=s.h id)->cI P An Or G l (s.put false u.dst I vj B)=some (Z,C):=by intro h;rw [<-wi.op];exact kE (λx z k e=>ti _ _ _ k (gF (e▸z))) h
    rcases hcm'.2 with hw | F | F
    case inr.inl=>exact old (.inl F)
    case inr.inr=>exact old (.inr (.inl F))
    have L:jY u B=true:=by simpa [hw] using j5
    have direct:∀x∈l.op.operands,∀id∈(s.get G x).ids,∀q∈B,q.1≠id:=by intro x z id E q D e;obtain⟨d,k,J,K⟩:=fF L ⟨q,D,e⟩;subst J;obtain⟨ed,he,hb,ho⟩:=wJ i4 z E hj K;exact notj ed he hb ho
    rcases hdi with hdi | hdi
    case inr=>exact old (.inr (.inr (.inl (by rw [hdi];rfl))))
    rcases hcm'.1 with hwi | hpj | haj'
    .exact old (.inr (.inr (.inr ⟨w_r l hwi,hdi,λx z id E=>df λq D e=>direct x z id E q D e⟩)))
    .exact old (.inr (.inr (.inl (by rw [purej hpj];rfl))))
    .cases hwi:fC P An l with
     | false=>exact old (.inr (.inr (.inr ⟨w_r l hwi,hdi,λx z id E=>df λq D e=>direct x z id E q D e⟩)))
     | true=>
      have hus:rr ops l C=true:=by simpa [hwi] using i8
      refine uS (s:=s) (s':=s.put false u.dst I vj B) (N:=λi=>∃q∈B,q.1=i) (λx z k e=>ti _ _ _ k (gF (e▸z))) (λi hi=> ?_) hdi (λx z id E=> ?_) (λk=> ?_) (λp F=> ?_) wi.op
      .exact df λq D e=>hi ⟨q,D,e⟩
      .rintro⟨q,D,e⟩;exact direct x z id E q D e
      .rintro⟨q,D,e⟩;obtain⟨d,k',J,K⟩:=fF L ⟨q,D,e⟩;simp only [Id.s.injEq] at J;have h:=ltd u j1 j9 d K;rw [<-J.1] at h;exact absurd h (T2.2 (Sh (by decide) (Ue 2000000 _)))
      .rintro⟨q,D,e⟩;obtain⟨d,k',J,K⟩:=fF L ⟨q,D,rfl⟩;exact U l C j u hj notj hus a2' p F d k' K (by rw [<-e,J])
   have disj:∀p∈C,∀q∈B,p.1≠q.1:=by
    intro p F q D e;rcases hcm'.1 with hw | hpj | haj'
    .rcases hcm'.2 with hw' | hpi | hai'
     .obtain⟨d,k,J,K⟩:=fF (by simpa [hw] using i5:jY l C=true) ⟨p,F,rfl⟩;obtain⟨d',k',e3,e4⟩:=fF (by simpa [hw'] using j5:jY u B=true) ⟨q,D,rfl⟩;rw [J,e3] at e;simp only [Id.s.injEq] at e;obtain⟨rfl,_⟩:=e;exact a2 d K e4
     .rw [purei hpi] at F;cases F
     .obtain⟨d,k,J,K⟩:=fF (by simpa [hw] using i5:jY l C=true) ⟨p,F,rfl⟩;cases hwj:fC P An u with
      | false=>obtain⟨d',k',e3,e4⟩:=fF (by simpa [hwj] using j5:jY u B=true) ⟨q,D,rfl⟩;rw [J,e3] at e;simp only [Id.s.injEq] at e;obtain⟨rfl,_⟩:=e;exact a2 d K e4
      | true=>exact U u B i l hi noti (by simpa [hwj] using j8) a2 q D d k K (by rw [<-e,J])
    .rw [purej hpj] at D;cases D
    .obtain⟨d,k,J,K⟩:=fF (by simpa [al_w u haj'] using j5:jY u B=true) ⟨q,D,rfl⟩;cases hwi:fC P An l with
     | false=>obtain⟨d',k',e3,e4⟩:=fF (by simpa [hwi] using i5:jY l C=true) ⟨p,F,rfl⟩;rw [J,e3] at e;simp only [Id.s.injEq] at e;obtain⟨rfl,_⟩:=e;exact a2 d' e4 K
     | true=>exact U l C j u hj notj (by simpa [hwi] using i8) a2' p F d k K (by rw [e,J])
   exact⟨opj,opi,disj⟩
  .have hst2:(((kv An ops l u=true\/jq P An ops l u=true)\/jq P An ops u l=true)\/(la P An ops l u=true\/la P An ops u l=true))\/(kx P An ops l u=true\/kx P An ops u l=true):=by
    unfold re at hst;simpa only [SV] using hst
   rcases hst2 with hst1 | hst5
   case inr=>
    have ixq:∀o,wv P o=true->o.guard=none/\qQ P An o=true/\fB P o=false:=λo h=>by
     obtain⟨a,h1,⟨t,e,n,h2,_⟩ | ⟨t,h2⟩⟩:=Af h
     .exact⟨h1,by simp [qQ,h2],by simp [fB,h2]⟩
     .exact⟨h1,by simp [qQ,h2],by simp [fB,h2]⟩
    have gn:∀(o:Oper) (g:Option Gs) (s0:St),o.guard=none->cK ops o s0 some=some g->g=none:=by intro o g s0 h1 Q;unfold cK at Q;rw [h1] at Q;simp only [RJ] at Q;exact Q.symm
    have stg:∀o,(iW P o true=true\/iW P o false=true)->o.guard=none/\eG An o=false/\ef An o=false:=λo h=>by
     obtain⟨t,a,y,h1,h2⟩:∃t a y,o.guard=none/\o.op= .store t (.tmp a) y:=by rcases h with h | h <;> exact o7 h
     exact⟨h1,by simp [eG,h2],by simp [ef,h2]⟩
    rcases hst5 with h5 | h5
    .have h5':=h5;simp only [kx,RQ,SV] at h5';obtain⟨gdi,ri,di⟩:=stg l h5'.1.2;obtain⟨gdj,qj,_⟩:=ixq u h5'.2;have gni:=gn l G s gdi wi.guard;have gnj:=gn u I s gdj gj';have uj:B= []:=by simpa [qj] using j7
     have eiop:=wi.op;have ejop:=wj.op;rw [gni] at eiop;rw [gnj] at ejop;have hget:∀x∈u.op.operands,(s.put (dm ops l.dst) l.dst G Z C).get none x=s.get none x:=λx z=>by have:=getj x z;rwa [gnj] at this
     refine⟨?_, ?_,λp F q D=>by rw [uj] at D;cases D⟩
     .rw [gnj];exact(IT h5 (Sa hi) (Sa hj) eiop i10 j10 rfl hget hget _).2 ejop
     .rw [<-wi.op];exact kE (λx z k e=>ti _ _ _ k (gF (e▸z))) (.inr (.inr (.inl (by rw [uj];rfl))))
    .have h5':=h5;simp only [kx,RQ,SV] at h5';obtain⟨gdj,rj,dj⟩:=stg u h5'.1.2;obtain⟨gdi,qi,_⟩:=ixq l h5'.2;have gni:=gn l G s gdi wi.guard;have gnj:=gn u I s gdj gj';have ui:C= []:=by simpa [qi] using i7
     have eiop:=wi.op;rw [gni] at eiop;have opj:cI P An Or I u s=some (vj,B):=by rw [<-wj.op];exact(kE (s:=s) (s':=s.put (dm ops l.dst) l.dst G Z C) (λx z k e=>tj k (gF (e▸z))) (.inr (.inr (.inl (by rw [ui];rfl))))).symm
     have geti:∀x∈l.op.operands,(s.put false u.dst I vj B).get none x=s.get none x:=λx z=>qC λk e=>ti _ _ _ k (gF (e▸z));have okj:jA P An ops u s B=true:=by
      refine BL (λk hk=> ?_) (λk hk x z=> ?_) (λQ x z=> ?_) j10
      .rw [pli];exact(pg (b:=false) λe=>hk (oU e ops.toList (Array.mem_toList_iff.2 (Sa hi)))).symm
      .have h:=getj x z;rw [gnj] at h;exact h.symm
      .have h:=getj x z;rw [gnj] at h;exact h.symm
     refine⟨opj, ?_,λp F=>by rw [ui] at F;cases F⟩;rw [gni];rw [gnj] at opj;exact(IT h5 (Sa hj) (Sa hi) opj okj i10 rfl geti (λ_ _=>rfl) _).1 eiop
   have hst1:=hst1;rcases hst1 with hst0 | hst4
   case inr=>
    have both:∀o,(iW P o true=true\/iW P o false=true)->∃t a y,o.guard=none/\o.op= .store t (.tmp a) y:=λo h=>by
     rcases h with h | h
     .exact o7 h
     .exact o7 h
    have si:(iW P l true=true\/iW P l false=true)/\(iW P u true=true\/iW P u false=true):=by
     rcases hst4 with h | h <;> simp only [la,RQ] at h
     .exact⟨.inl h.1.2, .inr h.2⟩
     .exact⟨.inr h.2, .inl h.1.2⟩
    obtain⟨ti',xi,yi,gdi,opi'⟩:=both l si.1;obtain⟨tj',xj,yj,gdj,opj'⟩:=both u si.2;have hki:fK ops l=some (qU ops xi):=by simp [fK,gdi,opi']
    have hkj:fK ops u=some (qU ops xj):=by simp [fK,gdj,opj']
    obtain⟨gni,ri,di⟩:=guardA l G s _ hki wi.guard;obtain⟨gnj,rj,dj⟩:=guardA u I s _ hkj gj';have eiop:=wi.op;have ejop:=wj.op;rw [gni] at eiop;rw [gnj] at ejop;have hres:(∀p∈C,∀q∈B,p.1≠q.1)/\(∀x∈l.op.operands,∀i∈(s.get none x).ids,∃p∈C,p.1=i)/\(∀x∈u.op.operands,∀i∈((s.put (dm ops l.dst) l.dst G Z C).get none x).ids,∃p∈B,p.1=i):=by
     rcases hst4 with h | h
     .exact IS h (Sa hi) (Sa hj) eiop ejop i10 j10 (.inl rfl)
     .obtain⟨r1,r2,r3⟩:=IS h (Sa hj) (Sa hi) ejop eiop j10 i10 (.inr rfl);exact⟨λp F q D e=>r1 q D p F e.symm,r3,r2⟩
    obtain⟨d1,d2,d3⟩:=hres;refine⟨?_, ?_,d1⟩
    .rw [<-wj.op];refine(kE (s:=s) (s':=s.put (dm ops l.dst) l.dst G Z C) (λx z k e=>tj k (gF (e▸z))) (.inr (.inr (.inr ⟨rj,dj,λx z id E=> ?_⟩)))).symm;refine df λq D e=> ?_;rw [<-getj x z,gnj] at E;obtain⟨p,F,K⟩:=d3 x z id E;exact d1 q D p F (e.trans K.symm)
    .rw [<-wi.op];refine kE (λx z k e=>ti _ _ _ k (gF (e▸z))) (.inr (.inr (.inr ⟨ri,di,λx z id E=> ?_⟩)));refine df λq D e=> ?_;rw [gni] at E;obtain⟨p,F,K⟩:=d2 x z id E;exact d1 p F q D (K.trans e.symm)
   have tk:∀k,k∉fS ops.toList->(s.put (dm ops l.dst) l.dst G Z C).t k=s.t k:=λk dk=>by rw [pli];exact pg (b:=false) λe=>dk (oU e ops.toList (Array.mem_toList_iff.2 (Sa hi)))
   have gnone:∀(o:Oper) (g:Option Gs) (s0:St),o.guard=none->cK ops o s0 some=some g->g=none:=by intro o g s0 h1 Q;unfold cK at Q;rw [h1] at Q;simp only [RJ] at Q;exact Q.symm
   rcases hst0 with(hst | hld) | hld
   rotate_left
   ·
    obtain⟨ga,wa,ra,da⟩:=Ga hld;obtain⟨rb',hrb'⟩:∃r,jy ops u=some r:=by rcases sC hld with⟨k,hk,_⟩ | hk <;> exact⟨_,hk⟩
    obtain⟨gb,wb,rb,db⟩:=Bi (P:=P) (An:=An) hrb';have gni:=gnone l G s ga wi.guard;have gnj:=gnone u I s gb gj';have L:jY u B=true:=by simpa [wb] using j5
    have hus:rr ops l C=true:=by simpa [wa] using i8
    have hap2:=Gb hld (Sa hi) (Sa hj) i10 j10 (λk hk=>by rw [tk k hk]);refine⟨?_, ?_, ?_⟩
    .rw [<-wj.op];refine(kE (s:=s) (s':=s.put (dm ops l.dst) l.dst G Z C) (λx z k e=>tj k (gF (e▸z))) (.inr (.inr (.inr ⟨rb,db,λx z id E=> ?_⟩)))).symm;refine df λq D e=> ?_;rw [<-getj x z,gnj] at E;exact hap2 x z id E q D e
    .refine uS (s:=s) (s':=s.put false u.dst I vj B) (N:=λi=>∃q∈B,q.1=i) (λx z k e=>ti _ _ _ k (gF (e▸z))) (λi hi=> ?_) da (λx z id E=> ?_) (λk=> ?_) (λp F=> ?_) wi.op
     .exact df λq D e=>hi ⟨q,D,e⟩
     .rintro⟨q,D,e⟩;obtain⟨d,k,J,K⟩:=fF L ⟨q,D,e⟩;subst J;obtain⟨ed,he,hb,ho⟩:=wJ i4 z E hj K;exact notj ed he hb ho
     .rintro⟨q,D,e⟩;obtain⟨d,k',J,K⟩:=fF L ⟨q,D,e⟩;simp only [Id.s.injEq] at J;have h:=ltd u j1 j9 d K;rw [<-J.1] at h;exact absurd h (T2.2 (Sh (by decide) (Ue 2000000 _)))
     .rintro⟨q,D,e⟩;obtain⟨d,k',J,K⟩:=fF L ⟨q,D,rfl⟩;exact U l C j u hj notj hus a2' p F d k' K (by rw [<-e,J])
    .intro p F q D e;obtain⟨d,k,J,K⟩:=fF L ⟨q,D,rfl⟩;exact U l C j u hj notj hus a2' p F d k K (by rw [e,J])
   ·
    obtain⟨ga,wa,ra,da⟩:=Ga hld;obtain⟨rb',hrb'⟩:∃r,jy ops l=some r:=by rcases sC hld with⟨k,hk,_⟩ | hk <;> exact⟨_,hk⟩
    obtain⟨gb,wb,rb,db⟩:=Bi (P:=P) (An:=An) hrb';have gni:=gnone l G s gb wi.guard;have gnj:=gnone u I s ga gj';have L:jY l C=true:=by simpa [wb] using i5
    have hus:rr ops u B=true:=by simpa [wa] using j8
    have hap2:=Gb hld (Sa hj) (Sa hi) j10 i10 (λk hk=>by rw [tk k hk]);refine⟨?_, ?_, ?_⟩
    .refine uS (s:=s.put (dm ops l.dst) l.dst G Z C) (s':=s) (N:=λi=>∃q∈C,q.1=i) (λx z k e=>(tj k (gF (e▸z))).symm) (λi hi=> ?_) da (λx z id E=> ?_) (λk=> ?_) (λp F=> ?_) wj.op
     .exact(df λq D e=>hi ⟨q,D,e⟩).symm
     .rw [getj x z] at E;rintro⟨q,D,e⟩;obtain⟨d,k,J,K⟩:=fF L ⟨q,D,e⟩;subst J;obtain⟨ed,he,hb,ho⟩:=wJ nj z E hi K;exact noti ed he hb ho
     .rintro⟨q,D,e⟩;obtain⟨d,k',J,K⟩:=fF L ⟨q,D,e⟩;simp only [Id.s.injEq] at J;have h:=ltd l i1 i9 d K;rw [<-J.1] at h;exact absurd h (T2.2 (Sh (by decide) (Ue 2000000 _)))
     .rintro⟨q,D,e⟩;obtain⟨d,k',J,K⟩:=fF L ⟨q,D,rfl⟩;exact U u B i l hi noti hus a2 p F d k' K (by rw [<-e,J])
    .rw [<-wi.op];refine kE (λx z k e=>ti _ _ _ k (gF (e▸z))) (.inr (.inr (.inr ⟨rb,db,λx z id E=> ?_⟩)));refine df λq D e=> ?_;rw [gni] at E;exact hap2 x z id E q D e
    .intro p F q D e;obtain⟨d,k,J,K⟩:=fF L ⟨p,F,rfl⟩;exact U u B i l hi noti hus a2 q D d k K (by rw [<-e,J])
   obtain⟨k,k',sk,sk',nek,dk,dk'⟩:=BK hst;obtain⟨gni,ri,di⟩:=guardA l G s k sk wi.guard;obtain⟨gnj,rj,dj⟩:=guardA u I s k' sk' gj';have hst':kv An ops u l=true:=Qg hst;obtain⟨p1,p2,p3⟩:=IU i10 (Sa hj) hst sk sk';obtain⟨q1,q2,q3⟩:=IU j10 (Sa hi) hst' sk' sk;replace tk:=tk k dk;have tk':(s.put (dm ops l.dst) l.dst G Z C).t k'=s.t k':=by rw [pli];exact pg (b:=false) λe=>dk' (oU e ops.toList (Array.mem_toList_iff.2 (Sa hi)))
   rw [tk] at q3;rw [tk'] at q2;refine⟨?_, ?_,λp F q D e=>q3 q D (e▸p2 p F)⟩
   .rw [<-wj.op];refine(kE (s:=s) (s':=s.put (dm ops l.dst) l.dst G Z C) (λx z k e=>tj k (gF (e▸z))) (.inr (.inr (.inr ⟨rj,dj,λx z id E=> ?_⟩)))).symm;refine df λq D e=> ?_;rw [<-getj x z,gnj] at E;have:=q1 x z id E;rw [tk'] at this;exact p3 q D (e▸this)
   .rw [<-wi.op];refine kE (λx z k e=>ti _ _ _ k (gF (e▸z))) (.inr (.inr (.inr ⟨ri,di,λx z id E=> ?_⟩)));refine df λq D e=> ?_;rw [gni] at E;exact q3 q D (e▸p1 x z id E)
 obtain⟨opj,opi,disj⟩:=three;have sj10:jA P An ops u s B=true:=by
  refine BL (λk hk=> ?_) (λk hk x z=> ?_) (λQ x z=> ?_) j10
  .rw [pli];exact(pg (b:=false) λe=>hk (oU e ops.toList (Array.mem_toList_iff.2 (Sa hi)))).symm
  .have:=guardB u I s k hk gj';have h:=getj x z;rw [this] at h;exact h.symm
  .have hgn:I=none:=by
    have h:=gj';unfold cK at h;rw [Q] at h;simp only [RJ] at h;exact h.symm
   have h:=getj x z;rw [hgn] at h;exact h.symm
 have frj:iu (u.dst.getD 0) s.h B=true:=by
  unfold iu at j3⊢;refine R7.2 λp F=> ?_;have:=R7.1 j3 p F;split at this
  .simp only [SV,UB] at this⊢;rcases this with h | h
   .exact .inl h
   .exact .inr (xV h).2
  .rfl
  .cases this
 have wj0:rP P An Or nt ops u s I vj B:=⟨gj',opj,by
  simp only [nV,Sl,SP,RQ];exact⟨⟨⟨j1,j2⟩,frj⟩,⟨⟨⟨⟨⟨nj,j5⟩,j6⟩,j7⟩,j8⟩,j9⟩,sj10⟩⟩
 have plj:=A5 (g:=I) (v:=vj) (us:=B) hu hj hlj hG (dm ops u.dst);refine⟨_,wj0.eu, ?_⟩;rw [plj];have gi':cK ops l (s.put false u.dst I vj B) some=some G:=by rw [<-wi.guard];exact FV λx b d h1 h2=>ti _ _ _ d (Gi h1 h2)
 have geti:∀x∈l.op.operands,(s.put false u.dst I vj B).get G x=s.get G x:=λx z=>qC λk e=>ti _ _ _ k (gF (e▸z));have ni:nR ops G l (s.put false u.dst I vj B)=true:=by rw [<-i4];exact GO geti
 have fri:iu (l.dst.getD 0) (s.put false u.dst I vj B).h C=true:=by
  unfold iu at i3⊢;refine R7.2 λp F=> ?_;have:=R7.1 i3 p F;split at this
  .rename_i d k ep;simp only [SV,UB] at this⊢;rcases this with h | h
   .exact .inl h
   .right;show aG s.h B p.1=none;rw [df λq D e=>disj p F q D e.symm];exact h
  .rfl
  .cases this
 have si10:jA P An ops l (s.put false u.dst I vj B) C=true:=by
  refine BL (λk hk=> ?_) (λk hk x z=> ?_) (λQ x z=> ?_) i10
  .exact pg (b:=false) λe=>hk (oU e ops.toList (Array.mem_toList_iff.2 (Sa hj)))
  .have:=guardB l G s k hk wi.guard;have h:=geti x z;rw [this] at h;exact h
  .have hgn:G=none:=by
    have h:=wi.guard;unfold cK at h;rw [Q] at h;simp only [RJ] at h;exact h.symm
   have h:=geti x z;rw [hgn] at h;exact h
 have wi0:rP P An Or nt ops l (s.put false u.dst I vj B) G Z C:=⟨gi',opi,by
  simp only [nV,Sl,SP,RQ];exact⟨⟨⟨i1,i2⟩,fri⟩,⟨⟨⟨⟨⟨ni,i5⟩,i6⟩,i7⟩,i8⟩,i9⟩,si10⟩⟩
 rw [wi0.eu,pli];have dij:∀d,l.dst=some d->u.dst≠some d:=a2;have dc:∀(g:Option Gs) (o:Oper) (m:Nat) (om:Oper),ops[m]? =some om->V.getD m true=false->cK ops o s some=some g->o∈ops->(∀e∈o.after,Region.binds .any e=true->V.getD e.on false=true)->∀gs,g=some gs->om.dst≠some gs.d:=by
  intro g o m om hom hlm M hmem hall gs hgs hd;unfold cK at M;cases hog:o.guard with
  | none=>rw [hog] at M;simp only [RJ] at M;rw [hgs] at M;cases M
  | some p=>
   obtain⟨jj,b⟩:=p;rw [hog] at M;simp only at M;cases hdd:(ops[jj]?).bind (·.dst) with
   | none=>rw [hdd] at M;simp at M
   | some d=>
    rw [hdd] at M;simp only at M;replace M:=RK.1 M;obtain⟨x,_,M⟩:=M;obtain⟨bb,M,_⟩:=o4 M;simp only [RJ] at M;rw [hgs] at M;simp only [RJ] at M;have hgd:gs.d=d:=by rw [<-M]
    rw [hgd] at hd;obtain⟨ojj,h1,h2⟩:=RK.1 hdd;have:=hu hom h1 hd h2;subst this;have hge:=Sq.1 hgk o hmem;rw [hog] at hge;simp only at hge;obtain⟨e,he,hb⟩:=UM.1 hge;simp only [RQ,beq_iff_eq] at hb;exact tG hlm (hb.2▸hall e he hb.1)
 have nogi:=dc G l j u hj hlj wi.guard (Sa hi) hai;have nogj:=dc I u i l hi hli gj' (Sa hj) haj;have nos:∀(m:Nat) (om:Oper),ops[m]? =some om->V.getD m true=false->∀k g v,s.t k= (some g,v)->om.dst≠some g.d:=by intro m om hom hlm k g v hst hd;obtain⟨x,ox,h1,h2,h3⟩:=hG k g v hst;have:=hu hom h1 hd h3;subst this;exact tG hlm h2
 have tcomm:∀(bi bj:Bool),((s.put false u.dst I vj B).put bi l.dst G Z C).t= ((s.put false l.dst G Z C).put bj u.dst I vj B).t:=by
  intro bi bj;funext k;cases hdi:l.dst with
  | none=>
   cases hdj:u.dst with
   | none=>rfl
   | some dj=>
    simp only [St.put];by_cases ek:k=dj
    .simp [ek]
    .simp only [if_neg ek,cond_false];cases bj with
     | false=>rfl
     | true=>
      simp only [cond_true];cases hst:s.t k with
      | mk gk vk=>
       cases gk with
       | none=>rfl
       | some gk=>
        have:=nos j u hj hlj k gk vk hst;rw [hdj] at this;have hb:(gk.d==dj)=false:=by simp only [beq_eq_false_iff_ne,ne_eq];exact λe=>this (by rw [e])
        simp [lP,hb]
  | some di=>
   cases hdj:u.dst with
   | none=>
    simp only [St.put];by_cases ek:k=di
    .simp [ek]
    .simp only [if_neg ek,cond_false];cases bi with
     | false=>rfl
     | true=>
      simp only [cond_true];cases hst:s.t k with
      | mk gk vk=>
       cases gk with
       | none=>rfl
       | some gk=>
        have:=nos i l hi hli k gk vk hst;rw [hdi] at this;have hb:(gk.d==di)=false:=by simp only [beq_eq_false_iff_ne,ne_eq];exact λe=>this (by rw [e])
        simp [lP,hb]
   | some dj=>
    have hne':di≠dj:=λe=>dij di hdi (by rw [hdj,e]);simp only [St.put];have drop1:∀(b:Bool) (g:Option Gs) (v:AV) (d:Nat),(∀gs,g=some gs->gs.d≠d)->cond b (lP d (g,v)) (g,v)= (g,v):=by
     intro b g v d Q;cases b with
     | false=>rfl
     | true=>
      cases g with
      | none=>rfl
      | some gs=>
       have hb:(gs.d==d)=false:=by simpa using Q gs rfl
       simp [lP,hb]
    by_cases eki:k=di
    .subst eki;simp only [if_true,if_neg hne',cond_false];rw [drop1 bj G Z dj λgs e h=>nogi gs e (by rw [hdj,h])]
    .by_cases ekj:k=dj
     .subst ekj;simp only [if_true,if_neg eki,cond_false];rw [drop1 bi I vj di λgs e h=>nogj gs e (by rw [hdi,h])]
     .simp only [if_neg eki,if_neg ekj,cond_false];cases hst:s.t k with
      | mk gk vk=>rw [drop1 bi gk vk di λgs e h=>by subst e;exact nos i l hi hli k gs vk hst (by rw [hdi,h]),drop1 bj gk vk dj λgs e h=>by subst e;exact nos j u hj hlj k gs vk hst (by rw [hdj,h])]
 have:∀(bi bj:Bool),(s.put false u.dst I vj B).put bi l.dst G Z C= (s.put false l.dst G Z C).put bj u.dst I vj B:=by
  intro bi bj;have ht:=tcomm bi bj;have hh:((s.put false u.dst I vj B).put bi l.dst G Z C).h= ((s.put false l.dst G Z C).put bj u.dst I vj B).h:=by show aG (aG s.h B) C=aG (aG s.h C) B;exact(Rj disj).symm
  generalize (s.put false u.dst I vj B).put bi l.dst G Z C=X at *
  generalize (s.put false l.dst G Z C).put bj u.dst I vj B=Y at *
  cases X;cases Y;simp only at ht hh;rw [ht,hh]
 rw [this]
theorem M3{o:Oper}{l:Gs}{f:Array Bool}(u:qE ops=true)(a:cK ops o s some=some (some l))(q:o∈ops)(m:∀e∈o.after,Region.binds .any e=true->f.getD e.on false=true):
  ∃i v,ops[i]? =some v/\f.getD i false=true/\v.dst=some l.d:=by
 unfold cK at a;cases k:o.guard with
 | none=>rw [k] at a;simp at a
 | some p=>
  obtain⟨jj,b⟩:=p;rw [k] at a;simp only at a;cases g:(ops[jj]?).bind (·.dst) with
  | none=>rw [g] at a;simp at a
  | some d=>
   rw [g] at a;simp only at a;replace a:=RK.1 a;obtain⟨x,_,a⟩:=a;obtain⟨bb,a,_⟩:=o4 a;simp only [RJ] at a;have r:l.d=d:=by rw [<-a]
   obtain⟨y,h1,z⟩:=RK.1 g;have j:=Sq.1 u o q;rw [k] at j;simp only at j;obtain⟨e,B,hb⟩:=UM.1 j;simp only [RQ,beq_iff_eq] at hb;exact⟨jj,y,h1,hb.2▸m e B hb.1,by rw [r];exact z⟩
theorem FQ{a:Array Bool}{i:Nat}{m:Oper}(F:pS ops)(z:qE ops=true)(hi:ops[i]? =some m)(C:i∈Region.ready .any ops a)(r:pG ops a s)(e:eu P An Or true nt ops m s=some s1):
  pG ops (a.setIfInBounds i true) s1:=by
 obtain⟨g,v,us,G,rfl⟩:=AR e;obtain⟨B,I,b,u⟩:=mem_ready.1 C;rw [hi] at b;simp only [RJ] at b;subst b;rw [A5 F hi B r];have f:∀k g v,s.t k= (some g,v)->∃i' o,ops[i']? =some o/\(a.setIfInBounds i true).getD i' false=true/\o.dst=some g.d:=by intro k g v D;obtain⟨x,p,h1,j,l⟩:=r k g v D;exact⟨x,p,h1,getD_set_true j,l⟩
 intro k q E hk;unfold St.put at hk;cases y:m.dst with
 | none=>rw [y] at hk;exact f k q E hk
 | some d=>
  rw [y] at hk;dsimp only at hk;split at hk
  .simp only [SA] at hk;obtain⟨x,p,h1,j,l⟩:=M3 z (by rw [<-hk.1];exact G.guard) (Sa hi) u;exact⟨x,p,h1,getD_set_true j,l⟩
  .exact f k q E hk
def rR(P:Program)(An:bZ)(Or:az)(nt:Nat)(ops:Array Oper)(Q:St->Prop):Nat->Array Bool->St->Prop
 | 0,a,s=>Region.ready .any ops a= []/\Q s
 | n+1,a,s=>(Region.ready .any ops a= []->Q s)/\∀i∈Region.ready .any ops a,∃o s1,ops[i]? =some o/\eu P An Or true nt ops o s=some s1/\rR P An Or nt ops Q n (a.setIfInBounds i true) s1
theorem J9{n j i:Nat}{b:Oper}(f:ops[j]? =some b)(h:gB ops (n+1) j i=false):∀e∈b.after,Region.binds .any e=true->e.on≠i:=by intro e d hb a;simp only [gB,f] at h;rw [Array.any_eq_false'] at h;exact h e d (by simp [hb,a])
theorem DC{a:Array Bool}{j:Nat}(g:pB ops a)(m:j∈Region.ready .any ops a):pB ops (a.setIfInBounds j true):=by
 intro k ok hk hl e i hb;obtain⟨o,p,b,f⟩:=mem_ready.1 m;refine getD_set_true ?_;by_cases d:j=k
 .subst d;rw [hk] at b;simp only [RJ] at b;subst b;exact f e i hb
 .have l:a.getD k false=true:=by
   rw [Tp,VA d] at hl;rw [Tp];exact hl
  exact g k ok hk l e i hb
theorem JI{Q:St->Prop}{i:Nat}{d:Oper}(I:pS ops)(u:qE ops=true)(hi:ops[i]? =some d):∀(jm:Nat) (a:Array Bool) (s s1:St),
  (∀j m,ops[j]? =some m->j≠i->a.getD j true=false->gB ops 12 j i=false->d.apart ops m=true/\(p4 P An d m=true\/re P An ops d m=true))->pB ops a->
  i∈Region.ready .any ops a->pG ops a s->eu P An Or true nt ops d s=some s1->rR P An Or nt ops Q jm (a.setIfInBounds i true) s1->rR P An Or nt ops Q (jm+1) a s:=by
 intro jm;induction jm with
 | zero=>
  intro a s s1 _ _ hr y e H;refine⟨λh=>(by rw [h] at hr;cases hr),λj g=> ?_⟩;by_cases b:j=i
  .subst b;exact⟨d,s1,hi,e,H⟩
  .have:=ready_mono g b;rw [H.1] at this;cases this
 | succ jm N=>
  intro a s s1 o p hr y e H;refine⟨λh=>(by rw [h] at hr;cases hr),λj g=> ?_⟩;by_cases b:j=i
  .subst b;exact⟨d,s1,hi,e,H⟩
  .obtain⟨m,s2,f,L,K⟩:=H.2 j (ready_mono g b);obtain⟨r,U,l,z⟩:=mem_ready.1 g;rw [f] at l;simp only [RJ] at l;subst l;have B:gB ops 12 j i=false:=yP p (mem_ready.1 hr).1 f z;obtain⟨D,E⟩:=o j m f b r B;obtain⟨J,C,M⟩:=Qq I u hi f b hr g p D E y e L;refine⟨m,J,f,C, ?_⟩
   have q:∀k ok,ops[k]? =some ok->k≠i->(a.setIfInBounds j true).getD k true=false->
     gB ops 12 k i=false->d.apart ops ok=true/\(p4 P An d ok=true\/re P An ops d ok=true):=λk ok hk F x G=>by
    refine o k ok hk F ?_ G;by_cases v:j=k
    .subst v;exact r
    .rw [getD_set_ne true v] at x;exact x
   refine N (a.setIfInBounds j true) J s2 q (DC p g) (ready_mono hr (VL b)) (FQ I u f g y C) M ?_;rw [Array.setIfInBounds_comm _ _ b];exact K
theorem MN{i:Nat}{b:Oper}{a:Array Bool}(hi:ops[i]? =some b)(h:zW P An ops a i=true)(j:Nat)(d:Oper)(e:ops[j]? =some d)(f:j≠i)(k:a.getD j true=false)
  (g:gB ops 12 j i=false):p4 P An b d=true\/re P An ops b d=true:=by
 simp only [zW,hi,R7,UZ] at h;have h1:=h j (Va.1 e).1;simp only [e,SV,beq_iff_eq,f,false_or,k,R9,g,or_false] at h1;exact h1
theorem CU{Q:St->Prop}(v:pS ops)(b:qE ops=true):∀(l:List Oper) (k:Nat) (a:Array Bool) (s:St),(∀j,l[j]? =ops[k+j]?)->Region.lexFrom .any ops l.length k a=true->wC P An ops l.length k a=true->pB ops a->pG ops a s->
  iA P An Or true nt ops l s=some s'->Q s'->rR P An Or nt ops Q l.length a s
 | [],k,a,s,_,f,_,_,_,h,r=>by simp only [iA,RJ] at h;subst h;exact⟨by simpa [Region.lexFrom] using f,r⟩
 | o::l,k,a,s,hl,f,q,g,y,h,r=>by
  simp only [iA] at h;obtain⟨s1,h1,h⟩:=RK.1 h;have e:ops[k]? =some o:=by simpa using (hl 0).symm
  simp only [Sc,Region.lexFrom,RQ] at f;obtain⟨⟨hr,B⟩,x⟩:=f;simp only [Sc,wC,RQ] at q;have d:k∈Region.ready .any ops a:=by simpa using hr
  exact JI v b e l.length a s s1 (λj z u i p m=>⟨Region.free_spec e B j z u i p (J9 u m),MN e q.1 j z u i p m⟩) g d y h1
   (CU v b l (k+1) _ s1 (λj=>by have:=hl (j+1);simpa [Uv,VF 1 j] using this) x q.2 (DC g d) (FQ v b e d y h1) h r)
theorem CV(r:iJ P An Or){Q:Exit->Act->World->Prop}{s':St}:∀{jm:Nat} {b:Array Bool} {w:World} {s:St} {ρ:Id->Option Value} {O:Id->Option Nat} {a:Act},
  dN c nt w s ρ O a->np ops s->rR P An Or nt ops (· =s') jm b s->(∀j w' ρ' O',Le w ρ O w' ρ' O'->dN c nt w' s' ρ' O' j->Q .normal j w')->wpAny P .any ops Q jm b a w
 | 0,b,w,s,ρ,O,a,aN,g,h,d=>⟨h.1,d a w ρ O Le.refl (h.2▸aN)⟩
 | jm+1,b,w,s,ρ,O,a,aN,g,h,d=>by refine⟨λhr=>d a w ρ O Le.refl (h.1 hr▸aN),λi hi=> ?_⟩;obtain⟨o,s1,u,e,H⟩:=h.2 i hi;obtain⟨k,step⟩:=Hi r aN g (Sa u) e;unfold wpOp;rw [u];exact step _ Q λj w' ρ' O' le l=>CV r l k H λq x m p v f=>d q x m p (le.trans v) f
theorem Pd{R:Type}{id:Nat}{f:Bool}{a:Act}{K:St->Option R}{r:R}(hm:P.follows .mixedOrders=true)(z:iJ P An Or)(aN:dN c nt w s ρ O a)(hb:nh s)(e:region P An Or nt f ops s K=some r):
  ∃s':St,K s'.clear=some r/\∀Q:Exit->Act->World->Prop,(∀o w' ρ' O',Le w ρ O w' ρ' O'->dN c nt w' s'.clear ρ' O' o->Q .normal o w')->(Code.region id ops f).wp P Q a w:=by
 unfold region at e;cases l:Ba P An f ops with
 | false=>simp [l] at e
 | true=>
  rw [l,cond_true,Bj] at e;replace e:=RK.1 e;obtain⟨s',e,hk⟩:=e;refine⟨s',hk,λQ B=> ?_⟩;cases f with
  | false=>exact Pc z aN hb e B
  | true=>simp only [Ba,Sl,SP,RQ] at l;obtain⟨⟨⟨u,D⟩,E⟩,C⟩:=l;simp only [Region.lexB,RQ] at u;have G:pS ops:=λ{i j x y d} hi F I hy=>D9 E (by simpa using hi) (by simpa using F) I hy;have m:Le w ρ O w.drew ρ O:=⟨rfl,rfl,rfl,R3 _,λ_ _ h=>h,λ_ _ _=>rfl,λi b h=> .inl ⟨i,h⟩⟩;have q:dN c nt w.drew s ρ O a:=⟨aN.hs.world m λ_ _ _=>rfl,SS.mono (λb hb=>m.A b hb) m.dL aN.ss,aN.nt,aN.defers⟩;refine wp_region_any hm ?_;have:=CU (P:=P) (An:=An) (Or:=Or) (nt:=nt) (Q:=(· =s')) G C ops.toList 0 (Array.replicate ops.size false) s (by simp) (by simpa using u.2) (by simpa using D) (λk ok hk hl=>by simp [Tp,Array.getElem?_replicate] at hl;split at hl <;> simp at hl) (λk g v h=>(hb k g v h).elim) e rfl;simp only [R8] at this;exact CV z q (hb.F1 ops) this λo w' ρ' O' le p=>B o w' ρ' O' (m.trans le) p.clear
end
open Go Go.IntKind
section
variable {P:Program} {An:bZ} {Or:az} {w w':World} {A A':Nat->Prop} {c:Ctx} {ρ:Id->Option Value} {O:Id->Option Nat} {s s':St} {h:Id->Option ab}
def Ends(P:Program)(f:FuncId)(fn:Func)(todo:List Item)(a:Act)(w:World)(R:Value->World->Prop):Prop:=
 ∀(b:Frame),b.fn=f->b.kind= .normal->∀cs,∃d w' v todo',Steps P (lone (b.at a todo) cs w) (lone {b.at d todo' with mode:= .returning} cs w')/\
  d.defers= []/\(results fn d.tmps).run P w'= .ok v w'/\R v w'
theorem Ends.mono{f:FuncId}{fn:Func}{todo:List Item}{a:Act}{R d:Value->World->Prop}(h:Ends P f fn todo a w R)(hr:∀v w',R v w'->d v w'):Ends P f fn todo a w d:=
 λb hb hk cs=>let⟨e,w',v,t,h1,g,i,j⟩:=h b hb hk cs;⟨e,w',v,t,h1,g,i,hr _ _ j⟩
theorem Ends.step{f:FuncId}{fn:Func}{todo todo':List Item}{a:Act}{R:Value->World->Prop}(d:∀(b:Frame) cs,step P (lone (b.at a todo) cs w)= .next (lone (b.at a todo') cs w))(h:Ends P f fn todo' a w R):Ends P f fn todo a w R:=
 λb hb hk cs=>let⟨e,w',v,t,h1,g⟩:=h b hb hk cs;⟨e,w',v,t, .head (d b cs) h1,g⟩
theorem Ends.region{f:FuncId}{fn:Func}{id:Nat}{ops:Array Oper}{d:Bool}{k:List Item}{a:Act}{R:Value->World->Prop}
  (h:(Code.region id ops d).wp P (λe g w'=>e= .normal/\Ends P f fn k g w' R) a w):Ends P f fn (.code (.region id ops d)::k) a w R:=by
 intro b hb hk cs;obtain⟨e,j,o,⟨rfl,m⟩,i⟩:=h b k cs;obtain⟨g,w',v,t,h1,l⟩:=m b hb hk cs;exact⟨g,w',v,t,Steps.trans i h1,l⟩
theorem Ku{f:FuncId}{fn:Func}{a:Code}{args:Array Value}{R:Value->World->Prop}(g:P.funcs[f]? =some fn)(hb:fn.body=some a)
  (h:Ends P f fn [.code a] {tmps:=args++Array.replicate (fn.ntmps - args.size) undef,defers:= []} w R):Calls P f args w λe w'=>∃v,e= .returned v/\R v w':=by
 intro cs;let b:Frame:={(default:Frame) with fn:=f,kind:= .normal};have d:Frame.enter P f args .normal=b.at {tmps:=args++Array.replicate (fn.ntmps - args.size) undef,defers:= []} [.code a]:=by simp [Frame.enter,Frame.at,g,hb,b]
 obtain⟨k,w',v,todo',hs,j,hr,i⟩:=h b rfl rfl cs;rw [<-d] at hs;exact⟨.returned v,w',_,⟨v,rfl,i⟩,hs,rfl,rfl,j,rfl,fn,g,hr⟩
structure Fin (P:Program) (c:Ctx) (B:Nat->Option Value) (sh:List bG) (outs:List jd) (xs:List T) (Own:Nat->Prop) (w:World) (v:Value) (w':World):Prop where
 os:w'.os=w.os
 output:w'.output=w.output
 tape:w'.tape=w.tape
 size:w.heap.size<=w'.heap.size
 af:∀b,b < w.heap.size->¬Own b->w'.heap[b]? =w.heap[b]?
 res:∃rs x1 x2 o1 o2,v=oa rs/\xs=x1++x2/\(o1++o2).Nodup/\(∀b∈o1++o2,c.MO b/\b < w'.heap.size)/\cW B w' (λb=>(c.A0 b\/c.MO b)/\b < w'.heap.size/\b∉o1++o2) sh x1 rs o1/\
  nu B w' (λb=>(c.A0 b\/c.MO b)/\b < w'.heap.size/\b∉o1++o2) 0 outs x2 o2
theorem Fin.le{B:Nat->Option Value}{sh:List bG}{os:List jd}{xs:List T}{v:Value}{w'':World}{ρ':Id->Option Value}{O':Id->Option Nat}(le:Le w ρ O w' ρ' O')(h:Fin P c B sh os xs (eX O') w' v w''):Fin P c B sh os xs (eX O) w v w'' where
 os:=h.os.trans le.os
 output:=h.output.trans le.output
 tape:=h.tape.trans le.tape
 size:=Sh le.size h.size
 af b hb hn:=by
  rw [h.af b (Tc hb le.size) (λ⟨i,hi⟩=> ?_),le.af b hb (λi hi=>hn ⟨i,hi⟩)];rcases le.own i b hi with⟨j,hj⟩ | hj
  .exact hn ⟨j,hj⟩
  .omega
 res:=h.res
theorem Fin.own{B:Nat->Option Value}{d:List bG}{os:List jd}{xs:List T}{v:Value}{a:World}{O':Id->Option Nat}(e:∀b,eX O' b->eX O b)(h:Fin P c B d os xs (eX O') w v a):Fin P c B d os xs (eX O) w v a:=
 {h with af:=λb hb hn=>h.af b hb λf=>hn (e b f)}
theorem Gl:∀{l:List Id},wP l=true->l.Nodup
 | [],_=>Vo
 | i::r,h=>by
  simp only [wP,RQ,S4] at h;refine SU.2 ⟨λhm=> ?_,Gl h.2⟩;have:r.contains i=true:=by simpa using hm
  rw [this] at h;cases h.1
def kH(O:Id->Option Nat)(l:List Id):List Nat:=l.filterMap O
theorem Dd(hs:HS c w h ρ O):∀{l:List Id},l.Nodup->(kH O l).Nodup
 | [],_=>Vo
 | i::l,hn=>by
  obtain⟨h1,d⟩:=SU.1 hn;have a:=Dd hs d;unfold kH at *
  cases hi:O i with
  | none=>rw [List.filterMap_cons_none hi];exact a
  | some b=>rw [List.filterMap_cons_some hi];refine SU.2 ⟨λhm=> ?_,a⟩;obtain⟨j,f,e⟩:=Vj.1 hm;have:=hs.inj i j b hi e;exact h1 (this▸f)
theorem J8(a b:List Id):kH O (a++b)=kH O a++kH O b:=by simp [kH]
def eT(O:Id->Option Nat)(l:List Id)(own:List Nat):Prop:=(∀i∈l,i.real=true)/\∃ids,own=kH O ids/\(l.Nodup->ids.Nodup)/\∀x∈ids,Of l x
theorem eT.nil:eT O [] []:=⟨by simp,[],rfl,λh=>h,by simp⟩
theorem eT.one{i:Id}(hr:i.real=true):eT O [i] (O i).toList:=by refine⟨by simpa using hr,[i], ?_,λh=>h,λx a=> .inl a⟩;cases h:O i <;> simp [kH,h]
theorem eT.append{a b:List Id}{o1 r:List Nat}(h1:eT O a o1)(v:eT O b r):eT O (a++b) (o1++r):=by
 obtain⟨r1,C,rfl,E,p⟩:=h1;obtain⟨u,D,rfl,F,q⟩:=v;refine⟨λi hi=> ?_,C++D,(J8 _ _).symm,λhn=> ?_,λx d=> ?_⟩
 .rcases RX.1 hi with hi | hi
  .exact r1 i hi
  .exact u i hi
 .obtain⟨B,k2,o⟩:=Tk.1 hn;refine Tk.2 ⟨E B,F k2,λx d y hy e=> ?_⟩;subst e;rcases p x d with k | ⟨j,n,k,m⟩ <;> rcases q x hy with l | ⟨z,G,l,f⟩
  .exact o x k x l rfl
  .have:=r1 x k;rw [f] at this;cases this
  .have:=u x l;rw [m] at this;cases this
  .rw [m] at f;simp only [Id.g.injEq] at f;exact o j k z l f.1
 .rcases RX.1 d with d | d
  .rcases p x d with g | ⟨j,n,g,e⟩
   .exact .inl (RY _ g)
   .exact .inr ⟨j,n,RY _ g,e⟩
  .rcases q x d with g | ⟨j,n,g,e⟩
   .exact .inl (RW _ g)
   .exact .inr ⟨j,n,RW _ g,e⟩
theorem eT.mem{l:List Id}{own:List Nat}(h:eT O l own){b:Nat}(hb:b∈own):∃i,Of l i/\O i=some b:=by obtain⟨_,ids,rfl,_,m⟩:=h;obtain⟨i,hi,e⟩:=Vj.1 hb;exact⟨i,m i hi,e⟩
def lY:Nat->List Row->List Row
 | _,[]=> []
 | n,e::r=>{e with n:=n}::lY (n+1) r
theorem s8:∀(es:List Row) (n:Nat),(lY n es).length=es.length
 | [],_=>rfl
 | e::r,n=>by simp [lY,s8 r]
theorem w9:∀(es:List Row) (n:Nat),(lY n es).map (·.n)=List.range' n es.length
 | [],_=>rfl
 | e::r,n=>by simp [lY,w9 r,U4]
theorem DK:∀{es:List Row} {n:Nat},dh es=true->p7 n (es.map λe=> [.ptr e.cs,od e])=some (lY n es)
 | [],_,_=>rfl
 | e::r,n,h=>by
  simp only [dh,Tu,RQ] at h;have d:=DK (es:=r) (n:=n+1) h.2;obtain⟨f,a,b⟩:=e;cases b with
  | none=>simp at h
  | some p=>show((p7 (n+1) (r.map λe=> [.ptr e.cs,od e])).bind λl=>some (⟨n,a,some (p.1,p.2)⟩::l))=_;rw [d];rfl
theorem HU{A A':Nat->Prop}{d:Id->Option Value}{a:Id->Option Nat}{i:Id}{af sz ax rsz:Nat}(m:∀b,A b->A' b):∀{es:List Row} {k base:Nat},(∀j e,es[j]? =some e->d (.g i (k+j))=ρ (.g i e.n)/\a (.g i (k+j))=O (.g i e.n))->
  bO w A ρ O i af sz ax rsz base es->bO w A' d a i af sz ax rsz base (lY k es)
 | [],_,_,_,_=>trivial
 | e::r,k,base,o,h=>by
  obtain⟨l,h1⟩:=h;obtain⟨C,D⟩:=o 0 e rfl;refine⟨?_,HU m (k:=k+1) (λj f E=>by
   have:=o (j+1) f (by simpa using E);rw [show k+1+j=k+ (j+1) by omega];exact this) h1⟩
  have l:=l.move (A':=A') (w':=w) (ρ':=ρ) (O':=O) (λ_ _=>rfl) (λb hb=>⟨m b hb,rfl⟩) rfl rfl (λ_ _=>rfl);obtain⟨q,v,x,u,y,z,B⟩:=l;refine⟨q,v,x,u,y,by rw [<-z];exact C, ?_⟩;revert B;show(match e.own with | some p=>cg w A' rsz p.1 p.2 u (λb=>O (.g i e.n)=some b) | none=>O (.g i e.n)=none)->(match e.own with | some p=>cg w A' rsz p.1 p.2 u (λb=>a (.g i k)=some b) | none=>a (.g i k)=none);rw [show a (.g i k)=O (.g i e.n) from D];exact id
def pI(w:World)(c:Ctx)(O:Id->Option Nat)(b:List Id)(Q:(Nat->Prop)->Prop):Prop:=
 ∀A:Nat->Prop,(∀k,AA c w O k->A k)->(∀i af,i∈b->i.real=true->O i=some af->A af)->Q A
def ij(m:Nat)(B:Nat->Option Value)(ρ:Id->Option Value):Prop:= ∀j,j < m->∃v,B j=some v/\ρ (.c j)=some v
theorem ES{B:Nat->Option Value}{i:Id}{b:Bool}{sz ax rsz nx:Nat}{es:List Row}{u:Value}{l:List Id}(hs:HS c w h ρ O)(hi:h i=some (.rows b sz ax rsz nx es))(hv:ρ i=some u)(L:dh es=true):
  eT O [i] (kH O (i::es.map λe=> .g i e.n))/\pI w c O l λA=>je B w A (.rows sz ax rsz) (dH b es) u (kH O (i::es.map λe=> .g i e.n)):=by
 have o:=hs.real (i:=i) (by rw [hi];simp);obtain⟨a,cap,r1,r2,r3,⟨N,n2,n3,n4⟩,I⟩:=hs.af i _ hi;have M:(i::es.map λe=>Id.g i e.n).Nodup:=by
  refine SU.2 ⟨λhm=> ?_, ?_⟩
  .obtain⟨e,_,E⟩:=Si.1 hm;rw [<-E] at o;cases o
  .have:(es.map λe=>Id.g i e.n)= (es.map (·.n)).map (Id.g i):=by rw [List.map_map];rfl
   rw [this];exact List.pairwise_map.2 (N.imp λh e=>h (by simpa using e))
 refine⟨⟨by simpa using o,_,rfl,λ_=>M,λx m=> ?_⟩,λA X _=> ?_⟩
 .rcases RV.1 m with rfl | m
  .exact .inl RL
  .obtain⟨e,_,rfl⟩:=Si.1 m;exact .inr ⟨i,e.n,RL,rfl⟩
 .let V:Id->Option Value:=λx=>match x with
   | .g y k=>if y=i then(es[k]?).bind λe=>ρ (.g i e.n) else none
   | x=>if x=i then ρ i else none
  let Q:Id->Option Nat:=λx=>match x with
   | .g y k=>if y=i then(es[k]?).bind λe=>O (.g i e.n) else none
   | x=>if x=i then O i else none
  have K:V i=ρ i:=by
   cases i with
   | g y n=>cases o
   | _=>simp only [V,if_true]
  have J:Q i=O i:=by
   cases i with
   | g y n=>cases o
   | _=>simp only [Q,if_true]
  have C:∀k,V (.g i k)= (es[k]?).bind λe=>ρ (.g i e.n):=λk=>by simp only [V,if_true]
  have z:∀k,Q (.g i k)= (es[k]?).bind λe=>O (.g i e.n):=λk=>by simp only [Q,if_true]
  have q:∀x d,Q x=some d->(x=i/\O i=some d)\/∃k e,x= .g i k/\es[k]? =some e/\O (.g i e.n)=some d:=by
   intro x d m;cases x with
   | g y k=>
    simp only [Q] at m;split at m
    .rename_i e;subst e;obtain⟨e,h1,D⟩:=RK.1 m;exact .inr ⟨k,e,rfl,h1,D⟩
    .cases m
   | s y k=>
    simp only [Q] at m;split at m
    .rename_i e;exact .inl ⟨e,m⟩
    .cases m
   | c k=>
    simp only [Q] at m;split at m
    .rename_i e;exact .inl ⟨e,m⟩
    .cases m
  refine⟨b,lY 0 es,i,V,Q, ?_,⟨a,cap,by rw [K,s8];exact r1,by rw [s8];exact r2,r3,⟨?_,λf F=> ?_,λk hk=> ?_,λk d hk=> ?_⟩, ?_⟩,by rw [K];exact hv,o,λx y d m hy=> ?_,λk v hk=> ?_,λx d m=> ?_,λd=> ?_⟩
  .simp only [dH,jN,DK L,R2]
  .rw [w9];exact List.nodup_range'
  .have:f.n∈(lY 0 es).map (·.n):=Si.2 ⟨f,F,rfl⟩;rw [w9,List.mem_range'_1] at this;rw [s8];omega
  .rw [s8] at hk;rw [C,SZ hk];rfl
  .rw [z] at hk;obtain⟨e,h1,_⟩:=RK.1 hk;have hlt:=(RS.1 h1).1;have:k∈(lY 0 es).map (·.n):=by rw [w9,List.mem_range'_1];omega
   obtain⟨f,F,U⟩:=Si.1 this;exact⟨f,F,U⟩
  .rcases I with I | ⟨af,off,arr,t,q1,Z,q3,q4,q5⟩
   .exact .inl I
   .refine .inr ⟨af,off,arr,t,q1,by rw [J];exact Z,q3,q4,HU X (λj e Y=> ?_) q5⟩;rw [Sn,C,z,Y];exact⟨rfl,rfl⟩
  .rcases q x d m with⟨rfl,p⟩ | ⟨k,e,rfl,p,r⟩ <;> rcases q y d hy with⟨rfl,G⟩ | ⟨k',e',rfl,G,k2⟩
   .rfl
   .have:=hs.inj _ _ d p k2;rw [this] at o;cases o
   .have:=hs.inj _ _ d G r;rw [this] at o;cases o
   .have:=hs.inj _ _ d r k2;simp only [Id.g.injEq,true_and] at this;rw [sM N p G this]
  .rw [C] at hk;obtain⟨e,_,D⟩:=RK.1 hk;exact hs.gone i e.n v D
  .rcases q x d m with⟨rfl,_⟩ | ⟨k,_,rfl,_⟩
   .exact .inl rfl
   .exact .inr ⟨k,rfl⟩
  .simp only [kH,Vj,RV,Si];constructor
   .rintro⟨x,rfl | ⟨e,E,rfl⟩,m⟩
    .exact⟨x,by rw [J];exact m⟩
    .obtain⟨k,hk⟩:=List.getElem?_of_mem E;exact⟨.g i k,by rw [z,hk];exact m⟩
   .rintro⟨x,m⟩;rcases q x d m with⟨rfl,p⟩ | ⟨k,e,rfl,p,r⟩
    .exact⟨x, .inl rfl,p⟩
    .exact⟨.g i e.n, .inr ⟨e,RN p,rfl⟩,r⟩
theorem ER{R:Type}{m:Nat}{B:Nat->Option Value}{r:bG}{v:AV}{u:Value}{K:T->List Id->List Id->Option R}{res:R}(hB:ij m B ρ)(hs:HS c w h ρ O)(hv:ai w (AA c w O) ρ v u)(d:iS m h r v K=some res):
  ∃x a b ob,K x a b=some res/\eT O a ob/\pI w c O b λA=>je B w A r x u ob:=by
 cases r with
 | f k=>simp only [iS] at d;replace d:=RK.1 d;obtain⟨x,N,d⟩:=d;replace d:=aI d (.inl rfl);obtain⟨y,hy,d⟩:=d;rw [AV.lf N] at hv;simp only [ai] at hv;exact⟨_,_,_,[],d, .nil,λA j q=>⟨hy,hv.flat hy,rfl⟩⟩
 | t k=>simp only [iS] at d;replace d:=RK.1 d;obtain⟨x,N,d⟩:=d;refine⟨_,_,_,[],d, .nil,λA j q=>⟨l8 hs hv N j (λi af hi ho=> ?_),rfl⟩⟩;obtain⟨p,z,e⟩:=vX hs N hi ho;refine q i af (Si.2 ⟨p,z,e⟩) ?_ ho;rw [<-e];refine hs.real λe0=> ?_;have F:=su (h:=h) v p z;rw [e0] at F;rcases F with⟨sz,b,l,_,F⟩ | ⟨l,_,F⟩ <;> simp at F
 | own sz=>
  simp only [iS] at d;split at d
  .rename_i i;replace d:=RK.1 d;obtain⟨p,z,d⟩:=d;simp only [Hu] at z;split at z
   .rename_i sz' b xs hi;split at z
    .rename_i hsz;subst hsz;simp only [RJ] at z;subst z;refine⟨_,_,_,(O i).toList,d, .one (hs.real (by rw [hi];simp)),λA j q=> ?_⟩;obtain⟨v',E,Z,_⟩:=hs.af i _ hi;simp only [ai] at hv;rw [E] at hv;simp only [RJ] at hv;subst hv;exact⟨O i,(b,xs),rfl,by simp [T.aM],Z.mono (λb hb=>⟨j b hb,rfl⟩) (λb hb=>⟨by simpa using hb,rfl⟩)⟩
    .simp at z
   .simp at z
  .rename_i i sz1 n;split at d
   .rename_i sz2 b xs hi;split at d
    .rename_i g;obtain⟨rfl,rfl⟩:=g;refine⟨_,_,_,(O i).toList,d, .one (hs.real (by rw [hi];simp)),λA j q=> ?_⟩;obtain⟨v',E,⟨a,cap,rfl,f2,f3,_,Y⟩,_⟩:=hs.af i _ hi;simp only [ai] at hv;obtain⟨a1,L,cap1,U,D,M,e3,rfl,e4⟩:=hv;rw [E] at D;simp only [RJ,SX] at D;obtain⟨rfl,rfl,rfl⟩:=D;have G:(xs.take n).length=n:=by rw [SD];omega
     have ha:U=none↔a=none:=by
      rcases e4 with⟨_,rfl⟩ | ⟨_,h,_⟩ | ⟨_,_,rfl,rfl⟩
      .exact VK
      .exact h
      .simp
     refine⟨O i,(b,xs.take n),rfl,by simp [T.aM],U,cap,by rw [G];rfl,by rw [G];omega,by rw [ha];exact f3,trivial, ?_⟩
     .rcases Y with Y | ⟨af,off,V,t',q1,q2,q3,q4,q5⟩
      .exact .inl Y
      .by_cases Q:cap=0
       .exact .inl Q
       .right;subst q1;have:U=some ⟨af,off,none⟩:=by
         rcases e4 with⟨_,rfl⟩ | ⟨h,_⟩ | ⟨b',o,e5,rfl⟩
         .rfl
         .exact absurd h.symm Q
         .simp only [RJ,SL] at e5;obtain⟨rfl,rfl,_⟩:=e5;simp
        exact⟨af,off,V,t',this,by simpa using q2,q3,q4,(aR.mO (λb hb=>⟨j b hb,rfl⟩) af _ rfl off xs q5).take n⟩
    .simp at d
   .simp at d
  .rename_i b;simp only [ai,au] at hv;refine⟨_,_,_,[],d, .nil,λA j q=>⟨none,(b,[]),rfl,by simp [T.aM], ?_⟩⟩;rcases hv with⟨rfl,rfl⟩ | ⟨rfl,af,off,sp,rfl⟩
   .exact⟨none,0,rfl,by simp,by simp,trivial, .inl rfl⟩
   .exact⟨some ⟨af,off,sp⟩,0,rfl,by simp,by simp,trivial, .inl rfl⟩
  .simp only [ai,au] at hv;refine⟨_,_,_,[],d, .nil,λA j q=>⟨none,(true,[]),rfl,by simp [T.aM], ?_⟩⟩;rcases hv with⟨_,_,rfl⟩ | ⟨h,_⟩
   .exact⟨none,0,rfl,by simp,by simp,trivial, .inl rfl⟩
   .cases h
  .simp at d
 | ref k off=>
  simp only [iS] at d;split at d
  .rename_i k' off';split at d
   .rename_i g;obtain⟨rfl,rfl,I⟩:=g;refine⟨_,_,_,[],d, .nil,λA j q=>⟨?_,rfl⟩⟩;simp only [ai] at hv;obtain⟨b,D,rfl⟩:=hv;obtain⟨v,M,e3⟩:=hB _ I;rw [D] at e3;simp only [RJ] at e3;subst e3;exact⟨b,M,rfl⟩
   .simp at d
  .simp at d
 | same k=>
  simp only [iS] at d;split at d
  .rename_i k';split at d
   .rename_i g;obtain⟨rfl,I⟩:=g;refine⟨_,_,_,[],d, .nil,λA j q=>⟨?_,rfl⟩⟩;simp only [ai] at hv;obtain⟨v,M,e3⟩:=hB _ I;rw [hv] at e3;simp only [RJ] at e3;subst e3;exact⟨M,jw hs hv⟩
   .simp at d
  .simp at d
 | no=>
  simp only [iS] at d;split at d
  .refine⟨_,_,_,[],d, .nil,λA j q=>⟨?_,rfl⟩⟩;simp only [ai] at hv;obtain⟨b,_,rfl⟩:=hv;exact⟨rfl,rfl⟩
  .simp at d
 | rows sz ax rsz=>
  simp only [iS] at d;split at d
  .rename_i i;split at d
   .rename_i b sz' col' rsz' nx es hi;split at d
    .rename_i g;obtain⟨rfl,rfl,rfl⟩:=g;replace d:=aI d (.inl rfl);obtain⟨_,C,d⟩:=d;have C:dh es=true:=by
      split at C
      .assumption
      .cases C
     simp only [ai] at hv;exact⟨_,_,_,_,d,(ES (B:=B) (l:= []) hs hi hv C).1,(ES hs hi hv C).2⟩
    .simp at d
   .simp at d
  .simp at d
 | mp ag ks vk=>
  simp only [iS] at d;split at d
  .rename_i i;split at d
   .rename_i ag' ks' vk' es hi;split at d
    .rename_i g;obtain⟨rfl,rfl,rfl⟩:=g;obtain⟨b,X,J,E,Z,g3,g4,g5⟩:=hs.af i _ hi;simp only [ai] at hv;rw [E] at hv;simp only [RJ] at hv;subst hv;refine⟨_,_,_,[b],d, ?_,λA j q=>⟨es,b,X,J,rfl,rfl,rfl,g3,g4,g5⟩⟩;have:=eT.one (O:=O) (hs.real (i:=i) (by rw [hi];simp));rw [Z] at this;exact this
    .simp at d
   .simp at d
  .simp at d
 | agg l=>simp [iS] at d
 | new l=>simp [iS] at d
theorem vM{R:Type}{m:Nat}{B:Nat->Option Value}(j:ij m B ρ)(hs:HS c w h ρ O):∀{e:List bG} {vs:List AV} {us:List Value} {K:List T->List Id->List Id->Option R} {res:R},aw w (AA c w O) ρ vs us->mC m h e vs K=some res->
  ∃xs a b own,K xs a b=some res/\eT O a own/\pI w c O b λA=>eL B w A e xs us own
 | [],[],us,K,res,hv,d=>by simp only [aw] at hv;subst hv;simp only [mC] at d;exact⟨_,_,_,[],d, .nil,λA _ _=>⟨rfl,rfl,rfl⟩⟩
 | [],v::vs,us,K,res,hv,d=>by simp [mC] at d
 | r::e,[],us,K,res,hv,d=>by simp [mC] at d
 | r::e,v::vs,us,K,res,hv,d=>by simp only [aw] at hv;obtain⟨u,l,rfl,h1,z⟩:=hv;simp only [mC] at d;obtain⟨x,a,b,ob,d,o,q⟩:=ER j hs h1 d;obtain⟨xs,D,E,own,d,p,y⟩:=vM j hs z d;refine⟨_,_,_,_,d,o.append p,λA g k=> ?_⟩;have C:=q A g (λi af hi hr f=>k i af (RY _ hi) hr f);exact⟨x,xs,u,l,ob,own,rfl,rfl,rfl,C,y A g (λi af hi hr f=>k i af (RW _ hi) hr f)⟩
theorem vN{R:Type}{m:Nat}{B:Nat->Option Value}(z:ij m B ρ)(hs:HS c w h ρ O):∀{y:List bG} {vs:List AV} {us:List Value} {K:List T->List Id->List Id->Option R} {res:R},aw w (AA c w O) ρ vs us->cd m h y vs K=some res->
  ∃xs a b own,K xs a b=some res/\eT O a own/\pI w c O b λA=>cW B w A y xs us own
 | [],[],us,K,res,hv,d=>by simp only [aw] at hv;subst hv;simp only [cd] at d;exact⟨_,_,_,[],d, .nil,λA _ _=>⟨rfl,rfl,rfl⟩⟩
 | [],v::vs,us,K,res,hv,d=>by simp [cd] at d
 | r::y,[],us,K,res,hv,d=>by cases r <;> simp [cd] at d
 | r::y,v::vs,us,K,res,hv,d=>by
  simp only [aw] at hv;obtain⟨u,p,rfl,h1,Q⟩:=hv
  have e:(iS m h r v λx a b=>cd m h y vs λxs I J=>K (x::xs) (a++I) (b++J))=some res->(∀l,r≠ .agg l)->(∀l,r≠ .new l)->
    ∃xs a b own,K xs a b=some res/\eT O a own/\pI w c O b λA=>cW B w A (r::y) xs (u::p) own:=by
   intro d hr X;obtain⟨x,a,b,ob,d,C,E⟩:=ER z hs h1 d;obtain⟨xs,I,J,own,d,D,F⟩:=vN z hs Q d;refine⟨_,_,_,_,d,C.append D,λA j o=> ?_⟩;have q:=E A j (λi af hi hr g=>o i af (RY _ hi) hr g);have:∃Y N v M L G,x::xs=Y::N/\u::p=v::M/\ob++own=L++G/\je B w A r Y v L/\cW B w A y N M G:=
    ⟨x,xs,u,p,ob,own,rfl,rfl,rfl,q,F A j (λi af hi hr g=>o i af (RW _ hi) hr g)⟩
   cases r with
   | agg l=>exact(hr l rfl).elim
   | new l=>exact(X l rfl).elim
   | _=>exact this
  cases r with
  | f k=>exact e (by simpa [cd] using d) (by simp) (by simp)
  | t k=>exact e (by simpa [cd] using d) (by simp) (by simp)
  | own sz=>exact e (by simpa [cd] using d) (by simp) (by simp)
  | rows sz ax rsz=>exact e (by simpa [cd] using d) (by simp) (by simp)
  | mp ag ks vk=>exact e (by simpa [cd] using d) (by simp) (by simp)
  | new l=>
   simp only [cd] at d;split at d
   .rename_i i;split at d
    .rename_i cs hi;obtain⟨Z,arr,ty,e1,e2,e3,e4,e5⟩:=hs.af i _ hi;simp only [ai] at h1;obtain⟨b,q,rfl⟩:=h1;rw [e1] at q;simp only [RJ,Tv,SL] at q;obtain⟨rfl,_⟩:=q;obtain⟨xs,a,b,o1,d,C,E⟩:=vM z hs e4 d;obtain⟨V,I,J,U,d,D,F⟩:=vN z hs Q d;refine⟨_,_,_,_,d,(eT.one (hs.real (i:=i) (by rw [hi];simp))).append (C.append D),λA j o=> ?_⟩;exact⟨xs,V,Z,arr,ty,p,o1,U,rfl,by simp,by simp [e2],e3,E A j (λi af hi hr g=>o i af (RY _ hi) hr g),F A j (λi af hi hr g=>o i af (RW _ hi) hr g)⟩
    .simp at d
   .simp at d
  | ref k off=>exact e (by simpa [cd] using d) (by simp) (by simp)
  | same k=>exact e (by simpa [cd] using d) (by simp) (by simp)
  | no=>exact e (by simpa [cd] using d) (by simp) (by simp)
  | agg l=>
   cases v with
   | agg cs=>simp only [cd] at d;simp only [ai] at h1;obtain⟨ws,rfl,q,k2⟩:=h1;obtain⟨xs,a,b,o1,d,C,E⟩:=vM z hs q d;obtain⟨V,I,J,U,d,D,F⟩:=vN z hs Q d;refine⟨_,_,_,_,d,C.append D,λA j o=> ?_⟩;exact⟨xs,V,ws,p,o1,U,rfl,rfl,rfl,E A j (λi af hi hr g=>o i af (RY _ hi) hr g),F A j (λi af hi hr g=>o i af (RW _ hi) hr g)⟩
   | _=>simp [cd] at d
def xe(tmps:Array Value):ResultVar->Sem Value
 | .tmp t=>pure (tmps.getD t undef)
 | .cell b t=>do loadVar t (<-asAddr (tmps.getD b undef))
theorem Pj(fn:Func)(tmps:Array Value):results fn tmps= (do
  let vs <-fn.results.mapM (xe tmps)
  pure (if h:vs.size=1 then vs[0] else .tuple vs)):=rfl
theorem Bf{R:Type}{a:Act}(hs:HS c w s.h ρ O)(f:SS w (AA c w O) ρ s.t a.tmps):∀{l:List ResultVar} {K:List AV->Option R} {r:R},qT P s l K=some r->
  ∃vs us,K vs=some r/\aw w (AA c w O) ρ vs us/\(l.mapM (xe a.tmps)).run P w= .ok us w
 | [],K,r,h=>⟨[],[],h,by simp [aw],by simp⟩
 | .tmp k::l,K,r,h=>by
  simp only [qT] at h;have hk:=f k;split at h
  .rename_i v e;rw [e] at hk;obtain⟨vs,us,h1,g,i⟩:=Bf hs f h;refine⟨v::vs,_::us,h1,by simp only [aw];exact⟨_,us,rfl,hk,g⟩, ?_⟩;rw [Wr];simp only [xe,R6,Sf,RT,i]
  .simp at h
 | .cell k t::l,K,r,h=>by
  simp only [qT] at h;have hk:=f k;split at h
  .rename_i v e;rw [e] at hk;obtain⟨av,y,j,d,hv⟩:=Gf hs hk (.inl rfl) h;obtain⟨vs,us,h1,g,i⟩:=Bf hs f j;refine⟨av::vs,y::us,h1,by simp only [aw];exact⟨y,us,rfl,hv,g⟩, ?_⟩;rw [Wr];have:(do loadVar t (<-asAddr (a.tmps.getD k undef)):Sem Value).run P w= .ok y w:=by
    rw [<-d];generalize a.tmps.getD k undef=m at *
    unfold Instr.loadAt at *
    cases m with
    | pointer p=>
     cases p with
     | none=>simp [Instr.sureAddr,runtimePanic] at d
     | some b=>simp [Instr.sureAddr,asAddr]
    | _=>simp [Instr.sureAddr,runtimePanic] at d
   simp only [xe,R6,Sf,RT] at this⊢;rw [this];simp only [RT,i]
  .simp at h
theorem sf{R:Type}{m:Nat}{B:Nat->Option Value}(g:ij m B ρ)(hs:HS c w h ρ O):∀{os:List jd} {j:Nat} {K:List T->List Id->List Id->Option R} {res:R},j+os.length<=m->kN m h j os K=some res->
  ∃xs a b own,K xs a b=some res/\eT O a own/\pI w c O b λA=>nu B w A j os xs own
 | [],j,K,res,_,d=>by simp only [kN] at d;exact⟨_,_,_,[],d, .nil,λA _ _=>⟨rfl,rfl⟩⟩
 | .box l::os,j,K,res,hm,d=>by
  simp only [Sc] at hm;simp only [kN] at d;split at d
  .rename_i cs hi;obtain⟨E,arr,t,h1,x,G,I,L⟩:=hs.af _ _ hi;obtain⟨xs,a,b,o1,d,N,Q⟩:=vM g hs I d;obtain⟨r,C,D,q,d,o,p⟩:=sf g hs (by omega) d;refine⟨_,_,_,_,d,(eT.one (i:= .c j) rfl).append (N.append o),λA f k=> ?_⟩;obtain⟨v,u,e⟩:=g j (by omega);rw [h1] at e;simp only [RJ] at e;subst e;exact⟨xs,r,E,arr,t,o1,q,rfl,by simp [x],u,G,Q A f (λi af hi hr J=>k i af (RY _ hi) hr J),p A f (λi af hi hr J=>k i af (RW _ hi) hr J)⟩
  .simp at d
 | .sl sz::os,j,K,res,hm,d=>by
  simp only [Sc] at hm;simp only [kN] at d;split at d
  .rename_i Y bb l hi;split at d
   .rename_i M;subst M;obtain⟨v,h1,x,_⟩:=hs.af _ _ hi;obtain⟨r,C,D,q,d,o,p⟩:=sf g hs (by omega) d;refine⟨_,_,_,_,d,(eT.one (i:= .c j) rfl).append o,λA f k=> ?_⟩;obtain⟨U,u,e⟩:=g j (by omega);rw [h1] at e;simp only [RJ] at e;subst e;exact⟨bb,l,r,O (.c j),_,q,rfl,rfl,u,x.mono (λb hb=>⟨f b hb,rfl⟩) (λb hb=>⟨by simpa using hb,rfl⟩),p A f k⟩
   .simp at d
  .simp at d
 | .mp ag ks vk::os,j,K,res,hm,d=>by
  simp only [Sc] at hm;simp only [kN] at d;split at d
  .rename_i V X Z es hi;split at d
   .rename_i z;obtain⟨rfl,rfl,rfl⟩:=z;obtain⟨E,F,y,h1,x,G,I,L⟩:=hs.af _ _ hi;obtain⟨r,C,D,q,d,o,p⟩:=sf g hs (by omega) d;refine⟨_,_,_,_,d,(eT.one (i:= .c j) rfl).append o,λA f k=> ?_⟩;obtain⟨U,u,e⟩:=g j (by omega);rw [h1] at e;simp only [RJ] at e;subst e;exact⟨es,E,F,y,r,q,rfl,by simp [x],u,G,I,L,p A f k⟩
   .simp at d
  .simp at d
 | .dead::os,j,K,res,hm,d=>by simp only [Sc] at hm;simp only [kN] at d;obtain⟨r,C,D,q,d,o,p⟩:=sf g hs (by omega) d;exact⟨_,_,_,q,d,o,λA f k=>p A f k⟩
theorem Fs{f:FuncId}{fn:Func}{nt:Nat}{m:Nat×Nat}{B:Nat->Option Value}{xs:List T}{a:Act}(G:ij m.1 B ρ)(aN:dN c nt w s ρ O a)(h:vS P An f fn m s=some xs):
  ∃v,(results fn a.tmps).run P w= .ok v w/\Fin P c B (cF P An f m.2 fn) (gw An f m.2) xs (eX O) w v w:=by
 unfold vS at h;obtain⟨vs,us,h,h1,C⟩:=Bf aN.hs aN.ss h;split at h
 .rename_i hm;obtain⟨V,K,U,o1,h,M,D⟩:=vN G aN.hs h1 h;obtain⟨X,z,L,q,h,N,r⟩:=sf G aN.hs (by omega) h;split at h
  .rename_i o;simp only [RJ] at h;subst h;simp only [RQ,R7,S4] at o;have J:=Gl o.1;have x:=M.append N;have d:∀b,b∈o1++q->∃i,Of (K++z) i/\O i=some b:=λb hb=>x.mem hb;have F:∀k,AA c w O k->(c.A0 k\/c.MO k)/\k < w.heap.size/\k∉o1++q:=by
    intro b hb;refine⟨hb.1,hb.2.1,λhm=> ?_⟩;obtain⟨i,hi,e⟩:=d b hm;exact hb.2.2 i e
   have I:∀i af,i∈U++L->i.real=true->O i=some af->(c.A0 af\/c.MO af)/\af < w.heap.size/\af∉o1++q:=by
    intro i af hi hr g;refine⟨.inr (aN.hs.own i af g),aN.hs.lt i af g,λhm=> ?_⟩;obtain⟨j,E,e⟩:=d af hm;have:=aN.hs.inj i j af g e;subst this;have h1:=o.2 i hi;rcases E with E | ⟨y,n,_,Q⟩
    .have C:(K++z).contains i=true:=by simpa using E
     rw [C] at h1;cases h1
    .rw [Q] at hr;cases hr
   have l:(o1++q).Nodup:=by obtain⟨_,ids,e,n,_⟩:=x;rw [e];exact Dd aN.hs (n J)
   refine⟨oa us, ?_,rfl,rfl,rfl,R3 _,λ_ _ _=>rfl,us,V,X,o1,q,rfl,rfl,l,λb hb=> ?_, ?_, ?_⟩
   .rw [Pj,Array.mapM_eq_mapM_toList];simp only [R6,map_eq_pure_bind,Sf];rw [C];simp only [RT];congr 1;unfold oa;split
    .rename_i p;have hl:us.length=1:=by simpa using p
     obtain⟨u,rfl⟩:=List.length_eq_one_iff.1 hl;rfl
    .rename_i p;split
     .rename_i u;simp at p
     .rfl
   .obtain⟨i,hi,e⟩:=d b hb;exact⟨aN.hs.own i b e,aN.hs.lt i b e⟩
   .exact D _ F λi af hi hr g=>I i af (RY _ hi) hr g
   .exact r _ F λi af hi hr g=>I i af (RW _ hi) hr g
  .simp at h
 .simp at h
end
open Go Go.IntKind
section
variable {P:Program} {An:bZ} {Or:az} {w w':World} {A A':Nat->Prop} {c:Ctx} {ρ:Id->Option Value} {O:Id->Option Nat} {s s':St} {h:Id->Option ab}
theorem AM{v:AV}{u:Value}(hs:HS c w h ρ O)(hv:ai w (AA c w O) ρ v u):ai w (AA c w O) ρ (mP h v) u:=by
 cases v
 case own i=>
  simp only [mP];split
  .rename_i sz b xs hi;have hn:O i=none:=by
    obtain⟨_,_,_,a⟩:=hs.af i _ hi;exact a rfl
   have:=l8 (x:= .ae sz b xs) (A':=AA c w O) hs hv (by simp [cO,hi]) (λ_ h=>h) (λj af g d=>by
    rcases g with e | ⟨_,_,_,e⟩ | ⟨_,e⟩
    .cases e;rw [hn] at d;cases d
    .cases e
    .cases e)
   simpa [ai] using this
  .exact hv
 case part i sz off n=>
  simp only [mP];split
  .rename_i o b xs hi;split
   .rename_i k;have hn:O i=none:=by
     obtain⟨_,_,_,a⟩:=hs.af i _ hi;exact a rfl
    have:=l8 (x:= .ae sz b ((xs.drop off).take n)) (A':=AA c w O) hs hv (by simp [cO,hi,k]) (λ_ h=>h) (λj af g d=>by
     rcases g with e | ⟨_,_,_,e⟩ | ⟨_,e⟩
     .cases e
     .cases e;rw [hn] at d;cases d
     .cases e)
    simpa [ai] using this
   .exact hv
  .exact hv
 case ref i off=>
  simp only [mP];split
  .rename_i l hi;obtain⟨b,h1,q,a,m⟩:=hs.af i _ hi;simp only [ai] at hv;obtain⟨p,f,rfl⟩:=hv;rw [h1] at f;simp only [RJ,Tv,SL] at f;obtain⟨rfl,_⟩:=f;simp only [ai,au];refine⟨b,off,rfl, .inr a, ?_⟩;have:=m.drop off;rwa [Sn] at this
  .exact hv
 all_goals exact hv
theorem Nq{k:Nat×Option Nat}{p:AV×aE}{tmps:Array Value}{d:Id->Option Value}(hs:HS c w s.h ρ O)(g:SS w (AA c w O) ρ s.t tmps)(e:sE s k=some p)(a:∀i v,ρ i=some v->d i=some v)
  (h1:∀q∈p.2,d q.1=some (tmps.getD k.1 undef)):ai w (AA c w O) d p.1 (tmps.getD k.1 undef):=by
 unfold sE at e;have hk:=g k.1;split at e
 .simp at e
 .rename_i v f;rw [f] at hk;simp only at hk;split at e
  .simp only [RJ] at e;subst e;exact ai.mono (λb hb=>⟨hb,rfl⟩) a _ _ (AM hs hk)
  .split at e
   .simp only [RJ] at e;subst e;exact ai.mono (λb hb=>⟨hb,rfl⟩) a _ _ (AM hs hk)
   split at e
   .split at e
    .simp only [RJ] at e;subst e;exact ai.mono (λb hb=>⟨hb,rfl⟩) a _ _ hk
    .simp at e
   .simp only [RJ] at e;subst e;simp only [ai];exact h1 _ (RP.2 rfl)
   .simp at e
theorem Gd{tmps:Array Value}{f:Id->Option Value}(hs:HS c w s.h ρ O)(m:SS w (AA c w O) ρ s.t tmps)(j:∀i v,ρ i=some v->f i=some v):∀{l:List (Nat×Option Nat)} {p:List AV×aE},nM s l=some p->
  (∀q∈p.2,∀k,q.1= .s (1000000+k) 0->f q.1=some (tmps.getD k undef))->aw w (AA c w O) f p.1 (l.map λk=>tmps.getD k.1 undef)/\
   ∀q∈p.2,∃k sz b,q= (.s (1000000+k) 0, .sl false sz b [])/\au w (AA c w O) (.aL b) (tmps.getD k undef)
 | [],p,e,_=>by simp only [nM,RJ] at e;subst e;exact⟨by simp [aw],(by intro q a;cases a)⟩
 | k::l,p,e,h1=>by
  simp only [nM] at e;replace e:=RK.1 e;obtain⟨x,d,e⟩:=e;replace e:=RK.1 e;obtain⟨y,hy,e⟩:=e;simp only [RJ] at e;subst e;have g:∀q∈x.2,∃sz b,q= (.s (1000000+k.1) 0, .sl false sz b [])/\au w (AA c w O) (.aL b) (tmps.getD k.1 undef):=by
   intro q a;have hk:=m k.1;unfold sE at d;split at d
   .simp at d
   .rename_i v o;rw [o] at hk;simp only at hk;split at d
    .simp only [RJ] at d;subst d;cases a
    .split at d
     .simp only [RJ] at d;subst d;cases a
     split at d
     .split at d
      .simp only [RJ] at d;subst d;cases a
      .simp at d
     .simp only [RJ] at d;subst d;simp only [RP] at a;subst a;exact⟨_,_,rfl,by simpa [ai] using hk⟩
     .simp at d
  obtain⟨r,u⟩:=Gd hs m j hy (λq a=>h1 q (RW _ a));refine⟨?_,λq a=> ?_⟩
  .simp only [Se,aw];refine⟨_,_,rfl,Nq hs m d j (λq a=> ?_),r⟩;obtain⟨sz,b,e,_⟩:=g q a;exact h1 q (RY _ a) k.1 (by rw [e])
  .rcases RX.1 a with a | a
   .obtain⟨sz,b,e,hr⟩:=g q a;exact⟨k.1,sz,b,e,hr⟩
   .exact u q a
theorem Jn:∀{us:aE} {h:Id->Option ab} {i:Id} {b:ab},aG h us i=some b->(i,b)∈us\/((∀q∈us,q.1≠i)/\h i=some b)
 | [],h,i,b,e=> .inr ⟨by simp,e⟩
 | (j,x)::us,h,i,b,e=>by
  rw [cw] at e;rcases Jn e with e | ⟨g,a⟩
  .exact .inl (RM _ e)
  .by_cases d:i=j
   .subst d;rw [aB] at a;simp only [RJ] at a;subst a;exact .inl RL
   .rw [al _ _ d] at a;refine .inr ⟨λq f=> ?_,a⟩;rcases RV.1 f with rfl | f
    .exact λe=>d e.symm
    .exact g q f
theorem HS.JE{us:aE}{a:Id->Option Value}(hr:∀q∈us,q.1.real=true)(hs:HS c w h ρ O)(r:∀q∈us,h q.1=none)(o:∀q∈us,∃sz b u,q.2= .sl false sz b []/\a q.1=some u/\au w A (.aL b) u)
  (d:∀i,(∀q∈us,q.1≠i)->a i=ρ i):HS c w (aG h us) a O:=by
 have mono:∀i v,ρ i=some v->a i=some v:=by
  intro i v hi;rw [d i (λq f e=> ?_)]
  .exact hi
  .have:=(hs.bS _ (hr q f) (r q f)).1;rw [e,hi] at this;cases this
 have j:∀i n,∀q∈us,q.1≠ .g i n:=λi n q f e=>by have:=hr q f;rw [e] at this;cases this
 have le:Le w ρ O w a O:=⟨rfl,rfl,rfl,R3 _,mono,λ_ _ _=>rfl,λi b h=> .inl ⟨i,h⟩⟩;refine hs.go le (λi n=>⟨d _ (j i n),rfl,λ_ _=>rfl⟩) (λi b hb=> ?_) (λi m hi=> ?_) (λi hi=>(xV hi).2) (λi n=>by rw [df (j i n)];exact hs.dc i n) hs.inj hs.lt
 .rcases Jn hb with hm | ⟨_,hb⟩
  .right;obtain⟨sz,x,u,k,l,e3⟩:=o _ hm;simp only at k l;subst k;refine⟨u,l, ?_,by simp⟩;simp only [au] at e3;rcases e3 with⟨rfl,rfl⟩ | ⟨rfl,af,off,sp,rfl⟩
   .exact⟨none,0,rfl,by simp,by simp,by simp, .inl rfl⟩
   .exact⟨some ⟨af,off,sp⟩,0,rfl,by simp,by simp,trivial, .inl rfl⟩
  .exact .inl ⟨hb,rfl,λ_ _=>rfl⟩
 .obtain⟨h1,p⟩:=xV hi;rw [d i h1];exact hs.bS i m p
theorem Gh{a:Id->Option Value}{tmps:Array Value}:∀{live:List (Nat×Option Nat)} {aU:List AV},aw w A a aU (live.map λk=>tmps.getD k.1 undef)->∀k,ai w A a (mF.look live aU k) (tmps.getD k undef)
 | [],aU,hv,k=>by cases aU <;> simp [mF.look,ai]
 | (j,o)::live,aU,hv,k=>by
  cases aU with
  | nil=>simp [aw] at hv
  | cons v aU=>
   simp only [Se,aw,TJ] at hv;obtain⟨u,r,⟨rfl,rfl⟩,h1,b⟩:=hv;simp only [mF.look];split
   .rename_i e;subst e;exact h1
   .exact Gh b k
def sK:List Item->List Item
 | .inLoop b::k=> .code b:: .inLoop b::k
 | t=>t
def oM(P:Program)(An:bZ)(Or:az):Prop:= ∀f fn todo live m aU b xs,Or (.node f todo live m) aU b=some xs->P.funcs[f]? =some fn->
 ∀c w ρ O a B,ij m.1 B ρ->dN c fn.ntmps w (mF live aU b) ρ O a->Ends P f fn (sK todo) a w (Fin P c B (cF P An f m.2 fn) (gw An f m.2) xs (eX O) w)
theorem dN.BB{nt:Nat}{a:Act}{h':Id->Option ab}{ρ':Id->Option Value}{O':Id->Option Nat}(aN:dN c nt w s ρ O a)(le:Le w ρ O w ρ' O')(hs:HS c w h' ρ' O'):dN c nt w {t:=s.t,h:=h'} ρ' O' a:=
 ⟨hs,SS.mono (λb hb=>le.A b hb) le.dL aN.ss,aN.nt,aN.defers⟩
theorem ij.le{m:Nat}{B:Nat->Option Value}{ρ':Id->Option Value}(h:ij m B ρ)(le:∀i v,ρ i=some v->ρ' i=some v):ij m B ρ':=λj d=>by obtain⟨v,a,b⟩:=h j d;exact⟨v,a,le _ _ b⟩
theorem Ar{s:St}:∀{live:List (Nat×Option Nat)} {p:List AV×aE},nM s live=some p->∀q∈p.2,∃k,q.1=Id.s (1000000+k) 0
 | [],p,a,q,b=>by simp only [nM,RJ] at a;subst a;cases b
 | k::live,p,a,q,b=>by
  simp only [nM] at a;obtain⟨e,h1,a⟩:=RK.1 a;obtain⟨f,d,a⟩:=RK.1 a;simp only [RJ] at a;subst a;rcases RX.1 b with b | b
  .unfold sE at h1;split at h1
   .cases h1
   .split at h1
    .simp only [RJ] at h1;subst h1;cases b
    .split at h1
     .simp only [RJ] at h1;subst h1;cases b
     .split at h1
      .split at h1
       .simp only [RJ] at h1;subst h1;cases b
       .cases h1
      .simp only [RJ] at h1;subst h1;rw [RP.1 b];exact⟨_,rfl⟩
      .cases h1
  .exact Ar d q b
theorem QC{f:FuncId}{fn:Func}{todo:List Item}{live:List (Nat×Option Nat)}{m:Nat×Nat}{B:Nat->Option Value}{xs:List T}{a:Act}(hN:oM P An Or)(L:P.funcs[f]? =some fn)(hB:ij m.1 B ρ)(aN:dN c fn.ntmps w s ρ O a)(e:xM Or f todo live m s=some xs):
  Ends P f fn (sK todo) a w (Fin P c B (cF P An f m.2 fn) (gw An f m.2) xs (eX O) w):=by
 unfold xM at e;replace e:=RK.1 e;obtain⟨p,G,e⟩:=e;split at e
 .rename_i r;replace e:=RK.1 e;obtain⟨seen,o,e⟩:=e;let l:Id->Option Value:=λi=>if p.2.any (λq=>decide (q.1=i)) then(match i with | .s d _=>some (a.tmps.getD (d - 1000000) undef) | _=>none) else ρ i;have K:∀q∈p.2,s.h q.1=none:=by
   intro q g;have:=R7.1 r q g;simpa using this
  have u:∀i,(∀q∈p.2,q.1≠i)->l i=ρ i:=by
   intro i hi;have:p.2.any (λq=>decide (q.1=i))=false:=by rw [List.any_eq_false];intro q g;simpa using hi q g
   simp only [l,this,R9,if_false]
  have C:∀q∈p.2,∀k,q.1= .s (1000000+k) 0->l q.1=some (a.tmps.getD k undef):=by intro q g k e;have:p.2.any (λx=>decide (x.1=q.1))=true:=List.any_eq_true.2 ⟨q,g,by simp⟩;simp only [l,this,if_true];rw [e];simp
  have mono:∀i v,ρ i=some v->l i=some v:=by
   intro i v hi;rw [u i (λq g e=> ?_)]
   .exact hi
   .cases hr:q.1.real with
    | true=>have:=(aN.hs.bS _ hr (K q g)).1;rw [e,hi] at this;cases this
    | false=>have hm:p.2.any (λx=>decide (x.1=q.1))=true:=List.any_eq_true.2 ⟨q,g,by simp⟩;obtain⟨k,D⟩:=Ar G q g;rw [D] at hr;cases hr
  obtain⟨hv,Q⟩:=Gd aN.hs aN.ss mono G C;have M:HS c w (aG s.h p.2) l O:=aN.hs.JE (λq g=>by obtain⟨k,D⟩:=Ar G q g;rw [D];rfl) K (A:=AA c w O) (λq g=>by
   obtain⟨k,sz,b,e,hr⟩:=Q q g;exact⟨sz,b,_,by rw [e],C q g k (by rw [e]),hr⟩) u
  obtain⟨Y,g2,Z,g4,g5⟩:=sZ o Vo (by simp) (by simp);obtain⟨N,y⟩:=M.rn Y g4 g5;have hA:∀b,AA c w O b->AA c w (bQ seen O) b:=λb hb=>⟨hb.1,hb.2.1,λi hi=>by
   obtain⟨k,hk⟩:=y b ⟨i,hi⟩;exact hb.2.2 k hk⟩
  have U:=aw.rn (m:=seen) hA _ _ (λi hi=>Z i (RW _ hi)) hv;have I:dN c fn.ntmps w (mF live (jx seen p.1) (seen.map λi=>gx seen (aG s.h p.2 i))) (bQ seen l) (bQ seen O) a:=
   ⟨N,λk=>Gh U k,aN.nt,aN.defers⟩
  have z:=HQ o (by
   exact List.pairwise_map.2 (List.nodup_range.imp λh e=>h (by simpa using e))) (by simp)
  rw [R0] at z;have J:ij m.1 B (bQ seen l):=by
   intro j F;obtain⟨v,V,X⟩:=hB.le mono j F;refine⟨v,V, ?_⟩;obtain⟨t,ht⟩:=z;have:seen[j]? =some (.c j):=by rw [<-ht,SO (by simpa using F)];simp [F]
   simp [bQ,this,X]
  exact(hN f fn todo live m _ _ xs e L c w _ _ a B J I).mono λv w' E=>E.own y
 .simp at e
theorem vY:∀{l:List (Nat×Option Nat)},fP s.h (mG s l)
 | []=>by intro p a;cases a
 | (k,none)::l=>by simp only [mG];exact vY
 | (k,some 0)::l=>by simp only [mG];exact(su _).append vY
 | (k,some (n+1))::l=>by
  simp only [mG];refine fP.append ?_ vY;cases Nat.beq n 999998 with
  | false=>intro p a;cases a
  | true=>
   show fP s.h (zY s.h (s.t k).2);unfold zY;split
   .split
    .exact zX _
    .intro p a;cases a
   .intro p a;cases a
theorem Oq{h:Id->Option ab}(hs:HS c w h ρ O)(v:AV):HS c w (AN h v) ρ O:=by
 unfold AN;split
 .rename_i i off;split
  .rename_i cs hi;obtain⟨b,arr,t,h1,o,p,q,y⟩:=hs.af i _ hi;have f:=hs.real (i:=i) (by rw [hi];simp);have z:aw w (AA c w O) ρ (cs.map (mP h)) arr.toList:=by
    have a:∀(l:List AV) (us:List Value),aw w (AA c w O) ρ l us->aw w (AA c w O) ρ (l.map (mP h)) us:=by
     intro l;induction l with
     | nil=>intro us h;exact h
     | cons x l B=>intro us h;simp only [Se,aw] at h⊢;obtain⟨u,r,e,g,j⟩:=h;exact⟨u,r,e,AM hs g,B r j⟩
    exact a _ _ q
   rw [dB];refine hs.go Le.refl (λk m=>⟨rfl,rfl,λ_ _=>rfl⟩) (λk x hk=> ?_) (λk d hk=> ?_) (λk hk=> ?_) (λk m=>by rw [al _ _ (aJ f)];exact hs.dc k m) hs.inj hs.lt
   .by_cases e:k=i
    .subst e;rw [aB] at hk;simp only [RJ] at hk;subst hk;exact .inr ⟨b,arr,t,h1,o,p,z,y⟩
    .rw [al _ _ e] at hk;exact .inl ⟨hk,rfl,λ_ _=>rfl⟩
   .by_cases e:k=i
    .subst e;rw [aB] at hk;cases hk
    .rw [al _ _ e] at hk;exact hs.bS k d hk
   .by_cases e:k=i
    .subst e;rw [aB] at hk;cases hk
    .rw [al _ _ e] at hk;exact hk
  .exact hs
 .exact hs
theorem AO{t:Nat->Option Gs×AV}:∀{l:List (Nat×Option Nat)} {h:Id->Option ab},HS c w h ρ O->HS c w (qN t h l) ρ O
 | [],h,hs=>hs
 | (k,some n)::l,h,hs=>by
  simp only [qN];refine AO ?_;cases Nat.beq n 999999 with
  | true=>exact Oq hs _
  | false=>exact hs
 | (k,none)::l,h,hs=>by simp only [qN];exact AO hs
theorem BT{f:FuncId}{fn:Func}{todo:List Item}{live:List (Nat×Option Nat)}{m:Nat×Nat}{B:Nat->Option Value}{xs:List T}{a:Act}(r:oM P An Or)(j:P.funcs[f]? =some fn)(q:ij m.1 B ρ)(aN:dN c fn.ntmps w s ρ O a)(e:lj Or f todo live m s=some xs):
  Ends P f fn (sK todo) a w (Fin P c B (cF P An f m.2 fn) (gw An f m.2) xs (eX O) w):=by
 unfold lj at e;obtain⟨us,p,e⟩:=RK.1 e;obtain⟨x,cn,k,_⟩:=aN.hs.qy vY;have d:=aN.BB cn k;obtain⟨u,y,b,o⟩:=AX d.hs p;have i:=d.BB b (AO (t:=s.t) (l:=live) o);exact(QC r j (q.le b.dL) i e).mono λv w' g=>Fin.le cn (Fin.le b g)
theorem FC(live:List (Nat×Option Nat))(aU:List AV)(a:List ab):nh (mF live aU a):=by intro k g v e;simp [mF] at e
theorem cg.QD{sz:Nat}{b:Bool}{xs:List (List T)}{v:Value}{Q:Nat->Prop}(h:cg w A sz b xs v Q)(l:∀d,Q d->A d):au w A (.ae sz b xs) v:=by
 obtain⟨a,cap,rfl,f,g,_,i⟩:=h;simp only [au];cases a with
 | none=>
  rcases i with rfl | ⟨_,_,_,_,e,_⟩
  .have:xs= []:=R4.1 (by omega);subst this;exact .inl ⟨g.1 rfl,rfl,rfl⟩
  .cases e
 | some a=>
  have hb:b=false:=by
   cases b with
   | false=>rfl
   | true=>have:=g.2 rfl;cases this
  obtain⟨af,off,sp⟩:=a;right;rcases i with rfl | ⟨blk',off',arr,t,e,j,m,o,k⟩
  .have:xs= []:=R4.1 (by omega);subst this;exact⟨hb,af,off,sp,0,rfl,f, .inl rfl,by simp [aR]⟩
  .cases e;exact⟨hb,af,off,none,cap,rfl,f, .inr ⟨rfl,l _ j⟩,k⟩
theorem aP.sO{af:Nat}:∀{cs:List T} {off:Nat},(∀(j:Nat) (x:T),cs[j]? =some x->∃v,w.cell? ⟨af,off+j,none⟩=some v/\au w A x v)->aP w A af off cs
 | [],_,_=>by simp [aP]
 | x::cs,off,h=>by simp only [aP];refine⟨by simpa using h 0 x rfl,aP.sO λj y a=> ?_⟩;have:=h (j+1) y (by simpa using a);rw [show off+1+j=off+ (j+1) by omega];exact this
theorem HZ{i:Id}{af sz ax rsz:Nat}:∀{es:List Row} {base:Nat},dh es=true->bO w A ρ O i af sz ax rsz base es->(∀e∈es,∀d,O (.g i e.n)=some d->A d)->aR w A af sz base (es.map (te ax rsz))
 | [],_,_,_,_=>by simp [aR]
 | e::es,base,b,hr,l=>by
  simp only [dh,Tu,RQ] at b;obtain⟨m,o⟩:=hr;simp only [Se,aR];obtain⟨q,I,r,u,v,J,z⟩:=m;have key:∃x,te ax rsz e=e.cs.set ax x/\au w A x u:=by
   obtain⟨K,G,B⟩:=e;cases B with
   | none=>simp at b
   | some p=>refine⟨_,rfl, ?_⟩;exact cg.QD z λd D=>l _ RL d D
  obtain⟨x,F,E⟩:=key;rw [F];refine⟨by rw [SM];exact q,aP.sO λj y a=> ?_,HZ b.2 o λf C=>l f (RM _ C)⟩;rw [SW] at a;split at a
  .rename_i k;subst k;split at a
   .cases a;exact⟨u,v,E⟩
   .cases a
  .rename_i k;exact r j y (λe=>k e.symm) a
theorem HS.P5{i:Id}{b:Bool}{sz ax rsz nx:Nat}{es:List Row}(hs:HS c w h ρ O)(hi:h i=some (.rows b sz ax rsz nx es))(B:dh es=true):
  ∃O',Le w ρ O w ρ O'/\HS c w (aA h i (some (.sl true sz b (es.map (te ax rsz))))) ρ O':=by
 classical
 have q:=hs.real (i:=i) (by rw [hi];simp);let Q:Id->Option Nat:=λx=>if Of [i] x then none else O x;have D:Q i=none:=if_pos (.inl RL);have N:∀n,Q (.g i n)=none:=λn=>if_pos (.inr ⟨i,n,RL,rfl⟩);have o:∀x d,Q x=some d->O x=some d/\¬Of [i] x:=by
  intro x d k;simp only [Q] at k;split at k
  .cases k
  .rename_i hn;exact⟨k,hn⟩
 have v:∀x,x.real=true->x≠i->Q x=O x:=by
  intro x hr k;refine if_neg ?_;rintro(hm | ⟨j,n,_,rfl⟩)
  .exact k (RP.1 hm)
  .cases hr
 have z:∀x n,x≠i->Q (.g x n)=O (.g x n):=by
  intro x n k;refine if_neg ?_;rintro(hm | ⟨j,m,E,e⟩)
  .rw [<-RP.1 hm] at q;cases q
  .simp only [Id.g.injEq] at e;exact k (e.1.trans (RP.1 E))
 have le:Le w ρ O w ρ Q:=⟨rfl,rfl,rfl,R3 _,λ_ _ h=>h,λ_ _ _=>rfl,λx d k=> .inl ⟨x,(o x d k).1⟩⟩;have r:∀x d,Of [i] x->O x=some d->AA c w Q d:=by intro x d k p;refine⟨.inr (hs.own x d p),hs.lt x d p,λy hy=> ?_⟩;obtain⟨F,k2⟩:=o y d hy;exact k2 (hs.inj x y d p F▸k)
 refine⟨Q,le,hs.nH le (λx y k=> ?_) (λx hr k=> ?_) (λx n=>by rw [al _ _ (aJ q)];exact hs.dc x n) (λx n k=> ?_) hs.gone (λx y d k hy=>hs.inj x y d (o x d k).1 (o y d hy).1) (λx d k=>hs.lt x d (o x d k).1)⟩
 .by_cases e:x=i
  .subst e;rw [aB] at k;cases k;right;obtain⟨a,cap,r1,L,M,V,u⟩:=hs.af x _ hi;refine⟨_,r1,⟨a,cap,by rw [Ty],by rw [Ty];exact L,M,trivial, ?_⟩,λ_=>D⟩;rcases u with u | ⟨af,off,arr,t,q1,G,I,J,K⟩
   .exact .inl u
   .refine .inr ⟨af,off,arr,t,q1,by simp only [if_true];exact r x af (.inl RL) G,I,J, ?_⟩;refine HZ (ρ:=ρ) (O:=O) (i:=x) B (bO.move (λb hb=>le.A b hb) (λ_ _=>rfl) (λf _=>⟨rfl,rfl,λ_ _=>rfl⟩) K) λf U d p=>r _ d (.inr ⟨x,f.n,RL,rfl⟩) p
  .rw [al _ _ e] at k;have C:=hs.real (i:=x) (by rw [k];simp);exact .inl ⟨k,v x C e,λ_ _=>rfl,λn=>⟨rfl,z x n e,λ_ _=>rfl⟩⟩
 .have l:x≠i:=λe=>by rw [e,aB] at k;cases k
  rw [al _ _ l] at k;rw [v x hr l];exact hs.bS x hr k
 .have l:x≠i:=λe=>by rw [e,aB] at k;cases k
  rw [al _ _ l] at k;rw [z x n l];exact hs.eO x n k
theorem BA{R:Type}:∀{l:List Id} {h:Id->Option ab} {O:Id->Option Nat} {K:aE->Option R} {r:R},HS c w h ρ O->tq h l K=some r->∃us O',K us=some r/\Le w ρ O w ρ O'/\HS c w (aG h us) ρ O'
 | [],h,O,K,r,hs,e=>⟨[],O,e,Le.refl,hs⟩
 | i::l,h,O,K,r,hs,e=>by
  simp only [tq] at e;split at e
  .rename_i b sz ax rsz nx es hi;replace e:=aI e (.inl rfl);obtain⟨_,a,e⟩:=e;have a:dh es=true:=by
    split at a
    .assumption
    .cases a
   obtain⟨k,cn,d⟩:=hs.P5 hi a;obtain⟨us,j,e,g,f⟩:=BA d e;exact⟨_,j,e,cn.trans g,by rw [cw];exact f⟩
  .exact BA hs e
theorem Ft{f:FuncId}{fn:Func}{nt:Nat}{m:Nat×Nat}{B:Nat->Option Value}{xs:List T}{a:Act}(b:ij m.1 B ρ)(aN:dN c nt w s ρ O a)(h:vR P An f fn m s=some xs):
  ∃v,(results fn a.tmps).run P w= .ok v w/\Fin P c B (cF P An f m.2 fn) (gw An f m.2) xs (eX O) w v w:=by
 unfold vR at h;cases hr:(cF P An f m.2 fn).any F5 with
 | true=>rw [hr,cond_true] at h;exact Fs b aN h
 | false=>rw [hr,cond_false] at h;obtain⟨us,g,h,cn,d⟩:=BA aN.hs h;obtain⟨v,h1,e⟩:=Fs b (aN.BB cn d) h;exact⟨v,h1,Fin.le cn e⟩
theorem kP(hm:P.follows .mixedOrders=true)(o:iJ P An Or)(l:oM P An Or){f:FuncId}{fn:Func}{m:Nat×Nat}{B:Nat->Option Value}(j:P.funcs[f]? =some fn):∀{n:Nat} {i:Bool} {todo:List Item} {xs:List T} {w:World} {s:St} {ρ:Id->Option Value} {O:Id->Option Nat} {a:Act},
  ij m.1 B ρ->dN c fn.ntmps w s ρ O a->nh s->ev P An Or f fn m n i todo s=some xs->Ends P f fn todo a w (Fin P c B (cF P An f m.2 fn) (gw An f m.2) xs (eX O) w)
 | 0,i,todo,xs,w,s,ρ,O,a,d,aN,hb,e=>by simp [ev] at e
 | n+1,i,[],xs,w,s,ρ,O,a,d,aN,hb,e=>by simp only [ev] at e;obtain⟨v,h1,u⟩:=Ft d aN e;exact λb F hk cs=>⟨a,w,v,[], .one step_end,aN.defers,h1,u⟩
 | n+1,i, .code .skip::k,xs,w,s,ρ,O,a,d,aN,hb,e=>by simp only [ev] at e;exact Ends.step (λb cs=>step_skip) (kP hm o l j d aN hb e)
 | n+1,i, .code (.seq x y)::k,xs,w,s,ρ,O,a,d,aN,hb,e=>by simp only [ev] at e;exact Ends.step (λb cs=>step_seq) (kP hm o l j d aN hb e)
 | n+1,i, .code (.region id ops r)::k,xs,w,s,ρ,O,a,d,aN,hb,e=>by
  simp only [ev] at e;split at e
  .rename_i live _;exact BT (todo:= .code (.region id ops r)::k) l j d aN e
  .obtain⟨s',e,C⟩:=Pd hm o aN hb e;refine Ends.region (C _ λJ w' ρ' O' le E=>⟨rfl, ?_⟩);exact(kP hm o l j (d.le le.dL) E (KD _) e).mono λv I z=>z.le le
 | n+1,i, .code (.cond x p q)::k,xs,w,s,ρ,O,a,d,aN,hb,e=>by
  simp only [ev] at e;replace e:=RK.1 e;obtain⟨y,hy,e⟩:=e;replace e:=aI e (.inl rfl);obtain⟨t,G,e⟩:=e;have D:=SS.get (h:=s.h) aN.ss (g:=none) trivial x;rw [show(⟨s.t,s.h⟩:St)=s from rfl,AV.lf hy,T.ik G] at D;simp only [ai,au] at D;refine Ends.step (todo':= .code (if t then p else q)::k) (λb cs=>step_cond D) ?_;cases t with
  | true=>exact kP hm o l j d aN hb e
  | false=>exact kP hm o l j d aN hb e
 | n+1,i, .code (.block id b)::k,xs,w,s,ρ,O,a,d,aN,hb,e=>by simp only [ev] at e;exact Ends.step (λb cs=>step_block) (kP hm o l j d aN hb e)
 | n+1,i, .code (.loop b)::k,xs,w,s,ρ,O,a,d,aN,hb,e=>by
  simp only [ev] at e;split at e
  .exact Ends.step (λb cs=>step_loop) (BT (todo:= .inLoop b::k) l j d aN e)
  .simp at e
 | n+1,i, .code (.exit id)::k,xs,w,s,ρ,O,a,d,aN,hb,e=>by
  simp only [ev] at e;split at e
  .rename_i K hk;exact Ends.step (λb cs=>step_exit hk) (kP hm o l j d aN hb e)
  .simp at e
 | n+1,i, .code .ret::k,xs,w,s,ρ,O,a,d,aN,hb,e=>by simp only [ev] at e;obtain⟨v,h1,u⟩:=Ft d aN e;exact λb F hk cs=>⟨a,w,v,_, .one step_ret,aN.defers,h1,u⟩
 | n+1,i, .inBlock id::k,xs,w,s,ρ,O,a,d,aN,hb,e=>by simp only [ev] at e;exact Ends.step (λb cs=>step_inBlock) (kP hm o l j d aN hb e)
 | n+1,i, .inLoop b::k,xs,w,s,ρ,O,a,d,aN,hb,e=>by
  simp only [ev] at e;split at e
  .exact Ends.step (λb cs=>step_inLoop) (BT (todo:= .inLoop b::k) l j d aN e)
  .simp at e
 | n+1,i, .code (.label _)::k,xs,w,s,ρ,O,a,d,aN,hb,e=>by simp [ev] at e
 | n+1,i, .code (.goto _)::k,xs,w,s,ρ,O,a,d,aN,hb,e=>by simp [ev] at e
theorem Ny{a:Id->Option Value}{aU:List AV}{args:List Value}(hv:aw w A a aU args)(m k:Nat):ai w A a (aU.getD k .top) ((args.toArray++Array.replicate m undef).getD k undef):=by
 have e:(args.toArray++Array.replicate m undef).getD k undef= (args++List.replicate m undef).getD k undef:=by rw [Tp,RO,<-SG];simp
 rw [e,RO,RO];cases hk:aU[k]? with
 | none=>simp [ai]
 | some v=>obtain⟨u,d,hr⟩:=hv.get hk;have b:k < args.length:=(RS.1 d).1;rw [SO b,d];exact hr
theorem Qj(E:nk P An)(hm:P.follows .mixedOrders=true)(hn:∀(f:FuncId) (fn:Func),P.funcs[f]? =some fn->fn.name≠ "runtime.NumGoroutine")(D:iJ P An Or)(C:oM P An Or):iJ P An (aD P An Or):=by
 intro f aU a xs e;simp only [aD] at e;split at e
 .rename_i r hr;exact E f aU a xs (hr.trans e)
 split at e
 .rename_i fn l;split at e
  .rename_i p d;split at e
   .rename_i G;refine⟨fn,p,l,d,hn f fn l,λc w ρ O args N hs m=> ?_⟩;have hl:=m.length;have z:(sr aU a).h=jh a:=by funext i;cases i <;> rfl
    have aN:dN c fn.ntmps w (sr aU a) ρ O {tmps:=args.toArray++Array.replicate (fn.ntmps - args.toArray.size) undef,defers:= []}:=by refine⟨by rw [z];exact hs,λk=>Ny m _ k, ?_,rfl⟩;simp only [Vq,Ta,Array.size_replicate];omega
    have o:nh (sr aU a):=by intro k g v e;simp [sr] at e
    have B:ij (a.length,gD a.head?).1 (nJ a.length ρ) ρ:=by
     intro j q;simp only at q;have x:jh a (.c j)=some a[j]:=by simp [jh,q]
     obtain⟨v,hv,_⟩:=hs.IN x;exact⟨v,by simp [nJ,q,hv],hv⟩
    refine(Ku l d (kP hm D C l B aN o e)).mono λe w' ⟨v,F,b⟩=> ?_;obtain⟨L,M,x2,o1,K,hv,J,y,u,hr,I⟩:=b.res;exact⟨L,M,x2,o1,K,by rw [F,hv],⟨b.os,b.output,b.tape,b.size,b.af⟩,J,y,u,hr,I⟩
   .simp at e
  .simp at e
 .simp at e
theorem Qi(hm:P.follows .mixedOrders=true)(j:iJ P An Or)(i:oM P An Or):oM P An (aD P An Or):=by
 intro f fn todo live m aU o xs e d c w ρ O a B g aN;simp only [aD,d] at e;split at e
 .exact kP hm j i d g aN (FC _ _ _) e
 .rename_i l;have:sK todo=todo:=by
   unfold sK;split
   .rename_i b k;exact(l b k rfl).elim
   .rfl
  rw [this];exact kP hm j i d g aN (FC _ _ _) e
theorem Hl(b:nk P An)(hm:P.follows .mixedOrders=true)(hn:∀(f:FuncId) (fn:Func),P.funcs[f]? =some fn->fn.name≠ "runtime.NumGoroutine"):∀n,iJ P An (iw P An n)/\oM P An (iw P An n)
 | 0=>⟨λ_ _ _ _ e=>by simp [iw] at e,λ_ _ _ _ _ _ _ _ e=>by simp [iw] at e⟩
 | n+1=>by obtain⟨h1,a⟩:=Hl b hm hn n;exact⟨Qj b hm hn h1 a,Qi hm h1 a⟩
theorem Ho{k:Key}{vs:List AV}{bs:List ab}{r:List T}(e:lX P An k vs bs=some r):∃n,iw P An n k vs bs=some r:=by
 unfold lX at e;split at e
 .rename_i a;simp only [RJ] at e;exact⟨_,by rw [<-e];exact Ur (Ur a)⟩
 .simp at e
theorem OC(b:nk P An)(hm:P.follows .mixedOrders=true)(hn:∀(f:FuncId) (fn:Func),P.funcs[f]? =some fn->fn.name≠ "runtime.NumGoroutine"):iJ P An (lX P An):=by intro f aU a xs e;obtain⟨n,e⟩:=Ho e;exact(Hl b hm hn n).1 f aU a xs e
end
open Go Go.IntKind
abbrev JB:=Key×List AV×List ab×List T
def x8(O:az)(L:List JB):Prop:= ∀q∈L,O q.1 q.2.1 q.2.2.1=some q.2.2.2
def aC{R:Type}(F:az->Option R):Prop:= ∀O r,F O=some r->∃L,x8 O L/\∀O',x8 O' L->F O'=some r
section
variable {P:Program} {A:bZ} {R S:Type}
theorem aC.const(m:Option R):aC (λ_=>m):=λ_ r h=>⟨[],(by intro q a;cases a),λ_ _=>h⟩
theorem aC.bind{F:az->Option R}{G:R->az->Option S}(h1:aC F)(l:∀a,aC (G a)):aC (λO=>(F O).bind λa=>G a O):=by
 intro O r h;obtain⟨a,m,h⟩:=RK.1 h;obtain⟨e,g,j⟩:=h1 O a m;obtain⟨f,i,k⟩:=l a O r h;refine⟨e++f,λq b=> ?_,λO' d=> ?_⟩
 .rcases RX.1 b with b | b
  .exact g q b
  .exact i q b
 .have:=j O' (λq b=>d q (RY _ b));simp only [this,R2];exact k O' (λq b=>d q (RW _ b))
theorem aC.ask(k:Key)(vs:List AV)(bs:List ab):aC (λO=>O k vs bs):=λO r h=>⟨[(k,vs,bs,r)],(by intro q a;simp only [RP] at a;subst a;exact h),
 λO' b=>b _ (RP.2 rfl)⟩
theorem aC.cond{b:Bool}{F G:az->Option R}(h1:aC F)(a:aC G):aC (λO=>cond b (F O) (G O)):=by cases b <;> assumption
theorem aC.ite{p:Prop}[Decidable p]{F G:az->Option R}(h1:aC F)(b:aC G):aC (λO=>if p then F O else G O):=by
 by_cases a:p
 .simp only [a,if_true];exact h1
 .simp only [a,if_false];exact b
theorem aC.aa{d:Type}[Inhabited d]{c:Option Bool}{m:Option d}{K:d->az->Option R}(h:∀a,aC (K a)):aC (λO=>aa c m λa=>K a O):=by
 unfold Aev.aa;cases m with
 | some a=>exact h a
 | none=>cases c with
  | none=>exact aC.const none
  | some b=>exact aC.cond (aC.const none) (h default)
theorem aC.ez{k:Ck}{c:Option Bool}{x:T}{K:T->az->Option R}(h:∀a,aC (K a)):aC (λO=>ez k c x λa=>K a O):=by
 unfold Aev.ez;cases k <;> (try dsimp only)
 case x=>exact h x
 all_goals exact aC.aa λa=>h _
theorem aC.dY{c:Option Bool}:∀{ks:List Ck} {xs:List T} {K:List T->az->Option R},(∀a,aC (K a))->aC (λO=>dY c ks xs λa=>K a O)
 | [],xs,K,h=>h xs
 | _::_,[],K,h=>h []
 | k::ks,x::xs,K,h=>by simp only [Aev.dY];exact aC.ez (K:=λy O=>Aev.dY c ks xs λb=>K (y::b) O) λy=>aC.dY (K:=λb O=>K (y::b) O) λb=>h _
theorem aC.l9{c:Option Bool}{t:TypeId}{v:AV}{K:AV->az->Option R}(h:∀a,aC (K a)):aC (λO=>l9 P c t v λa=>K a O):=by
 unfold Aev.l9;cases v <;> (try exact h _)
 case t x=>exact aC.ez (K:=λy O=>K (.t y) O) λy=>h _
 case agg vs=>
  dsimp only;cases dZ vs with
  | none=>exact h _
  | some l=>exact aC.dY (K:=λl O=>K (.agg (l.map .t)) O) λy=>h _
theorem aC.iG{c:Option Bool}:∀{ts:List TypeId} {vs:List AV} {K:List AV->az->Option R},(∀a,aC (K a))->aC (λO=>iG P c ts vs λa=>K a O)
 | [],vs,K,h=>h vs
 | _::_,[],K,h=>h []
 | t::ts,v::vs,K,h=>by simp only [Aev.iG];exact aC.l9 (K:=λu O=>Aev.iG P c ts vs λus=>K (u::us) O) λu=>aC.iG (K:=λus O=>K (u::us) O) λus=>h _
theorem aC.fR{s:St}{d:Nat}{c:Option Bool}{f:FuncId}{args:List AV}{K:AV->aE->Option R}:aC (λO=>fR P A O s d c f args K):=by
 unfold Aev.fR;cases P.funcs[f]? with
 | none=>exact aC.const none
 | some fn=>
  dsimp only;have e:∀(m:Option (List T)) (k:List T->Option R),Aev.aa none m k=m.bind k:=by intro m k;cases m <;> rfl
  cases A.gQ f with
  | none=>
   dsimp only;refine aC.bind (F:=λ_=>kG ((cF P A f 0 fn).all qq) (A.deep f) s.h args) (aC.const _) λp=> ?_;simp only [e];refine aC.iG λq=> ?_;refine aC.bind (F:=λO=>eD c (O (.call f) q [])) ?_ λxs=>aC.const _;unfold eD;cases c with
   | none=>exact aC.ask _ _ _
   | some b=>exact aC.cond (aC.ask _ _ _) (aC.const _)
  | some fl=>
   cases c with
   | some b=>exact aC.const none
   | none=>dsimp only;refine aC.bind (F:=λ_=>lG s.h (yT fl args) fl args) (aC.const _) λp=> ?_;refine aC.bind (F:=λ_=>jt (2000000+d) 0 (aG s.h p.2) (mW (oT (bI p.1) []) (gw A f (gD ((bI p.1).head?.bind (aG s.h p.2)))))) (aC.const _) λus=> ?_;refine aC.bind (F:=λ_=>ew (aG (aG s.h p.2) us) 1000 (bI p.1) []) (aC.const _) λseen=> ?_;refine aC.cond ?_ (aC.const none);simp only [e];refine aC.iG λq=> ?_;exact aC.bind (aC.ask _ _ _) λxs=>aC.const _
theorem aC.iM{gE:Bool}{s:St}{d:Nat}{c:Option Bool}{f:FuncId}{args:List AV}{K:AV->aE->Option R}:aC (λO=>iM gE P A O s d c f args K):=by
 unfold Aev.iM;cases _root_.cond gE (mX args) none with
 | none=>exact aC.fR
 | some q=>
  obtain⟨a,i,n,e⟩:=q;cases c with
  | some b=>exact aC.const none
  | none=>
   dsimp only;cases s.h i with
   | none=>exact aC.const none
   | some b=>
    cases b with
    | rows b sz ax rsz nx es=>
     dsimp only;cases bq n es with
     | none=>exact aC.const none
     | some p=>exact aC.cond aC.fR (aC.const none)
    | _=>exact aC.const none
theorem aC.cI{g:Option Gs}{o:Oper}{s:St}:aC (λO=>cI P A O g o s):=by
 unfold Aev.cI iK;cases o.op <;> (try dsimp only) <;> try exact aC.const _
 case makeFunc fn a b=>cases fn <;> (try dsimp only) <;> exact aC.const _
 case call d=>
  cases d.callee <;> (try dsimp only)
  case value e=>cases s.get g e <;> (try dsimp only) <;> first | exact aC.iM | exact aC.const _
  case builtin b=>cases b <;> (try dsimp only) <;> exact aC.const _
  all_goals exact aC.const _
theorem aC.eu{a:Bool}{nt:Nat}{ops:Array Oper}{o:Oper}{s:St}:aC (λO=>eu P A O a nt ops o s):=by
 unfold Aev.eu nW;have key:∀{G:az->Option Gs->Option St},(∀g,aC (λO=>G O g))->aC (λO=>cK ops o s (G O)):=λ{G} b=>by rw [show(λO=>cK ops o s (G O))=λO=>(cK ops o s some).bind (G O) from funext λO=>we _ _ _ _];exact aC.bind (aC.const _) b
 refine key λg=> ?_;cases pv A a o g with
 | none=>simp only [pV];exact aC.bind aC.cI λp=>aC.const _
 | some d=>simp only [pV];exact aC.cond (aC.cond (aC.bind aC.cI λp=>aC.const _) (aC.const _)) (aC.const _)
theorem aC.iA{a:Bool}{nt:Nat}{ops:Array Oper}:∀(l:List Oper) (s:St),aC (λO=>iA P A O a nt ops l s)
 | [],s=>aC.const _
 | o::r,s=>aC.bind (F:=λO=>Aev.eu P A O a nt ops o s) aC.eu λs'=>aC.iA r s'
theorem aC.region{nt:Nat}{a:Bool}{ops:Array Oper}{s:St}{K:St->az->Option R}(h:∀s,aC (K s)):aC (λO=>region P A O nt a ops s λs'=>K s' O):=by
 unfold Aev.region;refine aC.cond ?_ (aC.const none);have:(λO=>td P A O a nt ops ops.toList s λs'=>K s'.clear O)=λO=>(Aev.iA P A O a nt ops ops.toList s).bind λs'=>K s'.clear O:=by funext O;rw [Bj]
 rw [this];exact aC.bind (aC.iA _ _) λs'=>h _
theorem aC.lj{f:FuncId}{todo:List Item}{live:List (Nat×Option Nat)}{m:Nat×Nat}{s:St}:aC (λO=>lj O f todo live m s):=by unfold Aev.lj;refine aC.bind (aC.const _) λus=> ?_;unfold Aev.xM;refine aC.bind (aC.const _) λp=>aC.ite ?_ (aC.const none);exact aC.bind (aC.const _) λseen=>aC.ask _ _ _
theorem aC.ev{f:FuncId}{fn:Func}{m:Nat×Nat}:∀(n:Nat) (a:Bool) (todo:List Item) (s:St),aC (λO=>ev P A O f fn m n a todo s)
 | 0,a,todo,s=>by simp only [Aev.ev];exact aC.const none
 | n+1,a,[],s=>by simp only [Aev.ev];exact aC.const _
 | n+1,a, .code .skip::k,s=>by simp only [Aev.ev];exact aC.ev n _ _ _
 | n+1,a, .code (.seq x y)::k,s=>by simp only [Aev.ev];exact aC.ev n _ _ _
 | n+1,a, .code (.region id ops d)::k,s=>by
  simp only [Aev.ev];cases e:(bif a then A.join f id else none) with
  | some live=>exact aC.lj
  | none=>exact aC.region λs'=>aC.ev n _ _ _
 | n+1,a, .code (.cond x p q)::k,s=>by simp only [Aev.ev];refine aC.bind (F:=λ_=>(s.get none x).t?) (aC.const _) λy=>aC.aa λt=>aC.cond (aC.ev n _ _ _) (aC.ev n _ _ _)
 | n+1,a, .code (.block id b)::k,s=>by simp only [Aev.ev];exact aC.ev n _ _ _
 | n+1,a, .code (.loop b)::k,s=>by
  simp only [Aev.ev];cases A.live f (oc b) with
  | some live=>exact aC.lj
  | none=>exact aC.const none
 | n+1,a, .code (.exit id)::k,s=>by
  simp only [Aev.ev];cases exitTo id k with
  | some g=>exact aC.ev n _ _ _
  | none=>exact aC.const none
 | n+1,a, .code .ret::k,s=>by simp only [Aev.ev];exact aC.const _
 | n+1,a, .inBlock id::k,s=>by simp only [Aev.ev];exact aC.ev n _ _ _
 | n+1,a, .inLoop b::k,s=>by
  simp only [Aev.ev];cases A.live f (oc b) with
  | some live=>exact aC.lj
  | none=>exact aC.const none
 | n+1,a, .code (.label _)::k,s=>by simp only [Aev.ev];exact aC.const _
 | n+1,a, .code (.goto _)::k,s=>by simp only [Aev.ev];exact aC.const _
 | n+1,a, .code (.rangeFunc ..)::k,s=>by simp only [Aev.ev];exact aC.const _
 | n+1,a, .code (.scope _)::k,s=>by simp only [Aev.ev];exact aC.const _
 | n+1,a, .code (.refuse _)::k,s=>by simp only [Aev.ev];exact aC.const _
 | n+1,a, .inRegion ..::k,s=>by simp only [Aev.ev];exact aC.const _
 | n+1,a, .inScope _::k,s=>by simp only [Aev.ev];exact aC.const _
 | n+1,a, .inRangeFunc _::k,s=>by simp only [Aev.ev];exact aC.const _
 | n+1,a, .endRangeFunc _::k,s=>by simp only [Aev.ev];exact aC.const _
 | n+1,a, .beginRound::k,s=>by simp only [Aev.ev];exact aC.const _
 | n+1,a, .extern ..::k,s=>by simp only [Aev.ev];exact aC.const _
 | n+1,a, .call ..::k,s=>by simp only [Aev.ev];exact aC.const _
theorem aC.aD(k:Key)(vs:List AV)(bs:List ab):aC (λO=>aD P A O k vs bs):=by
 cases k with
 | call f=>
  simp only [Aev.aD];cases A.ext f vs bs with
  | some r=>exact aC.const _
  | none=>
   dsimp only;cases P.funcs[f]? with
   | none=>exact aC.const _
   | some fn=>
    dsimp only;cases fn.body with
    | none=>exact aC.const _
    | some c=>exact aC.ite (aC.ev _ _ _ _) (aC.const _)
 | node f todo live m=>
  simp only [Aev.aD];cases P.funcs[f]? with
  | none=>exact aC.const _
  | some fn=>
   dsimp only;split
   .exact aC.ev _ _ _ _
   .exact aC.ev _ _ _ _
theorem Hm:∀(n:Nat) {k:Key} {vs:List AV} {bs:List ab} {r:List T},iw P A n k vs bs=some r->iw P A (n+1) k vs bs=some r
 | 0,k,vs,bs,r,h=>by simp [iw] at h
 | n+1,k,vs,bs,r,h=>by obtain⟨L,e,g⟩:=aC.aD (P:=P) (A:=A) k vs bs _ r h;exact g _ λq a=>Hm n (e q a)
theorem wS{n m:Nat}(a:n<=m){k:Key}{vs:List AV}{bs:List ab}{r:List T}(h:iw P A n k vs bs=some r):iw P A m k vs bs=some r:=by
 induction a with
 | refl=>exact h
 | step _ b=>exact Hm _ b
theorem Hn{n:Nat}{k:Key}{vs:List AV}{bs:List ab}{r:List T}(h:iw P A n k vs bs=some r):lX P A k vs bs=some r:=by unfold lX;have d:∃n r,iw P A n k vs bs=some r:=⟨n,r,h⟩;rw [dif_pos d];have e:=Ur (Ur d);have a:=wS (Nat.le_max_left n (Classical.choose d)) h;have b:=wS (Nat.le_max_right n (Classical.choose d)) e;rw [a] at b;exact b.symm
theorem an{k:Key}{vs:List AV}{bs:List ab}{r:List T}(h:aD P A (lX P A) k vs bs=some r):lX P A k vs bs=some r:=by
 obtain⟨L,e,g⟩:=aC.aD (P:=P) (A:=A) k vs bs _ r h;have:∃n,x8 (iw P A n) L:=by
  clear g h;induction L with
  | nil=>exact⟨0,(by intro q a;cases a)⟩
  | cons q L d=>
   obtain⟨n,hn⟩:=d λb a=>e b (RM _ a);obtain⟨m,hm⟩:=Ho (e q RL);refine⟨max n m,λb a=> ?_⟩;rcases RV.1 a with rfl | a
   .exact wS (Nat.le_max_right _ _) hm
   .exact wS (Nat.le_max_left _ _) (hn b a)
 obtain⟨n,hn⟩:=this;exact Hn (n:=n+1) (g _ hn)
end
open Go Go.IntKind
section
variable {P:Program} {An:bZ} {w w':World}
theorem uE.below(k:uE w w'):Go.RowKit.Below w.heap.size w w':=⟨k.os,k.tape,k.output,k.size,k.af⟩
theorem Kv{f:FuncId}{fn:Func}{aU:List AV}{args:List Value}{A0:Nat->Prop}(q:nk P An)(hm:P.follows .mixedOrders=true)(hn:∀(f:FuncId) (fn:Func),P.funcs[f]? =some fn->fn.name≠ "runtime.NumGoroutine")
  (k:P.funcs[f]? =some fn) (a:An.gQ f=none) (g:cF P An f 0 fn= [.f .b]) (p:∀b,A0 b->b < w.heap.size) (d:aw w A0 (λ_=>none) aU args)
  (e:lX P An (.call f) aU []=some [.bool true]):Calls P f args.toArray w λe w'=>e= .returned (.bool true)/\Go.RowKit.Below w.heap.size w w':=by
 obtain⟨z,l,h1,_,_,m⟩:=OC q hm hn f aU [] _ e;rw [k] at h1;simp only [RJ] at h1;subst h1;refine(m.values a A0 w args p d).mono λe w' ⟨E,own,r,u,_,_,hr⟩=> ?_;rw [g] at hr;obtain⟨x,C,v,B,ob,y,i,rfl,_,o,D,rfl,_⟩:=hr;simp only [TJ] at i;obtain⟨rfl,rfl⟩:=i;obtain⟨_,j,_⟩:=o;simp only [au] at j;subst j;exact⟨r,u.below⟩
end
open Go Go.IntKind
abbrev I(n:Int):AV:= .t (.int .i64 n)
abbrev B(b:Bool):AV:= .t (.bool b)
theorem FO{b R:Type}[Inhabited b](c:Option Bool)(a:b)(k:b->Option R):aa c (some a) k=k a:=by cases c <;> rfl
theorem dG{a R:Type}[Inhabited a](m:Option a)(k:a->Option R):aa (some false) m k=k (m.getD default):=by cases m <;> rfl
theorem FY{a:Type}(x:a)(l:List a):(x::l).head? =some x:=by cases l <;> rfl
theorem I2{a:Type}(x:a)(l:List a):(x::l).tail=l:=by cases l <;> rfl
theorem D2{a:Type}(l:List a):l.drop 0=l:=by cases l <;> rfl
theorem D3{a:Type}(x:a)(l:List a):(x::l).drop 1=l:=by cases l <;> rfl
theorem D4{a:Type}(x y:a)(l:List a):(x::y::l).drop 2=l:=by cases l <;> rfl
theorem D5{a:Type}(x y z:a)(l:List a):(x::y::z::l).drop 3=l:=by cases l <;> rfl
theorem D6{a:Type}(x y z u:a)(l:List a):(x::y::z::u::l).drop 4=l:=by cases l <;> rfl
theorem D7{a:Type}(x y z u v:a)(l:List a):(x::y::z::u::v::l).drop 5=l:=by cases l <;> rfl
theorem D8{a:Type}(x y z u v t:a)(l:List a):(x::y::z::u::v::t::l).drop 6=l:=by cases l <;> rfl
theorem De(b:Bool):(T.bool b).bool? =some b:=by cases b <;> rfl
theorem z7(k:IntKind)(n:Int):(T.int k n).int? k=some n:=by cases k <;> simp [T.int?]
theorem IQ(s:ByteArray):(T.str s).bf =some s:=by cases s;rfl
theorem o8(sz:Nat)(b:Bool)(l:List (List T)):(T.ae sz b l).aM sz=some (b,l):=by cases b <;> simp [T.aM]
theorem cn(sz:Nat)(b:Bool):(T.aL b).aM sz=some (b,[]):=by cases b <;> rfl
theorem HH(l:List T):(T.ptr l).pf =some l:=by cases l <;> rfl
theorem Fk(k:IntKind)(n:Int):(T.int k n).oX =some ():=by cases k <;> rfl
theorem Fj(b:Bool):(T.bool b).oX =some ():=by cases b <;> rfl
theorem FJ(b:ByteArray):(T.str b).oX =some ():=by cases b;rfl
theorem DG{d:Type}(a b:d):cond true a b=a:=by simp
theorem Dw{d:Type}(a b:d):cond false a b=b:=by simp
theorem He:(!true)=false:=by decide
theorem GV:(!false)=true:=by decide
theorem CP(m:Option (List T)):eD none m=m:=by cases m <;> rfl
theorem CR(m:Option (List T)):eD (some true) m=m:=by cases m <;> rfl
theorem CQ(m:Option (List T)):eD (some false) m=some []:=by cases m <;> rfl
theorem y6{d:Type}(p:Prop)[Decidable p](a b:d):(bif decide p then a else b)=if p then a else b:=by by_cases h:p <;> simp [h]
theorem DE{d:Type}(p:Prop)[Decidable p](a b:d):(bif !decide p then a else b)=if p then b else a:=by by_cases h:p <;> simp [h]
theorem Dv{d:Type}(m n:Int)(a b:d):(bif m==n then a else b)=if m=n then a else b:=by
 by_cases h:m=n
 .simp [h]
 .have:(m==n)=false:=by simpa using h
  simp [h,this]
theorem DD{d:Type}(m n:Int)(a b:d):(bif !m==n then a else b)=if m=n then b else a:=by
 by_cases h:m=n
 .simp [h]
 .have:(m==n)=false:=by simpa using h
  simp [h,this]
theorem lJ(a b:Bool):(bif a then b else false)= (a && b):=by cases a <;> simp
theorem im(a b:Bool):(bif a then true else b)= (a || b):=by cases a <;> simp
theorem wr{v:Int}(h: -9223372036854775808<=v/\v < 9223372036854775808):i64.wrap v=v:=by simp [IntKind.wrap,IntKind.signed,IntKind.bits];omega
theorem aj:(type_of% @FO)/\(type_of% @FY)/\(type_of% @I2)/\(type_of% @D2)/\(type_of% @D3)/\(type_of% @D4)/\(type_of% @D5)/\(type_of% @D6)/\(type_of% @D7)/\(type_of% @D8)/\(type_of% @De)/\(type_of% @z7)/\(type_of% @IQ)/\(type_of% @o8)/\(type_of% @cn)/\(type_of% @HH)/\(type_of% @Fk)/\(type_of% @Fj)/\(type_of% @FJ)/\(type_of% @DG)/\(type_of% @Dw)/\(type_of% @He)/\(type_of% @GV)/\(type_of% @CP)/\(type_of% @CR)/\(type_of% @CQ)/\(type_of% @y6)/\(type_of% @DE)/\(type_of% @Dv)/\(type_of% @DD)/\(type_of% @beq_self_eq_true.{0})/\(type_of% @U7)/\(type_of% @U9)/\(type_of% @Bool.false_and)/\(type_of% @TS):=⟨@FO,@FY,@I2,@D2,@D3,@D4,@D5,@D6,@D7,@D8,@De,@z7,@IQ,@o8,@cn,@HH,@Fk,@Fj,@FJ,@DG,@Dw,@He,@GV,@CP,@CR,@CQ,@y6,@DE,@Dv,@DD,@beq_self_eq_true.{0},@U7,@U9,@Bool.false_and,@TS⟩
open Go Go.ChangeShapes Go.WideShapes Go.ChangeAt Go.RowKit Go.IntKind
def tD(P:Program)(go:TypeId->Bool):List Field->Nat->Option Nat
 | [],off=>some off
 | f::r,off=>if f.offset=off/\go f.type=true then tD P go r (off+P.cellsOf f.type) else none
def iZ(P:Program):Nat->TypeId->Bool
 | 0,_=>false
 | n+1,t=>match P.underlying t with
  | some .bool=>true
  | some (.int _)=>true
  | some .string=>true
  | some (.slice e)=>iZ P n e && decide (0 < P.cellsOf e)
  | some (.struct a)=>decide (tD P (iZ P n) a.toList 0=some (P.cellsOf t))
  | some (.array m e)=>iZ P n e && decide (P.cellsOf t=m * P.cellsOf e)
  | _=>false
def uQ(W:TypeId->List T->Prop):List Field->List T->Prop
 | [],ts=>ts= []
 | f::r,ts=>∃a b,ts=a++b/\W f.type a/\uQ W r b
def yz(W:List T->Prop):Nat->List T->Prop
 | 0,ts=>ts= []
 | m+1,ts=>∃a b,ts=a++b/\W a/\yz W m b
def Wt(P:Program):Nat->TypeId->List T->Prop
 | 0,_,_=>False
 | n+1,t,ts=>match P.underlying t with
  | some .bool=>∃b,ts= [.bool b]
  | some (.int k)=>∃m,ts= [.int k m]/\(Lit.int k m).wf=true
  | some .string=>∃s,ts= [.str s]/\s.size<=maxLen
  | some (.slice e)=>∃b xs,ts= [.ae (P.cellsOf e) b xs]/\(b=true->xs= [])/\xs.length<=maxLen/\(∀cs∈xs,Wt P n e cs)/\xs.length * P.bytesOf e<=reachBytes
  | some (.struct a)=>uQ (Wt P n) a.toList ts
  | some (.array m e)=>yz (Wt P n e) m ts
  | _=>False
section
variable {H:Type} {enc:TypeId×Value->H} {P:Program} {w:World} {base:Nat} {sp:Nat->Bool} {held:Bool}
def oB{H:Type}(P:Program)(t:TypeId)(d:DataW H):Prop:= ∀k∈DataW.weights P t d,k<=reachBytes
theorem BY{H:Type}{P:Program}{e:TypeId}:∀{l:List (DataW H)} {d:DataW H},d∈l->∀k∈DataW.weights P e d,k∈DataW.weightsAll P e l
 | [],d,h,k,_=>by cases h
 | c::l,d,h,k,hk=>by
  simp only [DataW.weightsAll,RX];rcases RV.1 h with rfl | h
  .exact .inl hk
  .exact .inr (BY h k hk)
theorem Jy{H:Type}{P:Program}{us:List TypeId}{b:List (DataW H)}{k:Nat}:∀{ts:List TypeId} {a:List (DataW H)},k∈DataW.weightsEach P ts a->k∈DataW.weightsEach P (ts++us) (a++b)
 | [],a,h=>by simp [DataW.weightsEach] at h
 | t::ts,[],h=>by simp [DataW.weightsEach] at h
 | t::ts,d::a,h=>by simp only [DataW.weightsEach,RU,RX] at h⊢;exact h.imp id Jy
theorem aO.yJ{A:Nat->Prop}:∀{a b:List T} {vs us:List Value},aO w A a vs->aO w A b us->aO w A (a++b) (vs++us)
 | [],b,vs,us,h,h'=>by simp only [aO] at h;subst h;simpa using h'
 | c::a,b,vs,us,⟨v,r,e,h1,d⟩,h'=>by subst e;exact⟨v,r++us,rfl,h1,aO.yJ d h'⟩
theorem I4{n m:Nat}(l:∀(t:TypeId) (cs:List Value) (x:DataW H×List MemPlace),iZ P n t=true->DataW.trod enc P w base sp held m t cs=some x->oB P t x.1->
   ∃ts,aO w (λb=>b < w.heap.size) ts cs/\Wt P n t ts) (cs:List Value):∀(i:List Field) (off E:Nat),tD P (iZ P n) i off=some E->E<=cs.length->
   (∀f∈i,∃x,DataW.trod enc P w base sp held m f.type ((cs.drop f.offset).take (P.cellsOf f.type))=some x/\oB P f.type x.1)->
   off<=E/\∃ts,aO w (λb=>b < w.heap.size) ts ((cs.drop off).take (E - off))/\uQ (Wt P n) i ts
 | [],off,E,d,k,_=>by simp only [tD,RJ] at d;subst d;exact⟨R3 _,[],by simp [aO],rfl⟩
 | f::i,off,E,d,k,hr=>by
  simp only [tD] at d;split at d
  .rename_i q;obtain⟨o,p⟩:=q;obtain⟨x,u,j⟩:=hr f RL;obtain⟨a,v,z⟩:=l _ _ _ p u j;obtain⟨C,b,y,B⟩:=I4 l cs i _ E d k λg r=>hr g (RM _ r);refine⟨by omega,a++b, ?_,⟨a,b,rfl,z,B⟩⟩;have e:(cs.drop off).take (E - off)= (cs.drop f.offset).take (P.cellsOf f.type)++ (cs.drop (off+P.cellsOf f.type)).take (E - (off+P.cellsOf f.type)):=by
    rw [o,<-VJ];have:E - off=P.cellsOf f.type+ (E - (off+P.cellsOf f.type)):=by omega
    rw [this,List.take_add]
   rw [e];exact aO.yJ v y
  .cases d
theorem I5{n m e:Nat}(j:∀(t:TypeId) (cs:List Value) (x:DataW H×List MemPlace),iZ P n t=true->DataW.trod enc P w base sp held m t cs=some x->oB P t x.1->
   ∃ts,aO w (λb=>b < w.heap.size) ts cs/\Wt P n t ts) (f:iZ P n e=true):∀(k:Nat) (cs:List Value),cs.length=k * P.cellsOf e->
   (∀i,i < k->∃x,DataW.trod enc P w base sp held m e ((cs.drop (i * P.cellsOf e)).take (P.cellsOf e))=some x/\oB P e x.1)->∃ts,aO w (λb=>b < w.heap.size) ts cs/\yz (Wt P n e) k ts
 | 0,cs,hl,_=>by have:cs= []:=R4.1 (by simpa using hl);subst this;exact⟨[],rfl,rfl⟩
 | k+1,cs,hl,hr=>by
  obtain⟨x,g,d⟩:=hr 0 (Nat.zero_lt_succ _);simp only [Nat.zero_mul,Vp] at g;obtain⟨a,l,p⟩:=j _ _ _ f g d;obtain⟨b,o,q⟩:=I5 j f k (cs.drop (P.cellsOf e)) (by rw [Ts,hl,SH];omega) λi hi=>by
   obtain⟨y,hy,d⟩:=hr (i+1) (by omega);refine⟨y, ?_,d⟩;rw [VJ];have:P.cellsOf e+i * P.cellsOf e= (i+1) * P.cellsOf e:=by rw [SH];omega
   rw [this];exact hy
  refine⟨a++b, ?_,⟨a,b,rfl,p,q⟩⟩;have:=aO.yJ l o;rwa [Vy] at this
theorem Gq{A:Nat->Prop}{af sz:Nat}{n e:Nat}:∀(len off:Nat),(∀i,i < len->∃ts a,ts.length=sz/\aO w A ts a/\Wt P n e ts/\∀j v,a[j]? =some v->w.cell? ⟨af,off+i * sz+j,none⟩=some v)->
  ∃xs:List (List T),xs.length=len/\aR w A af sz off xs/\∀cs∈xs,Wt P n e cs
 | 0,off,_=>⟨[],rfl,trivial,(by intro c b;cases b)⟩
 | len+1,off,h=>by
  obtain⟨ts,a,h1,d,f,g⟩:=h 0 (Nat.zero_lt_succ _);obtain⟨xs,l,k2,m⟩:=Gq (A:=A) (af:=af) (sz:=sz) (n:=n) (e:=e) len (off+sz) λi hi=>by
   obtain⟨ts,a,h1,d,f,g⟩:=h (i+1) (by omega);refine⟨ts,a,h1,d,f,λj v k=> ?_⟩;have:=g j v k;have e:off+ (i+1) * sz+j=off+sz+i * sz+j:=by rw [SH];omega
   rwa [e] at this
  refine⟨ts::xs,by simp [l],⟨h1,aP.jZ d λj v k=> ?_,k2⟩,λc b=> ?_⟩
  .have:=g j v k;simpa using this
  .rcases RV.1 b with rfl | b
   .exact f
   .exact m c b
theorem xN:∀(n:Nat) (m:Nat) (t:TypeId) (cs:List Value) (x:DataW H×List MemPlace),iZ P n t=true->DataW.trod enc P w base sp held m t cs=some x->oB P t x.1->
  ∃ts,aO w (λb=>b < w.heap.size) ts cs/\Wt P n t ts
 | 0,m,t,cs,x,g,_,_=>by simp [iZ] at g
 | n+1,m,t,cs,x,g,h,l=>by
  simp only [iZ] at g;split at g
  .rename_i d;obtain⟨b,rfl,_⟩:=DataW.trod_bool d h;exact⟨[.bool b],⟨_,[],rfl,rfl,rfl⟩,by simp only [Wt,d];exact⟨b,rfl⟩⟩
  .rename_i k d;obtain⟨z,rfl,_,V⟩:=DataW.trod_int d h;exact⟨[.int k z],⟨_,[],rfl,rfl,rfl⟩,by simp only [Wt,d];exact⟨z,rfl,V⟩⟩
  .rename_i d;obtain⟨s,rfl,_,V⟩:=DataW.trod_string d h;exact⟨[.str s],⟨_,[],rfl,rfl,rfl⟩,by simp only [Wt,d];exact⟨s,rfl,V⟩⟩
  .rename_i e d;simp only [RQ,decide_eq_true_eq] at g;obtain⟨U,B⟩:=g;rcases Go.Deep.open_slice d h with⟨rfl,_⟩ | ⟨a,len,cap,k,E,D,Pl,rfl,hb,hl,hm,hk,rfl,L⟩
   .exact⟨[.ae (P.cellsOf e) true []],⟨_,[],rfl, .inl ⟨rfl,rfl,rfl⟩,rfl⟩,by simp only [Wt,d];exact⟨true,[],rfl,λ_=>rfl,by simp,(by intro c y;cases y),by simp⟩⟩
   .obtain⟨af,off,s⟩:=a;have hlk:len<=k:=by rw [hk];split <;> omega
    dsimp only at l;have N:len * P.bytesOf e<=reachBytes:=by have:=l ((len+ (k - len)) * P.bytesOf e) (by simp [DataW.weights,d]);exact Sh (SE _ (Ue _ _)) this
    have J:∀i,i < len->oB P e (D i):=λi hi q C=>l q (by
     simp only [DataW.weights,d,RV,RX];exact .inr (.inl (BY (Si.2 ⟨i,UZ.2 hi,rfl⟩) q C)))
    have G: 0 < len->s=none/\af < w.heap.size:=by
     intro h0;obtain⟨u,y,_⟩:=L 0 (by omega);obtain⟨I,r,p⟩:=World.cells?_some y;have K:=World.cells?_block y B;have o:=p 0 B;have M:((⟨af,off,s⟩:Addr).add (0 * P.cellsOf e)).add 0= ⟨af,off,s⟩:=by simp [Addr.add]
     rw [M] at o;have Z:∃v,u[0]? =some v:=⟨_,RR (by omega)⟩;obtain⟨v,hv⟩:=Z;rw [hv] at o;refine⟨?_, ?_⟩
     .cases s with
      | none=>rfl
      | some z=>simp only [World.cell?] at o;split at o <;> simp at o
     .have e:((⟨af,off,s⟩:Addr).add (0 * P.cellsOf e))= ⟨af,off,s⟩:=by simp [Addr.add]
      rw [e] at K;exact K
    obtain⟨xs,k1,k2,k3⟩:=Gq (P:=P) (w:=w) (A:=λb=>b < w.heap.size) (af:=af) (sz:=P.cellsOf e) (n:=n) (e:=e) len off λi hi=>by
     obtain⟨u,y,hd⟩:=L i (by omega);obtain⟨hs,_⟩:=G (by omega);subst hs;obtain⟨ts,r1,F⟩:=xN n E e u _ U hd (J i (by omega));obtain⟨I,r,p⟩:=World.cells?_some y;refine⟨ts,u,by rw [<-r1.length,r],r1,F,λj v hj=> ?_⟩;have hj':j < P.cellsOf e:=by rw [<-r];exact(RS.1 hj).1
     have:=p j hj';rw [hj,gh,gh] at this;exact this
    refine⟨[.ae (P.cellsOf e) false xs],⟨_,[],rfl, .inr ⟨rfl,af,off,s,cap,by rw [k1],by omega, ?_,k2⟩,rfl⟩,by simp only [Wt,d];exact⟨false,xs,rfl,λh=>(by cases h),by omega,k3,by rw [k1];exact N⟩⟩;by_cases h0:len=0
    .left;exact R4.1 (by omega)
    .right;exact G (by omega)
  .rename_i Y d;simp only [decide_eq_true_eq] at g;obtain⟨xs,E,rfl,rfl,hl,hsz,Q⟩:=DataW.trod_struct d h;dsimp only at l;obtain⟨_,ts,r1,F⟩:=I4 (λt cs x=>xN n E t cs x) cs Y.toList 0 _ g (by omega) λf hf'=>by
    obtain⟨i,hi,e⟩:=TN hf';have X:Y.toList[i]? =some f:=by rw [RR hi,e]
    have:=Q i f (by rw [<-SG];exact X);rw [this];have hx:xs[i]? =some (xs[i]'(by simp at hi;omega)):=RR (by simp at hi;omega);refine⟨_,hx,λq C=>l q ?_⟩;simp only [DataW.weights,d];exact DataW.weights_mem_each (j:=i) (by rw [Sp,X];rfl) (by rw [Sp,hx];rfl) q C
   refine⟨ts, ?_,by simp only [Wt,d];exact F⟩;simp only [Vp,Te] at r1;rwa [<-hl,Ti] at r1
  .rename_i m' e d;simp only [RQ,decide_eq_true_eq] at g;obtain⟨xs,E,rfl,rfl,hl,hsz,Q⟩:=DataW.trod_array d h;dsimp only at l;obtain⟨ts,r1,F⟩:=I5 (λt cs x=>xN n E t cs x) g.1 m' cs (by omega) λi hi=>by
    rw [Q i hi];refine⟨_,RR (by omega),λq C=>l q ?_⟩;simp only [DataW.weights,d];exact BY (Si.2 ⟨_,Uf _,rfl⟩) q C
   exact⟨ts,r1,by simp only [Wt,d];exact F⟩
  .cases g
end
def tK(P:Program)(n:Nat):List TypeId->List AV->Prop
 | [],as=>as= []
 | t::ts,as=>∃a r,as=a::r/\((be P t=true/\∃l,Wt P n t l/\a= .agg (l.map .t))\/(be P t=false/\∃x,Wt P n t [x]/\a= .t x))/\tK P n ts r
section
variable {H:Type} {enc:TypeId×Value->H} {P:Program} {W W':World} {sp:Nat->Bool} {held:Bool}
theorem Oy{n:Nat}{t:TypeId}{v:Value}{d:DataW H}{F:List MemPlace}{r:Reach}{C base:Nat}(o:iZ P (n+1) t=true)(f:Value.okWide P W r C t v)(h:DataW.Trod enc P W base sp held t v d F)(p:oB P t d):
  ∃a,((be P t=true/\∃l,Wt P (n+1) t l/\a= .agg (l.map .t))\/(be P t=false/\∃x,Wt P (n+1) t [x]/\a= .t x))/\ai W (λb=>b < W.heap.size) (λ_=>none) a v:=by
 obtain⟨m,hm⟩:=h;obtain⟨ts,r1,B⟩:=xN (n+1) m t _ _ o hm p;have j:be P t=false->v.cells= #[v]->∃a,((be P t=true/\∃l,Wt P (n+1) t l/\a= .agg (l.map .t))\/(be P t=false/\∃x,Wt P (n+1) t [x]/\a= .t x))/\ai W (λb=>b < W.heap.size) (λ_=>none) a v:=by
  intro h1 E;rw [E] at r1
  match ts,r1 with
  | [],r1=>simp [aO] at r1
  | [x],⟨u,q,e,g,_⟩=>simp only [TJ] at e;obtain⟨rfl,_⟩:=e;exact⟨.t x, .inr ⟨h1,x,B,rfl⟩,by simpa [ai] using g⟩
  | x::y::z,⟨u,q,e,_,⟨K,J,D,_⟩⟩=>subst D;simp at e
 have agg:be P t=true->(∃cs,v= .agg cs)->∃a,((be P t=true/\∃l,Wt P (n+1) t l/\a= .agg (l.map .t))\/(be P t=false/\∃x,Wt P (n+1) t [x]/\a= .t x))/\ai W (λb=>b < W.heap.size) (λ_=>none) a v:=by rintro h1 ⟨cs,rfl⟩;refine⟨.agg (ts.map .t), .inl ⟨h1,ts,B,rfl⟩, ?_⟩;simp only [ai];exact⟨cs.toList,by simp,aw.kU r1,r1.one⟩
 simp only [iZ] at o;split at o
 .rename_i i;simp only [Value.okWide,i,Cell.okWide] at f;refine j (by simp [be,i]) ?_;cases v <;> first | rfl | (simp [Cell.ok,i] at f)
 .rename_i k i;simp only [Value.okWide,i,Cell.okWide] at f;refine j (by simp [be,i]) ?_;cases v <;> first | rfl | (simp [Cell.ok,i] at f)
 .rename_i i;simp only [Value.okWide,i,Cell.okWide] at f;refine j (by simp [be,i]) ?_;cases v <;> first | rfl | (simp [Cell.ok,i] at f)
 .rename_i e i;simp only [Value.okWide,i,Cell.okWide] at f;refine j (by simp [be,i]) ?_;cases v <;> first | rfl | (simp [Cell.ok,i] at f)
 .rename_i G i;simp only [Value.okWide,i] at f;obtain⟨cs,e,_⟩:=f;exact agg (by simp [be,i]) ⟨cs,e⟩
 .rename_i I e i;simp only [Value.okWide,i] at f;obtain⟨cs,e,_⟩:=f;exact agg (by simp [be,i]) ⟨cs,e⟩
 .cases o
theorem Hj{n:Nat}{r:Reach}{x base:Nat}:∀{ts:List TypeId} {vs:List Value} {i:List (DataW H)} {l:List MemPlace},ts.all (iZ P (n+1))=true->(∀(j:Nat) (t:TypeId) (v:Value),ts[j]? =some t->vs[j]? =some v->Value.okWide P W r x t v)->
  DataW.TrodAll enc P W base sp held ts vs i l->(∀k∈DataW.weightsEach P ts i,k<=reachBytes)->∃as,tK P (n+1) ts as/\aw W (λb=>b < W.heap.size) (λ_=>none) as vs
 | [],vs,i,l,_,_,h,_=>by obtain⟨rfl,_,_⟩:=trodAll_nil h;exact⟨[],rfl,by simp [aw]⟩
 | t::ts,vs,i,l,f,g,h,e=>by simp only [Tu,RQ] at f;obtain⟨v,u,d,E,p,q,rfl,rfl,rfl,h1,y⟩:=trodAll_cons h;obtain⟨a,z,hr⟩:=Oy f.1 (g 0 t v rfl rfl) h1 (λk hk=>e k (by simp only [DataW.weightsEach,RX];exact .inl hk));obtain⟨as,m,o⟩:=Hj f.2 (λj C D B hv=>g (j+1) C D (by simpa using B) (by simpa using hv)) y (λk hk=>e k (by simp only [DataW.weightsEach,RX];exact .inr hk));exact⟨a::as,⟨a,as,rfl,z,m⟩,by simp only [aw];exact⟨v,u,rfl,hr,o⟩⟩
theorem ID(hl:laidOutB P=true)(hb:Below W.heap.size W W'):∀{ts:List TypeId} {vs:List Value} {e:List (DataW H)} {a:List MemPlace},(ts.all λt=>P.readableRec t && decide (t < P.types.size))=true->
  DataW.TrodAll enc P W 0 (λ_=>true) true ts vs e a->(∀x∈a,x.block < W.heap.size)->DataW.TrodAll enc P W' 0 (λb=>decide (b < W.heap.size)) true ts vs e a
 | [],vs,e,a,_,h,_=>by obtain⟨rfl,rfl,rfl⟩:=trodAll_nil h;exact trodAll_mk0
 | t::ts,vs,e,a,hr,h,f=>by simp only [Tu,RQ,decide_eq_true_eq] at hr;obtain⟨v,k,d,j,p,q,rfl,rfl,rfl,h1,i⟩:=trodAll_cons h;exact trodAll_cons_mk (Below.trod hl hr.1.1 hr.1.2 h1 hb λx g=>f x (RY _ g)) (ID hl hb (by simpa using hr.2) i λx g=>f x (RW _ g))
theorem J3(hb:Below W.heap.size W W')(a:MemPlace->Prop):W.keptBut W' a:=by
 refine⟨hb.os,hb.output,λi hi=> ?_⟩;rw [hb.block i hi];cases W.heap[i]? with
 | none=>rfl
 | some o=>cases o <;> first | exact⟨rfl,rfl,rfl,λ_ _=>rfl⟩ | exact .inr ⟨rfl,rfl⟩ | rfl
theorem law_contract{n:Nat}{fn:Func}{s:ChangeSpec}{An:bZ}{f:FuncId}{tb:TypeId}(hm:P.follows .mixedOrders=true)(hn:(P.funcs.toList.all λfn=>fn.name != "runtime.NumGoroutine")=true)(hl:laidOutB P=true)
  (M:P.funcs[f]? =some fn) (G:An.gQ f=none) (I:cF P An f 0 fn= [.f .b]) (V:P.underlying tb=some .bool) (U:fn.resultTypes= #[tb])
  (C:fn.params.toList.all (iZ P (n+1))=true) (l:(fn.params.toList.all λt=>P.readableRec t && decide (t < P.types.size))=true)
  (m:s.vars= []) (B:∀(a:List (DataW H)),a.length=fn.params.toList.length->s.fn H a= {results:= [.lit (.bool true)],args:=a})
  (g:∀as,tK P (n+1) fn.params.toList as->lX P An (.call f) as []=some [.bool true])
  (W:World) (base:Nat) (args:Array Value) (a J:List (DataW H)) (r:List MemPlace) (z:∀(j:Nat) t v,fn.params[j]? =some t->args[j]? =some v->Value.okWide P W .any base t v)
  (K:DataW.Whole enc P fn.params.toList s.vars false W args.toList a J r)
  (D:(DataW.weightsEach P (fn.params.toList++s.plain.varTypes P) (a++J)).all (· <=reachBytes)=true)
  (Y:nk P An:=by exact Go.Aev.nk.no λ_ _ _=>rfl):
  Calls P f args W λe W'=>∃v,e= .returned v/\s.post enc P fn false true false false W args v W':=by
 have u:=K;obtain⟨p,q,o,E,rfl,hz,N⟩:=K;rw [m] at E;obtain⟨rfl,rfl⟩:=trodVars_none E;obtain⟨as,L,hr⟩:=Hj C (λj t v ht hv=>z j t v (by rw [<-SG];exact ht) (by rw [<-SG];exact hv)) o (λk hk=>by simpa using R7.1 D k (Jy hk));have F:a.length=fn.params.toList.length:=by
  clear u hr L z hz N E l C g D;generalize fn.params.toList=ts at o;generalize args.toList=vs at o;induction ts generalizing vs a p with
  | nil=>obtain⟨_,rfl,_⟩:=trodAll_nil o;rfl
  | cons t ts ih=>obtain⟨v,vs',d,ds',p',q',_,rfl,_,_,X⟩:=trodAll_cons o;simp [ih _ _ _ X]
 have Q:∀(f:FuncId) (fn:Func),P.funcs[f]? =some fn->fn.name≠ "runtime.NumGoroutine" :=by intro f fn h;have:=R7.1 hn fn (RN (i:=f) (by rw [SG];exact h));simpa using this
 have:=Kv (w:=W) (A0:=λb=>b < W.heap.size) Y hm Q M G I (λ_ h=>h) hr (g as L);rw [show args.toList.toArray=args from by simp] at this;refine this.mono λe W' ⟨Z,hb⟩=>⟨.bool true,Z, ?_⟩;have y:=B a F;refine⟨a,[],p++ [],[],p,[],u, ?_, ?_, ?_,J3 hb _,λh=>by cases h⟩
 .rw [SN,y,U];exact trodAll_cons_mk (shut_bool V true) trodAll_mk0
 .rw [SN,y];exact ID hl hb l o (λx hx=>u.lt x (by simpa using hx))
 .rw [SN,y,m];rfl
end
section
variable {P:Program} {n:Nat} {t:TypeId} {ts:List T}
theorem Rs{k:IntKind}(a:P.underlying t=some (.int k))(h:Wt P (n+1) t ts):∃m,ts= [.int k m]/\(Lit.int k m).wf=true:=by simpa only [Wt,a] using h
theorem Rv{a:Array Field}(b:P.underlying t=some (.struct a))(h:Wt P (n+1) t ts):uQ (Wt P n) a.toList ts:=by simpa only [Wt,b] using h
theorem Ru{e:TypeId}(a:P.underlying t=some (.slice e))(h:Wt P (n+1) t ts):∃b xs,ts= [.ae (P.cellsOf e) b xs]/\(b=true->xs= [])/\xs.length<=maxLen/\(∀cs∈xs,Wt P n e cs)/\xs.length * P.bytesOf e<=reachBytes:=by simpa only [Wt,a] using h
theorem Jz{j:Type}(g:j->List T){e:TypeId}(p:P.underlying t=some (.slice e))(h:Wt P (n+1) t ts)(o:∀cs,Wt P n e cs->∃a,cs=g a):
  ∃b l,ts= [.ae (P.cellsOf e) b (l.map g)]/\(b=true->l= [])/\l.length<=maxLen/\l.length * P.bytesOf e<=reachBytes:=by
 obtain⟨b,xs,rfl,h1,d,f,i⟩:=Ru p h;have:∃l:List j,xs=l.map g:=by
  clear h1 d h i;induction xs with
  | nil=>exact⟨[],rfl⟩
  | cons c xs q=>obtain⟨a,k⟩:=o c (f c RL);obtain⟨l,hl⟩:=q λcs m=>f cs (RM _ m);exact⟨a::l,by rw [k,hl];rfl⟩
 obtain⟨l,rfl⟩:=this;exact⟨b,l,rfl,λhb=>by simpa using h1 hb,by simpa using d,by simpa using i⟩
theorem Rt{k:Type}(g:k->List T){e:TypeId}(j:P.underlying t=some (.slice e))(h:Wt P (n+1) t ts)(i:∀cs,Wt P n e cs->∃a,cs=g a):
  ∃b l,ts= [.ae (P.cellsOf e) b (l.map g)]/\(b=true->l= [])/\l.length<=maxLen:=by
 obtain⟨b,l,h1,d,f,_⟩:=Jz g j h i;exact⟨b,l,h1,d,f⟩
theorem C7{a:AV}(h:(be P t=true/\∃l,Wt P n t l/\a= .agg (l.map .t))\/(be P t=false/\∃x,Wt P n t [x]/\a= .t x))(hb:be P t=false):∃x,Wt P n t [x]/\a= .t x:=by
 rcases h with h | h
 .rw [hb] at h;cases h.1
 .exact h.2
end
end Go.Aev
