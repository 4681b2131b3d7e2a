import Derived.Test.YtcffabneepdohaaGreatDoorBlastBackQ4
import Derived.Orders
import Derived.Still
import Derived.Below
import Derived.Deep.Slices
import Derived.Carry
import Derived.ProofKit
import Derived.OpenShut
import Derived.SizedLaws
set_option linter.all false
namespace Go.Aev
open Go Go.IntKind
section
variable {P:Program} {An:cW} {Or:aq} {w w':World} {A A':Nat->Prop} {c:Ctx} {ρ:Id->Option Value} {O:Id->Option Nat} {s s':St}
structure fF (c:Ctx) (nt:Nat) (w:World) (s:St) (ρ:Id->Option Value) (O:Id->Option Nat) (a:Act):Prop where
 hs:HS c w s.h ρ O
 ss:SS w (AA c w O) ρ s.t a.tmps
 nt:a.tmps.size=nt
 defers:a.defers= []
def pL(ops:Array Oper)(s:St):Prop:= ∀k g v,s.t k= (some g,v)->eH ops (some g.d)=true
theorem oM{a:Act}{d k:Nat}{x:Value}(b:d < a.tmps.size):(a.put (some d) x).tmps.getD k undef=if k=d then x else a.tmps.getD k undef:=by
 simp only [Act.put];by_cases e:k=d
 .subst e;simp [b]
 .rw [if_neg e];simp [ZW (ZU e)]
theorem zJ(a:Act)(d:Option Nat)(x:Value):(a.put d x).tmps.size=a.tmps.size:=by cases d <;> simp [Act.put]
theorem zI(a:Act)(d:Option Nat)(x:Value):(a.put d x).defers=a.defers:=by cases d <;> rfl
theorem Qh{ops:Array Oper}{o:Oper}{a:Act}{g:Option Gs}(L:SS w A ρ s.t a.tmps)(h:dN ops o s some=some g):
  (Region.wanted o (yielded ops a.tmps)=true->lY a.tmps g)/\
  (Region.wanted o (yielded ops a.tmps)=false->∃i,g=some i/\a.tmps.getD i.d undef≠ .bool i.want/\i.c=false)/\
  (∀i,g=some i->eH ops (some i.d)=true\/∀Q∈ops,Q≠o):=by
 unfold dN at h;cases q:o.guard with
 | none=>simp only [q,W5] at h;subst h;exact⟨λ_=>trivial,λh=>by simp [Region.wanted,q] at h,λi h=>by cases h⟩
 | some p=>
  obtain⟨j,want⟩:=p;simp only [q] at h;cases B:(ops[j]?).bind (·.dst) with
  | none=>simp [B] at h
  | some d=>
   simp only [B] at h;replace h:=W6.1 h;obtain⟨x,m,h⟩:=h;have M:Region.wanted o (yielded ops a.tmps)=true↔a.tmps.getD d undef= .bool want:=by
    simp only [Region.wanted,q,yielded,B,Xb,beq_iff_eq];rw [YC];cases a.tmps[d]? with
    | none=>simp [undef]
    | some u=>cases u <;> simp
   have J:∀i,g=some i->i.d=d/\i.want=want:=by intro i e;replace h:=r7 h;obtain⟨b,h,_⟩:=h;simp only [W5] at h;rw [<-h] at e;simp only [W5] at e;subst e;exact⟨rfl,rfl⟩
   have C:∃i,g=some i:=by replace h:=r7 h;obtain⟨b,h,_⟩:=h;simp only [W5] at h;exact⟨_,h.symm⟩
   obtain⟨i,rfl⟩:=C;obtain⟨F,G⟩:=J i rfl;refine⟨λN=> ?_,λE=>⟨i,rfl, ?_⟩,λX e=> ?_⟩
   .have D:=M.1 N;simp only [lY,F,G];refine⟨D, ?_⟩;have f:=L d;rw [D] at f;cases y:s.t d with
    | mk gd v=>
     rw [y] at f m h;dsimp only at m h f;rw [AV.nf m] at f;cases gd with
     | none=>simp only [an] at f;simp only [ZZ] at h;replace h:=aW h (.inl rfl);obtain⟨b,l,h⟩:=h;simp only [W5] at h;have:=T.jI l;subst this;simp only [az,Value.bool.injEq] at f;rw [<-h,<-f];cases want <;> rfl
     | some g0=>
      simp only at f;rcases f with⟨_,k,z⟩ | ⟨_,_,V⟩
      .simp only [YJ,k] at h;replace h:=aW h (.inr rfl);obtain⟨b,l,h⟩:=h;simp only [W5] at h;have:=T.jI l;subst this;simp only [an,az,Value.bool.injEq] at z;rw [<-h,<-z];simp only [gC,k];cases want <;> rfl
      .simp [undef] at V
   .have r:a.tmps.getD d undef≠ .bool want:=λU=>by
     have:=M.2 U;rw [this] at E;cases E
    refine⟨by rw [F,G];exact r, ?_⟩;have f:=L d;cases y:s.t d with
    | mk gd v=>
     rw [y] at f m h;dsimp only at m h f;rw [AV.nf m] at f;cases gd with
     | none=>simp only [an] at f;simp only [ZZ] at h;replace h:=aW h (.inl rfl);obtain⟨b,l,h⟩:=h;simp only [W5] at h;have:=T.jI l;subst this;simp only [az] at f;have I:b≠want:=λe=>r (by rw [f,e]);rw [<-h];simp only [gC];cases b <;> cases want <;> simp_all [yf]
     | some g0=>
      simp only at f;rcases f with⟨_,k,z⟩ | ⟨_,k,_⟩
      .simp only [YJ,k] at h;replace h:=aW h (.inr rfl);obtain⟨b,l,h⟩:=h;simp only [W5] at h;have:=T.jI l;subst this;simp only [an,az] at z;have I:b≠want:=λe=>r (by rw [z,e]);rw [<-h];simp only [gC,k];cases b <;> cases want <;> simp_all [yf]
      .replace h:=r7 h;obtain⟨b,h,_⟩:=h;simp only [W5] at h;rw [<-h];simp [gC,k]
   .simp only [W5] at e;subst e;by_cases hm:o∈ops
    .left;unfold eH;rw [Zp];exact⟨o,hm,by simp [q,B,F]⟩
    .right;intro Q K e;exact hm (e▸K)
theorem C8{ops:Array Oper}{o:Oper}{g:Option Gs}{v:AV}{us:aK}(b:pL ops s)(p:∀q,g=some q->eH ops (some q.d)=true):pL ops (s.put (eH ops o.dst) o.dst g v us):=by
 intro k m u a;cases r:o.dst with
 | none=>simp only [St.put,r] at a;exact b k m u a
 | some d=>
  simp only [St.put,r] at a;by_cases e:k=d
  .simp only [if_pos e,XP] at a;exact p m a.1
  .simp only [if_neg e] at a;cases f:eH ops (some d) with
   | false=>rw [f,cond_false] at a;exact b k m u a
   | true=>
    rw [f,cond_true] at a;cases l:s.t k with
    | mk i vk=>
     rw [l] at a;cases i with
     | none=>simp [nK] at a
     | some i=>
      simp only [nK] at a;cases j:(i.d==d) with
      | true=>simp [j] at a
      | false=>simp only [j,cond_false,XP,W5] at a;rw [<-a.1];exact b k i vk l
theorem zK{nt:Nat}{ops:Array Oper}{o:Oper}{a:Act}{g:Option Gs}{v:AV}{us:aK}(ss:SS w (AA c w O) ρ s.t a.tmps)(E:a.tmps.size=nt)(D:pL ops s)
  (u:∀d,o.dst=some d->d < nt) (C:∀j d,g=some j->o.dst=some d->j.d≠d)
  (w':World) (ρ':Id->Option Value) (O':Id->Option Nat) (x:Value) (I:∀b,AA c w O b->AA c w' O' b/\w'.heap[b]? =w.heap[b]?) (G:∀i v,ρ i=some v->ρ' i=some v)
  (F:match g with
   | none=>an w' (AA c w' O') ρ' v x
   | some j=>(a.tmps.getD j.d undef= .bool j.want/\j.c=true/\an w' (AA c w' O') ρ' v x)\/(a.tmps.getD j.d undef≠ .bool j.want/\j.c=false/\x=undef)):
  SS w' (AA c w' O') ρ' (s.put (eH ops o.dst) o.dst g v us).t (a.put o.dst x).tmps:=by
 have r:=SS.mono I G ss;cases z:o.dst with
 | none=>simp only [St.put,Act.put];exact r
 | some d=>
  have f:d < a.tmps.size:=by rw [E];exact u d z
  intro k;simp only [St.put];by_cases e:k=d
  .subst e;simp only [if_true];cases g with
   | none=>simp only;rw [oM f,if_pos rfl];exact F
   | some j=>have p:j.d≠k:=C j k rfl z;simp only;rw [oM f,oM f,if_neg p,if_pos rfl];exact F
  .simp only [if_neg e];have l:=r k;cases y:eH ops (some d) with
   | false=>
    simp only [cond_false];cases q:s.t k with
    | mk m vk=>
     rw [q] at l;cases m with
     | none=>simp only at l⊢;rw [oM f,if_neg e];exact l
     | some m=>
      have p:m.d≠d:=by intro e';have:=D k m vk q;rw [e',y] at this;cases this
      simp only at l⊢;rw [oM f,oM f,if_neg e,if_neg p];exact l
   | true=>
    simp only [cond_true];cases q:s.t k with
    | mk m vk=>
     rw [q] at l;cases m with
     | none=>simp only [nK] at l⊢;rw [oM f,if_neg e];exact l
     | some m=>
      simp only [nK];cases B:(m.d==d) with
      | true=>simp [an]
      | false=>
       have p:m.d≠d:=by simpa using B
       simp only [cond_false] at l⊢;rw [oM f,oM f,if_neg e,if_neg p];exact l
theorem SS.uw{tmps:Array Value}{e:Gs}(hs:SS w A ρ s.t tmps)(l:tmps.getD e.d undef= .bool e.want):SS w A ρ (s.uw e).t tmps:=by
 intro k;have b:=hs k;simp only [St.uw];cases f:s.t k with
 | mk g v=>
  rw [f] at b;cases g with
  | none=>simp only [mn,cond_true] at b⊢;exact b
  | some g0=>
   by_cases a:mn (some g0) (some e)=true
   .simp only [a,cond_true];simp only [mn,Xf,beq_iff_eq] at a;simp only at b;rcases b with⟨_,_,j⟩ | ⟨i,_⟩
    .exact j
    .exfalso;apply i;rw [a.1,a.2];exact l
   .simp only [YK] at a;simp only [a,cond_false];exact b
theorem Jo{m:Bool}{nt:Nat}{ops:Array Oper}{o:Oper}{a:Act}(hO:ko P An Or)(f:fF c nt w s ρ O a)(p:pL ops s)(hmem:o∈ops)(h:fU P An Or m nt ops o s=some s'):
  pL ops s'/\∀(K:Act->World->Prop) (Q:Exit->Act->World->Prop),(∀a' w' ρ' O',Le w ρ O w' ρ' O'->fF c nt w' s' ρ' O' a'->K a' w')->
   if Region.wanted o (yielded ops a.tmps) then o.wp P a w K Q\/(o.asks P a w/\LetsOut Q) else K (a.put o.dst undef) w:=by
 unfold fU qK at h;rw [yZ] at h;replace h:=W6.1 h;obtain⟨g,hg,h⟩:=h;obtain⟨G,B,Z⟩:=Qh f.ss hg;have y:∀j,g=some j->eH ops (some j.d)=true:=λj e=>(Z j e).resolve_right λhn=>hn o hmem rfl;cases l:sR An m o g with
 | none=>
  rw [l] at h;dsimp only at h;rw [th] at h;replace h:=W6.1 h;obtain⟨⟨v,us⟩,M,h⟩:=h;dsimp only at h;rw [wq] at h;replace h:(if oZ P An m nt ops o g s v us then some (s.put (eH ops o.dst) o.dst g v us) else none)=some s':=by
   cases hk:kH An m o s.h us with
   | false=>rw [hk] at h;cases h
   | true=>rw [hk] at h;exact h
  split at h
  .rename_i F;simp only [W5] at h;subst h;simp only [oZ,Xf] at F;obtain⟨⟨⟨hdst,I⟩,z⟩,_⟩:=F;have k:∀d,o.dst=some d->d < nt:=λd e=>by simpa [e] using hdst
   have E:∀j d,g=some j->o.dst=some d->j.d≠d:=λj d X Y=>by subst X;simp only [Y,Xf,X6,beq_eq_false_iff_ne,ne_eq,W5] at I;exact λe=>I.2 e.symm
   refine⟨C8 p y,λK Q L=> ?_⟩;split
   .rename_i q;left;have i:=G q;refine jC.wp (Ez hO f.hs f.ss i M z) λx w' ⟨ρ',O',le,N,V⟩=> ?_;refine L _ w' ρ' O' le ⟨N, ?_,by rw [zJ];exact f.nt,by rw [zI];exact f.defers⟩;refine zK f.ss f.nt p k E w' ρ' O' x (λb r=>le.A b r) le.fu ?_;cases g with
    | none=>exact V
    | some j=>exact .inl ⟨i.1,i.2,V⟩
   .rename_i q;obtain⟨j,rfl,J,u⟩:=B (by simpa using q);have hus:us= []:=by
     simp only [Xf,Yt] at I;exact I.1
    subst hus;refine L _ w ρ O Le.refl ⟨f.hs, ?_,by rw [zJ];exact f.nt,by rw [zI];exact f.defers⟩;exact zK f.ss f.nt p k E w ρ O undef (λb r=>⟨r,rfl⟩) (λ_ _ h=>h) (.inr ⟨J,u,rfl⟩)
  .simp at h
 | some j=>
  rw [l] at h;dsimp only at h;have hg':g=some j:=by
   cases g with
   | none=>simp [sR] at l
   | some g0=>
    simp only [sR] at l;cases r:(!m && fq An o) with
    | false=>rw [r] at l;cases l
    | true=>rw [r] at l;simpa using l
  subst hg';cases D:yx nt o j with
  | false=>rw [D] at h;cases h
  | true=>
   rw [D,cond_true] at h;simp only [yx,Xf] at D;have k:∀d,o.dst=some d->d < nt:=λd e=>by simpa [e] using D.1
   have E:∀C d,some j=some C->o.dst=some d->C.d≠d:=λC d X Y=>by cases X;have:=D.2;simp only [Y,X6,beq_eq_false_iff_ne,ne_eq,W5] at this;exact λe=>this e.symm
   cases U:j.c with
   | false=>
    rw [U,cond_false] at h;simp only [W5] at h;subst h;refine⟨C8 p y,λK Q L=> ?_⟩;split
    .rename_i q;have:=(G q).2;rw [U] at this;cases this
    .rename_i q;obtain⟨C,e,J,u⟩:=B (by simpa using q);cases e;refine L _ w ρ O Le.refl ⟨f.hs, ?_,by rw [zJ];exact f.nt,by rw [zI];exact f.defers⟩;exact zK f.ss f.nt p k E w ρ O undef (λb r=>⟨r,rfl⟩) (λ_ _ h=>h) (.inr ⟨J,u,rfl⟩)
   | true=>
    rw [U,cond_true,th] at h;replace h:=W6.1 h;obtain⟨⟨v,us⟩,M,h⟩:=h;dsimp only at h;split at h
    .rename_i F;simp only [W5] at h;subst h;simp only [oZ,Xf] at F;obtain⟨⟨⟨_,_⟩,z⟩,_⟩:=F;refine⟨C8 p y,λK Q L=> ?_⟩;split
     .rename_i q;left;have i:=G q;refine jC.wp (Ez (s:=s.uw j) (g:=none) hO f.hs (f.ss.uw i.1) trivial M z) λx w' ⟨ρ',O',le,N,V⟩=> ?_;refine L _ w' ρ' O' le ⟨N, ?_,by rw [zJ];exact f.nt,by rw [zI];exact f.defers⟩;exact zK f.ss f.nt p k E w' ρ' O' x (λb r=>le.A b r) le.fu (.inl ⟨i.1,i.2,V⟩)
     .rename_i q;obtain⟨C,e,J,u⟩:=B (by simpa using q);cases e;rw [U] at u;cases u
    .simp at h
theorem fF.clear{nt:Nat}{a:Act}(b:fF c nt w s ρ O a):fF c nt w s.clear ρ O a:=by
 refine⟨b.hs,λk=> ?_,b.nt,b.defers⟩;have:=b.ss k;simp only [St.clear];cases d:s.t k with
 | mk e vk=>
  rw [d] at this;cases e with
  | none=>exact this
  | some g=>simp [an]
def pK(s:St):Prop:= ∀k g v,s.t k≠(some g,v)
theorem Nb(s:St):pK s.clear:=by intro k g v h;simp only [St.clear] at h;split at h <;> simp at h
theorem pK.HN(h:pK s)(ops:Array Oper):pL ops s:=λk g v e=>(h k g v e).elim
theorem J0{g:Bool}{nt:Nat}{ops:Array Oper}(v:ko P An Or){Q:Exit->Act->World->Prop}:∀{l:List Oper} {k:Nat} {w:World} {s:St} {ρ:Id->Option Value} {O:Id->Option Nat} {a:Act},
  (∀j,l[j]? =ops[k+j]?)->fF c nt w s ρ O a->pL ops s->jT P An Or g nt ops l s=some s'->
  (∀f w' ρ' O',Le w ρ O w' ρ' O'->fF c nt w' s' ρ' O' f->Q .normal f w')->wpOps P ops Q (List.range' k l.length) a w
 | [],k,w,s,ρ,O,a,hl,b,e,h,i=>by simp only [jT,W5] at h;subst h;exact i a w ρ O Le.refl b
 | o::l,k,w,s,ρ,O,a,hl,b,e,h,i=>by
  simp only [jT] at h;obtain⟨s1,z,h⟩:=W6.1 h;have h0:ops[k]? =some o:=by simpa using (hl 0).symm
  obtain⟨m,step⟩:=Jo v b e (XH h0) z;rw [Xj,Y3];simp only [wpOps,h0];refine step _ Q λf w' ρ' O' le p=> ?_;exact J0 v (λj=>by have:=hl (j+1);simpa [Ze,Nat.add_comm 1 j] using this) p m h
   (λu y q r x d=>i u y q r (le.trans x) d)
theorem S9{nt id:Nat}{ops:Array Oper}{a:Act}(f:ko P An Or){Q:Exit->Act->World->Prop}(e:fF c nt w s ρ O a)(i:pK s)(h:jT P An Or false nt ops ops.toList s=some s')
  (g:∀b w' ρ' O',Le w ρ O w' ρ' O'->fF c nt w' s'.clear ρ' O' b->Q .normal b w'):(Code.region id ops false).wp P Q a w:=by
 refine wp_region ?_;rw [ZX,<-XE];exact J0 f (by intro j;simp) e (i.HN ops) h λb w' ρ' O' le d=>g b w' ρ' O' le d.clear
end
open Go Go.IntKind
section
variable {P:Program} {A:cW} {O:aq} {R:Type} {h h':Id->Option ad} {s s':St}
theorem lE{v:AV}{vs:List AV}{i:Id}:i∈cC (v::vs)↔i∈v.ids\/i∈cC vs:=by simp [cC]
theorem uL{v:AV}(a:∀i∈v.ids,h' i=h i):eD h' v=eD h v:=by
 cases v <;> simp only [eD]
 all_goals rw [a _ (by simp [AV.ids])]
theorem yU{v:AV}(a:∀i∈v.ids,h' i=h i):iL h' v=iL h v:=by
 cases v <;> simp only [iL]
 all_goals rw [a _ (by simp [AV.ids])]
theorem KI:∀{vs:List AV},(∀i∈cC vs,h' i=h i)->mq h' vs=mq h vs
 | [],_=>rfl
 | v::vs,b=>by simp only [mq];rw [uL λi a=>b i (lE.2 (.inl a)),KI λi a=>b i (lE.2 (.inr a))]
theorem Hs:∀{vs:List AV},(∀i∈cC vs,h' i=h i)->nO h' vs=nO h vs
 | [],_=>rfl
 | v::vs,b=>by simp only [nO];rw [yU λi a=>b i (lE.2 (.inl a)),Hs λi a=>b i (lE.2 (.inr a))]
theorem KL{v:AV}(a:∀i∈v.ids,h' i=h i):mo h' v=mo h v:=by
 cases v
 case agg vs=>simp only [mo];exact KI (by simpa [AV.ids] using a)
 all_goals (simp only [mo];rw [uL a])
theorem Hv{v:AV}(a:∀i∈v.ids,h' i=h i):ix h' v=ix h v:=by
 cases v
 case agg vs=>simp only [ix];exact Hs (by simpa [AV.ids] using a)
 all_goals (simp only [ix];rw [yU a])
theorem EC{b:Bool}{v:AV}(a:∀i∈v.ids,h' i=h i):kW b false h' v=kW b false h v:=by
 cases v
 case ref i off=>simp only [kW,cond_false];rw [a i (by simp [AV.ids]),uL a,yU a]
 all_goals (simp only [kW];rw [uL a,yU a])
theorem xY{b:Bool}:∀{vs:List AV},(∀i∈cC vs,h' i=h i)->nw b false h' vs=nw b false h vs
 | [],_=>rfl
 | v::vs,d=>by simp only [nw];rw [EC λi a=>d i (lE.2 (.inl a)),xY λi a=>d i (lE.2 (.inr a))]
theorem EH{g:Bool}{v:AV}(d:∀i∈v.ids,h' i=h i):my g false h' v=my g false h v:=by
 cases v
 case agg vs=>simp only [my];rw [xY (by simpa [AV.ids] using d)]
 case fn f a b=>simp only [AV.ids,Xo] at d;simp only [my];rw [xY λi e=>d i (.inl e),xY λi e=>d i (.inr e)]
 all_goals (simp only [my];rw [EC d])
theorem EJ{b:Bool}:∀{vs:List AV},(∀i∈cC vs,h' i=h i)->mz b false h' vs=mz b false h vs
 | [],_=>rfl
 | v::vs,d=>by simp only [mz];rw [EH λi a=>d i (lE.2 (.inl a)),EJ λi a=>d i (lE.2 (.inr a))]
theorem we:∀{a b:List AV} {i:Id},i∈cC (a++b)↔i∈cC a\/i∈cC b
 | [],b,i=>by simp [cC]
 | v::a,b,i=>by rw [X7,lE,lE,we,or_assoc]
theorem Cb:∀{vs:List AV} {i:Id},i∈cC vs->∃v∈vs,i∈v.ids
 | v::vs,i,a=>by
  rcases lE.1 a with a | a
  .exact⟨v,W7,a⟩
  .obtain⟨u,b,d⟩:=Cb a;exact⟨u,W8 _ b,d⟩
 | [],i,a=>by simp [cC] at a
theorem Bb{d:Nat}{c:Option Bool}{f:FuncId}{args:List AV}{K:AV->aK->Option R}(a:s'.h=s.h\/(A.jm f=none/\A.deep f=false/\∀i∈cC args,s'.h i=s.h i)):im P A O s' d c f args K=im P A O s d c f args K:=by
 unfold im;rcases a with a | ⟨g,j,a⟩
 .rw [a]
 .have e:∀b,mz b false s'.h args=mz b false s.h args:=λb=>EJ a;simp only [g,j,e]
theorem Dj{c:Option Bool}{i:Id}{n:Nat}{K:Nat->Bool->List (List T)->Option R}(a:h' i=h i):mY h' c i n K=mY h c i n K:=by unfold mY;rw [a]
theorem M2{iO:Bool}{d:Nat}{c:Option Bool}{f:FuncId}{args:List AV}{K:AV->aK->Option R}(a:s'.h=s.h\/(iO=false/\A.jm f=none/\A.deep f=false/\∀i∈cC args,s'.h i=s.h i)):kx iO P A O s' d c f args K=kx iO P A O s d c f args K:=by
 rcases a with a | ⟨rfl,a⟩
 .unfold kx;rw [a];cases cond iO (ju args) none with
  | none=>exact Bb (.inl a)
  | some q=>obtain⟨b,i,n,e⟩:=q;dsimp only;split <;> rfl
 .exact Bb (.inr a)
theorem QG{c:Option Bool}{t:TypeId}{a:AV}{K:AV->Option R}(b:∀i∈a.ids,s'.h i=s.h i):iz P s' c t a K=iz P s c t a K:=by unfold iz;cases a <;> (try rfl) <;> (simp only [];first | rw [Dj (b _ (by simp [AV.ids]))] | rw [b _ (by simp [AV.ids])])
theorem Vg{t:TypeId}{a v:AV}{K:aK->Option R}(d:∀i∈a.ids,s'.h i=s.h i)(b:∀i∈v.ids,s'.h i=s.h i):jW P s' t a v K=jW P s t a v K:=by
 unfold jW;cases a <;> (try rfl) <;> (simp only [];rw [d _ (by simp [AV.ids])];try rw [KL b,Hv b]);cases v
 case own j=>simp only [b j (by simp [AV.ids])]
 all_goals rfl
theorem Qk{c:Option Bool}{t:TypeId}{x:AV}{i:Int}{K:AV->Option R}(a:∀i∈x.ids,s'.h i=s.h i):kE P s' c t x i K=kE P s c t x i K:=by
 unfold kE;cases x
 case row i n=>simp only [Dj (a i (by simp [AV.ids]))]
 all_goals first | rfl | (simp only [];rw [a _ (by simp [AV.ids])])
theorem Qv{c:Option Bool}{t:TypeId}{x:AV}{K:AV->Option R}(a:∀i∈x.ids,s'.h i=s.h i):oR P s' c t x K=oR P s c t x K:=by
 unfold oR;cases x
 case row i n=>simp only [Dj (a i (by simp [AV.ids]))]
 all_goals first | rfl | (simp only [];rw [a _ (by simp [AV.ids])])
theorem U0{c:Option Bool}{t:TypeId}{x:AV}{b a d:Option Int}{K:AV->Option R}(e:∀i∈x.ids,s'.h i=s.h i):pn P s' c t x b a d K=pn P s c t x b a d K:=by unfold pn;cases x <;> (try rfl) <;> (simp only [];rw [e _ (by simp [AV.ids])])
theorem HT{t:TypeId}{x:AV}(a:∀i∈x.ids,s'.h i=s.h i):kF P s' t x=kF P s t x:=by
 unfold kF;cases x
 case own i=>simp only [a i (by simp [AV.ids])]
 case t z=>cases z <;> rfl
 all_goals rfl
theorem Mn{t:TypeId}{sz:Nat}{a:List T}{y:AV}{K:List (List T)->Option R}(b:∀i∈y.ids,s'.h i=s.h i):nv P s' t sz a y K=nv P s t sz a y K:=by unfold nv;rw [uL b]
theorem Mg{d:Nat}{t ty:TypeId}{x y:AV}{K:AV->aK->Option R}(a:∀i∈x.ids,s'.h i=s.h i)(b:∀i∈y.ids,s'.h i=s.h i):lZ P s' d false t ty x y K=lZ P s d false t ty x y K:=by
 unfold lZ;simp only [cond_false];cases x <;> simp only [Mn b]
 case own i=>rw [a i (by simp [AV.ids])]
 case part i sz off n=>rw [a i (by simp [AV.ids])]
 all_goals rfl
theorem QO{c:Option Bool}{t:TypeId}{x k:AV}{ok:Bool}{K:AV->Option R}(a:∀i∈x.ids,s'.h i=s.h i):oS P s' c t x k ok K=oS P s c t x k ok K:=by unfold oS;cases x <;> (try rfl) <;> (simp only [];rw [a _ (by simp [AV.ids])])
theorem S4{t:TypeId}{x k v:AV}{K:aK->Option R}(a:∀i∈x.ids,s'.h i=s.h i):o7 P s' t x k v K=o7 P s t x k v K:=by unfold o7;cases x <;> (try rfl) <;> (simp only [];rw [a _ (by simp [AV.ids])])
theorem Nn{t:TypeId}{x k:AV}{K:aK->Option R}(a:∀i∈x.ids,s'.h i=s.h i):oE P s' t x k K=oE P s t x k K:=by unfold oE;cases x <;> (try rfl) <;> (simp only [];rw [a _ (by simp [AV.ids])])
theorem GV{e:TypeId}{ev:Operand->AV}:∀{a:List (Nat×Operand)} {n:Nat},(∀x∈a.map (·.2),∀i∈(ev x).ids,h' i=h i)->jn P h' e ev n a=jn P h e ev n a
 | [],n,_=>rfl
 | (k,o)::a,n,b=>by simp only [jn];rw [KL (b o (by simp)),Hv (b o (by simp)),GV λx d=>b x (by simp only [Xq];exact W8 _ d)]
theorem GW{e:TypeId}{ev b:Operand->AV}:∀{a:List (Nat×Operand)} {n:Nat},(∀x∈a.map (·.2),b x=ev x)->jn P h e b n a=jn P h e ev n a
 | [],n,_=>rfl
 | (k,o)::a,n,d=>by simp only [jn];rw [d o (by simp),GW λx f=>d x (by simp only [Xq];exact W8 _ f)]
theorem Jz{t:TypeId}{ev b:Operand->AV}:∀{a:List (Nat×Operand)},(∀x∈a.map (·.2),b x=ev x)->qM P t b a=qM P t ev a
 | [],_=>rfl
 | (k,o)::a,d=>by simp only [qM];rw [d o (by simp),Jz λx e=>d x (by simp only [Xq];exact W8 _ e)]
theorem oN{g:Option Gs}{x:Operand}(a:∀k,x= .tmp k->s'.t k=s.t k):s'.get g x=s.get g x:=by
 cases x with
 | tmp k=>show(cond (mn (s'.t k).1 g) (s'.t k).2 AV.top)=cond (mn (s.t k).1 g) (s.t k).2 AV.top;rw [a k rfl]
 | _=>rfl
theorem HA{g:Option Gs}{b x:Operand}{w:Bool}(a:∀k,x= .tmp k->s'.t k=s.t k):s'.nP g b w x=s.nP g b w x:=by
 unfold St.nP;split
 .rw [a _ rfl]
 .exact oN a
set_option maxHeartbeats 1000000 in
theorem J2:∀{vs:List AV} {b:List AV} {i:Id} {n:Nat} {d:List AV},ju vs=some (b,i,n,d)->i∈cC vs
 | [],_,_,_,_,h=>by simp [ju] at h
 | v::r,b,i,n,d,h=>by
  unfold ju at h;split at h
  .cases h
  .rename_i i' g f a;simp only [Yh] at a;obtain⟨rfl,rfl⟩:=a;simp only [W5,XP] at h;obtain⟨rfl,rfl,rfl,rfl⟩:=h;simp [cC,AV.ids]
  .rename_i o f _ a;simp only [Yh] at a;obtain⟨rfl,rfl⟩:=a;obtain⟨q,e,h⟩:=W6.1 h;obtain⟨j,k,l,m⟩:=q;simp only [W5,XP] at h;obtain⟨rfl,rfl,rfl,rfl⟩:=h;simp only [cC,Xo];exact .inr (J2 e)
theorem Tg{R:Type}{P:Program}{s s':St}{e:TypeId}{d:Nat}{c:Option Bool}{v:AV}{K:AV->aK->Option R}(b:∀i∈v.ids,s'.h i=s.h i):pf P s' e d c v K=pf P s e d c v K:=by
 unfold pf;split
 .rename_i vs;split
  .rename_i f i n g a;rw [b i (by simp only [AV.ids];exact J2 a)]
  .rfl
 .rfl
theorem Hn(v:AV):(nN v).ids=v.ids:=by unfold nN;split <;> rfl
theorem kr{g:Option Gs}{o:Oper}(I:∀x∈o.op.operands,∀k,x= .tmp k->s'.t k=s.t k)(N:gh P o=true\/jO o=true\/s'.h=s.h\/(fq A o=false/\fj A o=false/\∀x∈o.op.operands,∀i∈(s.get g x).ids,s'.h i=s.h i)):
  dt P A O g o s'=dt P A O g o s:=by
 have j:∀x∈o.op.operands,s'.get g x=s.get g x:=λx m=>oN (I x m);have l:gh P o=true\/jO o=true\/∀x∈o.op.operands,∀i∈(s.get g x).ids,s'.h i=s.h i:=by
  rcases N with h | h | h | h
  .exact .inl h
  .exact .inr (.inl h)
  .exact .inr (.inr λ_ _ i _=>by rw [h])
  .exact .inr (.inr h.2.2)
 have hw:∀cl,o.op= .call cl->∀f,cl.callee= .value f->gh P o=false:=by intro cl U f h2;simp [gh,U,h2]
 have hal:∀cl,o.op= .call cl->jO o=false:=by intro cl U;simp [jO,U]
 have Q:gh P o=true\/jO o=true\/s'.h=s.h\/(fq A o=false/\fj A o=false):=N.imp id (Or.imp id (Or.imp id λh=>⟨h.1,h.2.1⟩));unfold dt jF;cases B:o.op <;> rw [B] at I j l <;> simp only [gh,jO,B,XD,false_or] at l <;> dsimp only <;> simp only [Op.operands] at I j l
 case pick a b x=>rw [j a (by simp),HA (I b (by simp)),HA (I x (by simp))]
 case build t ps=>unfold x9;rw [Jz (ev:=s.get g) (by simpa using j)]
 case buildSlice t n ps=>
  have C:∀e,jn P s'.h e (s'.get g) 0 ps.toList=jn P s.h e (s.get g) 0 ps.toList:=λe=>by rw [GW (ev:=s.get g) (by simpa using j),GV (by simpa using l)]
  simp only [C];congr 1;funext e;split
  .split
   .rename_i x _ E;rw [j x (by simp [E])]
   .rfl
  .split
   .split
    .rename_i x E;rw [j x (by simp [E])];exact Tg (l x (by simp [E]))
    .rfl
   .rfl
 case load t x=>rw [j x (by simp),QG (l x (by simp))]
 case store t x y=>rw [j x (by simp),j y (by simp),Vg (l x (by simp)) (l y (by simp))]
 case binOp op t x y ty=>
  rw [j x (by simp),j y (by simp)];rcases l with l | l
  .simp only [X6,X0] at l;rw [l.1,l.2];cases op <;> rfl
  .rw [HT (l x (by simp)),HT (l y (by simp))]
 case convert src dst x=>rw [j x (by simp),uL (l x (by simp))]
 case makeFunc fn L G=>
  cases fn <;> try rfl
  have C:L.toList.map (s'.get g)=L.toList.map (s.get g):=XI λx m=>j x (by simp at m⊢;exact .inl m);have e2:G.toList.map (s'.get g)=G.toList.map (s.get g):=XI λx m=>j x (by simp at m⊢;exact .inr m);simp only [C,e2]
 case slice t x Z q mx=>
  have eb:∀(o:Option Operand) (c:Option Bool) (K:Option Int->Option (AV×aK)),(∀y,o=some y->y∈#[x] ++Z.toArray++q.toArray++mx.toArray)->jJ s' c g o K=jJ s c g o K:=by
   intro o c K hm;unfold jJ;cases o with
   | none=>rfl
   | some y=>simp only [j y (hm y rfl)]
  have m:x∈#[x] ++Z.toArray++q.toArray++mx.toArray:=by simp
  rw [j x m];simp only [U0 (l x m)];rw [eb Z _ _ (by intro y e;subst e;simp)];congr 1;funext lo';rw [eb q _ _ (by intro y e;subst e;simp)];congr 1;funext hi';rw [eb mx _ _ (by intro y e;subst e;simp)]
 case indexAddr t x i=>rw [j x (by simp),j i (by simp)];simp only [Qk (l x (by simp))]
 case call cl=>
  simp only [Call.operands] at j l;split
  .rename_i p;split
   .rename_i x t ts m _;have hm:x∈(match cl.callee with | .value f=> #[f] | .invoke r _=> #[r] | .builtin _=> #[])++cl.args:=by
     simp [<-Array.mem_toList_iff,m]
    rw [j x hm];rcases l with l | l
    .simp [p] at l
    .exact Qv (l x hm)
   .rfl
  .rename_i p;split
   .rename_i x y t u _ m _;have hm:∀z,(z=x\/z=y)->z∈(match cl.callee with | .value f=> #[f] | .invoke r _=> #[r] | .builtin _=> #[])++cl.args:=by
     intro z Y;simp [<-Array.mem_toList_iff,m,Y]
    rw [j x (hm x (.inl rfl)),j y (hm y (.inr rfl))];rcases l with l | l
    .simp [p] at l
    .cases hn:(A.mN o.dst o.type==3) with
     | false=>exact Mg (l x (hm x (.inl rfl))) (l y (hm y (.inr rfl)))
     | true=>
      rcases Q with h | h | h | h
      .simp [gh,B,p] at h
      .simp [jO,B] at h
      .have:∀(d:Nat) (b:Bool) (t ty:TypeId) (x y:AV) (K:AV->aK->Option (AV×aK)),lZ P s' d b t ty x y K=lZ P s d b t ty x y K:=λd b t ty x y K=>by
        unfold lZ rI nv;rw [h]
       exact this _ _ _ _ _ _ _
      .have:=h.2;simp [fj,B,p,hn] at this
   .rfl
  .have C:cl.args.toList.map (s'.get g)=cl.args.toList.map (s.get g):=XI λx m=>j x (by simp at m⊢;exact .inr m);rw [C]
  .have C:cl.args.toList.map (s'.get g)=cl.args.toList.map (s.get g):=XI λx m=>j x (by simp at m⊢;exact .inr m);rw [C]
  .rename_i p;split
   .rename_i x y t ts _ m _;have hm:∀z,(z=x\/z=y)->z∈(match cl.callee with | .value f=> #[f] | .invoke r _=> #[r] | .builtin _=> #[])++cl.args:=by
     intro z Y;simp [<-Array.mem_toList_iff,m,Y]
    rw [j x (hm x (.inl rfl)),j y (hm y (.inr rfl))];rcases l with l | l
    .simp [p] at l
    .exact Nn (l x (hm x (.inl rfl)))
   .rfl
  .rename_i p;split
   .rename_i x t ts m _;have hm:x∈(match cl.callee with | .value f=> #[f] | .invoke r _=> #[r] | .builtin _=> #[])++cl.args:=by
     simp [<-Array.mem_toList_iff,m]
    rw [j x hm]
   .rfl
  .rename_i F p;have C:cl.args.toList.map (s'.get g)=cl.args.toList.map (s.get g):=XI λx m=>j x (by simp at m⊢;exact .inr m);have M:F∈(match cl.callee with | .value f=> #[f] | .invoke r _=> #[r] | .builtin _=> #[])++cl.args:=by simp [p]
   rw [C,j F M];rcases l with l | l
   .simp [p] at l
   .cases J:nN (s.get g F) <;> try rfl
    rename_i f a b;have D:=l F M;rw [<-Hn,J] at D;simp only [AV.ids,Xo] at D;refine M2 ?_;have V:∀i∈cC (a++cl.args.toList.map (s.get g)++b),s'.h i=s.h i:=by
     intro i q;rcases we.1 q with q | q
     .rcases we.1 q with q | q
      .exact D i (.inl q)
      .obtain⟨v,J,q⟩:=Cb q;obtain⟨x,m,rfl⟩:=XB.1 J;exact l x (by simp at m⊢;exact .inr m) i q
     .exact D i (.inr q)
    rcases Q with h | h | h | h
    .rw [hw cl B F p] at h;cases h
    .rw [hal cl B] at h;cases h
    .exact .inl h
    .obtain⟨h,X⟩:=h;simp only [fq,B,p] at h;simp only [fj,B,p] at X;cases F with
     | func f'=>
      simp only [St.get,nN] at J;obtain⟨rfl,_,_⟩:f'=f/\_/\_:=by simpa using J
      cases hb:A.jm f' with
      | some x=>dsimp only at h;rw [hb] at h;simp at h
      | none=>exact .inr ⟨rfl,rfl,X,V⟩
     | _=>simp at X
  .rfl
 case move x=>rw [j x (by simp)]
 case assign x=>rw [j x (by simp)]
 case box t x=>rw [j x (by simp)]
 case nilCheck x=>rw [j x (by simp)]
 case unOp op t x=>rw [j x (by simp)]
 case makeSlice t x y=>rw [j x (by simp),j y (by simp)]
 case lookup t x k ok=>rw [j x (by simp),j k (by simp),QO (l x (by simp))]
 case mapUpdate t x k v=>rw [j x (by simp),j k (by simp),j v (by simp),S4 (l x (by simp))]
 case fieldAddr t x f=>rw [j x (by simp)]
 case field t x f=>rw [j x (by simp)]
 case index t x i=>rw [j x (by simp),j i (by simp)]
 case extract x k=>rw [j x (by simp)]
theorem Ms{eV:List Id}{b:Bool}{v:AV}(a:∀i∈v.ids,h' i=h i):vw h' eV b v=vw h eV b v:=by unfold vw;rw [EH a]
theorem EE{eV:List Id}:∀{a:List Bool} {vs:List AV},(∀i∈cC vs,h' i=h i)->ny h' eV a vs=ny h eV a vs
 | _,[],_=>by simp [ny]
 | a,v::vs,d=>by simp only [ny];rw [Ms λi b=>d i (lE.2 (.inl b)),EE λi b=>d i (lE.2 (.inr b))]
theorem At{N:Id->Prop}:∀{us:aK} {h h':Id->Option ad},(∀i,¬N i->h' i=h i)->∀i,¬N i->aR h' us i=aR h us i
 | [],_,_,a,i,d=>a i d
 | (j,b)::us,h,h',a,i,d=>by
  rw [dx,dx];refine At (N:=N) (λk f=> ?_) i d;by_cases e:k=j
  .subst e;rw [aH,aH]
  .rw [ay _ _ e,ay _ _ e];exact a k f
theorem SP{N:Id->Prop}{new i:Id}{k sz:Nat}{us:aK}(a:∀i,¬N i->h' i=h i)(f:¬N i)(d:¬N new)(o:∀p∈us,¬N p.1)(e:qL h new i k sz=some us):qL h' new i k sz=some us:=by
 unfold qL at e⊢;cases l:Nat.ble 100000 sz with
 | true=>rw [l,cond_true] at e;rw [cond_true];unfold uC at e⊢;rw [a i f,a new d];exact e
 | false=>
 rw [l,cond_false] at e;rw [cond_false];rw [a i f,a new d];split at e
 .rename_i cs f
  try simp only [f]
  split at e
  .exact e
  .exact e
  .exact e
  .rename_i j v n x;split at e
   .rename_i u b xs r;split at e
    .rename_i q;have g:¬N j:=by
      cases m:(h new).isNone with
      | false=>rw [m] at e;simp at e
      | true=>rw [m] at e;simp only [cond_true,W5] at e;subst e;exact o (j,_) W7
     rw [a j g,r];simp only [if_pos q];exact e
    .cases e
   .cases e
  .cases e
 .cases e
theorem JE{N:Id->Prop}{nm:Nat}(a:∀k,¬N (.s nm k)):∀{l:List (Id×Nat×Nat)} {j:Nat} {h h':Id->Option ad} {us:aK},(∀i,¬N i->h' i=h i)->(∀q∈l,¬N q.1)->(∀p∈us,¬N p.1)->lH nm j h l=some us->lH nm j h' l=some us
 | [],_,_,_,_,_,_,_,e=>e
 | (i,k,sz)::l,j,h,h',us,f,hl,b,e=>by simp only [lH] at e⊢;obtain⟨r,g,e⟩:=W6.1 e;obtain⟨u,m,e⟩:=W6.1 e;simp only [W5] at e;subst e;rw [SP f (hl (i,k,sz) W7) (a j) (λp d=>b p (Xp _ d)) g];simp only [Xb];rw [JE a (At f) (λq o=>hl q (W8 _ o)) (λp d=>b p (Xn _ d)) m];rfl
theorem w6:∀{n:Nat} {todo a seen:List Id},fV h n todo a=some seen->(∀i∈seen,h' i=h i)->fV h' n todo a=some seen
 | 0,todo,a,seen,e,_=>by simp [fV] at e
 | n+1,[],a,seen,e,_=>e
 | n+1,i::todo,a,seen,e,hs=>by
  simp only [fV] at e⊢;cases b:a.contains i with
  | true=>rw [b,cond_true] at e;rw [cond_true];exact w6 e hs
  | false=>
   rw [b,cond_false] at e;rw [cond_false];have hm:i∈seen:=by
    have:a++ [i] <+:seen:=by
     split at e
     .exact qN e
     .exact qN e
     .exact qN e
     .cases e
    exact this.subset (Xn _ (Xi.2 rfl))
   rw [hs i hm];split at e
   .exact w6 e hs
   .exact w6 e hs
   .exact w6 e hs
   .cases e
theorem Bk:∀{l seen:List Id},∀i∈rR l seen,i∈l
 | [],_,i,a=>by simp [rR] at a
 | j::l,seen,i,a=>by
  simp only [rR] at a;cases b:seen.contains j with
  | true=>rw [b,cond_true] at a;exact W8 _ (Bk i a)
  | false=>
   rw [b,cond_false] at a;rcases Xl.1 a with rfl | a
   .exact W7
   .exact W8 _ (Bk i a)
theorem zM{i:Id}:∀{l:List cH} {k:Nat},∀q∈pd i k l,q.1=i
 | [],_,q,a=>by simp [pd] at a
 | r::l,k,q,a=>by
  cases r with
  | own sz=>
   simp only [pd] at a;rcases Xl.1 a with rfl | a
   .rfl
   .exact zM q a
  | rows sz col rsz=>
   simp only [pd] at a;rcases Xl.1 a with rfl | a
   .rfl
   .exact zM q a
  | _=>simp only [pd] at a;exact zM q a
theorem Dd:∀{e:List Id} {d:List kO},∀q∈pe e d,q.1∈e
 | [],d,q,a=>by cases d <;> simp [pe] at a
 | i::e,[],q,a=>by simp [pe] at a
 | i::e,b::d,q,a=>by
  cases b with
  | box l=>
   simp only [pe,Xo] at a;rcases a with a | a
   .rw [zM q a];exact W7
   .exact W8 _ (Dd q a)
  | _=>simp only [pe] at a;exact W8 _ (Dd q a)
theorem M1{N:Id->Prop}{d:Nat}{c:Option Bool}{f:FuncId}{args:List AV}{v:AV}{us:aK}(F:∀i,¬N i->s'.h i=s.h i)(M:A.deep f=false)(m:∀i∈cC args,¬N i)(G:∀k,¬N (.s (2000000+d) k))(E:∀p∈us,¬N p.1)
  (e:im P A O s d c f args (λv u=>some (v,u))=some (v,us)):im P A O s' d c f args (λv u=>some (v,u))=some (v,us):=by
 cases K:A.jm f with
 | none=>rw [Bb (.inr ⟨K,M,λi l=>F i (m i l)⟩)];exact e
 | some Y=>
  unfold im at e⊢;cases D:P.funcs[f]? with
  | none=>rw [D] at e;simp at e
  | some fn=>
   simp only [D,K] at e⊢;cases c with
   | some b=>simp at e
   | none=>
    simp only at e⊢;rw [EE λi l=>F i (m i l)];obtain⟨p,U,e⟩:=W6.1 e;rw [U,Xb];obtain⟨a,I,e⟩:=W6.1 e;obtain⟨seen,o,e⟩:=W6.1 e;obtain⟨_,_,J,_,_⟩:=w7 o ZK (by simp) (by simp);have L:=e;have g:(∀q∈a,¬N q.1)/\∀i∈seen,¬N i:=by
     cases C:(zy d seen && Nat.beq (iJ (seen.map λi=>iQ seen (aR (aR s.h p.2) a i)).head?) (iJ ((cC p.1).head?.bind (aR s.h p.2)))) with
     | false=>rw [C] at e;simp at e
     | true=>
      rw [C,cond_true] at e;obtain⟨Z,e,_⟩:=Ar (.inl rfl) e;obtain⟨xs,_,e⟩:=aW e (.inl rfl);rw [show ∀(n:Nat),(eT seen d none 0 (dQ P A f n fn) xs λvs u j=>gX seen d j seen (iP A f n) (xs.drop (oa (dQ P A f n fn))) λq=>(some (mV vs,p.2++a++lA seen++u++q):Option (AV×aK)))=
       ((eT seen d none 0 (dQ P A f n fn) xs λvs u j=>some (vs,u,j)).bind λz=>(gX seen d z.2.2 seen (iP A f n) (xs.drop (oa (dQ P A f n fn))) some).bind λq=>some (mV z.1,p.2++a++lA seen++z.2.1++q)) from λn=>by
        rw [rP];congr 1;funext vs u j;simp only [Xb];rw [yw];rfl] at e
      obtain⟨z,_,e⟩:=W6.1 e;obtain⟨q,_,e⟩:=W6.1 e;simp only [W5,XP] at e;obtain⟨_,rfl⟩:=e;refine⟨λx X=>E x ?_,λi l=>E (i, .dead) ?_⟩
      .exact Xp _ (Xp _ (Xp _ (Xn _ X)))
      .exact Xp _ (Xp _ (Xn _ (XB.2 ⟨i,l,rfl⟩)))
    have r:∀i,¬N i->aR s'.h p.2 i=aR s.h p.2 i:=At F;have B:∀i,¬N i->aR (aR s'.h p.2) a i=aR (aR s.h p.2) a i:=At r;have y:(cC p.1).head?.bind (aR s'.h p.2)= (cC p.1).head?.bind (aR s.h p.2):=by
     cases Q:(cC p.1).head? with
     | none=>rfl
     | some i=>exact r i (g.2 i (J i (List.mem_of_mem_head? (by rw [Q];rfl))))
    rw [y];rw [JE G r (λq V=>g.2 q.1 (J q.1 (Bk q.1 (Dd q V)))) g.1 I,Xb];rw [w6 o λi l=>B i (g.2 i l),Xb];have hm:(seen.map λi=>iQ seen (aR (aR s'.h p.2) a i))=seen.map λi=>iQ seen (aR (aR s.h p.2) a i):=XI λi l=>by rw [B i (g.2 i l)]
    rw [hm];exact L
theorem xX{N:Id->Prop}{g:Option Gs}{o:Oper}{v:AV}{us:aK}(K:∀x∈o.op.operands,∀k,x= .tmp k->s'.t k=s.t k)(J:∀i,¬N i->s'.h i=s.h i)(z:fj A o=false)(l:∀x∈o.op.operands,∀i∈(s.get g x).ids,¬N i)
  (F:∀k,¬N (.s (2000000+o.dst.getD 0) k)) (L:∀p∈us,¬N p.1) (e:dt P A O g o s=some (v,us)):dt P A O g o s'=some (v,us):=by
 cases G:fq A o with
 | false=>rw [kr (s:=s) K (.inr (.inr (.inr ⟨G,z,λx q i d=>J i (l x q i d)⟩)))];exact e
 | true=>
  have C:∀x∈o.op.operands,s'.get g x=s.get g x:=λx q=>oN (K x q);cases y:o.op <;> simp only [fq,y,XD] at G;rename_i cl;cases j:cl.callee <;> simp only [j,XD] at G;rename_i u;unfold dt jF at e⊢;rw [y] at e l C⊢;simp only [Op.operands,Call.operands] at l C;simp only [j] at e⊢;have M:cl.args.toList.map (s'.get g)=cl.args.toList.map (s.get g):=XI λx q=>C x (by simp at q⊢;exact .inr q);have E:u∈(match cl.callee with | .value f=> #[f] | .invoke r _=> #[r] | .builtin _=> #[])++cl.args:=by simp [j]
  rw [M,C u E];cases B:nN (s.get g u) <;> rw [B] at e <;> simp only [reduceCtorEq] at e;rename_i f a b;have m:=l u E;rw [<-Hn,B] at m;simp only [AV.ids,Xo] at m;have D:A.deep f=false:=by
   simp only [fj,y,j] at z;cases u with
   | func I=>
    simp only [St.get,nN] at B;obtain⟨rfl,_,_⟩:I=f/\_/\_:=by simpa using B
    exact z
   | _=>simp at z
  have hl:Ix u=false:=by
   simp only [fj,y,j] at z;cases u with
   | func I=>rfl
   | _=>simp at z
  dsimp only at e⊢;rw [hl,M3] at e⊢;refine M1 J D ?_ F L e;intro i d;rcases we.1 d with d | d
  .rcases we.1 d with d | d
   .exact m i (.inl d)
   .obtain⟨v,B,d⟩:=Cb d;obtain⟨x,q,rfl⟩:=XB.1 B;exact l x (by simp at q⊢;exact .inr q) i d
  .exact m i (.inr d)
end
open Go Go.IntKind
section
variable {P:Program} {An:cW} {Or:aq} {w w':World} {A A':Nat->Prop} {c:Ctx} {ρ:Id->Option Value} {O:Id->Option Nat} {s s' s1 s2:St} {h:Id->Option ad} {ops:Array Oper} {nt:Nat}
structure vp (P:Program) (An:cW) (Or:aq) (nt:Nat) (ops:Array Oper) (o:Oper) (s:St) (g:Option Gs) (v:AV) (us:aK):Prop where
 guard:dN ops o s some=some g
 op:dt P An Or g o s=some (v,us)
 ok:oZ P An true nt ops o g s v us=true
 eV:kH An true o s.h us=true
theorem KQ{o:Oper}{g:Option Gs}:sR An true o g=none:=by cases g <;> rfl
theorem CY{o:Oper}(e:fU P An Or true nt ops o s=some s'):∃g v us,vp P An Or nt ops o s g v us/\s'=s.put (eH ops o.dst) o.dst g v us:=by
 unfold fU qK at e;rw [yZ] at e;replace e:=W6.1 e;obtain⟨g,f,e⟩:=e;rw [KQ] at e;dsimp only at e;rw [th] at e;replace e:=W6.1 e;obtain⟨⟨v,us⟩,d,e⟩:=e;dsimp only at e;rw [wq] at e;cases a:kH An true o s.h us with
 | false=>rw [a] at e;cases e
 | true=>
  rw [a,cond_true] at e;split at e
  .rename_i b;simp only [W5] at e;exact⟨g,v,us,⟨f,d,b,a⟩,e.symm⟩
  .simp at e
theorem vp.fU{o:Oper}{g:Option Gs}{v:AV}{us:aK}(a:vp P An Or nt ops o s g v us):fU P An Or true nt ops o s=some (s.put (eH ops o.dst) o.dst g v us):=by unfold Aev.fU qK;rw [yZ,a.guard,Xb,KQ];dsimp only;rw [th,a.op,Xb];dsimp only;rw [wq,a.eV,cond_true,if_pos a.ok]
def sW(ops:Array Oper)(a:Array Bool)(s:St):Prop:= ∀k g v,s.t k= (some g,v)->∃i o,ops[i]? =some o/\a.getD i false=true/\o.dst=some g.d
theorem rS{d:Nat}{o:Oper}(a:o.dst=some d):∀(l:List Oper),o∈l->d∈iu l:=by
 intro l;induction l with
 | nil=>intro hm;cases hm
 | cons x l b=>
  intro hm;simp only [iu];rcases Xl.1 hm with rfl | hm
  .rw [a];exact W7
  .have:=b hm;split
   .exact W8 _ this
   .exact this
theorem FD:∀{l:List Oper},wL (iu l)=true->∀{i j:Nat} {x y:Oper} {d:Nat},l[i]? =some x->l[j]? =some y->x.dst=some d->y.dst=some d->i=j
 | [],_,i,j,x,y,d,b,_,_,_=>by simp at b
 | z::l,a,i,j,x,y,d,b,f,k,m=>by
  have g:wL (iu l)=true/\∀d,z.dst=some d->d∉iu l:=by
   simp only [iu] at a;cases o:z.dst with
   | none=>rw [o] at a;exact⟨a,λd h=>by cases h⟩
   | some e=>
    rw [o] at a;simp only [wL,Xf,X6] at a;refine⟨a.2,λd h=> ?_⟩;simp only [W5] at h;subst h;intro hm;have:(iu l).contains e=true:=by simpa using hm
    rw [this] at a;cases a.1
  cases i with
  | zero=>
   simp only [XM,W5] at b;subst b;cases j with
   | zero=>rfl
   | succ j=>simp only [Yn] at f;exact(g.2 d k (rS m _ (Xg f))).elim
  | succ i=>
   simp only [Yn] at b;cases j with
   | zero=>simp only [XM,W5] at f;subst f;exact(g.2 d m (rS k _ (Xg b))).elim
   | succ j=>simp only [Yn] at f;rw [FD g.1 b f k m]
def td(ops:Array Oper):Prop:= ∀{i j:Nat} {x y:Oper} {d:Nat},ops[i]? =some x->ops[j]? =some y->x.dst=some d->y.dst=some d->i=j
theorem xt{a:Array Bool}{i:Nat}(h:a.getD i true=false):a.getD i false=true->False:=by
 intro d;rw [YC] at h d;cases e:a[i]? with
 | none=>rw [e] at h;simp at h
 | some b=>rw [e] at h d;simp at h d;rw [h] at d;cases d
theorem C9{a:Array Bool}{i:Nat}{o:Oper}{g:Option Gs}{v:AV}{us:aK}(z:td ops)(y:ops[i]? =some o)(hl:a.getD i true=false)(x:sW ops a s)(b:Bool):
  s.put b o.dst g v us=s.put false o.dst g v us:=by
 unfold St.put;cases u:o.dst with
 | none=>rfl
 | some d=>
  simp only [St.mk.injEq,and_true];funext k;split
  .rfl
  .cases b with
   | false=>rfl
   | true=>
    simp only [cond_true,cond_false];cases p:s.t k with
    | mk f vk=>
     cases f with
     | none=>rfl
     | some f=>
      simp only [nK];cases m:(f.d==d) with
      | false=>rfl
      | true=>
       exfalso;obtain⟨j,B,q,r,l⟩:=x k f vk p;have e:f.d=d:=by simpa using m
       rw [e] at l;have:=z q y l u;subst this;exact xt hl r
theorem gq{o:Oper}{k:Nat}(h:(.tmp k:Operand)∈o.op.operands):k∈o.looksAt ops:=by unfold Oper.looksAt;refine Xp _ (ZE.2 ⟨.tmp k,by simpa using h,rfl⟩)
theorem IG{o:Oper}{j d:Nat}{b:Bool}(h:o.guard=some (j,b))(a:(ops[j]?).bind (·.dst)=some d):d∈o.looksAt ops:=by unfold Oper.looksAt;refine Xn _ ?_;rw [h];simp [a]
theorem sN{b:Bool}{o:Oper}{g:Option Gs}{v:AV}{us:aK}{k:Nat}(f:o.dst≠some k):(s.put false o.dst g v us).t k=s.t k:=by
 unfold St.put;cases a:o.dst with
 | none=>rfl
 | some d=>have:k≠d:=λe=>f (by rw [a,e]);simp [if_neg this]
theorem HI{o:Oper}(f:∀j b d,o.guard=some (j,b)->(ops[j]?).bind (·.dst)=some d->s'.t d=s.t d):dN ops o s' some=dN ops o s some:=by
 unfold dN;cases e:o.guard with
 | none=>rfl
 | some p=>
  obtain⟨j,b⟩:=p;simp only;cases a:(ops[j]?).bind (·.dst) with
  | none=>rfl
  | some d=>simp only [f j b d e a]
theorem Au:∀{us:aK} {h:Id->Option ad} {i:Id},aR h us i=none->(∀q∈us,q.1≠i)/\h i=none
 | [],h,i,e=>⟨by simp,e⟩
 | (j,x)::us,h,i,e=>by
  rw [dx] at e;obtain⟨f,b⟩:=Au e;by_cases a:i=j
  .subst a;rw [aH] at b;cases b
  .rw [ay _ _ a] at b;refine⟨λq d=> ?_,b⟩;rcases Xl.1 d with rfl | d
   .exact λe=>a e.symm
   .exact f q d
theorem I4{o:Oper}{g:Option Gs}(a:∀x∈o.op.operands,s'.get g x=s.get g x):qD ops g o s'=qD ops g o s:=by
 unfold qD;have key:∀l:List Operand,(∀x∈l,s'.get g x=s.get g x)->(l.all λx=>(s'.get g x).ids.all λi=>match i with
  | .s d _=>tu ops o d
  | .c _=>true
  | .g _ _=>false)= (l.all λx=>(s.get g x).ids.all λi=>match i with
  | .s d _=>tu ops o d
  | .c _=>true
  | .g _ _=>false):=by
  intro l;induction l with
  | nil=>intro _;rfl
  | cons x l f=>intro h;rw [Yp,Yp,h x W7,f λy e=>h y (W8 _ e)]
 exact key _ λx b=>a x (by simpa using b)
theorem zq{o:Oper}{g:Option Gs}(l:qD ops g o s=true){x:Operand}(v:x∈o.op.operands){d k:Nat}(u:Id.s d k∈(s.get g x).ids){i:Nat}{m:Oper}(a:ops[i]? =some m)(q:m.dst=some d):
  ∃e∈o.after,Region.binds .any e=true/\(e.on=i\/iV ops 12 e.on i=true):=by
 unfold qD at l;have p:=Xw.1 l x (by simpa using v);have b:=Xw.1 p _ u;simp only at b;unfold tu at b;have f:=Xw.1 b i (Z3.2 (ZA.1 a).1);rw [a] at f;simp only [q,BEq.rfl,Xc,XG] at f;obtain⟨e,r,j⟩:=Zp.1 f;simp only [Xf,XT,beq_iff_eq] at j;exact⟨e,r,j.1,j.2⟩
theorem gZ{o:Oper}{us:aK}(b:mf o us=true){i:Id}(a:∃q∈us,q.1=i):∃d k,i= .s d k/\o.dst=some d:=by
 obtain⟨q,f,rfl⟩:=a;have:=Xw.1 b q f;split at this
 .rename_i d k e;exact⟨d,k,e,by simpa using this⟩
 .simp at this
 .simp at this
theorem VM{us vs:aK}(a:∀p∈us,∀q∈vs,p.1≠q.1):∀{h:Id->Option ad},aR (aR h us) vs=aR (aR h vs) us:=by
 induction us with
 | nil=>intro h;rfl
 | cons p us g=>intro h;obtain⟨i,b⟩:=p;rw [dx,dx,g (λp d=>a p (W8 _ d)),xu (λq f e=>a (i,b) W7 q f e.symm)]
def sU(ops:Array Oper)(a:Array Bool):Prop:= ∀k ok,ops[k]? =some ok->a.getD k false=true->∀e∈ok.after,Region.binds .any e=true->a.getD e.on false=true
theorem AY{a:Array Bool}(f:sU ops a){i:Nat}(m:a.getD i true=false):∀{n j:Nat} {d:Oper},ops[j]? =some d->(∀e∈d.after,Region.binds .any e=true->a.getD e.on false=true)->iV ops n j i=false
 | 0,j,d,_,_=>rfl
 | n+1,j,d,q,g=>by
  simp only [iV,q];rw [Array.any_eq_false'];intro e p l;simp only [Xf,XT,beq_iff_eq] at l;obtain⟨o,b⟩:=l;have hl:=g e p o;rcases b with b | ⟨_,b⟩
  .exact xt m (b▸hl)
  .cases k:ops[e.on]? with
   | none=>
    cases n with
    | zero=>simp [iV] at b
    | succ n=>simp [iV,k] at b
   | some ok=>rw [AY f m k (f e.on ok k hl)] at b;cases b
theorem DI{a b:Oper}(h:lN An ops a b=true):∃k d,hJ ops a=some k/\hJ ops b=some d/\k≠d/\k∉iu ops.toList/\d∉iu ops.toList:=by
 unfold lN at h;simp only [Xf] at h;obtain⟨_,h⟩:=h;split at h
 .rename_i k d e f;simp only [Xf,X6,beq_eq_false_iff_ne,ne_eq] at h;obtain⟨⟨g,i⟩,j⟩:=h;exact⟨k,d,e,f,g,by simpa using i,by simpa using j⟩
 .cases h
theorem Vc{a b:Oper}(h:lN An ops a b=true):lN An ops b a=true:=by have h0:=h;unfold lN at h0;simp only [Xf] at h0;obtain⟨k,l,d,f,g,i,j⟩:=DI h;unfold lN;rw [d,f,h0.1];simp only [XR,Xf,X6,beq_eq_false_iff_ne,ne_eq];exact⟨⟨λe=>g e.symm,by simpa using j⟩,by simpa using i⟩
theorem KV{o b:Oper}{us:aK}{k e:Nat}(h:lO P An ops o s us=true)(hm:b∈ops)(f:lN An ops o b=true)(m:hJ ops o=some k)(d:hJ ops b=some e):
  (∀x∈o.op.operands,∀i∈(s.get none x).ids,i∈(s.t k).2.ids)/\(∀p∈us,p.1∈(s.t k).2.ids)/\(∀p∈us,p.1∉(s.t e).2.ids):=by
 have a:=XX.1 h b hm;simp only [Xf] at a;replace a:=a.1.1.1.1;rw [f] at a;simp only [Xc,XG,DK,m,d,Xf,Xw,decide_eq_true_eq] at a;obtain⟨⟨g,j⟩,l⟩:=a;exact⟨λx q=>g x (Array.mem_toList_iff.2 q),j,l⟩
theorem wC{a b:Oper}(h:jQ P An ops a b=true):(∃k,jS ops b=some (some k)/\k∉iu ops.toList)\/jS ops b=some none:=by
 unfold jQ at h;simp only [Xf] at h;obtain⟨_,h⟩:=h;split at h
 .rename_i k d;exact .inl ⟨k,d,by simpa using h⟩
 .rename_i d;exact .inr d
 .cases h
theorem It{a b:Oper}(h:jQ P An ops a b=true):a.guard=none/\aG P An a=true/\fq An a=false/\fj An a=false:=by
 unfold jQ at h;simp only [Xf] at h;obtain⟨⟨_,⟨_,h⟩,_⟩,_⟩:=h;unfold EA at h;simp only [Xf,Zh] at h;obtain⟨⟨i,j⟩,e⟩:=h;refine⟨i,j, ?_⟩;split at e
 .rename_i cl d;split at e
  .rename_i g;simp only [X6] at e;simp [fq,fj,d,g,e]
  .rename_i f g;simp only [Xf,Zh,X6] at e;simp [fq,fj,d,g,e.1,e.2]
  .cases e
 .rename_i d;simp [fq,fj,d]
 .rename_i d;simp [fq,fj,d]
 .cases e
theorem Iu{a b:Oper}(h:jQ P An ops a b=true):aG P An b=false:=by unfold jQ at h;simp only [Xf,X6] at h;exact h.1.2.1.1
theorem Te{o:Oper}{r:Option Nat}(h:jS ops o=some r):o.guard=none:=by
 unfold jS at h;split at h
 .rename_i a b;exact a
 .rename_i a b;exact a
 .cases h
theorem JZ{o:Oper}{r:Option Nat}(d:aG P An o=false)(h:jS ops o=some r):o.guard=none/\aG P An o=false/\fq An o=false/\fj An o=false:=by
 unfold jS at h;split at h
 .rename_i b a;simp [b,aG,fq,fj,a]
 .rename_i b a;exact⟨b,d,by simp [fq,a],by simp [fj,a]⟩
 .cases h
theorem Tf{o:Oper}{k:Nat}(h:jS ops o=some (some k)):hJ ops o=some k:=by
 unfold jS at h;split at h
 .rename_i a b;simp only [W5] at h;subst h;simp [hJ,a,b]
 .cases h
 .cases h
theorem sd{o:Oper}{k:Bool}(h:kG P o k=true):∃t a y,o.guard=none/\o.op= .store t (.tmp a) y:=by
 unfold kG at h;split at h
 .rename_i t a y b d;exact⟨t,a,y,b,d⟩
 .cases h
theorem Vj{k off:Nat}{l:List T}{xs a:List (List T)}(h:jd k off l xs=some a):a.length=xs.length:=by
 unfold jd at h;split at h
 .split at h
  .simp only [W5] at h;subst h;simp
  .cases h
 .cases h
theorem H9{t:TypeId}{a v B:AV}{us:aK}(h:jW P s t a v (λu=>some (AV.top,u))=some (B,us))(f:ka us=true):
  ∃i sz k off j rsz X,a= .el i sz k off/\v= .own j/\(∃bb xs,s.h j=some (.sl false rsz bb xs))/\rsz≠1/\us= [(j, .dead),(i,X)]/\∃b d col g es x es',s.h i=some (.rows b d col rsz g es)/\X= .rows b d col rsz x es'/\es'.length=es.length:=by
 unfold jW at h;cases r:cB P t with
 | false=>rw [r] at h;cases h
 | true=>
  rw [r,cond_true] at h;split at h
  .split at h
   .split at h
    .simp only [W5,XP] at h;obtain⟨_,rfl⟩:=h;simp [ka] at f
    .cases h
   .cases h
  .rename_i i sz k off;split at h
   .obtain⟨l,_,h⟩:=W6.1 h;split at h
    .replace h:=aW h (.inl rfl);obtain⟨C,_,h⟩:=h;simp only [W5,XP] at h;obtain⟨_,rfl⟩:=h;simp [ka] at f
    .cases h
   .rename_i b d col rsz g es y;split at h
    .rename_i j;split at h
     .rename_i m b' xs z;split at h
      .rename_i o;have q:=o.2.2.1;subst q;replace h:=aW h (.inl rfl);obtain⟨e,_,h⟩:=h;simp only [W5,XP] at h;obtain⟨_,rfl⟩:=h;refine⟨i,sz,k,off,j,m,_,rfl,rfl,⟨_,_,z⟩, ?_,rfl,b,d,col,g,es,_,_,y,by rw [show sz=d from o.1.symm],by simp⟩;simpa [ka] using f
      .cases h
     .cases h
    .cases h
   .cases h
  .split at h
   .replace h:=aW h (.inl rfl);obtain⟨p,_,h⟩:=h;obtain⟨l,_,h⟩:=W6.1 h;split at h
    .replace h:=aW h (.inl rfl);obtain⟨C,_,h⟩:=h;simp only [W5,XP] at h;obtain⟨_,rfl⟩:=h;simp [ka] at f
    .cases h
   .cases h
  .cases h
theorem Ia{t:TypeId}{a v z:AV}{us:aK}(h:jW P s t a v (λu=>some (AV.top,u))=some (z,us))(d:kb us=true):
  ∃i sz k off b f,a= .el i sz k off/\(∃xs,s.h i=some (.sl false 1 b xs)/\f.length=xs.length)/\us= [(i, .sl false 1 b f)]:=by
 unfold jW at h;cases m:cB P t with
 | false=>rw [m] at h;cases h
 | true=>
  rw [m,cond_true] at h;split at h
  .split at h
   .split at h
    .simp only [W5,XP] at h;obtain⟨_,rfl⟩:=h;simp [kb] at d
    .cases h
   .cases h
  .rename_i i sz k off;split at h
   .rename_i B b xs y;obtain⟨l,_,h⟩:=W6.1 h;split at h
    .rename_i x;obtain⟨j,_,_⟩:=x;subst j;replace h:=aW h (.inl rfl);obtain⟨f,o,h⟩:=h;simp only [W5,XP] at h;obtain⟨_,rfl⟩:=h;cases g:ix s.h v with
     | cons q r=>rw [g] at d;simp [kb] at d
     | nil=>rw [g] at d;simp only [kb,beq_iff_eq] at d;subst d;exact⟨_,_,_,_,_,_,rfl,⟨_,y,Vj o⟩,rfl⟩
    .cases h
   .split at h
    .split at h
     .split at h
      .replace h:=aW h (.inl rfl);obtain⟨e,_,h⟩:=h;simp only [W5,XP] at h;obtain⟨_,rfl⟩:=h;simp [kb] at d
      .cases h
     .cases h
    .cases h
   .cases h
  .split at h
   .replace h:=aW h (.inl rfl);obtain⟨p,_,h⟩:=h;obtain⟨l,_,h⟩:=W6.1 h;split at h
    .replace h:=aW h (.inl rfl);obtain⟨f,_,h⟩:=h;simp only [W5,XP] at h;obtain⟨_,rfl⟩:=h;simp [kb] at d
    .cases h
   .cases h
  .cases h
theorem DM{o:Oper}{t:TypeId}{a:Nat}{y:Operand}{v:AV}{us:aK}(b:o.op= .store t (.tmp a) y)(h:dt P An Or none o s=some (v,us)):jW P s t (s.get none (.tmp a)) (s.get none y) (λu=>some (AV.top,u))=some (v,us):=by unfold dt jF at h;rw [b] at h;exact h
theorem KR{a b:Oper}(hl:nc P An ops a b=true)(M:a∈ops)(N:b∈ops){s1 s2:St}{Q U:AV}{v y:aK}(ea:dt P An Or none a s1=some (Q,v))(eb:dt P An Or none b s2=some (U,y))
  (G:lO P An ops a s1 v=true) (okb:lO P An ops b s2 y=true) (r:s2.h=aR s1.h v\/s1.h=aR s2.h y):
  (∀p∈v,∀q∈y,p.1≠q.1)/\(∀x∈a.op.operands,∀i∈(s1.get none x).ids,∃p∈v,p.1=i)/\(∀x∈b.op.operands,∀i∈(s2.get none x).ids,∃p∈y,p.1=i):=by
 have o:=XX.1 G b N;have l:=XX.1 okb a M;simp only [Xf] at o l;replace o:=o.1.2.1;replace l:=l.1.2.2;rw [hl] at o l;simp only [Xc,XG,Xf] at o l;simp only [nc,Xf] at hl;obtain⟨ta,V,Z,ga,z⟩:=sd hl.1.2;obtain⟨tb,Y,yb,gb,u⟩:=sd hl.2;obtain⟨i,sz,k,off,j,rsz,X,I,J,⟨_,_,a4⟩,K,rfl,_,_,_,_,_,_,_,B,rfl,_⟩:=H9 (DM z ea) o;obtain⟨i',sz',k',off',b',ys',L,⟨_,g,_⟩,rfl⟩:=Ia (DM u eb) l.1;have m:=l.2;simp only [AS,u,Yt] at m;have F:i'≠i/\i'≠j:=by
  rcases r with r | r
  .rw [r,dx,eG] at g;constructor
   .rintro rfl;rw [aH] at g;cases g
   .intro e;by_cases C:i'=i
    .rw [C,aH] at g;cases g
    .rw [ay _ _ C,e,aH] at g;cases g
  .rw [r,eG] at B a4;constructor
   .rintro rfl;rw [aH] at B;cases B
   .rintro rfl;rw [aH] at a4;simp only [W5,ad.sl.injEq] at a4;exact K a4.2.1.symm
 refine⟨λp D q E e=> ?_,λx f id d=> ?_,λx f id d=> ?_⟩
 .simp only [Xl,Yj,or_false] at D E;subst E;rcases D with rfl | rfl
  .exact F.2 e.symm
  .exact F.1 e.symm
 .simp only [z,Op.operands] at f;have f:x= .tmp V\/x=Z:=by simpa using f
  rcases f with rfl | rfl
  .rw [I] at d;simp only [AV.ids,Xi] at d;subst d;exact⟨_,W8 _ (Xi.2 rfl),rfl⟩
  .rw [J] at d;simp only [AV.ids,Xi] at d;subst d;exact⟨_,W7,rfl⟩
 .simp only [u,Op.operands] at f;have f:x= .tmp Y\/x=yb:=by simpa using f
  rcases f with rfl | rfl
  .rw [L] at d;simp only [AV.ids,Xi] at d;subst d;exact⟨_,W7,rfl⟩
  .rw [m] at d;cases d
theorem Cf{o:Oper}(h:y7 P o=true):∃a,o.guard=none/\((∃t e n,o.op= .indexAddr t (.tmp a) n/\oF P t=some e/\P.cellsOf e=1)\/∃t,o.op= .load t (.tmp a)):=by
 unfold y7 at h;split at h
 .rename_i t a n b d;split at h
  .rename_i e f;exact⟨a,b, .inl ⟨t,e,n,d,f,by simpa using h⟩⟩
  .cases h
 .rename_i t a b d;exact⟨a,b, .inr ⟨t,d⟩⟩
 .cases h
def rp(h h':Id->Option ad):Prop:= ∀m,h' m=h m\/(∃fz sz b xs d b' a,h m=some (.sl fz sz b xs)/\h' m=some (.sl d sz b' a)/\a.length=xs.length)\/
 (∃b sz col rsz f es e es',h m=some (.rows b sz col rsz f es)/\h' m=some (.rows b sz col rsz e es')/\es'.length=es.length)\/∃sz b xs,sz≠1/\h m=some (.sl false sz b xs)/\h' m=some .dead
theorem rp.index{t e:TypeId}{m:Id}{n:Int}{K:AV->Option (AV×aK)}{r:AV×aK}(H:rp s.h s'.h)(g:oF P t=some e)(f:P.cellsOf e=1):kE P s none t (.own m) n K=some r↔kE P s' none t (.own m) n K=some r:=by
 unfold kE;simp only [g];rcases H m with h | ⟨_,_,_,_,_,_,_,a,b,d⟩ | ⟨_,_,_,_,_,_,_,_,a,b,d⟩ | ⟨sz,_,_,h0,a,b⟩
 .rw [h]
 .rw [a,b];simp only [d]
 .rw [a,b];simp only [d]
 .rw [a,b];simp only [f,if_neg h0,reduceCtorEq]
theorem rp.load{t:TypeId}{m:Id}{off:Nat}{K:AV->Option (AV×aK)}{r:AV×aK}(H:rp s.h s'.h):iz P s none t (.ref m off) K=some r↔iz P s' none t (.ref m off) K=some r:=by
 unfold iz;rcases H m with h | ⟨_,_,_,_,_,_,_,a,b,d⟩ | ⟨_,_,_,_,_,_,_,_,a,b,d⟩ | ⟨sz,_,_,h0,a,b⟩
 .simp only [h]
 .simp only [a,b]
 .simp only [a,b]
 .simp only [a,b]
theorem rp.store{t:TypeId}{a v q:AV}{us:aK}(h:jW P s t a v (λu=>some (AV.top,u))=some (q,us))(d:ka us=true\/kb us=true):rp s.h (aR s.h us):=by
 rcases d with d | d
 .obtain⟨i,sz,k,off,j,rsz,X,_,_,⟨_,_,a4⟩,g,rfl,_,_,_,_,_,_,_,f,rfl,l⟩:=H9 h d;intro m;rw [dx,eG];by_cases b:m=i
  .subst b;exact .inr (.inr (.inl ⟨_,_,_,_,_,_,_,_,f,aH _ _ _,l⟩))
  .rw [ay _ _ b];by_cases e:m=j
   .subst e;exact .inr (.inr (.inr ⟨_,_,_,g,a4,aH _ _ _⟩))
   .rw [ay _ _ e];exact .inl rfl
 .obtain⟨i,_,_,_,_,_,_,⟨_,o,p⟩,rfl⟩:=Ia h d;intro m;rw [eG];by_cases b:m=i
  .subst b;exact .inr (.inl ⟨_,_,_,_,_,_,_,o,aH _ _ _,p⟩)
  .rw [ay _ _ b];exact .inl rfl
theorem KS{a b:Oper}(hl:mr P An ops a b=true)(u:a∈ops)(B:b∈ops){s1 s2 q:St}{G:AV}{l:aK}{F:aK}(ea:dt P An Or none a s1=some (G,l))(o:lO P An ops a s1 l=true)(okb:lO P An ops b q F=true)
  (E:s2.h=aR s1.h l) (g:∀x∈b.op.operands,s2.get none x=s1.get none x) (k:∀x∈b.op.operands,q.get none x=s1.get none x) (r:AV×aK):dt P An Or none b s1=some r↔dt P An Or none b s2=some r:=by
 have i:=XX.1 o b B;have f:=XX.1 okb a u;simp only [Xf] at i f;replace i:=i.2.1;replace f:=f.2.2;rw [hl] at i f;simp only [Xc,XG,XT] at i f;simp only [mr,Xf,XT] at hl;obtain⟨K,L,M,I,p⟩:∃t x y,a.guard=none/\a.op= .store t (.tmp x) y:=by rcases hl.1.2 with h | h <;> exact sd h
 have H:=rp.store (DM p ea) i;rw [<-E] at H;obtain⟨j,J,⟨tb,e,n,d,D,C⟩ | ⟨tb,d⟩⟩:=Cf hl.2
 case inr=>
  simp only [wU,d] at f;rw [k (.tmp j) (by simp [d,Op.operands])] at f;split at f
  .rename_i m off hm;unfold dt jF;rw [d];dsimp only;rw [g (.tmp j) (by simp [d,Op.operands]),hm];exact H.load
  .cases f
 simp only [wU,d] at f;rw [k (.tmp j) (by simp [d,Op.operands])] at f;split at f
 .rename_i m hm;unfold dt jF;rw [d];dsimp only;rw [g (.tmp j) (by simp [d,Op.operands]),g n (by simp [d,Op.operands]),hm];unfold qu;cases(s1.get none n).t? with
  | none=>exact Zs
  | some y=>
   simp only [Xb];cases jJ.anyInt y with
   | none=>exact Zs
   | some z=>change (kE P s1 none tb (AV.own m) z λv=>some (v,[]))=some r↔(kE P s2 none tb (AV.own m) z λv=>some (v,[]))=some r;exact H.index D C
 .cases f
theorem Iv{a b:Oper}{s1 s2:St}{us:aK}{y:aK}(hl:jQ P An ops a b=true)(o:a∈ops)(p:b∈ops)(m:lO P An ops a s1 us=true)(okb:lO P An ops b s2 y=true)(v:∀k,k∉iu ops.toList->(s1.t k).2= (s2.t k).2):
  ∀x∈b.op.operands,∀i∈(s2.get none x).ids,∀q∈us,q.1≠i:=by
 have f:=XX.1 m b p;have d:=XX.1 okb a o;simp only [Xf] at f d;replace f:=f.1.1.1.2;replace d:=d.1.1.2;rw [hl] at f d;simp only [Xc,XG] at f d;rcases wC hl with⟨k,j,r⟩ | j
 .simp only [ze,wD,j,Xw,decide_eq_true_eq] at f d;intro x l i g q u e;have:=d x (Array.mem_toList_iff.2 l) i g;rw [<-v k r,<-e] at this;exact f q u this
 .simp only [wD,j,Xw,Yt] at d;intro x l i g;rw [d x (Array.mem_toList_iff.2 l)] at g;cases g
theorem DJ{o:Oper}{us:aK}(v:∀k,k∉iu ops.toList->s'.t k=s.t k)(u:∀k,hJ ops o=some k\/jS ops o=some none->∀x∈o.op.operands,s'.get none x=s.get none x)(B:o.guard=none->∀x∈o.op.operands,s'.get none x=s.get none x)(h:lO P An ops o s us=true):lO P An ops o s' us=true:=by
 refine XX.2 λp hm=> ?_;have h0:=XX.1 h p hm;simp only [Xf] at h0⊢;obtain⟨⟨⟨⟨q,r⟩,m⟩,K,j⟩,F,f⟩:=h0;refine⟨⟨⟨⟨?_, ?_⟩, ?_⟩,K, ?_⟩,F, ?_⟩
 .cases g:lN An ops o p with
  | false=>rfl
  | true=>obtain⟨k,L,b,G,M,I,J⟩:=DI g;rw [g] at q;simp only [Xc,XG,DK,b,G,Xf,Xw] at q⊢;rw [v k I,v L J];refine⟨⟨λx i=> ?_,q.1.2⟩,q.2⟩;rw [u k (.inl b) x (Array.mem_toList_iff.1 i)];exact q.1.1 x i
 .cases g:jQ P An ops o p with
  | false=>rfl
  | true=>
   rw [g] at r;simp only [Xc,XG] at r⊢;rcases wC g with⟨k,b,E⟩ | b
   .simp only [ze,b] at r⊢;rw [v k E];exact r
   .simp only [ze,b]
 .cases g:jQ P An ops p o with
  | false=>rfl
  | true=>
   rw [g] at m;simp only [Xc,XG] at m⊢;rcases wC g with⟨k,b,E⟩ | b
   .simp only [wD,b,Xw] at m⊢;rw [v k E];intro x i;rw [u k (.inl (Tf b)) x (Array.mem_toList_iff.1 i)];exact m x i
   .simp only [wD,b,Xw] at m⊢;intro x i;rw [u 0 (.inr b) x (Array.mem_toList_iff.1 i)];exact m x i
 .cases C:nc P An ops p o with
  | false=>rfl
  | true=>
   rw [C] at j;simp only [Xc,XG,Xf] at j⊢;refine⟨j.1, ?_⟩;have z:=j.2;simp only [nc,Xf] at C;obtain⟨t,a,y,l,d⟩:=sd C.2;have b:hJ ops o=some (uB ops a):=by simp [hJ,l,d]
   simp only [AS,d] at z⊢;rw [u _ (.inl b) y (by simp [d,Op.operands])];exact z
 .cases D:mr P An ops p o with
  | false=>rfl
  | true=>
   rw [D] at f;simp only [Xc,XG] at f⊢;simp only [mr,Xf] at D;obtain⟨a,l,⟨t,e,n,d,_,_⟩ | ⟨t,d⟩⟩:=Cf D.2
   .simp only [wU,d] at f⊢;rw [B l (.tmp a) (by simp [d,Op.operands])];exact f
   .simp only [wU,d] at f⊢;rw [B l (.tmp a) (by simp [d,Op.operands])];exact f
theorem Ic:∀{l l':List AV},nT l l'=true->∀{k:Nat} {v:AV},wh v=true->(l[k]? =some v↔l'[k]? =some v)
 | [],[],_,_,_,_=>Zs
 | [],_::_,h,_,_,_=>by cases h
 | _::_,[],h,_,_,_=>by cases h
 | c::r,c'::m,h,k,v,b=>by
  unfold nT at h;cases a:wm c c' with
  | none=>rw [a] at h;cases h
  | some q=>
  rw [a] at h;have tl:nT r m=true:=by
   cases q with
   | none=>exact h
   | some p=>simp only [Xf] at h;exact h.2
  have f:∀p,q=some p->p.1=p.2:=λp e=>by subst e;simp only [Xf,decide_eq_true_eq] at h;exact h.1
  have d:c=v↔c'=v:=by
   unfold wm at a;split at a
   .rename_i i o j p;by_cases e:i=j/\o=p
    .obtain⟨rfl,rfl⟩:=e;exact Zs
    .simp [e] at a
   .cases a
   .cases a
   .rename_i g u k1 x;by_cases e:g=k1
    .subst e;simp at a;have:=f _ a.symm;simp at this;subst this;exact Zs
    .simp [e] at a
   .cases a
   .cases a
   .constructor
    .rintro rfl;unfold wh at b;split at b
     .simp_all
     .simp_all
     .cases b
    .rintro rfl;unfold wh at b;split at b
     .simp_all
     .simp_all
     .cases b
  cases k with
  | zero=>simpa using d
  | succ k=>simpa using Ic tl (k:=k) b
def pR(h h':Id->Option ad):Prop:= ∀m,h' m=h m\/(∃cs a,h m=some (.box cs)/\h' m=some (.box a)/\nT cs a=true)\/
 ((∀cs,h m≠some (.box cs))/\(∀cs,h' m≠some (.box cs))/\(∀cs,h m≠some (.gf cs))/\∀cs,h' m≠some (.gf cs))
theorem Ii{h h':Id->Option ad}:∀{us:aK},ma h h' us=true->∀p∈us,(∃cs d,h p.1=some (.box cs)/\h' p.1=some (.box d)/\nT cs d=true)\/
  ((∀cs,h p.1≠some (.box cs))/\(∀cs,h' p.1≠some (.box cs))/\(∀cs,h p.1≠some (.gf cs))/\∀cs,h' p.1≠some (.gf cs))
 | [],_,_,f=>by cases f
 | q::us,b,p,f=>by
  unfold ma at b;cases a:wo (h q.1) (h' q.1) with
  | none=>rw [a] at b;cases b
  | some r=>
  rw [a] at b;have tl:ma h h' us=true:=by
   cases r with
   | none=>exact b
   | some r=>simp only [Xf] at b;exact b.2
  rcases Xl.1 f with rfl | f
  .generalize g:h p.1=x at a;generalize i:h' p.1=y at a;unfold wo at a;split at a
   .rename_i cs d;cases a;simp only [Xf] at b;exact .inl ⟨cs,d,rfl,rfl,b.1⟩
   .cases a
   .cases a
   .cases a
   .cases a
   .exact .inr ⟨λcs e=>by simp_all,λcs e=>by simp_all,λcs e=>by simp_all,λcs e=>by simp_all⟩
  .exact Ii tl p f
theorem pR.of{h:Id->Option ad}{us:aK}(d:ma h (aR h us) us=true):pR h (aR h us):=by
 intro m;by_cases e:∃p∈us,p.1=m
 .obtain⟨p,a,rfl⟩:=e;exact .inr (Ii d p a)
 .exact .inl (dZ λp a b=>e ⟨p,a,b⟩)
theorem pR.load{t:TypeId}{m:Id}{off:Nat}{v:AV}{u:aK}(H:pR s.h s'.h)(b:wh v=true):
  iz P s none t (.ref m off) (λv=>some (v,([]:aK)))=some (v,u)↔iz P s' none t (.ref m off) (λv=>some (v,([]:aK)))=some (v,u):=by
 unfold iz;rcases H m with h | ⟨cs,B,i,j,o⟩ | ⟨p,q,r,z⟩
 .simp only [h]
 .simp only [i,j];cases cB P t with
  | false=>exact Zs
  | true=>
   simp only [cond_true];unfold nW;cases ca P t with
   | true=>
    simp only [cond_true];have no:∀l:List AV,¬((od (P.cellsOf t) l).bind λl=>some (AV.agg l,([]:aK)))=some (v,u):=λl e=>by obtain⟨x,_,e⟩:=W6.1 e;simp only [W5,XP] at e;rw [<-e.1] at b;cases b
    exact⟨λe=>absurd e (no _),λe=>absurd e (no _)⟩
   | false=>
    simp only [cond_false,List.head?_drop];have key:=Ic o (k:=off) b;constructor <;> intro e
    .obtain⟨x,d,e⟩:=W6.1 e;simp only [W5,XP] at e;obtain⟨rfl,rfl⟩:=e;rw [key.1 d];rfl
    .obtain⟨x,d,e⟩:=W6.1 e;simp only [W5,XP] at e;obtain⟨rfl,rfl⟩:=e;rw [key.2 d];rfl
 .have a:∀(s0:St),(∀cs,s0.h m≠some (.box cs))->(∀cs,s0.h m≠some (.gf cs))->iz P s0 none t (.ref m off) (λv=>some (v,([]:aK)))=none:=λs0 x y=>by
   unfold iz;cases cB P t with
   | false=>rfl
   | true=>
    dsimp only [cond_true];split
    .rename_i cs e;exact absurd e (x cs)
    .rename_i cs e;exact absurd e (y cs)
    .rfl
  have f:=a s p r;have g:=a s' q z;unfold iz at f g;rw [f,g]
theorem HR{o:Oper}(h:qv o=true):o.guard=none/\((∃t x,o.op= .load t (.tmp x))\/∃t x n,o.op= .indexAddr t (.tmp x) n):=by
 unfold qv at h;split at h
 .rename_i t x a b;exact⟨a, .inl ⟨t,x,b⟩⟩
 .rename_i t x n a b;exact⟨a, .inr ⟨t,x,n,b⟩⟩
 .cases h
theorem KT{b:Oper}(hl:qv b=true){s1 s2:St}(g:∀x∈b.op.operands,∀k,x= .tmp k->s2.t k=s1.t k)(f:tn b s1=true):dt P An Or none b s2=dt P An Or none b s1:=by
 have a:fq An b=false/\fj An b=false:=by obtain⟨_,⟨t,x,e⟩ | ⟨t,x,n,e⟩⟩:=HR hl <;> simp [fq,fj,e]
 refine kr (s:=s1) (s':=s2) g (.inr (.inr (.inr ⟨a.1,a.2,λx a id d=> ?_⟩)));have:=Xw.1 f x (Array.mem_toList_iff.2 a);rw [Yt.1 this] at d;cases d
theorem KU{b:Oper}(hl:qv b=true){s1 s2:St}(H:An.zf b.dst b.type=true\/(An.zg b.dst b.type=true/\pR s1.h s2.h))(i:∀x∈b.op.operands,∀k,x= .tmp k->s2.t k=s1.t k){v:AV}{u:aK}
  (a:qz An b s1 v=true):dt P An Or none b s1=some (v,u)↔dt P An Or none b s2=some (v,u):=by
 unfold qz at a;simp only [Xf] at a;rcases H with h | ⟨j,H⟩
 .have d:=a.1;rw [h,hl] at d;simp only [Z8,Xc,XG] at d;rw [KT hl i d]
 replace a:=a.2;rw [j,hl] at a;simp only [Z8,Xc,XG,XT] at a;rcases a with d | f
 .rw [KT hl i d]
 .split at f
  .rename_i t x g;simp only [Xf] at f;obtain⟨e,l⟩:=f;unfold HV at e;split at e
   .rename_i m off hm;have o:s2.get none x= .ref m off:=by rw [<-hm];exact oN (i x (by simp [g,Op.operands]))
    unfold dt jF;rw [g];dsimp only;rw [hm,o];exact pR.load H l
   .cases e
  .cases f
theorem Cy{o:Oper}{v:AV}(b:∀x∈o.op.operands,s'.get none x=s.get none x)(h:qz An o s v=true):qz An o s' v=true:=by
 have d:tn o s'=tn o s:=by
  unfold tn;rw [Bool.eq_iff_iff,Xw,Xw];constructor
  .intro h x hm;rw [<-b x (Array.mem_toList_iff.1 hm)];exact h x hm
  .intro h x hm;rw [b x (Array.mem_toList_iff.1 hm)];exact h x hm
 unfold qz at h⊢;rw [d];simp only [Xf] at h⊢;refine⟨h.1, ?_⟩;have a:=h.2;simp only [XT] at a⊢;rcases a with a | a
 .exact .inl a
 .right;split at a
  .rename_i t x e;rw [b x (by simp [e,Op.operands])];exact a
  .cases a
theorem Lq{h h':Id->Option ad}:∀{us:aK} {i:Id},(∃p∈us,p.1=i)\/h i=h' i->aR h us i=aR h' us i
 | [],i,e=>by
  rcases e with⟨p,a,_⟩ | e
  .cases a
  .exact e
 | q::us,i,e=>by
  obtain⟨j,b⟩:=q;rw [dx,dx];refine Lq ?_;by_cases d:i=j
  .right;subst d;rw [aH,aH]
  .rcases e with⟨p,a,rfl⟩ | e
   .rcases Xl.1 a with rfl | a
    .exact absurd rfl d
    .exact .inl ⟨p,a,rfl⟩
   .right;rw [ay _ _ d,ay _ _ d];exact e
theorem Ih{h h' g a:Id->Option ad}:∀{us:aK},(∀p∈us,h p.1=h' p.1/\g p.1=a p.1)->ma h g us=ma h' a us
 | [],_=>rfl
 | p::us,e=>by have d:=Ih (us:=us) λq b=>e q (W8 _ b);unfold ma;rw [(e p W7).1,(e p W7).2,d]
theorem Ib{o:Oper}{h h':Id->Option ad}{us:aK}(e:∀p∈us,h p.1=h' p.1):kH An true o h us=kH An true o h' us:=by unfold kH;rw [Ih λp a=>⟨e p a,Lq (.inl ⟨p,a,rfl⟩)⟩]
theorem swap{listed:Array Bool}{i j:Nat}{l u:Oper}(hu:td ops)(hgk:ud ops=true)(Z:ops[i]? =some l)(hj:ops[j]? =some u)(hne:j≠i)(hri:i∈Region.ready .any ops listed)(hrj:j∈Region.ready .any ops listed)
  (hcl:sU ops listed) (hap:l.apart ops u=true) (hcm0':tA P An l u=true\/uN P An ops l u=true) (hG:sW ops listed s) (K:fU P An Or true nt ops l s=some s1) (L:fU P An Or true nt ops u s1=some s2):
  ∃sj,fU P An Or true nt ops u s=some sj/\fU P An Or true nt ops l sj=some s2:=by
 obtain⟨I,vi,C,wi,rfl⟩:=CY K;obtain⟨G,vj,B,wj,rfl⟩:=CY L;obtain⟨hli,oi',hi',hai⟩:=mem_ready.1 hri;rw [Z] at hi';simp only [W5] at hi';subst hi';obtain⟨hlj,oj',hj',haj⟩:=mem_ready.1 hrj;rw [hj] at hj';simp only [W5] at hj';subst hj';obtain⟨a1,a2,a3⟩:=Oper.apart_spec hap;have behind:∀(o:Oper) (m:Nat),listed.getD m true=false->(∀e∈o.after,Region.binds .any e=true->listed.getD e.on false=true)->∀e∈o.after,Region.binds .any e=true->¬(e.on=m\/iV ops 12 e.on m=true):=by
  intro o m hlm hall e he hb h;rcases h with h | h
  .exact xt hlm (h▸hall e he hb)
  .have hl:=hall e he hb;cases hk:ops[e.on]? with
   | none=>simp [iV,hk] at h
   | some ok=>rw [AY hcl hlm hk (hcl e.on ok hk hl)] at h;cases h
 have noti:=behind u i hli haj;have notj:=behind l j hlj hai;have wiok:=wi.ok;have wjok:=wj.ok;simp only [oZ,Xc,XG,Xf] at wiok wjok;obtain⟨⟨⟨i1,i2⟩,i3⟩,⟨⟨⟨⟨⟨⟨i4,i5⟩,i6⟩,i7⟩,i8⟩,i9⟩,i10⟩,i11⟩:=wiok;obtain⟨⟨⟨j1,j2⟩,j3⟩,⟨⟨⟨⟨⟨⟨j4,j5⟩,j6⟩,j7⟩,j8⟩,j9⟩,j10⟩,j11⟩:=wjok;have pli:=C9 (g:=I) (v:=vi) (us:=C) hu Z hli hG (eH ops l.dst);have tj:∀k,k∈u.looksAt ops->(s.put (eH ops l.dst) l.dst I vi C).t k=s.t k:=by intro k hk;rw [pli];exact sN (b:=false) λe=>a1 k e hk
 have ti:∀(g:Option Gs) (v:AV) (us:aK) k,k∈l.looksAt ops->(s.put false u.dst g v us).t k=s.t k:=λg v us k hk=>sN (b:=false) λe=>a3 k e hk;have gj':dN ops u s some=some G:=by rw [<-wj.guard];exact(HI λx b d J U=>tj d (IG J U)).symm
 have getj:∀x∈u.op.operands,(s.put (eH ops l.dst) l.dst I vi C).get G x=s.get G x:=λx z=>oN λk e=>tj k (gq (e▸z));have nj:qD ops G u s=true:=by rw [<-j4];exact(I4 getj).symm
 have a2':∀d,u.dst=some d->l.dst≠some d:=λd h h'=>a2 d h' h;have guardA:∀(o:Oper) (g:Option Gs) (s0:St) (k:Nat),hJ ops o=some k->dN ops o s0 some=some g->g=none/\fq An o=false/\fj An o=false:=by
  intro o g s0 k h M;unfold hJ at h;split at h
  .rename_i J U;unfold dN at M;rw [J] at M;simp only [W5] at M;exact⟨M.symm,by simp [fq,U],by simp [fj,U]⟩
  .rename_i J U;unfold dN at M;rw [J] at M;simp only [W5] at M;exact⟨M.symm,by simp [fq,U],by simp [fj,U]⟩
  .cases h
 have al_w:∀o:Oper,jO o=true->aG P An o=false:=by intro o h;cases hop:o.op <;> simp only [jO,hop,XD] at h <;> simp [aG,hop]
 have w_r:∀o:Oper,aG P An o=false->fq An o=false:=by
  intro o h;cases hr:fq An o with
  | false=>rfl
  | true=>
   exfalso;cases hop:o.op <;> simp only [fq,hop,XD] at hr;rename_i cl;cases hcal:cl.callee <;> simp only [hcal,XD] at hr;rename_i fo;simp only [aG,hop,hcal] at h;cases fo with
   | func f=>
    dsimp only at h hr;cases hb:An.jm f with
    | none=>rw [hb] at hr;simp at hr
    | some x=>rw [hb] at h;simp at h
   | _=>dsimp only at h hr;rw [h] at hr;cases hr
 have notmine:∀(o:Oper) (us:aK) (m:Nat) (om:Oper),ops[m]? =some om->(∀e∈o.after,Region.binds .any e=true->¬(e.on=m\/iV ops 12 e.on m=true))->uU ops o us=true->(∀d,om.dst=some d->o.dst≠some d)->∀q∈us,∀d k,om.dst=some d->q.1≠ .s d k:=by
  intro o us m om hm hnot hok hdst q D d k hd e;have J:=Xw.1 hok q D;rw [e] at J;simp only [XT] at J;rcases J with J | J
  .unfold tu at J;have h3:=Xw.1 J m (Z3.2 (ZA.1 hm).1);rw [hm] at h3;simp only [hd,BEq.rfl,Xc,XG] at h3;obtain⟨e',he,hb⟩:=Zp.1 h3;simp only [Xf,XT,beq_iff_eq] at hb;exact hnot e' he hb.1 hb.2
  .exact hdst d hd (by simpa using J)
 have ltd:∀(o:Oper),(match o.dst with | some d=>decide (d < nt) | none=>true)=true->Nat.ble nt 1000000=true->∀d,o.dst=some d->d < 1000000:=by intro o J U d hd;rw [hd] at J;simp only [decide_eq_true_eq] at J;exact X5 J (Nat.le_of_ble_eq_true U)
 have guardB:∀(o:Oper) (g:Option Gs) (s0:St) (k:Nat),(hJ ops o=some k\/jS ops o=some none)->dN ops o s0 some=some g->g=none:=by
  intro o g s0 k h M;rcases h with h | h
  .exact(guardA o g s0 k h M).1
  .have J:=Te h;unfold dN at M;rw [J] at M;simp only [W5] at M;exact M.symm
 have three:dt P An Or G u s=some (vj,B)/\dt P An Or I l (s.put false u.dst G vj B)=some (vi,C)/\(∀p∈C,∀q∈B,p.1≠q.1):=by
  rcases hcm0' with hcm | hst
  .skip
   have hcm0:=hcm;unfold tA at hcm0;simp only [Xf] at hcm0;obtain⟨⟨hcm1,hcd1⟩,hcd2⟩:=hcm0;have hcm':(aG P An l=false\/gh P u=true\/jO u=true)/\(aG P An u=false\/gh P l=true\/jO l=true):=by simp only [X6,X0,Bool.and_eq_false_iff,Y8,XT] at hcm1;exact hcm1
   have hdi:fj An l=false\/B= []:=by
    simp only [XT,X6] at hcd1;rcases hcd1 with h | h
    .exact .inl h
    .right;simpa [h] using j7
   have hdj:fj An u=false\/C= []:=by
    simp only [XT,X6] at hcd2;rcases hcd2 with h | h
    .exact .inl h
    .right;simpa [h] using i7
   have purei:gh P l=true->C= []:=λh=>by simpa [h] using i6
   have purej:gh P u=true->B= []:=λh=>by simpa [h] using j6
   have opj:dt P An Or G u s=some (vj,B):=by
    have old:gh P u=true\/jO u=true\/aR s.h C=s.h\/(fq An u=false/\fj An u=false/\∀x∈u.op.operands,∀id∈(s.get G x).ids,aR s.h C id=s.h id)->dt P An Or G u s=some (vj,B):=by intro h;rw [<-wj.op];exact(kr (s:=s) (s':=s.put (eH ops l.dst) l.dst I vi C) (λx z k e=>tj k (gq (e▸z))) h).symm
    rcases hcm'.1 with hw | F | F
    case inr.inl=>exact old (.inl F)
    case inr.inr=>exact old (.inr (.inl F))
    have Q:mf l C=true:=by simpa [hw] using i5
    have direct:∀x∈u.op.operands,∀id∈(s.get G x).ids,∀q∈C,q.1≠id:=by intro x z id E q D e;obtain⟨d,k,K,L⟩:=gZ Q ⟨q,D,e⟩;subst K;obtain⟨ed,he,hb,ho⟩:=zq nj z E Z L;exact noti ed he hb ho
    rcases hdj with hdj | hdj
    case inr=>exact old (.inr (.inr (.inl (by rw [hdj];rfl))))
    rcases hcm'.2 with hwj | hpi | hai'
    .exact old (.inr (.inr (.inr ⟨w_r u hwj,hdj,λx z id E=>dZ λq D e=>direct x z id E q D e⟩)))
    .exact old (.inr (.inr (.inl (by rw [purei hpi];rfl))))
    .cases hwj:aG P An u with
     | false=>exact old (.inr (.inr (.inr ⟨w_r u hwj,hdj,λx z id E=>dZ λq D e=>direct x z id E q D e⟩)))
     | true=>
      have hus:uU ops u B=true:=by simpa [hwj] using j8
      refine xX (s:=s.put (eH ops l.dst) l.dst I vi C) (s':=s) (N:=λi=>∃q∈C,q.1=i) (λx z k e=>(tj k (gq (e▸z))).symm) (λi Z=> ?_) hdj (λx z id E=> ?_) (λk=> ?_) (λp F=> ?_) wj.op
      .exact(dZ λq D e=>Z ⟨q,D,e⟩).symm
      .rw [getj x z] at E;rintro⟨q,D,e⟩;exact direct x z id E q D e
      .rintro⟨q,D,e⟩;obtain⟨d,k',K,L⟩:=gZ Q ⟨q,D,e⟩;simp only [Id.s.injEq] at K;have h:=ltd l i1 i9 d L;rw [<-K.1] at h;exact absurd h (aau.2 (X2 (by decide) (Zw 2000000 _)))
      .rintro⟨q,D,e⟩;obtain⟨d,k',K,L⟩:=gZ Q ⟨q,D,rfl⟩;exact notmine u B i l Z noti hus a2 p F d k' L (by rw [<-e,K])
   have opi:dt P An Or I l (s.put false u.dst G vj B)=some (vi,C):=by
    have old:gh P l=true\/jO l=true\/aR s.h B=s.h\/(fq An l=false/\fj An l=false/\∀x∈l.op.operands,∀id∈(s.get I x).ids,aR s.h B id=s.h id)->dt P An Or I l (s.put false u.dst G vj B)=some (vi,C):=by intro h;rw [<-wi.op];exact kr (λx z k e=>ti _ _ _ k (gq (e▸z))) h
    rcases hcm'.2 with hw | F | F
    case inr.inl=>exact old (.inl F)
    case inr.inr=>exact old (.inr (.inl F))
    have Q:mf u B=true:=by simpa [hw] using j5
    have direct:∀x∈l.op.operands,∀id∈(s.get I x).ids,∀q∈B,q.1≠id:=by intro x z id E q D e;obtain⟨d,k,K,L⟩:=gZ Q ⟨q,D,e⟩;subst K;obtain⟨ed,he,hb,ho⟩:=zq i4 z E hj L;exact notj ed he hb ho
    rcases hdi with hdi | hdi
    case inr=>exact old (.inr (.inr (.inl (by rw [hdi];rfl))))
    rcases hcm'.1 with hwi | hpj | haj'
    .exact old (.inr (.inr (.inr ⟨w_r l hwi,hdi,λx z id E=>dZ λq D e=>direct x z id E q D e⟩)))
    .exact old (.inr (.inr (.inl (by rw [purej hpj];rfl))))
    .cases hwi:aG P An l with
     | false=>exact old (.inr (.inr (.inr ⟨w_r l hwi,hdi,λx z id E=>dZ λq D e=>direct x z id E q D e⟩)))
     | true=>
      have hus:uU ops l C=true:=by simpa [hwi] using i8
      refine xX (s:=s) (s':=s.put false u.dst G vj B) (N:=λi=>∃q∈B,q.1=i) (λx z k e=>ti _ _ _ k (gq (e▸z))) (λi Z=> ?_) hdi (λx z id E=> ?_) (λk=> ?_) (λp F=> ?_) wi.op
      .exact dZ λq D e=>Z ⟨q,D,e⟩
      .rintro⟨q,D,e⟩;exact direct x z id E q D e
      .rintro⟨q,D,e⟩;obtain⟨d,k',K,L⟩:=gZ Q ⟨q,D,e⟩;simp only [Id.s.injEq] at K;have h:=ltd u j1 j9 d L;rw [<-K.1] at h;exact absurd h (aau.2 (X2 (by decide) (Zw 2000000 _)))
      .rintro⟨q,D,e⟩;obtain⟨d,k',K,L⟩:=gZ Q ⟨q,D,rfl⟩;exact notmine l C j u hj notj hus a2' p F d k' L (by rw [<-e,K])
   have disj:∀p∈C,∀q∈B,p.1≠q.1:=by
    intro p F q D e;rcases hcm'.1 with hw | hpj | haj'
    .rcases hcm'.2 with hw' | hpi | hai'
     .obtain⟨d,k,K,L⟩:=gZ (by simpa [hw] using i5:mf l C=true) ⟨p,F,rfl⟩;obtain⟨d',k',e3,e4⟩:=gZ (by simpa [hw'] using j5:mf u B=true) ⟨q,D,rfl⟩;rw [K,e3] at e;simp only [Id.s.injEq] at e;obtain⟨rfl,_⟩:=e;exact a2 d L e4
     .rw [purei hpi] at F;cases F
     .obtain⟨d,k,K,L⟩:=gZ (by simpa [hw] using i5:mf l C=true) ⟨p,F,rfl⟩;cases hwj:aG P An u with
      | false=>obtain⟨d',k',e3,e4⟩:=gZ (by simpa [hwj] using j5:mf u B=true) ⟨q,D,rfl⟩;rw [K,e3] at e;simp only [Id.s.injEq] at e;obtain⟨rfl,_⟩:=e;exact a2 d L e4
      | true=>exact notmine u B i l Z noti (by simpa [hwj] using j8) a2 q D d k L (by rw [<-e,K])
    .rw [purej hpj] at D;cases D
    .obtain⟨d,k,K,L⟩:=gZ (by simpa [al_w u haj'] using j5:mf u B=true) ⟨q,D,rfl⟩;cases hwi:aG P An l with
     | false=>obtain⟨d',k',e3,e4⟩:=gZ (by simpa [hwi] using i5:mf l C=true) ⟨p,F,rfl⟩;rw [K,e3] at e;simp only [Id.s.injEq] at e;obtain⟨rfl,_⟩:=e;exact a2 d' e4 L
     | true=>exact notmine l C j u hj notj (by simpa [hwi] using i8) a2' p F d k L (by rw [e,K])
   exact⟨opj,opi,disj⟩
  .have hst3:((((lN An ops l u=true\/jQ P An ops l u=true)\/jQ P An ops u l=true)\/(nc P An ops l u=true\/nc P An ops u l=true))\/(mr P An ops l u=true\/mr P An ops u l=true))\/(uO An l u=true\/uO An u l=true):=by
    unfold uN at hst;simpa only [XT] using hst
   rcases hst3 with hst2 | hst6
   case inr=>
    have lq:∀o,qv o=true->o.guard=none/\o9 P An o=true/\gh P o=false:=λo h=>by
     obtain⟨J,⟨t,x,U⟩ | ⟨t,x,n,U⟩⟩:=HR h
     .exact⟨J,by simp [o9,U],by simp [gh,U]⟩
     .exact⟨J,by simp [o9,U],by simp [gh,U]⟩
    have gn:∀(o:Oper) (g:Option Gs) (s0:St),o.guard=none->dN ops o s0 some=some g->g=none:=by intro o g s0 J M;unfold dN at M;rw [J] at M;simp only [W5] at M;exact M.symm
    have kp:∀(o:Oper) (h0:Id->Option ad) (us:aK),An.tz o.dst o.type=true->kH An true o h0 us=true->pR h0 (aR h0 us):=λo h0 us J U=>by unfold kH at U;rw [J] at U;exact pR.of (by simpa using U)
    rcases hst6 with h6 | h6
    .simp only [uO,Xf] at h6;obtain⟨hlx,hil⟩:=h6;simp only [XT,Xf] at hlx;obtain⟨gdj,qj,_⟩:=lq u hil;have gnj:=gn u G s gdj gj';have uj:B= []:=by simpa [qj] using j7
     have ejop:=wj.op;rw [gnj] at ejop;refine⟨?_, ?_,λp F q D=>by rw [uj] at D;cases D⟩
     .rw [gnj];refine(KU hil (hlx.symm.imp id λh=>⟨h.2,kp l s.h C h.1 wi.eV⟩) (λx z k e=> ?_) ?_).2 ejop
      .exact tj k (gq (e▸z))
      .refine Cy (λx z=> ?_) j11;have h:=getj x z;rw [gnj] at h;exact h.symm
     .rw [<-wi.op];exact kr (λx z k e=>ti _ _ _ k (gq (e▸z))) (.inr (.inr (.inl (by rw [uj];rfl))))
    .simp only [uO,Xf] at h6;obtain⟨hlx,hil⟩:=h6;simp only [XT,Xf] at hlx;obtain⟨gdi,qi,_⟩:=lq l hil;have gni:=gn l I s gdi wi.guard;have ui:C= []:=by simpa [qi] using i7
     have eiop:=wi.op;rw [gni] at eiop;have opj:dt P An Or G u s=some (vj,B):=by rw [<-wj.op];exact(kr (s:=s) (s':=s.put (eH ops l.dst) l.dst I vi C) (λx z k e=>tj k (gq (e▸z))) (.inr (.inr (.inl (by rw [ui];rfl))))).symm
     refine⟨opj, ?_,λp F=>by rw [ui] at F;cases F⟩;rw [gni];have hk:kH An true u s.h B=true:=by have:=wj.eV;rw [ui] at this;exact this
     exact(KU hil (hlx.symm.imp id λh=>⟨h.2,kp u s.h B h.1 hk⟩) (λx z k e=>ti _ _ _ k (gq (e▸z))) i11).1 eiop
   rcases hst2 with hst1 | hst5
   case inr=>
    have ixq:∀o,y7 P o=true->o.guard=none/\o9 P An o=true/\gh P o=false:=λo h=>by
     obtain⟨a,J,⟨t,e,n,U,_⟩ | ⟨t,U⟩⟩:=Cf h
     .exact⟨J,by simp [o9,U],by simp [gh,U]⟩
     .exact⟨J,by simp [o9,U],by simp [gh,U]⟩
    have gn:∀(o:Oper) (g:Option Gs) (s0:St),o.guard=none->dN ops o s0 some=some g->g=none:=by intro o g s0 J M;unfold dN at M;rw [J] at M;simp only [W5] at M;exact M.symm
    have stg:∀o,(kG P o true=true\/kG P o false=true)->o.guard=none/\fq An o=false/\fj An o=false:=λo h=>by
     obtain⟨t,a,y,J,U⟩:∃t a y,o.guard=none/\o.op= .store t (.tmp a) y:=by rcases h with h | h <;> exact sd h
     exact⟨J,by simp [fq,U],by simp [fj,U]⟩
    rcases hst5 with h5 | h5
    .have h5':=h5;simp only [mr,Xf,XT] at h5';obtain⟨gdi,ri,di⟩:=stg l h5'.1.2;obtain⟨gdj,qj,_⟩:=ixq u h5'.2;have gni:=gn l I s gdi wi.guard;have gnj:=gn u G s gdj gj';have uj:B= []:=by simpa [qj] using j7
     have eiop:=wi.op;have ejop:=wj.op;rw [gni] at eiop;rw [gnj] at ejop;have hget:∀x∈u.op.operands,(s.put (eH ops l.dst) l.dst I vi C).get none x=s.get none x:=λx z=>by have:=getj x z;rwa [gnj] at this
     refine⟨?_, ?_,λp F q D=>by rw [uj] at D;cases D⟩
     .rw [gnj];exact(KS h5 (XH Z) (XH hj) eiop i10 j10 rfl hget hget _).2 ejop
     .rw [<-wi.op];exact kr (λx z k e=>ti _ _ _ k (gq (e▸z))) (.inr (.inr (.inl (by rw [uj];rfl))))
    .have h5':=h5;simp only [mr,Xf,XT] at h5';obtain⟨gdj,rj,dj⟩:=stg u h5'.1.2;obtain⟨gdi,qi,_⟩:=ixq l h5'.2;have gni:=gn l I s gdi wi.guard;have gnj:=gn u G s gdj gj';have ui:C= []:=by simpa [qi] using i7
     have eiop:=wi.op;rw [gni] at eiop;have opj:dt P An Or G u s=some (vj,B):=by rw [<-wj.op];exact(kr (s:=s) (s':=s.put (eH ops l.dst) l.dst I vi C) (λx z k e=>tj k (gq (e▸z))) (.inr (.inr (.inl (by rw [ui];rfl))))).symm
     have geti:∀x∈l.op.operands,(s.put false u.dst G vj B).get none x=s.get none x:=λx z=>oN λk e=>ti _ _ _ k (gq (e▸z));have okj:lO P An ops u s B=true:=by
      refine DJ (λk hk=> ?_) (λk hk x z=> ?_) (λM x z=> ?_) j10
      .rw [pli];exact(sN (b:=false) λe=>hk (rS e ops.toList (Array.mem_toList_iff.2 (XH Z)))).symm
      .have h:=getj x z;rw [gnj] at h;exact h.symm
      .have h:=getj x z;rw [gnj] at h;exact h.symm
     refine⟨opj, ?_,λp F=>by rw [ui] at F;cases F⟩;rw [gni];rw [gnj] at opj;exact(KS h5 (XH hj) (XH Z) opj okj i10 rfl geti (λ_ _=>rfl) _).1 eiop
   have hst1:=hst1;rcases hst1 with hst0 | hst4
   case inr=>
    have both:∀o,(kG P o true=true\/kG P o false=true)->∃t a y,o.guard=none/\o.op= .store t (.tmp a) y:=λo h=>by
     rcases h with h | h
     .exact sd h
     .exact sd h
    have si:(kG P l true=true\/kG P l false=true)/\(kG P u true=true\/kG P u false=true):=by
     rcases hst4 with h | h <;> simp only [nc,Xf] at h
     .exact⟨.inl h.1.2, .inr h.2⟩
     .exact⟨.inr h.2, .inl h.1.2⟩
    obtain⟨ti',xi,yi,gdi,opi'⟩:=both l si.1;obtain⟨tj',xj,yj,gdj,opj'⟩:=both u si.2;have hki:hJ ops l=some (uB ops xi):=by simp [hJ,gdi,opi']
    have hkj:hJ ops u=some (uB ops xj):=by simp [hJ,gdj,opj']
    obtain⟨gni,ri,di⟩:=guardA l I s _ hki wi.guard;obtain⟨gnj,rj,dj⟩:=guardA u G s _ hkj gj';have eiop:=wi.op;have ejop:=wj.op;rw [gni] at eiop;rw [gnj] at ejop;have hres:(∀p∈C,∀q∈B,p.1≠q.1)/\(∀x∈l.op.operands,∀i∈(s.get none x).ids,∃p∈C,p.1=i)/\(∀x∈u.op.operands,∀i∈((s.put (eH ops l.dst) l.dst I vi C).get none x).ids,∃p∈B,p.1=i):=by
     rcases hst4 with h | h
     .exact KR h (XH Z) (XH hj) eiop ejop i10 j10 (.inl rfl)
     .obtain⟨r1,r2,r3⟩:=KR h (XH hj) (XH Z) ejop eiop j10 i10 (.inr rfl);exact⟨λp F q D e=>r1 q D p F e.symm,r3,r2⟩
    obtain⟨d1,d2,d3⟩:=hres;refine⟨?_, ?_,d1⟩
    .rw [<-wj.op];refine(kr (s:=s) (s':=s.put (eH ops l.dst) l.dst I vi C) (λx z k e=>tj k (gq (e▸z))) (.inr (.inr (.inr ⟨rj,dj,λx z id E=> ?_⟩)))).symm;refine dZ λq D e=> ?_;rw [<-getj x z,gnj] at E;obtain⟨p,F,L⟩:=d3 x z id E;exact d1 q D p F (e.trans L.symm)
    .rw [<-wi.op];refine kr (λx z k e=>ti _ _ _ k (gq (e▸z))) (.inr (.inr (.inr ⟨ri,di,λx z id E=> ?_⟩)));refine dZ λq D e=> ?_;rw [gni] at E;obtain⟨p,F,L⟩:=d2 x z id E;exact d1 p F q D (L.trans e.symm)
   have tk:∀k,k∉iu ops.toList->(s.put (eH ops l.dst) l.dst I vi C).t k=s.t k:=λk dk=>by rw [pli];exact sN (b:=false) λe=>dk (rS e ops.toList (Array.mem_toList_iff.2 (XH Z)))
   have gnone:∀(o:Oper) (g:Option Gs) (s0:St),o.guard=none->dN ops o s0 some=some g->g=none:=by intro o g s0 J M;unfold dN at M;rw [J] at M;simp only [W5] at M;exact M.symm
   rcases hst0 with(hst | hld) | hld
   rotate_left
   ·
    obtain⟨ga,wa,ra,da⟩:=It hld;obtain⟨rb',hrb'⟩:∃r,jS ops u=some r:=by rcases wC hld with⟨k,hk,_⟩ | hk <;> exact⟨_,hk⟩
    obtain⟨gb,wb,rb,db⟩:=JZ (P:=P) (An:=An) (Iu hld) hrb';have gni:=gnone l I s ga wi.guard;have gnj:=gnone u G s gb gj';have Q:mf u B=true:=by simpa [wb] using j5
    have hus:uU ops l C=true:=by simpa [wa] using i8
    have hap2:=Iv hld (XH Z) (XH hj) i10 j10 (λk hk=>by rw [tk k hk]);refine⟨?_, ?_, ?_⟩
    .rw [<-wj.op];refine(kr (s:=s) (s':=s.put (eH ops l.dst) l.dst I vi C) (λx z k e=>tj k (gq (e▸z))) (.inr (.inr (.inr ⟨rb,db,λx z id E=> ?_⟩)))).symm;refine dZ λq D e=> ?_;rw [<-getj x z,gnj] at E;exact hap2 x z id E q D e
    .refine xX (s:=s) (s':=s.put false u.dst G vj B) (N:=λi=>∃q∈B,q.1=i) (λx z k e=>ti _ _ _ k (gq (e▸z))) (λi Z=> ?_) da (λx z id E=> ?_) (λk=> ?_) (λp F=> ?_) wi.op
     .exact dZ λq D e=>Z ⟨q,D,e⟩
     .rintro⟨q,D,e⟩;obtain⟨d,k,K,L⟩:=gZ Q ⟨q,D,e⟩;subst K;obtain⟨ed,he,hb,ho⟩:=zq i4 z E hj L;exact notj ed he hb ho
     .rintro⟨q,D,e⟩;obtain⟨d,k',K,L⟩:=gZ Q ⟨q,D,e⟩;simp only [Id.s.injEq] at K;have h:=ltd u j1 j9 d L;rw [<-K.1] at h;exact absurd h (aau.2 (X2 (by decide) (Zw 2000000 _)))
     .rintro⟨q,D,e⟩;obtain⟨d,k',K,L⟩:=gZ Q ⟨q,D,rfl⟩;exact notmine l C j u hj notj hus a2' p F d k' L (by rw [<-e,K])
    .intro p F q D e;obtain⟨d,k,K,L⟩:=gZ Q ⟨q,D,rfl⟩;exact notmine l C j u hj notj hus a2' p F d k L (by rw [e,K])
   ·
    obtain⟨ga,wa,ra,da⟩:=It hld;obtain⟨rb',hrb'⟩:∃r,jS ops l=some r:=by rcases wC hld with⟨k,hk,_⟩ | hk <;> exact⟨_,hk⟩
    obtain⟨gb,wb,rb,db⟩:=JZ (P:=P) (An:=An) (Iu hld) hrb';have gni:=gnone l I s gb wi.guard;have gnj:=gnone u G s ga gj';have Q:mf l C=true:=by simpa [wb] using i5
    have hus:uU ops u B=true:=by simpa [wa] using j8
    have hap2:=Iv hld (XH hj) (XH Z) j10 i10 (λk hk=>by rw [tk k hk]);refine⟨?_, ?_, ?_⟩
    .refine xX (s:=s.put (eH ops l.dst) l.dst I vi C) (s':=s) (N:=λi=>∃q∈C,q.1=i) (λx z k e=>(tj k (gq (e▸z))).symm) (λi Z=> ?_) da (λx z id E=> ?_) (λk=> ?_) (λp F=> ?_) wj.op
     .exact(dZ λq D e=>Z ⟨q,D,e⟩).symm
     .rw [getj x z] at E;rintro⟨q,D,e⟩;obtain⟨d,k,K,L⟩:=gZ Q ⟨q,D,e⟩;subst K;obtain⟨ed,he,hb,ho⟩:=zq nj z E Z L;exact noti ed he hb ho
     .rintro⟨q,D,e⟩;obtain⟨d,k',K,L⟩:=gZ Q ⟨q,D,e⟩;simp only [Id.s.injEq] at K;have h:=ltd l i1 i9 d L;rw [<-K.1] at h;exact absurd h (aau.2 (X2 (by decide) (Zw 2000000 _)))
     .rintro⟨q,D,e⟩;obtain⟨d,k',K,L⟩:=gZ Q ⟨q,D,rfl⟩;exact notmine u B i l Z noti hus a2 p F d k' L (by rw [<-e,K])
    .rw [<-wi.op];refine kr (λx z k e=>ti _ _ _ k (gq (e▸z))) (.inr (.inr (.inr ⟨rb,db,λx z id E=> ?_⟩)));refine dZ λq D e=> ?_;rw [gni] at E;exact hap2 x z id E q D e
    .intro p F q D e;obtain⟨d,k,K,L⟩:=gZ Q ⟨p,F,rfl⟩;exact notmine u B i l Z noti hus a2 q D d k L (by rw [<-e,K])
   obtain⟨k,k',sk,sk',nek,dk,dk'⟩:=DI hst;obtain⟨gni,ri,di⟩:=guardA l I s k sk wi.guard;obtain⟨gnj,rj,dj⟩:=guardA u G s k' sk' gj';have hst':lN An ops u l=true:=Vc hst;obtain⟨p1,p2,p3⟩:=KV i10 (XH hj) hst sk sk';obtain⟨q1,q2,q3⟩:=KV j10 (XH Z) hst' sk' sk;replace tk:=tk k dk;have tk':(s.put (eH ops l.dst) l.dst I vi C).t k'=s.t k':=by rw [pli];exact sN (b:=false) λe=>dk' (rS e ops.toList (Array.mem_toList_iff.2 (XH Z)))
   rw [tk] at q3;rw [tk'] at q2;refine⟨?_, ?_,λp F q D e=>q3 q D (e▸p2 p F)⟩
   .rw [<-wj.op];refine(kr (s:=s) (s':=s.put (eH ops l.dst) l.dst I vi C) (λx z k e=>tj k (gq (e▸z))) (.inr (.inr (.inr ⟨rj,dj,λx z id E=> ?_⟩)))).symm;refine dZ λq D e=> ?_;rw [<-getj x z,gnj] at E;have:=q1 x z id E;rw [tk'] at this;exact p3 q D (e▸this)
   .rw [<-wi.op];refine kr (λx z k e=>ti _ _ _ k (gq (e▸z))) (.inr (.inr (.inr ⟨ri,di,λx z id E=> ?_⟩)));refine dZ λq D e=> ?_;rw [gni] at E;exact q3 q D (e▸p1 x z id E)
 obtain⟨opj,opi,disj⟩:=three;have sj10:lO P An ops u s B=true:=by
  refine DJ (λk hk=> ?_) (λk hk x z=> ?_) (λM x z=> ?_) j10
  .rw [pli];exact(sN (b:=false) λe=>hk (rS e ops.toList (Array.mem_toList_iff.2 (XH Z)))).symm
  .have:=guardB u G s k hk gj';have h:=getj x z;rw [this] at h;exact h.symm
  .have hgn:G=none:=by
    have h:=gj';unfold dN at h;rw [M] at h;simp only [W5] at h;exact h.symm
   have h:=getj x z;rw [hgn] at h;exact h.symm
 have frj:jr (u.dst.getD 0) s.h B=true:=by
  unfold jr at j3⊢;refine Xw.2 λp F=> ?_;have:=Xw.1 j3 p F;split at this
  .simp only [XT,Zh] at this⊢;rcases this with h | h
   .exact .inl h
   .exact .inr (Au h).2
  .rfl
  .cases this
 have lj11:qz An u s vj=true:=by refine Cy (λx z=> ?_) j11;exact(oN λk e=>tj k (gq (e▸z))).symm
 have kj:kH An true u s.h B=true:=by refine(Ib λp F=> ?_).trans wj.eV;show s.h p.1=aR s.h C p.1;rw [dZ λq D e=>disj q D p F e]
 have wj0:vp P An Or nt ops u s G vj B:=⟨gj',opj,by
  simp only [oZ,Xc,XG,Xf];exact⟨⟨⟨j1,j2⟩,frj⟩,⟨⟨⟨⟨⟨⟨nj,j5⟩,j6⟩,j7⟩,j8⟩,j9⟩,sj10⟩,lj11⟩,kj⟩
 have plj:=C9 (g:=G) (v:=vj) (us:=B) hu hj hlj hG (eH ops u.dst);refine⟨_,wj0.fU, ?_⟩;rw [plj];have gi':dN ops l (s.put false u.dst G vj B) some=some I:=by rw [<-wi.guard];exact HI λx b d J U=>ti _ _ _ d (IG J U)
 have geti:∀x∈l.op.operands,(s.put false u.dst G vj B).get I x=s.get I x:=λx z=>oN λk e=>ti _ _ _ k (gq (e▸z));have ni:qD ops I l (s.put false u.dst G vj B)=true:=by rw [<-i4];exact I4 geti
 have fri:jr (l.dst.getD 0) (s.put false u.dst G vj B).h C=true:=by
  unfold jr at i3⊢;refine Xw.2 λp F=> ?_;have:=Xw.1 i3 p F;split at this
  .rename_i d k ep;simp only [XT,Zh] at this⊢;rcases this with h | h
   .exact .inl h
   .right;show aR s.h B p.1=none;rw [dZ λq D e=>disj p F q D e.symm];exact h
  .rfl
  .cases this
 have si10:lO P An ops l (s.put false u.dst G vj B) C=true:=by
  refine DJ (λk hk=> ?_) (λk hk x z=> ?_) (λM x z=> ?_) i10
  .exact sN (b:=false) λe=>hk (rS e ops.toList (Array.mem_toList_iff.2 (XH hj)))
  .have:=guardB l I s k hk wi.guard;have h:=geti x z;rw [this] at h;exact h
  .have hgn:I=none:=by
    have h:=wi.guard;unfold dN at h;rw [M] at h;simp only [W5] at h;exact h.symm
   have h:=geti x z;rw [hgn] at h;exact h
 have li11:qz An l (s.put false u.dst G vj B) vi=true:=by refine Cy (λx z=> ?_) i11;exact oN λk e=>ti _ _ _ k (gq (e▸z))
 have ki:kH An true l (s.put false u.dst G vj B).h C=true:=by refine(Ib λp F=> ?_).trans wi.eV;show aR s.h B p.1=s.h p.1;rw [dZ λq D e=>disj p F q D e.symm]
 have wi0:vp P An Or nt ops l (s.put false u.dst G vj B) I vi C:=⟨gi',opi,by
  simp only [oZ,Xc,XG,Xf];exact⟨⟨⟨i1,i2⟩,fri⟩,⟨⟨⟨⟨⟨⟨ni,i5⟩,i6⟩,i7⟩,i8⟩,i9⟩,si10⟩,li11⟩,ki⟩
 rw [wi0.fU,pli];have dij:∀d,l.dst=some d->u.dst≠some d:=a2;have eP:∀(g:Option Gs) (o:Oper) (m:Nat) (om:Oper),ops[m]? =some om->listed.getD m true=false->dN ops o s some=some g->o∈ops->(∀e∈o.after,Region.binds .any e=true->listed.getD e.on false=true)->∀gs,g=some gs->om.dst≠some gs.d:=by
  intro g o m om hom hlm V hmem hall gs hgs hd;unfold dN at V;cases hog:o.guard with
  | none=>rw [hog] at V;simp only [W5] at V;rw [hgs] at V;cases V
  | some p=>
   obtain⟨jj,b⟩:=p;rw [hog] at V;simp only at V;cases hdd:(ops[jj]?).bind (·.dst) with
   | none=>rw [hdd] at V;simp at V
   | some d=>
    rw [hdd] at V;simp only at V;replace V:=W6.1 V;obtain⟨x,_,V⟩:=V;obtain⟨bb,V,_⟩:=r7 V;simp only [W5] at V;rw [hgs] at V;simp only [W5] at V;have hgd:gs.d=d:=by rw [<-V]
    rw [hgd] at hd;obtain⟨ojj,J,U⟩:=W6.1 hdd;have:=hu hom J hd U;subst this;have hge:=XX.1 hgk o hmem;rw [hog] at hge;simp only at hge;obtain⟨e,he,hb⟩:=Zp.1 hge;simp only [Xf,beq_iff_eq] at hb;exact xt hlm (hb.2▸hall e he hb.1)
 have nogi:=eP I l j u hj hlj wi.guard (XH Z) hai;have nogj:=eP G u i l Z hli gj' (XH hj) haj;have nos:∀(m:Nat) (om:Oper),ops[m]? =some om->listed.getD m true=false->∀k g v,s.t k= (some g,v)->om.dst≠some g.d:=by intro m om hom hlm k g v hst hd;obtain⟨x,ox,J,U,h3⟩:=hG k g v hst;have:=hu hom J hd h3;subst this;exact xt hlm U
 have tcomm:∀(bi bj:Bool),((s.put false u.dst G vj B).put bi l.dst I vi C).t= ((s.put false l.dst I vi C).put bj u.dst G vj B).t:=by
  intro bi bj;funext k;cases hdi:l.dst with
  | none=>
   cases hdj:u.dst with
   | none=>rfl
   | some dj=>
    simp only [St.put];by_cases ek:k=dj
    .simp [ek]
    .simp only [if_neg ek,cond_false];cases bj with
     | false=>rfl
     | true=>
      simp only [cond_true];cases hst:s.t k with
      | mk gk vk=>
       cases gk with
       | none=>rfl
       | some gk=>
        have:=nos j u hj hlj k gk vk hst;rw [hdj] at this;have hb:(gk.d==dj)=false:=by simp only [beq_eq_false_iff_ne,ne_eq];exact λe=>this (by rw [e])
        simp [nK,hb]
  | some di=>
   cases hdj:u.dst with
   | none=>
    simp only [St.put];by_cases ek:k=di
    .simp [ek]
    .simp only [if_neg ek,cond_false];cases bi with
     | false=>rfl
     | true=>
      simp only [cond_true];cases hst:s.t k with
      | mk gk vk=>
       cases gk with
       | none=>rfl
       | some gk=>
        have:=nos i l Z hli k gk vk hst;rw [hdi] at this;have hb:(gk.d==di)=false:=by simp only [beq_eq_false_iff_ne,ne_eq];exact λe=>this (by rw [e])
        simp [nK,hb]
   | some dj=>
    have hne':di≠dj:=λe=>dij di hdi (by rw [hdj,e]);simp only [St.put];have drop1:∀(b:Bool) (g:Option Gs) (v:AV) (d:Nat),(∀gs,g=some gs->gs.d≠d)->cond b (nK d (g,v)) (g,v)= (g,v):=by
     intro b g v d M;cases b with
     | false=>rfl
     | true=>
      cases g with
      | none=>rfl
      | some gs=>
       have hb:(gs.d==d)=false:=by simpa using M gs rfl
       simp [nK,hb]
    by_cases eki:k=di
    .subst eki;simp only [if_true,if_neg hne',cond_false];rw [drop1 bj I vi dj λgs e h=>nogi gs e (by rw [hdj,h])]
    .by_cases ekj:k=dj
     .subst ekj;simp only [if_true,if_neg eki,cond_false];rw [drop1 bi G vj di λgs e h=>nogj gs e (by rw [hdi,h])]
     .simp only [if_neg eki,if_neg ekj,cond_false];cases hst:s.t k with
      | mk gk vk=>rw [drop1 bi gk vk di λgs e h=>by subst e;exact nos i l Z hli k gs vk hst (by rw [hdi,h]),drop1 bj gk vk dj λgs e h=>by subst e;exact nos j u hj hlj k gs vk hst (by rw [hdj,h])]
 have:∀(bi bj:Bool),(s.put false u.dst G vj B).put bi l.dst I vi C= (s.put false l.dst I vi C).put bj u.dst G vj B:=by
  intro bi bj;have ht:=tcomm bi bj;have hh:((s.put false u.dst G vj B).put bi l.dst I vi C).h= ((s.put false l.dst I vi C).put bj u.dst G vj B).h:=by show aR (aR s.h B) C=aR (aR s.h C) B;exact(VM disj).symm
  generalize (s.put false u.dst G vj B).put bi l.dst I vi C=X at *
  generalize (s.put false l.dst I vi C).put bj u.dst G vj B=Y at *
  cases X;cases Y;simp only at ht hh;rw [ht,hh]
 rw [this]
theorem Qg{o:Oper}{l:Gs}{f:Array Bool}(v:ud ops=true)(a:dN ops o s some=some (some l))(r:o∈ops)(m:∀e∈o.after,Region.binds .any e=true->f.getD e.on false=true):
  ∃i y,ops[i]? =some y/\f.getD i false=true/\y.dst=some l.d:=by
 unfold dN at a;cases k:o.guard with
 | none=>rw [k] at a;simp at a
 | some p=>
  obtain⟨jj,b⟩:=p;rw [k] at a;simp only at a;cases g:(ops[jj]?).bind (·.dst) with
  | none=>rw [g] at a;simp at a
  | some d=>
   rw [g] at a;simp only at a;replace a:=W6.1 a;obtain⟨x,_,a⟩:=a;obtain⟨bb,a,_⟩:=r7 a;simp only [W5] at a;have u:l.d=d:=by rw [<-a]
   obtain⟨z,B,C⟩:=W6.1 g;have j:=XX.1 v o r;rw [k] at j;simp only at j;obtain⟨e,D,q⟩:=Zp.1 j;simp only [Xf,beq_iff_eq] at q;exact⟨jj,z,B,q.2▸m e D q.1,by rw [u];exact C⟩
theorem HB{a:Array Bool}{i:Nat}{r:Oper}(J:td ops)(D:ud ops=true)(q:ops[i]? =some r)(F:i∈Region.ready .any ops a)(z:sW ops a s)(e:fU P An Or true nt ops r s=some s1):
  sW ops (a.setIfInBounds i true) s1:=by
 obtain⟨g,v,us,K,rfl⟩:=CY e;obtain⟨E,L,f,B⟩:=mem_ready.1 F;rw [q] at f;simp only [W5] at f;subst f;rw [C9 J q E z];have j:∀k g v,s.t k= (some g,v)->∃i' o,ops[i']? =some o/\(a.setIfInBounds i true).getD i' false=true/\o.dst=some g.d:=by intro k g v G;obtain⟨x,u,l,m,p⟩:=z k g v G;exact⟨x,u,l,getD_set_true m,p⟩
 intro k y I b;unfold St.put at b;cases C:r.dst with
 | none=>rw [C] at b;exact j k y I b
 | some d=>
  rw [C] at b;dsimp only at b;split at b
  .simp only [XP] at b;obtain⟨x,u,l,m,p⟩:=Qg D (by rw [<-b.1];exact K.guard) (XH q) B;exact⟨x,u,l,getD_set_true m,p⟩
  .exact j k y I b
def vu(P:Program)(An:cW)(Or:aq)(nt:Nat)(ops:Array Oper)(Q:St->Prop):Nat->Array Bool->St->Prop
 | 0,a,s=>Region.ready .any ops a= []/\Q s
 | n+1,a,s=>(Region.ready .any ops a= []->Q s)/\∀i∈Region.ready .any ops a,∃o s1,ops[i]? =some o/\fU P An Or true nt ops o s=some s1/\vu P An Or nt ops Q n (a.setIfInBounds i true) s1
theorem MM{n j i:Nat}{b:Oper}(g:ops[j]? =some b)(h:iV ops (n+1) j i=false):∀e∈b.after,Region.binds .any e=true->e.on≠i:=by intro e f d a;simp only [iV,g] at h;rw [Array.any_eq_false'] at h;exact h e f (by simp [d,a])
theorem Ff{a:Array Bool}{j:Nat}(i:sU ops a)(p:j∈Region.ready .any ops a):sU ops (a.setIfInBounds j true):=by
 intro k ok m hl e l g;obtain⟨q,r,b,f⟩:=mem_ready.1 p;refine getD_set_true ?_;by_cases d:j=k
 .subst d;rw [m] at b;simp only [W5] at b;subst b;exact f e l g
 .have o:a.getD k false=true:=by
   rw [YC,ZW d] at hl;rw [YC];exact hl
  exact i k ok m o e l g
theorem Mf{Q:St->Prop}{i:Nat}{d:Oper}(J:td ops)(v:ud ops=true)(C:ops[i]? =some d):∀(lD:Nat) (a:Array Bool) (s s1:St),
  (∀j o,ops[j]? =some o->j≠i->a.getD j true=false->iV ops 12 j i=false->d.apart ops o=true/\(tA P An d o=true\/uN P An ops d o=true))->sU ops a->
  i∈Region.ready .any ops a->sW ops a s->fU P An Or true nt ops d s=some s1->vu P An Or nt ops Q lD (a.setIfInBounds i true) s1->vu P An Or nt ops Q (lD+1) a s:=by
 intro lD;induction lD with
 | zero=>
  intro a s s1 _ _ g z e H;refine⟨λh=>(by rw [h] at g;cases g),λj l=> ?_⟩;by_cases b:j=i
  .subst b;exact⟨d,s1,C,e,H⟩
  .have:=ready_mono l b;rw [H.1] at this;cases this
 | succ lD V=>
  intro a s s1 p q g z e H;refine⟨λh=>(by rw [h] at g;cases g),λj l=> ?_⟩;by_cases b:j=i
  .subst b;exact⟨d,s1,C,e,H⟩
  .obtain⟨o,s2,f,M,L⟩:=H.2 j (ready_mono l b);obtain⟨u,X,m,B⟩:=mem_ready.1 l;rw [f] at m;simp only [W5] at m;subst m;have D:iV ops 12 j i=false:=AY q (mem_ready.1 g).1 f B;obtain⟨E,F⟩:=p j o f b u D;obtain⟨K,g1,N⟩:=swap J v C f b g l q E F z e M;refine⟨o,K,f,g1, ?_⟩
   have r:∀k ok,ops[k]? =some ok->k≠i->(a.setIfInBounds j true).getD k true=false->
     iV ops 12 k i=false->d.apart ops ok=true/\(tA P An d ok=true\/uN P An ops d ok=true):=λk ok U G y I=>by
    refine p k ok U G ?_ I;by_cases x:j=k
    .subst x;exact u
    .rw [getD_set_ne true x] at y;exact y
   refine V (a.setIfInBounds j true) K s2 r (Ff q l) (ready_mono g (ZU b)) (HB J v f l z g1) N ?_;rw [Array.setIfInBounds_comm _ _ b];exact L
theorem P7{i:Nat}{b:Oper}{a:Array Bool}(m:ops[i]? =some b)(h:B3 P An ops a i=true)(j:Nat)(d:Oper)(f:ops[j]? =some d)(g:j≠i)(l:a.getD j true=false)
  (k:iV ops 12 j i=false):tA P An b d=true\/uN P An ops b d=true:=by
 simp only [B3,m,Xw,Z3] at h;have e:=h j (ZA.1 f).1;simp only [f,XT,beq_iff_eq,g,false_or,l,XD,k,or_false] at e;exact e
theorem Ev{Q:St->Prop}(u:td ops)(b:ud ops=true):∀(l:List Oper) (k:Nat) (a:Array Bool) (s:St),(∀j,l[j]? =ops[k+j]?)->Region.lexFrom .any ops l.length k a=true->zi P An ops l.length k a=true->sU ops a->sW ops a s->
  jT P An Or true nt ops l s=some s'->Q s'->vu P An Or nt ops Q l.length a s
 | [],k,a,s,_,e,_,_,_,h,q=>by simp only [jT,W5] at h;subst h;exact⟨by simpa [Region.lexFrom] using e,q⟩
 | o::l,k,a,s,hl,e,p,f,y,h,q=>by
  simp only [jT] at h;obtain⟨s1,v,h⟩:=W6.1 h;have h0:ops[k]? =some o:=by simpa using (hl 0).symm
  simp only [Xj,Region.lexFrom,Xf] at e;obtain⟨⟨C,B⟩,x⟩:=e;simp only [Xj,zi,Xf] at p;have d:k∈Region.ready .any ops a:=by simpa using C
  exact Mf u b h0 l.length a s s1 (λj z r g m i=>⟨Region.free_spec h0 B j z r g m (MM r i),P7 h0 p.1 j z r g m i⟩) f d y v
   (Ev u b l (k+1) _ s1 (λj=>by have:=hl (j+1);simpa [Ze,Nat.add_comm 1 j] using this) x p.2 (Ff f d) (HB u b h0 d y v) h q)
theorem Ey(u:ko P An Or){Q:Exit->Act->World->Prop}{s':St}:∀{lD:Nat} {b:Array Bool} {w:World} {s:St} {ρ:Id->Option Value} {O:Id->Option Nat} {a:Act},
  fF c nt w s ρ O a->pL ops s->vu P An Or nt ops (· =s') lD b s->(∀k w' ρ' O',Le w ρ O w' ρ' O'->fF c nt w' s' ρ' O' k->Q .normal k w')->wpAny P .any ops Q lD b a w
 | 0,b,w,s,ρ,O,a,d,j,h,f=>⟨h.1,f a w ρ O Le.refl (h.2▸d)⟩
 | lD+1,b,w,s,ρ,O,a,d,j,h,f=>by refine⟨λz=>f a w ρ O Le.refl (h.1 z▸d),λi y=> ?_⟩;obtain⟨o,s1,ho,e,H⟩:=h.2 i y;obtain⟨l,step⟩:=Jo u d j (XH ho) e;unfold wpOp;rw [ho];exact step _ Q λk w' ρ' O' le m=>Ey u m l H λr x p q v g=>f r x p q (le.trans v) g
theorem Ta{R:Type}{id:Nat}{f:Bool}{a:Act}{K:St->Option R}{r:R}(hm:P.follows .mixedOrders=true)(C:ko P An Or)(l:fF c nt w s ρ O a)(p:pK s)(e:region P An Or nt f ops s K=some r):
  ∃s':St,K s'.clear=some r/\∀Q:Exit->Act->World->Prop,(∀q w' ρ' O',Le w ρ O w' ρ' O'->fF c nt w' s'.clear ρ' O' q->Q .normal q w')->(Code.region id ops f).wp P Q a w:=by
 unfold region at e;cases m:Db P An f ops with
 | false=>simp [m] at e
 | true=>
  rw [m,cond_true,Di] at e;replace e:=W6.1 e;obtain⟨s',e,F⟩:=e;refine⟨s',F,λQ D=> ?_⟩;cases f with
  | false=>exact S9 C l p e D
  | true=>simp only [Db,Xc,XG,Xf] at m;obtain⟨⟨⟨B,G⟩,I⟩,E⟩:=m;simp only [Region.lexB,Xf] at B;have M:td ops:=λ{i j x y d} J L N U=>FD I (by simpa using J) (by simpa using L) N U;have o:Le w ρ O w.drew ρ O:=⟨rfl,rfl,rfl,Xr _,λ_ _ h=>h,λ_ _ _=>rfl,λi b h=> .inl ⟨i,h⟩⟩;have z:fF c nt w.drew s ρ O a:=⟨l.hs.world o λ_ _ _=>rfl,SS.mono (λb p=>o.A b p) o.fu l.ss,l.nt,l.defers⟩;refine wp_region_any hm ?_;have:=Ev (P:=P) (An:=An) (Or:=Or) (nt:=nt) (Q:=(· =s')) M E ops.toList 0 (Array.replicate ops.size false) s (by simp) (by simpa using B.2) (by simpa using G) (λk ok F hl=>by simp [YC,Array.getElem?_replicate] at hl;split at hl <;> simp at hl) (λk g v h=>(p k g v h).elim) e rfl;simp only [XE] at this;exact Ey C z (p.HN ops) this λq w' ρ' O' le u=>D q w' ρ' O' (o.trans le) u.clear
end
open Go Go.IntKind
section
variable {P:Program} {An:cW} {Or:aq} {w w':World} {A A':Nat->Prop} {c:Ctx} {ρ:Id->Option Value} {O:Id->Option Nat} {s s':St} {h:Id->Option ad}
def Ends(P:Program)(f:FuncId)(fn:Func)(todo:List Item)(a:Act)(w:World)(R:Value->World->Prop):Prop:=
 ∀(b:Frame),b.fn=f->b.kind= .normal->∀cs,∃d w' v todo',Steps P (lone (b.at a todo) cs w) (lone {b.at d todo' with mode:= .returning} cs w')/\
  d.defers= []/\(results fn d.tmps).run P w'= .ok v w'/\R v w'
theorem Ends.mono{f:FuncId}{fn:Func}{todo:List Item}{a:Act}{R d:Value->World->Prop}(h:Ends P f fn todo a w R)(o:∀v w',R v w'->d v w'):Ends P f fn todo a w d:=
 λb l m cs=>let⟨e,w',v,t,g,i,j,k⟩:=h b l m cs;⟨e,w',v,t,g,i,j,o _ _ k⟩
theorem Ends.step{f:FuncId}{fn:Func}{todo todo':List Item}{a:Act}{R:Value->World->Prop}(d:∀(b:Frame) cs,step P (lone (b.at a todo) cs w)= .next (lone (b.at a todo') cs w))(h:Ends P f fn todo' a w R):Ends P f fn todo a w R:=
 λb j k cs=>let⟨e,w',v,t,g,i⟩:=h b j k cs;⟨e,w',v,t, .head (d b cs) g,i⟩
theorem Ends.region{f:FuncId}{fn:Func}{id:Nat}{ops:Array Oper}{d:Bool}{k:List Item}{a:Act}{R:Value->World->Prop}
  (h:(Code.region id ops d).wp P (λe g w'=>e= .normal/\Ends P f fn k g w' R) a w):Ends P f fn (.code (.region id ops d)::k) a w R:=by
 intro b o p cs;obtain⟨e,j,r,⟨rfl,q⟩,i⟩:=h b k cs;obtain⟨g,w',v,t,l,m⟩:=q b o p cs;exact⟨g,w',v,t,Steps.trans i l,m⟩
theorem M6{f:FuncId}{fn:Func}{a:Code}{args:Array Value}{R:Value->World->Prop}(g:P.funcs[f]? =some fn)(j:fn.body=some a)
  (h:Ends P f fn [.code a] {tmps:=args++Array.replicate (fn.ntmps - args.size) undef,defers:= []} w R):Calls P f args w λe w'=>∃v,e= .returned v/\R v w':=by
 intro cs;let b:Frame:={(default:Frame) with fn:=f,kind:= .normal};have d:Frame.enter P f args .normal=b.at {tmps:=args++Array.replicate (fn.ntmps - args.size) undef,defers:= []} [.code a]:=by simp [Frame.enter,Frame.at,g,j,b]
 obtain⟨m,w',v,todo',hs,k,l,i⟩:=h b rfl rfl cs;rw [<-d] at hs;exact⟨.returned v,w',_,⟨v,rfl,i⟩,hs,rfl,rfl,k,rfl,fn,g,l⟩
structure Fin (P:Program) (c:Ctx) (B:Nat->Option Value) (sh:List cH) (outs:List kO) (xs:List T) (Own:Nat->Prop) (w:World) (v:Value) (w':World):Prop where
 os:w'.os=w.os
 output:w'.output=w.output
 tape:w'.tape=w.tape
 size:w.heap.size<=w'.heap.size
 ah:∀b,b < w.heap.size->¬Own b->w'.heap[b]? =w.heap[b]?
 res:∃rs x1 x2 o1 o2,v=qO rs/\xs=x1++x2/\(o1++o2).Nodup/\(∀b∈o1++o2,c.MO b/\b < w'.heap.size)/\eM B w' (λb=>(c.A0 b\/c.MO b)/\b < w'.heap.size/\b∉o1++o2) sh x1 rs o1/\
  pT B w' (λb=>(c.A0 b\/c.MO b)/\b < w'.heap.size/\b∉o1++o2) 0 outs x2 o2
theorem Fin.le{B:Nat->Option Value}{sh:List cH}{os:List kO}{xs:List T}{v:Value}{w'':World}{ρ':Id->Option Value}{O':Id->Option Nat}(le:Le w ρ O w' ρ' O')(h:Fin P c B sh os xs (gK O') w' v w''):Fin P c B sh os xs (gK O) w v w'' where
 os:=h.os.trans le.os
 output:=h.output.trans le.output
 tape:=h.tape.trans le.tape
 size:=X2 le.size h.size
 ah b hb hn:=by
  rw [h.ah b (X5 hb le.size) (λ⟨i,hi⟩=> ?_),le.ah b hb (λi hi=>hn ⟨i,hi⟩)];rcases le.own i b hi with⟨j,hj⟩ | hj
  .exact hn ⟨j,hj⟩
  .omega
 res:=h.res
theorem Fin.own{B:Nat->Option Value}{d:List cH}{os:List kO}{xs:List T}{v:Value}{a:World}{O':Id->Option Nat}(f:∀b,gK O' b->gK O b)(h:Fin P c B d os xs (gK O') w v a):Fin P c B d os xs (gK O) w v a:=
 {h with ah:=λb e g=>h.ah b e λho=>g (f b ho)}
theorem IP:∀{l:List Id},zx l=true->l.Nodup
 | [],_=>ZK
 | i::r,h=>by
  simp only [zx,Xf,X6] at h;refine Yq.2 ⟨λhm=> ?_,IP h.2⟩;have:r.contains i=true:=by simpa using hm
  rw [this] at h;cases h.1
def mB(O:Id->Option Nat)(l:List Id):List Nat:=l.filterMap O
theorem E4(hs:HS c w h ρ O):∀{l:List Id},l.Nodup->(mB O l).Nodup
 | [],_=>ZK
 | i::l,m=>by
  obtain⟨f,g⟩:=Yq.1 m;have d:=E4 hs g;unfold mB at *
  cases a:O i with
  | none=>rw [List.filterMap_cons_none a];exact d
  | some b=>rw [List.filterMap_cons_some a];refine Yq.2 ⟨λhm=> ?_,d⟩;obtain⟨j,k,e⟩:=ZE.1 hm;have:=hs.inj i j b a e;exact f (this▸k)
theorem MK(a b:List Id):mB O (a++b)=mB O a++mB O b:=by simp [mB]
def gJ(O:Id->Option Nat)(l:List Id)(own:List Nat):Prop:=(∀i∈l,i.real=true)/\∃ids,own=mB O ids/\(l.Nodup->ids.Nodup)/\∀x∈ids,Of l x
theorem gJ.nil:gJ O [] []:=⟨by simp,[],rfl,λh=>h,by simp⟩
theorem gJ.one{i:Id}(a:i.real=true):gJ O [i] (O i).toList:=by refine⟨by simpa using a,[i], ?_,λh=>h,λx b=> .inl b⟩;cases h:O i <;> simp [mB,h]
theorem gJ.append{a b:List Id}{o1 o2:List Nat}(q:gJ O a o1)(r:gJ O b o2):gJ O (a++b) (o1++o2):=by
 obtain⟨r1,B,rfl,D,o⟩:=q;obtain⟨r2,C,rfl,E,p⟩:=r;refine⟨λi f=> ?_,B++C,(MK _ _).symm,λu=> ?_,λx d=> ?_⟩
 .rcases Xo.1 f with f | f
  .exact r1 i f
  .exact r2 i f
 .obtain⟨k1,k2,k3⟩:=YH.1 u;refine YH.2 ⟨D k1,E k2,λx d y v e=> ?_⟩;subst e;rcases o x d with g1 | ⟨j,n,g1,m⟩ <;> rcases p x v with l | ⟨z,F,l,k⟩
  .exact k3 x g1 x l rfl
  .have:=r1 x g1;rw [k] at this;cases this
  .have:=r2 x l;rw [m] at this;cases this
  .rw [m] at k;simp only [Id.g.injEq] at k;exact k3 j g1 z l k.1
 .rcases Xo.1 d with d | d
  .rcases o x d with g | ⟨j,n,g,e⟩
   .exact .inl (Xp _ g)
   .exact .inr ⟨j,n,Xp _ g,e⟩
  .rcases p x d with g | ⟨j,n,g,e⟩
   .exact .inl (Xn _ g)
   .exact .inr ⟨j,n,Xn _ g,e⟩
theorem gJ.mem{l:List Id}{own:List Nat}(h:gJ O l own){b:Nat}(a:b∈own):∃i,Of l i/\O i=some b:=by obtain⟨_,ids,rfl,_,m⟩:=h;obtain⟨i,d,e⟩:=ZE.1 a;exact⟨i,m i d,e⟩
def n6:Nat->List Row->List Row
 | _,[]=> []
 | n,e::r=>{e with n:=n}::n6 (n+1) r
theorem w8:∀(es:List Row) (n:Nat),(n6 n es).length=es.length
 | [],_=>rfl
 | e::r,n=>by simp [n6,w8 r]
theorem zL:∀(es:List Row) (n:Nat),(n6 n es).map (·.n)=List.range' n es.length
 | [],_=>rfl
 | e::r,n=>by simp [n6,zL r,Y3]
theorem Ft:∀{es:List Row} {n:Nat},bh es=true->rQ n (es.map λe=> [.ptr e.cs,uE e])=some (n6 n es)
 | [],_,_=>rfl
 | e::r,n,h=>by
  simp only [bh,Yp,Xf] at h;have b:=Ft (es:=r) (n:=n+1) h.2;obtain⟨en,a,eo⟩:=e;cases eo with
  | none=>simp at h
  | some p=>show((rQ (n+1) (r.map λe=> [.ptr e.cs,uE e])).bind λl=>some (⟨n,a,some (p.1,p.2)⟩::l))=_;rw [b];rfl
theorem JV{A A':Nat->Prop}{d:Id->Option Value}{a:Id->Option Nat}{i:Id}{ah sz col rsz:Nat}(l:∀b,A b->A' b):∀{es:List Row} {k base:Nat},(∀j e,es[j]? =some e->d (.g i (k+j))=ρ (.g i e.n)/\a (.g i (k+j))=O (.g i e.n))->
  cL w A ρ O i ah sz col rsz base es->cL w A' d a i ah sz col rsz base (n6 k es)
 | [],_,_,_,_=>trivial
 | e::r,k,base,m,h=>by
  obtain⟨h0,B⟩:=h;obtain⟨g1,z⟩:=m 0 e rfl;refine⟨?_,JV l (k:=k+1) (λj f D=>by
   have:=m (j+1) f (by simpa using D);rw [show k+1+j=k+ (j+1) by omega];exact this) B⟩
  have h0:=h0.move (A':=A') (w':=w) (ρ':=ρ) (O':=O) (λ_ _=>rfl) (λb C=>⟨l b C,rfl⟩) rfl rfl (λ_ _=>rfl);obtain⟨o,q,v,u,a4,x,y⟩:=h0;refine⟨o,q,v,u,a4,by rw [<-x];exact g1, ?_⟩;revert y;show(match e.own with | some p=>dr w A' rsz p.1 p.2 u (λb=>O (.g i e.n)=some b) | none=>O (.g i e.n)=none)->(match e.own with | some p=>dr w A' rsz p.1 p.2 u (λb=>a (.g i k)=some b) | none=>a (.g i k)=none);rw [show a (.g i k)=O (.g i e.n) from z];exact id
def sY(w:World)(c:Ctx)(O:Id->Option Nat)(b:List Id)(Q:(Nat->Prop)->Prop):Prop:=
 ∀A:Nat->Prop,(∀k,AA c w O k->A k)->(∀i ah,i∈b->i.real=true->O i=some ah->A ah)->Q A
def jE(m:Nat)(B:Nat->Option Value)(ρ:Id->Option Value):Prop:= ∀j,j < m->∃v,B j=some v/\ρ (.c j)=some v
theorem G3{B:Nat->Option Value}{i:Id}{b:Bool}{sz col rsz nx:Nat}{es:List Row}{u:Value}{l:List Id}(hs:HS c w h ρ O)(M:h i=some (.rows b sz col rsz nx es))(hv:ρ i=some u)(L:bh es=true):
  gJ O [i] (mB O (i::es.map λe=> .g i e.n))/\sY w c O l λA=>kQ B w A (.rows sz col rsz) (bz b es) u (mB O (i::es.map λe=> .g i e.n)):=by
 have o:=hs.real (i:=i) (by rw [M];simp);obtain⟨a,cap,r1,r2,r3,⟨U,n2,n3,n4⟩,I⟩:=hs.ah i _ M;have N:(i::es.map λe=>Id.g i e.n).Nodup:=by
  refine Yq.2 ⟨λhm=> ?_, ?_⟩
  .obtain⟨e,_,F⟩:=XB.1 hm;rw [<-F] at o;cases o
  .have:(es.map λe=>Id.g i e.n)= (es.map (·.n)).map (Id.g i):=by rw [Yr];rfl
   rw [this];exact List.pairwise_map.2 (U.imp λh e=>h (by simpa using e))
 refine⟨⟨by simpa using o,_,rfl,λ_=>N,λx m=> ?_⟩,λA Y _=> ?_⟩
 .rcases Xl.1 m with rfl | m
  .exact .inl W7
  .obtain⟨e,_,rfl⟩:=XB.1 m;exact .inr ⟨i,e.n,W7,rfl⟩
 .let V:Id->Option Value:=λx=>match x with
   | .g y k=>if y=i then(es[k]?).bind λe=>ρ (.g i e.n) else none
   | x=>if x=i then ρ i else none
  let Q:Id->Option Nat:=λx=>match x with
   | .g y k=>if y=i then(es[k]?).bind λe=>O (.g i e.n) else none
   | x=>if x=i then O i else none
  have K:V i=ρ i:=by
   cases i with
   | g y n=>cases o
   | _=>simp only [V,if_true]
  have J:Q i=O i:=by
   cases i with
   | g y n=>cases o
   | _=>simp only [Q,if_true]
  have C:∀k,V (.g i k)= (es[k]?).bind λe=>ρ (.g i e.n):=λk=>by simp only [V,if_true]
  have z:∀k,Q (.g i k)= (es[k]?).bind λe=>O (.g i e.n):=λk=>by simp only [Q,if_true]
  have q:∀x d,Q x=some d->(x=i/\O i=some d)\/∃k e,x= .g i k/\es[k]? =some e/\O (.g i e.n)=some d:=by
   intro x d m;cases x with
   | g y k=>
    simp only [Q] at m;split at m
    .rename_i e;subst e;obtain⟨e,D,E⟩:=W6.1 m;exact .inr ⟨k,e,rfl,D,E⟩
    .cases m
   | s y k=>
    simp only [Q] at m;split at m
    .rename_i e;exact .inl ⟨e,m⟩
    .cases m
   | c k=>
    simp only [Q] at m;split at m
    .rename_i e;exact .inl ⟨e,m⟩
    .cases m
  refine⟨b,n6 0 es,i,V,Q, ?_,⟨a,cap,by rw [K,w8];exact r1,by rw [w8];exact r2,r3,⟨?_,λf G=> ?_,λk p=> ?_,λk d p=> ?_⟩, ?_⟩,by rw [K];exact hv,o,λx y d m hy=> ?_,λk v p=> ?_,λx d m=> ?_,λd=> ?_⟩
  .simp only [bz,kB,Ft L,Xb]
  .rw [zL];exact List.nodup_range'
  .have:f.n∈(n6 0 es).map (·.n):=XB.2 ⟨f,G,rfl⟩;rw [zL,List.mem_range'_1] at this;rw [w8];omega
  .rw [w8] at p;rw [C,YA p];rfl
  .rw [z] at p;obtain⟨e,D,_⟩:=W6.1 p;have hlt:=(W9.1 D).1;have:k∈(n6 0 es).map (·.n):=by rw [zL,List.mem_range'_1];omega
   obtain⟨f,G,X⟩:=XB.1 this;exact⟨f,G,X⟩
  .rcases I with I | ⟨ah,off,arr,t,q1,q2,q3,q4,q5⟩
   .exact .inl I
   .refine .inr ⟨ah,off,arr,t,q1,by rw [J];exact q2,q3,q4,JV Y (λj e Z=> ?_) q5⟩;rw [XF,C,z,Z];exact⟨rfl,rfl⟩
  .rcases q x d m with⟨rfl,g1⟩ | ⟨k,e,rfl,g1,r⟩ <;> rcases q y d hy with⟨rfl,k1⟩ | ⟨k',e',rfl,k1,k2⟩
   .rfl
   .have:=hs.inj _ _ d g1 k2;rw [this] at o;cases o
   .have:=hs.inj _ _ d k1 r;rw [this] at o;cases o
   .have:=hs.inj _ _ d r k2;simp only [Id.g.injEq,true_and] at this;rw [wM U g1 k1 this]
  .rw [C] at p;obtain⟨e,_,E⟩:=W6.1 p;exact hs.gone i e.n v E
  .rcases q x d m with⟨rfl,_⟩ | ⟨k,_,rfl,_⟩
   .exact .inl rfl
   .exact .inr ⟨k,rfl⟩
  .simp only [mB,ZE,Xl,XB];constructor
   .rintro⟨x,rfl | ⟨e,F,rfl⟩,m⟩
    .exact⟨x,by rw [J];exact m⟩
    .obtain⟨k,p⟩:=X1 F;exact⟨.g i k,by rw [z,p];exact m⟩
   .rintro⟨x,m⟩;rcases q x d m with⟨rfl,g1⟩ | ⟨k,e,rfl,g1,r⟩
    .exact⟨x, .inl rfl,g1⟩
    .exact⟨.g i e.n, .inr ⟨e,Xg g1,rfl⟩,r⟩
theorem G2{R:Type}{m:Nat}{B:Nat->Option Value}{r:cH}{v:AV}{u:Value}{K:T->List Id->List Id->Option R}{res:R}(hB:jE m B ρ)(hs:HS c w h ρ O)(g:an w (AA c w O) ρ v u)(d:kD m h r v K=some res):
  ∃x a b ob,K x a b=some res/\gJ O a ob/\sY w c O b λA=>kQ B w A r x u ob:=by
 cases r with
 | f k=>simp only [kD] at d;replace d:=W6.1 d;obtain⟨x,U,d⟩:=d;replace d:=aW d (.inl rfl);obtain⟨y,hy,d⟩:=d;rw [AV.nf U] at g;simp only [an] at g;exact⟨_,_,_,[],d, .nil,λA z C=>⟨hy,g.flat hy,rfl⟩⟩
 | t k=>simp only [kD] at d;replace d:=W6.1 d;obtain⟨x,U,d⟩:=d;refine⟨_,_,_,[],d, .nil,λA z C=>⟨oc hs g U z (λi ah q ho=> ?_),rfl⟩⟩;obtain⟨p,D,e⟩:=yV hs U q ho;refine C i ah (XB.2 ⟨p,D,e⟩) ?_ ho;rw [<-e];refine hs.real λe0=> ?_;have G:=wc (h:=h) v p D;rw [e0] at G;rcases G with⟨sz,b,l,_,G⟩ | ⟨l,_,G⟩ <;> simp at G
 | own sz=>
  simp only [kD] at d;split at d
  .rename_i i;replace d:=W6.1 d;obtain⟨p,D,d⟩:=d;simp only [Ju] at D;split at D
   .rename_i sz' b xs q;split at D
    .rename_i hsz;subst hsz;simp only [W5] at D;subst D;refine⟨_,_,_,(O i).toList,d, .one (hs.real (by rw [q];simp)),λA z C=> ?_⟩;obtain⟨v',g1,g2,_⟩:=hs.ah i _ q;simp only [an] at g;rw [g1] at g;simp only [W5] at g;subst g;exact⟨O i,(b,xs),rfl,by simp [T.aQ],g2.mono (λb I=>⟨z b I,rfl⟩) (λb I=>⟨by simpa using I,rfl⟩)⟩
    .simp at D
   .simp at D
  .rename_i i sz1 n;split at d
   .rename_i sz2 b xs q;split at d
    .rename_i j;obtain⟨rfl,rfl⟩:=j;refine⟨_,_,_,(O i).toList,d, .one (hs.real (by rw [q];simp)),λA z C=> ?_⟩;obtain⟨v',g1,⟨a,cap,rfl,f2,f3,_,f4⟩,_⟩:=hs.ah i _ q;simp only [an] at g;obtain⟨a1,L,cap1,X,F,Q,e3,rfl,e4⟩:=g;rw [g1] at F;simp only [W5,Yg] at F;obtain⟨rfl,rfl,rfl⟩:=F;have J:(xs.take n).length=n:=by rw [XW];omega
     have ha:X=none↔a=none:=by
      rcases e4 with⟨_,rfl⟩ | ⟨_,h,_⟩ | ⟨_,_,rfl,rfl⟩
      .exact Zs
      .exact h
      .simp
     refine⟨O i,(b,xs.take n),rfl,by simp [T.aQ],X,cap,by rw [J];rfl,by rw [J];omega,by rw [ha];exact f3,trivial, ?_⟩
     .rcases f4 with f4 | ⟨ah,off,Y,t',q1,q2,q3,q4,q5⟩
      .exact .inl f4
      .by_cases V:cap=0
       .exact .inl V
       .right;subst q1;have:X=some ⟨ah,off,none⟩:=by
         rcases e4 with⟨_,rfl⟩ | ⟨h,_⟩ | ⟨b',o,e5,rfl⟩
         .rfl
         .exact absurd h.symm V
         .simp only [W5,Yd] at e5;obtain⟨rfl,rfl,_⟩:=e5;simp
        exact⟨ah,off,Y,t',this,by simpa using q2,q3,q4,(bx.oU (λb I=>⟨z b I,rfl⟩) ah _ rfl off xs q5).take n⟩
    .simp at d
   .simp at d
  .rename_i b;simp only [an,az] at g;refine⟨_,_,_,[],d, .nil,λA z C=>⟨none,(b,[]),rfl,by simp [T.aQ], ?_⟩⟩;rcases g with⟨rfl,rfl⟩ | ⟨rfl,ah,off,sp,rfl⟩
   .exact⟨none,0,rfl,by simp,by simp,trivial, .inl rfl⟩
   .exact⟨some ⟨ah,off,sp⟩,0,rfl,by simp,by simp,trivial, .inl rfl⟩
  .simp only [an,az] at g;refine⟨_,_,_,[],d, .nil,λA z C=>⟨none,(true,[]),rfl,by simp [T.aQ], ?_⟩⟩;rcases g with⟨_,_,rfl⟩ | ⟨h,_⟩
   .exact⟨none,0,rfl,by simp,by simp,trivial, .inl rfl⟩
   .cases h
  .simp at d
 | ref k off=>
  simp only [kD] at d;split at d
  .rename_i k' off';split at d
   .rename_i j;obtain⟨rfl,rfl,M⟩:=j;refine⟨_,_,_,[],d, .nil,λA z C=>⟨?_,rfl⟩⟩;simp only [an] at g;obtain⟨b,F,rfl⟩:=g;obtain⟨v,Q,e3⟩:=hB _ M;rw [F] at e3;simp only [W5] at e3;subst e3;exact⟨b,Q,rfl⟩
   .simp at d
  .simp at d
 | same k=>
  simp only [kD] at d;split at d
  .rename_i k';split at d
   .rename_i j;obtain⟨rfl,M⟩:=j;refine⟨_,_,_,[],d, .nil,λA z C=>⟨?_,rfl⟩⟩;simp only [an] at g;obtain⟨v,Q,e3⟩:=hB _ M;rw [g] at e3;simp only [W5] at e3;subst e3;exact⟨Q,lK hs g⟩
   .simp at d
  .simp at d
 | no=>
  simp only [kD] at d;split at d
  .refine⟨_,_,_,[],d, .nil,λA z C=>⟨?_,rfl⟩⟩;simp only [an] at g;obtain⟨b,_,rfl⟩:=g;exact⟨rfl,rfl⟩
  .simp at d
 | rows sz col rsz=>
  simp only [kD] at d;split at d
  .rename_i i;split at d
   .rename_i b sz' col' rsz' nx es q;split at d
    .rename_i j;obtain⟨rfl,rfl,rfl⟩:=j;replace d:=aW d (.inl rfl);obtain⟨_,E,d⟩:=d;have E:bh es=true:=by
      split at E
      .assumption
      .cases E
     simp only [an] at g;exact⟨_,_,_,_,d,(G3 (B:=B) (l:= []) hs q g E).1,(G3 hs q g E).2⟩
    .simp at d
   .simp at d
  .simp at d
 | mp ag ks vk=>
  simp only [kD] at d;split at d
  .rename_i i;split at d
   .rename_i ag' ks' vk' es q;split at d
    .rename_i j;obtain⟨rfl,rfl,rfl⟩:=j;obtain⟨b,Z,N,g1,g2,g3,g4,g5⟩:=hs.ah i _ q;simp only [an] at g;rw [g1] at g;simp only [W5] at g;subst g;refine⟨_,_,_,[b],d, ?_,λA z C=>⟨es,b,Z,N,rfl,rfl,rfl,g3,g4,g5⟩⟩;have:=gJ.one (O:=O) (hs.real (i:=i) (by rw [q];simp));rw [g2] at this;exact this
    .simp at d
   .simp at d
  .simp at d
 | agg l=>simp [kD] at d
 | new l=>simp [kD] at d
theorem yH{R:Type}{m:Nat}{B:Nat->Option Value}(k:jE m B ρ)(hs:HS c w h ρ O):∀{rs:List cH} {vs:List AV} {us:List Value} {K:List T->List Id->List Id->Option R} {res:R},aD w (AA c w O) ρ vs us->oG m h rs vs K=some res->
  ∃xs a b own,K xs a b=some res/\gJ O a own/\sY w c O b λA=>gy B w A rs xs us own
 | [],[],us,K,res,e,d=>by simp only [aD] at e;subst e;simp only [oG] at d;exact⟨_,_,_,[],d, .nil,λA _ _=>⟨rfl,rfl,rfl⟩⟩
 | [],v::vs,us,K,res,e,d=>by simp [oG] at d
 | r::rs,[],us,K,res,e,d=>by simp [oG] at d
 | r::rs,v::vs,us,K,res,e,d=>by simp only [aD] at e;obtain⟨u,o,rfl,z,C⟩:=e;simp only [oG] at d;obtain⟨x,a,b,ob,d,p,g1⟩:=G2 k hs z d;obtain⟨xs,D,b',own,d,q,y⟩:=yH k hs C d;refine⟨_,_,_,_,d,p.append q,λA j l=> ?_⟩;have k1:=g1 A j (λi ah f g ho=>l i ah (Xp _ f) g ho);exact⟨x,xs,u,o,ob,own,rfl,rfl,rfl,k1,y A j (λi ah f g ho=>l i ah (Xn _ f) g ho)⟩
theorem yI{R:Type}{m:Nat}{B:Nat->Option Value}(z:jE m B ρ)(hs:HS c w h ρ O):∀{rs:List cH} {vs:List AV} {us:List Value} {K:List T->List Id->List Id->Option R} {res:R},aD w (AA c w O) ρ vs us->cS m h rs vs K=some res->
  ∃xs a b own,K xs a b=some res/\gJ O a own/\sY w c O b λA=>eM B w A rs xs us own
 | [],[],us,K,res,y,d=>by simp only [aD] at y;subst y;simp only [cS] at d;exact⟨_,_,_,[],d, .nil,λA _ _=>⟨rfl,rfl,rfl⟩⟩
 | [],v::vs,us,K,res,y,d=>by simp [cS] at d
 | r::rs,[],us,K,res,y,d=>by cases r <;> simp [cS] at d
 | r::rs,v::vs,us,K,res,y,d=>by
  simp only [aD] at y;obtain⟨u,q,rfl,F,N⟩:=y
  have e:(kD m h r v λx a b=>cS m h rs vs λxs I b'=>K (x::xs) (a++I) (b++b'))=some res->(∀l,r≠ .agg l)->(∀l,r≠ .new l)->
    ∃xs a b own,K xs a b=some res/\gJ O a own/\sY w c O b λA=>eM B w A (r::rs) xs (u::q) own:=by
   intro d j U;obtain⟨x,a,b,ob,d,C,g1⟩:=G2 z hs F d;obtain⟨xs,I,b',own,d,D,E⟩:=yI z hs N d;refine⟨_,_,_,_,d,C.append D,λA o p=> ?_⟩;have k1:=g1 A o (λi ah g j ho=>p i ah (Xp _ g) j ho);have:∃V M v L J G,x::xs=V::M/\u::q=v::L/\ob++own=J++G/\kQ B w A r V v J/\eM B w A rs M L G:=
    ⟨x,xs,u,q,ob,own,rfl,rfl,rfl,k1,E A o (λi ah g j ho=>p i ah (Xn _ g) j ho)⟩
   cases r with
   | agg l=>exact(j l rfl).elim
   | new l=>exact(U l rfl).elim
   | _=>exact this
  cases r with
  | f k=>exact e (by simpa [cS] using d) (by simp) (by simp)
  | t k=>exact e (by simpa [cS] using d) (by simp) (by simp)
  | own sz=>exact e (by simpa [cS] using d) (by simp) (by simp)
  | rows sz col rsz=>exact e (by simpa [cS] using d) (by simp) (by simp)
  | mp ag ks vk=>exact e (by simpa [cS] using d) (by simp) (by simp)
  | new l=>
   simp only [cS] at d;split at d
   .rename_i i;split at d
    .rename_i cs g;obtain⟨X,arr,ty,Y,Z,e3,e4,e5⟩:=hs.ah i _ g;simp only [an] at F;obtain⟨b,k1,rfl⟩:=F;rw [Y] at k1;simp only [W5,YI,Yd] at k1;obtain⟨rfl,_⟩:=k1;obtain⟨xs,a,b,o1,d,C,g1⟩:=yH z hs e4 d;obtain⟨Q,I,b',o2,d,D,E⟩:=yI z hs N d;refine⟨_,_,_,_,d,(gJ.one (hs.real (i:=i) (by rw [g];simp))).append (C.append D),λA o p=> ?_⟩;exact⟨xs,Q,X,arr,ty,q,o1,o2,rfl,by simp,by simp [Z],e3,g1 A o (λi ah g j ho=>p i ah (Xp _ g) j ho),E A o (λi ah g j ho=>p i ah (Xn _ g) j ho)⟩
    .simp at d
   .simp at d
  | ref k off=>exact e (by simpa [cS] using d) (by simp) (by simp)
  | same k=>exact e (by simpa [cS] using d) (by simp) (by simp)
  | no=>exact e (by simpa [cS] using d) (by simp) (by simp)
  | agg l=>
   cases v with
   | agg cs=>simp only [cS] at d;simp only [an] at F;obtain⟨ws,rfl,k1,k2⟩:=F;obtain⟨xs,a,b,o1,d,C,g1⟩:=yH z hs k1 d;obtain⟨Q,I,b',o2,d,D,E⟩:=yI z hs N d;refine⟨_,_,_,_,d,C.append D,λA o p=> ?_⟩;exact⟨xs,Q,ws,q,o1,o2,rfl,rfl,rfl,g1 A o (λi ah g j ho=>p i ah (Xp _ g) j ho),E A o (λi ah g j ho=>p i ah (Xn _ g) j ho)⟩
   | _=>simp [cS] at d
def zO(tmps:Array Value):ResultVar->Sem Value
 | .tmp t=>pure (tmps.getD t undef)
 | .cell b t=>do loadVar t (<-asAddr (tmps.getD b undef))
theorem Td(fn:Func)(tmps:Array Value):results fn tmps= (do
  let vs <-fn.results.mapM (zO tmps)
  pure (if h:vs.size=1 then vs[0] else .tuple vs)):=rfl
theorem Dg{R:Type}{a:Act}(hs:HS c w s.h ρ O)(g:SS w (AA c w O) ρ s.t a.tmps):∀{l:List ResultVar} {K:List AV->Option R} {r:R},uA P s l K=some r->
  ∃vs us,K vs=some r/\aD w (AA c w O) ρ vs us/\(l.mapM (zO a.tmps)).run P w= .ok us w
 | [],K,r,h=>⟨[],[],h,by simp [aD],by simp⟩
 | .tmp k::l,K,r,h=>by
  simp only [uA] at h;have d:=g k;split at h
  .rename_i v e;rw [e] at d;obtain⟨vs,us,i,j,m⟩:=Dg hs g h;refine⟨v::vs,_::us,i,by simp only [aD];exact⟨_,us,rfl,d,j⟩, ?_⟩;rw [aaq];simp only [zO,Xx,XO,Xm,m]
  .simp at h
 | .cell k t::l,K,r,h=>by
  simp only [uA] at h;have d:=g k;split at h
  .rename_i v e;rw [e] at d;obtain⟨o,y,h0,f,q⟩:=ID hs d (.inl rfl) h;obtain⟨vs,us,i,j,m⟩:=Dg hs g h0;refine⟨o::vs,y::us,i,by simp only [aD];exact⟨y,us,rfl,q,j⟩, ?_⟩;rw [aaq];have:(do loadVar t (<-asAddr (a.tmps.getD k undef)):Sem Value).run P w= .ok y w:=by
    rw [<-f];generalize a.tmps.getD k undef=u at *
    unfold Instr.loadAt at *
    cases u with
    | pointer p=>
     cases p with
     | none=>simp [Instr.sureAddr,runtimePanic] at f
     | some b=>simp [Instr.sureAddr,asAddr]
    | _=>simp [Instr.sureAddr,runtimePanic] at f
   simp only [zO,Xx,XO,Xm] at this⊢;rw [this];simp only [Xm,m]
  .simp at h
theorem vT{R:Type}{m:Nat}{B:Nat->Option Value}(k:jE m B ρ)(hs:HS c w h ρ O):∀{os:List kO} {j:Nat} {K:List T->List Id->List Id->Option R} {res:R},j+os.length<=m->mH m h j os K=some res->
  ∃xs a b own,K xs a b=some res/\gJ O a own/\sY w c O b λA=>pT B w A j os xs own
 | [],j,K,res,_,d=>by simp only [mH] at d;exact⟨_,_,_,[],d, .nil,λA _ _=>⟨rfl,rfl⟩⟩
 | .box l::os,j,K,res,hm,d=>by
  simp only [Xj] at hm;simp only [mH] at d;split at d
  .rename_i cs g;obtain⟨E,arr,t,x,y,G,I,M⟩:=hs.ah _ _ g;obtain⟨xs,a,b,o1,d,Q,g1⟩:=yH k hs I d;obtain⟨r,D,b',o2,d,p,q⟩:=vT k hs (by omega) d;refine⟨_,_,_,_,d,(gJ.one (i:= .c j) rfl).append (Q.append p),λA f o=> ?_⟩;obtain⟨v,u,e⟩:=k j (by omega);rw [x] at e;simp only [W5] at e;subst e;exact⟨xs,r,E,arr,t,o1,o2,rfl,by simp [y],u,G,g1 A f (λi ah g L ho=>o i ah (Xp _ g) L ho),q A f (λi ah g L ho=>o i ah (Xn _ g) L ho)⟩
  .simp at d
 | .sl sz::os,j,K,res,hm,d=>by
  simp only [Xj] at hm;simp only [mH] at d;split at d
  .rename_i Y bb l g;split at d
   .rename_i N;subst N;obtain⟨v,x,y,_⟩:=hs.ah _ _ g;obtain⟨r,D,b',o2,d,p,q⟩:=vT k hs (by omega) d;refine⟨_,_,_,_,d,(gJ.one (i:= .c j) rfl).append p,λA f o=> ?_⟩;obtain⟨U,u,e⟩:=k j (by omega);rw [x] at e;simp only [W5] at e;subst e;exact⟨bb,l,r,O (.c j),_,o2,rfl,rfl,u,y.mono (λb J=>⟨f b J,rfl⟩) (λb J=>⟨by simpa using J,rfl⟩),q A f o⟩
   .simp at d
  .simp at d
 | .mp ag ks vk::os,j,K,res,hm,d=>by
  simp only [Xj] at hm;simp only [mH] at d;split at d
  .rename_i V X Z es g;split at d
   .rename_i C;obtain⟨rfl,rfl,rfl⟩:=C;obtain⟨E,F,z,x,y,G,I,M⟩:=hs.ah _ _ g;obtain⟨r,D,b',o2,d,p,q⟩:=vT k hs (by omega) d;refine⟨_,_,_,_,d,(gJ.one (i:= .c j) rfl).append p,λA f o=> ?_⟩;obtain⟨U,u,e⟩:=k j (by omega);rw [x] at e;simp only [W5] at e;subst e;exact⟨es,E,F,z,r,o2,rfl,by simp [y],u,G,I,M,q A f o⟩
   .simp at d
  .simp at d
 | .dead::os,j,K,res,hm,d=>by simp only [Xj] at hm;simp only [mH] at d;obtain⟨r,D,b',o2,d,p,q⟩:=vT k hs (by omega) d;exact⟨_,_,_,o2,d,p,λA f o=>q A f o⟩
theorem Hk{f:FuncId}{fn:Func}{nt:Nat}{m:Nat×Nat}{B:Nat->Option Value}{xs:List T}{a:Act}(K:jE m.1 B ρ)(d:fF c nt w s ρ O a)(h:yO P An f fn m s=some xs):
  ∃v,(results fn a.tmps).run P w= .ok v w/\Fin P c B (dQ P An f m.2 fn) (iP An f m.2) xs (gK O) w v w:=by
 unfold yO at h;obtain⟨vs,us,h,z,F⟩:=Dg d.hs d.ss h;split at h
 .rename_i hm;obtain⟨Z,N,Y,o1,h,U,G⟩:=yI K d.hs z h;obtain⟨zs,E,Q,o2,h,V,C⟩:=vT K d.hs (by omega) h;split at h
  .rename_i r;simp only [W5] at h;subst h;simp only [Xf,Xw,X6] at r;have M:=IP r.1;have D:=U.append V;have g:∀b,b∈o1++o2->∃i,Of (N++E) i/\O i=some b:=λb l=>D.mem l;have J:∀k,AA c w O k->(c.A0 k\/c.MO k)/\k < w.heap.size/\k∉o1++o2:=by
    intro b l;refine⟨l.1,l.2.1,λhm=> ?_⟩;obtain⟨i,o,e⟩:=g b hm;exact l.2.2 i e
   have L:∀i ah,i∈Y++Q->i.real=true->O i=some ah->(c.A0 ah\/c.MO ah)/\ah < w.heap.size/\ah∉o1++o2:=by
    intro i ah o p ho;refine⟨.inr (d.hs.own i ah ho),d.hs.lt i ah ho,λhm=> ?_⟩;obtain⟨j,I,e⟩:=g ah hm;have:=d.hs.inj i j ah ho e;subst this;have z:=r.2 i o;rcases I with I | ⟨y,n,_,X⟩
    .have F:(N++E).contains i=true:=by simpa using I
     rw [F] at z;cases z
    .rw [X] at p;cases p
   have q:(o1++o2).Nodup:=by obtain⟨_,ids,e,n,_⟩:=D;rw [e];exact E4 d.hs (n M)
   refine⟨qO us, ?_,rfl,rfl,rfl,Xr _,λ_ _ _=>rfl,us,Z,zs,o1,o2,rfl,rfl,q,λb l=> ?_, ?_, ?_⟩
   .rw [Td,Array.mapM_eq_mapM_toList];simp only [Xx,map_eq_pure_bind,XO];rw [F];simp only [Xm];congr 1;unfold qO;split
    .rename_i x;have hl:us.length=1:=by simpa using x
     obtain⟨u,rfl⟩:=YF.1 hl;rfl
    .rename_i x;split
     .rename_i u;simp at x
     .rfl
   .obtain⟨i,o,e⟩:=g b l;exact⟨d.hs.own i b e,d.hs.lt i b e⟩
   .exact G _ J λi ah o p ho=>L i ah (Xp _ o) p ho
   .exact C _ J λi ah o p ho=>L i ah (Xn _ o) p ho
  .simp at h
 .simp at h
end
open Go Go.IntKind
section
variable {P:Program} {An:cW} {Or:aq} {w w':World} {A A':Nat->Prop} {c:Ctx} {ρ:Id->Option Value} {O:Id->Option Nat} {s s':St} {h:Id->Option ad}
theorem CU{v:AV}{u:Value}(hs:HS c w h ρ O)(a:an w (AA c w O) ρ v u):an w (AA c w O) ρ (oX h v) u:=by
 cases v
 case own i=>
  simp only [oX];split
  .rename_i sz b xs d;have m:O i=none:=by
    obtain⟨_,_,_,f⟩:=hs.ah i _ d;exact f rfl
   have:=oc (x:= .aa sz b xs) (A':=AA c w O) hs a (by simp [eD,d]) (λ_ h=>h) (λj ah k ho=>by
    rcases k with e | ⟨_,_,_,e⟩ | ⟨_,e⟩
    .cases e;rw [m] at ho;cases ho
    .cases e
    .cases e)
   simpa [an] using this
  .exact a
 case part i sz off n=>
  simp only [oX];split
  .rename_i r b xs d;split
   .rename_i o;have m:O i=none:=by
     obtain⟨_,_,_,f⟩:=hs.ah i _ d;exact f rfl
    have:=oc (x:= .aa sz b ((xs.drop off).take n)) (A':=AA c w O) hs a (by simp [eD,d,o]) (λ_ h=>h) (λj ah k ho=>by
     rcases k with e | ⟨_,_,_,e⟩ | ⟨_,e⟩
     .cases e
     .cases e;rw [m] at ho;cases ho
     .cases e)
    simpa [an] using this
   .exact a
  .exact a
 case ref i off=>
  simp only [oX];split
  .rename_i l d;obtain⟨b,p,y,f,q⟩:=hs.ah i _ d;simp only [an] at a;obtain⟨b',g,rfl⟩:=a;rw [p] at g;simp only [W5,YI,Yd] at g;obtain⟨rfl,_⟩:=g;simp only [an,az];refine⟨b,off,rfl, .inr f, ?_⟩;have:=q.drop off;rwa [XF] at this
  .exact a
 all_goals exact a
theorem QD{k:Nat×Option Nat}{p:AV×aK}{tmps:Array Value}{g:Id->Option Value}(hs:HS c w s.h ρ O)(m:SS w (AA c w O) ρ s.t tmps)(e:wF s k=some p)(f:∀i v,ρ i=some v->g i=some v)
  (l:∀q∈p.2,g q.1=some (tmps.getD k.1 undef)):an w (AA c w O) g p.1 (tmps.getD k.1 undef):=by
 unfold wF at e;have d:=m k.1;split at e
 .simp at e
 .rename_i v j;rw [j] at d;simp only at d;split at e
  .simp only [W5] at e;subst e;exact an.mono (λb a=>⟨a,rfl⟩) f _ _ (CU hs d)
  .split at e
   .simp only [W5] at e;subst e;exact an.mono (λb a=>⟨a,rfl⟩) f _ _ (CU hs d)
   split at e
   .split at e
    .simp only [W5] at e;subst e;exact an.mono (λb a=>⟨a,rfl⟩) f _ _ d
    .simp at e
   .simp only [W5] at e;subst e;simp only [an];exact l _ (Xi.2 rfl)
   .simp at e
theorem IB{tmps:Array Value}{f:Id->Option Value}(hs:HS c w s.h ρ O)(o:SS w (AA c w O) ρ s.t tmps)(j:∀i v,ρ i=some v->f i=some v):∀{l:List (Nat×Option Nat)} {p:List AV×aK},qB s l=some p->
  (∀q∈p.2,∀k,q.1= .s (1000000+k) 0->f q.1=some (tmps.getD k undef))->aD w (AA c w O) f p.1 (l.map λk=>tmps.getD k.1 undef)/\
   ∀q∈p.2,∃k sz b,q= (.s (1000000+k) 0, .sl false sz b [])/\az w (AA c w O) (.aC b) (tmps.getD k undef)
 | [],p,e,_=>by simp only [qB,W5] at e;subst e;exact⟨by simp [aD],(by intro q a;cases a)⟩
 | k::l,p,e,r=>by
  simp only [qB] at e;replace e:=W6.1 e;obtain⟨x,d,e⟩:=e;replace e:=W6.1 e;obtain⟨y,C,e⟩:=e;simp only [W5] at e;subst e;have g:∀q∈x.2,∃sz b,q= (.s (1000000+k.1) 0, .sl false sz b [])/\az w (AA c w O) (.aC b) (tmps.getD k.1 undef):=by
   intro q a;have m:=o k.1;unfold wF at d;split at d
   .simp at d
   .rename_i v u;rw [u] at m;simp only at m;split at d
    .simp only [W5] at d;subst d;cases a
    .split at d
     .simp only [W5] at d;subst d;cases a
     split at d
     .split at d
      .simp only [W5] at d;subst d;cases a
      .simp at d
     .simp only [W5] at d;subst d;simp only [Xi] at a;subst a;exact⟨_,_,rfl,by simpa [an] using m⟩
     .simp at d
  obtain⟨g1,z⟩:=IB hs o j C (λq a=>r q (Xn _ a));refine⟨?_,λq a=> ?_⟩
  .simp only [Xq,aD];refine⟨_,_,rfl,QD hs o d j (λq a=> ?_),g1⟩;obtain⟨sz,b,e,_⟩:=g q a;exact r q (Xp _ a) k.1 (by rw [e])
  .rcases Xo.1 a with a | a
   .obtain⟨sz,b,e,B⟩:=g q a;exact⟨k.1,sz,b,e,B⟩
   .exact z q a
theorem Lp:∀{us:aK} {h:Id->Option ad} {i:Id} {b:ad},aR h us i=some b->(i,b)∈us\/((∀q∈us,q.1≠i)/\h i=some b)
 | [],h,i,b,e=> .inr ⟨by simp,e⟩
 | (j,x)::us,h,i,b,e=>by
  rw [dx] at e;rcases Lp e with e | ⟨g,a⟩
  .exact .inl (W8 _ e)
  .by_cases d:i=j
   .subst d;rw [aH] at a;simp only [W5] at a;subst a;exact .inl W7
   .rw [ay _ _ d] at a;refine .inr ⟨λq f=> ?_,a⟩;rcases Xl.1 f with rfl | f
    .exact λe=>d e.symm
    .exact g q f
theorem HS.L9{us:aK}{a:Id->Option Value}(r:∀q∈us,q.1.real=true)(hs:HS c w h ρ O)(B:∀q∈us,h q.1=none)(x:∀q∈us,∃sz b u,q.2= .sl false sz b []/\a q.1=some u/\az w A (.aC b) u)
  (f:∀i,(∀q∈us,q.1≠i)->a i=ρ i):HS c w (aR h us) a O:=by
 have mono:∀i v,ρ i=some v->a i=some v:=by
  intro i v d;rw [f i (λq j e=> ?_)]
  .exact d
  .have:=(hs.cO _ (r q j) (B q j)).1;rw [e,d] at this;cases this
 have k:∀i n,∀q∈us,q.1≠ .g i n:=λi n q j e=>by have:=r q j;rw [e] at this;cases this
 have le:Le w ρ O w a O:=⟨rfl,rfl,rfl,Xr _,mono,λ_ _ _=>rfl,λi b h=> .inl ⟨i,h⟩⟩;refine hs.go le (λi n=>⟨f _ (k i n),rfl,λ_ _=>rfl⟩) (λi b l=> ?_) (λi p d=> ?_) (λi d=>(Au d).2) (λi n=>by rw [dZ (k i n)];exact hs.eP i n) hs.inj hs.lt
 .rcases Lp l with hm | ⟨_,l⟩
  .right;obtain⟨sz,b',u,m,o,e3⟩:=x _ hm;simp only at m o;subst m;refine⟨u,o, ?_,by simp⟩;simp only [az] at e3;rcases e3 with⟨rfl,rfl⟩ | ⟨rfl,ah,off,sp,rfl⟩
   .exact⟨none,0,rfl,by simp,by simp,by simp, .inl rfl⟩
   .exact⟨some ⟨ah,off,sp⟩,0,rfl,by simp,by simp,trivial, .inl rfl⟩
  .exact .inl ⟨l,rfl,λ_ _=>rfl⟩
 .obtain⟨y,z⟩:=Au d;rw [f i y];exact hs.cO i p z
theorem IF{b:Id->Option Value}{tmps:Array Value}:∀{live:List (Nat×Option Nat)} {bE:List AV},aD w A b bE (live.map λk=>tmps.getD k.1 undef)->∀k,an w A b (oK.look live bE k) (tmps.getD k undef)
 | [],bE,a,k=>by cases bE <;> simp [oK.look,an]
 | (j,o)::live,bE,a,k=>by
  cases bE with
  | nil=>simp [aD] at a
  | cons v bE=>
   simp only [Xq,aD,Yh] at a;obtain⟨u,r,⟨rfl,rfl⟩,d,f⟩:=a;simp only [oK.look];split
   .rename_i e;subst e;exact d
   .exact IF f k
def wK:List Item->List Item
 | .inLoop b::k=> .code b:: .inLoop b::k
 | t=>t
def rE(P:Program)(An:cW)(Or:aq):Prop:= ∀f fn todo live m bE b xs,Or (.node f todo live m) bE b=some xs->P.funcs[f]? =some fn->
 ∀c w ρ O a B,jE m.1 B ρ->fF c fn.ntmps w (oK live bE b) ρ O a->Ends P f fn (wK todo) a w (Fin P c B (dQ P An f m.2 fn) (iP An f m.2) xs (gK O) w)
theorem fF.DC{nt:Nat}{a:Act}{h':Id->Option ad}{ρ':Id->Option Value}{O':Id->Option Nat}(d:fF c nt w s ρ O a)(le:Le w ρ O w ρ' O')(hs:HS c w h' ρ' O'):fF c nt w {t:=s.t,h:=h'} ρ' O' a:=
 ⟨hs,SS.mono (λb e=>le.A b e) le.fu d.ss,d.nt,d.defers⟩
theorem jE.le{m:Nat}{B:Nat->Option Value}{ρ':Id->Option Value}(h:jE m B ρ)(le:∀i v,ρ i=some v->ρ' i=some v):jE m B ρ':=λj d=>by obtain⟨v,a,b⟩:=h j d;exact⟨v,a,le _ _ b⟩
theorem CE{s:St}:∀{live:List (Nat×Option Nat)} {p:List AV×aK},qB s live=some p->∀q∈p.2,∃k,q.1=Id.s (1000000+k) 0
 | [],p,b,q,d=>by simp only [qB,W5] at b;subst b;cases d
 | k::live,p,b,q,d=>by
  simp only [qB] at b;obtain⟨f,a,b⟩:=W6.1 b;obtain⟨g,e,b⟩:=W6.1 b;simp only [W5] at b;subst b;rcases Xo.1 d with d | d
  .unfold wF at a;split at a
   .cases a
   .split at a
    .simp only [W5] at a;subst a;cases d
    .split at a
     .simp only [W5] at a;subst a;cases d
     .split at a
      .split at a
       .simp only [W5] at a;subst a;cases d
       .cases a
      .simp only [W5] at a;subst a;rw [Xi.1 d];exact⟨_,rfl⟩
      .cases a
  .exact CE e q d
theorem Vt{f:FuncId}{fn:Func}{todo:List Item}{live:List (Nat×Option Nat)}{m:Nat×Nat}{B:Nat->Option Value}{xs:List T}{a:Act}(hN:rE P An Or)(Q:P.funcs[f]? =some fn)(hB:jE m.1 B ρ)(o:fF c fn.ntmps w s ρ O a)(e:Am Or f todo live m s=some xs):
  Ends P f fn (wK todo) a w (Fin P c B (dQ P An f m.2 fn) (iP An f m.2) xs (gK O) w):=by
 unfold Am at e;replace e:=W6.1 e;obtain⟨p,K,e⟩:=e;split at e
 .rename_i y;replace e:=W6.1 e;obtain⟨seen,u,e⟩:=e;let l:Id->Option Value:=λi=>if p.2.any (λq=>decide (q.1=i)) then(match i with | .s d _=>some (a.tmps.getD (d - 1000000) undef) | _=>none) else ρ i;have N:∀q∈p.2,s.h q.1=none:=by
   intro q g;have:=Xw.1 y q g;simpa using this
  have z:∀i,(∀q∈p.2,q.1≠i)->l i=ρ i:=by
   intro i r;have:p.2.any (λq=>decide (q.1=i))=false:=by rw [XJ];intro q g;simpa using r q g
   simp only [l,this,XD,if_false]
  have F:∀q∈p.2,∀k,q.1= .s (1000000+k) 0->l q.1=some (a.tmps.getD k undef):=by intro q g k e;have:p.2.any (λx=>decide (x.1=q.1))=true:=YS.2 ⟨q,g,by simp⟩;simp only [l,this,if_true];rw [e];simp
  have mono:∀i v,ρ i=some v->l i=some v:=by
   intro i v r;rw [z i (λq g e=> ?_)]
   .exact r
   .cases E:q.1.real with
    | true=>have:=(o.hs.cO _ E (N q g)).1;rw [e,r] at this;cases this
    | false=>have hm:p.2.any (λx=>decide (x.1=q.1))=true:=YS.2 ⟨q,g,by simp⟩;obtain⟨k,ek⟩:=CE K q g;rw [ek] at E;cases E
  obtain⟨hv,X⟩:=IB o.hs o.ss mono K F;have U:HS c w (aR s.h p.2) l O:=o.hs.L9 (λq g=>by obtain⟨k,ek⟩:=CE K q g;rw [ek];rfl) N (A:=AA c w O) (λq g=>by
   obtain⟨k,sz,b,e,E⟩:=X q g;exact⟨sz,b,_,by rw [e],F q g k (by rw [e]),E⟩) z
  obtain⟨g1,g2,g3,g4,g5⟩:=w7 u ZK (by simp) (by simp);obtain⟨V,C⟩:=U.rn g1 g4 g5;have hA:∀b,AA c w O b->AA c w (cN seen O) b:=λb G=>⟨G.1,G.2.1,λi r=>by
   obtain⟨k,hk⟩:=C b ⟨i,r⟩;exact G.2.2 k hk⟩
  have Y:=aD.rn (m:=seen) hA _ _ (λi r=>g3 i (Xn _ r)) hv;have L:fF c fn.ntmps w (oK live (lL seen p.1) (seen.map λi=>iQ seen (aR s.h p.2 i))) (cN seen l) (cN seen O) a:=
   ⟨V,λk=>IF Y k,o.nt,o.defers⟩
  have D:=JT u (by
   exact List.pairwise_map.2 (List.nodup_range.imp λh e=>h (by simpa using e))) (by simp)
  rw [Yf] at D;have M:jE m.1 B (cN seen l):=by
   intro j J;obtain⟨v,Z,e2⟩:=hB.le mono j J;refine⟨v,Z, ?_⟩;obtain⟨t,ht⟩:=D;have:seen[j]? =some (.c j):=by rw [<-ht,Xk (by simpa using J)];simp [J]
   simp [cN,this,e2]
  exact(hN f fn todo live m _ _ xs e Q c w _ _ a B M L).mono λv w' I=>I.own C
 .simp at e
theorem yW:∀{l:List (Nat×Option Nat)},ij s.h (oL s l)
 | []=>by intro p a;cases a
 | (k,none)::l=>by simp only [oL];exact yW
 | (k,some 0)::l=>by simp only [oL];exact(wc _).append yW
 | (k,some (n+1))::l=>by
  simp only [oL];refine ij.append ?_ yW;cases Nat.beq n 999998 with
  | false=>intro p a;cases a
  | true=>
   show ij s.h (B5 s.h (s.t k).2);unfold B5;split
   .split
    .exact B4 _
    .intro p a;cases a
   .intro p a;cases a
theorem Jf{h:Id->Option ad}(hs:HS c w h ρ O)(v:AV):HS c w (zz h v) ρ O:=by
 unfold zz;split
 .rename_i i off;split
  .rename_i cs f;obtain⟨b,arr,t,p,q,y,z,B⟩:=hs.ah i _ f;have j:=hs.real (i:=i) (by rw [f];simp);have C:aD w (AA c w O) ρ (cs.map (oX h)) arr.toList:=by
    have d:∀(l:List AV) (us:List Value),aD w (AA c w O) ρ l us->aD w (AA c w O) ρ (l.map (oX h)) us:=by
     intro l;induction l with
     | nil=>intro us h;exact h
     | cons x l D=>intro us h;simp only [Xq,aD] at h⊢;obtain⟨u,r,e,g1,o⟩:=h;exact⟨u,r,e,CU hs g1,D r o⟩
    exact d _ _ z
   rw [eG];refine hs.go Le.refl (λk m=>⟨rfl,rfl,λ_ _=>rfl⟩) (λk x a=> ?_) (λk g a=> ?_) (λk a=> ?_) (λk m=>by rw [ay _ _ (aY j)];exact hs.eP k m) hs.inj hs.lt
   .by_cases e:k=i
    .subst e;rw [aH] at a;simp only [W5] at a;subst a;exact .inr ⟨b,arr,t,p,q,y,C,B⟩
    .rw [ay _ _ e] at a;exact .inl ⟨a,rfl,λ_ _=>rfl⟩
   .by_cases e:k=i
    .subst e;rw [aH] at a;cases a
    .rw [ay _ _ e] at a;exact hs.cO k g a
   .by_cases e:k=i
    .subst e;rw [aH] at a;cases a
    .rw [ay _ _ e] at a;exact a
  .exact hs
 .exact hs
theorem Hq(live:List (Nat×Option Nat))(bE:List AV)(a:List ad):pK (oK live bE a):=by intro k g v e;simp [oK] at e
theorem bn.wS{ah:Nat}:∀{cs:List T} {off:Nat},(∀(j:Nat) (x:T),cs[j]? =some x->∃v,w.cell? ⟨ah,off+j,none⟩=some v/\az w A x v)->bn w A ah off cs
 | [],_,_=>by simp [bn]
 | x::cs,off,h=>by simp only [bn];refine⟨by simpa using h 0 x rfl,bn.wS λj y a=> ?_⟩;have:=h (j+1) y (by simpa using a);rw [show off+1+j=off+ (j+1) by omega];exact this
theorem Kh{i:Id}{ah sz col rsz:Nat}:∀{es:List Row} {base:Nat},bh es=true->cL w A ρ O i ah sz col rsz base es->(∀e∈es,∀d,O (.g i e.n)=some d->A d)->bx w A ah sz base (es.map (uD col rsz))
 | [],_,_,_,_=>by simp [bx]
 | e::es,base,b,C,l=>by
  simp only [bh,Yp,Xf] at b;obtain⟨m,o⟩:=C;simp only [Xq,bx];obtain⟨q,G,r,u,a4,I,v⟩:=m;have key:∃x,uD col rsz e=e.cs.set col x/\az w A x u:=by
   obtain⟨en,F,eo⟩:=e;cases eo with
   | none=>simp at b
   | some p=>refine⟨_,rfl, ?_⟩;exact dr.Lj v λd B=>l _ W7 d B
  obtain⟨x,E,D⟩:=key;rw [E];refine⟨by rw [YZ];exact q,bn.wS λj y a=> ?_,Kh b.2 o λf z=>l f (W8 _ z)⟩;rw [Yx] at a;split at a
  .rename_i k;subst k;split at a
   .cases a;exact⟨u,a4,D⟩
   .cases a
  .rename_i k;exact r j y (λe=>k e.symm) a
theorem HS.KD{i:Id}{b:Bool}{sz col rsz L:Nat}{es:List Row}(hs:HS c w h ρ O)(E:h i=some (.rows b sz col rsz L es))(D:bh es=true):
  ∃O',Le w ρ O w ρ O'/\HS c w (aN h i (some (.sl true sz b (es.map (uD col rsz))))) ρ O':=by
 classical
 have q:=hs.real (i:=i) (by rw [E];simp);let Q:Id->Option Nat:=λx=>if Of [i] x then none else O x;have G:Q i=none:=if_pos (.inl W7);have Z:∀n,Q (.g i n)=none:=λn=>if_pos (.inr ⟨i,n,W7,rfl⟩);have o:∀x d,Q x=some d->O x=some d/\¬Of [i] x:=by
  intro x d k;simp only [Q] at k;split at k
  .cases k
  .rename_i K;exact⟨k,K⟩
 have B:∀x,x.real=true->x≠i->Q x=O x:=by
  intro x r k;refine if_neg ?_;rintro(hm | ⟨j,n,_,rfl⟩)
  .exact k (Xi.1 hm)
  .cases r
 have C:∀x n,x≠i->Q (.g x n)=O (.g x n):=by
  intro x n k;refine if_neg ?_;rintro(hm | ⟨j,m,J,e⟩)
  .rw [<-Xi.1 hm] at q;cases q
  .simp only [Id.g.injEq] at e;exact k (e.1.trans (Xi.1 J))
 have le:Le w ρ O w ρ Q:=⟨rfl,rfl,rfl,Xr _,λ_ _ h=>h,λ_ _ _=>rfl,λx d k=> .inl ⟨x,(o x d k).1⟩⟩;have u:∀x d,Of [i] x->O x=some d->AA c w Q d:=by intro x d k p;refine⟨.inr (hs.own x d p),hs.lt x d p,λy v=> ?_⟩;obtain⟨k1,k2⟩:=o y d v;exact k2 (hs.inj x y d p k1▸k)
 refine⟨Q,le,hs.qp le (λx y k=> ?_) (λx r k=> ?_) (λx n=>by rw [ay _ _ (aY q)];exact hs.eP x n) (λx n k=> ?_) hs.gone (λx y d k v=>hs.inj x y d (o x d k).1 (o y d v).1) (λx d k=>hs.lt x d (o x d k).1)⟩
 .by_cases e:x=i
  .subst e;rw [aH] at k;cases k;right;obtain⟨a,cap,r1,r2,Y,r4,z⟩:=hs.ah x _ E;refine⟨_,r1,⟨a,cap,by rw [XQ],by rw [XQ];exact r2,Y,trivial, ?_⟩,λ_=>G⟩;rcases z with z | ⟨ah,off,arr,t,M,N,U,V,X⟩
   .exact .inl z
   .refine .inr ⟨ah,off,arr,t,M,by simp only [if_true];exact u x ah (.inl W7) N,U,V, ?_⟩;refine Kh (ρ:=ρ) (O:=O) (i:=x) D (cL.move (λb I=>le.A b I) (λ_ _=>rfl) (λf _=>⟨rfl,rfl,λ_ _=>rfl⟩) X) λf hf d p=>u _ d (.inr ⟨x,f.n,W7,rfl⟩) p
  .rw [ay _ _ e] at k;have F:=hs.real (i:=x) (by rw [k];simp);exact .inl ⟨k,B x F e,λ_ _=>rfl,λn=>⟨rfl,C x n e,λ_ _=>rfl⟩⟩
 .have l:x≠i:=λe=>by rw [e,aH] at k;cases k
  rw [ay _ _ l] at k;rw [B x r l];exact hs.cO x r k
 .have l:x≠i:=λe=>by rw [e,aH] at k;cases k
  rw [ay _ _ l] at k;rw [C x n l];exact hs.gG x n k
theorem Dz{R:Type}:∀{l:List Id} {h:Id->Option ad} {O:Id->Option Nat} {K:aK->Option R} {r:R},HS c w h ρ O->xl h l K=some r->∃us O',K us=some r/\Le w ρ O w ρ O'/\HS c w (aR h us) ρ O'
 | [],h,O,K,r,hs,e=>⟨[],O,e,Le.refl,hs⟩
 | i::l,h,O,K,r,hs,e=>by
  simp only [xl] at e;split at e
  .rename_i b sz col rsz o es k;replace e:=aW e (.inl rfl);obtain⟨_,a,e⟩:=e;have a:bh es=true:=by
    split at a
    .assumption
    .cases a
   obtain⟨m,cD,d⟩:=hs.KD k a;obtain⟨us,j,e,g,f⟩:=Dz d e;exact⟨_,j,e,cD.trans g,by rw [dx];exact f⟩
  .exact Dz hs e
theorem UZ{h:Id->Option ad}{O:Id->Option Nat}(hs:HS c w h ρ O)(v:AV):∃O',Le w ρ O w ρ O'/\HS c w (DA h v) ρ O':=by
 unfold DA;split
 .split
  .rename_i b sz col rsz g es f;cases e:bh es with
   | true=>obtain⟨d,cD,a⟩:=hs.KD f e;exact⟨d,cD,by rw [cond_true,eG];exact a⟩
   | false=>exact⟨O,Le.refl,hs⟩
  .exact⟨O,Le.refl,hs⟩
 .exact⟨O,Le.refl,hs⟩
theorem KE:∀(l:List AV) {h:Id->Option ad} {O:Id->Option Nat},HS c w h ρ O->∃O',Le w ρ O w ρ O'/\HS c w (DB h l) ρ O'
 | [],h,O,hs=>⟨O,Le.refl,hs⟩
 | v::r,h,O,hs=>by obtain⟨f,cD,a⟩:=UZ hs v;obtain⟨e,d,b⟩:=KE r a;exact⟨e,cD.trans d,b⟩
theorem UY{h:Id->Option ad}{O:Id->Option Nat}(hs:HS c w h ρ O)(v:AV):∃O',Le w ρ O w ρ O'/\HS c w (Dy h v) ρ O':=by
 unfold Dy;split
 .split
  .exact KE _ hs
  .exact⟨O,Le.refl,hs⟩
 .exact⟨O,Le.refl,hs⟩
theorem wP{t:Nat->Option Gs×AV}:∀{l:List (Nat×Option Nat)} {h:Id->Option ad} {O:Id->Option Nat},HS c w h ρ O->∃O',Le w ρ O w ρ O'/\HS c w (ur t h l) ρ O'
 | [],h,O,hs=>⟨O,Le.refl,hs⟩
 | (k,some n)::l,h,O,hs=>by
  simp only [ur];cases Nat.beq n 999999 with
  | true=>exact wP (Jf hs _)
  | false=>
   cases Nat.beq n 999998 with
   | true=>obtain⟨f,cD,a⟩:=UY hs (t k).2;obtain⟨e,d,b⟩:=wP (t:=t) (l:=l) (Jf a (t k).2);exact⟨e,cD.trans d,b⟩
   | false=>exact wP hs
 | (k,none)::l,h,O,hs=>by simp only [ur];exact wP hs
theorem DV{f:FuncId}{fn:Func}{todo:List Item}{live:List (Nat×Option Nat)}{m:Nat×Nat}{B:Nat->Option Value}{xs:List T}{a:Act}(y:rE P An Or)(o:P.funcs[f]? =some fn)(x:jE m.1 B ρ)(i:fF c fn.ntmps w s ρ O a)(e:nh Or f todo live m s=some xs):
  Ends P f fn (wK todo) a w (Fin P c B (dQ P An f m.2 fn) (iP An f m.2) xs (gK O) w):=by
 unfold nh at e;obtain⟨us,u,e⟩:=W6.1 e;obtain⟨C,cD,p,_⟩:=i.hs.rZ yW;have d:=i.DC cD p;obtain⟨z,D,b,q⟩:=C4 d.hs u;obtain⟨E,g,r⟩:=wP (t:=s.t) (l:=live) q;have k:=d.DC (b.trans g) r;exact(Vt y o (x.le b.fu) k e).mono λv w' j=>Fin.le cD (Fin.le (b.trans g) j)
theorem Hl{f:FuncId}{fn:Func}{nt:Nat}{m:Nat×Nat}{B:Nat->Option Value}{xs:List T}{a:Act}(d:jE m.1 B ρ)(b:fF c nt w s ρ O a)(h:yN P An f fn m s=some xs):
  ∃v,(results fn a.tmps).run P w= .ok v w/\Fin P c B (dQ P An f m.2 fn) (iP An f m.2) xs (gK O) w v w:=by
 unfold yN at h;cases e:(dQ P An f m.2 fn).any HW with
 | true=>rw [e,cond_true] at h;exact Hk d b h
 | false=>rw [e,cond_false] at h;obtain⟨us,k,h,cD,g⟩:=Dz b.hs h;obtain⟨v,i,j⟩:=Hk d (b.DC cD g) h;exact⟨v,i,Fin.le cD j⟩
theorem mJ(hm:P.follows .mixedOrders=true)(u:ko P An Or)(r:rE P An Or){f:FuncId}{fn:Func}{m:Nat×Nat}{B:Nat->Option Value}(o:P.funcs[f]? =some fn):∀{n:Nat} {j:Bool} {todo:List Item} {xs:List T} {w:World} {s:St} {ρ:Id->Option Value} {O:Id->Option Nat} {a:Act},
  jE m.1 B ρ->fF c fn.ntmps w s ρ O a->pK s->ev P An Or f fn m n j todo s=some xs->Ends P f fn todo a w (Fin P c B (dQ P An f m.2 fn) (iP An f m.2) xs (gK O) w)
 | 0,j,todo,xs,w,s,ρ,O,a,i,d,l,e=>by simp [ev] at e
 | n+1,j,[],xs,w,s,ρ,O,a,i,d,l,e=>by simp only [ev] at e;obtain⟨v,C,D⟩:=Hl i d e;exact λb K F cs=>⟨a,w,v,[], .one step_end,d.defers,C,D⟩
 | n+1,j, .code .skip::k,xs,w,s,ρ,O,a,i,d,l,e=>by simp only [ev] at e;exact Ends.step (λb cs=>step_skip) (mJ hm u r o i d l e)
 | n+1,j, .code (.seq x y)::k,xs,w,s,ρ,O,a,i,d,l,e=>by simp only [ev] at e;exact Ends.step (λb cs=>step_seq) (mJ hm u r o i d l e)
 | n+1,j, .code (.region id ops z)::k,xs,w,s,ρ,O,a,i,d,l,e=>by
  simp only [ev] at e;split at e
  .rename_i live _;exact DV (todo:= .code (.region id ops z)::k) r o i d e
  .obtain⟨s',e,G⟩:=Ta hm u d l e;refine Ends.region (G _ λQ w' ρ' O' le J=>⟨rfl, ?_⟩);exact(mJ hm u r o (i.le le.fu) J (Nb _) e).mono λv N E=>E.le le
 | n+1,j, .code (.cond x p q)::k,xs,w,s,ρ,O,a,i,d,l,e=>by
  simp only [ev] at e;replace e:=W6.1 e;obtain⟨y,M,e⟩:=e;replace e:=aW e (.inl rfl);obtain⟨t,L,e⟩:=e;have I:=SS.get (h:=s.h) d.ss (g:=none) trivial x;rw [show(⟨s.t,s.h⟩:St)=s from rfl,AV.nf M,T.jI L] at I;simp only [an,az] at I;refine Ends.step (todo':= .code (if t then p else q)::k) (λb cs=>step_cond I) ?_;cases t with
  | true=>exact mJ hm u r o i d l e
  | false=>exact mJ hm u r o i d l e
 | n+1,j, .code (.block id b)::k,xs,w,s,ρ,O,a,i,d,l,e=>by simp only [ev] at e;exact Ends.step (λb cs=>step_block) (mJ hm u r o i d l e)
 | n+1,j, .code (.loop b)::k,xs,w,s,ρ,O,a,i,d,l,e=>by
  simp only [ev] at e;split at e
  .exact Ends.step (λb cs=>step_loop) (DV (todo:= .inLoop b::k) r o i d e)
  .simp at e
 | n+1,j, .code (.exit id)::k,xs,w,s,ρ,O,a,i,d,l,e=>by
  simp only [ev] at e;split at e
  .rename_i U F;exact Ends.step (λb cs=>step_exit F) (mJ hm u r o i d l e)
  .simp at e
 | n+1,j, .code .ret::k,xs,w,s,ρ,O,a,i,d,l,e=>by simp only [ev] at e;obtain⟨v,C,D⟩:=Hl i d e;exact λb K F cs=>⟨a,w,v,_, .one step_ret,d.defers,C,D⟩
 | n+1,j, .inBlock id::k,xs,w,s,ρ,O,a,i,d,l,e=>by simp only [ev] at e;exact Ends.step (λb cs=>step_inBlock) (mJ hm u r o i d l e)
 | n+1,j, .inLoop b::k,xs,w,s,ρ,O,a,i,d,l,e=>by
  simp only [ev] at e;split at e
  .exact Ends.step (λb cs=>step_inLoop) (DV (todo:= .inLoop b::k) r o i d e)
  .simp at e
 | n+1,j, .code (.label _)::k,xs,w,s,ρ,O,a,i,d,l,e=>by simp [ev] at e
 | n+1,j, .code (.goto _)::k,xs,w,s,ρ,O,a,i,d,l,e=>by simp [ev] at e
theorem QN{a:Id->Option Value}{bE:List AV}{args:List Value}(i:aD w A a bE args)(m k:Nat):an w A a (bE.getD k .top) ((args.toArray++Array.replicate m undef).getD k undef):=by
 have e:(args.toArray++Array.replicate m undef).getD k undef= (args++List.replicate m undef).getD k undef:=by rw [YC,Xa,<-X8];simp
 rw [e,Xa,Xa];cases f:bE[k]? with
 | none=>simp [an]
 | some v=>obtain⟨u,d,g⟩:=i.get f;have b:k < args.length:=(W9.1 d).1;rw [Xk b,d];exact g
theorem Vf(G:oo P An)(hm:P.follows .mixedOrders=true)(K:∀(f:FuncId) (fn:Func),P.funcs[f]? =some fn->fn.name≠ "runtime.NumGoroutine")(F:ko P An Or)(E:rE P An Or):ko P An (au P An Or):=by
 intro f bE a xs e;simp only [au] at e;split at e
 .rename_i r y;exact G f bE a xs (y.trans e)
 split at e
 .rename_i fn l;split at e
  .rename_i q d;split at e
   .rename_i J;refine⟨fn,q,l,d,K f fn l,λc w ρ O args N hs m=> ?_⟩;have hl:=m.length;have eh:(vZ bE a).h=kZ a:=by funext i;cases i <;> rfl
    have C:fF c fn.ntmps w (vZ bE a) ρ O {tmps:=args.toArray++Array.replicate (fn.ntmps - args.toArray.size) undef,defers:= []}:=by refine⟨by rw [eh];exact hs,λk=>QN m _ k, ?_,rfl⟩;simp only [ZN,Yy,Array.size_replicate];omega
    have o:pK (vZ bE a):=by intro k g v e;simp [vZ] at e
    have D:jE (a.length,iJ a.head?).1 (qt a.length ρ) ρ:=by
     intro j u;simp only at u;have z:kZ a (.c j)=some a[j]:=by simp [kZ,u]
     obtain⟨v,p,_⟩:=hs.KM z;exact⟨v,by simp [qt,u,p],p⟩
    refine(M6 l d (mJ hm F E l D C o e)).mono λe w' ⟨v,I,b⟩=> ?_;obtain⟨rs,M,x2,o1,o2,p,L,B,x,y,ho⟩:=b.res;exact⟨rs,M,x2,o1,o2,by rw [I,p],⟨b.os,b.output,b.tape,b.size,b.ah⟩,L,B,x,y,ho⟩
   .simp at e
  .simp at e
 .simp at e
theorem Ve(hm:P.follows .mixedOrders=true)(l:ko P An Or)(j:rE P An Or):rE P An (au P An Or):=by
 intro f fn todo live m bE p xs e d c w ρ O a B i g;simp only [au,d] at e;split at e
 .exact mJ hm l j d i g (Hq _ _ _) e
 .rename_i o;have:wK todo=todo:=by
   unfold wK;split
   .rename_i b k;exact(o b k rfl).elim
   .rfl
  rw [this];exact mJ hm l j d i g (Hq _ _ _) e
theorem Jr(d:oo P An)(hm:P.follows .mixedOrders=true)(g:∀(f:FuncId) (fn:Func),P.funcs[f]? =some fn->fn.name≠ "runtime.NumGoroutine"):∀n,ko P An (jR P An n)/\rE P An (jR P An n)
 | 0=>⟨λ_ _ _ _ e=>by simp [jR] at e,λ_ _ _ _ _ _ _ _ e=>by simp [jR] at e⟩
 | n+1=>by obtain⟨a,b⟩:=Jr d hm g n;exact⟨Vf d hm g a b,Ve hm a b⟩
theorem Jt{k:Key}{vs:List AV}{a:List ad}{r:List T}(e:mR P An k vs a=some r):∃n,jR P An n k vs a=some r:=by
 unfold mR at e;split at e
 .rename_i b;simp only [W5] at e;exact⟨_,by rw [<-e];exact Zc (Zc b)⟩
 .simp at e
theorem SM(b:oo P An)(hm:P.follows .mixedOrders=true)(d:∀(f:FuncId) (fn:Func),P.funcs[f]? =some fn->fn.name≠ "runtime.NumGoroutine"):ko P An (mR P An):=by intro f bE a xs e;obtain⟨n,e⟩:=Jt e;exact(Jr b hm d n).1 f bE a xs e
end
open Go Go.IntKind
abbrev LW:=Key×List AV×List ad×List T
def Ay(O:aq)(L:List LW):Prop:= ∀q∈L,O q.1 q.2.1 q.2.2.1=some q.2.2.2
def aM{R:Type}(F:aq->Option R):Prop:= ∀O r,F O=some r->∃L,Ay O L/\∀O',Ay O' L->F O'=some r
section
variable {P:Program} {A:cW} {R S:Type}
theorem aM.const(m:Option R):aM (λ_=>m):=λ_ r h=>⟨[],(by intro q a;cases a),λ_ _=>h⟩
theorem aM.bind{F:aq->Option R}{G:R->aq->Option S}(i:aM F)(j:∀a,aM (G a)):aM (λO=>(F O).bind λa=>G a O):=by
 intro O r h;obtain⟨a,k,h⟩:=W6.1 h;obtain⟨L1,e,g1⟩:=i O a k;obtain⟨L2,f,g⟩:=j a O r h;refine⟨L1++L2,λq b=> ?_,λO' d=> ?_⟩
 .rcases Xo.1 b with b | b
  .exact e q b
  .exact f q b
 .have:=g1 O' (λq b=>d q (Xp _ b));simp only [this,Xb];exact g O' (λq b=>d q (Xn _ b))
theorem aM.ask(k:Key)(vs:List AV)(a:List ad):aM (λO=>O k vs a):=λO r h=>⟨[(k,vs,a,r)],(by intro q b;simp only [Xi] at b;subst b;exact h),
 λO' d=>d _ (Xi.2 rfl)⟩
theorem aM.cond{b:Bool}{F G:aq->Option R}(a:aM F)(d:aM G):aM (λO=>cond b (F O) (G O)):=by cases b <;> assumption
theorem aM.ite{p:Prop}[Decidable p]{F G:aq->Option R}(b:aM F)(d:aM G):aM (λO=>if p then F O else G O):=by
 by_cases a:p
 .simp only [a,if_true];exact b
 .simp only [a,if_false];exact d
theorem aM.ab{d:Type}[Inhabited d]{c:Option Bool}{m:Option d}{K:d->aq->Option R}(h:∀a,aM (K a)):aM (λO=>ab c m λa=>K a O):=by
 unfold Aev.ab;cases m with
 | some a=>exact h a
 | none=>cases c with
  | none=>exact aM.const none
  | some b=>exact aM.cond (aM.const none) (h default)
theorem aM.fX{k:Ck}{c:Option Bool}{x:T}{K:T->aq->Option R}(h:∀a,aM (K a)):aM (λO=>fX k c x λa=>K a O):=by
 unfold Aev.fX;cases k <;> (try dsimp only)
 case x=>exact h x
 all_goals exact aM.ab λa=>h _
theorem aM.fJ{c:Option Bool}:∀{ks:List Ck} {xs:List T} {K:List T->aq->Option R},(∀a,aM (K a))->aM (λO=>fJ c ks xs λa=>K a O)
 | [],xs,K,h=>h xs
 | _::_,[],K,h=>h []
 | k::ks,x::xs,K,h=>by simp only [Aev.fJ];exact aM.fX (K:=λy O=>Aev.fJ c ks xs λb=>K (y::b) O) λy=>aM.fJ (K:=λb O=>K (y::b) O) λb=>h _
theorem aM.oe{c:Option Bool}{t:TypeId}{v:AV}{K:AV->aq->Option R}(h:∀a,aM (K a)):aM (λO=>oe P c t v λa=>K a O):=by
 unfold Aev.oe;cases v <;> (try exact h _)
 case t x=>exact aM.fX (K:=λy O=>K (.t y) O) λy=>h _
 case agg vs=>
  dsimp only;cases ff vs with
  | none=>exact h _
  | some l=>exact aM.fJ (K:=λl O=>K (.agg (l.map .t)) O) λy=>h _
theorem aM.jY{c:Option Bool}:∀{ts:List TypeId} {vs:List AV} {K:List AV->aq->Option R},(∀a,aM (K a))->aM (λO=>jY P c ts vs λa=>K a O)
 | [],vs,K,h=>h vs
 | _::_,[],K,h=>h []
 | t::ts,v::vs,K,h=>by simp only [Aev.jY];exact aM.oe (K:=λu O=>Aev.jY P c ts vs λus=>K (u::us) O) λu=>aM.jY (K:=λus O=>K (u::us) O) λus=>h _
theorem aM.im{s:St}{d:Nat}{c:Option Bool}{f:FuncId}{args:List AV}{K:AV->aK->Option R}:aM (λO=>im P A O s d c f args K):=by
 unfold Aev.im;cases P.funcs[f]? with
 | none=>exact aM.const none
 | some fn=>
  dsimp only;have e:∀(m:Option (List T)) (k:List T->Option R),Aev.ab none m k=m.bind k:=by intro m k;cases m <;> rfl
  cases A.jm f with
  | none=>
   dsimp only;refine aM.bind (F:=λ_=>mz ((dQ P A f 0 fn).all tW) (A.deep f) s.h args) (aM.const _) λp=> ?_;simp only [e];refine aM.jY λq=> ?_;refine aM.bind (F:=λO=>fA c (O (.call f) q [])) ?_ λxs=>aM.const _;unfold fA;cases c with
   | none=>exact aM.ask _ _ _
   | some b=>exact aM.cond (aM.ask _ _ _) (aM.const _)
  | some a=>
   cases c with
   | some b=>exact aM.const none
   | none=>dsimp only;refine aM.bind (F:=λ_=>ny s.h (Ba a args) a args) (aM.const _) λp=> ?_;refine aM.bind (F:=λ_=>lH (2000000+d) 0 (aR s.h p.2) (pe (rR (cC p.1) []) (iP A f (iJ ((cC p.1).head?.bind (aR s.h p.2)))))) (aM.const _) λus=> ?_;refine aM.bind (F:=λ_=>fV (aR (aR s.h p.2) us) 1000 (cC p.1) []) (aM.const _) λseen=> ?_;refine aM.cond ?_ (aM.const none);simp only [e];refine aM.jY λq=> ?_;exact aM.bind (aM.ask _ _ _) λxs=>aM.const _
theorem aM.kx{iO:Bool}{s:St}{d:Nat}{c:Option Bool}{f:FuncId}{args:List AV}{K:AV->aK->Option R}:aM (λO=>kx iO P A O s d c f args K):=by
 unfold Aev.kx;cases _root_.cond iO (ju args) none with
 | none=>exact aM.im
 | some q=>
  obtain⟨a,i,n,e⟩:=q;cases c with
  | some b=>exact aM.const none
  | none=>
   dsimp only;cases s.h i with
   | none=>exact aM.const none
   | some b=>
    cases b with
    | rows b sz col rsz g es=>
     dsimp only;cases cU n es with
     | none=>exact aM.const none
     | some p=>exact aM.cond aM.im (aM.const none)
    | _=>exact aM.const none
theorem aM.dt{g:Option Gs}{o:Oper}{s:St}:aM (λO=>dt P A O g o s):=by
 unfold Aev.dt jF;cases o.op <;> (try dsimp only) <;> try exact aM.const _
 case makeFunc fn a b=>cases fn <;> (try dsimp only) <;> exact aM.const _
 case call cl=>
  cases cl.callee <;> (try dsimp only)
  case value d=>cases nN (s.get g d) <;> (try dsimp only) <;> first | exact aM.kx | exact aM.const _
  case builtin b=>cases b <;> (try dsimp only) <;> exact aM.const _
  all_goals exact aM.const _
theorem aM.fU{a:Bool}{nt:Nat}{ops:Array Oper}{o:Oper}{s:St}:aM (λO=>fU P A O a nt ops o s):=by
 unfold Aev.fU qK;have key:∀{G:aq->Option Gs->Option St},(∀g,aM (λO=>G O g))->aM (λO=>dN ops o s (G O)):=λ{G} b=>by rw [show(λO=>dN ops o s (G O))=λO=>(dN ops o s some).bind (G O) from funext λO=>yZ _ _ _ _];exact aM.bind (aM.const _) b
 refine key λg=> ?_;cases sR A a o g with
 | none=>simp only [th];exact aM.bind aM.dt λp=>aM.const _
 | some d=>simp only [th];exact aM.cond (aM.cond (aM.bind aM.dt λp=>aM.const _) (aM.const _)) (aM.const _)
theorem aM.jT{a:Bool}{nt:Nat}{ops:Array Oper}:∀(l:List Oper) (s:St),aM (λO=>jT P A O a nt ops l s)
 | [],s=>aM.const _
 | o::r,s=>aM.bind (F:=λO=>Aev.fU P A O a nt ops o s) aM.fU λs'=>aM.jT r s'
theorem aM.region{nt:Nat}{a:Bool}{ops:Array Oper}{s:St}{K:St->aq->Option R}(h:∀s,aM (K s)):aM (λO=>region P A O nt a ops s λs'=>K s' O):=by
 unfold Aev.region;refine aM.cond ?_ (aM.const none);have:(λO=>xd P A O a nt ops ops.toList s λs'=>K s'.clear O)=λO=>(Aev.jT P A O a nt ops ops.toList s).bind λs'=>K s'.clear O:=by funext O;rw [Di]
 rw [this];exact aM.bind (aM.jT _ _) λs'=>h _
theorem aM.nh{f:FuncId}{todo:List Item}{live:List (Nat×Option Nat)}{m:Nat×Nat}{s:St}:aM (λO=>nh O f todo live m s):=by unfold Aev.nh;refine aM.bind (aM.const _) λus=> ?_;unfold Aev.Am;refine aM.bind (aM.const _) λp=>aM.ite ?_ (aM.const none);exact aM.bind (aM.const _) λseen=>aM.ask _ _ _
theorem aM.ev{f:FuncId}{fn:Func}{m:Nat×Nat}:∀(n:Nat) (a:Bool) (todo:List Item) (s:St),aM (λO=>ev P A O f fn m n a todo s)
 | 0,a,todo,s=>by simp only [Aev.ev];exact aM.const none
 | n+1,a,[],s=>by simp only [Aev.ev];exact aM.const _
 | n+1,a, .code .skip::k,s=>by simp only [Aev.ev];exact aM.ev n _ _ _
 | n+1,a, .code (.seq x y)::k,s=>by simp only [Aev.ev];exact aM.ev n _ _ _
 | n+1,a, .code (.region id ops d)::k,s=>by
  simp only [Aev.ev];cases e:(bif a then A.join f id else none) with
  | some live=>exact aM.nh
  | none=>exact aM.region λs'=>aM.ev n _ _ _
 | n+1,a, .code (.cond x p q)::k,s=>by simp only [Aev.ev];refine aM.bind (F:=λ_=>(s.get none x).t?) (aM.const _) λy=>aM.ab λt=>aM.cond (aM.ev n _ _ _) (aM.ev n _ _ _)
 | n+1,a, .code (.block id b)::k,s=>by simp only [Aev.ev];exact aM.ev n _ _ _
 | n+1,a, .code (.loop b)::k,s=>by
  simp only [Aev.ev];cases A.live f (qP b) with
  | some live=>exact aM.nh
  | none=>exact aM.const none
 | n+1,a, .code (.exit id)::k,s=>by
  simp only [Aev.ev];cases exitTo id k with
  | some g=>exact aM.ev n _ _ _
  | none=>exact aM.const none
 | n+1,a, .code .ret::k,s=>by simp only [Aev.ev];exact aM.const _
 | n+1,a, .inBlock id::k,s=>by simp only [Aev.ev];exact aM.ev n _ _ _
 | n+1,a, .inLoop b::k,s=>by
  simp only [Aev.ev];cases A.live f (qP b) with
  | some live=>exact aM.nh
  | none=>exact aM.const none
 | n+1,a, .code (.label _)::k,s=>by simp only [Aev.ev];exact aM.const _
 | n+1,a, .code (.goto _)::k,s=>by simp only [Aev.ev];exact aM.const _
 | n+1,a, .code (.rangeFunc ..)::k,s=>by simp only [Aev.ev];exact aM.const _
 | n+1,a, .code (.scope _)::k,s=>by simp only [Aev.ev];exact aM.const _
 | n+1,a, .code (.refuse _)::k,s=>by simp only [Aev.ev];exact aM.const _
 | n+1,a, .inRegion ..::k,s=>by simp only [Aev.ev];exact aM.const _
 | n+1,a, .inScope _::k,s=>by simp only [Aev.ev];exact aM.const _
 | n+1,a, .inRangeFunc _::k,s=>by simp only [Aev.ev];exact aM.const _
 | n+1,a, .endRangeFunc _::k,s=>by simp only [Aev.ev];exact aM.const _
 | n+1,a, .beginRound::k,s=>by simp only [Aev.ev];exact aM.const _
 | n+1,a, .extern ..::k,s=>by simp only [Aev.ev];exact aM.const _
 | n+1,a, .call ..::k,s=>by simp only [Aev.ev];exact aM.const _
theorem aM.au(k:Key)(vs:List AV)(a:List ad):aM (λO=>au P A O k vs a):=by
 cases k with
 | call f=>
  simp only [Aev.au];cases A.ext f vs a with
  | some r=>exact aM.const _
  | none=>
   dsimp only;cases P.funcs[f]? with
   | none=>exact aM.const _
   | some fn=>
    dsimp only;cases fn.body with
    | none=>exact aM.const _
    | some c=>exact aM.ite (aM.ev _ _ _ _) (aM.const _)
 | node f todo live m=>
  simp only [Aev.au];cases P.funcs[f]? with
  | none=>exact aM.const _
  | some fn=>
   dsimp only;split
   .exact aM.ev _ _ _ _
   .exact aM.ev _ _ _ _
theorem Js:∀(n:Nat) {k:Key} {vs:List AV} {a:List ad} {r:List T},jR P A n k vs a=some r->jR P A (n+1) k vs a=some r
 | 0,k,vs,a,r,h=>by simp [jR] at h
 | n+1,k,vs,a,r,h=>by obtain⟨L,e,g⟩:=aM.au (P:=P) (A:=A) k vs a _ r h;exact g _ λq b=>Js n (e q b)
theorem zD{n m:Nat}(b:n<=m){k:Key}{vs:List AV}{a:List ad}{r:List T}(h:jR P A n k vs a=some r):jR P A m k vs a=some r:=by
 induction b with
 | refl=>exact h
 | step _ d=>exact Js _ d
theorem C2{n:Nat}{k:Key}{vs:List AV}{e:List ad}{r:List T}(h:jR P A n k vs e=some r):mR P A k vs e=some r:=by unfold mR;have d:∃n r,jR P A n k vs e=some r:=⟨n,r,h⟩;rw [dif_pos d];have f:=Zc (Zc d);have a:=zD (Nat.le_max_left n (Classical.choose d)) h;have b:=zD (Nat.le_max_right n (Classical.choose d)) f;rw [a] at b;exact b.symm
theorem ai{k:Key}{vs:List AV}{b:List ad}{r:List T}(h:au P A (mR P A) k vs b=some r):mR P A k vs b=some r:=by
 obtain⟨L,e,g⟩:=aM.au (P:=P) (A:=A) k vs b _ r h;have:∃n,Ay (jR P A n) L:=by
  clear g h;induction L with
  | nil=>exact⟨0,(by intro q a;cases a)⟩
  | cons q L i=>
   obtain⟨n,d⟩:=i λf a=>e f (W8 _ a);obtain⟨m,hm⟩:=Jt (e q W7);refine⟨max n m,λf a=> ?_⟩;rcases Xl.1 a with rfl | a
   .exact zD (Nat.le_max_right _ _) hm
   .exact zD (Nat.le_max_left _ _) (d f a)
 obtain⟨n,d⟩:=this;exact C2 (n:=n+1) (g _ d)
end
open Go Go.IntKind
section
variable {P:Program} {An:cW} {w w':World}
theorem xP.below(k:xP w w'):Go.RowKit.Below w.heap.size w w':=⟨k.os,k.tape,k.output,k.size,k.ah⟩
theorem M7{f:FuncId}{fn:Func}{bE:List AV}{args:List Value}{A0:Nat->Prop}(y:oo P An)(hm:P.follows .mixedOrders=true)(B:∀(f:FuncId) (fn:Func),P.funcs[f]? =some fn->fn.name≠ "runtime.NumGoroutine")
  (l:P.funcs[f]? =some fn) (d:An.jm f=none) (i:dQ P An f 0 fn= [.f .b]) (r:∀b,A0 b->b < w.heap.size) (g:aD w A0 (λ_=>none) bE args)
  (e:mR P An (.call f) bE []=some [.bool true]) (u:GlobOk w:=by exact Go.Aev.globOk _):Calls P f args.toArray w λe w'=>e= .returned (.bool true)/\Go.RowKit.Below w.heap.size w w':=by
 obtain⟨E,o,a,_,_,p⟩:=SM y hm B f bE [] _ e;rw [l] at a;simp only [W5] at a;subst a;refine(p.values d A0 w args r g u).mono λe w' ⟨rs,own,z,C,_,_,m⟩=> ?_;rw [i] at m;obtain⟨x,G,v,F,ob,D,j,rfl,_,q,I,rfl,_⟩:=m;simp only [Yh] at j;obtain⟨rfl,rfl⟩:=j;obtain⟨_,k,_⟩:=q;simp only [az] at k;subst k;exact⟨z,C.below⟩
end
open Go Go.IntKind
abbrev I(n:Int):AV:= .t (.int .i64 n)
abbrev B(b:Bool):AV:= .t (.bool b)
theorem aI{b R:Type}[Inhabited b](c:Option Bool)(a:b)(k:b->Option R):ab c (some a) k=k a:=by cases c <;> rfl
theorem bI{a R:Type}[Inhabited a](m:Option a)(k:a->Option R):ab (some false) m k=k (m.getD default):=by cases m <;> rfl
def bS(m:Option (List T))(k:Int->(Bool×List Row)->(List (List T×T))->Option (List T)):Option (List T):=ab none m λv0=>ab none v0.head? λa=>ab none (T.int? i64 a) λb=>ab none (List.drop 1 v0).head? λd=>ab none (kB d) λe=>ab none (List.drop 1 v0).tail.head? λg=>ab none ((List.drop 2 (List.drop 1 v0)).head?.bind λz=>jL z) λf=>k b e f
def bq(l:List (List T))(i:Int)(k:Int->Option (List T)):Option (List T):=ab none (if 0<=i/\i < ↑l.length then some () else none) λ_=>ab none l[i.toNat]? λv0=>ab none v0.head? λa=>ab none (T.int? i64 a) λb=>k b
def p9(m:Option (List T))(k:(Bool×List (List T))->Int->Int->Int->(Bool×List (List T))->(Bool×List (List T))->(Bool×List (List T))->ByteArray->(Bool×List (List T))->(Bool×List Row)->(Bool×List (List T))->(Bool×List (List T))->(List (List T×T))->Option (List T)):Option (List T):=ab none m λv0=>ab none v0.head? λC=>ab none (T.aQ 1 C) λD=>ab none (List.drop 1 v0).head? λU=>ab none (List.drop 1 (List.drop 1 v0)).head? λE=>ab none (T.int? i64 E) λF=>ab none (List.drop 1 (List.drop 1 v0)).tail.head? λG=>ab none (T.aQ 1 G) λV=>ab none (List.drop 1 (List.drop 1 v0)).tail.tail.head? λI=>ab none (T.int? i64 I) λJ=>ab none (List.drop 1 (List.drop 1 v0)).tail.tail.tail.head? λa=>ab none (T.int? i64 a) λb=>ab none (List.drop 1 (List.drop 1 v0)).tail.tail.tail.tail.head? λd=>ab none d.dY λK=>ab none (List.drop 5 (List.drop 1 (List.drop 1 v0))).head? λL=>ab none (List.drop 5 (List.drop 1 (List.drop 1 v0))).tail.head? λe=>ab none (T.aQ 3 e) λf=>ab none (List.drop 5 (List.drop 1 (List.drop 1 v0))).tail.tail.head? λg=>ab none (T.aQ 5 g) λi=>ab none (List.drop 5 (List.drop 1 (List.drop 1 v0))).tail.tail.tail.head? λj=>ab none (T.aQ 1 j) λl=>ab none (List.drop 5 (List.drop 1 (List.drop 1 v0))).tail.tail.tail.tail.head? λo=>ab none o.dY λp=>ab none (List.drop 5 (List.drop 1 (List.drop 1 v0))).tail.tail.tail.tail.tail.head? λq=>ab none (T.aQ 1 q) λr=>ab none (List.drop 5 (List.drop 1 (List.drop 1 v0))).tail.tail.tail.tail.tail.tail.head? λM=>ab none (List.drop 5 (List.drop 1 (List.drop 1 v0))).tail.tail.tail.tail.tail.tail.tail.head? λN=>ab none (List.drop 8 (List.drop 5 (List.drop 1 (List.drop 1 v0)))).head? λu=>ab none (kB u) λv=>ab none (List.drop 8 (List.drop 5 (List.drop 1 (List.drop 1 v0)))).tail.head? λQ=>ab none ((List.drop 2 (List.drop 8 (List.drop 5 (List.drop 1 (List.drop 1 v0))))).head?.bind λz=>T.aQ 1 z) λx=>ab none ((List.drop 2 (List.drop 8 (List.drop 5 (List.drop 1 (List.drop 1 v0))))).tail.head?.bind λz=>T.aQ 1 z) λy=>ab none ((List.drop 2 (List.drop 8 (List.drop 5 (List.drop 1 (List.drop 1 v0))))).tail.tail.head?.bind λz=>jL z) λB=>k D F J b f i l p r v x y B
def qc(m:Option (List T))(k:(Bool×List (List T))->Int->(Bool×List (List T))->Int->Int->ByteArray->(Bool×List (List T))->(Bool×List (List T))->(Bool×List (List T))->ByteArray->(Bool×List (List T))->(Bool×List Row)->(Bool×List (List T))->(Bool×List (List T))->(List (List T×T))->Option (List T)):Option (List T):=ab none m λv0=>ab none v0.head? λD=>ab none (T.aQ 1 D) λE=>ab none (List.drop 1 v0).head? λV=>ab none (List.drop 1 (List.drop 1 v0)).head? λF=>ab none (T.int? i64 F) λG=>ab none (List.drop 1 (List.drop 1 v0)).tail.head? λI=>ab none (T.aQ 1 I) λJ=>ab none (List.drop 1 (List.drop 1 v0)).tail.tail.head? λK=>ab none (T.int? i64 K) λL=>ab none (List.drop 1 (List.drop 1 v0)).tail.tail.tail.head? λa=>ab none (T.int? i64 a) λb=>ab none (List.drop 1 (List.drop 1 v0)).tail.tail.tail.tail.head? λd=>ab none d.dY λe=>ab none (List.drop 5 (List.drop 1 (List.drop 1 v0))).head? λM=>ab none (List.drop 5 (List.drop 1 (List.drop 1 v0))).tail.head? λf=>ab none (T.aQ 3 f) λg=>ab none (List.drop 5 (List.drop 1 (List.drop 1 v0))).tail.tail.head? λi=>ab none (T.aQ 5 i) λj=>ab none (List.drop 5 (List.drop 1 (List.drop 1 v0))).tail.tail.tail.head? λl=>ab none (T.aQ 1 l) λo=>ab none (List.drop 5 (List.drop 1 (List.drop 1 v0))).tail.tail.tail.tail.head? λp=>ab none p.dY λq=>ab none (List.drop 5 (List.drop 1 (List.drop 1 v0))).tail.tail.tail.tail.tail.head? λr=>ab none (T.aQ 1 r) λu=>ab none (List.drop 5 (List.drop 1 (List.drop 1 v0))).tail.tail.tail.tail.tail.tail.head? λN=>ab none (List.drop 5 (List.drop 1 (List.drop 1 v0))).tail.tail.tail.tail.tail.tail.tail.head? λQ=>ab none (List.drop 8 (List.drop 5 (List.drop 1 (List.drop 1 v0)))).head? λv=>ab none (kB v) λx=>ab none (List.drop 8 (List.drop 5 (List.drop 1 (List.drop 1 v0)))).tail.head? λU=>ab none ((List.drop 2 (List.drop 8 (List.drop 5 (List.drop 1 (List.drop 1 v0))))).head?.bind λz=>T.aQ 1 z) λy=>ab none ((List.drop 2 (List.drop 8 (List.drop 5 (List.drop 1 (List.drop 1 v0))))).tail.head?.bind λz=>T.aQ 1 z) λB=>ab none ((List.drop 2 (List.drop 8 (List.drop 5 (List.drop 1 (List.drop 1 v0))))).tail.tail.head?.bind λz=>jL z) λC=>k E G J L b e g j o q u x y B C
def fN(m:Option (List T))(k:Int->Int->(Bool×List (List T))->Int->Option (List T)):Option (List T):=ab none m λv0=>ab none v0.head? λa=>ab none (T.int? i64 a) λb=>ab none v0.tail.head? λd=>ab none (T.int? i64 d) λe=>ab none v0.tail.tail.head? λf=>ab none (T.aQ 2 f) λg=>ab none v0.tail.tail.tail.head? λi=>ab none (T.int? i64 i) λj=>k b e g j
def bw(m:Option (List T))(k:Bool->Option (List T)):Option (List T):=ab none m λv0=>ab none v0.head? λa=>ab none a.bool? λb=>k b
def lr(l:List (List T))(i:Int)(k:(Bool×List (List T))->Int->Int->(Bool×List (List T))->Int->Option (List T)):Option (List T):=ab none (if 0<=i/\i < ↑l.length then some () else none) λ_=>ab none l[i.toNat]? λv0=>ab none v0.head? λb=>ab none v0.tail.head? λd=>ab none v0.tail.tail.head? λe=>ab none v0.tail.tail.tail.head? λf=>ab none v0.tail.tail.tail.tail.head? λg=>ab none (T.aQ 1 b) λj=>ab none (T.int? i64 d) λm=>ab none (T.int? i64 e) λo=>ab none (T.aQ 2 f) λp=>ab none (T.int? i64 g) λa=>k j m o p a
def gB(m:Option (List T))(k:Bool->(Bool×List Row)->(List (List T×T))->Option (List T)):Option (List T):=ab none m λv0=>ab none v0.head? λa=>ab none a.bool? λb=>ab none (List.drop 1 v0).head? λd=>ab none (kB d) λe=>ab none (List.drop 1 v0).tail.head? λg=>ab none ((List.drop 2 (List.drop 1 v0)).head?.bind λz=>jL z) λf=>k b e f
def fG(l:List (List T))(k:Int->Option (List T)):Option (List T):=ab none (if(0:Int)<=0/\(0:Int) < ↑l.length then some () else none) λ_=>ab none l[0]? λv0=>ab none v0.head? λa=>ab none (T.int? i64 a) λb=>k b
def yq(m:Option (List T))(k:(Bool×List (List T))->(Bool×List (List T))->(Bool×List (List T))->(Bool×List (List T))->ByteArray->(Bool×List (List T))->(Bool×List Row)->(Bool×List (List T))->(Bool×List (List T))->(List (List T×T))->Option (List T)):Option (List T):=ab none m λv0=>ab none v0.head? λB=>ab none (T.aQ 1 B) λC=>ab none (List.drop 1 v0).head? λN=>ab none (List.drop 1 (List.drop 1 v0)).head? λD=>ab none (T.int? i64 D) λQ=>ab none (List.drop 1 (List.drop 1 v0)).tail.head? λE=>ab none (T.aQ 1 E) λU=>ab none (List.drop 1 (List.drop 1 v0)).tail.tail.head? λF=>ab none (T.int? i64 F) λV=>ab none (List.drop 1 (List.drop 1 v0)).tail.tail.tail.head? λa=>ab none (T.int? i64 a) λG=>ab none (List.drop 1 (List.drop 1 v0)).tail.tail.tail.tail.head? λb=>ab none b.dY λI=>ab none (List.drop 5 (List.drop 1 (List.drop 1 v0))).head? λJ=>ab none (List.drop 5 (List.drop 1 (List.drop 1 v0))).tail.head? λd=>ab none (T.aQ 3 d) λe=>ab none (List.drop 5 (List.drop 1 (List.drop 1 v0))).tail.tail.head? λf=>ab none (T.aQ 5 f) λg=>ab none (List.drop 5 (List.drop 1 (List.drop 1 v0))).tail.tail.tail.head? λi=>ab none (T.aQ 1 i) λj=>ab none (List.drop 5 (List.drop 1 (List.drop 1 v0))).tail.tail.tail.tail.head? λl=>ab none l.dY λo=>ab none (List.drop 5 (List.drop 1 (List.drop 1 v0))).tail.tail.tail.tail.tail.head? λp=>ab none (T.aQ 1 p) λq=>ab none (List.drop 5 (List.drop 1 (List.drop 1 v0))).tail.tail.tail.tail.tail.tail.head? λK=>ab none (List.drop 5 (List.drop 1 (List.drop 1 v0))).tail.tail.tail.tail.tail.tail.tail.head? λL=>ab none (List.drop 8 (List.drop 5 (List.drop 1 (List.drop 1 v0)))).head? λr=>ab none (kB r) λu=>ab none (List.drop 8 (List.drop 5 (List.drop 1 (List.drop 1 v0)))).tail.head? λM=>ab none ((List.drop 2 (List.drop 8 (List.drop 5 (List.drop 1 (List.drop 1 v0))))).head?.bind λz=>T.aQ 1 z) λv=>ab none ((List.drop 2 (List.drop 8 (List.drop 5 (List.drop 1 (List.drop 1 v0))))).tail.head?.bind λz=>T.aQ 1 z) λx=>ab none ((List.drop 2 (List.drop 8 (List.drop 5 (List.drop 1 (List.drop 1 v0))))).tail.tail.head?.bind λz=>jL z) λy=>k C e g j o q u v x y
def nG(l:List (List T))(i:Int)(k:Int->(Bool×List (List T))->Int->Int->ByteArray->Option (List T)):Option (List T):=ab none (if 0<=i/\i < ↑l.length then some () else none) λ_=>ab none l[i.toNat]? λv0=>ab none v0.head? λb=>ab none v0.tail.head? λd=>ab none v0.tail.tail.head? λe=>ab none v0.tail.tail.tail.head? λf=>ab none v0.tail.tail.tail.tail.head? λg=>ab none (T.int? i64 b) λj=>ab none (T.aQ 1 d) λm=>ab none (T.int? i64 e) λo=>ab none (T.int? i64 f) λp=>ab none g.dY λa=>k j m o p a
def cM(m:Option (List T))(k:Int->Option (List T)):Option (List T):=ab none m λv0=>ab none v0.head? λa=>ab none (T.int? i64 a) λb=>k b
def lf(l:List (List T))(i:Int)(k:ByteArray->(Bool×List (List T))->Int->Option (List T)):Option (List T):=ab none (if 0<=i/\i < ↑l.length then some () else none) λ_=>ab none l[i.toNat]? λv0=>ab none v0.head? λa=>ab none v0.tail.head? λb=>ab none v0.tail.tail.head? λd=>ab none a.dY λe=>ab none (T.aQ 1 b) λf=>ab none (T.int? i64 d) λg=>k e f g
def yg(m:Option (List T))(k:Int->Int->(Bool×List (List T))->(Bool×List (List T))->(Bool×List (List T))->ByteArray->(Bool×List (List T))->(Bool×List Row)->(Bool×List (List T))->(Bool×List (List T))->(List (List T×T))->Option (List T)):Option (List T):=ab none m λv0=>ab none v0.head? λr=>ab none (T.int? i64 r) λu=>ab none (List.drop 1 v0).head? λG=>ab none (List.drop 1 (List.drop 1 v0)).head? λv=>ab none (T.int? i64 v) λx=>ab none (List.drop 1 (List.drop 1 (List.drop 1 v0))).head? λI=>ab none (List.drop 1 (List.drop 1 (List.drop 1 v0))).tail.head? λy=>ab none (T.aQ 3 y) λB=>ab none (List.drop 1 (List.drop 1 (List.drop 1 v0))).tail.tail.head? λC=>ab none (T.aQ 5 C) λa=>ab none (List.drop 1 (List.drop 1 (List.drop 1 v0))).tail.tail.tail.head? λb=>ab none (T.aQ 1 b) λd=>ab none (List.drop 1 (List.drop 1 (List.drop 1 v0))).tail.tail.tail.tail.head? λe=>ab none e.dY λf=>ab none (List.drop 1 (List.drop 1 (List.drop 1 v0))).tail.tail.tail.tail.tail.head? λg=>ab none (T.aQ 1 g) λi=>ab none (List.drop 1 (List.drop 1 (List.drop 1 v0))).tail.tail.tail.tail.tail.tail.head? λD=>ab none (List.drop 1 (List.drop 1 (List.drop 1 v0))).tail.tail.tail.tail.tail.tail.tail.head? λE=>ab none (List.drop 8 (List.drop 1 (List.drop 1 (List.drop 1 v0)))).head? λj=>ab none (kB j) λl=>ab none (List.drop 8 (List.drop 1 (List.drop 1 (List.drop 1 v0)))).tail.head? λF=>ab none ((List.drop 2 (List.drop 8 (List.drop 1 (List.drop 1 (List.drop 1 v0))))).head?.bind λz=>T.aQ 1 z) λo=>ab none ((List.drop 2 (List.drop 8 (List.drop 1 (List.drop 1 (List.drop 1 v0))))).tail.head?.bind λz=>T.aQ 1 z) λp=>ab none ((List.drop 2 (List.drop 8 (List.drop 1 (List.drop 1 (List.drop 1 v0))))).tail.tail.head?.bind λz=>jL z) λq=>k u x B a d f i l o p q
def p8(l:List (List T))(i:Int)(k:(Bool×List (List T))->Int->Int->(Bool×List (List T))->Int->Option (List T)):Option (List T):=ab none (if 0<=i/\i < ↑l.length then some () else none) λ_=>ab none l[i.toNat]? λv0=>ab none v0.head? λb=>ab none v0.tail.head? λd=>ab none v0.tail.tail.head? λe=>ab none v0.tail.tail.tail.head? λf=>ab none v0.tail.tail.tail.tail.head? λg=>ab none (T.aQ 5 b) λj=>ab none (T.int? i64 d) λm=>ab none (T.int? i64 e) λo=>ab none (T.aQ 2 f) λp=>ab none (T.int? i64 g) λa=>k j m o p a
def lh(m:Option (List T))(k:(Bool×List (List T))->(Bool×List Row)->(List (List T×T))->Option (List T)):Option (List T):=ab none m λv0=>ab none v0.head? λa=>ab none (T.aQ 1 a) λb=>ab none (List.drop 1 v0).head? λd=>ab none (kB d) λe=>ab none (List.drop 1 v0).tail.head? λg=>ab none ((List.drop 2 (List.drop 1 v0)).head?.bind λz=>jL z) λf=>k b e f
def lj(l:List (List T))(k:Int->Option (List T)):Option (List T):=ab none (if(0:Int)<=1/\(1:Int) < ↑l.length then some () else none) λ_=>ab none l[1]? λv0=>ab none v0.head? λa=>ab none (T.int? i64 a) λb=>k b
def kz(m:Option (List T))(k:Int->Int->Option (List T)):Option (List T):=ab none m λv0=>ab none v0.head? λa=>ab none (T.int? i64 a) λb=>ab none v0.tail.head? λd=>ab none (T.int? i64 d) λe=>k b e
def rM(m:Option (List T))(k:Int->Int->Int->Int->Option (List T)):Option (List T):=ab none m λv0=>ab none v0.head? λa=>ab none (T.int? i64 a) λb=>ab none v0.tail.head? λd=>ab none (T.int? i64 d) λe=>ab none (List.drop 2 v0).head? λf=>ab none (T.int? i64 f) λg=>ab none (List.drop 2 v0).tail.head? λi=>ab none (T.int? i64 i) λj=>k b e g j
def tC(m:Option (List T))(k:(Bool×List (List T))->Int->Int->(Bool×List (List T))->Int->Option (List T)):Option (List T):=ab none m λv0=>ab none v0.head? λb=>ab none (T.aQ 5 b) λd=>ab none v0.tail.head? λe=>ab none (T.int? i64 e) λf=>ab none v0.tail.tail.head? λg=>ab none (T.int? i64 g) λi=>ab none v0.tail.tail.tail.head? λj=>ab none (T.aQ 2 j) λl=>ab none v0.tail.tail.tail.tail.head? λo=>ab none (T.int? i64 o) λa=>k d f i l a
def rN(l:List (List T))(i:Int)(k:Int->Int->Option (List T)):Option (List T):=ab none (if 0<=i/\i < ↑l.length then some () else none) λ_=>ab none l[i.toNat]? λv0=>ab none v0.head? λa=>ab none v0.tail.head? λb=>ab none (T.int? i64 a) λd=>ab none (T.int? i64 b) λe=>k d e
def vF(l:List (List T))(i:Int)(k:Int->Int->(Bool×List (List T))->Int->Option (List T)):Option (List T):=ab none (if 0<=i/\i < ↑l.length then some () else none) λ_=>ab none l[i.toNat]? λv0=>ab none v0.head? λa=>ab none v0.tail.head? λb=>ab none v0.tail.tail.head? λd=>ab none v0.tail.tail.tail.head? λe=>ab none (T.int? i64 a) λf=>ab none (T.int? i64 b) λg=>ab none (T.aQ 2 d) λj=>ab none (T.int? i64 e) λm=>k f g j m
def iI(m:Option (List T))(k:(Bool×List (List T))->Option (List T)):Option (List T):=ab none m λv0=>ab none v0.head? λa=>ab none (T.aQ 1 a) λb=>k b
def ir(m:Option (List T))(k:ByteArray->Option (List T)):Option (List T):=ab none m λv0=>ab none v0.head? λa=>ab none a.dY λb=>k b
def vG(m:Option (List T))(k:Int->Int->(Bool×List (List T))->Int->Bool->Option (List T)):Option (List T):=ab none m λv0=>ab none v0.head? λb=>ab none (T.int? i64 b) λd=>ab none v0.tail.head? λe=>ab none (T.int? i64 e) λf=>ab none v0.tail.tail.head? λg=>ab none (T.aQ 2 g) λi=>ab none v0.tail.tail.tail.head? λj=>ab none (T.int? i64 j) λl=>ab none (List.drop 4 v0).head? λo=>ab none o.bool? λa=>k d f i l a
def tD(l:List (List T))(k:Int->Int->Option (List T)):Option (List T):=ab none (if(0:Int)<=0/\(0:Int) < ↑l.length then some () else none) λ_=>ab none l[0]? λv0=>ab none v0.head? λa=>ab none v0.tail.head? λb=>ab none (T.int? i64 a) λd=>ab none (T.int? i64 b) λe=>k d e
def yh(l:List (List T))(i:Int)(k:(Bool×List (List T))->Int->Option (List T)):Option (List T):=ab none (if 0<=i/\i < ↑l.length then some () else none) λ_=>ab none l[i.toNat]? λv0=>ab none v0.head? λa=>ab none v0.tail.head? λb=>ab none v0.tail.tail.head? λd=>ab none v0.tail.tail.tail.head? λe=>ab none v0.tail.tail.tail.tail.head? λf=>ab none (T.aQ 5 a) λg=>ab none (T.int? i64 b) λj=>ab none (T.int? i64 d) λo=>ab none (T.aQ 2 e) λp=>ab none (T.int? i64 f) λm=>k g j
def yk(l:List (List T))(k:Int->Int->(Bool×List (List T))->Int->Option (List T)):Option (List T):=ab none (if(0:Int)<=0/\(0:Int) < ↑l.length then some () else none) λ_=>ab none l[0]? λv0=>ab none v0.head? λa=>ab none v0.tail.head? λb=>ab none v0.tail.tail.head? λd=>ab none v0.tail.tail.tail.head? λe=>ab none (T.int? i64 a) λf=>ab none (T.int? i64 b) λg=>ab none (T.aQ 2 d) λi=>ab none (T.int? i64 e) λj=>k f g i j
def rO(l:List (List T))(i:Int)(k:(Bool×List (List T))->Option (List T)):Option (List T):=ab none (if 0<=i/\i < ↑l.length then some () else none) λ_=>ab none l[i.toNat]? λv0=>ab none v0.head? λa=>ab none (T.aQ 1 a) λb=>k b
def vH(l:List (List T))(k:Int->Int->Option (List T)):Option (List T):=ab none (if(0:Int)<=1/\(1:Int) < ↑l.length then some () else none) λ_=>ab none l[1]? λv0=>ab none v0.head? λa=>ab none v0.tail.head? λb=>ab none (T.int? i64 a) λd=>ab none (T.int? i64 b) λe=>k d e
def yl(l:List (List T))(i:Int)(k:Int->Option (List T)):Option (List T):=ab none (if 0<=i/\i < ↑l.length then some () else none) λ_=>ab none l[i.toNat]? λv0=>ab none v0.head? λa=>ab none v0.tail.head? λb=>ab none v0.tail.tail.head? λd=>ab none a.dY λf=>ab none (T.aQ 1 b) λg=>ab none (T.int? i64 d) λe=>k e
def vI(l:List (List T))(i:Int)(k:Bool->Option (List T)):Option (List T):=ab none (if 0<=i/\i < ↑l.length then some () else none) λ_=>ab none l[i.toNat]? λv0=>ab none v0.head? λa=>ab none a.bool? λb=>k b
def ym(m:Option (List T))(k:(Bool×List (List T))->Int->Option (List T)):Option (List T):=ab none m λv0=>ab none v0.head? λa=>ab none (T.aQ 4 a) λb=>ab none v0.tail.head? λd=>ab none (T.int? i64 d) λe=>ab none v0.tail.tail.head? λf=>ab none (T.int? i64 f) λg=>k b e
def yn(m:Option (List T))(k:Bool->Option (List T)):Option (List T):=ab none m λv0=>ab none v0.head? λa=>ab none a.bool? λb=>ab none v0.tail.head? λd=>ab none (T.int? i64 d) λf=>ab none v0.tail.tail.head? λe=>ab none (T.int? i64 e) λg=>k b
def yo(m:Option (List T))(k:(Bool×List (List T))->(Bool×List (List T))->(Bool×List (List T))->Option (List T)):Option (List T):=ab none m λv0=>ab none v0.head? λa=>ab none (T.aQ 3 a) λb=>ab none v0.tail.head? λd=>ab none (T.aQ 5 d) λe=>ab none v0.tail.tail.head? λf=>ab none (T.aQ 1 f) λg=>k b e g
def yp(m:Option (List T))(k:Int->Option (List T)):Option (List T):=ab none m λv0=>ab none v0.head? λa=>ab none (T.int? i64 a) λb=>ab none v0.tail.head? λd=>ab none (T.int? i64 d) λe=>k b
def tE(m:Option (List T))(k:(Bool×List (List T))->Option (List T)):Option (List T):=ab none m λv0=>ab none v0.head? λa=>ab none (T.aQ 2 a) λb=>k b
def vJ(m:Option (List T))(k:Int->Option (List T)):Option (List T):=ab none m λv0=>ab none v0.head? λa=>ab none (T.int? u64 a) λb=>k b
def aF(p:Prop)[Decidable p](k:Option (List T)):Option (List T):=ab none (if p then some () else none) λ_=>k
theorem HK{a:Type}(x:a)(l:List a):(x::l).head? =some x:=by cases l <;> rfl
theorem aL:(type_of% @HK)/\(type_of% @aF.eq_1)/\(type_of% @bS.eq_1)/\(type_of% @bq.eq_1)/\(type_of% @p9.eq_1)/\(type_of% @qc.eq_1)/\(type_of% @fN.eq_1)/\(type_of% @bw.eq_1)/\(type_of% @lr.eq_1)/\(type_of% @gB.eq_1)/\(type_of% @fG.eq_1)/\(type_of% @yq.eq_1)/\(type_of% @nG.eq_1)/\(type_of% @cM.eq_1)/\(type_of% @lf.eq_1)/\(type_of% @yg.eq_1)/\(type_of% @p8.eq_1)/\(type_of% @lh.eq_1)/\(type_of% @lj.eq_1)/\(type_of% @kz.eq_1)/\(type_of% @rM.eq_1)/\(type_of% @tC.eq_1)/\(type_of% @rN.eq_1)/\(type_of% @vF.eq_1)/\(type_of% @iI.eq_1)/\(type_of% @ir.eq_1)/\(type_of% @vG.eq_1)/\(type_of% @tD.eq_1)/\(type_of% @yh.eq_1)/\(type_of% @yk.eq_1)/\(type_of% @rO.eq_1)/\(type_of% @vH.eq_1)/\(type_of% @yl.eq_1)/\(type_of% @vI.eq_1)/\(type_of% @ym.eq_1)/\(type_of% @yn.eq_1)/\(type_of% @yo.eq_1)/\(type_of% @yp.eq_1)/\(type_of% @tE.eq_1)/\(type_of% @vJ.eq_1):=⟨@HK,@aF.eq_1,@bS.eq_1,@bq.eq_1,@p9.eq_1,@qc.eq_1,@fN.eq_1,@bw.eq_1,@lr.eq_1,@gB.eq_1,@fG.eq_1,@yq.eq_1,@nG.eq_1,@cM.eq_1,@lf.eq_1,@yg.eq_1,@p8.eq_1,@lh.eq_1,@lj.eq_1,@kz.eq_1,@rM.eq_1,@tC.eq_1,@rN.eq_1,@vF.eq_1,@iI.eq_1,@ir.eq_1,@vG.eq_1,@tD.eq_1,@yh.eq_1,@yk.eq_1,@rO.eq_1,@vH.eq_1,@yl.eq_1,@vI.eq_1,@ym.eq_1,@yn.eq_1,@yo.eq_1,@yp.eq_1,@tE.eq_1,@vJ.eq_1⟩
theorem aU{a:Type}(x:a)(l:List a):(x::l).tail=l:=by cases l <;> rfl
theorem dI{a:Type}(l:List a):l.drop 0=l:=by cases l <;> rfl
theorem dz{a:Type}(x:a)(l:List a):(x::l).drop 1=l:=by cases l <;> rfl
theorem dJ{a:Type}(x y:a)(l:List a):(x::y::l).drop 2=l:=by cases l <;> rfl
theorem fO{a:Type}(x y z:a)(l:List a):(x::y::z::l).drop 3=l:=by cases l <;> rfl
theorem tI{a:Type}(x y z u:a)(l:List a):(x::y::z::u::l).drop 4=l:=by cases l <;> rfl
theorem Fz{a:Type}(x y z u v:a)(l:List a):(x::y::z::u::v::l).drop 5=l:=by cases l <;> rfl
theorem FA{a:Type}(x y z u v t:a)(l:List a):(x::y::z::u::v::t::l).drop 6=l:=by cases l <;> rfl
theorem bA(b:Bool):(T.bool b).bool? =some b:=by cases b <;> rfl
theorem aP(k:IntKind)(n:Int):(T.int k n).int? k=some n:=by cases k <;> simp [T.int?]
theorem fW(s:ByteArray):(T.str s).dY =some s:=by cases s;rfl
theorem bO(sz:Nat)(b:Bool)(l:List (List T)):(T.aa sz b l).aQ sz=some (b,l):=by cases b <;> simp [T.aQ]
theorem cD(sz:Nat)(b:Bool):(T.aC b).aQ sz=some (b,[]):=by cases b <;> rfl
theorem JG(l:List T):(T.ptr l).sL =some l:=by cases l <;> rfl
theorem He(k:IntKind)(n:Int):(T.int k n).rX =some ():=by cases k <;> rfl
theorem Hd(b:Bool):(T.bool b).rX =some ():=by cases b <;> rfl
theorem Hx(b:ByteArray):(T.str b).rX =some ():=by cases b;rfl
theorem aS{d:Type}(a b:d):cond true a b=a:=by simp
theorem aV{d:Type}(a b:d):cond false a b=b:=by simp
theorem jb:(!true)=false:=by decide
theorem ja:(!false)=true:=by decide
theorem iT(m:Option (List T)):fA none m=m:=by cases m <;> rfl
theorem fy(m:Option (List T)):fA (some true) m=m:=by cases m <;> rfl
theorem fL(m:Option (List T)):fA (some false) m=some []:=by cases m <;> rfl
theorem eC{d:Type}(p:Prop)[Decidable p](a b:d):(bif decide p then a else b)=if p then a else b:=by by_cases h:p <;> simp [h]
theorem Fh{d:Type}(p:Prop)[Decidable p](a b:d):(bif !decide p then a else b)=if p then b else a:=by by_cases h:p <;> simp [h]
theorem Bc{d:Type}(m n:Int)(a b:d):(bif m==n then a else b)=if m=n then a else b:=by
 by_cases h:m=n
 .simp [h]
 .have:(m==n)=false:=by simpa using h
  simp [h,this]
theorem Fg{d:Type}(m n:Int)(a b:d):(bif !m==n then a else b)=if m=n then b else a:=by
 by_cases h:m=n
 .simp [h]
 .have:(m==n)=false:=by simpa using h
  simp [h,this]
theorem tw(a b:Bool):(bif a then b else false)= (a && b):=by cases a <;> simp
theorem vE(a b:Bool):(bif a then true else b)= (a || b):=by cases a <;> simp
theorem wr{v:Int}(h: -9223372036854775808<=v/\v < 9223372036854775808):i64.wrap v=v:=by simp [IntKind.wrap,IntKind.signed,IntKind.bits];omega
theorem ao:(type_of% @aI)/\(type_of% @aL)/\(type_of% @aU)/\(type_of% @dI)/\(type_of% @dz)/\(type_of% @dJ)/\(type_of% @fO)/\(type_of% @tI)/\(type_of% @Fz)/\(type_of% @FA)/\(type_of% @bA)/\(type_of% @aP)/\(type_of% @fW)/\(type_of% @bO)/\(type_of% @cD)/\(type_of% @JG)/\(type_of% @He)/\(type_of% @Hd)/\(type_of% @Hx)/\(type_of% @aS)/\(type_of% @aV)/\(type_of% @jb)/\(type_of% @ja)/\(type_of% @iT)/\(type_of% @fy)/\(type_of% @fL)/\(type_of% @eC)/\(type_of% @Fh)/\(type_of% @Bc)/\(type_of% @Fg)/\(type_of% @beq_self_eq_true.{0})/\(type_of% @Yk)/\(type_of% @XR)/\(type_of% @X3)/\(type_of% @X4):=⟨@aI,@aL,@aU,@dI,@dz,@dJ,@fO,@tI,@Fz,@FA,@bA,@aP,@fW,@bO,@cD,@JG,@He,@Hd,@Hx,@aS,@aV,@jb,@ja,@iT,@fy,@fL,@eC,@Fh,@Bc,@Fg,@beq_self_eq_true.{0},@Yk,@XR,@X3,@X4⟩
open Go Go.ChangeShapes Go.WideShapes Go.ChangeAt Go.RowKit Go.IntKind
def xp(P:Program)(go:TypeId->Bool):List Field->Nat->Option Nat
 | [],off=>some off
 | f::r,off=>if f.offset=off/\go f.type=true then xp P go r (off+P.cellsOf f.type) else none
def kJ(P:Program):Nat->TypeId->Bool
 | 0,_=>false
 | n+1,t=>match P.underlying t with
  | some .bool=>true
  | some (.int _)=>true
  | some .string=>true
  | some (.slice e)=>kJ P n e && decide (0 < P.cellsOf e)
  | some (.struct a)=>decide (xp P (kJ P n) a.toList 0=some (P.cellsOf t))
  | some (.array m e)=>kJ P n e && decide (P.cellsOf t=m * P.cellsOf e)
  | _=>false
def xV(W:TypeId->List T->Prop):List Field->List T->Prop
 | [],ts=>ts= []
 | f::r,ts=>∃a b,ts=a++b/\W f.type a/\xV W r b
def AK(W:List T->Prop):Nat->List T->Prop
 | 0,ts=>ts= []
 | m+1,ts=>∃a b,ts=a++b/\W a/\AK W m b
def Wt(P:Program):Nat->TypeId->List T->Prop
 | 0,_,_=>False
 | n+1,t,ts=>match P.underlying t with
  | some .bool=>∃b,ts= [.bool b]
  | some (.int k)=>∃m,ts= [.int k m]/\(Lit.int k m).wf=true
  | some .string=>∃s,ts= [.str s]/\s.size<=maxLen
  | some (.slice e)=>∃b xs,ts= [.aa (P.cellsOf e) b xs]/\(b=true->xs= [])/\xs.length<=maxLen/\(∀cs∈xs,Wt P n e cs)/\xs.length * P.bytesOf e<=reachBytes
  | some (.struct a)=>xV (Wt P n) a.toList ts
  | some (.array m e)=>AK (Wt P n e) m ts
  | _=>False
section
variable {H:Type} {enc:TypeId×Value->H} {P:Program} {w:World} {base:Nat} {sp:Nat->Bool} {held:Bool}
def rm{H:Type}(P:Program)(t:TypeId)(d:DataW H):Prop:= ∀k∈DataW.weights P t d,k<=reachBytes
theorem Ea{H:Type}{P:Program}{e:TypeId}:∀{l:List (DataW H)} {d:DataW H},d∈l->∀k∈DataW.weights P e d,k∈DataW.weightsAll P e l
 | [],d,h,k,_=>by cases h
 | c::l,d,h,k,a=>by
  simp only [DataW.weightsAll,Xo];rcases Xl.1 h with rfl | h
  .exact .inl a
  .exact .inr (Ea h k a)
theorem LK{H:Type}{P:Program}{us:List TypeId}{a:List (DataW H)}{k:Nat}:∀{ts:List TypeId} {ds:List (DataW H)},k∈DataW.weightsEach P ts ds->k∈DataW.weightsEach P (ts++us) (ds++a)
 | [],ds,h=>by simp [DataW.weightsEach] at h
 | t::ts,[],h=>by simp [DataW.weightsEach] at h
 | t::ts,d::ds,h=>by simp only [DataW.weightsEach,X7,Xo] at h⊢;exact h.imp id LK
theorem ba.AQ{A:Nat->Prop}:∀{a b:List T} {vs us:List Value},ba w A a vs->ba w A b us->ba w A (a++b) (vs++us)
 | [],b,vs,us,h,h'=>by simp only [ba] at h;subst h;simpa using h'
 | c::a,b,vs,us,⟨v,r,e,d,f⟩,h'=>by subst e;exact⟨v,r++us,rfl,d,ba.AQ f h'⟩
theorem Ll{n m:Nat}(o:∀(t:TypeId) (cs:List Value) (x:DataW H×List MemPlace),kJ P n t=true->DataW.trod enc P w base sp held m t cs=some x->rm P t x.1->
   ∃ts,ba w (λb=>b < w.heap.size) ts cs/\Wt P n t ts) (cs:List Value):∀(i:List Field) (off E:Nat),xp P (kJ P n) i off=some E->E<=cs.length->
   (∀f∈i,∃x,DataW.trod enc P w base sp held m f.type ((cs.drop f.offset).take (P.cellsOf f.type))=some x/\rm P f.type x.1)->
   off<=E/\∃ts,ba w (λb=>b < w.heap.size) ts ((cs.drop off).take (E - off))/\xV (Wt P n) i ts
 | [],off,E,d,k,_=>by simp only [xp,W5] at d;subst d;exact⟨Xr _,[],by simp [ba],rfl⟩
 | f::i,off,E,d,k,l=>by
  simp only [xp] at d;split at d
  .rename_i r;obtain⟨p,q⟩:=r;obtain⟨x,v,j⟩:=l f W7;obtain⟨a,y,B⟩:=o _ _ _ q v j;obtain⟨D,b,z,C⟩:=Ll o cs i _ E d k λg u=>l g (W8 _ u);refine⟨by omega,a++b, ?_,⟨a,b,rfl,B,C⟩⟩;have e:(cs.drop off).take (E - off)= (cs.drop f.offset).take (P.cellsOf f.type)++ (cs.drop (off+P.cellsOf f.type)).take (E - (off+P.cellsOf f.type)):=by
    rw [p,<-ZJ];have:E - off=P.cellsOf f.type+ (E - (off+P.cellsOf f.type)):=by omega
    rw [this,List.take_add]
   rw [e];exact ba.AQ y z
  .cases d
theorem Lm{n m e:Nat}(l:∀(t:TypeId) (cs:List Value) (x:DataW H×List MemPlace),kJ P n t=true->DataW.trod enc P w base sp held m t cs=some x->rm P t x.1->
   ∃ts,ba w (λb=>b < w.heap.size) ts cs/\Wt P n t ts) (f:kJ P n e=true):∀(k:Nat) (cs:List Value),cs.length=k * P.cellsOf e->
   (∀i,i < k->∃x,DataW.trod enc P w base sp held m e ((cs.drop (i * P.cellsOf e)).take (P.cellsOf e))=some x/\rm P e x.1)->∃ts,ba w (λb=>b < w.heap.size) ts cs/\AK (Wt P n e) k ts
 | 0,cs,hl,_=>by have:cs= []:=Xz.1 (by simpa using hl);subst this;exact⟨[],rfl,rfl⟩
 | k+1,cs,hl,g=>by
  obtain⟨x,j,d⟩:=g 0 (Nat.zero_lt_succ _);simp only [Nat.zero_mul,Z4] at j;obtain⟨a,p,r⟩:=l _ _ _ f j d;obtain⟨b,q,u⟩:=Lm l f k (cs.drop (P.cellsOf e)) (by rw [Yi,hl,Yb];omega) λi v=>by
   obtain⟨y,o,d⟩:=g (i+1) (by omega);refine⟨y, ?_,d⟩;rw [ZJ];have:P.cellsOf e+i * P.cellsOf e= (i+1) * P.cellsOf e:=by rw [Yb];omega
   rw [this];exact o
  refine⟨a++b, ?_,⟨a,b,rfl,r,u⟩⟩;have:=ba.AQ p q;rwa [ZV] at this
theorem IS{A:Nat->Prop}{ah sz:Nat}{n e:Nat}:∀(len off:Nat),(∀i,i < len->∃ts a,ts.length=sz/\ba w A ts a/\Wt P n e ts/\∀j v,a[j]? =some v->w.cell? ⟨ah,off+i * sz+j,none⟩=some v)->
  ∃xs:List (List T),xs.length=len/\bx w A ah sz off xs/\∀cs∈xs,Wt P n e cs
 | 0,off,_=>⟨[],rfl,trivial,(by intro c b;cases b)⟩
 | len+1,off,h=>by
  obtain⟨ts,a,d,f,g,k⟩:=h 0 (Nat.zero_lt_succ _);obtain⟨xs,k1,k2,k3⟩:=IS (A:=A) (ah:=ah) (sz:=sz) (n:=n) (e:=e) len (off+sz) λi m=>by
   obtain⟨ts,a,d,f,g,k⟩:=h (i+1) (by omega);refine⟨ts,a,d,f,g,λj v l=> ?_⟩;have:=k j v l;have e:off+ (i+1) * sz+j=off+sz+i * sz+j:=by rw [Yb];omega
   rwa [e] at this
  refine⟨ts::xs,by simp [k1],⟨d,bn.mh f λj v l=> ?_,k2⟩,λc b=> ?_⟩
  .have:=k j v l;simpa using this
  .rcases Xl.1 b with rfl | b
   .exact g
   .exact k3 c b
theorem Ap:∀(n:Nat) (m:Nat) (t:TypeId) (cs:List Value) (x:DataW H×List MemPlace),kJ P n t=true->DataW.trod enc P w base sp held m t cs=some x->rm P t x.1->
  ∃ts,ba w (λb=>b < w.heap.size) ts cs/\Wt P n t ts
 | 0,m,t,cs,x,g,_,_=>by simp [kJ] at g
 | n+1,m,t,cs,x,g,h,l=>by
  simp only [kJ] at g;split at g
  .rename_i d;obtain⟨b,rfl,_⟩:=DataW.trod_bool d h;exact⟨[.bool b],⟨_,[],rfl,rfl,rfl⟩,by simp only [Wt,d];exact⟨b,rfl⟩⟩
  .rename_i k d;obtain⟨z,rfl,_,V⟩:=DataW.trod_int d h;exact⟨[.int k z],⟨_,[],rfl,rfl,rfl⟩,by simp only [Wt,d];exact⟨z,rfl,V⟩⟩
  .rename_i d;obtain⟨s,rfl,_,V⟩:=DataW.trod_string d h;exact⟨[.str s],⟨_,[],rfl,rfl,rfl⟩,by simp only [Wt,d];exact⟨s,rfl,V⟩⟩
  .rename_i e d;simp only [Xf,decide_eq_true_eq] at g;obtain⟨U,C⟩:=g;rcases Go.Deep.open_slice d h with⟨rfl,_⟩ | ⟨a,len,cap,k,F,D,Pl,rfl,hb,hl,hm,hk,rfl,L⟩
   .exact⟨[.aa (P.cellsOf e) true []],⟨_,[],rfl, .inl ⟨rfl,rfl,rfl⟩,rfl⟩,by simp only [Wt,d];exact⟨true,[],rfl,λ_=>rfl,by simp,(by intro c B;cases B),by simp⟩⟩
   .obtain⟨ah,off,s⟩:=a;have hlk:len<=k:=by rw [hk];split <;> omega
    dsimp only at l;have N:len * P.bytesOf e<=reachBytes:=by have:=l ((len+ (k - len)) * P.bytesOf e) (by simp [DataW.weights,d]);exact X2 (Ya _ (Zw _ _)) this
    have J:∀i,i < len->rm P e (D i):=λi p q E=>l q (by
     simp only [DataW.weights,d,Xl,Xo];exact .inr (.inl (Ea (XB.2 ⟨i,Z3.2 p,rfl⟩) q E)))
    have G: 0 < len->s=none/\ah < w.heap.size:=by
     intro h0;obtain⟨y,B,_⟩:=L 0 (by omega);obtain⟨I,u,r⟩:=World.cells?_some B;have K:=World.cells?_block B C;have o:=r 0 C;have M:((⟨ah,off,s⟩:Addr).add (0 * P.cellsOf e)).add 0= ⟨ah,off,s⟩:=by simp [Addr.add]
     rw [M] at o;have Y:∃v,y[0]? =some v:=⟨_,Xd (by omega)⟩;obtain⟨v,hv⟩:=Y;rw [hv] at o;refine⟨?_, ?_⟩
     .cases s with
      | none=>rfl
      | some z=>simp only [World.cell?] at o;split at o <;> simp at o
     .have e:((⟨ah,off,s⟩:Addr).add (0 * P.cellsOf e))= ⟨ah,off,s⟩:=by simp [Addr.add]
      rw [e] at K;exact K
    obtain⟨xs,k1,k2,k3⟩:=IS (P:=P) (w:=w) (A:=λb=>b < w.heap.size) (ah:=ah) (sz:=P.cellsOf e) (n:=n) (e:=e) len off λi p=>by
     obtain⟨y,B,hd⟩:=L i (by omega);obtain⟨hs,_⟩:=G (by omega);subst hs;obtain⟨ts,r1,r2⟩:=Ap n F e y _ U hd (J i (by omega));obtain⟨I,u,r⟩:=World.cells?_some B;refine⟨ts,y,by rw [<-r1.length,u],r1,r2,λj v hj=> ?_⟩;have hj':j < P.cellsOf e:=by rw [<-u];exact(W9.1 hj).1
     have:=r j hj';rw [hj,iF,iF] at this;exact this
    refine⟨[.aa (P.cellsOf e) false xs],⟨_,[],rfl, .inr ⟨rfl,ah,off,s,cap,by rw [k1],by omega, ?_,k2⟩,rfl⟩,by simp only [Wt,d];exact⟨false,xs,rfl,λh=>(by cases h),by omega,k3,by rw [k1];exact N⟩⟩;by_cases h0:len=0
    .left;exact Xz.1 (by omega)
    .right;exact G (by omega)
  .rename_i X d;simp only [decide_eq_true_eq] at g;obtain⟨xs,F,rfl,rfl,hl,hsz,Q⟩:=DataW.trod_struct d h;dsimp only at l;obtain⟨_,ts,r1,r2⟩:=Ll (λt cs x=>Ap n F t cs x) cs X.toList 0 _ g (by omega) λf Z=>by
    obtain⟨i,p,e⟩:=List.getElem_of_mem Z;have e':X.toList[i]? =some f:=by rw [Xd p,e]
    have:=Q i f (by rw [<-X8];exact e');rw [this];have hx:xs[i]? =some (xs[i]'(by simp at p;omega)):=Xd (by simp at p;omega);refine⟨_,hx,λq E=>l q ?_⟩;simp only [DataW.weights,d];exact DataW.weights_mem_each (j:=i) (by rw [XU,e'];rfl) (by rw [XU,hx];rfl) q E
   refine⟨ts, ?_,by simp only [Wt,d];exact r2⟩;simp only [Z4,Nat.sub_zero] at r1;rwa [<-hl,Zl] at r1
  .rename_i m' e d;simp only [Xf,decide_eq_true_eq] at g;obtain⟨xs,F,rfl,rfl,hl,hsz,Q⟩:=DataW.trod_array d h;dsimp only at l;obtain⟨ts,r1,r2⟩:=Lm (λt cs x=>Ap n F t cs x) g.1 m' cs (by omega) λi p=>by
    rw [Q i p];refine⟨_,Xd (by omega),λq E=>l q ?_⟩;simp only [DataW.weights,d];exact Ea (XB.2 ⟨_,Y5 _,rfl⟩) q E
   exact⟨ts,r1,by simp only [Wt,d];exact r2⟩
  .cases g
end
def xx(P:Program)(n:Nat):List TypeId->List AV->Prop
 | [],b=>b= []
 | t::ts,b=>∃a r,b=a::r/\((ca P t=true/\∃l,Wt P n t l/\a= .agg (l.map .t))\/(ca P t=false/\∃x,Wt P n t [x]/\a= .t x))/\xx P n ts r
section
variable {H:Type} {enc:TypeId×Value->H} {P:Program} {W W':World} {sp:Nat->Bool} {held:Bool}
theorem SK{n:Nat}{t:TypeId}{v:Value}{d:DataW H}{E:List MemPlace}{r:Reach}{C base:Nat}(o:kJ P (n+1) t=true)(f:Value.okWide P W r C t v)(h:DataW.Trod enc P W base sp held t v d E)(B:rm P t d):
  ∃a,((ca P t=true/\∃l,Wt P (n+1) t l/\a= .agg (l.map .t))\/(ca P t=false/\∃x,Wt P (n+1) t [x]/\a= .t x))/\an W (λb=>b < W.heap.size) (λ_=>none) a v:=by
 obtain⟨m,hm⟩:=h;obtain⟨ts,r1,r2⟩:=Ap (n+1) m t _ _ o hm B;have j:ca P t=false->v.cells= #[v]->∃a,((ca P t=true/\∃l,Wt P (n+1) t l/\a= .agg (l.map .t))\/(ca P t=false/\∃x,Wt P (n+1) t [x]/\a= .t x))/\an W (λb=>b < W.heap.size) (λ_=>none) a v:=by
  intro p D;rw [D] at r1
  match ts,r1 with
  | [],r1=>simp [ba] at r1
  | [x],⟨u,q,e,g,_⟩=>simp only [Yh] at e;obtain⟨rfl,_⟩:=e;exact⟨.t x, .inr ⟨p,x,r2,rfl⟩,by simpa [an] using g⟩
  | x::y::z,⟨u,q,e,_,⟨J,I,e',_⟩⟩=>subst e';simp at e
 have agg:ca P t=true->(∃cs,v= .agg cs)->∃a,((ca P t=true/\∃l,Wt P (n+1) t l/\a= .agg (l.map .t))\/(ca P t=false/\∃x,Wt P (n+1) t [x]/\a= .t x))/\an W (λb=>b < W.heap.size) (λ_=>none) a v:=by rintro p ⟨cs,rfl⟩;refine⟨.agg (ts.map .t), .inl ⟨p,ts,r2,rfl⟩, ?_⟩;simp only [an];exact⟨cs.toList,by simp,aD.mP r1,r1.one⟩
 simp only [kJ] at o;split at o
 .rename_i i;simp only [Value.okWide,i,Cell.okWide] at f;refine j (by simp [ca,i]) ?_;cases v <;> first | rfl | (simp [Cell.ok,i] at f)
 .rename_i k i;simp only [Value.okWide,i,Cell.okWide] at f;refine j (by simp [ca,i]) ?_;cases v <;> first | rfl | (simp [Cell.ok,i] at f)
 .rename_i i;simp only [Value.okWide,i,Cell.okWide] at f;refine j (by simp [ca,i]) ?_;cases v <;> first | rfl | (simp [Cell.ok,i] at f)
 .rename_i e i;simp only [Value.okWide,i,Cell.okWide] at f;refine j (by simp [ca,i]) ?_;cases v <;> first | rfl | (simp [Cell.ok,i] at f)
 .rename_i F i;simp only [Value.okWide,i] at f;obtain⟨cs,e,_⟩:=f;exact agg (by simp [ca,i]) ⟨cs,e⟩
 .rename_i G e i;simp only [Value.okWide,i] at f;obtain⟨cs,e,_⟩:=f;exact agg (by simp [ca,i]) ⟨cs,e⟩
 .cases o
theorem Jp{n:Nat}{r:Reach}{y base:Nat}:∀{ts:List TypeId} {vs:List Value} {ds:List (DataW H)} {m:List MemPlace},ts.all (kJ P (n+1))=true->(∀(j:Nat) (t:TypeId) (v:Value),ts[j]? =some t->vs[j]? =some v->Value.okWide P W r y t v)->
  DataW.TrodAll enc P W base sp held ts vs ds m->(∀k∈DataW.weightsEach P ts ds,k<=reachBytes)->∃e,xx P (n+1) ts e/\aD W (λb=>b < W.heap.size) (λ_=>none) e vs
 | [],vs,ds,m,_,_,h,_=>by obtain⟨rfl,_,_⟩:=trodAll_nil h;exact⟨[],rfl,by simp [aD]⟩
 | t::ts,vs,ds,m,g,i,h,f=>by simp only [Yp,Xf] at g;obtain⟨v,x,d,J,p,q,rfl,rfl,rfl,z,B⟩:=trodAll_cons h;obtain⟨a,C,D⟩:=SK g.1 (i 0 t v rfl rfl) z (λk l=>f k (by simp only [DataW.weightsEach,Xo];exact .inl l));obtain⟨e,o,u⟩:=Jp g.2 (λj G I E F=>i (j+1) G I (by simpa using E) (by simpa using F)) B (λk l=>f k (by simp only [DataW.weightsEach,Xo];exact .inr l));exact⟨a::e,⟨a,e,rfl,C,o⟩,by simp only [aD];exact⟨v,x,rfl,D,u⟩⟩
theorem KF(hl:laidOutB P=true)(i:Below W.heap.size W W'):∀{ts:List TypeId} {vs:List Value} {ds:List (DataW H)} {a:List MemPlace},(ts.all λt=>P.readableRec t && decide (t < P.types.size))=true->
  DataW.TrodAll enc P W 0 (λ_=>true) true ts vs ds a->(∀x∈a,x.block < W.heap.size)->DataW.TrodAll enc P W' 0 (λb=>decide (b < W.heap.size)) true ts vs ds a
 | [],vs,ds,a,_,h,_=>by obtain⟨rfl,rfl,rfl⟩:=trodAll_nil h;exact trodAll_mk0
 | t::ts,vs,ds,a,e,h,f=>by simp only [Yp,Xf,decide_eq_true_eq] at e;obtain⟨v,m,d,l,p,q,rfl,rfl,rfl,j,k⟩:=trodAll_cons h;exact trodAll_cons_mk (Below.trod hl e.1.1 e.1.2 j i λx g=>f x (Xp _ g)) (KF hl i (by simpa using e.2) k λx g=>f x (Xn _ g))
theorem MB(a:Below W.heap.size W W')(b:MemPlace->Prop):W.keptBut W' b:=by
 refine⟨a.os,a.output,λi d=> ?_⟩;rw [a.block i d];cases W.heap[i]? with
 | none=>rfl
 | some o=>cases o <;> first | exact⟨rfl,rfl,rfl,λ_ _=>rfl⟩ | exact .inr ⟨rfl,rfl⟩ | rfl
theorem law_contract{n:Nat}{fn:Func}{s:ChangeSpec}{An:cW}{f:FuncId}{tb:TypeId}(hm:P.follows .mixedOrders=true)(hn:(P.funcs.toList.all λfn=>fn.name != "runtime.NumGoroutine")=true)(hl:laidOutB P=true)
  (N:P.funcs[f]? =some fn) (G:An.jm f=none) (I:dQ P An f 0 fn= [.f .b]) (Y:P.underlying tb=some .bool) (X:fn.resultTypes= #[tb])
  (C:fn.params.toList.all (kJ P (n+1))=true) (l:(fn.params.toList.all λt=>P.readableRec t && decide (t < P.types.size))=true)
  (m:s.vars= []) (B:∀(ds:List (DataW H)),ds.length=fn.params.toList.length->s.fn H ds= {results:= [.lit (.bool true)],args:=ds})
  (g:∀a,xx P (n+1) fn.params.toList a->mR P An (.call f) a []=some [.bool true])
  (W:World) (base:Nat) (args:Array Value) (ds J:List (DataW H)) (r:List MemPlace) (z:∀(j:Nat) t v,fn.params[j]? =some t->args[j]? =some v->Value.okWide P W .any base t v)
  (K:DataW.Whole enc P fn.params.toList s.vars false W args.toList ds J r)
  (D:(DataW.weightsEach P (fn.params.toList++s.plain.varTypes P) (ds++J)).all (· <=reachBytes)=true)
  (hX:oo P An:=by exact Go.Aev.oo.no λ_ _ _=>rfl) (hG:GlobOk W:=by exact Go.Aev.globOk _):
  Calls P f args W λe W'=>∃v,e= .returned v/\s.post enc P fn false true false false W args v W':=by
 have u:=K;obtain⟨p,q,o,E,rfl,hz,Q⟩:=K;rw [m] at E;obtain⟨rfl,rfl⟩:=trodVars_none E;obtain⟨a,L,V⟩:=Jp C (λj t v ht hv=>z j t v (by rw [<-X8];exact ht) (by rw [<-X8];exact hv)) o (λk hk=>by simpa using Xw.1 D k (LK hk));have F:ds.length=fn.params.toList.length:=by
  clear u V L z hz Q E l C g D;generalize fn.params.toList=ts at o;generalize args.toList=vs at o;induction ts generalizing vs ds p with
  | nil=>obtain⟨_,rfl,_⟩:=trodAll_nil o;rfl
  | cons t ts ih=>obtain⟨v,vs',d,ds',p',q',_,rfl,_,_,Z⟩:=trodAll_cons o;simp [ih _ _ _ Z]
 have U:∀(f:FuncId) (fn:Func),P.funcs[f]? =some fn->fn.name≠ "runtime.NumGoroutine" :=by intro f fn h;have:=Xw.1 hn fn (Xg (i:=f) (by rw [X8];exact h));simpa using this
 have:=M7 (w:=W) (A0:=λb=>b < W.heap.size) hX hm U N G I (λ_ h=>h) V (g a L) hG;rw [show args.toList.toArray=args from by simp] at this;refine this.mono λe W' ⟨he,M⟩=>⟨.bool true,he, ?_⟩;have y:=B ds F;refine⟨ds,[],p++ [],[],p,[],u, ?_, ?_, ?_,MB M _,λh=>by cases h⟩
 .rw [XA,y,X];exact trodAll_cons_mk (shut_bool Y true) trodAll_mk0
 .rw [XA,y];exact KF hl M l o (λx hx=>u.lt x (by simpa using hx))
 .rw [XA,y,m];rfl
end
section
variable {P:Program} {n:Nat} {t:TypeId} {ts:List T}
theorem WS{k:IntKind}(a:P.underlying t=some (.int k))(h:Wt P (n+1) t ts):∃m,ts= [.int k m]/\(Lit.int k m).wf=true:=by simpa only [Wt,a] using h
theorem LM(a:P.underlying t=some .string)(h:Wt P (n+1) t ts):∃s,ts= [.str s]/\s.size<=maxLen:=by simpa only [Wt,a] using h
theorem pG{a:Array Field}(b:P.underlying t=some (.struct a))(h:Wt P (n+1) t ts):xV (Wt P n) a.toList ts:=by simpa only [Wt,b] using h
theorem WT{e:TypeId}(a:P.underlying t=some (.slice e))(h:Wt P (n+1) t ts):∃b xs,ts= [.aa (P.cellsOf e) b xs]/\(b=true->xs= [])/\xs.length<=maxLen/\(∀cs∈xs,Wt P n e cs)/\xs.length * P.bytesOf e<=reachBytes:=by simpa only [Wt,a] using h
theorem uX{k:Type}(g:k->List T){e:TypeId}(r:P.underlying t=some (.slice e))(h:Wt P (n+1) t ts)(q:∀cs,Wt P n e cs->∃a,cs=g a):
  ∃b l,ts= [.aa (P.cellsOf e) b (l.map g)]/\(b=true->l= [])/\l.length<=maxLen/\l.length * P.bytesOf e<=reachBytes:=by
 obtain⟨b,xs,rfl,d,f,i,j⟩:=WT r h;have:∃l:List k,xs=l.map g:=by
  clear d f h j;induction xs with
  | nil=>exact⟨[],rfl⟩
  | cons c xs u=>obtain⟨a,m⟩:=q c (i c W7);obtain⟨l,hl⟩:=u λcs p=>i cs (W8 _ p);exact⟨a::l,by rw [m,hl];rfl⟩
 obtain⟨l,rfl⟩:=this;exact⟨b,l,rfl,λo=>by simpa using d o,by simpa using f,by simpa using j⟩
theorem EL{a:AV}(h:(ca P t=true/\∃l,Wt P n t l/\a= .agg (l.map .t))\/(ca P t=false/\∃x,Wt P n t [x]/\a= .t x))(b:ca P t=true):∃l,Wt P n t l/\a= .agg (l.map .t):=by
 rcases h with h | h
 .exact h.2
 .rw [b] at h;cases h.1
end
end Go.Aev
