import Derived.Test.YtcjplcpngagalaaGreatDoorBlastDownsQ4
import Derived.Orders
import Derived.Still
import Derived.Below
import Derived.Deep.Slices
import Derived.Carry
import Derived.ProofKit
import Derived.OpenShut
import Derived.SizedLaws
set_option linter.all false
namespace Go.Aev
open Go Go.IntKind
section
variable {P:Program} {An:ct} {Or:aq} {w w':World} {A A':Nat->Prop} {c:Ctx} {ρ:Id->Option Value} {O:Id->Option Nat} {s s':St}
structure dN (c:Ctx) (nt:Nat) (w:World) (s:St) (ρ:Id->Option Value) (O:Id->Option Nat) (a:Act):Prop where
 hs:HS c w s.h ρ O
 ss:SS w (AA c w O) ρ s.t a.tmps
 nt:a.tmps.size=nt
 defers:a.defers= []
def lS(ops:Array Oper)(s:St):Prop:= ∀k g v,s.t k= (some g,v)->df ops (some g.d)=true
theorem lb{a:Act}{d k:Nat}{x:Value}(b:d < a.tmps.size):(a.put (some d) x).tmps.getD k undef=if k=d then x else a.tmps.getD k undef:=by
 simp only [Act.put];by_cases e:k=d
 .subst e;simp [b]
 .rw [if_neg e];simp [Pa (O9 e)]
theorem tO(a:Act)(d:Option Nat)(x:Value):(a.put d x).tmps.size=a.tmps.size:=by cases d <;> simp [Act.put]
theorem tN(a:Act)(d:Option Nat)(x:Value):(a.put d x).defers=a.defers:=by cases d <;> rfl
theorem HC{ops:Array Oper}{o:Oper}{a:Act}{g:Option Gs}(L:SS w A ρ s.t a.tmps)(h:cL ops o s some=some g):
  (Region.wanted o (yielded ops a.tmps)=true->iV a.tmps g)/\
  (Region.wanted o (yielded ops a.tmps)=false->∃i,g=some i/\a.tmps.getD i.d undef≠ .bool i.want/\i.c=false)/\
  (∀i,g=some i->df ops (some i.d)=true\/∀Q∈ops,Q≠o):=by
 unfold cL at h;cases q:o.guard with
 | none=>simp only [q,Mt] at h;subst h;exact⟨λ_=>trivial,λh=>by simp [Region.wanted,q] at h,λi h=>by cases h⟩
 | some p=>
  obtain⟨j,want⟩:=p;simp only [q] at h;cases B:(ops[j]?).bind (·.dst) with
  | none=>simp [B] at h
  | some d=>
   simp only [B] at h;replace h:=Mu.1 h;obtain⟨x,m,h⟩:=h;have M:Region.wanted o (yielded ops a.tmps)=true↔a.tmps.getD d undef= .bool want:=by
    simp only [Region.wanted,q,yielded,B,Mw,beq_iff_eq];rw [NO];cases a.tmps[d]? with
    | none=>simp [undef]
    | some u=>cases u <;> simp
   have J:∀i,g=some i->i.d=d/\i.want=want:=by intro i e;replace h:=ny h;obtain⟨b,h,_⟩:=h;simp only [Mt] at h;rw [<-h] at e;simp only [Mt] at e;subst e;exact⟨rfl,rfl⟩
   have C:∃i,g=some i:=by replace h:=ny h;obtain⟨b,h,_⟩:=h;simp only [Mt] at h;exact⟨_,h.symm⟩
   obtain⟨i,rfl⟩:=C;obtain⟨F,G⟩:=J i rfl;refine⟨λN=> ?_,λE=>⟨i,rfl, ?_⟩,λY e=> ?_⟩
   .have D:=M.1 N;simp only [iV,F,G];refine⟨D, ?_⟩;have f:=L d;rw [D] at f;cases y:s.t d with
    | mk gd v=>
     rw [y] at f m h;dsimp only at m h f;rw [AV.jP m] at f;cases gd with
     | none=>simp only [aj] at f;simp only [Pe] at h;replace h:=aL h (.inl rfl);obtain⟨b,l,h⟩:=h;simp only [Mt] at h;have:=T.gJ l;subst this;simp only [ay,Value.bool.injEq] at f;rw [<-h,<-f];cases want <;> rfl
     | some U=>
      simp only at f;rcases f with⟨_,k,z⟩ | ⟨_,_,X⟩
      .simp only [N1,k] at h;replace h:=aL h (.inr rfl);obtain⟨b,l,h⟩:=h;simp only [Mt] at h;have:=T.gJ l;subst this;simp only [aj,ay,Value.bool.injEq] at z;rw [<-h,<-z];simp only [gC,k];cases want <;> rfl
      .simp [undef] at X
   .have r:a.tmps.getD d undef≠ .bool want:=λV=>by
     have:=M.2 V;rw [this] at E;cases E
    refine⟨by rw [F,G];exact r, ?_⟩;have f:=L d;cases y:s.t d with
    | mk gd v=>
     rw [y] at f m h;dsimp only at m h f;rw [AV.jP m] at f;cases gd with
     | none=>simp only [aj] at f;simp only [Pe] at h;replace h:=aL h (.inl rfl);obtain⟨b,l,h⟩:=h;simp only [Mt] at h;have:=T.gJ l;subst this;simp only [ay] at f;have I:b≠want:=λe=>r (by rw [f,e]);rw [<-h];simp only [gC];cases b <;> cases want <;> simp_all [sr]
     | some U=>
      simp only at f;rcases f with⟨_,k,z⟩ | ⟨_,k,_⟩
      .simp only [N1,k] at h;replace h:=aL h (.inr rfl);obtain⟨b,l,h⟩:=h;simp only [Mt] at h;have:=T.gJ l;subst this;simp only [aj,ay] at z;have I:b≠want:=λe=>r (by rw [z,e]);rw [<-h];simp only [gC,k];cases b <;> cases want <;> simp_all [sr]
      .replace h:=ny h;obtain⟨b,h,_⟩:=h;simp only [Mt] at h;rw [<-h];simp [gC,k]
   .simp only [Mt] at e;subst e;by_cases hm:o∈ops
    .left;unfold df;rw [OF];exact⟨o,hm,by simp [q,B,F]⟩
    .right;intro Q K e;exact hm (e▸K)
theorem xg{ops:Array Oper}{o:Oper}{g:Option Gs}{v:AV}{us:aB}(b:lS ops s)(p:∀q,g=some q->df ops (some q.d)=true):lS ops (s.put (df ops o.dst) o.dst g v us):=by
 intro k m u a;cases r:o.dst with
 | none=>simp only [St.put,r] at a;exact b k m u a
 | some d=>
  simp only [St.put,r] at a;by_cases e:k=d
  .simp only [if_pos e,Ng] at a;exact p m a.1
  .simp only [if_neg e] at a;cases f:df ops (some d) with
   | false=>rw [f,cond_false] at a;exact b k m u a
   | true=>
    rw [f,cond_true] at a;cases l:s.t k with
    | mk i vk=>
     rw [l] at a;cases i with
     | none=>simp [ke] at a
     | some i=>
      simp only [ke] at a;cases j:(i.d==d) with
      | true=>simp [j] at a
      | false=>simp only [j,cond_false,Ng,Mt] at a;rw [<-a.1];exact b k i vk l
theorem tP{nt:Nat}{ops:Array Oper}{o:Oper}{a:Act}{g:Option Gs}{v:AV}{us:aB}(ss:SS w (AA c w O) ρ s.t a.tmps)(E:a.tmps.size=nt)(D:lS ops s)
  (u:∀d,o.dst=some d->d < nt) (C:∀j d,g=some j->o.dst=some d->j.d≠d)
  (w':World) (ρ':Id->Option Value) (O':Id->Option Nat) (x:Value) (I:∀b,AA c w O b->AA c w' O' b/\w'.heap[b]? =w.heap[b]?) (G:∀i v,ρ i=some v->ρ' i=some v)
  (F:match g with
   | none=>aj w' (AA c w' O') ρ' v x
   | some j=>(a.tmps.getD j.d undef= .bool j.want/\j.c=true/\aj w' (AA c w' O') ρ' v x)\/(a.tmps.getD j.d undef≠ .bool j.want/\j.c=false/\x=undef)):
  SS w' (AA c w' O') ρ' (s.put (df ops o.dst) o.dst g v us).t (a.put o.dst x).tmps:=by
 have r:=SS.mono I G ss;cases z:o.dst with
 | none=>simp only [St.put,Act.put];exact r
 | some d=>
  have f:d < a.tmps.size:=by rw [E];exact u d z
  intro k;simp only [St.put];by_cases e:k=d
  .subst e;simp only [if_true];cases g with
   | none=>simp only;rw [lb f,if_pos rfl];exact F
   | some j=>have p:j.d≠k:=C j k rfl z;simp only;rw [lb f,lb f,if_neg p,if_pos rfl];exact F
  .simp only [if_neg e];have l:=r k;cases y:df ops (some d) with
   | false=>
    simp only [cond_false];cases q:s.t k with
    | mk m vk=>
     rw [q] at l;cases m with
     | none=>simp only at l⊢;rw [lb f,if_neg e];exact l
     | some m=>
      have p:m.d≠d:=by intro e';have:=D k m vk q;rw [e',y] at this;cases this
      simp only at l⊢;rw [lb f,lb f,if_neg e,if_neg p];exact l
   | true=>
    simp only [cond_true];cases q:s.t k with
    | mk m vk=>
     rw [q] at l;cases m with
     | none=>simp only [ke] at l⊢;rw [lb f,if_neg e];exact l
     | some m=>
      simp only [ke];cases B:(m.d==d) with
      | true=>simp [aj]
      | false=>
       have p:m.d≠d:=by simpa using B
       simp only [cond_false] at l⊢;rw [lb f,lb f,if_neg e,if_neg p];exact l
theorem SS.pe{tmps:Array Value}{e:Gs}(hs:SS w A ρ s.t tmps)(m:tmps.getD e.d undef= .bool e.want):SS w A ρ (s.pe e).t tmps:=by
 intro k;have b:=hs k;simp only [St.pe];cases f:s.t k with
 | mk i v=>
  rw [f] at b;cases i with
  | none=>simp only [jk,cond_true] at b⊢;exact b
  | some g=>
   by_cases a:jk (some g) (some e)=true
   .simp only [a,cond_true];simp only [jk,MB,beq_iff_eq] at a;simp only at b;rcases b with⟨_,_,l⟩ | ⟨j,_⟩
    .exact l
    .exfalso;apply j;rw [a.1,a.2];exact m
   .simp only [Oz] at a;simp only [a,cond_false];exact b
theorem B5{m:Bool}{nt:Nat}{ops:Array Oper}{o:Oper}{a:Act}(hO:hU P An Or)(f:dN c nt w s ρ O a)(p:lS ops s)(hmem:o∈ops)(h:dU P An Or m nt ops o s=some s'):
  lS ops s'/\∀(K:Act->World->Prop) (Q:Exit->Act->World->Prop),(∀a' w' ρ' O',Le w ρ O w' ρ' O'->dN c nt w' s' ρ' O' a'->K a' w')->
   if Region.wanted o (yielded ops a.tmps) then o.wp P a w K Q\/(o.asks P a w/\LetsOut Q) else K (a.put o.dst undef) w:=by
 unfold dU mA at h;rw [s4] at h;replace h:=Mu.1 h;obtain⟨g,hg,h⟩:=h;obtain⟨G,B,Z⟩:=HC f.ss hg;have y:∀j,g=some j->df ops (some j.d)=true:=λj e=>(Z j e).resolve_right λhn=>hn o hmem rfl;cases l:nR An m o g with
 | none=>
  rw [l] at h;dsimp only at h;rw [oe] at h;replace h:=Mu.1 h;obtain⟨⟨v,us⟩,M,h⟩:=h;dsimp only at h;rw [qB] at h;replace h:(if lC P An m nt ops o g s v us then some (s.put (df ops o.dst) o.dst g v us) else none)=some s':=by
   cases hk:im An m o s.h us with
   | false=>rw [hk] at h;cases h
   | true=>rw [hk] at h;exact h
  split at h
  .rename_i F;simp only [Mt] at h;subst h;simp only [lC,MB] at F;obtain⟨⟨⟨hdst,I⟩,z⟩,_⟩:=F;have k:∀d,o.dst=some d->d < nt:=λd e=>by simpa [e] using hdst
   have E:∀j d,g=some j->o.dst=some d->j.d≠d:=λj d X Y=>by subst X;simp only [Y,MB,Np,beq_eq_false_iff_ne,ne_eq,Mt] at I;exact λe=>I.2 e.symm
   refine⟨xg p y,λK Q L=> ?_⟩;split
   .rename_i q;left;have i:=G q;refine gF.wp (yc hO f.hs f.ss i M z) λx w' ⟨ρ',O',le,N,V⟩=> ?_;refine L _ w' ρ' O' le ⟨N, ?_,by rw [tO];exact f.nt,by rw [tN];exact f.defers⟩;refine tP f.ss f.nt p k E w' ρ' O' x (λb r=>le.A b r) le.dG ?_;cases g with
    | none=>exact V
    | some j=>exact .inl ⟨i.1,i.2,V⟩
   .rename_i q;obtain⟨j,rfl,J,u⟩:=B (by simpa using q);have hus:us= []:=by
     simp only [MB,Od] at I;exact I.1
    subst hus;refine L _ w ρ O Le.refl ⟨f.hs, ?_,by rw [tO];exact f.nt,by rw [tN];exact f.defers⟩;exact tP f.ss f.nt p k E w ρ O undef (λb r=>⟨r,rfl⟩) (λ_ _ h=>h) (.inr ⟨J,u,rfl⟩)
  .simp at h
 | some j=>
  rw [l] at h;dsimp only at h;have hg':g=some j:=by
   cases g with
   | none=>simp [nR] at l
   | some g0=>
    simp only [nR] at l;cases r:(!m && dF An o) with
    | false=>rw [r] at l;cases l
    | true=>rw [r] at l;simpa using l
  subst hg';cases D:sG nt o j with
  | false=>rw [D] at h;cases h
  | true=>
   rw [D,cond_true] at h;simp only [sG,MB] at D;have k:∀d,o.dst=some d->d < nt:=λd e=>by simpa [e] using D.1
   have E:∀C d,some j=some C->o.dst=some d->C.d≠d:=λC d X Y=>by cases X;have:=D.2;simp only [Y,Np,beq_eq_false_iff_ne,ne_eq,Mt] at this;exact λe=>this e.symm
   cases U:j.c with
   | false=>
    rw [U,cond_false] at h;simp only [Mt] at h;subst h;refine⟨xg p y,λK Q L=> ?_⟩;split
    .rename_i q;have:=(G q).2;rw [U] at this;cases this
    .rename_i q;obtain⟨C,e,J,u⟩:=B (by simpa using q);cases e;refine L _ w ρ O Le.refl ⟨f.hs, ?_,by rw [tO];exact f.nt,by rw [tN];exact f.defers⟩;exact tP f.ss f.nt p k E w ρ O undef (λb r=>⟨r,rfl⟩) (λ_ _ h=>h) (.inr ⟨J,u,rfl⟩)
   | true=>
    rw [U,cond_true,oe] at h;replace h:=Mu.1 h;obtain⟨⟨v,us⟩,M,h⟩:=h;dsimp only at h;split at h
    .rename_i F;simp only [Mt] at h;subst h;simp only [lC,MB] at F;obtain⟨⟨⟨_,_⟩,z⟩,_⟩:=F;refine⟨xg p y,λK Q L=> ?_⟩;split
     .rename_i q;left;have i:=G q;refine gF.wp (yc (s:=s.pe j) (g:=none) hO f.hs (f.ss.pe i.1) trivial M z) λx w' ⟨ρ',O',le,N,V⟩=> ?_;refine L _ w' ρ' O' le ⟨N, ?_,by rw [tO];exact f.nt,by rw [tN];exact f.defers⟩;exact tP f.ss f.nt p k E w' ρ' O' x (λb r=>le.A b r) le.dG (.inl ⟨i.1,i.2,V⟩)
     .rename_i q;obtain⟨C,e,J,u⟩:=B (by simpa using q);cases e;rw [U] at u;cases u
    .simp at h
theorem dN.clear{nt:Nat}{a:Act}(b:dN c nt w s ρ O a):dN c nt w s.clear ρ O a:=by
 refine⟨b.hs,λk=> ?_,b.nt,b.defers⟩;have:=b.ss k;simp only [St.clear];cases d:s.t k with
 | mk e vk=>
  rw [d] at this;cases e with
  | none=>exact this
  | some g=>simp [aj]
def lR(s:St):Prop:= ∀k g v,s.t k≠(some g,v)
theorem EL(s:St):lR s.clear:=by intro k g v h;simp only [St.clear] at h;split at h <;> simp at h
theorem lR.Bg(h:lR s)(ops:Array Oper):lS ops s:=λk g v e=>(h k g v e).elim
theorem Cz{g:Bool}{nt:Nat}{ops:Array Oper}(v:hU P An Or){Q:Exit->Act->World->Prop}:∀{l:List Oper} {k:Nat} {w:World} {s:St} {ρ:Id->Option Value} {O:Id->Option Nat} {a:Act},
  (∀j,l[j]? =ops[k+j]?)->dN c nt w s ρ O a->lS ops s->gU P An Or g nt ops l s=some s'->
  (∀f w' ρ' O',Le w ρ O w' ρ' O'->dN c nt w' s' ρ' O' f->Q .normal f w')->wpOps P ops Q (List.range' k l.length) a w
 | [],k,w,s,ρ,O,a,hl,b,e,h,i=>by simp only [gU,Mt] at h;subst h;exact i a w ρ O Le.refl b
 | o::l,k,w,s,ρ,O,a,hl,b,e,h,i=>by
  simp only [gU] at h;obtain⟨s1,z,h⟩:=Mu.1 h;have h0:ops[k]? =some o:=by simpa using (hl 0).symm
  obtain⟨m,step⟩:=B5 v b e (M3 h0) z;rw [ME,OM];simp only [wpOps,h0];refine step _ Q λf w' ρ' O' le p=> ?_;exact Cz v (λj=>by have:=hl (j+1);simpa [Ot,Nat.add_comm 1 j] using this) p m h
   (λu y q r x d=>i u y q r (le.trans x) d)
theorem JY{nt id:Nat}{ops:Array Oper}{a:Act}(f:hU P An Or){Q:Exit->Act->World->Prop}(e:dN c nt w s ρ O a)(i:lR s)(h:gU P An Or false nt ops ops.toList s=some s')
  (g:∀b w' ρ' O',Le w ρ O w' ρ' O'->dN c nt w' s'.clear ρ' O' b->Q .normal b w'):(Code.region id ops false).wp P Q a w:=by
 refine wp_region ?_;rw [Pc,<-M1];exact Cz f (by intro j;simp) e (i.Bg ops) h λb w' ρ' O' le d=>g b w' ρ' O' le d.clear
end
open Go Go.IntKind
section
variable {P:Program} {A:ct} {O:aq} {R:Type} {h h':Id->Option ad} {s s':St}
theorem iF{v:AV}{vs:List AV}{i:Id}:i∈bS (v::vs)↔i∈v.ids\/i∈bS vs:=by simp [bS]
theorem pF{v:AV}(a:∀i∈v.ids,h' i=h i):cX h' v=cX h v:=by
 cases v <;> simp only [cX]
 all_goals rw [a _ (by simp [AV.ids])]
theorem sV{v:AV}(a:∀i∈v.ids,h' i=h i):fC h' v=fC h v:=by
 cases v <;> simp only [fC]
 all_goals rw [a _ (by simp [AV.ids])]
theorem Dh:∀{vs:List AV},(∀i∈bS vs,h' i=h i)->jm h' vs=jm h vs
 | [],_=>rfl
 | v::vs,b=>by simp only [jm];rw [pF λi a=>b i (iF.2 (.inl a)),Dh λi a=>b i (iF.2 (.inr a))]
theorem AZ:∀{vs:List AV},(∀i∈bS vs,h' i=h i)->kq h' vs=kq h vs
 | [],_=>rfl
 | v::vs,b=>by simp only [kq];rw [sV λi a=>b i (iF.2 (.inl a)),AZ λi a=>b i (iF.2 (.inr a))]
theorem Dk{v:AV}(a:∀i∈v.ids,h' i=h i):jl h' v=jl h v:=by
 cases v
 case agg vs=>simp only [jl];exact Dh (by simpa [AV.ids] using a)
 all_goals (simp only [jl];rw [pF a])
theorem A4{v:AV}(a:∀i∈v.ids,h' i=h i):ft h' v=ft h v:=by
 cases v
 case agg vs=>simp only [ft];exact AZ (by simpa [AV.ids] using a)
 all_goals (simp only [ft];rw [sV a])
theorem yf{b:Bool}{v:AV}(a:∀i∈v.ids,h' i=h i):iz b false h' v=iz b false h v:=by
 cases v
 case ref i off=>simp only [iz,cond_false];rw [a i (by simp [AV.ids]),pF a,sV a]
 all_goals (simp only [iz];rw [pF a,sV a])
theorem sa{b:Bool}:∀{vs:List AV},(∀i∈bS vs,h' i=h i)->jW b false h' vs=jW b false h vs
 | [],_=>rfl
 | v::vs,d=>by simp only [jW];rw [yf λi a=>d i (iF.2 (.inl a)),sa λi a=>d i (iF.2 (.inr a))]
theorem yl{g:Bool}{v:AV}(d:∀i∈v.ids,h' i=h i):jr g false h' v=jr g false h v:=by
 cases v
 case agg vs=>simp only [jr];rw [sa (by simpa [AV.ids] using d)]
 case fn f a b=>simp only [AV.ids,MQ] at d;simp only [jr];rw [sa λi e=>d i (.inl e),sa λi e=>d i (.inr e)]
 all_goals (simp only [jr];rw [yf d])
theorem yn{b:Bool}:∀{vs:List AV},(∀i∈bS vs,h' i=h i)->js b false h' vs=js b false h vs
 | [],_=>rfl
 | v::vs,d=>by simp only [js];rw [yl λi a=>d i (iF.2 (.inl a)),yn λi a=>d i (iF.2 (.inr a))]
theorem qx:∀{a b:List AV} {i:Id},i∈bS (a++b)↔i∈bS a\/i∈bS b
 | [],b,i=>by simp [bS]
 | v::a,b,i=>by rw [Nu,iF,iF,qx,or_assoc]
theorem wA:∀{vs:List AV} {i:Id},i∈bS vs->∃v∈vs,i∈v.ids
 | v::vs,i,a=>by
  rcases iF.1 a with a | a
  .exact⟨v,Mv,a⟩
  .obtain⟨u,b,d⟩:=wA a;exact⟨u,Mx _ b,d⟩
 | [],i,a=>by simp [bS] at a
theorem uX{d:Nat}{c:Option Bool}{f:FuncId}{args:List AV}{K:AV->aB->Option R}(a:s'.h=s.h\/(A.gf f=none/\A.deep f=false/\∀i∈bS args,s'.h i=s.h i)):fj P A O s' d c f args K=fj P A O s d c f args K:=by
 unfold fj;rcases a with a | ⟨g,j,a⟩
 .rw [a]
 .have e:∀b,js b false s'.h args=js b false s.h args:=λb=>yn a;simp only [g,j,e]
theorem xr{c:Option Bool}{i:Id}{n:Nat}{K:Nat->Bool->List (List T)->Option R}(a:h' i=h i):jM h' c i n K=jM h c i n K:=by unfold jM;rw [a]
theorem EC{fE:Bool}{d:Nat}{c:Option Bool}{f:FuncId}{args:List AV}{K:AV->aB->Option R}(a:s'.h=s.h\/(fE=false/\A.gf f=none/\A.deep f=false/\∀i∈bS args,s'.h i=s.h i)):hZ fE P A O s' d c f args K=hZ fE P A O s d c f args K:=by
 rcases a with a | ⟨rfl,a⟩
 .unfold hZ;rw [a];cases cond fE (gw args) none with
  | none=>exact uX (.inl a)
  | some q=>obtain⟨b,i,n,e⟩:=q;dsimp only;split <;> rfl
 .exact uX (.inr a)
theorem HV{c:Option Bool}{t:TypeId}{a:AV}{K:AV->Option R}(b:∀i∈a.ids,s'.h i=s.h i):fu P s' c t a K=fu P s c t a K:=by unfold fu;cases a <;> (try rfl) <;> (simp only [];first | rw [xr (b _ (by simp [AV.ids]))] | rw [b _ (by simp [AV.ids])])
theorem LU{t:TypeId}{a v:AV}{K:aB->Option R}(d:∀i∈a.ids,s'.h i=s.h i)(b:∀i∈v.ids,s'.h i=s.h i):gX P s' t a v K=gX P s t a v K:=by
 unfold gX;cases a <;> (try rfl) <;> (simp only [];rw [d _ (by simp [AV.ids])];try rw [Dk b,A4 b]);cases v
 case own j=>simp only [b j (by simp [AV.ids])]
 all_goals rfl
theorem HF{c:Option Bool}{t:TypeId}{x:AV}{i:Int}{K:AV->Option R}(a:∀i∈x.ids,s'.h i=s.h i):ij P s' c t x i K=ij P s c t x i K:=by
 unfold ij;cases x
 case row i n=>simp only [xr (a i (by simp [AV.ids]))]
 all_goals first | rfl | (simp only [];rw [a _ (by simp [AV.ids])])
theorem HN{c:Option Bool}{t:TypeId}{x:AV}{K:AV->Option R}(a:∀i∈x.ids,s'.h i=s.h i):lr P s' c t x K=lr P s c t x K:=by
 unfold lr;cases x
 case row i n=>simp only [xr (a i (by simp [AV.ids]))]
 all_goals first | rfl | (simp only [];rw [a _ (by simp [AV.ids])])
theorem LD{c:Option Bool}{t:TypeId}{x:AV}{b a d:Option Int}{K:AV->Option R}(e:∀i∈x.ids,s'.h i=s.h i):lM P s' c t x b a d K=lM P s c t x b a d K:=by unfold lM;cases x <;> (try rfl) <;> (simp only [];rw [e _ (by simp [AV.ids])])
theorem Bj{t:TypeId}{x:AV}(a:∀i∈x.ids,s'.h i=s.h i):ik P s' t x=ik P s t x:=by
 unfold ik;cases x
 case own i=>simp only [a i (by simp [AV.ids])]
 case t z=>cases z <;> rfl
 all_goals rfl
theorem D7{t:TypeId}{sz:Nat}{a:List T}{y:AV}{K:List (List T)->Option R}(b:∀i∈y.ids,s'.h i=s.h i):jV P s' t sz a y K=jV P s t sz a y K:=by unfold jV;rw [pF b]
theorem D1{d:Nat}{t ty:TypeId}{x y:AV}{K:AV->aB->Option R}(a:∀i∈x.ids,s'.h i=s.h i)(b:∀i∈y.ids,s'.h i=s.h i):iW P s' d false t ty x y K=iW P s d false t ty x y K:=by
 unfold iW;simp only [cond_false];cases x <;> simp only [D7 b]
 case own i=>rw [a i (by simp [AV.ids])]
 case part i sz off n=>rw [a i (by simp [AV.ids])]
 all_goals rfl
theorem H5{c:Option Bool}{t:TypeId}{x k:AV}{ok:Bool}{K:AV->Option R}(a:∀i∈x.ids,s'.h i=s.h i):lu P s' c t x k ok K=lu P s c t x k ok K:=by unfold lu;cases x <;> (try rfl) <;> (simp only [];rw [a _ (by simp [AV.ids])])
theorem JU{t:TypeId}{x k v:AV}{K:aB->Option R}(a:∀i∈x.ids,s'.h i=s.h i):lE P s' t x k v K=lE P s t x k v K:=by unfold lE;cases x <;> (try rfl) <;> (simp only [];rw [a _ (by simp [AV.ids])])
theorem EV{t:TypeId}{x k:AV}{K:aB->Option R}(a:∀i∈x.ids,s'.h i=s.h i):kT P s' t x k K=kT P s t x k K:=by unfold kT;cases x <;> (try rfl) <;> (simp only [];rw [a _ (by simp [AV.ids])])
theorem Ap{e:TypeId}{ev:Operand->AV}:∀{a:List (Nat×Operand)} {n:Nat},(∀x∈a.map (·.2),∀i∈(ev x).ids,h' i=h i)->gh P h' e ev n a=gh P h e ev n a
 | [],n,_=>rfl
 | (k,o)::a,n,b=>by simp only [gh];rw [Dk (b o (by simp)),A4 (b o (by simp)),Ap λx d=>b x (by simp only [Nh];exact Mx _ d)]
theorem Aq{e:TypeId}{ev b:Operand->AV}:∀{a:List (Nat×Operand)} {n:Nat},(∀x∈a.map (·.2),b x=ev x)->gh P h e b n a=gh P h e ev n a
 | [],n,_=>rfl
 | (k,o)::a,n,d=>by simp only [gh];rw [d o (by simp),Aq λx f=>d x (by simp only [Nh];exact Mx _ f)]
theorem Cd{t:TypeId}{ev b:Operand->AV}:∀{a:List (Nat×Operand)},(∀x∈a.map (·.2),b x=ev x)->mC P t b a=mC P t ev a
 | [],_=>rfl
 | (k,o)::a,d=>by simp only [mC];rw [d o (by simp),Cd λx e=>d x (by simp only [Nh];exact Mx _ e)]
theorem lf{g:Option Gs}{x:Operand}(a:∀k,x= .tmp k->s'.t k=s.t k):s'.get g x=s.get g x:=by
 cases x with
 | tmp k=>show(cond (jk (s'.t k).1 g) (s'.t k).2 AV.top)=cond (jk (s.t k).1 g) (s.t k).2 AV.top;rw [a k rfl]
 | _=>rfl
theorem A9{g:Option Gs}{b x:Operand}{w:Bool}(a:∀k,x= .tmp k->s'.t k=s.t k):s'.kr g b w x=s.kr g b w x:=by
 unfold St.kr;split
 .rw [a _ rfl]
 .exact lf a
set_option maxHeartbeats 1000000 in
theorem CB:∀{vs:List AV} {b:List AV} {i:Id} {n:Nat} {d:List AV},gw vs=some (b,i,n,d)->i∈bS vs
 | [],_,_,_,_,h=>by simp [gw] at h
 | v::r,b,i,n,d,h=>by
  unfold gw at h;split at h
  .cases h
  .rename_i i' g f a;simp only [NN] at a;obtain⟨rfl,rfl⟩:=a;simp only [Mt,Ng] at h;obtain⟨rfl,rfl,rfl,rfl⟩:=h;simp [bS,AV.ids]
  .rename_i o f _ a;simp only [NN] at a;obtain⟨rfl,rfl⟩:=a;obtain⟨q,e,h⟩:=Mu.1 h;obtain⟨j,k,l,m⟩:=q;simp only [Mt,Ng] at h;obtain⟨rfl,rfl,rfl,rfl⟩:=h;simp only [bS,MQ];exact .inr (CB e)
theorem J5{R:Type}{P:Program}{s s':St}{e:TypeId}{d:Nat}{c:Option Bool}{v:AV}{K:AV->aB->Option R}(b:∀i∈v.ids,s'.h i=s.h i):lJ P s' e d c v K=lJ P s e d c v K:=by
 unfold lJ;split
 .rename_i vs;split
  .rename_i f i n g a;rw [b i (by simp only [AV.ids];exact CB a)]
  .rfl
 .rfl
theorem AT(v:AV):(ko v).ids=v.ids:=by unfold ko;split <;> rfl
theorem hY{g:Option Gs}{o:Oper}(I:∀x∈o.op.operands,∀k,x= .tmp k->s'.t k=s.t k)(N:dZ P o=true\/gP o=true\/s'.h=s.h\/(dF A o=false/\dC A o=false/\∀x∈o.op.operands,∀i∈(s.get g x).ids,s'.h i=s.h i)):
  cA P A O g o s'=cA P A O g o s:=by
 have j:∀x∈o.op.operands,s'.get g x=s.get g x:=λx m=>lf (I x m);have l:dZ P o=true\/gP o=true\/∀x∈o.op.operands,∀i∈(s.get g x).ids,s'.h i=s.h i:=by
  rcases N with h | h | h | h
  .exact .inl h
  .exact .inr (.inl h)
  .exact .inr (.inr λ_ _ i _=>by rw [h])
  .exact .inr (.inr h.2.2)
 have hw:∀cl,o.op= .call cl->∀f,cl.callee= .value f->dZ P o=false:=by intro cl U f h2;simp [dZ,U,h2]
 have hal:∀cl,o.op= .call cl->gP o=false:=by intro cl U;simp [gP,U]
 have Q:dZ P o=true\/gP o=true\/s'.h=s.h\/(dF A o=false/\dC A o=false):=N.imp id (Or.imp id (Or.imp id λh=>⟨h.1,h.2.1⟩));unfold cA gI;cases B:o.op <;> rw [B] at I j l <;> simp only [dZ,gP,B,MZ,false_or] at l <;> dsimp only <;> simp only [Op.operands] at I j l
 case pick a b x=>rw [j a (by simp),A9 (I b (by simp)),A9 (I x (by simp))]
 case build t ps=>unfold sd;rw [Cd (ev:=s.get g) (by simpa using j)]
 case buildSlice t n ps=>
  have C:∀e,gh P s'.h e (s'.get g) 0 ps.toList=gh P s.h e (s.get g) 0 ps.toList:=λe=>by rw [Aq (ev:=s.get g) (by simpa using j),Ap (by simpa using l)]
  simp only [C];congr 1;funext e;split
  .split
   .rename_i x _ E;rw [j x (by simp [E])]
   .rfl
  .split
   .split
    .rename_i x E;rw [j x (by simp [E])];exact J5 (l x (by simp [E]))
    .rfl
   .rfl
 case load t x=>rw [j x (by simp),HV (l x (by simp))]
 case store t x y=>rw [j x (by simp),j y (by simp),LU (l x (by simp)) (l y (by simp))]
 case binOp op t x y ty=>
  rw [j x (by simp),j y (by simp)];rcases l with l | l
  .simp only [Np,N9] at l;rw [l.1,l.2];cases op <;> rfl
  .rw [Bj (l x (by simp)),Bj (l y (by simp))]
 case convert src dst x=>rw [j x (by simp),pF (l x (by simp))]
 case makeFunc fn L G=>
  cases fn <;> try rfl
  have C:L.toList.map (s'.get g)=L.toList.map (s.get g):=N2 λx m=>j x (by simp at m⊢;exact .inl m);have e2:G.toList.map (s'.get g)=G.toList.map (s.get g):=N2 λx m=>j x (by simp at m⊢;exact .inr m);simp only [C,e2]
 case slice t x Z q mx=>
  have eb:∀(o:Option Operand) (c:Option Bool) (K:Option Int->Option (AV×aB)),(∀y,o=some y->y∈#[x] ++Z.toArray++q.toArray++mx.toArray)->gK s' c g o K=gK s c g o K:=by
   intro o c K hm;unfold gK;cases o with
   | none=>rfl
   | some y=>simp only [j y (hm y rfl)]
  have m:x∈#[x] ++Z.toArray++q.toArray++mx.toArray:=by simp
  rw [j x m];simp only [LD (l x m)];rw [eb Z _ _ (by intro y e;subst e;simp)];congr 1;funext lo';rw [eb q _ _ (by intro y e;subst e;simp)];congr 1;funext hi';rw [eb mx _ _ (by intro y e;subst e;simp)]
 case indexAddr t x i=>rw [j x (by simp),j i (by simp)];simp only [HF (l x (by simp))]
 case call cl=>
  simp only [Call.operands] at j l;split
  .rename_i p;split
   .rename_i x t ts m _;have hm:x∈(match cl.callee with | .value f=> #[f] | .invoke r _=> #[r] | .builtin _=> #[])++cl.args:=by
     simp [<-Array.mem_toList_iff,m]
    rw [j x hm];rcases l with l | l
    .simp [p] at l
    .exact HN (l x hm)
   .rfl
  .rename_i p;split
   .rename_i x y t u _ m _;have hm:∀z,(z=x\/z=y)->z∈(match cl.callee with | .value f=> #[f] | .invoke r _=> #[r] | .builtin _=> #[])++cl.args:=by
     intro z Y;simp [<-Array.mem_toList_iff,m,Y]
    rw [j x (hm x (.inl rfl)),j y (hm y (.inr rfl))];rcases l with l | l
    .simp [p] at l
    .cases hn:(A.jF o.dst o.type==3) with
     | false=>exact D1 (l x (hm x (.inl rfl))) (l y (hm y (.inr rfl)))
     | true=>
      rcases Q with h | h | h | h
      .simp [dZ,B,p] at h
      .simp [gP,B] at h
      .have:∀(d:Nat) (b:Bool) (t ty:TypeId) (x y:AV) (K:AV->aB->Option (AV×aB)),iW P s' d b t ty x y K=iW P s d b t ty x y K:=λd b t ty x y K=>by
        unfold iW mY jV;rw [h]
       exact this _ _ _ _ _ _ _
      .have:=h.2;simp [dC,B,p,hn] at this
   .rfl
  .have C:cl.args.toList.map (s'.get g)=cl.args.toList.map (s.get g):=N2 λx m=>j x (by simp at m⊢;exact .inr m);rw [C]
  .have C:cl.args.toList.map (s'.get g)=cl.args.toList.map (s.get g):=N2 λx m=>j x (by simp at m⊢;exact .inr m);rw [C]
  .rename_i p;split
   .rename_i x y t ts _ m _;have hm:∀z,(z=x\/z=y)->z∈(match cl.callee with | .value f=> #[f] | .invoke r _=> #[r] | .builtin _=> #[])++cl.args:=by
     intro z Y;simp [<-Array.mem_toList_iff,m,Y]
    rw [j x (hm x (.inl rfl)),j y (hm y (.inr rfl))];rcases l with l | l
    .simp [p] at l
    .exact EV (l x (hm x (.inl rfl)))
   .rfl
  .rename_i p;split
   .rename_i x t ts m _;have hm:x∈(match cl.callee with | .value f=> #[f] | .invoke r _=> #[r] | .builtin _=> #[])++cl.args:=by
     simp [<-Array.mem_toList_iff,m]
    rw [j x hm]
   .rfl
  .rename_i F p;have C:cl.args.toList.map (s'.get g)=cl.args.toList.map (s.get g):=N2 λx m=>j x (by simp at m⊢;exact .inr m);have M:F∈(match cl.callee with | .value f=> #[f] | .invoke r _=> #[r] | .builtin _=> #[])++cl.args:=by simp [p]
   rw [C,j F M];rcases l with l | l
   .simp [p] at l
   .cases J:ko (s.get g F) <;> try rfl
    rename_i f a b;have D:=l F M;rw [<-AT,J] at D;simp only [AV.ids,MQ] at D;refine EC ?_;have V:∀i∈bS (a++cl.args.toList.map (s.get g)++b),s'.h i=s.h i:=by
     intro i q;rcases qx.1 q with q | q
     .rcases qx.1 q with q | q
      .exact D i (.inl q)
      .obtain⟨v,J,q⟩:=wA q;obtain⟨x,m,rfl⟩:=M7.1 J;exact l x (by simp at m⊢;exact .inr m) i q
     .exact D i (.inr q)
    rcases Q with h | h | h | h
    .rw [hw cl B F p] at h;cases h
    .rw [hal cl B] at h;cases h
    .exact .inl h
    .obtain⟨h,X⟩:=h;simp only [dF,B,p] at h;simp only [dC,B,p] at X;cases F with
     | func f'=>
      simp only [St.get,ko] at J;obtain⟨rfl,_,_⟩:f'=f/\_/\_:=by simpa using J
      cases hb:A.gf f' with
      | some x=>dsimp only at h;rw [hb] at h;simp at h
      | none=>exact .inr ⟨rfl,rfl,X,V⟩
     | _=>simp at X
  .rfl
 case move x=>rw [j x (by simp)]
 case assign x=>rw [j x (by simp)]
 case box t x=>rw [j x (by simp)]
 case nilCheck x=>rw [j x (by simp)]
 case unOp op t x=>rw [j x (by simp)]
 case makeSlice t x y=>rw [j x (by simp),j y (by simp)]
 case lookup t x k ok=>rw [j x (by simp),j k (by simp),H5 (l x (by simp))]
 case mapUpdate t x k v=>rw [j x (by simp),j k (by simp),j v (by simp),JU (l x (by simp))]
 case fieldAddr t x f=>rw [j x (by simp)]
 case field t x f=>rw [j x (by simp)]
 case index t x i=>rw [j x (by simp),j i (by simp)]
 case extract x k=>rw [j x (by simp)]
theorem Ec{dx:List Id}{b:Bool}{v:AV}(a:∀i∈v.ids,h' i=h i):p8 h' dx b v=p8 h dx b v:=by unfold p8;rw [yl a]
theorem yh{dx:List Id}:∀{a:List Bool} {vs:List AV},(∀i∈bS vs,h' i=h i)->jX h' dx a vs=jX h dx a vs
 | _,[],_=>by simp [jX]
 | a,v::vs,d=>by simp only [jX];rw [Ec λi b=>d i (iF.2 (.inl b)),yh λi b=>d i (iF.2 (.inr b))]
theorem uz{N:Id->Prop}:∀{us:aB} {h h':Id->Option ad},(∀i,¬N i->h' i=h i)->∀i,¬N i->aJ h' us i=aJ h us i
 | [],_,_,a,i,d=>a i d
 | (j,b)::us,h,h',a,i,d=>by
  rw [cD,cD];refine uz (N:=N) (λk f=> ?_) i d;by_cases e:k=j
  .subst e;rw [aA,aA]
  .rw [au _ _ e,au _ _ e];exact a k f
theorem JO{N:Id->Prop}{new i:Id}{k sz:Nat}{us:aB}(a:∀i,¬N i->h' i=h i)(f:¬N i)(d:¬N new)(o:∀p∈us,¬N p.1)(e:mB h new i k sz=some us):mB h' new i k sz=some us:=by
 unfold mB at e⊢;cases l:Nat.ble 100000 sz with
 | true=>rw [l,cond_true] at e;rw [cond_true];unfold pk at e⊢;rw [a i f,a new d];exact e
 | false=>
 rw [l,cond_false] at e;rw [cond_false];rw [a i f,a new d];split at e
 .rename_i cs f
  try simp only [f]
  split at e
  .exact e
  .exact e
  .exact e
  .rename_i j v n x;split at e
   .rename_i u b xs r;split at e
    .rename_i q;have g:¬N j:=by
      cases m:(h new).isNone with
      | false=>rw [m] at e;simp at e
      | true=>rw [m] at e;simp only [cond_true,Mt] at e;subst e;exact o (j,_) Mv
     rw [a j g,r];simp only [if_pos q];exact e
    .cases e
   .cases e
  .cases e
 .cases e
theorem Ch{N:Id->Prop}{nm:Nat}(a:∀k,¬N (.s nm k)):∀{l:List (Id×Nat×Nat)} {j:Nat} {h h':Id->Option ad} {us:aB},(∀i,¬N i->h' i=h i)->(∀q∈l,¬N q.1)->(∀p∈us,¬N p.1)->iI nm j h l=some us->iI nm j h' l=some us
 | [],_,_,_,_,_,_,_,e=>e
 | (i,k,sz)::l,j,h,h',us,f,hl,b,e=>by simp only [iI] at e⊢;obtain⟨r,g,e⟩:=Mu.1 e;obtain⟨u,m,e⟩:=Mu.1 e;simp only [Mt] at e;subst e;rw [JO f (hl (i,k,sz) Mv) (a j) (λp d=>b p (MM _ d)) g];simp only [Mw];rw [Ch a (uz f) (λq o=>hl q (Mx _ o)) (λp d=>b p (MK _ d)) m];rfl
theorem qX:∀{n:Nat} {todo a seen:List Id},dV h n todo a=some seen->(∀i∈seen,h' i=h i)->dV h' n todo a=some seen
 | 0,todo,a,seen,e,_=>by simp [dV] at e
 | n+1,[],a,seen,e,_=>e
 | n+1,i::todo,a,seen,e,hs=>by
  simp only [dV] at e⊢;cases b:a.contains i with
  | true=>rw [b,cond_true] at e;rw [cond_true];exact qX e hs
  | false=>
   rw [b,cond_false] at e;rw [cond_false];have hm:i∈seen:=by
    have:a++ [i] <+:seen:=by
     split at e
     .exact mD e
     .exact mD e
     .exact mD e
     .cases e
    exact this.subset (MK _ (MI.2 rfl))
   rw [hs i hm];split at e
   .exact qX e hs
   .exact qX e hs
   .exact qX e hs
   .cases e
theorem u7:∀{l seen:List Id},∀i∈nc l seen,i∈l
 | [],_,i,a=>by simp [nc] at a
 | j::l,seen,i,a=>by
  simp only [nc] at a;cases b:seen.contains j with
  | true=>rw [b,cond_true] at a;exact Mx _ (u7 i a)
  | false=>
   rw [b,cond_false] at a;rcases MN.1 a with rfl | a
   .exact Mv
   .exact Mx _ (u7 i a)
theorem tR{i:Id}:∀{l:List bW} {k:Nat},∀q∈lH i k l,q.1=i
 | [],_,q,a=>by simp [lH] at a
 | r::l,k,q,a=>by
  cases r with
  | own sz=>
   simp only [lH] at a;rcases MN.1 a with rfl | a
   .rfl
   .exact tR q a
  | rows sz col rsz=>
   simp only [lH] at a;rcases MN.1 a with rfl | a
   .rfl
   .exact tR q a
  | _=>simp only [lH] at a;exact tR q a
theorem xl:∀{e:List Id} {d:List iw},∀q∈lI e d,q.1∈e
 | [],d,q,a=>by cases d <;> simp [lI] at a
 | i::e,[],q,a=>by simp [lI] at a
 | i::e,b::d,q,a=>by
  cases b with
  | box l=>
   simp only [lI,MQ] at a;rcases a with a | a
   .rw [tR q a];exact Mv
   .exact Mx _ (xl q a)
  | _=>simp only [lI] at a;exact Mx _ (xl q a)
theorem EB{N:Id->Prop}{d:Nat}{c:Option Bool}{f:FuncId}{args:List AV}{v:AV}{us:aB}(F:∀i,¬N i->s'.h i=s.h i)(M:A.deep f=false)(m:∀i∈bS args,¬N i)(G:∀k,¬N (.s (2000000+d) k))(E:∀p∈us,¬N p.1)
  (e:fj P A O s d c f args (λv u=>some (v,u))=some (v,us)):fj P A O s' d c f args (λv u=>some (v,u))=some (v,us):=by
 cases K:A.gf f with
 | none=>rw [uX (.inr ⟨K,M,λi l=>F i (m i l)⟩)];exact e
 | some Y=>
  unfold fj at e⊢;cases D:P.funcs[f]? with
  | none=>rw [D] at e;simp at e
  | some fn=>
   simp only [D,K] at e⊢;cases c with
   | some b=>simp at e
   | none=>
    simp only at e⊢;rw [yh λi l=>F i (m i l)];obtain⟨p,U,e⟩:=Mu.1 e;rw [U,Mw];obtain⟨a,I,e⟩:=Mu.1 e;obtain⟨seen,o,e⟩:=Mu.1 e;obtain⟨_,_,J,_,_⟩:=qY o OY (by simp) (by simp);have L:=e;have g:(∀q∈a,¬N q.1)/\∀i∈seen,¬N i:=by
     cases C:(tG d seen && Nat.beq (fA (seen.map λi=>fH seen (aJ (aJ s.h p.2) a i)).head?) (fA ((bS p.1).head?.bind (aJ s.h p.2)))) with
     | false=>rw [C] at e;simp at e
     | true=>
      rw [C,cond_true] at e;obtain⟨Z,e,_⟩:=uy (.inl rfl) e;obtain⟨xs,_,e⟩:=aL e (.inl rfl);rw [show ∀(n:Nat),(dw seen d none 0 (cN P A f n fn) xs λvs u j=>eP seen d j seen (fF A f n) (xs.drop (kH (cN P A f n fn))) λq=>(some (jK vs,p.2++a++iB seen++u++q):Option (AV×aB)))=
       ((dw seen d none 0 (cN P A f n fn) xs λvs u j=>some (vs,u,j)).bind λz=>(eP seen d z.2.2 seen (fF A f n) (xs.drop (kH (cN P A f n fn))) some).bind λq=>some (jK z.1,p.2++a++iB seen++z.2.1++q)) from λn=>by
        rw [na];congr 1;funext vs u j;simp only [Mw];rw [sC];rfl] at e
      obtain⟨z,_,e⟩:=Mu.1 e;obtain⟨q,_,e⟩:=Mu.1 e;simp only [Mt,Ng] at e;obtain⟨_,rfl⟩:=e;refine⟨λx X=>E x ?_,λi l=>E (i, .dead) ?_⟩
      .exact MM _ (MM _ (MM _ (MK _ X)))
      .exact MM _ (MM _ (MK _ (M7.2 ⟨i,l,rfl⟩)))
    have r:∀i,¬N i->aJ s'.h p.2 i=aJ s.h p.2 i:=uz F;have B:∀i,¬N i->aJ (aJ s'.h p.2) a i=aJ (aJ s.h p.2) a i:=uz r;have y:(bS p.1).head?.bind (aJ s'.h p.2)= (bS p.1).head?.bind (aJ s.h p.2):=by
     cases Q:(bS p.1).head? with
     | none=>rfl
     | some i=>exact r i (g.2 i (J i (List.mem_of_mem_head? (by rw [Q];rfl))))
    rw [y];rw [Ch G r (λq V=>g.2 q.1 (J q.1 (u7 q.1 (xl q V)))) g.1 I,Mw];rw [qX o λi l=>B i (g.2 i l),Mw];have hm:(seen.map λi=>fH seen (aJ (aJ s'.h p.2) a i))=seen.map λi=>fH seen (aJ (aJ s.h p.2) a i):=N2 λi l=>by rw [B i (g.2 i l)]
    rw [hm];exact L
theorem r9{N:Id->Prop}{g:Option Gs}{o:Oper}{v:AV}{us:aB}(K:∀x∈o.op.operands,∀k,x= .tmp k->s'.t k=s.t k)(J:∀i,¬N i->s'.h i=s.h i)(z:dC A o=false)(l:∀x∈o.op.operands,∀i∈(s.get g x).ids,¬N i)
  (F:∀k,¬N (.s (2000000+o.dst.getD 0) k)) (L:∀p∈us,¬N p.1) (e:cA P A O g o s=some (v,us)):cA P A O g o s'=some (v,us):=by
 cases G:dF A o with
 | false=>rw [hY (s:=s) K (.inr (.inr (.inr ⟨G,z,λx q i d=>J i (l x q i d)⟩)))];exact e
 | true=>
  have C:∀x∈o.op.operands,s'.get g x=s.get g x:=λx q=>lf (K x q);cases y:o.op <;> simp only [dF,y,MZ] at G;rename_i cl;cases j:cl.callee <;> simp only [j,MZ] at G;rename_i u;unfold cA gI at e⊢;rw [y] at e l C⊢;simp only [Op.operands,Call.operands] at l C;simp only [j] at e⊢;have M:cl.args.toList.map (s'.get g)=cl.args.toList.map (s.get g):=N2 λx q=>C x (by simp at q⊢;exact .inr q);have E:u∈(match cl.callee with | .value f=> #[f] | .invoke r _=> #[r] | .builtin _=> #[])++cl.args:=by simp [j]
  rw [M,C u E];cases B:ko (s.get g u) <;> rw [B] at e <;> simp only [reduceCtorEq] at e;rename_i f a b;have m:=l u E;rw [<-AT,B] at m;simp only [AV.ids,MQ] at m;have D:A.deep f=false:=by
   simp only [dC,y,j] at z;cases u with
   | func I=>
    simp only [St.get,ko] at B;obtain⟨rfl,_,_⟩:I=f/\_/\_:=by simpa using B
    exact z
   | _=>simp at z
  have hl:BB u=false:=by
   simp only [dC,y,j] at z;cases u with
   | func I=>rfl
   | _=>simp at z
  dsimp only at e⊢;rw [hl,ED] at e⊢;refine EB J D ?_ F L e;intro i d;rcases qx.1 d with d | d
  .rcases qx.1 d with d | d
   .exact m i (.inl d)
   .obtain⟨v,B,d⟩:=wA d;obtain⟨x,q,rfl⟩:=M7.1 B;exact l x (by simp at q⊢;exact .inr q) i d
  .exact m i (.inr d)
end
open Go Go.IntKind
section
variable {P:Program} {An:ct} {Or:aq} {w w':World} {A A':Nat->Prop} {c:Ctx} {ρ:Id->Option Value} {O:Id->Option Nat} {s s' s1 s2:St} {h:Id->Option ad} {ops:Array Oper} {nt:Nat}
structure p5 (P:Program) (An:ct) (Or:aq) (nt:Nat) (ops:Array Oper) (o:Oper) (s:St) (g:Option Gs) (v:AV) (us:aB):Prop where
 guard:cL ops o s some=some g
 op:cA P An Or g o s=some (v,us)
 ok:lC P An true nt ops o g s v us=true
 dx:im An true o s.h us=true
theorem Dn{o:Oper}{g:Option Gs}:nR An true o g=none:=by cases g <;> rfl
theorem wZ{o:Oper}(e:dU P An Or true nt ops o s=some s'):∃g v us,p5 P An Or nt ops o s g v us/\s'=s.put (df ops o.dst) o.dst g v us:=by
 unfold dU mA at e;rw [s4] at e;replace e:=Mu.1 e;obtain⟨g,f,e⟩:=e;rw [Dn] at e;dsimp only at e;rw [oe] at e;replace e:=Mu.1 e;obtain⟨⟨v,us⟩,d,e⟩:=e;dsimp only at e;rw [qB] at e;cases a:im An true o s.h us with
 | false=>rw [a] at e;cases e
 | true=>
  rw [a,cond_true] at e;split at e
  .rename_i b;simp only [Mt] at e;exact⟨g,v,us,⟨f,d,b,a⟩,e.symm⟩
  .simp at e
theorem p5.dU{o:Oper}{g:Option Gs}{v:AV}{us:aB}(a:p5 P An Or nt ops o s g v us):dU P An Or true nt ops o s=some (s.put (df ops o.dst) o.dst g v us):=by unfold Aev.dU mA;rw [s4,a.guard,Mw,Dn];dsimp only;rw [oe,a.op,Mw];dsimp only;rw [qB,a.dx,cond_true,if_pos a.ok]
def nX(ops:Array Oper)(a:Array Bool)(s:St):Prop:= ∀k g v,s.t k= (some g,v)->∃i o,ops[i]? =some o/\a.getD i false=true/\o.dst=some g.d
theorem nf{d:Nat}{o:Oper}(a:o.dst=some d):∀(l:List Oper),o∈l->d∈fp l:=by
 intro l;induction l with
 | nil=>intro hm;cases hm
 | cons x l b=>
  intro hm;simp only [fp];rcases MN.1 hm with rfl | hm
  .rw [a];exact Mv
  .have:=b hm;split
   .exact Mx _ this
   .exact this
theorem yW:∀{l:List Oper},qM (fp l)=true->∀{i j:Nat} {x y:Oper} {d:Nat},l[i]? =some x->l[j]? =some y->x.dst=some d->y.dst=some d->i=j
 | [],_,i,j,x,y,d,b,_,_,_=>by simp at b
 | z::l,a,i,j,x,y,d,b,f,k,m=>by
  have g:qM (fp l)=true/\∀d,z.dst=some d->d∉fp l:=by
   simp only [fp] at a;cases o:z.dst with
   | none=>rw [o] at a;exact⟨a,λd h=>by cases h⟩
   | some e=>
    rw [o] at a;simp only [qM,MB,Np] at a;refine⟨a.2,λd h=> ?_⟩;simp only [Mt] at h;subst h;intro hm;have:(fp l).contains e=true:=by simpa using hm
    rw [this] at a;cases a.1
  cases i with
  | zero=>
   simp only [Ob,Mt] at b;subst b;cases j with
   | zero=>rfl
   | succ j=>simp only [NP] at f;exact(g.2 d k (nf m _ (MD f))).elim
  | succ i=>
   simp only [NP] at b;cases j with
   | zero=>simp only [Ob,Mt] at f;subst f;exact(g.2 d m (nf k _ (MD b))).elim
   | succ j=>simp only [NP] at f;rw [yW g.1 b f k m]
def od(ops:Array Oper):Prop:= ∀{i j:Nat} {x y:Oper} {d:Nat},ops[i]? =some x->ops[j]? =some y->x.dst=some d->y.dst=some d->i=j
theorem rF{a:Array Bool}{i:Nat}(h:a.getD i true=false):a.getD i false=true->False:=by
 intro d;rw [NO] at h d;cases e:a[i]? with
 | none=>rw [e] at h;simp at h
 | some b=>rw [e] at h d;simp at h d;rw [h] at d;cases d
theorem xh{a:Array Bool}{i:Nat}{o:Oper}{g:Option Gs}{v:AV}{us:aB}(z:od ops)(y:ops[i]? =some o)(hl:a.getD i true=false)(x:nX ops a s)(b:Bool):
  s.put b o.dst g v us=s.put false o.dst g v us:=by
 unfold St.put;cases u:o.dst with
 | none=>rfl
 | some d=>
  simp only [St.mk.injEq,and_true];funext k;split
  .rfl
  .cases b with
   | false=>rfl
   | true=>
    simp only [cond_true,cond_false];cases p:s.t k with
    | mk f vk=>
     cases f with
     | none=>rfl
     | some f=>
      simp only [ke];cases m:(f.d==d) with
      | false=>rfl
      | true=>
       exfalso;obtain⟨j,B,q,r,l⟩:=x k f vk p;have e:f.d=d:=by simpa using m
       rw [e] at l;have:=z q y l u;subst this;exact rF hl r
theorem ef{o:Oper}{k:Nat}(h:(.tmp k:Operand)∈o.op.operands):k∈o.looksAt ops:=by unfold Oper.looksAt;refine MM _ (OX.2 ⟨.tmp k,by simpa using h,rfl⟩)
theorem BH{o:Oper}{j d:Nat}{b:Bool}(h:o.guard=some (j,b))(a:(ops[j]?).bind (·.dst)=some d):d∈o.looksAt ops:=by unfold Oper.looksAt;refine MK _ ?_;rw [h];simp [a]
theorem nM{b:Bool}{o:Oper}{g:Option Gs}{v:AV}{us:aB}{k:Nat}(f:o.dst≠some k):(s.put false o.dst g v us).t k=s.t k:=by
 unfold St.put;cases a:o.dst with
 | none=>rfl
 | some d=>have:k≠d:=λe=>f (by rw [a,e]);simp [if_neg this]
theorem Bd{o:Oper}(f:∀j b d,o.guard=some (j,b)->(ops[j]?).bind (·.dst)=some d->s'.t d=s.t d):cL ops o s' some=cL ops o s some:=by
 unfold cL;cases e:o.guard with
 | none=>rfl
 | some p=>
  obtain⟨j,b⟩:=p;simp only;cases a:(ops[j]?).bind (·.dst) with
  | none=>rfl
  | some d=>simp only [f j b d e a]
theorem uA:∀{us:aB} {h:Id->Option ad} {i:Id},aJ h us i=none->(∀q∈us,q.1≠i)/\h i=none
 | [],h,i,e=>⟨by simp,e⟩
 | (j,x)::us,h,i,e=>by
  rw [cD] at e;obtain⟨f,b⟩:=uA e;by_cases a:i=j
  .subst a;rw [aA] at b;cases b
  .rw [au _ _ a] at b;refine⟨λq d=> ?_,b⟩;rcases MN.1 d with rfl | d
   .exact λe=>a e.symm
   .exact f q d
theorem BU{o:Oper}{g:Option Gs}(a:∀x∈o.op.operands,s'.get g x=s.get g x):mu ops g o s'=mu ops g o s:=by
 unfold mu;have key:∀l:List Operand,(∀x∈l,s'.get g x=s.get g x)->(l.all λx=>(s'.get g x).ids.all λi=>match i with
  | .s d _=>ot ops o d
  | .c _=>true
  | .g _ _=>false)= (l.all λx=>(s.get g x).ids.all λi=>match i with
  | .s d _=>ot ops o d
  | .c _=>true
  | .g _ _=>false):=by
  intro l;induction l with
  | nil=>intro _;rfl
  | cons x l f=>intro h;rw [NL,NL,h x Mv,f λy e=>h y (Mx _ e)]
 exact key _ λx b=>a x (by simpa using b)
theorem tB{o:Oper}{g:Option Gs}(l:mu ops g o s=true){x:Operand}(v:x∈o.op.operands){d k:Nat}(u:Id.s d k∈(s.get g x).ids){i:Nat}{m:Oper}(a:ops[i]? =some m)(q:m.dst=some d):
  ∃e∈o.after,Region.binds .any e=true/\(e.on=i\/fM ops 12 e.on i=true):=by
 unfold mu at l;have p:=MR.1 l x (by simpa using v);have b:=MR.1 p _ u;simp only at b;unfold ot at b;have f:=MR.1 b i (Pk.2 (OR.1 a).1);rw [a] at f;simp only [q,BEq.rfl,Mz,M8] at f;obtain⟨e,r,j⟩:=OF.1 f;simp only [MB,Nk,beq_iff_eq] at j;exact⟨e,r,j.1,j.2⟩
theorem eU{o:Oper}{us:aB}(b:je o us=true){i:Id}(a:∃q∈us,q.1=i):∃d k,i= .s d k/\o.dst=some d:=by
 obtain⟨q,f,rfl⟩:=a;have:=MR.1 b q f;split at this
 .rename_i d k e;exact⟨d,k,e,by simpa using this⟩
 .simp at this
 .simp at this
theorem Mm{us vs:aB}(a:∀p∈us,∀q∈vs,p.1≠q.1):∀{h:Id->Option ad},aJ (aJ h us) vs=aJ (aJ h vs) us:=by
 induction us with
 | nil=>intro h;rfl
 | cons p us g=>intro h;obtain⟨i,b⟩:=p;rw [cD,cD,g (λp d=>a p (Mx _ d)),rG (λq f e=>a (i,b) Mv q f e.symm)]
def nT(ops:Array Oper)(a:Array Bool):Prop:= ∀k ok,ops[k]? =some ok->a.getD k false=true->∀e∈ok.after,Region.binds .any e=true->a.getD e.on false=true
theorem uS{a:Array Bool}(f:nT ops a){i:Nat}(m:a.getD i true=false):∀{n j:Nat} {d:Oper},ops[j]? =some d->(∀e∈d.after,Region.binds .any e=true->a.getD e.on false=true)->fM ops n j i=false
 | 0,j,d,_,_=>rfl
 | n+1,j,d,q,g=>by
  simp only [fM,q];rw [Array.any_eq_false'];intro e p l;simp only [MB,Nk,beq_iff_eq] at l;obtain⟨o,b⟩:=l;have hl:=g e p o;rcases b with b | ⟨_,b⟩
  .exact rF m (b▸hl)
  .cases k:ops[e.on]? with
   | none=>
    cases n with
    | zero=>simp [fM] at b
    | succ n=>simp [fM,k] at b
   | some ok=>rw [uS f m k (f e.on ok k hl)] at b;cases b
theorem xK{a b:Oper}(h:iO An ops a b=true):∃k d,eY ops a=some k/\eY ops b=some d/\k≠d/\k∉fp ops.toList/\d∉fp ops.toList:=by
 unfold iO at h;simp only [MB] at h;obtain⟨_,h⟩:=h;split at h
 .rename_i k d e f;simp only [MB,Np,beq_eq_false_iff_ne,ne_eq] at h;obtain⟨⟨g,i⟩,j⟩:=h;exact⟨k,d,e,f,g,by simpa using i,by simpa using j⟩
 .cases h
theorem LM{a b:Oper}(h:iO An ops a b=true):iO An ops b a=true:=by have h0:=h;unfold iO at h0;simp only [MB] at h0;obtain⟨k,l,d,f,g,i,j⟩:=xK h;unfold iO;rw [d,f,h0.1];simp only [NA,MB,Np,beq_eq_false_iff_ne,ne_eq];exact⟨⟨λe=>g e.symm,by simpa using j⟩,by simpa using i⟩
theorem Dt{o b:Oper}{us:aB}{k e:Nat}(h:iP P An ops o s us=true)(hm:b∈ops)(f:iO An ops o b=true)(m:eY ops o=some k)(d:eY ops b=some e):
  (∀x∈o.op.operands,∀i∈(s.get none x).ids,i∈(s.t k).2.ids)/\(∀p∈us,p.1∈(s.t k).2.ids)/\(∀p∈us,p.1∉(s.t e).2.ids):=by
 have a:=Nj.1 h b hm;simp only [MB] at a;replace a:=a.1.1.1.1;rw [f] at a;simp only [Mz,M8,xM,m,d,MB,MR,decide_eq_true_eq] at a;obtain⟨⟨g,j⟩,l⟩:=a;exact⟨λx q=>g x (Array.mem_toList_iff.2 q),j,l⟩
theorem qG{a b:Oper}(h:gR P An ops a b=true):(∃k,gT ops b=some (some k)/\k∉fp ops.toList)\/gT ops b=some none:=by
 unfold gR at h;simp only [MB] at h;obtain⟨_,h⟩:=h;split at h
 .rename_i k d;exact .inl ⟨k,d,by simpa using h⟩
 .rename_i d;exact .inr d
 .cases h
theorem By{a b:Oper}(h:gR P An ops a b=true):a.guard=none/\aH P An a=true/\dF An a=false/\dC An a=false:=by
 unfold gR at h;simp only [MB] at h;obtain⟨⟨_,⟨_,h⟩,_⟩,_⟩:=h;unfold yd at h;simp only [MB,Ox] at h;obtain⟨⟨i,j⟩,e⟩:=h;refine⟨i,j, ?_⟩;split at e
 .rename_i cl d;split at e
  .rename_i g;simp only [Np] at e;simp [dF,dC,d,g,e]
  .rename_i f g;simp only [MB,Ox,Np] at e;simp [dF,dC,d,g,e.1,e.2]
  .cases e
 .rename_i d;simp [dF,dC,d]
 .rename_i d;simp [dF,dC,d]
 .cases e
theorem Bz{a b:Oper}(h:gR P An ops a b=true):aH P An b=false:=by unfold gR at h;simp only [MB,Np] at h;exact h.1.2.1.1
theorem J3{o:Oper}{r:Option Nat}(h:gT ops o=some r):o.guard=none:=by
 unfold gT at h;split at h
 .rename_i a b;exact a
 .rename_i a b;exact a
 .cases h
theorem Cy{o:Oper}{r:Option Nat}(d:aH P An o=false)(h:gT ops o=some r):o.guard=none/\aH P An o=false/\dF An o=false/\dC An o=false:=by
 unfold gT at h;split at h
 .rename_i b a;simp [b,aH,dF,dC,a]
 .rename_i b a;exact⟨b,d,by simp [dF,a],by simp [dC,a]⟩
 .cases h
theorem J4{o:Oper}{k:Nat}(h:gT ops o=some (some k)):eY ops o=some k:=by
 unfold gT at h;split at h
 .rename_i a b;simp only [Mt] at h;subst h;simp [eY,a,b]
 .cases h
 .cases h
theorem nB{o:Oper}{k:Bool}(h:il P o k=true):∃t a y,o.guard=none/\o.op= .store t (.tmp a) y:=by
 unfold il at h;split at h
 .rename_i t a y b d;exact⟨t,a,y,b,d⟩
 .cases h
theorem LX{k off:Nat}{l:List T}{xs a:List (List T)}(h:fT k off l xs=some a):a.length=xs.length:=by
 unfold fT at h;split at h
 .split at h
  .simp only [Mt] at h;subst h;simp
  .cases h
 .cases h
theorem Bn{t:TypeId}{a v B:AV}{us:aB}(h:gX P s t a v (λu=>some (AV.top,u))=some (B,us))(f:ka us=true):
  ∃i sz k off j rsz X,a= .el i sz k off/\v= .own j/\(∃bb xs,s.h j=some (.sl false rsz bb xs))/\rsz≠1/\us= [(j, .dead),(i,X)]/\∃b d col g es x es',s.h i=some (.rows b d col rsz g es)/\X= .rows b d col rsz x es'/\es'.length=es.length:=by
 unfold gX at h;cases r:bR P t with
 | false=>rw [r] at h;cases h
 | true=>
  rw [r,cond_true] at h;split at h
  .split at h
   .split at h
    .simp only [Mt,Ng] at h;obtain⟨_,rfl⟩:=h;simp [ka] at f
    .cases h
   .cases h
  .rename_i i sz k off;split at h
   .obtain⟨l,_,h⟩:=Mu.1 h;split at h
    .replace h:=aL h (.inl rfl);obtain⟨C,_,h⟩:=h;simp only [Mt,Ng] at h;obtain⟨_,rfl⟩:=h;simp [ka] at f
    .cases h
   .rename_i b d col rsz g es y;split at h
    .rename_i j;split at h
     .rename_i m D xs z;split at h
      .rename_i o;have q:=o.2.2.1;subst q;replace h:=aL h (.inl rfl);obtain⟨e,_,h⟩:=h;simp only [Mt,Ng] at h;obtain⟨_,rfl⟩:=h;refine⟨i,sz,k,off,j,m,_,rfl,rfl,⟨_,_,z⟩, ?_,rfl,b,d,col,g,es,_,_,y,by rw [show sz=d from o.1.symm],by simp⟩;simpa [ka] using f
      .cases h
     .cases h
    .cases h
   .cases h
  .split at h
   .replace h:=aL h (.inl rfl);obtain⟨p,_,h⟩:=h;obtain⟨l,_,h⟩:=Mu.1 h;split at h
    .replace h:=aL h (.inl rfl);obtain⟨C,_,h⟩:=h;simp only [Mt,Ng] at h;obtain⟨_,rfl⟩:=h;simp [ka] at f
    .cases h
   .cases h
  .cases h
theorem Bo{t:TypeId}{a v z:AV}{us:aB}(h:gX P s t a v (λu=>some (AV.top,u))=some (z,us))(d:kb us=true):
  ∃i sz k off b f,a= .el i sz k off/\(∃xs,s.h i=some (.sl false 1 b xs)/\f.length=xs.length)/\us= [(i, .sl false 1 b f)]:=by
 unfold gX at h;cases m:bR P t with
 | false=>rw [m] at h;cases h
 | true=>
  rw [m,cond_true] at h;split at h
  .split at h
   .split at h
    .simp only [Mt,Ng] at h;obtain⟨_,rfl⟩:=h;simp [kb] at d
    .cases h
   .cases h
  .rename_i i sz k off;split at h
   .rename_i B b xs y;obtain⟨l,_,h⟩:=Mu.1 h;split at h
    .rename_i x;obtain⟨j,_,_⟩:=x;subst j;replace h:=aL h (.inl rfl);obtain⟨f,o,h⟩:=h;simp only [Mt,Ng] at h;obtain⟨_,rfl⟩:=h;cases g:ft s.h v with
     | cons q r=>rw [g] at d;simp [kb] at d
     | nil=>rw [g] at d;simp only [kb,beq_iff_eq] at d;subst d;exact⟨_,_,_,_,_,_,rfl,⟨_,y,LX o⟩,rfl⟩
    .cases h
   .split at h
    .split at h
     .split at h
      .replace h:=aL h (.inl rfl);obtain⟨e,_,h⟩:=h;simp only [Mt,Ng] at h;obtain⟨_,rfl⟩:=h;simp [kb] at d
      .cases h
     .cases h
    .cases h
   .cases h
  .split at h
   .replace h:=aL h (.inl rfl);obtain⟨p,_,h⟩:=h;obtain⟨l,_,h⟩:=Mu.1 h;split at h
    .replace h:=aL h (.inl rfl);obtain⟨f,_,h⟩:=h;simp only [Mt,Ng] at h;obtain⟨_,rfl⟩:=h;simp [kb] at d
    .cases h
   .cases h
  .cases h
theorem xN{o:Oper}{t:TypeId}{a:Nat}{y:Operand}{v:AV}{us:aB}(b:o.op= .store t (.tmp a) y)(h:cA P An Or none o s=some (v,us)):gX P s t (s.get none (.tmp a)) (s.get none y) (λu=>some (AV.top,u))=some (v,us):=by unfold cA gI at h;rw [b] at h;exact h
theorem Dp{a b:Oper}(hl:jO P An ops a b=true)(N:a∈ops)(Q:b∈ops){s1 s2:St}{U V:AV}{v y:aB}(ea:cA P An Or none a s1=some (U,v))(eb:cA P An Or none b s2=some (V,y))
  (I:iP P An ops a s1 v=true) (okb:iP P An ops b s2 y=true) (r:s2.h=aJ s1.h v\/s1.h=aJ s2.h y):
  (∀p∈v,∀q∈y,p.1≠q.1)/\(∀x∈a.op.operands,∀i∈(s1.get none x).ids,∃p∈v,p.1=i)/\(∀x∈b.op.operands,∀i∈(s2.get none x).ids,∃p∈y,p.1=i):=by
 have o:=Nj.1 I b Q;have l:=Nj.1 okb a N;simp only [MB] at o l;replace o:=o.1.2.1;replace l:=l.1.2.2;rw [hl] at o l;simp only [Mz,M8,MB] at o l;simp only [jO,MB] at hl;obtain⟨ta,Y,ya,ga,B⟩:=nB hl.1.2;obtain⟨tb,Z,yb,gb,u⟩:=nB hl.2;obtain⟨i,sz,k,off,j,rsz,X,J,K,⟨_,_,z⟩,L,rfl,_,_,_,_,_,_,_,C,rfl,_⟩:=Bn (xN B ea) o;obtain⟨i',sz',k',off',b',ys',M,⟨_,g,_⟩,rfl⟩:=Bo (xN u eb) l.1;have m:=l.2;simp only [uP,u,Od] at m;have G:i'≠i/\i'≠j:=by
  rcases r with r | r
  .rw [r,cD,dc] at g;constructor
   .rintro rfl;rw [aA] at g;cases g
   .intro e;by_cases D:i'=i
    .rw [D,aA] at g;cases g
    .rw [au _ _ D,e,aA] at g;cases g
  .rw [r,dc] at C z;constructor
   .rintro rfl;rw [aA] at C;cases C
   .rintro rfl;rw [aA] at z;simp only [Mt,ad.sl.injEq] at z;exact L z.2.1.symm
 refine⟨λp E q F e=> ?_,λx f id d=> ?_,λx f id d=> ?_⟩
 .simp only [MN,N5,or_false] at E F;subst F;rcases E with rfl | rfl
  .exact G.2 e.symm
  .exact G.1 e.symm
 .simp only [B,Op.operands] at f;have f:x= .tmp Y\/x=ya:=by simpa using f
  rcases f with rfl | rfl
  .rw [J] at d;simp only [AV.ids,MI] at d;subst d;exact⟨_,Mx _ (MI.2 rfl),rfl⟩
  .rw [K] at d;simp only [AV.ids,MI] at d;subst d;exact⟨_,Mv,rfl⟩
 .simp only [u,Op.operands] at f;have f:x= .tmp Z\/x=yb:=by simpa using f
  rcases f with rfl | rfl
  .rw [M] at d;simp only [AV.ids,MI] at d;subst d;exact⟨_,Mv,rfl⟩
  .rw [m] at d;cases d
theorem wC{o:Oper}(h:tc P o=true):∃a,o.guard=none/\((∃t e n,o.op= .indexAddr t (.tmp a) n/\kU P t=some e/\P.cellsOf e=1)\/∃t,o.op= .load t (.tmp a)):=by
 unfold tc at h;split at h
 .rename_i t a n b d;split at h
  .rename_i e f;exact⟨a,b, .inl ⟨t,e,n,d,f,by simpa using h⟩⟩
  .cases h
 .rename_i t a b d;exact⟨a,b, .inr ⟨t,d⟩⟩
 .cases h
def mN(h h':Id->Option ad):Prop:= ∀m,h' m=h m\/(∃fz sz b xs d f a,h m=some (.sl fz sz b xs)/\h' m=some (.sl d sz f a)/\a.length=xs.length)\/
 (∃b sz col rsz g es e es',h m=some (.rows b sz col rsz g es)/\h' m=some (.rows b sz col rsz e es')/\es'.length=es.length)\/∃sz b xs,sz≠1/\h m=some (.sl false sz b xs)/\h' m=some .dead
theorem mN.index{t e:TypeId}{m:Id}{n:Int}{K:AV->Option (AV×aB)}{r:AV×aB}(H:mN s.h s'.h)(g:kU P t=some e)(f:P.cellsOf e=1):ij P s none t (.own m) n K=some r↔ij P s' none t (.own m) n K=some r:=by
 unfold ij;simp only [g];rcases H m with h | ⟨_,_,_,_,_,_,_,a,b,d⟩ | ⟨_,_,_,_,_,_,_,_,a,b,d⟩ | ⟨sz,_,_,h0,a,b⟩
 .rw [h]
 .rw [a,b];simp only [d]
 .rw [a,b];simp only [d]
 .rw [a,b];simp only [f,if_neg h0,reduceCtorEq]
theorem mN.load{t:TypeId}{m:Id}{off:Nat}{K:AV->Option (AV×aB)}{r:AV×aB}(H:mN s.h s'.h):fu P s none t (.ref m off) K=some r↔fu P s' none t (.ref m off) K=some r:=by
 unfold fu;rcases H m with h | ⟨_,_,_,_,_,_,_,a,b,d⟩ | ⟨_,_,_,_,_,_,_,_,a,b,d⟩ | ⟨sz,_,_,h0,a,b⟩
 .simp only [h]
 .simp only [a,b]
 .simp only [a,b]
 .simp only [a,b]
theorem mN.store{t:TypeId}{a v r:AV}{us:aB}(h:gX P s t a v (λu=>some (AV.top,u))=some (r,us))(d:ka us=true\/kb us=true):mN s.h (aJ s.h us):=by
 rcases d with d | d
 .obtain⟨i,sz,k,off,j,rsz,X,_,_,⟨_,_,g⟩,l,rfl,_,_,_,_,_,_,_,f,rfl,o⟩:=Bn h d;intro m;rw [cD,dc];by_cases b:m=i
  .subst b;exact .inr (.inr (.inl ⟨_,_,_,_,_,_,_,_,f,aA _ _ _,o⟩))
  .rw [au _ _ b];by_cases e:m=j
   .subst e;exact .inr (.inr (.inr ⟨_,_,_,l,g,aA _ _ _⟩))
   .rw [au _ _ e];exact .inl rfl
 .obtain⟨i,_,_,_,_,_,_,⟨_,p,q⟩,rfl⟩:=Bo h d;intro m;rw [dc];by_cases b:m=i
  .subst b;exact .inr (.inl ⟨_,_,_,_,_,_,_,p,aA _ _ _,q⟩)
  .rw [au _ _ b];exact .inl rfl
theorem Dq{a b:Oper}(hl:jn P An ops a b=true)(u:a∈ops)(B:b∈ops){s1 s2 q:St}{G:AV}{l:aB}{F:aB}(ea:cA P An Or none a s1=some (G,l))(o:iP P An ops a s1 l=true)(okb:iP P An ops b q F=true)
  (E:s2.h=aJ s1.h l) (g:∀x∈b.op.operands,s2.get none x=s1.get none x) (k:∀x∈b.op.operands,q.get none x=s1.get none x) (r:AV×aB):cA P An Or none b s1=some r↔cA P An Or none b s2=some r:=by
 have i:=Nj.1 o b B;have f:=Nj.1 okb a u;simp only [MB] at i f;replace i:=i.2.1;replace f:=f.2.2;rw [hl] at i f;simp only [Mz,M8,Nk] at i f;simp only [jn,MB,Nk] at hl;obtain⟨K,L,M,I,p⟩:∃t x y,a.guard=none/\a.op= .store t (.tmp x) y:=by rcases hl.1.2 with h | h <;> exact nB h
 have H:=mN.store (xN p ea) i;rw [<-E] at H;obtain⟨j,J,⟨tb,e,n,d,D,C⟩ | ⟨tb,d⟩⟩:=wC hl.2
 case inr=>
  simp only [qS,d] at f;rw [k (.tmp j) (by simp [d,Op.operands])] at f;split at f
  .rename_i m off hm;unfold cA gI;rw [d];dsimp only;rw [g (.tmp j) (by simp [d,Op.operands]),hm];exact H.load
  .cases f
 simp only [qS,d] at f;rw [k (.tmp j) (by simp [d,Op.operands])] at f;split at f
 .rename_i m hm;unfold cA gI;rw [d];dsimp only;rw [g (.tmp j) (by simp [d,Op.operands]),g n (by simp [d,Op.operands]),hm];unfold mh;cases(s1.get none n).t? with
  | none=>exact OK
  | some y=>
   simp only [Mw];cases gK.anyInt y with
   | none=>exact OK
   | some z=>change (ij P s1 none tb (AV.own m) z λv=>some (v,[]))=some r↔(ij P s2 none tb (AV.own m) z λv=>some (v,[]))=some r;exact H.index D C
 .cases f
theorem BA{a b:Oper}{s1 s2:St}{us:aB}{y:aB}(hl:gR P An ops a b=true)(o:a∈ops)(p:b∈ops)(m:iP P An ops a s1 us=true)(okb:iP P An ops b s2 y=true)(v:∀k,k∉fp ops.toList->(s1.t k).2= (s2.t k).2):
  ∀x∈b.op.operands,∀i∈(s2.get none x).ids,∀q∈us,q.1≠i:=by
 have f:=Nj.1 m b p;have d:=Nj.1 okb a o;simp only [MB] at f d;replace f:=f.1.1.1.2;replace d:=d.1.1.2;rw [hl] at f d;simp only [Mz,M8] at f d;rcases qG hl with⟨k,j,r⟩ | j
 .simp only [th,qH,j,MR,decide_eq_true_eq] at f d;intro x l i g q u e;have:=d x (Array.mem_toList_iff.2 l) i g;rw [<-v k r,<-e] at this;exact f q u this
 .simp only [qH,j,MR,Od] at d;intro x l i g;rw [d x (Array.mem_toList_iff.2 l)] at g;cases g
theorem xL{o:Oper}{us:aB}(v:∀k,k∉fp ops.toList->s'.t k=s.t k)(u:∀k,eY ops o=some k\/gT ops o=some none->∀x∈o.op.operands,s'.get none x=s.get none x)(B:o.guard=none->∀x∈o.op.operands,s'.get none x=s.get none x)(h:iP P An ops o s us=true):iP P An ops o s' us=true:=by
 refine Nj.2 λp hm=> ?_;have h0:=Nj.1 h p hm;simp only [MB] at h0⊢;obtain⟨⟨⟨⟨q,r⟩,m⟩,K,j⟩,F,f⟩:=h0;refine⟨⟨⟨⟨?_, ?_⟩, ?_⟩,K, ?_⟩,F, ?_⟩
 .cases g:iO An ops o p with
  | false=>rfl
  | true=>obtain⟨k,L,b,G,M,I,J⟩:=xK g;rw [g] at q;simp only [Mz,M8,xM,b,G,MB,MR] at q⊢;rw [v k I,v L J];refine⟨⟨λx i=> ?_,q.1.2⟩,q.2⟩;rw [u k (.inl b) x (Array.mem_toList_iff.1 i)];exact q.1.1 x i
 .cases g:gR P An ops o p with
  | false=>rfl
  | true=>
   rw [g] at r;simp only [Mz,M8] at r⊢;rcases qG g with⟨k,b,E⟩ | b
   .simp only [th,b] at r⊢;rw [v k E];exact r
   .simp only [th,b]
 .cases g:gR P An ops p o with
  | false=>rfl
  | true=>
   rw [g] at m;simp only [Mz,M8] at m⊢;rcases qG g with⟨k,b,E⟩ | b
   .simp only [qH,b,MR] at m⊢;rw [v k E];intro x i;rw [u k (.inl (J4 b)) x (Array.mem_toList_iff.1 i)];exact m x i
   .simp only [qH,b,MR] at m⊢;intro x i;rw [u 0 (.inr b) x (Array.mem_toList_iff.1 i)];exact m x i
 .cases C:jO P An ops p o with
  | false=>rfl
  | true=>
   rw [C] at j;simp only [Mz,M8,MB] at j⊢;refine⟨j.1, ?_⟩;have z:=j.2;simp only [jO,MB] at C;obtain⟨t,a,y,l,d⟩:=nB C.2;have b:eY ops o=some (pj ops a):=by simp [eY,l,d]
   simp only [uP,d] at z⊢;rw [u _ (.inl b) y (by simp [d,Op.operands])];exact z
 .cases D:jn P An ops p o with
  | false=>rfl
  | true=>
   rw [D] at f;simp only [Mz,M8] at f⊢;simp only [jn,MB] at D;obtain⟨a,l,⟨t,e,n,d,_,_⟩ | ⟨t,d⟩⟩:=wC D.2
   .simp only [qS,d] at f⊢;rw [B l (.tmp a) (by simp [d,Op.operands])];exact f
   .simp only [qS,d] at f⊢;rw [B l (.tmp a) (by simp [d,Op.operands])];exact f
theorem Bq:∀{l d:List AV},kv l d=true->∀{k:Nat} {v:AV},qy v=true->(l[k]? =some v↔d[k]? =some v)
 | [],[],_,_,_,_=>OK
 | [],_::_,h,_,_,_=>by cases h
 | _::_,[],h,_,_,_=>by cases h
 | c::r,c'::x,h,k,v,b=>by
  unfold kv at h;cases a:qz c c' with
  | none=>rw [a] at h;cases h
  | some q=>
  rw [a] at h;have tl:kv r x=true:=by
   cases q with
   | none=>exact h
   | some p=>simp only [MB] at h;exact h.2
  have g:∀p,q=some p->p.1=p.2:=λp e=>by subst e;simp only [MB,decide_eq_true_eq] at h;exact h.1
  have f:c=v↔c'=v:=by
   unfold qz at a;split at a
   .rename_i i o j p;by_cases e:i=j/\o=p
    .obtain⟨rfl,rfl⟩:=e;exact OK
    .simp [e] at a
   .cases a
   .cases a
   .rename_i m y u z;by_cases e:m=u
    .subst e;simp at a;have:=g _ a.symm;simp at this;subst this;exact OK
    .simp [e] at a
   .cases a
   .cases a
   .constructor
    .rintro rfl;unfold qy at b;split at b
     .simp_all
     .simp_all
     .cases b
    .rintro rfl;unfold qy at b;split at b
     .simp_all
     .simp_all
     .cases b
  cases k with
  | zero=>simpa using f
  | succ k=>simpa using Bq tl (k:=k) b
def lW(h h':Id->Option ad):Prop:= ∀m,h' m=h m\/(∃cs a,h m=some (.box cs)/\h' m=some (.box a)/\kv cs a=true)\/
 ((∀cs,h m≠some (.box cs))/\(∀cs,h' m≠some (.box cs))/\(∀cs,h m≠some (.cE cs))/\∀cs,h' m≠some (.cE cs))
theorem Bv{h h':Id->Option ad}:∀{us:aB},jb h h' us=true->∀p∈us,(∃cs d,h p.1=some (.box cs)/\h' p.1=some (.box d)/\kv cs d=true)\/
  ((∀cs,h p.1≠some (.box cs))/\(∀cs,h' p.1≠some (.box cs))/\(∀cs,h p.1≠some (.cE cs))/\∀cs,h' p.1≠some (.cE cs))
 | [],_,_,f=>by cases f
 | q::us,b,p,f=>by
  unfold jb at b;cases a:qA (h q.1) (h' q.1) with
  | none=>rw [a] at b;cases b
  | some r=>
  rw [a] at b;have tl:jb h h' us=true:=by
   cases r with
   | none=>exact b
   | some r=>simp only [MB] at b;exact b.2
  rcases MN.1 f with rfl | f
  .generalize g:h p.1=x at a;generalize i:h' p.1=y at a;unfold qA at a;split at a
   .rename_i cs d;cases a;simp only [MB] at b;exact .inl ⟨cs,d,rfl,rfl,b.1⟩
   .cases a
   .cases a
   .cases a
   .cases a
   .exact .inr ⟨λcs e=>by simp_all,λcs e=>by simp_all,λcs e=>by simp_all,λcs e=>by simp_all⟩
  .exact Bv tl p f
theorem lW.of{h:Id->Option ad}{us:aB}(d:jb h (aJ h us) us=true):lW h (aJ h us):=by
 intro m;by_cases e:∃p∈us,p.1=m
 .obtain⟨p,a,rfl⟩:=e;exact .inr (Bv d p a)
 .exact .inl (cR λp a b=>e ⟨p,a,b⟩)
theorem lW.load{t:TypeId}{m:Id}{off:Nat}{v:AV}{u:aB}(H:lW s.h s'.h)(b:qy v=true):
  fu P s none t (.ref m off) (λv=>some (v,([]:aB)))=some (v,u)↔fu P s' none t (.ref m off) (λv=>some (v,([]:aB)))=some (v,u):=by
 unfold fu;rcases H m with h | ⟨cs,B,i,j,o⟩ | ⟨p,q,r,z⟩
 .simp only [h]
 .simp only [i,j];cases bR P t with
  | false=>exact OK
  | true=>
   simp only [cond_true];unfold kB;cases bz P t with
   | true=>
    simp only [cond_true];have no:∀l:List AV,¬((kJ (P.cellsOf t) l).bind λl=>some (AV.agg l,([]:aB)))=some (v,u):=λl e=>by obtain⟨x,_,e⟩:=Mu.1 e;simp only [Mt,Ng] at e;rw [<-e.1] at b;cases b
    exact⟨λe=>absurd e (no _),λe=>absurd e (no _)⟩
   | false=>
    simp only [cond_false,List.head?_drop];have key:=Bq o (k:=off) b;constructor <;> intro e
    .obtain⟨x,d,e⟩:=Mu.1 e;simp only [Mt,Ng] at e;obtain⟨rfl,rfl⟩:=e;rw [key.1 d];rfl
    .obtain⟨x,d,e⟩:=Mu.1 e;simp only [Mt,Ng] at e;obtain⟨rfl,rfl⟩:=e;rw [key.2 d];rfl
 .have a:∀(s0:St),(∀cs,s0.h m≠some (.box cs))->(∀cs,s0.h m≠some (.cE cs))->fu P s0 none t (.ref m off) (λv=>some (v,([]:aB)))=none:=λs0 x y=>by
   unfold fu;cases bR P t with
   | false=>rfl
   | true=>
    dsimp only [cond_true];split
    .rename_i cs e;exact absurd e (x cs)
    .rename_i cs e;exact absurd e (y cs)
    .rfl
  have f:=a s p r;have g:=a s' q z;unfold fu at f g;rw [f,g]
theorem Bi{o:Oper}(h:mi o=true):o.guard=none/\((∃t x,o.op= .load t (.tmp x))\/∃t x n,o.op= .indexAddr t (.tmp x) n):=by
 unfold mi at h;split at h
 .rename_i t x a b;exact⟨a, .inl ⟨t,x,b⟩⟩
 .rename_i t x n a b;exact⟨a, .inr ⟨t,x,n,b⟩⟩
 .cases h
theorem Dr{b:Oper}(hl:mi b=true){s1 s2:St}(g:∀x∈b.op.operands,∀k,x= .tmp k->s2.t k=s1.t k)(f:oh b s1=true):cA P An Or none b s2=cA P An Or none b s1:=by
 have a:dF An b=false/\dC An b=false:=by obtain⟨_,⟨t,x,e⟩ | ⟨t,x,n,e⟩⟩:=Bi hl <;> simp [dF,dC,e]
 refine hY (s:=s1) (s':=s2) g (.inr (.inr (.inr ⟨a.1,a.2,λx a id d=> ?_⟩)));have:=MR.1 f x (Array.mem_toList_iff.2 a);rw [Od.1 this] at d;cases d
theorem Ds{b:Oper}(hl:mi b=true){s1 s2:St}(H:An.tm b.dst b.type=true\/(An.tn b.dst b.type=true/\lW s1.h s2.h))(i:∀x∈b.op.operands,∀k,x= .tmp k->s2.t k=s1.t k){v:AV}{u:aB}
  (a:mo An b s1 v=true):cA P An Or none b s1=some (v,u)↔cA P An Or none b s2=some (v,u):=by
 unfold mo at a;simp only [MB] at a;rcases H with h | ⟨j,H⟩
 .have d:=a.1;rw [h,hl] at d;simp only [Bool.and_self,Mz,M8] at d;rw [Dr hl i d]
 replace a:=a.2;rw [j,hl] at a;simp only [Bool.and_self,Mz,M8,Nk] at a;rcases a with d | f
 .rw [Dr hl i d]
 .split at f
  .rename_i t x g;simp only [MB] at f;obtain⟨e,l⟩:=f;unfold Bl at e;split at e
   .rename_i m off hm;have o:s2.get none x= .ref m off:=by rw [<-hm];exact lf (i x (by simp [g,Op.operands]))
    unfold cA gI;rw [g];dsimp only;rw [hm,o];exact lW.load H l
   .cases e
  .cases f
theorem wK{o:Oper}{v:AV}(b:∀x∈o.op.operands,s'.get none x=s.get none x)(h:mo An o s v=true):mo An o s' v=true:=by
 have d:oh o s'=oh o s:=by
  unfold oh;rw [Bool.eq_iff_iff,MR,MR];constructor
  .intro h x hm;rw [<-b x (Array.mem_toList_iff.1 hm)];exact h x hm
  .intro h x hm;rw [b x (Array.mem_toList_iff.1 hm)];exact h x hm
 unfold mo at h⊢;rw [d];simp only [MB] at h⊢;refine⟨h.1, ?_⟩;have a:=h.2;simp only [Nk] at a⊢;rcases a with a | a
 .exact .inl a
 .right;split at a
  .rename_i t x e;rw [b x (by simp [e,Op.operands])];exact a
  .cases a
theorem DL{h h':Id->Option ad}:∀{us:aB} {i:Id},(∃p∈us,p.1=i)\/h i=h' i->aJ h us i=aJ h' us i
 | [],i,e=>by
  rcases e with⟨p,a,_⟩ | e
  .cases a
  .exact e
 | q::us,i,e=>by
  obtain⟨j,b⟩:=q;rw [cD,cD];refine DL ?_;by_cases d:i=j
  .right;subst d;rw [aA,aA]
  .rcases e with⟨p,a,rfl⟩ | e
   .rcases MN.1 a with rfl | a
    .exact absurd rfl d
    .exact .inl ⟨p,a,rfl⟩
   .right;rw [au _ _ d,au _ _ d];exact e
theorem Bu{h h' g a:Id->Option ad}:∀{us:aB},(∀p∈us,h p.1=h' p.1/\g p.1=a p.1)->jb h g us=jb h' a us
 | [],_=>rfl
 | p::us,e=>by have d:=Bu (us:=us) λq b=>e q (Mx _ b);unfold jb;rw [(e p Mv).1,(e p Mv).2,d]
theorem Bp{o:Oper}{h h':Id->Option ad}{us:aB}(e:∀p∈us,h p.1=h' p.1):im An true o h us=im An true o h' us:=by unfold im;rw [Bu λp a=>⟨e p a,DL (.inl ⟨p,a,rfl⟩)⟩]
theorem swap{listed:Array Bool}{i j:Nat}{l u:Oper}(hu:od ops)(hgk:oV ops=true)(Z:ops[i]? =some l)(hj:ops[j]? =some u)(hne:j≠i)(hri:i∈Region.ready .any ops listed)(hrj:j∈Region.ready .any ops listed)
  (hcl:nT ops listed) (hap:l.apart ops u=true) (hcm0':ov P An l u=true\/pH P An ops l u=true) (hG:nX ops listed s) (K:dU P An Or true nt ops l s=some s1) (L:dU P An Or true nt ops u s1=some s2):
  ∃sj,dU P An Or true nt ops u s=some sj/\dU P An Or true nt ops l sj=some s2:=by
 obtain⟨I,vi,C,wi,rfl⟩:=wZ K;obtain⟨G,vj,B,wj,rfl⟩:=wZ L;obtain⟨hli,oi',hi',hai⟩:=mem_ready.1 hri;rw [Z] at hi';simp only [Mt] at hi';subst hi';obtain⟨hlj,oj',hj',haj⟩:=mem_ready.1 hrj;rw [hj] at hj';simp only [Mt] at hj';subst hj';obtain⟨a1,a2,a3⟩:=Oper.apart_spec hap;have behind:∀(o:Oper) (m:Nat),listed.getD m true=false->(∀e∈o.after,Region.binds .any e=true->listed.getD e.on false=true)->∀e∈o.after,Region.binds .any e=true->¬(e.on=m\/fM ops 12 e.on m=true):=by
  intro o m hlm hall e he hb h;rcases h with h | h
  .exact rF hlm (h▸hall e he hb)
  .have hl:=hall e he hb;cases hk:ops[e.on]? with
   | none=>simp [fM,hk] at h
   | some ok=>rw [uS hcl hlm hk (hcl e.on ok hk hl)] at h;cases h
 have noti:=behind u i hli haj;have notj:=behind l j hlj hai;have wiok:=wi.ok;have wjok:=wj.ok;simp only [lC,Mz,M8,MB] at wiok wjok;obtain⟨⟨⟨i1,i2⟩,i3⟩,⟨⟨⟨⟨⟨⟨i4,i5⟩,i6⟩,i7⟩,i8⟩,i9⟩,i10⟩,i11⟩:=wiok;obtain⟨⟨⟨j1,j2⟩,j3⟩,⟨⟨⟨⟨⟨⟨j4,j5⟩,j6⟩,j7⟩,j8⟩,j9⟩,j10⟩,j11⟩:=wjok;have pli:=xh (g:=I) (v:=vi) (us:=C) hu Z hli hG (df ops l.dst);have tj:∀k,k∈u.looksAt ops->(s.put (df ops l.dst) l.dst I vi C).t k=s.t k:=by intro k hk;rw [pli];exact nM (b:=false) λe=>a1 k e hk
 have ti:∀(g:Option Gs) (v:AV) (us:aB) k,k∈l.looksAt ops->(s.put false u.dst g v us).t k=s.t k:=λg v us k hk=>nM (b:=false) λe=>a3 k e hk;have gj':cL ops u s some=some G:=by rw [<-wj.guard];exact(Bd λx b d J U=>tj d (BH J U)).symm
 have getj:∀x∈u.op.operands,(s.put (df ops l.dst) l.dst I vi C).get G x=s.get G x:=λx z=>lf λk e=>tj k (ef (e▸z));have nj:mu ops G u s=true:=by rw [<-j4];exact(BU getj).symm
 have a2':∀d,u.dst=some d->l.dst≠some d:=λd h h'=>a2 d h' h;have guardA:∀(o:Oper) (g:Option Gs) (s0:St) (k:Nat),eY ops o=some k->cL ops o s0 some=some g->g=none/\dF An o=false/\dC An o=false:=by
  intro o g s0 k h M;unfold eY at h;split at h
  .rename_i J U;unfold cL at M;rw [J] at M;simp only [Mt] at M;exact⟨M.symm,by simp [dF,U],by simp [dC,U]⟩
  .rename_i J U;unfold cL at M;rw [J] at M;simp only [Mt] at M;exact⟨M.symm,by simp [dF,U],by simp [dC,U]⟩
  .cases h
 have al_w:∀o:Oper,gP o=true->aH P An o=false:=by intro o h;cases hop:o.op <;> simp only [gP,hop,MZ] at h <;> simp [aH,hop]
 have w_r:∀o:Oper,aH P An o=false->dF An o=false:=by
  intro o h;cases hr:dF An o with
  | false=>rfl
  | true=>
   exfalso;cases hop:o.op <;> simp only [dF,hop,MZ] at hr;rename_i cl;cases hcal:cl.callee <;> simp only [hcal,MZ] at hr;rename_i fo;simp only [aH,hop,hcal] at h;cases fo with
   | func f=>
    dsimp only at h hr;cases hb:An.gf f with
    | none=>rw [hb] at hr;simp at hr
    | some x=>rw [hb] at h;simp at h
   | _=>dsimp only at h hr;rw [h] at hr;cases hr
 have notmine:∀(o:Oper) (us:aB) (m:Nat) (om:Oper),ops[m]? =some om->(∀e∈o.after,Region.binds .any e=true->¬(e.on=m\/fM ops 12 e.on m=true))->pR ops o us=true->(∀d,om.dst=some d->o.dst≠some d)->∀q∈us,∀d k,om.dst=some d->q.1≠ .s d k:=by
  intro o us m om hm hnot hok hdst q D d k hd e;have J:=MR.1 hok q D;rw [e] at J;simp only [Nk] at J;rcases J with J | J
  .unfold ot at J;have h3:=MR.1 J m (Pk.2 (OR.1 hm).1);rw [hm] at h3;simp only [hd,BEq.rfl,Mz,M8] at h3;obtain⟨e',he,hb⟩:=OF.1 h3;simp only [MB,Nk,beq_iff_eq] at hb;exact hnot e' he hb.1 hb.2
  .exact hdst d hd (by simpa using J)
 have ltd:∀(o:Oper),(match o.dst with | some d=>decide (d < nt) | none=>true)=true->Nat.ble nt 1000000=true->∀d,o.dst=some d->d < 1000000:=by intro o J U d hd;rw [hd] at J;simp only [decide_eq_true_eq] at J;exact Nx J (Nat.le_of_ble_eq_true U)
 have guardB:∀(o:Oper) (g:Option Gs) (s0:St) (k:Nat),(eY ops o=some k\/gT ops o=some none)->cL ops o s0 some=some g->g=none:=by
  intro o g s0 k h M;rcases h with h | h
  .exact(guardA o g s0 k h M).1
  .have J:=J3 h;unfold cL at M;rw [J] at M;simp only [Mt] at M;exact M.symm
 have three:cA P An Or G u s=some (vj,B)/\cA P An Or I l (s.put false u.dst G vj B)=some (vi,C)/\(∀p∈C,∀q∈B,p.1≠q.1):=by
  rcases hcm0' with hcm | hst
  .skip
   have hcm0:=hcm;unfold ov at hcm0;simp only [MB] at hcm0;obtain⟨⟨hcm1,hcd1⟩,hcd2⟩:=hcm0;have hcm':(aH P An l=false\/dZ P u=true\/gP u=true)/\(aH P An u=false\/dZ P l=true\/gP l=true):=by simp only [Np,N9,Bool.and_eq_false_iff,Ol,Nk] at hcm1;exact hcm1
   have hdi:dC An l=false\/B= []:=by
    simp only [Nk,Np] at hcd1;rcases hcd1 with h | h
    .exact .inl h
    .right;simpa [h] using j7
   have hdj:dC An u=false\/C= []:=by
    simp only [Nk,Np] at hcd2;rcases hcd2 with h | h
    .exact .inl h
    .right;simpa [h] using i7
   have purei:dZ P l=true->C= []:=λh=>by simpa [h] using i6
   have purej:dZ P u=true->B= []:=λh=>by simpa [h] using j6
   have opj:cA P An Or G u s=some (vj,B):=by
    have old:dZ P u=true\/gP u=true\/aJ s.h C=s.h\/(dF An u=false/\dC An u=false/\∀x∈u.op.operands,∀id∈(s.get G x).ids,aJ s.h C id=s.h id)->cA P An Or G u s=some (vj,B):=by intro h;rw [<-wj.op];exact(hY (s:=s) (s':=s.put (df ops l.dst) l.dst I vi C) (λx z k e=>tj k (ef (e▸z))) h).symm
    rcases hcm'.1 with hw | F | F
    case inr.inl=>exact old (.inl F)
    case inr.inr=>exact old (.inr (.inl F))
    have Q:je l C=true:=by simpa [hw] using i5
    have direct:∀x∈u.op.operands,∀id∈(s.get G x).ids,∀q∈C,q.1≠id:=by intro x z id E q D e;obtain⟨d,k,K,L⟩:=eU Q ⟨q,D,e⟩;subst K;obtain⟨ed,he,hb,ho⟩:=tB nj z E Z L;exact noti ed he hb ho
    rcases hdj with hdj | hdj
    case inr=>exact old (.inr (.inr (.inl (by rw [hdj];rfl))))
    rcases hcm'.2 with hwj | hpi | hai'
    .exact old (.inr (.inr (.inr ⟨w_r u hwj,hdj,λx z id E=>cR λq D e=>direct x z id E q D e⟩)))
    .exact old (.inr (.inr (.inl (by rw [purei hpi];rfl))))
    .cases hwj:aH P An u with
     | false=>exact old (.inr (.inr (.inr ⟨w_r u hwj,hdj,λx z id E=>cR λq D e=>direct x z id E q D e⟩)))
     | true=>
      have hus:pR ops u B=true:=by simpa [hwj] using j8
      refine r9 (s:=s.put (df ops l.dst) l.dst I vi C) (s':=s) (N:=λi=>∃q∈C,q.1=i) (λx z k e=>(tj k (ef (e▸z))).symm) (λi Z=> ?_) hdj (λx z id E=> ?_) (λk=> ?_) (λp F=> ?_) wj.op
      .exact(cR λq D e=>Z ⟨q,D,e⟩).symm
      .rw [getj x z] at E;rintro⟨q,D,e⟩;exact direct x z id E q D e
      .rintro⟨q,D,e⟩;obtain⟨d,k',K,L⟩:=eU Q ⟨q,D,e⟩;simp only [Id.s.injEq] at K;have h:=ltd l i1 i9 d L;rw [<-K.1] at h;exact absurd h (PA.2 (Nl (by decide) (OP 2000000 _)))
      .rintro⟨q,D,e⟩;obtain⟨d,k',K,L⟩:=eU Q ⟨q,D,rfl⟩;exact notmine u B i l Z noti hus a2 p F d k' L (by rw [<-e,K])
   have opi:cA P An Or I l (s.put false u.dst G vj B)=some (vi,C):=by
    have old:dZ P l=true\/gP l=true\/aJ s.h B=s.h\/(dF An l=false/\dC An l=false/\∀x∈l.op.operands,∀id∈(s.get I x).ids,aJ s.h B id=s.h id)->cA P An Or I l (s.put false u.dst G vj B)=some (vi,C):=by intro h;rw [<-wi.op];exact hY (λx z k e=>ti _ _ _ k (ef (e▸z))) h
    rcases hcm'.2 with hw | F | F
    case inr.inl=>exact old (.inl F)
    case inr.inr=>exact old (.inr (.inl F))
    have Q:je u B=true:=by simpa [hw] using j5
    have direct:∀x∈l.op.operands,∀id∈(s.get I x).ids,∀q∈B,q.1≠id:=by intro x z id E q D e;obtain⟨d,k,K,L⟩:=eU Q ⟨q,D,e⟩;subst K;obtain⟨ed,he,hb,ho⟩:=tB i4 z E hj L;exact notj ed he hb ho
    rcases hdi with hdi | hdi
    case inr=>exact old (.inr (.inr (.inl (by rw [hdi];rfl))))
    rcases hcm'.1 with hwi | hpj | haj'
    .exact old (.inr (.inr (.inr ⟨w_r l hwi,hdi,λx z id E=>cR λq D e=>direct x z id E q D e⟩)))
    .exact old (.inr (.inr (.inl (by rw [purej hpj];rfl))))
    .cases hwi:aH P An l with
     | false=>exact old (.inr (.inr (.inr ⟨w_r l hwi,hdi,λx z id E=>cR λq D e=>direct x z id E q D e⟩)))
     | true=>
      have hus:pR ops l C=true:=by simpa [hwi] using i8
      refine r9 (s:=s) (s':=s.put false u.dst G vj B) (N:=λi=>∃q∈B,q.1=i) (λx z k e=>ti _ _ _ k (ef (e▸z))) (λi Z=> ?_) hdi (λx z id E=> ?_) (λk=> ?_) (λp F=> ?_) wi.op
      .exact cR λq D e=>Z ⟨q,D,e⟩
      .rintro⟨q,D,e⟩;exact direct x z id E q D e
      .rintro⟨q,D,e⟩;obtain⟨d,k',K,L⟩:=eU Q ⟨q,D,e⟩;simp only [Id.s.injEq] at K;have h:=ltd u j1 j9 d L;rw [<-K.1] at h;exact absurd h (PA.2 (Nl (by decide) (OP 2000000 _)))
      .rintro⟨q,D,e⟩;obtain⟨d,k',K,L⟩:=eU Q ⟨q,D,rfl⟩;exact notmine l C j u hj notj hus a2' p F d k' L (by rw [<-e,K])
   have disj:∀p∈C,∀q∈B,p.1≠q.1:=by
    intro p F q D e;rcases hcm'.1 with hw | hpj | haj'
    .rcases hcm'.2 with hw' | hpi | hai'
     .obtain⟨d,k,K,L⟩:=eU (by simpa [hw] using i5:je l C=true) ⟨p,F,rfl⟩;obtain⟨d',k',e3,e4⟩:=eU (by simpa [hw'] using j5:je u B=true) ⟨q,D,rfl⟩;rw [K,e3] at e;simp only [Id.s.injEq] at e;obtain⟨rfl,_⟩:=e;exact a2 d L e4
     .rw [purei hpi] at F;cases F
     .obtain⟨d,k,K,L⟩:=eU (by simpa [hw] using i5:je l C=true) ⟨p,F,rfl⟩;cases hwj:aH P An u with
      | false=>obtain⟨d',k',e3,e4⟩:=eU (by simpa [hwj] using j5:je u B=true) ⟨q,D,rfl⟩;rw [K,e3] at e;simp only [Id.s.injEq] at e;obtain⟨rfl,_⟩:=e;exact a2 d L e4
      | true=>exact notmine u B i l Z noti (by simpa [hwj] using j8) a2 q D d k L (by rw [<-e,K])
    .rw [purej hpj] at D;cases D
    .obtain⟨d,k,K,L⟩:=eU (by simpa [al_w u haj'] using j5:je u B=true) ⟨q,D,rfl⟩;cases hwi:aH P An l with
     | false=>obtain⟨d',k',e3,e4⟩:=eU (by simpa [hwi] using i5:je l C=true) ⟨p,F,rfl⟩;rw [K,e3] at e;simp only [Id.s.injEq] at e;obtain⟨rfl,_⟩:=e;exact a2 d' e4 L
     | true=>exact notmine l C j u hj notj (by simpa [hwi] using i8) a2' p F d k L (by rw [e,K])
   exact⟨opj,opi,disj⟩
  .have hst3:((((iO An ops l u=true\/gR P An ops l u=true)\/gR P An ops u l=true)\/(jO P An ops l u=true\/jO P An ops u l=true))\/(jn P An ops l u=true\/jn P An ops u l=true))\/(pJ An l u=true\/pJ An u l=true):=by
    unfold pH at hst;simpa only [Nk] using hst
   rcases hst3 with hst2 | hst6
   case inr=>
    have lq:∀o,mi o=true->o.guard=none/\lF P An o=true/\dZ P o=false:=λo h=>by
     obtain⟨J,⟨t,x,U⟩ | ⟨t,x,n,U⟩⟩:=Bi h
     .exact⟨J,by simp [lF,U],by simp [dZ,U]⟩
     .exact⟨J,by simp [lF,U],by simp [dZ,U]⟩
    have gn:∀(o:Oper) (g:Option Gs) (s0:St),o.guard=none->cL ops o s0 some=some g->g=none:=by intro o g s0 J M;unfold cL at M;rw [J] at M;simp only [Mt] at M;exact M.symm
    have kp:∀(o:Oper) (h0:Id->Option ad) (us:aB),An.ou o.dst o.type=true->im An true o h0 us=true->lW h0 (aJ h0 us):=λo h0 us J U=>by unfold im at U;rw [J] at U;exact lW.of (by simpa using U)
    rcases hst6 with h6 | h6
    .simp only [pJ,MB] at h6;obtain⟨hlx,hil⟩:=h6;simp only [Nk,MB] at hlx;obtain⟨gdj,qj,_⟩:=lq u hil;have gnj:=gn u G s gdj gj';have uj:B= []:=by simpa [qj] using j7
     have ejop:=wj.op;rw [gnj] at ejop;refine⟨?_, ?_,λp F q D=>by rw [uj] at D;cases D⟩
     .rw [gnj];refine(Ds hil (hlx.symm.imp id λh=>⟨h.2,kp l s.h C h.1 wi.dx⟩) (λx z k e=> ?_) ?_).2 ejop
      .exact tj k (ef (e▸z))
      .refine wK (λx z=> ?_) j11;have h:=getj x z;rw [gnj] at h;exact h.symm
     .rw [<-wi.op];exact hY (λx z k e=>ti _ _ _ k (ef (e▸z))) (.inr (.inr (.inl (by rw [uj];rfl))))
    .simp only [pJ,MB] at h6;obtain⟨hlx,hil⟩:=h6;simp only [Nk,MB] at hlx;obtain⟨gdi,qi,_⟩:=lq l hil;have gni:=gn l I s gdi wi.guard;have ui:C= []:=by simpa [qi] using i7
     have eiop:=wi.op;rw [gni] at eiop;have opj:cA P An Or G u s=some (vj,B):=by rw [<-wj.op];exact(hY (s:=s) (s':=s.put (df ops l.dst) l.dst I vi C) (λx z k e=>tj k (ef (e▸z))) (.inr (.inr (.inl (by rw [ui];rfl))))).symm
     refine⟨opj, ?_,λp F=>by rw [ui] at F;cases F⟩;rw [gni];have hk:im An true u s.h B=true:=by have:=wj.dx;rw [ui] at this;exact this
     exact(Ds hil (hlx.symm.imp id λh=>⟨h.2,kp u s.h B h.1 hk⟩) (λx z k e=>ti _ _ _ k (ef (e▸z))) i11).1 eiop
   rcases hst2 with hst1 | hst5
   case inr=>
    have ixq:∀o,tc P o=true->o.guard=none/\lF P An o=true/\dZ P o=false:=λo h=>by
     obtain⟨a,J,⟨t,e,n,U,_⟩ | ⟨t,U⟩⟩:=wC h
     .exact⟨J,by simp [lF,U],by simp [dZ,U]⟩
     .exact⟨J,by simp [lF,U],by simp [dZ,U]⟩
    have gn:∀(o:Oper) (g:Option Gs) (s0:St),o.guard=none->cL ops o s0 some=some g->g=none:=by intro o g s0 J M;unfold cL at M;rw [J] at M;simp only [Mt] at M;exact M.symm
    have stg:∀o,(il P o true=true\/il P o false=true)->o.guard=none/\dF An o=false/\dC An o=false:=λo h=>by
     obtain⟨t,a,y,J,U⟩:∃t a y,o.guard=none/\o.op= .store t (.tmp a) y:=by rcases h with h | h <;> exact nB h
     exact⟨J,by simp [dF,U],by simp [dC,U]⟩
    rcases hst5 with h5 | h5
    .have h5':=h5;simp only [jn,MB,Nk] at h5';obtain⟨gdi,ri,di⟩:=stg l h5'.1.2;obtain⟨gdj,qj,_⟩:=ixq u h5'.2;have gni:=gn l I s gdi wi.guard;have gnj:=gn u G s gdj gj';have uj:B= []:=by simpa [qj] using j7
     have eiop:=wi.op;have ejop:=wj.op;rw [gni] at eiop;rw [gnj] at ejop;have hget:∀x∈u.op.operands,(s.put (df ops l.dst) l.dst I vi C).get none x=s.get none x:=λx z=>by have:=getj x z;rwa [gnj] at this
     refine⟨?_, ?_,λp F q D=>by rw [uj] at D;cases D⟩
     .rw [gnj];exact(Dq h5 (M3 Z) (M3 hj) eiop i10 j10 rfl hget hget _).2 ejop
     .rw [<-wi.op];exact hY (λx z k e=>ti _ _ _ k (ef (e▸z))) (.inr (.inr (.inl (by rw [uj];rfl))))
    .have h5':=h5;simp only [jn,MB,Nk] at h5';obtain⟨gdj,rj,dj⟩:=stg u h5'.1.2;obtain⟨gdi,qi,_⟩:=ixq l h5'.2;have gni:=gn l I s gdi wi.guard;have gnj:=gn u G s gdj gj';have ui:C= []:=by simpa [qi] using i7
     have eiop:=wi.op;rw [gni] at eiop;have opj:cA P An Or G u s=some (vj,B):=by rw [<-wj.op];exact(hY (s:=s) (s':=s.put (df ops l.dst) l.dst I vi C) (λx z k e=>tj k (ef (e▸z))) (.inr (.inr (.inl (by rw [ui];rfl))))).symm
     have geti:∀x∈l.op.operands,(s.put false u.dst G vj B).get none x=s.get none x:=λx z=>lf λk e=>ti _ _ _ k (ef (e▸z));have okj:iP P An ops u s B=true:=by
      refine xL (λk hk=> ?_) (λk hk x z=> ?_) (λM x z=> ?_) j10
      .rw [pli];exact(nM (b:=false) λe=>hk (nf e ops.toList (Array.mem_toList_iff.2 (M3 Z)))).symm
      .have h:=getj x z;rw [gnj] at h;exact h.symm
      .have h:=getj x z;rw [gnj] at h;exact h.symm
     refine⟨opj, ?_,λp F=>by rw [ui] at F;cases F⟩;rw [gni];rw [gnj] at opj;exact(Dq h5 (M3 hj) (M3 Z) opj okj i10 rfl geti (λ_ _=>rfl) _).1 eiop
   have hst1:=hst1;rcases hst1 with hst0 | hst4
   case inr=>
    have both:∀o,(il P o true=true\/il P o false=true)->∃t a y,o.guard=none/\o.op= .store t (.tmp a) y:=λo h=>by
     rcases h with h | h
     .exact nB h
     .exact nB h
    have si:(il P l true=true\/il P l false=true)/\(il P u true=true\/il P u false=true):=by
     rcases hst4 with h | h <;> simp only [jO,MB] at h
     .exact⟨.inl h.1.2, .inr h.2⟩
     .exact⟨.inr h.2, .inl h.1.2⟩
    obtain⟨ti',xi,yi,gdi,opi'⟩:=both l si.1;obtain⟨tj',xj,yj,gdj,opj'⟩:=both u si.2;have hki:eY ops l=some (pj ops xi):=by simp [eY,gdi,opi']
    have hkj:eY ops u=some (pj ops xj):=by simp [eY,gdj,opj']
    obtain⟨gni,ri,di⟩:=guardA l I s _ hki wi.guard;obtain⟨gnj,rj,dj⟩:=guardA u G s _ hkj gj';have eiop:=wi.op;have ejop:=wj.op;rw [gni] at eiop;rw [gnj] at ejop;have hres:(∀p∈C,∀q∈B,p.1≠q.1)/\(∀x∈l.op.operands,∀i∈(s.get none x).ids,∃p∈C,p.1=i)/\(∀x∈u.op.operands,∀i∈((s.put (df ops l.dst) l.dst I vi C).get none x).ids,∃p∈B,p.1=i):=by
     rcases hst4 with h | h
     .exact Dp h (M3 Z) (M3 hj) eiop ejop i10 j10 (.inl rfl)
     .obtain⟨r1,r2,r3⟩:=Dp h (M3 hj) (M3 Z) ejop eiop j10 i10 (.inr rfl);exact⟨λp F q D e=>r1 q D p F e.symm,r3,r2⟩
    obtain⟨d1,d2,d3⟩:=hres;refine⟨?_, ?_,d1⟩
    .rw [<-wj.op];refine(hY (s:=s) (s':=s.put (df ops l.dst) l.dst I vi C) (λx z k e=>tj k (ef (e▸z))) (.inr (.inr (.inr ⟨rj,dj,λx z id E=> ?_⟩)))).symm;refine cR λq D e=> ?_;rw [<-getj x z,gnj] at E;obtain⟨p,F,L⟩:=d3 x z id E;exact d1 q D p F (e.trans L.symm)
    .rw [<-wi.op];refine hY (λx z k e=>ti _ _ _ k (ef (e▸z))) (.inr (.inr (.inr ⟨ri,di,λx z id E=> ?_⟩)));refine cR λq D e=> ?_;rw [gni] at E;obtain⟨p,F,L⟩:=d2 x z id E;exact d1 p F q D (L.trans e.symm)
   have tk:∀k,k∉fp ops.toList->(s.put (df ops l.dst) l.dst I vi C).t k=s.t k:=λk dk=>by rw [pli];exact nM (b:=false) λe=>dk (nf e ops.toList (Array.mem_toList_iff.2 (M3 Z)))
   have gnone:∀(o:Oper) (g:Option Gs) (s0:St),o.guard=none->cL ops o s0 some=some g->g=none:=by intro o g s0 J M;unfold cL at M;rw [J] at M;simp only [Mt] at M;exact M.symm
   rcases hst0 with(hst | hld) | hld
   rotate_left
   ·
    obtain⟨ga,wa,ra,da⟩:=By hld;obtain⟨rb',hrb'⟩:∃r,gT ops u=some r:=by rcases qG hld with⟨k,hk,_⟩ | hk <;> exact⟨_,hk⟩
    obtain⟨gb,wb,rb,db⟩:=Cy (P:=P) (An:=An) (Bz hld) hrb';have gni:=gnone l I s ga wi.guard;have gnj:=gnone u G s gb gj';have Q:je u B=true:=by simpa [wb] using j5
    have hus:pR ops l C=true:=by simpa [wa] using i8
    have hap2:=BA hld (M3 Z) (M3 hj) i10 j10 (λk hk=>by rw [tk k hk]);refine⟨?_, ?_, ?_⟩
    .rw [<-wj.op];refine(hY (s:=s) (s':=s.put (df ops l.dst) l.dst I vi C) (λx z k e=>tj k (ef (e▸z))) (.inr (.inr (.inr ⟨rb,db,λx z id E=> ?_⟩)))).symm;refine cR λq D e=> ?_;rw [<-getj x z,gnj] at E;exact hap2 x z id E q D e
    .refine r9 (s:=s) (s':=s.put false u.dst G vj B) (N:=λi=>∃q∈B,q.1=i) (λx z k e=>ti _ _ _ k (ef (e▸z))) (λi Z=> ?_) da (λx z id E=> ?_) (λk=> ?_) (λp F=> ?_) wi.op
     .exact cR λq D e=>Z ⟨q,D,e⟩
     .rintro⟨q,D,e⟩;obtain⟨d,k,K,L⟩:=eU Q ⟨q,D,e⟩;subst K;obtain⟨ed,he,hb,ho⟩:=tB i4 z E hj L;exact notj ed he hb ho
     .rintro⟨q,D,e⟩;obtain⟨d,k',K,L⟩:=eU Q ⟨q,D,e⟩;simp only [Id.s.injEq] at K;have h:=ltd u j1 j9 d L;rw [<-K.1] at h;exact absurd h (PA.2 (Nl (by decide) (OP 2000000 _)))
     .rintro⟨q,D,e⟩;obtain⟨d,k',K,L⟩:=eU Q ⟨q,D,rfl⟩;exact notmine l C j u hj notj hus a2' p F d k' L (by rw [<-e,K])
    .intro p F q D e;obtain⟨d,k,K,L⟩:=eU Q ⟨q,D,rfl⟩;exact notmine l C j u hj notj hus a2' p F d k L (by rw [e,K])
   ·
    obtain⟨ga,wa,ra,da⟩:=By hld;obtain⟨rb',hrb'⟩:∃r,gT ops l=some r:=by rcases qG hld with⟨k,hk,_⟩ | hk <;> exact⟨_,hk⟩
    obtain⟨gb,wb,rb,db⟩:=Cy (P:=P) (An:=An) (Bz hld) hrb';have gni:=gnone l I s gb wi.guard;have gnj:=gnone u G s ga gj';have Q:je l C=true:=by simpa [wb] using i5
    have hus:pR ops u B=true:=by simpa [wa] using j8
    have hap2:=BA hld (M3 hj) (M3 Z) j10 i10 (λk hk=>by rw [tk k hk]);refine⟨?_, ?_, ?_⟩
    .refine r9 (s:=s.put (df ops l.dst) l.dst I vi C) (s':=s) (N:=λi=>∃q∈C,q.1=i) (λx z k e=>(tj k (ef (e▸z))).symm) (λi Z=> ?_) da (λx z id E=> ?_) (λk=> ?_) (λp F=> ?_) wj.op
     .exact(cR λq D e=>Z ⟨q,D,e⟩).symm
     .rw [getj x z] at E;rintro⟨q,D,e⟩;obtain⟨d,k,K,L⟩:=eU Q ⟨q,D,e⟩;subst K;obtain⟨ed,he,hb,ho⟩:=tB nj z E Z L;exact noti ed he hb ho
     .rintro⟨q,D,e⟩;obtain⟨d,k',K,L⟩:=eU Q ⟨q,D,e⟩;simp only [Id.s.injEq] at K;have h:=ltd l i1 i9 d L;rw [<-K.1] at h;exact absurd h (PA.2 (Nl (by decide) (OP 2000000 _)))
     .rintro⟨q,D,e⟩;obtain⟨d,k',K,L⟩:=eU Q ⟨q,D,rfl⟩;exact notmine u B i l Z noti hus a2 p F d k' L (by rw [<-e,K])
    .rw [<-wi.op];refine hY (λx z k e=>ti _ _ _ k (ef (e▸z))) (.inr (.inr (.inr ⟨rb,db,λx z id E=> ?_⟩)));refine cR λq D e=> ?_;rw [gni] at E;exact hap2 x z id E q D e
    .intro p F q D e;obtain⟨d,k,K,L⟩:=eU Q ⟨p,F,rfl⟩;exact notmine u B i l Z noti hus a2 q D d k L (by rw [<-e,K])
   obtain⟨k,k',sk,sk',nek,dk,dk'⟩:=xK hst;obtain⟨gni,ri,di⟩:=guardA l I s k sk wi.guard;obtain⟨gnj,rj,dj⟩:=guardA u G s k' sk' gj';have hst':iO An ops u l=true:=LM hst;obtain⟨p1,p2,p3⟩:=Dt i10 (M3 hj) hst sk sk';obtain⟨q1,q2,q3⟩:=Dt j10 (M3 Z) hst' sk' sk;replace tk:=tk k dk;have tk':(s.put (df ops l.dst) l.dst I vi C).t k'=s.t k':=by rw [pli];exact nM (b:=false) λe=>dk' (nf e ops.toList (Array.mem_toList_iff.2 (M3 Z)))
   rw [tk] at q3;rw [tk'] at q2;refine⟨?_, ?_,λp F q D e=>q3 q D (e▸p2 p F)⟩
   .rw [<-wj.op];refine(hY (s:=s) (s':=s.put (df ops l.dst) l.dst I vi C) (λx z k e=>tj k (ef (e▸z))) (.inr (.inr (.inr ⟨rj,dj,λx z id E=> ?_⟩)))).symm;refine cR λq D e=> ?_;rw [<-getj x z,gnj] at E;have:=q1 x z id E;rw [tk'] at this;exact p3 q D (e▸this)
   .rw [<-wi.op];refine hY (λx z k e=>ti _ _ _ k (ef (e▸z))) (.inr (.inr (.inr ⟨ri,di,λx z id E=> ?_⟩)));refine cR λq D e=> ?_;rw [gni] at E;exact q3 q D (e▸p1 x z id E)
 obtain⟨opj,opi,disj⟩:=three;have sj10:iP P An ops u s B=true:=by
  refine xL (λk hk=> ?_) (λk hk x z=> ?_) (λM x z=> ?_) j10
  .rw [pli];exact(nM (b:=false) λe=>hk (nf e ops.toList (Array.mem_toList_iff.2 (M3 Z)))).symm
  .have:=guardB u G s k hk gj';have h:=getj x z;rw [this] at h;exact h.symm
  .have hgn:G=none:=by
    have h:=gj';unfold cL at h;rw [M] at h;simp only [Mt] at h;exact h.symm
   have h:=getj x z;rw [hgn] at h;exact h.symm
 have frj:gp (u.dst.getD 0) s.h B=true:=by
  unfold gp at j3⊢;refine MR.2 λp F=> ?_;have:=MR.1 j3 p F;split at this
  .simp only [Nk,Ox] at this⊢;rcases this with h | h
   .exact .inl h
   .exact .inr (uA h).2
  .rfl
  .cases this
 have lj11:mo An u s vj=true:=by refine wK (λx z=> ?_) j11;exact(lf λk e=>tj k (ef (e▸z))).symm
 have kj:im An true u s.h B=true:=by refine(Bp λp F=> ?_).trans wj.dx;show s.h p.1=aJ s.h C p.1;rw [cR λq D e=>disj q D p F e]
 have wj0:p5 P An Or nt ops u s G vj B:=⟨gj',opj,by
  simp only [lC,Mz,M8,MB];exact⟨⟨⟨j1,j2⟩,frj⟩,⟨⟨⟨⟨⟨⟨nj,j5⟩,j6⟩,j7⟩,j8⟩,j9⟩,sj10⟩,lj11⟩,kj⟩
 have plj:=xh (g:=G) (v:=vj) (us:=B) hu hj hlj hG (df ops u.dst);refine⟨_,wj0.dU, ?_⟩;rw [plj];have gi':cL ops l (s.put false u.dst G vj B) some=some I:=by rw [<-wi.guard];exact Bd λx b d J U=>ti _ _ _ d (BH J U)
 have geti:∀x∈l.op.operands,(s.put false u.dst G vj B).get I x=s.get I x:=λx z=>lf λk e=>ti _ _ _ k (ef (e▸z));have ni:mu ops I l (s.put false u.dst G vj B)=true:=by rw [<-i4];exact BU geti
 have fri:gp (l.dst.getD 0) (s.put false u.dst G vj B).h C=true:=by
  unfold gp at i3⊢;refine MR.2 λp F=> ?_;have:=MR.1 i3 p F;split at this
  .rename_i d k ep;simp only [Nk,Ox] at this⊢;rcases this with h | h
   .exact .inl h
   .right;show aJ s.h B p.1=none;rw [cR λq D e=>disj p F q D e.symm];exact h
  .rfl
  .cases this
 have si10:iP P An ops l (s.put false u.dst G vj B) C=true:=by
  refine xL (λk hk=> ?_) (λk hk x z=> ?_) (λM x z=> ?_) i10
  .exact nM (b:=false) λe=>hk (nf e ops.toList (Array.mem_toList_iff.2 (M3 hj)))
  .have:=guardB l I s k hk wi.guard;have h:=geti x z;rw [this] at h;exact h
  .have hgn:I=none:=by
    have h:=wi.guard;unfold cL at h;rw [M] at h;simp only [Mt] at h;exact h.symm
   have h:=geti x z;rw [hgn] at h;exact h
 have li11:mo An l (s.put false u.dst G vj B) vi=true:=by refine wK (λx z=> ?_) i11;exact lf λk e=>ti _ _ _ k (ef (e▸z))
 have ki:im An true l (s.put false u.dst G vj B).h C=true:=by refine(Bp λp F=> ?_).trans wi.dx;show aJ s.h B p.1=s.h p.1;rw [cR λq D e=>disj p F q D e.symm]
 have wi0:p5 P An Or nt ops l (s.put false u.dst G vj B) I vi C:=⟨gi',opi,by
  simp only [lC,Mz,M8,MB];exact⟨⟨⟨i1,i2⟩,fri⟩,⟨⟨⟨⟨⟨⟨ni,i5⟩,i6⟩,i7⟩,i8⟩,i9⟩,si10⟩,li11⟩,ki⟩
 rw [wi0.dU,pli];have dij:∀d,l.dst=some d->u.dst≠some d:=a2;have dr:∀(g:Option Gs) (o:Oper) (m:Nat) (om:Oper),ops[m]? =some om->listed.getD m true=false->cL ops o s some=some g->o∈ops->(∀e∈o.after,Region.binds .any e=true->listed.getD e.on false=true)->∀gs,g=some gs->om.dst≠some gs.d:=by
  intro g o m om hom hlm V hmem hall gs hgs hd;unfold cL at V;cases hog:o.guard with
  | none=>rw [hog] at V;simp only [Mt] at V;rw [hgs] at V;cases V
  | some p=>
   obtain⟨jj,b⟩:=p;rw [hog] at V;simp only at V;cases hdd:(ops[jj]?).bind (·.dst) with
   | none=>rw [hdd] at V;simp at V
   | some d=>
    rw [hdd] at V;simp only at V;replace V:=Mu.1 V;obtain⟨x,_,V⟩:=V;obtain⟨bb,V,_⟩:=ny V;simp only [Mt] at V;rw [hgs] at V;simp only [Mt] at V;have hgd:gs.d=d:=by rw [<-V]
    rw [hgd] at hd;obtain⟨ojj,J,U⟩:=Mu.1 hdd;have:=hu hom J hd U;subst this;have hge:=Nj.1 hgk o hmem;rw [hog] at hge;simp only at hge;obtain⟨e,he,hb⟩:=OF.1 hge;simp only [MB,beq_iff_eq] at hb;exact rF hlm (hb.2▸hall e he hb.1)
 have nogi:=dr I l j u hj hlj wi.guard (M3 Z) hai;have nogj:=dr G u i l Z hli gj' (M3 hj) haj;have nos:∀(m:Nat) (om:Oper),ops[m]? =some om->listed.getD m true=false->∀k g v,s.t k= (some g,v)->om.dst≠some g.d:=by intro m om hom hlm k g v hst hd;obtain⟨x,ox,J,U,h3⟩:=hG k g v hst;have:=hu hom J hd h3;subst this;exact rF hlm U
 have tcomm:∀(bi bj:Bool),((s.put false u.dst G vj B).put bi l.dst I vi C).t= ((s.put false l.dst I vi C).put bj u.dst G vj B).t:=by
  intro bi bj;funext k;cases hdi:l.dst with
  | none=>
   cases hdj:u.dst with
   | none=>rfl
   | some dj=>
    simp only [St.put];by_cases ek:k=dj
    .simp [ek]
    .simp only [if_neg ek,cond_false];cases bj with
     | false=>rfl
     | true=>
      simp only [cond_true];cases hst:s.t k with
      | mk gk vk=>
       cases gk with
       | none=>rfl
       | some gk=>
        have:=nos j u hj hlj k gk vk hst;rw [hdj] at this;have hb:(gk.d==dj)=false:=by simp only [beq_eq_false_iff_ne,ne_eq];exact λe=>this (by rw [e])
        simp [ke,hb]
  | some di=>
   cases hdj:u.dst with
   | none=>
    simp only [St.put];by_cases ek:k=di
    .simp [ek]
    .simp only [if_neg ek,cond_false];cases bi with
     | false=>rfl
     | true=>
      simp only [cond_true];cases hst:s.t k with
      | mk gk vk=>
       cases gk with
       | none=>rfl
       | some gk=>
        have:=nos i l Z hli k gk vk hst;rw [hdi] at this;have hb:(gk.d==di)=false:=by simp only [beq_eq_false_iff_ne,ne_eq];exact λe=>this (by rw [e])
        simp [ke,hb]
   | some dj=>
    have hne':di≠dj:=λe=>dij di hdi (by rw [hdj,e]);simp only [St.put];have drop1:∀(b:Bool) (g:Option Gs) (v:AV) (d:Nat),(∀gs,g=some gs->gs.d≠d)->cond b (ke d (g,v)) (g,v)= (g,v):=by
     intro b g v d M;cases b with
     | false=>rfl
     | true=>
      cases g with
      | none=>rfl
      | some gs=>
       have hb:(gs.d==d)=false:=by simpa using M gs rfl
       simp [ke,hb]
    by_cases eki:k=di
    .subst eki;simp only [if_true,if_neg hne',cond_false];rw [drop1 bj I vi dj λgs e h=>nogi gs e (by rw [hdj,h])]
    .by_cases ekj:k=dj
     .subst ekj;simp only [if_true,if_neg eki,cond_false];rw [drop1 bi G vj di λgs e h=>nogj gs e (by rw [hdi,h])]
     .simp only [if_neg eki,if_neg ekj,cond_false];cases hst:s.t k with
      | mk gk vk=>rw [drop1 bi gk vk di λgs e h=>by subst e;exact nos i l Z hli k gs vk hst (by rw [hdi,h]),drop1 bj gk vk dj λgs e h=>by subst e;exact nos j u hj hlj k gs vk hst (by rw [hdj,h])]
 have:∀(bi bj:Bool),(s.put false u.dst G vj B).put bi l.dst I vi C= (s.put false l.dst I vi C).put bj u.dst G vj B:=by
  intro bi bj;have ht:=tcomm bi bj;have hh:((s.put false u.dst G vj B).put bi l.dst I vi C).h= ((s.put false l.dst I vi C).put bj u.dst G vj B).h:=by show aJ (aJ s.h B) C=aJ (aJ s.h C) B;exact(Mm disj).symm
  generalize (s.put false u.dst G vj B).put bi l.dst I vi C=X at *
  generalize (s.put false l.dst I vi C).put bj u.dst G vj B=Y at *
  cases X;cases Y;simp only at ht hh;rw [ht,hh]
 rw [this]
theorem HB{o:Oper}{l:Gs}{f:Array Bool}(v:oV ops=true)(a:cL ops o s some=some (some l))(r:o∈ops)(m:∀e∈o.after,Region.binds .any e=true->f.getD e.on false=true):
  ∃i y,ops[i]? =some y/\f.getD i false=true/\y.dst=some l.d:=by
 unfold cL at a;cases k:o.guard with
 | none=>rw [k] at a;simp at a
 | some p=>
  obtain⟨jj,b⟩:=p;rw [k] at a;simp only at a;cases g:(ops[jj]?).bind (·.dst) with
  | none=>rw [g] at a;simp at a
  | some d=>
   rw [g] at a;simp only at a;replace a:=Mu.1 a;obtain⟨x,_,a⟩:=a;obtain⟨bb,a,_⟩:=ny a;simp only [Mt] at a;have u:l.d=d:=by rw [<-a]
   obtain⟨z,B,C⟩:=Mu.1 g;have j:=Nj.1 v o r;rw [k] at j;simp only at j;obtain⟨e,D,q⟩:=OF.1 j;simp only [MB,beq_iff_eq] at q;exact⟨jj,z,B,q.2▸m e D q.1,by rw [u];exact C⟩
theorem Ba{a:Array Bool}{i:Nat}{r:Oper}(J:od ops)(D:oV ops=true)(q:ops[i]? =some r)(F:i∈Region.ready .any ops a)(z:nX ops a s)(e:dU P An Or true nt ops r s=some s1):
  nX ops (a.setIfInBounds i true) s1:=by
 obtain⟨g,v,us,K,rfl⟩:=wZ e;obtain⟨E,L,f,B⟩:=mem_ready.1 F;rw [q] at f;simp only [Mt] at f;subst f;rw [xh J q E z];have j:∀k g v,s.t k= (some g,v)->∃i' o,ops[i']? =some o/\(a.setIfInBounds i true).getD i' false=true/\o.dst=some g.d:=by intro k g v G;obtain⟨x,u,l,m,p⟩:=z k g v G;exact⟨x,u,l,getD_set_true m,p⟩
 intro k y I b;unfold St.put at b;cases C:r.dst with
 | none=>rw [C] at b;exact j k y I b
 | some d=>
  rw [C] at b;dsimp only at b;split at b
  .simp only [Ng] at b;obtain⟨x,u,l,m,p⟩:=HB D (by rw [<-b.1];exact K.guard) (M3 q) B;exact⟨x,u,l,getD_set_true m,p⟩
  .exact j k y I b
def p7(P:Program)(An:ct)(Or:aq)(nt:Nat)(ops:Array Oper)(Q:St->Prop):Nat->Array Bool->St->Prop
 | 0,a,s=>Region.ready .any ops a= []/\Q s
 | n+1,a,s=>(Region.ready .any ops a= []->Q s)/\∀i∈Region.ready .any ops a,∃o s1,ops[i]? =some o/\dU P An Or true nt ops o s=some s1/\p7 P An Or nt ops Q n (a.setIfInBounds i true) s1
theorem Eo{n j i:Nat}{b:Oper}(g:ops[j]? =some b)(h:fM ops (n+1) j i=false):∀e∈b.after,Region.binds .any e=true->e.on≠i:=by intro e f d a;simp only [fM,g] at h;rw [Array.any_eq_false'] at h;exact h e f (by simp [d,a])
theorem yE{a:Array Bool}{j:Nat}(i:nT ops a)(p:j∈Region.ready .any ops a):nT ops (a.setIfInBounds j true):=by
 intro k ok m hl e l g;obtain⟨q,r,b,f⟩:=mem_ready.1 p;refine getD_set_true ?_;by_cases d:j=k
 .subst d;rw [m] at b;simp only [Mt] at b;subst b;exact f e l g
 .have o:a.getD k false=true:=by
   rw [NO,Pa d] at hl;rw [NO];exact hl
  exact i k ok m o e l g
theorem D0{Q:St->Prop}{i:Nat}{d:Oper}(K:od ops)(v:oV ops=true)(C:ops[i]? =some d):∀(iE:Nat) (a:Array Bool) (s s1:St),
  (∀j o,ops[j]? =some o->j≠i->a.getD j true=false->fM ops 12 j i=false->d.apart ops o=true/\(ov P An d o=true\/pH P An ops d o=true))->nT ops a->
  i∈Region.ready .any ops a->nX ops a s->dU P An Or true nt ops d s=some s1->p7 P An Or nt ops Q iE (a.setIfInBounds i true) s1->p7 P An Or nt ops Q (iE+1) a s:=by
 intro iE;induction iE with
 | zero=>
  intro a s s1 _ _ g z e H;refine⟨λh=>(by rw [h] at g;cases g),λj l=> ?_⟩;by_cases b:j=i
  .subst b;exact⟨d,s1,C,e,H⟩
  .have:=ready_mono l b;rw [H.1] at this;cases this
 | succ iE X=>
  intro a s s1 p q g z e H;refine⟨λh=>(by rw [h] at g;cases g),λj l=> ?_⟩;by_cases b:j=i
  .subst b;exact⟨d,s1,C,e,H⟩
  .obtain⟨o,s2,f,N,M⟩:=H.2 j (ready_mono l b);obtain⟨u,Y,m,B⟩:=mem_ready.1 l;rw [f] at m;simp only [Mt] at m;subst m;have D:fM ops 12 j i=false:=uS q (mem_ready.1 g).1 f B;obtain⟨F,G⟩:=p j o f b u D;obtain⟨L,E,U⟩:=swap K v C f b g l q F G z e N;refine⟨o,L,f,E, ?_⟩
   have r:∀k ok,ops[k]? =some ok->k≠i->(a.setIfInBounds j true).getD k true=false->
     fM ops 12 k i=false->d.apart ops ok=true/\(ov P An d ok=true\/pH P An ops d ok=true):=λk ok V I y J=>by
    refine p k ok V I ?_ J;by_cases x:j=k
    .subst x;exact u
    .rw [getD_set_ne true x] at y;exact y
   refine X (a.setIfInBounds j true) L s2 r (yE q l) (ready_mono g (O9 b)) (Ba K v f l z E) U ?_;rw [Array.setIfInBounds_comm _ _ b];exact M
theorem Ht{i:Nat}{b:Oper}{a:Array Bool}(m:ops[i]? =some b)(h:wg P An ops a i=true)(j:Nat)(d:Oper)(f:ops[j]? =some d)(g:j≠i)(l:a.getD j true=false)
  (k:fM ops 12 j i=false):ov P An b d=true\/pH P An ops b d=true:=by
 simp only [wg,m,MR,Pk] at h;have e:=h j (OR.1 f).1;simp only [f,Nk,beq_iff_eq,g,false_or,l,MZ,k,or_false] at e;exact e
theorem x8{Q:St->Prop}(u:od ops)(b:oV ops=true):∀(l:List Oper) (k:Nat) (a:Array Bool) (s:St),(∀j,l[j]? =ops[k+j]?)->Region.lexFrom .any ops l.length k a=true->tp P An ops l.length k a=true->nT ops a->nX ops a s->
  gU P An Or true nt ops l s=some s'->Q s'->p7 P An Or nt ops Q l.length a s
 | [],k,a,s,_,e,_,_,_,h,q=>by simp only [gU,Mt] at h;subst h;exact⟨by simpa [Region.lexFrom] using e,q⟩
 | o::l,k,a,s,hl,e,p,f,y,h,q=>by
  simp only [gU] at h;obtain⟨s1,v,h⟩:=Mu.1 h;have h0:ops[k]? =some o:=by simpa using (hl 0).symm
  simp only [ME,Region.lexFrom,MB] at e;obtain⟨⟨C,B⟩,x⟩:=e;simp only [ME,tp,MB] at p;have d:k∈Region.ready .any ops a:=by simpa using C
  exact D0 u b h0 l.length a s s1 (λj z r g m i=>⟨Region.free_spec h0 B j z r g m (Eo r i),Ht h0 p.1 j z r g m i⟩) f d y v
   (x8 u b l (k+1) _ s1 (λj=>by have:=hl (j+1);simpa [Ot,Nat.add_comm 1 j] using this) x p.2 (yE f d) (Ba u b h0 d y v) h q)
theorem x9(u:hU P An Or){Q:Exit->Act->World->Prop}{s':St}:∀{iE:Nat} {b:Array Bool} {w:World} {s:St} {ρ:Id->Option Value} {O:Id->Option Nat} {a:Act},
  dN c nt w s ρ O a->lS ops s->p7 P An Or nt ops (· =s') iE b s->(∀k w' ρ' O',Le w ρ O w' ρ' O'->dN c nt w' s' ρ' O' k->Q .normal k w')->wpAny P .any ops Q iE b a w
 | 0,b,w,s,ρ,O,a,d,j,h,f=>⟨h.1,f a w ρ O Le.refl (h.2▸d)⟩
 | iE+1,b,w,s,ρ,O,a,d,j,h,f=>by refine⟨λz=>f a w ρ O Le.refl (h.1 z▸d),λi y=> ?_⟩;obtain⟨o,s1,ho,e,H⟩:=h.2 i y;obtain⟨l,step⟩:=B5 u d j (M3 ho) e;unfold wpOp;rw [ho];exact step _ Q λk w' ρ' O' le m=>x9 u m l H λr x p q v g=>f r x p q (le.trans v) g
theorem JZ{R:Type}{id:Nat}{f:Bool}{a:Act}{K:St->Option R}{r:R}(hm:P.follows .mixedOrders=true)(C:hU P An Or)(l:dN c nt w s ρ O a)(p:lR s)(e:region P An Or nt f ops s K=some r):
  ∃s':St,K s'.clear=some r/\∀Q:Exit->Act->World->Prop,(∀q w' ρ' O',Le w ρ O w' ρ' O'->dN c nt w' s'.clear ρ' O' q->Q .normal q w')->(Code.region id ops f).wp P Q a w:=by
 unfold region at e;cases m:xk P An f ops with
 | false=>simp [m] at e
 | true=>
  rw [m,cond_true,xq] at e;replace e:=Mu.1 e;obtain⟨s',e,F⟩:=e;refine⟨s',F,λQ D=> ?_⟩;cases f with
  | false=>exact JY C l p e D
  | true=>simp only [xk,Mz,M8,MB] at m;obtain⟨⟨⟨B,G⟩,I⟩,E⟩:=m;simp only [Region.lexB,MB] at B;have M:od ops:=λ{i j x y d} J L N U=>yW I (by simpa using J) (by simpa using L) N U;have o:Le w ρ O w.drew ρ O:=⟨rfl,rfl,rfl,M2 _,λ_ _ h=>h,λ_ _ _=>rfl,λi b h=> .inl ⟨i,h⟩⟩;have z:dN c nt w.drew s ρ O a:=⟨l.hs.world o λ_ _ _=>rfl,SS.mono (λb p=>o.A b p) o.dG l.ss,l.nt,l.defers⟩;refine wp_region_any hm ?_;have:=x8 (P:=P) (An:=An) (Or:=Or) (nt:=nt) (Q:=(· =s')) M E ops.toList 0 (Array.replicate ops.size false) s (by simp) (by simpa using B.2) (by simpa using G) (λk ok F hl=>by simp [NO,Array.getElem?_replicate] at hl;split at hl <;> simp at hl) (λk g v h=>(p k g v h).elim) e rfl;simp only [M1] at this;exact x9 C z (p.Bg ops) this λq w' ρ' O' le u=>D q w' ρ' O' (o.trans le) u.clear
end
open Go Go.IntKind
section
variable {P:Program} {An:ct} {Or:aq} {w w':World} {A A':Nat->Prop} {c:Ctx} {ρ:Id->Option Value} {O:Id->Option Nat} {s s':St} {h:Id->Option ad}
def Ends(P:Program)(f:FuncId)(fn:Func)(todo:List Item)(a:Act)(w:World)(R:Value->World->Prop):Prop:=
 ∀(b:Frame),b.fn=f->b.kind= .normal->∀cs,∃d w' v todo',Steps P (lone (b.at a todo) cs w) (lone {b.at d todo' with mode:= .returning} cs w')/\
  d.defers= []/\(results fn d.tmps).run P w'= .ok v w'/\R v w'
theorem Ends.mono{f:FuncId}{fn:Func}{todo:List Item}{a:Act}{R d:Value->World->Prop}(h:Ends P f fn todo a w R)(o:∀v w',R v w'->d v w'):Ends P f fn todo a w d:=
 λb l m cs=>let⟨e,w',v,t,g,i,j,k⟩:=h b l m cs;⟨e,w',v,t,g,i,j,o _ _ k⟩
theorem Ends.step{f:FuncId}{fn:Func}{todo todo':List Item}{a:Act}{R:Value->World->Prop}(d:∀(b:Frame) cs,step P (lone (b.at a todo) cs w)= .next (lone (b.at a todo') cs w))(h:Ends P f fn todo' a w R):Ends P f fn todo a w R:=
 λb j k cs=>let⟨e,w',v,t,g,i⟩:=h b j k cs;⟨e,w',v,t, .head (d b cs) g,i⟩
theorem Ends.region{f:FuncId}{fn:Func}{id:Nat}{ops:Array Oper}{d:Bool}{k:List Item}{a:Act}{R:Value->World->Prop}
  (h:(Code.region id ops d).wp P (λe g w'=>e= .normal/\Ends P f fn k g w' R) a w):Ends P f fn (.code (.region id ops d)::k) a w R:=by
 intro b o p cs;obtain⟨e,j,r,⟨rfl,q⟩,i⟩:=h b k cs;obtain⟨g,w',v,t,l,m⟩:=q b o p cs;exact⟨g,w',v,t,Steps.trans i l,m⟩
theorem EH{f:FuncId}{fn:Func}{a:Code}{args:Array Value}{R:Value->World->Prop}(g:P.funcs[f]? =some fn)(j:fn.body=some a)
  (h:Ends P f fn [.code a] {tmps:=args++Array.replicate (fn.ntmps - args.size) undef,defers:= []} w R):Calls P f args w λe w'=>∃v,e= .returned v/\R v w':=by
 intro cs;let b:Frame:={(default:Frame) with fn:=f,kind:= .normal};have d:Frame.enter P f args .normal=b.at {tmps:=args++Array.replicate (fn.ntmps - args.size) undef,defers:= []} [.code a]:=by simp [Frame.enter,Frame.at,g,j,b]
 obtain⟨m,w',v,todo',hs,k,l,i⟩:=h b rfl rfl cs;rw [<-d] at hs;exact⟨.returned v,w',_,⟨v,rfl,i⟩,hs,rfl,rfl,k,rfl,fn,g,l⟩
structure Fin (P:Program) (c:Ctx) (B:Nat->Option Value) (sh:List bW) (outs:List iw) (xs:List T) (Own:Nat->Prop) (w:World) (v:Value) (w':World):Prop where
 os:w'.os=w.os
 output:w'.output=w.output
 tape:w'.tape=w.tape
 size:w.heap.size<=w'.heap.size
 ae:∀b,b < w.heap.size->¬Own b->w'.heap[b]? =w.heap[b]?
 res:∃rs x1 x2 o1 o2,v=mE rs/\xs=x1++x2/\(o1++o2).Nodup/\(∀b∈o1++o2,c.MO b/\b < w'.heap.size)/\dq B w' (λb=>(c.A0 b\/c.MO b)/\b < w'.heap.size/\b∉o1++o2) sh x1 rs o1/\
  lX B w' (λb=>(c.A0 b\/c.MO b)/\b < w'.heap.size/\b∉o1++o2) 0 outs x2 o2
theorem Fin.le{B:Nat->Option Value}{sh:List bW}{os:List iw}{xs:List T}{v:Value}{w'':World}{ρ':Id->Option Value}{O':Id->Option Nat}(le:Le w ρ O w' ρ' O')(h:Fin P c B sh os xs (eI O') w' v w''):Fin P c B sh os xs (eI O) w v w'' where
 os:=h.os.trans le.os
 output:=h.output.trans le.output
 tape:=h.tape.trans le.tape
 size:=Nl le.size h.size
 ae b hb hn:=by
  rw [h.ae b (Nx hb le.size) (λ⟨i,hi⟩=> ?_),le.ae b hb (λi hi=>hn ⟨i,hi⟩)];rcases le.own i b hi with⟨j,hj⟩ | hj
  .exact hn ⟨j,hj⟩
  .omega
 res:=h.res
theorem Fin.own{B:Nat->Option Value}{d:List bW}{os:List iw}{xs:List T}{v:Value}{a:World}{O':Id->Option Nat}(f:∀b,eI O' b->eI O b)(h:Fin P c B d os xs (eI O') w v a):Fin P c B d os xs (eI O) w v a:=
 {h with ae:=λb e g=>h.ae b e λho=>g (f b ho)}
theorem BJ:∀{l:List Id},tF l=true->l.Nodup
 | [],_=>OY
 | i::r,h=>by
  simp only [tF,MB,Np] at h;refine NC.2 ⟨λhm=> ?_,BJ h.2⟩;have:r.contains i=true:=by simpa using hm
  rw [this] at h;cases h.1
def jt(O:Id->Option Nat)(l:List Id):List Nat:=l.filterMap O
theorem yy(hs:HS c w h ρ O):∀{l:List Id},l.Nodup->(jt O l).Nodup
 | [],_=>OY
 | i::l,m=>by
  obtain⟨f,g⟩:=NC.1 m;have d:=yy hs g;unfold jt at *
  cases a:O i with
  | none=>rw [List.filterMap_cons_none a];exact d
  | some b=>rw [List.filterMap_cons_some a];refine NC.2 ⟨λhm=> ?_,d⟩;obtain⟨j,k,e⟩:=OX.1 hm;have:=hs.inj i j b a e;exact f (this▸k)
theorem Em(a b:List Id):jt O (a++b)=jt O a++jt O b:=by simp [jt]
def eH(O:Id->Option Nat)(l:List Id)(own:List Nat):Prop:=(∀i∈l,i.real=true)/\∃ids,own=jt O ids/\(l.Nodup->ids.Nodup)/\∀x∈ids,Of l x
theorem eH.nil:eH O [] []:=⟨by simp,[],rfl,λh=>h,by simp⟩
theorem eH.one{i:Id}(a:i.real=true):eH O [i] (O i).toList:=by refine⟨by simpa using a,[i], ?_,λh=>h,λx b=> .inl b⟩;cases h:O i <;> simp [jt,h]
theorem eH.append{a b:List Id}{o1 o2:List Nat}(v:eH O a o1)(z:eH O b o2):eH O (a++b) (o1++o2):=by
 obtain⟨r1,G,rfl,J,q⟩:=v;obtain⟨u,I,rfl,K,r⟩:=z;refine⟨λi f=> ?_,G++I,(Em _ _).symm,λB=> ?_,λx d=> ?_⟩
 .rcases MQ.1 f with f | f
  .exact r1 i f
  .exact u i f
 .obtain⟨E,F,p⟩:=NU.1 B;refine NU.2 ⟨J E,K F,λx d y C e=> ?_⟩;subst e;rcases q x d with l | ⟨j,n,l,o⟩ <;> rcases r x C with m | ⟨D,L,m,k⟩
  .exact p x l x m rfl
  .have:=r1 x l;rw [k] at this;cases this
  .have:=u x m;rw [o] at this;cases this
  .rw [o] at k;simp only [Id.g.injEq] at k;exact p j l D m k.1
 .rcases MQ.1 d with d | d
  .rcases q x d with g | ⟨j,n,g,e⟩
   .exact .inl (MM _ g)
   .exact .inr ⟨j,n,MM _ g,e⟩
  .rcases r x d with g | ⟨j,n,g,e⟩
   .exact .inl (MK _ g)
   .exact .inr ⟨j,n,MK _ g,e⟩
theorem eH.mem{l:List Id}{own:List Nat}(h:eH O l own){b:Nat}(a:b∈own):∃i,Of l i/\O i=some b:=by obtain⟨_,ids,rfl,_,m⟩:=h;obtain⟨i,d,e⟩:=OX.1 a;exact⟨i,m i d,e⟩
def kD:Nat->List Row->List Row
 | _,[]=> []
 | n,e::r=>{e with n:=n}::kD (n+1) r
theorem qZ:∀(es:List Row) (n:Nat),(kD n es).length=es.length
 | [],_=>rfl
 | e::r,n=>by simp [kD,qZ r]
theorem tQ:∀(es:List Row) (n:Nat),(kD n es).map (·.n)=List.range' n es.length
 | [],_=>rfl
 | e::r,n=>by simp [kD,tQ r,OM]
theorem yN:∀{es:List Row} {n:Nat},aW es=true->nb n (es.map λe=> [.ptr e.cs,po e])=some (kD n es)
 | [],_,_=>rfl
 | e::r,n,h=>by
  simp only [aW,NL,MB] at h;have b:=yN (es:=r) (n:=n+1) h.2;obtain⟨en,a,eo⟩:=e;cases eo with
  | none=>simp at h
  | some p=>show((nb (n+1) (r.map λe=> [.ptr e.cs,po e])).bind λl=>some (⟨n,a,some (p.1,p.2)⟩::l))=_;rw [b];rfl
theorem Ct{A A':Nat->Prop}{d:Id->Option Value}{a:Id->Option Nat}{i:Id}{ae sz col rsz:Nat}(l:∀b,A b->A' b):∀{es:List Row} {k base:Nat},(∀j e,es[j]? =some e->d (.g i (k+j))=ρ (.g i e.n)/\a (.g i (k+j))=O (.g i e.n))->
  cg w A ρ O i ae sz col rsz base es->cg w A' d a i ae sz col rsz base (kD k es)
 | [],_,_,_,_=>trivial
 | e::r,k,base,m,h=>by
  obtain⟨h0,D⟩:=h;obtain⟨B,C⟩:=m 0 e rfl;refine⟨?_,Ct l (k:=k+1) (λj f F=>by
   have:=m (j+1) f (by simpa using F);rw [show k+1+j=k+ (j+1) by omega];exact this) D⟩
  have h0:=h0.move (A':=A') (w':=w) (ρ':=ρ) (O':=O) (λ_ _=>rfl) (λb E=>⟨l b E,rfl⟩) rfl rfl (λ_ _=>rfl);obtain⟨o,q,v,u,x,y,z⟩:=h0;refine⟨o,q,v,u,x,by rw [<-y];exact B, ?_⟩;revert z;show(match e.own with | some p=>cz w A' rsz p.1 p.2 u (λb=>O (.g i e.n)=some b) | none=>O (.g i e.n)=none)->(match e.own with | some p=>cz w A' rsz p.1 p.2 u (λb=>a (.g i k)=some b) | none=>a (.g i k)=none);rw [show a (.g i k)=O (.g i e.n) from C];exact id
def nZ(w:World)(c:Ctx)(O:Id->Option Nat)(b:List Id)(Q:(Nat->Prop)->Prop):Prop:=
 ∀A:Nat->Prop,(∀k,AA c w O k->A k)->(∀i ae,i∈b->i.real=true->O i=some ae->A ae)->Q A
def gH(m:Nat)(B:Nat->Option Value)(ρ:Id->Option Value):Prop:= ∀j,j < m->∃v,B j=some v/\ρ (.c j)=some v
theorem Ax{B:Nat->Option Value}{i:Id}{b:Bool}{sz col rsz nx:Nat}{es:List Row}{u:Value}{l:List Id}(hs:HS c w h ρ O)(U:h i=some (.rows b sz col rsz nx es))(hv:ρ i=some u)(N:aW es=true):
  eH O [i] (jt O (i::es.map λe=> .g i e.n))/\nZ w c O l λA=>iy B w A (.rows sz col rsz) (ba b es) u (jt O (i::es.map λe=> .g i e.n)):=by
 have o:=hs.real (i:=i) (by rw [U];simp);obtain⟨a,cap,r1,r2,r3,⟨Z,n2,n3,n4⟩,K⟩:=hs.ae i _ U;have X:(i::es.map λe=>Id.g i e.n).Nodup:=by
  refine NC.2 ⟨λhm=> ?_, ?_⟩
  .obtain⟨e,_,G⟩:=M7.1 hm;rw [<-G] at o;cases o
  .have:(es.map λe=>Id.g i e.n)= (es.map (·.n)).map (Id.g i):=by rw [List.map_map];rfl
   rw [this];exact List.pairwise_map.2 (Z.imp λh e=>h (by simpa using e))
 refine⟨⟨by simpa using o,_,rfl,λ_=>X,λx m=> ?_⟩,λA hA _=> ?_⟩
 .rcases MN.1 m with rfl | m
  .exact .inl Mv
  .obtain⟨e,_,rfl⟩:=M7.1 m;exact .inr ⟨i,e.n,Mv,rfl⟩
 .let V:Id->Option Value:=λx=>match x with
   | .g y k=>if y=i then(es[k]?).bind λe=>ρ (.g i e.n) else none
   | x=>if x=i then ρ i else none
  let Q:Id->Option Nat:=λx=>match x with
   | .g y k=>if y=i then(es[k]?).bind λe=>O (.g i e.n) else none
   | x=>if x=i then O i else none
  have M:V i=ρ i:=by
   cases i with
   | g y n=>cases o
   | _=>simp only [V,if_true]
  have L:Q i=O i:=by
   cases i with
   | g y n=>cases o
   | _=>simp only [Q,if_true]
  have D:∀k,V (.g i k)= (es[k]?).bind λe=>ρ (.g i e.n):=λk=>by simp only [V,if_true]
  have C:∀k,Q (.g i k)= (es[k]?).bind λe=>O (.g i e.n):=λk=>by simp only [Q,if_true]
  have r:∀x d,Q x=some d->(x=i/\O i=some d)\/∃k e,x= .g i k/\es[k]? =some e/\O (.g i e.n)=some d:=by
   intro x d m;cases x with
   | g y k=>
    simp only [Q] at m;split at m
    .rename_i e;subst e;obtain⟨e,E,F⟩:=Mu.1 m;exact .inr ⟨k,e,rfl,E,F⟩
    .cases m
   | s y k=>
    simp only [Q] at m;split at m
    .rename_i e;exact .inl ⟨e,m⟩
    .cases m
   | c k=>
    simp only [Q] at m;split at m
    .rename_i e;exact .inl ⟨e,m⟩
    .cases m
  refine⟨b,kD 0 es,i,V,Q, ?_,⟨a,cap,by rw [M,qZ];exact r1,by rw [qZ];exact r2,r3,⟨?_,λf I=> ?_,λk p=> ?_,λk d p=> ?_⟩, ?_⟩,by rw [M];exact hv,o,λx y d m hy=> ?_,λk v p=> ?_,λx d m=> ?_,λd=> ?_⟩
  .simp only [ba,aM,yN N,Mw]
  .rw [tQ];exact List.nodup_range'
  .have:f.n∈(kD 0 es).map (·.n):=M7.2 ⟨f,I,rfl⟩;rw [tQ,List.mem_range'_1] at this;rw [qZ];omega
  .rw [qZ] at p;rw [D,N6 p];rfl
  .rw [C] at p;obtain⟨e,E,_⟩:=Mu.1 p;have hlt:=(My.1 E).1;have:k∈(kD 0 es).map (·.n):=by rw [tQ,List.mem_range'_1];omega
   obtain⟨f,I,e2⟩:=M7.1 this;exact⟨f,I,e2⟩
  .rcases K with K | ⟨ae,off,arr,t,q1,q2,q3,q4,q5⟩
   .exact .inl K
   .refine .inr ⟨ae,off,arr,t,q1,by rw [L];exact q2,q3,q4,Ct hA (λj e hj=> ?_) q5⟩;rw [Nc,D,C,hj];exact⟨rfl,rfl⟩
  .rcases r x d m with⟨rfl,q⟩ | ⟨k,e,rfl,q,z⟩ <;> rcases r y d hy with⟨rfl,J⟩ | ⟨k',e',rfl,J,Y⟩
   .rfl
   .have:=hs.inj _ _ d q Y;rw [this] at o;cases o
   .have:=hs.inj _ _ d J z;rw [this] at o;cases o
   .have:=hs.inj _ _ d z Y;simp only [Id.g.injEq,true_and] at this;rw [qN Z q J this]
  .rw [D] at p;obtain⟨e,_,F⟩:=Mu.1 p;exact hs.gone i e.n v F
  .rcases r x d m with⟨rfl,_⟩ | ⟨k,_,rfl,_⟩
   .exact .inl rfl
   .exact .inr ⟨k,rfl⟩
  .simp only [jt,OX,MN,M7];constructor
   .rintro⟨x,rfl | ⟨e,G,rfl⟩,m⟩
    .exact⟨x,by rw [L];exact m⟩
    .obtain⟨k,p⟩:=Oy G;exact⟨.g i k,by rw [C,p];exact m⟩
   .rintro⟨x,m⟩;rcases r x d m with⟨rfl,q⟩ | ⟨k,e,rfl,q,z⟩
    .exact⟨x, .inl rfl,q⟩
    .exact⟨.g i e.n, .inr ⟨e,MD q,rfl⟩,z⟩
theorem Aw{R:Type}{m:Nat}{B:Nat->Option Value}{r:bW}{v:AV}{u:Value}{K:T->List Id->List Id->Option R}{res:R}(hB:gH m B ρ)(hs:HS c w h ρ O)(g:aj w (AA c w O) ρ v u)(d:ig m h r v K=some res):
  ∃x a b ob,K x a b=some res/\eH O a ob/\nZ w c O b λA=>iy B w A r x u ob:=by
 cases r with
 | f k=>simp only [ig] at d;replace d:=Mu.1 d;obtain⟨x,V,d⟩:=d;replace d:=aL d (.inl rfl);obtain⟨y,hy,d⟩:=d;rw [AV.jP V] at g;simp only [aj] at g;exact⟨_,_,_,[],d, .nil,λA z C=>⟨hy,g.flat hy,rfl⟩⟩
 | t k=>simp only [ig] at d;replace d:=Mu.1 d;obtain⟨x,V,d⟩:=d;refine⟨_,_,_,[],d, .nil,λA z C=>⟨kI hs g V z (λi ae q ho=> ?_),rfl⟩⟩;obtain⟨p,D,e⟩:=sW hs V q ho;refine C i ae (M7.2 ⟨p,D,e⟩) ?_ ho;rw [<-e];refine hs.real λe0=> ?_;have I:=qw (h:=h) v p D;rw [e0] at I;rcases I with⟨sz,b,l,_,I⟩ | ⟨l,_,I⟩ <;> simp at I
 | own sz=>
  simp only [ig] at d;split at d
  .rename_i i;replace d:=Mu.1 d;obtain⟨p,D,d⟩:=d;simp only [Ca] at D;split at D
   .rename_i sz' b xs q;split at D
    .rename_i hsz;subst hsz;simp only [Mt] at D;subst D;refine⟨_,_,_,(O i).toList,d, .one (hs.real (by rw [q];simp)),λA z C=> ?_⟩;obtain⟨v',G,g2,_⟩:=hs.ae i _ q;simp only [aj] at g;rw [G] at g;simp only [Mt] at g;subst g;exact⟨O i,(b,xs),rfl,by simp [T.an],g2.mono (λb J=>⟨z b J,rfl⟩) (λb J=>⟨by simpa using J,rfl⟩)⟩
    .simp at D
   .simp at D
  .rename_i i sz1 n;split at d
   .rename_i sz2 b xs q;split at d
    .rename_i j;obtain⟨rfl,rfl⟩:=j;refine⟨_,_,_,(O i).toList,d, .one (hs.real (by rw [q];simp)),λA z C=> ?_⟩;obtain⟨v',G,⟨a,cap,rfl,f2,f3,_,f4⟩,_⟩:=hs.ae i _ q;simp only [aj] at g;obtain⟨a1,L,cap1,Y,F,U,e3,rfl,e4⟩:=g;rw [G] at F;simp only [Mt,Nw] at F;obtain⟨rfl,rfl,rfl⟩:=F;have M:(xs.take n).length=n:=by rw [Nv];omega
     have ha:Y=none↔a=none:=by
      rcases e4 with⟨_,rfl⟩ | ⟨_,h,_⟩ | ⟨_,_,rfl,rfl⟩
      .exact OK
      .exact h
      .simp
     refine⟨O i,(b,xs.take n),rfl,by simp [T.an],Y,cap,by rw [M];rfl,by rw [M];omega,by rw [ha];exact f3,trivial, ?_⟩
     .rcases f4 with f4 | ⟨ae,off,Z,t',q1,q2,q3,q4,q5⟩
      .exact .inl f4
      .by_cases X:cap=0
       .exact .inl X
       .right;subst q1;have:Y=some ⟨ae,off,none⟩:=by
         rcases e4 with⟨_,rfl⟩ | ⟨h,_⟩ | ⟨b',o,e5,rfl⟩
         .rfl
         .exact absurd h.symm X
         .simp only [Mt,Ns] at e5;obtain⟨rfl,rfl,_⟩:=e5;simp
        exact⟨ae,off,Z,t',this,by simpa using q2,q3,q4,(a8.lA (λb J=>⟨z b J,rfl⟩) ae _ rfl off xs q5).take n⟩
    .simp at d
   .simp at d
  .rename_i b;simp only [aj,ay] at g;refine⟨_,_,_,[],d, .nil,λA z C=>⟨none,(b,[]),rfl,by simp [T.an], ?_⟩⟩;rcases g with⟨rfl,rfl⟩ | ⟨rfl,ae,off,sp,rfl⟩
   .exact⟨none,0,rfl,by simp,by simp,trivial, .inl rfl⟩
   .exact⟨some ⟨ae,off,sp⟩,0,rfl,by simp,by simp,trivial, .inl rfl⟩
  .simp only [aj,ay] at g;refine⟨_,_,_,[],d, .nil,λA z C=>⟨none,(true,[]),rfl,by simp [T.an], ?_⟩⟩;rcases g with⟨_,_,rfl⟩ | ⟨h,_⟩
   .exact⟨none,0,rfl,by simp,by simp,trivial, .inl rfl⟩
   .cases h
  .simp at d
 | ref k off=>
  simp only [ig] at d;split at d
  .rename_i k' off';split at d
   .rename_i j;obtain⟨rfl,rfl,N⟩:=j;refine⟨_,_,_,[],d, .nil,λA z C=>⟨?_,rfl⟩⟩;simp only [aj] at g;obtain⟨b,F,rfl⟩:=g;obtain⟨v,U,e3⟩:=hB _ N;rw [F] at e3;simp only [Mt] at e3;subst e3;exact⟨b,U,rfl⟩
   .simp at d
  .simp at d
 | same k=>
  simp only [ig] at d;split at d
  .rename_i k';split at d
   .rename_i j;obtain⟨rfl,N⟩:=j;refine⟨_,_,_,[],d, .nil,λA z C=>⟨?_,rfl⟩⟩;simp only [aj] at g;obtain⟨v,U,e3⟩:=hB _ N;rw [g] at e3;simp only [Mt] at e3;subst e3;exact⟨U,iL hs g⟩
   .simp at d
  .simp at d
 | no=>
  simp only [ig] at d;split at d
  .refine⟨_,_,_,[],d, .nil,λA z C=>⟨?_,rfl⟩⟩;simp only [aj] at g;obtain⟨b,_,rfl⟩:=g;exact⟨rfl,rfl⟩
  .simp at d
 | rows sz col rsz=>
  simp only [ig] at d;split at d
  .rename_i i;split at d
   .rename_i b sz' col' rsz' nx es q;split at d
    .rename_i j;obtain⟨rfl,rfl,rfl⟩:=j;replace d:=aL d (.inl rfl);obtain⟨_,E,d⟩:=d;have E:aW es=true:=by
      split at E
      .assumption
      .cases E
     simp only [aj] at g;exact⟨_,_,_,_,d,(Ax (B:=B) (l:= []) hs q g E).1,(Ax hs q g E).2⟩
    .simp at d
   .simp at d
  .simp at d
 | mp ag ks vk=>
  simp only [ig] at d;split at d
  .rename_i i;split at d
   .rename_i ag' ks' vk' es q;split at d
    .rename_i j;obtain⟨rfl,rfl,rfl⟩:=j;obtain⟨b,ents,Q,G,g2,g3,g4,g5⟩:=hs.ae i _ q;simp only [aj] at g;rw [G] at g;simp only [Mt] at g;subst g;refine⟨_,_,_,[b],d, ?_,λA z C=>⟨es,b,ents,Q,rfl,rfl,rfl,g3,g4,g5⟩⟩;have:=eH.one (O:=O) (hs.real (i:=i) (by rw [q];simp));rw [g2] at this;exact this
    .simp at d
   .simp at d
  .simp at d
 | agg l=>simp [ig] at d
 | new l=>simp [ig] at d
theorem sM{R:Type}{m:Nat}{B:Nat->Option Value}(k:gH m B ρ)(hs:HS c w h ρ O):∀{rs:List bW} {vs:List AV} {us:List Value} {K:List T->List Id->List Id->Option R} {res:R},az w (AA c w O) ρ vs us->kV m h rs vs K=some res->
  ∃xs a b own,K xs a b=some res/\eH O a own/\nZ w c O b λA=>ej B w A rs xs us own
 | [],[],us,K,res,e,d=>by simp only [az] at e;subst e;simp only [kV] at d;exact⟨_,_,_,[],d, .nil,λA _ _=>⟨rfl,rfl,rfl⟩⟩
 | [],v::vs,us,K,res,e,d=>by simp [kV] at d
 | r::rs,[],us,K,res,e,d=>by simp [kV] at d
 | r::rs,v::vs,us,K,res,e,d=>by simp only [az] at e;obtain⟨u,o,rfl,C,D⟩:=e;simp only [kV] at d;obtain⟨x,a,b,ob,d,p,y⟩:=Aw k hs C d;obtain⟨xs,F,G,own,d,q,z⟩:=sM k hs D d;refine⟨_,_,_,_,d,p.append q,λA j l=> ?_⟩;have E:=y A j (λi ae f g ho=>l i ae (MM _ f) g ho);exact⟨x,xs,u,o,ob,own,rfl,rfl,rfl,E,z A j (λi ae f g ho=>l i ae (MK _ f) g ho)⟩
theorem sN{R:Type}{m:Nat}{B:Nat->Option Value}(C:gH m B ρ)(hs:HS c w h ρ O):∀{rs:List bW} {vs:List AV} {us:List Value} {K:List T->List Id->List Id->Option R} {res:R},az w (AA c w O) ρ vs us->eQ m h rs vs K=some res->
  ∃xs a b own,K xs a b=some res/\eH O a own/\nZ w c O b λA=>dq B w A rs xs us own
 | [],[],us,K,res,y,d=>by simp only [az] at y;subst y;simp only [eQ] at d;exact⟨_,_,_,[],d, .nil,λA _ _=>⟨rfl,rfl,rfl⟩⟩
 | [],v::vs,us,K,res,y,d=>by simp [eQ] at d
 | r::rs,[],us,K,res,y,d=>by cases r <;> simp [eQ] at d
 | r::rs,v::vs,us,K,res,y,d=>by
  simp only [az] at y;obtain⟨u,q,rfl,I,V⟩:=y
  have e:(ig m h r v λx a b=>eQ m h rs vs λxs L M=>K (x::xs) (a++L) (b++M))=some res->(∀l,r≠ .agg l)->(∀l,r≠ .new l)->
    ∃xs a b own,K xs a b=some res/\eH O a own/\nZ w c O b λA=>dq B w A (r::rs) xs (u::q) own:=by
   intro d j Y;obtain⟨x,a,b,ob,d,D,F⟩:=Aw C hs I d;obtain⟨xs,L,M,own,d,E,G⟩:=sN C hs V d;refine⟨_,_,_,_,d,D.append E,λA o p=> ?_⟩;have z:=F A o (λi ae g j ho=>p i ae (MM _ g) j ho);have:∃Z U v Q N J,x::xs=Z::U/\u::q=v::Q/\ob++own=N++J/\iy B w A r Z v N/\dq B w A rs U Q J:=
    ⟨x,xs,u,q,ob,own,rfl,rfl,rfl,z,G A o (λi ae g j ho=>p i ae (MK _ g) j ho)⟩
   cases r with
   | agg l=>exact(j l rfl).elim
   | new l=>exact(Y l rfl).elim
   | _=>exact this
  cases r with
  | f k=>exact e (by simpa [eQ] using d) (by simp) (by simp)
  | t k=>exact e (by simpa [eQ] using d) (by simp) (by simp)
  | own sz=>exact e (by simpa [eQ] using d) (by simp) (by simp)
  | rows sz col rsz=>exact e (by simpa [eQ] using d) (by simp) (by simp)
  | mp ag ks vk=>exact e (by simpa [eQ] using d) (by simp) (by simp)
  | new l=>
   simp only [eQ] at d;split at d
   .rename_i i;split at d
    .rename_i cs g;obtain⟨b0,arr,ty,e1,e2,e3,e4,e5⟩:=hs.ae i _ g;simp only [aj] at I;obtain⟨b,z,rfl⟩:=I;rw [e1] at z;simp only [Mt,NW,Ns] at z;obtain⟨rfl,_⟩:=z;obtain⟨xs,a,b,o1,d,D,F⟩:=sM C hs e4 d;obtain⟨X,L,M,o2,d,E,G⟩:=sN C hs V d;refine⟨_,_,_,_,d,(eH.one (hs.real (i:=i) (by rw [g];simp))).append (D.append E),λA o p=> ?_⟩;exact⟨xs,X,b0,arr,ty,q,o1,o2,rfl,by simp,by simp [e2],e3,F A o (λi ae g j ho=>p i ae (MM _ g) j ho),G A o (λi ae g j ho=>p i ae (MK _ g) j ho)⟩
    .simp at d
   .simp at d
  | ref k off=>exact e (by simpa [eQ] using d) (by simp) (by simp)
  | same k=>exact e (by simpa [eQ] using d) (by simp) (by simp)
  | no=>exact e (by simpa [eQ] using d) (by simp) (by simp)
  | agg l=>
   cases v with
   | agg cs=>simp only [eQ] at d;simp only [aj] at I;obtain⟨ws,rfl,z,k2⟩:=I;obtain⟨xs,a,b,o1,d,D,F⟩:=sM C hs z d;obtain⟨X,L,M,o2,d,E,G⟩:=sN C hs V d;refine⟨_,_,_,_,d,D.append E,λA o p=> ?_⟩;exact⟨xs,X,ws,q,o1,o2,rfl,rfl,rfl,F A o (λi ae g j ho=>p i ae (MM _ g) j ho),G A o (λi ae g j ho=>p i ae (MK _ g) j ho)⟩
   | _=>simp [eQ] at d
def tT(tmps:Array Value):ResultVar->Sem Value
 | .tmp t=>pure (tmps.getD t undef)
 | .cell b t=>do loadVar t (<-asAddr (tmps.getD b undef))
theorem J2(fn:Func)(tmps:Array Value):results fn tmps= (do
  let vs <-fn.results.mapM (tT tmps)
  pure (if h:vs.size=1 then vs[0] else .tuple vs)):=rfl
theorem xo{R:Type}{a:Act}(hs:HS c w s.h ρ O)(g:SS w (AA c w O) ρ s.t a.tmps):∀{l:List ResultVar} {K:List AV->Option R} {r:R},ph P s l K=some r->
  ∃vs us,K vs=some r/\az w (AA c w O) ρ vs us/\(l.mapM (tT a.tmps)).run P w= .ok us w
 | [],K,r,h=>⟨[],[],h,by simp [az],by simp⟩
 | .tmp k::l,K,r,h=>by
  simp only [ph] at h;have d:=g k;split at h
  .rename_i v e;rw [e] at d;obtain⟨vs,us,i,j,m⟩:=xo hs g h;refine⟨v::vs,_::us,i,by simp only [az];exact⟨_,us,rfl,d,j⟩, ?_⟩;rw [Pw];simp only [tT,MV,M6,MH,m]
  .simp at h
 | .cell k t::l,K,r,h=>by
  simp only [ph] at h;have d:=g k;split at h
  .rename_i v e;rw [e] at d;obtain⟨o,y,h0,f,q⟩:=BE hs d (.inl rfl) h;obtain⟨vs,us,i,j,m⟩:=xo hs g h0;refine⟨o::vs,y::us,i,by simp only [az];exact⟨y,us,rfl,q,j⟩, ?_⟩;rw [Pw];have:(do loadVar t (<-asAddr (a.tmps.getD k undef)):Sem Value).run P w= .ok y w:=by
    rw [<-f];generalize a.tmps.getD k undef=u at *
    unfold Instr.loadAt at *
    cases u with
    | pointer p=>
     cases p with
     | none=>simp [Instr.sureAddr,runtimePanic] at f
     | some b=>simp [Instr.sureAddr,asAddr]
    | _=>simp [Instr.sureAddr,runtimePanic] at f
   simp only [tT,MV,M6,MH] at this⊢;rw [this];simp only [MH,m]
  .simp at h
theorem qp{R:Type}{m:Nat}{B:Nat->Option Value}(k:gH m B ρ)(hs:HS c w h ρ O):∀{os:List iw} {j:Nat} {K:List T->List Id->List Id->Option R} {res:R},j+os.length<=m->jy m h j os K=some res->
  ∃xs a b own,K xs a b=some res/\eH O a own/\nZ w c O b λA=>lX B w A j os xs own
 | [],j,K,res,_,d=>by simp only [jy] at d;exact⟨_,_,_,[],d, .nil,λA _ _=>⟨rfl,rfl⟩⟩
 | .box l::os,j,K,res,hm,d=>by
  simp only [ME] at hm;simp only [jy] at d;split at d
  .rename_i cs g;obtain⟨F,arr,t,x,y,I,J,N⟩:=hs.ae _ _ g;obtain⟨xs,a,b,o1,d,U,V⟩:=sM k hs J d;obtain⟨r,D,E,o2,d,p,q⟩:=qp k hs (by omega) d;refine⟨_,_,_,_,d,(eH.one (i:= .c j) rfl).append (U.append p),λA f o=> ?_⟩;obtain⟨v,u,e⟩:=k j (by omega);rw [x] at e;simp only [Mt] at e;subst e;exact⟨xs,r,F,arr,t,o1,o2,rfl,by simp [y],u,I,V A f (λi ae g M ho=>o i ae (MM _ g) M ho),q A f (λi ae g M ho=>o i ae (MK _ g) M ho)⟩
  .simp at d
 | .sl sz::os,j,K,res,hm,d=>by
  simp only [ME] at hm;simp only [jy] at d;split at d
  .rename_i sz' bb l g;split at d
   .rename_i Q;subst Q;obtain⟨v,x,y,_⟩:=hs.ae _ _ g;obtain⟨r,D,E,o2,d,p,q⟩:=qp k hs (by omega) d;refine⟨_,_,_,_,d,(eH.one (i:= .c j) rfl).append p,λA f o=> ?_⟩;obtain⟨X,u,e⟩:=k j (by omega);rw [x] at e;simp only [Mt] at e;subst e;exact⟨bb,l,r,O (.c j),_,o2,rfl,rfl,u,y.mono (λb L=>⟨f b L,rfl⟩) (λb L=>⟨by simpa using L,rfl⟩),q A f o⟩
   .simp at d
  .simp at d
 | .mp ag ks vk::os,j,K,res,hm,d=>by
  simp only [ME] at hm;simp only [jy] at d;split at d
  .rename_i Y Z vk' es g;split at d
   .rename_i C;obtain⟨rfl,rfl,rfl⟩:=C;obtain⟨F,G,z,x,y,I,J,N⟩:=hs.ae _ _ g;obtain⟨r,D,E,o2,d,p,q⟩:=qp k hs (by omega) d;refine⟨_,_,_,_,d,(eH.one (i:= .c j) rfl).append p,λA f o=> ?_⟩;obtain⟨X,u,e⟩:=k j (by omega);rw [x] at e;simp only [Mt] at e;subst e;exact⟨es,F,G,z,r,o2,rfl,by simp [y],u,I,J,N,q A f o⟩
   .simp at d
  .simp at d
 | .dead::os,j,K,res,hm,d=>by simp only [ME] at hm;simp only [jy] at d;obtain⟨r,D,E,o2,d,p,q⟩:=qp k hs (by omega) d;exact⟨_,_,_,o2,d,p,λA f o=>q A f o⟩
theorem AQ{f:FuncId}{fn:Func}{nt:Nat}{m:Nat×Nat}{B:Nat->Option Value}{xs:List T}{a:Act}(K:gH m.1 B ρ)(d:dN c nt w s ρ O a)(h:sS P An f fn m s=some xs):
  ∃v,(results fn a.tmps).run P w= .ok v w/\Fin P c B (cN P An f m.2 fn) (fF An f m.2) xs (eI O) w v w:=by
 unfold sS at h;obtain⟨vs,us,h,z,F⟩:=xo d.hs d.ss h;split at h
 .rename_i hm;obtain⟨Z,N,Y,o1,h,U,G⟩:=sN K d.hs z h;obtain⟨zs,E,Q,o2,h,V,C⟩:=qp K d.hs (by omega) h;split at h
  .rename_i r;simp only [Mt] at h;subst h;simp only [MB,MR,Np] at r;have M:=BJ r.1;have D:=U.append V;have g:∀b,b∈o1++o2->∃i,Of (N++E) i/\O i=some b:=λb l=>D.mem l;have J:∀k,AA c w O k->(c.A0 k\/c.MO k)/\k < w.heap.size/\k∉o1++o2:=by
    intro b l;refine⟨l.1,l.2.1,λhm=> ?_⟩;obtain⟨i,o,e⟩:=g b hm;exact l.2.2 i e
   have L:∀i ae,i∈Y++Q->i.real=true->O i=some ae->(c.A0 ae\/c.MO ae)/\ae < w.heap.size/\ae∉o1++o2:=by
    intro i ae o p ho;refine⟨.inr (d.hs.own i ae ho),d.hs.lt i ae ho,λhm=> ?_⟩;obtain⟨j,I,e⟩:=g ae hm;have:=d.hs.inj i j ae ho e;subst this;have z:=r.2 i o;rcases I with I | ⟨y,n,_,X⟩
    .have F:(N++E).contains i=true:=by simpa using I
     rw [F] at z;cases z
    .rw [X] at p;cases p
   have q:(o1++o2).Nodup:=by obtain⟨_,ids,e,n,_⟩:=D;rw [e];exact yy d.hs (n M)
   refine⟨mE us, ?_,rfl,rfl,rfl,M2 _,λ_ _ _=>rfl,us,Z,zs,o1,o2,rfl,rfl,q,λb l=> ?_, ?_, ?_⟩
   .rw [J2,Array.mapM_eq_mapM_toList];simp only [MV,map_eq_pure_bind,M6];rw [F];simp only [MH];congr 1;unfold mE;split
    .rename_i x;have hl:us.length=1:=by simpa using x
     obtain⟨u,rfl⟩:=OG.1 hl;rfl
    .rename_i x;split
     .rename_i u;simp at x
     .rfl
   .obtain⟨i,o,e⟩:=g b l;exact⟨d.hs.own i b e,d.hs.lt i b e⟩
   .exact G _ J λi ae o p ho=>L i ae (MM _ o) p ho
   .exact C _ J λi ae o p ho=>L i ae (MK _ o) p ho
  .simp at h
 .simp at h
end
open Go Go.IntKind
section
variable {P:Program} {An:ct} {Or:aq} {w w':World} {A A':Nat->Prop} {c:Ctx} {ρ:Id->Option Value} {O:Id->Option Nat} {s s':St} {h:Id->Option ad}
theorem wW{v:AV}{u:Value}(hs:HS c w h ρ O)(a:aj w (AA c w O) ρ v u):aj w (AA c w O) ρ (lB h v) u:=by
 cases v
 case own i=>
  simp only [lB];split
  .rename_i sz b xs d;have m:O i=none:=by
    obtain⟨_,_,_,f⟩:=hs.ae i _ d;exact f rfl
   have:=kI (x:= .ab sz b xs) (A':=AA c w O) hs a (by simp [cX,d]) (λ_ h=>h) (λj ae k ho=>by
    rcases k with e | ⟨_,_,_,e⟩ | ⟨_,e⟩
    .cases e;rw [m] at ho;cases ho
    .cases e
    .cases e)
   simpa [aj] using this
  .exact a
 case part i sz off n=>
  simp only [lB];split
  .rename_i r b xs d;split
   .rename_i o;have m:O i=none:=by
     obtain⟨_,_,_,f⟩:=hs.ae i _ d;exact f rfl
    have:=kI (x:= .ab sz b ((xs.drop off).take n)) (A':=AA c w O) hs a (by simp [cX,d,o]) (λ_ h=>h) (λj ae k ho=>by
     rcases k with e | ⟨_,_,_,e⟩ | ⟨_,e⟩
     .cases e
     .cases e;rw [m] at ho;cases ho
     .cases e)
    simpa [aj] using this
   .exact a
  .exact a
 case ref i off=>
  simp only [lB];split
  .rename_i l d;obtain⟨b,p,z,f,q⟩:=hs.ae i _ d;simp only [aj] at a;obtain⟨y,g,rfl⟩:=a;rw [p] at g;simp only [Mt,NW,Ns] at g;obtain⟨rfl,_⟩:=g;simp only [aj,ay];refine⟨b,off,rfl, .inr f, ?_⟩;have:=q.drop off;rwa [Nc] at this
  .exact a
 all_goals exact a
theorem HR{k:Nat×Option Nat}{p:AV×aB}{tmps:Array Value}{g:Id->Option Value}(hs:HS c w s.h ρ O)(m:SS w (AA c w O) ρ s.t tmps)(e:qJ s k=some p)(f:∀i v,ρ i=some v->g i=some v)
  (l:∀q∈p.2,g q.1=some (tmps.getD k.1 undef)):aj w (AA c w O) g p.1 (tmps.getD k.1 undef):=by
 unfold qJ at e;have d:=m k.1;split at e
 .simp at e
 .rename_i v j;rw [j] at d;simp only at d;split at e
  .simp only [Mt] at e;subst e;exact aj.mono (λb a=>⟨a,rfl⟩) f _ _ (wW hs d)
  .split at e
   .simp only [Mt] at e;subst e;exact aj.mono (λb a=>⟨a,rfl⟩) f _ _ (wW hs d)
   split at e
   .split at e
    .simp only [Mt] at e;subst e;exact aj.mono (λb a=>⟨a,rfl⟩) f _ _ d
    .simp at e
   .simp only [Mt] at e;subst e;simp only [aj];exact l _ (MI.2 rfl)
   .simp at e
theorem BC{tmps:Array Value}{f:Id->Option Value}(hs:HS c w s.h ρ O)(o:SS w (AA c w O) ρ s.t tmps)(j:∀i v,ρ i=some v->f i=some v):∀{l:List (Nat×Option Nat)} {p:List AV×aB},mq s l=some p->
  (∀q∈p.2,∀k,q.1= .s (1000000+k) 0->f q.1=some (tmps.getD k undef))->az w (AA c w O) f p.1 (l.map λk=>tmps.getD k.1 undef)/\
   ∀q∈p.2,∃k sz b,q= (.s (1000000+k) 0, .sl false sz b [])/\ay w (AA c w O) (.af b) (tmps.getD k undef)
 | [],p,e,_=>by simp only [mq,Mt] at e;subst e;exact⟨by simp [az],(by intro q a;cases a)⟩
 | k::l,p,e,r=>by
  simp only [mq] at e;replace e:=Mu.1 e;obtain⟨x,d,e⟩:=e;replace e:=Mu.1 e;obtain⟨y,D,e⟩:=e;simp only [Mt] at e;subst e;have g:∀q∈x.2,∃sz b,q= (.s (1000000+k.1) 0, .sl false sz b [])/\ay w (AA c w O) (.af b) (tmps.getD k.1 undef):=by
   intro q a;have m:=o k.1;unfold qJ at d;split at d
   .simp at d
   .rename_i v u;rw [u] at m;simp only at m;split at d
    .simp only [Mt] at d;subst d;cases a
    .split at d
     .simp only [Mt] at d;subst d;cases a
     split at d
     .split at d
      .simp only [Mt] at d;subst d;cases a
      .simp at d
     .simp only [Mt] at d;subst d;simp only [MI] at a;subst a;exact⟨_,_,rfl,by simpa [aj] using m⟩
     .simp at d
  obtain⟨z,B⟩:=BC hs o j D (λq a=>r q (MK _ a));refine⟨?_,λq a=> ?_⟩
  .simp only [Nh,az];refine⟨_,_,rfl,HR hs o d j (λq a=> ?_),z⟩;obtain⟨sz,b,e,_⟩:=g q a;exact r q (MM _ a) k.1 (by rw [e])
  .rcases MQ.1 a with a | a
   .obtain⟨sz,b,e,C⟩:=g q a;exact⟨k.1,sz,b,e,C⟩
   .exact B q a
theorem DK:∀{us:aB} {h:Id->Option ad} {i:Id} {b:ad},aJ h us i=some b->(i,b)∈us\/((∀q∈us,q.1≠i)/\h i=some b)
 | [],h,i,b,e=> .inr ⟨by simp,e⟩
 | (j,x)::us,h,i,b,e=>by
  rw [cD] at e;rcases DK e with e | ⟨g,a⟩
  .exact .inl (Mx _ e)
  .by_cases d:i=j
   .subst d;rw [aA] at a;simp only [Mt] at a;subst a;exact .inl Mv
   .rw [au _ _ d] at a;refine .inr ⟨λq f=> ?_,a⟩;rcases MN.1 f with rfl | f
    .exact λe=>d e.symm
    .exact g q f
theorem HS.DY{us:aB}{a:Id->Option Value}(r:∀q∈us,q.1.real=true)(hs:HS c w h ρ O)(B:∀q∈us,h q.1=none)(x:∀q∈us,∃sz b u,q.2= .sl false sz b []/\a q.1=some u/\ay w A (.af b) u)
  (f:∀i,(∀q∈us,q.1≠i)->a i=ρ i):HS c w (aJ h us) a O:=by
 have mono:∀i v,ρ i=some v->a i=some v:=by
  intro i v d;rw [f i (λq j e=> ?_)]
  .exact d
  .have:=(hs.cj _ (r q j) (B q j)).1;rw [e,d] at this;cases this
 have k:∀i n,∀q∈us,q.1≠ .g i n:=λi n q j e=>by have:=r q j;rw [e] at this;cases this
 have le:Le w ρ O w a O:=⟨rfl,rfl,rfl,M2 _,mono,λ_ _ _=>rfl,λi b h=> .inl ⟨i,h⟩⟩;refine hs.go le (λi n=>⟨f _ (k i n),rfl,λ_ _=>rfl⟩) (λi b l=> ?_) (λi p d=> ?_) (λi d=>(uA d).2) (λi n=>by rw [cR (k i n)];exact hs.dr i n) hs.inj hs.lt
 .rcases DK l with hm | ⟨_,l⟩
  .right;obtain⟨sz,C,u,m,o,e3⟩:=x _ hm;simp only at m o;subst m;refine⟨u,o, ?_,by simp⟩;simp only [ay] at e3;rcases e3 with⟨rfl,rfl⟩ | ⟨rfl,ae,off,sp,rfl⟩
   .exact⟨none,0,rfl,by simp,by simp,by simp, .inl rfl⟩
   .exact⟨some ⟨ae,off,sp⟩,0,rfl,by simp,by simp,trivial, .inl rfl⟩
  .exact .inl ⟨l,rfl,λ_ _=>rfl⟩
 .obtain⟨y,z⟩:=uA d;rw [f i y];exact hs.cj i p z
theorem BG{b:Id->Option Value}{tmps:Array Value}:∀{live:List (Nat×Option Nat)} {bf:List AV},az w A b bf (live.map λk=>tmps.getD k.1 undef)->∀k,aj w A b (kZ.look live bf k) (tmps.getD k undef)
 | [],bf,a,k=>by cases bf <;> simp [kZ.look,aj]
 | (j,o)::live,bf,a,k=>by
  cases bf with
  | nil=>simp [az] at a
  | cons v bf=>
   simp only [Nh,az,NN] at a;obtain⟨u,r,⟨rfl,rfl⟩,d,f⟩:=a;simp only [kZ.look];split
   .rename_i e;subst e;exact d
   .exact BG f k
def qL:List Item->List Item
 | .inLoop b::k=> .code b:: .inLoop b::k
 | t=>t
def mX(P:Program)(An:ct)(Or:aq):Prop:= ∀f fn todo live m bf b xs,Or (.node f todo live m) bf b=some xs->P.funcs[f]? =some fn->
 ∀c w ρ O a B,gH m.1 B ρ->dN c fn.ntmps w (kZ live bf b) ρ O a->Ends P f fn (qL todo) a w (Fin P c B (cN P An f m.2 fn) (fF An f m.2) xs (eI O) w)
theorem dN.xG{nt:Nat}{a:Act}{h':Id->Option ad}{ρ':Id->Option Value}{O':Id->Option Nat}(d:dN c nt w s ρ O a)(le:Le w ρ O w ρ' O')(hs:HS c w h' ρ' O'):dN c nt w {t:=s.t,h:=h'} ρ' O' a:=
 ⟨hs,SS.mono (λb e=>le.A b e) le.dG d.ss,d.nt,d.defers⟩
theorem gH.le{m:Nat}{B:Nat->Option Value}{ρ':Id->Option Value}(h:gH m B ρ)(le:∀i v,ρ i=some v->ρ' i=some v):gH m B ρ':=λj d=>by obtain⟨v,a,b⟩:=h j d;exact⟨v,a,le _ _ b⟩
theorem wM{s:St}:∀{live:List (Nat×Option Nat)} {p:List AV×aB},mq s live=some p->∀q∈p.2,∃k,q.1=Id.s (1000000+k) 0
 | [],p,b,q,d=>by simp only [mq,Mt] at b;subst b;cases d
 | k::live,p,b,q,d=>by
  simp only [mq] at b;obtain⟨f,a,b⟩:=Mu.1 b;obtain⟨g,e,b⟩:=Mu.1 b;simp only [Mt] at b;subst b;rcases MQ.1 d with d | d
  .unfold qJ at a;split at a
   .cases a
   .split at a
    .simp only [Mt] at a;subst a;cases d
    .split at a
     .simp only [Mt] at a;subst a;cases d
     .split at a
      .split at a
       .simp only [Mt] at a;subst a;cases d
       .cases a
      .simp only [Mt] at a;subst a;rw [MI.1 d];exact⟨_,rfl⟩
      .cases a
  .exact wM e q d
theorem L5{f:FuncId}{fn:Func}{todo:List Item}{live:List (Nat×Option Nat)}{m:Nat×Nat}{B:Nat->Option Value}{xs:List T}{a:Act}(hN:mX P An Or)(Q:P.funcs[f]? =some fn)(hB:gH m.1 B ρ)(o:dN c fn.ntmps w s ρ O a)(e:uv Or f todo live m s=some xs):
  Ends P f fn (qL todo) a w (Fin P c B (cN P An f m.2 fn) (fF An f m.2) xs (eI O) w):=by
 unfold uv at e;replace e:=Mu.1 e;obtain⟨p,K,e⟩:=e;split at e
 .rename_i y;replace e:=Mu.1 e;obtain⟨seen,u,e⟩:=e;let l:Id->Option Value:=λi=>if p.2.any (λq=>decide (q.1=i)) then(match i with | .s d _=>some (a.tmps.getD (d - 1000000) undef) | _=>none) else ρ i;have N:∀q∈p.2,s.h q.1=none:=by
   intro q g;have:=MR.1 y q g;simpa using this
  have z:∀i,(∀q∈p.2,q.1≠i)->l i=ρ i:=by
   intro i r;have:p.2.any (λq=>decide (q.1=i))=false:=by rw [NZ];intro q g;simpa using r q g
   simp only [l,this,MZ,if_false]
  have F:∀q∈p.2,∀k,q.1= .s (1000000+k) 0->l q.1=some (a.tmps.getD k undef):=by intro q g k e;have:p.2.any (λx=>decide (x.1=q.1))=true:=Oe.2 ⟨q,g,by simp⟩;simp only [l,this,if_true];rw [e];simp
  have mono:∀i v,ρ i=some v->l i=some v:=by
   intro i v r;rw [z i (λq g e=> ?_)]
   .exact r
   .cases E:q.1.real with
    | true=>have:=(o.hs.cj _ E (N q g)).1;rw [e,r] at this;cases this
    | false=>have hm:p.2.any (λx=>decide (x.1=q.1))=true:=Oe.2 ⟨q,g,by simp⟩;obtain⟨k,ek⟩:=wM K q g;rw [ek] at E;cases E
  obtain⟨hv,X⟩:=BC o.hs o.ss mono K F;have U:HS c w (aJ s.h p.2) l O:=o.hs.DY (λq g=>by obtain⟨k,ek⟩:=wM K q g;rw [ek];rfl) N (A:=AA c w O) (λq g=>by
   obtain⟨k,sz,b,e,E⟩:=X q g;exact⟨sz,b,_,by rw [e],F q g k (by rw [e]),E⟩) z
  obtain⟨g1,g2,g3,g4,g5⟩:=qY u OY (by simp) (by simp);obtain⟨V,C⟩:=U.rn g1 g4 g5;have hA:∀b,AA c w O b->AA c w (ch seen O) b:=λb G=>⟨G.1,G.2.1,λi r=>by
   obtain⟨k,hk⟩:=C b ⟨i,r⟩;exact G.2.2 k hk⟩
  have Y:=az.rn (m:=seen) hA _ _ (λi r=>g3 i (MK _ r)) hv;have L:dN c fn.ntmps w (kZ live (iM seen p.1) (seen.map λi=>fH seen (aJ s.h p.2 i))) (ch seen l) (ch seen O) a:=
   ⟨V,λk=>BG Y k,o.nt,o.defers⟩
  have D:=Cr u (by
   exact List.pairwise_map.2 (List.nodup_range.imp λh e=>h (by simpa using e))) (by simp)
  rw [Oq] at D;have M:gH m.1 B (ch seen l):=by
   intro j J;obtain⟨v,Z,e2⟩:=hB.le mono j J;refine⟨v,Z, ?_⟩;obtain⟨t,ht⟩:=D;have:seen[j]? =some (.c j):=by rw [<-ht,Nb (by simpa using J)];simp [J]
   simp [ch,this,e2]
  exact(hN f fn todo live m _ _ xs e Q c w _ _ a B M L).mono λv w' I=>I.own C
 .simp at e
theorem sX:∀{l:List (Nat×Option Nat)},eZ s.h (la s l)
 | []=>by intro p a;cases a
 | (k,none)::l=>by simp only [la];exact sX
 | (k,some 0)::l=>by simp only [la];exact(qw _).append sX
 | (k,some (n+1))::l=>by
  simp only [la];refine eZ.append ?_ sX;cases Nat.beq n 999998 with
  | false=>intro p a;cases a
  | true=>
   show eZ s.h (wk s.h (s.t k).2);unfold wk;split
   .split
    .exact wh _
    .intro p a;cases a
   .intro p a;cases a
theorem B3{h:Id->Option ad}(hs:HS c w h ρ O)(v:AV):HS c w (tH h v) ρ O:=by
 unfold tH;split
 .rename_i i off;split
  .rename_i cs f;obtain⟨b,arr,t,q,y,z,B,C⟩:=hs.ae i _ f;have j:=hs.real (i:=i) (by rw [f];simp);have D:az w (AA c w O) ρ (cs.map (lB h)) arr.toList:=by
    have d:∀(l:List AV) (us:List Value),az w (AA c w O) ρ l us->az w (AA c w O) ρ (l.map (lB h)) us:=by
     intro l;induction l with
     | nil=>intro us h;exact h
     | cons x l E=>intro us h;simp only [Nh,az] at h⊢;obtain⟨u,r,e,o,p⟩:=h;exact⟨u,r,e,wW hs o,E r p⟩
    exact d _ _ B
   rw [dc];refine hs.go Le.refl (λk m=>⟨rfl,rfl,λ_ _=>rfl⟩) (λk x a=> ?_) (λk g a=> ?_) (λk a=> ?_) (λk m=>by rw [au _ _ (aN j)];exact hs.dr k m) hs.inj hs.lt
   .by_cases e:k=i
    .subst e;rw [aA] at a;simp only [Mt] at a;subst a;exact .inr ⟨b,arr,t,q,y,z,D,C⟩
    .rw [au _ _ e] at a;exact .inl ⟨a,rfl,λ_ _=>rfl⟩
   .by_cases e:k=i
    .subst e;rw [aA] at a;cases a
    .rw [au _ _ e] at a;exact hs.cj k g a
   .by_cases e:k=i
    .subst e;rw [aA] at a;cases a
    .rw [au _ _ e] at a;exact a
  .exact hs
 .exact hs
theorem AX(live:List (Nat×Option Nat))(bf:List AV)(a:List ad):lR (kZ live bf a):=by intro k g v e;simp [kZ] at e
theorem aY.qR{ae:Nat}:∀{cs:List T} {off:Nat},(∀(j:Nat) (x:T),cs[j]? =some x->∃v,w.cell? ⟨ae,off+j,none⟩=some v/\ay w A x v)->aY w A ae off cs
 | [],_,_=>by simp [aY]
 | x::cs,off,h=>by simp only [aY];refine⟨by simpa using h 0 x rfl,aY.qR λj y a=> ?_⟩;have:=h (j+1) y (by simpa using a);rw [show off+1+j=off+ (j+1) by omega];exact this
theorem CQ{i:Id}{ae sz col rsz:Nat}:∀{es:List Row} {base:Nat},aW es=true->cg w A ρ O i ae sz col rsz base es->(∀e∈es,∀d,O (.g i e.n)=some d->A d)->a8 w A ae sz base (es.map (pn col rsz))
 | [],_,_,_,_=>by simp [a8]
 | e::es,base,b,D,l=>by
  simp only [aW,NL,MB] at b;obtain⟨m,o⟩:=D;simp only [Nh,a8];obtain⟨q,I,r,u,v,J,z⟩:=m;have key:∃x,pn col rsz e=e.cs.set col x/\ay w A x u:=by
   obtain⟨en,G,eo⟩:=e;cases eo with
   | none=>simp at b
   | some p=>refine⟨_,rfl, ?_⟩;exact cz.DF z λd C=>l _ Mv d C
  obtain⟨x,F,E⟩:=key;rw [F];refine⟨by rw [OU];exact q,aY.qR λj y a=> ?_,CQ b.2 o λf B=>l f (Mx _ B)⟩;rw [NT] at a;split at a
  .rename_i k;subst k;split at a
   .cases a;exact⟨u,v,E⟩
   .cases a
  .rename_i k;exact r j y (λe=>k e.symm) a
theorem HS.Dd{i:Id}{b:Bool}{sz col rsz N:Nat}{es:List Row}(hs:HS c w h ρ O)(E:h i=some (.rows b sz col rsz N es))(D:aW es=true):
  ∃O',Le w ρ O w ρ O'/\HS c w (aF h i (some (.sl true sz b (es.map (pn col rsz))))) ρ O':=by
 classical
 have q:=hs.real (i:=i) (by rw [E];simp);let Q:Id->Option Nat:=λx=>if Of [i] x then none else O x;have G:Q i=none:=if_pos (.inl Mv);have Q2:∀n,Q (.g i n)=none:=λn=>if_pos (.inr ⟨i,n,Mv,rfl⟩);have o:∀x d,Q x=some d->O x=some d/\¬Of [i] x:=by
  intro x d k;simp only [Q] at k;split at k
  .cases k
  .rename_i K;exact⟨k,K⟩
 have B:∀x,x.real=true->x≠i->Q x=O x:=by
  intro x r k;refine if_neg ?_;rintro(hm | ⟨j,n,_,rfl⟩)
  .exact k (MI.1 hm)
  .cases r
 have C:∀x n,x≠i->Q (.g x n)=O (.g x n):=by
  intro x n k;refine if_neg ?_;rintro(hm | ⟨j,m,J,e⟩)
  .rw [<-MI.1 hm] at q;cases q
  .simp only [Id.g.injEq] at e;exact k (e.1.trans (MI.1 J))
 have le:Le w ρ O w ρ Q:=⟨rfl,rfl,rfl,M2 _,λ_ _ h=>h,λ_ _ _=>rfl,λx d k=> .inl ⟨x,(o x d k).1⟩⟩;have u:∀x d,Of [i] x->O x=some d->AA c w Q d:=by intro x d k p;refine⟨.inr (hs.own x d p),hs.lt x d p,λy v=> ?_⟩;obtain⟨L,M⟩:=o y d v;exact M (hs.inj x y d p L▸k)
 refine⟨Q,le,hs.me le (λx y k=> ?_) (λx r k=> ?_) (λx n=>by rw [au _ _ (aN q)];exact hs.dr x n) (λx n k=> ?_) hs.gone (λx y d k v=>hs.inj x y d (o x d k).1 (o y d v).1) (λx d k=>hs.lt x d (o x d k).1)⟩
 .by_cases e:x=i
  .subst e;rw [aA] at k;cases k;right;obtain⟨a,cap,r1,r2,r3,r4,z⟩:=hs.ae x _ E;refine⟨_,r1,⟨a,cap,by rw [NM],by rw [NM];exact r2,r3,trivial, ?_⟩,λ_=>G⟩;rcases z with z | ⟨ae,off,arr,t,U,V,X,Y,Z⟩
   .exact .inl z
   .refine .inr ⟨ae,off,arr,t,U,by simp only [if_true];exact u x ae (.inl Mv) V,X,Y, ?_⟩;refine CQ (ρ:=ρ) (O:=O) (i:=x) D (cg.move (λb I=>le.A b I) (λ_ _=>rfl) (λf _=>⟨rfl,rfl,λ_ _=>rfl⟩) Z) λf hf d p=>u _ d (.inr ⟨x,f.n,Mv,rfl⟩) p
  .rw [au _ _ e] at k;have F:=hs.real (i:=x) (by rw [k];simp);exact .inl ⟨k,B x F e,λ_ _=>rfl,λn=>⟨rfl,C x n e,λ_ _=>rfl⟩⟩
 .have l:x≠i:=λe=>by rw [e,aA] at k;cases k
  rw [au _ _ l] at k;rw [B x r l];exact hs.cj x r k
 .have l:x≠i:=λe=>by rw [e,aA] at k;cases k
  rw [au _ _ l] at k;rw [C x n l];exact hs.eD x n k
theorem xD{R:Type}:∀{l:List Id} {h:Id->Option ad} {O:Id->Option Nat} {K:aB->Option R} {r:R},HS c w h ρ O->rB h l K=some r->∃us O',K us=some r/\Le w ρ O w ρ O'/\HS c w (aJ h us) ρ O'
 | [],h,O,K,r,hs,e=>⟨[],O,e,Le.refl,hs⟩
 | i::l,h,O,K,r,hs,e=>by
  simp only [rB] at e;split at e
  .rename_i b sz col rsz o es k;replace e:=aL e (.inl rfl);obtain⟨_,a,e⟩:=e;have a:aW es=true:=by
    split at a
    .assumption
    .cases a
   obtain⟨m,bY,d⟩:=hs.Dd k a;obtain⟨us,j,e,g,f⟩:=xD d e;exact⟨_,j,e,bY.trans g,by rw [cD];exact f⟩
  .exact xD hs e
theorem LC{h:Id->Option ad}{O:Id->Option Nat}(hs:HS c w h ρ O)(v:AV):∃O',Le w ρ O w ρ O'/\HS c w (xE h v) ρ O':=by
 unfold xE;split
 .split
  .rename_i b sz col rsz g es f;cases e:aW es with
   | true=>obtain⟨d,bY,a⟩:=hs.Dd f e;exact⟨d,bY,by rw [cond_true,dc];exact a⟩
   | false=>exact⟨O,Le.refl,hs⟩
  .exact⟨O,Le.refl,hs⟩
 .exact⟨O,Le.refl,hs⟩
theorem De:∀(l:List AV) {h:Id->Option ad} {O:Id->Option Nat},HS c w h ρ O->∃O',Le w ρ O w ρ O'/\HS c w (xF h l) ρ O'
 | [],h,O,hs=>⟨O,Le.refl,hs⟩
 | v::r,h,O,hs=>by obtain⟨f,bY,a⟩:=LC hs v;obtain⟨e,d,b⟩:=De r a;exact⟨e,bY.trans d,b⟩
theorem LB{h:Id->Option ad}{O:Id->Option Nat}(hs:HS c w h ρ O)(v:AV):∃O',Le w ρ O w ρ O'/\HS c w (xC h v) ρ O':=by
 unfold xC;split
 .split
  .exact De _ hs
  .exact⟨O,Le.refl,hs⟩
 .exact⟨O,Le.refl,hs⟩
theorem qO{t:Nat->Option Gs×AV}:∀{l:List (Nat×Option Nat)} {h:Id->Option ad} {O:Id->Option Nat},HS c w h ρ O->∃O',Le w ρ O w ρ O'/\HS c w (pd t h l) ρ O'
 | [],h,O,hs=>⟨O,Le.refl,hs⟩
 | (k,some n)::l,h,O,hs=>by
  simp only [pd];cases Nat.beq n 999999 with
  | true=>exact qO (B3 hs _)
  | false=>
   cases Nat.beq n 999998 with
   | true=>obtain⟨f,bY,a⟩:=LB hs (t k).2;obtain⟨e,d,b⟩:=qO (t:=t) (l:=l) (B3 a (t k).2);exact⟨e,bY.trans d,b⟩
   | false=>exact qO hs
 | (k,none)::l,h,O,hs=>by simp only [pd];exact qO hs
theorem xS{f:FuncId}{fn:Func}{todo:List Item}{live:List (Nat×Option Nat)}{m:Nat×Nat}{B:Nat->Option Value}{xs:List T}{a:Act}(y:mX P An Or)(o:P.funcs[f]? =some fn)(x:gH m.1 B ρ)(i:dN c fn.ntmps w s ρ O a)(e:jQ Or f todo live m s=some xs):
  Ends P f fn (qL todo) a w (Fin P c B (cN P An f m.2 fn) (fF An f m.2) xs (eI O) w):=by
 unfold jQ at e;obtain⟨us,u,e⟩:=Mu.1 e;obtain⟨C,bY,p,_⟩:=i.hs.nv sX;have d:=i.xG bY p;obtain⟨z,D,b,q⟩:=xc d.hs u;obtain⟨E,g,r⟩:=qO (t:=s.t) (l:=live) q;have k:=d.xG (b.trans g) r;exact(L5 y o (x.le b.dG) k e).mono λv w' j=>Fin.le bY (Fin.le (b.trans g) j)
theorem AR{f:FuncId}{fn:Func}{nt:Nat}{m:Nat×Nat}{B:Nat->Option Value}{xs:List T}{a:Act}(d:gH m.1 B ρ)(b:dN c nt w s ρ O a)(h:sR P An f fn m s=some xs):
  ∃v,(results fn a.tmps).run P w= .ok v w/\Fin P c B (cN P An f m.2 fn) (fF An f m.2) xs (eI O) w v w:=by
 unfold sR at h;cases e:(cN P An f m.2 fn).any Bm with
 | true=>rw [e,cond_true] at h;exact AQ d b h
 | false=>rw [e,cond_false] at h;obtain⟨us,k,h,bY,g⟩:=xD b.hs h;obtain⟨v,i,j⟩:=AQ d (b.xG bY g) h;exact⟨v,i,Fin.le bY j⟩
theorem jA(hm:P.follows .mixedOrders=true)(u:hU P An Or)(r:mX P An Or){f:FuncId}{fn:Func}{m:Nat×Nat}{B:Nat->Option Value}(o:P.funcs[f]? =some fn):∀{n:Nat} {j:Bool} {todo:List Item} {xs:List T} {w:World} {s:St} {ρ:Id->Option Value} {O:Id->Option Nat} {a:Act},
  gH m.1 B ρ->dN c fn.ntmps w s ρ O a->lR s->ev P An Or f fn m n j todo s=some xs->Ends P f fn todo a w (Fin P c B (cN P An f m.2 fn) (fF An f m.2) xs (eI O) w)
 | 0,j,todo,xs,w,s,ρ,O,a,i,d,l,e=>by simp [ev] at e
 | n+1,j,[],xs,w,s,ρ,O,a,i,d,l,e=>by simp only [ev] at e;obtain⟨v,C,D⟩:=AR i d e;exact λb K F cs=>⟨a,w,v,[], .one step_end,d.defers,C,D⟩
 | n+1,j, .code .skip::k,xs,w,s,ρ,O,a,i,d,l,e=>by simp only [ev] at e;exact Ends.step (λb cs=>step_skip) (jA hm u r o i d l e)
 | n+1,j, .code (.seq x y)::k,xs,w,s,ρ,O,a,i,d,l,e=>by simp only [ev] at e;exact Ends.step (λb cs=>step_seq) (jA hm u r o i d l e)
 | n+1,j, .code (.region id ops z)::k,xs,w,s,ρ,O,a,i,d,l,e=>by
  simp only [ev] at e;split at e
  .rename_i live _;exact xS (todo:= .code (.region id ops z)::k) r o i d e
  .obtain⟨s',e,G⟩:=JZ hm u d l e;refine Ends.region (G _ λQ w' ρ' O' le J=>⟨rfl, ?_⟩);exact(jA hm u r o (i.le le.dG) J (EL _) e).mono λv N E=>E.le le
 | n+1,j, .code (.cond x p q)::k,xs,w,s,ρ,O,a,i,d,l,e=>by
  simp only [ev] at e;replace e:=Mu.1 e;obtain⟨y,M,e⟩:=e;replace e:=aL e (.inl rfl);obtain⟨t,L,e⟩:=e;have I:=SS.get (h:=s.h) d.ss (g:=none) trivial x;rw [show(⟨s.t,s.h⟩:St)=s from rfl,AV.jP M,T.gJ L] at I;simp only [aj,ay] at I;refine Ends.step (todo':= .code (if t then p else q)::k) (λb cs=>step_cond I) ?_;cases t with
  | true=>exact jA hm u r o i d l e
  | false=>exact jA hm u r o i d l e
 | n+1,j, .code (.block id b)::k,xs,w,s,ρ,O,a,i,d,l,e=>by simp only [ev] at e;exact Ends.step (λb cs=>step_block) (jA hm u r o i d l e)
 | n+1,j, .code (.loop b)::k,xs,w,s,ρ,O,a,i,d,l,e=>by
  simp only [ev] at e;split at e
  .exact Ends.step (λb cs=>step_loop) (xS (todo:= .inLoop b::k) r o i d e)
  .simp at e
 | n+1,j, .code (.exit id)::k,xs,w,s,ρ,O,a,i,d,l,e=>by
  simp only [ev] at e;split at e
  .rename_i U F;exact Ends.step (λb cs=>step_exit F) (jA hm u r o i d l e)
  .simp at e
 | n+1,j, .code .ret::k,xs,w,s,ρ,O,a,i,d,l,e=>by simp only [ev] at e;obtain⟨v,C,D⟩:=AR i d e;exact λb K F cs=>⟨a,w,v,_, .one step_ret,d.defers,C,D⟩
 | n+1,j, .inBlock id::k,xs,w,s,ρ,O,a,i,d,l,e=>by simp only [ev] at e;exact Ends.step (λb cs=>step_inBlock) (jA hm u r o i d l e)
 | n+1,j, .inLoop b::k,xs,w,s,ρ,O,a,i,d,l,e=>by
  simp only [ev] at e;split at e
  .exact Ends.step (λb cs=>step_inLoop) (xS (todo:= .inLoop b::k) r o i d e)
  .simp at e
 | n+1,j, .code (.label _)::k,xs,w,s,ρ,O,a,i,d,l,e=>by simp [ev] at e
 | n+1,j, .code (.goto _)::k,xs,w,s,ρ,O,a,i,d,l,e=>by simp [ev] at e
theorem H4{a:Id->Option Value}{bf:List AV}{args:List Value}(i:az w A a bf args)(m k:Nat):aj w A a (bf.getD k .top) ((args.toArray++Array.replicate m undef).getD k undef):=by
 have e:(args.toArray++Array.replicate m undef).getD k undef= (args++List.replicate m undef).getD k undef:=by rw [NO,MT,<-Nn];simp
 rw [e,MT,MT];cases f:bf[k]? with
 | none=>simp [aj]
 | some v=>obtain⟨u,d,g⟩:=i.get f;have b:k < args.length:=(My.1 d).1;rw [Nb b,d];exact g
theorem LR(G:kL P An)(hm:P.follows .mixedOrders=true)(K:∀(f:FuncId) (fn:Func),P.funcs[f]? =some fn->fn.name≠ "runtime.NumGoroutine")(F:hU P An Or)(E:mX P An Or):hU P An (ax P An Or):=by
 intro f bf a xs e;simp only [ax] at e;split at e
 .rename_i r y;exact G f bf a xs (y.trans e)
 split at e
 .rename_i fn l;split at e
  .rename_i q d;split at e
   .rename_i J;refine⟨fn,q,l,d,K f fn l,λc w ρ O args N hs m=> ?_⟩;have hl:=m.length;have eh:(qv bf a).h=iA a:=by funext i;cases i <;> rfl
    have C:dN c fn.ntmps w (qv bf a) ρ O {tmps:=args.toArray++Array.replicate (fn.ntmps - args.toArray.size) undef,defers:= []}:=by refine⟨by rw [eh];exact hs,λk=>H4 m _ k, ?_,rfl⟩;simp only [OZ,NI,Array.size_replicate];omega
    have o:lR (qv bf a):=by intro k g v e;simp [qv] at e
    have D:gH (a.length,fA a.head?).1 (mg a.length ρ) ρ:=by
     intro j u;simp only at u;have z:iA a (.c j)=some a[j]:=by simp [iA,u]
     obtain⟨v,p,_⟩:=hs.Dl z;exact⟨v,by simp [mg,u,p],p⟩
    refine(EH l d (jA hm F E l D C o e)).mono λe w' ⟨v,I,b⟩=> ?_;obtain⟨rs,M,x2,o1,o2,p,L,B,x,y,ho⟩:=b.res;exact⟨rs,M,x2,o1,o2,by rw [I,p],⟨b.os,b.output,b.tape,b.size,b.ae⟩,L,B,x,y,ho⟩
   .simp at e
  .simp at e
 .simp at e
theorem LQ(hm:P.follows .mixedOrders=true)(l:hU P An Or)(j:mX P An Or):mX P An (ax P An Or):=by
 intro f fn todo live m bf p xs e d c w ρ O a B i g;simp only [ax,d] at e;split at e
 .exact jA hm l j d i g (AX _ _ _) e
 .rename_i o;have:qL todo=todo:=by
   unfold qL;split
   .rename_i b k;exact(o b k rfl).elim
   .rfl
  rw [this];exact jA hm l j d i g (AX _ _ _) e
theorem B7(d:kL P An)(hm:P.follows .mixedOrders=true)(g:∀(f:FuncId) (fn:Func),P.funcs[f]? =some fn->fn.name≠ "runtime.NumGoroutine"):∀n,hU P An (gS P An n)/\mX P An (gS P An n)
 | 0=>⟨λ_ _ _ _ e=>by simp [gS] at e,λ_ _ _ _ _ _ _ _ e=>by simp [gS] at e⟩
 | n+1=>by obtain⟨a,b⟩:=B7 d hm g n;exact⟨LR d hm g a b,LQ hm a b⟩
theorem B9{k:Key}{vs:List AV}{a:List ad}{r:List T}(e:jI P An k vs a=some r):∃n,gS P An n k vs a=some r:=by
 unfold jI at e;split at e
 .rename_i b;simp only [Mt] at e;exact⟨_,by rw [<-e];exact Om (Om b)⟩
 .simp at e
theorem JM(b:kL P An)(hm:P.follows .mixedOrders=true)(d:∀(f:FuncId) (fn:Func),P.funcs[f]? =some fn->fn.name≠ "runtime.NumGoroutine"):hU P An (jI P An):=by intro f bf a xs e;obtain⟨n,e⟩:=B9 e;exact(B7 b hm d n).1 f bf a xs e
end
open Go Go.IntKind
abbrev DS:=Key×List AV×List ad×List T
def uE(O:aq)(L:List DS):Prop:= ∀q∈L,O q.1 q.2.1 q.2.2.1=some q.2.2.2
def aE{R:Type}(F:aq->Option R):Prop:= ∀O r,F O=some r->∃L,uE O L/\∀O',uE O' L->F O'=some r
section
variable {P:Program} {A:ct} {R S:Type}
theorem aE.const(m:Option R):aE (λ_=>m):=λ_ r h=>⟨[],(by intro q a;cases a),λ_ _=>h⟩
theorem aE.bind{F:aq->Option R}{G:R->aq->Option S}(j:aE F)(k:∀a,aE (G a)):aE (λO=>(F O).bind λa=>G a O):=by
 intro O r h;obtain⟨a,l,h⟩:=Mu.1 h;obtain⟨L1,e,g⟩:=j O a l;obtain⟨L2,f,i⟩:=k a O r h;refine⟨L1++L2,λq b=> ?_,λO' d=> ?_⟩
 .rcases MQ.1 b with b | b
  .exact e q b
  .exact f q b
 .have:=g O' (λq b=>d q (MM _ b));simp only [this,Mw];exact i O' (λq b=>d q (MK _ b))
theorem aE.ask(k:Key)(vs:List AV)(a:List ad):aE (λO=>O k vs a):=λO r h=>⟨[(k,vs,a,r)],(by intro q b;simp only [MI] at b;subst b;exact h),
 λO' d=>d _ (MI.2 rfl)⟩
theorem aE.cond{b:Bool}{F G:aq->Option R}(a:aE F)(d:aE G):aE (λO=>cond b (F O) (G O)):=by cases b <;> assumption
theorem aE.ite{p:Prop}[Decidable p]{F G:aq->Option R}(b:aE F)(d:aE G):aE (λO=>if p then F O else G O):=by
 by_cases a:p
 .simp only [a,if_true];exact b
 .simp only [a,if_false];exact d
theorem aE.aa{d:Type}[Inhabited d]{c:Option Bool}{m:Option d}{K:d->aq->Option R}(h:∀a,aE (K a)):aE (λO=>aa c m λa=>K a O):=by
 unfold Aev.aa;cases m with
 | some a=>exact h a
 | none=>cases c with
  | none=>exact aE.const none
  | some b=>exact aE.cond (aE.const none) (h default)
theorem aE.dX{k:Ck}{c:Option Bool}{x:T}{K:T->aq->Option R}(h:∀a,aE (K a)):aE (λO=>dX k c x λa=>K a O):=by
 unfold Aev.dX;cases k <;> (try dsimp only)
 case x=>exact h x
 all_goals exact aE.aa λa=>h _
theorem aE.dR{c:Option Bool}:∀{ks:List Ck} {xs:List T} {K:List T->aq->Option R},(∀a,aE (K a))->aE (λO=>dR c ks xs λa=>K a O)
 | [],xs,K,h=>h xs
 | _::_,[],K,h=>h []
 | k::ks,x::xs,K,h=>by simp only [Aev.dR];exact aE.dX (K:=λy O=>Aev.dR c ks xs λb=>K (y::b) O) λy=>aE.dR (K:=λb O=>K (y::b) O) λb=>h _
theorem aE.kK{c:Option Bool}{t:TypeId}{v:AV}{K:AV->aq->Option R}(h:∀a,aE (K a)):aE (λO=>kK P c t v λa=>K a O):=by
 unfold Aev.kK;cases v <;> (try exact h _)
 case t x=>exact aE.dX (K:=λy O=>K (.t y) O) λy=>h _
 case agg vs=>
  dsimp only;cases dz vs with
  | none=>exact h _
  | some l=>exact aE.dR (K:=λl O=>K (.agg (l.map .t)) O) λy=>h _
theorem aE.gY{c:Option Bool}:∀{ts:List TypeId} {vs:List AV} {K:List AV->aq->Option R},(∀a,aE (K a))->aE (λO=>gY P c ts vs λa=>K a O)
 | [],vs,K,h=>h vs
 | _::_,[],K,h=>h []
 | t::ts,v::vs,K,h=>by simp only [Aev.gY];exact aE.kK (K:=λu O=>Aev.gY P c ts vs λus=>K (u::us) O) λu=>aE.gY (K:=λus O=>K (u::us) O) λus=>h _
theorem aE.fj{s:St}{d:Nat}{c:Option Bool}{f:FuncId}{args:List AV}{K:AV->aB->Option R}:aE (λO=>fj P A O s d c f args K):=by
 unfold Aev.fj;cases P.funcs[f]? with
 | none=>exact aE.const none
 | some fn=>
  dsimp only;have e:∀(m:Option (List T)) (k:List T->Option R),Aev.aa none m k=m.bind k:=by intro m k;cases m <;> rfl
  cases A.gf f with
  | none=>
   dsimp only;refine aE.bind (F:=λ_=>js ((cN P A f 0 fn).all oR) (A.deep f) s.h args) (aE.const _) λp=> ?_;simp only [e];refine aE.gY λq=> ?_;refine aE.bind (F:=λO=>cB c (O (.call f) q [])) ?_ λxs=>aE.const _;unfold cB;cases c with
   | none=>exact aE.ask _ _ _
   | some b=>exact aE.cond (aE.ask _ _ _) (aE.const _)
  | some a=>
   cases c with
   | some b=>exact aE.const none
   | none=>dsimp only;refine aE.bind (F:=λ_=>jX s.h (uW a args) a args) (aE.const _) λp=> ?_;refine aE.bind (F:=λ_=>iI (2000000+d) 0 (aJ s.h p.2) (lI (nc (bS p.1) []) (fF A f (fA ((bS p.1).head?.bind (aJ s.h p.2)))))) (aE.const _) λus=> ?_;refine aE.bind (F:=λ_=>dV (aJ (aJ s.h p.2) us) 1000 (bS p.1) []) (aE.const _) λseen=> ?_;refine aE.cond ?_ (aE.const none);simp only [e];refine aE.gY λq=> ?_;exact aE.bind (aE.ask _ _ _) λxs=>aE.const _
theorem aE.hZ{fE:Bool}{s:St}{d:Nat}{c:Option Bool}{f:FuncId}{args:List AV}{K:AV->aB->Option R}:aE (λO=>hZ fE P A O s d c f args K):=by
 unfold Aev.hZ;cases _root_.cond fE (gw args) none with
 | none=>exact aE.fj
 | some q=>
  obtain⟨a,i,n,e⟩:=q;cases c with
  | some b=>exact aE.const none
  | none=>
   dsimp only;cases s.h i with
   | none=>exact aE.const none
   | some b=>
    cases b with
    | rows b sz col rsz g es=>
     dsimp only;cases cq n es with
     | none=>exact aE.const none
     | some p=>exact aE.cond aE.fj (aE.const none)
    | _=>exact aE.const none
theorem aE.cA{g:Option Gs}{o:Oper}{s:St}:aE (λO=>cA P A O g o s):=by
 unfold Aev.cA gI;cases o.op <;> (try dsimp only) <;> try exact aE.const _
 case makeFunc fn a b=>cases fn <;> (try dsimp only) <;> exact aE.const _
 case call cl=>
  cases cl.callee <;> (try dsimp only)
  case value d=>cases ko (s.get g d) <;> (try dsimp only) <;> first | exact aE.hZ | exact aE.const _
  case builtin b=>cases b <;> (try dsimp only) <;> exact aE.const _
  all_goals exact aE.const _
theorem aE.dU{a:Bool}{nt:Nat}{ops:Array Oper}{o:Oper}{s:St}:aE (λO=>dU P A O a nt ops o s):=by
 unfold Aev.dU mA;have key:∀{G:aq->Option Gs->Option St},(∀g,aE (λO=>G O g))->aE (λO=>cL ops o s (G O)):=λ{G} b=>by rw [show(λO=>cL ops o s (G O))=λO=>(cL ops o s some).bind (G O) from funext λO=>s4 _ _ _ _];exact aE.bind (aE.const _) b
 refine key λg=> ?_;cases nR A a o g with
 | none=>simp only [oe];exact aE.bind aE.cA λp=>aE.const _
 | some d=>simp only [oe];exact aE.cond (aE.cond (aE.bind aE.cA λp=>aE.const _) (aE.const _)) (aE.const _)
theorem aE.gU{a:Bool}{nt:Nat}{ops:Array Oper}:∀(l:List Oper) (s:St),aE (λO=>gU P A O a nt ops l s)
 | [],s=>aE.const _
 | o::r,s=>aE.bind (F:=λO=>Aev.dU P A O a nt ops o s) aE.dU λs'=>aE.gU r s'
theorem aE.region{nt:Nat}{a:Bool}{ops:Array Oper}{s:St}{K:St->aq->Option R}(h:∀s,aE (K s)):aE (λO=>region P A O nt a ops s λs'=>K s' O):=by
 unfold Aev.region;refine aE.cond ?_ (aE.const none);have:(λO=>rq P A O a nt ops ops.toList s λs'=>K s'.clear O)=λO=>(Aev.gU P A O a nt ops ops.toList s).bind λs'=>K s'.clear O:=by funext O;rw [xq]
 rw [this];exact aE.bind (aE.gU _ _) λs'=>h _
theorem aE.jQ{f:FuncId}{todo:List Item}{live:List (Nat×Option Nat)}{m:Nat×Nat}{s:St}:aE (λO=>jQ O f todo live m s):=by unfold Aev.jQ;refine aE.bind (aE.const _) λus=> ?_;unfold Aev.uv;refine aE.bind (aE.const _) λp=>aE.ite ?_ (aE.const none);exact aE.bind (aE.const _) λseen=>aE.ask _ _ _
theorem aE.ev{f:FuncId}{fn:Func}{m:Nat×Nat}:∀(n:Nat) (a:Bool) (todo:List Item) (s:St),aE (λO=>ev P A O f fn m n a todo s)
 | 0,a,todo,s=>by simp only [Aev.ev];exact aE.const none
 | n+1,a,[],s=>by simp only [Aev.ev];exact aE.const _
 | n+1,a, .code .skip::k,s=>by simp only [Aev.ev];exact aE.ev n _ _ _
 | n+1,a, .code (.seq x y)::k,s=>by simp only [Aev.ev];exact aE.ev n _ _ _
 | n+1,a, .code (.region id ops d)::k,s=>by
  simp only [Aev.ev];cases e:(bif a then A.join f id else none) with
  | some live=>exact aE.jQ
  | none=>exact aE.region λs'=>aE.ev n _ _ _
 | n+1,a, .code (.cond x p q)::k,s=>by simp only [Aev.ev];refine aE.bind (F:=λ_=>(s.get none x).t?) (aE.const _) λy=>aE.aa λt=>aE.cond (aE.ev n _ _ _) (aE.ev n _ _ _)
 | n+1,a, .code (.block id b)::k,s=>by simp only [Aev.ev];exact aE.ev n _ _ _
 | n+1,a, .code (.loop b)::k,s=>by
  simp only [Aev.ev];cases A.live f (mF b) with
  | some live=>exact aE.jQ
  | none=>exact aE.const none
 | n+1,a, .code (.exit id)::k,s=>by
  simp only [Aev.ev];cases exitTo id k with
  | some g=>exact aE.ev n _ _ _
  | none=>exact aE.const none
 | n+1,a, .code .ret::k,s=>by simp only [Aev.ev];exact aE.const _
 | n+1,a, .inBlock id::k,s=>by simp only [Aev.ev];exact aE.ev n _ _ _
 | n+1,a, .inLoop b::k,s=>by
  simp only [Aev.ev];cases A.live f (mF b) with
  | some live=>exact aE.jQ
  | none=>exact aE.const none
 | n+1,a, .code (.label _)::k,s=>by simp only [Aev.ev];exact aE.const _
 | n+1,a, .code (.goto _)::k,s=>by simp only [Aev.ev];exact aE.const _
 | n+1,a, .code (.rangeFunc ..)::k,s=>by simp only [Aev.ev];exact aE.const _
 | n+1,a, .code (.scope _)::k,s=>by simp only [Aev.ev];exact aE.const _
 | n+1,a, .code (.refuse _)::k,s=>by simp only [Aev.ev];exact aE.const _
 | n+1,a, .inRegion ..::k,s=>by simp only [Aev.ev];exact aE.const _
 | n+1,a, .inScope _::k,s=>by simp only [Aev.ev];exact aE.const _
 | n+1,a, .inRangeFunc _::k,s=>by simp only [Aev.ev];exact aE.const _
 | n+1,a, .endRangeFunc _::k,s=>by simp only [Aev.ev];exact aE.const _
 | n+1,a, .beginRound::k,s=>by simp only [Aev.ev];exact aE.const _
 | n+1,a, .extern ..::k,s=>by simp only [Aev.ev];exact aE.const _
 | n+1,a, .call ..::k,s=>by simp only [Aev.ev];exact aE.const _
theorem aE.ax(k:Key)(vs:List AV)(a:List ad):aE (λO=>ax P A O k vs a):=by
 cases k with
 | call f=>
  simp only [Aev.ax];cases A.ext f vs a with
  | some r=>exact aE.const _
  | none=>
   dsimp only;cases P.funcs[f]? with
   | none=>exact aE.const _
   | some fn=>
    dsimp only;cases fn.body with
    | none=>exact aE.const _
    | some c=>exact aE.ite (aE.ev _ _ _ _) (aE.const _)
 | node f todo live m=>
  simp only [Aev.ax];cases P.funcs[f]? with
  | none=>exact aE.const _
  | some fn=>
   dsimp only;split
   .exact aE.ev _ _ _ _
   .exact aE.ev _ _ _ _
theorem B8:∀(n:Nat) {k:Key} {vs:List AV} {a:List ad} {r:List T},gS P A n k vs a=some r->gS P A (n+1) k vs a=some r
 | 0,k,vs,a,r,h=>by simp [gS] at h
 | n+1,k,vs,a,r,h=>by obtain⟨L,e,g⟩:=aE.ax (P:=P) (A:=A) k vs a _ r h;exact g _ λq b=>B8 n (e q b)
theorem tJ{n m:Nat}(b:n<=m){k:Key}{vs:List AV}{a:List ad}{r:List T}(h:gS P A n k vs a=some r):gS P A m k vs a=some r:=by
 induction b with
 | refl=>exact h
 | step _ d=>exact B8 _ d
theorem w8{n:Nat}{k:Key}{vs:List AV}{e:List ad}{r:List T}(h:gS P A n k vs e=some r):jI P A k vs e=some r:=by unfold jI;have d:∃n r,gS P A n k vs e=some r:=⟨n,r,h⟩;rw [dif_pos d];have f:=Om (Om d);have a:=tJ (Nat.le_max_left n (Classical.choose d)) h;have b:=tJ (Nat.le_max_right n (Classical.choose d)) f;rw [a] at b;exact b.symm
theorem ah{k:Key}{vs:List AV}{b:List ad}{r:List T}(h:ax P A (jI P A) k vs b=some r):jI P A k vs b=some r:=by
 obtain⟨L,e,g⟩:=aE.ax (P:=P) (A:=A) k vs b _ r h;have:∃n,uE (gS P A n) L:=by
  clear g h;induction L with
  | nil=>exact⟨0,(by intro q a;cases a)⟩
  | cons q L i=>
   obtain⟨n,d⟩:=i λf a=>e f (Mx _ a);obtain⟨m,hm⟩:=B9 (e q Mv);refine⟨max n m,λf a=> ?_⟩;rcases MN.1 a with rfl | a
   .exact tJ (Nat.le_max_right _ _) hm
   .exact tJ (Nat.le_max_left _ _) (d f a)
 obtain⟨n,d⟩:=this;exact w8 (n:=n+1) (g _ d)
end
open Go Go.IntKind
section
variable {P:Program} {An:ct} {w w':World}
theorem rZ.below(k:rZ w w'):Go.RowKit.Below w.heap.size w w':=⟨k.os,k.tape,k.output,k.size,k.ae⟩
theorem EI{f:FuncId}{fn:Func}{bf:List AV}{args:List Value}{A0:Nat->Prop}(y:kL P An)(hm:P.follows .mixedOrders=true)(B:∀(f:FuncId) (fn:Func),P.funcs[f]? =some fn->fn.name≠ "runtime.NumGoroutine")
  (l:P.funcs[f]? =some fn) (d:An.gf f=none) (i:cN P An f 0 fn= [.f .b]) (r:∀b,A0 b->b < w.heap.size) (g:az w A0 (λ_=>none) bf args)
  (e:jI P An (.call f) bf []=some [.bool true]) (u:GlobOk w:=by exact Go.Aev.globOk _):Calls P f args.toArray w λe w'=>e= .returned (.bool true)/\Go.RowKit.Below w.heap.size w w':=by
 obtain⟨E,o,a,_,_,p⟩:=JM y hm B f bf [] _ e;rw [l] at a;simp only [Mt] at a;subst a;refine(p.values d A0 w args r g u).mono λe w' ⟨rs,own,z,C,_,_,m⟩=> ?_;rw [i] at m;obtain⟨x,G,v,F,ob,D,j,rfl,_,q,I,rfl,_⟩:=m;simp only [NN] at j;obtain⟨rfl,rfl⟩:=j;obtain⟨_,k,_⟩:=q;simp only [ay] at k;subst k;exact⟨z,C.below⟩
end
open Go Go.IntKind
abbrev I(n:Int):AV:= .t (.int .i64 n)
abbrev B(b:Bool):AV:= .t (.bool b)
theorem aP{b R:Type}[Inhabited b](c:Option Bool)(a:b)(k:b->Option R):aa c (some a) k=k a:=by cases c <;> rfl
theorem bm{a R:Type}[Inhabited a](m:Option a)(k:a->Option R):aa (some false) m k=k (m.getD default):=by cases m <;> rfl
theorem aX{a:Type}(x:a)(l:List a):(x::l).head? =some x:=by cases l <;> rfl
theorem bQ{a:Type}(x:a)(l:List a):(x::l).tail=l:=by cases l <;> rfl
theorem oA{a:Type}(l:List a):l.drop 0=l:=by cases l <;> rfl
theorem l4{a:Type}(x:a)(l:List a):(x::l).drop 1=l:=by cases l <;> rfl
theorem sF{a:Type}(x y:a)(l:List a):(x::y::l).drop 2=l:=by cases l <;> rfl
theorem ql{a:Type}(x y z:a)(l:List a):(x::y::z::l).drop 3=l:=by cases l <;> rfl
theorem yS{a:Type}(x y z u:a)(l:List a):(x::y::z::u::l).drop 4=l:=by cases l <;> rfl
theorem yT{a:Type}(x y z u v:a)(l:List a):(x::y::z::u::v::l).drop 5=l:=by cases l <;> rfl
theorem yU{a:Type}(x y z u v t:a)(l:List a):(x::y::z::u::v::t::l).drop 6=l:=by cases l <;> rfl
theorem bT(b:Bool):(T.bool b).bool? =some b:=by cases b <;> rfl
theorem bn(k:IntKind)(n:Int):(T.int k n).int? k=some n:=by cases k <;> simp [T.int?]
theorem fS(s:ByteArray):(T.str s).bc =some s:=by cases s;rfl
theorem bU(sz:Nat)(b:Bool)(l:List (List T)):(T.ab sz b l).an sz=some (b,l):=by cases b <;> simp [T.an]
theorem bY(sz:Nat)(b:Bool):(T.af b).an sz=some (b,[]):=by cases b <;> rfl
theorem Cj(l:List T):(T.ptr l).nL =some l:=by cases l <;> rfl
theorem AL(k:IntKind)(n:Int):(T.int k n).nr =some ():=by cases k <;> rfl
theorem AK(b:Bool):(T.bool b).nr =some ():=by cases b <;> rfl
theorem A6(b:ByteArray):(T.str b).nr =some ():=by cases b;rfl
theorem aZ{d:Type}(a b:d):cond true a b=a:=by simp
theorem bo{d:Type}(a b:d):cond false a b=b:=by simp
theorem fR:(!true)=false:=by decide
theorem fQ:(!false)=true:=by decide
theorem fy(m:Option (List T)):cB none m=m:=by cases m <;> rfl
theorem dJ(m:Option (List T)):cB (some true) m=m:=by cases m <;> rfl
theorem dY(m:Option (List T)):cB (some false) m=some []:=by cases m <;> rfl
theorem et{d:Type}(p:Prop)[Decidable p](a b:d):(bif decide p then a else b)=if p then a else b:=by by_cases h:p <;> simp [h]
theorem yG{d:Type}(p:Prop)[Decidable p](a b:d):(bif !decide p then a else b)=if p then b else a:=by by_cases h:p <;> simp [h]
theorem uY{d:Type}(m n:Int)(a b:d):(bif m==n then a else b)=if m=n then a else b:=by
 by_cases h:m=n
 .simp [h]
 .have:(m==n)=false:=by simpa using h
  simp [h,this]
theorem yF{d:Type}(m n:Int)(a b:d):(bif !m==n then a else b)=if m=n then b else a:=by
 by_cases h:m=n
 .simp [h]
 .have:(m==n)=false:=by simpa using h
  simp [h,this]
theorem se(a b:Bool):(bif a then b else false)= (a && b):=by cases a <;> simp
theorem su(a b:Bool):(bif a then true else b)= (a || b):=by cases a <;> simp
theorem wr{v:Int}(h: -9223372036854775808<=v/\v < 9223372036854775808):i64.wrap v=v:=by simp [IntKind.wrap,IntKind.signed,IntKind.bits];omega
theorem ai:(type_of% @aP)/\(type_of% @aX)/\(type_of% @bQ)/\(type_of% @oA)/\(type_of% @l4)/\(type_of% @sF)/\(type_of% @ql)/\(type_of% @yS)/\(type_of% @yT)/\(type_of% @yU)/\(type_of% @bT)/\(type_of% @bn)/\(type_of% @fS)/\(type_of% @bU)/\(type_of% @bY)/\(type_of% @Cj)/\(type_of% @AL)/\(type_of% @AK)/\(type_of% @A6)/\(type_of% @aZ)/\(type_of% @bo)/\(type_of% @fR)/\(type_of% @fQ)/\(type_of% @fy)/\(type_of% @dJ)/\(type_of% @dY)/\(type_of% @et)/\(type_of% @yG)/\(type_of% @uY)/\(type_of% @yF)/\(type_of% @beq_self_eq_true.{0})/\(type_of% @NK)/\(type_of% @NA)/\(type_of% @NF)/\(type_of% @NS):=⟨@aP,@aX,@bQ,@oA,@l4,@sF,@ql,@yS,@yT,@yU,@bT,@bn,@fS,@bU,@bY,@Cj,@AL,@AK,@A6,@aZ,@bo,@fR,@fQ,@fy,@dJ,@dY,@et,@yG,@uY,@yF,@beq_self_eq_true.{0},@NK,@NA,@NF,@NS⟩
open Go Go.ChangeShapes Go.WideShapes Go.ChangeAt Go.RowKit Go.IntKind
def rD(P:Program)(go:TypeId->Bool):List Field->Nat->Option Nat
 | [],off=>some off
 | f::r,off=>if f.offset=off/\go f.type=true then rD P go r (off+P.cellsOf f.type) else none
def iq(P:Program):Nat->TypeId->Bool
 | 0,_=>false
 | n+1,t=>match P.underlying t with
  | some .bool=>true
  | some (.int _)=>true
  | some .string=>true
  | some (.slice e)=>iq P n e && decide (0 < P.cellsOf e)
  | some (.struct a)=>decide (rD P (iq P n) a.toList 0=some (P.cellsOf t))
  | some (.array m e)=>iq P n e && decide (P.cellsOf t=m * P.cellsOf e)
  | _=>false
def r8(W:TypeId->List T->Prop):List Field->List T->Prop
 | [],ts=>ts= []
 | f::r,ts=>∃a b,ts=a++b/\W f.type a/\r8 W r b
def uJ(W:List T->Prop):Nat->List T->Prop
 | 0,ts=>ts= []
 | m+1,ts=>∃a b,ts=a++b/\W a/\uJ W m b
def Wt(P:Program):Nat->TypeId->List T->Prop
 | 0,_,_=>False
 | n+1,t,ts=>match P.underlying t with
  | some .bool=>∃b,ts= [.bool b]
  | some (.int k)=>∃m,ts= [.int k m]/\(Lit.int k m).wf=true
  | some .string=>∃s,ts= [.str s]/\s.size<=maxLen
  | some (.slice e)=>∃b xs,ts= [.ab (P.cellsOf e) b xs]/\(b=true->xs= [])/\xs.length<=maxLen/\(∀cs∈xs,Wt P n e cs)/\xs.length * P.bytesOf e<=reachBytes
  | some (.struct a)=>r8 (Wt P n) a.toList ts
  | some (.array m e)=>uJ (Wt P n e) m ts
  | _=>False
section
variable {H:Type} {enc:TypeId×Value->H} {P:Program} {w:World} {base:Nat} {sp:Nat->Bool} {held:Bool}
def mM{H:Type}(P:Program)(t:TypeId)(d:DataW H):Prop:= ∀k∈DataW.weights P t d,k<=reachBytes
theorem xW{H:Type}{P:Program}{e:TypeId}:∀{l:List (DataW H)} {d:DataW H},d∈l->∀k∈DataW.weights P e d,k∈DataW.weightsAll P e l
 | [],d,h,k,_=>by cases h
 | c::l,d,h,k,a=>by
  simp only [DataW.weightsAll,MQ];rcases MN.1 h with rfl | h
  .exact .inl a
  .exact .inr (xW h k a)
theorem DO{H:Type}{P:Program}{us:List TypeId}{a:List (DataW H)}{k:Nat}:∀{ts:List TypeId} {ds:List (DataW H)},k∈DataW.weightsEach P ts ds->k∈DataW.weightsEach P (ts++us) (ds++a)
 | [],ds,h=>by simp [DataW.weightsEach] at h
 | t::ts,[],h=>by simp [DataW.weightsEach] at h
 | t::ts,d::ds,h=>by simp only [DataW.weightsEach,Nu,MQ] at h⊢;exact h.imp id DO
theorem aQ.uN{A:Nat->Prop}:∀{a b:List T} {vs us:List Value},aQ w A a vs->aQ w A b us->aQ w A (a++b) (vs++us)
 | [],b,vs,us,h,h'=>by simp only [aQ] at h;subst h;simpa using h'
 | c::a,b,vs,us,⟨v,r,e,d,f⟩,h'=>by subst e;exact⟨v,r++us,rfl,d,aQ.uN f h'⟩
theorem DH{n m:Nat}(o:∀(t:TypeId) (cs:List Value) (x:DataW H×List MemPlace),iq P n t=true->DataW.trod enc P w base sp held m t cs=some x->mM P t x.1->
   ∃ts,aQ w (λb=>b < w.heap.size) ts cs/\Wt P n t ts) (cs:List Value):∀(i:List Field) (off E:Nat),rD P (iq P n) i off=some E->E<=cs.length->
   (∀f∈i,∃x,DataW.trod enc P w base sp held m f.type ((cs.drop f.offset).take (P.cellsOf f.type))=some x/\mM P f.type x.1)->
   off<=E/\∃ts,aQ w (λb=>b < w.heap.size) ts ((cs.drop off).take (E - off))/\r8 (Wt P n) i ts
 | [],off,E,d,k,_=>by simp only [rD,Mt] at d;subst d;exact⟨M2 _,[],by simp [aQ],rfl⟩
 | f::i,off,E,d,k,l=>by
  simp only [rD] at d;split at d
  .rename_i r;obtain⟨p,q⟩:=r;obtain⟨x,v,j⟩:=l f Mv;obtain⟨a,y,B⟩:=o _ _ _ q v j;obtain⟨D,b,z,C⟩:=DH o cs i _ E d k λg u=>l g (Mx _ u);refine⟨by omega,a++b, ?_,⟨a,b,rfl,B,C⟩⟩;have e:(cs.drop off).take (E - off)= (cs.drop f.offset).take (P.cellsOf f.type)++ (cs.drop (off+P.cellsOf f.type)).take (E - (off+P.cellsOf f.type)):=by
    rw [p,<-Pj];have:E - off=P.cellsOf f.type+ (E - (off+P.cellsOf f.type)):=by omega
    rw [this,List.take_add]
   rw [e];exact aQ.uN y z
  .cases d
theorem DI{n m e:Nat}(l:∀(t:TypeId) (cs:List Value) (x:DataW H×List MemPlace),iq P n t=true->DataW.trod enc P w base sp held m t cs=some x->mM P t x.1->
   ∃ts,aQ w (λb=>b < w.heap.size) ts cs/\Wt P n t ts) (f:iq P n e=true):∀(k:Nat) (cs:List Value),cs.length=k * P.cellsOf e->
   (∀i,i < k->∃x,DataW.trod enc P w base sp held m e ((cs.drop (i * P.cellsOf e)).take (P.cellsOf e))=some x/\mM P e x.1)->∃ts,aQ w (λb=>b < w.heap.size) ts cs/\uJ (Wt P n e) k ts
 | 0,cs,hl,_=>by have:cs= []:=MW.1 (by simpa using hl);subst this;exact⟨[],rfl,rfl⟩
 | k+1,cs,hl,g=>by
  obtain⟨x,j,d⟩:=g 0 (Nat.zero_lt_succ _);simp only [Nat.zero_mul,List.drop_zero] at j;obtain⟨a,p,r⟩:=l _ _ _ f j d;obtain⟨b,q,u⟩:=DI l f k (cs.drop (P.cellsOf e)) (by rw [NH,hl,Nr];omega) λi v=>by
   obtain⟨y,o,d⟩:=g (i+1) (by omega);refine⟨y, ?_,d⟩;rw [Pj];have:P.cellsOf e+i * P.cellsOf e= (i+1) * P.cellsOf e:=by rw [Nr];omega
   rw [this];exact o
  refine⟨a++b, ?_,⟨a,b,rfl,r,u⟩⟩;have:=aQ.uN p q;rwa [List.take_append_drop] at this
theorem BL{A:Nat->Prop}{ae sz:Nat}{n e:Nat}:∀(len off:Nat),(∀i,i < len->∃ts a,ts.length=sz/\aQ w A ts a/\Wt P n e ts/\∀j v,a[j]? =some v->w.cell? ⟨ae,off+i * sz+j,none⟩=some v)->
  ∃xs:List (List T),xs.length=len/\a8 w A ae sz off xs/\∀cs∈xs,Wt P n e cs
 | 0,off,_=>⟨[],rfl,trivial,(by intro c b;cases b)⟩
 | len+1,off,h=>by
  obtain⟨ts,a,d,f,g,k⟩:=h 0 (Nat.zero_lt_succ _);obtain⟨xs,m,o,p⟩:=BL (A:=A) (ae:=ae) (sz:=sz) (n:=n) (e:=e) len (off+sz) λi q=>by
   obtain⟨ts,a,d,f,g,k⟩:=h (i+1) (by omega);refine⟨ts,a,d,f,g,λj v l=> ?_⟩;have:=k j v l;have e:off+ (i+1) * sz+j=off+sz+i * sz+j:=by rw [Nr];omega
   rwa [e] at this
  refine⟨ts::xs,by simp [m],⟨d,aY.jg f λj v l=> ?_,o⟩,λc b=> ?_⟩
  .have:=k j v l;simpa using this
  .rcases MN.1 b with rfl | b
   .exact g
   .exact p c b
theorem uw:∀(n:Nat) (m:Nat) (t:TypeId) (cs:List Value) (x:DataW H×List MemPlace),iq P n t=true->DataW.trod enc P w base sp held m t cs=some x->mM P t x.1->
  ∃ts,aQ w (λb=>b < w.heap.size) ts cs/\Wt P n t ts
 | 0,m,t,cs,x,g,_,_=>by simp [iq] at g
 | n+1,m,t,cs,x,g,h,l=>by
  simp only [iq] at g;split at g
  .rename_i d;obtain⟨b,rfl,_⟩:=DataW.trod_bool d h;exact⟨[.bool b],⟨_,[],rfl,rfl,rfl⟩,by simp only [Wt,d];exact⟨b,rfl⟩⟩
  .rename_i k d;obtain⟨z,rfl,_,X⟩:=DataW.trod_int d h;exact⟨[.int k z],⟨_,[],rfl,rfl,rfl⟩,by simp only [Wt,d];exact⟨z,rfl,X⟩⟩
  .rename_i d;obtain⟨s,rfl,_,X⟩:=DataW.trod_string d h;exact⟨[.str s],⟨_,[],rfl,rfl,rfl⟩,by simp only [Wt,d];exact⟨s,rfl,X⟩⟩
  .rename_i e d;simp only [MB,decide_eq_true_eq] at g;obtain⟨V,C⟩:=g;rcases Go.Deep.open_slice d h with⟨rfl,_⟩ | ⟨a,len,cap,k,F,D,Pl,rfl,hb,hl,hm,hk,rfl,M⟩
   .exact⟨[.ab (P.cellsOf e) true []],⟨_,[],rfl, .inl ⟨rfl,rfl,rfl⟩,rfl⟩,by simp only [Wt,d];exact⟨true,[],rfl,λ_=>rfl,by simp,(by intro c B;cases B),by simp⟩⟩
   .obtain⟨ae,off,s⟩:=a;have hlk:len<=k:=by rw [hk];split <;> omega
    dsimp only at l;have Q:len * P.bytesOf e<=reachBytes:=by have:=l ((len+ (k - len)) * P.bytesOf e) (by simp [DataW.weights,d]);exact Nl (Nq _ (OP _ _)) this
    have K:∀i,i < len->mM P e (D i):=λi p q E=>l q (by
     simp only [DataW.weights,d,MN,MQ];exact .inr (.inl (xW (M7.2 ⟨i,Pk.2 p,rfl⟩) q E)))
    have I: 0 < len->s=none/\ae < w.heap.size:=by
     intro h0;obtain⟨y,B,_⟩:=M 0 (by omega);obtain⟨J,u,r⟩:=World.cells?_some B;have L:=World.cells?_block B C;have o:=r 0 C;have N:((⟨ae,off,s⟩:Addr).add (0 * P.cellsOf e)).add 0= ⟨ae,off,s⟩:=by simp [Addr.add]
     rw [N] at o;have Z:∃v,y[0]? =some v:=⟨_,MJ (by omega)⟩;obtain⟨v,hv⟩:=Z;rw [hv] at o;refine⟨?_, ?_⟩
     .cases s with
      | none=>rfl
      | some z=>simp only [World.cell?] at o;split at o <;> simp at o
     .have e:((⟨ae,off,s⟩:Addr).add (0 * P.cellsOf e))= ⟨ae,off,s⟩:=by simp [Addr.add]
      rw [e] at L;exact L
    obtain⟨xs,k1,k2,k3⟩:=BL (P:=P) (w:=w) (A:=λb=>b < w.heap.size) (ae:=ae) (sz:=P.cellsOf e) (n:=n) (e:=e) len off λi p=>by
     obtain⟨y,B,hd⟩:=M i (by omega);obtain⟨hs,_⟩:=I (by omega);subst hs;obtain⟨ts,r1,G⟩:=uw n F e y _ V hd (K i (by omega));obtain⟨J,u,r⟩:=World.cells?_some B;refine⟨ts,y,by rw [<-r1.length,u],r1,G,λj v hj=> ?_⟩;have hj':j < P.cellsOf e:=by rw [<-u];exact(My.1 hj).1
     have:=r j hj';rw [hj,fx,fx] at this;exact this
    refine⟨[.ab (P.cellsOf e) false xs],⟨_,[],rfl, .inr ⟨rfl,ae,off,s,cap,by rw [k1],by omega, ?_,k2⟩,rfl⟩,by simp only [Wt,d];exact⟨false,xs,rfl,λh=>(by cases h),by omega,k3,by rw [k1];exact Q⟩⟩;by_cases h0:len=0
    .left;exact MW.1 (by omega)
    .right;exact I (by omega)
  .rename_i Y d;simp only [decide_eq_true_eq] at g;obtain⟨xs,F,rfl,rfl,hl,hsz,U⟩:=DataW.trod_struct d h;dsimp only at l;obtain⟨_,ts,r1,G⟩:=DH (λt cs x=>uw n F t cs x) cs Y.toList 0 _ g (by omega) λf hf'=>by
    obtain⟨i,p,e⟩:=List.getElem_of_mem hf';have e':Y.toList[i]? =some f:=by rw [MJ p,e]
    have:=U i f (by rw [<-Nn];exact e');rw [this];have hx:xs[i]? =some (xs[i]'(by simp at p;omega)):=MJ (by simp at p;omega);refine⟨_,hx,λq E=>l q ?_⟩;simp only [DataW.weights,d];exact DataW.weights_mem_each (j:=i) (by rw [Nz,e'];rfl) (by rw [Nz,hx];rfl) q E
   refine⟨ts, ?_,by simp only [Wt,d];exact G⟩;simp only [List.drop_zero,Nat.sub_zero] at r1;rwa [<-hl,List.take_length] at r1
  .rename_i m' e d;simp only [MB,decide_eq_true_eq] at g;obtain⟨xs,F,rfl,rfl,hl,hsz,U⟩:=DataW.trod_array d h;dsimp only at l;obtain⟨ts,r1,G⟩:=DI (λt cs x=>uw n F t cs x) g.1 m' cs (by omega) λi p=>by
    rw [U i p];refine⟨_,MJ (by omega),λq E=>l q ?_⟩;simp only [DataW.weights,d];exact xW (M7.2 ⟨_,O7 _,rfl⟩) q E
   exact⟨ts,r1,by simp only [Wt,d];exact G⟩
  .cases g
end
def rH(P:Program)(n:Nat):List TypeId->List AV->Prop
 | [],b=>b= []
 | t::ts,b=>∃a r,b=a::r/\((bz P t=true/\∃l,Wt P n t l/\a= .agg (l.map .t))\/(bz P t=false/\∃x,Wt P n t [x]/\a= .t x))/\rH P n ts r
section
variable {H:Type} {enc:TypeId×Value->H} {P:Program} {W W':World} {sp:Nat->Bool} {held:Bool}
theorem JL{n:Nat}{t:TypeId}{v:Value}{d:DataW H}{F:List MemPlace}{r:Reach}{D base:Nat}(o:iq P (n+1) t=true)(f:Value.okWide P W r D t v)(h:DataW.Trod enc P W base sp held t v d F)(B:mM P t d):
  ∃a,((bz P t=true/\∃l,Wt P (n+1) t l/\a= .agg (l.map .t))\/(bz P t=false/\∃x,Wt P (n+1) t [x]/\a= .t x))/\aj W (λb=>b < W.heap.size) (λ_=>none) a v:=by
 obtain⟨m,hm⟩:=h;obtain⟨ts,r1,C⟩:=uw (n+1) m t _ _ o hm B;have j:bz P t=false->v.cells= #[v]->∃a,((bz P t=true/\∃l,Wt P (n+1) t l/\a= .agg (l.map .t))\/(bz P t=false/\∃x,Wt P (n+1) t [x]/\a= .t x))/\aj W (λb=>b < W.heap.size) (λ_=>none) a v:=by
  intro p E;rw [E] at r1
  match ts,r1 with
  | [],r1=>simp [aQ] at r1
  | [x],⟨u,q,e,g,_⟩=>simp only [NN] at e;obtain⟨rfl,_⟩:=e;exact⟨.t x, .inr ⟨p,x,C,rfl⟩,by simpa [aj] using g⟩
  | x::y::z,⟨u,q,e,_,⟨K,J,e',_⟩⟩=>subst e';simp at e
 have agg:bz P t=true->(∃cs,v= .agg cs)->∃a,((bz P t=true/\∃l,Wt P (n+1) t l/\a= .agg (l.map .t))\/(bz P t=false/\∃x,Wt P (n+1) t [x]/\a= .t x))/\aj W (λb=>b < W.heap.size) (λ_=>none) a v:=by rintro p ⟨cs,rfl⟩;refine⟨.agg (ts.map .t), .inl ⟨p,ts,C,rfl⟩, ?_⟩;simp only [aj];exact⟨cs.toList,by simp,az.jH r1,r1.one⟩
 simp only [iq] at o;split at o
 .rename_i i;simp only [Value.okWide,i,Cell.okWide] at f;refine j (by simp [bz,i]) ?_;cases v <;> first | rfl | (simp [Cell.ok,i] at f)
 .rename_i k i;simp only [Value.okWide,i,Cell.okWide] at f;refine j (by simp [bz,i]) ?_;cases v <;> first | rfl | (simp [Cell.ok,i] at f)
 .rename_i i;simp only [Value.okWide,i,Cell.okWide] at f;refine j (by simp [bz,i]) ?_;cases v <;> first | rfl | (simp [Cell.ok,i] at f)
 .rename_i e i;simp only [Value.okWide,i,Cell.okWide] at f;refine j (by simp [bz,i]) ?_;cases v <;> first | rfl | (simp [Cell.ok,i] at f)
 .rename_i G i;simp only [Value.okWide,i] at f;obtain⟨cs,e,_⟩:=f;exact agg (by simp [bz,i]) ⟨cs,e⟩
 .rename_i I e i;simp only [Value.okWide,i] at f;obtain⟨cs,e,_⟩:=f;exact agg (by simp [bz,i]) ⟨cs,e⟩
 .cases o
theorem B6{n:Nat}{r:Reach}{y base:Nat}:∀{ts:List TypeId} {vs:List Value} {ds:List (DataW H)} {m:List MemPlace},ts.all (iq P (n+1))=true->(∀(j:Nat) (t:TypeId) (v:Value),ts[j]? =some t->vs[j]? =some v->Value.okWide P W r y t v)->
  DataW.TrodAll enc P W base sp held ts vs ds m->(∀k∈DataW.weightsEach P ts ds,k<=reachBytes)->∃e,rH P (n+1) ts e/\az W (λb=>b < W.heap.size) (λ_=>none) e vs
 | [],vs,ds,m,_,_,h,_=>by obtain⟨rfl,_,_⟩:=trodAll_nil h;exact⟨[],rfl,by simp [az]⟩
 | t::ts,vs,ds,m,g,i,h,f=>by simp only [NL,MB] at g;obtain⟨v,x,d,J,p,q,rfl,rfl,rfl,z,B⟩:=trodAll_cons h;obtain⟨a,C,D⟩:=JL g.1 (i 0 t v rfl rfl) z (λk l=>f k (by simp only [DataW.weightsEach,MQ];exact .inl l));obtain⟨e,o,u⟩:=B6 g.2 (λj G I E F=>i (j+1) G I (by simpa using E) (by simpa using F)) B (λk l=>f k (by simp only [DataW.weightsEach,MQ];exact .inr l));exact⟨a::e,⟨a,e,rfl,C,o⟩,by simp only [az];exact⟨v,x,rfl,D,u⟩⟩
theorem Df(hl:laidOutB P=true)(i:Below W.heap.size W W'):∀{ts:List TypeId} {vs:List Value} {ds:List (DataW H)} {a:List MemPlace},(ts.all λt=>P.readableRec t && decide (t < P.types.size))=true->
  DataW.TrodAll enc P W 0 (λ_=>true) true ts vs ds a->(∀x∈a,x.block < W.heap.size)->DataW.TrodAll enc P W' 0 (λb=>decide (b < W.heap.size)) true ts vs ds a
 | [],vs,ds,a,_,h,_=>by obtain⟨rfl,rfl,rfl⟩:=trodAll_nil h;exact trodAll_mk0
 | t::ts,vs,ds,a,e,h,f=>by simp only [NL,MB,decide_eq_true_eq] at e;obtain⟨v,m,d,l,p,q,rfl,rfl,rfl,j,k⟩:=trodAll_cons h;exact trodAll_cons_mk (Below.trod hl e.1.1 e.1.2 j i λx g=>f x (MM _ g)) (Df hl i (by simpa using e.2) k λx g=>f x (MK _ g))
theorem Ei(a:Below W.heap.size W W')(b:MemPlace->Prop):W.keptBut W' b:=by
 refine⟨a.os,a.output,λi d=> ?_⟩;rw [a.block i d];cases W.heap[i]? with
 | none=>rfl
 | some o=>cases o <;> first | exact⟨rfl,rfl,rfl,λ_ _=>rfl⟩ | exact .inr ⟨rfl,rfl⟩ | rfl
theorem law_contract{n:Nat}{fn:Func}{s:ChangeSpec}{An:ct}{f:FuncId}{tb:TypeId}(hm:P.follows .mixedOrders=true)(hn:(P.funcs.toList.all λfn=>fn.name != "runtime.NumGoroutine")=true)(hl:laidOutB P=true)
  (N:P.funcs[f]? =some fn) (G:An.gf f=none) (I:cN P An f 0 fn= [.f .b]) (Y:P.underlying tb=some .bool) (X:fn.resultTypes= #[tb])
  (C:fn.params.toList.all (iq P (n+1))=true) (l:(fn.params.toList.all λt=>P.readableRec t && decide (t < P.types.size))=true)
  (m:s.vars= []) (B:∀(ds:List (DataW H)),ds.length=fn.params.toList.length->s.fn H ds= {results:= [.lit (.bool true)],args:=ds})
  (g:∀a,rH P (n+1) fn.params.toList a->jI P An (.call f) a []=some [.bool true])
  (W:World) (base:Nat) (args:Array Value) (ds J:List (DataW H)) (r:List MemPlace) (z:∀(j:Nat) t v,fn.params[j]? =some t->args[j]? =some v->Value.okWide P W .any base t v)
  (K:DataW.Whole enc P fn.params.toList s.vars false W args.toList ds J r)
  (D:(DataW.weightsEach P (fn.params.toList++s.plain.varTypes P) (ds++J)).all (· <=reachBytes)=true)
  (hX:kL P An:=by exact Go.Aev.kL.no λ_ _ _=>rfl) (hG:GlobOk W:=by exact Go.Aev.globOk _):
  Calls P f args W λe W'=>∃v,e= .returned v/\s.post enc P fn false true false false W args v W':=by
 have u:=K;obtain⟨p,q,o,E,rfl,hz,Q⟩:=K;rw [m] at E;obtain⟨rfl,rfl⟩:=trodVars_none E;obtain⟨a,L,V⟩:=B6 C (λj t v ht hv=>z j t v (by rw [<-Nn];exact ht) (by rw [<-Nn];exact hv)) o (λk hk=>by simpa using MR.1 D k (DO hk));have F:ds.length=fn.params.toList.length:=by
  clear u V L z hz Q E l C g D;generalize fn.params.toList=ts at o;generalize args.toList=vs at o;induction ts generalizing vs ds p with
  | nil=>obtain⟨_,rfl,_⟩:=trodAll_nil o;rfl
  | cons t ts ih=>obtain⟨v,vs',d,ds',p',q',_,rfl,_,_,Z⟩:=trodAll_cons o;simp [ih _ _ _ Z]
 have U:∀(f:FuncId) (fn:Func),P.funcs[f]? =some fn->fn.name≠ "runtime.NumGoroutine" :=by intro f fn h;have:=MR.1 hn fn (MD (i:=f) (by rw [Nn];exact h));simpa using this
 have:=EI (w:=W) (A0:=λb=>b < W.heap.size) hX hm U N G I (λ_ h=>h) V (g a L) hG;rw [show args.toList.toArray=args from by simp] at this;refine this.mono λe W' ⟨he,M⟩=>⟨.bool true,he, ?_⟩;have y:=B ds F;refine⟨ds,[],p++ [],[],p,[],u, ?_, ?_, ?_,Ei M _,λh=>by cases h⟩
 .rw [MU,y,X];exact trodAll_cons_mk (shut_bool Y true) trodAll_mk0
 .rw [MU,y];exact Df hl M l o (λx hx=>u.lt x (by simpa using hx))
 .rw [MU,y,m];rfl
end
section
variable {P:Program} {n:Nat} {t:TypeId} {ts:List T}
theorem Mp{k:IntKind}(a:P.underlying t=some (.int k))(h:Wt P (n+1) t ts):∃m,ts= [.int k m]/\(Lit.int k m).wf=true:=by simpa only [Wt,a] using h
theorem DR(a:P.underlying t=some .string)(h:Wt P (n+1) t ts):∃s,ts= [.str s]/\s.size<=maxLen:=by simpa only [Wt,a] using h
theorem lP{a:Array Field}(b:P.underlying t=some (.struct a))(h:Wt P (n+1) t ts):r8 (Wt P n) a.toList ts:=by simpa only [Wt,b] using h
theorem Mq{e:TypeId}(a:P.underlying t=some (.slice e))(h:Wt P (n+1) t ts):∃b xs,ts= [.ab (P.cellsOf e) b xs]/\(b=true->xs= [])/\xs.length<=maxLen/\(∀cs∈xs,Wt P n e cs)/\xs.length * P.bytesOf e<=reachBytes:=by simpa only [Wt,a] using h
theorem pT{k:Type}(g:k->List T){e:TypeId}(r:P.underlying t=some (.slice e))(h:Wt P (n+1) t ts)(q:∀cs,Wt P n e cs->∃a,cs=g a):
  ∃b l,ts= [.ab (P.cellsOf e) b (l.map g)]/\(b=true->l= [])/\l.length<=maxLen/\l.length * P.bytesOf e<=reachBytes:=by
 obtain⟨b,xs,rfl,d,f,i,j⟩:=Mq r h;have:∃l:List k,xs=l.map g:=by
  clear d f h j;induction xs with
  | nil=>exact⟨[],rfl⟩
  | cons c xs u=>obtain⟨a,m⟩:=q c (i c Mv);obtain⟨l,hl⟩:=u λcs p=>i cs (Mx _ p);exact⟨a::l,by rw [m,hl];rfl⟩
 obtain⟨l,rfl⟩:=this;exact⟨b,l,rfl,λo=>by simpa using d o,by simpa using f,by simpa using j⟩
theorem yp{a:AV}(h:(bz P t=true/\∃l,Wt P n t l/\a= .agg (l.map .t))\/(bz P t=false/\∃x,Wt P n t [x]/\a= .t x))(b:bz P t=true):∃l,Wt P n t l/\a= .agg (l.map .t):=by
 rcases h with h | h
 .exact h.2
 .rw [b] at h;cases h.1
end
end Go.Aev
