import Derived.Test.YtcjplcpngagalaaDoorBlastNoneQ4
import Derived.Orders
import Derived.Still
import Derived.Below
import Derived.Deep.Slices
import Derived.Carry
import Derived.ProofKit
import Derived.OpenShut
import Derived.SizedLaws
set_option linter.all false
namespace Go.Aev
open Go Go.IntKind
section
variable {P:Program} {An:cq} {Or:ay} {w w':World} {A A':Nat->Prop} {c:Ctx} {ρ:Id->Option Value} {O:Id->Option Nat} {s s':St}
structure dQ (c:Ctx) (nt:Nat) (w:World) (s:St) (ρ:Id->Option Value) (O:Id->Option Nat) (a:Act):Prop where
 hs:HS c w s.h ρ O
 ss:SS w (AA c w O) ρ s.t a.tmps
 nt:a.tmps.size=nt
 defers:a.defers= []
def lF(ops:Array Oper)(s:St):Prop:= ∀k g v,s.t k= (some g,v)->de ops (some g.d)=true
theorem kL{a:Act}{d k:Nat}{x:Value}(b:d < a.tmps.size):(a.put (some d) x).tmps.getD k undef=if k=d then x else a.tmps.getD k undef:=by
 simp only [Act.put];by_cases e:k=d
 .subst e;simp [b]
 .rw [if_neg e];simp [Oa (N9 e)]
theorem th(a:Act)(d:Option Nat)(x:Value):(a.put d x).tmps.size=a.tmps.size:=by cases d <;> simp [Act.put]
theorem tg(a:Act)(d:Option Nat)(x:Value):(a.put d x).defers=a.defers:=by cases d <;> rfl
theorem GZ{ops:Array Oper}{o:Oper}{a:Act}{g:Option Gs}(L:SS w A ρ s.t a.tmps)(h:cK ops o s some=some g):
  (Region.wanted o (yielded ops a.tmps)=true->iO a.tmps g)/\
  (Region.wanted o (yielded ops a.tmps)=false->∃i,g=some i/\a.tmps.getD i.d undef≠ .bool i.want/\i.c=false)/\
  (∀i,g=some i->de ops (some i.d)=true\/∀Q∈ops,Q≠o):=by
 unfold cK at h;cases q:o.guard with
 | none=>simp only [q,Lo] at h;subst h;exact⟨λ_=>trivial,λh=>by simp [Region.wanted,q] at h,λi h=>by cases h⟩
 | some p=>
  obtain⟨j,want⟩:=p;simp only [q] at h;cases B:(ops[j]?).bind (·.dst) with
  | none=>simp [B] at h
  | some d=>
   simp only [B] at h;replace h:=Lp.1 h;obtain⟨x,m,h⟩:=h;have M:Region.wanted o (yielded ops a.tmps)=true↔a.tmps.getD d undef= .bool want:=by
    simp only [Region.wanted,q,yielded,B,Lt,beq_iff_eq];rw [MQ];cases a.tmps[d]? with
    | none=>simp [undef]
    | some u=>cases u <;> simp
   have J:∀i,g=some i->i.d=d/\i.want=want:=by intro i e;replace h:=nq h;obtain⟨b,h,_⟩:=h;simp only [Lo] at h;rw [<-h] at e;simp only [Lo] at e;subst e;exact⟨rfl,rfl⟩
   have C:∃i,g=some i:=by replace h:=nq h;obtain⟨b,h,_⟩:=h;simp only [Lo] at h;exact⟨_,h.symm⟩
   obtain⟨i,rfl⟩:=C;obtain⟨F,G⟩:=J i rfl;refine⟨λN=> ?_,λE=>⟨i,rfl, ?_⟩,λY e=> ?_⟩
   .have D:=M.1 N;simp only [iO,F,G];refine⟨D, ?_⟩;have f:=L d;rw [D] at f;cases y:s.t d with
    | mk gd v=>
     rw [y] at f m h;dsimp only at m h f;rw [AV.jJ m] at f;cases gd with
     | none=>simp only [ah] at f;simp only [Og] at h;replace h:=aL h (.inl rfl);obtain⟨b,l,h⟩:=h;simp only [Lo] at h;have:=T.gy l;subst this;simp only [ax,Value.bool.injEq] at f;rw [<-h,<-f];cases want <;> rfl
     | some U=>
      simp only at f;rcases f with⟨_,k,z⟩ | ⟨_,_,X⟩
      .simp only [M2,k] at h;replace h:=aL h (.inr rfl);obtain⟨b,l,h⟩:=h;simp only [Lo] at h;have:=T.gy l;subst this;simp only [ah,ax,Value.bool.injEq] at z;rw [<-h,<-z];simp only [gC,k];cases want <;> rfl
      .simp [undef] at X
   .have r:a.tmps.getD d undef≠ .bool want:=λV=>by
     have:=M.2 V;rw [this] at E;cases E
    refine⟨by rw [F,G];exact r, ?_⟩;have f:=L d;cases y:s.t d with
    | mk gd v=>
     rw [y] at f m h;dsimp only at m h f;rw [AV.jJ m] at f;cases gd with
     | none=>simp only [ah] at f;simp only [Og] at h;replace h:=aL h (.inl rfl);obtain⟨b,l,h⟩:=h;simp only [Lo] at h;have:=T.gy l;subst this;simp only [ax] at f;have I:b≠want:=λe=>r (by rw [f,e]);rw [<-h];simp only [gC];cases b <;> cases want <;> simp_all [rV]
     | some U=>
      simp only at f;rcases f with⟨_,k,z⟩ | ⟨_,k,_⟩
      .simp only [M2,k] at h;replace h:=aL h (.inr rfl);obtain⟨b,l,h⟩:=h;simp only [Lo] at h;have:=T.gy l;subst this;simp only [ah,ax] at z;have I:b≠want:=λe=>r (by rw [z,e]);rw [<-h];simp only [gC,k];cases b <;> cases want <;> simp_all [rV]
      .replace h:=nq h;obtain⟨b,h,_⟩:=h;simp only [Lo] at h;rw [<-h];simp [gC,k]
   .simp only [Lo] at e;subst e;by_cases hm:o∈ops
    .left;unfold de;rw [NC];exact⟨o,hm,by simp [q,B,F]⟩
    .right;intro Q K e;exact hm (e▸K)
theorem wR{ops:Array Oper}{o:Oper}{g:Option Gs}{v:AV}{us:aC}(b:lF ops s)(p:∀q,g=some q->de ops (some q.d)=true):lF ops (s.put (de ops o.dst) o.dst g v us):=by
 intro k m u a;cases r:o.dst with
 | none=>simp only [St.put,r] at a;exact b k m u a
 | some d=>
  simp only [St.put,r] at a;by_cases e:k=d
  .simp only [if_pos e,Ma] at a;exact p m a.1
  .simp only [if_neg e] at a;cases f:de ops (some d) with
   | false=>rw [f,cond_false] at a;exact b k m u a
   | true=>
    rw [f,cond_true] at a;cases l:s.t k with
    | mk i vk=>
     rw [l] at a;cases i with
     | none=>simp [jS] at a
     | some i=>
      simp only [jS] at a;cases j:(i.d==d) with
      | true=>simp [j] at a
      | false=>simp only [j,cond_false,Ma,Lo] at a;rw [<-a.1];exact b k i vk l
theorem tm{nt:Nat}{ops:Array Oper}{o:Oper}{a:Act}{g:Option Gs}{v:AV}{us:aC}(ss:SS w (AA c w O) ρ s.t a.tmps)(E:a.tmps.size=nt)(D:lF ops s)
  (u:∀d,o.dst=some d->d < nt) (C:∀j d,g=some j->o.dst=some d->j.d≠d)
  (w':World) (ρ':Id->Option Value) (O':Id->Option Nat) (x:Value) (I:∀b,AA c w O b->AA c w' O' b/\w'.heap[b]? =w.heap[b]?) (G:∀i v,ρ i=some v->ρ' i=some v)
  (F:match g with
   | none=>ah w' (AA c w' O') ρ' v x
   | some j=>(a.tmps.getD j.d undef= .bool j.want/\j.c=true/\ah w' (AA c w' O') ρ' v x)\/(a.tmps.getD j.d undef≠ .bool j.want/\j.c=false/\x=undef)):
  SS w' (AA c w' O') ρ' (s.put (de ops o.dst) o.dst g v us).t (a.put o.dst x).tmps:=by
 have r:=SS.mono I G ss;cases z:o.dst with
 | none=>simp only [St.put,Act.put];exact r
 | some d=>
  have f:d < a.tmps.size:=by rw [E];exact u d z
  intro k;simp only [St.put];by_cases e:k=d
  .subst e;simp only [if_true];cases g with
   | none=>simp only;rw [kL f,if_pos rfl];exact F
   | some j=>have p:j.d≠k:=C j k rfl z;simp only;rw [kL f,kL f,if_neg p,if_pos rfl];exact F
  .simp only [if_neg e];have l:=r k;cases y:de ops (some d) with
   | false=>
    simp only [cond_false];cases q:s.t k with
    | mk m vk=>
     rw [q] at l;cases m with
     | none=>simp only at l⊢;rw [kL f,if_neg e];exact l
     | some m=>
      have p:m.d≠d:=by intro e';have:=D k m vk q;rw [e',y] at this;cases this
      simp only at l⊢;rw [kL f,kL f,if_neg e,if_neg p];exact l
   | true=>
    simp only [cond_true];cases q:s.t k with
    | mk m vk=>
     rw [q] at l;cases m with
     | none=>simp only [jS] at l⊢;rw [kL f,if_neg e];exact l
     | some m=>
      simp only [jS];cases B:(m.d==d) with
      | true=>simp [ah]
      | false=>
       have p:m.d≠d:=by simpa using B
       simp only [cond_false] at l⊢;rw [kL f,kL f,if_neg e,if_neg p];exact l
theorem SS.o7{tmps:Array Value}{e:Gs}(hs:SS w A ρ s.t tmps)(m:tmps.getD e.d undef= .bool e.want):SS w A ρ (s.o7 e).t tmps:=by
 intro k;have b:=hs k;simp only [St.o7];cases f:s.t k with
 | mk i v=>
  rw [f] at b;cases i with
  | none=>simp only [je,cond_true] at b⊢;exact b
  | some g=>
   by_cases a:je (some g) (some e)=true
   .simp only [a,cond_true];simp only [je,Lu,beq_iff_eq] at a;simp only at b;rcases b with⟨_,_,l⟩ | ⟨j,_⟩
    .exact l
    .exfalso;apply j;rw [a.1,a.2];exact m
   .simp only [N5] at a;simp only [a,cond_false];exact b
theorem BX{m:Bool}{nt:Nat}{ops:Array Oper}{o:Oper}{a:Act}(hO:gW P An Or)(f:dQ c nt w s ρ O a)(p:lF ops s)(hmem:o∈ops)(h:dW P An Or m nt ops o s=some s'):
  lF ops s'/\∀(K:Act->World->Prop) (Q:Exit->Act->World->Prop),(∀a' w' ρ' O',Le w ρ O w' ρ' O'->dQ c nt w' s' ρ' O' a'->K a' w')->
   if Region.wanted o (yielded ops a.tmps) then o.wp P a w K Q\/(o.asks P a w/\LetsOut Q) else K (a.put o.dst undef) w:=by
 unfold dW me at h;rw [sL] at h;replace h:=Lp.1 h;obtain⟨g,hg,h⟩:=h;obtain⟨G,B,Z⟩:=GZ f.ss hg;have y:∀j,g=some j->de ops (some j.d)=true:=λj e=>(Z j e).resolve_right λhn=>hn o hmem rfl;cases l:nL An m o g with
 | none=>
  rw [l] at h;dsimp only at h;rw [n6] at h;replace h:=Lp.1 h;obtain⟨⟨v,us⟩,M,h⟩:=h;dsimp only at h;rw [qm] at h;replace h:(if kV P An m nt ops o g s v us then some (s.put (de ops o.dst) o.dst g v us) else none)=some s':=by
   cases hk:hU An m o s.h us with
   | false=>rw [hk] at h;cases h
   | true=>rw [hk] at h;exact h
  split at h
  .rename_i F;simp only [Lo] at h;subst h;simp only [kV,Lu] at F;obtain⟨⟨⟨hdst,I⟩,z⟩,_⟩:=F;have k:∀d,o.dst=some d->d < nt:=λd e=>by simpa [e] using hdst
   have E:∀j d,g=some j->o.dst=some d->j.d≠d:=λj d X Y=>by subst X;simp only [Y,Lu,Mr,beq_eq_false_iff_ne,ne_eq,Lo] at I;exact λe=>I.2 e.symm
   refine⟨wR p y,λK Q L=> ?_⟩;split
   .rename_i q;left;have i:=G q;refine gp.wp (xR hO f.hs f.ss i M z) λx w' ⟨ρ',O',le,N,V⟩=> ?_;refine L _ w' ρ' O' le ⟨N, ?_,by rw [th];exact f.nt,by rw [tg];exact f.defers⟩;refine tm f.ss f.nt p k E w' ρ' O' x (λb r=>le.A b r) le.dJ ?_;cases g with
    | none=>exact V
    | some j=>exact .inl ⟨i.1,i.2,V⟩
   .rename_i q;obtain⟨j,rfl,J,u⟩:=B (by simpa using q);have hus:us= []:=by
     simp only [Lu,Ng] at I;exact I.1
    subst hus;refine L _ w ρ O Le.refl ⟨f.hs, ?_,by rw [th];exact f.nt,by rw [tg];exact f.defers⟩;exact tm f.ss f.nt p k E w ρ O undef (λb r=>⟨r,rfl⟩) (λ_ _ h=>h) (.inr ⟨J,u,rfl⟩)
  .simp at h
 | some j=>
  rw [l] at h;dsimp only at h;have hg':g=some j:=by
   cases g with
   | none=>simp [nL] at l
   | some g0=>
    simp only [nL] at l;cases r:(!m && dG An o) with
    | false=>rw [r] at l;cases l
    | true=>rw [r] at l;simpa using l
  subst hg';cases D:sa nt o j with
  | false=>rw [D] at h;cases h
  | true=>
   rw [D,cond_true] at h;simp only [sa,Lu] at D;have k:∀d,o.dst=some d->d < nt:=λd e=>by simpa [e] using D.1
   have E:∀C d,some j=some C->o.dst=some d->C.d≠d:=λC d X Y=>by cases X;have:=D.2;simp only [Y,Mr,beq_eq_false_iff_ne,ne_eq,Lo] at this;exact λe=>this e.symm
   cases U:j.c with
   | false=>
    rw [U,cond_false] at h;simp only [Lo] at h;subst h;refine⟨wR p y,λK Q L=> ?_⟩;split
    .rename_i q;have:=(G q).2;rw [U] at this;cases this
    .rename_i q;obtain⟨C,e,J,u⟩:=B (by simpa using q);cases e;refine L _ w ρ O Le.refl ⟨f.hs, ?_,by rw [th];exact f.nt,by rw [tg];exact f.defers⟩;exact tm f.ss f.nt p k E w ρ O undef (λb r=>⟨r,rfl⟩) (λ_ _ h=>h) (.inr ⟨J,u,rfl⟩)
   | true=>
    rw [U,cond_true,n6] at h;replace h:=Lp.1 h;obtain⟨⟨v,us⟩,M,h⟩:=h;dsimp only at h;split at h
    .rename_i F;simp only [Lo] at h;subst h;simp only [kV,Lu] at F;obtain⟨⟨⟨_,_⟩,z⟩,_⟩:=F;refine⟨wR p y,λK Q L=> ?_⟩;split
     .rename_i q;left;have i:=G q;refine gp.wp (xR (s:=s.o7 j) (g:=none) hO f.hs (f.ss.o7 i.1) trivial M z) λx w' ⟨ρ',O',le,N,V⟩=> ?_;refine L _ w' ρ' O' le ⟨N, ?_,by rw [th];exact f.nt,by rw [tg];exact f.defers⟩;exact tm f.ss f.nt p k E w' ρ' O' x (λb r=>le.A b r) le.dJ (.inl ⟨i.1,i.2,V⟩)
     .rename_i q;obtain⟨C,e,J,u⟩:=B (by simpa using q);cases e;rw [U] at u;cases u
    .simp at h
theorem dQ.clear{nt:Nat}{a:Act}(b:dQ c nt w s ρ O a):dQ c nt w s.clear ρ O a:=by
 refine⟨b.hs,λk=> ?_,b.nt,b.defers⟩;have:=b.ss k;simp only [St.clear];cases d:s.t k with
 | mk e vk=>
  rw [d] at this;cases e with
  | none=>exact this
  | some g=>simp [ah]
def lE(s:St):Prop:= ∀k g v,s.t k≠(some g,v)
theorem Ey(s:St):lE s.clear:=by intro k g v h;simp only [St.clear] at h;split at h <;> simp at h
theorem lE.AR(h:lE s)(ops:Array Oper):lF ops s:=λk g v e=>(h k g v e).elim
theorem Cu{g:Bool}{nt:Nat}{ops:Array Oper}(v:gW P An Or){Q:Exit->Act->World->Prop}:∀{l:List Oper} {k:Nat} {w:World} {s:St} {ρ:Id->Option Value} {O:Id->Option Nat} {a:Act},
  (∀j,l[j]? =ops[k+j]?)->dQ c nt w s ρ O a->lF ops s->gK P An Or g nt ops l s=some s'->
  (∀f w' ρ' O',Le w ρ O w' ρ' O'->dQ c nt w' s' ρ' O' f->Q .normal f w')->wpOps P ops Q (List.range' k l.length) a w
 | [],k,w,s,ρ,O,a,hl,b,e,h,i=>by simp only [gK,Lo] at h;subst h;exact i a w ρ O Le.refl b
 | o::l,k,w,s,ρ,O,a,hl,b,e,h,i=>by
  simp only [gK] at h;obtain⟨s1,z,h⟩:=Lp.1 h;have h0:ops[k]? =some o:=by simpa using (hl 0).symm
  obtain⟨m,step⟩:=BX v b e (LX h0) z;rw [LD,NK];simp only [wpOps,h0];refine step _ Q λf w' ρ' O' le p=> ?_;exact Cu v (λj=>by have:=hl (j+1);simpa [Ns,Nat.add_comm 1 j] using this) p m h
   (λu y q r x d=>i u y q r (le.trans x) d)
theorem I8{nt id:Nat}{ops:Array Oper}{a:Act}(f:gW P An Or){Q:Exit->Act->World->Prop}(e:dQ c nt w s ρ O a)(i:lE s)(h:gK P An Or false nt ops ops.toList s=some s')
  (g:∀b w' ρ' O',Le w ρ O w' ρ' O'->dQ c nt w' s'.clear ρ' O' b->Q .normal b w'):(Code.region id ops false).wp P Q a w:=by
 refine wp_region ?_;rw [Ob,<-LU];exact Cu f (by intro j;simp) e (i.AR ops) h λb w' ρ' O' le d=>g b w' ρ' O' le d.clear
end
open Go Go.IntKind
section
variable {P:Program} {A:cq} {O:ay} {R:Type} {h h':Id->Option ab} {s s':St}
theorem iA{v:AV}{vs:List AV}{i:Id}:i∈bQ (v::vs)↔i∈v.ids\/i∈bQ vs:=by simp [bQ]
theorem pq{v:AV}(a:∀i∈v.ids,h' i=h i):cY h' v=cY h v:=by
 cases v <;> simp only [cY]
 all_goals rw [a _ (by simp [AV.ids])]
theorem sG{v:AV}(a:∀i∈v.ids,h' i=h i):fu h' v=fu h v:=by
 cases v <;> simp only [fu]
 all_goals rw [a _ (by simp [AV.ids])]
theorem C6:∀{vs:List AV},(∀i∈bQ vs,h' i=h i)->jg h' vs=jg h vs
 | [],_=>rfl
 | v::vs,b=>by simp only [jg];rw [pq λi a=>b i (iA.2 (.inl a)),C6 λi a=>b i (iA.2 (.inr a))]
theorem Ay:∀{vs:List AV},(∀i∈bQ vs,h' i=h i)->jW h' vs=jW h vs
 | [],_=>rfl
 | v::vs,b=>by simp only [jW];rw [sG λi a=>b i (iA.2 (.inl a)),Ay λi a=>b i (iA.2 (.inr a))]
theorem C9{v:AV}(a:∀i∈v.ids,h' i=h i):jf h' v=jf h v:=by
 cases v
 case agg vs=>simp only [jf];exact C6 (by simpa [AV.ids] using a)
 all_goals (simp only [jf];rw [pq a])
theorem AD{v:AV}(a:∀i∈v.ids,h' i=h i):fi h' v=fi h v:=by
 cases v
 case agg vs=>simp only [fi];exact Ay (by simpa [AV.ids] using a)
 all_goals (simp only [fi];rw [sG a])
theorem xU{b:Bool}{v:AV}(a:∀i∈v.ids,h' i=h i):iv b false h' v=iv b false h v:=by
 cases v
 case ref i off=>simp only [iv,cond_false];rw [a i (by simp [AV.ids]),pq a,sG a]
 all_goals (simp only [iv];rw [pq a,sG a])
theorem rO{b:Bool}:∀{vs:List AV},(∀i∈bQ vs,h' i=h i)->jP b false h' vs=jP b false h vs
 | [],_=>rfl
 | v::vs,d=>by simp only [jP];rw [xU λi a=>d i (iA.2 (.inl a)),rO λi a=>d i (iA.2 (.inr a))]
theorem xY{g:Bool}{v:AV}(d:∀i∈v.ids,h' i=h i):jk g false h' v=jk g false h v:=by
 cases v
 case agg vs=>simp only [jk];rw [rO (by simpa [AV.ids] using d)]
 case fn f a b=>simp only [AV.ids,LI] at d;simp only [jk];rw [rO λi e=>d i (.inl e),rO λi e=>d i (.inr e)]
 all_goals (simp only [jk];rw [xU d])
theorem x5{b:Bool}:∀{vs:List AV},(∀i∈bQ vs,h' i=h i)->jl b false h' vs=jl b false h vs
 | [],_=>rfl
 | v::vs,d=>by simp only [jl];rw [xY λi a=>d i (iA.2 (.inl a)),x5 λi a=>d i (iA.2 (.inr a))]
theorem qf:∀{a b:List AV} {i:Id},i∈bQ (a++b)↔i∈bQ a\/i∈bQ b
 | [],b,i=>by simp [bQ]
 | v::a,b,i=>by rw [Mi,iA,iA,qf,or_assoc]
theorem vH:∀{vs:List AV} {i:Id},i∈bQ vs->∃v∈vs,i∈v.ids
 | v::vs,i,a=>by
  rcases iA.1 a with a | a
  .exact⟨v,Lq,a⟩
  .obtain⟨u,b,d⟩:=vH a;exact⟨u,Lr _ b,d⟩
 | [],i,a=>by simp [bQ] at a
theorem uA{d:Nat}{c:Option Bool}{f:FuncId}{args:List AV}{K:AV->aC->Option R}(a:s'.h=s.h\/(A.fN f=none/\A.deep f=false/\∀i∈bQ args,s'.h i=s.h i)):fe P A O s' d c f args K=fe P A O s d c f args K:=by
 unfold fe;rcases a with a | ⟨g,j,a⟩
 .rw [a]
 .have e:∀b,jl b false s'.h args=jl b false s.h args:=λb=>x5 a;simp only [g,j,e]
theorem w6{c:Option Bool}{i:Id}{n:Nat}{K:Nat->Bool->List (List T)->Option R}(a:h' i=h i):jG h' c i n K=jG h c i n K:=by unfold jG;rw [a]
theorem Es{fx:Bool}{d:Nat}{c:Option Bool}{f:FuncId}{args:List AV}{K:AV->aC->Option R}(a:s'.h=s.h\/(fx=false/\A.fN f=none/\A.deep f=false/\∀i∈bQ args,s'.h i=s.h i)):gY fx P A O s' d c f args K=gY fx P A O s d c f args K:=by
 rcases a with a | ⟨rfl,a⟩
 .unfold gY;rw [a];cases cond fx (fX args) none with
  | none=>exact uA (.inl a)
  | some q=>obtain⟨b,i,n,e⟩:=q;dsimp only;split <;> rfl
 .exact uA (.inr a)
theorem Hk{c:Option Bool}{t:TypeId}{a:AV}{K:AV->Option R}(b:∀i∈a.ids,s'.h i=s.h i):fj P s' c t a K=fj P s c t a K:=by unfold fj;cases a <;> (try rfl) <;> (simp only [];first | rw [w6 (b _ (by simp [AV.ids]))] | rw [b _ (by simp [AV.ids])])
theorem KP{t:TypeId}{a v:AV}{K:aC->Option R}(d:∀i∈a.ids,s'.h i=s.h i)(b:∀i∈v.ids,s'.h i=s.h i):gQ P s' t a v K=gQ P s t a v K:=by
 unfold gQ;cases a <;> (try rfl) <;> (simp only [];rw [d _ (by simp [AV.ids])];try rw [C9 b,AD b]);cases v
 case own j=>simp only [b j (by simp [AV.ids])]
 all_goals rfl
theorem G2{c:Option Bool}{t:TypeId}{x:AV}{i:Int}{K:AV->Option R}(a:∀i∈x.ids,s'.h i=s.h i):hH P s' c t x i K=hH P s c t x i K:=by
 unfold hH;cases x
 case row i n=>simp only [w6 (a i (by simp [AV.ids]))]
 all_goals first | rfl | (simp only [];rw [a _ (by simp [AV.ids])])
theorem Hc{c:Option Bool}{t:TypeId}{x:AV}{K:AV->Option R}(a:∀i∈x.ids,s'.h i=s.h i):kP P s' c t x K=kP P s c t x K:=by
 unfold kP;cases x
 case row i n=>simp only [w6 (a i (by simp [AV.ids]))]
 all_goals first | rfl | (simp only [];rw [a _ (by simp [AV.ids])])
theorem KD{c:Option Bool}{t:TypeId}{x:AV}{b a d:Option Int}{K:AV->Option R}(e:∀i∈x.ids,s'.h i=s.h i):lu P s' c t x b a d K=lu P s c t x b a d K:=by unfold lu;cases x <;> (try rfl) <;> (simp only [];rw [e _ (by simp [AV.ids])])
theorem AU{t:TypeId}{x:AV}(a:∀i∈x.ids,s'.h i=s.h i):hI P s' t x=hI P s t x:=by
 unfold hI;cases x
 case own i=>simp only [a i (by simp [AV.ids])]
 case t z=>cases z <;> rfl
 all_goals rfl
theorem DZ{t:TypeId}{sz:Nat}{a:List T}{y:AV}{K:List (List T)->Option R}(b:∀i∈y.ids,s'.h i=s.h i):jO P s' t sz a y K=jO P s t sz a y K:=by unfold jO;rw [pq b]
theorem DT{d:Nat}{t ty:TypeId}{x y:AV}{K:AV->aC->Option R}(a:∀i∈x.ids,s'.h i=s.h i)(b:∀i∈y.ids,s'.h i=s.h i):iQ P s' d false t ty x y K=iQ P s d false t ty x y K:=by
 unfold iQ;simp only [cond_false];cases x <;> simp only [DZ b]
 case own i=>rw [a i (by simp [AV.ids])]
 case part i sz off n=>rw [a i (by simp [AV.ids])]
 all_goals rfl
theorem Hs{c:Option Bool}{t:TypeId}{x k:AV}{ok:Bool}{K:AV->Option R}(a:∀i∈x.ids,s'.h i=s.h i):kQ P s' c t x k ok K=kQ P s c t x k ok K:=by unfold kQ;cases x <;> (try rfl) <;> (simp only [];rw [a _ (by simp [AV.ids])])
theorem I4{t:TypeId}{x k v:AV}{K:aC->Option R}(a:∀i∈x.ids,s'.h i=s.h i):kY P s' t x k v K=kY P s t x k v K:=by unfold kY;cases x <;> (try rfl) <;> (simp only [];rw [a _ (by simp [AV.ids])])
theorem EH{t:TypeId}{x k:AV}{K:aC->Option R}(a:∀i∈x.ids,s'.h i=s.h i):kE P s' t x k K=kE P s t x k K:=by unfold kE;cases x <;> (try rfl) <;> (simp only [];rw [a _ (by simp [AV.ids])])
theorem zR{e:TypeId}{ev:Operand->AV}:∀{a:List (Nat×Operand)} {n:Nat},(∀x∈a.map (·.2),∀i∈(ev x).ids,h' i=h i)->fP P h' e ev n a=fP P h e ev n a
 | [],n,_=>rfl
 | (k,o)::a,n,b=>by simp only [fP];rw [C9 (b o (by simp)),AD (b o (by simp)),zR λx d=>b x (by simp only [L6];exact Lr _ d)]
theorem zS{e:TypeId}{ev b:Operand->AV}:∀{a:List (Nat×Operand)} {n:Nat},(∀x∈a.map (·.2),b x=ev x)->fP P h e b n a=fP P h e ev n a
 | [],n,_=>rfl
 | (k,o)::a,n,d=>by simp only [fP];rw [d o (by simp),zS λx f=>d x (by simp only [L6];exact Lr _ f)]
theorem B7{t:TypeId}{ev b:Operand->AV}:∀{a:List (Nat×Operand)},(∀x∈a.map (·.2),b x=ev x)->mg P t b a=mg P t ev a
 | [],_=>rfl
 | (k,o)::a,d=>by simp only [mg];rw [d o (by simp),B7 λx e=>d x (by simp only [L6];exact Lr _ e)]
theorem kM{g:Option Gs}{x:Operand}(a:∀k,x= .tmp k->s'.t k=s.t k):s'.get g x=s.get g x:=by
 cases x with
 | tmp k=>show(cond (je (s'.t k).1 g) (s'.t k).2 AV.top)=cond (je (s.t k).1 g) (s.t k).2 AV.top;rw [a k rfl]
 | _=>rfl
theorem AJ{g:Option Gs}{b x:Operand}{w:Bool}(a:∀k,x= .tmp k->s'.t k=s.t k):s'.jX g b w x=s.jX g b w x:=by
 unfold St.jX;split
 .rw [a _ rfl]
 .exact kM a
set_option maxHeartbeats 1000000 in
theorem Cw:∀{vs:List AV} {b:List AV} {i:Id} {n:Nat} {d:List AV},fX vs=some (b,i,n,d)->i∈bQ vs
 | [],_,_,_,_,h=>by simp [fX] at h
 | v::r,b,i,n,d,h=>by
  unfold fX at h;split at h
  .cases h
  .rename_i i' g f a;simp only [My] at a;obtain⟨rfl,rfl⟩:=a;simp only [Lo,Ma] at h;obtain⟨rfl,rfl,rfl,rfl⟩:=h;simp [bQ,AV.ids]
  .rename_i o f _ a;simp only [My] at a;obtain⟨rfl,rfl⟩:=a;obtain⟨q,e,h⟩:=Lp.1 h;obtain⟨j,k,l,m⟩:=q;simp only [Lo,Ma] at h;obtain⟨rfl,rfl,rfl,rfl⟩:=h;simp only [bQ,LI];exact .inr (Cw e)
theorem Jf{R:Type}{P:Program}{s s':St}{e:TypeId}{d:Nat}{c:Option Bool}{v:AV}{K:AV->aC->Option R}(b:∀i∈v.ids,s'.h i=s.h i):lh P s' e d c v K=lh P s e d c v K:=by
 unfold lh;split
 .rename_i vs;split
  .rename_i f i n g a;rw [b i (by simp only [AV.ids];exact Cw a)]
  .rfl
 .rfl
theorem Aq(v:AV):(jV v).ids=v.ids:=by unfold jV;split <;> rfl
theorem gX{g:Option Gs}{o:Oper}(I:∀x∈o.op.operands,∀k,x= .tmp k->s'.t k=s.t k)(N:et P o=true\/gF o=true\/s'.h=s.h\/(dG A o=false/\dD A o=false/\∀x∈o.op.operands,∀i∈(s.get g x).ids,s'.h i=s.h i)):
  cz P A O g o s'=cz P A O g o s:=by
 have j:∀x∈o.op.operands,s'.get g x=s.get g x:=λx m=>kM (I x m);have l:et P o=true\/gF o=true\/∀x∈o.op.operands,∀i∈(s.get g x).ids,s'.h i=s.h i:=by
  rcases N with h | h | h | h
  .exact .inl h
  .exact .inr (.inl h)
  .exact .inr (.inr λ_ _ i _=>by rw [h])
  .exact .inr (.inr h.2.2)
 have hw:∀cl,o.op= .call cl->∀f,cl.callee= .value f->et P o=false:=by intro cl U f h2;simp [et,U,h2]
 have hal:∀cl,o.op= .call cl->gF o=false:=by intro cl U;simp [gF,U]
 have Q:et P o=true\/gF o=true\/s'.h=s.h\/(dG A o=false/\dD A o=false):=N.imp id (Or.imp id (Or.imp id λh=>⟨h.1,h.2.1⟩));unfold cz gw;cases B:o.op <;> rw [B] at I j l <;> simp only [et,gF,B,LY,false_or] at l <;> dsimp only <;> simp only [Op.operands] at I j l
 case pick a b x=>rw [j a (by simp),AJ (I b (by simp)),AJ (I x (by simp))]
 case build t ps=>unfold rS;rw [B7 (ev:=s.get g) (by simpa using j)]
 case buildSlice t n ps=>
  have C:∀e,fP P s'.h e (s'.get g) 0 ps.toList=fP P s.h e (s.get g) 0 ps.toList:=λe=>by rw [zS (ev:=s.get g) (by simpa using j),zR (by simpa using l)]
  simp only [C];congr 1;funext e;split
  .split
   .rename_i x _ E;rw [j x (by simp [E])]
   .rfl
  .split
   .split
    .rename_i x E;rw [j x (by simp [E])];exact Jf (l x (by simp [E]))
    .rfl
   .rfl
 case load t x=>rw [j x (by simp),Hk (l x (by simp))]
 case store t x y=>rw [j x (by simp),j y (by simp),KP (l x (by simp)) (l y (by simp))]
 case binOp op t x y ty=>
  rw [j x (by simp),j y (by simp)];rcases l with l | l
  .simp only [Mr,MZ] at l;rw [l.1,l.2];cases op <;> rfl
  .rw [AU (l x (by simp)),AU (l y (by simp))]
 case convert src dst x=>rw [j x (by simp),pq (l x (by simp))]
 case makeFunc fn L G=>
  cases fn <;> try rfl
  have C:L.toList.map (s'.get g)=L.toList.map (s.get g):=Mx λx m=>j x (by simp at m⊢;exact .inl m);have e2:G.toList.map (s'.get g)=G.toList.map (s.get g):=Mx λx m=>j x (by simp at m⊢;exact .inr m);simp only [C,e2]
 case slice t x Z q mx=>
  have eb:∀(o:Option Operand) (c:Option Bool) (K:Option Int->Option (AV×aC)),(∀y,o=some y->y∈#[x] ++Z.toArray++q.toArray++mx.toArray)->gz s' c g o K=gz s c g o K:=by
   intro o c K hm;unfold gz;cases o with
   | none=>rfl
   | some y=>simp only [j y (hm y rfl)]
  have m:x∈#[x] ++Z.toArray++q.toArray++mx.toArray:=by simp
  rw [j x m];simp only [KD (l x m)];rw [eb Z _ _ (by intro y e;subst e;simp)];congr 1;funext lo';rw [eb q _ _ (by intro y e;subst e;simp)];congr 1;funext hi';rw [eb mx _ _ (by intro y e;subst e;simp)]
 case indexAddr t x i=>rw [j x (by simp),j i (by simp)];simp only [G2 (l x (by simp))]
 case call cl=>
  simp only [Call.operands] at j l;split
  .rename_i p;split
   .rename_i x t ts m _;have hm:x∈(match cl.callee with | .value f=> #[f] | .invoke r _=> #[r] | .builtin _=> #[])++cl.args:=by
     simp [<-Array.mem_toList_iff,m]
    rw [j x hm];rcases l with l | l
    .simp [p] at l
    .exact Hc (l x hm)
   .rfl
  .rename_i p;split
   .rename_i x y t u _ m _;have hm:∀z,(z=x\/z=y)->z∈(match cl.callee with | .value f=> #[f] | .invoke r _=> #[r] | .builtin _=> #[])++cl.args:=by
     intro z Y;simp [<-Array.mem_toList_iff,m,Y]
    rw [j x (hm x (.inl rfl)),j y (hm y (.inr rfl))];rcases l with l | l
    .simp [p] at l
    .cases hn:(A.jy o.dst o.type==3) with
     | false=>exact DT (l x (hm x (.inl rfl))) (l y (hm y (.inr rfl)))
     | true=>
      rcases Q with h | h | h | h
      .simp [et,B,p] at h
      .simp [gF,B] at h
      .have:∀(d:Nat) (b:Bool) (t ty:TypeId) (x y:AV) (K:AV->aC->Option (AV×aC)),iQ P s' d b t ty x y K=iQ P s d b t ty x y K:=λd b t ty x y K=>by
        unfold iQ mP jO;rw [h]
       exact this _ _ _ _ _ _ _
      .have:=h.2;simp [dD,B,p,hn] at this
   .rfl
  .have C:cl.args.toList.map (s'.get g)=cl.args.toList.map (s.get g):=Mx λx m=>j x (by simp at m⊢;exact .inr m);rw [C]
  .have C:cl.args.toList.map (s'.get g)=cl.args.toList.map (s.get g):=Mx λx m=>j x (by simp at m⊢;exact .inr m);rw [C]
  .rename_i p;split
   .rename_i x y t ts _ m _;have hm:∀z,(z=x\/z=y)->z∈(match cl.callee with | .value f=> #[f] | .invoke r _=> #[r] | .builtin _=> #[])++cl.args:=by
     intro z Y;simp [<-Array.mem_toList_iff,m,Y]
    rw [j x (hm x (.inl rfl)),j y (hm y (.inr rfl))];rcases l with l | l
    .simp [p] at l
    .exact EH (l x (hm x (.inl rfl)))
   .rfl
  .rename_i p;split
   .rename_i x t ts m _;have hm:x∈(match cl.callee with | .value f=> #[f] | .invoke r _=> #[r] | .builtin _=> #[])++cl.args:=by
     simp [<-Array.mem_toList_iff,m]
    rw [j x hm]
   .rfl
  .rename_i F p;have C:cl.args.toList.map (s'.get g)=cl.args.toList.map (s.get g):=Mx λx m=>j x (by simp at m⊢;exact .inr m);have M:F∈(match cl.callee with | .value f=> #[f] | .invoke r _=> #[r] | .builtin _=> #[])++cl.args:=by simp [p]
   rw [C,j F M];rcases l with l | l
   .simp [p] at l
   .cases J:jV (s.get g F) <;> try rfl
    rename_i f a b;have D:=l F M;rw [<-Aq,J] at D;simp only [AV.ids,LI] at D;refine Es ?_;have V:∀i∈bQ (a++cl.args.toList.map (s.get g)++b),s'.h i=s.h i:=by
     intro i q;rcases qf.1 q with q | q
     .rcases qf.1 q with q | q
      .exact D i (.inl q)
      .obtain⟨v,J,q⟩:=vH q;obtain⟨x,m,rfl⟩:=L4.1 J;exact l x (by simp at m⊢;exact .inr m) i q
     .exact D i (.inr q)
    rcases Q with h | h | h | h
    .rw [hw cl B F p] at h;cases h
    .rw [hal cl B] at h;cases h
    .exact .inl h
    .obtain⟨h,X⟩:=h;simp only [dG,B,p] at h;simp only [dD,B,p] at X;cases F with
     | func f'=>
      simp only [St.get,jV] at J;obtain⟨rfl,_,_⟩:f'=f/\_/\_:=by simpa using J
      cases hb:A.fN f' with
      | some x=>dsimp only at h;rw [hb] at h;simp at h
      | none=>exact .inr ⟨rfl,rfl,X,V⟩
     | _=>simp at X
  .rfl
 case move x=>rw [j x (by simp)]
 case assign x=>rw [j x (by simp)]
 case box t x=>rw [j x (by simp)]
 case nilCheck x=>rw [j x (by simp)]
 case unOp op t x=>rw [j x (by simp)]
 case makeSlice t x y=>rw [j x (by simp),j y (by simp)]
 case lookup t x k ok=>rw [j x (by simp),j k (by simp),Hs (l x (by simp))]
 case mapUpdate t x k v=>rw [j x (by simp),j k (by simp),j v (by simp),I4 (l x (by simp))]
 case fieldAddr t x f=>rw [j x (by simp)]
 case field t x f=>rw [j x (by simp)]
 case index t x i=>rw [j x (by simp),j i (by simp)]
 case extract x k=>rw [j x (by simp)]
theorem D4{dv:List Id}{b:Bool}{v:AV}(a:∀i∈v.ids,h' i=h i):pP h' dv b v=pP h dv b v:=by unfold pP;rw [xY a]
theorem xW{dv:List Id}:∀{a:List Bool} {vs:List AV},(∀i∈bQ vs,h' i=h i)->jQ h' dv a vs=jQ h dv a vs
 | _,[],_=>by simp [jQ]
 | a,v::vs,d=>by simp only [jQ];rw [D4 λi b=>d i (iA.2 (.inl b)),xW λi b=>d i (iA.2 (.inr b))]
theorem tT{N:Id->Prop}:∀{us:aC} {h h':Id->Option ab},(∀i,¬N i->h' i=h i)->∀i,¬N i->aI h' us i=aI h us i
 | [],_,_,a,i,d=>a i d
 | (j,b)::us,h,h',a,i,d=>by
  rw [cB,cB];refine tT (N:=N) (λk f=> ?_) i d;by_cases e:k=j
  .subst e;rw [aB,aB]
  .rw [ao _ _ e,ao _ _ e];exact a k f
theorem IV{N:Id->Prop}{new i:Id}{k sz:Nat}{us:aC}(a:∀i,¬N i->h' i=h i)(f:¬N i)(d:¬N new)(o:∀p∈us,¬N p.1)(e:mf h new i k sz=some us):mf h' new i k sz=some us:=by
 unfold mf at e⊢;cases l:Nat.ble 100000 sz with
 | true=>rw [l,cond_true] at e;rw [cond_true];unfold pe at e⊢;rw [a i f,a new d];exact e
 | false=>
 rw [l,cond_false] at e;rw [cond_false];rw [a i f,a new d];split at e
 .rename_i cs f
  try simp only [f]
  split at e
  .exact e
  .exact e
  .exact e
  .rename_i j v n x;split at e
   .rename_i u b xs r;split at e
    .rename_i q;have g:¬N j:=by
      cases m:(h new).isNone with
      | false=>rw [m] at e;simp at e
      | true=>rw [m] at e;simp only [cond_true,Lo] at e;subst e;exact o (j,_) Lq
     rw [a j g,r];simp only [if_pos q];exact e
    .cases e
   .cases e
  .cases e
 .cases e
theorem Cc{N:Id->Prop}{nm:Nat}(a:∀k,¬N (.s nm k)):∀{l:List (Id×Nat×Nat)} {j:Nat} {h h':Id->Option ab} {us:aC},(∀i,¬N i->h' i=h i)->(∀q∈l,¬N q.1)->(∀p∈us,¬N p.1)->iD nm j h l=some us->iD nm j h' l=some us
 | [],_,_,_,_,_,_,_,e=>e
 | (i,k,sz)::l,j,h,h',us,f,hl,b,e=>by simp only [iD] at e⊢;obtain⟨r,g,e⟩:=Lp.1 e;obtain⟨u,m,e⟩:=Lp.1 e;simp only [Lo] at e;subst e;rw [IV f (hl (i,k,sz) Lq) (a j) (λp d=>b p (LH _ d)) g];simp only [Lt];rw [Cc a (tT f) (λq o=>hl q (Lr _ o)) (λp d=>b p (LF _ d)) m];rfl
theorem qN:∀{n:Nat} {todo a seen:List Id},dX h n todo a=some seen->(∀i∈seen,h' i=h i)->dX h' n todo a=some seen
 | 0,todo,a,seen,e,_=>by simp [dX] at e
 | n+1,[],a,seen,e,_=>e
 | n+1,i::todo,a,seen,e,hs=>by
  simp only [dX] at e⊢;cases b:a.contains i with
  | true=>rw [b,cond_true] at e;rw [cond_true];exact qN e hs
  | false=>
   rw [b,cond_false] at e;rw [cond_false];have hm:i∈seen:=by
    have:a++ [i] <+:seen:=by
     split at e
     .exact mi e
     .exact mi e
     .exact mi e
     .cases e
    exact this.subset (LF _ (Lz.2 rfl))
   rw [hs i hm];split at e
   .exact qN e hs
   .exact qN e hs
   .exact qN e hs
   .cases e
theorem uH:∀{l seen:List Id},∀i∈mW l seen,i∈l
 | [],_,i,a=>by simp [mW] at a
 | j::l,seen,i,a=>by
  simp only [mW] at a;cases b:seen.contains j with
  | true=>rw [b,cond_true] at a;exact Lr _ (uH i a)
  | false=>
   rw [b,cond_false] at a;rcases LC.1 a with rfl | a
   .exact Lq
   .exact Lr _ (uH i a)
theorem tp{i:Id}:∀{l:List bS} {k:Nat},∀q∈lb i k l,q.1=i
 | [],_,q,a=>by simp [lb] at a
 | r::l,k,q,a=>by
  cases r with
  | own sz=>
   simp only [lb] at a;rcases LC.1 a with rfl | a
   .rfl
   .exact tp q a
  | rows sz col rsz=>
   simp only [lb] at a;rcases LC.1 a with rfl | a
   .rfl
   .exact tp q a
  | _=>simp only [lb] at a;exact tp q a
theorem wU:∀{e:List Id} {d:List im},∀q∈lf e d,q.1∈e
 | [],d,q,a=>by cases d <;> simp [lf] at a
 | i::e,[],q,a=>by simp [lf] at a
 | i::e,b::d,q,a=>by
  cases b with
  | box l=>
   simp only [lf,LI] at a;rcases a with a | a
   .rw [tp q a];exact Lq
   .exact Lr _ (wU q a)
  | _=>simp only [lf] at a;exact Lr _ (wU q a)
theorem Er{N:Id->Prop}{d:Nat}{c:Option Bool}{f:FuncId}{args:List AV}{v:AV}{us:aC}(F:∀i,¬N i->s'.h i=s.h i)(M:A.deep f=false)(m:∀i∈bQ args,¬N i)(G:∀k,¬N (.s (2000000+d) k))(E:∀p∈us,¬N p.1)
  (e:fe P A O s d c f args (λv u=>some (v,u))=some (v,us)):fe P A O s' d c f args (λv u=>some (v,u))=some (v,us):=by
 cases K:A.fN f with
 | none=>rw [uA (.inr ⟨K,M,λi l=>F i (m i l)⟩)];exact e
 | some Y=>
  unfold fe at e⊢;cases D:P.funcs[f]? with
  | none=>rw [D] at e;simp at e
  | some fn=>
   simp only [D,K] at e⊢;cases c with
   | some b=>simp at e
   | none=>
    simp only at e⊢;rw [xW λi l=>F i (m i l)];obtain⟨p,U,e⟩:=Lp.1 e;rw [U,Lt];obtain⟨a,I,e⟩:=Lp.1 e;obtain⟨seen,o,e⟩:=Lp.1 e;obtain⟨_,_,J,_,_⟩:=qO o N2 (by simp) (by simp);have L:=e;have g:(∀q∈a,¬N q.1)/\∀i∈seen,¬N i:=by
     cases C:(s6 d seen && Nat.beq (ft (seen.map λi=>fC seen (aI (aI s.h p.2) a i)).head?) (ft ((bQ p.1).head?.bind (aI s.h p.2)))) with
     | false=>rw [C] at e;simp at e
     | true=>
      rw [C,cond_true] at e;obtain⟨Z,e,_⟩:=tS (.inl rfl) e;obtain⟨xs,_,e⟩:=aL e (.inl rfl);rw [show ∀(n:Nat),(dt seen d none 0 (cN P A f n fn) xs λvs u j=>eT seen d j seen (fA A f n) (xs.drop (kr (cN P A f n fn))) λq=>(some (jD vs,p.2++a++ix seen++u++q):Option (AV×aC)))=
       ((dt seen d none 0 (cN P A f n fn) xs λvs u j=>some (vs,u,j)).bind λz=>(eT seen d z.2.2 seen (fA A f n) (xs.drop (kr (cN P A f n fn))) some).bind λq=>some (jD z.1,p.2++a++ix seen++z.2.1++q)) from λn=>by
        rw [mU];congr 1;funext vs u j;simp only [Lt];rw [rZ];rfl] at e
      obtain⟨z,_,e⟩:=Lp.1 e;obtain⟨q,_,e⟩:=Lp.1 e;simp only [Lo,Ma] at e;obtain⟨_,rfl⟩:=e;refine⟨λx X=>E x ?_,λi l=>E (i, .dead) ?_⟩
      .exact LH _ (LH _ (LH _ (LF _ X)))
      .exact LH _ (LH _ (LF _ (L4.2 ⟨i,l,rfl⟩)))
    have r:∀i,¬N i->aI s'.h p.2 i=aI s.h p.2 i:=tT F;have B:∀i,¬N i->aI (aI s'.h p.2) a i=aI (aI s.h p.2) a i:=tT r;have y:(bQ p.1).head?.bind (aI s'.h p.2)= (bQ p.1).head?.bind (aI s.h p.2):=by
     cases Q:(bQ p.1).head? with
     | none=>rfl
     | some i=>exact r i (g.2 i (J i (List.mem_of_mem_head? (by rw [Q];rfl))))
    rw [y];rw [Cc G r (λq V=>g.2 q.1 (J q.1 (uH q.1 (wU q V)))) g.1 I,Lt];rw [qN o λi l=>B i (g.2 i l),Lt];have hm:(seen.map λi=>fC seen (aI (aI s'.h p.2) a i))=seen.map λi=>fC seen (aI (aI s.h p.2) a i):=Mx λi l=>by rw [B i (g.2 i l)]
    rw [hm];exact L
theorem rN{N:Id->Prop}{g:Option Gs}{o:Oper}{v:AV}{us:aC}(K:∀x∈o.op.operands,∀k,x= .tmp k->s'.t k=s.t k)(J:∀i,¬N i->s'.h i=s.h i)(z:dD A o=false)(l:∀x∈o.op.operands,∀i∈(s.get g x).ids,¬N i)
  (F:∀k,¬N (.s (2000000+o.dst.getD 0) k)) (L:∀p∈us,¬N p.1) (e:cz P A O g o s=some (v,us)):cz P A O g o s'=some (v,us):=by
 cases G:dG A o with
 | false=>rw [gX (s:=s) K (.inr (.inr (.inr ⟨G,z,λx q i d=>J i (l x q i d)⟩)))];exact e
 | true=>
  have C:∀x∈o.op.operands,s'.get g x=s.get g x:=λx q=>kM (K x q);cases y:o.op <;> simp only [dG,y,LY] at G;rename_i cl;cases j:cl.callee <;> simp only [j,LY] at G;rename_i u;unfold cz gw at e⊢;rw [y] at e l C⊢;simp only [Op.operands,Call.operands] at l C;simp only [j] at e⊢;have M:cl.args.toList.map (s'.get g)=cl.args.toList.map (s.get g):=Mx λx q=>C x (by simp at q⊢;exact .inr q);have E:u∈(match cl.callee with | .value f=> #[f] | .invoke r _=> #[r] | .builtin _=> #[])++cl.args:=by simp [j]
  rw [M,C u E];cases B:jV (s.get g u) <;> rw [B] at e <;> simp only [reduceCtorEq] at e;rename_i f a b;have m:=l u E;rw [<-Aq,B] at m;simp only [AV.ids,LI] at m;have D:A.deep f=false:=by
   simp only [dD,y,j] at z;cases u with
   | func I=>
    simp only [St.get,jV] at B;obtain⟨rfl,_,_⟩:I=f/\_/\_:=by simpa using B
    exact z
   | _=>simp at z
  have hl:Bk u=false:=by
   simp only [dD,y,j] at z;cases u with
   | func I=>rfl
   | _=>simp at z
  dsimp only at e⊢;rw [hl,Et] at e⊢;refine Er J D ?_ F L e;intro i d;rcases qf.1 d with d | d
  .rcases qf.1 d with d | d
   .exact m i (.inl d)
   .obtain⟨v,B,d⟩:=vH d;obtain⟨x,q,rfl⟩:=L4.1 B;exact l x (by simp at q⊢;exact .inr q) i d
  .exact m i (.inr d)
end
open Go Go.IntKind
section
variable {P:Program} {An:cq} {Or:ay} {w w':World} {A A':Nat->Prop} {c:Ctx} {ρ:Id->Option Value} {O:Id->Option Nat} {s s' s1 s2:St} {h:Id->Option ab} {ops:Array Oper} {nt:Nat}
structure pL (P:Program) (An:cq) (Or:ay) (nt:Nat) (ops:Array Oper) (o:Oper) (s:St) (g:Option Gs) (v:AV) (us:aC):Prop where
 guard:cK ops o s some=some g
 op:cz P An Or g o s=some (v,us)
 ok:kV P An true nt ops o g s v us=true
 dv:hU An true o s.h us=true
theorem Df{o:Oper}{g:Option Gs}:nL An true o g=none:=by cases g <;> rfl
theorem wG{o:Oper}(e:dW P An Or true nt ops o s=some s'):∃g v us,pL P An Or nt ops o s g v us/\s'=s.put (de ops o.dst) o.dst g v us:=by
 unfold dW me at e;rw [sL] at e;replace e:=Lp.1 e;obtain⟨g,f,e⟩:=e;rw [Df] at e;dsimp only at e;rw [n6] at e;replace e:=Lp.1 e;obtain⟨⟨v,us⟩,d,e⟩:=e;dsimp only at e;rw [qm] at e;cases a:hU An true o s.h us with
 | false=>rw [a] at e;cases e
 | true=>
  rw [a,cond_true] at e;split at e
  .rename_i b;simp only [Lo] at e;exact⟨g,v,us,⟨f,d,b,a⟩,e.symm⟩
  .simp at e
theorem pL.dW{o:Oper}{g:Option Gs}{v:AV}{us:aC}(a:pL P An Or nt ops o s g v us):dW P An Or true nt ops o s=some (s.put (de ops o.dst) o.dst g v us):=by unfold Aev.dW me;rw [sL,a.guard,Lt,Df];dsimp only;rw [n6,a.op,Lt];dsimp only;rw [qm,a.dv,cond_true,if_pos a.ok]
def nR(ops:Array Oper)(a:Array Bool)(s:St):Prop:= ∀k g v,s.t k= (some g,v)->∃i o,ops[i]? =some o/\a.getD i false=true/\o.dst=some g.d
theorem mX{d:Nat}{o:Oper}(a:o.dst=some d):∀(l:List Oper),o∈l->d∈fg l:=by
 intro l;induction l with
 | nil=>intro hm;cases hm
 | cons x l b=>
  intro hm;simp only [fg];rcases LC.1 hm with rfl | hm
  .rw [a];exact Lq
  .have:=b hm;split
   .exact Lr _ this
   .exact this
theorem yN:∀{l:List Oper},qA (fg l)=true->∀{i j:Nat} {x y:Oper} {d:Nat},l[i]? =some x->l[j]? =some y->x.dst=some d->y.dst=some d->i=j
 | [],_,i,j,x,y,d,b,_,_,_=>by simp at b
 | z::l,a,i,j,x,y,d,b,f,k,m=>by
  have g:qA (fg l)=true/\∀d,z.dst=some d->d∉fg l:=by
   simp only [fg] at a;cases o:z.dst with
   | none=>rw [o] at a;exact⟨a,λd h=>by cases h⟩
   | some e=>
    rw [o] at a;simp only [qA,Lu,Mr] at a;refine⟨a.2,λd h=> ?_⟩;simp only [Lo] at h;subst h;intro hm;have:(fg l).contains e=true:=by simpa using hm
    rw [this] at a;cases a.1
  cases i with
  | zero=>
   simp only [Ms,Lo] at b;subst b;cases j with
   | zero=>rfl
   | succ j=>simp only [MR] at f;exact(g.2 d k (mX m _ (LB f))).elim
  | succ i=>
   simp only [MR] at b;cases j with
   | zero=>simp only [Ms,Lo] at f;subst f;exact(g.2 d m (mX k _ (LB b))).elim
   | succ j=>simp only [MR] at f;rw [yN g.1 b f k m]
def n5(ops:Array Oper):Prop:= ∀{i j:Nat} {x y:Oper} {d:Nat},ops[i]? =some x->ops[j]? =some y->x.dst=some d->y.dst=some d->i=j
theorem rp{a:Array Bool}{i:Nat}(h:a.getD i true=false):a.getD i false=true->False:=by
 intro d;rw [MQ] at h d;cases e:a[i]? with
 | none=>rw [e] at h;simp at h
 | some b=>rw [e] at h d;simp at h d;rw [h] at d;cases d
theorem wS{a:Array Bool}{i:Nat}{o:Oper}{g:Option Gs}{v:AV}{us:aC}(z:n5 ops)(y:ops[i]? =some o)(hl:a.getD i true=false)(x:nR ops a s)(b:Bool):
  s.put b o.dst g v us=s.put false o.dst g v us:=by
 unfold St.put;cases u:o.dst with
 | none=>rfl
 | some d=>
  simp only [St.mk.injEq,and_true];funext k;split
  .rfl
  .cases b with
   | false=>rfl
   | true=>
    simp only [cond_true,cond_false];cases p:s.t k with
    | mk f vk=>
     cases f with
     | none=>rfl
     | some f=>
      simp only [jS];cases m:(f.d==d) with
      | false=>rfl
      | true=>
       exfalso;obtain⟨j,B,q,r,l⟩:=x k f vk p;have e:f.d=d:=by simpa using m
       rw [e] at l;have:=z q y l u;subst this;exact rp hl r
theorem eu{o:Oper}{k:Nat}(h:(.tmp k:Operand)∈o.op.operands):k∈o.looksAt ops:=by unfold Oper.looksAt;refine LH _ (NY.2 ⟨.tmp k,by simpa using h,rfl⟩)
theorem Bs{o:Oper}{j d:Nat}{b:Bool}(h:o.guard=some (j,b))(a:(ops[j]?).bind (·.dst)=some d):d∈o.looksAt ops:=by unfold Oper.looksAt;refine LF _ ?_;rw [h];simp [a]
theorem nH{b:Bool}{o:Oper}{g:Option Gs}{v:AV}{us:aC}{k:Nat}(f:o.dst≠some k):(s.put false o.dst g v us).t k=s.t k:=by
 unfold St.put;cases a:o.dst with
 | none=>rfl
 | some d=>have:k≠d:=λe=>f (by rw [a,e]);simp [if_neg this]
theorem AN{o:Oper}(f:∀j b d,o.guard=some (j,b)->(ops[j]?).bind (·.dst)=some d->s'.t d=s.t d):cK ops o s' some=cK ops o s some:=by
 unfold cK;cases e:o.guard with
 | none=>rfl
 | some p=>
  obtain⟨j,b⟩:=p;simp only;cases a:(ops[j]?).bind (·.dst) with
  | none=>rfl
  | some d=>simp only [f j b d e a]
theorem tU:∀{us:aC} {h:Id->Option ab} {i:Id},aI h us i=none->(∀q∈us,q.1≠i)/\h i=none
 | [],h,i,e=>⟨by simp,e⟩
 | (j,x)::us,h,i,e=>by
  rw [cB] at e;obtain⟨f,b⟩:=tU e;by_cases a:i=j
  .subst a;rw [aB] at b;cases b
  .rw [ao _ _ a] at b;refine⟨λq d=> ?_,b⟩;rcases LC.1 d with rfl | d
   .exact λe=>a e.symm
   .exact f q d
theorem BH{o:Oper}{g:Option Gs}(a:∀x∈o.op.operands,s'.get g x=s.get g x):l9 ops g o s'=l9 ops g o s:=by
 unfold l9;have key:∀l:List Operand,(∀x∈l,s'.get g x=s.get g x)->(l.all λx=>(s'.get g x).ids.all λi=>match i with
  | .s d _=>oc ops o d
  | .c _=>true
  | .g _ _=>false)= (l.all λx=>(s.get g x).ids.all λi=>match i with
  | .s d _=>oc ops o d
  | .c _=>true
  | .g _ _=>false):=by
  intro l;induction l with
  | nil=>intro _;rfl
  | cons x l f=>intro h;rw [MN,MN,h x Lq,f λy e=>h y (Lr _ e)]
 exact key _ λx b=>a x (by simpa using b)
theorem sX{o:Oper}{g:Option Gs}(l:l9 ops g o s=true){x:Operand}(v:x∈o.op.operands){d k:Nat}(u:Id.s d k∈(s.get g x).ids){i:Nat}{m:Oper}(a:ops[i]? =some m)(q:m.dst=some d):
  ∃e∈o.after,Region.binds .any e=true/\(e.on=i\/fG ops 12 e.on i=true):=by
 unfold l9 at l;have p:=LK.1 l x (by simpa using v);have b:=LK.1 p _ u;simp only at b;unfold oc at b;have f:=LK.1 b i (Om.2 (NS.1 a).1);rw [a] at f;simp only [q,BEq.rfl,Lv,Mt] at f;obtain⟨e,r,j⟩:=NC.1 f;simp only [Lu,Mg,beq_iff_eq] at j;exact⟨e,r,j.1,j.2⟩
theorem eW{o:Oper}{us:aC}(b:iZ o us=true){i:Id}(a:∃q∈us,q.1=i):∃d k,i= .s d k/\o.dst=some d:=by
 obtain⟨q,f,rfl⟩:=a;have:=LK.1 b q f;split at this
 .rename_i d k e;exact⟨d,k,e,by simpa using this⟩
 .simp at this
 .simp at this
theorem Lb{us vs:aC}(a:∀p∈us,∀q∈vs,p.1≠q.1):∀{h:Id->Option ab},aI (aI h us) vs=aI (aI h vs) us:=by
 induction us with
 | nil=>intro h;rfl
 | cons p us g=>intro h;obtain⟨i,b⟩:=p;rw [cB,cB,g (λp d=>a p (Lr _ d)),rq (λq f e=>a (i,b) Lq q f e.symm)]
def nO(ops:Array Oper)(a:Array Bool):Prop:= ∀k ok,ops[k]? =some ok->a.getD k false=true->∀e∈ok.after,Region.binds .any e=true->a.getD e.on false=true
theorem uv{a:Array Bool}(f:nO ops a){i:Nat}(m:a.getD i true=false):∀{n j:Nat} {d:Oper},ops[j]? =some d->(∀e∈d.after,Region.binds .any e=true->a.getD e.on false=true)->fG ops n j i=false
 | 0,j,d,_,_=>rfl
 | n+1,j,d,q,g=>by
  simp only [fG,q];rw [Array.any_eq_false'];intro e p l;simp only [Lu,Mg,beq_iff_eq] at l;obtain⟨o,b⟩:=l;have hl:=g e p o;rcases b with b | ⟨_,b⟩
  .exact rp m (b▸hl)
  .cases k:ops[e.on]? with
   | none=>
    cases n with
    | zero=>simp [fG] at b
    | succ n=>simp [fG,k] at b
   | some ok=>rw [uv f m k (f e.on ok k hl)] at b;cases b
theorem xr{a b:Oper}(h:iJ An ops a b=true):∃k d,eY ops a=some k/\eY ops b=some d/\k≠d/\k∉fg ops.toList/\d∉fg ops.toList:=by
 unfold iJ at h;simp only [Lu] at h;obtain⟨_,h⟩:=h;split at h
 .rename_i k d e f;simp only [Lu,Mr,beq_eq_false_iff_ne,ne_eq] at h;obtain⟨⟨g,i⟩,j⟩:=h;exact⟨k,d,e,f,g,by simpa using i,by simpa using j⟩
 .cases h
theorem KL{a b:Oper}(h:iJ An ops a b=true):iJ An ops b a=true:=by have h0:=h;unfold iJ at h0;simp only [Lu] at h0;obtain⟨k,l,d,f,g,i,j⟩:=xr h;unfold iJ;rw [d,f,h0.1];simp only [MC,Lu,Mr,beq_eq_false_iff_ne,ne_eq];exact⟨⟨λe=>g e.symm,by simpa using j⟩,by simpa using i⟩
theorem Dk{o b:Oper}{us:aC}{k e:Nat}(h:iK P An ops o s us=true)(hm:b∈ops)(f:iJ An ops o b=true)(m:eY ops o=some k)(d:eY ops b=some e):
  (∀x∈o.op.operands,∀i∈(s.get none x).ids,i∈(s.t k).2.ids)/\(∀p∈us,p.1∈(s.t k).2.ids)/\(∀p∈us,p.1∉(s.t e).2.ids):=by
 have a:=Mf.1 h b hm;simp only [Lu] at a;replace a:=a.1.1.1.1;rw [f] at a;simp only [Lv,Mt,xu,m,d,Lu,LK,decide_eq_true_eq] at a;obtain⟨⟨g,j⟩,l⟩:=a;exact⟨λx q=>g x (Array.mem_toList_iff.2 q),j,l⟩
theorem qt{a b:Oper}(h:gH P An ops a b=true):(∃k,gJ ops b=some (some k)/\k∉fg ops.toList)\/gJ ops b=some none:=by
 unfold gH at h;simp only [Lu] at h;obtain⟨_,h⟩:=h;split at h
 .rename_i k d;exact .inl ⟨k,d,by simpa using h⟩
 .rename_i d;exact .inr d
 .cases h
theorem Bh{a b:Oper}(h:gH P An ops a b=true):a.guard=none/\aH P An a=true/\dG An a=false/\dD An a=false:=by
 unfold gH at h;simp only [Lu] at h;obtain⟨⟨_,⟨_,h⟩,_⟩,_⟩:=h;unfold xS at h;simp only [Lu,Nu] at h;obtain⟨⟨i,j⟩,e⟩:=h;refine⟨i,j, ?_⟩;split at e
 .rename_i cl d;split at e
  .rename_i g;simp only [Mr] at e;simp [dG,dD,d,g,e]
  .rename_i f g;simp only [Lu,Nu,Mr] at e;simp [dG,dD,d,g,e.1,e.2]
  .cases e
 .rename_i d;simp [dG,dD,d]
 .rename_i d;simp [dG,dD,d]
 .cases e
theorem Bi{a b:Oper}(h:gH P An ops a b=true):aH P An b=false:=by unfold gH at h;simp only [Lu,Mr] at h;exact h.1.2.1.1
theorem Jd{o:Oper}{r:Option Nat}(h:gJ ops o=some r):o.guard=none:=by
 unfold gJ at h;split at h
 .rename_i a b;exact a
 .rename_i a b;exact a
 .cases h
theorem Ct{o:Oper}{r:Option Nat}(d:aH P An o=false)(h:gJ ops o=some r):o.guard=none/\aH P An o=false/\dG An o=false/\dD An o=false:=by
 unfold gJ at h;split at h
 .rename_i b a;simp [b,aH,dG,dD,a]
 .rename_i b a;exact⟨b,d,by simp [dG,a],by simp [dD,a]⟩
 .cases h
theorem Je{o:Oper}{k:Nat}(h:gJ ops o=some (some k)):eY ops o=some k:=by
 unfold gJ at h;split at h
 .rename_i a b;simp only [Lo] at h;subst h;simp [eY,a,b]
 .cases h
 .cases h
theorem nv{o:Oper}{k:Bool}(h:hJ P o k=true):∃t a y,o.guard=none/\o.op= .store t (.tmp a) y:=by
 unfold hJ at h;split at h
 .rename_i t a y b d;exact⟨t,a,y,b,d⟩
 .cases h
theorem KS{k off:Nat}{l:List T}{xs a:List (List T)}(h:fH k off l xs=some a):a.length=xs.length:=by
 unfold fH at h;split at h
 .split at h
  .simp only [Lo] at h;subst h;simp
  .cases h
 .cases h
theorem A4{t:TypeId}{a v B:AV}{us:aC}(h:gQ P s t a v (λu=>some (AV.top,u))=some (B,us))(f:ka us=true):
  ∃i sz k off j rsz X,a= .el i sz k off/\v= .own j/\(∃bb xs,s.h j=some (.sl false rsz bb xs))/\rsz≠1/\us= [(j, .dead),(i,X)]/\∃b d col g es x es',s.h i=some (.rows b d col rsz g es)/\X= .rows b d col rsz x es'/\es'.length=es.length:=by
 unfold gQ at h;cases r:bP P t with
 | false=>rw [r] at h;cases h
 | true=>
  rw [r,cond_true] at h;split at h
  .split at h
   .split at h
    .simp only [Lo,Ma] at h;obtain⟨_,rfl⟩:=h;simp [ka] at f
    .cases h
   .cases h
  .rename_i i sz k off;split at h
   .obtain⟨l,_,h⟩:=Lp.1 h;split at h
    .replace h:=aL h (.inl rfl);obtain⟨C,_,h⟩:=h;simp only [Lo,Ma] at h;obtain⟨_,rfl⟩:=h;simp [ka] at f
    .cases h
   .rename_i b d col rsz g es y;split at h
    .rename_i j;split at h
     .rename_i m D xs z;split at h
      .rename_i o;have q:=o.2.2.1;subst q;replace h:=aL h (.inl rfl);obtain⟨e,_,h⟩:=h;simp only [Lo,Ma] at h;obtain⟨_,rfl⟩:=h;refine⟨i,sz,k,off,j,m,_,rfl,rfl,⟨_,_,z⟩, ?_,rfl,b,d,col,g,es,_,_,y,by rw [show sz=d from o.1.symm],by simp⟩;simpa [ka] using f
      .cases h
     .cases h
    .cases h
   .cases h
  .split at h
   .replace h:=aL h (.inl rfl);obtain⟨p,_,h⟩:=h;obtain⟨l,_,h⟩:=Lp.1 h;split at h
    .replace h:=aL h (.inl rfl);obtain⟨C,_,h⟩:=h;simp only [Lo,Ma] at h;obtain⟨_,rfl⟩:=h;simp [ka] at f
    .cases h
   .cases h
  .cases h
theorem A5{t:TypeId}{a v z:AV}{us:aC}(h:gQ P s t a v (λu=>some (AV.top,u))=some (z,us))(d:kb us=true):
  ∃i sz k off b f,a= .el i sz k off/\(∃xs,s.h i=some (.sl false 1 b xs)/\f.length=xs.length)/\us= [(i, .sl false 1 b f)]:=by
 unfold gQ at h;cases m:bP P t with
 | false=>rw [m] at h;cases h
 | true=>
  rw [m,cond_true] at h;split at h
  .split at h
   .split at h
    .simp only [Lo,Ma] at h;obtain⟨_,rfl⟩:=h;simp [kb] at d
    .cases h
   .cases h
  .rename_i i sz k off;split at h
   .rename_i B b xs y;obtain⟨l,_,h⟩:=Lp.1 h;split at h
    .rename_i x;obtain⟨j,_,_⟩:=x;subst j;replace h:=aL h (.inl rfl);obtain⟨f,o,h⟩:=h;simp only [Lo,Ma] at h;obtain⟨_,rfl⟩:=h;cases g:fi s.h v with
     | cons q r=>rw [g] at d;simp [kb] at d
     | nil=>rw [g] at d;simp only [kb,beq_iff_eq] at d;subst d;exact⟨_,_,_,_,_,_,rfl,⟨_,y,KS o⟩,rfl⟩
    .cases h
   .split at h
    .split at h
     .split at h
      .replace h:=aL h (.inl rfl);obtain⟨e,_,h⟩:=h;simp only [Lo,Ma] at h;obtain⟨_,rfl⟩:=h;simp [kb] at d
      .cases h
     .cases h
    .cases h
   .cases h
  .split at h
   .replace h:=aL h (.inl rfl);obtain⟨p,_,h⟩:=h;obtain⟨l,_,h⟩:=Lp.1 h;split at h
    .replace h:=aL h (.inl rfl);obtain⟨f,_,h⟩:=h;simp only [Lo,Ma] at h;obtain⟨_,rfl⟩:=h;simp [kb] at d
    .cases h
   .cases h
  .cases h
theorem xv{o:Oper}{t:TypeId}{a:Nat}{y:Operand}{v:AV}{us:aC}(b:o.op= .store t (.tmp a) y)(h:cz P An Or none o s=some (v,us)):gQ P s t (s.get none (.tmp a)) (s.get none y) (λu=>some (AV.top,u))=some (v,us):=by unfold cz gw at h;rw [b] at h;exact h
theorem Dg{a b:Oper}(hl:jI P An ops a b=true)(M:a∈ops)(N:b∈ops){s1 s2:St}{Q U:AV}{v y:aC}(ea:cz P An Or none a s1=some (Q,v))(eb:cz P An Or none b s2=some (U,y))
  (G:iK P An ops a s1 v=true) (okb:iK P An ops b s2 y=true) (r:s2.h=aI s1.h v\/s1.h=aI s2.h y):
  (∀p∈v,∀q∈y,p.1≠q.1)/\(∀x∈a.op.operands,∀i∈(s1.get none x).ids,∃p∈v,p.1=i)/\(∀x∈b.op.operands,∀i∈(s2.get none x).ids,∃p∈y,p.1=i):=by
 have o:=Mf.1 G b N;have l:=Mf.1 okb a M;simp only [Lu] at o l;replace o:=o.1.2.1;replace l:=l.1.2.2;rw [hl] at o l;simp only [Lv,Mt,Lu] at o l;simp only [jI,Lu] at hl;obtain⟨ta,V,Z,ga,z⟩:=nv hl.1.2;obtain⟨tb,Y,yb,gb,u⟩:=nv hl.2;obtain⟨i,sz,k,off,j,rsz,X,I,J,⟨_,_,a4⟩,K,rfl,_,_,_,_,_,_,_,B,rfl,_⟩:=A4 (xv z ea) o;obtain⟨i',sz',k',off',b',ys',L,⟨_,g,_⟩,rfl⟩:=A5 (xv u eb) l.1;have m:=l.2;simp only [uo,u,Ng] at m;have F:i'≠i/\i'≠j:=by
  rcases r with r | r
  .rw [r,cB,dc] at g;constructor
   .rintro rfl;rw [aB] at g;cases g
   .intro e;by_cases C:i'=i
    .rw [C,aB] at g;cases g
    .rw [ao _ _ C,e,aB] at g;cases g
  .rw [r,dc] at B a4;constructor
   .rintro rfl;rw [aB] at B;cases B
   .rintro rfl;rw [aB] at a4;simp only [Lo,ab.sl.injEq] at a4;exact K a4.2.1.symm
 refine⟨λp D q E e=> ?_,λx f id d=> ?_,λx f id d=> ?_⟩
 .simp only [LC,MH,or_false] at D E;subst E;rcases D with rfl | rfl
  .exact F.2 e.symm
  .exact F.1 e.symm
 .simp only [z,Op.operands] at f;have f:x= .tmp V\/x=Z:=by simpa using f
  rcases f with rfl | rfl
  .rw [I] at d;simp only [AV.ids,Lz] at d;subst d;exact⟨_,Lr _ (Lz.2 rfl),rfl⟩
  .rw [J] at d;simp only [AV.ids,Lz] at d;subst d;exact⟨_,Lq,rfl⟩
 .simp only [u,Op.operands] at f;have f:x= .tmp Y\/x=yb:=by simpa using f
  rcases f with rfl | rfl
  .rw [L] at d;simp only [AV.ids,Lz] at d;subst d;exact⟨_,Lq,rfl⟩
  .rw [m] at d;cases d
theorem vL{o:Oper}(h:sO P o=true):∃a,o.guard=none/\((∃t e n,o.op= .indexAddr t (.tmp a) n/\kF P t=some e/\P.cellsOf e=1)\/∃t,o.op= .load t (.tmp a)):=by
 unfold sO at h;split at h
 .rename_i t a n b d;split at h
  .rename_i e f;exact⟨a,b, .inl ⟨t,e,n,d,f,by simpa using h⟩⟩
  .cases h
 .rename_i t a b d;exact⟨a,b, .inr ⟨t,d⟩⟩
 .cases h
def mD(h h':Id->Option ab):Prop:= ∀m,h' m=h m\/(∃fz sz b xs d f a,h m=some (.sl fz sz b xs)/\h' m=some (.sl d sz f a)/\a.length=xs.length)\/
 (∃b sz col rsz g es e es',h m=some (.rows b sz col rsz g es)/\h' m=some (.rows b sz col rsz e es')/\es'.length=es.length)\/∃sz b xs,sz≠1/\h m=some (.sl false sz b xs)/\h' m=some .dead
theorem mD.index{t e:TypeId}{m:Id}{n:Int}{K:AV->Option (AV×aC)}{r:AV×aC}(H:mD s.h s'.h)(g:kF P t=some e)(f:P.cellsOf e=1):hH P s none t (.own m) n K=some r↔hH P s' none t (.own m) n K=some r:=by
 unfold hH;simp only [g];rcases H m with h | ⟨_,_,_,_,_,_,_,a,b,d⟩ | ⟨_,_,_,_,_,_,_,_,a,b,d⟩ | ⟨sz,_,_,h0,a,b⟩
 .rw [h]
 .rw [a,b];simp only [d]
 .rw [a,b];simp only [d]
 .rw [a,b];simp only [f,if_neg h0,reduceCtorEq]
theorem mD.load{t:TypeId}{m:Id}{off:Nat}{K:AV->Option (AV×aC)}{r:AV×aC}(H:mD s.h s'.h):fj P s none t (.ref m off) K=some r↔fj P s' none t (.ref m off) K=some r:=by
 unfold fj;rcases H m with h | ⟨_,_,_,_,_,_,_,a,b,d⟩ | ⟨_,_,_,_,_,_,_,_,a,b,d⟩ | ⟨sz,_,_,h0,a,b⟩
 .simp only [h]
 .simp only [a,b]
 .simp only [a,b]
 .simp only [a,b]
theorem mD.store{t:TypeId}{a v q:AV}{us:aC}(h:gQ P s t a v (λu=>some (AV.top,u))=some (q,us))(d:ka us=true\/kb us=true):mD s.h (aI s.h us):=by
 rcases d with d | d
 .obtain⟨i,sz,k,off,j,rsz,X,_,_,⟨_,_,a4⟩,g,rfl,_,_,_,_,_,_,_,f,rfl,l⟩:=A4 h d;intro m;rw [cB,dc];by_cases b:m=i
  .subst b;exact .inr (.inr (.inl ⟨_,_,_,_,_,_,_,_,f,aB _ _ _,l⟩))
  .rw [ao _ _ b];by_cases e:m=j
   .subst e;exact .inr (.inr (.inr ⟨_,_,_,g,a4,aB _ _ _⟩))
   .rw [ao _ _ e];exact .inl rfl
 .obtain⟨i,_,_,_,_,_,_,⟨_,o,p⟩,rfl⟩:=A5 h d;intro m;rw [dc];by_cases b:m=i
  .subst b;exact .inr (.inl ⟨_,_,_,_,_,_,_,o,aB _ _ _,p⟩)
  .rw [ao _ _ b];exact .inl rfl
theorem Dh{a b:Oper}(hl:jh P An ops a b=true)(u:a∈ops)(B:b∈ops){s1 s2 q:St}{G:AV}{l:aC}{F:aC}(ea:cz P An Or none a s1=some (G,l))(o:iK P An ops a s1 l=true)(okb:iK P An ops b q F=true)
  (E:s2.h=aI s1.h l) (g:∀x∈b.op.operands,s2.get none x=s1.get none x) (k:∀x∈b.op.operands,q.get none x=s1.get none x) (r:AV×aC):cz P An Or none b s1=some r↔cz P An Or none b s2=some r:=by
 have i:=Mf.1 o b B;have f:=Mf.1 okb a u;simp only [Lu] at i f;replace i:=i.2.1;replace f:=f.2.2;rw [hl] at i f;simp only [Lv,Mt,Mg] at i f;simp only [jh,Lu,Mg] at hl;obtain⟨K,L,M,I,p⟩:∃t x y,a.guard=none/\a.op= .store t (.tmp x) y:=by rcases hl.1.2 with h | h <;> exact nv h
 have H:=mD.store (xv p ea) i;rw [<-E] at H;obtain⟨j,J,⟨tb,e,n,d,D,C⟩ | ⟨tb,d⟩⟩:=vL hl.2
 case inr=>
  simp only [qI,d] at f;rw [k (.tmp j) (by simp [d,Op.operands])] at f;split at f
  .rename_i m off hm;unfold cz gw;rw [d];dsimp only;rw [g (.tmp j) (by simp [d,Op.operands]),hm];exact H.load
  .cases f
 simp only [qI,d] at f;rw [k (.tmp j) (by simp [d,Op.operands])] at f;split at f
 .rename_i m hm;unfold cz gw;rw [d];dsimp only;rw [g (.tmp j) (by simp [d,Op.operands]),g n (by simp [d,Op.operands]),hm];unfold lZ;cases(s1.get none n).t? with
  | none=>exact NH
  | some y=>
   simp only [Lt];cases gz.anyInt y with
   | none=>exact NH
   | some z=>change (hH P s1 none tb (AV.own m) z λv=>some (v,[]))=some r↔(hH P s2 none tb (AV.own m) z λv=>some (v,[]))=some r;exact H.index D C
 .cases f
theorem Bj{a b:Oper}{s1 s2:St}{us:aC}{y:aC}(hl:gH P An ops a b=true)(o:a∈ops)(p:b∈ops)(m:iK P An ops a s1 us=true)(okb:iK P An ops b s2 y=true)(v:∀k,k∉fg ops.toList->(s1.t k).2= (s2.t k).2):
  ∀x∈b.op.operands,∀i∈(s2.get none x).ids,∀q∈us,q.1≠i:=by
 have f:=Mf.1 m b p;have d:=Mf.1 okb a o;simp only [Lu] at f d;replace f:=f.1.1.1.2;replace d:=d.1.1.2;rw [hl] at f d;simp only [Lv,Mt] at f d;rcases qt hl with⟨k,j,r⟩ | j
 .simp only [sR,qu,j,LK,decide_eq_true_eq] at f d;intro x l i g q u e;have:=d x (Array.mem_toList_iff.2 l) i g;rw [<-v k r,<-e] at this;exact f q u this
 .simp only [qu,j,LK,Ng] at d;intro x l i g;rw [d x (Array.mem_toList_iff.2 l)] at g;cases g
theorem xt{o:Oper}{us:aC}(v:∀k,k∉fg ops.toList->s'.t k=s.t k)(u:∀k,eY ops o=some k\/gJ ops o=some none->∀x∈o.op.operands,s'.get none x=s.get none x)(B:o.guard=none->∀x∈o.op.operands,s'.get none x=s.get none x)(h:iK P An ops o s us=true):iK P An ops o s' us=true:=by
 refine Mf.2 λp hm=> ?_;have h0:=Mf.1 h p hm;simp only [Lu] at h0⊢;obtain⟨⟨⟨⟨q,r⟩,m⟩,K,j⟩,F,f⟩:=h0;refine⟨⟨⟨⟨?_, ?_⟩, ?_⟩,K, ?_⟩,F, ?_⟩
 .cases g:iJ An ops o p with
  | false=>rfl
  | true=>obtain⟨k,L,b,G,M,I,J⟩:=xr g;rw [g] at q;simp only [Lv,Mt,xu,b,G,Lu,LK] at q⊢;rw [v k I,v L J];refine⟨⟨λx i=> ?_,q.1.2⟩,q.2⟩;rw [u k (.inl b) x (Array.mem_toList_iff.1 i)];exact q.1.1 x i
 .cases g:gH P An ops o p with
  | false=>rfl
  | true=>
   rw [g] at r;simp only [Lv,Mt] at r⊢;rcases qt g with⟨k,b,E⟩ | b
   .simp only [sR,b] at r⊢;rw [v k E];exact r
   .simp only [sR,b]
 .cases g:gH P An ops p o with
  | false=>rfl
  | true=>
   rw [g] at m;simp only [Lv,Mt] at m⊢;rcases qt g with⟨k,b,E⟩ | b
   .simp only [qu,b,LK] at m⊢;rw [v k E];intro x i;rw [u k (.inl (Je b)) x (Array.mem_toList_iff.1 i)];exact m x i
   .simp only [qu,b,LK] at m⊢;intro x i;rw [u 0 (.inr b) x (Array.mem_toList_iff.1 i)];exact m x i
 .cases C:jI P An ops p o with
  | false=>rfl
  | true=>
   rw [C] at j;simp only [Lv,Mt,Lu] at j⊢;refine⟨j.1, ?_⟩;have z:=j.2;simp only [jI,Lu] at C;obtain⟨t,a,y,l,d⟩:=nv C.2;have b:eY ops o=some (pd ops a):=by simp [eY,l,d]
   simp only [uo,d] at z⊢;rw [u _ (.inl b) y (by simp [d,Op.operands])];exact z
 .cases D:jh P An ops p o with
  | false=>rfl
  | true=>
   rw [D] at f;simp only [Lv,Mt] at f⊢;simp only [jh,Lu] at D;obtain⟨a,l,⟨t,e,n,d,_,_⟩ | ⟨t,d⟩⟩:=vL D.2
   .simp only [qI,d] at f⊢;rw [B l (.tmp a) (by simp [d,Op.operands])];exact f
   .simp only [qI,d] at f⊢;rw [B l (.tmp a) (by simp [d,Op.operands])];exact f
theorem A7:∀{l d:List AV},jY l d=true->∀{k:Nat} {v:AV},qh v=true->(l[k]? =some v↔d[k]? =some v)
 | [],[],_,_,_,_=>NH
 | [],_::_,h,_,_,_=>by cases h
 | _::_,[],h,_,_,_=>by cases h
 | c::r,c'::x,h,k,v,b=>by
  unfold jY at h;cases a:qk c c' with
  | none=>rw [a] at h;cases h
  | some q=>
  rw [a] at h;have tl:jY r x=true:=by
   cases q with
   | none=>exact h
   | some p=>simp only [Lu] at h;exact h.2
  have g:∀p,q=some p->p.1=p.2:=λp e=>by subst e;simp only [Lu,decide_eq_true_eq] at h;exact h.1
  have f:c=v↔c'=v:=by
   unfold qk at a;split at a
   .rename_i i o j p;by_cases e:i=j/\o=p
    .obtain⟨rfl,rfl⟩:=e;exact NH
    .simp [e] at a
   .cases a
   .cases a
   .rename_i m y u z;by_cases e:m=u
    .subst e;simp at a;have:=g _ a.symm;simp at this;subst this;exact NH
    .simp [e] at a
   .cases a
   .cases a
   .constructor
    .rintro rfl;unfold qh at b;split at b
     .simp_all
     .simp_all
     .cases b
    .rintro rfl;unfold qh at b;split at b
     .simp_all
     .simp_all
     .cases b
  cases k with
  | zero=>simpa using f
  | succ k=>simpa using A7 tl (k:=k) b
def lJ(h h':Id->Option ab):Prop:= ∀m,h' m=h m\/(∃cs a,h m=some (.box cs)/\h' m=some (.box a)/\jY cs a=true)\/
 ((∀cs,h m≠some (.box cs))/\(∀cs,h' m≠some (.box cs))/\(∀cs,h m≠some (.ei cs))/\∀cs,h' m≠some (.ei cs))
theorem Bc{h h':Id->Option ab}:∀{us:aC},iV h h' us=true->∀p∈us,(∃cs d,h p.1=some (.box cs)/\h' p.1=some (.box d)/\jY cs d=true)\/
  ((∀cs,h p.1≠some (.box cs))/\(∀cs,h' p.1≠some (.box cs))/\(∀cs,h p.1≠some (.ei cs))/\∀cs,h' p.1≠some (.ei cs))
 | [],_,_,f=>by cases f
 | q::us,b,p,f=>by
  unfold iV at b;cases a:ql (h q.1) (h' q.1) with
  | none=>rw [a] at b;cases b
  | some r=>
  rw [a] at b;have tl:iV h h' us=true:=by
   cases r with
   | none=>exact b
   | some r=>simp only [Lu] at b;exact b.2
  rcases LC.1 f with rfl | f
  .generalize g:h p.1=x at a;generalize i:h' p.1=y at a;unfold ql at a;split at a
   .rename_i cs d;cases a;simp only [Lu] at b;exact .inl ⟨cs,d,rfl,rfl,b.1⟩
   .cases a
   .cases a
   .cases a
   .cases a
   .exact .inr ⟨λcs e=>by simp_all,λcs e=>by simp_all,λcs e=>by simp_all,λcs e=>by simp_all⟩
  .exact Bc tl p f
theorem lJ.of{h:Id->Option ab}{us:aC}(d:iV h (aI h us) us=true):lJ h (aI h us):=by
 intro m;by_cases e:∃p∈us,p.1=m
 .obtain⟨p,a,rfl⟩:=e;exact .inr (Bc d p a)
 .exact .inl (cV λp a b=>e ⟨p,a,b⟩)
theorem lJ.load{t:TypeId}{m:Id}{off:Nat}{v:AV}{u:aC}(H:lJ s.h s'.h)(b:qh v=true):
  fj P s none t (.ref m off) (λv=>some (v,([]:aC)))=some (v,u)↔fj P s' none t (.ref m off) (λv=>some (v,([]:aC)))=some (v,u):=by
 unfold fj;rcases H m with h | ⟨cs,B,i,j,o⟩ | ⟨p,q,r,z⟩
 .simp only [h]
 .simp only [i,j];cases bP P t with
  | false=>exact NH
  | true=>
   simp only [cond_true];unfold ke;cases bt P t with
   | true=>
    simp only [cond_true];have no:∀l:List AV,¬((kv (P.cellsOf t) l).bind λl=>some (AV.agg l,([]:aC)))=some (v,u):=λl e=>by obtain⟨x,_,e⟩:=Lp.1 e;simp only [Lo,Ma] at e;rw [<-e.1] at b;cases b
    exact⟨λe=>absurd e (no _),λe=>absurd e (no _)⟩
   | false=>
    simp only [cond_false,List.head?_drop];have key:=A7 o (k:=off) b;constructor <;> intro e
    .obtain⟨x,d,e⟩:=Lp.1 e;simp only [Lo,Ma] at e;obtain⟨rfl,rfl⟩:=e;rw [key.1 d];rfl
    .obtain⟨x,d,e⟩:=Lp.1 e;simp only [Lo,Ma] at e;obtain⟨rfl,rfl⟩:=e;rw [key.2 d];rfl
 .have a:∀(s0:St),(∀cs,s0.h m≠some (.box cs))->(∀cs,s0.h m≠some (.ei cs))->fj P s0 none t (.ref m off) (λv=>some (v,([]:aC)))=none:=λs0 x y=>by
   unfold fj;cases bP P t with
   | false=>rfl
   | true=>
    dsimp only [cond_true];split
    .rename_i cs e;exact absurd e (x cs)
    .rename_i cs e;exact absurd e (y cs)
    .rfl
  have f:=a s p r;have g:=a s' q z;unfold fj at f g;rw [f,g]
theorem AT{o:Oper}(h:l0 o=true):o.guard=none/\((∃t x,o.op= .load t (.tmp x))\/∃t x n,o.op= .indexAddr t (.tmp x) n):=by
 unfold l0 at h;split at h
 .rename_i t x a b;exact⟨a, .inl ⟨t,x,b⟩⟩
 .rename_i t x n a b;exact⟨a, .inr ⟨t,x,n,b⟩⟩
 .cases h
theorem Di{b:Oper}(hl:l0 b=true){s1 s2:St}(g:∀x∈b.op.operands,∀k,x= .tmp k->s2.t k=s1.t k)(f:n8 b s1=true):cz P An Or none b s2=cz P An Or none b s1:=by
 have a:dG An b=false/\dD An b=false:=by obtain⟨_,⟨t,x,e⟩ | ⟨t,x,n,e⟩⟩:=AT hl <;> simp [dG,dD,e]
 refine gX (s:=s1) (s':=s2) g (.inr (.inr (.inr ⟨a.1,a.2,λx a id d=> ?_⟩)));have:=LK.1 f x (Array.mem_toList_iff.2 a);rw [Ng.1 this] at d;cases d
theorem Dj{b:Oper}(hl:l0 b=true){s1 s2:St}(H:An.sS b.dst b.type=true\/(An.sT b.dst b.type=true/\lJ s1.h s2.h))(i:∀x∈b.op.operands,∀k,x= .tmp k->s2.t k=s1.t k){v:AV}{u:aC}
  (a:l6 An b s1 v=true):cz P An Or none b s1=some (v,u)↔cz P An Or none b s2=some (v,u):=by
 unfold l6 at a;simp only [Lu] at a;rcases H with h | ⟨j,H⟩
 .have d:=a.1;rw [h,hl] at d;simp only [Bool.and_self,Lv,Mt] at d;rw [Di hl i d]
 replace a:=a.2;rw [j,hl] at a;simp only [Bool.and_self,Lv,Mt,Mg] at a;rcases a with d | f
 .rw [Di hl i d]
 .split at f
  .rename_i t x g;simp only [Lu] at f;obtain⟨e,l⟩:=f;unfold AX at e;split at e
   .rename_i m off hm;have o:s2.get none x= .ref m off:=by rw [<-hm];exact kM (i x (by simp [g,Op.operands]))
    unfold cz gw;rw [g];dsimp only;rw [hm,o];exact lJ.load H l
   .cases e
  .cases f
theorem vV{o:Oper}{v:AV}(b:∀x∈o.op.operands,s'.get none x=s.get none x)(h:l6 An o s v=true):l6 An o s' v=true:=by
 have d:n8 o s'=n8 o s:=by
  unfold n8;rw [Bool.eq_iff_iff,LK,LK];constructor
  .intro h x hm;rw [<-b x (Array.mem_toList_iff.1 hm)];exact h x hm
  .intro h x hm;rw [b x (Array.mem_toList_iff.1 hm)];exact h x hm
 unfold l6 at h⊢;rw [d];simp only [Lu] at h⊢;refine⟨h.1, ?_⟩;have a:=h.2;simp only [Mg] at a⊢;rcases a with a | a
 .exact .inl a
 .right;split at a
  .rename_i t x e;rw [b x (by simp [e,Op.operands])];exact a
  .cases a
theorem DE{h h':Id->Option ab}:∀{us:aC} {i:Id},(∃p∈us,p.1=i)\/h i=h' i->aI h us i=aI h' us i
 | [],i,e=>by
  rcases e with⟨p,a,_⟩ | e
  .cases a
  .exact e
 | q::us,i,e=>by
  obtain⟨j,b⟩:=q;rw [cB,cB];refine DE ?_;by_cases d:i=j
  .right;subst d;rw [aB,aB]
  .rcases e with⟨p,a,rfl⟩ | e
   .rcases LC.1 a with rfl | a
    .exact absurd rfl d
    .exact .inl ⟨p,a,rfl⟩
   .right;rw [ao _ _ d,ao _ _ d];exact e
theorem Bb{h h' g a:Id->Option ab}:∀{us:aC},(∀p∈us,h p.1=h' p.1/\g p.1=a p.1)->iV h g us=iV h' a us
 | [],_=>rfl
 | p::us,e=>by have d:=Bb (us:=us) λq b=>e q (Lr _ b);unfold iV;rw [(e p Lq).1,(e p Lq).2,d]
theorem A6{o:Oper}{h h':Id->Option ab}{us:aC}(e:∀p∈us,h p.1=h' p.1):hU An true o h us=hU An true o h' us:=by unfold hU;rw [Bb λp a=>⟨e p a,DE (.inl ⟨p,a,rfl⟩)⟩]
theorem swap{listed:Array Bool}{i j:Nat}{l u:Oper}(hu:n5 ops)(hgk:oO ops=true)(Z:ops[i]? =some l)(hj:ops[j]? =some u)(hne:j≠i)(hri:i∈Region.ready .any ops listed)(hrj:j∈Region.ready .any ops listed)
  (hcl:nO ops listed) (hap:l.apart ops u=true) (hcm0':og P An l u=true\/pv P An ops l u=true) (hG:nR ops listed s) (K:dW P An Or true nt ops l s=some s1) (L:dW P An Or true nt ops u s1=some s2):
  ∃sj,dW P An Or true nt ops u s=some sj/\dW P An Or true nt ops l sj=some s2:=by
 obtain⟨I,vi,C,wi,rfl⟩:=wG K;obtain⟨G,vj,B,wj,rfl⟩:=wG L;obtain⟨hli,oi',hi',hai⟩:=mem_ready.1 hri;rw [Z] at hi';simp only [Lo] at hi';subst hi';obtain⟨hlj,oj',hj',haj⟩:=mem_ready.1 hrj;rw [hj] at hj';simp only [Lo] at hj';subst hj';obtain⟨a1,a2,a3⟩:=Oper.apart_spec hap;have behind:∀(o:Oper) (m:Nat),listed.getD m true=false->(∀e∈o.after,Region.binds .any e=true->listed.getD e.on false=true)->∀e∈o.after,Region.binds .any e=true->¬(e.on=m\/fG ops 12 e.on m=true):=by
  intro o m hlm hall e he hb h;rcases h with h | h
  .exact rp hlm (h▸hall e he hb)
  .have hl:=hall e he hb;cases hk:ops[e.on]? with
   | none=>simp [fG,hk] at h
   | some ok=>rw [uv hcl hlm hk (hcl e.on ok hk hl)] at h;cases h
 have noti:=behind u i hli haj;have notj:=behind l j hlj hai;have wiok:=wi.ok;have wjok:=wj.ok;simp only [kV,Lv,Mt,Lu] at wiok wjok;obtain⟨⟨⟨i1,i2⟩,i3⟩,⟨⟨⟨⟨⟨⟨i4,i5⟩,i6⟩,i7⟩,i8⟩,i9⟩,i10⟩,i11⟩:=wiok;obtain⟨⟨⟨j1,j2⟩,j3⟩,⟨⟨⟨⟨⟨⟨j4,j5⟩,j6⟩,j7⟩,j8⟩,j9⟩,j10⟩,j11⟩:=wjok;have pli:=wS (g:=I) (v:=vi) (us:=C) hu Z hli hG (de ops l.dst);have tj:∀k,k∈u.looksAt ops->(s.put (de ops l.dst) l.dst I vi C).t k=s.t k:=by intro k hk;rw [pli];exact nH (b:=false) λe=>a1 k e hk
 have ti:∀(g:Option Gs) (v:AV) (us:aC) k,k∈l.looksAt ops->(s.put false u.dst g v us).t k=s.t k:=λg v us k hk=>nH (b:=false) λe=>a3 k e hk;have gj':cK ops u s some=some G:=by rw [<-wj.guard];exact(AN λx b d J U=>tj d (Bs J U)).symm
 have getj:∀x∈u.op.operands,(s.put (de ops l.dst) l.dst I vi C).get G x=s.get G x:=λx z=>kM λk e=>tj k (eu (e▸z));have nj:l9 ops G u s=true:=by rw [<-j4];exact(BH getj).symm
 have a2':∀d,u.dst=some d->l.dst≠some d:=λd h h'=>a2 d h' h;have guardA:∀(o:Oper) (g:Option Gs) (s0:St) (k:Nat),eY ops o=some k->cK ops o s0 some=some g->g=none/\dG An o=false/\dD An o=false:=by
  intro o g s0 k h M;unfold eY at h;split at h
  .rename_i J U;unfold cK at M;rw [J] at M;simp only [Lo] at M;exact⟨M.symm,by simp [dG,U],by simp [dD,U]⟩
  .rename_i J U;unfold cK at M;rw [J] at M;simp only [Lo] at M;exact⟨M.symm,by simp [dG,U],by simp [dD,U]⟩
  .cases h
 have al_w:∀o:Oper,gF o=true->aH P An o=false:=by intro o h;cases hop:o.op <;> simp only [gF,hop,LY] at h <;> simp [aH,hop]
 have w_r:∀o:Oper,aH P An o=false->dG An o=false:=by
  intro o h;cases hr:dG An o with
  | false=>rfl
  | true=>
   exfalso;cases hop:o.op <;> simp only [dG,hop,LY] at hr;rename_i cl;cases hcal:cl.callee <;> simp only [hcal,LY] at hr;rename_i fo;simp only [aH,hop,hcal] at h;cases fo with
   | func f=>
    dsimp only at h hr;cases hb:An.fN f with
    | none=>rw [hb] at hr;simp at hr
    | some x=>rw [hb] at h;simp at h
   | _=>dsimp only at h hr;rw [h] at hr;cases hr
 have notmine:∀(o:Oper) (us:aC) (m:Nat) (om:Oper),ops[m]? =some om->(∀e∈o.after,Region.binds .any e=true->¬(e.on=m\/fG ops 12 e.on m=true))->pE ops o us=true->(∀d,om.dst=some d->o.dst≠some d)->∀q∈us,∀d k,om.dst=some d->q.1≠ .s d k:=by
  intro o us m om hm hnot hok hdst q D d k hd e;have J:=LK.1 hok q D;rw [e] at J;simp only [Mg] at J;rcases J with J | J
  .unfold oc at J;have h3:=LK.1 J m (Om.2 (NS.1 hm).1);rw [hm] at h3;simp only [hd,BEq.rfl,Lv,Mt] at h3;obtain⟨e',he,hb⟩:=NC.1 h3;simp only [Lu,Mg,beq_iff_eq] at hb;exact hnot e' he hb.1 hb.2
  .exact hdst d hd (by simpa using J)
 have ltd:∀(o:Oper),(match o.dst with | some d=>decide (d < nt) | none=>true)=true->Nat.ble nt 1000000=true->∀d,o.dst=some d->d < 1000000:=by intro o J U d hd;rw [hd] at J;simp only [decide_eq_true_eq] at J;exact Mv J (Nat.le_of_ble_eq_true U)
 have guardB:∀(o:Oper) (g:Option Gs) (s0:St) (k:Nat),(eY ops o=some k\/gJ ops o=some none)->cK ops o s0 some=some g->g=none:=by
  intro o g s0 k h M;rcases h with h | h
  .exact(guardA o g s0 k h M).1
  .have J:=Jd h;unfold cK at M;rw [J] at M;simp only [Lo] at M;exact M.symm
 have three:cz P An Or G u s=some (vj,B)/\cz P An Or I l (s.put false u.dst G vj B)=some (vi,C)/\(∀p∈C,∀q∈B,p.1≠q.1):=by
  rcases hcm0' with hcm | hst
  .skip
   have hcm0:=hcm;unfold og at hcm0;simp only [Lu] at hcm0;obtain⟨⟨hcm1,hcd1⟩,hcd2⟩:=hcm0;have hcm':(aH P An l=false\/et P u=true\/gF u=true)/\(aH P An u=false\/et P l=true\/gF l=true):=by simp only [Mr,MZ,Bool.and_eq_false_iff,On,Mg] at hcm1;exact hcm1
   have hdi:dD An l=false\/B= []:=by
    simp only [Mg,Mr] at hcd1;rcases hcd1 with h | h
    .exact .inl h
    .right;simpa [h] using j7
   have hdj:dD An u=false\/C= []:=by
    simp only [Mg,Mr] at hcd2;rcases hcd2 with h | h
    .exact .inl h
    .right;simpa [h] using i7
   have purei:et P l=true->C= []:=λh=>by simpa [h] using i6
   have purej:et P u=true->B= []:=λh=>by simpa [h] using j6
   have opj:cz P An Or G u s=some (vj,B):=by
    have old:et P u=true\/gF u=true\/aI s.h C=s.h\/(dG An u=false/\dD An u=false/\∀x∈u.op.operands,∀id∈(s.get G x).ids,aI s.h C id=s.h id)->cz P An Or G u s=some (vj,B):=by intro h;rw [<-wj.op];exact(gX (s:=s) (s':=s.put (de ops l.dst) l.dst I vi C) (λx z k e=>tj k (eu (e▸z))) h).symm
    rcases hcm'.1 with hw | F | F
    case inr.inl=>exact old (.inl F)
    case inr.inr=>exact old (.inr (.inl F))
    have Q:iZ l C=true:=by simpa [hw] using i5
    have direct:∀x∈u.op.operands,∀id∈(s.get G x).ids,∀q∈C,q.1≠id:=by intro x z id E q D e;obtain⟨d,k,K,L⟩:=eW Q ⟨q,D,e⟩;subst K;obtain⟨ed,he,hb,ho⟩:=sX nj z E Z L;exact noti ed he hb ho
    rcases hdj with hdj | hdj
    case inr=>exact old (.inr (.inr (.inl (by rw [hdj];rfl))))
    rcases hcm'.2 with hwj | hpi | hai'
    .exact old (.inr (.inr (.inr ⟨w_r u hwj,hdj,λx z id E=>cV λq D e=>direct x z id E q D e⟩)))
    .exact old (.inr (.inr (.inl (by rw [purei hpi];rfl))))
    .cases hwj:aH P An u with
     | false=>exact old (.inr (.inr (.inr ⟨w_r u hwj,hdj,λx z id E=>cV λq D e=>direct x z id E q D e⟩)))
     | true=>
      have hus:pE ops u B=true:=by simpa [hwj] using j8
      refine rN (s:=s.put (de ops l.dst) l.dst I vi C) (s':=s) (N:=λi=>∃q∈C,q.1=i) (λx z k e=>(tj k (eu (e▸z))).symm) (λi Z=> ?_) hdj (λx z id E=> ?_) (λk=> ?_) (λp F=> ?_) wj.op
      .exact(cV λq D e=>Z ⟨q,D,e⟩).symm
      .rw [getj x z] at E;rintro⟨q,D,e⟩;exact direct x z id E q D e
      .rintro⟨q,D,e⟩;obtain⟨d,k',K,L⟩:=eW Q ⟨q,D,e⟩;simp only [Id.s.injEq] at K;have h:=ltd l i1 i9 d L;rw [<-K.1] at h;exact absurd h (OG.2 (Mj (by decide) (NO 2000000 _)))
      .rintro⟨q,D,e⟩;obtain⟨d,k',K,L⟩:=eW Q ⟨q,D,rfl⟩;exact notmine u B i l Z noti hus a2 p F d k' L (by rw [<-e,K])
   have opi:cz P An Or I l (s.put false u.dst G vj B)=some (vi,C):=by
    have old:et P l=true\/gF l=true\/aI s.h B=s.h\/(dG An l=false/\dD An l=false/\∀x∈l.op.operands,∀id∈(s.get I x).ids,aI s.h B id=s.h id)->cz P An Or I l (s.put false u.dst G vj B)=some (vi,C):=by intro h;rw [<-wi.op];exact gX (λx z k e=>ti _ _ _ k (eu (e▸z))) h
    rcases hcm'.2 with hw | F | F
    case inr.inl=>exact old (.inl F)
    case inr.inr=>exact old (.inr (.inl F))
    have Q:iZ u B=true:=by simpa [hw] using j5
    have direct:∀x∈l.op.operands,∀id∈(s.get I x).ids,∀q∈B,q.1≠id:=by intro x z id E q D e;obtain⟨d,k,K,L⟩:=eW Q ⟨q,D,e⟩;subst K;obtain⟨ed,he,hb,ho⟩:=sX i4 z E hj L;exact notj ed he hb ho
    rcases hdi with hdi | hdi
    case inr=>exact old (.inr (.inr (.inl (by rw [hdi];rfl))))
    rcases hcm'.1 with hwi | hpj | haj'
    .exact old (.inr (.inr (.inr ⟨w_r l hwi,hdi,λx z id E=>cV λq D e=>direct x z id E q D e⟩)))
    .exact old (.inr (.inr (.inl (by rw [purej hpj];rfl))))
    .cases hwi:aH P An l with
     | false=>exact old (.inr (.inr (.inr ⟨w_r l hwi,hdi,λx z id E=>cV λq D e=>direct x z id E q D e⟩)))
     | true=>
      have hus:pE ops l C=true:=by simpa [hwi] using i8
      refine rN (s:=s) (s':=s.put false u.dst G vj B) (N:=λi=>∃q∈B,q.1=i) (λx z k e=>ti _ _ _ k (eu (e▸z))) (λi Z=> ?_) hdi (λx z id E=> ?_) (λk=> ?_) (λp F=> ?_) wi.op
      .exact cV λq D e=>Z ⟨q,D,e⟩
      .rintro⟨q,D,e⟩;exact direct x z id E q D e
      .rintro⟨q,D,e⟩;obtain⟨d,k',K,L⟩:=eW Q ⟨q,D,e⟩;simp only [Id.s.injEq] at K;have h:=ltd u j1 j9 d L;rw [<-K.1] at h;exact absurd h (OG.2 (Mj (by decide) (NO 2000000 _)))
      .rintro⟨q,D,e⟩;obtain⟨d,k',K,L⟩:=eW Q ⟨q,D,rfl⟩;exact notmine l C j u hj notj hus a2' p F d k' L (by rw [<-e,K])
   have disj:∀p∈C,∀q∈B,p.1≠q.1:=by
    intro p F q D e;rcases hcm'.1 with hw | hpj | haj'
    .rcases hcm'.2 with hw' | hpi | hai'
     .obtain⟨d,k,K,L⟩:=eW (by simpa [hw] using i5:iZ l C=true) ⟨p,F,rfl⟩;obtain⟨d',k',e3,e4⟩:=eW (by simpa [hw'] using j5:iZ u B=true) ⟨q,D,rfl⟩;rw [K,e3] at e;simp only [Id.s.injEq] at e;obtain⟨rfl,_⟩:=e;exact a2 d L e4
     .rw [purei hpi] at F;cases F
     .obtain⟨d,k,K,L⟩:=eW (by simpa [hw] using i5:iZ l C=true) ⟨p,F,rfl⟩;cases hwj:aH P An u with
      | false=>obtain⟨d',k',e3,e4⟩:=eW (by simpa [hwj] using j5:iZ u B=true) ⟨q,D,rfl⟩;rw [K,e3] at e;simp only [Id.s.injEq] at e;obtain⟨rfl,_⟩:=e;exact a2 d L e4
      | true=>exact notmine u B i l Z noti (by simpa [hwj] using j8) a2 q D d k L (by rw [<-e,K])
    .rw [purej hpj] at D;cases D
    .obtain⟨d,k,K,L⟩:=eW (by simpa [al_w u haj'] using j5:iZ u B=true) ⟨q,D,rfl⟩;cases hwi:aH P An l with
     | false=>obtain⟨d',k',e3,e4⟩:=eW (by simpa [hwi] using i5:iZ l C=true) ⟨p,F,rfl⟩;rw [K,e3] at e;simp only [Id.s.injEq] at e;obtain⟨rfl,_⟩:=e;exact a2 d' e4 L
     | true=>exact notmine l C j u hj notj (by simpa [hwi] using i8) a2' p F d k L (by rw [e,K])
   exact⟨opj,opi,disj⟩
  .have hst3:((((iJ An ops l u=true\/gH P An ops l u=true)\/gH P An ops u l=true)\/(jI P An ops l u=true\/jI P An ops u l=true))\/(jh P An ops l u=true\/jh P An ops u l=true))\/(pw An l u=true\/pw An u l=true):=by
    unfold pv at hst;simpa only [Mg] using hst
   rcases hst3 with hst2 | hst6
   case inr=>
    have lq:∀o,l0 o=true->o.guard=none/\kZ P An o=true/\et P o=false:=λo h=>by
     obtain⟨J,⟨t,x,U⟩ | ⟨t,x,n,U⟩⟩:=AT h
     .exact⟨J,by simp [kZ,U],by simp [et,U]⟩
     .exact⟨J,by simp [kZ,U],by simp [et,U]⟩
    have gn:∀(o:Oper) (g:Option Gs) (s0:St),o.guard=none->cK ops o s0 some=some g->g=none:=by intro o g s0 J M;unfold cK at M;rw [J] at M;simp only [Lo] at M;exact M.symm
    have kp:∀(o:Oper) (h0:Id->Option ab) (us:aC),An.oe o.dst o.type=true->hU An true o h0 us=true->lJ h0 (aI h0 us):=λo h0 us J U=>by unfold hU at U;rw [J] at U;exact lJ.of (by simpa using U)
    rcases hst6 with h6 | h6
    .simp only [pw,Lu] at h6;obtain⟨hlx,hil⟩:=h6;simp only [Mg,Lu] at hlx;obtain⟨gdj,qj,_⟩:=lq u hil;have gnj:=gn u G s gdj gj';have uj:B= []:=by simpa [qj] using j7
     have ejop:=wj.op;rw [gnj] at ejop;refine⟨?_, ?_,λp F q D=>by rw [uj] at D;cases D⟩
     .rw [gnj];refine(Dj hil (hlx.symm.imp id λh=>⟨h.2,kp l s.h C h.1 wi.dv⟩) (λx z k e=> ?_) ?_).2 ejop
      .exact tj k (eu (e▸z))
      .refine vV (λx z=> ?_) j11;have h:=getj x z;rw [gnj] at h;exact h.symm
     .rw [<-wi.op];exact gX (λx z k e=>ti _ _ _ k (eu (e▸z))) (.inr (.inr (.inl (by rw [uj];rfl))))
    .simp only [pw,Lu] at h6;obtain⟨hlx,hil⟩:=h6;simp only [Mg,Lu] at hlx;obtain⟨gdi,qi,_⟩:=lq l hil;have gni:=gn l I s gdi wi.guard;have ui:C= []:=by simpa [qi] using i7
     have eiop:=wi.op;rw [gni] at eiop;have opj:cz P An Or G u s=some (vj,B):=by rw [<-wj.op];exact(gX (s:=s) (s':=s.put (de ops l.dst) l.dst I vi C) (λx z k e=>tj k (eu (e▸z))) (.inr (.inr (.inl (by rw [ui];rfl))))).symm
     refine⟨opj, ?_,λp F=>by rw [ui] at F;cases F⟩;rw [gni];have hk:hU An true u s.h B=true:=by have:=wj.dv;rw [ui] at this;exact this
     exact(Dj hil (hlx.symm.imp id λh=>⟨h.2,kp u s.h B h.1 hk⟩) (λx z k e=>ti _ _ _ k (eu (e▸z))) i11).1 eiop
   rcases hst2 with hst1 | hst5
   case inr=>
    have ixq:∀o,sO P o=true->o.guard=none/\kZ P An o=true/\et P o=false:=λo h=>by
     obtain⟨a,J,⟨t,e,n,U,_⟩ | ⟨t,U⟩⟩:=vL h
     .exact⟨J,by simp [kZ,U],by simp [et,U]⟩
     .exact⟨J,by simp [kZ,U],by simp [et,U]⟩
    have gn:∀(o:Oper) (g:Option Gs) (s0:St),o.guard=none->cK ops o s0 some=some g->g=none:=by intro o g s0 J M;unfold cK at M;rw [J] at M;simp only [Lo] at M;exact M.symm
    have stg:∀o,(hJ P o true=true\/hJ P o false=true)->o.guard=none/\dG An o=false/\dD An o=false:=λo h=>by
     obtain⟨t,a,y,J,U⟩:∃t a y,o.guard=none/\o.op= .store t (.tmp a) y:=by rcases h with h | h <;> exact nv h
     exact⟨J,by simp [dG,U],by simp [dD,U]⟩
    rcases hst5 with h5 | h5
    .have h5':=h5;simp only [jh,Lu,Mg] at h5';obtain⟨gdi,ri,di⟩:=stg l h5'.1.2;obtain⟨gdj,qj,_⟩:=ixq u h5'.2;have gni:=gn l I s gdi wi.guard;have gnj:=gn u G s gdj gj';have uj:B= []:=by simpa [qj] using j7
     have eiop:=wi.op;have ejop:=wj.op;rw [gni] at eiop;rw [gnj] at ejop;have hget:∀x∈u.op.operands,(s.put (de ops l.dst) l.dst I vi C).get none x=s.get none x:=λx z=>by have:=getj x z;rwa [gnj] at this
     refine⟨?_, ?_,λp F q D=>by rw [uj] at D;cases D⟩
     .rw [gnj];exact(Dh h5 (LX Z) (LX hj) eiop i10 j10 rfl hget hget _).2 ejop
     .rw [<-wi.op];exact gX (λx z k e=>ti _ _ _ k (eu (e▸z))) (.inr (.inr (.inl (by rw [uj];rfl))))
    .have h5':=h5;simp only [jh,Lu,Mg] at h5';obtain⟨gdj,rj,dj⟩:=stg u h5'.1.2;obtain⟨gdi,qi,_⟩:=ixq l h5'.2;have gni:=gn l I s gdi wi.guard;have gnj:=gn u G s gdj gj';have ui:C= []:=by simpa [qi] using i7
     have eiop:=wi.op;rw [gni] at eiop;have opj:cz P An Or G u s=some (vj,B):=by rw [<-wj.op];exact(gX (s:=s) (s':=s.put (de ops l.dst) l.dst I vi C) (λx z k e=>tj k (eu (e▸z))) (.inr (.inr (.inl (by rw [ui];rfl))))).symm
     have geti:∀x∈l.op.operands,(s.put false u.dst G vj B).get none x=s.get none x:=λx z=>kM λk e=>ti _ _ _ k (eu (e▸z));have okj:iK P An ops u s B=true:=by
      refine xt (λk hk=> ?_) (λk hk x z=> ?_) (λM x z=> ?_) j10
      .rw [pli];exact(nH (b:=false) λe=>hk (mX e ops.toList (Array.mem_toList_iff.2 (LX Z)))).symm
      .have h:=getj x z;rw [gnj] at h;exact h.symm
      .have h:=getj x z;rw [gnj] at h;exact h.symm
     refine⟨opj, ?_,λp F=>by rw [ui] at F;cases F⟩;rw [gni];rw [gnj] at opj;exact(Dh h5 (LX hj) (LX Z) opj okj i10 rfl geti (λ_ _=>rfl) _).1 eiop
   have hst1:=hst1;rcases hst1 with hst0 | hst4
   case inr=>
    have both:∀o,(hJ P o true=true\/hJ P o false=true)->∃t a y,o.guard=none/\o.op= .store t (.tmp a) y:=λo h=>by
     rcases h with h | h
     .exact nv h
     .exact nv h
    have si:(hJ P l true=true\/hJ P l false=true)/\(hJ P u true=true\/hJ P u false=true):=by
     rcases hst4 with h | h <;> simp only [jI,Lu] at h
     .exact⟨.inl h.1.2, .inr h.2⟩
     .exact⟨.inr h.2, .inl h.1.2⟩
    obtain⟨ti',xi,yi,gdi,opi'⟩:=both l si.1;obtain⟨tj',xj,yj,gdj,opj'⟩:=both u si.2;have hki:eY ops l=some (pd ops xi):=by simp [eY,gdi,opi']
    have hkj:eY ops u=some (pd ops xj):=by simp [eY,gdj,opj']
    obtain⟨gni,ri,di⟩:=guardA l I s _ hki wi.guard;obtain⟨gnj,rj,dj⟩:=guardA u G s _ hkj gj';have eiop:=wi.op;have ejop:=wj.op;rw [gni] at eiop;rw [gnj] at ejop;have hres:(∀p∈C,∀q∈B,p.1≠q.1)/\(∀x∈l.op.operands,∀i∈(s.get none x).ids,∃p∈C,p.1=i)/\(∀x∈u.op.operands,∀i∈((s.put (de ops l.dst) l.dst I vi C).get none x).ids,∃p∈B,p.1=i):=by
     rcases hst4 with h | h
     .exact Dg h (LX Z) (LX hj) eiop ejop i10 j10 (.inl rfl)
     .obtain⟨r1,r2,r3⟩:=Dg h (LX hj) (LX Z) ejop eiop j10 i10 (.inr rfl);exact⟨λp F q D e=>r1 q D p F e.symm,r3,r2⟩
    obtain⟨d1,d2,d3⟩:=hres;refine⟨?_, ?_,d1⟩
    .rw [<-wj.op];refine(gX (s:=s) (s':=s.put (de ops l.dst) l.dst I vi C) (λx z k e=>tj k (eu (e▸z))) (.inr (.inr (.inr ⟨rj,dj,λx z id E=> ?_⟩)))).symm;refine cV λq D e=> ?_;rw [<-getj x z,gnj] at E;obtain⟨p,F,L⟩:=d3 x z id E;exact d1 q D p F (e.trans L.symm)
    .rw [<-wi.op];refine gX (λx z k e=>ti _ _ _ k (eu (e▸z))) (.inr (.inr (.inr ⟨ri,di,λx z id E=> ?_⟩)));refine cV λq D e=> ?_;rw [gni] at E;obtain⟨p,F,L⟩:=d2 x z id E;exact d1 p F q D (L.trans e.symm)
   have tk:∀k,k∉fg ops.toList->(s.put (de ops l.dst) l.dst I vi C).t k=s.t k:=λk dk=>by rw [pli];exact nH (b:=false) λe=>dk (mX e ops.toList (Array.mem_toList_iff.2 (LX Z)))
   have gnone:∀(o:Oper) (g:Option Gs) (s0:St),o.guard=none->cK ops o s0 some=some g->g=none:=by intro o g s0 J M;unfold cK at M;rw [J] at M;simp only [Lo] at M;exact M.symm
   rcases hst0 with(hst | hld) | hld
   rotate_left
   ·
    obtain⟨ga,wa,ra,da⟩:=Bh hld;obtain⟨rb',hrb'⟩:∃r,gJ ops u=some r:=by rcases qt hld with⟨k,hk,_⟩ | hk <;> exact⟨_,hk⟩
    obtain⟨gb,wb,rb,db⟩:=Ct (P:=P) (An:=An) (Bi hld) hrb';have gni:=gnone l I s ga wi.guard;have gnj:=gnone u G s gb gj';have Q:iZ u B=true:=by simpa [wb] using j5
    have hus:pE ops l C=true:=by simpa [wa] using i8
    have hap2:=Bj hld (LX Z) (LX hj) i10 j10 (λk hk=>by rw [tk k hk]);refine⟨?_, ?_, ?_⟩
    .rw [<-wj.op];refine(gX (s:=s) (s':=s.put (de ops l.dst) l.dst I vi C) (λx z k e=>tj k (eu (e▸z))) (.inr (.inr (.inr ⟨rb,db,λx z id E=> ?_⟩)))).symm;refine cV λq D e=> ?_;rw [<-getj x z,gnj] at E;exact hap2 x z id E q D e
    .refine rN (s:=s) (s':=s.put false u.dst G vj B) (N:=λi=>∃q∈B,q.1=i) (λx z k e=>ti _ _ _ k (eu (e▸z))) (λi Z=> ?_) da (λx z id E=> ?_) (λk=> ?_) (λp F=> ?_) wi.op
     .exact cV λq D e=>Z ⟨q,D,e⟩
     .rintro⟨q,D,e⟩;obtain⟨d,k,K,L⟩:=eW Q ⟨q,D,e⟩;subst K;obtain⟨ed,he,hb,ho⟩:=sX i4 z E hj L;exact notj ed he hb ho
     .rintro⟨q,D,e⟩;obtain⟨d,k',K,L⟩:=eW Q ⟨q,D,e⟩;simp only [Id.s.injEq] at K;have h:=ltd u j1 j9 d L;rw [<-K.1] at h;exact absurd h (OG.2 (Mj (by decide) (NO 2000000 _)))
     .rintro⟨q,D,e⟩;obtain⟨d,k',K,L⟩:=eW Q ⟨q,D,rfl⟩;exact notmine l C j u hj notj hus a2' p F d k' L (by rw [<-e,K])
    .intro p F q D e;obtain⟨d,k,K,L⟩:=eW Q ⟨q,D,rfl⟩;exact notmine l C j u hj notj hus a2' p F d k L (by rw [e,K])
   ·
    obtain⟨ga,wa,ra,da⟩:=Bh hld;obtain⟨rb',hrb'⟩:∃r,gJ ops l=some r:=by rcases qt hld with⟨k,hk,_⟩ | hk <;> exact⟨_,hk⟩
    obtain⟨gb,wb,rb,db⟩:=Ct (P:=P) (An:=An) (Bi hld) hrb';have gni:=gnone l I s gb wi.guard;have gnj:=gnone u G s ga gj';have Q:iZ l C=true:=by simpa [wb] using i5
    have hus:pE ops u B=true:=by simpa [wa] using j8
    have hap2:=Bj hld (LX hj) (LX Z) j10 i10 (λk hk=>by rw [tk k hk]);refine⟨?_, ?_, ?_⟩
    .refine rN (s:=s.put (de ops l.dst) l.dst I vi C) (s':=s) (N:=λi=>∃q∈C,q.1=i) (λx z k e=>(tj k (eu (e▸z))).symm) (λi Z=> ?_) da (λx z id E=> ?_) (λk=> ?_) (λp F=> ?_) wj.op
     .exact(cV λq D e=>Z ⟨q,D,e⟩).symm
     .rw [getj x z] at E;rintro⟨q,D,e⟩;obtain⟨d,k,K,L⟩:=eW Q ⟨q,D,e⟩;subst K;obtain⟨ed,he,hb,ho⟩:=sX nj z E Z L;exact noti ed he hb ho
     .rintro⟨q,D,e⟩;obtain⟨d,k',K,L⟩:=eW Q ⟨q,D,e⟩;simp only [Id.s.injEq] at K;have h:=ltd l i1 i9 d L;rw [<-K.1] at h;exact absurd h (OG.2 (Mj (by decide) (NO 2000000 _)))
     .rintro⟨q,D,e⟩;obtain⟨d,k',K,L⟩:=eW Q ⟨q,D,rfl⟩;exact notmine u B i l Z noti hus a2 p F d k' L (by rw [<-e,K])
    .rw [<-wi.op];refine gX (λx z k e=>ti _ _ _ k (eu (e▸z))) (.inr (.inr (.inr ⟨rb,db,λx z id E=> ?_⟩)));refine cV λq D e=> ?_;rw [gni] at E;exact hap2 x z id E q D e
    .intro p F q D e;obtain⟨d,k,K,L⟩:=eW Q ⟨p,F,rfl⟩;exact notmine u B i l Z noti hus a2 q D d k L (by rw [<-e,K])
   obtain⟨k,k',sk,sk',nek,dk,dk'⟩:=xr hst;obtain⟨gni,ri,di⟩:=guardA l I s k sk wi.guard;obtain⟨gnj,rj,dj⟩:=guardA u G s k' sk' gj';have hst':iJ An ops u l=true:=KL hst;obtain⟨p1,p2,p3⟩:=Dk i10 (LX hj) hst sk sk';obtain⟨q1,q2,q3⟩:=Dk j10 (LX Z) hst' sk' sk;replace tk:=tk k dk;have tk':(s.put (de ops l.dst) l.dst I vi C).t k'=s.t k':=by rw [pli];exact nH (b:=false) λe=>dk' (mX e ops.toList (Array.mem_toList_iff.2 (LX Z)))
   rw [tk] at q3;rw [tk'] at q2;refine⟨?_, ?_,λp F q D e=>q3 q D (e▸p2 p F)⟩
   .rw [<-wj.op];refine(gX (s:=s) (s':=s.put (de ops l.dst) l.dst I vi C) (λx z k e=>tj k (eu (e▸z))) (.inr (.inr (.inr ⟨rj,dj,λx z id E=> ?_⟩)))).symm;refine cV λq D e=> ?_;rw [<-getj x z,gnj] at E;have:=q1 x z id E;rw [tk'] at this;exact p3 q D (e▸this)
   .rw [<-wi.op];refine gX (λx z k e=>ti _ _ _ k (eu (e▸z))) (.inr (.inr (.inr ⟨ri,di,λx z id E=> ?_⟩)));refine cV λq D e=> ?_;rw [gni] at E;exact q3 q D (e▸p1 x z id E)
 obtain⟨opj,opi,disj⟩:=three;have sj10:iK P An ops u s B=true:=by
  refine xt (λk hk=> ?_) (λk hk x z=> ?_) (λM x z=> ?_) j10
  .rw [pli];exact(nH (b:=false) λe=>hk (mX e ops.toList (Array.mem_toList_iff.2 (LX Z)))).symm
  .have:=guardB u G s k hk gj';have h:=getj x z;rw [this] at h;exact h.symm
  .have hgn:G=none:=by
    have h:=gj';unfold cK at h;rw [M] at h;simp only [Lo] at h;exact h.symm
   have h:=getj x z;rw [hgn] at h;exact h.symm
 have frj:fR (u.dst.getD 0) s.h B=true:=by
  unfold fR at j3⊢;refine LK.2 λp F=> ?_;have:=LK.1 j3 p F;split at this
  .simp only [Mg,Nu] at this⊢;rcases this with h | h
   .exact .inl h
   .exact .inr (tU h).2
  .rfl
  .cases this
 have lj11:l6 An u s vj=true:=by refine vV (λx z=> ?_) j11;exact(kM λk e=>tj k (eu (e▸z))).symm
 have kj:hU An true u s.h B=true:=by refine(A6 λp F=> ?_).trans wj.dv;show s.h p.1=aI s.h C p.1;rw [cV λq D e=>disj q D p F e]
 have wj0:pL P An Or nt ops u s G vj B:=⟨gj',opj,by
  simp only [kV,Lv,Mt,Lu];exact⟨⟨⟨j1,j2⟩,frj⟩,⟨⟨⟨⟨⟨⟨nj,j5⟩,j6⟩,j7⟩,j8⟩,j9⟩,sj10⟩,lj11⟩,kj⟩
 have plj:=wS (g:=G) (v:=vj) (us:=B) hu hj hlj hG (de ops u.dst);refine⟨_,wj0.dW, ?_⟩;rw [plj];have gi':cK ops l (s.put false u.dst G vj B) some=some I:=by rw [<-wi.guard];exact AN λx b d J U=>ti _ _ _ d (Bs J U)
 have geti:∀x∈l.op.operands,(s.put false u.dst G vj B).get I x=s.get I x:=λx z=>kM λk e=>ti _ _ _ k (eu (e▸z));have ni:l9 ops I l (s.put false u.dst G vj B)=true:=by rw [<-i4];exact BH geti
 have fri:fR (l.dst.getD 0) (s.put false u.dst G vj B).h C=true:=by
  unfold fR at i3⊢;refine LK.2 λp F=> ?_;have:=LK.1 i3 p F;split at this
  .rename_i d k ep;simp only [Mg,Nu] at this⊢;rcases this with h | h
   .exact .inl h
   .right;show aI s.h B p.1=none;rw [cV λq D e=>disj p F q D e.symm];exact h
  .rfl
  .cases this
 have si10:iK P An ops l (s.put false u.dst G vj B) C=true:=by
  refine xt (λk hk=> ?_) (λk hk x z=> ?_) (λM x z=> ?_) i10
  .exact nH (b:=false) λe=>hk (mX e ops.toList (Array.mem_toList_iff.2 (LX hj)))
  .have:=guardB l I s k hk wi.guard;have h:=geti x z;rw [this] at h;exact h
  .have hgn:I=none:=by
    have h:=wi.guard;unfold cK at h;rw [M] at h;simp only [Lo] at h;exact h.symm
   have h:=geti x z;rw [hgn] at h;exact h
 have li11:l6 An l (s.put false u.dst G vj B) vi=true:=by refine vV (λx z=> ?_) i11;exact kM λk e=>ti _ _ _ k (eu (e▸z))
 have ki:hU An true l (s.put false u.dst G vj B).h C=true:=by refine(A6 λp F=> ?_).trans wi.dv;show aI s.h B p.1=s.h p.1;rw [cV λq D e=>disj p F q D e.symm]
 have wi0:pL P An Or nt ops l (s.put false u.dst G vj B) I vi C:=⟨gi',opi,by
  simp only [kV,Lv,Mt,Lu];exact⟨⟨⟨i1,i2⟩,fri⟩,⟨⟨⟨⟨⟨⟨ni,i5⟩,i6⟩,i7⟩,i8⟩,i9⟩,si10⟩,li11⟩,ki⟩
 rw [wi0.dW,pli];have dij:∀d,l.dst=some d->u.dst≠some d:=a2;have dq:∀(g:Option Gs) (o:Oper) (m:Nat) (om:Oper),ops[m]? =some om->listed.getD m true=false->cK ops o s some=some g->o∈ops->(∀e∈o.after,Region.binds .any e=true->listed.getD e.on false=true)->∀gs,g=some gs->om.dst≠some gs.d:=by
  intro g o m om hom hlm V hmem hall gs hgs hd;unfold cK at V;cases hog:o.guard with
  | none=>rw [hog] at V;simp only [Lo] at V;rw [hgs] at V;cases V
  | some p=>
   obtain⟨jj,b⟩:=p;rw [hog] at V;simp only at V;cases hdd:(ops[jj]?).bind (·.dst) with
   | none=>rw [hdd] at V;simp at V
   | some d=>
    rw [hdd] at V;simp only at V;replace V:=Lp.1 V;obtain⟨x,_,V⟩:=V;obtain⟨bb,V,_⟩:=nq V;simp only [Lo] at V;rw [hgs] at V;simp only [Lo] at V;have hgd:gs.d=d:=by rw [<-V]
    rw [hgd] at hd;obtain⟨ojj,J,U⟩:=Lp.1 hdd;have:=hu hom J hd U;subst this;have hge:=Mf.1 hgk o hmem;rw [hog] at hge;simp only at hge;obtain⟨e,he,hb⟩:=NC.1 hge;simp only [Lu,beq_iff_eq] at hb;exact rp hlm (hb.2▸hall e he hb.1)
 have nogi:=dq I l j u hj hlj wi.guard (LX Z) hai;have nogj:=dq G u i l Z hli gj' (LX hj) haj;have nos:∀(m:Nat) (om:Oper),ops[m]? =some om->listed.getD m true=false->∀k g v,s.t k= (some g,v)->om.dst≠some g.d:=by intro m om hom hlm k g v hst hd;obtain⟨x,ox,J,U,h3⟩:=hG k g v hst;have:=hu hom J hd h3;subst this;exact rp hlm U
 have tcomm:∀(bi bj:Bool),((s.put false u.dst G vj B).put bi l.dst I vi C).t= ((s.put false l.dst I vi C).put bj u.dst G vj B).t:=by
  intro bi bj;funext k;cases hdi:l.dst with
  | none=>
   cases hdj:u.dst with
   | none=>rfl
   | some dj=>
    simp only [St.put];by_cases ek:k=dj
    .simp [ek]
    .simp only [if_neg ek,cond_false];cases bj with
     | false=>rfl
     | true=>
      simp only [cond_true];cases hst:s.t k with
      | mk gk vk=>
       cases gk with
       | none=>rfl
       | some gk=>
        have:=nos j u hj hlj k gk vk hst;rw [hdj] at this;have hb:(gk.d==dj)=false:=by simp only [beq_eq_false_iff_ne,ne_eq];exact λe=>this (by rw [e])
        simp [jS,hb]
  | some di=>
   cases hdj:u.dst with
   | none=>
    simp only [St.put];by_cases ek:k=di
    .simp [ek]
    .simp only [if_neg ek,cond_false];cases bi with
     | false=>rfl
     | true=>
      simp only [cond_true];cases hst:s.t k with
      | mk gk vk=>
       cases gk with
       | none=>rfl
       | some gk=>
        have:=nos i l Z hli k gk vk hst;rw [hdi] at this;have hb:(gk.d==di)=false:=by simp only [beq_eq_false_iff_ne,ne_eq];exact λe=>this (by rw [e])
        simp [jS,hb]
   | some dj=>
    have hne':di≠dj:=λe=>dij di hdi (by rw [hdj,e]);simp only [St.put];have drop1:∀(b:Bool) (g:Option Gs) (v:AV) (d:Nat),(∀gs,g=some gs->gs.d≠d)->cond b (jS d (g,v)) (g,v)= (g,v):=by
     intro b g v d M;cases b with
     | false=>rfl
     | true=>
      cases g with
      | none=>rfl
      | some gs=>
       have hb:(gs.d==d)=false:=by simpa using M gs rfl
       simp [jS,hb]
    by_cases eki:k=di
    .subst eki;simp only [if_true,if_neg hne',cond_false];rw [drop1 bj I vi dj λgs e h=>nogi gs e (by rw [hdj,h])]
    .by_cases ekj:k=dj
     .subst ekj;simp only [if_true,if_neg eki,cond_false];rw [drop1 bi G vj di λgs e h=>nogj gs e (by rw [hdi,h])]
     .simp only [if_neg eki,if_neg ekj,cond_false];cases hst:s.t k with
      | mk gk vk=>rw [drop1 bi gk vk di λgs e h=>by subst e;exact nos i l Z hli k gs vk hst (by rw [hdi,h]),drop1 bj gk vk dj λgs e h=>by subst e;exact nos j u hj hlj k gs vk hst (by rw [hdj,h])]
 have:∀(bi bj:Bool),(s.put false u.dst G vj B).put bi l.dst I vi C= (s.put false l.dst I vi C).put bj u.dst G vj B:=by
  intro bi bj;have ht:=tcomm bi bj;have hh:((s.put false u.dst G vj B).put bi l.dst I vi C).h= ((s.put false l.dst I vi C).put bj u.dst G vj B).h:=by show aI (aI s.h B) C=aI (aI s.h C) B;exact(Lb disj).symm
  generalize (s.put false u.dst G vj B).put bi l.dst I vi C=X at *
  generalize (s.put false l.dst I vi C).put bj u.dst G vj B=Y at *
  cases X;cases Y;simp only at ht hh;rw [ht,hh]
 rw [this]
theorem GY{o:Oper}{l:Gs}{f:Array Bool}(v:oO ops=true)(a:cK ops o s some=some (some l))(r:o∈ops)(m:∀e∈o.after,Region.binds .any e=true->f.getD e.on false=true):
  ∃i y,ops[i]? =some y/\f.getD i false=true/\y.dst=some l.d:=by
 unfold cK at a;cases k:o.guard with
 | none=>rw [k] at a;simp at a
 | some p=>
  obtain⟨jj,b⟩:=p;rw [k] at a;simp only at a;cases g:(ops[jj]?).bind (·.dst) with
  | none=>rw [g] at a;simp at a
  | some d=>
   rw [g] at a;simp only at a;replace a:=Lp.1 a;obtain⟨x,_,a⟩:=a;obtain⟨bb,a,_⟩:=nq a;simp only [Lo] at a;have u:l.d=d:=by rw [<-a]
   obtain⟨z,B,C⟩:=Lp.1 g;have j:=Mf.1 v o r;rw [k] at j;simp only at j;obtain⟨e,D,q⟩:=NC.1 j;simp only [Lu,beq_iff_eq] at q;exact⟨jj,z,B,q.2▸m e D q.1,by rw [u];exact C⟩
theorem AK{a:Array Bool}{i:Nat}{r:Oper}(J:n5 ops)(D:oO ops=true)(q:ops[i]? =some r)(F:i∈Region.ready .any ops a)(z:nR ops a s)(e:dW P An Or true nt ops r s=some s1):
  nR ops (a.setIfInBounds i true) s1:=by
 obtain⟨g,v,us,K,rfl⟩:=wG e;obtain⟨E,L,f,B⟩:=mem_ready.1 F;rw [q] at f;simp only [Lo] at f;subst f;rw [wS J q E z];have j:∀k g v,s.t k= (some g,v)->∃i' o,ops[i']? =some o/\(a.setIfInBounds i true).getD i' false=true/\o.dst=some g.d:=by intro k g v G;obtain⟨x,u,l,m,p⟩:=z k g v G;exact⟨x,u,l,getD_set_true m,p⟩
 intro k y I b;unfold St.put at b;cases C:r.dst with
 | none=>rw [C] at b;exact j k y I b
 | some d=>
  rw [C] at b;dsimp only at b;split at b
  .simp only [Ma] at b;obtain⟨x,u,l,m,p⟩:=GY D (by rw [<-b.1];exact K.guard) (LX q) B;exact⟨x,u,l,getD_set_true m,p⟩
  .exact j k y I b
def pO(P:Program)(An:cq)(Or:ay)(nt:Nat)(ops:Array Oper)(Q:St->Prop):Nat->Array Bool->St->Prop
 | 0,a,s=>Region.ready .any ops a= []/\Q s
 | n+1,a,s=>(Region.ready .any ops a= []->Q s)/\∀i∈Region.ready .any ops a,∃o s1,ops[i]? =some o/\dW P An Or true nt ops o s=some s1/\pO P An Or nt ops Q n (a.setIfInBounds i true) s1
theorem Eg{n j i:Nat}{b:Oper}(g:ops[j]? =some b)(h:fG ops (n+1) j i=false):∀e∈b.after,Region.binds .any e=true->e.on≠i:=by intro e f d a;simp only [fG,g] at h;rw [Array.any_eq_false'] at h;exact h e f (by simp [d,a])
theorem yq{a:Array Bool}{j:Nat}(i:nO ops a)(p:j∈Region.ready .any ops a):nO ops (a.setIfInBounds j true):=by
 intro k ok m hl e l g;obtain⟨q,r,b,f⟩:=mem_ready.1 p;refine getD_set_true ?_;by_cases d:j=k
 .subst d;rw [m] at b;simp only [Lo] at b;subst b;exact f e l g
 .have o:a.getD k false=true:=by
   rw [MQ,Oa d] at hl;rw [MQ];exact hl
  exact i k ok m o e l g
theorem DS{Q:St->Prop}{i:Nat}{d:Oper}(K:n5 ops)(v:oO ops=true)(C:ops[i]? =some d):∀(iz:Nat) (a:Array Bool) (s s1:St),
  (∀j o,ops[j]? =some o->j≠i->a.getD j true=false->fG ops 12 j i=false->d.apart ops o=true/\(og P An d o=true\/pv P An ops d o=true))->nO ops a->
  i∈Region.ready .any ops a->nR ops a s->dW P An Or true nt ops d s=some s1->pO P An Or nt ops Q iz (a.setIfInBounds i true) s1->pO P An Or nt ops Q (iz+1) a s:=by
 intro iz;induction iz with
 | zero=>
  intro a s s1 _ _ g z e H;refine⟨λh=>(by rw [h] at g;cases g),λj l=> ?_⟩;by_cases b:j=i
  .subst b;exact⟨d,s1,C,e,H⟩
  .have:=ready_mono l b;rw [H.1] at this;cases this
 | succ iz X=>
  intro a s s1 p q g z e H;refine⟨λh=>(by rw [h] at g;cases g),λj l=> ?_⟩;by_cases b:j=i
  .subst b;exact⟨d,s1,C,e,H⟩
  .obtain⟨o,s2,f,N,M⟩:=H.2 j (ready_mono l b);obtain⟨u,Y,m,B⟩:=mem_ready.1 l;rw [f] at m;simp only [Lo] at m;subst m;have D:fG ops 12 j i=false:=uv q (mem_ready.1 g).1 f B;obtain⟨F,G⟩:=p j o f b u D;obtain⟨L,E,U⟩:=swap K v C f b g l q F G z e N;refine⟨o,L,f,E, ?_⟩
   have r:∀k ok,ops[k]? =some ok->k≠i->(a.setIfInBounds j true).getD k true=false->
     fG ops 12 k i=false->d.apart ops ok=true/\(og P An d ok=true\/pv P An ops d ok=true):=λk ok V I y J=>by
    refine p k ok V I ?_ J;by_cases x:j=k
    .subst x;exact u
    .rw [getD_set_ne true x] at y;exact y
   refine X (a.setIfInBounds j true) L s2 r (yq q l) (ready_mono g (N9 b)) (AK K v f l z E) U ?_;rw [Array.setIfInBounds_comm _ _ b];exact M
theorem GI{i:Nat}{b:Oper}{a:Array Bool}(m:ops[i]? =some b)(h:vu P An ops a i=true)(j:Nat)(d:Oper)(f:ops[j]? =some d)(g:j≠i)(l:a.getD j true=false)
  (k:fG ops 12 j i=false):og P An b d=true\/pv P An ops b d=true:=by
 simp only [vu,m,LK,Om] at h;have e:=h j (NS.1 f).1;simp only [f,Mg,beq_iff_eq,g,false_or,l,LY,k,or_false] at e;exact e
theorem xP{Q:St->Prop}(u:n5 ops)(b:oO ops=true):∀(l:List Oper) (k:Nat) (a:Array Bool) (s:St),(∀j,l[j]? =ops[k+j]?)->Region.lexFrom .any ops l.length k a=true->sU P An ops l.length k a=true->nO ops a->nR ops a s->
  gK P An Or true nt ops l s=some s'->Q s'->pO P An Or nt ops Q l.length a s
 | [],k,a,s,_,e,_,_,_,h,q=>by simp only [gK,Lo] at h;subst h;exact⟨by simpa [Region.lexFrom] using e,q⟩
 | o::l,k,a,s,hl,e,p,f,y,h,q=>by
  simp only [gK] at h;obtain⟨s1,v,h⟩:=Lp.1 h;have h0:ops[k]? =some o:=by simpa using (hl 0).symm
  simp only [LD,Region.lexFrom,Lu] at e;obtain⟨⟨C,B⟩,x⟩:=e;simp only [LD,sU,Lu] at p;have d:k∈Region.ready .any ops a:=by simpa using C
  exact DS u b h0 l.length a s s1 (λj z r g m i=>⟨Region.free_spec h0 B j z r g m (Eg r i),GI h0 p.1 j z r g m i⟩) f d y v
   (xP u b l (k+1) _ s1 (λj=>by have:=hl (j+1);simpa [Ns,Nat.add_comm 1 j] using this) x p.2 (yq f d) (AK u b h0 d y v) h q)
theorem xQ(u:gW P An Or){Q:Exit->Act->World->Prop}{s':St}:∀{iz:Nat} {b:Array Bool} {w:World} {s:St} {ρ:Id->Option Value} {O:Id->Option Nat} {a:Act},
  dQ c nt w s ρ O a->lF ops s->pO P An Or nt ops (· =s') iz b s->(∀k w' ρ' O',Le w ρ O w' ρ' O'->dQ c nt w' s' ρ' O' k->Q .normal k w')->wpAny P .any ops Q iz b a w
 | 0,b,w,s,ρ,O,a,d,j,h,f=>⟨h.1,f a w ρ O Le.refl (h.2▸d)⟩
 | iz+1,b,w,s,ρ,O,a,d,j,h,f=>by refine⟨λz=>f a w ρ O Le.refl (h.1 z▸d),λi y=> ?_⟩;obtain⟨o,s1,ho,e,H⟩:=h.2 i y;obtain⟨l,step⟩:=BX u d j (LX ho) e;unfold wpOp;rw [ho];exact step _ Q λk w' ρ' O' le m=>xQ u m l H λr x p q v g=>f r x p q (le.trans v) g
theorem I9{R:Type}{id:Nat}{f:Bool}{a:Act}{K:St->Option R}{r:R}(hm:P.follows .mixedOrders=true)(C:gW P An Or)(l:dQ c nt w s ρ O a)(p:lE s)(e:region P An Or nt f ops s K=some r):
  ∃s':St,K s'.clear=some r/\∀Q:Exit->Act->World->Prop,(∀q w' ρ' O',Le w ρ O w' ρ' O'->dQ c nt w' s'.clear ρ' O' q->Q .normal q w')->(Code.region id ops f).wp P Q a w:=by
 unfold region at e;cases m:wT P An f ops with
 | false=>simp [m] at e
 | true=>
  rw [m,cond_true,wZ] at e;replace e:=Lp.1 e;obtain⟨s',e,F⟩:=e;refine⟨s',F,λQ D=> ?_⟩;cases f with
  | false=>exact I8 C l p e D
  | true=>simp only [wT,Lv,Mt,Lu] at m;obtain⟨⟨⟨B,G⟩,I⟩,E⟩:=m;simp only [Region.lexB,Lu] at B;have M:n5 ops:=λ{i j x y d} J L N U=>yN I (by simpa using J) (by simpa using L) N U;have o:Le w ρ O w.drew ρ O:=⟨rfl,rfl,rfl,LM _,λ_ _ h=>h,λ_ _ _=>rfl,λi b h=> .inl ⟨i,h⟩⟩;have z:dQ c nt w.drew s ρ O a:=⟨l.hs.world o λ_ _ _=>rfl,SS.mono (λb p=>o.A b p) o.dJ l.ss,l.nt,l.defers⟩;refine wp_region_any hm ?_;have:=xP (P:=P) (An:=An) (Or:=Or) (nt:=nt) (Q:=(· =s')) M E ops.toList 0 (Array.replicate ops.size false) s (by simp) (by simpa using B.2) (by simpa using G) (λk ok F hl=>by simp [MQ,Array.getElem?_replicate] at hl;split at hl <;> simp at hl) (λk g v h=>(p k g v h).elim) e rfl;simp only [LU] at this;exact xQ C z (p.AR ops) this λq w' ρ' O' le u=>D q w' ρ' O' (o.trans le) u.clear
end
open Go Go.IntKind
section
variable {P:Program} {An:cq} {Or:ay} {w w':World} {A A':Nat->Prop} {c:Ctx} {ρ:Id->Option Value} {O:Id->Option Nat} {s s':St} {h:Id->Option ab}
def Ends(P:Program)(f:FuncId)(fn:Func)(todo:List Item)(a:Act)(w:World)(R:Value->World->Prop):Prop:=
 ∀(b:Frame),b.fn=f->b.kind= .normal->∀cs,∃d w' v todo',Steps P (lone (b.at a todo) cs w) (lone {b.at d todo' with mode:= .returning} cs w')/\
  d.defers= []/\(results fn d.tmps).run P w'= .ok v w'/\R v w'
theorem Ends.mono{f:FuncId}{fn:Func}{todo:List Item}{a:Act}{R d:Value->World->Prop}(h:Ends P f fn todo a w R)(o:∀v w',R v w'->d v w'):Ends P f fn todo a w d:=
 λb l m cs=>let⟨e,w',v,t,g,i,j,k⟩:=h b l m cs;⟨e,w',v,t,g,i,j,o _ _ k⟩
theorem Ends.step{f:FuncId}{fn:Func}{todo todo':List Item}{a:Act}{R:Value->World->Prop}(d:∀(b:Frame) cs,step P (lone (b.at a todo) cs w)= .next (lone (b.at a todo') cs w))(h:Ends P f fn todo' a w R):Ends P f fn todo a w R:=
 λb j k cs=>let⟨e,w',v,t,g,i⟩:=h b j k cs;⟨e,w',v,t, .head (d b cs) g,i⟩
theorem Ends.region{f:FuncId}{fn:Func}{id:Nat}{ops:Array Oper}{d:Bool}{k:List Item}{a:Act}{R:Value->World->Prop}
  (h:(Code.region id ops d).wp P (λe g w'=>e= .normal/\Ends P f fn k g w' R) a w):Ends P f fn (.code (.region id ops d)::k) a w R:=by
 intro b o p cs;obtain⟨e,j,r,⟨rfl,q⟩,i⟩:=h b k cs;obtain⟨g,w',v,t,l,m⟩:=q b o p cs;exact⟨g,w',v,t,Steps.trans i l,m⟩
theorem Ew{f:FuncId}{fn:Func}{a:Code}{args:Array Value}{R:Value->World->Prop}(g:P.funcs[f]? =some fn)(j:fn.body=some a)
  (h:Ends P f fn [.code a] {tmps:=args++Array.replicate (fn.ntmps - args.size) undef,defers:= []} w R):Calls P f args w λe w'=>∃v,e= .returned v/\R v w':=by
 intro cs;let b:Frame:={(default:Frame) with fn:=f,kind:= .normal};have d:Frame.enter P f args .normal=b.at {tmps:=args++Array.replicate (fn.ntmps - args.size) undef,defers:= []} [.code a]:=by simp [Frame.enter,Frame.at,g,j,b]
 obtain⟨m,w',v,todo',hs,k,l,i⟩:=h b rfl rfl cs;rw [<-d] at hs;exact⟨.returned v,w',_,⟨v,rfl,i⟩,hs,rfl,rfl,k,rfl,fn,g,l⟩
structure Fin (P:Program) (c:Ctx) (B:Nat->Option Value) (sh:List bS) (outs:List im) (xs:List T) (Own:Nat->Prop) (w:World) (v:Value) (w':World):Prop where
 os:w'.os=w.os
 output:w'.output=w.output
 tape:w'.tape=w.tape
 size:w.heap.size<=w'.heap.size
 ae:∀b,b < w.heap.size->¬Own b->w'.heap[b]? =w.heap[b]?
 res:∃rs x1 x2 o1 o2,v=mj rs/\xs=x1++x2/\(o1++o2).Nodup/\(∀b∈o1++o2,c.MO b/\b < w'.heap.size)/\dh B w' (λb=>(c.A0 b\/c.MO b)/\b < w'.heap.size/\b∉o1++o2) sh x1 rs o1/\
  lK B w' (λb=>(c.A0 b\/c.MO b)/\b < w'.heap.size/\b∉o1++o2) 0 outs x2 o2
theorem Fin.le{B:Nat->Option Value}{sh:List bS}{os:List im}{xs:List T}{v:Value}{w'':World}{ρ':Id->Option Value}{O':Id->Option Nat}(le:Le w ρ O w' ρ' O')(h:Fin P c B sh os xs (eI O') w' v w''):Fin P c B sh os xs (eI O) w v w'' where
 os:=h.os.trans le.os
 output:=h.output.trans le.output
 tape:=h.tape.trans le.tape
 size:=Mj le.size h.size
 ae b hb hn:=by
  rw [h.ae b (Mv hb le.size) (λ⟨i,hi⟩=> ?_),le.ae b hb (λi hi=>hn ⟨i,hi⟩)];rcases le.own i b hi with⟨j,hj⟩ | hj
  .exact hn ⟨j,hj⟩
  .omega
 res:=h.res
theorem Fin.own{B:Nat->Option Value}{d:List bS}{os:List im}{xs:List T}{v:Value}{a:World}{O':Id->Option Nat}(f:∀b,eI O' b->eI O b)(h:Fin P c B d os xs (eI O') w v a):Fin P c B d os xs (eI O) w v a:=
 {h with ae:=λb e g=>h.ae b e λho=>g (f b ho)}
theorem Bw:∀{l:List Id},s5 l=true->l.Nodup
 | [],_=>N2
 | i::r,h=>by
  simp only [s5,Lu,Mr] at h;refine MB.2 ⟨λhm=> ?_,Bw h.2⟩;have:r.contains i=true:=by simpa using hm
  rw [this] at h;cases h.1
def jm(O:Id->Option Nat)(l:List Id):List Nat:=l.filterMap O
theorem yf(hs:HS c w h ρ O):∀{l:List Id},l.Nodup->(jm O l).Nodup
 | [],_=>N2
 | i::l,m=>by
  obtain⟨f,g⟩:=MB.1 m;have d:=yf hs g;unfold jm at *
  cases a:O i with
  | none=>rw [List.filterMap_cons_none a];exact d
  | some b=>rw [List.filterMap_cons_some a];refine MB.2 ⟨λhm=> ?_,d⟩;obtain⟨j,k,e⟩:=NY.1 hm;have:=hs.inj i j b a e;exact f (this▸k)
theorem Ef(a b:List Id):jm O (a++b)=jm O a++jm O b:=by simp [jm]
def eH(O:Id->Option Nat)(l:List Id)(own:List Nat):Prop:=(∀i∈l,i.real=true)/\∃ids,own=jm O ids/\(l.Nodup->ids.Nodup)/\∀x∈ids,Of l x
theorem eH.nil:eH O [] []:=⟨by simp,[],rfl,λh=>h,by simp⟩
theorem eH.one{i:Id}(a:i.real=true):eH O [i] (O i).toList:=by refine⟨by simpa using a,[i], ?_,λh=>h,λx b=> .inl b⟩;cases h:O i <;> simp [jm,h]
theorem eH.append{a b:List Id}{o1 o2:List Nat}(v:eH O a o1)(z:eH O b o2):eH O (a++b) (o1++o2):=by
 obtain⟨r1,G,rfl,J,q⟩:=v;obtain⟨u,I,rfl,K,r⟩:=z;refine⟨λi f=> ?_,G++I,(Ef _ _).symm,λB=> ?_,λx d=> ?_⟩
 .rcases LI.1 f with f | f
  .exact r1 i f
  .exact u i f
 .obtain⟨E,F,p⟩:=MT.1 B;refine MT.2 ⟨J E,K F,λx d y C e=> ?_⟩;subst e;rcases q x d with l | ⟨j,n,l,o⟩ <;> rcases r x C with m | ⟨D,L,m,k⟩
  .exact p x l x m rfl
  .have:=r1 x l;rw [k] at this;cases this
  .have:=u x m;rw [o] at this;cases this
  .rw [o] at k;simp only [Id.g.injEq] at k;exact p j l D m k.1
 .rcases LI.1 d with d | d
  .rcases q x d with g | ⟨j,n,g,e⟩
   .exact .inl (LH _ g)
   .exact .inr ⟨j,n,LH _ g,e⟩
  .rcases r x d with g | ⟨j,n,g,e⟩
   .exact .inl (LF _ g)
   .exact .inr ⟨j,n,LF _ g,e⟩
theorem eH.mem{l:List Id}{own:List Nat}(h:eH O l own){b:Nat}(a:b∈own):∃i,Of l i/\O i=some b:=by obtain⟨_,ids,rfl,_,m⟩:=h;obtain⟨i,d,e⟩:=NY.1 a;exact⟨i,m i d,e⟩
def kk:Nat->List Row->List Row
 | _,[]=> []
 | n,e::r=>{e with n:=n}::kk (n+1) r
theorem qP:∀(es:List Row) (n:Nat),(kk n es).length=es.length
 | [],_=>rfl
 | e::r,n=>by simp [kk,qP r]
theorem tn:∀(es:List Row) (n:Nat),(kk n es).map (·.n)=List.range' n es.length
 | [],_=>rfl
 | e::r,n=>by simp [kk,tn r,NK]
theorem yD:∀{es:List Row} {n:Nat},aV es=true->mV n (es.map λe=> [.ptr e.cs,pg e])=some (kk n es)
 | [],_,_=>rfl
 | e::r,n,h=>by
  simp only [aV,MN,Lu] at h;have b:=yD (es:=r) (n:=n+1) h.2;obtain⟨en,a,eo⟩:=e;cases eo with
  | none=>simp at h
  | some p=>show((mV (n+1) (r.map λe=> [.ptr e.cs,pg e])).bind λl=>some (⟨n,a,some (p.1,p.2)⟩::l))=_;rw [b];rfl
theorem Cp{A A':Nat->Prop}{d:Id->Option Value}{a:Id->Option Nat}{i:Id}{ae sz col rsz:Nat}(l:∀b,A b->A' b):∀{es:List Row} {k base:Nat},(∀j e,es[j]? =some e->d (.g i (k+j))=ρ (.g i e.n)/\a (.g i (k+j))=O (.g i e.n))->
  ca w A ρ O i ae sz col rsz base es->ca w A' d a i ae sz col rsz base (kk k es)
 | [],_,_,_,_=>trivial
 | e::r,k,base,m,h=>by
  obtain⟨h0,C⟩:=h;obtain⟨z,B⟩:=m 0 e rfl;refine⟨?_,Cp l (k:=k+1) (λj f E=>by
   have:=m (j+1) f (by simpa using E);rw [show k+1+j=k+ (j+1) by omega];exact this) C⟩
  have h0:=h0.move (A':=A') (w':=w) (ρ':=ρ) (O':=O) (λ_ _=>rfl) (λb D=>⟨l b D,rfl⟩) rfl rfl (λ_ _=>rfl);obtain⟨o,q,v,u,a4,x,y⟩:=h0;refine⟨o,q,v,u,a4,by rw [<-x];exact z, ?_⟩;revert y;show(match e.own with | some p=>cx w A' rsz p.1 p.2 u (λb=>O (.g i e.n)=some b) | none=>O (.g i e.n)=none)->(match e.own with | some p=>cx w A' rsz p.1 p.2 u (λb=>a (.g i k)=some b) | none=>a (.g i k)=none);rw [show a (.g i k)=O (.g i e.n) from B];exact id
def nT(w:World)(c:Ctx)(O:Id->Option Nat)(b:List Id)(Q:(Nat->Prop)->Prop):Prop:=
 ∀A:Nat->Prop,(∀k,AA c w O k->A k)->(∀i ae,i∈b->i.real=true->O i=some ae->A ae)->Q A
def gu(m:Nat)(B:Nat->Option Value)(ρ:Id->Option Value):Prop:= ∀j,j < m->∃v,B j=some v/\ρ (.c j)=some v
theorem zY{B:Nat->Option Value}{i:Id}{b:Bool}{sz col rsz nx:Nat}{es:List Row}{u:Value}{l:List Id}(hs:HS c w h ρ O)(U:h i=some (.rows b sz col rsz nx es))(hv:ρ i=some u)(N:aV es=true):
  eH O [i] (jm O (i::es.map λe=> .g i e.n))/\nT w c O l λA=>ir B w A (.rows sz col rsz) (a8 b es) u (jm O (i::es.map λe=> .g i e.n)):=by
 have o:=hs.real (i:=i) (by rw [U];simp);obtain⟨a,cap,r1,r2,r3,⟨Z,n2,n3,n4⟩,K⟩:=hs.ae i _ U;have X:(i::es.map λe=>Id.g i e.n).Nodup:=by
  refine MB.2 ⟨λhm=> ?_, ?_⟩
  .obtain⟨e,_,G⟩:=L4.1 hm;rw [<-G] at o;cases o
  .have:(es.map λe=>Id.g i e.n)= (es.map (·.n)).map (Id.g i):=by rw [Od];rfl
   rw [this];exact List.pairwise_map.2 (Z.imp λh e=>h (by simpa using e))
 refine⟨⟨by simpa using o,_,rfl,λ_=>X,λx m=> ?_⟩,λA hA _=> ?_⟩
 .rcases LC.1 m with rfl | m
  .exact .inl Lq
  .obtain⟨e,_,rfl⟩:=L4.1 m;exact .inr ⟨i,e.n,Lq,rfl⟩
 .let V:Id->Option Value:=λx=>match x with
   | .g y k=>if y=i then(es[k]?).bind λe=>ρ (.g i e.n) else none
   | x=>if x=i then ρ i else none
  let Q:Id->Option Nat:=λx=>match x with
   | .g y k=>if y=i then(es[k]?).bind λe=>O (.g i e.n) else none
   | x=>if x=i then O i else none
  have M:V i=ρ i:=by
   cases i with
   | g y n=>cases o
   | _=>simp only [V,if_true]
  have L:Q i=O i:=by
   cases i with
   | g y n=>cases o
   | _=>simp only [Q,if_true]
  have D:∀k,V (.g i k)= (es[k]?).bind λe=>ρ (.g i e.n):=λk=>by simp only [V,if_true]
  have C:∀k,Q (.g i k)= (es[k]?).bind λe=>O (.g i e.n):=λk=>by simp only [Q,if_true]
  have r:∀x d,Q x=some d->(x=i/\O i=some d)\/∃k e,x= .g i k/\es[k]? =some e/\O (.g i e.n)=some d:=by
   intro x d m;cases x with
   | g y k=>
    simp only [Q] at m;split at m
    .rename_i e;subst e;obtain⟨e,E,F⟩:=Lp.1 m;exact .inr ⟨k,e,rfl,E,F⟩
    .cases m
   | s y k=>
    simp only [Q] at m;split at m
    .rename_i e;exact .inl ⟨e,m⟩
    .cases m
   | c k=>
    simp only [Q] at m;split at m
    .rename_i e;exact .inl ⟨e,m⟩
    .cases m
  refine⟨b,kk 0 es,i,V,Q, ?_,⟨a,cap,by rw [M,qP];exact r1,by rw [qP];exact r2,r3,⟨?_,λf I=> ?_,λk p=> ?_,λk d p=> ?_⟩, ?_⟩,by rw [M];exact hv,o,λx y d m hy=> ?_,λk v p=> ?_,λx d m=> ?_,λd=> ?_⟩
  .simp only [a8,aM,yD N,Lt]
  .rw [tn];exact List.nodup_range'
  .have:f.n∈(kk 0 es).map (·.n):=L4.2 ⟨f,I,rfl⟩;rw [tn,List.mem_range'_1] at this;rw [qP];omega
  .rw [qP] at p;rw [D,MV p];rfl
  .rw [C] at p;obtain⟨e,E,_⟩:=Lp.1 p;have hlt:=(Ls.1 E).1;have:k∈(kk 0 es).map (·.n):=by rw [tn,List.mem_range'_1];omega
   obtain⟨f,I,e2⟩:=L4.1 this;exact⟨f,I,e2⟩
  .rcases K with K | ⟨ae,off,arr,t,q1,q2,q3,q4,q5⟩
   .exact .inl K
   .refine .inr ⟨ae,off,arr,t,q1,by rw [L];exact q2,q3,q4,Cp hA (λj e hj=> ?_) q5⟩;rw [L5,D,C,hj];exact⟨rfl,rfl⟩
  .rcases r x d m with⟨rfl,q⟩ | ⟨k,e,rfl,q,z⟩ <;> rcases r y d hy with⟨rfl,J⟩ | ⟨k',e',rfl,J,Y⟩
   .rfl
   .have:=hs.inj _ _ d q Y;rw [this] at o;cases o
   .have:=hs.inj _ _ d J z;rw [this] at o;cases o
   .have:=hs.inj _ _ d z Y;simp only [Id.g.injEq,true_and] at this;rw [qB Z q J this]
  .rw [D] at p;obtain⟨e,_,F⟩:=Lp.1 p;exact hs.gone i e.n v F
  .rcases r x d m with⟨rfl,_⟩ | ⟨k,_,rfl,_⟩
   .exact .inl rfl
   .exact .inr ⟨k,rfl⟩
  .simp only [jm,NY,LC,L4];constructor
   .rintro⟨x,rfl | ⟨e,G,rfl⟩,m⟩
    .exact⟨x,by rw [L];exact m⟩
    .obtain⟨k,p⟩:=MA G;exact⟨.g i k,by rw [C,p];exact m⟩
   .rintro⟨x,m⟩;rcases r x d m with⟨rfl,q⟩ | ⟨k,e,rfl,q,z⟩
    .exact⟨x, .inl rfl,q⟩
    .exact⟨.g i e.n, .inr ⟨e,LB q,rfl⟩,z⟩
theorem zX{R:Type}{m:Nat}{B:Nat->Option Value}{r:bS}{v:AV}{u:Value}{K:T->List Id->List Id->Option R}{res:R}(hB:gu m B ρ)(hs:HS c w h ρ O)(g:ah w (AA c w O) ρ v u)(d:hF m h r v K=some res):
  ∃x a b ob,K x a b=some res/\eH O a ob/\nT w c O b λA=>ir B w A r x u ob:=by
 cases r with
 | f k=>simp only [hF] at d;replace d:=Lp.1 d;obtain⟨x,X,d⟩:=d;replace d:=aL d (.inl rfl);obtain⟨y,hy,d⟩:=d;rw [AV.jJ X] at g;simp only [ah] at g;exact⟨_,_,_,[],d, .nil,λA z C=>⟨hy,g.flat hy,rfl⟩⟩
 | t k=>simp only [hF] at d;replace d:=Lp.1 d;obtain⟨x,X,d⟩:=d;refine⟨_,_,_,[],d, .nil,λA z C=>⟨ku hs g X z (λi ae q ho=> ?_),rfl⟩⟩;obtain⟨p,D,e⟩:=sH hs X q ho;refine C i ae (L4.2 ⟨p,D,e⟩) ?_ ho;rw [<-e];refine hs.real λe0=> ?_;have J:=qe (h:=h) v p D;rw [e0] at J;rcases J with⟨sz,b,l,_,J⟩ | ⟨l,_,J⟩ <;> simp at J
 | own sz=>
  simp only [hF] at d;split at d
  .rename_i i;replace d:=Lp.1 d;obtain⟨p,D,d⟩:=d;simp only [B3] at D;split at D
   .rename_i sz' b xs q;split at D
    .rename_i hsz;subst hsz;simp only [Lo] at D;subst D;refine⟨_,_,_,(O i).toList,d, .one (hs.real (by rw [q];simp)),λA z C=> ?_⟩;obtain⟨v',I,g2,_⟩:=hs.ae i _ q;simp only [ah] at g;rw [I] at g;simp only [Lo] at g;subst g;exact⟨O i,(b,xs),rfl,by simp [T.au],g2.mono (λb M=>⟨z b M,rfl⟩) (λb M=>⟨by simpa using M,rfl⟩)⟩
    .simp at D
   .simp at D
  .rename_i i sz1 n;split at d
   .rename_i sz2 b xs q;split at d
    .rename_i j;obtain⟨rfl,rfl⟩:=j;refine⟨_,_,_,(O i).toList,d, .one (hs.real (by rw [q];simp)),λA z C=> ?_⟩;obtain⟨v',I,⟨a,cap,rfl,f2,f3,_,f4⟩,_⟩:=hs.ae i _ q;simp only [ah] at g;obtain⟨a1,L,cap1,Z,G,V,E,rfl,e4⟩:=g;rw [I] at G;simp only [Lo,Mu] at G;obtain⟨rfl,rfl,rfl⟩:=G;have N:(xs.take n).length=n:=by rw [Mp];omega
     have ha:Z=none↔a=none:=by
      rcases e4 with⟨_,rfl⟩ | ⟨_,h,_⟩ | ⟨_,_,rfl,rfl⟩
      .exact NH
      .exact h
      .simp
     refine⟨O i,(b,xs.take n),rfl,by simp [T.au],Z,cap,by rw [N];rfl,by rw [N];omega,by rw [ha];exact f3,trivial, ?_⟩
     .rcases f4 with f4 | ⟨ae,off,arr',t',q1,q2,q3,q4,q5⟩
      .exact .inl f4
      .by_cases Y:cap=0
       .exact .inl Y
       .right;subst q1;have:Z=some ⟨ae,off,none⟩:=by
         rcases e4 with⟨_,rfl⟩ | ⟨h,_⟩ | ⟨b',o,e5,rfl⟩
         .rfl
         .exact absurd h.symm Y
         .simp only [Lo,Mo] at e5;obtain⟨rfl,rfl,_⟩:=e5;simp
        exact⟨ae,off,arr',t',this,by simpa using q2,q3,q4,(aZ.kR (λb M=>⟨z b M,rfl⟩) ae _ rfl off xs q5).take n⟩
    .simp at d
   .simp at d
  .rename_i b;simp only [ah,ax] at g;refine⟨_,_,_,[],d, .nil,λA z C=>⟨none,(b,[]),rfl,by simp [T.au], ?_⟩⟩;rcases g with⟨rfl,rfl⟩ | ⟨rfl,ae,off,sp,rfl⟩
   .exact⟨none,0,rfl,by simp,by simp,trivial, .inl rfl⟩
   .exact⟨some ⟨ae,off,sp⟩,0,rfl,by simp,by simp,trivial, .inl rfl⟩
  .simp only [ah,ax] at g;refine⟨_,_,_,[],d, .nil,λA z C=>⟨none,(true,[]),rfl,by simp [T.au], ?_⟩⟩;rcases g with⟨_,_,rfl⟩ | ⟨h,_⟩
   .exact⟨none,0,rfl,by simp,by simp,trivial, .inl rfl⟩
   .cases h
  .simp at d
 | ref k off=>
  simp only [hF] at d;split at d
  .rename_i k' off';split at d
   .rename_i j;obtain⟨rfl,rfl,Q⟩:=j;refine⟨_,_,_,[],d, .nil,λA z C=>⟨?_,rfl⟩⟩;simp only [ah] at g;obtain⟨b,G,rfl⟩:=g;obtain⟨v,V,E⟩:=hB _ Q;rw [G] at E;simp only [Lo] at E;subst E;exact⟨b,V,rfl⟩
   .simp at d
  .simp at d
 | same k=>
  simp only [hF] at d;split at d
  .rename_i k';split at d
   .rename_i j;obtain⟨rfl,Q⟩:=j;refine⟨_,_,_,[],d, .nil,λA z C=>⟨?_,rfl⟩⟩;simp only [ah] at g;obtain⟨v,V,E⟩:=hB _ Q;rw [g] at E;simp only [Lo] at E;subst E;exact⟨V,iG hs g⟩
   .simp at d
  .simp at d
 | no=>
  simp only [hF] at d;split at d
  .refine⟨_,_,_,[],d, .nil,λA z C=>⟨?_,rfl⟩⟩;simp only [ah] at g;obtain⟨b,_,rfl⟩:=g;exact⟨rfl,rfl⟩
  .simp at d
 | rows sz col rsz=>
  simp only [hF] at d;split at d
  .rename_i i;split at d
   .rename_i b sz' col' rsz' nx es q;split at d
    .rename_i j;obtain⟨rfl,rfl,rfl⟩:=j;replace d:=aL d (.inl rfl);obtain⟨_,F,d⟩:=d;have F:aV es=true:=by
      split at F
      .assumption
      .cases F
     simp only [ah] at g;exact⟨_,_,_,_,d,(zY (B:=B) (l:= []) hs q g F).1,(zY hs q g F).2⟩
    .simp at d
   .simp at d
  .simp at d
 | mp ag ks vk=>
  simp only [hF] at d;split at d
  .rename_i i;split at d
   .rename_i ag' ks' vk' es q;split at d
    .rename_i j;obtain⟨rfl,rfl,rfl⟩:=j;obtain⟨b,ents,U,I,g2,g3,g4,g5⟩:=hs.ae i _ q;simp only [ah] at g;rw [I] at g;simp only [Lo] at g;subst g;refine⟨_,_,_,[b],d, ?_,λA z C=>⟨es,b,ents,U,rfl,rfl,rfl,g3,g4,g5⟩⟩;have:=eH.one (O:=O) (hs.real (i:=i) (by rw [q];simp));rw [g2] at this;exact this
    .simp at d
   .simp at d
  .simp at d
 | agg l=>simp [hF] at d
 | new l=>simp [hF] at d
theorem sq{R:Type}{m:Nat}{B:Nat->Option Value}(k:gu m B ρ)(hs:HS c w h ρ O):∀{rs:List bS} {vs:List AV} {us:List Value} {K:List T->List Id->List Id->Option R} {res:R},az w (AA c w O) ρ vs us->kG m h rs vs K=some res->
  ∃xs a b own,K xs a b=some res/\eH O a own/\nT w c O b λA=>ez B w A rs xs us own
 | [],[],us,K,res,e,d=>by simp only [az] at e;subst e;simp only [kG] at d;exact⟨_,_,_,[],d, .nil,λA _ _=>⟨rfl,rfl,rfl⟩⟩
 | [],v::vs,us,K,res,e,d=>by simp [kG] at d
 | r::rs,[],us,K,res,e,d=>by simp [kG] at d
 | r::rs,v::vs,us,K,res,e,d=>by simp only [az] at e;obtain⟨u,o,rfl,C,D⟩:=e;simp only [kG] at d;obtain⟨x,a,b,ob,d,p,y⟩:=zX k hs C d;obtain⟨xs,F,G,own,d,q,z⟩:=sq k hs D d;refine⟨_,_,_,_,d,p.append q,λA j l=> ?_⟩;have E:=y A j (λi ae f g ho=>l i ae (LH _ f) g ho);exact⟨x,xs,u,o,ob,own,rfl,rfl,rfl,E,z A j (λi ae f g ho=>l i ae (LF _ f) g ho)⟩
theorem sr{R:Type}{m:Nat}{B:Nat->Option Value}(C:gu m B ρ)(hs:HS c w h ρ O):∀{rs:List bS} {vs:List AV} {us:List Value} {K:List T->List Id->List Id->Option R} {res:R},az w (AA c w O) ρ vs us->eU m h rs vs K=some res->
  ∃xs a b own,K xs a b=some res/\eH O a own/\nT w c O b λA=>dh B w A rs xs us own
 | [],[],us,K,res,y,d=>by simp only [az] at y;subst y;simp only [eU] at d;exact⟨_,_,_,[],d, .nil,λA _ _=>⟨rfl,rfl,rfl⟩⟩
 | [],v::vs,us,K,res,y,d=>by simp [eU] at d
 | r::rs,[],us,K,res,y,d=>by cases r <;> simp [eU] at d
 | r::rs,v::vs,us,K,res,y,d=>by
  simp only [az] at y;obtain⟨u,q,rfl,I,V⟩:=y
  have e:(hF m h r v λx a b=>eU m h rs vs λxs L M=>K (x::xs) (a++L) (b++M))=some res->(∀l,r≠ .agg l)->(∀l,r≠ .new l)->
    ∃xs a b own,K xs a b=some res/\eH O a own/\nT w c O b λA=>dh B w A (r::rs) xs (u::q) own:=by
   intro d j Y;obtain⟨x,a,b,ob,d,D,F⟩:=zX C hs I d;obtain⟨xs,L,M,own,d,E,G⟩:=sr C hs V d;refine⟨_,_,_,_,d,D.append E,λA o p=> ?_⟩;have z:=F A o (λi ae g j ho=>p i ae (LH _ g) j ho);have:∃Z U v Q N J,x::xs=Z::U/\u::q=v::Q/\ob++own=N++J/\ir B w A r Z v N/\dh B w A rs U Q J:=
    ⟨x,xs,u,q,ob,own,rfl,rfl,rfl,z,G A o (λi ae g j ho=>p i ae (LF _ g) j ho)⟩
   cases r with
   | agg l=>exact(j l rfl).elim
   | new l=>exact(Y l rfl).elim
   | _=>exact this
  cases r with
  | f k=>exact e (by simpa [eU] using d) (by simp) (by simp)
  | t k=>exact e (by simpa [eU] using d) (by simp) (by simp)
  | own sz=>exact e (by simpa [eU] using d) (by simp) (by simp)
  | rows sz col rsz=>exact e (by simpa [eU] using d) (by simp) (by simp)
  | mp ag ks vk=>exact e (by simpa [eU] using d) (by simp) (by simp)
  | new l=>
   simp only [eU] at d;split at d
   .rename_i i;split at d
    .rename_i cs g;obtain⟨b0,arr,ty,e1,e2,e3,e4,e5⟩:=hs.ae i _ g;simp only [ah] at I;obtain⟨b,z,rfl⟩:=I;rw [e1] at z;simp only [Lo,MU,Mo] at z;obtain⟨rfl,_⟩:=z;obtain⟨xs,a,b,o1,d,D,F⟩:=sq C hs e4 d;obtain⟨X,L,M,o2,d,E,G⟩:=sr C hs V d;refine⟨_,_,_,_,d,(eH.one (hs.real (i:=i) (by rw [g];simp))).append (D.append E),λA o p=> ?_⟩;exact⟨xs,X,b0,arr,ty,q,o1,o2,rfl,by simp,by simp [e2],e3,F A o (λi ae g j ho=>p i ae (LH _ g) j ho),G A o (λi ae g j ho=>p i ae (LF _ g) j ho)⟩
    .simp at d
   .simp at d
  | ref k off=>exact e (by simpa [eU] using d) (by simp) (by simp)
  | same k=>exact e (by simpa [eU] using d) (by simp) (by simp)
  | no=>exact e (by simpa [eU] using d) (by simp) (by simp)
  | agg l=>
   cases v with
   | agg cs=>simp only [eU] at d;simp only [ah] at I;obtain⟨ws,rfl,z,k2⟩:=I;obtain⟨xs,a,b,o1,d,D,F⟩:=sq C hs z d;obtain⟨X,L,M,o2,d,E,G⟩:=sr C hs V d;refine⟨_,_,_,_,d,D.append E,λA o p=> ?_⟩;exact⟨xs,X,ws,q,o1,o2,rfl,rfl,rfl,F A o (λi ae g j ho=>p i ae (LH _ g) j ho),G A o (λi ae g j ho=>p i ae (LF _ g) j ho)⟩
   | _=>simp [eU] at d
def tu(tmps:Array Value):ResultVar->Sem Value
 | .tmp t=>pure (tmps.getD t undef)
 | .cell b t=>do loadVar t (<-asAddr (tmps.getD b undef))
theorem Jc(fn:Func)(tmps:Array Value):results fn tmps= (do
  let vs <-fn.results.mapM (tu tmps)
  pure (if h:vs.size=1 then vs[0] else .tuple vs)):=rfl
theorem wX{R:Type}{a:Act}(hs:HS c w s.h ρ O)(g:SS w (AA c w O) ρ s.t a.tmps):∀{l:List ResultVar} {K:List AV->Option R} {r:R},pc P s l K=some r->
  ∃vs us,K vs=some r/\az w (AA c w O) ρ vs us/\(l.mapM (tu a.tmps)).run P w= .ok us w
 | [],K,r,h=>⟨[],[],h,by simp [az],by simp⟩
 | .tmp k::l,K,r,h=>by
  simp only [pc] at h;have d:=g k;split at h
  .rename_i v e;rw [e] at d;obtain⟨vs,us,i,j,m⟩:=wX hs g h;refine⟨v::vs,_::us,i,by simp only [az];exact⟨_,us,rfl,d,j⟩, ?_⟩;rw [OC];simp only [tu,LP,L8,LA,m]
  .simp at h
 | .cell k t::l,K,r,h=>by
  simp only [pc] at h;have d:=g k;split at h
  .rename_i v e;rw [e] at d;obtain⟨o,y,h0,f,q⟩:=Bp hs d (.inl rfl) h;obtain⟨vs,us,i,j,m⟩:=wX hs g h0;refine⟨o::vs,y::us,i,by simp only [az];exact⟨y,us,rfl,q,j⟩, ?_⟩;rw [OC];have:(do loadVar t (<-asAddr (a.tmps.getD k undef)):Sem Value).run P w= .ok y w:=by
    rw [<-f];generalize a.tmps.getD k undef=u at *
    unfold Instr.loadAt at *
    cases u with
    | pointer p=>
     cases p with
     | none=>simp [Instr.sureAddr,runtimePanic] at f
     | some b=>simp [Instr.sureAddr,asAddr]
    | _=>simp [Instr.sureAddr,runtimePanic] at f
   simp only [tu,LP,L8,LA] at this⊢;rw [this];simp only [LA,m]
  .simp at h
theorem p7{R:Type}{m:Nat}{B:Nat->Option Value}(k:gu m B ρ)(hs:HS c w h ρ O):∀{os:List im} {j:Nat} {K:List T->List Id->List Id->Option R} {res:R},j+os.length<=m->js m h j os K=some res->
  ∃xs a b own,K xs a b=some res/\eH O a own/\nT w c O b λA=>lK B w A j os xs own
 | [],j,K,res,_,d=>by simp only [js] at d;exact⟨_,_,_,[],d, .nil,λA _ _=>⟨rfl,rfl⟩⟩
 | .box l::os,j,K,res,hm,d=>by
  simp only [LD] at hm;simp only [js] at d;split at d
  .rename_i cs g;obtain⟨F,arr,t,x,y,I,J,N⟩:=hs.ae _ _ g;obtain⟨xs,a,b,o1,d,U,V⟩:=sq k hs J d;obtain⟨r,D,E,o2,d,p,q⟩:=p7 k hs (by omega) d;refine⟨_,_,_,_,d,(eH.one (i:= .c j) rfl).append (U.append p),λA f o=> ?_⟩;obtain⟨v,u,e⟩:=k j (by omega);rw [x] at e;simp only [Lo] at e;subst e;exact⟨xs,r,F,arr,t,o1,o2,rfl,by simp [y],u,I,V A f (λi ae g M ho=>o i ae (LH _ g) M ho),q A f (λi ae g M ho=>o i ae (LF _ g) M ho)⟩
  .simp at d
 | .sl sz::os,j,K,res,hm,d=>by
  simp only [LD] at hm;simp only [js] at d;split at d
  .rename_i sz' bb l g;split at d
   .rename_i Q;subst Q;obtain⟨v,x,y,_⟩:=hs.ae _ _ g;obtain⟨r,D,E,o2,d,p,q⟩:=p7 k hs (by omega) d;refine⟨_,_,_,_,d,(eH.one (i:= .c j) rfl).append p,λA f o=> ?_⟩;obtain⟨X,u,e⟩:=k j (by omega);rw [x] at e;simp only [Lo] at e;subst e;exact⟨bb,l,r,O (.c j),_,o2,rfl,rfl,u,y.mono (λb L=>⟨f b L,rfl⟩) (λb L=>⟨by simpa using L,rfl⟩),q A f o⟩
   .simp at d
  .simp at d
 | .mp ag ks vk::os,j,K,res,hm,d=>by
  simp only [LD] at hm;simp only [js] at d;split at d
  .rename_i Y Z vk' es g;split at d
   .rename_i C;obtain⟨rfl,rfl,rfl⟩:=C;obtain⟨F,G,z,x,y,I,J,N⟩:=hs.ae _ _ g;obtain⟨r,D,E,o2,d,p,q⟩:=p7 k hs (by omega) d;refine⟨_,_,_,_,d,(eH.one (i:= .c j) rfl).append p,λA f o=> ?_⟩;obtain⟨X,u,e⟩:=k j (by omega);rw [x] at e;simp only [Lo] at e;subst e;exact⟨es,F,G,z,r,o2,rfl,by simp [y],u,I,J,N,q A f o⟩
   .simp at d
  .simp at d
 | .dead::os,j,K,res,hm,d=>by simp only [LD] at hm;simp only [js] at d;obtain⟨r,D,E,o2,d,p,q⟩:=p7 k hs (by omega) d;exact⟨_,_,_,o2,d,p,λA f o=>q A f o⟩
theorem Am{f:FuncId}{fn:Func}{nt:Nat}{m:Nat×Nat}{B:Nat->Option Value}{xs:List T}{a:Act}(K:gu m.1 B ρ)(d:dQ c nt w s ρ O a)(h:sC P An f fn m s=some xs):
  ∃v,(results fn a.tmps).run P w= .ok v w/\Fin P c B (cN P An f m.2 fn) (fA An f m.2) xs (eI O) w v w:=by
 unfold sC at h;obtain⟨vs,us,h,z,F⟩:=wX d.hs d.ss h;split at h
 .rename_i hm;obtain⟨Z,N,Y,o1,h,U,G⟩:=sr K d.hs z h;obtain⟨zs,E,Q,o2,h,V,C⟩:=p7 K d.hs (by omega) h;split at h
  .rename_i r;simp only [Lo] at h;subst h;simp only [Lu,LK,Mr] at r;have M:=Bw r.1;have D:=U.append V;have g:∀b,b∈o1++o2->∃i,Of (N++E) i/\O i=some b:=λb l=>D.mem l;have J:∀k,AA c w O k->(c.A0 k\/c.MO k)/\k < w.heap.size/\k∉o1++o2:=by
    intro b l;refine⟨l.1,l.2.1,λhm=> ?_⟩;obtain⟨i,o,e⟩:=g b hm;exact l.2.2 i e
   have L:∀i ae,i∈Y++Q->i.real=true->O i=some ae->(c.A0 ae\/c.MO ae)/\ae < w.heap.size/\ae∉o1++o2:=by
    intro i ae o p ho;refine⟨.inr (d.hs.own i ae ho),d.hs.lt i ae ho,λhm=> ?_⟩;obtain⟨j,I,e⟩:=g ae hm;have:=d.hs.inj i j ae ho e;subst this;have z:=r.2 i o;rcases I with I | ⟨y,n,_,X⟩
    .have F:(N++E).contains i=true:=by simpa using I
     rw [F] at z;cases z
    .rw [X] at p;cases p
   have q:(o1++o2).Nodup:=by obtain⟨_,ids,e,n,_⟩:=D;rw [e];exact yf d.hs (n M)
   refine⟨mj us, ?_,rfl,rfl,rfl,LM _,λ_ _ _=>rfl,us,Z,zs,o1,o2,rfl,rfl,q,λb l=> ?_, ?_, ?_⟩
   .rw [Jc,Array.mapM_eq_mapM_toList];simp only [LP,map_eq_pure_bind,L8];rw [F];simp only [LA];congr 1;unfold mj;split
    .rename_i x;have hl:us.length=1:=by simpa using x
     obtain⟨u,rfl⟩:=Nn.1 hl;rfl
    .rename_i x;split
     .rename_i u;simp at x
     .rfl
   .obtain⟨i,o,e⟩:=g b l;exact⟨d.hs.own i b e,d.hs.lt i b e⟩
   .exact G _ J λi ae o p ho=>L i ae (LH _ o) p ho
   .exact C _ J λi ae o p ho=>L i ae (LF _ o) p ho
  .simp at h
 .simp at h
end
open Go Go.IntKind
section
variable {P:Program} {An:cq} {Or:ay} {w w':World} {A A':Nat->Prop} {c:Ctx} {ρ:Id->Option Value} {O:Id->Option Nat} {s s':St} {h:Id->Option ab}
theorem wD{v:AV}{u:Value}(hs:HS c w h ρ O)(a:ah w (AA c w O) ρ v u):ah w (AA c w O) ρ (kU h v) u:=by
 cases v
 case own i=>
  simp only [kU];split
  .rename_i sz b xs d;have m:O i=none:=by
    obtain⟨_,_,_,f⟩:=hs.ae i _ d;exact f rfl
   have:=ku (x:= .ad sz b xs) (A':=AA c w O) hs a (by simp [cY,d]) (λ_ h=>h) (λj ae k ho=>by
    rcases k with e | ⟨_,_,_,e⟩ | ⟨_,e⟩
    .cases e;rw [m] at ho;cases ho
    .cases e
    .cases e)
   simpa [ah] using this
  .exact a
 case part i sz off n=>
  simp only [kU];split
  .rename_i r b xs d;split
   .rename_i o;have m:O i=none:=by
     obtain⟨_,_,_,f⟩:=hs.ae i _ d;exact f rfl
    have:=ku (x:= .ad sz b ((xs.drop off).take n)) (A':=AA c w O) hs a (by simp [cY,d,o]) (λ_ h=>h) (λj ae k ho=>by
     rcases k with e | ⟨_,_,_,e⟩ | ⟨_,e⟩
     .cases e
     .cases e;rw [m] at ho;cases ho
     .cases e)
    simpa [ah] using this
   .exact a
  .exact a
 case ref i off=>
  simp only [kU];split
  .rename_i l d;obtain⟨b,p,z,f,q⟩:=hs.ae i _ d;simp only [ah] at a;obtain⟨y,g,rfl⟩:=a;rw [p] at g;simp only [Lo,MU,Mo] at g;obtain⟨rfl,_⟩:=g;simp only [ah,ax];refine⟨b,off,rfl, .inr f, ?_⟩;have:=q.drop off;rwa [L5] at this
  .exact a
 all_goals exact a
theorem Hh{k:Nat×Option Nat}{p:AV×aC}{tmps:Array Value}{g:Id->Option Value}(hs:HS c w s.h ρ O)(m:SS w (AA c w O) ρ s.t tmps)(e:qw s k=some p)(f:∀i v,ρ i=some v->g i=some v)
  (l:∀q∈p.2,g q.1=some (tmps.getD k.1 undef)):ah w (AA c w O) g p.1 (tmps.getD k.1 undef):=by
 unfold qw at e;have d:=m k.1;split at e
 .simp at e
 .rename_i v j;rw [j] at d;simp only at d;split at e
  .simp only [Lo] at e;subst e;exact ah.mono (λb a=>⟨a,rfl⟩) f _ _ (wD hs d)
  .split at e
   .simp only [Lo] at e;subst e;exact ah.mono (λb a=>⟨a,rfl⟩) f _ _ (wD hs d)
   split at e
   .split at e
    .simp only [Lo] at e;subst e;exact ah.mono (λb a=>⟨a,rfl⟩) f _ _ d
    .simp at e
   .simp only [Lo] at e;subst e;simp only [ah];exact l _ (Lz.2 rfl)
   .simp at e
theorem Bm{tmps:Array Value}{f:Id->Option Value}(hs:HS c w s.h ρ O)(o:SS w (AA c w O) ρ s.t tmps)(j:∀i v,ρ i=some v->f i=some v):∀{l:List (Nat×Option Nat)} {p:List AV×aC},l7 s l=some p->
  (∀q∈p.2,∀k,q.1= .s (1000000+k) 0->f q.1=some (tmps.getD k undef))->az w (AA c w O) f p.1 (l.map λk=>tmps.getD k.1 undef)/\
   ∀q∈p.2,∃k sz b,q= (.s (1000000+k) 0, .sl false sz b [])/\ax w (AA c w O) (.af b) (tmps.getD k undef)
 | [],p,e,_=>by simp only [l7,Lo] at e;subst e;exact⟨by simp [az],(by intro q a;cases a)⟩
 | k::l,p,e,r=>by
  simp only [l7] at e;replace e:=Lp.1 e;obtain⟨x,d,e⟩:=e;replace e:=Lp.1 e;obtain⟨y,D,e⟩:=e;simp only [Lo] at e;subst e;have g:∀q∈x.2,∃sz b,q= (.s (1000000+k.1) 0, .sl false sz b [])/\ax w (AA c w O) (.af b) (tmps.getD k.1 undef):=by
   intro q a;have m:=o k.1;unfold qw at d;split at d
   .simp at d
   .rename_i v u;rw [u] at m;simp only at m;split at d
    .simp only [Lo] at d;subst d;cases a
    .split at d
     .simp only [Lo] at d;subst d;cases a
     split at d
     .split at d
      .simp only [Lo] at d;subst d;cases a
      .simp at d
     .simp only [Lo] at d;subst d;simp only [Lz] at a;subst a;exact⟨_,_,rfl,by simpa [ah] using m⟩
     .simp at d
  obtain⟨z,B⟩:=Bm hs o j D (λq a=>r q (LF _ a));refine⟨?_,λq a=> ?_⟩
  .simp only [L6,az];refine⟨_,_,rfl,Hh hs o d j (λq a=> ?_),z⟩;obtain⟨sz,b,e,_⟩:=g q a;exact r q (LH _ a) k.1 (by rw [e])
  .rcases LI.1 a with a | a
   .obtain⟨sz,b,e,C⟩:=g q a;exact⟨k.1,sz,b,e,C⟩
   .exact B q a
theorem DD:∀{us:aC} {h:Id->Option ab} {i:Id} {b:ab},aI h us i=some b->(i,b)∈us\/((∀q∈us,q.1≠i)/\h i=some b)
 | [],h,i,b,e=> .inr ⟨by simp,e⟩
 | (j,x)::us,h,i,b,e=>by
  rw [cB] at e;rcases DD e with e | ⟨g,a⟩
  .exact .inl (Lr _ e)
  .by_cases d:i=j
   .subst d;rw [aB] at a;simp only [Lo] at a;subst a;exact .inl Lq
   .rw [ao _ _ d] at a;refine .inr ⟨λq f=> ?_,a⟩;rcases LC.1 f with rfl | f
    .exact λe=>d e.symm
    .exact g q f
theorem HS.DQ{us:aC}{a:Id->Option Value}(x:∀q∈us,q.1.real=true)(hs:HS c w h ρ O)(C:∀q∈us,h q.1=none)(y:∀q∈us,∃sz b u,q.2= .sl false sz b []/\a q.1=some u/\ax w A (.af b) u)
  (f:∀i,(∀q∈us,q.1≠i)->a i=ρ i):HS c w (aI h us) a O:=by
 have mono:∀i v,ρ i=some v->a i=some v:=by
  intro i v d;rw [f i (λq j e=> ?_)]
  .exact d
  .have:=(hs.cf _ (x q j) (C q j)).1;rw [e,d] at this;cases this
 have k:∀i n,∀q∈us,q.1≠ .g i n:=λi n q j e=>by have:=x q j;rw [e] at this;cases this
 have le:Le w ρ O w a O:=⟨rfl,rfl,rfl,LM _,mono,λ_ _ _=>rfl,λi b h=> .inl ⟨i,h⟩⟩;refine hs.go le (λi n=>⟨f _ (k i n),rfl,λ_ _=>rfl⟩) (λi b l=> ?_) (λi r d=> ?_) (λi d=>(tU d).2) (λi n=>by rw [cV (k i n)];exact hs.dq i n) hs.inj hs.lt
 .rcases DD l with hm | ⟨_,l⟩
  .right;obtain⟨sz,D,u,m,o,p⟩:=y _ hm;simp only at m o;subst m;refine⟨u,o, ?_,by simp⟩;simp only [ax] at p;rcases p with⟨rfl,rfl⟩ | ⟨rfl,ae,off,sp,rfl⟩
   .exact⟨none,0,rfl,by simp,by simp,by simp, .inl rfl⟩
   .exact⟨some ⟨ae,off,sp⟩,0,rfl,by simp,by simp,trivial, .inl rfl⟩
  .exact .inl ⟨l,rfl,λ_ _=>rfl⟩
 .obtain⟨z,B⟩:=tU d;rw [f i z];exact hs.cf i r B
theorem Br{b:Id->Option Value}{tmps:Array Value}:∀{live:List (Nat×Option Nat)} {be:List AV},az w A b be (live.map λk=>tmps.getD k.1 undef)->∀k,ah w A b (kJ.look live be k) (tmps.getD k undef)
 | [],be,a,k=>by cases be <;> simp [kJ.look,ah]
 | (j,o)::live,be,a,k=>by
  cases be with
  | nil=>simp [az] at a
  | cons v be=>
   simp only [L6,az,My] at a;obtain⟨u,r,⟨rfl,rfl⟩,d,f⟩:=a;simp only [kJ.look];split
   .rename_i e;subst e;exact d
   .exact Br f k
def qz:List Item->List Item
 | .inLoop b::k=> .code b:: .inLoop b::k
 | t=>t
def mM(P:Program)(An:cq)(Or:ay):Prop:= ∀f fn todo live m be b xs,Or (.node f todo live m) be b=some xs->P.funcs[f]? =some fn->
 ∀c w ρ O a B,gu m.1 B ρ->dQ c fn.ntmps w (kJ live be b) ρ O a->Ends P f fn (qz todo) a w (Fin P c B (cN P An f m.2 fn) (fA An f m.2) xs (eI O) w)
theorem dQ.xn{nt:Nat}{a:Act}{h':Id->Option ab}{ρ':Id->Option Value}{O':Id->Option Nat}(d:dQ c nt w s ρ O a)(le:Le w ρ O w ρ' O')(hs:HS c w h' ρ' O'):dQ c nt w {t:=s.t,h:=h'} ρ' O' a:=
 ⟨hs,SS.mono (λb e=>le.A b e) le.dJ d.ss,d.nt,d.defers⟩
theorem gu.le{m:Nat}{B:Nat->Option Value}{ρ':Id->Option Value}(h:gu m B ρ)(le:∀i v,ρ i=some v->ρ' i=some v):gu m B ρ':=λj d=>by obtain⟨v,a,b⟩:=h j d;exact⟨v,a,le _ _ b⟩
theorem vZ{s:St}:∀{live:List (Nat×Option Nat)} {p:List AV×aC},l7 s live=some p->∀q∈p.2,∃k,q.1=Id.s (1000000+k) 0
 | [],p,b,q,d=>by simp only [l7,Lo] at b;subst b;cases d
 | k::live,p,b,q,d=>by
  simp only [l7] at b;obtain⟨f,a,b⟩:=Lp.1 b;obtain⟨g,e,b⟩:=Lp.1 b;simp only [Lo] at b;subst b;rcases LI.1 d with d | d
  .unfold qw at a;split at a
   .cases a
   .split at a
    .simp only [Lo] at a;subst a;cases d
    .split at a
     .simp only [Lo] at a;subst a;cases d
     .split at a
      .split at a
       .simp only [Lo] at a;subst a;cases d
       .cases a
      .simp only [Lo] at a;subst a;rw [Lz.1 d];exact⟨_,rfl⟩
      .cases a
  .exact vZ e q d
theorem KZ{f:FuncId}{fn:Func}{todo:List Item}{live:List (Nat×Option Nat)}{m:Nat×Nat}{B:Nat->Option Value}{xs:List T}{a:Act}(hN:mM P An Or)(Q:P.funcs[f]? =some fn)(hB:gu m.1 B ρ)(o:dQ c fn.ntmps w s ρ O a)(e:tP Or f todo live m s=some xs):
  Ends P f fn (qz todo) a w (Fin P c B (cN P An f m.2 fn) (fA An f m.2) xs (eI O) w):=by
 unfold tP at e;replace e:=Lp.1 e;obtain⟨p,K,e⟩:=e;split at e
 .rename_i y;replace e:=Lp.1 e;obtain⟨seen,u,e⟩:=e;let l:Id->Option Value:=λi=>if p.2.any (λq=>decide (q.1=i)) then(match i with | .s d _=>some (a.tmps.getD (d - 1000000) undef) | _=>none) else ρ i;have N:∀q∈p.2,s.h q.1=none:=by
   intro q g;have:=LK.1 y q g;simpa using this
  have z:∀i,(∀q∈p.2,q.1≠i)->l i=ρ i:=by
   intro i r;have:p.2.any (λq=>decide (q.1=i))=false:=by rw [Mh];intro q g;simpa using r q g
   simp only [l,this,LY,if_false]
  have F:∀q∈p.2,∀k,q.1= .s (1000000+k) 0->l q.1=some (a.tmps.getD k undef):=by intro q g k e;have:p.2.any (λx=>decide (x.1=q.1))=true:=Nh.2 ⟨q,g,by simp⟩;simp only [l,this,if_true];rw [e];simp
  have mono:∀i v,ρ i=some v->l i=some v:=by
   intro i v r;rw [z i (λq g e=> ?_)]
   .exact r
   .cases E:q.1.real with
    | true=>have:=(o.hs.cf _ E (N q g)).1;rw [e,r] at this;cases this
    | false=>have hm:p.2.any (λx=>decide (x.1=q.1))=true:=Nh.2 ⟨q,g,by simp⟩;obtain⟨k,ek⟩:=vZ K q g;rw [ek] at E;cases E
  obtain⟨hv,X⟩:=Bm o.hs o.ss mono K F;have U:HS c w (aI s.h p.2) l O:=o.hs.DQ (λq g=>by obtain⟨k,ek⟩:=vZ K q g;rw [ek];rfl) N (A:=AA c w O) (λq g=>by
   obtain⟨k,sz,b,e,E⟩:=X q g;exact⟨sz,b,_,by rw [e],F q g k (by rw [e]),E⟩) z
  obtain⟨g1,g2,g3,g4,g5⟩:=qO u N2 (by simp) (by simp);obtain⟨V,C⟩:=U.rn g1 g4 g5;have hA:∀b,AA c w O b->AA c w (cb seen O) b:=λb G=>⟨G.1,G.2.1,λi r=>by
   obtain⟨k,hk⟩:=C b ⟨i,r⟩;exact G.2.2 k hk⟩
  have Y:=az.rn (m:=seen) hA _ _ (λi r=>g3 i (LF _ r)) hv;have L:dQ c fn.ntmps w (kJ live (iH seen p.1) (seen.map λi=>fC seen (aI s.h p.2 i))) (cb seen l) (cb seen O) a:=
   ⟨V,λk=>Br Y k,o.nt,o.defers⟩
  have D:=Cn u (by
   exact List.pairwise_map.2 (List.nodup_range.imp λh e=>h (by simpa using e))) (by simp)
  rw [MP] at D;have M:gu m.1 B (cb seen l):=by
   intro j J;obtain⟨v,Z,e2⟩:=hB.le mono j J;refine⟨v,Z, ?_⟩;obtain⟨t,ht⟩:=D;have:seen[j]? =some (.c j):=by rw [<-ht,LL (by simpa using J)];simp [J]
   simp [cb,this,e2]
  exact(hN f fn todo live m _ _ xs e Q c w _ _ a B M L).mono λv w' I=>I.own C
 .simp at e
theorem sI:∀{l:List (Nat×Option Nat)},eZ s.h (kK s l)
 | []=>by intro p a;cases a
 | (k,none)::l=>by simp only [kK];exact sI
 | (k,some 0)::l=>by simp only [kK];exact(qe _).append sI
 | (k,some (n+1))::l=>by
  simp only [kK];refine eZ.append ?_ sI;cases Nat.beq n 999998 with
  | false=>intro p a;cases a
  | true=>
   show eZ s.h (vA s.h (s.t k).2);unfold vA;split
   .split
    .exact vw _
    .intro p a;cases a
   .intro p a;cases a
theorem BQ{h:Id->Option ab}(hs:HS c w h ρ O)(v:AV):HS c w (s7 h v) ρ O:=by
 unfold s7;split
 .rename_i i off;split
  .rename_i cs f;obtain⟨b,arr,t,q,y,z,B,C⟩:=hs.ae i _ f;have j:=hs.real (i:=i) (by rw [f];simp);have D:az w (AA c w O) ρ (cs.map (kU h)) arr.toList:=by
    have d:∀(l:List AV) (us:List Value),az w (AA c w O) ρ l us->az w (AA c w O) ρ (l.map (kU h)) us:=by
     intro l;induction l with
     | nil=>intro us h;exact h
     | cons x l E=>intro us h;simp only [L6,az] at h⊢;obtain⟨u,r,e,o,p⟩:=h;exact⟨u,r,e,wD hs o,E r p⟩
    exact d _ _ B
   rw [dc];refine hs.go Le.refl (λk m=>⟨rfl,rfl,λ_ _=>rfl⟩) (λk x a=> ?_) (λk g a=> ?_) (λk a=> ?_) (λk m=>by rw [ao _ _ (aN j)];exact hs.dq k m) hs.inj hs.lt
   .by_cases e:k=i
    .subst e;rw [aB] at a;simp only [Lo] at a;subst a;exact .inr ⟨b,arr,t,q,y,z,D,C⟩
    .rw [ao _ _ e] at a;exact .inl ⟨a,rfl,λ_ _=>rfl⟩
   .by_cases e:k=i
    .subst e;rw [aB] at a;cases a
    .rw [ao _ _ e] at a;exact hs.cf k g a
   .by_cases e:k=i
    .subst e;rw [aB] at a;cases a
    .rw [ao _ _ e] at a;exact a
  .exact hs
 .exact hs
theorem Aw(live:List (Nat×Option Nat))(be:List AV)(a:List ab):lE (kJ live be a):=by intro k g v e;simp [kJ] at e
theorem aX.qG{ae:Nat}:∀{cs:List T} {off:Nat},(∀(j:Nat) (x:T),cs[j]? =some x->∃v,w.cell? ⟨ae,off+j,none⟩=some v/\ax w A x v)->aX w A ae off cs
 | [],_,_=>by simp [aX]
 | x::cs,off,h=>by simp only [aX];refine⟨by simpa using h 0 x rfl,aX.qG λj y a=> ?_⟩;have:=h (j+1) y (by simpa using a);rw [show off+1+j=off+ (j+1) by omega];exact this
theorem CM{i:Id}{ae sz col rsz:Nat}:∀{es:List Row} {base:Nat},aV es=true->ca w A ρ O i ae sz col rsz base es->(∀e∈es,∀d,O (.g i e.n)=some d->A d)->aZ w A ae sz base (es.map (pf col rsz))
 | [],_,_,_,_=>by simp [aZ]
 | e::es,base,b,C,l=>by
  simp only [aV,MN,Lu] at b;obtain⟨m,o⟩:=C;simp only [L6,aZ];obtain⟨q,G,r,u,a4,I,v⟩:=m;have key:∃x,pf col rsz e=e.cs.set col x/\ax w A x u:=by
   obtain⟨en,F,eo⟩:=e;cases eo with
   | none=>simp at b
   | some p=>refine⟨_,rfl, ?_⟩;exact cx.Dz v λd B=>l _ Lq d B
  obtain⟨x,E,D⟩:=key;rw [E];refine⟨by rw [Nr];exact q,aX.qG λj y a=> ?_,CM b.2 o λf z=>l f (Lr _ z)⟩;rw [MJ] at a;split at a
  .rename_i k;subst k;split at a
   .cases a;exact⟨u,a4,D⟩
   .cases a
  .rename_i k;exact r j y (λe=>k e.symm) a
theorem HS.C2{i:Id}{b:Bool}{sz col rsz N:Nat}{es:List Row}(hs:HS c w h ρ O)(E:h i=some (.rows b sz col rsz N es))(D:aV es=true):
  ∃O',Le w ρ O w ρ O'/\HS c w (aG h i (some (.sl true sz b (es.map (pf col rsz))))) ρ O':=by
 classical
 have q:=hs.real (i:=i) (by rw [E];simp);let Q:Id->Option Nat:=λx=>if Of [i] x then none else O x;have G:Q i=none:=if_pos (.inl Lq);have Q2:∀n,Q (.g i n)=none:=λn=>if_pos (.inr ⟨i,n,Lq,rfl⟩);have o:∀x d,Q x=some d->O x=some d/\¬Of [i] x:=by
  intro x d k;simp only [Q] at k;split at k
  .cases k
  .rename_i K;exact⟨k,K⟩
 have B:∀x,x.real=true->x≠i->Q x=O x:=by
  intro x r k;refine if_neg ?_;rintro(hm | ⟨j,n,_,rfl⟩)
  .exact k (Lz.1 hm)
  .cases r
 have C:∀x n,x≠i->Q (.g x n)=O (.g x n):=by
  intro x n k;refine if_neg ?_;rintro(hm | ⟨j,m,J,e⟩)
  .rw [<-Lz.1 hm] at q;cases q
  .simp only [Id.g.injEq] at e;exact k (e.1.trans (Lz.1 J))
 have le:Le w ρ O w ρ Q:=⟨rfl,rfl,rfl,LM _,λ_ _ h=>h,λ_ _ _=>rfl,λx d k=> .inl ⟨x,(o x d k).1⟩⟩;have u:∀x d,Of [i] x->O x=some d->AA c w Q d:=by intro x d k p;refine⟨.inr (hs.own x d p),hs.lt x d p,λy v=> ?_⟩;obtain⟨L,M⟩:=o y d v;exact M (hs.inj x y d p L▸k)
 refine⟨Q,le,hs.lW le (λx y k=> ?_) (λx r k=> ?_) (λx n=>by rw [ao _ _ (aN q)];exact hs.dq x n) (λx n k=> ?_) hs.gone (λx y d k v=>hs.inj x y d (o x d k).1 (o y d v).1) (λx d k=>hs.lt x d (o x d k).1)⟩
 .by_cases e:x=i
  .subst e;rw [aB] at k;cases k;right;obtain⟨a,cap,r1,r2,r3,r4,z⟩:=hs.ae x _ E;refine⟨_,r1,⟨a,cap,by rw [Mq],by rw [Mq];exact r2,r3,trivial, ?_⟩,λ_=>G⟩;rcases z with z | ⟨ae,off,arr,t,U,V,X,Y,Z⟩
   .exact .inl z
   .refine .inr ⟨ae,off,arr,t,U,by simp only [if_true];exact u x ae (.inl Lq) V,X,Y, ?_⟩;refine CM (ρ:=ρ) (O:=O) (i:=x) D (ca.move (λb I=>le.A b I) (λ_ _=>rfl) (λf _=>⟨rfl,rfl,λ_ _=>rfl⟩) Z) λf hf d p=>u _ d (.inr ⟨x,f.n,Lq,rfl⟩) p
  .rw [ao _ _ e] at k;have F:=hs.real (i:=x) (by rw [k];simp);exact .inl ⟨k,B x F e,λ_ _=>rfl,λn=>⟨rfl,C x n e,λ_ _=>rfl⟩⟩
 .have l:x≠i:=λe=>by rw [e,aB] at k;cases k
  rw [ao _ _ l] at k;rw [B x r l];exact hs.cf x r k
 .have l:x≠i:=λe=>by rw [e,aB] at k;cases k
  rw [ao _ _ l] at k;rw [C x n l];exact hs.eE x n k
theorem xk{R:Type}:∀{l:List Id} {h:Id->Option ab} {O:Id->Option Nat} {K:aC->Option R} {r:R},HS c w h ρ O->qY h l K=some r->∃us O',K us=some r/\Le w ρ O w ρ O'/\HS c w (aI h us) ρ O'
 | [],h,O,K,r,hs,e=>⟨[],O,e,Le.refl,hs⟩
 | i::l,h,O,K,r,hs,e=>by
  simp only [qY] at e;split at e
  .rename_i b sz col rsz o es k;replace e:=aL e (.inl rfl);obtain⟨_,a,e⟩:=e;have a:aV es=true:=by
    split at a
    .assumption
    .cases a
   obtain⟨m,cn,d⟩:=hs.C2 k a;obtain⟨us,j,e,g,f⟩:=xk d e;exact⟨_,j,e,cn.trans g,by rw [cB];exact f⟩
  .exact xk hs e
theorem KC{h:Id->Option ab}{O:Id->Option Nat}(hs:HS c w h ρ O)(v:AV):∃O',Le w ρ O w ρ O'/\HS c w (xl h v) ρ O':=by
 unfold xl;split
 .split
  .rename_i b sz col rsz g es f;cases e:aV es with
   | true=>obtain⟨d,cn,a⟩:=hs.C2 f e;exact⟨d,cn,by rw [cond_true,dc];exact a⟩
   | false=>exact⟨O,Le.refl,hs⟩
  .exact⟨O,Le.refl,hs⟩
 .exact⟨O,Le.refl,hs⟩
theorem C3:∀(l:List AV) {h:Id->Option ab} {O:Id->Option Nat},HS c w h ρ O->∃O',Le w ρ O w ρ O'/\HS c w (xm h l) ρ O'
 | [],h,O,hs=>⟨O,Le.refl,hs⟩
 | v::r,h,O,hs=>by obtain⟨f,cn,a⟩:=KC hs v;obtain⟨e,d,b⟩:=C3 r a;exact⟨e,cn.trans d,b⟩
theorem KB{h:Id->Option ab}{O:Id->Option Nat}(hs:HS c w h ρ O)(v:AV):∃O',Le w ρ O w ρ O'/\HS c w (xh h v) ρ O':=by
 unfold xh;split
 .split
  .exact C3 _ hs
  .exact⟨O,Le.refl,hs⟩
 .exact⟨O,Le.refl,hs⟩
theorem qD{t:Nat->Option Gs×AV}:∀{l:List (Nat×Option Nat)} {h:Id->Option ab} {O:Id->Option Nat},HS c w h ρ O->∃O',Le w ρ O w ρ O'/\HS c w (oZ t h l) ρ O'
 | [],h,O,hs=>⟨O,Le.refl,hs⟩
 | (k,some n)::l,h,O,hs=>by
  simp only [oZ];cases Nat.beq n 999999 with
  | true=>exact qD (BQ hs _)
  | false=>
   cases Nat.beq n 999998 with
   | true=>obtain⟨f,cn,a⟩:=KB hs (t k).2;obtain⟨e,d,b⟩:=qD (t:=t) (l:=l) (BQ a (t k).2);exact⟨e,cn.trans d,b⟩
   | false=>exact qD hs
 | (k,none)::l,h,O,hs=>by simp only [oZ];exact qD hs
theorem xA{f:FuncId}{fn:Func}{todo:List Item}{live:List (Nat×Option Nat)}{m:Nat×Nat}{B:Nat->Option Value}{xs:List T}{a:Act}(y:mM P An Or)(o:P.funcs[f]? =some fn)(x:gu m.1 B ρ)(i:dQ c fn.ntmps w s ρ O a)(e:jK Or f todo live m s=some xs):
  Ends P f fn (qz todo) a w (Fin P c B (cN P An f m.2 fn) (fA An f m.2) xs (eI O) w):=by
 unfold jK at e;obtain⟨us,u,e⟩:=Lp.1 e;obtain⟨C,cn,p,_⟩:=i.hs.nn sI;have d:=i.xn cn p;obtain⟨z,D,b,q⟩:=wN d.hs u;obtain⟨E,g,r⟩:=qD (t:=s.t) (l:=live) q;have k:=d.xn (b.trans g) r;exact(KZ y o (x.le b.dJ) k e).mono λv w' j=>Fin.le cn (Fin.le (b.trans g) j)
theorem Ao{f:FuncId}{fn:Func}{nt:Nat}{m:Nat×Nat}{B:Nat->Option Value}{xs:List T}{a:Act}(d:gu m.1 B ρ)(b:dQ c nt w s ρ O a)(h:sB P An f fn m s=some xs):
  ∃v,(results fn a.tmps).run P w= .ok v w/\Fin P c B (cN P An f m.2 fn) (fA An f m.2) xs (eI O) w v w:=by
 unfold sB at h;cases e:(cN P An f m.2 fn).any AY with
 | true=>rw [e,cond_true] at h;exact Am d b h
 | false=>rw [e,cond_false] at h;obtain⟨us,k,h,cn,g⟩:=xk b.hs h;obtain⟨v,i,j⟩:=Am d (b.xn cn g) h;exact⟨v,i,Fin.le cn j⟩
theorem ju(hm:P.follows .mixedOrders=true)(u:gW P An Or)(r:mM P An Or){f:FuncId}{fn:Func}{m:Nat×Nat}{B:Nat->Option Value}(o:P.funcs[f]? =some fn):∀{n:Nat} {j:Bool} {todo:List Item} {xs:List T} {w:World} {s:St} {ρ:Id->Option Value} {O:Id->Option Nat} {a:Act},
  gu m.1 B ρ->dQ c fn.ntmps w s ρ O a->lE s->ev P An Or f fn m n j todo s=some xs->Ends P f fn todo a w (Fin P c B (cN P An f m.2 fn) (fA An f m.2) xs (eI O) w)
 | 0,j,todo,xs,w,s,ρ,O,a,i,d,l,e=>by simp [ev] at e
 | n+1,j,[],xs,w,s,ρ,O,a,i,d,l,e=>by simp only [ev] at e;obtain⟨v,C,D⟩:=Ao i d e;exact λb K F cs=>⟨a,w,v,[], .one step_end,d.defers,C,D⟩
 | n+1,j, .code .skip::k,xs,w,s,ρ,O,a,i,d,l,e=>by simp only [ev] at e;exact Ends.step (λb cs=>step_skip) (ju hm u r o i d l e)
 | n+1,j, .code (.seq x y)::k,xs,w,s,ρ,O,a,i,d,l,e=>by simp only [ev] at e;exact Ends.step (λb cs=>step_seq) (ju hm u r o i d l e)
 | n+1,j, .code (.region id ops z)::k,xs,w,s,ρ,O,a,i,d,l,e=>by
  simp only [ev] at e;split at e
  .rename_i live _;exact xA (todo:= .code (.region id ops z)::k) r o i d e
  .obtain⟨s',e,G⟩:=I9 hm u d l e;refine Ends.region (G _ λQ w' ρ' O' le J=>⟨rfl, ?_⟩);exact(ju hm u r o (i.le le.dJ) J (Ey _) e).mono λv N E=>E.le le
 | n+1,j, .code (.cond x p q)::k,xs,w,s,ρ,O,a,i,d,l,e=>by
  simp only [ev] at e;replace e:=Lp.1 e;obtain⟨y,M,e⟩:=e;replace e:=aL e (.inl rfl);obtain⟨t,L,e⟩:=e;have I:=SS.get (h:=s.h) d.ss (g:=none) trivial x;rw [show(⟨s.t,s.h⟩:St)=s from rfl,AV.jJ M,T.gy L] at I;simp only [ah,ax] at I;refine Ends.step (todo':= .code (if t then p else q)::k) (λb cs=>step_cond I) ?_;cases t with
  | true=>exact ju hm u r o i d l e
  | false=>exact ju hm u r o i d l e
 | n+1,j, .code (.block id b)::k,xs,w,s,ρ,O,a,i,d,l,e=>by simp only [ev] at e;exact Ends.step (λb cs=>step_block) (ju hm u r o i d l e)
 | n+1,j, .code (.loop b)::k,xs,w,s,ρ,O,a,i,d,l,e=>by
  simp only [ev] at e;split at e
  .exact Ends.step (λb cs=>step_loop) (xA (todo:= .inLoop b::k) r o i d e)
  .simp at e
 | n+1,j, .code (.exit id)::k,xs,w,s,ρ,O,a,i,d,l,e=>by
  simp only [ev] at e;split at e
  .rename_i U F;exact Ends.step (λb cs=>step_exit F) (ju hm u r o i d l e)
  .simp at e
 | n+1,j, .code .ret::k,xs,w,s,ρ,O,a,i,d,l,e=>by simp only [ev] at e;obtain⟨v,C,D⟩:=Ao i d e;exact λb K F cs=>⟨a,w,v,_, .one step_ret,d.defers,C,D⟩
 | n+1,j, .inBlock id::k,xs,w,s,ρ,O,a,i,d,l,e=>by simp only [ev] at e;exact Ends.step (λb cs=>step_inBlock) (ju hm u r o i d l e)
 | n+1,j, .inLoop b::k,xs,w,s,ρ,O,a,i,d,l,e=>by
  simp only [ev] at e;split at e
  .exact Ends.step (λb cs=>step_inLoop) (xA (todo:= .inLoop b::k) r o i d e)
  .simp at e
 | n+1,j, .code (.label _)::k,xs,w,s,ρ,O,a,i,d,l,e=>by simp [ev] at e
 | n+1,j, .code (.goto _)::k,xs,w,s,ρ,O,a,i,d,l,e=>by simp [ev] at e
theorem Hr{a:Id->Option Value}{be:List AV}{args:List Value}(i:az w A a be args)(m k:Nat):ah w A a (be.getD k .top) ((args.toArray++Array.replicate m undef).getD k undef):=by
 have e:(args.toArray++Array.replicate m undef).getD k undef= (args++List.replicate m undef).getD k undef:=by rw [MQ,Lw,<-Ml];simp
 rw [e,Lw,Lw];cases f:be[k]? with
 | none=>simp [ah]
 | some v=>obtain⟨u,d,g⟩:=i.get f;have b:k < args.length:=(Ls.1 d).1;rw [LL b,d];exact g
theorem KO(G:kz P An)(hm:P.follows .mixedOrders=true)(K:∀(f:FuncId) (fn:Func),P.funcs[f]? =some fn->fn.name≠ "runtime.NumGoroutine")(F:gW P An Or)(E:mM P An Or):gW P An (aA P An Or):=by
 intro f be a xs e;simp only [aA] at e;split at e
 .rename_i r y;exact G f be a xs (y.trans e)
 split at e
 .rename_i fn l;split at e
  .rename_i q d;split at e
   .rename_i J;refine⟨fn,q,l,d,K f fn l,λc w ρ O args N hs m=> ?_⟩;have hl:=m.length;have eh:(qd be a).h=iw a:=by funext i;cases i <;> rfl
    have C:dQ c fn.ntmps w (qd be a) ρ O {tmps:=args.toArray++Array.replicate (fn.ntmps - args.toArray.size) undef,defers:= []}:=by refine⟨by rw [eh];exact hs,λk=>Hr m _ k, ?_,rfl⟩;simp only [N3,MK,Array.size_replicate];omega
    have o:lE (qd be a):=by intro k g v e;simp [qd] at e
    have D:gu (a.length,ft a.head?).1 (lY a.length ρ) ρ:=by
     intro j u;simp only at u;have z:iw a (.c j)=some a[j]:=by simp [iw,u]
     obtain⟨v,p,_⟩:=hs.Da z;exact⟨v,by simp [lY,u,p],p⟩
    refine(Ew l d (ju hm F E l D C o e)).mono λe w' ⟨v,I,b⟩=> ?_;obtain⟨rs,M,x2,o1,o2,p,L,B,x,y,ho⟩:=b.res;exact⟨rs,M,x2,o1,o2,by rw [I,p],⟨b.os,b.output,b.tape,b.size,b.ae⟩,L,B,x,y,ho⟩
   .simp at e
  .simp at e
 .simp at e
theorem KN(hm:P.follows .mixedOrders=true)(l:gW P An Or)(j:mM P An Or):mM P An (aA P An Or):=by
 intro f fn todo live m be p xs e d c w ρ O a B i g;simp only [aA,d] at e;split at e
 .exact ju hm l j d i g (Aw _ _ _) e
 .rename_i o;have:qz todo=todo:=by
   unfold qz;split
   .rename_i b k;exact(o b k rfl).elim
   .rfl
  rw [this];exact ju hm l j d i g (Aw _ _ _) e
theorem BZ(d:kz P An)(hm:P.follows .mixedOrders=true)(g:∀(f:FuncId) (fn:Func),P.funcs[f]? =some fn->fn.name≠ "runtime.NumGoroutine"):∀n,gW P An (gI P An n)/\mM P An (gI P An n)
 | 0=>⟨λ_ _ _ _ e=>by simp [gI] at e,λ_ _ _ _ _ _ _ _ e=>by simp [gI] at e⟩
 | n+1=>by obtain⟨a,b⟩:=BZ d hm g n;exact⟨KO d hm g a b,KN hm a b⟩
theorem B1{k:Key}{vs:List AV}{a:List ab}{r:List T}(e:jB P An k vs a=some r):∃n,gI P An n k vs a=some r:=by
 unfold jB at e;split at e
 .rename_i b;simp only [Lo] at e;exact⟨_,by rw [<-e];exact Np (Np b)⟩
 .simp at e
theorem IT(b:kz P An)(hm:P.follows .mixedOrders=true)(d:∀(f:FuncId) (fn:Func),P.funcs[f]? =some fn->fn.name≠ "runtime.NumGoroutine"):gW P An (jB P An):=by intro f be a xs e;obtain⟨n,e⟩:=B1 e;exact(BZ b hm d n).1 f be a xs e
end
open Go Go.IntKind
abbrev DJ:=Key×List AV×List ab×List T
def tX(O:ay)(L:List DJ):Prop:= ∀q∈L,O q.1 q.2.1 q.2.2.1=some q.2.2.2
def aF{R:Type}(F:ay->Option R):Prop:= ∀O r,F O=some r->∃L,tX O L/\∀O',tX O' L->F O'=some r
section
variable {P:Program} {A:cq} {R S:Type}
theorem aF.const(m:Option R):aF (λ_=>m):=λ_ r h=>⟨[],(by intro q a;cases a),λ_ _=>h⟩
theorem aF.bind{F:ay->Option R}{G:R->ay->Option S}(j:aF F)(k:∀a,aF (G a)):aF (λO=>(F O).bind λa=>G a O):=by
 intro O r h;obtain⟨a,l,h⟩:=Lp.1 h;obtain⟨L1,e,g⟩:=j O a l;obtain⟨L2,f,i⟩:=k a O r h;refine⟨L1++L2,λq b=> ?_,λO' d=> ?_⟩
 .rcases LI.1 b with b | b
  .exact e q b
  .exact f q b
 .have:=g O' (λq b=>d q (LH _ b));simp only [this,Lt];exact i O' (λq b=>d q (LF _ b))
theorem aF.ask(k:Key)(vs:List AV)(a:List ab):aF (λO=>O k vs a):=λO r h=>⟨[(k,vs,a,r)],(by intro q b;simp only [Lz] at b;subst b;exact h),
 λO' d=>d _ (Lz.2 rfl)⟩
theorem aF.cond{b:Bool}{F G:ay->Option R}(a:aF F)(d:aF G):aF (λO=>cond b (F O) (G O)):=by cases b <;> assumption
theorem aF.ite{p:Prop}[Decidable p]{F G:ay->Option R}(b:aF F)(d:aF G):aF (λO=>if p then F O else G O):=by
 by_cases a:p
 .simp only [a,if_true];exact b
 .simp only [a,if_false];exact d
theorem aF.aa{d:Type}[Inhabited d]{c:Option Bool}{m:Option d}{K:d->ay->Option R}(h:∀a,aF (K a)):aF (λO=>aa c m λa=>K a O):=by
 unfold Aev.aa;cases m with
 | some a=>exact h a
 | none=>cases c with
  | none=>exact aF.const none
  | some b=>exact aF.cond (aF.const none) (h default)
theorem aF.dY{k:Ck}{c:Option Bool}{x:T}{K:T->ay->Option R}(h:∀a,aF (K a)):aF (λO=>dY k c x λa=>K a O):=by
 unfold Aev.dY;cases k <;> (try dsimp only)
 case x=>exact h x
 all_goals exact aF.aa λa=>h _
theorem aF.dU{c:Option Bool}:∀{ks:List Ck} {xs:List T} {K:List T->ay->Option R},(∀a,aF (K a))->aF (λO=>dU c ks xs λa=>K a O)
 | [],xs,K,h=>h xs
 | _::_,[],K,h=>h []
 | k::ks,x::xs,K,h=>by simp only [Aev.dU];exact aF.dY (K:=λy O=>Aev.dU c ks xs λb=>K (y::b) O) λy=>aF.dU (K:=λb O=>K (y::b) O) λb=>h _
theorem aF.kx{c:Option Bool}{t:TypeId}{v:AV}{K:AV->ay->Option R}(h:∀a,aF (K a)):aF (λO=>kx P c t v λa=>K a O):=by
 unfold Aev.kx;cases v <;> (try exact h _)
 case t x=>exact aF.dY (K:=λy O=>K (.t y) O) λy=>h _
 case agg vs=>
  dsimp only;cases dA vs with
  | none=>exact h _
  | some l=>exact aF.dU (K:=λl O=>K (.agg (l.map .t)) O) λy=>h _
theorem aF.gS{c:Option Bool}:∀{ts:List TypeId} {vs:List AV} {K:List AV->ay->Option R},(∀a,aF (K a))->aF (λO=>gS P c ts vs λa=>K a O)
 | [],vs,K,h=>h vs
 | _::_,[],K,h=>h []
 | t::ts,v::vs,K,h=>by simp only [Aev.gS];exact aF.kx (K:=λu O=>Aev.gS P c ts vs λus=>K (u::us) O) λu=>aF.gS (K:=λus O=>K (u::us) O) λus=>h _
theorem aF.fe{s:St}{d:Nat}{c:Option Bool}{f:FuncId}{args:List AV}{K:AV->aC->Option R}:aF (λO=>fe P A O s d c f args K):=by
 unfold Aev.fe;cases P.funcs[f]? with
 | none=>exact aF.const none
 | some fn=>
  dsimp only;have e:∀(m:Option (List T)) (k:List T->Option R),Aev.aa none m k=m.bind k:=by intro m k;cases m <;> rfl
  cases A.fN f with
  | none=>
   dsimp only;refine aF.bind (F:=λ_=>jl ((cN P A f 0 fn).all oK) (A.deep f) s.h args) (aF.const _) λp=> ?_;simp only [e];refine aF.gS λq=> ?_;refine aF.bind (F:=λO=>eJ c (O (.call f) q [])) ?_ λxs=>aF.const _;unfold eJ;cases c with
   | none=>exact aF.ask _ _ _
   | some b=>exact aF.cond (aF.ask _ _ _) (aF.const _)
  | some a=>
   cases c with
   | some b=>exact aF.const none
   | none=>dsimp only;refine aF.bind (F:=λ_=>jQ s.h (uz a args) a args) (aF.const _) λp=> ?_;refine aF.bind (F:=λ_=>iD (2000000+d) 0 (aI s.h p.2) (lf (mW (bQ p.1) []) (fA A f (ft ((bQ p.1).head?.bind (aI s.h p.2)))))) (aF.const _) λus=> ?_;refine aF.bind (F:=λ_=>dX (aI (aI s.h p.2) us) 1000 (bQ p.1) []) (aF.const _) λseen=> ?_;refine aF.cond ?_ (aF.const none);simp only [e];refine aF.gS λq=> ?_;exact aF.bind (aF.ask _ _ _) λxs=>aF.const _
theorem aF.gY{fx:Bool}{s:St}{d:Nat}{c:Option Bool}{f:FuncId}{args:List AV}{K:AV->aC->Option R}:aF (λO=>gY fx P A O s d c f args K):=by
 unfold Aev.gY;cases _root_.cond fx (fX args) none with
 | none=>exact aF.fe
 | some q=>
  obtain⟨a,i,n,e⟩:=q;cases c with
  | some b=>exact aF.const none
  | none=>
   dsimp only;cases s.h i with
   | none=>exact aF.const none
   | some b=>
    cases b with
    | rows b sz col rsz g es=>
     dsimp only;cases cj n es with
     | none=>exact aF.const none
     | some p=>exact aF.cond aF.fe (aF.const none)
    | _=>exact aF.const none
theorem aF.cz{g:Option Gs}{o:Oper}{s:St}:aF (λO=>cz P A O g o s):=by
 unfold Aev.cz gw;cases o.op <;> (try dsimp only) <;> try exact aF.const _
 case makeFunc fn a b=>cases fn <;> (try dsimp only) <;> exact aF.const _
 case call cl=>
  cases cl.callee <;> (try dsimp only)
  case value d=>cases jV (s.get g d) <;> (try dsimp only) <;> first | exact aF.gY | exact aF.const _
  case builtin b=>cases b <;> (try dsimp only) <;> exact aF.const _
  all_goals exact aF.const _
theorem aF.dW{a:Bool}{nt:Nat}{ops:Array Oper}{o:Oper}{s:St}:aF (λO=>dW P A O a nt ops o s):=by
 unfold Aev.dW me;have key:∀{G:ay->Option Gs->Option St},(∀g,aF (λO=>G O g))->aF (λO=>cK ops o s (G O)):=λ{G} b=>by rw [show(λO=>cK ops o s (G O))=λO=>(cK ops o s some).bind (G O) from funext λO=>sL _ _ _ _];exact aF.bind (aF.const _) b
 refine key λg=> ?_;cases nL A a o g with
 | none=>simp only [n6];exact aF.bind aF.cz λp=>aF.const _
 | some d=>simp only [n6];exact aF.cond (aF.cond (aF.bind aF.cz λp=>aF.const _) (aF.const _)) (aF.const _)
theorem aF.gK{a:Bool}{nt:Nat}{ops:Array Oper}:∀(l:List Oper) (s:St),aF (λO=>gK P A O a nt ops l s)
 | [],s=>aF.const _
 | o::r,s=>aF.bind (F:=λO=>Aev.dW P A O a nt ops o s) aF.dW λs'=>aF.gK r s'
theorem aF.region{nt:Nat}{a:Bool}{ops:Array Oper}{s:St}{K:St->ay->Option R}(h:∀s,aF (K s)):aF (λO=>region P A O nt a ops s λs'=>K s' O):=by
 unfold Aev.region;refine aF.cond ?_ (aF.const none);have:(λO=>qS P A O a nt ops ops.toList s λs'=>K s'.clear O)=λO=>(Aev.gK P A O a nt ops ops.toList s).bind λs'=>K s'.clear O:=by funext O;rw [wZ]
 rw [this];exact aF.bind (aF.gK _ _) λs'=>h _
theorem aF.jK{f:FuncId}{todo:List Item}{live:List (Nat×Option Nat)}{m:Nat×Nat}{s:St}:aF (λO=>jK O f todo live m s):=by unfold Aev.jK;refine aF.bind (aF.const _) λus=> ?_;unfold Aev.tP;refine aF.bind (aF.const _) λp=>aF.ite ?_ (aF.const none);exact aF.bind (aF.const _) λseen=>aF.ask _ _ _
theorem aF.ev{f:FuncId}{fn:Func}{m:Nat×Nat}:∀(n:Nat) (a:Bool) (todo:List Item) (s:St),aF (λO=>ev P A O f fn m n a todo s)
 | 0,a,todo,s=>by simp only [Aev.ev];exact aF.const none
 | n+1,a,[],s=>by simp only [Aev.ev];exact aF.const _
 | n+1,a, .code .skip::k,s=>by simp only [Aev.ev];exact aF.ev n _ _ _
 | n+1,a, .code (.seq x y)::k,s=>by simp only [Aev.ev];exact aF.ev n _ _ _
 | n+1,a, .code (.region id ops d)::k,s=>by
  simp only [Aev.ev];cases e:(bif a then A.join f id else none) with
  | some live=>exact aF.jK
  | none=>exact aF.region λs'=>aF.ev n _ _ _
 | n+1,a, .code (.cond x p q)::k,s=>by simp only [Aev.ev];refine aF.bind (F:=λ_=>(s.get none x).t?) (aF.const _) λy=>aF.aa λt=>aF.cond (aF.ev n _ _ _) (aF.ev n _ _ _)
 | n+1,a, .code (.block id b)::k,s=>by simp only [Aev.ev];exact aF.ev n _ _ _
 | n+1,a, .code (.loop b)::k,s=>by
  simp only [Aev.ev];cases A.live f (mn b) with
  | some live=>exact aF.jK
  | none=>exact aF.const none
 | n+1,a, .code (.exit id)::k,s=>by
  simp only [Aev.ev];cases exitTo id k with
  | some g=>exact aF.ev n _ _ _
  | none=>exact aF.const none
 | n+1,a, .code .ret::k,s=>by simp only [Aev.ev];exact aF.const _
 | n+1,a, .inBlock id::k,s=>by simp only [Aev.ev];exact aF.ev n _ _ _
 | n+1,a, .inLoop b::k,s=>by
  simp only [Aev.ev];cases A.live f (mn b) with
  | some live=>exact aF.jK
  | none=>exact aF.const none
 | n+1,a, .code (.label _)::k,s=>by simp only [Aev.ev];exact aF.const _
 | n+1,a, .code (.goto _)::k,s=>by simp only [Aev.ev];exact aF.const _
 | n+1,a, .code (.rangeFunc ..)::k,s=>by simp only [Aev.ev];exact aF.const _
 | n+1,a, .code (.scope _)::k,s=>by simp only [Aev.ev];exact aF.const _
 | n+1,a, .code (.refuse _)::k,s=>by simp only [Aev.ev];exact aF.const _
 | n+1,a, .inRegion ..::k,s=>by simp only [Aev.ev];exact aF.const _
 | n+1,a, .inScope _::k,s=>by simp only [Aev.ev];exact aF.const _
 | n+1,a, .inRangeFunc _::k,s=>by simp only [Aev.ev];exact aF.const _
 | n+1,a, .endRangeFunc _::k,s=>by simp only [Aev.ev];exact aF.const _
 | n+1,a, .beginRound::k,s=>by simp only [Aev.ev];exact aF.const _
 | n+1,a, .extern ..::k,s=>by simp only [Aev.ev];exact aF.const _
 | n+1,a, .call ..::k,s=>by simp only [Aev.ev];exact aF.const _
theorem aF.aA(k:Key)(vs:List AV)(a:List ab):aF (λO=>aA P A O k vs a):=by
 cases k with
 | call f=>
  simp only [Aev.aA];cases A.ext f vs a with
  | some r=>exact aF.const _
  | none=>
   dsimp only;cases P.funcs[f]? with
   | none=>exact aF.const _
   | some fn=>
    dsimp only;cases fn.body with
    | none=>exact aF.const _
    | some c=>exact aF.ite (aF.ev _ _ _ _) (aF.const _)
 | node f todo live m=>
  simp only [Aev.aA];cases P.funcs[f]? with
  | none=>exact aF.const _
  | some fn=>
   dsimp only;split
   .exact aF.ev _ _ _ _
   .exact aF.ev _ _ _ _
theorem B0:∀(n:Nat) {k:Key} {vs:List AV} {a:List ab} {r:List T},gI P A n k vs a=some r->gI P A (n+1) k vs a=some r
 | 0,k,vs,a,r,h=>by simp [gI] at h
 | n+1,k,vs,a,r,h=>by obtain⟨L,e,g⟩:=aF.aA (P:=P) (A:=A) k vs a _ r h;exact g _ λq b=>B0 n (e q b)
theorem tc{n m:Nat}(b:n<=m){k:Key}{vs:List AV}{a:List ab}{r:List T}(h:gI P A n k vs a=some r):gI P A m k vs a=some r:=by
 induction b with
 | refl=>exact h
 | step _ d=>exact B0 _ d
theorem wK{n:Nat}{k:Key}{vs:List AV}{e:List ab}{r:List T}(h:gI P A n k vs e=some r):jB P A k vs e=some r:=by unfold jB;have d:∃n r,gI P A n k vs e=some r:=⟨n,r,h⟩;rw [dif_pos d];have f:=Np (Np d);have a:=tc (Nat.le_max_left n (Classical.choose d)) h;have b:=tc (Nat.le_max_right n (Classical.choose d)) f;rw [a] at b;exact b.symm
theorem ai{k:Key}{vs:List AV}{b:List ab}{r:List T}(h:aA P A (jB P A) k vs b=some r):jB P A k vs b=some r:=by
 obtain⟨L,e,g⟩:=aF.aA (P:=P) (A:=A) k vs b _ r h;have:∃n,tX (gI P A n) L:=by
  clear g h;induction L with
  | nil=>exact⟨0,(by intro q a;cases a)⟩
  | cons q L i=>
   obtain⟨n,d⟩:=i λf a=>e f (Lr _ a);obtain⟨m,hm⟩:=B1 (e q Lq);refine⟨max n m,λf a=> ?_⟩;rcases LC.1 a with rfl | a
   .exact tc (Nat.le_max_right _ _) hm
   .exact tc (Nat.le_max_left _ _) (d f a)
 obtain⟨n,d⟩:=this;exact wK (n:=n+1) (g _ d)
end
open Go Go.IntKind
section
variable {P:Program} {An:cq} {w w':World}
theorem rK.below(k:rK w w'):Go.RowKit.Below w.heap.size w w':=⟨k.os,k.tape,k.output,k.size,k.ae⟩
theorem Ex{f:FuncId}{fn:Func}{be:List AV}{args:List Value}{A0:Nat->Prop}(y:kz P An)(hm:P.follows .mixedOrders=true)(B:∀(f:FuncId) (fn:Func),P.funcs[f]? =some fn->fn.name≠ "runtime.NumGoroutine")
  (l:P.funcs[f]? =some fn) (d:An.fN f=none) (i:cN P An f 0 fn= [.f .b]) (r:∀b,A0 b->b < w.heap.size) (g:az w A0 (λ_=>none) be args)
  (e:jB P An (.call f) be []=some [.bool true]) (u:GlobOk w:=by exact Go.Aev.globOk _):Calls P f args.toArray w λe w'=>e= .returned (.bool true)/\Go.RowKit.Below w.heap.size w w':=by
 obtain⟨E,o,a,_,_,p⟩:=IT y hm B f be [] _ e;rw [l] at a;simp only [Lo] at a;subst a;refine(p.values d A0 w args r g u).mono λe w' ⟨rs,own,z,C,_,_,m⟩=> ?_;rw [i] at m;obtain⟨x,G,v,F,ob,D,j,rfl,_,q,I,rfl,_⟩:=m;simp only [My] at j;obtain⟨rfl,rfl⟩:=j;obtain⟨_,k,_⟩:=q;simp only [ax] at k;subst k;exact⟨z,C.below⟩
end
open Go Go.IntKind
abbrev I(n:Int):AV:= .t (.int .i64 n)
abbrev B(b:Bool):AV:= .t (.bool b)
theorem bK{b R:Type}[Inhabited b](c:Option Bool)(a:b)(k:b->Option R):aa c (some a) k=k a:=by cases c <;> rfl
theorem bo{a R:Type}[Inhabited a](m:Option a)(k:a->Option R):aa (some false) m k=k (m.getD default):=by cases m <;> rfl
theorem bO{a:Type}(x:a)(l:List a):(x::l).head? =some x:=by cases l <;> rfl
theorem cU{a:Type}(x:a)(l:List a):(x::l).tail=l:=by cases l <;> rfl
theorem pX{a:Type}(l:List a):l.drop 0=l:=by cases l <;> rfl
theorem r7{a:Type}(x:a)(l:List a):(x::l).drop 1=l:=by cases l <;> rfl
theorem r8{a:Type}(x y:a)(l:List a):(x::y::l).drop 2=l:=by cases l <;> rfl
theorem r9{a:Type}(x y z:a)(l:List a):(x::y::z::l).drop 3=l:=by cases l <;> rfl
theorem yJ{a:Type}(x y z u:a)(l:List a):(x::y::z::u::l).drop 4=l:=by cases l <;> rfl
theorem yK{a:Type}(x y z u v:a)(l:List a):(x::y::z::u::v::l).drop 5=l:=by cases l <;> rfl
theorem yL{a:Type}(x y z u v t:a)(l:List a):(x::y::z::u::v::t::l).drop 6=l:=by cases l <;> rfl
theorem eS(b:Bool):(T.bool b).bool? =some b:=by cases b <;> rfl
theorem bT(k:IntKind)(n:Int):(T.int k n).int? k=some n:=by cases k <;> simp [T.int?]
theorem fY(s:ByteArray):(T.str s).ba =some s:=by cases s;rfl
theorem dO(sz:Nat)(b:Bool)(l:List (List T)):(T.ad sz b l).au sz=some (b,l):=by cases b <;> simp [T.au]
theorem cn(sz:Nat)(b:Bool):(T.af b).au sz=some (b,[]):=by cases b <;> rfl
theorem Ce(l:List T):(T.ptr l).nG =some l:=by cases l <;> rfl
theorem Ag(k:IntKind)(n:Int):(T.int k n).nf =some ():=by cases k <;> rfl
theorem Af(b:Bool):(T.bool b).nf =some ():=by cases b <;> rfl
theorem AF(b:ByteArray):(T.str b).nf =some ():=by cases b;rfl
theorem bN{d:Type}(a b:d):cond true a b=a:=by simp
theorem bX{d:Type}(a b:d):cond false a b=b:=by simp
theorem hZ:(!true)=false:=by decide
theorem hY:(!false)=true:=by decide
theorem gv(m:Option (List T)):eJ none m=m:=by cases m <;> rfl
theorem fD(m:Option (List T)):eJ (some true) m=m:=by cases m <;> rfl
theorem fL(m:Option (List T)):eJ (some false) m=some []:=by cases m <;> rfl
theorem od{d:Type}(p:Prop)[Decidable p](a b:d):(bif decide p then a else b)=if p then a else b:=by by_cases h:p <;> simp [h]
theorem yt{d:Type}(p:Prop)[Decidable p](a b:d):(bif !decide p then a else b)=if p then b else a:=by by_cases h:p <;> simp [h]
theorem yl{d:Type}(m n:Int)(a b:d):(bif m==n then a else b)=if m=n then a else b:=by
 by_cases h:m=n
 .simp [h]
 .have:(m==n)=false:=by simpa using h
  simp [h,this]
theorem yr{d:Type}(m n:Int)(a b:d):(bif !m==n then a else b)=if m=n then b else a:=by
 by_cases h:m=n
 .simp [h]
 .have:(m==n)=false:=by simpa using h
  simp [h,this]
theorem wr{v:Int}(h: -9223372036854775808<=v/\v < 9223372036854775808):i64.wrap v=v:=by simp [IntKind.wrap,IntKind.signed,IntKind.bits];omega
theorem aj:(type_of% @bK)/\(type_of% @bO)/\(type_of% @cU)/\(type_of% @pX)/\(type_of% @r7)/\(type_of% @r8)/\(type_of% @r9)/\(type_of% @yJ)/\(type_of% @yK)/\(type_of% @yL)/\(type_of% @eS)/\(type_of% @bT)/\(type_of% @fY)/\(type_of% @dO)/\(type_of% @cn)/\(type_of% @Ce)/\(type_of% @Ag)/\(type_of% @Af)/\(type_of% @AF)/\(type_of% @bN)/\(type_of% @bX)/\(type_of% @hZ)/\(type_of% @hY)/\(type_of% @gv)/\(type_of% @fD)/\(type_of% @fL)/\(type_of% @od)/\(type_of% @yt)/\(type_of% @yl)/\(type_of% @yr)/\(type_of% @beq_self_eq_true.{0})/\(type_of% @Nc)/\(type_of% @MC)/\(type_of% @Nw)/\(type_of% @Ni):=⟨@bK,@bO,@cU,@pX,@r7,@r8,@r9,@yJ,@yK,@yL,@eS,@bT,@fY,@dO,@cn,@Ce,@Ag,@Af,@AF,@bN,@bX,@hZ,@hY,@gv,@fD,@fL,@od,@yt,@yl,@yr,@beq_self_eq_true.{0},@Nc,@MC,@Nw,@Ni⟩
open Go Go.ChangeShapes Go.WideShapes Go.ChangeAt Go.RowKit Go.IntKind
def rf(P:Program)(go:TypeId->Bool):List Field->Nat->Option Nat
 | [],off=>some off
 | f::r,off=>if f.offset=off/\go f.type=true then rf P go r (off+P.cellsOf f.type) else none
def ic(P:Program):Nat->TypeId->Bool
 | 0,_=>false
 | n+1,t=>match P.underlying t with
  | some .bool=>true
  | some (.int _)=>true
  | some .string=>true
  | some (.slice e)=>ic P n e && decide (0 < P.cellsOf e)
  | some (.struct a)=>decide (rf P (ic P n) a.toList 0=some (P.cellsOf t))
  | some (.array m e)=>ic P n e && decide (P.cellsOf t=m * P.cellsOf e)
  | _=>false
def rM(W:TypeId->List T->Prop):List Field->List T->Prop
 | [],ts=>ts= []
 | f::r,ts=>∃a b,ts=a++b/\W f.type a/\rM W r b
def ue(W:List T->Prop):Nat->List T->Prop
 | 0,ts=>ts= []
 | m+1,ts=>∃a b,ts=a++b/\W a/\ue W m b
def Wt(P:Program):Nat->TypeId->List T->Prop
 | 0,_,_=>False
 | n+1,t,ts=>match P.underlying t with
  | some .bool=>∃b,ts= [.bool b]
  | some (.int k)=>∃m,ts= [.int k m]/\(Lit.int k m).wf=true
  | some .string=>∃s,ts= [.str s]/\s.size<=maxLen
  | some (.slice e)=>∃b xs,ts= [.ad (P.cellsOf e) b xs]/\(b=true->xs= [])/\xs.length<=maxLen/\(∀cs∈xs,Wt P n e cs)/\xs.length * P.bytesOf e<=reachBytes
  | some (.struct a)=>rM (Wt P n) a.toList ts
  | some (.array m e)=>ue (Wt P n e) m ts
  | _=>False
section
variable {H:Type} {enc:TypeId×Value->H} {P:Program} {w:World} {base:Nat} {sp:Nat->Bool} {held:Bool}
def mC{H:Type}(P:Program)(t:TypeId)(d:DataW H):Prop:= ∀k∈DataW.weights P t d,k<=reachBytes
theorem xD{H:Type}{P:Program}{e:TypeId}:∀{l:List (DataW H)} {d:DataW H},d∈l->∀k∈DataW.weights P e d,k∈DataW.weightsAll P e l
 | [],d,h,k,_=>by cases h
 | c::l,d,h,k,a=>by
  simp only [DataW.weightsAll,LI];rcases LC.1 h with rfl | h
  .exact .inl a
  .exact .inr (xD h k a)
theorem DG{H:Type}{P:Program}{us:List TypeId}{a:List (DataW H)}{k:Nat}:∀{ts:List TypeId} {ds:List (DataW H)},k∈DataW.weightsEach P ts ds->k∈DataW.weightsEach P (ts++us) (ds++a)
 | [],ds,h=>by simp [DataW.weightsEach] at h
 | t::ts,[],h=>by simp [DataW.weightsEach] at h
 | t::ts,d::ds,h=>by simp only [DataW.weightsEach,Mi,LI] at h⊢;exact h.imp id DG
theorem aQ.uk{A:Nat->Prop}:∀{a b:List T} {vs us:List Value},aQ w A a vs->aQ w A b us->aQ w A (a++b) (vs++us)
 | [],b,vs,us,h,h'=>by simp only [aQ] at h;subst h;simpa using h'
 | c::a,b,vs,us,⟨v,r,e,d,f⟩,h'=>by subst e;exact⟨v,r++us,rfl,d,aQ.uk f h'⟩
theorem DA{n m:Nat}(o:∀(t:TypeId) (cs:List Value) (x:DataW H×List MemPlace),ic P n t=true->DataW.trod enc P w base sp held m t cs=some x->mC P t x.1->
   ∃ts,aQ w (λb=>b < w.heap.size) ts cs/\Wt P n t ts) (cs:List Value):∀(i:List Field) (off E:Nat),rf P (ic P n) i off=some E->E<=cs.length->
   (∀f∈i,∃x,DataW.trod enc P w base sp held m f.type ((cs.drop f.offset).take (P.cellsOf f.type))=some x/\mC P f.type x.1)->
   off<=E/\∃ts,aQ w (λb=>b < w.heap.size) ts ((cs.drop off).take (E - off))/\rM (Wt P n) i ts
 | [],off,E,d,k,_=>by simp only [rf,Lo] at d;subst d;exact⟨LM _,[],by simp [aQ],rfl⟩
 | f::i,off,E,d,k,l=>by
  simp only [rf] at d;split at d
  .rename_i r;obtain⟨p,q⟩:=r;obtain⟨x,v,j⟩:=l f Lq;obtain⟨a,y,B⟩:=o _ _ _ q v j;obtain⟨D,b,z,C⟩:=DA o cs i _ E d k λg u=>l g (Lr _ u);refine⟨by omega,a++b, ?_,⟨a,b,rfl,B,C⟩⟩;have e:(cs.drop off).take (E - off)= (cs.drop f.offset).take (P.cellsOf f.type)++ (cs.drop (off+P.cellsOf f.type)).take (E - (off+P.cellsOf f.type)):=by
    rw [p,<-Ol];have:E - off=P.cellsOf f.type+ (E - (off+P.cellsOf f.type)):=by omega
    rw [this,List.take_add]
   rw [e];exact aQ.uk y z
  .cases d
theorem DB{n m e:Nat}(l:∀(t:TypeId) (cs:List Value) (x:DataW H×List MemPlace),ic P n t=true->DataW.trod enc P w base sp held m t cs=some x->mC P t x.1->
   ∃ts,aQ w (λb=>b < w.heap.size) ts cs/\Wt P n t ts) (f:ic P n e=true):∀(k:Nat) (cs:List Value),cs.length=k * P.cellsOf e->
   (∀i,i < k->∃x,DataW.trod enc P w base sp held m e ((cs.drop (i * P.cellsOf e)).take (P.cellsOf e))=some x/\mC P e x.1)->∃ts,aQ w (λb=>b < w.heap.size) ts cs/\ue (Wt P n e) k ts
 | 0,cs,hl,_=>by have:cs= []:=LR.1 (by simpa using hl);subst this;exact⟨[],rfl,rfl⟩
 | k+1,cs,hl,g=>by
  obtain⟨x,j,d⟩:=g 0 (Nat.zero_lt_succ _);simp only [Nat.zero_mul,List.drop_zero] at j;obtain⟨a,p,r⟩:=l _ _ _ f j d;obtain⟨b,q,u⟩:=DB l f k (cs.drop (P.cellsOf e)) (by rw [MG,hl,Mn];omega) λi v=>by
   obtain⟨y,o,d⟩:=g (i+1) (by omega);refine⟨y, ?_,d⟩;rw [Ol];have:P.cellsOf e+i * P.cellsOf e= (i+1) * P.cellsOf e:=by rw [Mn];omega
   rw [this];exact o
  refine⟨a++b, ?_,⟨a,b,rfl,r,u⟩⟩;have:=aQ.uk p q;rwa [List.take_append_drop] at this
theorem By{A:Nat->Prop}{ae sz:Nat}{n e:Nat}:∀(len off:Nat),(∀i,i < len->∃ts a,ts.length=sz/\aQ w A ts a/\Wt P n e ts/\∀j v,a[j]? =some v->w.cell? ⟨ae,off+i * sz+j,none⟩=some v)->
  ∃xs:List (List T),xs.length=len/\aZ w A ae sz off xs/\∀cs∈xs,Wt P n e cs
 | 0,off,_=>⟨[],rfl,trivial,(by intro c b;cases b)⟩
 | len+1,off,h=>by
  obtain⟨ts,a,d,f,g,k⟩:=h 0 (Nat.zero_lt_succ _);obtain⟨xs,m,o,p⟩:=By (A:=A) (ae:=ae) (sz:=sz) (n:=n) (e:=e) len (off+sz) λi q=>by
   obtain⟨ts,a,d,f,g,k⟩:=h (i+1) (by omega);refine⟨ts,a,d,f,g,λj v l=> ?_⟩;have:=k j v l;have e:off+ (i+1) * sz+j=off+sz+i * sz+j:=by rw [Mn];omega
   rwa [e] at this
  refine⟨ts::xs,by simp [m],⟨d,aX.jb f λj v l=> ?_,o⟩,λc b=> ?_⟩
  .have:=k j v l;simpa using this
  .rcases LC.1 b with rfl | b
   .exact g
   .exact p c b
theorem tQ:∀(n:Nat) (m:Nat) (t:TypeId) (cs:List Value) (x:DataW H×List MemPlace),ic P n t=true->DataW.trod enc P w base sp held m t cs=some x->mC P t x.1->
  ∃ts,aQ w (λb=>b < w.heap.size) ts cs/\Wt P n t ts
 | 0,m,t,cs,x,g,_,_=>by simp [ic] at g
 | n+1,m,t,cs,x,g,h,l=>by
  simp only [ic] at g;split at g
  .rename_i d;obtain⟨b,rfl,_⟩:=DataW.trod_bool d h;exact⟨[.bool b],⟨_,[],rfl,rfl,rfl⟩,by simp only [Wt,d];exact⟨b,rfl⟩⟩
  .rename_i k d;obtain⟨z,rfl,_,X⟩:=DataW.trod_int d h;exact⟨[.int k z],⟨_,[],rfl,rfl,rfl⟩,by simp only [Wt,d];exact⟨z,rfl,X⟩⟩
  .rename_i d;obtain⟨s,rfl,_,X⟩:=DataW.trod_string d h;exact⟨[.str s],⟨_,[],rfl,rfl,rfl⟩,by simp only [Wt,d];exact⟨s,rfl,X⟩⟩
  .rename_i e d;simp only [Lu,decide_eq_true_eq] at g;obtain⟨V,C⟩:=g;rcases Go.Deep.open_slice d h with⟨rfl,_⟩ | ⟨a,len,cap,k,F,D,Pl,rfl,hb,hl,hm,hk,rfl,M⟩
   .exact⟨[.ad (P.cellsOf e) true []],⟨_,[],rfl, .inl ⟨rfl,rfl,rfl⟩,rfl⟩,by simp only [Wt,d];exact⟨true,[],rfl,λ_=>rfl,by simp,(by intro c B;cases B),by simp⟩⟩
   .obtain⟨ae,off,s⟩:=a;have hlk:len<=k:=by rw [hk];split <;> omega
    dsimp only at l;have Q:len * P.bytesOf e<=reachBytes:=by have:=l ((len+ (k - len)) * P.bytesOf e) (by simp [DataW.weights,d]);exact Mj (Mm _ (NO _ _)) this
    have K:∀i,i < len->mC P e (D i):=λi p q E=>l q (by
     simp only [DataW.weights,d,LC,LI];exact .inr (.inl (xD (L4.2 ⟨i,Om.2 p,rfl⟩) q E)))
    have I: 0 < len->s=none/\ae < w.heap.size:=by
     intro h0;obtain⟨y,B,_⟩:=M 0 (by omega);obtain⟨J,u,r⟩:=World.cells?_some B;have L:=World.cells?_block B C;have o:=r 0 C;have N:((⟨ae,off,s⟩:Addr).add (0 * P.cellsOf e)).add 0= ⟨ae,off,s⟩:=by simp [Addr.add]
     rw [N] at o;have Z:∃v,y[0]? =some v:=⟨_,Ly (by omega)⟩;obtain⟨v,hv⟩:=Z;rw [hv] at o;refine⟨?_, ?_⟩
     .cases s with
      | none=>rfl
      | some z=>simp only [World.cell?] at o;split at o <;> simp at o
     .have e:((⟨ae,off,s⟩:Addr).add (0 * P.cellsOf e))= ⟨ae,off,s⟩:=by simp [Addr.add]
      rw [e] at L;exact L
    obtain⟨xs,k1,k2,k3⟩:=By (P:=P) (w:=w) (A:=λb=>b < w.heap.size) (ae:=ae) (sz:=P.cellsOf e) (n:=n) (e:=e) len off λi p=>by
     obtain⟨y,B,hd⟩:=M i (by omega);obtain⟨hs,_⟩:=I (by omega);subst hs;obtain⟨ts,r1,G⟩:=tQ n F e y _ V hd (K i (by omega));obtain⟨J,u,r⟩:=World.cells?_some B;refine⟨ts,y,by rw [<-r1.length,u],r1,G,λj v hj=> ?_⟩;have hj':j < P.cellsOf e:=by rw [<-u];exact(Ls.1 hj).1
     have:=r j hj';rw [hj,fm,fm] at this;exact this
    refine⟨[.ad (P.cellsOf e) false xs],⟨_,[],rfl, .inr ⟨rfl,ae,off,s,cap,by rw [k1],by omega, ?_,k2⟩,rfl⟩,by simp only [Wt,d];exact⟨false,xs,rfl,λh=>(by cases h),by omega,k3,by rw [k1];exact Q⟩⟩;by_cases h0:len=0
    .left;exact LR.1 (by omega)
    .right;exact I (by omega)
  .rename_i Y d;simp only [decide_eq_true_eq] at g;obtain⟨xs,F,rfl,rfl,hl,hsz,U⟩:=DataW.trod_struct d h;dsimp only at l;obtain⟨_,ts,r1,G⟩:=DA (λt cs x=>tQ n F t cs x) cs Y.toList 0 _ g (by omega) λf hf'=>by
    obtain⟨i,p,e⟩:=List.getElem_of_mem hf';have e':Y.toList[i]? =some f:=by rw [Ly p,e]
    have:=U i f (by rw [<-Ml];exact e');rw [this];have hx:xs[i]? =some (xs[i]'(by simp at p;omega)):=Ly (by simp at p;omega);refine⟨_,hx,λq E=>l q ?_⟩;simp only [DataW.weights,d];exact DataW.weights_mem_each (j:=i) (by rw [Mz,e'];rfl) (by rw [Mz,hx];rfl) q E
   refine⟨ts, ?_,by simp only [Wt,d];exact G⟩;simp only [List.drop_zero,Nat.sub_zero] at r1;rwa [<-hl,N7] at r1
  .rename_i m' e d;simp only [Lu,decide_eq_true_eq] at g;obtain⟨xs,F,rfl,rfl,hl,hsz,U⟩:=DataW.trod_array d h;dsimp only at l;obtain⟨ts,r1,G⟩:=DB (λt cs x=>tQ n F t cs x) g.1 m' cs (by omega) λi p=>by
    rw [U i p];refine⟨_,Ly (by omega),λq E=>l q ?_⟩;simp only [DataW.weights,d];exact xD (L4.2 ⟨_,NP _,rfl⟩) q E
   exact⟨ts,r1,by simp only [Wt,d];exact G⟩
  .cases g
end
def rr(P:Program)(n:Nat):List TypeId->List AV->Prop
 | [],b=>b= []
 | t::ts,b=>∃a r,b=a::r/\((bt P t=true/\∃l,Wt P n t l/\a= .agg (l.map .t))\/(bt P t=false/\∃x,Wt P n t [x]/\a= .t x))/\rr P n ts r
section
variable {H:Type} {enc:TypeId×Value->H} {P:Program} {W W':World} {sp:Nat->Bool} {held:Bool}
theorem IS{n:Nat}{t:TypeId}{v:Value}{d:DataW H}{F:List MemPlace}{r:Reach}{D base:Nat}(o:ic P (n+1) t=true)(f:Value.okWide P W r D t v)(h:DataW.Trod enc P W base sp held t v d F)(B:mC P t d):
  ∃a,((bt P t=true/\∃l,Wt P (n+1) t l/\a= .agg (l.map .t))\/(bt P t=false/\∃x,Wt P (n+1) t [x]/\a= .t x))/\ah W (λb=>b < W.heap.size) (λ_=>none) a v:=by
 obtain⟨m,hm⟩:=h;obtain⟨ts,r1,C⟩:=tQ (n+1) m t _ _ o hm B;have j:bt P t=false->v.cells= #[v]->∃a,((bt P t=true/\∃l,Wt P (n+1) t l/\a= .agg (l.map .t))\/(bt P t=false/\∃x,Wt P (n+1) t [x]/\a= .t x))/\ah W (λb=>b < W.heap.size) (λ_=>none) a v:=by
  intro p E;rw [E] at r1
  match ts,r1 with
  | [],r1=>simp [aQ] at r1
  | [x],⟨u,q,e,g,_⟩=>simp only [My] at e;obtain⟨rfl,_⟩:=e;exact⟨.t x, .inr ⟨p,x,C,rfl⟩,by simpa [ah] using g⟩
  | x::y::z,⟨u,q,e,_,⟨K,J,e',_⟩⟩=>subst e';simp at e
 have agg:bt P t=true->(∃cs,v= .agg cs)->∃a,((bt P t=true/\∃l,Wt P (n+1) t l/\a= .agg (l.map .t))\/(bt P t=false/\∃x,Wt P (n+1) t [x]/\a= .t x))/\ah W (λb=>b < W.heap.size) (λ_=>none) a v:=by rintro p ⟨cs,rfl⟩;refine⟨.agg (ts.map .t), .inl ⟨p,ts,C,rfl⟩, ?_⟩;simp only [ah];exact⟨cs.toList,by simp,az.jA r1,r1.one⟩
 simp only [ic] at o;split at o
 .rename_i i;simp only [Value.okWide,i,Cell.okWide] at f;refine j (by simp [bt,i]) ?_;cases v <;> first | rfl | (simp [Cell.ok,i] at f)
 .rename_i k i;simp only [Value.okWide,i,Cell.okWide] at f;refine j (by simp [bt,i]) ?_;cases v <;> first | rfl | (simp [Cell.ok,i] at f)
 .rename_i i;simp only [Value.okWide,i,Cell.okWide] at f;refine j (by simp [bt,i]) ?_;cases v <;> first | rfl | (simp [Cell.ok,i] at f)
 .rename_i e i;simp only [Value.okWide,i,Cell.okWide] at f;refine j (by simp [bt,i]) ?_;cases v <;> first | rfl | (simp [Cell.ok,i] at f)
 .rename_i G i;simp only [Value.okWide,i] at f;obtain⟨cs,e,_⟩:=f;exact agg (by simp [bt,i]) ⟨cs,e⟩
 .rename_i I e i;simp only [Value.okWide,i] at f;obtain⟨cs,e,_⟩:=f;exact agg (by simp [bt,i]) ⟨cs,e⟩
 .cases o
theorem BY{n:Nat}{r:Reach}{y base:Nat}:∀{ts:List TypeId} {vs:List Value} {ds:List (DataW H)} {m:List MemPlace},ts.all (ic P (n+1))=true->(∀(j:Nat) (t:TypeId) (v:Value),ts[j]? =some t->vs[j]? =some v->Value.okWide P W r y t v)->
  DataW.TrodAll enc P W base sp held ts vs ds m->(∀k∈DataW.weightsEach P ts ds,k<=reachBytes)->∃e,rr P (n+1) ts e/\az W (λb=>b < W.heap.size) (λ_=>none) e vs
 | [],vs,ds,m,_,_,h,_=>by obtain⟨rfl,_,_⟩:=trodAll_nil h;exact⟨[],rfl,by simp [az]⟩
 | t::ts,vs,ds,m,g,i,h,f=>by simp only [MN,Lu] at g;obtain⟨v,x,d,ds',p,q,rfl,rfl,rfl,z,B⟩:=trodAll_cons h;obtain⟨a,C,D⟩:=IS g.1 (i 0 t v rfl rfl) z (λk l=>f k (by simp only [DataW.weightsEach,LI];exact .inl l));obtain⟨e,o,u⟩:=BY g.2 (λj G I E F=>i (j+1) G I (by simpa using E) (by simpa using F)) B (λk l=>f k (by simp only [DataW.weightsEach,LI];exact .inr l));exact⟨a::e,⟨a,e,rfl,C,o⟩,by simp only [az];exact⟨v,x,rfl,D,u⟩⟩
theorem C4(hl:laidOutB P=true)(i:Below W.heap.size W W'):∀{ts:List TypeId} {vs:List Value} {ds:List (DataW H)} {a:List MemPlace},(ts.all λt=>P.readableRec t && decide (t < P.types.size))=true->
  DataW.TrodAll enc P W 0 (λ_=>true) true ts vs ds a->(∀x∈a,x.block < W.heap.size)->DataW.TrodAll enc P W' 0 (λb=>decide (b < W.heap.size)) true ts vs ds a
 | [],vs,ds,a,_,h,_=>by obtain⟨rfl,rfl,rfl⟩:=trodAll_nil h;exact trodAll_mk0
 | t::ts,vs,ds,a,e,h,f=>by simp only [MN,Lu,decide_eq_true_eq] at e;obtain⟨v,l,d,ds',p,q,rfl,rfl,rfl,j,k⟩:=trodAll_cons h;exact trodAll_cons_mk (Below.trod hl e.1.1 e.1.2 j i λx g=>f x (LH _ g)) (C4 hl i (by simpa using e.2) k λx g=>f x (LF _ g))
theorem Ec(a:Below W.heap.size W W')(b:MemPlace->Prop):W.keptBut W' b:=by
 refine⟨a.os,a.output,λi d=> ?_⟩;rw [a.block i d];cases W.heap[i]? with
 | none=>rfl
 | some o=>cases o <;> first | exact⟨rfl,rfl,rfl,λ_ _=>rfl⟩ | exact .inr ⟨rfl,rfl⟩ | rfl
theorem law_contract{n:Nat}{fn:Func}{s:ChangeSpec}{An:cq}{f:FuncId}{tb:TypeId}(hm:P.follows .mixedOrders=true)(hn:(P.funcs.toList.all λfn=>fn.name != "runtime.NumGoroutine")=true)(hl:laidOutB P=true)
  (N:P.funcs[f]? =some fn) (G:An.fN f=none) (I:cN P An f 0 fn= [.f .b]) (Y:P.underlying tb=some .bool) (X:fn.resultTypes= #[tb])
  (C:fn.params.toList.all (ic P (n+1))=true) (l:(fn.params.toList.all λt=>P.readableRec t && decide (t < P.types.size))=true)
  (m:s.vars= []) (B:∀(ds:List (DataW H)),ds.length=fn.params.toList.length->s.fn H ds= {results:= [.lit (.bool true)],args:=ds})
  (g:∀a,rr P (n+1) fn.params.toList a->jB P An (.call f) a []=some [.bool true])
  (W:World) (base:Nat) (args:Array Value) (ds J:List (DataW H)) (r:List MemPlace) (z:∀(j:Nat) t v,fn.params[j]? =some t->args[j]? =some v->Value.okWide P W .any base t v)
  (K:DataW.Whole enc P fn.params.toList s.vars false W args.toList ds J r)
  (D:(DataW.weightsEach P (fn.params.toList++s.plain.varTypes P) (ds++J)).all (· <=reachBytes)=true)
  (hX:kz P An:=by exact Go.Aev.kz.no λ_ _ _=>rfl) (hG:GlobOk W:=by exact Go.Aev.globOk _):
  Calls P f args W λe W'=>∃v,e= .returned v/\s.post enc P fn false true false false W args v W':=by
 have u:=K;obtain⟨p,q,o,E,rfl,hz,Q⟩:=K;rw [m] at E;obtain⟨rfl,rfl⟩:=trodVars_none E;obtain⟨a,L,V⟩:=BY C (λj t v ht hv=>z j t v (by rw [<-Ml];exact ht) (by rw [<-Ml];exact hv)) o (λk hk=>by simpa using LK.1 D k (DG hk));have F:ds.length=fn.params.toList.length:=by
  clear u V L z hz Q E l C g D;generalize fn.params.toList=ts at o;generalize args.toList=vs at o;induction ts generalizing vs ds p with
  | nil=>obtain⟨_,rfl,_⟩:=trodAll_nil o;rfl
  | cons t ts ih=>obtain⟨v,vs',d,ds',p',q',_,rfl,_,_,Z⟩:=trodAll_cons o;simp [ih _ _ _ Z]
 have U:∀(f:FuncId) (fn:Func),P.funcs[f]? =some fn->fn.name≠ "runtime.NumGoroutine" :=by intro f fn h;have:=LK.1 hn fn (LB (i:=f) (by rw [Ml];exact h));simpa using this
 have:=Ex (w:=W) (A0:=λb=>b < W.heap.size) hX hm U N G I (λ_ h=>h) V (g a L) hG;rw [show args.toList.toArray=args from by simp] at this;refine this.mono λe W' ⟨he,M⟩=>⟨.bool true,he, ?_⟩;have y:=B ds F;refine⟨ds,[],p++ [],[],p,[],u, ?_, ?_, ?_,Ec M _,λh=>by cases h⟩
 .rw [LW,y,X];exact trodAll_cons_mk (shut_bool Y true) trodAll_mk0
 .rw [LW,y];exact C4 hl M l o (λx hx=>u.lt x (by simpa using hx))
 .rw [LW,y,m];rfl
end
section
variable {P:Program} {n:Nat} {t:TypeId} {ts:List T}
theorem Lf{k:IntKind}(a:P.underlying t=some (.int k))(h:Wt P (n+1) t ts):∃m,ts= [.int k m]/\(Lit.int k m).wf=true:=by simpa only [Wt,a] using h
theorem DI(a:P.underlying t=some .string)(h:Wt P (n+1) t ts):∃s,ts= [.str s]/\s.size<=maxLen:=by simpa only [Wt,a] using h
theorem xF{a:Array Field}(b:P.underlying t=some (.struct a))(h:Wt P (n+1) t ts):rM (Wt P n) a.toList ts:=by simpa only [Wt,b] using h
theorem Lg{e:TypeId}(a:P.underlying t=some (.slice e))(h:Wt P (n+1) t ts):∃b xs,ts= [.ad (P.cellsOf e) b xs]/\(b=true->xs= [])/\xs.length<=maxLen/\(∀cs∈xs,Wt P n e cs)/\xs.length * P.bytesOf e<=reachBytes:=by simpa only [Wt,a] using h
theorem xE{k:Type}(g:k->List T){e:TypeId}(r:P.underlying t=some (.slice e))(h:Wt P (n+1) t ts)(q:∀cs,Wt P n e cs->∃a,cs=g a):
  ∃b l,ts= [.ad (P.cellsOf e) b (l.map g)]/\(b=true->l= [])/\l.length<=maxLen/\l.length * P.bytesOf e<=reachBytes:=by
 obtain⟨b,xs,rfl,d,f,i,j⟩:=Lg r h;have:∃l:List k,xs=l.map g:=by
  clear d f h j;induction xs with
  | nil=>exact⟨[],rfl⟩
  | cons c xs u=>obtain⟨a,m⟩:=q c (i c Lq);obtain⟨l,hl⟩:=u λcs p=>i cs (Lr _ p);exact⟨a::l,by rw [m,hl];rfl⟩
 obtain⟨l,rfl⟩:=this;exact⟨b,l,rfl,λo=>by simpa using d o,by simpa using f,by simpa using j⟩
theorem D5{a:AV}(h:(bt P t=true/\∃l,Wt P n t l/\a= .agg (l.map .t))\/(bt P t=false/\∃x,Wt P n t [x]/\a= .t x))(b:bt P t=true):∃l,Wt P n t l/\a= .agg (l.map .t):=by
 rcases h with h | h
 .exact h.2
 .rw [b] at h;cases h.1
end
end Go.Aev
