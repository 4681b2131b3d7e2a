import Derived.Test.YtcjplcpngagalaaDoorBlastRoundQ4
import Derived.Orders
import Derived.Still
import Derived.Below
import Derived.Deep.Slices
import Derived.Carry
import Derived.ProofKit
import Derived.OpenShut
import Derived.SizedLaws
set_option linter.all false
namespace Go.Aev
open Go Go.IntKind
section
variable {P:Program} {An:cA} {Or:aq} {w w':World} {A A':Nat->Prop} {c:Ctx} {ρ:Id->Option Value} {O:Id->Option Nat} {s s':St}
structure eJ (c:Ctx) (nt:Nat) (w:World) (s:St) (ρ:Id->Option Value) (O:Id->Option Nat) (a:Act):Prop where
 hs:HS c w s.h ρ O
 ss:SS w (AA c w O) ρ s.t a.tmps
 nt:a.tmps.size=nt
 defers:a.defers= []
def mO(ops:Array Oper)(s:St):Prop:= ∀k g v,s.t k= (some g,v)->dz ops (some g.d)=true
theorem mh{a:Act}{d k:Nat}{x:Value}(b:d < a.tmps.size):(a.put (some d) x).tmps.getD k undef=if k=d then x else a.tmps.getD k undef:=by
 simp only [Act.put];by_cases e:k=d
 .subst e;simp [b]
 .rw [if_neg e];simp [Ti (Th e)]
theorem vN(a:Act)(d:Option Nat)(x:Value):(a.put d x).tmps.size=a.tmps.size:=by cases d <;> simp [Act.put]
theorem vM(a:Act)(d:Option Nat)(x:Value):(a.put d x).defers=a.defers:=by cases d <;> rfl
theorem K0{ops:Array Oper}{o:Oper}{a:Act}{g:Option Gs}(L:SS w A ρ s.t a.tmps)(h:cX ops o s some=some g):
  (Region.wanted o (yielded ops a.tmps)=true->jO a.tmps g)/\
  (Region.wanted o (yielded ops a.tmps)=false->∃i,g=some i/\a.tmps.getD i.d undef≠ .bool i.want/\i.c=false)/\
  (∀i,g=some i->dz ops (some i.d)=true\/∀Q∈ops,Q≠o):=by
 unfold cX at h;cases q:o.guard with
 | none=>simp only [q,Qy] at h;subst h;exact⟨λ_=>trivial,λh=>by simp [Region.wanted,q] at h,λi h=>by cases h⟩
 | some p=>
  obtain⟨j,want⟩:=p;simp only [q] at h;cases B:(ops[j]?).bind (·.dst) with
  | none=>simp [B] at h
  | some d=>
   simp only [B] at h;replace h:=Qz.1 h;obtain⟨x,m,h⟩:=h;have M:Region.wanted o (yielded ops a.tmps)=true↔a.tmps.getD d undef= .bool want:=by
    simp only [Region.wanted,q,yielded,B,QD,beq_iff_eq];rw [RY];cases a.tmps[d]? with
    | none=>simp [undef]
    | some u=>cases u <;> simp
   have J:∀i,g=some i->i.d=d/\i.want=want:=by intro i e;replace h:=oV h;obtain⟨b,h,_⟩:=h;simp only [Qy] at h;rw [<-h] at e;simp only [Qy] at e;subst e;exact⟨rfl,rfl⟩
   have C:∃i,g=some i:=by replace h:=oV h;obtain⟨b,h,_⟩:=h;simp only [Qy] at h;exact⟨_,h.symm⟩
   obtain⟨i,rfl⟩:=C;obtain⟨F,G⟩:=J i rfl;refine⟨λN=> ?_,λE=>⟨i,rfl, ?_⟩,λY e=> ?_⟩
   .have D:=M.1 N;simp only [jO,F,G];refine⟨D, ?_⟩;have f:=L d;rw [D] at f;cases y:s.t d with
    | mk gd v=>
     rw [y] at f m h;dsimp only at m h f;rw [AV.lf m] at f;cases gd with
     | none=>simp only [ai] at f;simp only [Tm] at h;replace h:=aM h (.inl rfl);obtain⟨b,l,h⟩:=h;simp only [Qy] at h;have:=T.ir l;subst this;simp only [ay,Value.bool.injEq] at f;rw [<-h,<-f];cases want <;> rfl
     | some U=>
      simp only at f;rcases f with⟨_,k,z⟩ | ⟨_,_,X⟩
      .simp only [Se,k] at h;replace h:=aM h (.inr rfl);obtain⟨b,l,h⟩:=h;simp only [Qy] at h;have:=T.ir l;subst this;simp only [ai,ay,Value.bool.injEq] at z;rw [<-h,<-z];simp only [gC,k];cases want <;> rfl
      .simp [undef] at X
   .have r:a.tmps.getD d undef≠ .bool want:=λV=>by
     have:=M.2 V;rw [this] at E;cases E
    refine⟨by rw [F,G];exact r, ?_⟩;have f:=L d;cases y:s.t d with
    | mk gd v=>
     rw [y] at f m h;dsimp only at m h f;rw [AV.lf m] at f;cases gd with
     | none=>simp only [ai] at f;simp only [Tm] at h;replace h:=aM h (.inl rfl);obtain⟨b,l,h⟩:=h;simp only [Qy] at h;have:=T.ir l;subst this;simp only [ay] at f;have I:b≠want:=λe=>r (by rw [f,e]);rw [<-h];simp only [gC];cases b <;> cases want <;> simp_all [ug]
     | some U=>
      simp only at f;rcases f with⟨_,k,z⟩ | ⟨_,k,_⟩
      .simp only [Se,k] at h;replace h:=aM h (.inr rfl);obtain⟨b,l,h⟩:=h;simp only [Qy] at h;have:=T.ir l;subst this;simp only [ai,ay] at z;have I:b≠want:=λe=>r (by rw [z,e]);rw [<-h];simp only [gC,k];cases b <;> cases want <;> simp_all [ug]
      .replace h:=oV h;obtain⟨b,h,_⟩:=h;simp only [Qy] at h;rw [<-h];simp [gC,k]
   .simp only [Qy] at e;subst e;by_cases hm:o∈ops
    .left;unfold dz;rw [SM];exact⟨o,hm,by simp [q,B,F]⟩
    .right;intro Q K e;exact hm (e▸K)
theorem zp{ops:Array Oper}{o:Oper}{g:Option Gs}{v:AV}{us:aB}(b:mO ops s)(p:∀q,g=some q->dz ops (some q.d)=true):mO ops (s.put (dz ops o.dst) o.dst g v us):=by
 intro k m u a;cases r:o.dst with
 | none=>simp only [St.put,r] at a;exact b k m u a
 | some d=>
  simp only [St.put,r] at a;by_cases e:k=d
  .simp only [if_pos e,Rk] at a;exact p m a.1
  .simp only [if_neg e] at a;cases f:dz ops (some d) with
   | false=>rw [f,cond_false] at a;exact b k m u a
   | true=>
    rw [f,cond_true] at a;cases l:s.t k with
    | mk i vk=>
     rw [l] at a;cases i with
     | none=>simp [lG] at a
     | some i=>
      simp only [lG] at a;cases j:(i.d==d) with
      | true=>simp [j] at a
      | false=>simp only [j,cond_false,Rk,Qy] at a;rw [<-a.1];exact b k i vk l
theorem vO{nt:Nat}{ops:Array Oper}{o:Oper}{a:Act}{g:Option Gs}{v:AV}{us:aB}(ss:SS w (AA c w O) ρ s.t a.tmps)(E:a.tmps.size=nt)(D:mO ops s)
  (u:∀d,o.dst=some d->d < nt) (C:∀j d,g=some j->o.dst=some d->j.d≠d)
  (w':World) (ρ':Id->Option Value) (O':Id->Option Nat) (x:Value) (I:∀b,AA c w O b->AA c w' O' b/\w'.heap[b]? =w.heap[b]?) (G:∀i v,ρ i=some v->ρ' i=some v)
  (F:match g with
   | none=>ai w' (AA c w' O') ρ' v x
   | some j=>(a.tmps.getD j.d undef= .bool j.want/\j.c=true/\ai w' (AA c w' O') ρ' v x)\/(a.tmps.getD j.d undef≠ .bool j.want/\j.c=false/\x=undef)):
  SS w' (AA c w' O') ρ' (s.put (dz ops o.dst) o.dst g v us).t (a.put o.dst x).tmps:=by
 have r:=SS.mono I G ss;cases z:o.dst with
 | none=>simp only [St.put,Act.put];exact r
 | some d=>
  have f:d < a.tmps.size:=by rw [E];exact u d z
  intro k;simp only [St.put];by_cases e:k=d
  .subst e;simp only [if_true];cases g with
   | none=>simp only;rw [mh f,if_pos rfl];exact F
   | some j=>have p:j.d≠k:=C j k rfl z;simp only;rw [mh f,mh f,if_neg p,if_pos rfl];exact F
  .simp only [if_neg e];have l:=r k;cases y:dz ops (some d) with
   | false=>
    simp only [cond_false];cases q:s.t k with
    | mk m vk=>
     rw [q] at l;cases m with
     | none=>simp only at l⊢;rw [mh f,if_neg e];exact l
     | some m=>
      have p:m.d≠d:=by intro e';have:=D k m vk q;rw [e',y] at this;cases this
      simp only at l⊢;rw [mh f,mh f,if_neg e,if_neg p];exact l
   | true=>
    simp only [cond_true];cases q:s.t k with
    | mk m vk=>
     rw [q] at l;cases m with
     | none=>simp only [lG] at l⊢;rw [mh f,if_neg e];exact l
     | some m=>
      simp only [lG];cases B:(m.d==d) with
      | true=>simp [ai]
      | false=>
       have p:m.d≠d:=by simpa using B
       simp only [cond_false] at l⊢;rw [mh f,mh f,if_neg e,if_neg p];exact l
theorem SS.qL{tmps:Array Value}{e:Gs}(hs:SS w A ρ s.t tmps)(m:tmps.getD e.d undef= .bool e.want):SS w A ρ (s.qL e).t tmps:=by
 intro k;have b:=hs k;simp only [St.qL];cases f:s.t k with
 | mk i v=>
  rw [f] at b;cases i with
  | none=>simp only [ko,cond_true] at b⊢;exact b
  | some g=>
   by_cases a:ko (some g) (some e)=true
   .simp only [a,cond_true];simp only [ko,QF,beq_iff_eq] at a;simp only at b;rcases b with⟨_,_,l⟩ | ⟨j,_⟩
    .exact l
    .exfalso;apply j;rw [a.1,a.2];exact m
   .simp only [Si] at a;simp only [a,cond_false];exact b
theorem E5{m:Bool}{nt:Nat}{ops:Array Oper}{o:Oper}{a:Act}(hO:iQ P An Or)(f:eJ c nt w s ρ O a)(p:mO ops s)(hmem:o∈ops)(h:eR P An Or m nt ops o s=some s'):
  mO ops s'/\∀(K:Act->World->Prop) (Q:Exit->Act->World->Prop),(∀a' w' ρ' O',Le w ρ O w' ρ' O'->eJ c nt w' s' ρ' O' a'->K a' w')->
   if Region.wanted o (yielded ops a.tmps) then o.wp P a w K Q\/(o.asks P a w/\LetsOut Q) else K (a.put o.dst undef) w:=by
 unfold eR nL at h;rw [uX] at h;replace h:=Qz.1 h;obtain⟨g,hg,h⟩:=h;obtain⟨G,B,Z⟩:=K0 f.ss hg;have y:∀j,g=some j->dz ops (some j.d)=true:=λj e=>(Z j e).resolve_right λhn=>hn o hmem rfl;cases l:po An m o g with
 | none=>
  rw [l] at h;dsimp only at h;rw [pO] at h;replace h:=Qz.1 h;obtain⟨⟨v,us⟩,M,h⟩:=h;dsimp only at h;rw [sq] at h;replace h:(if my P An m nt ops o g s v us then some (s.put (dz ops o.dst) o.dst g v us) else none)=some s':=by
   cases hk:iZ An m o s.h us with
   | false=>rw [hk] at h;cases h
   | true=>rw [hk] at h;exact h
  split at h
  .rename_i F;simp only [Qy] at h;subst h;simp only [my,QF] at F;obtain⟨⟨⟨hdst,I⟩,z⟩,_⟩:=F;have k:∀d,o.dst=some d->d < nt:=λd e=>by simpa [e] using hdst
   have E:∀j d,g=some j->o.dst=some d->j.d≠d:=λj d X Y=>by subst X;simp only [Y,QF,Rv,beq_eq_false_iff_ne,ne_eq,Qy] at I;exact λe=>I.2 e.symm
   refine⟨zp p y,λK Q L=> ?_⟩;split
   .rename_i q;left;have i:=G q;refine ik.wp (AF hO f.hs f.ss i M z) λx w' ⟨ρ',O',le,N,V⟩=> ?_;refine L _ w' ρ' O' le ⟨N, ?_,by rw [vN];exact f.nt,by rw [vM];exact f.defers⟩;refine vO f.ss f.nt p k E w' ρ' O' x (λb r=>le.A b r) le.eD ?_;cases g with
    | none=>exact V
    | some j=>exact .inl ⟨i.1,i.2,V⟩
   .rename_i q;obtain⟨j,rfl,J,u⟩:=B (by simpa using q);have hus:us= []:=by
     simp only [QF,Sb] at I;exact I.1
    subst hus;refine L _ w ρ O Le.refl ⟨f.hs, ?_,by rw [vN];exact f.nt,by rw [vM];exact f.defers⟩;exact vO f.ss f.nt p k E w ρ O undef (λb r=>⟨r,rfl⟩) (λ_ _ h=>h) (.inr ⟨J,u,rfl⟩)
  .simp at h
 | some j=>
  rw [l] at h;dsimp only at h;have hg':g=some j:=by
   cases g with
   | none=>simp [po] at l
   | some g0=>
    simp only [po] at l;cases r:(!m && eu An o) with
    | false=>rw [r] at l;cases l
    | true=>rw [r] at l;simpa using l
  subst hg';cases D:uw nt o j with
  | false=>rw [D] at h;cases h
  | true=>
   rw [D,cond_true] at h;simp only [uw,QF] at D;have k:∀d,o.dst=some d->d < nt:=λd e=>by simpa [e] using D.1
   have E:∀C d,some j=some C->o.dst=some d->C.d≠d:=λC d X Y=>by cases X;have:=D.2;simp only [Y,Rv,beq_eq_false_iff_ne,ne_eq,Qy] at this;exact λe=>this e.symm
   cases U:j.c with
   | false=>
    rw [U,cond_false] at h;simp only [Qy] at h;subst h;refine⟨zp p y,λK Q L=> ?_⟩;split
    .rename_i q;have:=(G q).2;rw [U] at this;cases this
    .rename_i q;obtain⟨C,e,J,u⟩:=B (by simpa using q);cases e;refine L _ w ρ O Le.refl ⟨f.hs, ?_,by rw [vN];exact f.nt,by rw [vM];exact f.defers⟩;exact vO f.ss f.nt p k E w ρ O undef (λb r=>⟨r,rfl⟩) (λ_ _ h=>h) (.inr ⟨J,u,rfl⟩)
   | true=>
    rw [U,cond_true,pO] at h;replace h:=Qz.1 h;obtain⟨⟨v,us⟩,M,h⟩:=h;dsimp only at h;split at h
    .rename_i F;simp only [Qy] at h;subst h;simp only [my,QF] at F;obtain⟨⟨⟨_,_⟩,z⟩,_⟩:=F;refine⟨zp p y,λK Q L=> ?_⟩;split
     .rename_i q;left;have i:=G q;refine ik.wp (AF (s:=s.qL j) (g:=none) hO f.hs (f.ss.qL i.1) trivial M z) λx w' ⟨ρ',O',le,N,V⟩=> ?_;refine L _ w' ρ' O' le ⟨N, ?_,by rw [vN];exact f.nt,by rw [vM];exact f.defers⟩;exact vO f.ss f.nt p k E w' ρ' O' x (λb r=>le.A b r) le.eD (.inl ⟨i.1,i.2,V⟩)
     .rename_i q;obtain⟨C,e,J,u⟩:=B (by simpa using q);cases e;rw [U] at u;cases u
    .simp at h
theorem eJ.clear{nt:Nat}{a:Act}(b:eJ c nt w s ρ O a):eJ c nt w s.clear ρ O a:=by
 refine⟨b.hs,λk=> ?_,b.nt,b.defers⟩;have:=b.ss k;simp only [St.clear];cases d:s.t k with
 | mk e vk=>
  rw [d] at this;cases e with
  | none=>exact this
  | some g=>simp [ai]
def mN(s:St):Prop:= ∀k g v,s.t k≠(some g,v)
theorem H6(s:St):mN s.clear:=by intro k g v h;simp only [St.clear] at h;split at h <;> simp at h
theorem mN.DH(h:mN s)(ops:Array Oper):mO ops s:=λk g v e=>(h k g v e).elim
theorem FF{g:Bool}{nt:Nat}{ops:Array Oper}(v:iQ P An Or){Q:Exit->Act->World->Prop}:∀{l:List Oper} {k:Nat} {w:World} {s:St} {ρ:Id->Option Value} {O:Id->Option Nat} {a:Act},
  (∀j,l[j]? =ops[k+j]?)->eJ c nt w s ρ O a->mO ops s->iC P An Or g nt ops l s=some s'->
  (∀f w' ρ' O',Le w ρ O w' ρ' O'->eJ c nt w' s' ρ' O' f->Q .normal f w')->wpOps P ops Q (List.range' k l.length) a w
 | [],k,w,s,ρ,O,a,hl,b,e,h,i=>by simp only [iC,Qy] at h;subst h;exact i a w ρ O Le.refl b
 | o::l,k,w,s,ρ,O,a,hl,b,e,h,i=>by
  simp only [iC] at h;obtain⟨s1,z,h⟩:=Qz.1 h;have h0:ops[k]? =some o:=by simpa using (hl 0).symm
  obtain⟨m,step⟩:=E5 v b e (Rd h0) z;rw [QJ,SU];simp only [wpOps,h0];refine step _ Q λf w' ρ' O' le p=> ?_;exact FF v (λj=>by have:=hl (j+1);simpa [SF,Nat.add_comm 1 j] using this) p m h
   (λu y q r x d=>i u y q r (le.trans x) d)
theorem NS{nt id:Nat}{ops:Array Oper}{a:Act}(f:iQ P An Or){Q:Exit->Act->World->Prop}(e:eJ c nt w s ρ O a)(i:mN s)(h:iC P An Or false nt ops ops.toList s=some s')
  (g:∀b w' ρ' O',Le w ρ O w' ρ' O'->eJ c nt w' s'.clear ρ' O' b->Q .normal b w'):(Code.region id ops false).wp P Q a w:=by
 refine wp_region ?_;rw [Tj,<-Ra];exact FF f (by intro j;simp) e (i.DH ops) h λb w' ρ' O' le d=>g b w' ρ' O' le d.clear
end
open Go Go.IntKind
section
variable {P:Program} {A:cA} {O:aq} {R:Type} {h h':Id->Option ad} {s s':St}
theorem jv{v:AV}{vs:List AV}{i:Id}:i∈bY (v::vs)↔i∈v.ids\/i∈bY vs:=by simp [bY]
theorem qZ{v:AV}(a:∀i∈v.ids,h' i=h i):dv h' v=dv h v:=by
 cases v <;> simp only [dv]
 all_goals rw [a _ (by simp [AV.ids])]
theorem uS{v:AV}(a:∀i∈v.ids,h' i=h i):gv h' v=gv h v:=by
 cases v <;> simp only [gv]
 all_goals rw [a _ (by simp [AV.ids])]
theorem Gk:∀{vs:List AV},(∀i∈bY vs,h' i=h i)->kr h' vs=kr h vs
 | [],_=>rfl
 | v::vs,b=>by simp only [kr];rw [qZ λi a=>b i (jv.2 (.inl a)),Gk λi a=>b i (jv.2 (.inr a))]
theorem Dq:∀{vs:List AV},(∀i∈bY vs,h' i=h i)->lK h' vs=lK h vs
 | [],_=>rfl
 | v::vs,b=>by simp only [lK];rw [uS λi a=>b i (jv.2 (.inl a)),Dq λi a=>b i (jv.2 (.inr a))]
theorem Gn{v:AV}(a:∀i∈v.ids,h' i=h i):kq h' v=kq h v:=by
 cases v
 case agg vs=>simp only [kq];exact Gk (by simpa [AV.ids] using a)
 all_goals (simp only [kq];rw [qZ a])
theorem Dt{v:AV}(a:∀i∈v.ids,h' i=h i):fV h' v=fV h v:=by
 cases v
 case agg vs=>simp only [fV];exact Dq (by simpa [AV.ids] using a)
 all_goals (simp only [fV];rw [uS a])
theorem AJ{b:Bool}{v:AV}(a:∀i∈v.ids,h' i=h i):jm b false h' v=jm b false h v:=by
 cases v
 case ref i off=>simp only [jm,cond_false];rw [a i (by simp [AV.ids]),qZ a,uS a]
 all_goals (simp only [jm];rw [qZ a,uS a])
theorem tV{b:Bool}:∀{vs:List AV},(∀i∈bY vs,h' i=h i)->lC b false h' vs=lC b false h vs
 | [],_=>rfl
 | v::vs,d=>by simp only [lC];rw [AJ λi a=>d i (jv.2 (.inl a)),tV λi a=>d i (jv.2 (.inr a))]
theorem AN{g:Bool}{v:AV}(d:∀i∈v.ids,h' i=h i):kA g false h' v=kA g false h v:=by
 cases v
 case agg vs=>simp only [kA];rw [tV (by simpa [AV.ids] using d)]
 case fn f a b=>simp only [AV.ids,QR] at d;simp only [kA];rw [tV λi e=>d i (.inl e),tV λi e=>d i (.inr e)]
 all_goals (simp only [kA];rw [AJ d])
theorem AP{b:Bool}:∀{vs:List AV},(∀i∈bY vs,h' i=h i)->kB b false h' vs=kB b false h vs
 | [],_=>rfl
 | v::vs,d=>by simp only [kB];rw [AN λi a=>d i (jv.2 (.inl a)),AP λi a=>d i (jv.2 (.inr a))]
theorem sc:∀{a b:List AV} {i:Id},i∈bY (a++b)↔i∈bY a\/i∈bY b
 | [],b,i=>by simp [bY]
 | v::a,b,i=>by rw [Rs,jv,jv,sc,or_assoc]
theorem yx:∀{vs:List AV} {i:Id},i∈bY vs->∃v∈vs,i∈v.ids
 | v::vs,i,a=>by
  rcases jv.1 a with a | a
  .exact⟨v,QA,a⟩
  .obtain⟨u,b,d⟩:=yx a;exact⟨u,QB _ b,d⟩
 | [],i,a=>by simp [bY] at a
theorem xg{d:Nat}{c:Option Bool}{f:FuncId}{args:List AV}{K:AV->aB->Option R}(a:s'.h=s.h\/(A.gS f=none/\A.deep f=false/\∀i∈bY args,s'.h i=s.h i)):fR P A O s' d c f args K=fR P A O s d c f args K:=by
 unfold fR;rcases a with a | ⟨g,j,a⟩
 .rw [a]
 .have e:∀b,kB b false s'.h args=kB b false s.h args:=λb=>AP a;simp only [g,j,e]
theorem zA{c:Option Bool}{i:Id}{n:Nat}{K:Nat->Bool->List (List T)->Option R}(a:h' i=h i):kZ h' c i n K=kZ h c i n K:=by unfold kZ;rw [a]
theorem HW{gy:Bool}{d:Nat}{c:Option Bool}{f:FuncId}{args:List AV}{K:AV->aB->Option R}(a:s'.h=s.h\/(gy=false/\A.gS f=none/\A.deep f=false/\∀i∈bY args,s'.h i=s.h i)):iS gy P A O s' d c f args K=iS gy P A O s d c f args K:=by
 rcases a with a | ⟨rfl,a⟩
 .unfold iS;rw [a];cases cond gy (hY args) none with
  | none=>exact xg (.inl a)
  | some q=>obtain⟨b,i,n,e⟩:=q;dsimp only;split <;> rfl
 .exact xg (.inr a)
theorem Lp{c:Option Bool}{t:TypeId}{a:AV}{K:AV->Option R}(b:∀i∈a.ids,s'.h i=s.h i):fY P s' c t a K=fY P s c t a K:=by unfold fY;cases a <;> (try rfl) <;> (simp only [];first | rw [zA (b _ (by simp [AV.ids]))] | rw [b _ (by simp [AV.ids])])
theorem P1{t:TypeId}{a v:AV}{K:aB->Option R}(d:∀i∈a.ids,s'.h i=s.h i)(b:∀i∈v.ids,s'.h i=s.h i):iH P s' t a v K=iH P s t a v K:=by
 unfold iH;cases a <;> (try rfl) <;> (simp only [];rw [d _ (by simp [AV.ids])];try rw [Gn b,Dt b]);cases v
 case own j=>simp only [b j (by simp [AV.ids])]
 all_goals rfl
theorem K3{c:Option Bool}{t:TypeId}{x:AV}{i:Int}{K:AV->Option R}(a:∀i∈x.ids,s'.h i=s.h i):iW P s' c t x i K=iW P s c t x i K:=by
 unfold iW;cases x
 case row i n=>simp only [zA (a i (by simp [AV.ids]))]
 all_goals first | rfl | (simp only [];rw [a _ (by simp [AV.ids])])
theorem Lh{c:Option Bool}{t:TypeId}{x:AV}{K:AV->Option R}(a:∀i∈x.ids,s'.h i=s.h i):mo P s' c t x K=mo P s c t x K:=by
 unfold mo;cases x
 case row i n=>simp only [zA (a i (by simp [AV.ids]))]
 all_goals first | rfl | (simp only [];rw [a _ (by simp [AV.ids])])
theorem PN{c:Option Bool}{t:TypeId}{x:AV}{b a d:Option Int}{K:AV->Option R}(e:∀i∈x.ids,s'.h i=s.h i):mI P s' c t x b a d K=mI P s c t x b a d K:=by unfold mI;cases x <;> (try rfl) <;> (simp only [];rw [e _ (by simp [AV.ids])])
theorem DM{t:TypeId}{x:AV}(a:∀i∈x.ids,s'.h i=s.h i):iX P s' t x=iX P s t x:=by
 unfold iX;cases x
 case own i=>simp only [a i (by simp [AV.ids])]
 case t z=>cases z <;> rfl
 all_goals rfl
theorem Hn{t:TypeId}{sz:Nat}{a:List T}{y:AV}{K:List (List T)->Option R}(b:∀i∈y.ids,s'.h i=s.h i):lB P s' t sz a y K=lB P s t sz a y K:=by unfold lB;rw [qZ b]
theorem Hh{d:Nat}{t ty:TypeId}{x y:AV}{K:AV->aB->Option R}(a:∀i∈x.ids,s'.h i=s.h i)(b:∀i∈y.ids,s'.h i=s.h i):jQ P s' d false t ty x y K=jQ P s d false t ty x y K:=by
 unfold jQ;simp only [cond_false];cases x <;> simp only [Hn b]
 case own i=>rw [a i (by simp [AV.ids])]
 case part i sz off n=>rw [a i (by simp [AV.ids])]
 all_goals rfl
theorem Lx{c:Option Bool}{t:TypeId}{x k:AV}{ok:Bool}{K:AV->Option R}(a:∀i∈x.ids,s'.h i=s.h i):mq P s' c t x k ok K=mq P s c t x k ok K:=by unfold mq;cases x <;> (try rfl) <;> (simp only [];rw [a _ (by simp [AV.ids])])
theorem NO{t:TypeId}{x k v:AV}{K:aB->Option R}(a:∀i∈x.ids,s'.h i=s.h i):mA P s' t x k v K=mA P s t x k v K:=by unfold mA;cases x <;> (try rfl) <;> (simp only [];rw [a _ (by simp [AV.ids])])
theorem Ii{t:TypeId}{x k:AV}{K:aB->Option R}(a:∀i∈x.ids,s'.h i=s.h i):ma P s' t x k K=ma P s t x k K:=by unfold ma;cases x <;> (try rfl) <;> (simp only [];rw [a _ (by simp [AV.ids])])
theorem CO{e:TypeId}{ev:Operand->AV}:∀{a:List (Nat×Operand)} {n:Nat},(∀x∈a.map (·.2),∀i∈(ev x).ids,h' i=h i)->gU P h' e ev n a=gU P h e ev n a
 | [],n,_=>rfl
 | (k,o)::a,n,b=>by simp only [gU];rw [Gn (b o (by simp)),Dt (b o (by simp)),CO λx d=>b x (by simp only [Rc];exact QB _ d)]
theorem CP{e:TypeId}{ev b:Operand->AV}:∀{a:List (Nat×Operand)} {n:Nat},(∀x∈a.map (·.2),b x=ev x)->gU P h e b n a=gU P h e ev n a
 | [],n,_=>rfl
 | (k,o)::a,n,d=>by simp only [gU];rw [d o (by simp),CP λx f=>d x (by simp only [Rc];exact QB _ f)]
theorem Fg{t:TypeId}{ev b:Operand->AV}:∀{a:List (Nat×Operand)},(∀x∈a.map (·.2),b x=ev x)->nN P t b a=nN P t ev a
 | [],_=>rfl
 | (k,o)::a,d=>by simp only [nN];rw [d o (by simp),Fg λx e=>d x (by simp only [Rc];exact QB _ e)]
theorem mi{g:Option Gs}{x:Operand}(a:∀k,x= .tmp k->s'.t k=s.t k):s'.get g x=s.get g x:=by
 cases x with
 | tmp k=>show(cond (ko (s'.t k).1 g) (s'.t k).2 AV.top)=cond (ko (s.t k).1 g) (s.t k).2 AV.top;rw [a k rfl]
 | _=>rfl
theorem Dy{g:Option Gs}{b x:Operand}{w:Bool}(a:∀k,x= .tmp k->s'.t k=s.t k):s'.lL g b w x=s.lL g b w x:=by
 unfold St.lL;split
 .rw [a _ rfl]
 .exact mi a
set_option maxHeartbeats 1000000 in
theorem FH:∀{vs:List AV} {b:List AV} {i:Id} {n:Nat} {d:List AV},hY vs=some (b,i,n,d)->i∈bY vs
 | [],_,_,_,_,h=>by simp [hY] at h
 | v::r,b,i,n,d,h=>by
  unfold hY at h;split at h
  .cases h
  .rename_i i' g f a;simp only [RH] at a;obtain⟨rfl,rfl⟩:=a;simp only [Qy,Rk] at h;obtain⟨rfl,rfl,rfl,rfl⟩:=h;simp [bY,AV.ids]
  .rename_i o f _ a;simp only [RH] at a;obtain⟨rfl,rfl⟩:=a;obtain⟨q,e,h⟩:=Qz.1 h;obtain⟨j,k,l,m⟩:=q;simp only [Qy,Rk] at h;obtain⟨rfl,rfl,rfl,rfl⟩:=h;simp only [bY,QR];exact .inr (FH e)
theorem N1{R:Type}{P:Program}{s s':St}{e:TypeId}{d:Nat}{c:Option Bool}{v:AV}{K:AV->aB->Option R}(b:∀i∈v.ids,s'.h i=s.h i):mF P s' e d c v K=mF P s e d c v K:=by
 unfold mF;split
 .rename_i vs;split
  .rename_i f i n g a;rw [b i (by simp only [AV.ids];exact FH a)]
  .rfl
 .rfl
theorem Di(v:AV):(lJ v).ids=v.ids:=by unfold lJ;split <;> rfl
theorem iR{g:Option Gs}{o:Oper}(I:∀x∈o.op.operands,∀k,x= .tmp k->s'.t k=s.t k)(N:eX P o=true\/ix o=true\/s'.h=s.h\/(eu A o=false/\dW A o=false/\∀x∈o.op.operands,∀i∈(s.get g x).ids,s'.h i=s.h i)):
  cK P A O g o s'=cK P A O g o s:=by
 have j:∀x∈o.op.operands,s'.get g x=s.get g x:=λx m=>mi (I x m);have l:eX P o=true\/ix o=true\/∀x∈o.op.operands,∀i∈(s.get g x).ids,s'.h i=s.h i:=by
  rcases N with h | h | h | h
  .exact .inl h
  .exact .inr (.inl h)
  .exact .inr (.inr λ_ _ i _=>by rw [h])
  .exact .inr (.inr h.2.2)
 have hw:∀cl,o.op= .call cl->∀f,cl.callee= .value f->eX P o=false:=by intro cl U f h2;simp [eX,U,h2]
 have hal:∀cl,o.op= .call cl->ix o=false:=by intro cl U;simp [ix,U]
 have Q:eX P o=true\/ix o=true\/s'.h=s.h\/(eu A o=false/\dW A o=false):=N.imp id (Or.imp id (Or.imp id λh=>⟨h.1,h.2.1⟩));unfold cK iq;cases B:o.op <;> rw [B] at I j l <;> simp only [eX,ix,B,Q9,false_or] at l <;> dsimp only <;> simp only [Op.operands] at I j l
 case pick a b x=>rw [j a (by simp),Dy (I b (by simp)),Dy (I x (by simp))]
 case build t ps=>unfold uc;rw [Fg (ev:=s.get g) (by simpa using j)]
 case buildSlice t n ps=>
  have C:∀e,gU P s'.h e (s'.get g) 0 ps.toList=gU P s.h e (s.get g) 0 ps.toList:=λe=>by rw [CP (ev:=s.get g) (by simpa using j),CO (by simpa using l)]
  simp only [C];congr 1;funext e;split
  .split
   .rename_i x _ E;rw [j x (by simp [E])]
   .rfl
  .split
   .split
    .rename_i x E;rw [j x (by simp [E])];exact N1 (l x (by simp [E]))
    .rfl
   .rfl
 case load t x=>rw [j x (by simp),Lp (l x (by simp))]
 case store t x y=>rw [j x (by simp),j y (by simp),P1 (l x (by simp)) (l y (by simp))]
 case binOp op t x y ty=>
  rw [j x (by simp),j y (by simp)];rcases l with l | l
  .simp only [Rv,RD] at l;rw [l.1,l.2];cases op <;> rfl
  .rw [DM (l x (by simp)),DM (l y (by simp))]
 case convert src dst x=>rw [j x (by simp),qZ (l x (by simp))]
 case makeFunc fn L G=>
  cases fn <;> try rfl
  have C:L.toList.map (s'.get g)=L.toList.map (s.get g):=RG λx m=>j x (by simp at m⊢;exact .inl m);have e2:G.toList.map (s'.get g)=G.toList.map (s.get g):=RG λx m=>j x (by simp at m⊢;exact .inr m);simp only [C,e2]
 case slice t x Z q mx=>
  have eb:∀(o:Option Operand) (c:Option Bool) (K:Option Int->Option (AV×aB)),(∀y,o=some y->y∈#[x] ++Z.toArray++q.toArray++mx.toArray)->iu s' c g o K=iu s c g o K:=by
   intro o c K hm;unfold iu;cases o with
   | none=>rfl
   | some y=>simp only [j y (hm y rfl)]
  have m:x∈#[x] ++Z.toArray++q.toArray++mx.toArray:=by simp
  rw [j x m];simp only [PN (l x m)];rw [eb Z _ _ (by intro y e;subst e;simp)];congr 1;funext lo';rw [eb q _ _ (by intro y e;subst e;simp)];congr 1;funext hi';rw [eb mx _ _ (by intro y e;subst e;simp)]
 case indexAddr t x i=>rw [j x (by simp),j i (by simp)];simp only [K3 (l x (by simp))]
 case call cl=>
  simp only [Call.operands] at j l;split
  .rename_i p;split
   .rename_i x t ts m _;have hm:x∈(match cl.callee with | .value f=> #[f] | .invoke r _=> #[r] | .builtin _=> #[])++cl.args:=by
     simp [<-Array.mem_toList_iff,m]
    rw [j x hm];rcases l with l | l
    .simp [p] at l
    .exact Lh (l x hm)
   .rfl
  .rename_i p;split
   .rename_i x y t u _ m _;have hm:∀z,(z=x\/z=y)->z∈(match cl.callee with | .value f=> #[f] | .invoke r _=> #[r] | .builtin _=> #[])++cl.args:=by
     intro z Y;simp [<-Array.mem_toList_iff,m,Y]
    rw [j x (hm x (.inl rfl)),j y (hm y (.inr rfl))];rcases l with l | l
    .simp [p] at l
    .cases hn:(A.kP o.dst o.type==3) with
     | false=>exact Hh (l x (hm x (.inl rfl))) (l y (hm y (.inr rfl)))
     | true=>
      rcases Q with h | h | h | h
      .simp [eX,B,p] at h
      .simp [ix,B] at h
      .have:∀(d:Nat) (b:Bool) (t ty:TypeId) (x y:AV) (K:AV->aB->Option (AV×aB)),jQ P s' d b t ty x y K=jQ P s d b t ty x y K:=λd b t ty x y K=>by
        unfold jQ oB lB;rw [h]
       exact this _ _ _ _ _ _ _
      .have:=h.2;simp [dW,B,p,hn] at this
   .rfl
  .have C:cl.args.toList.map (s'.get g)=cl.args.toList.map (s.get g):=RG λx m=>j x (by simp at m⊢;exact .inr m);rw [C]
  .have C:cl.args.toList.map (s'.get g)=cl.args.toList.map (s.get g):=RG λx m=>j x (by simp at m⊢;exact .inr m);rw [C]
  .rename_i p;split
   .rename_i x y t ts _ m _;have hm:∀z,(z=x\/z=y)->z∈(match cl.callee with | .value f=> #[f] | .invoke r _=> #[r] | .builtin _=> #[])++cl.args:=by
     intro z Y;simp [<-Array.mem_toList_iff,m,Y]
    rw [j x (hm x (.inl rfl)),j y (hm y (.inr rfl))];rcases l with l | l
    .simp [p] at l
    .exact Ii (l x (hm x (.inl rfl)))
   .rfl
  .rename_i p;split
   .rename_i x t ts m _;have hm:x∈(match cl.callee with | .value f=> #[f] | .invoke r _=> #[r] | .builtin _=> #[])++cl.args:=by
     simp [<-Array.mem_toList_iff,m]
    rw [j x hm]
   .rfl
  .rename_i F p;have C:cl.args.toList.map (s'.get g)=cl.args.toList.map (s.get g):=RG λx m=>j x (by simp at m⊢;exact .inr m);have M:F∈(match cl.callee with | .value f=> #[f] | .invoke r _=> #[r] | .builtin _=> #[])++cl.args:=by simp [p]
   rw [C,j F M];rcases l with l | l
   .simp [p] at l
   .cases J:lJ (s.get g F) <;> try rfl
    rename_i f a b;have D:=l F M;rw [<-Di,J] at D;simp only [AV.ids,QR] at D;refine HW ?_;have V:∀i∈bY (a++cl.args.toList.map (s.get g)++b),s'.h i=s.h i:=by
     intro i q;rcases sc.1 q with q | q
     .rcases sc.1 q with q | q
      .exact D i (.inl q)
      .obtain⟨v,J,q⟩:=yx q;obtain⟨x,m,rfl⟩:=Rb.1 J;exact l x (by simp at m⊢;exact .inr m) i q
     .exact D i (.inr q)
    rcases Q with h | h | h | h
    .rw [hw cl B F p] at h;cases h
    .rw [hal cl B] at h;cases h
    .exact .inl h
    .obtain⟨h,X⟩:=h;simp only [eu,B,p] at h;simp only [dW,B,p] at X;cases F with
     | func f'=>
      simp only [St.get,lJ] at J;obtain⟨rfl,_,_⟩:f'=f/\_/\_:=by simpa using J
      cases hb:A.gS f' with
      | some x=>dsimp only at h;rw [hb] at h;simp at h
      | none=>exact .inr ⟨rfl,rfl,X,V⟩
     | _=>simp at X
  .rfl
 case move x=>rw [j x (by simp)]
 case assign x=>rw [j x (by simp)]
 case box t x=>rw [j x (by simp)]
 case nilCheck x=>rw [j x (by simp)]
 case unOp op t x=>rw [j x (by simp)]
 case makeSlice t x y=>rw [j x (by simp),j y (by simp)]
 case lookup t x k ok=>rw [j x (by simp),j k (by simp),Lx (l x (by simp))]
 case mapUpdate t x k v=>rw [j x (by simp),j k (by simp),j v (by simp),NO (l x (by simp))]
 case fieldAddr t x f=>rw [j x (by simp)]
 case field t x f=>rw [j x (by simp)]
 case index t x i=>rw [j x (by simp),j i (by simp)]
 case extract x k=>rw [j x (by simp)]
theorem Hs{dL:List Id}{b:Bool}{v:AV}(a:∀i∈v.ids,h' i=h i):rO h' dL b v=rO h dL b v:=by unfold rO;rw [AN a]
theorem AL{dL:List Id}:∀{a:List Bool} {vs:List AV},(∀i∈bY vs,h' i=h i)->lD h' dL a vs=lD h dL a vs
 | _,[],_=>by simp [lD]
 | a,v::vs,d=>by simp only [lD];rw [Hs λi b=>d i (jv.2 (.inl b)),AL λi b=>d i (jv.2 (.inr b))]
theorem wG{N:Id->Prop}:∀{us:aB} {h h':Id->Option ad},(∀i,¬N i->h' i=h i)->∀i,¬N i->aJ h' us i=aJ h us i
 | [],_,_,a,i,d=>a i d
 | (j,b)::us,h,h',a,i,d=>by
  rw [cM,cM];refine wG (N:=N) (λk f=> ?_) i d;by_cases e:k=j
  .subst e;rw [aA,aA]
  .rw [au _ _ e,au _ _ e];exact a k f
theorem ND{N:Id->Prop}{new i:Id}{k sz:Nat}{us:aB}(a:∀i,¬N i->h' i=h i)(f:¬N i)(d:¬N new)(o:∀p∈us,¬N p.1)(e:nM h new i k sz=some us):nM h' new i k sz=some us:=by
 unfold nM at e⊢;cases l:Nat.ble 100000 sz with
 | true=>rw [l,cond_true] at e;rw [cond_true];unfold qQ at e⊢;rw [a i f,a new d];exact e
 | false=>
 rw [l,cond_false] at e;rw [cond_false];rw [a i f,a new d];split at e
 .rename_i cs f
  try simp only [f]
  split at e
  .exact e
  .exact e
  .exact e
  .rename_i j v n x;split at e
   .rename_i u b xs r;split at e
    .rename_i q;have g:¬N j:=by
      cases m:(h new).isNone with
      | false=>rw [m] at e;simp at e
      | true=>rw [m] at e;simp only [cond_true,Qy] at e;subst e;exact o (j,_) QA
     rw [a j g,r];simp only [if_pos q];exact e
    .cases e
   .cases e
  .cases e
 .cases e
theorem Fl{N:Id->Prop}{nm:Nat}(a:∀k,¬N (.s nm k)):∀{l:List (Id×Nat×Nat)} {j:Nat} {h h':Id->Option ad} {us:aB},(∀i,¬N i->h' i=h i)->(∀q∈l,¬N q.1)->(∀p∈us,¬N p.1)->jA nm j h l=some us->jA nm j h' l=some us
 | [],_,_,_,_,_,_,_,e=>e
 | (i,k,sz)::l,j,h,h',us,f,hl,b,e=>by simp only [jA] at e⊢;obtain⟨r,g,e⟩:=Qz.1 e;obtain⟨u,m,e⟩:=Qz.1 e;simp only [Qy] at e;subst e;rw [ND f (hl (i,k,sz) QA) (a j) (λp d=>b p (QQ _ d)) g];simp only [QD];rw [Fl a (wG f) (λq o=>hl q (QB _ o)) (λp d=>b p (QP _ d)) m];rfl
theorem sW:∀{n:Nat} {todo a seen:List Id},eS h n todo a=some seen->(∀i∈seen,h' i=h i)->eS h' n todo a=some seen
 | 0,todo,a,seen,e,_=>by simp [eS] at e
 | n+1,[],a,seen,e,_=>e
 | n+1,i::todo,a,seen,e,hs=>by
  simp only [eS] at e⊢;cases b:a.contains i with
  | true=>rw [b,cond_true] at e;rw [cond_true];exact sW e hs
  | false=>
   rw [b,cond_false] at e;rw [cond_false];have hm:i∈seen:=by
    have:a++ [i] <+:seen:=by
     split at e
     .exact nP e
     .exact nP e
     .exact nP e
     .cases e
    exact this.subset (QP _ (QL.2 rfl))
   rw [hs i hm];split at e
   .exact sW e hs
   .exact sW e hs
   .exact sW e hs
   .cases e
theorem xt:∀{l seen:List Id},∀i∈oJ l seen,i∈l
 | [],_,i,a=>by simp [oJ] at a
 | j::l,seen,i,a=>by
  simp only [oJ] at a;cases b:seen.contains j with
  | true=>rw [b,cond_true] at a;exact QB _ (xt i a)
  | false=>
   rw [b,cond_false] at a;rcases QN.1 a with rfl | a
   .exact QA
   .exact QB _ (xt i a)
theorem vQ{i:Id}:∀{l:List ca} {k:Nat},∀q∈mD i k l,q.1=i
 | [],_,q,a=>by simp [mD] at a
 | r::l,k,q,a=>by
  cases r with
  | own sz=>
   simp only [mD] at a;rcases QN.1 a with rfl | a
   .rfl
   .exact vQ q a
  | rows sz col rsz=>
   simp only [mD] at a;rcases QN.1 a with rfl | a
   .rfl
   .exact vQ q a
  | _=>simp only [mD] at a;exact vQ q a
theorem zt:∀{e:List Id} {d:List jg},∀q∈mE e d,q.1∈e
 | [],d,q,a=>by cases d <;> simp [mE] at a
 | i::e,[],q,a=>by simp [mE] at a
 | i::e,b::d,q,a=>by
  cases b with
  | box l=>
   simp only [mE,QR] at a;rcases a with a | a
   .rw [vQ q a];exact QA
   .exact QB _ (zt q a)
  | _=>simp only [mE] at a;exact QB _ (zt q a)
theorem HV{N:Id->Prop}{d:Nat}{c:Option Bool}{f:FuncId}{args:List AV}{v:AV}{us:aB}(F:∀i,¬N i->s'.h i=s.h i)(M:A.deep f=false)(m:∀i∈bY args,¬N i)(G:∀k,¬N (.s (2000000+d) k))(E:∀p∈us,¬N p.1)
  (e:fR P A O s d c f args (λv u=>some (v,u))=some (v,us)):fR P A O s' d c f args (λv u=>some (v,u))=some (v,us):=by
 cases K:A.gS f with
 | none=>rw [xg (.inr ⟨K,M,λi l=>F i (m i l)⟩)];exact e
 | some Y=>
  unfold fR at e⊢;cases D:P.funcs[f]? with
  | none=>rw [D] at e;simp at e
  | some fn=>
   simp only [D,K] at e⊢;cases c with
   | some b=>simp at e
   | none=>
    simp only at e⊢;rw [AL λi l=>F i (m i l)];obtain⟨p,U,e⟩:=Qz.1 e;rw [U,QD];obtain⟨a,I,e⟩:=Qz.1 e;obtain⟨seen,o,e⟩:=Qz.1 e;obtain⟨_,_,J,_,_⟩:=sX o Ta (by simp) (by simp);have L:=e;have g:(∀q∈a,¬N q.1)/\∀i∈seen,¬N i:=by
     cases C:(vE d seen && Nat.beq (gu (seen.map λi=>gF seen (aJ (aJ s.h p.2) a i)).head?) (gu ((bY p.1).head?.bind (aJ s.h p.2)))) with
     | false=>rw [C] at e;simp at e
     | true=>
      rw [C,cond_true] at e;obtain⟨Z,e,_⟩:=wF (.inl rfl) e;obtain⟨xs,_,e⟩:=aM e (.inl rfl);rw [show ∀(n:Nat),(dJ seen d none 0 (de P A f n fn) xs λvs u j=>fH seen d j seen (gA A f n) (xs.drop (lW (de P A f n fn))) λq=>(some (kV vs,p.2++a++jq seen++u++q):Option (AV×aB)))=
       ((dJ seen d none 0 (de P A f n fn) xs λvs u j=>some (vs,u,j)).bind λz=>(fH seen d z.2.2 seen (gA A f n) (xs.drop (lW (de P A f n fn))) some).bind λq=>some (kV z.1,p.2++a++jq seen++z.2.1++q)) from λn=>by
        rw [oH];congr 1;funext vs u j;simp only [QD];rw [uq];rfl] at e
      obtain⟨z,_,e⟩:=Qz.1 e;obtain⟨q,_,e⟩:=Qz.1 e;simp only [Qy,Rk] at e;obtain⟨_,rfl⟩:=e;refine⟨λx X=>E x ?_,λi l=>E (i, .dead) ?_⟩
      .exact QQ _ (QQ _ (QQ _ (QP _ X)))
      .exact QQ _ (QQ _ (QP _ (Rb.2 ⟨i,l,rfl⟩)))
    have r:∀i,¬N i->aJ s'.h p.2 i=aJ s.h p.2 i:=wG F;have B:∀i,¬N i->aJ (aJ s'.h p.2) a i=aJ (aJ s.h p.2) a i:=wG r;have y:(bY p.1).head?.bind (aJ s'.h p.2)= (bY p.1).head?.bind (aJ s.h p.2):=by
     cases Q:(bY p.1).head? with
     | none=>rfl
     | some i=>exact r i (g.2 i (J i (List.mem_of_mem_head? (by rw [Q];rfl))))
    rw [y];rw [Fl G r (λq V=>g.2 q.1 (J q.1 (xt q.1 (zt q V)))) g.1 I,QD];rw [sW o λi l=>B i (g.2 i l),QD];have hm:(seen.map λi=>gF seen (aJ (aJ s'.h p.2) a i))=seen.map λi=>gF seen (aJ (aJ s.h p.2) a i):=RG λi l=>by rw [B i (g.2 i l)]
    rw [hm];exact L
theorem tU{N:Id->Prop}{g:Option Gs}{o:Oper}{v:AV}{us:aB}(K:∀x∈o.op.operands,∀k,x= .tmp k->s'.t k=s.t k)(J:∀i,¬N i->s'.h i=s.h i)(z:dW A o=false)(l:∀x∈o.op.operands,∀i∈(s.get g x).ids,¬N i)
  (F:∀k,¬N (.s (2000000+o.dst.getD 0) k)) (L:∀p∈us,¬N p.1) (e:cK P A O g o s=some (v,us)):cK P A O g o s'=some (v,us):=by
 cases G:eu A o with
 | false=>rw [iR (s:=s) K (.inr (.inr (.inr ⟨G,z,λx q i d=>J i (l x q i d)⟩)))];exact e
 | true=>
  have C:∀x∈o.op.operands,s'.get g x=s.get g x:=λx q=>mi (K x q);cases y:o.op <;> simp only [eu,y,Q9] at G;rename_i cl;cases j:cl.callee <;> simp only [j,Q9] at G;rename_i u;unfold cK iq at e⊢;rw [y] at e l C⊢;simp only [Op.operands,Call.operands] at l C;simp only [j] at e⊢;have M:cl.args.toList.map (s'.get g)=cl.args.toList.map (s.get g):=RG λx q=>C x (by simp at q⊢;exact .inr q);have E:u∈(match cl.callee with | .value f=> #[f] | .invoke r _=> #[r] | .builtin _=> #[])++cl.args:=by simp [j]
  rw [M,C u E];cases B:lJ (s.get g u) <;> rw [B] at e <;> simp only [reduceCtorEq] at e;rename_i f a b;have m:=l u E;rw [<-Di,B] at m;simp only [AV.ids,QR] at m;have D:A.deep f=false:=by
   simp only [dW,y,j] at z;cases u with
   | func I=>
    simp only [St.get,lJ] at B;obtain⟨rfl,_,_⟩:I=f/\_/\_:=by simpa using B
    exact z
   | _=>simp at z
  have hl:Eg u=false:=by
   simp only [dW,y,j] at z;cases u with
   | func I=>rfl
   | _=>simp at z
  dsimp only at e⊢;rw [hl,HX] at e⊢;refine HV J D ?_ F L e;intro i d;rcases sc.1 d with d | d
  .rcases sc.1 d with d | d
   .exact m i (.inl d)
   .obtain⟨v,B,d⟩:=yx d;obtain⟨x,q,rfl⟩:=Rb.1 B;exact l x (by simp at q⊢;exact .inr q) i d
  .exact m i (.inr d)
end
open Go Go.IntKind
section
variable {P:Program} {An:cA} {Or:aq} {w w':World} {A A':Nat->Prop} {c:Ctx} {ρ:Id->Option Value} {O:Id->Option Nat} {s s' s1 s2:St} {h:Id->Option ad} {ops:Array Oper} {nt:Nat}
structure rJ (P:Program) (An:cA) (Or:aq) (nt:Nat) (ops:Array Oper) (o:Oper) (s:St) (g:Option Gs) (v:AV) (us:aB):Prop where
 guard:cX ops o s some=some g
 op:cK P An Or g o s=some (v,us)
 ok:my P An true nt ops o g s v us=true
 dL:iZ An true o s.h us=true
theorem Gu{o:Oper}{g:Option Gs}:po An true o g=none:=by cases g <;> rfl
theorem ze{o:Oper}(e:eR P An Or true nt ops o s=some s'):∃g v us,rJ P An Or nt ops o s g v us/\s'=s.put (dz ops o.dst) o.dst g v us:=by
 unfold eR nL at e;rw [uX] at e;replace e:=Qz.1 e;obtain⟨g,f,e⟩:=e;rw [Gu] at e;dsimp only at e;rw [pO] at e;replace e:=Qz.1 e;obtain⟨⟨v,us⟩,d,e⟩:=e;dsimp only at e;rw [sq] at e;cases a:iZ An true o s.h us with
 | false=>rw [a] at e;cases e
 | true=>
  rw [a,cond_true] at e;split at e
  .rename_i b;simp only [Qy] at e;exact⟨g,v,us,⟨f,d,b,a⟩,e.symm⟩
  .simp at e
theorem rJ.eR{o:Oper}{g:Option Gs}{v:AV}{us:aB}(a:rJ P An Or nt ops o s g v us):eR P An Or true nt ops o s=some (s.put (dz ops o.dst) o.dst g v us):=by unfold Aev.eR nL;rw [uX,a.guard,QD,Gu];dsimp only;rw [pO,a.op,QD];dsimp only;rw [sq,a.dL,cond_true,if_pos a.ok]
def pA(ops:Array Oper)(a:Array Bool)(s:St):Prop:= ∀k g v,s.t k= (some g,v)->∃i o,ops[i]? =some o/\a.getD i false=true/\o.dst=some g.d
theorem oK{d:Nat}{o:Oper}(a:o.dst=some d):∀(l:List Oper),o∈l->d∈fT l:=by
 intro l;induction l with
 | nil=>intro hm;cases hm
 | cons x l b=>
  intro hm;simp only [fT];rcases QN.1 hm with rfl | hm
  .rw [a];exact QA
  .have:=b hm;split
   .exact QB _ this
   .exact this
theorem Bx:∀{l:List Oper},sJ (fT l)=true->∀{i j:Nat} {x y:Oper} {d:Nat},l[i]? =some x->l[j]? =some y->x.dst=some d->y.dst=some d->i=j
 | [],_,i,j,x,y,d,b,_,_,_=>by simp at b
 | z::l,a,i,j,x,y,d,b,f,k,m=>by
  have g:sJ (fT l)=true/\∀d,z.dst=some d->d∉fT l:=by
   simp only [fT] at a;cases o:z.dst with
   | none=>rw [o] at a;exact⟨a,λd h=>by cases h⟩
   | some e=>
    rw [o] at a;simp only [sJ,QF,Rv] at a;refine⟨a.2,λd h=> ?_⟩;simp only [Qy] at h;subst h;intro hm;have:(fT l).contains e=true:=by simpa using hm
    rw [this] at a;cases a.1
  cases i with
  | zero=>
   simp only [RE,Qy] at b;subst b;cases j with
   | zero=>rfl
   | succ j=>simp only [RZ] at f;exact(g.2 d k (oK m _ (QH f))).elim
  | succ i=>
   simp only [RZ] at b;cases j with
   | zero=>simp only [RE,Qy] at f;subst f;exact(g.2 d m (oK k _ (QH b))).elim
   | succ j=>simp only [RZ] at f;rw [Bx g.1 b f k m]
def pM(ops:Array Oper):Prop:= ∀{i j:Nat} {x y:Oper} {d:Nat},ops[i]? =some x->ops[j]? =some y->x.dst=some d->y.dst=some d->i=j
theorem tp{a:Array Bool}{i:Nat}(h:a.getD i true=false):a.getD i false=true->False:=by
 intro d;rw [RY] at h d;cases e:a[i]? with
 | none=>rw [e] at h;simp at h
 | some b=>rw [e] at h d;simp at h d;rw [h] at d;cases d
theorem zq{a:Array Bool}{i:Nat}{o:Oper}{g:Option Gs}{v:AV}{us:aB}(z:pM ops)(y:ops[i]? =some o)(hl:a.getD i true=false)(x:pA ops a s)(b:Bool):
  s.put b o.dst g v us=s.put false o.dst g v us:=by
 unfold St.put;cases u:o.dst with
 | none=>rfl
 | some d=>
  simp only [St.mk.injEq,and_true];funext k;split
  .rfl
  .cases b with
   | false=>rfl
   | true=>
    simp only [cond_true,cond_false];cases p:s.t k with
    | mk f vk=>
     cases f with
     | none=>rfl
     | some f=>
      simp only [lG];cases m:(f.d==d) with
      | false=>rfl
      | true=>
       exfalso;obtain⟨j,B,q,r,l⟩:=x k f vk p;have e:f.d=d:=by simpa using m
       rw [e] at l;have:=z q y l u;subst this;exact tp hl r
theorem eY{o:Oper}{k:Nat}(h:(.tmp k:Operand)∈o.op.operands):k∈o.looksAt ops:=by unfold Oper.looksAt;refine QQ _ (S6.2 ⟨.tmp k,by simpa using h,rfl⟩)
theorem Ep{o:Oper}{j d:Nat}{b:Bool}(h:o.guard=some (j,b))(a:(ops[j]?).bind (·.dst)=some d):d∈o.looksAt ops:=by unfold Oper.looksAt;refine QP _ ?_;rw [h];simp [a]
theorem ph{b:Bool}{o:Oper}{g:Option Gs}{v:AV}{us:aB}{k:Nat}(f:o.dst≠some k):(s.put false o.dst g v us).t k=s.t k:=by
 unfold St.put;cases a:o.dst with
 | none=>rfl
 | some d=>have:k≠d:=λe=>f (by rw [a,e]);simp [if_neg this]
theorem DC{o:Oper}(f:∀j b d,o.guard=some (j,b)->(ops[j]?).bind (·.dst)=some d->s'.t d=s.t d):cX ops o s' some=cX ops o s some:=by
 unfold cX;cases e:o.guard with
 | none=>rfl
 | some p=>
  obtain⟨j,b⟩:=p;simp only;cases a:(ops[j]?).bind (·.dst) with
  | none=>rfl
  | some d=>simp only [f j b d e a]
theorem wH:∀{us:aB} {h:Id->Option ad} {i:Id},aJ h us i=none->(∀q∈us,q.1≠i)/\h i=none
 | [],h,i,e=>⟨by simp,e⟩
 | (j,x)::us,h,i,e=>by
  rw [cM] at e;obtain⟨f,b⟩:=wH e;by_cases a:i=j
  .subst a;rw [aA] at b;cases b
  .rw [au _ _ a] at b;refine⟨λq d=> ?_,b⟩;rcases QN.1 d with rfl | d
   .exact λe=>a e.symm
   .exact f q d
theorem EK{o:Oper}{g:Option Gs}(a:∀x∈o.op.operands,s'.get g x=s.get g x):nH ops g o s'=nH ops g o s:=by
 unfold nH;have key:∀l:List Operand,(∀x∈l,s'.get g x=s.get g x)->(l.all λx=>(s'.get g x).ids.all λi=>match i with
  | .s d _=>pT ops o d
  | .c _=>true
  | .g _ _=>false)= (l.all λx=>(s.get g x).ids.all λi=>match i with
  | .s d _=>pT ops o d
  | .c _=>true
  | .g _ _=>false):=by
  intro l;induction l with
  | nil=>intro _;rfl
  | cons x l f=>intro h;rw [RX,RX,h x QA,f λy e=>h y (QB _ e)]
 exact key _ λx b=>a x (by simpa using b)
theorem vw{o:Oper}{g:Option Gs}(l:nH ops g o s=true){x:Operand}(v:x∈o.op.operands){d k:Nat}(u:Id.s d k∈(s.get g x).ids){i:Nat}{m:Oper}(a:ops[i]? =some m)(q:m.dst=some d):
  ∃e∈o.after,Region.binds .any e=true/\(e.on=i\/gH ops 12 e.on i=true):=by
 unfold nH at l;have p:=QU.1 l x (by simpa using v);have b:=QU.1 p _ u;simp only at b;unfold pT at b;have f:=QU.1 b i (Tt.2 (S0.1 a).1);rw [a] at f;simp only [q,BEq.rfl,QE,Ri] at f;obtain⟨e,r,j⟩:=SM.1 f;simp only [QF,Rq,beq_iff_eq] at j;exact⟨e,r,j.1,j.2⟩
theorem fL{o:Oper}{us:aB}(b:jZ o us=true){i:Id}(a:∃q∈us,q.1=i):∃d k,i= .s d k/\o.dst=some d:=by
 obtain⟨q,f,rfl⟩:=a;have:=QU.1 b q f;split at this
 .rename_i d k e;exact⟨d,k,e,by simpa using this⟩
 .simp at this
 .simp at this
theorem Qq{us vs:aB}(a:∀p∈us,∀q∈vs,p.1≠q.1):∀{h:Id->Option ad},aJ (aJ h us) vs=aJ (aJ h vs) us:=by
 induction us with
 | nil=>intro h;rfl
 | cons p us g=>intro h;obtain⟨i,b⟩:=p;rw [cM,cM,g (λp d=>a p (QB _ d)),tq (λq f e=>a (i,b) QA q f e.symm)]
def pw(ops:Array Oper)(a:Array Bool):Prop:= ∀k ok,ops[k]? =some ok->a.getD k false=true->∀e∈ok.after,Region.binds .any e=true->a.getD e.on false=true
theorem w9{a:Array Bool}(f:pw ops a){i:Nat}(m:a.getD i true=false):∀{n j:Nat} {d:Oper},ops[j]? =some d->(∀e∈d.after,Region.binds .any e=true->a.getD e.on false=true)->gH ops n j i=false
 | 0,j,d,_,_=>rfl
 | n+1,j,d,q,g=>by
  simp only [gH,q];rw [Array.any_eq_false'];intro e p l;simp only [QF,Rq,beq_iff_eq] at l;obtain⟨o,b⟩:=l;have hl:=g e p o;rcases b with b | ⟨_,b⟩
  .exact tp m (b▸hl)
  .cases k:ops[e.on]? with
   | none=>
    cases n with
    | zero=>simp [gH] at b
    | succ n=>simp [gH,k] at b
   | some ok=>rw [w9 f m k (f e.on ok k hl)] at b;cases b
theorem zV{a b:Oper}(h:jG An ops a b=true):∃k d,fN ops a=some k/\fN ops b=some d/\k≠d/\k∉fT ops.toList/\d∉fT ops.toList:=by
 unfold jG at h;simp only [QF] at h;obtain⟨_,h⟩:=h;split at h
 .rename_i k d e f;simp only [QF,Rv,beq_eq_false_iff_ne,ne_eq] at h;obtain⟨⟨g,i⟩,j⟩:=h;exact⟨k,d,e,f,g,by simpa using i,by simpa using j⟩
 .cases h
theorem PX{a b:Oper}(h:jG An ops a b=true):jG An ops b a=true:=by have h0:=h;unfold jG at h0;simp only [QF] at h0;obtain⟨k,l,d,f,g,i,j⟩:=zV h;unfold jG;rw [d,f,h0.1];simp only [RB,QF,Rv,beq_eq_false_iff_ne,ne_eq];exact⟨⟨λe=>g e.symm,by simpa using j⟩,by simpa using i⟩
theorem Gz{o b:Oper}{us:aB}{k e:Nat}(h:jH P An ops o s us=true)(hm:b∈ops)(f:jG An ops o b=true)(m:fN ops o=some k)(d:fN ops b=some e):
  (∀x∈o.op.operands,∀i∈(s.get none x).ids,i∈(s.t k).2.ids)/\(∀p∈us,p.1∈(s.t k).2.ids)/\(∀p∈us,p.1∉(s.t e).2.ids):=by
 have a:=Rp.1 h b hm;simp only [QF] at a;replace a:=a.1.1.1.1;rw [f] at a;simp only [QE,Ri,zX,m,d,QF,QU,decide_eq_true_eq] at a;obtain⟨⟨g,j⟩,l⟩:=a;exact⟨λx q=>g x (Array.mem_toList_iff.2 q),j,l⟩
theorem sB{a b:Oper}(h:iz P An ops a b=true):(∃k,iB ops b=some (some k)/\k∉fT ops.toList)\/iB ops b=some none:=by
 unfold iz at h;simp only [QF] at h;obtain⟨_,h⟩:=h;split at h
 .rename_i k d;exact .inl ⟨k,d,by simpa using h⟩
 .rename_i d;exact .inr d
 .cases h
theorem Ed{a b:Oper}(h:iz P An ops a b=true):a.guard=none/\aE P An a=true/\eu An a=false/\dW An a=false:=by
 unfold iz at h;simp only [QF] at h;obtain⟨⟨_,⟨_,h⟩,_⟩,_⟩:=h;unfold AH at h;simp only [QF,SJ] at h;obtain⟨⟨i,j⟩,e⟩:=h;refine⟨i,j, ?_⟩;split at e
 .rename_i cl d;split at e
  .rename_i g;simp only [Rv] at e;simp [eu,dW,d,g,e]
  .rename_i f g;simp only [QF,SJ,Rv] at e;simp [eu,dW,d,g,e.1,e.2]
  .cases e
 .rename_i d;simp [eu,dW,d]
 .rename_i d;simp [eu,dW,d]
 .cases e
theorem Ee{a b:Oper}(h:iz P An ops a b=true):aE P An b=false:=by unfold iz at h;simp only [QF,Rv] at h;exact h.1.2.1.1
theorem NY{o:Oper}{r:Option Nat}(h:iB ops o=some r):o.guard=none:=by
 unfold iB at h;split at h
 .rename_i a b;exact a
 .rename_i a b;exact a
 .cases h
theorem FE{o:Oper}{r:Option Nat}(d:aE P An o=false)(h:iB ops o=some r):o.guard=none/\aE P An o=false/\eu An o=false/\dW An o=false:=by
 unfold iB at h;split at h
 .rename_i b a;simp [b,aE,eu,dW,a]
 .rename_i b a;exact⟨b,d,by simp [eu,a],by simp [dW,a]⟩
 .cases h
theorem NZ{o:Oper}{k:Nat}(h:iB ops o=some (some k)):fN ops o=some k:=by
 unfold iB at h;split at h
 .rename_i a b;simp only [Qy] at h;subst h;simp [fN,a,b]
 .cases h
 .cases h
theorem oY{o:Oper}{k:Bool}(h:iY P o k=true):∃t a y,o.guard=none/\o.op= .store t (.tmp a) y:=by
 unfold iY at h;split at h
 .rename_i t a y b d;exact⟨t,a,y,b,d⟩
 .cases h
theorem P4{k off:Nat}{l:List T}{xs a:List (List T)}(h:gL k off l xs=some a):a.length=xs.length:=by
 unfold gL at h;split at h
 .split at h
  .simp only [Qy] at h;subst h;simp
  .cases h
 .cases h
theorem D0{t:TypeId}{a v B:AV}{us:aB}(h:iH P s t a v (λu=>some (AV.top,u))=some (B,us))(f:ka us=true):
  ∃i sz k off j rsz X,a= .el i sz k off/\v= .own j/\(∃bb xs,s.h j=some (.sl false rsz bb xs))/\rsz≠1/\us= [(j, .dead),(i,X)]/\∃b d col g es x es',s.h i=some (.rows b d col rsz g es)/\X= .rows b d col rsz x es'/\es'.length=es.length:=by
 unfold iH at h;cases r:bX P t with
 | false=>rw [r] at h;cases h
 | true=>
  rw [r,cond_true] at h;split at h
  .split at h
   .split at h
    .simp only [Qy,Rk] at h;obtain⟨_,rfl⟩:=h;simp [ka] at f
    .cases h
   .cases h
  .rename_i i sz k off;split at h
   .obtain⟨l,_,h⟩:=Qz.1 h;split at h
    .replace h:=aM h (.inl rfl);obtain⟨C,_,h⟩:=h;simp only [Qy,Rk] at h;obtain⟨_,rfl⟩:=h;simp [ka] at f
    .cases h
   .rename_i b d col rsz g es y;split at h
    .rename_i j;split at h
     .rename_i m D xs z;split at h
      .rename_i o;have q:=o.2.2.1;subst q;replace h:=aM h (.inl rfl);obtain⟨e,_,h⟩:=h;simp only [Qy,Rk] at h;obtain⟨_,rfl⟩:=h;refine⟨i,sz,k,off,j,m,_,rfl,rfl,⟨_,_,z⟩, ?_,rfl,b,d,col,g,es,_,_,y,by rw [show sz=d from o.1.symm],by simp⟩;simpa [ka] using f
      .cases h
     .cases h
    .cases h
   .cases h
  .split at h
   .replace h:=aM h (.inl rfl);obtain⟨p,_,h⟩:=h;obtain⟨l,_,h⟩:=Qz.1 h;split at h
    .replace h:=aM h (.inl rfl);obtain⟨C,_,h⟩:=h;simp only [Qy,Rk] at h;obtain⟨_,rfl⟩:=h;simp [ka] at f
    .cases h
   .cases h
  .cases h
theorem D1{t:TypeId}{a v z:AV}{us:aB}(h:iH P s t a v (λu=>some (AV.top,u))=some (z,us))(d:kb us=true):
  ∃i sz k off b f,a= .el i sz k off/\(∃xs,s.h i=some (.sl false 1 b xs)/\f.length=xs.length)/\us= [(i, .sl false 1 b f)]:=by
 unfold iH at h;cases m:bX P t with
 | false=>rw [m] at h;cases h
 | true=>
  rw [m,cond_true] at h;split at h
  .split at h
   .split at h
    .simp only [Qy,Rk] at h;obtain⟨_,rfl⟩:=h;simp [kb] at d
    .cases h
   .cases h
  .rename_i i sz k off;split at h
   .rename_i B b xs y;obtain⟨l,_,h⟩:=Qz.1 h;split at h
    .rename_i x;obtain⟨j,_,_⟩:=x;subst j;replace h:=aM h (.inl rfl);obtain⟨f,o,h⟩:=h;simp only [Qy,Rk] at h;obtain⟨_,rfl⟩:=h;cases g:fV s.h v with
     | cons q r=>rw [g] at d;simp [kb] at d
     | nil=>rw [g] at d;simp only [kb,beq_iff_eq] at d;subst d;exact⟨_,_,_,_,_,_,rfl,⟨_,y,P4 o⟩,rfl⟩
    .cases h
   .split at h
    .split at h
     .split at h
      .replace h:=aM h (.inl rfl);obtain⟨e,_,h⟩:=h;simp only [Qy,Rk] at h;obtain⟨_,rfl⟩:=h;simp [kb] at d
      .cases h
     .cases h
    .cases h
   .cases h
  .split at h
   .replace h:=aM h (.inl rfl);obtain⟨p,_,h⟩:=h;obtain⟨l,_,h⟩:=Qz.1 h;split at h
    .replace h:=aM h (.inl rfl);obtain⟨f,_,h⟩:=h;simp only [Qy,Rk] at h;obtain⟨_,rfl⟩:=h;simp [kb] at d
    .cases h
   .cases h
  .cases h
theorem zY{o:Oper}{t:TypeId}{a:Nat}{y:Operand}{v:AV}{us:aB}(b:o.op= .store t (.tmp a) y)(h:cK P An Or none o s=some (v,us)):iH P s t (s.get none (.tmp a)) (s.get none y) (λu=>some (AV.top,u))=some (v,us):=by unfold cK iq at h;rw [b] at h;exact h
theorem Gv{a b:Oper}(hl:lb P An ops a b=true)(M:a∈ops)(N:b∈ops){s1 s2:St}{Q U:AV}{v y:aB}(ea:cK P An Or none a s1=some (Q,v))(eb:cK P An Or none b s2=some (U,y))
  (G:jH P An ops a s1 v=true) (okb:jH P An ops b s2 y=true) (r:s2.h=aJ s1.h v\/s1.h=aJ s2.h y):
  (∀p∈v,∀q∈y,p.1≠q.1)/\(∀x∈a.op.operands,∀i∈(s1.get none x).ids,∃p∈v,p.1=i)/\(∀x∈b.op.operands,∀i∈(s2.get none x).ids,∃p∈y,p.1=i):=by
 have o:=Rp.1 G b N;have l:=Rp.1 okb a M;simp only [QF] at o l;replace o:=o.1.2.1;replace l:=l.1.2.2;rw [hl] at o l;simp only [QE,Ri,QF] at o l;simp only [lb,QF] at hl;obtain⟨ta,V,Z,ga,z⟩:=oY hl.1.2;obtain⟨tb,Y,yb,gb,u⟩:=oY hl.2;obtain⟨i,sz,k,off,j,rsz,X,I,J,⟨_,_,a4⟩,K,rfl,_,_,_,_,_,_,_,B,rfl,_⟩:=D0 (zY z ea) o;obtain⟨i',sz',k',off',b',ys',L,⟨_,g,_⟩,rfl⟩:=D1 (zY u eb) l.1;have m:=l.2;simp only [wY,u,Sb] at m;have F:i'≠i/\i'≠j:=by
  rcases r with r | r
  .rw [r,cM,dy] at g;constructor
   .rintro rfl;rw [aA] at g;cases g
   .intro e;by_cases C:i'=i
    .rw [C,aA] at g;cases g
    .rw [au _ _ C,e,aA] at g;cases g
  .rw [r,dy] at B a4;constructor
   .rintro rfl;rw [aA] at B;cases B
   .rintro rfl;rw [aA] at a4;simp only [Qy,ad.sl.injEq] at a4;exact K a4.2.1.symm
 refine⟨λp D q E e=> ?_,λx f id d=> ?_,λx f id d=> ?_⟩
 .simp only [QN,RR,or_false] at D E;subst E;rcases D with rfl | rfl
  .exact F.2 e.symm
  .exact F.1 e.symm
 .simp only [z,Op.operands] at f;have f:x= .tmp V\/x=Z:=by simpa using f
  rcases f with rfl | rfl
  .rw [I] at d;simp only [AV.ids,QL] at d;subst d;exact⟨_,QB _ (QL.2 rfl),rfl⟩
  .rw [J] at d;simp only [AV.ids,QL] at d;subst d;exact⟨_,QA,rfl⟩
 .simp only [u,Op.operands] at f;have f:x= .tmp Y\/x=yb:=by simpa using f
  rcases f with rfl | rfl
  .rw [L] at d;simp only [AV.ids,QL] at d;subst d;exact⟨_,QA,rfl⟩
  .rw [m] at d;cases d
theorem yB{o:Oper}(h:vd P o=true):∃a,o.guard=none/\((∃t e n,o.op= .indexAddr t (.tmp a) n/\mb P t=some e/\P.cellsOf e=1)\/∃t,o.op= .load t (.tmp a)):=by
 unfold vd at h;split at h
 .rename_i t a n b d;split at h
  .rename_i e f;exact⟨a,b, .inl ⟨t,e,n,d,f,by simpa using h⟩⟩
  .cases h
 .rename_i t a b d;exact⟨a,b, .inr ⟨t,d⟩⟩
 .cases h
def oa(h h':Id->Option ad):Prop:= ∀m,h' m=h m\/(∃fz sz b xs d f a,h m=some (.sl fz sz b xs)/\h' m=some (.sl d sz f a)/\a.length=xs.length)\/
 (∃b sz col rsz g es e es',h m=some (.rows b sz col rsz g es)/\h' m=some (.rows b sz col rsz e es')/\es'.length=es.length)\/∃sz b xs,sz≠1/\h m=some (.sl false sz b xs)/\h' m=some .dead
theorem oa.index{t e:TypeId}{m:Id}{n:Int}{K:AV->Option (AV×aB)}{r:AV×aB}(H:oa s.h s'.h)(g:mb P t=some e)(f:P.cellsOf e=1):iW P s none t (.own m) n K=some r↔iW P s' none t (.own m) n K=some r:=by
 unfold iW;simp only [g];rcases H m with h | ⟨_,_,_,_,_,_,_,a,b,d⟩ | ⟨_,_,_,_,_,_,_,_,a,b,d⟩ | ⟨sz,_,_,h0,a,b⟩
 .rw [h]
 .rw [a,b];simp only [d]
 .rw [a,b];simp only [d]
 .rw [a,b];simp only [f,if_neg h0,reduceCtorEq]
theorem oa.load{t:TypeId}{m:Id}{off:Nat}{K:AV->Option (AV×aB)}{r:AV×aB}(H:oa s.h s'.h):fY P s none t (.ref m off) K=some r↔fY P s' none t (.ref m off) K=some r:=by
 unfold fY;rcases H m with h | ⟨_,_,_,_,_,_,_,a,b,d⟩ | ⟨_,_,_,_,_,_,_,_,a,b,d⟩ | ⟨sz,_,_,h0,a,b⟩
 .simp only [h]
 .simp only [a,b]
 .simp only [a,b]
 .simp only [a,b]
theorem oa.store{t:TypeId}{a v q:AV}{us:aB}(h:iH P s t a v (λu=>some (AV.top,u))=some (q,us))(d:ka us=true\/kb us=true):oa s.h (aJ s.h us):=by
 rcases d with d | d
 .obtain⟨i,sz,k,off,j,rsz,X,_,_,⟨_,_,a4⟩,g,rfl,_,_,_,_,_,_,_,f,rfl,l⟩:=D0 h d;intro m;rw [cM,dy];by_cases b:m=i
  .subst b;exact .inr (.inr (.inl ⟨_,_,_,_,_,_,_,_,f,aA _ _ _,l⟩))
  .rw [au _ _ b];by_cases e:m=j
   .subst e;exact .inr (.inr (.inr ⟨_,_,_,g,a4,aA _ _ _⟩))
   .rw [au _ _ e];exact .inl rfl
 .obtain⟨i,_,_,_,_,_,_,⟨_,o,p⟩,rfl⟩:=D1 h d;intro m;rw [dy];by_cases b:m=i
  .subst b;exact .inr (.inl ⟨_,_,_,_,_,_,_,o,aA _ _ _,p⟩)
  .rw [au _ _ b];exact .inl rfl
theorem Gw{a b:Oper}(hl:ku P An ops a b=true)(u:a∈ops)(B:b∈ops){s1 s2 q:St}{G:AV}{l:aB}{F:aB}(ea:cK P An Or none a s1=some (G,l))(o:jH P An ops a s1 l=true)(okb:jH P An ops b q F=true)
  (E:s2.h=aJ s1.h l) (g:∀x∈b.op.operands,s2.get none x=s1.get none x) (k:∀x∈b.op.operands,q.get none x=s1.get none x) (r:AV×aB):cK P An Or none b s1=some r↔cK P An Or none b s2=some r:=by
 have i:=Rp.1 o b B;have f:=Rp.1 okb a u;simp only [QF] at i f;replace i:=i.2.1;replace f:=f.2.2;rw [hl] at i f;simp only [QE,Ri,Rq] at i f;simp only [ku,QF,Rq] at hl;obtain⟨K,L,M,I,p⟩:∃t x y,a.guard=none/\a.op= .store t (.tmp x) y:=by rcases hl.1.2 with h | h <;> exact oY h
 have H:=oa.store (zY p ea) i;rw [<-E] at H;obtain⟨j,J,⟨tb,e,n,d,D,C⟩ | ⟨tb,d⟩⟩:=yB hl.2
 case inr=>
  simp only [sR,d] at f;rw [k (.tmp j) (by simp [d,Op.operands])] at f;split at f
  .rename_i m off hm;unfold cK iq;rw [d];dsimp only;rw [g (.tmp j) (by simp [d,Op.operands]),hm];exact H.load
  .cases f
 simp only [sR,d] at f;rw [k (.tmp j) (by simp [d,Op.operands])] at f;split at f
 .rename_i m hm;unfold cK iq;rw [d];dsimp only;rw [g (.tmp j) (by simp [d,Op.operands]),g n (by simp [d,Op.operands]),hm];unfold nz;cases(s1.get none n).t? with
  | none=>exact SP
  | some y=>
   simp only [QD];cases iu.anyInt y with
   | none=>exact SP
   | some z=>change (iW P s1 none tb (AV.own m) z λv=>some (v,[]))=some r↔(iW P s2 none tb (AV.own m) z λv=>some (v,[]))=some r;exact H.index D C
 .cases f
theorem Ef{a b:Oper}{s1 s2:St}{us:aB}{y:aB}(hl:iz P An ops a b=true)(o:a∈ops)(p:b∈ops)(m:jH P An ops a s1 us=true)(okb:jH P An ops b s2 y=true)(v:∀k,k∉fT ops.toList->(s1.t k).2= (s2.t k).2):
  ∀x∈b.op.operands,∀i∈(s2.get none x).ids,∀q∈us,q.1≠i:=by
 have f:=Rp.1 m b p;have d:=Rp.1 okb a o;simp only [QF] at f d;replace f:=f.1.1.1.2;replace d:=d.1.1.2;rw [hl] at f d;simp only [QE,Ri] at f d;rcases sB hl with⟨k,j,r⟩ | j
 .simp only [vl,sC,j,QU,decide_eq_true_eq] at f d;intro x l i g q u e;have:=d x (Array.mem_toList_iff.2 l) i g;rw [<-v k r,<-e] at this;exact f q u this
 .simp only [sC,j,QU,Sb] at d;intro x l i g;rw [d x (Array.mem_toList_iff.2 l)] at g;cases g
theorem zW{o:Oper}{us:aB}(v:∀k,k∉fT ops.toList->s'.t k=s.t k)(u:∀k,fN ops o=some k\/iB ops o=some none->∀x∈o.op.operands,s'.get none x=s.get none x)(B:o.guard=none->∀x∈o.op.operands,s'.get none x=s.get none x)(h:jH P An ops o s us=true):jH P An ops o s' us=true:=by
 refine Rp.2 λp hm=> ?_;have h0:=Rp.1 h p hm;simp only [QF] at h0⊢;obtain⟨⟨⟨⟨q,r⟩,m⟩,K,j⟩,F,f⟩:=h0;refine⟨⟨⟨⟨?_, ?_⟩, ?_⟩,K, ?_⟩,F, ?_⟩
 .cases g:jG An ops o p with
  | false=>rfl
  | true=>obtain⟨k,L,b,G,M,I,J⟩:=zV g;rw [g] at q;simp only [QE,Ri,zX,b,G,QF,QU] at q⊢;rw [v k I,v L J];refine⟨⟨λx i=> ?_,q.1.2⟩,q.2⟩;rw [u k (.inl b) x (Array.mem_toList_iff.1 i)];exact q.1.1 x i
 .cases g:iz P An ops o p with
  | false=>rfl
  | true=>
   rw [g] at r;simp only [QE,Ri] at r⊢;rcases sB g with⟨k,b,E⟩ | b
   .simp only [vl,b] at r⊢;rw [v k E];exact r
   .simp only [vl,b]
 .cases g:iz P An ops p o with
  | false=>rfl
  | true=>
   rw [g] at m;simp only [QE,Ri] at m⊢;rcases sB g with⟨k,b,E⟩ | b
   .simp only [sC,b,QU] at m⊢;rw [v k E];intro x i;rw [u k (.inl (NZ b)) x (Array.mem_toList_iff.1 i)];exact m x i
   .simp only [sC,b,QU] at m⊢;intro x i;rw [u 0 (.inr b) x (Array.mem_toList_iff.1 i)];exact m x i
 .cases C:lb P An ops p o with
  | false=>rfl
  | true=>
   rw [C] at j;simp only [QE,Ri,QF] at j⊢;refine⟨j.1, ?_⟩;have z:=j.2;simp only [lb,QF] at C;obtain⟨t,a,y,l,d⟩:=oY C.2;have b:fN ops o=some (qP ops a):=by simp [fN,l,d]
   simp only [wY,d] at z⊢;rw [u _ (.inl b) y (by simp [d,Op.operands])];exact z
 .cases D:ku P An ops p o with
  | false=>rfl
  | true=>
   rw [D] at f;simp only [QE,Ri] at f⊢;simp only [ku,QF] at D;obtain⟨a,l,⟨t,e,n,d,_,_⟩ | ⟨t,d⟩⟩:=yB D.2
   .simp only [sR,d] at f⊢;rw [B l (.tmp a) (by simp [d,Op.operands])];exact f
   .simp only [sR,d] at f⊢;rw [B l (.tmp a) (by simp [d,Op.operands])];exact f
theorem D3:∀{l d:List AV},lN l d=true->∀{k:Nat} {v:AV},sd v=true->(l[k]? =some v↔d[k]? =some v)
 | [],[],_,_,_,_=>SP
 | [],_::_,h,_,_,_=>by cases h
 | _::_,[],h,_,_,_=>by cases h
 | c::r,c'::x,h,k,v,b=>by
  unfold lN at h;cases a:sf c c' with
  | none=>rw [a] at h;cases h
  | some q=>
  rw [a] at h;have tl:lN r x=true:=by
   cases q with
   | none=>exact h
   | some p=>simp only [QF] at h;exact h.2
  have g:∀p,q=some p->p.1=p.2:=λp e=>by subst e;simp only [QF,decide_eq_true_eq] at h;exact h.1
  have f:c=v↔c'=v:=by
   unfold sf at a;split at a
   .rename_i i o j p;by_cases e:i=j/\o=p
    .obtain⟨rfl,rfl⟩:=e;exact SP
    .simp [e] at a
   .cases a
   .cases a
   .rename_i m y u z;by_cases e:m=u
    .subst e;simp at a;have:=g _ a.symm;simp at this;subst this;exact SP
    .simp [e] at a
   .cases a
   .cases a
   .constructor
    .rintro rfl;unfold sd at b;split at b
     .simp_all
     .simp_all
     .cases b
    .rintro rfl;unfold sd at b;split at b
     .simp_all
     .simp_all
     .cases b
  cases k with
  | zero=>simpa using f
  | succ k=>simpa using D3 tl (k:=k) b
def mU(h h':Id->Option ad):Prop:= ∀m,h' m=h m\/(∃cs a,h m=some (.box cs)/\h' m=some (.box a)/\lN cs a=true)\/
 ((∀cs,h m≠some (.box cs))/\(∀cs,h' m≠some (.box cs))/\(∀cs,h m≠some (.cO cs))/\∀cs,h' m≠some (.cO cs))
theorem D8{h h':Id->Option ad}:∀{us:aB},jV h h' us=true->∀p∈us,(∃cs d,h p.1=some (.box cs)/\h' p.1=some (.box d)/\lN cs d=true)\/
  ((∀cs,h p.1≠some (.box cs))/\(∀cs,h' p.1≠some (.box cs))/\(∀cs,h p.1≠some (.cO cs))/\∀cs,h' p.1≠some (.cO cs))
 | [],_,_,f=>by cases f
 | q::us,b,p,f=>by
  unfold jV at b;cases a:sn (h q.1) (h' q.1) with
  | none=>rw [a] at b;cases b
  | some r=>
  rw [a] at b;have tl:jV h h' us=true:=by
   cases r with
   | none=>exact b
   | some r=>simp only [QF] at b;exact b.2
  rcases QN.1 f with rfl | f
  .generalize g:h p.1=x at a;generalize i:h' p.1=y at a;unfold sn at a;split at a
   .rename_i cs d;cases a;simp only [QF] at b;exact .inl ⟨cs,d,rfl,rfl,b.1⟩
   .cases a
   .cases a
   .cases a
   .cases a
   .exact .inr ⟨λcs e=>by simp_all,λcs e=>by simp_all,λcs e=>by simp_all,λcs e=>by simp_all⟩
  .exact D8 tl p f
theorem mU.of{h:Id->Option ad}{us:aB}(d:jV h (aJ h us) us=true):mU h (aJ h us):=by
 intro m;by_cases e:∃p∈us,p.1=m
 .obtain⟨p,a,rfl⟩:=e;exact .inr (D8 d p a)
 .exact .inl (dr λp a b=>e ⟨p,a,b⟩)
theorem mU.load{t:TypeId}{m:Id}{off:Nat}{v:AV}{u:aB}(H:mU s.h s'.h)(b:sd v=true):
  fY P s none t (.ref m off) (λv=>some (v,([]:aB)))=some (v,u)↔fY P s' none t (.ref m off) (λv=>some (v,([]:aB)))=some (v,u):=by
 unfold fY;rcases H m with h | ⟨cs,B,i,j,o⟩ | ⟨p,q,r,z⟩
 .simp only [h]
 .simp only [i,j];cases bX P t with
  | false=>exact SP
  | true=>
   simp only [cond_true];unfold lQ;cases bD P t with
   | true=>
    simp only [cond_true];have no:∀l:List AV,¬((lY (P.cellsOf t) l).bind λl=>some (AV.agg l,([]:aB)))=some (v,u):=λl e=>by obtain⟨x,_,e⟩:=Qz.1 e;simp only [Qy,Rk] at e;rw [<-e.1] at b;cases b
    exact⟨λe=>absurd e (no _),λe=>absurd e (no _)⟩
   | false=>
    simp only [cond_false,List.head?_drop];have key:=D3 o (k:=off) b;constructor <;> intro e
    .obtain⟨x,d,e⟩:=Qz.1 e;simp only [Qy,Rk] at e;obtain⟨rfl,rfl⟩:=e;rw [key.1 d];rfl
    .obtain⟨x,d,e⟩:=Qz.1 e;simp only [Qy,Rk] at e;obtain⟨rfl,rfl⟩:=e;rw [key.2 d];rfl
 .have a:∀(s0:St),(∀cs,s0.h m≠some (.box cs))->(∀cs,s0.h m≠some (.cO cs))->fY P s0 none t (.ref m off) (λv=>some (v,([]:aB)))=none:=λs0 x y=>by
   unfold fY;cases bX P t with
   | false=>rfl
   | true=>
    dsimp only [cond_true];split
    .rename_i cs e;exact absurd e (x cs)
    .rename_i cs e;exact absurd e (y cs)
    .rfl
  have f:=a s p r;have g:=a s' q z;unfold fY at f g;rw [f,g]
theorem DL{o:Oper}(h:nA o=true):o.guard=none/\((∃t x,o.op= .load t (.tmp x))\/∃t x n,o.op= .indexAddr t (.tmp x) n):=by
 unfold nA at h;split at h
 .rename_i t x a b;exact⟨a, .inl ⟨t,x,b⟩⟩
 .rename_i t x n a b;exact⟨a, .inr ⟨t,x,n,b⟩⟩
 .cases h
theorem Gx{b:Oper}(hl:nA b=true){s1 s2:St}(g:∀x∈b.op.operands,∀k,x= .tmp k->s2.t k=s1.t k)(f:pQ b s1=true):cK P An Or none b s2=cK P An Or none b s1:=by
 have a:eu An b=false/\dW An b=false:=by obtain⟨_,⟨t,x,e⟩ | ⟨t,x,n,e⟩⟩:=DL hl <;> simp [eu,dW,e]
 refine iR (s:=s1) (s':=s2) g (.inr (.inr (.inr ⟨a.1,a.2,λx a id d=> ?_⟩)));have:=QU.1 f x (Array.mem_toList_iff.2 a);rw [Sb.1 this] at d;cases d
theorem Gy{b:Oper}(hl:nA b=true){s1 s2:St}(H:An.vo b.dst b.type=true\/(An.vp b.dst b.type=true/\mU s1.h s2.h))(i:∀x∈b.op.operands,∀k,x= .tmp k->s2.t k=s1.t k){v:AV}{u:aB}
  (a:nD An b s1 v=true):cK P An Or none b s1=some (v,u)↔cK P An Or none b s2=some (v,u):=by
 unfold nD at a;simp only [QF] at a;rcases H with h | ⟨j,H⟩
 .have d:=a.1;rw [h,hl] at d;simp only [Bool.and_self,QE,Ri] at d;rw [Gx hl i d]
 replace a:=a.2;rw [j,hl] at a;simp only [Bool.and_self,QE,Ri,Rq] at a;rcases a with d | f
 .rw [Gx hl i d]
 .split at f
  .rename_i t x g;simp only [QF] at f;obtain⟨e,l⟩:=f;unfold DO at e;split at e
   .rename_i m off hm;have o:s2.get none x= .ref m off:=by rw [<-hm];exact mi (i x (by simp [g,Op.operands]))
    unfold cK iq;rw [g];dsimp only;rw [hm,o];exact mU.load H l
   .cases e
  .cases f
theorem yL{o:Oper}{v:AV}(b:∀x∈o.op.operands,s'.get none x=s.get none x)(h:nD An o s v=true):nD An o s' v=true:=by
 have d:pQ o s'=pQ o s:=by
  unfold pQ;rw [Bool.eq_iff_iff,QU,QU];constructor
  .intro h x hm;rw [<-b x (Array.mem_toList_iff.1 hm)];exact h x hm
  .intro h x hm;rw [b x (Array.mem_toList_iff.1 hm)];exact h x hm
 unfold nD at h⊢;rw [d];simp only [QF] at h⊢;refine⟨h.1, ?_⟩;have a:=h.2;simp only [Rq] at a⊢;rcases a with a | a
 .exact .inl a
 .right;split at a
  .rename_i t x e;rw [b x (by simp [e,Op.operands])];exact a
  .cases a
theorem G0{h h':Id->Option ad}:∀{us:aB} {i:Id},(∃p∈us,p.1=i)\/h i=h' i->aJ h us i=aJ h' us i
 | [],i,e=>by
  rcases e with⟨p,a,_⟩ | e
  .cases a
  .exact e
 | q::us,i,e=>by
  obtain⟨j,b⟩:=q;rw [cM,cM];refine G0 ?_;by_cases d:i=j
  .right;subst d;rw [aA,aA]
  .rcases e with⟨p,a,rfl⟩ | e
   .rcases QN.1 a with rfl | a
    .exact absurd rfl d
    .exact .inl ⟨p,a,rfl⟩
   .right;rw [au _ _ d,au _ _ d];exact e
theorem D7{h h' g a:Id->Option ad}:∀{us:aB},(∀p∈us,h p.1=h' p.1/\g p.1=a p.1)->jV h g us=jV h' a us
 | [],_=>rfl
 | p::us,e=>by have d:=D7 (us:=us) λq b=>e q (QB _ b);unfold jV;rw [(e p QA).1,(e p QA).2,d]
theorem D2{o:Oper}{h h':Id->Option ad}{us:aB}(e:∀p∈us,h p.1=h' p.1):iZ An true o h us=iZ An true o h' us:=by unfold iZ;rw [D7 λp a=>⟨e p a,G0 (.inl ⟨p,a,rfl⟩)⟩]
theorem swap{listed:Array Bool}{i j:Nat}{l u:Oper}(hu:pM ops)(hgk:qy ops=true)(Z:ops[i]? =some l)(hj:ops[j]? =some u)(hne:j≠i)(hri:i∈Region.ready .any ops listed)(hrj:j∈Region.ready .any ops listed)
  (hcl:pw ops listed) (hap:l.apart ops u=true) (hcm0':pV P An l u=true\/rp P An ops l u=true) (hG:pA ops listed s) (K:eR P An Or true nt ops l s=some s1) (L:eR P An Or true nt ops u s1=some s2):
  ∃sj,eR P An Or true nt ops u s=some sj/\eR P An Or true nt ops l sj=some s2:=by
 obtain⟨I,vi,C,wi,rfl⟩:=ze K;obtain⟨G,vj,B,wj,rfl⟩:=ze L;obtain⟨hli,oi',hi',hai⟩:=mem_ready.1 hri;rw [Z] at hi';simp only [Qy] at hi';subst hi';obtain⟨hlj,oj',hj',haj⟩:=mem_ready.1 hrj;rw [hj] at hj';simp only [Qy] at hj';subst hj';obtain⟨a1,a2,a3⟩:=Oper.apart_spec hap;have behind:∀(o:Oper) (m:Nat),listed.getD m true=false->(∀e∈o.after,Region.binds .any e=true->listed.getD e.on false=true)->∀e∈o.after,Region.binds .any e=true->¬(e.on=m\/gH ops 12 e.on m=true):=by
  intro o m hlm hall e he hb h;rcases h with h | h
  .exact tp hlm (h▸hall e he hb)
  .have hl:=hall e he hb;cases hk:ops[e.on]? with
   | none=>simp [gH,hk] at h
   | some ok=>rw [w9 hcl hlm hk (hcl e.on ok hk hl)] at h;cases h
 have noti:=behind u i hli haj;have notj:=behind l j hlj hai;have wiok:=wi.ok;have wjok:=wj.ok;simp only [my,QE,Ri,QF] at wiok wjok;obtain⟨⟨⟨i1,i2⟩,i3⟩,⟨⟨⟨⟨⟨⟨i4,i5⟩,i6⟩,i7⟩,i8⟩,i9⟩,i10⟩,i11⟩:=wiok;obtain⟨⟨⟨j1,j2⟩,j3⟩,⟨⟨⟨⟨⟨⟨j4,j5⟩,j6⟩,j7⟩,j8⟩,j9⟩,j10⟩,j11⟩:=wjok;have pli:=zq (g:=I) (v:=vi) (us:=C) hu Z hli hG (dz ops l.dst);have tj:∀k,k∈u.looksAt ops->(s.put (dz ops l.dst) l.dst I vi C).t k=s.t k:=by intro k hk;rw [pli];exact ph (b:=false) λe=>a1 k e hk
 have ti:∀(g:Option Gs) (v:AV) (us:aB) k,k∈l.looksAt ops->(s.put false u.dst g v us).t k=s.t k:=λg v us k hk=>ph (b:=false) λe=>a3 k e hk;have gj':cX ops u s some=some G:=by rw [<-wj.guard];exact(DC λx b d J U=>tj d (Ep J U)).symm
 have getj:∀x∈u.op.operands,(s.put (dz ops l.dst) l.dst I vi C).get G x=s.get G x:=λx z=>mi λk e=>tj k (eY (e▸z));have nj:nH ops G u s=true:=by rw [<-j4];exact(EK getj).symm
 have a2':∀d,u.dst=some d->l.dst≠some d:=λd h h'=>a2 d h' h;have guardA:∀(o:Oper) (g:Option Gs) (s0:St) (k:Nat),fN ops o=some k->cX ops o s0 some=some g->g=none/\eu An o=false/\dW An o=false:=by
  intro o g s0 k h M;unfold fN at h;split at h
  .rename_i J U;unfold cX at M;rw [J] at M;simp only [Qy] at M;exact⟨M.symm,by simp [eu,U],by simp [dW,U]⟩
  .rename_i J U;unfold cX at M;rw [J] at M;simp only [Qy] at M;exact⟨M.symm,by simp [eu,U],by simp [dW,U]⟩
  .cases h
 have al_w:∀o:Oper,ix o=true->aE P An o=false:=by intro o h;cases hop:o.op <;> simp only [ix,hop,Q9] at h <;> simp [aE,hop]
 have w_r:∀o:Oper,aE P An o=false->eu An o=false:=by
  intro o h;cases hr:eu An o with
  | false=>rfl
  | true=>
   exfalso;cases hop:o.op <;> simp only [eu,hop,Q9] at hr;rename_i cl;cases hcal:cl.callee <;> simp only [hcal,Q9] at hr;rename_i fo;simp only [aE,hop,hcal] at h;cases fo with
   | func f=>
    dsimp only at h hr;cases hb:An.gS f with
    | none=>rw [hb] at hr;simp at hr
    | some x=>rw [hb] at h;simp at h
   | _=>dsimp only at h hr;rw [h] at hr;cases hr
 have notmine:∀(o:Oper) (us:aB) (m:Nat) (om:Oper),ops[m]? =some om->(∀e∈o.after,Region.binds .any e=true->¬(e.on=m\/gH ops 12 e.on m=true))->rA ops o us=true->(∀d,om.dst=some d->o.dst≠some d)->∀q∈us,∀d k,om.dst=some d->q.1≠ .s d k:=by
  intro o us m om hm hnot hok hdst q D d k hd e;have J:=QU.1 hok q D;rw [e] at J;simp only [Rq] at J;rcases J with J | J
  .unfold pT at J;have h3:=QU.1 J m (Tt.2 (S0.1 hm).1);rw [hm] at h3;simp only [hd,BEq.rfl,QE,Ri] at h3;obtain⟨e',he,hb⟩:=SM.1 h3;simp only [QF,Rq,beq_iff_eq] at hb;exact hnot e' he hb.1 hb.2
  .exact hdst d hd (by simpa using J)
 have ltd:∀(o:Oper),(match o.dst with | some d=>decide (d < nt) | none=>true)=true->Nat.ble nt 1000000=true->∀d,o.dst=some d->d < 1000000:=by intro o J U d hd;rw [hd] at J;simp only [decide_eq_true_eq] at J;exact RC J (Nat.le_of_ble_eq_true U)
 have guardB:∀(o:Oper) (g:Option Gs) (s0:St) (k:Nat),(fN ops o=some k\/iB ops o=some none)->cX ops o s0 some=some g->g=none:=by
  intro o g s0 k h M;rcases h with h | h
  .exact(guardA o g s0 k h M).1
  .have J:=NY h;unfold cX at M;rw [J] at M;simp only [Qy] at M;exact M.symm
 have three:cK P An Or G u s=some (vj,B)/\cK P An Or I l (s.put false u.dst G vj B)=some (vi,C)/\(∀p∈C,∀q∈B,p.1≠q.1):=by
  rcases hcm0' with hcm | hst
  .skip
   have hcm0:=hcm;unfold pV at hcm0;simp only [QF] at hcm0;obtain⟨⟨hcm1,hcd1⟩,hcd2⟩:=hcm0;have hcm':(aE P An l=false\/eX P u=true\/ix u=true)/\(aE P An u=false\/eX P l=true\/ix l=true):=by simp only [Rv,RD,Bool.and_eq_false_iff,Sx,Rq] at hcm1;exact hcm1
   have hdi:dW An l=false\/B= []:=by
    simp only [Rq,Rv] at hcd1;rcases hcd1 with h | h
    .exact .inl h
    .right;simpa [h] using j7
   have hdj:dW An u=false\/C= []:=by
    simp only [Rq,Rv] at hcd2;rcases hcd2 with h | h
    .exact .inl h
    .right;simpa [h] using i7
   have purei:eX P l=true->C= []:=λh=>by simpa [h] using i6
   have purej:eX P u=true->B= []:=λh=>by simpa [h] using j6
   have opj:cK P An Or G u s=some (vj,B):=by
    have old:eX P u=true\/ix u=true\/aJ s.h C=s.h\/(eu An u=false/\dW An u=false/\∀x∈u.op.operands,∀id∈(s.get G x).ids,aJ s.h C id=s.h id)->cK P An Or G u s=some (vj,B):=by intro h;rw [<-wj.op];exact(iR (s:=s) (s':=s.put (dz ops l.dst) l.dst I vi C) (λx z k e=>tj k (eY (e▸z))) h).symm
    rcases hcm'.1 with hw | F | F
    case inr.inl=>exact old (.inl F)
    case inr.inr=>exact old (.inr (.inl F))
    have Q:jZ l C=true:=by simpa [hw] using i5
    have direct:∀x∈u.op.operands,∀id∈(s.get G x).ids,∀q∈C,q.1≠id:=by intro x z id E q D e;obtain⟨d,k,K,L⟩:=fL Q ⟨q,D,e⟩;subst K;obtain⟨ed,he,hb,ho⟩:=vw nj z E Z L;exact noti ed he hb ho
    rcases hdj with hdj | hdj
    case inr=>exact old (.inr (.inr (.inl (by rw [hdj];rfl))))
    rcases hcm'.2 with hwj | hpi | hai'
    .exact old (.inr (.inr (.inr ⟨w_r u hwj,hdj,λx z id E=>dr λq D e=>direct x z id E q D e⟩)))
    .exact old (.inr (.inr (.inl (by rw [purei hpi];rfl))))
    .cases hwj:aE P An u with
     | false=>exact old (.inr (.inr (.inr ⟨w_r u hwj,hdj,λx z id E=>dr λq D e=>direct x z id E q D e⟩)))
     | true=>
      have hus:rA ops u B=true:=by simpa [hwj] using j8
      refine tU (s:=s.put (dz ops l.dst) l.dst I vi C) (s':=s) (N:=λi=>∃q∈C,q.1=i) (λx z k e=>(tj k (eY (e▸z))).symm) (λi Z=> ?_) hdj (λx z id E=> ?_) (λk=> ?_) (λp F=> ?_) wj.op
      .exact(dr λq D e=>Z ⟨q,D,e⟩).symm
      .rw [getj x z] at E;rintro⟨q,D,e⟩;exact direct x z id E q D e
      .rintro⟨q,D,e⟩;obtain⟨d,k',K,L⟩:=fL Q ⟨q,D,e⟩;simp only [Id.s.injEq] at K;have h:=ltd l i1 i9 d L;rw [<-K.1] at h;exact absurd h (TN.2 (Rt (by decide) (SX 2000000 _)))
      .rintro⟨q,D,e⟩;obtain⟨d,k',K,L⟩:=fL Q ⟨q,D,rfl⟩;exact notmine u B i l Z noti hus a2 p F d k' L (by rw [<-e,K])
   have opi:cK P An Or I l (s.put false u.dst G vj B)=some (vi,C):=by
    have old:eX P l=true\/ix l=true\/aJ s.h B=s.h\/(eu An l=false/\dW An l=false/\∀x∈l.op.operands,∀id∈(s.get I x).ids,aJ s.h B id=s.h id)->cK P An Or I l (s.put false u.dst G vj B)=some (vi,C):=by intro h;rw [<-wi.op];exact iR (λx z k e=>ti _ _ _ k (eY (e▸z))) h
    rcases hcm'.2 with hw | F | F
    case inr.inl=>exact old (.inl F)
    case inr.inr=>exact old (.inr (.inl F))
    have Q:jZ u B=true:=by simpa [hw] using j5
    have direct:∀x∈l.op.operands,∀id∈(s.get I x).ids,∀q∈B,q.1≠id:=by intro x z id E q D e;obtain⟨d,k,K,L⟩:=fL Q ⟨q,D,e⟩;subst K;obtain⟨ed,he,hb,ho⟩:=vw i4 z E hj L;exact notj ed he hb ho
    rcases hdi with hdi | hdi
    case inr=>exact old (.inr (.inr (.inl (by rw [hdi];rfl))))
    rcases hcm'.1 with hwi | hpj | haj'
    .exact old (.inr (.inr (.inr ⟨w_r l hwi,hdi,λx z id E=>dr λq D e=>direct x z id E q D e⟩)))
    .exact old (.inr (.inr (.inl (by rw [purej hpj];rfl))))
    .cases hwi:aE P An l with
     | false=>exact old (.inr (.inr (.inr ⟨w_r l hwi,hdi,λx z id E=>dr λq D e=>direct x z id E q D e⟩)))
     | true=>
      have hus:rA ops l C=true:=by simpa [hwi] using i8
      refine tU (s:=s) (s':=s.put false u.dst G vj B) (N:=λi=>∃q∈B,q.1=i) (λx z k e=>ti _ _ _ k (eY (e▸z))) (λi Z=> ?_) hdi (λx z id E=> ?_) (λk=> ?_) (λp F=> ?_) wi.op
      .exact dr λq D e=>Z ⟨q,D,e⟩
      .rintro⟨q,D,e⟩;exact direct x z id E q D e
      .rintro⟨q,D,e⟩;obtain⟨d,k',K,L⟩:=fL Q ⟨q,D,e⟩;simp only [Id.s.injEq] at K;have h:=ltd u j1 j9 d L;rw [<-K.1] at h;exact absurd h (TN.2 (Rt (by decide) (SX 2000000 _)))
      .rintro⟨q,D,e⟩;obtain⟨d,k',K,L⟩:=fL Q ⟨q,D,rfl⟩;exact notmine l C j u hj notj hus a2' p F d k' L (by rw [<-e,K])
   have disj:∀p∈C,∀q∈B,p.1≠q.1:=by
    intro p F q D e;rcases hcm'.1 with hw | hpj | haj'
    .rcases hcm'.2 with hw' | hpi | hai'
     .obtain⟨d,k,K,L⟩:=fL (by simpa [hw] using i5:jZ l C=true) ⟨p,F,rfl⟩;obtain⟨d',k',e3,e4⟩:=fL (by simpa [hw'] using j5:jZ u B=true) ⟨q,D,rfl⟩;rw [K,e3] at e;simp only [Id.s.injEq] at e;obtain⟨rfl,_⟩:=e;exact a2 d L e4
     .rw [purei hpi] at F;cases F
     .obtain⟨d,k,K,L⟩:=fL (by simpa [hw] using i5:jZ l C=true) ⟨p,F,rfl⟩;cases hwj:aE P An u with
      | false=>obtain⟨d',k',e3,e4⟩:=fL (by simpa [hwj] using j5:jZ u B=true) ⟨q,D,rfl⟩;rw [K,e3] at e;simp only [Id.s.injEq] at e;obtain⟨rfl,_⟩:=e;exact a2 d L e4
      | true=>exact notmine u B i l Z noti (by simpa [hwj] using j8) a2 q D d k L (by rw [<-e,K])
    .rw [purej hpj] at D;cases D
    .obtain⟨d,k,K,L⟩:=fL (by simpa [al_w u haj'] using j5:jZ u B=true) ⟨q,D,rfl⟩;cases hwi:aE P An l with
     | false=>obtain⟨d',k',e3,e4⟩:=fL (by simpa [hwi] using i5:jZ l C=true) ⟨p,F,rfl⟩;rw [K,e3] at e;simp only [Id.s.injEq] at e;obtain⟨rfl,_⟩:=e;exact a2 d' e4 L
     | true=>exact notmine l C j u hj notj (by simpa [hwi] using i8) a2' p F d k L (by rw [e,K])
   exact⟨opj,opi,disj⟩
  .have hst3:((((jG An ops l u=true\/iz P An ops l u=true)\/iz P An ops u l=true)\/(lb P An ops l u=true\/lb P An ops u l=true))\/(ku P An ops l u=true\/ku P An ops u l=true))\/(rq An l u=true\/rq An u l=true):=by
    unfold rp at hst;simpa only [Rq] using hst
   rcases hst3 with hst2 | hst6
   case inr=>
    have lq:∀o,nA o=true->o.guard=none/\mB P An o=true/\eX P o=false:=λo h=>by
     obtain⟨J,⟨t,x,U⟩ | ⟨t,x,n,U⟩⟩:=DL h
     .exact⟨J,by simp [mB,U],by simp [eX,U]⟩
     .exact⟨J,by simp [mB,U],by simp [eX,U]⟩
    have gn:∀(o:Oper) (g:Option Gs) (s0:St),o.guard=none->cX ops o s0 some=some g->g=none:=by intro o g s0 J M;unfold cX at M;rw [J] at M;simp only [Qy] at M;exact M.symm
    have kp:∀(o:Oper) (h0:Id->Option ad) (us:aB),An.pU o.dst o.type=true->iZ An true o h0 us=true->mU h0 (aJ h0 us):=λo h0 us J U=>by unfold iZ at U;rw [J] at U;exact mU.of (by simpa using U)
    rcases hst6 with h6 | h6
    .simp only [rq,QF] at h6;obtain⟨hlx,hil⟩:=h6;simp only [Rq,QF] at hlx;obtain⟨gdj,qj,_⟩:=lq u hil;have gnj:=gn u G s gdj gj';have uj:B= []:=by simpa [qj] using j7
     have ejop:=wj.op;rw [gnj] at ejop;refine⟨?_, ?_,λp F q D=>by rw [uj] at D;cases D⟩
     .rw [gnj];refine(Gy hil (hlx.symm.imp id λh=>⟨h.2,kp l s.h C h.1 wi.dL⟩) (λx z k e=> ?_) ?_).2 ejop
      .exact tj k (eY (e▸z))
      .refine yL (λx z=> ?_) j11;have h:=getj x z;rw [gnj] at h;exact h.symm
     .rw [<-wi.op];exact iR (λx z k e=>ti _ _ _ k (eY (e▸z))) (.inr (.inr (.inl (by rw [uj];rfl))))
    .simp only [rq,QF] at h6;obtain⟨hlx,hil⟩:=h6;simp only [Rq,QF] at hlx;obtain⟨gdi,qi,_⟩:=lq l hil;have gni:=gn l I s gdi wi.guard;have ui:C= []:=by simpa [qi] using i7
     have eiop:=wi.op;rw [gni] at eiop;have opj:cK P An Or G u s=some (vj,B):=by rw [<-wj.op];exact(iR (s:=s) (s':=s.put (dz ops l.dst) l.dst I vi C) (λx z k e=>tj k (eY (e▸z))) (.inr (.inr (.inl (by rw [ui];rfl))))).symm
     refine⟨opj, ?_,λp F=>by rw [ui] at F;cases F⟩;rw [gni];have hk:iZ An true u s.h B=true:=by have:=wj.dL;rw [ui] at this;exact this
     exact(Gy hil (hlx.symm.imp id λh=>⟨h.2,kp u s.h B h.1 hk⟩) (λx z k e=>ti _ _ _ k (eY (e▸z))) i11).1 eiop
   rcases hst2 with hst1 | hst5
   case inr=>
    have ixq:∀o,vd P o=true->o.guard=none/\mB P An o=true/\eX P o=false:=λo h=>by
     obtain⟨a,J,⟨t,e,n,U,_⟩ | ⟨t,U⟩⟩:=yB h
     .exact⟨J,by simp [mB,U],by simp [eX,U]⟩
     .exact⟨J,by simp [mB,U],by simp [eX,U]⟩
    have gn:∀(o:Oper) (g:Option Gs) (s0:St),o.guard=none->cX ops o s0 some=some g->g=none:=by intro o g s0 J M;unfold cX at M;rw [J] at M;simp only [Qy] at M;exact M.symm
    have stg:∀o,(iY P o true=true\/iY P o false=true)->o.guard=none/\eu An o=false/\dW An o=false:=λo h=>by
     obtain⟨t,a,y,J,U⟩:∃t a y,o.guard=none/\o.op= .store t (.tmp a) y:=by rcases h with h | h <;> exact oY h
     exact⟨J,by simp [eu,U],by simp [dW,U]⟩
    rcases hst5 with h5 | h5
    .have h5':=h5;simp only [ku,QF,Rq] at h5';obtain⟨gdi,ri,di⟩:=stg l h5'.1.2;obtain⟨gdj,qj,_⟩:=ixq u h5'.2;have gni:=gn l I s gdi wi.guard;have gnj:=gn u G s gdj gj';have uj:B= []:=by simpa [qj] using j7
     have eiop:=wi.op;have ejop:=wj.op;rw [gni] at eiop;rw [gnj] at ejop;have hget:∀x∈u.op.operands,(s.put (dz ops l.dst) l.dst I vi C).get none x=s.get none x:=λx z=>by have:=getj x z;rwa [gnj] at this
     refine⟨?_, ?_,λp F q D=>by rw [uj] at D;cases D⟩
     .rw [gnj];exact(Gw h5 (Rd Z) (Rd hj) eiop i10 j10 rfl hget hget _).2 ejop
     .rw [<-wi.op];exact iR (λx z k e=>ti _ _ _ k (eY (e▸z))) (.inr (.inr (.inl (by rw [uj];rfl))))
    .have h5':=h5;simp only [ku,QF,Rq] at h5';obtain⟨gdj,rj,dj⟩:=stg u h5'.1.2;obtain⟨gdi,qi,_⟩:=ixq l h5'.2;have gni:=gn l I s gdi wi.guard;have gnj:=gn u G s gdj gj';have ui:C= []:=by simpa [qi] using i7
     have eiop:=wi.op;rw [gni] at eiop;have opj:cK P An Or G u s=some (vj,B):=by rw [<-wj.op];exact(iR (s:=s) (s':=s.put (dz ops l.dst) l.dst I vi C) (λx z k e=>tj k (eY (e▸z))) (.inr (.inr (.inl (by rw [ui];rfl))))).symm
     have geti:∀x∈l.op.operands,(s.put false u.dst G vj B).get none x=s.get none x:=λx z=>mi λk e=>ti _ _ _ k (eY (e▸z));have okj:jH P An ops u s B=true:=by
      refine zW (λk hk=> ?_) (λk hk x z=> ?_) (λM x z=> ?_) j10
      .rw [pli];exact(ph (b:=false) λe=>hk (oK e ops.toList (Array.mem_toList_iff.2 (Rd Z)))).symm
      .have h:=getj x z;rw [gnj] at h;exact h.symm
      .have h:=getj x z;rw [gnj] at h;exact h.symm
     refine⟨opj, ?_,λp F=>by rw [ui] at F;cases F⟩;rw [gni];rw [gnj] at opj;exact(Gw h5 (Rd hj) (Rd Z) opj okj i10 rfl geti (λ_ _=>rfl) _).1 eiop
   have hst1:=hst1;rcases hst1 with hst0 | hst4
   case inr=>
    have both:∀o,(iY P o true=true\/iY P o false=true)->∃t a y,o.guard=none/\o.op= .store t (.tmp a) y:=λo h=>by
     rcases h with h | h
     .exact oY h
     .exact oY h
    have si:(iY P l true=true\/iY P l false=true)/\(iY P u true=true\/iY P u false=true):=by
     rcases hst4 with h | h <;> simp only [lb,QF] at h
     .exact⟨.inl h.1.2, .inr h.2⟩
     .exact⟨.inr h.2, .inl h.1.2⟩
    obtain⟨ti',xi,yi,gdi,opi'⟩:=both l si.1;obtain⟨tj',xj,yj,gdj,opj'⟩:=both u si.2;have hki:fN ops l=some (qP ops xi):=by simp [fN,gdi,opi']
    have hkj:fN ops u=some (qP ops xj):=by simp [fN,gdj,opj']
    obtain⟨gni,ri,di⟩:=guardA l I s _ hki wi.guard;obtain⟨gnj,rj,dj⟩:=guardA u G s _ hkj gj';have eiop:=wi.op;have ejop:=wj.op;rw [gni] at eiop;rw [gnj] at ejop;have hres:(∀p∈C,∀q∈B,p.1≠q.1)/\(∀x∈l.op.operands,∀i∈(s.get none x).ids,∃p∈C,p.1=i)/\(∀x∈u.op.operands,∀i∈((s.put (dz ops l.dst) l.dst I vi C).get none x).ids,∃p∈B,p.1=i):=by
     rcases hst4 with h | h
     .exact Gv h (Rd Z) (Rd hj) eiop ejop i10 j10 (.inl rfl)
     .obtain⟨r1,r2,r3⟩:=Gv h (Rd hj) (Rd Z) ejop eiop j10 i10 (.inr rfl);exact⟨λp F q D e=>r1 q D p F e.symm,r3,r2⟩
    obtain⟨d1,d2,d3⟩:=hres;refine⟨?_, ?_,d1⟩
    .rw [<-wj.op];refine(iR (s:=s) (s':=s.put (dz ops l.dst) l.dst I vi C) (λx z k e=>tj k (eY (e▸z))) (.inr (.inr (.inr ⟨rj,dj,λx z id E=> ?_⟩)))).symm;refine dr λq D e=> ?_;rw [<-getj x z,gnj] at E;obtain⟨p,F,L⟩:=d3 x z id E;exact d1 q D p F (e.trans L.symm)
    .rw [<-wi.op];refine iR (λx z k e=>ti _ _ _ k (eY (e▸z))) (.inr (.inr (.inr ⟨ri,di,λx z id E=> ?_⟩)));refine dr λq D e=> ?_;rw [gni] at E;obtain⟨p,F,L⟩:=d2 x z id E;exact d1 p F q D (L.trans e.symm)
   have tk:∀k,k∉fT ops.toList->(s.put (dz ops l.dst) l.dst I vi C).t k=s.t k:=λk dk=>by rw [pli];exact ph (b:=false) λe=>dk (oK e ops.toList (Array.mem_toList_iff.2 (Rd Z)))
   have gnone:∀(o:Oper) (g:Option Gs) (s0:St),o.guard=none->cX ops o s0 some=some g->g=none:=by intro o g s0 J M;unfold cX at M;rw [J] at M;simp only [Qy] at M;exact M.symm
   rcases hst0 with(hst | hld) | hld
   rotate_left
   ·
    obtain⟨ga,wa,ra,da⟩:=Ed hld;obtain⟨rb',hrb'⟩:∃r,iB ops u=some r:=by rcases sB hld with⟨k,hk,_⟩ | hk <;> exact⟨_,hk⟩
    obtain⟨gb,wb,rb,db⟩:=FE (P:=P) (An:=An) (Ee hld) hrb';have gni:=gnone l I s ga wi.guard;have gnj:=gnone u G s gb gj';have Q:jZ u B=true:=by simpa [wb] using j5
    have hus:rA ops l C=true:=by simpa [wa] using i8
    have hap2:=Ef hld (Rd Z) (Rd hj) i10 j10 (λk hk=>by rw [tk k hk]);refine⟨?_, ?_, ?_⟩
    .rw [<-wj.op];refine(iR (s:=s) (s':=s.put (dz ops l.dst) l.dst I vi C) (λx z k e=>tj k (eY (e▸z))) (.inr (.inr (.inr ⟨rb,db,λx z id E=> ?_⟩)))).symm;refine dr λq D e=> ?_;rw [<-getj x z,gnj] at E;exact hap2 x z id E q D e
    .refine tU (s:=s) (s':=s.put false u.dst G vj B) (N:=λi=>∃q∈B,q.1=i) (λx z k e=>ti _ _ _ k (eY (e▸z))) (λi Z=> ?_) da (λx z id E=> ?_) (λk=> ?_) (λp F=> ?_) wi.op
     .exact dr λq D e=>Z ⟨q,D,e⟩
     .rintro⟨q,D,e⟩;obtain⟨d,k,K,L⟩:=fL Q ⟨q,D,e⟩;subst K;obtain⟨ed,he,hb,ho⟩:=vw i4 z E hj L;exact notj ed he hb ho
     .rintro⟨q,D,e⟩;obtain⟨d,k',K,L⟩:=fL Q ⟨q,D,e⟩;simp only [Id.s.injEq] at K;have h:=ltd u j1 j9 d L;rw [<-K.1] at h;exact absurd h (TN.2 (Rt (by decide) (SX 2000000 _)))
     .rintro⟨q,D,e⟩;obtain⟨d,k',K,L⟩:=fL Q ⟨q,D,rfl⟩;exact notmine l C j u hj notj hus a2' p F d k' L (by rw [<-e,K])
    .intro p F q D e;obtain⟨d,k,K,L⟩:=fL Q ⟨q,D,rfl⟩;exact notmine l C j u hj notj hus a2' p F d k L (by rw [e,K])
   ·
    obtain⟨ga,wa,ra,da⟩:=Ed hld;obtain⟨rb',hrb'⟩:∃r,iB ops l=some r:=by rcases sB hld with⟨k,hk,_⟩ | hk <;> exact⟨_,hk⟩
    obtain⟨gb,wb,rb,db⟩:=FE (P:=P) (An:=An) (Ee hld) hrb';have gni:=gnone l I s gb wi.guard;have gnj:=gnone u G s ga gj';have Q:jZ l C=true:=by simpa [wb] using i5
    have hus:rA ops u B=true:=by simpa [wa] using j8
    have hap2:=Ef hld (Rd hj) (Rd Z) j10 i10 (λk hk=>by rw [tk k hk]);refine⟨?_, ?_, ?_⟩
    .refine tU (s:=s.put (dz ops l.dst) l.dst I vi C) (s':=s) (N:=λi=>∃q∈C,q.1=i) (λx z k e=>(tj k (eY (e▸z))).symm) (λi Z=> ?_) da (λx z id E=> ?_) (λk=> ?_) (λp F=> ?_) wj.op
     .exact(dr λq D e=>Z ⟨q,D,e⟩).symm
     .rw [getj x z] at E;rintro⟨q,D,e⟩;obtain⟨d,k,K,L⟩:=fL Q ⟨q,D,e⟩;subst K;obtain⟨ed,he,hb,ho⟩:=vw nj z E Z L;exact noti ed he hb ho
     .rintro⟨q,D,e⟩;obtain⟨d,k',K,L⟩:=fL Q ⟨q,D,e⟩;simp only [Id.s.injEq] at K;have h:=ltd l i1 i9 d L;rw [<-K.1] at h;exact absurd h (TN.2 (Rt (by decide) (SX 2000000 _)))
     .rintro⟨q,D,e⟩;obtain⟨d,k',K,L⟩:=fL Q ⟨q,D,rfl⟩;exact notmine u B i l Z noti hus a2 p F d k' L (by rw [<-e,K])
    .rw [<-wi.op];refine iR (λx z k e=>ti _ _ _ k (eY (e▸z))) (.inr (.inr (.inr ⟨rb,db,λx z id E=> ?_⟩)));refine dr λq D e=> ?_;rw [gni] at E;exact hap2 x z id E q D e
    .intro p F q D e;obtain⟨d,k,K,L⟩:=fL Q ⟨p,F,rfl⟩;exact notmine u B i l Z noti hus a2 q D d k L (by rw [<-e,K])
   obtain⟨k,k',sk,sk',nek,dk,dk'⟩:=zV hst;obtain⟨gni,ri,di⟩:=guardA l I s k sk wi.guard;obtain⟨gnj,rj,dj⟩:=guardA u G s k' sk' gj';have hst':jG An ops u l=true:=PX hst;obtain⟨p1,p2,p3⟩:=Gz i10 (Rd hj) hst sk sk';obtain⟨q1,q2,q3⟩:=Gz j10 (Rd Z) hst' sk' sk;replace tk:=tk k dk;have tk':(s.put (dz ops l.dst) l.dst I vi C).t k'=s.t k':=by rw [pli];exact ph (b:=false) λe=>dk' (oK e ops.toList (Array.mem_toList_iff.2 (Rd Z)))
   rw [tk] at q3;rw [tk'] at q2;refine⟨?_, ?_,λp F q D e=>q3 q D (e▸p2 p F)⟩
   .rw [<-wj.op];refine(iR (s:=s) (s':=s.put (dz ops l.dst) l.dst I vi C) (λx z k e=>tj k (eY (e▸z))) (.inr (.inr (.inr ⟨rj,dj,λx z id E=> ?_⟩)))).symm;refine dr λq D e=> ?_;rw [<-getj x z,gnj] at E;have:=q1 x z id E;rw [tk'] at this;exact p3 q D (e▸this)
   .rw [<-wi.op];refine iR (λx z k e=>ti _ _ _ k (eY (e▸z))) (.inr (.inr (.inr ⟨ri,di,λx z id E=> ?_⟩)));refine dr λq D e=> ?_;rw [gni] at E;exact q3 q D (e▸p1 x z id E)
 obtain⟨opj,opi,disj⟩:=three;have sj10:jH P An ops u s B=true:=by
  refine zW (λk hk=> ?_) (λk hk x z=> ?_) (λM x z=> ?_) j10
  .rw [pli];exact(ph (b:=false) λe=>hk (oK e ops.toList (Array.mem_toList_iff.2 (Rd Z)))).symm
  .have:=guardB u G s k hk gj';have h:=getj x z;rw [this] at h;exact h.symm
  .have hgn:G=none:=by
    have h:=gj';unfold cX at h;rw [M] at h;simp only [Qy] at h;exact h.symm
   have h:=getj x z;rw [hgn] at h;exact h.symm
 have frj:gW (u.dst.getD 0) s.h B=true:=by
  unfold gW at j3⊢;refine QU.2 λp F=> ?_;have:=QU.1 j3 p F;split at this
  .simp only [Rq,SJ] at this⊢;rcases this with h | h
   .exact .inl h
   .exact .inr (wH h).2
  .rfl
  .cases this
 have lj11:nD An u s vj=true:=by refine yL (λx z=> ?_) j11;exact(mi λk e=>tj k (eY (e▸z))).symm
 have kj:iZ An true u s.h B=true:=by refine(D2 λp F=> ?_).trans wj.dL;show s.h p.1=aJ s.h C p.1;rw [dr λq D e=>disj q D p F e]
 have wj0:rJ P An Or nt ops u s G vj B:=⟨gj',opj,by
  simp only [my,QE,Ri,QF];exact⟨⟨⟨j1,j2⟩,frj⟩,⟨⟨⟨⟨⟨⟨nj,j5⟩,j6⟩,j7⟩,j8⟩,j9⟩,sj10⟩,lj11⟩,kj⟩
 have plj:=zq (g:=G) (v:=vj) (us:=B) hu hj hlj hG (dz ops u.dst);refine⟨_,wj0.eR, ?_⟩;rw [plj];have gi':cX ops l (s.put false u.dst G vj B) some=some I:=by rw [<-wi.guard];exact DC λx b d J U=>ti _ _ _ d (Ep J U)
 have geti:∀x∈l.op.operands,(s.put false u.dst G vj B).get I x=s.get I x:=λx z=>mi λk e=>ti _ _ _ k (eY (e▸z));have ni:nH ops I l (s.put false u.dst G vj B)=true:=by rw [<-i4];exact EK geti
 have fri:gW (l.dst.getD 0) (s.put false u.dst G vj B).h C=true:=by
  unfold gW at i3⊢;refine QU.2 λp F=> ?_;have:=QU.1 i3 p F;split at this
  .rename_i d k ep;simp only [Rq,SJ] at this⊢;rcases this with h | h
   .exact .inl h
   .right;show aJ s.h B p.1=none;rw [dr λq D e=>disj p F q D e.symm];exact h
  .rfl
  .cases this
 have si10:jH P An ops l (s.put false u.dst G vj B) C=true:=by
  refine zW (λk hk=> ?_) (λk hk x z=> ?_) (λM x z=> ?_) i10
  .exact ph (b:=false) λe=>hk (oK e ops.toList (Array.mem_toList_iff.2 (Rd hj)))
  .have:=guardB l I s k hk wi.guard;have h:=geti x z;rw [this] at h;exact h
  .have hgn:I=none:=by
    have h:=wi.guard;unfold cX at h;rw [M] at h;simp only [Qy] at h;exact h.symm
   have h:=geti x z;rw [hgn] at h;exact h
 have li11:nD An l (s.put false u.dst G vj B) vi=true:=by refine yL (λx z=> ?_) i11;exact mi λk e=>ti _ _ _ k (eY (e▸z))
 have ki:iZ An true l (s.put false u.dst G vj B).h C=true:=by refine(D2 λp F=> ?_).trans wi.dL;show aJ s.h B p.1=s.h p.1;rw [dr λq D e=>disj p F q D e.symm]
 have wi0:rJ P An Or nt ops l (s.put false u.dst G vj B) I vi C:=⟨gi',opi,by
  simp only [my,QE,Ri,QF];exact⟨⟨⟨i1,i2⟩,fri⟩,⟨⟨⟨⟨⟨⟨ni,i5⟩,i6⟩,i7⟩,i8⟩,i9⟩,si10⟩,li11⟩,ki⟩
 rw [wi0.eR,pli];have dij:∀d,l.dst=some d->u.dst≠some d:=a2;have dG:∀(g:Option Gs) (o:Oper) (m:Nat) (om:Oper),ops[m]? =some om->listed.getD m true=false->cX ops o s some=some g->o∈ops->(∀e∈o.after,Region.binds .any e=true->listed.getD e.on false=true)->∀gs,g=some gs->om.dst≠some gs.d:=by
  intro g o m om hom hlm V hmem hall gs hgs hd;unfold cX at V;cases hog:o.guard with
  | none=>rw [hog] at V;simp only [Qy] at V;rw [hgs] at V;cases V
  | some p=>
   obtain⟨jj,b⟩:=p;rw [hog] at V;simp only at V;cases hdd:(ops[jj]?).bind (·.dst) with
   | none=>rw [hdd] at V;simp at V
   | some d=>
    rw [hdd] at V;simp only at V;replace V:=Qz.1 V;obtain⟨x,_,V⟩:=V;obtain⟨bb,V,_⟩:=oV V;simp only [Qy] at V;rw [hgs] at V;simp only [Qy] at V;have hgd:gs.d=d:=by rw [<-V]
    rw [hgd] at hd;obtain⟨ojj,J,U⟩:=Qz.1 hdd;have:=hu hom J hd U;subst this;have hge:=Rp.1 hgk o hmem;rw [hog] at hge;simp only at hge;obtain⟨e,he,hb⟩:=SM.1 hge;simp only [QF,beq_iff_eq] at hb;exact tp hlm (hb.2▸hall e he hb.1)
 have nogi:=dG I l j u hj hlj wi.guard (Rd Z) hai;have nogj:=dG G u i l Z hli gj' (Rd hj) haj;have nos:∀(m:Nat) (om:Oper),ops[m]? =some om->listed.getD m true=false->∀k g v,s.t k= (some g,v)->om.dst≠some g.d:=by intro m om hom hlm k g v hst hd;obtain⟨x,ox,J,U,h3⟩:=hG k g v hst;have:=hu hom J hd h3;subst this;exact tp hlm U
 have tcomm:∀(bi bj:Bool),((s.put false u.dst G vj B).put bi l.dst I vi C).t= ((s.put false l.dst I vi C).put bj u.dst G vj B).t:=by
  intro bi bj;funext k;cases hdi:l.dst with
  | none=>
   cases hdj:u.dst with
   | none=>rfl
   | some dj=>
    simp only [St.put];by_cases ek:k=dj
    .simp [ek]
    .simp only [if_neg ek,cond_false];cases bj with
     | false=>rfl
     | true=>
      simp only [cond_true];cases hst:s.t k with
      | mk gk vk=>
       cases gk with
       | none=>rfl
       | some gk=>
        have:=nos j u hj hlj k gk vk hst;rw [hdj] at this;have hb:(gk.d==dj)=false:=by simp only [beq_eq_false_iff_ne,ne_eq];exact λe=>this (by rw [e])
        simp [lG,hb]
  | some di=>
   cases hdj:u.dst with
   | none=>
    simp only [St.put];by_cases ek:k=di
    .simp [ek]
    .simp only [if_neg ek,cond_false];cases bi with
     | false=>rfl
     | true=>
      simp only [cond_true];cases hst:s.t k with
      | mk gk vk=>
       cases gk with
       | none=>rfl
       | some gk=>
        have:=nos i l Z hli k gk vk hst;rw [hdi] at this;have hb:(gk.d==di)=false:=by simp only [beq_eq_false_iff_ne,ne_eq];exact λe=>this (by rw [e])
        simp [lG,hb]
   | some dj=>
    have hne':di≠dj:=λe=>dij di hdi (by rw [hdj,e]);simp only [St.put];have drop1:∀(b:Bool) (g:Option Gs) (v:AV) (d:Nat),(∀gs,g=some gs->gs.d≠d)->cond b (lG d (g,v)) (g,v)= (g,v):=by
     intro b g v d M;cases b with
     | false=>rfl
     | true=>
      cases g with
      | none=>rfl
      | some gs=>
       have hb:(gs.d==d)=false:=by simpa using M gs rfl
       simp [lG,hb]
    by_cases eki:k=di
    .subst eki;simp only [if_true,if_neg hne',cond_false];rw [drop1 bj I vi dj λgs e h=>nogi gs e (by rw [hdj,h])]
    .by_cases ekj:k=dj
     .subst ekj;simp only [if_true,if_neg eki,cond_false];rw [drop1 bi G vj di λgs e h=>nogj gs e (by rw [hdi,h])]
     .simp only [if_neg eki,if_neg ekj,cond_false];cases hst:s.t k with
      | mk gk vk=>rw [drop1 bi gk vk di λgs e h=>by subst e;exact nos i l Z hli k gs vk hst (by rw [hdi,h]),drop1 bj gk vk dj λgs e h=>by subst e;exact nos j u hj hlj k gs vk hst (by rw [hdj,h])]
 have:∀(bi bj:Bool),(s.put false u.dst G vj B).put bi l.dst I vi C= (s.put false l.dst I vi C).put bj u.dst G vj B:=by
  intro bi bj;have ht:=tcomm bi bj;have hh:((s.put false u.dst G vj B).put bi l.dst I vi C).h= ((s.put false l.dst I vi C).put bj u.dst G vj B).h:=by show aJ (aJ s.h B) C=aJ (aJ s.h C) B;exact(Qq disj).symm
  generalize (s.put false u.dst G vj B).put bi l.dst I vi C=X at *
  generalize (s.put false l.dst I vi C).put bj u.dst G vj B=Y at *
  cases X;cases Y;simp only at ht hh;rw [ht,hh]
 rw [this]
theorem KZ{o:Oper}{l:Gs}{f:Array Bool}(v:qy ops=true)(a:cX ops o s some=some (some l))(r:o∈ops)(m:∀e∈o.after,Region.binds .any e=true->f.getD e.on false=true):
  ∃i y,ops[i]? =some y/\f.getD i false=true/\y.dst=some l.d:=by
 unfold cX at a;cases k:o.guard with
 | none=>rw [k] at a;simp at a
 | some p=>
  obtain⟨jj,b⟩:=p;rw [k] at a;simp only at a;cases g:(ops[jj]?).bind (·.dst) with
  | none=>rw [g] at a;simp at a
  | some d=>
   rw [g] at a;simp only at a;replace a:=Qz.1 a;obtain⟨x,_,a⟩:=a;obtain⟨bb,a,_⟩:=oV a;simp only [Qy] at a;have u:l.d=d:=by rw [<-a]
   obtain⟨z,B,C⟩:=Qz.1 g;have j:=Rp.1 v o r;rw [k] at j;simp only at j;obtain⟨e,D,q⟩:=SM.1 j;simp only [QF,beq_iff_eq] at q;exact⟨jj,z,B,q.2▸m e D q.1,by rw [u];exact C⟩
theorem Dz{a:Array Bool}{i:Nat}{r:Oper}(J:pM ops)(D:qy ops=true)(q:ops[i]? =some r)(F:i∈Region.ready .any ops a)(z:pA ops a s)(e:eR P An Or true nt ops r s=some s1):
  pA ops (a.setIfInBounds i true) s1:=by
 obtain⟨g,v,us,K,rfl⟩:=ze e;obtain⟨E,L,f,B⟩:=mem_ready.1 F;rw [q] at f;simp only [Qy] at f;subst f;rw [zq J q E z];have j:∀k g v,s.t k= (some g,v)->∃i' o,ops[i']? =some o/\(a.setIfInBounds i true).getD i' false=true/\o.dst=some g.d:=by intro k g v G;obtain⟨x,u,l,m,p⟩:=z k g v G;exact⟨x,u,l,getD_set_true m,p⟩
 intro k y I b;unfold St.put at b;cases C:r.dst with
 | none=>rw [C] at b;exact j k y I b
 | some d=>
  rw [C] at b;dsimp only at b;split at b
  .simp only [Rk] at b;obtain⟨x,u,l,m,p⟩:=KZ D (by rw [<-b.1];exact K.guard) (Rd q) B;exact⟨x,u,l,getD_set_true m,p⟩
  .exact j k y I b
def rM(P:Program)(An:cA)(Or:aq)(nt:Nat)(ops:Array Oper)(Q:St->Prop):Nat->Array Bool->St->Prop
 | 0,a,s=>Region.ready .any ops a= []/\Q s
 | n+1,a,s=>(Region.ready .any ops a= []->Q s)/\∀i∈Region.ready .any ops a,∃o s1,ops[i]? =some o/\eR P An Or true nt ops o s=some s1/\rM P An Or nt ops Q n (a.setIfInBounds i true) s1
theorem HI{n j i:Nat}{b:Oper}(g:ops[j]? =some b)(h:gH ops (n+1) j i=false):∀e∈b.after,Region.binds .any e=true->e.on≠i:=by intro e f d a;simp only [gH,g] at h;rw [Array.any_eq_false'] at h;exact h e f (by simp [d,a])
theorem Bc{a:Array Bool}{j:Nat}(i:pw ops a)(p:j∈Region.ready .any ops a):pw ops (a.setIfInBounds j true):=by
 intro k ok m hl e l g;obtain⟨q,r,b,f⟩:=mem_ready.1 p;refine getD_set_true ?_;by_cases d:j=k
 .subst d;rw [m] at b;simp only [Qy] at b;subst b;exact f e l g
 .have o:a.getD k false=true:=by
   rw [RY,Ti d] at hl;rw [RY];exact hl
  exact i k ok m o e l g
theorem Hg{Q:St->Prop}{i:Nat}{d:Oper}(K:pM ops)(v:qy ops=true)(C:ops[i]? =some d):∀(ju:Nat) (a:Array Bool) (s s1:St),
  (∀j o,ops[j]? =some o->j≠i->a.getD j true=false->gH ops 12 j i=false->d.apart ops o=true/\(pV P An d o=true\/rp P An ops d o=true))->pw ops a->
  i∈Region.ready .any ops a->pA ops a s->eR P An Or true nt ops d s=some s1->rM P An Or nt ops Q ju (a.setIfInBounds i true) s1->rM P An Or nt ops Q (ju+1) a s:=by
 intro ju;induction ju with
 | zero=>
  intro a s s1 _ _ g z e H;refine⟨λh=>(by rw [h] at g;cases g),λj l=> ?_⟩;by_cases b:j=i
  .subst b;exact⟨d,s1,C,e,H⟩
  .have:=ready_mono l b;rw [H.1] at this;cases this
 | succ ju X=>
  intro a s s1 p q g z e H;refine⟨λh=>(by rw [h] at g;cases g),λj l=> ?_⟩;by_cases b:j=i
  .subst b;exact⟨d,s1,C,e,H⟩
  .obtain⟨o,s2,f,N,M⟩:=H.2 j (ready_mono l b);obtain⟨u,Y,m,B⟩:=mem_ready.1 l;rw [f] at m;simp only [Qy] at m;subst m;have D:gH ops 12 j i=false:=w9 q (mem_ready.1 g).1 f B;obtain⟨F,G⟩:=p j o f b u D;obtain⟨L,E,U⟩:=swap K v C f b g l q F G z e N;refine⟨o,L,f,E, ?_⟩
   have r:∀k ok,ops[k]? =some ok->k≠i->(a.setIfInBounds j true).getD k true=false->
     gH ops 12 k i=false->d.apart ops ok=true/\(pV P An d ok=true\/rp P An ops d ok=true):=λk ok V I y J=>by
    refine p k ok V I ?_ J;by_cases x:j=k
    .subst x;exact u
    .rw [getD_set_ne true x] at y;exact y
   refine X (a.setIfInBounds j true) L s2 r (Bc q l) (ready_mono g (Th b)) (Dz K v f l z E) U ?_;rw [Array.setIfInBounds_comm _ _ b];exact M
theorem KL{i:Nat}{b:Oper}{a:Array Bool}(m:ops[i]? =some b)(h:yn P An ops a i=true)(j:Nat)(d:Oper)(f:ops[j]? =some d)(g:j≠i)(l:a.getD j true=false)
  (k:gH ops 12 j i=false):pV P An b d=true\/rp P An ops b d=true:=by
 simp only [yn,m,QU,Tt] at h;have e:=h j (S0.1 f).1;simp only [f,Rq,beq_iff_eq,g,false_or,l,Q9,k,or_false] at e;exact e
theorem AD{Q:St->Prop}(u:pM ops)(b:qy ops=true):∀(l:List Oper) (k:Nat) (a:Array Bool) (s:St),(∀j,l[j]? =ops[k+j]?)->Region.lexFrom .any ops l.length k a=true->vq P An ops l.length k a=true->pw ops a->pA ops a s->
  iC P An Or true nt ops l s=some s'->Q s'->rM P An Or nt ops Q l.length a s
 | [],k,a,s,_,e,_,_,_,h,q=>by simp only [iC,Qy] at h;subst h;exact⟨by simpa [Region.lexFrom] using e,q⟩
 | o::l,k,a,s,hl,e,p,f,y,h,q=>by
  simp only [iC] at h;obtain⟨s1,v,h⟩:=Qz.1 h;have h0:ops[k]? =some o:=by simpa using (hl 0).symm
  simp only [QJ,Region.lexFrom,QF] at e;obtain⟨⟨C,B⟩,x⟩:=e;simp only [QJ,vq,QF] at p;have d:k∈Region.ready .any ops a:=by simpa using C
  exact Hg u b h0 l.length a s s1 (λj z r g m i=>⟨Region.free_spec h0 B j z r g m (HI r i),KL h0 p.1 j z r g m i⟩) f d y v
   (AD u b l (k+1) _ s1 (λj=>by have:=hl (j+1);simpa [SF,Nat.add_comm 1 j] using this) x p.2 (Bc f d) (Dz u b h0 d y v) h q)
theorem AE(u:iQ P An Or){Q:Exit->Act->World->Prop}{s':St}:∀{ju:Nat} {b:Array Bool} {w:World} {s:St} {ρ:Id->Option Value} {O:Id->Option Nat} {a:Act},
  eJ c nt w s ρ O a->mO ops s->rM P An Or nt ops (· =s') ju b s->(∀k w' ρ' O',Le w ρ O w' ρ' O'->eJ c nt w' s' ρ' O' k->Q .normal k w')->wpAny P .any ops Q ju b a w
 | 0,b,w,s,ρ,O,a,d,j,h,f=>⟨h.1,f a w ρ O Le.refl (h.2▸d)⟩
 | ju+1,b,w,s,ρ,O,a,d,j,h,f=>by refine⟨λz=>f a w ρ O Le.refl (h.1 z▸d),λi y=> ?_⟩;obtain⟨o,s1,ho,e,H⟩:=h.2 i y;obtain⟨l,step⟩:=E5 u d j (Rd ho) e;unfold wpOp;rw [ho];exact step _ Q λk w' ρ' O' le m=>AE u m l H λr x p q v g=>f r x p q (le.trans v) g
theorem NT{R:Type}{id:Nat}{f:Bool}{a:Act}{K:St->Option R}{r:R}(hm:P.follows .mixedOrders=true)(C:iQ P An Or)(l:eJ c nt w s ρ O a)(p:mN s)(e:region P An Or nt f ops s K=some r):
  ∃s':St,K s'.clear=some r/\∀Q:Exit->Act->World->Prop,(∀q w' ρ' O',Le w ρ O w' ρ' O'->eJ c nt w' s'.clear ρ' O' q->Q .normal q w')->(Code.region id ops f).wp P Q a w:=by
 unfold region at e;cases m:zr P An f ops with
 | false=>simp [m] at e
 | true=>
  rw [m,cond_true,zz] at e;replace e:=Qz.1 e;obtain⟨s',e,F⟩:=e;refine⟨s',F,λQ D=> ?_⟩;cases f with
  | false=>exact NS C l p e D
  | true=>simp only [zr,QE,Ri,QF] at m;obtain⟨⟨⟨B,G⟩,I⟩,E⟩:=m;simp only [Region.lexB,QF] at B;have M:pM ops:=λ{i j x y d} J L N U=>Bx I (by simpa using J) (by simpa using L) N U;have o:Le w ρ O w.drew ρ O:=⟨rfl,rfl,rfl,QV _,λ_ _ h=>h,λ_ _ _=>rfl,λi b h=> .inl ⟨i,h⟩⟩;have z:eJ c nt w.drew s ρ O a:=⟨l.hs.world o λ_ _ _=>rfl,SS.mono (λb p=>o.A b p) o.eD l.ss,l.nt,l.defers⟩;refine wp_region_any hm ?_;have:=AD (P:=P) (An:=An) (Or:=Or) (nt:=nt) (Q:=(· =s')) M E ops.toList 0 (Array.replicate ops.size false) s (by simp) (by simpa using B.2) (by simpa using G) (λk ok F hl=>by simp [Array.getElem?_replicate] at hl;split at hl <;> simp at hl) (λk g v h=>(p k g v h).elim) e rfl;simp only [Ra] at this;exact AE C z (p.DH ops) this λq w' ρ' O' le u=>D q w' ρ' O' (o.trans le) u.clear
end
open Go Go.IntKind
section
variable {P:Program} {An:cA} {Or:aq} {w w':World} {A A':Nat->Prop} {c:Ctx} {ρ:Id->Option Value} {O:Id->Option Nat} {s s':St} {h:Id->Option ad}
def Ends(P:Program)(f:FuncId)(fn:Func)(todo:List Item)(a:Act)(w:World)(R:Value->World->Prop):Prop:=
 ∀(b:Frame),b.fn=f->b.kind= .normal->∀cs,∃d w' v todo',Steps P (lone (b.at a todo) cs w) (lone {b.at d todo' with mode:= .returning} cs w')/\
  d.defers= []/\(results fn d.tmps).run P w'= .ok v w'/\R v w'
theorem Ends.mono{f:FuncId}{fn:Func}{todo:List Item}{a:Act}{R d:Value->World->Prop}(h:Ends P f fn todo a w R)(o:∀v w',R v w'->d v w'):Ends P f fn todo a w d:=
 λb l m cs=>let⟨e,w',v,t,g,i,j,k⟩:=h b l m cs;⟨e,w',v,t,g,i,j,o _ _ k⟩
theorem Ends.step{f:FuncId}{fn:Func}{todo todo':List Item}{a:Act}{R:Value->World->Prop}(d:∀(b:Frame) cs,step P (lone (b.at a todo) cs w)= .next (lone (b.at a todo') cs w))(h:Ends P f fn todo' a w R):Ends P f fn todo a w R:=
 λb j k cs=>let⟨e,w',v,t,g,i⟩:=h b j k cs;⟨e,w',v,t, .head (d b cs) g,i⟩
theorem Ends.region{f:FuncId}{fn:Func}{id:Nat}{ops:Array Oper}{d:Bool}{k:List Item}{a:Act}{R:Value->World->Prop}
  (h:(Code.region id ops d).wp P (λe g w'=>e= .normal/\Ends P f fn k g w' R) a w):Ends P f fn (.code (.region id ops d)::k) a w R:=by
 intro b o p cs;obtain⟨e,j,r,⟨rfl,q⟩,i⟩:=h b k cs;obtain⟨g,w',v,t,l,m⟩:=q b o p cs;exact⟨g,w',v,t,Steps.trans i l,m⟩
theorem H0{f:FuncId}{fn:Func}{a:Code}{args:Array Value}{R:Value->World->Prop}(g:P.funcs[f]? =some fn)(j:fn.body=some a)
  (h:Ends P f fn [.code a] {tmps:=args++Array.replicate (fn.ntmps - args.size) undef,defers:= []} w R):Calls P f args w λe w'=>∃v,e= .returned v/\R v w':=by
 intro cs;let b:Frame:={(default:Frame) with fn:=f,kind:= .normal};have d:Frame.enter P f args .normal=b.at {tmps:=args++Array.replicate (fn.ntmps - args.size) undef,defers:= []} [.code a]:=by simp [Frame.enter,Frame.at,g,j,b]
 obtain⟨m,w',v,todo',hs,k,l,i⟩:=h b rfl rfl cs;rw [<-d] at hs;exact⟨.returned v,w',_,⟨v,rfl,i⟩,hs,rfl,rfl,k,rfl,fn,g,l⟩
structure Fin (P:Program) (c:Ctx) (B:Nat->Option Value) (sh:List ca) (outs:List jg) (xs:List T) (Own:Nat->Prop) (w:World) (v:Value) (w':World):Prop where
 os:w'.os=w.os
 output:w'.output=w.output
 tape:w'.tape=w.tape
 size:w.heap.size<=w'.heap.size
 af:∀b,b < w.heap.size->¬Own b->w'.heap[b]? =w.heap[b]?
 res:∃rs x1 x2 o1 o2,v=nQ rs/\xs=x1++x2/\(o1++o2).Nodup/\(∀b∈o1++o2,c.MO b/\b < w'.heap.size)/\dC B w' (λb=>(c.A0 b\/c.MO b)/\b < w'.heap.size/\b∉o1++o2) sh x1 rs o1/\
  mV B w' (λb=>(c.A0 b\/c.MO b)/\b < w'.heap.size/\b∉o1++o2) 0 outs x2 o2
theorem Fin.le{B:Nat->Option Value}{sh:List ca}{os:List jg}{xs:List T}{v:Value}{w'':World}{ρ':Id->Option Value}{O':Id->Option Nat}(le:Le w ρ O w' ρ' O')(h:Fin P c B sh os xs (fv O') w' v w''):Fin P c B sh os xs (fv O) w v w'' where
 os:=h.os.trans le.os
 output:=h.output.trans le.output
 tape:=h.tape.trans le.tape
 size:=Rt le.size h.size
 af b hb hn:=by
  rw [h.af b (RC hb le.size) (λ⟨i,hi⟩=> ?_),le.af b hb (λi hi=>hn ⟨i,hi⟩)];rcases le.own i b hi with⟨j,hj⟩ | hj
  .exact hn ⟨j,hj⟩
  .omega
 res:=h.res
theorem Fin.own{B:Nat->Option Value}{d:List ca}{os:List jg}{xs:List T}{v:Value}{a:World}{O':Id->Option Nat}(f:∀b,fv O' b->fv O b)(h:Fin P c B d os xs (fv O') w v a):Fin P c B d os xs (fv O) w v a:=
 {h with af:=λb e g=>h.af b e λho=>g (f b ho)}
theorem Ex:∀{l:List Id},vD l=true->l.Nodup
 | [],_=>Ta
 | i::r,h=>by
  simp only [vD,QF,Rv] at h;refine RN.2 ⟨λhm=> ?_,Ex h.2⟩;have:r.contains i=true:=by simpa using hm
  rw [this] at h;cases h.1
def kC(O:Id->Option Nat)(l:List Id):List Nat:=l.filterMap O
theorem A4(hs:HS c w h ρ O):∀{l:List Id},l.Nodup->(kC O l).Nodup
 | [],_=>Ta
 | i::l,m=>by
  obtain⟨f,g⟩:=RN.1 m;have d:=A4 hs g;unfold kC at *
  cases a:O i with
  | none=>rw [List.filterMap_cons_none a];exact d
  | some b=>rw [List.filterMap_cons_some a];refine RN.2 ⟨λhm=> ?_,d⟩;obtain⟨j,k,e⟩:=S6.1 hm;have:=hs.inj i j b a e;exact f (this▸k)
theorem HH(a b:List Id):kC O (a++b)=kC O a++kC O b:=by simp [kC]
def fu(O:Id->Option Nat)(l:List Id)(own:List Nat):Prop:=(∀i∈l,i.real=true)/\∃ids,own=kC O ids/\(l.Nodup->ids.Nodup)/\∀x∈ids,Of l x
theorem fu.nil:fu O [] []:=⟨by simp,[],rfl,λh=>h,by simp⟩
theorem fu.one{i:Id}(a:i.real=true):fu O [i] (O i).toList:=by refine⟨by simpa using a,[i], ?_,λh=>h,λx b=> .inl b⟩;cases h:O i <;> simp [kC,h]
theorem fu.append{a b:List Id}{o1 o2:List Nat}(v:fu O a o1)(z:fu O b o2):fu O (a++b) (o1++o2):=by
 obtain⟨r1,G,rfl,J,q⟩:=v;obtain⟨u,I,rfl,K,r⟩:=z;refine⟨λi f=> ?_,G++I,(HH _ _).symm,λB=> ?_,λx d=> ?_⟩
 .rcases QR.1 f with f | f
  .exact r1 i f
  .exact u i f
 .obtain⟨E,F,p⟩:=R5.1 B;refine R5.2 ⟨J E,K F,λx d y C e=> ?_⟩;subst e;rcases q x d with l | ⟨j,n,l,o⟩ <;> rcases r x C with m | ⟨D,L,m,k⟩
  .exact p x l x m rfl
  .have:=r1 x l;rw [k] at this;cases this
  .have:=u x m;rw [o] at this;cases this
  .rw [o] at k;simp only [Id.g.injEq] at k;exact p j l D m k.1
 .rcases QR.1 d with d | d
  .rcases q x d with g | ⟨j,n,g,e⟩
   .exact .inl (QQ _ g)
   .exact .inr ⟨j,n,QQ _ g,e⟩
  .rcases r x d with g | ⟨j,n,g,e⟩
   .exact .inl (QP _ g)
   .exact .inr ⟨j,n,QP _ g,e⟩
theorem fu.mem{l:List Id}{own:List Nat}(h:fu O l own){b:Nat}(a:b∈own):∃i,Of l i/\O i=some b:=by obtain⟨_,ids,rfl,_,m⟩:=h;obtain⟨i,d,e⟩:=S6.1 a;exact⟨i,m i d,e⟩
def lT:Nat->List Row->List Row
 | _,[]=> []
 | n,e::r=>{e with n:=n}::lT (n+1) r
theorem sY:∀(es:List Row) (n:Nat),(lT n es).length=es.length
 | [],_=>rfl
 | e::r,n=>by simp [lT,sY r]
theorem vP:∀(es:List Row) (n:Nat),(lT n es).map (·.n)=List.range' n es.length
 | [],_=>rfl
 | e::r,n=>by simp [lT,vP r,SU]
theorem Bm:∀{es:List Row} {n:Nat},aX es=true->oI n (es.map λe=> [.ptr e.cs,qS e])=some (lT n es)
 | [],_,_=>rfl
 | e::r,n,h=>by
  simp only [aX,RX,QF] at h;have b:=Bm (es:=r) (n:=n+1) h.2;obtain⟨en,a,eo⟩:=e;cases eo with
  | none=>simp at h
  | some p=>show((oI (n+1) (r.map λe=> [.ptr e.cs,qS e])).bind λl=>some (⟨n,a,some (p.1,p.2)⟩::l))=_;rw [b];rfl
theorem Fz{A A':Nat->Prop}{d:Id->Option Value}{a:Id->Option Nat}{i:Id}{af sz col rsz:Nat}(l:∀b,A b->A' b):∀{es:List Row} {k base:Nat},(∀j e,es[j]? =some e->d (.g i (k+j))=ρ (.g i e.n)/\a (.g i (k+j))=O (.g i e.n))->
  cq w A ρ O i af sz col rsz base es->cq w A' d a i af sz col rsz base (lT k es)
 | [],_,_,_,_=>trivial
 | e::r,k,base,m,h=>by
  obtain⟨h0,C⟩:=h;obtain⟨z,B⟩:=m 0 e rfl;refine⟨?_,Fz l (k:=k+1) (λj f E=>by
   have:=m (j+1) f (by simpa using E);rw [show k+1+j=k+ (j+1) by omega];exact this) C⟩
  have h0:=h0.move (A':=A') (w':=w) (ρ':=ρ) (O':=O) (λ_ _=>rfl) (λb D=>⟨l b D,rfl⟩) rfl rfl (λ_ _=>rfl);obtain⟨o,q,v,u,a4,x,y⟩:=h0;refine⟨o,q,v,u,a4,by rw [<-x];exact z, ?_⟩;revert y;show(match e.own with | some p=>cI w A' rsz p.1 p.2 u (λb=>O (.g i e.n)=some b) | none=>O (.g i e.n)=none)->(match e.own with | some p=>cI w A' rsz p.1 p.2 u (λb=>a (.g i k)=some b) | none=>a (.g i k)=none);rw [show a (.g i k)=O (.g i e.n) from B];exact id
def pD(w:World)(c:Ctx)(O:Id->Option Nat)(b:List Id)(Q:(Nat->Prop)->Prop):Prop:=
 ∀A:Nat->Prop,(∀k,AA c w O k->A k)->(∀i af,i∈b->i.real=true->O i=some af->A af)->Q A
def im(m:Nat)(B:Nat->Option Value)(ρ:Id->Option Value):Prop:= ∀j,j < m->∃v,B j=some v/\ρ (.c j)=some v
theorem CW{B:Nat->Option Value}{i:Id}{b:Bool}{sz col rsz nx:Nat}{es:List Row}{u:Value}{l:List Id}(hs:HS c w h ρ O)(U:h i=some (.rows b sz col rsz nx es))(hv:ρ i=some u)(N:aX es=true):
  fu O [i] (kC O (i::es.map λe=> .g i e.n))/\pD w c O l λA=>jk B w A (.rows sz col rsz) (be b es) u (kC O (i::es.map λe=> .g i e.n)):=by
 have o:=hs.real (i:=i) (by rw [U];simp);obtain⟨a,cap,r1,r2,r3,⟨Z,n2,n3,n4⟩,K⟩:=hs.af i _ U;have X:(i::es.map λe=>Id.g i e.n).Nodup:=by
  refine RN.2 ⟨λhm=> ?_, ?_⟩
  .obtain⟨e,_,G⟩:=Rb.1 hm;rw [<-G] at o;cases o
  .have:(es.map λe=>Id.g i e.n)= (es.map (·.n)).map (Id.g i):=by rw [SQ];rfl
   rw [this];exact List.pairwise_map.2 (Z.imp λh e=>h (by simpa using e))
 refine⟨⟨by simpa using o,_,rfl,λ_=>X,λx m=> ?_⟩,λA hA _=> ?_⟩
 .rcases QN.1 m with rfl | m
  .exact .inl QA
  .obtain⟨e,_,rfl⟩:=Rb.1 m;exact .inr ⟨i,e.n,QA,rfl⟩
 .let V:Id->Option Value:=λx=>match x with
   | .g y k=>if y=i then(es[k]?).bind λe=>ρ (.g i e.n) else none
   | x=>if x=i then ρ i else none
  let Q:Id->Option Nat:=λx=>match x with
   | .g y k=>if y=i then(es[k]?).bind λe=>O (.g i e.n) else none
   | x=>if x=i then O i else none
  have M:V i=ρ i:=by
   cases i with
   | g y n=>cases o
   | _=>simp only [V,if_true]
  have L:Q i=O i:=by
   cases i with
   | g y n=>cases o
   | _=>simp only [Q,if_true]
  have D:∀k,V (.g i k)= (es[k]?).bind λe=>ρ (.g i e.n):=λk=>by simp only [V,if_true]
  have C:∀k,Q (.g i k)= (es[k]?).bind λe=>O (.g i e.n):=λk=>by simp only [Q,if_true]
  have r:∀x d,Q x=some d->(x=i/\O i=some d)\/∃k e,x= .g i k/\es[k]? =some e/\O (.g i e.n)=some d:=by
   intro x d m;cases x with
   | g y k=>
    simp only [Q] at m;split at m
    .rename_i e;subst e;obtain⟨e,E,F⟩:=Qz.1 m;exact .inr ⟨k,e,rfl,E,F⟩
    .cases m
   | s y k=>
    simp only [Q] at m;split at m
    .rename_i e;exact .inl ⟨e,m⟩
    .cases m
   | c k=>
    simp only [Q] at m;split at m
    .rename_i e;exact .inl ⟨e,m⟩
    .cases m
  refine⟨b,lT 0 es,i,V,Q, ?_,⟨a,cap,by rw [M,sY];exact r1,by rw [sY];exact r2,r3,⟨?_,λf I=> ?_,λk p=> ?_,λk d p=> ?_⟩, ?_⟩,by rw [M];exact hv,o,λx y d m hy=> ?_,λk v p=> ?_,λx d m=> ?_,λd=> ?_⟩
  .simp only [be,aN,Bm N,QD]
  .rw [vP];exact List.nodup_range'
  .have:f.n∈(lT 0 es).map (·.n):=Rb.2 ⟨f,I,rfl⟩;rw [vP,List.mem_range'_1] at this;rw [sY];omega
  .rw [sY] at p;rw [D,R7 p];rfl
  .rw [C] at p;obtain⟨e,E,_⟩:=Qz.1 p;have hlt:=(QC.1 E).1;have:k∈(lT 0 es).map (·.n):=by rw [vP,List.mem_range'_1];omega
   obtain⟨f,I,e2⟩:=Rb.1 this;exact⟨f,I,e2⟩
  .rcases K with K | ⟨af,off,arr,t,q1,q2,q3,q4,q5⟩
   .exact .inl K
   .refine .inr ⟨af,off,arr,t,q1,by rw [L];exact q2,q3,q4,Fz hA (λj e hj=> ?_) q5⟩;rw [Rh,D,C,hj];exact⟨rfl,rfl⟩
  .rcases r x d m with⟨rfl,q⟩ | ⟨k,e,rfl,q,z⟩ <;> rcases r y d hy with⟨rfl,J⟩ | ⟨k',e',rfl,J,Y⟩
   .rfl
   .have:=hs.inj _ _ d q Y;rw [this] at o;cases o
   .have:=hs.inj _ _ d J z;rw [this] at o;cases o
   .have:=hs.inj _ _ d z Y;simp only [Id.g.injEq,true_and] at this;rw [sK Z q J this]
  .rw [D] at p;obtain⟨e,_,F⟩:=Qz.1 p;exact hs.gone i e.n v F
  .rcases r x d m with⟨rfl,_⟩ | ⟨k,_,rfl,_⟩
   .exact .inl rfl
   .exact .inr ⟨k,rfl⟩
  .simp only [kC,S6,QN,Rb];constructor
   .rintro⟨x,rfl | ⟨e,G,rfl⟩,m⟩
    .exact⟨x,by rw [L];exact m⟩
    .obtain⟨k,p⟩:=RJ G;exact⟨.g i k,by rw [C,p];exact m⟩
   .rintro⟨x,m⟩;rcases r x d m with⟨rfl,q⟩ | ⟨k,e,rfl,q,z⟩
    .exact⟨x, .inl rfl,q⟩
    .exact⟨.g i e.n, .inr ⟨e,QH q,rfl⟩,z⟩
theorem CV{R:Type}{m:Nat}{B:Nat->Option Value}{r:ca}{v:AV}{u:Value}{K:T->List Id->List Id->Option R}{res:R}(hB:im m B ρ)(hs:HS c w h ρ O)(g:ai w (AA c w O) ρ v u)(d:iV m h r v K=some res):
  ∃x a b ob,K x a b=some res/\fu O a ob/\pD w c O b λA=>jk B w A r x u ob:=by
 cases r with
 | f k=>simp only [iV] at d;replace d:=Qz.1 d;obtain⟨x,V,d⟩:=d;replace d:=aM d (.inl rfl);obtain⟨y,hy,d⟩:=d;rw [AV.lf V] at g;simp only [ai] at g;exact⟨_,_,_,[],d, .nil,λA z C=>⟨hy,g.flat hy,rfl⟩⟩
 | t k=>simp only [iV] at d;replace d:=Qz.1 d;obtain⟨x,V,d⟩:=d;refine⟨_,_,_,[],d, .nil,λA z C=>⟨lX hs g V z (λi af q ho=> ?_),rfl⟩⟩;obtain⟨p,D,e⟩:=uT hs V q ho;refine C i af (Rb.2 ⟨p,D,e⟩) ?_ ho;rw [<-e];refine hs.real λe0=> ?_;have I:=sb (h:=h) v p D;rw [e0] at I;rcases I with⟨sz,b,l,_,I⟩ | ⟨l,_,I⟩ <;> simp at I
 | own sz=>
  simp only [iV] at d;split at d
  .rename_i i;replace d:=Qz.1 d;obtain⟨p,D,d⟩:=d;simp only [Fb] at D;split at D
   .rename_i sz' b xs q;split at D
    .rename_i hsz;subst hsz;simp only [Qy] at D;subst D;refine⟨_,_,_,(O i).toList,d, .one (hs.real (by rw [q];simp)),λA z C=> ?_⟩;obtain⟨v',G,g2,_⟩:=hs.af i _ q;simp only [ai] at g;rw [G] at g;simp only [Qy] at g;subst g;exact⟨O i,(b,xs),rfl,by simp [T.an],g2.mono (λb J=>⟨z b J,rfl⟩) (λb J=>⟨by simpa using J,rfl⟩)⟩
    .simp at D
   .simp at D
  .rename_i i sz1 n;split at d
   .rename_i sz2 b xs q;split at d
    .rename_i j;obtain⟨rfl,rfl⟩:=j;refine⟨_,_,_,(O i).toList,d, .one (hs.real (by rw [q];simp)),λA z C=> ?_⟩;obtain⟨v',G,⟨a,cap,rfl,f2,f3,_,f4⟩,_⟩:=hs.af i _ q;simp only [ai] at g;obtain⟨a1,L,cap1,Y,F,U,e3,rfl,e4⟩:=g;rw [G] at F;simp only [Qy,RF] at F;obtain⟨rfl,rfl,rfl⟩:=F;have M:(xs.take n).length=n:=by rw [Rw];omega
     have ha:Y=none↔a=none:=by
      rcases e4 with⟨_,rfl⟩ | ⟨_,h,_⟩ | ⟨_,_,rfl,rfl⟩
      .exact SP
      .exact h
      .simp
     refine⟨O i,(b,xs.take n),rfl,by simp [T.an],Y,cap,by rw [M];rfl,by rw [M];omega,by rw [ha];exact f3,trivial, ?_⟩
     .rcases f4 with f4 | ⟨af,off,Z,t',q1,q2,q3,q4,q5⟩
      .exact .inl f4
      .by_cases X:cap=0
       .exact .inl X
       .right;subst q1;have:Y=some ⟨af,off,none⟩:=by
         rcases e4 with⟨_,rfl⟩ | ⟨h,_⟩ | ⟨b',o,e5,rfl⟩
         .rfl
         .exact absurd h.symm X
         .simp only [Qy,RA] at e5;obtain⟨rfl,rfl,_⟩:=e5;simp
        exact⟨af,off,Z,t',this,by simpa using q2,q3,q4,(bd.mr (λb J=>⟨z b J,rfl⟩) af _ rfl off xs q5).take n⟩
    .simp at d
   .simp at d
  .rename_i b;simp only [ai,ay] at g;refine⟨_,_,_,[],d, .nil,λA z C=>⟨none,(b,[]),rfl,by simp [T.an], ?_⟩⟩;rcases g with⟨rfl,rfl⟩ | ⟨rfl,af,off,sp,rfl⟩
   .exact⟨none,0,rfl,by simp,by simp,trivial, .inl rfl⟩
   .exact⟨some ⟨af,off,sp⟩,0,rfl,by simp,by simp,trivial, .inl rfl⟩
  .simp only [ai,ay] at g;refine⟨_,_,_,[],d, .nil,λA z C=>⟨none,(true,[]),rfl,by simp [T.an], ?_⟩⟩;rcases g with⟨_,_,rfl⟩ | ⟨h,_⟩
   .exact⟨none,0,rfl,by simp,by simp,trivial, .inl rfl⟩
   .cases h
  .simp at d
 | ref k off=>
  simp only [iV] at d;split at d
  .rename_i k' off';split at d
   .rename_i j;obtain⟨rfl,rfl,N⟩:=j;refine⟨_,_,_,[],d, .nil,λA z C=>⟨?_,rfl⟩⟩;simp only [ai] at g;obtain⟨b,F,rfl⟩:=g;obtain⟨v,U,e3⟩:=hB _ N;rw [F] at e3;simp only [Qy] at e3;subst e3;exact⟨b,U,rfl⟩
   .simp at d
  .simp at d
 | same k=>
  simp only [iV] at d;split at d
  .rename_i k';split at d
   .rename_i j;obtain⟨rfl,N⟩:=j;refine⟨_,_,_,[],d, .nil,λA z C=>⟨?_,rfl⟩⟩;simp only [ai] at g;obtain⟨v,U,e3⟩:=hB _ N;rw [g] at e3;simp only [Qy] at e3;subst e3;exact⟨U,jD hs g⟩
   .simp at d
  .simp at d
 | no=>
  simp only [iV] at d;split at d
  .refine⟨_,_,_,[],d, .nil,λA z C=>⟨?_,rfl⟩⟩;simp only [ai] at g;obtain⟨b,_,rfl⟩:=g;exact⟨rfl,rfl⟩
  .simp at d
 | rows sz col rsz=>
  simp only [iV] at d;split at d
  .rename_i i;split at d
   .rename_i b sz' col' rsz' nx es q;split at d
    .rename_i j;obtain⟨rfl,rfl,rfl⟩:=j;replace d:=aM d (.inl rfl);obtain⟨_,E,d⟩:=d;have E:aX es=true:=by
      split at E
      .assumption
      .cases E
     simp only [ai] at g;exact⟨_,_,_,_,d,(CW (B:=B) (l:= []) hs q g E).1,(CW hs q g E).2⟩
    .simp at d
   .simp at d
  .simp at d
 | mp ag ks vk=>
  simp only [iV] at d;split at d
  .rename_i i;split at d
   .rename_i ag' ks' vk' es q;split at d
    .rename_i j;obtain⟨rfl,rfl,rfl⟩:=j;obtain⟨b,ents,Q,G,g2,g3,g4,g5⟩:=hs.af i _ q;simp only [ai] at g;rw [G] at g;simp only [Qy] at g;subst g;refine⟨_,_,_,[b],d, ?_,λA z C=>⟨es,b,ents,Q,rfl,rfl,rfl,g3,g4,g5⟩⟩;have:=fu.one (O:=O) (hs.real (i:=i) (by rw [q];simp));rw [g2] at this;exact this
    .simp at d
   .simp at d
  .simp at d
 | agg l=>simp [iV] at d
 | new l=>simp [iV] at d
theorem uH{R:Type}{m:Nat}{B:Nat->Option Value}(k:im m B ρ)(hs:HS c w h ρ O):∀{rs:List ca} {vs:List AV} {us:List Value} {K:List T->List Id->List Id->Option R} {res:R},az w (AA c w O) ρ vs us->mc m h rs vs K=some res->
  ∃xs a b own,K xs a b=some res/\fu O a own/\pD w c O b λA=>fe B w A rs xs us own
 | [],[],us,K,res,e,d=>by simp only [az] at e;subst e;simp only [mc] at d;exact⟨_,_,_,[],d, .nil,λA _ _=>⟨rfl,rfl,rfl⟩⟩
 | [],v::vs,us,K,res,e,d=>by simp [mc] at d
 | r::rs,[],us,K,res,e,d=>by simp [mc] at d
 | r::rs,v::vs,us,K,res,e,d=>by simp only [az] at e;obtain⟨u,o,rfl,C,D⟩:=e;simp only [mc] at d;obtain⟨x,a,b,ob,d,p,y⟩:=CV k hs C d;obtain⟨xs,F,G,own,d,q,z⟩:=uH k hs D d;refine⟨_,_,_,_,d,p.append q,λA j l=> ?_⟩;have E:=y A j (λi af f g ho=>l i af (QQ _ f) g ho);exact⟨x,xs,u,o,ob,own,rfl,rfl,rfl,E,z A j (λi af f g ho=>l i af (QP _ f) g ho)⟩
theorem uI{R:Type}{m:Nat}{B:Nat->Option Value}(C:im m B ρ)(hs:HS c w h ρ O):∀{rs:List ca} {vs:List AV} {us:List Value} {K:List T->List Id->List Id->Option R} {res:R},az w (AA c w O) ρ vs us->fJ m h rs vs K=some res->
  ∃xs a b own,K xs a b=some res/\fu O a own/\pD w c O b λA=>dC B w A rs xs us own
 | [],[],us,K,res,y,d=>by simp only [az] at y;subst y;simp only [fJ] at d;exact⟨_,_,_,[],d, .nil,λA _ _=>⟨rfl,rfl,rfl⟩⟩
 | [],v::vs,us,K,res,y,d=>by simp [fJ] at d
 | r::rs,[],us,K,res,y,d=>by cases r <;> simp [fJ] at d
 | r::rs,v::vs,us,K,res,y,d=>by
  simp only [az] at y;obtain⟨u,q,rfl,I,V⟩:=y
  have e:(iV m h r v λx a b=>fJ m h rs vs λxs L M=>K (x::xs) (a++L) (b++M))=some res->(∀l,r≠ .agg l)->(∀l,r≠ .new l)->
    ∃xs a b own,K xs a b=some res/\fu O a own/\pD w c O b λA=>dC B w A (r::rs) xs (u::q) own:=by
   intro d j Y;obtain⟨x,a,b,ob,d,D,F⟩:=CV C hs I d;obtain⟨xs,L,M,own,d,E,G⟩:=uI C hs V d;refine⟨_,_,_,_,d,D.append E,λA o p=> ?_⟩;have z:=F A o (λi af g j ho=>p i af (QQ _ g) j ho);have:∃Z U v Q N J,x::xs=Z::U/\u::q=v::Q/\ob++own=N++J/\jk B w A r Z v N/\dC B w A rs U Q J:=
    ⟨x,xs,u,q,ob,own,rfl,rfl,rfl,z,G A o (λi af g j ho=>p i af (QP _ g) j ho)⟩
   cases r with
   | agg l=>exact(j l rfl).elim
   | new l=>exact(Y l rfl).elim
   | _=>exact this
  cases r with
  | f k=>exact e (by simpa [fJ] using d) (by simp) (by simp)
  | t k=>exact e (by simpa [fJ] using d) (by simp) (by simp)
  | own sz=>exact e (by simpa [fJ] using d) (by simp) (by simp)
  | rows sz col rsz=>exact e (by simpa [fJ] using d) (by simp) (by simp)
  | mp ag ks vk=>exact e (by simpa [fJ] using d) (by simp) (by simp)
  | new l=>
   simp only [fJ] at d;split at d
   .rename_i i;split at d
    .rename_i cs g;obtain⟨b0,arr,ty,e1,e2,e3,e4,e5⟩:=hs.af i _ g;simp only [ai] at I;obtain⟨b,z,rfl⟩:=I;rw [e1] at z;simp only [Qy,R6,RA] at z;obtain⟨rfl,_⟩:=z;obtain⟨xs,a,b,o1,d,D,F⟩:=uH C hs e4 d;obtain⟨X,L,M,o2,d,E,G⟩:=uI C hs V d;refine⟨_,_,_,_,d,(fu.one (hs.real (i:=i) (by rw [g];simp))).append (D.append E),λA o p=> ?_⟩;exact⟨xs,X,b0,arr,ty,q,o1,o2,rfl,by simp,by simp [e2],e3,F A o (λi af g j ho=>p i af (QQ _ g) j ho),G A o (λi af g j ho=>p i af (QP _ g) j ho)⟩
    .simp at d
   .simp at d
  | ref k off=>exact e (by simpa [fJ] using d) (by simp) (by simp)
  | same k=>exact e (by simpa [fJ] using d) (by simp) (by simp)
  | no=>exact e (by simpa [fJ] using d) (by simp) (by simp)
  | agg l=>
   cases v with
   | agg cs=>simp only [fJ] at d;simp only [ai] at I;obtain⟨ws,rfl,z,k2⟩:=I;obtain⟨xs,a,b,o1,d,D,F⟩:=uH C hs z d;obtain⟨X,L,M,o2,d,E,G⟩:=uI C hs V d;refine⟨_,_,_,_,d,D.append E,λA o p=> ?_⟩;exact⟨xs,X,ws,q,o1,o2,rfl,rfl,rfl,F A o (λi af g j ho=>p i af (QQ _ g) j ho),G A o (λi af g j ho=>p i af (QP _ g) j ho)⟩
   | _=>simp [fJ] at d
def vS(tmps:Array Value):ResultVar->Sem Value
 | .tmp t=>pure (tmps.getD t undef)
 | .cell b t=>do loadVar t (<-asAddr (tmps.getD b undef))
theorem NX(fn:Func)(tmps:Array Value):results fn tmps= (do
  let vs <-fn.results.mapM (vS tmps)
  pure (if h:vs.size=1 then vs[0] else .tuple vs)):=rfl
theorem zx{R:Type}{a:Act}(hs:HS c w s.h ρ O)(g:SS w (AA c w O) ρ s.t a.tmps):∀{l:List ResultVar} {K:List AV->Option R} {r:R},qO P s l K=some r->
  ∃vs us,K vs=some r/\az w (AA c w O) ρ vs us/\(l.mapM (vS a.tmps)).run P w= .ok us w
 | [],K,r,h=>⟨[],[],h,by simp [az],by simp⟩
 | .tmp k::l,K,r,h=>by
  simp only [qO] at h;have d:=g k;split at h
  .rename_i v e;rw [e] at d;obtain⟨vs,us,i,j,m⟩:=zx hs g h;refine⟨v::vs,_::us,i,by simp only [az];exact⟨_,us,rfl,d,j⟩, ?_⟩;rw [TJ];simp only [vS,QY,Rj,QO,m]
  .simp at h
 | .cell k t::l,K,r,h=>by
  simp only [qO] at h;have d:=g k;split at h
  .rename_i v e;rw [e] at d;obtain⟨o,y,h0,f,q⟩:=El hs d (.inl rfl) h;obtain⟨vs,us,i,j,m⟩:=zx hs g h0;refine⟨o::vs,y::us,i,by simp only [az];exact⟨y,us,rfl,q,j⟩, ?_⟩;rw [TJ];have:(do loadVar t (<-asAddr (a.tmps.getD k undef)):Sem Value).run P w= .ok y w:=by
    rw [<-f];generalize a.tmps.getD k undef=u at *
    unfold Instr.loadAt at *
    cases u with
    | pointer p=>
     cases p with
     | none=>simp [Instr.sureAddr] at f
     | some b=>simp [Instr.sureAddr,asAddr]
    | _=>simp [Instr.sureAddr] at f
   simp only [vS,QY,Rj] at this⊢;rw [this];simp only [QO,m]
  .simp at h
theorem r6{R:Type}{m:Nat}{B:Nat->Option Value}(k:im m B ρ)(hs:HS c w h ρ O):∀{os:List jg} {j:Nat} {K:List T->List Id->List Id->Option R} {res:R},j+os.length<=m->kI m h j os K=some res->
  ∃xs a b own,K xs a b=some res/\fu O a own/\pD w c O b λA=>mV B w A j os xs own
 | [],j,K,res,_,d=>by simp only [kI] at d;exact⟨_,_,_,[],d, .nil,λA _ _=>⟨rfl,rfl⟩⟩
 | .box l::os,j,K,res,hm,d=>by
  simp only [QJ] at hm;simp only [kI] at d;split at d
  .rename_i cs g;obtain⟨F,arr,t,x,y,I,J,N⟩:=hs.af _ _ g;obtain⟨xs,a,b,o1,d,U,V⟩:=uH k hs J d;obtain⟨r,D,E,o2,d,p,q⟩:=r6 k hs (by omega) d;refine⟨_,_,_,_,d,(fu.one (i:= .c j) rfl).append (U.append p),λA f o=> ?_⟩;obtain⟨v,u,e⟩:=k j (by omega);rw [x] at e;simp only [Qy] at e;subst e;exact⟨xs,r,F,arr,t,o1,o2,rfl,by simp [y],u,I,V A f (λi af g M ho=>o i af (QQ _ g) M ho),q A f (λi af g M ho=>o i af (QP _ g) M ho)⟩
  .simp at d
 | .sl sz::os,j,K,res,hm,d=>by
  simp only [QJ] at hm;simp only [kI] at d;split at d
  .rename_i sz' bb l g;split at d
   .rename_i Q;subst Q;obtain⟨v,x,y,_⟩:=hs.af _ _ g;obtain⟨r,D,E,o2,d,p,q⟩:=r6 k hs (by omega) d;refine⟨_,_,_,_,d,(fu.one (i:= .c j) rfl).append p,λA f o=> ?_⟩;obtain⟨X,u,e⟩:=k j (by omega);rw [x] at e;simp only [Qy] at e;subst e;exact⟨bb,l,r,O (.c j),_,o2,rfl,rfl,u,y.mono (λb L=>⟨f b L,rfl⟩) (λb L=>⟨by simpa using L,rfl⟩),q A f o⟩
   .simp at d
  .simp at d
 | .mp ag ks vk::os,j,K,res,hm,d=>by
  simp only [QJ] at hm;simp only [kI] at d;split at d
  .rename_i Y Z vk' es g;split at d
   .rename_i C;obtain⟨rfl,rfl,rfl⟩:=C;obtain⟨F,G,z,x,y,I,J,N⟩:=hs.af _ _ g;obtain⟨r,D,E,o2,d,p,q⟩:=r6 k hs (by omega) d;refine⟨_,_,_,_,d,(fu.one (i:= .c j) rfl).append p,λA f o=> ?_⟩;obtain⟨X,u,e⟩:=k j (by omega);rw [x] at e;simp only [Qy] at e;subst e;exact⟨es,F,G,z,r,o2,rfl,by simp [y],u,I,J,N,q A f o⟩
   .simp at d
  .simp at d
 | .dead::os,j,K,res,hm,d=>by simp only [QJ] at hm;simp only [kI] at d;obtain⟨r,D,E,o2,d,p,q⟩:=r6 k hs (by omega) d;exact⟨_,_,_,o2,d,p,λA f o=>q A f o⟩
theorem Df{f:FuncId}{fn:Func}{nt:Nat}{m:Nat×Nat}{B:Nat->Option Value}{xs:List T}{a:Act}(K:im m.1 B ρ)(d:eJ c nt w s ρ O a)(h:uO P An f fn m s=some xs):
  ∃v,(results fn a.tmps).run P w= .ok v w/\Fin P c B (de P An f m.2 fn) (gA An f m.2) xs (fv O) w v w:=by
 unfold uO at h;obtain⟨vs,us,h,z,F⟩:=zx d.hs d.ss h;split at h
 .rename_i hm;obtain⟨Z,N,Y,o1,h,U,G⟩:=uI K d.hs z h;obtain⟨zs,E,Q,o2,h,V,C⟩:=r6 K d.hs (by omega) h;split at h
  .rename_i r;simp only [Qy] at h;subst h;simp only [QF,QU,Rv] at r;have M:=Ex r.1;have D:=U.append V;have g:∀b,b∈o1++o2->∃i,Of (N++E) i/\O i=some b:=λb l=>D.mem l;have J:∀k,AA c w O k->(c.A0 k\/c.MO k)/\k < w.heap.size/\k∉o1++o2:=by
    intro b l;refine⟨l.1,l.2.1,λhm=> ?_⟩;obtain⟨i,o,e⟩:=g b hm;exact l.2.2 i e
   have L:∀i af,i∈Y++Q->i.real=true->O i=some af->(c.A0 af\/c.MO af)/\af < w.heap.size/\af∉o1++o2:=by
    intro i af o p ho;refine⟨.inr (d.hs.own i af ho),d.hs.lt i af ho,λhm=> ?_⟩;obtain⟨j,I,e⟩:=g af hm;have:=d.hs.inj i j af ho e;subst this;have z:=r.2 i o;rcases I with I | ⟨y,n,_,X⟩
    .have F:(N++E).contains i=true:=by simpa using I
     rw [F] at z;cases z
    .rw [X] at p;cases p
   have q:(o1++o2).Nodup:=by obtain⟨_,ids,e,n,_⟩:=D;rw [e];exact A4 d.hs (n M)
   refine⟨nQ us, ?_,rfl,rfl,rfl,QV _,λ_ _ _=>rfl,us,Z,zs,o1,o2,rfl,rfl,q,λb l=> ?_, ?_, ?_⟩
   .rw [NX,Array.mapM_eq_mapM_toList];simp only [QY,map_eq_pure_bind,Rj];rw [F];simp only [QO];congr 1;unfold nQ;split
    .rename_i x;have hl:us.length=1:=by simpa using x
     obtain⟨u,rfl⟩:=Sw.1 hl;rfl
    .rename_i x;split
     .rename_i u;simp at x
     .rfl
   .obtain⟨i,o,e⟩:=g b l;exact⟨d.hs.own i b e,d.hs.lt i b e⟩
   .exact G _ J λi af o p ho=>L i af (QQ _ o) p ho
   .exact C _ J λi af o p ho=>L i af (QP _ o) p ho
  .simp at h
 .simp at h
end
open Go Go.IntKind
section
variable {P:Program} {An:cA} {Or:aq} {w w':World} {A A':Nat->Prop} {c:Ctx} {ρ:Id->Option Value} {O:Id->Option Nat} {s s':St} {h:Id->Option ad}
theorem za{v:AV}{u:Value}(hs:HS c w h ρ O)(a:ai w (AA c w O) ρ v u):ai w (AA c w O) ρ (mv h v) u:=by
 cases v
 case own i=>
  simp only [mv];split
  .rename_i sz b xs d;have m:O i=none:=by
    obtain⟨_,_,_,f⟩:=hs.af i _ d;exact f rfl
   have:=lX (x:= .ab sz b xs) (A':=AA c w O) hs a (by simp [dv,d]) (λ_ h=>h) (λj af k ho=>by
    rcases k with e | ⟨_,_,_,e⟩ | ⟨_,e⟩
    .cases e;rw [m] at ho;cases ho
    .cases e
    .cases e)
   simpa [ai] using this
  .exact a
 case part i sz off n=>
  simp only [mv];split
  .rename_i r b xs d;split
   .rename_i o;have m:O i=none:=by
     obtain⟨_,_,_,f⟩:=hs.af i _ d;exact f rfl
    have:=lX (x:= .ab sz b ((xs.drop off).take n)) (A':=AA c w O) hs a (by simp [dv,d,o]) (λ_ h=>h) (λj af k ho=>by
     rcases k with e | ⟨_,_,_,e⟩ | ⟨_,e⟩
     .cases e
     .cases e;rw [m] at ho;cases ho
     .cases e)
    simpa [ai] using this
   .exact a
  .exact a
 case ref i off=>
  simp only [mv];split
  .rename_i l d;obtain⟨b,p,z,f,q⟩:=hs.af i _ d;simp only [ai] at a;obtain⟨y,g,rfl⟩:=a;rw [p] at g;simp only [Qy,R6,RA] at g;obtain⟨rfl,_⟩:=g;simp only [ai,ay];refine⟨b,off,rfl, .inr f, ?_⟩;have:=q.drop off;rwa [Rh] at this
  .exact a
 all_goals exact a
theorem Lm{k:Nat×Option Nat}{p:AV×aB}{tmps:Array Value}{g:Id->Option Value}(hs:HS c w s.h ρ O)(m:SS w (AA c w O) ρ s.t tmps)(e:sE s k=some p)(f:∀i v,ρ i=some v->g i=some v)
  (l:∀q∈p.2,g q.1=some (tmps.getD k.1 undef)):ai w (AA c w O) g p.1 (tmps.getD k.1 undef):=by
 unfold sE at e;have d:=m k.1;split at e
 .simp at e
 .rename_i v j;rw [j] at d;simp only at d;split at e
  .simp only [Qy] at e;subst e;exact ai.mono (λb a=>⟨a,rfl⟩) f _ _ (za hs d)
  .split at e
   .simp only [Qy] at e;subst e;exact ai.mono (λb a=>⟨a,rfl⟩) f _ _ (za hs d)
   split at e
   .split at e
    .simp only [Qy] at e;subst e;exact ai.mono (λb a=>⟨a,rfl⟩) f _ _ d
    .simp at e
   .simp only [Qy] at e;subst e;simp only [ai];exact l _ (QL.2 rfl)
   .simp at e
theorem Ei{tmps:Array Value}{f:Id->Option Value}(hs:HS c w s.h ρ O)(o:SS w (AA c w O) ρ s.t tmps)(j:∀i v,ρ i=some v->f i=some v):∀{l:List (Nat×Option Nat)} {p:List AV×aB},nF s l=some p->
  (∀q∈p.2,∀k,q.1= .s (1000000+k) 0->f q.1=some (tmps.getD k undef))->az w (AA c w O) f p.1 (l.map λk=>tmps.getD k.1 undef)/\
   ∀q∈p.2,∃k sz b,q= (.s (1000000+k) 0, .sl false sz b [])/\ay w (AA c w O) (.ae b) (tmps.getD k undef)
 | [],p,e,_=>by simp only [nF,Qy] at e;subst e;exact⟨by simp [az],(by intro q a;cases a)⟩
 | k::l,p,e,r=>by
  simp only [nF] at e;replace e:=Qz.1 e;obtain⟨x,d,e⟩:=e;replace e:=Qz.1 e;obtain⟨y,D,e⟩:=e;simp only [Qy] at e;subst e;have g:∀q∈x.2,∃sz b,q= (.s (1000000+k.1) 0, .sl false sz b [])/\ay w (AA c w O) (.ae b) (tmps.getD k.1 undef):=by
   intro q a;have m:=o k.1;unfold sE at d;split at d
   .simp at d
   .rename_i v u;rw [u] at m;simp only at m;split at d
    .simp only [Qy] at d;subst d;cases a
    .split at d
     .simp only [Qy] at d;subst d;cases a
     split at d
     .split at d
      .simp only [Qy] at d;subst d;cases a
      .simp at d
     .simp only [Qy] at d;subst d;simp only [QL] at a;subst a;exact⟨_,_,rfl,by simpa [ai] using m⟩
     .simp at d
  obtain⟨z,B⟩:=Ei hs o j D (λq a=>r q (QP _ a));refine⟨?_,λq a=> ?_⟩
  .simp only [Rc,az];refine⟨_,_,rfl,Lm hs o d j (λq a=> ?_),z⟩;obtain⟨sz,b,e,_⟩:=g q a;exact r q (QQ _ a) k.1 (by rw [e])
  .rcases QR.1 a with a | a
   .obtain⟨sz,b,e,C⟩:=g q a;exact⟨k.1,sz,b,e,C⟩
   .exact B q a
theorem GZ:∀{us:aB} {h:Id->Option ad} {i:Id} {b:ad},aJ h us i=some b->(i,b)∈us\/((∀q∈us,q.1≠i)/\h i=some b)
 | [],h,i,b,e=> .inr ⟨by simp,e⟩
 | (j,x)::us,h,i,b,e=>by
  rw [cM] at e;rcases GZ e with e | ⟨g,a⟩
  .exact .inl (QB _ e)
  .by_cases d:i=j
   .subst d;rw [aA] at a;simp only [Qy] at a;subst a;exact .inl QA
   .rw [au _ _ d] at a;refine .inr ⟨λq f=> ?_,a⟩;rcases QN.1 f with rfl | f
    .exact λe=>d e.symm
    .exact g q f
theorem HS.He{us:aB}{a:Id->Option Value}(r:∀q∈us,q.1.real=true)(hs:HS c w h ρ O)(B:∀q∈us,h q.1=none)(x:∀q∈us,∃sz b u,q.2= .sl false sz b []/\a q.1=some u/\ay w A (.ae b) u)
  (f:∀i,(∀q∈us,q.1≠i)->a i=ρ i):HS c w (aJ h us) a O:=by
 have mono:∀i v,ρ i=some v->a i=some v:=by
  intro i v d;rw [f i (λq j e=> ?_)]
  .exact d
  .have:=(hs.cw _ (r q j) (B q j)).1;rw [e,d] at this;cases this
 have k:∀i n,∀q∈us,q.1≠ .g i n:=λi n q j e=>by have:=r q j;rw [e] at this;cases this
 have le:Le w ρ O w a O:=⟨rfl,rfl,rfl,QV _,mono,λ_ _ _=>rfl,λi b h=> .inl ⟨i,h⟩⟩;refine hs.go le (λi n=>⟨f _ (k i n),rfl,λ_ _=>rfl⟩) (λi b l=> ?_) (λi p d=> ?_) (λi d=>(wH d).2) (λi n=>by rw [dr (k i n)];exact hs.dG i n) hs.inj hs.lt
 .rcases GZ l with hm | ⟨_,l⟩
  .right;obtain⟨sz,C,u,m,o,e3⟩:=x _ hm;simp only at m o;subst m;refine⟨u,o, ?_,by simp⟩;simp only [ay] at e3;rcases e3 with⟨rfl,rfl⟩ | ⟨rfl,af,off,sp,rfl⟩
   .exact⟨none,0,rfl,by simp,by simp,by simp, .inl rfl⟩
   .exact⟨some ⟨af,off,sp⟩,0,rfl,by simp,by simp,trivial, .inl rfl⟩
  .exact .inl ⟨l,rfl,λ_ _=>rfl⟩
 .obtain⟨y,z⟩:=wH d;rw [f i y];exact hs.cw i p z
theorem Eo{b:Id->Option Value}{tmps:Array Value}:∀{live:List (Nat×Option Nat)} {bn:List AV},az w A b bn (live.map λk=>tmps.getD k.1 undef)->∀k,ai w A b (mf.look live bn k) (tmps.getD k undef)
 | [],bn,a,k=>by cases bn <;> simp [mf.look,ai]
 | (j,o)::live,bn,a,k=>by
  cases bn with
  | nil=>simp [az] at a
  | cons v bn=>
   simp only [Rc,az,RH] at a;obtain⟨u,r,⟨rfl,rfl⟩,d,f⟩:=a;simp only [mf.look];split
   .rename_i e;subst e;exact d
   .exact Eo f k
def sI:List Item->List Item
 | .inLoop b::k=> .code b:: .inLoop b::k
 | t=>t
def oz(P:Program)(An:cA)(Or:aq):Prop:= ∀f fn todo live m bn b xs,Or (.node f todo live m) bn b=some xs->P.funcs[f]? =some fn->
 ∀c w ρ O a B,im m.1 B ρ->eJ c fn.ntmps w (mf live bn b) ρ O a->Ends P f fn (sI todo) a w (Fin P c B (de P An f m.2 fn) (gA An f m.2) xs (fv O) w)
theorem eJ.zR{nt:Nat}{a:Act}{h':Id->Option ad}{ρ':Id->Option Value}{O':Id->Option Nat}(d:eJ c nt w s ρ O a)(le:Le w ρ O w ρ' O')(hs:HS c w h' ρ' O'):eJ c nt w {t:=s.t,h:=h'} ρ' O' a:=
 ⟨hs,SS.mono (λb e=>le.A b e) le.eD d.ss,d.nt,d.defers⟩
theorem im.le{m:Nat}{B:Nat->Option Value}{ρ':Id->Option Value}(h:im m B ρ)(le:∀i v,ρ i=some v->ρ' i=some v):im m B ρ':=λj d=>by obtain⟨v,a,b⟩:=h j d;exact⟨v,a,le _ _ b⟩
theorem yP{s:St}:∀{live:List (Nat×Option Nat)} {p:List AV×aB},nF s live=some p->∀q∈p.2,∃k,q.1=Id.s (1000000+k) 0
 | [],p,b,q,d=>by simp only [nF,Qy] at b;subst b;cases d
 | k::live,p,b,q,d=>by
  simp only [nF] at b;obtain⟨f,a,b⟩:=Qz.1 b;obtain⟨g,e,b⟩:=Qz.1 b;simp only [Qy] at b;subst b;rcases QR.1 d with d | d
  .unfold sE at a;split at a
   .cases a
   .split at a
    .simp only [Qy] at a;subst a;cases d
    .split at a
     .simp only [Qy] at a;subst a;cases d
     .split at a
      .split at a
       .simp only [Qy] at a;subst a;cases d
       .cases a
      .simp only [Qy] at a;subst a;rw [QL.1 d];exact⟨_,rfl⟩
      .cases a
  .exact yP e q d
theorem Qb{f:FuncId}{fn:Func}{todo:List Item}{live:List (Nat×Option Nat)}{m:Nat×Nat}{B:Nat->Option Value}{xs:List T}{a:Act}(hN:oz P An Or)(Q:P.funcs[f]? =some fn)(hB:im m.1 B ρ)(o:eJ c fn.ntmps w s ρ O a)(e:wC Or f todo live m s=some xs):
  Ends P f fn (sI todo) a w (Fin P c B (de P An f m.2 fn) (gA An f m.2) xs (fv O) w):=by
 unfold wC at e;replace e:=Qz.1 e;obtain⟨p,K,e⟩:=e;split at e
 .rename_i y;replace e:=Qz.1 e;obtain⟨seen,u,e⟩:=e;let l:Id->Option Value:=λi=>if p.2.any (λq=>decide (q.1=i)) then(match i with | .s d _=>some (a.tmps.getD (d - 1000000) undef) | _=>none) else ρ i;have N:∀q∈p.2,s.h q.1=none:=by
   intro q g;have:=QU.1 y q g;simpa using this
  have z:∀i,(∀q∈p.2,q.1≠i)->l i=ρ i:=by
   intro i r;have:p.2.any (λq=>decide (q.1=i))=false:=by rw [Rm];intro q g;simpa using r q g
   simp only [l,this,Q9,if_false]
  have F:∀q∈p.2,∀k,q.1= .s (1000000+k) 0->l q.1=some (a.tmps.getD k undef):=by intro q g k e;have:p.2.any (λx=>decide (x.1=q.1))=true:=Sl.2 ⟨q,g,by simp⟩;simp only [l,this,if_true];rw [e];simp
  have mono:∀i v,ρ i=some v->l i=some v:=by
   intro i v r;rw [z i (λq g e=> ?_)]
   .exact r
   .cases E:q.1.real with
    | true=>have:=(o.hs.cw _ E (N q g)).1;rw [e,r] at this;cases this
    | false=>have hm:p.2.any (λx=>decide (x.1=q.1))=true:=Sl.2 ⟨q,g,by simp⟩;obtain⟨k,ek⟩:=yP K q g;rw [ek] at E;cases E
  obtain⟨hv,X⟩:=Ei o.hs o.ss mono K F;have U:HS c w (aJ s.h p.2) l O:=o.hs.He (λq g=>by obtain⟨k,ek⟩:=yP K q g;rw [ek];rfl) N (A:=AA c w O) (λq g=>by
   obtain⟨k,sz,b,e,E⟩:=X q g;exact⟨sz,b,_,by rw [e],F q g k (by rw [e]),E⟩) z
  obtain⟨g1,g2,g3,g4,g5⟩:=sX u Ta (by simp) (by simp);obtain⟨V,C⟩:=U.rn g1 g4 g5;have hA:∀b,AA c w O b->AA c w (ct seen O) b:=λb G=>⟨G.1,G.2.1,λi r=>by
   obtain⟨k,hk⟩:=C b ⟨i,r⟩;exact G.2.2 k hk⟩
  have Y:=az.rn (m:=seen) hA _ _ (λi r=>g3 i (QP _ r)) hv;have L:eJ c fn.ntmps w (mf live (jE seen p.1) (seen.map λi=>gF seen (aJ s.h p.2 i))) (ct seen l) (ct seen O) a:=
   ⟨V,λk=>Eo Y k,o.nt,o.defers⟩
  have D:=Fx u (by
   exact List.pairwise_map.2 (List.nodup_range.imp λh e=>h (by simpa using e))) (by simp)
  rw [RO] at D;have M:im m.1 B (ct seen l):=by
   intro j J;obtain⟨v,Z,e2⟩:=hB.le mono j J;refine⟨v,Z, ?_⟩;obtain⟨t,ht⟩:=D;have:seen[j]? =some (.c j):=by rw [<-ht,QT (by simpa using J)];simp [J]
   simp [ct,this,e2]
  exact(hN f fn todo live m _ _ xs e Q c w _ _ a B M L).mono λv w' I=>I.own C
 .simp at e
theorem uU:∀{l:List (Nat×Option Nat)},fO s.h (mg s l)
 | []=>by intro p a;cases a
 | (k,none)::l=>by simp only [mg];exact uU
 | (k,some 0)::l=>by simp only [mg];exact(sb _).append uU
 | (k,some (n+1))::l=>by
  simp only [mg];refine fO.append ?_ uU;cases Nat.beq n 999998 with
  | false=>intro p a;cases a
  | true=>
   show fO s.h (yp s.h (s.t k).2);unfold yp;split
   .split
    .exact yo _
    .intro p a;cases a
   .intro p a;cases a
theorem EW{h:Id->Option ad}(hs:HS c w h ρ O)(v:AV):HS c w (vF h v) ρ O:=by
 unfold vF;split
 .rename_i i off;split
  .rename_i cs f;obtain⟨b,arr,t,q,y,z,B,C⟩:=hs.af i _ f;have j:=hs.real (i:=i) (by rw [f];simp);have D:az w (AA c w O) ρ (cs.map (mv h)) arr.toList:=by
    have d:∀(l:List AV) (us:List Value),az w (AA c w O) ρ l us->az w (AA c w O) ρ (l.map (mv h)) us:=by
     intro l;induction l with
     | nil=>intro us h;exact h
     | cons x l E=>intro us h;simp only [Rc,az] at h⊢;obtain⟨u,r,e,o,p⟩:=h;exact⟨u,r,e,za hs o,E r p⟩
    exact d _ _ B
   rw [dy];refine hs.go Le.refl (λk m=>⟨rfl,rfl,λ_ _=>rfl⟩) (λk x a=> ?_) (λk g a=> ?_) (λk a=> ?_) (λk m=>by rw [au _ _ (aO j)];exact hs.dG k m) hs.inj hs.lt
   .by_cases e:k=i
    .subst e;rw [aA] at a;simp only [Qy] at a;subst a;exact .inr ⟨b,arr,t,q,y,z,D,C⟩
    .rw [au _ _ e] at a;exact .inl ⟨a,rfl,λ_ _=>rfl⟩
   .by_cases e:k=i
    .subst e;rw [aA] at a;cases a
    .rw [au _ _ e] at a;exact hs.cw k g a
   .by_cases e:k=i
    .subst e;rw [aA] at a;cases a
    .rw [au _ _ e] at a;exact a
  .exact hs
 .exact hs
theorem Dn(live:List (Nat×Option Nat))(bn:List AV)(a:List ad):mN (mf live bn a):=by intro k g v e;simp [mf] at e
theorem aZ.sP{af:Nat}:∀{cs:List T} {off:Nat},(∀(j:Nat) (x:T),cs[j]? =some x->∃v,w.cell? ⟨af,off+j,none⟩=some v/\ay w A x v)->aZ w A af off cs
 | [],_,_=>by simp [aZ]
 | x::cs,off,h=>by simp only [aZ];refine⟨by simpa using h 0 x rfl,aZ.sP λj y a=> ?_⟩;have:=h (j+1) y (by simpa using a);rw [show off+1+j=off+ (j+1) by omega];exact this
theorem FX{i:Id}{af sz col rsz:Nat}:∀{es:List Row} {base:Nat},aX es=true->cq w A ρ O i af sz col rsz base es->(∀e∈es,∀d,O (.g i e.n)=some d->A d)->bd w A af sz base (es.map (qR col rsz))
 | [],_,_,_,_=>by simp [bd]
 | e::es,base,b,C,l=>by
  simp only [aX,RX,QF] at b;obtain⟨m,o⟩:=C;simp only [Rc,bd];obtain⟨q,G,r,u,a4,I,v⟩:=m;have key:∃x,qR col rsz e=e.cs.set col x/\ay w A x u:=by
   obtain⟨en,F,eo⟩:=e;cases eo with
   | none=>simp at b
   | some p=>refine⟨_,rfl, ?_⟩;exact cI.GU v λd B=>l _ QA d B
  obtain⟨x,E,D⟩:=key;rw [E];refine⟨by rw [SE];exact q,aZ.sP λj y a=> ?_,FX b.2 o λf z=>l f (QB _ z)⟩;rw [RT] at a;split at a
  .rename_i k;subst k;split at a
   .cases a;exact⟨u,a4,D⟩
   .cases a
  .rename_i k;exact r j y (λe=>k e.symm) a
theorem HS.Gg{i:Id}{b:Bool}{sz col rsz N:Nat}{es:List Row}(hs:HS c w h ρ O)(E:h i=some (.rows b sz col rsz N es))(D:aX es=true):
  ∃O',Le w ρ O w ρ O'/\HS c w (aG h i (some (.sl true sz b (es.map (qR col rsz))))) ρ O':=by
 classical
 have q:=hs.real (i:=i) (by rw [E];simp);let Q:Id->Option Nat:=λx=>if Of [i] x then none else O x;have G:Q i=none:=if_pos (.inl QA);have Q2:∀n,Q (.g i n)=none:=λn=>if_pos (.inr ⟨i,n,QA,rfl⟩);have o:∀x d,Q x=some d->O x=some d/\¬Of [i] x:=by
  intro x d k;simp only [Q] at k;split at k
  .cases k
  .rename_i K;exact⟨k,K⟩
 have B:∀x,x.real=true->x≠i->Q x=O x:=by
  intro x r k;refine if_neg ?_;rintro(hm | ⟨j,n,_,rfl⟩)
  .exact k (QL.1 hm)
  .cases r
 have C:∀x n,x≠i->Q (.g x n)=O (.g x n):=by
  intro x n k;refine if_neg ?_;rintro(hm | ⟨j,m,J,e⟩)
  .rw [<-QL.1 hm] at q;cases q
  .simp only [Id.g.injEq] at e;exact k (e.1.trans (QL.1 J))
 have le:Le w ρ O w ρ Q:=⟨rfl,rfl,rfl,QV _,λ_ _ h=>h,λ_ _ _=>rfl,λx d k=> .inl ⟨x,(o x d k).1⟩⟩;have u:∀x d,Of [i] x->O x=some d->AA c w Q d:=by intro x d k p;refine⟨.inr (hs.own x d p),hs.lt x d p,λy v=> ?_⟩;obtain⟨L,M⟩:=o y d v;exact M (hs.inj x y d p L▸k)
 refine⟨Q,le,hs.nv le (λx y k=> ?_) (λx r k=> ?_) (λx n=>by rw [au _ _ (aO q)];exact hs.dG x n) (λx n k=> ?_) hs.gone (λx y d k v=>hs.inj x y d (o x d k).1 (o y d v).1) (λx d k=>hs.lt x d (o x d k).1)⟩
 .by_cases e:x=i
  .subst e;rw [aA] at k;cases k;right;obtain⟨a,cap,r1,r2,r3,r4,z⟩:=hs.af x _ E;refine⟨_,r1,⟨a,cap,by rw [Rr],by rw [Rr];exact r2,r3,trivial, ?_⟩,λ_=>G⟩;rcases z with z | ⟨af,off,arr,t,U,V,X,Y,Z⟩
   .exact .inl z
   .refine .inr ⟨af,off,arr,t,U,by simp only [if_true];exact u x af (.inl QA) V,X,Y, ?_⟩;refine FX (ρ:=ρ) (O:=O) (i:=x) D (cq.move (λb I=>le.A b I) (λ_ _=>rfl) (λf _=>⟨rfl,rfl,λ_ _=>rfl⟩) Z) λf hf d p=>u _ d (.inr ⟨x,f.n,QA,rfl⟩) p
  .rw [au _ _ e] at k;have F:=hs.real (i:=x) (by rw [k];simp);exact .inl ⟨k,B x F e,λ_ _=>rfl,λn=>⟨rfl,C x n e,λ_ _=>rfl⟩⟩
 .have l:x≠i:=λe=>by rw [e,aA] at k;cases k
  rw [au _ _ l] at k;rw [B x r l];exact hs.cw x r k
 .have l:x≠i:=λe=>by rw [e,aA] at k;cases k
  rw [au _ _ l] at k;rw [C x n l];exact hs.fm x n k
theorem zO{R:Type}:∀{l:List Id} {h:Id->Option ad} {O:Id->Option Nat} {K:aB->Option R} {r:R},HS c w h ρ O->tg h l K=some r->∃us O',K us=some r/\Le w ρ O w ρ O'/\HS c w (aJ h us) ρ O'
 | [],h,O,K,r,hs,e=>⟨[],O,e,Le.refl,hs⟩
 | i::l,h,O,K,r,hs,e=>by
  simp only [tg] at e;split at e
  .rename_i b sz col rsz o es k;replace e:=aM e (.inl rfl);obtain⟨_,a,e⟩:=e;have a:aX es=true:=by
    split at a
    .assumption
    .cases a
   obtain⟨m,cn,d⟩:=hs.Gg k a;obtain⟨us,j,e,g,f⟩:=zO d e;exact⟨_,j,e,cn.trans g,by rw [cM];exact f⟩
  .exact zO hs e
theorem PM{h:Id->Option ad}{O:Id->Option Nat}(hs:HS c w h ρ O)(v:AV):∃O',Le w ρ O w ρ O'/\HS c w (zP h v) ρ O':=by
 unfold zP;split
 .split
  .rename_i b sz col rsz g es f;cases e:aX es with
   | true=>obtain⟨d,cn,a⟩:=hs.Gg f e;exact⟨d,cn,by rw [cond_true,dy];exact a⟩
   | false=>exact⟨O,Le.refl,hs⟩
  .exact⟨O,Le.refl,hs⟩
 .exact⟨O,Le.refl,hs⟩
theorem Gh:∀(l:List AV) {h:Id->Option ad} {O:Id->Option Nat},HS c w h ρ O->∃O',Le w ρ O w ρ O'/\HS c w (zQ h l) ρ O'
 | [],h,O,hs=>⟨O,Le.refl,hs⟩
 | v::r,h,O,hs=>by obtain⟨f,cn,a⟩:=PM hs v;obtain⟨e,d,b⟩:=Gh r a;exact⟨e,cn.trans d,b⟩
theorem PL{h:Id->Option ad}{O:Id->Option Nat}(hs:HS c w h ρ O)(v:AV):∃O',Le w ρ O w ρ O'/\HS c w (zN h v) ρ O':=by
 unfold zN;split
 .split
  .exact Gh _ hs
  .exact⟨O,Le.refl,hs⟩
 .exact⟨O,Le.refl,hs⟩
theorem sM{t:Nat->Option Gs×AV}:∀{l:List (Nat×Option Nat)} {h:Id->Option ad} {O:Id->Option Nat},HS c w h ρ O->∃O',Le w ρ O w ρ O'/\HS c w (qJ t h l) ρ O'
 | [],h,O,hs=>⟨O,Le.refl,hs⟩
 | (k,some n)::l,h,O,hs=>by
  simp only [qJ];cases Nat.beq n 999999 with
  | true=>exact sM (EW hs _)
  | false=>
   cases Nat.beq n 999998 with
   | true=>obtain⟨f,cn,a⟩:=PL hs (t k).2;obtain⟨e,d,b⟩:=sM (t:=t) (l:=l) (EW a (t k).2);exact⟨e,cn.trans d,b⟩
   | false=>exact sM hs
 | (k,none)::l,h,O,hs=>by simp only [qJ];exact sM hs
theorem Aa{f:FuncId}{fn:Func}{todo:List Item}{live:List (Nat×Option Nat)}{m:Nat×Nat}{B:Nat->Option Value}{xs:List T}{a:Act}(y:oz P An Or)(o:P.funcs[f]? =some fn)(x:im m.1 B ρ)(i:eJ c fn.ntmps w s ρ O a)(e:lh Or f todo live m s=some xs):
  Ends P f fn (sI todo) a w (Fin P c B (de P An f m.2 fn) (gA An f m.2) xs (fv O) w):=by
 unfold lh at e;obtain⟨us,u,e⟩:=Qz.1 e;obtain⟨C,cn,p,_⟩:=i.hs.oT uU;have d:=i.zR cn p;obtain⟨z,D,b,q⟩:=zl d.hs u;obtain⟨E,g,r⟩:=sM (t:=s.t) (l:=live) q;have k:=d.zR (b.trans g) r;exact(Qb y o (x.le b.eD) k e).mono λv w' j=>Fin.le cn (Fin.le (b.trans g) j)
theorem Dg{f:FuncId}{fn:Func}{nt:Nat}{m:Nat×Nat}{B:Nat->Option Value}{xs:List T}{a:Act}(d:im m.1 B ρ)(b:eJ c nt w s ρ O a)(h:uN P An f fn m s=some xs):
  ∃v,(results fn a.tmps).run P w= .ok v w/\Fin P c B (de P An f m.2 fn) (gA An f m.2) xs (fv O) w v w:=by
 unfold uN at h;cases e:(de P An f m.2 fn).any DQ with
 | true=>rw [e,cond_true] at h;exact Df d b h
 | false=>rw [e,cond_false] at h;obtain⟨us,k,h,cn,g⟩:=zO b.hs h;obtain⟨v,i,j⟩:=Df d (b.zR cn g) h;exact⟨v,i,Fin.le cn j⟩
theorem kL(hm:P.follows .mixedOrders=true)(u:iQ P An Or)(r:oz P An Or){f:FuncId}{fn:Func}{m:Nat×Nat}{B:Nat->Option Value}(o:P.funcs[f]? =some fn):∀{n:Nat} {j:Bool} {todo:List Item} {xs:List T} {w:World} {s:St} {ρ:Id->Option Value} {O:Id->Option Nat} {a:Act},
  im m.1 B ρ->eJ c fn.ntmps w s ρ O a->mN s->ev P An Or f fn m n j todo s=some xs->Ends P f fn todo a w (Fin P c B (de P An f m.2 fn) (gA An f m.2) xs (fv O) w)
 | 0,j,todo,xs,w,s,ρ,O,a,i,d,l,e=>by simp [ev] at e
 | n+1,j,[],xs,w,s,ρ,O,a,i,d,l,e=>by simp only [ev] at e;obtain⟨v,C,D⟩:=Dg i d e;exact λb K F cs=>⟨a,w,v,[], .one step_end,d.defers,C,D⟩
 | n+1,j, .code .skip::k,xs,w,s,ρ,O,a,i,d,l,e=>by simp only [ev] at e;exact Ends.step (λb cs=>step_skip) (kL hm u r o i d l e)
 | n+1,j, .code (.seq x y)::k,xs,w,s,ρ,O,a,i,d,l,e=>by simp only [ev] at e;exact Ends.step (λb cs=>step_seq) (kL hm u r o i d l e)
 | n+1,j, .code (.region id ops z)::k,xs,w,s,ρ,O,a,i,d,l,e=>by
  simp only [ev] at e;split at e
  .rename_i live _;exact Aa (todo:= .code (.region id ops z)::k) r o i d e
  .obtain⟨s',e,G⟩:=NT hm u d l e;refine Ends.region (G _ λQ w' ρ' O' le J=>⟨rfl, ?_⟩);exact(kL hm u r o (i.le le.eD) J (H6 _) e).mono λv N E=>E.le le
 | n+1,j, .code (.cond x p q)::k,xs,w,s,ρ,O,a,i,d,l,e=>by
  simp only [ev] at e;replace e:=Qz.1 e;obtain⟨y,M,e⟩:=e;replace e:=aM e (.inl rfl);obtain⟨t,L,e⟩:=e;have I:=SS.get (h:=s.h) d.ss (g:=none) trivial x;rw [show(⟨s.t,s.h⟩:St)=s from rfl,AV.lf M,T.ir L] at I;simp only [ai,ay] at I;refine Ends.step (todo':= .code (if t then p else q)::k) (λb cs=>step_cond I) ?_;cases t with
  | true=>exact kL hm u r o i d l e
  | false=>exact kL hm u r o i d l e
 | n+1,j, .code (.block id b)::k,xs,w,s,ρ,O,a,i,d,l,e=>by simp only [ev] at e;exact Ends.step (λb cs=>step_block) (kL hm u r o i d l e)
 | n+1,j, .code (.loop b)::k,xs,w,s,ρ,O,a,i,d,l,e=>by
  simp only [ev] at e;split at e
  .exact Ends.step (λb cs=>step_loop) (Aa (todo:= .inLoop b::k) r o i d e)
  .simp at e
 | n+1,j, .code (.exit id)::k,xs,w,s,ρ,O,a,i,d,l,e=>by
  simp only [ev] at e;split at e
  .rename_i U F;exact Ends.step (λb cs=>step_exit F) (kL hm u r o i d l e)
  .simp at e
 | n+1,j, .code .ret::k,xs,w,s,ρ,O,a,i,d,l,e=>by simp only [ev] at e;obtain⟨v,C,D⟩:=Dg i d e;exact λb K F cs=>⟨a,w,v,_, .one step_ret,d.defers,C,D⟩
 | n+1,j, .inBlock id::k,xs,w,s,ρ,O,a,i,d,l,e=>by simp only [ev] at e;exact Ends.step (λb cs=>step_inBlock) (kL hm u r o i d l e)
 | n+1,j, .inLoop b::k,xs,w,s,ρ,O,a,i,d,l,e=>by
  simp only [ev] at e;split at e
  .exact Ends.step (λb cs=>step_inLoop) (Aa (todo:= .inLoop b::k) r o i d e)
  .simp at e
 | n+1,j, .code (.label _)::k,xs,w,s,ρ,O,a,i,d,l,e=>by simp [ev] at e
 | n+1,j, .code (.goto _)::k,xs,w,s,ρ,O,a,i,d,l,e=>by simp [ev] at e
theorem Lw{a:Id->Option Value}{bn:List AV}{args:List Value}(i:az w A a bn args)(m k:Nat):ai w A a (bn.getD k .top) ((args.toArray++Array.replicate m undef).getD k undef):=by
 have e:(args.toArray++Array.replicate m undef).getD k undef= (args++List.replicate m undef).getD k undef:=by rw [RY,QI,<-Ru];simp
 rw [e,QI,QI];cases f:bn[k]? with
 | none=>simp [ai]
 | some v=>obtain⟨u,d,g⟩:=i.get f;have b:k < args.length:=(QC.1 d).1;rw [QT b,d];exact g
theorem P0(G:l0 P An)(hm:P.follows .mixedOrders=true)(K:∀(f:FuncId) (fn:Func),P.funcs[f]? =some fn->fn.name≠ "runtime.NumGoroutine")(F:iQ P An Or)(E:oz P An Or):iQ P An (ax P An Or):=by
 intro f bn a xs e;simp only [ax] at e;split at e
 .rename_i r y;exact G f bn a xs (y.trans e)
 split at e
 .rename_i fn l;split at e
  .rename_i q d;split at e
   .rename_i J;refine⟨fn,q,l,d,K f fn l,λc w ρ O args N hs m=> ?_⟩;have hl:=m.length;have eh:(sa bn a).h=jo a:=by funext i;cases i <;> rfl
    have C:eJ c fn.ntmps w (sa bn a) ρ O {tmps:=args.toArray++Array.replicate (fn.ntmps - args.toArray.size) undef,defers:= []}:=by refine⟨by rw [eh];exact hs,λk=>Lw m _ k, ?_,rfl⟩;simp only [Tc,RU,Array.size_replicate];omega
    have o:mN (sa bn a):=by intro k g v e;simp [sa] at e
    have D:im (a.length,gu a.head?).1 (ny a.length ρ) ρ:=by
     intro j u;simp only at u;have z:jo a (.c j)=some a[j]:=by simp [jo,u]
     obtain⟨v,p,_⟩:=hs.Gp z;exact⟨v,by simp [ny,u,p],p⟩
    refine(H0 l d (kL hm F E l D C o e)).mono λe w' ⟨v,I,b⟩=> ?_;obtain⟨rs,M,x2,o1,o2,p,L,B,x,y,ho⟩:=b.res;exact⟨rs,M,x2,o1,o2,by rw [I,p],⟨b.os,b.output,b.tape,b.size,b.af⟩,L,B,x,y,ho⟩
   .simp at e
  .simp at e
 .simp at e
theorem PZ(hm:P.follows .mixedOrders=true)(l:iQ P An Or)(j:oz P An Or):oz P An (ax P An Or):=by
 intro f fn todo live m bn p xs e d c w ρ O a B i g;simp only [ax,d] at e;split at e
 .exact kL hm l j d i g (Dn _ _ _) e
 .rename_i o;have:sI todo=todo:=by
   unfold sI;split
   .rename_i b k;exact(o b k rfl).elim
   .rfl
  rw [this];exact kL hm l j d i g (Dn _ _ _) e
theorem E8(d:l0 P An)(hm:P.follows .mixedOrders=true)(g:∀(f:FuncId) (fn:Func),P.funcs[f]? =some fn->fn.name≠ "runtime.NumGoroutine"):∀n,iQ P An (iA P An n)/\oz P An (iA P An n)
 | 0=>⟨λ_ _ _ _ e=>by simp [iA] at e,λ_ _ _ _ _ _ _ _ e=>by simp [iA] at e⟩
 | n+1=>by obtain⟨a,b⟩:=E8 d hm g n;exact⟨P0 d hm g a b,PZ hm a b⟩
theorem Fa{k:Key}{vs:List AV}{a:List ad}{r:List T}(e:kS P An k vs a=some r):∃n,iA P An n k vs a=some r:=by
 unfold kS at e;split at e
 .rename_i b;simp only [Qy] at e;exact⟨_,by rw [<-e];exact SB (SB b)⟩
 .simp at e
theorem NA(b:l0 P An)(hm:P.follows .mixedOrders=true)(d:∀(f:FuncId) (fn:Func),P.funcs[f]? =some fn->fn.name≠ "runtime.NumGoroutine"):iQ P An (kS P An):=by intro f bn a xs e;obtain⟨n,e⟩:=Fa e;exact(E8 b hm d n).1 f bn a xs e
end
open Go Go.IntKind
abbrev G7:=Key×List AV×List ad×List T
def wK(O:aq)(L:List G7):Prop:= ∀q∈L,O q.1 q.2.1 q.2.2.1=some q.2.2.2
def aF{R:Type}(F:aq->Option R):Prop:= ∀O r,F O=some r->∃L,wK O L/\∀O',wK O' L->F O'=some r
section
variable {P:Program} {A:cA} {R S:Type}
theorem aF.const(m:Option R):aF (λ_=>m):=λ_ r h=>⟨[],(by intro q a;cases a),λ_ _=>h⟩
theorem aF.bind{F:aq->Option R}{G:R->aq->Option S}(j:aF F)(k:∀a,aF (G a)):aF (λO=>(F O).bind λa=>G a O):=by
 intro O r h;obtain⟨a,l,h⟩:=Qz.1 h;obtain⟨L1,e,g⟩:=j O a l;obtain⟨L2,f,i⟩:=k a O r h;refine⟨L1++L2,λq b=> ?_,λO' d=> ?_⟩
 .rcases QR.1 b with b | b
  .exact e q b
  .exact f q b
 .have:=g O' (λq b=>d q (QQ _ b));simp only [this,QD];exact i O' (λq b=>d q (QP _ b))
theorem aF.ask(k:Key)(vs:List AV)(a:List ad):aF (λO=>O k vs a):=λO r h=>⟨[(k,vs,a,r)],(by intro q b;simp only [QL] at b;subst b;exact h),
 λO' d=>d _ (QL.2 rfl)⟩
theorem aF.cond{b:Bool}{F G:aq->Option R}(a:aF F)(d:aF G):aF (λO=>cond b (F O) (G O)):=by cases b <;> assumption
theorem aF.ite{p:Prop}[Decidable p]{F G:aq->Option R}(b:aF F)(d:aF G):aF (λO=>if p then F O else G O):=by
 by_cases a:p
 .simp only [a,if_true];exact b
 .simp only [a,if_false];exact d
theorem aF.aa{d:Type}[Inhabited d]{c:Option Bool}{m:Option d}{K:d->aq->Option R}(h:∀a,aF (K a)):aF (λO=>aa c m λa=>K a O):=by
 unfold Aev.aa;cases m with
 | some a=>exact h a
 | none=>cases c with
  | none=>exact aF.const none
  | some b=>exact aF.cond (aF.const none) (h default)
theorem aF.eT{k:Ck}{c:Option Bool}{x:T}{K:T->aq->Option R}(h:∀a,aF (K a)):aF (λO=>eT k c x λa=>K a O):=by
 unfold Aev.eT;cases k <;> (try dsimp only)
 case x=>exact h x
 all_goals exact aF.aa λa=>h _
theorem aF.eM{c:Option Bool}:∀{ks:List Ck} {xs:List T} {K:List T->aq->Option R},(∀a,aF (K a))->aF (λO=>eM c ks xs λa=>K a O)
 | [],xs,K,h=>h xs
 | _::_,[],K,h=>h []
 | k::ks,x::xs,K,h=>by simp only [Aev.eM];exact aF.eT (K:=λy O=>Aev.eM c ks xs λb=>K (y::b) O) λy=>aF.eM (K:=λb O=>K (y::b) O) λb=>h _
theorem aF.lZ{c:Option Bool}{t:TypeId}{v:AV}{K:AV->aq->Option R}(h:∀a,aF (K a)):aF (λO=>lZ P c t v λa=>K a O):=by
 unfold Aev.lZ;cases v <;> (try exact h _)
 case t x=>exact aF.eT (K:=λy O=>K (.t y) O) λy=>h _
 case agg vs=>
  dsimp only;cases dR vs with
  | none=>exact h _
  | some l=>exact aF.eM (K:=λl O=>K (.agg (l.map .t)) O) λy=>h _
theorem aF.iJ{c:Option Bool}:∀{ts:List TypeId} {vs:List AV} {K:List AV->aq->Option R},(∀a,aF (K a))->aF (λO=>iJ P c ts vs λa=>K a O)
 | [],vs,K,h=>h vs
 | _::_,[],K,h=>h []
 | t::ts,v::vs,K,h=>by simp only [Aev.iJ];exact aF.lZ (K:=λu O=>Aev.iJ P c ts vs λus=>K (u::us) O) λu=>aF.iJ (K:=λus O=>K (u::us) O) λus=>h _
theorem aF.fR{s:St}{d:Nat}{c:Option Bool}{f:FuncId}{args:List AV}{K:AV->aB->Option R}:aF (λO=>fR P A O s d c f args K):=by
 unfold Aev.fR;cases P.funcs[f]? with
 | none=>exact aF.const none
 | some fn=>
  dsimp only;have e:∀(m:Option (List T)) (k:List T->Option R),Aev.aa none m k=m.bind k:=by intro m k;cases m <;> rfl
  cases A.gS f with
  | none=>
   dsimp only;refine aF.bind (F:=λ_=>kB ((de P A f 0 fn).all qu) (A.deep f) s.h args) (aF.const _) λp=> ?_;simp only [e];refine aF.iJ λq=> ?_;refine aF.bind (F:=λO=>dE c (O (.call f) q [])) ?_ λxs=>aF.const _;unfold dE;cases c with
   | none=>exact aF.ask _ _ _
   | some b=>exact aF.cond (aF.ask _ _ _) (aF.const _)
  | some a=>
   cases c with
   | some b=>exact aF.const none
   | none=>dsimp only;refine aF.bind (F:=λ_=>lD s.h (xf a args) a args) (aF.const _) λp=> ?_;refine aF.bind (F:=λ_=>jA (2000000+d) 0 (aJ s.h p.2) (mE (oJ (bY p.1) []) (gA A f (gu ((bY p.1).head?.bind (aJ s.h p.2)))))) (aF.const _) λus=> ?_;refine aF.bind (F:=λ_=>eS (aJ (aJ s.h p.2) us) 1000 (bY p.1) []) (aF.const _) λseen=> ?_;refine aF.cond ?_ (aF.const none);simp only [e];refine aF.iJ λq=> ?_;exact aF.bind (aF.ask _ _ _) λxs=>aF.const _
theorem aF.iS{gy:Bool}{s:St}{d:Nat}{c:Option Bool}{f:FuncId}{args:List AV}{K:AV->aB->Option R}:aF (λO=>iS gy P A O s d c f args K):=by
 unfold Aev.iS;cases _root_.cond gy (hY args) none with
 | none=>exact aF.fR
 | some q=>
  obtain⟨a,i,n,e⟩:=q;cases c with
  | some b=>exact aF.const none
  | none=>
   dsimp only;cases s.h i with
   | none=>exact aF.const none
   | some b=>
    cases b with
    | rows b sz col rsz g es=>
     dsimp only;cases cy n es with
     | none=>exact aF.const none
     | some p=>exact aF.cond aF.fR (aF.const none)
    | _=>exact aF.const none
theorem aF.cK{g:Option Gs}{o:Oper}{s:St}:aF (λO=>cK P A O g o s):=by
 unfold Aev.cK iq;cases o.op <;> (try dsimp only) <;> try exact aF.const _
 case makeFunc fn a b=>cases fn <;> (try dsimp only) <;> exact aF.const _
 case call cl=>
  cases cl.callee <;> (try dsimp only)
  case value d=>cases lJ (s.get g d) <;> (try dsimp only) <;> first | exact aF.iS | exact aF.const _
  case builtin b=>cases b <;> (try dsimp only) <;> exact aF.const _
  all_goals exact aF.const _
theorem aF.eR{a:Bool}{nt:Nat}{ops:Array Oper}{o:Oper}{s:St}:aF (λO=>eR P A O a nt ops o s):=by
 unfold Aev.eR nL;have key:∀{G:aq->Option Gs->Option St},(∀g,aF (λO=>G O g))->aF (λO=>cX ops o s (G O)):=λ{G} b=>by rw [show(λO=>cX ops o s (G O))=λO=>(cX ops o s some).bind (G O) from funext λO=>uX _ _ _ _];exact aF.bind (aF.const _) b
 refine key λg=> ?_;cases po A a o g with
 | none=>simp only [pO];exact aF.bind aF.cK λp=>aF.const _
 | some d=>simp only [pO];exact aF.cond (aF.cond (aF.bind aF.cK λp=>aF.const _) (aF.const _)) (aF.const _)
theorem aF.iC{a:Bool}{nt:Nat}{ops:Array Oper}:∀(l:List Oper) (s:St),aF (λO=>iC P A O a nt ops l s)
 | [],s=>aF.const _
 | o::r,s=>aF.bind (F:=λO=>Aev.eR P A O a nt ops o s) aF.eR λs'=>aF.iC r s'
theorem aF.region{nt:Nat}{a:Bool}{ops:Array Oper}{s:St}{K:St->aq->Option R}(h:∀s,aF (K s)):aF (λO=>region P A O nt a ops s λs'=>K s' O):=by
 unfold Aev.region;refine aF.cond ?_ (aF.const none);have:(λO=>s5 P A O a nt ops ops.toList s λs'=>K s'.clear O)=λO=>(Aev.iC P A O a nt ops ops.toList s).bind λs'=>K s'.clear O:=by funext O;rw [zz]
 rw [this];exact aF.bind (aF.iC _ _) λs'=>h _
theorem aF.lh{f:FuncId}{todo:List Item}{live:List (Nat×Option Nat)}{m:Nat×Nat}{s:St}:aF (λO=>lh O f todo live m s):=by unfold Aev.lh;refine aF.bind (aF.const _) λus=> ?_;unfold Aev.wC;refine aF.bind (aF.const _) λp=>aF.ite ?_ (aF.const none);exact aF.bind (aF.const _) λseen=>aF.ask _ _ _
theorem aF.ev{f:FuncId}{fn:Func}{m:Nat×Nat}:∀(n:Nat) (a:Bool) (todo:List Item) (s:St),aF (λO=>ev P A O f fn m n a todo s)
 | 0,a,todo,s=>by simp only [Aev.ev];exact aF.const none
 | n+1,a,[],s=>by simp only [Aev.ev];exact aF.const _
 | n+1,a, .code .skip::k,s=>by simp only [Aev.ev];exact aF.ev n _ _ _
 | n+1,a, .code (.seq x y)::k,s=>by simp only [Aev.ev];exact aF.ev n _ _ _
 | n+1,a, .code (.region id ops d)::k,s=>by
  simp only [Aev.ev];cases e:(bif a then A.join f id else none) with
  | some live=>exact aF.lh
  | none=>exact aF.region λs'=>aF.ev n _ _ _
 | n+1,a, .code (.cond x p q)::k,s=>by simp only [Aev.ev];refine aF.bind (F:=λ_=>(s.get none x).t?) (aF.const _) λy=>aF.aa λt=>aF.cond (aF.ev n _ _ _) (aF.ev n _ _ _)
 | n+1,a, .code (.block id b)::k,s=>by simp only [Aev.ev];exact aF.ev n _ _ _
 | n+1,a, .code (.loop b)::k,s=>by
  simp only [Aev.ev];cases A.live f (nR b) with
  | some live=>exact aF.lh
  | none=>exact aF.const none
 | n+1,a, .code (.exit id)::k,s=>by
  simp only [Aev.ev];cases exitTo id k with
  | some g=>exact aF.ev n _ _ _
  | none=>exact aF.const none
 | n+1,a, .code .ret::k,s=>by simp only [Aev.ev];exact aF.const _
 | n+1,a, .inBlock id::k,s=>by simp only [Aev.ev];exact aF.ev n _ _ _
 | n+1,a, .inLoop b::k,s=>by
  simp only [Aev.ev];cases A.live f (nR b) with
  | some live=>exact aF.lh
  | none=>exact aF.const none
 | n+1,a, .code (.label _)::k,s=>by simp only [Aev.ev];exact aF.const _
 | n+1,a, .code (.goto _)::k,s=>by simp only [Aev.ev];exact aF.const _
 | n+1,a, .code (.rangeFunc ..)::k,s=>by simp only [Aev.ev];exact aF.const _
 | n+1,a, .code (.scope _)::k,s=>by simp only [Aev.ev];exact aF.const _
 | n+1,a, .code (.refuse _)::k,s=>by simp only [Aev.ev];exact aF.const _
 | n+1,a, .inRegion ..::k,s=>by simp only [Aev.ev];exact aF.const _
 | n+1,a, .inScope _::k,s=>by simp only [Aev.ev];exact aF.const _
 | n+1,a, .inRangeFunc _::k,s=>by simp only [Aev.ev];exact aF.const _
 | n+1,a, .endRangeFunc _::k,s=>by simp only [Aev.ev];exact aF.const _
 | n+1,a, .beginRound::k,s=>by simp only [Aev.ev];exact aF.const _
 | n+1,a, .extern ..::k,s=>by simp only [Aev.ev];exact aF.const _
 | n+1,a, .call ..::k,s=>by simp only [Aev.ev];exact aF.const _
theorem aF.ax(k:Key)(vs:List AV)(a:List ad):aF (λO=>ax P A O k vs a):=by
 cases k with
 | call f=>
  simp only [Aev.ax];cases A.ext f vs a with
  | some r=>exact aF.const _
  | none=>
   dsimp only;cases P.funcs[f]? with
   | none=>exact aF.const _
   | some fn=>
    dsimp only;cases fn.body with
    | none=>exact aF.const _
    | some c=>exact aF.ite (aF.ev _ _ _ _) (aF.const _)
 | node f todo live m=>
  simp only [Aev.ax];cases P.funcs[f]? with
  | none=>exact aF.const _
  | some fn=>
   dsimp only;split
   .exact aF.ev _ _ _ _
   .exact aF.ev _ _ _ _
theorem E9:∀(n:Nat) {k:Key} {vs:List AV} {a:List ad} {r:List T},iA P A n k vs a=some r->iA P A (n+1) k vs a=some r
 | 0,k,vs,a,r,h=>by simp [iA] at h
 | n+1,k,vs,a,r,h=>by obtain⟨L,e,g⟩:=aF.ax (P:=P) (A:=A) k vs a _ r h;exact g _ λq b=>E9 n (e q b)
theorem vI{n m:Nat}(b:n<=m){k:Key}{vs:List AV}{a:List ad}{r:List T}(h:iA P A n k vs a=some r):iA P A m k vs a=some r:=by
 induction b with
 | refl=>exact h
 | step _ d=>exact E9 _ d
theorem zi{n:Nat}{k:Key}{vs:List AV}{e:List ad}{r:List T}(h:iA P A n k vs e=some r):kS P A k vs e=some r:=by unfold kS;have d:∃n r,iA P A n k vs e=some r:=⟨n,r,h⟩;rw [dif_pos d];have f:=SB (SB d);have a:=vI (Nat.le_max_left n (Classical.choose d)) h;have b:=vI (Nat.le_max_right n (Classical.choose d)) f;rw [a] at b;exact b.symm
theorem ah{k:Key}{vs:List AV}{b:List ad}{r:List T}(h:ax P A (kS P A) k vs b=some r):kS P A k vs b=some r:=by
 obtain⟨L,e,g⟩:=aF.ax (P:=P) (A:=A) k vs b _ r h;have:∃n,wK (iA P A n) L:=by
  clear g h;induction L with
  | nil=>exact⟨0,(by intro q a;cases a)⟩
  | cons q L i=>
   obtain⟨n,d⟩:=i λf a=>e f (QB _ a);obtain⟨m,hm⟩:=Fa (e q QA);refine⟨max n m,λf a=> ?_⟩;rcases QN.1 a with rfl | a
   .exact vI (Nat.le_max_right _ _) hm
   .exact vI (Nat.le_max_left _ _) (d f a)
 obtain⟨n,d⟩:=this;exact zi (n:=n+1) (g _ d)
end
open Go Go.IntKind
section
variable {P:Program} {An:cA} {w w':World}
theorem tQ.below(k:tQ w w'):Go.RowKit.Below w.heap.size w w':=⟨k.os,k.tape,k.output,k.size,k.af⟩
theorem H3{f:FuncId}{fn:Func}{bn:List AV}{args:List Value}{A0:Nat->Prop}(y:l0 P An)(hm:P.follows .mixedOrders=true)(B:∀(f:FuncId) (fn:Func),P.funcs[f]? =some fn->fn.name≠ "runtime.NumGoroutine")
  (l:P.funcs[f]? =some fn) (d:An.gS f=none) (i:de P An f 0 fn= [.f .b]) (r:∀b,A0 b->b < w.heap.size) (g:az w A0 (λ_=>none) bn args)
  (e:kS P An (.call f) bn []=some [.bool true]) (u:GlobOk w:=by exact Go.Aev.globOk _):Calls P f args.toArray w λe w'=>e= .returned (.bool true)/\Go.RowKit.Below w.heap.size w w':=by
 obtain⟨E,o,a,_,_,p⟩:=NA y hm B f bn [] _ e;rw [l] at a;simp only [Qy] at a;subst a;refine(p.values d A0 w args r g u).mono λe w' ⟨rs,own,z,C,_,_,m⟩=> ?_;rw [i] at m;obtain⟨x,G,v,F,ob,D,j,rfl,_,q,I,rfl,_⟩:=m;simp only [RH] at j;obtain⟨rfl,rfl⟩:=j;obtain⟨_,k,_⟩:=q;simp only [ay] at k;subst k;exact⟨z,C.below⟩
end
open Go Go.IntKind
abbrev I(n:Int):AV:= .t (.int .i64 n)
abbrev B(b:Bool):AV:= .t (.bool b)
theorem aK{b R:Type}[Inhabited b](c:Option Bool)(a:b)(k:b->Option R):aa c (some a) k=k a:=by cases c <;> rfl
theorem bq{a R:Type}[Inhabited a](m:Option a)(k:a->Option R):aa (some false) m k=k (m.getD default):=by cases m <;> rfl
theorem aP{a:Type}(x:a)(l:List a):(x::l).head? =some x:=by cases l <;> rfl
theorem bA{a:Type}(x:a)(l:List a):(x::l).tail=l:=by cases l <;> rfl
theorem iU{a:Type}(l:List a):l.drop 0=l:=by cases l <;> rfl
theorem js{a:Type}(x:a)(l:List a):(x::l).drop 1=l:=by cases l <;> rfl
theorem kH{a:Type}(x y:a)(l:List a):(x::y::l).drop 2=l:=by cases l <;> rfl
theorem p9{a:Type}(x y z:a)(l:List a):(x::y::z::l).drop 3=l:=by cases l <;> rfl
theorem Bt{a:Type}(x y z u:a)(l:List a):(x::y::z::u::l).drop 4=l:=by cases l <;> rfl
theorem Bu{a:Type}(x y z u v:a)(l:List a):(x::y::z::u::v::l).drop 5=l:=by cases l <;> rfl
theorem Bv{a:Type}(x y z u v t:a)(l:List a):(x::y::z::u::v::t::l).drop 6=l:=by cases l <;> rfl
theorem bC(b:Bool):(T.bool b).bool? =some b:=by cases b <;> rfl
theorem ba(k:IntKind)(n:Int):(T.int k n).int? k=some n:=by cases k <;> simp [T.int?]
theorem fc(s:ByteArray):(T.str s).bc =some s:=by cases s;rfl
theorem bU(sz:Nat)(b:Bool)(l:List (List T)):(T.ab sz b l).an sz=some (b,l):=by cases b <;> simp [T.an]
theorem cn(sz:Nat)(b:Bool):(T.ae b).an sz=some (b,[]):=by cases b <;> rfl
theorem Fo(l:List T):(T.ptr l).pg =some l:=by cases l <;> rfl
theorem C8(k:IntKind)(n:Int):(T.int k n).oR =some ():=by cases k <;> rfl
theorem C7(b:Bool):(T.bool b).oR =some ():=by cases b <;> rfl
theorem Dv(b:ByteArray):(T.str b).oR =some ():=by cases b;rfl
theorem a8{d:Type}(a b:d):cond true a b=a:=by simp
theorem bo{d:Type}(a b:d):cond false a b=b:=by simp
theorem gK:(!true)=false:=by decide
theorem gJ:(!false)=true:=by decide
theorem gh(m:Option (List T)):dE none m=m:=by cases m <;> rfl
theorem dY(m:Option (List T)):dE (some true) m=m:=by cases m <;> rfl
theorem eV(m:Option (List T)):dE (some false) m=some []:=by cases m <;> rfl
theorem df{d:Type}(p:Prop)[Decidable p](a b:d):(bif decide p then a else b)=if p then a else b:=by by_cases h:p <;> simp [h]
theorem Be{d:Type}(p:Prop)[Decidable p](a b:d):(bif !decide p then a else b)=if p then b else a:=by by_cases h:p <;> simp [h]
theorem xk{d:Type}(m n:Int)(a b:d):(bif m==n then a else b)=if m=n then a else b:=by
 by_cases h:m=n
 .simp [h]
 .have:(m==n)=false:=by simpa using h
  simp [h,this]
theorem Bd{d:Type}(m n:Int)(a b:d):(bif !m==n then a else b)=if m=n then b else a:=by
 by_cases h:m=n
 .simp [h]
 .have:(m==n)=false:=by simpa using h
  simp [h,this]
theorem xh(a b:Bool):(bif a then b else false)= (a && b):=by cases a <;> simp
theorem uh(a b:Bool):(bif a then true else b)= (a || b):=by cases a <;> simp
theorem wr{v:Int}(h: -9223372036854775808<=v/\v < 9223372036854775808):i64.wrap v=v:=by simp [IntKind.wrap,IntKind.signed,IntKind.bits];omega
theorem aj:(type_of% @aK)/\(type_of% @aP)/\(type_of% @bA)/\(type_of% @iU)/\(type_of% @js)/\(type_of% @kH)/\(type_of% @p9)/\(type_of% @Bt)/\(type_of% @Bu)/\(type_of% @Bv)/\(type_of% @bC)/\(type_of% @ba)/\(type_of% @fc)/\(type_of% @bU)/\(type_of% @cn)/\(type_of% @Fo)/\(type_of% @C8)/\(type_of% @C7)/\(type_of% @Dv)/\(type_of% @a8)/\(type_of% @bo)/\(type_of% @gK)/\(type_of% @gJ)/\(type_of% @gh)/\(type_of% @dY)/\(type_of% @eV)/\(type_of% @df)/\(type_of% @Be)/\(type_of% @xk)/\(type_of% @Bd)/\(type_of% @beq_self_eq_true.{0})/\(type_of% @R1)/\(type_of% @RB)/\(type_of% @RP)/\(type_of% @R4):=⟨@aK,@aP,@bA,@iU,@js,@kH,@p9,@Bt,@Bu,@Bv,@bC,@ba,@fc,@bU,@cn,@Fo,@C8,@C7,@Dv,@a8,@bo,@gK,@gJ,@gh,@dY,@eV,@df,@Be,@xk,@Bd,@beq_self_eq_true.{0},@R1,@RB,@RP,@R4⟩
open Go Go.ChangeShapes Go.WideShapes Go.ChangeAt Go.RowKit Go.IntKind
def tm(P:Program)(go:TypeId->Bool):List Field->Nat->Option Nat
 | [],off=>some off
 | f::r,off=>if f.offset=off/\go f.type=true then tm P go r (off+P.cellsOf f.type) else none
def jb(P:Program):Nat->TypeId->Bool
 | 0,_=>false
 | n+1,t=>match P.underlying t with
  | some .bool=>true
  | some (.int _)=>true
  | some .string=>true
  | some (.slice e)=>jb P n e && decide (0 < P.cellsOf e)
  | some (.struct a)=>decide (tm P (jb P n) a.toList 0=some (P.cellsOf t))
  | some (.array m e)=>jb P n e && decide (P.cellsOf t=m * P.cellsOf e)
  | _=>false
def tT(W:TypeId->List T->Prop):List Field->List T->Prop
 | [],ts=>ts= []
 | f::r,ts=>∃a b,ts=a++b/\W f.type a/\tT W r b
def wR(W:List T->Prop):Nat->List T->Prop
 | 0,ts=>ts= []
 | m+1,ts=>∃a b,ts=a++b/\W a/\wR W m b
def Wt(P:Program):Nat->TypeId->List T->Prop
 | 0,_,_=>False
 | n+1,t,ts=>match P.underlying t with
  | some .bool=>∃b,ts= [.bool b]
  | some (.int k)=>∃m,ts= [.int k m]/\(Lit.int k m).wf=true
  | some .string=>∃s,ts= [.str s]/\s.size<=maxLen
  | some (.slice e)=>∃b xs,ts= [.ab (P.cellsOf e) b xs]/\(b=true->xs= [])/\xs.length<=maxLen/\(∀cs∈xs,Wt P n e cs)/\xs.length * P.bytesOf e<=reachBytes
  | some (.struct a)=>tT (Wt P n) a.toList ts
  | some (.array m e)=>wR (Wt P n e) m ts
  | _=>False
section
variable {H:Type} {enc:TypeId×Value->H} {P:Program} {w:World} {base:Nat} {sp:Nat->Bool} {held:Bool}
def n9{H:Type}(P:Program)(t:TypeId)(d:DataW H):Prop:= ∀k∈DataW.weights P t d,k<=reachBytes
theorem Ai{H:Type}{P:Program}{e:TypeId}:∀{l:List (DataW H)} {d:DataW H},d∈l->∀k∈DataW.weights P e d,k∈DataW.weightsAll P e l
 | [],d,h,k,_=>by cases h
 | c::l,d,h,k,a=>by
  simp only [DataW.weightsAll,QR];rcases QN.1 h with rfl | h
  .exact .inl a
  .exact .inr (Ai h k a)
theorem G3{H:Type}{P:Program}{us:List TypeId}{a:List (DataW H)}{k:Nat}:∀{ts:List TypeId} {ds:List (DataW H)},k∈DataW.weightsEach P ts ds->k∈DataW.weightsEach P (ts++us) (ds++a)
 | [],ds,h=>by simp [DataW.weightsEach] at h
 | t::ts,[],h=>by simp [DataW.weightsEach] at h
 | t::ts,d::ds,h=>by simp only [DataW.weightsEach,Rs,QR] at h⊢;exact h.imp id G3
theorem aS.wV{A:Nat->Prop}:∀{a b:List T} {vs us:List Value},aS w A a vs->aS w A b us->aS w A (a++b) (vs++us)
 | [],b,vs,us,h,h'=>by simp only [aS] at h;subst h;simpa using h'
 | c::a,b,vs,us,⟨v,r,e,d,f⟩,h'=>by subst e;exact⟨v,r++us,rfl,d,aS.wV f h'⟩
theorem GV{n m:Nat}(o:∀(t:TypeId) (cs:List Value) (x:DataW H×List MemPlace),jb P n t=true->DataW.trod enc P w base sp held m t cs=some x->n9 P t x.1->
   ∃ts,aS w (λb=>b < w.heap.size) ts cs/\Wt P n t ts) (cs:List Value):∀(i:List Field) (off E:Nat),tm P (jb P n) i off=some E->E<=cs.length->
   (∀f∈i,∃x,DataW.trod enc P w base sp held m f.type ((cs.drop f.offset).take (P.cellsOf f.type))=some x/\n9 P f.type x.1)->
   off<=E/\∃ts,aS w (λb=>b < w.heap.size) ts ((cs.drop off).take (E - off))/\tT (Wt P n) i ts
 | [],off,E,d,k,_=>by simp only [tm,Qy] at d;subst d;exact⟨QV _,[],by simp [aS],rfl⟩
 | f::i,off,E,d,k,l=>by
  simp only [tm] at d;split at d
  .rename_i r;obtain⟨p,q⟩:=r;obtain⟨x,v,j⟩:=l f QA;obtain⟨a,y,B⟩:=o _ _ _ q v j;obtain⟨D,b,z,C⟩:=GV o cs i _ E d k λg u=>l g (QB _ u);refine⟨by omega,a++b, ?_,⟨a,b,rfl,B,C⟩⟩;have e:(cs.drop off).take (E - off)= (cs.drop f.offset).take (P.cellsOf f.type)++ (cs.drop (off+P.cellsOf f.type)).take (E - (off+P.cellsOf f.type)):=by
    rw [p,<-S9];have:E - off=P.cellsOf f.type+ (E - (off+P.cellsOf f.type)):=by omega
    rw [this,List.take_add]
   rw [e];exact aS.wV y z
  .cases d
theorem GW{n m e:Nat}(l:∀(t:TypeId) (cs:List Value) (x:DataW H×List MemPlace),jb P n t=true->DataW.trod enc P w base sp held m t cs=some x->n9 P t x.1->
   ∃ts,aS w (λb=>b < w.heap.size) ts cs/\Wt P n t ts) (f:jb P n e=true):∀(k:Nat) (cs:List Value),cs.length=k * P.cellsOf e->
   (∀i,i < k->∃x,DataW.trod enc P w base sp held m e ((cs.drop (i * P.cellsOf e)).take (P.cellsOf e))=some x/\n9 P e x.1)->∃ts,aS w (λb=>b < w.heap.size) ts cs/\wR (Wt P n e) k ts
 | 0,cs,hl,_=>by have:cs= []:=Q7.1 (by simpa using hl);subst this;exact⟨[],rfl,rfl⟩
 | k+1,cs,hl,g=>by
  obtain⟨x,j,d⟩:=g 0 (Nat.zero_lt_succ _);simp only [Nat.zero_mul,Tu] at j;obtain⟨a,p,r⟩:=l _ _ _ f j d;obtain⟨b,q,u⟩:=GW l f k (cs.drop (P.cellsOf e)) (by rw [RM,hl,Ry];omega) λi v=>by
   obtain⟨y,o,d⟩:=g (i+1) (by omega);refine⟨y, ?_,d⟩;rw [S9];have:P.cellsOf e+i * P.cellsOf e= (i+1) * P.cellsOf e:=by rw [Ry];omega
   rw [this];exact o
  refine⟨a++b, ?_,⟨a,b,rfl,r,u⟩⟩;have:=aS.wV p q;rwa [List.take_append_drop] at this
theorem Ez{A:Nat->Prop}{af sz:Nat}{n e:Nat}:∀(len off:Nat),(∀i,i < len->∃ts a,ts.length=sz/\aS w A ts a/\Wt P n e ts/\∀j v,a[j]? =some v->w.cell? ⟨af,off+i * sz+j,none⟩=some v)->
  ∃xs:List (List T),xs.length=len/\bd w A af sz off xs/\∀cs∈xs,Wt P n e cs
 | 0,off,_=>⟨[],rfl,trivial,(by intro c b;cases b)⟩
 | len+1,off,h=>by
  obtain⟨ts,a,d,f,g,k⟩:=h 0 (Nat.zero_lt_succ _);obtain⟨xs,m,o,p⟩:=Ez (A:=A) (af:=af) (sz:=sz) (n:=n) (e:=e) len (off+sz) λi q=>by
   obtain⟨ts,a,d,f,g,k⟩:=h (i+1) (by omega);refine⟨ts,a,d,f,g,λj v l=> ?_⟩;have:=k j v l;have e:off+ (i+1) * sz+j=off+sz+i * sz+j:=by rw [Ry];omega
   rwa [e] at this
  refine⟨ts::xs,by simp [m],⟨d,aZ.ke f λj v l=> ?_,o⟩,λc b=> ?_⟩
  .have:=k j v l;simpa using this
  .rcases QN.1 b with rfl | b
   .exact g
   .exact p c b
theorem wD:∀(n:Nat) (m:Nat) (t:TypeId) (cs:List Value) (x:DataW H×List MemPlace),jb P n t=true->DataW.trod enc P w base sp held m t cs=some x->n9 P t x.1->
  ∃ts,aS w (λb=>b < w.heap.size) ts cs/\Wt P n t ts
 | 0,m,t,cs,x,g,_,_=>by simp [jb] at g
 | n+1,m,t,cs,x,g,h,l=>by
  simp only [jb] at g;split at g
  .rename_i d;obtain⟨b,rfl,_⟩:=DataW.trod_bool d h;exact⟨[.bool b],⟨_,[],rfl,rfl,rfl⟩,by simp only [Wt,d];exact⟨b,rfl⟩⟩
  .rename_i k d;obtain⟨z,rfl,_,X⟩:=DataW.trod_int d h;exact⟨[.int k z],⟨_,[],rfl,rfl,rfl⟩,by simp only [Wt,d];exact⟨z,rfl,X⟩⟩
  .rename_i d;obtain⟨s,rfl,_,X⟩:=DataW.trod_string d h;exact⟨[.str s],⟨_,[],rfl,rfl,rfl⟩,by simp only [Wt,d];exact⟨s,rfl,X⟩⟩
  .rename_i e d;simp only [QF,decide_eq_true_eq] at g;obtain⟨V,C⟩:=g;rcases Go.Deep.open_slice d h with⟨rfl,_⟩ | ⟨a,len,cap,k,F,D,Pl,rfl,hb,hl,hm,hk,rfl,M⟩
   .exact⟨[.ab (P.cellsOf e) true []],⟨_,[],rfl, .inl ⟨rfl,rfl,rfl⟩,rfl⟩,by simp only [Wt,d];exact⟨true,[],rfl,λ_=>rfl,by simp,(by intro c B;cases B),by simp⟩⟩
   .obtain⟨af,off,s⟩:=a;have hlk:len<=k:=by rw [hk];split <;> omega
    dsimp only at l;have Q:len * P.bytesOf e<=reachBytes:=by have:=l ((len+ (k - len)) * P.bytesOf e) (by simp [DataW.weights,d]);exact Rt (Rx _ (SX _ _)) this
    have K:∀i,i < len->n9 P e (D i):=λi p q E=>l q (by
     simp only [DataW.weights,d,QN,QR];exact .inr (.inl (Ai (Rb.2 ⟨i,Tt.2 p,rfl⟩) q E)))
    have I: 0 < len->s=none/\af < w.heap.size:=by
     intro h0;obtain⟨y,B,_⟩:=M 0 (by omega);obtain⟨J,u,r⟩:=World.cells?_some B;have L:=World.cells?_block B C;have o:=r 0 C;have N:((⟨af,off,s⟩:Addr).add (0 * P.cellsOf e)).add 0= ⟨af,off,s⟩:=by simp [Addr.add]
     rw [N] at o;have Z:∃v,y[0]? =some v:=⟨_,QK (by omega)⟩;obtain⟨v,hv⟩:=Z;rw [hv] at o;refine⟨?_, ?_⟩
     .cases s with
      | none=>rfl
      | some z=>simp only [World.cell?] at o;split at o <;> simp at o
     .have e:((⟨af,off,s⟩:Addr).add (0 * P.cellsOf e))= ⟨af,off,s⟩:=by simp [Addr.add]
      rw [e] at L;exact L
    obtain⟨xs,k1,k2,k3⟩:=Ez (P:=P) (w:=w) (A:=λb=>b < w.heap.size) (af:=af) (sz:=P.cellsOf e) (n:=n) (e:=e) len off λi p=>by
     obtain⟨y,B,hd⟩:=M i (by omega);obtain⟨hs,_⟩:=I (by omega);subst hs;obtain⟨ts,r1,G⟩:=wD n F e y _ V hd (K i (by omega));obtain⟨J,u,r⟩:=World.cells?_some B;refine⟨ts,y,by rw [<-r1.length,u],r1,G,λj v hj=> ?_⟩;have hj':j < P.cellsOf e:=by rw [<-u];exact(QC.1 hj).1
     have:=r j hj';rw [hj,gg,gg] at this;exact this
    refine⟨[.ab (P.cellsOf e) false xs],⟨_,[],rfl, .inr ⟨rfl,af,off,s,cap,by rw [k1],by omega, ?_,k2⟩,rfl⟩,by simp only [Wt,d];exact⟨false,xs,rfl,λh=>(by cases h),by omega,k3,by rw [k1];exact Q⟩⟩;by_cases h0:len=0
    .left;exact Q7.1 (by omega)
    .right;exact I (by omega)
  .rename_i Y d;simp only [decide_eq_true_eq] at g;obtain⟨xs,F,rfl,rfl,hl,hsz,U⟩:=DataW.trod_struct d h;dsimp only at l;obtain⟨_,ts,r1,G⟩:=GV (λt cs x=>wD n F t cs x) cs Y.toList 0 _ g (by omega) λf hf'=>by
    obtain⟨i,p,e⟩:=List.getElem_of_mem hf';have e':Y.toList[i]? =some f:=by rw [QK p,e]
    have:=U i f (by rw [<-Ru];exact e');rw [this];have hx:xs[i]? =some (xs[i]'(by simp at p;omega)):=QK (by simp at p;omega);refine⟨_,hx,λq E=>l q ?_⟩;simp only [DataW.weights,d];exact DataW.weights_mem_each (j:=i) (by rw [RI,e'];rfl) (by rw [RI,hx];rfl) q E
   refine⟨ts, ?_,by simp only [Wt,d];exact G⟩;simp only [Tu,Nat.sub_zero] at r1;rwa [<-hl,Tf] at r1
  .rename_i m' e d;simp only [QF,decide_eq_true_eq] at g;obtain⟨xs,F,rfl,rfl,hl,hsz,U⟩:=DataW.trod_array d h;dsimp only at l;obtain⟨ts,r1,G⟩:=GW (λt cs x=>wD n F t cs x) g.1 m' cs (by omega) λi p=>by
    rw [U i p];refine⟨_,QK (by omega),λq E=>l q ?_⟩;simp only [DataW.weights,d];exact Ai (Rb.2 ⟨_,Su _,rfl⟩) q E
   exact⟨ts,r1,by simp only [Wt,d];exact G⟩
  .cases g
end
def tu(P:Program)(n:Nat):List TypeId->List AV->Prop
 | [],b=>b= []
 | t::ts,b=>∃a r,b=a::r/\((bD P t=true/\∃l,Wt P n t l/\a= .agg (l.map .t))\/(bD P t=false/\∃x,Wt P n t [x]/\a= .t x))/\tu P n ts r
section
variable {H:Type} {enc:TypeId×Value->H} {P:Program} {W W':World} {sp:Nat->Bool} {held:Bool}
theorem Nz{n:Nat}{t:TypeId}{v:Value}{d:DataW H}{F:List MemPlace}{r:Reach}{D base:Nat}(o:jb P (n+1) t=true)(f:Value.okWide P W r D t v)(h:DataW.Trod enc P W base sp held t v d F)(B:n9 P t d):
  ∃a,((bD P t=true/\∃l,Wt P (n+1) t l/\a= .agg (l.map .t))\/(bD P t=false/\∃x,Wt P (n+1) t [x]/\a= .t x))/\ai W (λb=>b < W.heap.size) (λ_=>none) a v:=by
 obtain⟨m,hm⟩:=h;obtain⟨ts,r1,C⟩:=wD (n+1) m t _ _ o hm B;have j:bD P t=false->v.cells= #[v]->∃a,((bD P t=true/\∃l,Wt P (n+1) t l/\a= .agg (l.map .t))\/(bD P t=false/\∃x,Wt P (n+1) t [x]/\a= .t x))/\ai W (λb=>b < W.heap.size) (λ_=>none) a v:=by
  intro p E;rw [E] at r1
  match ts,r1 with
  | [],r1=>simp [aS] at r1
  | [x],⟨u,q,e,g,_⟩=>simp only [RH] at e;obtain⟨rfl,_⟩:=e;exact⟨.t x, .inr ⟨p,x,C,rfl⟩,by simpa [ai] using g⟩
  | x::y::z,⟨u,q,e,_,⟨K,J,e',_⟩⟩=>subst e';simp at e
 have agg:bD P t=true->(∃cs,v= .agg cs)->∃a,((bD P t=true/\∃l,Wt P (n+1) t l/\a= .agg (l.map .t))\/(bD P t=false/\∃x,Wt P (n+1) t [x]/\a= .t x))/\ai W (λb=>b < W.heap.size) (λ_=>none) a v:=by rintro p ⟨cs,rfl⟩;refine⟨.agg (ts.map .t), .inl ⟨p,ts,C,rfl⟩, ?_⟩;simp only [ai];exact⟨cs.toList,by simp,az.kR r1,r1.one⟩
 simp only [jb] at o;split at o
 .rename_i i;simp only [Value.okWide,i,Cell.okWide] at f;refine j (by simp [bD,i]) ?_;cases v <;> first | rfl | (simp [Cell.ok,i] at f)
 .rename_i k i;simp only [Value.okWide,i,Cell.okWide] at f;refine j (by simp [bD,i]) ?_;cases v <;> first | rfl | (simp [Cell.ok,i] at f)
 .rename_i i;simp only [Value.okWide,i,Cell.okWide] at f;refine j (by simp [bD,i]) ?_;cases v <;> first | rfl | (simp [Cell.ok,i] at f)
 .rename_i e i;simp only [Value.okWide,i,Cell.okWide] at f;refine j (by simp [bD,i]) ?_;cases v <;> first | rfl | (simp [Cell.ok,i] at f)
 .rename_i G i;simp only [Value.okWide,i] at f;obtain⟨cs,e,_⟩:=f;exact agg (by simp [bD,i]) ⟨cs,e⟩
 .rename_i I e i;simp only [Value.okWide,i] at f;obtain⟨cs,e,_⟩:=f;exact agg (by simp [bD,i]) ⟨cs,e⟩
 .cases o
theorem E6{n:Nat}{r:Reach}{y base:Nat}:∀{ts:List TypeId} {vs:List Value} {ds:List (DataW H)} {m:List MemPlace},ts.all (jb P (n+1))=true->(∀(j:Nat) (t:TypeId) (v:Value),ts[j]? =some t->vs[j]? =some v->Value.okWide P W r y t v)->
  DataW.TrodAll enc P W base sp held ts vs ds m->(∀k∈DataW.weightsEach P ts ds,k<=reachBytes)->∃e,tu P (n+1) ts e/\az W (λb=>b < W.heap.size) (λ_=>none) e vs
 | [],vs,ds,m,_,_,h,_=>by obtain⟨rfl,_,_⟩:=trodAll_nil h;exact⟨[],rfl,by simp [az]⟩
 | t::ts,vs,ds,m,g,i,h,f=>by simp only [RX,QF] at g;obtain⟨v,x,d,J,p,q,rfl,rfl,rfl,z,B⟩:=trodAll_cons h;obtain⟨a,C,D⟩:=Nz g.1 (i 0 t v rfl rfl) z (λk l=>f k (by simp only [DataW.weightsEach,QR];exact .inl l));obtain⟨e,o,u⟩:=E6 g.2 (λj G I E F=>i (j+1) G I (by simpa using E) (by simpa using F)) B (λk l=>f k (by simp only [DataW.weightsEach,QR];exact .inr l));exact⟨a::e,⟨a,e,rfl,C,o⟩,by simp only [az];exact⟨v,x,rfl,D,u⟩⟩
theorem Gi(hl:laidOutB P=true)(i:Below W.heap.size W W'):∀{ts:List TypeId} {vs:List Value} {ds:List (DataW H)} {a:List MemPlace},(ts.all λt=>P.readableRec t && decide (t < P.types.size))=true->
  DataW.TrodAll enc P W 0 (λ_=>true) true ts vs ds a->(∀x∈a,x.block < W.heap.size)->DataW.TrodAll enc P W' 0 (λb=>decide (b < W.heap.size)) true ts vs ds a
 | [],vs,ds,a,_,h,_=>by obtain⟨rfl,rfl,rfl⟩:=trodAll_nil h;exact trodAll_mk0
 | t::ts,vs,ds,a,e,h,f=>by simp only [RX,QF,decide_eq_true_eq] at e;obtain⟨v,m,d,l,p,q,rfl,rfl,rfl,j,k⟩:=trodAll_cons h;exact trodAll_cons_mk (Below.trod hl e.1.1 e.1.2 j i λx g=>f x (QQ _ g)) (Gi hl i (by simpa using e.2) k λx g=>f x (QP _ g))
theorem HB(a:Below W.heap.size W W')(b:MemPlace->Prop):W.keptBut W' b:=by
 refine⟨a.os,a.output,λi d=> ?_⟩;rw [a.block i d];cases W.heap[i]? with
 | none=>rfl
 | some o=>cases o <;> first | exact⟨rfl,rfl,rfl,λ_ _=>rfl⟩ | exact .inr ⟨rfl,rfl⟩ | rfl
theorem law_contract{n:Nat}{fn:Func}{s:ChangeSpec}{An:cA}{f:FuncId}{tb:TypeId}(hm:P.follows .mixedOrders=true)(hn:(P.funcs.toList.all λfn=>fn.name != "runtime.NumGoroutine")=true)(hl:laidOutB P=true)
  (N:P.funcs[f]? =some fn) (G:An.gS f=none) (I:de P An f 0 fn= [.f .b]) (Y:P.underlying tb=some .bool) (X:fn.resultTypes= #[tb])
  (C:fn.params.toList.all (jb P (n+1))=true) (l:(fn.params.toList.all λt=>P.readableRec t && decide (t < P.types.size))=true)
  (m:s.vars= []) (B:∀(ds:List (DataW H)),ds.length=fn.params.toList.length->s.fn H ds= {results:= [.lit (.bool true)],args:=ds})
  (g:∀a,tu P (n+1) fn.params.toList a->kS P An (.call f) a []=some [.bool true])
  (W:World) (base:Nat) (args:Array Value) (ds J:List (DataW H)) (r:List MemPlace) (z:∀(j:Nat) t v,fn.params[j]? =some t->args[j]? =some v->Value.okWide P W .any base t v)
  (K:DataW.Whole enc P fn.params.toList s.vars false W args.toList ds J r)
  (D:(DataW.weightsEach P (fn.params.toList++s.plain.varTypes P) (ds++J)).all (· <=reachBytes)=true)
  (hX:l0 P An:=by exact Go.Aev.l0.no λ_ _ _=>rfl) (hG:GlobOk W:=by exact Go.Aev.globOk _):
  Calls P f args W λe W'=>∃v,e= .returned v/\s.post enc P fn false true false false W args v W':=by
 have u:=K;obtain⟨p,q,o,E,rfl,hz,Q⟩:=K;rw [m] at E;obtain⟨rfl,rfl⟩:=trodVars_none E;obtain⟨a,L,V⟩:=E6 C (λj t v ht hv=>z j t v (by rw [<-Ru];exact ht) (by rw [<-Ru];exact hv)) o (λk hk=>by simpa using QU.1 D k (G3 hk));have F:ds.length=fn.params.toList.length:=by
  clear u V L z hz Q E l C g D;generalize fn.params.toList=ts at o;generalize args.toList=vs at o;induction ts generalizing vs ds p with
  | nil=>obtain⟨_,rfl,_⟩:=trodAll_nil o;rfl
  | cons t ts ih=>obtain⟨v,vs',d,ds',p',q',_,rfl,_,_,Z⟩:=trodAll_cons o;simp [ih _ _ _ Z]
 have U:∀(f:FuncId) (fn:Func),P.funcs[f]? =some fn->fn.name≠ "runtime.NumGoroutine" :=by intro f fn h;have:=QU.1 hn fn (QH (i:=f) (by rw [Ru];exact h));simpa using this
 have:=H3 (w:=W) (A0:=λb=>b < W.heap.size) hX hm U N G I (λ_ h=>h) V (g a L) hG;rw [show args.toList.toArray=args from by simp] at this;refine this.mono λe W' ⟨he,M⟩=>⟨.bool true,he, ?_⟩;have y:=B ds F;refine⟨ds,[],p++ [],[],p,[],u, ?_, ?_, ?_,HB M _,λh=>by cases h⟩
 .rw [QX,y,X];exact trodAll_cons_mk (shut_bool Y true) trodAll_mk0
 .rw [QX,y];exact Gi hl M l o (λx hx=>u.lt x (by simpa using hx))
 .rw [QX,y,m];rfl
end
section
variable {P:Program} {n:Nat} {t:TypeId} {ts:List T}
theorem Qu{k:IntKind}(a:P.underlying t=some (.int k))(h:Wt P (n+1) t ts):∃m,ts= [.int k m]/\(Lit.int k m).wf=true:=by simpa only [Wt,a] using h
theorem G6(a:P.underlying t=some .string)(h:Wt P (n+1) t ts):∃s,ts= [.str s]/\s.size<=maxLen:=by simpa only [Wt,a] using h
theorem mL{a:Array Field}(b:P.underlying t=some (.struct a))(h:Wt P (n+1) t ts):tT (Wt P n) a.toList ts:=by simpa only [Wt,b] using h
theorem Qv{e:TypeId}(a:P.underlying t=some (.slice e))(h:Wt P (n+1) t ts):∃b xs,ts= [.ab (P.cellsOf e) b xs]/\(b=true->xs= [])/\xs.length<=maxLen/\(∀cs∈xs,Wt P n e cs)/\xs.length * P.bytesOf e<=reachBytes:=by simpa only [Wt,a] using h
theorem rB{k:Type}(g:k->List T){e:TypeId}(r:P.underlying t=some (.slice e))(h:Wt P (n+1) t ts)(q:∀cs,Wt P n e cs->∃a,cs=g a):
  ∃b l,ts= [.ab (P.cellsOf e) b (l.map g)]/\(b=true->l= [])/\l.length<=maxLen/\l.length * P.bytesOf e<=reachBytes:=by
 obtain⟨b,xs,rfl,d,f,i,j⟩:=Qv r h;have:∃l:List k,xs=l.map g:=by
  clear d f h j;induction xs with
  | nil=>exact⟨[],rfl⟩
  | cons c xs u=>obtain⟨a,m⟩:=q c (i c QA);obtain⟨l,hl⟩:=u λcs p=>i cs (QB _ p);exact⟨a::l,by rw [m,hl];rfl⟩
 obtain⟨l,rfl⟩:=this;exact⟨b,l,rfl,λo=>by simpa using d o,by simpa using f,by simpa using j⟩
theorem AR{a:AV}(h:(bD P t=true/\∃l,Wt P n t l/\a= .agg (l.map .t))\/(bD P t=false/\∃x,Wt P n t [x]/\a= .t x))(b:bD P t=true):∃l,Wt P n t l/\a= .agg (l.map .t):=by
 rcases h with h | h
 .exact h.2
 .rw [b] at h;cases h.1
end
end Go.Aev
