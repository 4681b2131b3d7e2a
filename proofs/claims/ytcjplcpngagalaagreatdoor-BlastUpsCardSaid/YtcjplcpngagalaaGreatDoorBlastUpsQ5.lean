import Derived.Test.YtcjplcpngagalaaGreatDoorBlastUpsQ4
import Derived.Orders
import Derived.Still
import Derived.Below
import Derived.Deep.Slices
import Derived.Carry
import Derived.ProofKit
import Derived.OpenShut
import Derived.SizedLaws
set_option linter.all false
namespace Go.Aev
open Go Go.IntKind
section
variable {P:Program} {An:cC} {Or:aq} {w w':World} {A A':Nat->Prop} {c:Ctx} {ρ:Id->Option Value} {O:Id->Option Nat} {s s':St}
structure dV (c:Ctx) (nt:Nat) (w:World) (s:St) (ρ:Id->Option Value) (O:Id->Option Nat) (a:Act):Prop where
 hs:HS c w s.h ρ O
 ss:SS w (AA c w O) ρ s.t a.tmps
 nt:a.tmps.size=nt
 defers:a.defers= []
def me(ops:Array Oper)(s:St):Prop:= ∀k g v,s.t k= (some g,v)->dw ops (some g.d)=true
theorem lK{a:Act}{d k:Nat}{x:Value}(b:d < a.tmps.size):(a.put (some d) x).tmps.getD k undef=if k=d then x else a.tmps.getD k undef:=by
 simp only [Act.put];by_cases e:k=d
 .subst e;simp [b]
 .rw [if_neg e];simp [Qn (Qm e)]
theorem uE(a:Act)(d:Option Nat)(x:Value):(a.put d x).tmps.size=a.tmps.size:=by cases d <;> simp [Act.put]
theorem uD(a:Act)(d:Option Nat)(x:Value):(a.put d x).defers=a.defers:=by cases d <;> rfl
theorem IK{ops:Array Oper}{o:Oper}{a:Act}{g:Option Gs}(L:SS w A ρ s.t a.tmps)(h:cX ops o s some=some g):
  (Region.wanted o (yielded ops a.tmps)=true->je a.tmps g)/\
  (Region.wanted o (yielded ops a.tmps)=false->∃i,g=some i/\a.tmps.getD i.d undef≠ .bool i.want/\i.c=false)/\
  (∀i,g=some i->dw ops (some i.d)=true\/∀Q∈ops,Q≠o):=by
 unfold cX at h;cases q:o.guard with
 | none=>simp only [q,NL] at h;subst h;exact⟨λ_=>trivial,λh=>by simp [Region.wanted,q] at h,λi h=>by cases h⟩
 | some p=>
  obtain⟨j,want⟩:=p;simp only [q] at h;cases B:(ops[j]?).bind (·.dst) with
  | none=>simp [B] at h
  | some d=>
   simp only [B] at h;replace h:=NM.1 h;obtain⟨x,m,h⟩:=h;have M:Region.wanted o (yielded ops a.tmps)=true↔a.tmps.getD d undef= .bool want:=by
    simp only [Region.wanted,q,yielded,B,NO,beq_iff_eq];rw [O8];cases a.tmps[d]? with
    | none=>simp [undef]
    | some u=>cases u <;> simp
   have J:∀i,g=some i->i.d=d/\i.want=want:=by intro i e;replace h:=nT h;obtain⟨b,h,_⟩:=h;simp only [NL] at h;rw [<-h] at e;simp only [NL] at e;subst e;exact⟨rfl,rfl⟩
   have C:∃i,g=some i:=by replace h:=nT h;obtain⟨b,h,_⟩:=h;simp only [NL] at h;exact⟨_,h.symm⟩
   obtain⟨i,rfl⟩:=C;obtain⟨F,G⟩:=J i rfl;refine⟨λN=> ?_,λE=>⟨i,rfl, ?_⟩,λY e=> ?_⟩
   .have D:=M.1 N;simp only [je,F,G];refine⟨D, ?_⟩;have f:=L d;rw [D] at f;cases y:s.t d with
    | mk gd v=>
     rw [y] at f m h;dsimp only at m h f;rw [AV.jX m] at f;cases gd with
     | none=>simp only [aj] at f;simp only [Qr] at h;replace h:=aO h (.inl rfl);obtain⟨b,l,h⟩:=h;simp only [NL] at h;have:=T.gR l;subst this;simp only [ay,Value.bool.injEq] at f;rw [<-h,<-f];cases want <;> rfl
     | some U=>
      simp only at f;rcases f with⟨_,k,z⟩ | ⟨_,_,X⟩
      .simp only [Po,k] at h;replace h:=aO h (.inr rfl);obtain⟨b,l,h⟩:=h;simp only [NL] at h;have:=T.gR l;subst this;simp only [aj,ay,Value.bool.injEq] at z;rw [<-h,<-z];simp only [gC,k];cases want <;> rfl
      .simp [undef] at X
   .have r:a.tmps.getD d undef≠ .bool want:=λV=>by
     have:=M.2 V;rw [this] at E;cases E
    refine⟨by rw [F,G];exact r, ?_⟩;have f:=L d;cases y:s.t d with
    | mk gd v=>
     rw [y] at f m h;dsimp only at m h f;rw [AV.jX m] at f;cases gd with
     | none=>simp only [aj] at f;simp only [Qr] at h;replace h:=aO h (.inl rfl);obtain⟨b,l,h⟩:=h;simp only [NL] at h;have:=T.gR l;subst this;simp only [ay] at f;have I:b≠want:=λe=>r (by rw [f,e]);rw [<-h];simp only [gC];cases b <;> cases want <;> simp_all [sY]
     | some U=>
      simp only at f;rcases f with⟨_,k,z⟩ | ⟨_,k,_⟩
      .simp only [Po,k] at h;replace h:=aO h (.inr rfl);obtain⟨b,l,h⟩:=h;simp only [NL] at h;have:=T.gR l;subst this;simp only [aj,ay] at z;have I:b≠want:=λe=>r (by rw [z,e]);rw [<-h];simp only [gC,k];cases b <;> cases want <;> simp_all [sY]
      .replace h:=nT h;obtain⟨b,h,_⟩:=h;simp only [NL] at h;rw [<-h];simp [gC,k]
   .simp only [NL] at e;subst e;by_cases hm:o∈ops
    .left;unfold dw;rw [PY];exact⟨o,hm,by simp [q,B,F]⟩
    .right;intro Q K e;exact hm (e▸K)
theorem xU{ops:Array Oper}{o:Oper}{g:Option Gs}{v:AV}{us:aB}(b:me ops s)(p:∀q,g=some q->dw ops (some q.d)=true):me ops (s.put (dw ops o.dst) o.dst g v us):=by
 intro k m u a;cases r:o.dst with
 | none=>simp only [St.put,r] at a;exact b k m u a
 | some d=>
  simp only [St.put,r] at a;by_cases e:k=d
  .simp only [if_pos e,Ow] at a;exact p m a.1
  .simp only [if_neg e] at a;cases f:dw ops (some d) with
   | false=>rw [f,cond_false] at a;exact b k m u a
   | true=>
    rw [f,cond_true] at a;cases l:s.t k with
    | mk i vk=>
     rw [l] at a;cases i with
     | none=>simp [kC] at a
     | some i=>
      simp only [kC] at a;cases j:(i.d==d) with
      | true=>simp [j] at a
      | false=>simp only [j,cond_false,Ow,NL] at a;rw [<-a.1];exact b k i vk l
theorem uF{nt:Nat}{ops:Array Oper}{o:Oper}{a:Act}{g:Option Gs}{v:AV}{us:aB}(ss:SS w (AA c w O) ρ s.t a.tmps)(E:a.tmps.size=nt)(D:me ops s)
  (u:∀d,o.dst=some d->d < nt) (C:∀j d,g=some j->o.dst=some d->j.d≠d)
  (w':World) (ρ':Id->Option Value) (O':Id->Option Nat) (x:Value) (I:∀b,AA c w O b->AA c w' O' b/\w'.heap[b]? =w.heap[b]?) (G:∀i v,ρ i=some v->ρ' i=some v)
  (F:match g with
   | none=>aj w' (AA c w' O') ρ' v x
   | some j=>(a.tmps.getD j.d undef= .bool j.want/\j.c=true/\aj w' (AA c w' O') ρ' v x)\/(a.tmps.getD j.d undef≠ .bool j.want/\j.c=false/\x=undef)):
  SS w' (AA c w' O') ρ' (s.put (dw ops o.dst) o.dst g v us).t (a.put o.dst x).tmps:=by
 have r:=SS.mono I G ss;cases z:o.dst with
 | none=>simp only [St.put,Act.put];exact r
 | some d=>
  have f:d < a.tmps.size:=by rw [E];exact u d z
  intro k;simp only [St.put];by_cases e:k=d
  .subst e;simp only [if_true];cases g with
   | none=>simp only;rw [lK f,if_pos rfl];exact F
   | some j=>have p:j.d≠k:=C j k rfl z;simp only;rw [lK f,lK f,if_neg p,if_pos rfl];exact F
  .simp only [if_neg e];have l:=r k;cases y:dw ops (some d) with
   | false=>
    simp only [cond_false];cases q:s.t k with
    | mk m vk=>
     rw [q] at l;cases m with
     | none=>simp only at l⊢;rw [lK f,if_neg e];exact l
     | some m=>
      have p:m.d≠d:=by intro e';have:=D k m vk q;rw [e',y] at this;cases this
      simp only at l⊢;rw [lK f,lK f,if_neg e,if_neg p];exact l
   | true=>
    simp only [cond_true];cases q:s.t k with
    | mk m vk=>
     rw [q] at l;cases m with
     | none=>simp only [kC] at l⊢;rw [lK f,if_neg e];exact l
     | some m=>
      simp only [kC];cases B:(m.d==d) with
      | true=>simp [aj]
      | false=>
       have p:m.d≠d:=by simpa using B
       simp only [cond_false] at l⊢;rw [lK f,lK f,if_neg e,if_neg p];exact l
theorem SS.pH{tmps:Array Value}{e:Gs}(hs:SS w A ρ s.t tmps)(m:tmps.getD e.d undef= .bool e.want):SS w A ρ (s.pH e).t tmps:=by
 intro k;have b:=hs k;simp only [St.pH];cases f:s.t k with
 | mk i v=>
  rw [f] at b;cases i with
  | none=>simp only [jv,cond_true] at b⊢;exact b
  | some g=>
   by_cases a:jv (some g) (some e)=true
   .simp only [a,cond_true];simp only [jv,NT,beq_iff_eq] at a;simp only at b;rcases b with⟨_,_,l⟩ | ⟨j,_⟩
    .exact l
    .exfalso;apply j;rw [a.1,a.2];exact m
   .simp only [Ps] at a;simp only [a,cond_false];exact b
theorem C4{m:Bool}{nt:Nat}{ops:Array Oper}{o:Oper}{a:Act}(hO:il P An Or)(f:dV c nt w s ρ O a)(p:me ops s)(hmem:o∈ops)(h:eu P An Or m nt ops o s=some s'):
  me ops s'/\∀(K:Act->World->Prop) (Q:Exit->Act->World->Prop),(∀a' w' ρ' O',Le w ρ O w' ρ' O'->dV c nt w' s' ρ' O' a'->K a' w')->
   if Region.wanted o (yielded ops a.tmps) then o.wp P a w K Q\/(o.asks P a w/\LetsOut Q) else K (a.put o.dst undef) w:=by
 unfold eu mR at h;rw [tM] at h;replace h:=NM.1 h;obtain⟨g,hg,h⟩:=h;obtain⟨G,B,Z⟩:=IK f.ss hg;have y:∀j,g=some j->dw ops (some j.d)=true:=λj e=>(Z j e).resolve_right λhn=>hn o hmem rfl;cases l:ou An m o g with
 | none=>
  rw [l] at h;dsimp only at h;rw [oM] at h;replace h:=NM.1 h;obtain⟨⟨v,us⟩,M,h⟩:=h;dsimp only at h;rw [qU] at h;replace h:(if lT P An m nt ops o g s v us then some (s.put (dw ops o.dst) o.dst g v us) else none)=some s':=by
   cases hk:iy An m o s.h us with
   | false=>rw [hk] at h;cases h
   | true=>rw [hk] at h;exact h
  split at h
  .rename_i F;simp only [NL] at h;subst h;simp only [lT,NT] at F;obtain⟨⟨⟨hdst,I⟩,z⟩,_⟩:=F;have k:∀d,o.dst=some d->d < nt:=λd e=>by simpa [e] using hdst
   have E:∀j d,g=some j->o.dst=some d->j.d≠d:=λj d X Y=>by subst X;simp only [Y,NT,OF,beq_eq_false_iff_ne,ne_eq,NL] at I;exact λe=>I.2 e.symm
   refine⟨xU p y,λK Q L=> ?_⟩;split
   .rename_i q;left;have i:=G q;refine gK.wp (yX hO f.hs f.ss i M z) λx w' ⟨ρ',O',le,N,V⟩=> ?_;refine L _ w' ρ' O' le ⟨N, ?_,by rw [uE];exact f.nt,by rw [uD];exact f.defers⟩;refine uF f.ss f.nt p k E w' ρ' O' x (λb r=>le.A b r) le.dQ ?_;cases g with
    | none=>exact V
    | some j=>exact .inl ⟨i.1,i.2,V⟩
   .rename_i q;obtain⟨j,rfl,J,u⟩:=B (by simpa using q);have hus:us= []:=by
     simp only [NT,PF] at I;exact I.1
    subst hus;refine L _ w ρ O Le.refl ⟨f.hs, ?_,by rw [uE];exact f.nt,by rw [uD];exact f.defers⟩;exact uF f.ss f.nt p k E w ρ O undef (λb r=>⟨r,rfl⟩) (λ_ _ h=>h) (.inr ⟨J,u,rfl⟩)
  .simp at h
 | some j=>
  rw [l] at h;dsimp only at h;have hg':g=some j:=by
   cases g with
   | none=>simp [ou] at l
   | some g0=>
    simp only [ou] at l;cases r:(!m && dP An o) with
    | false=>rw [r] at l;cases l
    | true=>rw [r] at l;simpa using l
  subst hg';cases D:td nt o j with
  | false=>rw [D] at h;cases h
  | true=>
   rw [D,cond_true] at h;simp only [td,NT] at D;have k:∀d,o.dst=some d->d < nt:=λd e=>by simpa [e] using D.1
   have E:∀C d,some j=some C->o.dst=some d->C.d≠d:=λC d X Y=>by cases X;have:=D.2;simp only [Y,OF,beq_eq_false_iff_ne,ne_eq,NL] at this;exact λe=>this e.symm
   cases U:j.c with
   | false=>
    rw [U,cond_false] at h;simp only [NL] at h;subst h;refine⟨xU p y,λK Q L=> ?_⟩;split
    .rename_i q;have:=(G q).2;rw [U] at this;cases this
    .rename_i q;obtain⟨C,e,J,u⟩:=B (by simpa using q);cases e;refine L _ w ρ O Le.refl ⟨f.hs, ?_,by rw [uE];exact f.nt,by rw [uD];exact f.defers⟩;exact uF f.ss f.nt p k E w ρ O undef (λb r=>⟨r,rfl⟩) (λ_ _ h=>h) (.inr ⟨J,u,rfl⟩)
   | true=>
    rw [U,cond_true,oM] at h;replace h:=NM.1 h;obtain⟨⟨v,us⟩,M,h⟩:=h;dsimp only at h;split at h
    .rename_i F;simp only [NL] at h;subst h;simp only [lT,NT] at F;obtain⟨⟨⟨_,_⟩,z⟩,_⟩:=F;refine⟨xU p y,λK Q L=> ?_⟩;split
     .rename_i q;left;have i:=G q;refine gK.wp (yX (s:=s.pH j) (g:=none) hO f.hs (f.ss.pH i.1) trivial M z) λx w' ⟨ρ',O',le,N,V⟩=> ?_;refine L _ w' ρ' O' le ⟨N, ?_,by rw [uE];exact f.nt,by rw [uD];exact f.defers⟩;exact uF f.ss f.nt p k E w' ρ' O' x (λb r=>le.A b r) le.dQ (.inl ⟨i.1,i.2,V⟩)
     .rename_i q;obtain⟨C,e,J,u⟩:=B (by simpa using q);cases e;rw [U] at u;cases u
    .simp at h
theorem dV.clear{nt:Nat}{a:Act}(b:dV c nt w s ρ O a):dV c nt w s.clear ρ O a:=by
 refine⟨b.hs,λk=> ?_,b.nt,b.defers⟩;have:=b.ss k;simp only [St.clear];cases d:s.t k with
 | mk e vk=>
  rw [d] at this;cases e with
  | none=>exact this
  | some g=>simp [aj]
def mc(s:St):Prop:= ∀k g v,s.t k≠(some g,v)
theorem FV(s:St):mc s.clear:=by intro k g v h;simp only [St.clear] at h;split at h <;> simp at h
theorem mc.B8(h:mc s)(ops:Array Oper):me ops s:=λk g v e=>(h k g v e).elim
theorem Dz{g:Bool}{nt:Nat}{ops:Array Oper}(v:il P An Or){Q:Exit->Act->World->Prop}:∀{l:List Oper} {k:Nat} {w:World} {s:St} {ρ:Id->Option Value} {O:Id->Option Nat} {a:Act},
  (∀j,l[j]? =ops[k+j]?)->dV c nt w s ρ O a->me ops s->gZ P An Or g nt ops l s=some s'->
  (∀f w' ρ' O',Le w ρ O w' ρ' O'->dV c nt w' s' ρ' O' f->Q .normal f w')->wpOps P ops Q (List.range' k l.length) a w
 | [],k,w,s,ρ,O,a,hl,b,e,h,i=>by simp only [gZ,NL] at h;subst h;exact i a w ρ O Le.refl b
 | o::l,k,w,s,ρ,O,a,hl,b,e,h,i=>by
  simp only [gZ] at h;obtain⟨s1,z,h⟩:=NM.1 h;have h0:ops[k]? =some o:=by simpa using (hl 0).symm
  obtain⟨m,step⟩:=C4 v b e (Oi h0) z;rw [NV,P5];simp only [wpOps,h0];refine step _ Q λf w' ρ' O' le p=> ?_;exact Dz v (λj=>by have:=hl (j+1);simpa [PO,Nat.add_comm 1 j] using this) p m h
   (λu y q r x d=>i u y q r (le.trans x) d)
theorem K1{nt id:Nat}{ops:Array Oper}{a:Act}(f:il P An Or){Q:Exit->Act->World->Prop}(e:dV c nt w s ρ O a)(i:mc s)(h:gZ P An Or false nt ops ops.toList s=some s')
  (g:∀b w' ρ' O',Le w ρ O w' ρ' O'->dV c nt w' s'.clear ρ' O' b->Q .normal b w'):(Code.region id ops false).wp P Q a w:=by
 refine wp_region ?_;rw [Qp,<-Oe];exact Dz f (by intro j;simp) e (i.B8 ops) h λb w' ρ' O' le d=>g b w' ρ' O' le d.clear
end
open Go Go.IntKind
section
variable {P:Program} {A:cC} {O:aq} {R:Type} {h h':Id->Option ad} {s s':St}
theorem iP{v:AV}{vs:List AV}{i:Id}:i∈cf (v::vs)↔i∈v.ids\/i∈cf vs:=by simp [cf]
theorem pW{v:AV}(a:∀i∈v.ids,h' i=h i):dr h' v=dr h v:=by
 cases v <;> simp only [dr]
 all_goals rw [a _ (by simp [AV.ids])]
theorem tH{v:AV}(a:∀i∈v.ids,h' i=h i):fN h' v=fN h v:=by
 cases v <;> simp only [fN]
 all_goals rw [a _ (by simp [AV.ids])]
theorem Eg:∀{vs:List AV},(∀i∈cf vs,h' i=h i)->jx h' vs=jx h vs
 | [],_=>rfl
 | v::vs,b=>by simp only [jx];rw [pW λi a=>b i (iP.2 (.inl a)),Eg λi a=>b i (iP.2 (.inr a))]
theorem BT:∀{vs:List AV},(∀i∈cf vs,h' i=h i)->kH h' vs=kH h vs
 | [],_=>rfl
 | v::vs,b=>by simp only [kH];rw [tH λi a=>b i (iP.2 (.inl a)),BT λi a=>b i (iP.2 (.inr a))]
theorem Ej{v:AV}(a:∀i∈v.ids,h' i=h i):jw h' v=jw h v:=by
 cases v
 case agg vs=>simp only [jw];exact Eg (by simpa [AV.ids] using a)
 all_goals (simp only [jw];rw [pW a])
theorem BW{v:AV}(a:∀i∈v.ids,h' i=h i):fF h' v=fF h v:=by
 cases v
 case agg vs=>simp only [fF];exact BT (by simpa [AV.ids] using a)
 all_goals (simp only [fF];rw [tH a])
theorem y0{b:Bool}{v:AV}(a:∀i∈v.ids,h' i=h i):iH b false h' v=iH b false h v:=by
 cases v
 case ref i off=>simp only [iH,cond_false];rw [a i (by simp [AV.ids]),pW a,tH a]
 all_goals (simp only [iH];rw [pW a,tH a])
theorem sO{b:Bool}:∀{vs:List AV},(∀i∈cf vs,h' i=h i)->ku b false h' vs=ku b false h vs
 | [],_=>rfl
 | v::vs,d=>by simp only [ku];rw [y0 λi a=>d i (iP.2 (.inl a)),sO λi a=>d i (iP.2 (.inr a))]
theorem y8{g:Bool}{v:AV}(d:∀i∈v.ids,h' i=h i):jB g false h' v=jB g false h v:=by
 cases v
 case agg vs=>simp only [jB];rw [sO (by simpa [AV.ids] using d)]
 case fn f a b=>simp only [AV.ids,N4] at d;simp only [jB];rw [sO λi e=>d i (.inl e),sO λi e=>d i (.inr e)]
 all_goals (simp only [jB];rw [y0 d])
theorem za{b:Bool}:∀{vs:List AV},(∀i∈cf vs,h' i=h i)->jC b false h' vs=jC b false h vs
 | [],_=>rfl
 | v::vs,d=>by simp only [jC];rw [y8 λi a=>d i (iP.2 (.inl a)),za λi a=>d i (iP.2 (.inr a))]
theorem qN:∀{a b:List AV} {i:Id},i∈cf (a++b)↔i∈cf a\/i∈cf b
 | [],b,i=>by simp [cf]
 | v::a,b,i=>by rw [OL,iP,iP,qN,or_assoc]
theorem xh:∀{vs:List AV} {i:Id},i∈cf vs->∃v∈vs,i∈v.ids
 | v::vs,i,a=>by
  rcases iP.1 a with a | a
  .exact⟨v,NN,a⟩
  .obtain⟨u,b,d⟩:=xh a;exact⟨u,NP _ b,d⟩
 | [],i,a=>by simp [cf] at a
theorem vL{d:Nat}{c:Option Bool}{f:FuncId}{args:List AV}{K:AV->aB->Option R}(a:s'.h=s.h\/(A.gu f=none/\A.deep f=false/\∀i∈cf args,s'.h i=s.h i)):fA P A O s' d c f args K=fA P A O s d c f args K:=by
 unfold fA;rcases a with a | ⟨g,j,a⟩
 .rw [a]
 .have e:∀b,jC b false s'.h args=jC b false s.h args:=λb=>za a;simp only [g,j,e]
theorem x8{c:Option Bool}{i:Id}{n:Nat}{K:Nat->Bool->List (List T)->Option R}(a:h' i=h i):jT h' c i n K=jT h c i n K:=by unfold jT;rw [a]
theorem FM{fO:Bool}{d:Nat}{c:Option Bool}{f:FuncId}{args:List AV}{K:AV->aB->Option R}(a:s'.h=s.h\/(fO=false/\A.gu f=none/\A.deep f=false/\∀i∈cf args,s'.h i=s.h i)):iq fO P A O s' d c f args K=iq fO P A O s d c f args K:=by
 rcases a with a | ⟨rfl,a⟩
 .unfold iq;rw [a];cases cond fO (gF args) none with
  | none=>exact vL (.inl a)
  | some q=>obtain⟨b,i,n,e⟩:=q;dsimp only;split <;> rfl
 .exact vL (.inr a)
theorem I6{c:Option Bool}{t:TypeId}{a:AV}{K:AV->Option R}(b:∀i∈a.ids,s'.h i=s.h i):fG P s' c t a K=fG P s c t a K:=by unfold fG;cases a <;> (try rfl) <;> (simp only [];first | rw [x8 (b _ (by simp [AV.ids]))] | rw [b _ (by simp [AV.ids])])
theorem Nc{t:TypeId}{a v:AV}{K:aB->Option R}(d:∀i∈a.ids,s'.h i=s.h i)(b:∀i∈v.ids,s'.h i=s.h i):hI P s' t a v K=hI P s t a v K:=by
 unfold hI;cases a <;> (try rfl) <;> (simp only [];rw [d _ (by simp [AV.ids])];try rw [Ej b,BW b]);cases v
 case own j=>simp only [b j (by simp [AV.ids])]
 all_goals rfl
theorem IN{c:Option Bool}{t:TypeId}{x:AV}{i:Int}{K:AV->Option R}(a:∀i∈x.ids,s'.h i=s.h i):iv P s' c t x i K=iv P s c t x i K:=by
 unfold iv;cases x
 case row i n=>simp only [x8 (a i (by simp [AV.ids]))]
 all_goals first | rfl | (simp only [];rw [a _ (by simp [AV.ids])])
theorem IZ{c:Option Bool}{t:TypeId}{x:AV}{K:AV->Option R}(a:∀i∈x.ids,s'.h i=s.h i):lO P s' c t x K=lO P s c t x K:=by
 unfold lO;cases x
 case row i n=>simp only [x8 (a i (by simp [AV.ids]))]
 all_goals first | rfl | (simp only [];rw [a _ (by simp [AV.ids])])
theorem MX{c:Option Bool}{t:TypeId}{x:AV}{b a d:Option Int}{K:AV->Option R}(e:∀i∈x.ids,s'.h i=s.h i):l6 P s' c t x b a d K=l6 P s c t x b a d K:=by unfold l6;cases x <;> (try rfl) <;> (simp only [];rw [e _ (by simp [AV.ids])])
theorem Cc{t:TypeId}{x:AV}(a:∀i∈x.ids,s'.h i=s.h i):iw P s' t x=iw P s t x:=by
 unfold iw;cases x
 case own i=>simp only [a i (by simp [AV.ids])]
 case t z=>cases z <;> rfl
 all_goals rfl
theorem Fh{t:TypeId}{sz:Nat}{a:List T}{y:AV}{K:List (List T)->Option R}(b:∀i∈y.ids,s'.h i=s.h i):kr P s' t sz a y K=kr P s t sz a y K:=by unfold kr;rw [pW b]
theorem Fa{d:Nat}{t ty:TypeId}{x y:AV}{K:AV->aB->Option R}(a:∀i∈x.ids,s'.h i=s.h i)(b:∀i∈y.ids,s'.h i=s.h i):jf P s' d false t ty x y K=jf P s d false t ty x y K:=by
 unfold jf;simp only [cond_false];cases x <;> simp only [Fh b]
 case own i=>rw [a i (by simp [AV.ids])]
 case part i sz off n=>rw [a i (by simp [AV.ids])]
 all_goals rfl
theorem Je{c:Option Bool}{t:TypeId}{x k:AV}{ok:Bool}{K:AV->Option R}(a:∀i∈x.ids,s'.h i=s.h i):lP P s' c t x k ok K=lP P s c t x k ok K:=by unfold lP;cases x <;> (try rfl) <;> (simp only [];rw [a _ (by simp [AV.ids])])
theorem KX{t:TypeId}{x k v:AV}{K:aB->Option R}(a:∀i∈x.ids,s'.h i=s.h i):lV P s' t x k v K=lV P s t x k v K:=by unfold lV;cases x <;> (try rfl) <;> (simp only [];rw [a _ (by simp [AV.ids])])
theorem F4{t:TypeId}{x k:AV}{K:aB->Option R}(a:∀i∈x.ids,s'.h i=s.h i):lC P s' t x k K=lC P s t x k K:=by unfold lC;cases x <;> (try rfl) <;> (simp only [];rw [a _ (by simp [AV.ids])])
theorem Bl{e:TypeId}{ev:Operand->AV}:∀{a:List (Nat×Operand)} {n:Nat},(∀x∈a.map (·.2),∀i∈(ev x).ids,h' i=h i)->gv P h' e ev n a=gv P h e ev n a
 | [],n,_=>rfl
 | (k,o)::a,n,b=>by simp only [gv];rw [Ej (b o (by simp)),BW (b o (by simp)),Bl λx d=>b x (by simp only [Oq];exact NP _ d)]
theorem Bm{e:TypeId}{ev b:Operand->AV}:∀{a:List (Nat×Operand)} {n:Nat},(∀x∈a.map (·.2),b x=ev x)->gv P h e b n a=gv P h e ev n a
 | [],n,_=>rfl
 | (k,o)::a,n,d=>by simp only [gv];rw [d o (by simp),Bm λx f=>d x (by simp only [Oq];exact NP _ f)]
theorem De{t:TypeId}{ev b:Operand->AV}:∀{a:List (Nat×Operand)},(∀x∈a.map (·.2),b x=ev x)->mU P t b a=mU P t ev a
 | [],_=>rfl
 | (k,o)::a,d=>by simp only [mU];rw [d o (by simp),De λx e=>d x (by simp only [Oq];exact NP _ e)]
theorem lL{g:Option Gs}{x:Operand}(a:∀k,x= .tmp k->s'.t k=s.t k):s'.get g x=s.get g x:=by
 cases x with
 | tmp k=>show(cond (jv (s'.t k).1 g) (s'.t k).2 AV.top)=cond (jv (s.t k).1 g) (s.t k).2 AV.top;rw [a k rfl]
 | _=>rfl
theorem B1{g:Option Gs}{b x:Operand}{w:Bool}(a:∀k,x= .tmp k->s'.t k=s.t k):s'.kI g b w x=s.kI g b w x:=by
 unfold St.kI;split
 .rw [a _ rfl]
 .exact lL a
set_option maxHeartbeats 1000000 in
theorem DB:∀{vs:List AV} {b:List AV} {i:Id} {n:Nat} {d:List AV},gF vs=some (b,i,n,d)->i∈cf vs
 | [],_,_,_,_,h=>by simp [gF] at h
 | v::r,b,i,n,d,h=>by
  unfold gF at h;split at h
  .cases h
  .rename_i i' g f a;simp only [OY] at a;obtain⟨rfl,rfl⟩:=a;simp only [NL,Ow] at h;obtain⟨rfl,rfl,rfl,rfl⟩:=h;simp [cf,AV.ids]
  .rename_i o f _ a;simp only [OY] at a;obtain⟨rfl,rfl⟩:=a;obtain⟨q,e,h⟩:=NM.1 h;obtain⟨j,k,l,m⟩:=q;simp only [NL,Ow] at h;obtain⟨rfl,rfl,rfl,rfl⟩:=h;simp only [cf,N4];exact .inr (DB e)
theorem K8{R:Type}{P:Program}{s s':St}{e:TypeId}{d:Nat}{c:Option Bool}{v:AV}{K:AV->aB->Option R}(b:∀i∈v.ids,s'.h i=s.h i):l0 P s' e d c v K=l0 P s e d c v K:=by
 unfold l0;split
 .rename_i vs;split
  .rename_i f i n g a;rw [b i (by simp only [AV.ids];exact DB a)]
  .rfl
 .rfl
theorem BO(v:AV):(kG v).ids=v.ids:=by unfold kG;split <;> rfl
theorem im{g:Option Gs}{o:Oper}(I:∀x∈o.op.operands,∀k,x= .tmp k->s'.t k=s.t k)(N:eF P o=true\/gU o=true\/s'.h=s.h\/(dP A o=false/\dM A o=false/\∀x∈o.op.operands,∀i∈(s.get g x).ids,s'.h i=s.h i)):
  cK P A O g o s'=cK P A O g o s:=by
 have j:∀x∈o.op.operands,s'.get g x=s.get g x:=λx m=>lL (I x m);have l:eF P o=true\/gU o=true\/∀x∈o.op.operands,∀i∈(s.get g x).ids,s'.h i=s.h i:=by
  rcases N with h | h | h | h
  .exact .inl h
  .exact .inr (.inl h)
  .exact .inr (.inr λ_ _ i _=>by rw [h])
  .exact .inr (.inr h.2.2)
 have hw:∀cl,o.op= .call cl->∀f,cl.callee= .value f->eF P o=false:=by intro cl U f h2;simp [eF,U,h2]
 have hal:∀cl,o.op= .call cl->gU o=false:=by intro cl U;simp [gU,U]
 have Q:eF P o=true\/gU o=true\/s'.h=s.h\/(dP A o=false/\dM A o=false):=N.imp id (Or.imp id (Or.imp id λh=>⟨h.1,h.2.1⟩));unfold cK gQ;cases B:o.op <;> rw [B] at I j l <;> simp only [eF,gU,B,Od,false_or] at l <;> dsimp only <;> simp only [Op.operands] at I j l
 case pick a b x=>rw [j a (by simp),B1 (I b (by simp)),B1 (I x (by simp))]
 case build t ps=>unfold sT;rw [De (ev:=s.get g) (by simpa using j)]
 case buildSlice t n ps=>
  have C:∀e,gv P s'.h e (s'.get g) 0 ps.toList=gv P s.h e (s.get g) 0 ps.toList:=λe=>by rw [Bm (ev:=s.get g) (by simpa using j),Bl (by simpa using l)]
  simp only [C];congr 1;funext e;split
  .split
   .rename_i x _ E;rw [j x (by simp [E])]
   .rfl
  .split
   .split
    .rename_i x E;rw [j x (by simp [E])];exact K8 (l x (by simp [E]))
    .rfl
   .rfl
 case load t x=>rw [j x (by simp),I6 (l x (by simp))]
 case store t x y=>rw [j x (by simp),j y (by simp),Nc (l x (by simp)) (l y (by simp))]
 case binOp op t x y ty=>
  rw [j x (by simp),j y (by simp)];rcases l with l | l
  .simp only [OF,Pm] at l;rw [l.1,l.2];cases op <;> rfl
  .rw [Cc (l x (by simp)),Cc (l y (by simp))]
 case convert src dst x=>rw [j x (by simp),pW (l x (by simp))]
 case makeFunc fn L G=>
  cases fn <;> try rfl
  have C:L.toList.map (s'.get g)=L.toList.map (s.get g):=Pp λx m=>j x (by simp at m⊢;exact .inl m);have e2:G.toList.map (s'.get g)=G.toList.map (s.get g):=Pp λx m=>j x (by simp at m⊢;exact .inr m);simp only [C,e2]
 case slice t x Z q mx=>
  have eb:∀(o:Option Operand) (c:Option Bool) (K:Option Int->Option (AV×aB)),(∀y,o=some y->y∈#[x] ++Z.toArray++q.toArray++mx.toArray)->gS s' c g o K=gS s c g o K:=by
   intro o c K hm;unfold gS;cases o with
   | none=>rfl
   | some y=>simp only [j y (hm y rfl)]
  have m:x∈#[x] ++Z.toArray++q.toArray++mx.toArray:=by simp
  rw [j x m];simp only [MX (l x m)];rw [eb Z _ _ (by intro y e;subst e;simp)];congr 1;funext lo';rw [eb q _ _ (by intro y e;subst e;simp)];congr 1;funext hi';rw [eb mx _ _ (by intro y e;subst e;simp)]
 case indexAddr t x i=>rw [j x (by simp),j i (by simp)];simp only [IN (l x (by simp))]
 case call cl=>
  simp only [Call.operands] at j l;split
  .rename_i p;split
   .rename_i x t ts m _;have hm:x∈(match cl.callee with | .value f=> #[f] | .invoke r _=> #[r] | .builtin _=> #[])++cl.args:=by
     simp [<-Array.mem_toList_iff,m]
    rw [j x hm];rcases l with l | l
    .simp [p] at l
    .exact IZ (l x hm)
   .rfl
  .rename_i p;split
   .rename_i x y t u _ m _;have hm:∀z,(z=x\/z=y)->z∈(match cl.callee with | .value f=> #[f] | .invoke r _=> #[r] | .builtin _=> #[])++cl.args:=by
     intro z Y;simp [<-Array.mem_toList_iff,m,Y]
    rw [j x (hm x (.inl rfl)),j y (hm y (.inr rfl))];rcases l with l | l
    .simp [p] at l
    .cases hn:(A.jM o.dst o.type==3) with
     | false=>exact Fa (l x (hm x (.inl rfl))) (l y (hm y (.inr rfl)))
     | true=>
      rcases Q with h | h | h | h
      .simp [eF,B,p] at h
      .simp [gU,B] at h
      .have:∀(d:Nat) (b:Bool) (t ty:TypeId) (x y:AV) (K:AV->aB->Option (AV×aB)),jf P s' d b t ty x y K=jf P s d b t ty x y K:=λd b t ty x y K=>by
        unfold jf nD kr;rw [h]
       exact this _ _ _ _ _ _ _
      .have:=h.2;simp [dM,B,p,hn] at this
   .rfl
  .have C:cl.args.toList.map (s'.get g)=cl.args.toList.map (s.get g):=Pp λx m=>j x (by simp at m⊢;exact .inr m);rw [C]
  .have C:cl.args.toList.map (s'.get g)=cl.args.toList.map (s.get g):=Pp λx m=>j x (by simp at m⊢;exact .inr m);rw [C]
  .rename_i p;split
   .rename_i x y t ts _ m _;have hm:∀z,(z=x\/z=y)->z∈(match cl.callee with | .value f=> #[f] | .invoke r _=> #[r] | .builtin _=> #[])++cl.args:=by
     intro z Y;simp [<-Array.mem_toList_iff,m,Y]
    rw [j x (hm x (.inl rfl)),j y (hm y (.inr rfl))];rcases l with l | l
    .simp [p] at l
    .exact F4 (l x (hm x (.inl rfl)))
   .rfl
  .rename_i p;split
   .rename_i x t ts m _;have hm:x∈(match cl.callee with | .value f=> #[f] | .invoke r _=> #[r] | .builtin _=> #[])++cl.args:=by
     simp [<-Array.mem_toList_iff,m]
    rw [j x hm]
   .rfl
  .rename_i F p;have C:cl.args.toList.map (s'.get g)=cl.args.toList.map (s.get g):=Pp λx m=>j x (by simp at m⊢;exact .inr m);have M:F∈(match cl.callee with | .value f=> #[f] | .invoke r _=> #[r] | .builtin _=> #[])++cl.args:=by simp [p]
   rw [C,j F M];rcases l with l | l
   .simp [p] at l
   .cases J:kG (s.get g F) <;> try rfl
    rename_i f a b;have D:=l F M;rw [<-BO,J] at D;simp only [AV.ids,N4] at D;refine FM ?_;have V:∀i∈cf (a++cl.args.toList.map (s.get g)++b),s'.h i=s.h i:=by
     intro i q;rcases qN.1 q with q | q
     .rcases qN.1 q with q | q
      .exact D i (.inl q)
      .obtain⟨v,J,q⟩:=xh q;obtain⟨x,m,rfl⟩:=Ou.1 J;exact l x (by simp at m⊢;exact .inr m) i q
     .exact D i (.inr q)
    rcases Q with h | h | h | h
    .rw [hw cl B F p] at h;cases h
    .rw [hal cl B] at h;cases h
    .exact .inl h
    .obtain⟨h,X⟩:=h;simp only [dP,B,p] at h;simp only [dM,B,p] at X;cases F with
     | func f'=>
      simp only [St.get,kG] at J;obtain⟨rfl,_,_⟩:f'=f/\_/\_:=by simpa using J
      cases hb:A.gu f' with
      | some x=>dsimp only at h;rw [hb] at h;simp at h
      | none=>exact .inr ⟨rfl,rfl,X,V⟩
     | _=>simp at X
  .rfl
 case move x=>rw [j x (by simp)]
 case assign x=>rw [j x (by simp)]
 case box t x=>rw [j x (by simp)]
 case nilCheck x=>rw [j x (by simp)]
 case unOp op t x=>rw [j x (by simp)]
 case makeSlice t x y=>rw [j x (by simp),j y (by simp)]
 case lookup t x k ok=>rw [j x (by simp),j k (by simp),Je (l x (by simp))]
 case mapUpdate t x k v=>rw [j x (by simp),j k (by simp),j v (by simp),KX (l x (by simp))]
 case fieldAddr t x f=>rw [j x (by simp)]
 case field t x f=>rw [j x (by simp)]
 case index t x i=>rw [j x (by simp),j i (by simp)]
 case extract x k=>rw [j x (by simp)]
theorem Fm{dH:List Id}{b:Bool}{v:AV}(a:∀i∈v.ids,h' i=h i):qt h' dH b v=qt h dH b v:=by unfold qt;rw [y8 a]
theorem y6{dH:List Id}:∀{a:List Bool} {vs:List AV},(∀i∈cf vs,h' i=h i)->kv h' dH a vs=kv h dH a vs
 | _,[],_=>by simp [kv]
 | a,v::vs,d=>by simp only [kv];rw [Fm λi b=>d i (iP.2 (.inl b)),y6 λi b=>d i (iP.2 (.inr b))]
theorem vf{N:Id->Prop}:∀{us:aB} {h h':Id->Option ad},(∀i,¬N i->h' i=h i)->∀i,¬N i->aK h' us i=aK h us i
 | [],_,_,a,i,d=>a i d
 | (j,b)::us,h,h',a,i,d=>by
  rw [cN,cN];refine vf (N:=N) (λk f=> ?_) i d;by_cases e:k=j
  .subst e;rw [aA,aA]
  .rw [ax _ _ e,ax _ _ e];exact a k f
theorem KQ{N:Id->Prop}{new i:Id}{k sz:Nat}{us:aB}(a:∀i,¬N i->h' i=h i)(f:¬N i)(d:¬N new)(o:∀p∈us,¬N p.1)(e:mS h new i k sz=some us):mS h' new i k sz=some us:=by
 unfold mS at e⊢;cases l:Nat.ble 100000 sz with
 | true=>rw [l,cond_true] at e;rw [cond_true];unfold pO at e⊢;rw [a i f,a new d];exact e
 | false=>
 rw [l,cond_false] at e;rw [cond_false];rw [a i f,a new d];split at e
 .rename_i cs f
  try simp only [f]
  split at e
  .exact e
  .exact e
  .exact e
  .rename_i j v n x;split at e
   .rename_i u b xs r;split at e
    .rename_i q;have g:¬N j:=by
      cases m:(h new).isNone with
      | false=>rw [m] at e;simp at e
      | true=>rw [m] at e;simp only [cond_true,NL] at e;subst e;exact o (j,_) NN
     rw [a j g,r];simp only [if_pos q];exact e
    .cases e
   .cases e
  .cases e
 .cases e
theorem Di{N:Id->Prop}{nm:Nat}(a:∀k,¬N (.s nm k)):∀{l:List (Id×Nat×Nat)} {j:Nat} {h h':Id->Option ad} {us:aB},(∀i,¬N i->h' i=h i)->(∀q∈l,¬N q.1)->(∀p∈us,¬N p.1)->iS nm j h l=some us->iS nm j h' l=some us
 | [],_,_,_,_,_,_,_,e=>e
 | (i,k,sz)::l,j,h,h',us,f,hl,b,e=>by simp only [iS] at e⊢;obtain⟨r,g,e⟩:=NM.1 e;obtain⟨u,m,e⟩:=NM.1 e;simp only [NL] at e;subst e;rw [KQ f (hl (i,k,sz) NN) (a j) (λp d=>b p (N3 _ d)) g];simp only [NO];rw [Di a (vf f) (λq o=>hl q (NP _ o)) (λp d=>b p (N1 _ d)) m];rfl
theorem rI:∀{n:Nat} {todo a seen:List Id},eA h n todo a=some seen->(∀i∈seen,h' i=h i)->eA h' n todo a=some seen
 | 0,todo,a,seen,e,_=>by simp [eA] at e
 | n+1,[],a,seen,e,_=>e
 | n+1,i::todo,a,seen,e,hs=>by
  simp only [eA] at e⊢;cases b:a.contains i with
  | true=>rw [b,cond_true] at e;rw [cond_true];exact rI e hs
  | false=>
   rw [b,cond_false] at e;rw [cond_false];have hm:i∈seen:=by
    have:a++ [i] <+:seen:=by
     split at e
     .exact mV e
     .exact mV e
     .exact mV e
     .cases e
    exact this.subset (N1 _ (NY.2 rfl))
   rw [hs i hm];split at e
   .exact rI e hs
   .exact rI e hs
   .exact rI e hs
   .cases e
theorem vP:∀{l seen:List Id},∀i∈nJ l seen,i∈l
 | [],_,i,a=>by simp [nJ] at a
 | j::l,seen,i,a=>by
  simp only [nJ] at a;cases b:seen.contains j with
  | true=>rw [b,cond_true] at a;exact NP _ (vP i a)
  | false=>
   rw [b,cond_false] at a;rcases N2.1 a with rfl | a
   .exact NN
   .exact NP _ (vP i a)
theorem uH{i:Id}:∀{l:List ch} {k:Nat},∀q∈lY i k l,q.1=i
 | [],_,q,a=>by simp [lY] at a
 | r::l,k,q,a=>by
  cases r with
  | own sz=>
   simp only [lY] at a;rcases N2.1 a with rfl | a
   .rfl
   .exact uH q a
  | rows sz col rsz=>
   simp only [lY] at a;rcases N2.1 a with rfl | a
   .rfl
   .exact uH q a
  | _=>simp only [lY] at a;exact uH q a
theorem xX:∀{e:List Id} {d:List iC},∀q∈lZ e d,q.1∈e
 | [],d,q,a=>by cases d <;> simp [lZ] at a
 | i::e,[],q,a=>by simp [lZ] at a
 | i::e,b::d,q,a=>by
  cases b with
  | box l=>
   simp only [lZ,N4] at a;rcases a with a | a
   .rw [uH q a];exact NN
   .exact NP _ (xX q a)
  | _=>simp only [lZ] at a;exact NP _ (xX q a)
theorem FL{N:Id->Prop}{d:Nat}{c:Option Bool}{f:FuncId}{args:List AV}{v:AV}{us:aB}(F:∀i,¬N i->s'.h i=s.h i)(M:A.deep f=false)(m:∀i∈cf args,¬N i)(G:∀k,¬N (.s (2000000+d) k))(E:∀p∈us,¬N p.1)
  (e:fA P A O s d c f args (λv u=>some (v,u))=some (v,us)):fA P A O s' d c f args (λv u=>some (v,u))=some (v,us):=by
 cases K:A.gu f with
 | none=>rw [vL (.inr ⟨K,M,λi l=>F i (m i l)⟩)];exact e
 | some Y=>
  unfold fA at e⊢;cases D:P.funcs[f]? with
  | none=>rw [D] at e;simp at e
  | some fn=>
   simp only [D,K] at e⊢;cases c with
   | some b=>simp at e
   | none=>
    simp only at e⊢;rw [y6 λi l=>F i (m i l)];obtain⟨p,U,e⟩:=NM.1 e;rw [U,NO];obtain⟨a,I,e⟩:=NM.1 e;obtain⟨seen,o,e⟩:=NM.1 e;obtain⟨_,_,J,_,_⟩:=rJ o Qg (by simp) (by simp);have L:=e;have g:(∀q∈a,¬N q.1)/\∀i∈seen,¬N i:=by
     cases C:(uv d seen && Nat.beq (fM (seen.map λi=>fQ seen (aK (aK s.h p.2) a i)).head?) (fM ((cf p.1).head?.bind (aK s.h p.2)))) with
     | false=>rw [C] at e;simp at e
     | true=>
      rw [C,cond_true] at e;obtain⟨Z,e,_⟩:=vd (.inl rfl) e;obtain⟨xs,_,e⟩:=aO e (.inl rfl);rw [show ∀(n:Nat),(dF seen d none 0 (cZ P A f n fn) xs λvs u j=>fe seen d j seen (fP A f n) (xs.drop (kV (cZ P A f n fn))) λq=>(some (jR vs,p.2++a++iK seen++u++q):Option (AV×aB)))=
       ((dF seen d none 0 (cZ P A f n fn) xs λvs u j=>some (vs,u,j)).bind λz=>(fe seen d z.2.2 seen (fP A f n) (xs.drop (kV (cZ P A f n fn))) some).bind λq=>some (jR z.1,p.2++a++iK seen++z.2.1++q)) from λn=>by
        rw [nH];congr 1;funext vs u j;simp only [NO];rw [s7];rfl] at e
      obtain⟨z,_,e⟩:=NM.1 e;obtain⟨q,_,e⟩:=NM.1 e;simp only [NL,Ow] at e;obtain⟨_,rfl⟩:=e;refine⟨λx X=>E x ?_,λi l=>E (i, .dead) ?_⟩
      .exact N3 _ (N3 _ (N3 _ (N1 _ X)))
      .exact N3 _ (N3 _ (N1 _ (Ou.2 ⟨i,l,rfl⟩)))
    have r:∀i,¬N i->aK s'.h p.2 i=aK s.h p.2 i:=vf F;have B:∀i,¬N i->aK (aK s'.h p.2) a i=aK (aK s.h p.2) a i:=vf r;have y:(cf p.1).head?.bind (aK s'.h p.2)= (cf p.1).head?.bind (aK s.h p.2):=by
     cases Q:(cf p.1).head? with
     | none=>rfl
     | some i=>exact r i (g.2 i (J i (List.mem_of_mem_head? (by rw [Q];rfl))))
    rw [y];rw [Di G r (λq V=>g.2 q.1 (J q.1 (vP q.1 (xX q V)))) g.1 I,NO];rw [rI o λi l=>B i (g.2 i l),NO];have hm:(seen.map λi=>fQ seen (aK (aK s'.h p.2) a i))=seen.map λi=>fQ seen (aK (aK s.h p.2) a i):=Pp λi l=>by rw [B i (g.2 i l)]
    rw [hm];exact L
theorem sN{N:Id->Prop}{g:Option Gs}{o:Oper}{v:AV}{us:aB}(K:∀x∈o.op.operands,∀k,x= .tmp k->s'.t k=s.t k)(J:∀i,¬N i->s'.h i=s.h i)(z:dM A o=false)(l:∀x∈o.op.operands,∀i∈(s.get g x).ids,¬N i)
  (F:∀k,¬N (.s (2000000+o.dst.getD 0) k)) (L:∀p∈us,¬N p.1) (e:cK P A O g o s=some (v,us)):cK P A O g o s'=some (v,us):=by
 cases G:dP A o with
 | false=>rw [im (s:=s) K (.inr (.inr (.inr ⟨G,z,λx q i d=>J i (l x q i d)⟩)))];exact e
 | true=>
  have C:∀x∈o.op.operands,s'.get g x=s.get g x:=λx q=>lL (K x q);cases y:o.op <;> simp only [dP,y,Od] at G;rename_i cl;cases j:cl.callee <;> simp only [j,Od] at G;rename_i u;unfold cK gQ at e⊢;rw [y] at e l C⊢;simp only [Op.operands,Call.operands] at l C;simp only [j] at e⊢;have M:cl.args.toList.map (s'.get g)=cl.args.toList.map (s.get g):=Pp λx q=>C x (by simp at q⊢;exact .inr q);have E:u∈(match cl.callee with | .value f=> #[f] | .invoke r _=> #[r] | .builtin _=> #[])++cl.args:=by simp [j]
  rw [M,C u E];cases B:kG (s.get g u) <;> rw [B] at e <;> simp only [reduceCtorEq] at e;rename_i f a b;have m:=l u E;rw [<-BO,B] at m;simp only [AV.ids,N4] at m;have D:A.deep f=false:=by
   simp only [dM,y,j] at z;cases u with
   | func I=>
    simp only [St.get,kG] at B;obtain⟨rfl,_,_⟩:I=f/\_/\_:=by simpa using B
    exact z
   | _=>simp at z
  have hl:Cz u=false:=by
   simp only [dM,y,j] at z;cases u with
   | func I=>rfl
   | _=>simp at z
  dsimp only at e⊢;rw [hl,FN] at e⊢;refine FL J D ?_ F L e;intro i d;rcases qN.1 d with d | d
  .rcases qN.1 d with d | d
   .exact m i (.inl d)
   .obtain⟨v,B,d⟩:=xh d;obtain⟨x,q,rfl⟩:=Ou.1 B;exact l x (by simp at q⊢;exact .inr q) i d
  .exact m i (.inr d)
end
open Go Go.IntKind
section
variable {P:Program} {An:cC} {Or:aq} {w w':World} {A A':Nat->Prop} {c:Ctx} {ρ:Id->Option Value} {O:Id->Option Nat} {s s' s1 s2:St} {h:Id->Option ad} {ops:Array Oper} {nt:Nat}
structure qo (P:Program) (An:cC) (Or:aq) (nt:Nat) (ops:Array Oper) (o:Oper) (s:St) (g:Option Gs) (v:AV) (us:aB):Prop where
 guard:cX ops o s some=some g
 op:cK P An Or g o s=some (v,us)
 ok:lT P An true nt ops o g s v us=true
 dH:iy An true o s.h us=true
theorem Em{o:Oper}{g:Option Gs}:ou An true o g=none:=by cases g <;> rfl
theorem xK{o:Oper}(e:eu P An Or true nt ops o s=some s'):∃g v us,qo P An Or nt ops o s g v us/\s'=s.put (dw ops o.dst) o.dst g v us:=by
 unfold eu mR at e;rw [tM] at e;replace e:=NM.1 e;obtain⟨g,f,e⟩:=e;rw [Em] at e;dsimp only at e;rw [oM] at e;replace e:=NM.1 e;obtain⟨⟨v,us⟩,d,e⟩:=e;dsimp only at e;rw [qU] at e;cases a:iy An true o s.h us with
 | false=>rw [a] at e;cases e
 | true=>
  rw [a,cond_true] at e;split at e
  .rename_i b;simp only [NL] at e;exact⟨g,v,us,⟨f,d,b,a⟩,e.symm⟩
  .simp at e
theorem qo.eu{o:Oper}{g:Option Gs}{v:AV}{us:aB}(a:qo P An Or nt ops o s g v us):eu P An Or true nt ops o s=some (s.put (dw ops o.dst) o.dst g v us):=by unfold Aev.eu mR;rw [tM,a.guard,NO,Em];dsimp only;rw [oM,a.op,NO];dsimp only;rw [qU,a.dH,cond_true,if_pos a.ok]
def oC(ops:Array Oper)(a:Array Bool)(s:St):Prop:= ∀k g v,s.t k= (some g,v)->∃i o,ops[i]? =some o/\a.getD i false=true/\o.dst=some g.d
theorem nK{d:Nat}{o:Oper}(a:o.dst=some d):∀(l:List Oper),o∈l->d∈fD l:=by
 intro l;induction l with
 | nil=>intro hm;cases hm
 | cons x l b=>
  intro hm;simp only [fD];rcases N2.1 hm with rfl | hm
  .rw [a];exact NN
  .have:=b hm;split
   .exact NP _ this
   .exact this
theorem zI:∀{l:List Oper},rv (fD l)=true->∀{i j:Nat} {x y:Oper} {d:Nat},l[i]? =some x->l[j]? =some y->x.dst=some d->y.dst=some d->i=j
 | [],_,i,j,x,y,d,b,_,_,_=>by simp at b
 | z::l,a,i,j,x,y,d,b,f,k,m=>by
  have g:rv (fD l)=true/\∀d,z.dst=some d->d∉fD l:=by
   simp only [fD] at a;cases o:z.dst with
   | none=>rw [o] at a;exact⟨a,λd h=>by cases h⟩
   | some e=>
    rw [o] at a;simp only [rv,NT,OF] at a;refine⟨a.2,λd h=> ?_⟩;simp only [NL] at h;subst h;intro hm;have:(fD l).contains e=true:=by simpa using hm
    rw [this] at a;cases a.1
  cases i with
  | zero=>
   simp only [PD,NL] at b;subst b;cases j with
   | zero=>rfl
   | succ j=>simp only [O9] at f;exact(g.2 d k (nK m _ (NU f))).elim
  | succ i=>
   simp only [O9] at b;cases j with
   | zero=>simp only [PD,NL] at f;subst f;exact(g.2 d m (nK k _ (NU b))).elim
   | succ j=>simp only [O9] at f;rw [zI g.1 b f k m]
def oL(ops:Array Oper):Prop:= ∀{i j:Nat} {x y:Oper} {d:Nat},ops[i]? =some x->ops[j]? =some y->x.dst=some d->y.dst=some d->i=j
theorem rY{a:Array Bool}{i:Nat}(h:a.getD i true=false):a.getD i false=true->False:=by
 intro d;rw [O8] at h d;cases e:a[i]? with
 | none=>rw [e] at h;simp at h
 | some b=>rw [e] at h d;simp at h d;rw [h] at d;cases d
theorem xV{a:Array Bool}{i:Nat}{o:Oper}{g:Option Gs}{v:AV}{us:aB}(z:oL ops)(y:ops[i]? =some o)(hl:a.getD i true=false)(x:oC ops a s)(b:Bool):
  s.put b o.dst g v us=s.put false o.dst g v us:=by
 unfold St.put;cases u:o.dst with
 | none=>rfl
 | some d=>
  simp only [St.mk.injEq,and_true];funext k;split
  .rfl
  .cases b with
   | false=>rfl
   | true=>
    simp only [cond_true,cond_false];cases p:s.t k with
    | mk f vk=>
     cases f with
     | none=>rfl
     | some f=>
      simp only [kC];cases m:(f.d==d) with
      | false=>rfl
      | true=>
       exfalso;obtain⟨j,B,q,r,l⟩:=x k f vk p;have e:f.d=d:=by simpa using m
       rw [e] at l;have:=z q y l u;subst this;exact rY hl r
theorem eH{o:Oper}{k:Nat}(h:(.tmp k:Operand)∈o.op.operands):k∈o.looksAt ops:=by unfold Oper.looksAt;refine N3 _ (Qf.2 ⟨.tmp k,by simpa using h,rfl⟩)
theorem CF{o:Oper}{j d:Nat}{b:Bool}(h:o.guard=some (j,b))(a:(ops[j]?).bind (·.dst)=some d):d∈o.looksAt ops:=by unfold Oper.looksAt;refine N1 _ ?_;rw [h];simp [a]
theorem og{b:Bool}{o:Oper}{g:Option Gs}{v:AV}{us:aB}{k:Nat}(f:o.dst≠some k):(s.put false o.dst g v us).t k=s.t k:=by
 unfold St.put;cases a:o.dst with
 | none=>rfl
 | some d=>have:k≠d:=λe=>f (by rw [a,e]);simp [if_neg this]
theorem B5{o:Oper}(f:∀j b d,o.guard=some (j,b)->(ops[j]?).bind (·.dst)=some d->s'.t d=s.t d):cX ops o s' some=cX ops o s some:=by
 unfold cX;cases e:o.guard with
 | none=>rfl
 | some p=>
  obtain⟨j,b⟩:=p;simp only;cases a:(ops[j]?).bind (·.dst) with
  | none=>rfl
  | some d=>simp only [f j b d e a]
theorem vg:∀{us:aB} {h:Id->Option ad} {i:Id},aK h us i=none->(∀q∈us,q.1≠i)/\h i=none
 | [],h,i,e=>⟨by simp,e⟩
 | (j,x)::us,h,i,e=>by
  rw [cN] at e;obtain⟨f,b⟩:=vg e;by_cases a:i=j
  .subst a;rw [aA] at b;cases b
  .rw [ax _ _ a] at b;refine⟨λq d=> ?_,b⟩;rcases N2.1 d with rfl | d
   .exact λe=>a e.symm
   .exact f q d
theorem CT{o:Oper}{g:Option Gs}(a:∀x∈o.op.operands,s'.get g x=s.get g x):mM ops g o s'=mM ops g o s:=by
 unfold mM;have key:∀l:List Operand,(∀x∈l,s'.get g x=s.get g x)->(l.all λx=>(s'.get g x).ids.all λi=>match i with
  | .s d _=>oR ops o d
  | .c _=>true
  | .g _ _=>false)= (l.all λx=>(s.get g x).ids.all λi=>match i with
  | .s d _=>oR ops o d
  | .c _=>true
  | .g _ _=>false):=by
  intro l;induction l with
  | nil=>intro _;rfl
  | cons x l f=>intro h;rw [O6,O6,h x NN,f λy e=>h y (NP _ e)]
 exact key _ λx b=>a x (by simpa using b)
theorem uk{o:Oper}{g:Option Gs}(l:mM ops g o s=true){x:Operand}(v:x∈o.op.operands){d k:Nat}(u:Id.s d k∈(s.get g x).ids){i:Nat}{m:Oper}(a:ops[i]? =some m)(q:m.dst=some d):
  ∃e∈o.after,Region.binds .any e=true/\(e.on=i\/fU ops 12 e.on i=true):=by
 unfold mM at l;have p:=N6.1 l x (by simpa using v);have b:=N6.1 p _ u;simp only at b;unfold oR at b;have f:=N6.1 b i (Qx.2 (Qa.1 a).1);rw [a] at f;simp only [q,BEq.rfl,NR,Om] at f;obtain⟨e,r,j⟩:=PY.1 f;simp only [NT,OA,beq_iff_eq] at j;exact⟨e,r,j.1,j.2⟩
theorem fj{o:Oper}{us:aB}(b:jq o us=true){i:Id}(a:∃q∈us,q.1=i):∃d k,i= .s d k/\o.dst=some d:=by
 obtain⟨q,f,rfl⟩:=a;have:=N6.1 b q f;split at this
 .rename_i d k e;exact⟨d,k,e,by simpa using this⟩
 .simp at this
 .simp at this
theorem NC{us vs:aB}(a:∀p∈us,∀q∈vs,p.1≠q.1):∀{h:Id->Option ad},aK (aK h us) vs=aK (aK h vs) us:=by
 induction us with
 | nil=>intro h;rfl
 | cons p us g=>intro h;obtain⟨i,b⟩:=p;rw [cN,cN,g (λp d=>a p (NP _ d)),r7 (λq f e=>a (i,b) NN q f e.symm)]
def oA(ops:Array Oper)(a:Array Bool):Prop:= ∀k ok,ops[k]? =some ok->a.getD k false=true->∀e∈ok.after,Region.binds .any e=true->a.getD e.on false=true
theorem vG{a:Array Bool}(f:oA ops a){i:Nat}(m:a.getD i true=false):∀{n j:Nat} {d:Oper},ops[j]? =some d->(∀e∈d.after,Region.binds .any e=true->a.getD e.on false=true)->fU ops n j i=false
 | 0,j,d,_,_=>rfl
 | n+1,j,d,q,g=>by
  simp only [fU,q];rw [Array.any_eq_false'];intro e p l;simp only [NT,OA,beq_iff_eq] at l;obtain⟨o,b⟩:=l;have hl:=g e p o;rcases b with b | ⟨_,b⟩
  .exact rY m (b▸hl)
  .cases k:ops[e.on]? with
   | none=>
    cases n with
    | zero=>simp [fU] at b
    | succ n=>simp [fU,k] at b
   | some ok=>rw [vG f m k (f e.on ok k hl)] at b;cases b
theorem yx{a b:Oper}(h:iY An ops a b=true):∃k d,ft ops a=some k/\ft ops b=some d/\k≠d/\k∉fD ops.toList/\d∉fD ops.toList:=by
 unfold iY at h;simp only [NT] at h;obtain⟨_,h⟩:=h;split at h
 .rename_i k d e f;simp only [NT,OF,beq_eq_false_iff_ne,ne_eq] at h;obtain⟨⟨g,i⟩,j⟩:=h;exact⟨k,d,e,f,g,by simpa using i,by simpa using j⟩
 .cases h
theorem M6{a b:Oper}(h:iY An ops a b=true):iY An ops b a=true:=by have h0:=h;unfold iY at h0;simp only [NT] at h0;obtain⟨k,l,d,f,g,i,j⟩:=yx h;unfold iY;rw [d,f,h0.1];simp only [OR,NT,OF,beq_eq_false_iff_ne,ne_eq];exact⟨⟨λe=>g e.symm,by simpa using j⟩,by simpa using i⟩
theorem Et{o b:Oper}{us:aB}{k e:Nat}(h:iZ P An ops o s us=true)(hm:b∈ops)(f:iY An ops o b=true)(m:ft ops o=some k)(d:ft ops b=some e):
  (∀x∈o.op.operands,∀i∈(s.get none x).ids,i∈(s.t k).2.ids)/\(∀p∈us,p.1∈(s.t k).2.ids)/\(∀p∈us,p.1∉(s.t e).2.ids):=by
 have a:=Oz.1 h b hm;simp only [NT] at a;replace a:=a.1.1.1.1;rw [f] at a;simp only [NR,Om,yz,m,d,NT,N6,decide_eq_true_eq] at a;obtain⟨⟨g,j⟩,l⟩:=a;exact⟨λx q=>g x (Array.mem_toList_iff.2 q),j,l⟩
theorem qZ{a b:Oper}(h:gW P An ops a b=true):(∃k,gY ops b=some (some k)/\k∉fD ops.toList)\/gY ops b=some none:=by
 unfold gW at h;simp only [NT] at h;obtain⟨_,h⟩:=h;split at h
 .rename_i k d;exact .inl ⟨k,d,by simpa using h⟩
 .rename_i d;exact .inr d
 .cases h
theorem Cv{a b:Oper}(h:gW P An ops a b=true):a.guard=none/\aJ P An a=true/\dP An a=false/\dM An a=false:=by
 unfold gW at h;simp only [NT] at h;obtain⟨⟨_,⟨_,h⟩,_⟩,_⟩:=h;unfold yY at h;simp only [NT,PT] at h;obtain⟨⟨i,j⟩,e⟩:=h;refine⟨i,j, ?_⟩;split at e
 .rename_i cl d;split at e
  .rename_i g;simp only [OF] at e;simp [dP,dM,d,g,e]
  .rename_i f g;simp only [NT,PT,OF] at e;simp [dP,dM,d,g,e.1,e.2]
  .cases e
 .rename_i d;simp [dP,dM,d]
 .rename_i d;simp [dP,dM,d]
 .cases e
theorem Cw{a b:Oper}(h:gW P An ops a b=true):aJ P An b=false:=by unfold gW at h;simp only [NT,OF] at h;exact h.1.2.1.1
theorem K6{o:Oper}{r:Option Nat}(h:gY ops o=some r):o.guard=none:=by
 unfold gY at h;split at h
 .rename_i a b;exact a
 .rename_i a b;exact a
 .cases h
theorem Dy{o:Oper}{r:Option Nat}(d:aJ P An o=false)(h:gY ops o=some r):o.guard=none/\aJ P An o=false/\dP An o=false/\dM An o=false:=by
 unfold gY at h;split at h
 .rename_i b a;simp [b,aJ,dP,dM,a]
 .rename_i b a;exact⟨b,d,by simp [dP,a],by simp [dM,a]⟩
 .cases h
theorem K7{o:Oper}{k:Nat}(h:gY ops o=some (some k)):ft ops o=some k:=by
 unfold gY at h;split at h
 .rename_i a b;simp only [NL] at h;subst h;simp [ft,a,b]
 .cases h
 .cases h
theorem nX{o:Oper}{k:Bool}(h:ix P o k=true):∃t a y,o.guard=none/\o.op= .store t (.tmp a) y:=by
 unfold ix at h;split at h
 .rename_i t a y b d;exact⟨t,a,y,b,d⟩
 .cases h
theorem Nh{k off:Nat}{l:List T}{xs a:List (List T)}(h:gh k off l xs=some a):a.length=xs.length:=by
 unfold gh at h;split at h
 .split at h
  .simp only [NL] at h;subst h;simp
  .cases h
 .cases h
theorem Cj{t:TypeId}{a v B:AV}{us:aB}(h:hI P s t a v (λu=>some (AV.top,u))=some (B,us))(f:ka us=true):
  ∃i sz k off j rsz X,a= .el i sz k off/\v= .own j/\(∃bb xs,s.h j=some (.sl false rsz bb xs))/\rsz≠1/\us= [(j, .dead),(i,X)]/\∃b d col g es x es',s.h i=some (.rows b d col rsz g es)/\X= .rows b d col rsz x es'/\es'.length=es.length:=by
 unfold hI at h;cases r:cb P t with
 | false=>rw [r] at h;cases h
 | true=>
  rw [r,cond_true] at h;split at h
  .split at h
   .split at h
    .simp only [NL,Ow] at h;obtain⟨_,rfl⟩:=h;simp [ka] at f
    .cases h
   .cases h
  .rename_i i sz k off;split at h
   .obtain⟨l,_,h⟩:=NM.1 h;split at h
    .replace h:=aO h (.inl rfl);obtain⟨C,_,h⟩:=h;simp only [NL,Ow] at h;obtain⟨_,rfl⟩:=h;simp [ka] at f
    .cases h
   .rename_i b d col rsz g es y;split at h
    .rename_i j;split at h
     .rename_i m D xs z;split at h
      .rename_i o;have q:=o.2.2.1;subst q;replace h:=aO h (.inl rfl);obtain⟨e,_,h⟩:=h;simp only [NL,Ow] at h;obtain⟨_,rfl⟩:=h;refine⟨i,sz,k,off,j,m,_,rfl,rfl,⟨_,_,z⟩, ?_,rfl,b,d,col,g,es,_,_,y,by rw [show sz=d from o.1.symm],by simp⟩;simpa [ka] using f
      .cases h
     .cases h
    .cases h
   .cases h
  .split at h
   .replace h:=aO h (.inl rfl);obtain⟨p,_,h⟩:=h;obtain⟨l,_,h⟩:=NM.1 h;split at h
    .replace h:=aO h (.inl rfl);obtain⟨C,_,h⟩:=h;simp only [NL,Ow] at h;obtain⟨_,rfl⟩:=h;simp [ka] at f
    .cases h
   .cases h
  .cases h
theorem Cl{t:TypeId}{a v z:AV}{us:aB}(h:hI P s t a v (λu=>some (AV.top,u))=some (z,us))(d:kb us=true):
  ∃i sz k off b f,a= .el i sz k off/\(∃xs,s.h i=some (.sl false 1 b xs)/\f.length=xs.length)/\us= [(i, .sl false 1 b f)]:=by
 unfold hI at h;cases m:cb P t with
 | false=>rw [m] at h;cases h
 | true=>
  rw [m,cond_true] at h;split at h
  .split at h
   .split at h
    .simp only [NL,Ow] at h;obtain⟨_,rfl⟩:=h;simp [kb] at d
    .cases h
   .cases h
  .rename_i i sz k off;split at h
   .rename_i B b xs y;obtain⟨l,_,h⟩:=NM.1 h;split at h
    .rename_i x;obtain⟨j,_,_⟩:=x;subst j;replace h:=aO h (.inl rfl);obtain⟨f,o,h⟩:=h;simp only [NL,Ow] at h;obtain⟨_,rfl⟩:=h;cases g:fF s.h v with
     | cons q r=>rw [g] at d;simp [kb] at d
     | nil=>rw [g] at d;simp only [kb,beq_iff_eq] at d;subst d;exact⟨_,_,_,_,_,_,rfl,⟨_,y,Nh o⟩,rfl⟩
    .cases h
   .split at h
    .split at h
     .split at h
      .replace h:=aO h (.inl rfl);obtain⟨e,_,h⟩:=h;simp only [NL,Ow] at h;obtain⟨_,rfl⟩:=h;simp [kb] at d
      .cases h
     .cases h
    .cases h
   .cases h
  .split at h
   .replace h:=aO h (.inl rfl);obtain⟨p,_,h⟩:=h;obtain⟨l,_,h⟩:=NM.1 h;split at h
    .replace h:=aO h (.inl rfl);obtain⟨f,_,h⟩:=h;simp only [NL,Ow] at h;obtain⟨_,rfl⟩:=h;simp [kb] at d
    .cases h
   .cases h
  .cases h
theorem yA{o:Oper}{t:TypeId}{a:Nat}{y:Operand}{v:AV}{us:aB}(b:o.op= .store t (.tmp a) y)(h:cK P An Or none o s=some (v,us)):hI P s t (s.get none (.tmp a)) (s.get none y) (λu=>some (AV.top,u))=some (v,us):=by unfold cK gQ at h;rw [b] at h;exact h
theorem Eo{a b:Oper}(hl:jW P An ops a b=true)(N:a∈ops)(Q:b∈ops){s1 s2:St}{U V:AV}{v y:aB}(ea:cK P An Or none a s1=some (U,v))(eb:cK P An Or none b s2=some (V,y))
  (I:iZ P An ops a s1 v=true) (okb:iZ P An ops b s2 y=true) (r:s2.h=aK s1.h v\/s1.h=aK s2.h y):
  (∀p∈v,∀q∈y,p.1≠q.1)/\(∀x∈a.op.operands,∀i∈(s1.get none x).ids,∃p∈v,p.1=i)/\(∀x∈b.op.operands,∀i∈(s2.get none x).ids,∃p∈y,p.1=i):=by
 have o:=Oz.1 I b Q;have l:=Oz.1 okb a N;simp only [NT] at o l;replace o:=o.1.2.1;replace l:=l.1.2.2;rw [hl] at o l;simp only [NR,Om,NT] at o l;simp only [jW,NT] at hl;obtain⟨ta,Y,ya,ga,B⟩:=nX hl.1.2;obtain⟨tb,Z,yb,gb,u⟩:=nX hl.2;obtain⟨i,sz,k,off,j,rsz,X,J,K,⟨_,_,z⟩,L,rfl,_,_,_,_,_,_,_,C,rfl,_⟩:=Cj (yA B ea) o;obtain⟨i',sz',k',off',b',ys',M,⟨_,g,_⟩,rfl⟩:=Cl (yA u eb) l.1;have m:=l.2;simp only [vF,u,PF] at m;have G:i'≠i/\i'≠j:=by
  rcases r with r | r
  .rw [r,cN,du] at g;constructor
   .rintro rfl;rw [aA] at g;cases g
   .intro e;by_cases D:i'=i
    .rw [D,aA] at g;cases g
    .rw [ax _ _ D,e,aA] at g;cases g
  .rw [r,du] at C z;constructor
   .rintro rfl;rw [aA] at C;cases C
   .rintro rfl;rw [aA] at z;simp only [NL,ad.sl.injEq] at z;exact L z.2.1.symm
 refine⟨λp E q F e=> ?_,λx f id d=> ?_,λx f id d=> ?_⟩
 .simp only [N2,Pt,or_false] at E F;subst F;rcases E with rfl | rfl
  .exact G.2 e.symm
  .exact G.1 e.symm
 .simp only [B,Op.operands] at f;have f:x= .tmp Y\/x=ya:=by simpa using f
  rcases f with rfl | rfl
  .rw [J] at d;simp only [AV.ids,NY] at d;subst d;exact⟨_,NP _ (NY.2 rfl),rfl⟩
  .rw [K] at d;simp only [AV.ids,NY] at d;subst d;exact⟨_,NN,rfl⟩
 .simp only [u,Op.operands] at f;have f:x= .tmp Z\/x=yb:=by simpa using f
  rcases f with rfl | rfl
  .rw [M] at d;simp only [AV.ids,NY] at d;subst d;exact⟨_,NN,rfl⟩
  .rw [m] at d;cases d
theorem xl{o:Oper}(h:tQ P o=true):∃a,o.guard=none/\((∃t e n,o.op= .indexAddr t (.tmp a) n/\lE P t=some e/\P.cellsOf e=1)\/∃t,o.op= .load t (.tmp a)):=by
 unfold tQ at h;split at h
 .rename_i t a n b d;split at h
  .rename_i e f;exact⟨a,b, .inl ⟨t,e,n,d,f,by simpa using h⟩⟩
  .cases h
 .rename_i t a b d;exact⟨a,b, .inr ⟨t,d⟩⟩
 .cases h
def nk(h h':Id->Option ad):Prop:= ∀m,h' m=h m\/(∃fz sz b xs d f a,h m=some (.sl fz sz b xs)/\h' m=some (.sl d sz f a)/\a.length=xs.length)\/
 (∃b sz col rsz g es e es',h m=some (.rows b sz col rsz g es)/\h' m=some (.rows b sz col rsz e es')/\es'.length=es.length)\/∃sz b xs,sz≠1/\h m=some (.sl false sz b xs)/\h' m=some .dead
theorem nk.index{t e:TypeId}{m:Id}{n:Int}{K:AV->Option (AV×aB)}{r:AV×aB}(H:nk s.h s'.h)(g:lE P t=some e)(f:P.cellsOf e=1):iv P s none t (.own m) n K=some r↔iv P s' none t (.own m) n K=some r:=by
 unfold iv;simp only [g];rcases H m with h | ⟨_,_,_,_,_,_,_,a,b,d⟩ | ⟨_,_,_,_,_,_,_,_,a,b,d⟩ | ⟨sz,_,_,h0,a,b⟩
 .rw [h]
 .rw [a,b];simp only [d]
 .rw [a,b];simp only [d]
 .rw [a,b];simp only [f,if_neg h0,reduceCtorEq]
theorem nk.load{t:TypeId}{m:Id}{off:Nat}{K:AV->Option (AV×aB)}{r:AV×aB}(H:nk s.h s'.h):fG P s none t (.ref m off) K=some r↔fG P s' none t (.ref m off) K=some r:=by
 unfold fG;rcases H m with h | ⟨_,_,_,_,_,_,_,a,b,d⟩ | ⟨_,_,_,_,_,_,_,_,a,b,d⟩ | ⟨sz,_,_,h0,a,b⟩
 .simp only [h]
 .simp only [a,b]
 .simp only [a,b]
 .simp only [a,b]
theorem nk.store{t:TypeId}{a v r:AV}{us:aB}(h:hI P s t a v (λu=>some (AV.top,u))=some (r,us))(d:ka us=true\/kb us=true):nk s.h (aK s.h us):=by
 rcases d with d | d
 .obtain⟨i,sz,k,off,j,rsz,X,_,_,⟨_,_,g⟩,l,rfl,_,_,_,_,_,_,_,f,rfl,o⟩:=Cj h d;intro m;rw [cN,du];by_cases b:m=i
  .subst b;exact .inr (.inr (.inl ⟨_,_,_,_,_,_,_,_,f,aA _ _ _,o⟩))
  .rw [ax _ _ b];by_cases e:m=j
   .subst e;exact .inr (.inr (.inr ⟨_,_,_,l,g,aA _ _ _⟩))
   .rw [ax _ _ e];exact .inl rfl
 .obtain⟨i,_,_,_,_,_,_,⟨_,p,q⟩,rfl⟩:=Cl h d;intro m;rw [du];by_cases b:m=i
  .subst b;exact .inr (.inl ⟨_,_,_,_,_,_,_,p,aA _ _ _,q⟩)
  .rw [ax _ _ b];exact .inl rfl
theorem Ep{a b:Oper}(hl:jy P An ops a b=true)(u:a∈ops)(B:b∈ops){s1 s2 q:St}{G:AV}{l:aB}{F:aB}(ea:cK P An Or none a s1=some (G,l))(o:iZ P An ops a s1 l=true)(okb:iZ P An ops b q F=true)
  (E:s2.h=aK s1.h l) (g:∀x∈b.op.operands,s2.get none x=s1.get none x) (k:∀x∈b.op.operands,q.get none x=s1.get none x) (r:AV×aB):cK P An Or none b s1=some r↔cK P An Or none b s2=some r:=by
 have i:=Oz.1 o b B;have f:=Oz.1 okb a u;simp only [NT] at i f;replace i:=i.2.1;replace f:=f.2.2;rw [hl] at i f;simp only [NR,Om,OA] at i f;simp only [jy,NT,OA] at hl;obtain⟨K,L,M,I,p⟩:∃t x y,a.guard=none/\a.op= .store t (.tmp x) y:=by rcases hl.1.2 with h | h <;> exact nX h
 have H:=nk.store (yA p ea) i;rw [<-E] at H;obtain⟨j,J,⟨tb,e,n,d,D,C⟩ | ⟨tb,d⟩⟩:=xl hl.2
 case inr=>
  simp only [rD,d] at f;rw [k (.tmp j) (by simp [d,Op.operands])] at f;split at f
  .rename_i m off hm;unfold cK gQ;rw [d];dsimp only;rw [g (.tmp j) (by simp [d,Op.operands]),hm];exact H.load
  .cases f
 simp only [rD,d] at f;rw [k (.tmp j) (by simp [d,Op.operands])] at f;split at f
 .rename_i m hm;unfold cK gQ;rw [d];dsimp only;rw [g (.tmp j) (by simp [d,Op.operands]),g n (by simp [d,Op.operands]),hm];unfold mF;cases(s1.get none n).t? with
  | none=>exact P4
  | some y=>
   simp only [NO];cases gS.anyInt y with
   | none=>exact P4
   | some z=>change (iv P s1 none tb (AV.own m) z λv=>some (v,[]))=some r↔(iv P s2 none tb (AV.own m) z λv=>some (v,[]))=some r;exact H.index D C
 .cases f
theorem Cy{a b:Oper}{s1 s2:St}{us:aB}{y:aB}(hl:gW P An ops a b=true)(o:a∈ops)(p:b∈ops)(m:iZ P An ops a s1 us=true)(okb:iZ P An ops b s2 y=true)(v:∀k,k∉fD ops.toList->(s1.t k).2= (s2.t k).2):
  ∀x∈b.op.operands,∀i∈(s2.get none x).ids,∀q∈us,q.1≠i:=by
 have f:=Oz.1 m b p;have d:=Oz.1 okb a o;simp only [NT] at f d;replace f:=f.1.1.1.2;replace d:=d.1.1.2;rw [hl] at f d;simp only [NR,Om] at f d;rcases qZ hl with⟨k,j,r⟩ | j
 .simp only [tW,rm,j,N6,decide_eq_true_eq] at f d;intro x l i g q u e;have:=d x (Array.mem_toList_iff.2 l) i g;rw [<-v k r,<-e] at this;exact f q u this
 .simp only [rm,j,N6,PF] at d;intro x l i g;rw [d x (Array.mem_toList_iff.2 l)] at g;cases g
theorem yy{o:Oper}{us:aB}(v:∀k,k∉fD ops.toList->s'.t k=s.t k)(u:∀k,ft ops o=some k\/gY ops o=some none->∀x∈o.op.operands,s'.get none x=s.get none x)(B:o.guard=none->∀x∈o.op.operands,s'.get none x=s.get none x)(h:iZ P An ops o s us=true):iZ P An ops o s' us=true:=by
 refine Oz.2 λp hm=> ?_;have h0:=Oz.1 h p hm;simp only [NT] at h0⊢;obtain⟨⟨⟨⟨q,r⟩,m⟩,K,j⟩,F,f⟩:=h0;refine⟨⟨⟨⟨?_, ?_⟩, ?_⟩,K, ?_⟩,F, ?_⟩
 .cases g:iY An ops o p with
  | false=>rfl
  | true=>obtain⟨k,L,b,G,M,I,J⟩:=yx g;rw [g] at q;simp only [NR,Om,yz,b,G,NT,N6] at q⊢;rw [v k I,v L J];refine⟨⟨λx i=> ?_,q.1.2⟩,q.2⟩;rw [u k (.inl b) x (Array.mem_toList_iff.1 i)];exact q.1.1 x i
 .cases g:gW P An ops o p with
  | false=>rfl
  | true=>
   rw [g] at r;simp only [NR,Om] at r⊢;rcases qZ g with⟨k,b,E⟩ | b
   .simp only [tW,b] at r⊢;rw [v k E];exact r
   .simp only [tW,b]
 .cases g:gW P An ops p o with
  | false=>rfl
  | true=>
   rw [g] at m;simp only [NR,Om] at m⊢;rcases qZ g with⟨k,b,E⟩ | b
   .simp only [rm,b,N6] at m⊢;rw [v k E];intro x i;rw [u k (.inl (K7 b)) x (Array.mem_toList_iff.1 i)];exact m x i
   .simp only [rm,b,N6] at m⊢;intro x i;rw [u 0 (.inr b) x (Array.mem_toList_iff.1 i)];exact m x i
 .cases C:jW P An ops p o with
  | false=>rfl
  | true=>
   rw [C] at j;simp only [NR,Om,NT] at j⊢;refine⟨j.1, ?_⟩;have z:=j.2;simp only [jW,NT] at C;obtain⟨t,a,y,l,d⟩:=nX C.2;have b:ft ops o=some (pM ops a):=by simp [ft,l,d]
   simp only [vF,d] at z⊢;rw [u _ (.inl b) y (by simp [d,Op.operands])];exact z
 .cases D:jy P An ops p o with
  | false=>rfl
  | true=>
   rw [D] at f;simp only [NR,Om] at f⊢;simp only [jy,NT] at D;obtain⟨a,l,⟨t,e,n,d,_,_⟩ | ⟨t,d⟩⟩:=xl D.2
   .simp only [rD,d] at f⊢;rw [B l (.tmp a) (by simp [d,Op.operands])];exact f
   .simp only [rD,d] at f⊢;rw [B l (.tmp a) (by simp [d,Op.operands])];exact f
theorem Cn:∀{l d:List AV},kK l d=true->∀{k:Nat} {v:AV},qO v=true->(l[k]? =some v↔d[k]? =some v)
 | [],[],_,_,_,_=>P4
 | [],_::_,h,_,_,_=>by cases h
 | _::_,[],h,_,_,_=>by cases h
 | c::r,c'::x,h,k,v,b=>by
  unfold kK at h;cases a:qS c c' with
  | none=>rw [a] at h;cases h
  | some q=>
  rw [a] at h;have tl:kK r x=true:=by
   cases q with
   | none=>exact h
   | some p=>simp only [NT] at h;exact h.2
  have g:∀p,q=some p->p.1=p.2:=λp e=>by subst e;simp only [NT,decide_eq_true_eq] at h;exact h.1
  have f:c=v↔c'=v:=by
   unfold qS at a;split at a
   .rename_i i o j p;by_cases e:i=j/\o=p
    .obtain⟨rfl,rfl⟩:=e;exact P4
    .simp [e] at a
   .cases a
   .cases a
   .rename_i m y u z;by_cases e:m=u
    .subst e;simp at a;have:=g _ a.symm;simp at this;subst this;exact P4
    .simp [e] at a
   .cases a
   .cases a
   .constructor
    .rintro rfl;unfold qO at b;split at b
     .simp_all
     .simp_all
     .cases b
    .rintro rfl;unfold qO at b;split at b
     .simp_all
     .simp_all
     .cases b
  cases k with
  | zero=>simpa using f
  | succ k=>simpa using Cn tl (k:=k) b
def mj(h h':Id->Option ad):Prop:= ∀m,h' m=h m\/(∃cs a,h m=some (.box cs)/\h' m=some (.box a)/\kK cs a=true)\/
 ((∀cs,h m≠some (.box cs))/\(∀cs,h' m≠some (.box cs))/\(∀cs,h m≠some (.eE cs))/\∀cs,h' m≠some (.eE cs))
theorem Cs{h h':Id->Option ad}:∀{us:aB},jl h h' us=true->∀p∈us,(∃cs d,h p.1=some (.box cs)/\h' p.1=some (.box d)/\kK cs d=true)\/
  ((∀cs,h p.1≠some (.box cs))/\(∀cs,h' p.1≠some (.box cs))/\(∀cs,h p.1≠some (.eE cs))/\∀cs,h' p.1≠some (.eE cs))
 | [],_,_,f=>by cases f
 | q::us,b,p,f=>by
  unfold jl at b;cases a:qT (h q.1) (h' q.1) with
  | none=>rw [a] at b;cases b
  | some r=>
  rw [a] at b;have tl:jl h h' us=true:=by
   cases r with
   | none=>exact b
   | some r=>simp only [NT] at b;exact b.2
  rcases N2.1 f with rfl | f
  .generalize g:h p.1=x at a;generalize i:h' p.1=y at a;unfold qT at a;split at a
   .rename_i cs d;cases a;simp only [NT] at b;exact .inl ⟨cs,d,rfl,rfl,b.1⟩
   .cases a
   .cases a
   .cases a
   .cases a
   .exact .inr ⟨λcs e=>by simp_all,λcs e=>by simp_all,λcs e=>by simp_all,λcs e=>by simp_all⟩
  .exact Cs tl p f
theorem mj.of{h:Id->Option ad}{us:aB}(d:jl h (aK h us) us=true):mj h (aK h us):=by
 intro m;by_cases e:∃p∈us,p.1=m
 .obtain⟨p,a,rfl⟩:=e;exact .inr (Cs d p a)
 .exact .inl (de λp a b=>e ⟨p,a,b⟩)
theorem mj.load{t:TypeId}{m:Id}{off:Nat}{v:AV}{u:aB}(H:mj s.h s'.h)(b:qO v=true):
  fG P s none t (.ref m off) (λv=>some (v,([]:aB)))=some (v,u)↔fG P s' none t (.ref m off) (λv=>some (v,([]:aB)))=some (v,u):=by
 unfold fG;rcases H m with h | ⟨cs,B,i,j,o⟩ | ⟨p,q,r,z⟩
 .simp only [h]
 .simp only [i,j];cases cb P t with
  | false=>exact P4
  | true=>
   simp only [cond_true];unfold kO;cases bI P t with
   | true=>
    simp only [cond_true];have no:∀l:List AV,¬((kY (P.cellsOf t) l).bind λl=>some (AV.agg l,([]:aB)))=some (v,u):=λl e=>by obtain⟨x,_,e⟩:=NM.1 e;simp only [NL,Ow] at e;rw [<-e.1] at b;cases b
    exact⟨λe=>absurd e (no _),λe=>absurd e (no _)⟩
   | false=>
    simp only [cond_false,List.head?_drop];have key:=Cn o (k:=off) b;constructor <;> intro e
    .obtain⟨x,d,e⟩:=NM.1 e;simp only [NL,Ow] at e;obtain⟨rfl,rfl⟩:=e;rw [key.1 d];rfl
    .obtain⟨x,d,e⟩:=NM.1 e;simp only [NL,Ow] at e;obtain⟨rfl,rfl⟩:=e;rw [key.2 d];rfl
 .have a:∀(s0:St),(∀cs,s0.h m≠some (.box cs))->(∀cs,s0.h m≠some (.eE cs))->fG P s0 none t (.ref m off) (λv=>some (v,([]:aB)))=none:=λs0 x y=>by
   unfold fG;cases cb P t with
   | false=>rfl
   | true=>
    dsimp only [cond_true];split
    .rename_i cs e;exact absurd e (x cs)
    .rename_i cs e;exact absurd e (y cs)
    .rfl
  have f:=a s p r;have g:=a s' q z;unfold fG at f g;rw [f,g]
theorem Cb{o:Oper}(h:mG o=true):o.guard=none/\((∃t x,o.op= .load t (.tmp x))\/∃t x n,o.op= .indexAddr t (.tmp x) n):=by
 unfold mG at h;split at h
 .rename_i t x a b;exact⟨a, .inl ⟨t,x,b⟩⟩
 .rename_i t x n a b;exact⟨a, .inr ⟨t,x,n,b⟩⟩
 .cases h
theorem Er{b:Oper}(hl:mG b=true){s1 s2:St}(g:∀x∈b.op.operands,∀k,x= .tmp k->s2.t k=s1.t k)(f:oO b s1=true):cK P An Or none b s2=cK P An Or none b s1:=by
 have a:dP An b=false/\dM An b=false:=by obtain⟨_,⟨t,x,e⟩ | ⟨t,x,n,e⟩⟩:=Cb hl <;> simp [dP,dM,e]
 refine im (s:=s1) (s':=s2) g (.inr (.inr (.inr ⟨a.1,a.2,λx a id d=> ?_⟩)));have:=N6.1 f x (Array.mem_toList_iff.2 a);rw [PF.1 this] at d;cases d
theorem Es{b:Oper}(hl:mG b=true){s1 s2:St}(H:An.tX b.dst b.type=true\/(An.tY b.dst b.type=true/\mj s1.h s2.h))(i:∀x∈b.op.operands,∀k,x= .tmp k->s2.t k=s1.t k){v:AV}{u:aB}
  (a:mJ An b s1 v=true):cK P An Or none b s1=some (v,u)↔cK P An Or none b s2=some (v,u):=by
 unfold mJ at a;simp only [NT] at a;rcases H with h | ⟨j,H⟩
 .have d:=a.1;rw [h,hl] at d;simp only [Bool.and_self,NR,Om] at d;rw [Er hl i d]
 replace a:=a.2;rw [j,hl] at a;simp only [Bool.and_self,NR,Om,OA] at a;rcases a with d | f
 .rw [Er hl i d]
 .split at f
  .rename_i t x g;simp only [NT] at f;obtain⟨e,l⟩:=f;unfold Ce at e;split at e
   .rename_i m off hm;have o:s2.get none x= .ref m off:=by rw [<-hm];exact lL (i x (by simp [g,Op.operands]))
    unfold cK gQ;rw [g];dsimp only;rw [hm,o];exact mj.load H l
   .cases e
  .cases f
theorem xv{o:Oper}{v:AV}(b:∀x∈o.op.operands,s'.get none x=s.get none x)(h:mJ An o s v=true):mJ An o s' v=true:=by
 have d:oO o s'=oO o s:=by
  unfold oO;rw [Bool.eq_iff_iff,N6,N6];constructor
  .intro h x hm;rw [<-b x (Array.mem_toList_iff.1 hm)];exact h x hm
  .intro h x hm;rw [b x (Array.mem_toList_iff.1 hm)];exact h x hm
 unfold mJ at h⊢;rw [d];simp only [NT] at h⊢;refine⟨h.1, ?_⟩;have a:=h.2;simp only [OA] at a⊢;rcases a with a | a
 .exact .inl a
 .right;split at a
  .rename_i t x e;rw [b x (by simp [e,Op.operands])];exact a
  .cases a
theorem ER{h h':Id->Option ad}:∀{us:aB} {i:Id},(∃p∈us,p.1=i)\/h i=h' i->aK h us i=aK h' us i
 | [],i,e=>by
  rcases e with⟨p,a,_⟩ | e
  .cases a
  .exact e
 | q::us,i,e=>by
  obtain⟨j,b⟩:=q;rw [cN,cN];refine ER ?_;by_cases d:i=j
  .right;subst d;rw [aA,aA]
  .rcases e with⟨p,a,rfl⟩ | e
   .rcases N2.1 a with rfl | a
    .exact absurd rfl d
    .exact .inl ⟨p,a,rfl⟩
   .right;rw [ax _ _ d,ax _ _ d];exact e
theorem Cr{h h' g a:Id->Option ad}:∀{us:aB},(∀p∈us,h p.1=h' p.1/\g p.1=a p.1)->jl h g us=jl h' a us
 | [],_=>rfl
 | p::us,e=>by have d:=Cr (us:=us) λq b=>e q (NP _ b);unfold jl;rw [(e p NN).1,(e p NN).2,d]
theorem Cm{o:Oper}{h h':Id->Option ad}{us:aB}(e:∀p∈us,h p.1=h' p.1):iy An true o h us=iy An true o h' us:=by unfold iy;rw [Cr λp a=>⟨e p a,ER (.inl ⟨p,a,rfl⟩)⟩]
theorem swap{listed:Array Bool}{i j:Nat}{l u:Oper}(hu:oL ops)(hgk:pr ops=true)(Z:ops[i]? =some l)(hj:ops[j]? =some u)(hne:j≠i)(hri:i∈Region.ready .any ops listed)(hrj:j∈Region.ready .any ops listed)
  (hcl:oA ops listed) (hap:l.apart ops u=true) (hcm0':oT P An l u=true\/pY P An ops l u=true) (hG:oC ops listed s) (K:eu P An Or true nt ops l s=some s1) (L:eu P An Or true nt ops u s1=some s2):
  ∃sj,eu P An Or true nt ops u s=some sj/\eu P An Or true nt ops l sj=some s2:=by
 obtain⟨I,vi,C,wi,rfl⟩:=xK K;obtain⟨G,vj,B,wj,rfl⟩:=xK L;obtain⟨hli,oi',hi',hai⟩:=mem_ready.1 hri;rw [Z] at hi';simp only [NL] at hi';subst hi';obtain⟨hlj,oj',hj',haj⟩:=mem_ready.1 hrj;rw [hj] at hj';simp only [NL] at hj';subst hj';obtain⟨a1,a2,a3⟩:=Oper.apart_spec hap;have behind:∀(o:Oper) (m:Nat),listed.getD m true=false->(∀e∈o.after,Region.binds .any e=true->listed.getD e.on false=true)->∀e∈o.after,Region.binds .any e=true->¬(e.on=m\/fU ops 12 e.on m=true):=by
  intro o m hlm hall e he hb h;rcases h with h | h
  .exact rY hlm (h▸hall e he hb)
  .have hl:=hall e he hb;cases hk:ops[e.on]? with
   | none=>simp [fU,hk] at h
   | some ok=>rw [vG hcl hlm hk (hcl e.on ok hk hl)] at h;cases h
 have noti:=behind u i hli haj;have notj:=behind l j hlj hai;have wiok:=wi.ok;have wjok:=wj.ok;simp only [lT,NR,Om,NT] at wiok wjok;obtain⟨⟨⟨i1,i2⟩,i3⟩,⟨⟨⟨⟨⟨⟨i4,i5⟩,i6⟩,i7⟩,i8⟩,i9⟩,i10⟩,i11⟩:=wiok;obtain⟨⟨⟨j1,j2⟩,j3⟩,⟨⟨⟨⟨⟨⟨j4,j5⟩,j6⟩,j7⟩,j8⟩,j9⟩,j10⟩,j11⟩:=wjok;have pli:=xV (g:=I) (v:=vi) (us:=C) hu Z hli hG (dw ops l.dst);have tj:∀k,k∈u.looksAt ops->(s.put (dw ops l.dst) l.dst I vi C).t k=s.t k:=by intro k hk;rw [pli];exact og (b:=false) λe=>a1 k e hk
 have ti:∀(g:Option Gs) (v:AV) (us:aB) k,k∈l.looksAt ops->(s.put false u.dst g v us).t k=s.t k:=λg v us k hk=>og (b:=false) λe=>a3 k e hk;have gj':cX ops u s some=some G:=by rw [<-wj.guard];exact(B5 λx b d J U=>tj d (CF J U)).symm
 have getj:∀x∈u.op.operands,(s.put (dw ops l.dst) l.dst I vi C).get G x=s.get G x:=λx z=>lL λk e=>tj k (eH (e▸z));have nj:mM ops G u s=true:=by rw [<-j4];exact(CT getj).symm
 have a2':∀d,u.dst=some d->l.dst≠some d:=λd h h'=>a2 d h' h;have guardA:∀(o:Oper) (g:Option Gs) (s0:St) (k:Nat),ft ops o=some k->cX ops o s0 some=some g->g=none/\dP An o=false/\dM An o=false:=by
  intro o g s0 k h M;unfold ft at h;split at h
  .rename_i J U;unfold cX at M;rw [J] at M;simp only [NL] at M;exact⟨M.symm,by simp [dP,U],by simp [dM,U]⟩
  .rename_i J U;unfold cX at M;rw [J] at M;simp only [NL] at M;exact⟨M.symm,by simp [dP,U],by simp [dM,U]⟩
  .cases h
 have al_w:∀o:Oper,gU o=true->aJ P An o=false:=by intro o h;cases hop:o.op <;> simp only [gU,hop,Od] at h <;> simp [aJ,hop]
 have w_r:∀o:Oper,aJ P An o=false->dP An o=false:=by
  intro o h;cases hr:dP An o with
  | false=>rfl
  | true=>
   exfalso;cases hop:o.op <;> simp only [dP,hop,Od] at hr;rename_i cl;cases hcal:cl.callee <;> simp only [hcal,Od] at hr;rename_i fo;simp only [aJ,hop,hcal] at h;cases fo with
   | func f=>
    dsimp only at h hr;cases hb:An.gu f with
    | none=>rw [hb] at hr;simp at hr
    | some x=>rw [hb] at h;simp at h
   | _=>dsimp only at h hr;rw [h] at hr;cases hr
 have notmine:∀(o:Oper) (us:aB) (m:Nat) (om:Oper),ops[m]? =some om->(∀e∈o.after,Region.binds .any e=true->¬(e.on=m\/fU ops 12 e.on m=true))->qc ops o us=true->(∀d,om.dst=some d->o.dst≠some d)->∀q∈us,∀d k,om.dst=some d->q.1≠ .s d k:=by
  intro o us m om hm hnot hok hdst q D d k hd e;have J:=N6.1 hok q D;rw [e] at J;simp only [OA] at J;rcases J with J | J
  .unfold oR at J;have h3:=N6.1 J m (Qx.2 (Qa.1 hm).1);rw [hm] at h3;simp only [hd,BEq.rfl,NR,Om] at h3;obtain⟨e',he,hb⟩:=PY.1 h3;simp only [NT,OA,beq_iff_eq] at hb;exact hnot e' he hb.1 hb.2
  .exact hdst d hd (by simpa using J)
 have ltd:∀(o:Oper),(match o.dst with | some d=>decide (d < nt) | none=>true)=true->Nat.ble nt 1000000=true->∀d,o.dst=some d->d < 1000000:=by intro o J U d hd;rw [hd] at J;simp only [decide_eq_true_eq] at J;exact OM J (Nat.le_of_ble_eq_true U)
 have guardB:∀(o:Oper) (g:Option Gs) (s0:St) (k:Nat),(ft ops o=some k\/gY ops o=some none)->cX ops o s0 some=some g->g=none:=by
  intro o g s0 k h M;rcases h with h | h
  .exact(guardA o g s0 k h M).1
  .have J:=K6 h;unfold cX at M;rw [J] at M;simp only [NL] at M;exact M.symm
 have three:cK P An Or G u s=some (vj,B)/\cK P An Or I l (s.put false u.dst G vj B)=some (vi,C)/\(∀p∈C,∀q∈B,p.1≠q.1):=by
  rcases hcm0' with hcm | hst
  .skip
   have hcm0:=hcm;unfold oT at hcm0;simp only [NT] at hcm0;obtain⟨⟨hcm1,hcd1⟩,hcd2⟩:=hcm0;have hcm':(aJ P An l=false\/eF P u=true\/gU u=true)/\(aJ P An u=false\/eF P l=true\/gU l=true):=by simp only [OF,Pm,Bool.and_eq_false_iff,PJ,OA] at hcm1;exact hcm1
   have hdi:dM An l=false\/B= []:=by
    simp only [OA,OF] at hcd1;rcases hcd1 with h | h
    .exact .inl h
    .right;simpa [h] using j7
   have hdj:dM An u=false\/C= []:=by
    simp only [OA,OF] at hcd2;rcases hcd2 with h | h
    .exact .inl h
    .right;simpa [h] using i7
   have purei:eF P l=true->C= []:=λh=>by simpa [h] using i6
   have purej:eF P u=true->B= []:=λh=>by simpa [h] using j6
   have opj:cK P An Or G u s=some (vj,B):=by
    have old:eF P u=true\/gU u=true\/aK s.h C=s.h\/(dP An u=false/\dM An u=false/\∀x∈u.op.operands,∀id∈(s.get G x).ids,aK s.h C id=s.h id)->cK P An Or G u s=some (vj,B):=by intro h;rw [<-wj.op];exact(im (s:=s) (s':=s.put (dw ops l.dst) l.dst I vi C) (λx z k e=>tj k (eH (e▸z))) h).symm
    rcases hcm'.1 with hw | F | F
    case inr.inl=>exact old (.inl F)
    case inr.inr=>exact old (.inr (.inl F))
    have Q:jq l C=true:=by simpa [hw] using i5
    have direct:∀x∈u.op.operands,∀id∈(s.get G x).ids,∀q∈C,q.1≠id:=by intro x z id E q D e;obtain⟨d,k,K,L⟩:=fj Q ⟨q,D,e⟩;subst K;obtain⟨ed,he,hb,ho⟩:=uk nj z E Z L;exact noti ed he hb ho
    rcases hdj with hdj | hdj
    case inr=>exact old (.inr (.inr (.inl (by rw [hdj];rfl))))
    rcases hcm'.2 with hwj | hpi | hai'
    .exact old (.inr (.inr (.inr ⟨w_r u hwj,hdj,λx z id E=>de λq D e=>direct x z id E q D e⟩)))
    .exact old (.inr (.inr (.inl (by rw [purei hpi];rfl))))
    .cases hwj:aJ P An u with
     | false=>exact old (.inr (.inr (.inr ⟨w_r u hwj,hdj,λx z id E=>de λq D e=>direct x z id E q D e⟩)))
     | true=>
      have hus:qc ops u B=true:=by simpa [hwj] using j8
      refine sN (s:=s.put (dw ops l.dst) l.dst I vi C) (s':=s) (N:=λi=>∃q∈C,q.1=i) (λx z k e=>(tj k (eH (e▸z))).symm) (λi Z=> ?_) hdj (λx z id E=> ?_) (λk=> ?_) (λp F=> ?_) wj.op
      .exact(de λq D e=>Z ⟨q,D,e⟩).symm
      .rw [getj x z] at E;rintro⟨q,D,e⟩;exact direct x z id E q D e
      .rintro⟨q,D,e⟩;obtain⟨d,k',K,L⟩:=fj Q ⟨q,D,e⟩;simp only [Id.s.injEq] at K;have h:=ltd l i1 i9 d L;rw [<-K.1] at h;exact absurd h (QN.2 (OC (by decide) (P7 2000000 _)))
      .rintro⟨q,D,e⟩;obtain⟨d,k',K,L⟩:=fj Q ⟨q,D,rfl⟩;exact notmine u B i l Z noti hus a2 p F d k' L (by rw [<-e,K])
   have opi:cK P An Or I l (s.put false u.dst G vj B)=some (vi,C):=by
    have old:eF P l=true\/gU l=true\/aK s.h B=s.h\/(dP An l=false/\dM An l=false/\∀x∈l.op.operands,∀id∈(s.get I x).ids,aK s.h B id=s.h id)->cK P An Or I l (s.put false u.dst G vj B)=some (vi,C):=by intro h;rw [<-wi.op];exact im (λx z k e=>ti _ _ _ k (eH (e▸z))) h
    rcases hcm'.2 with hw | F | F
    case inr.inl=>exact old (.inl F)
    case inr.inr=>exact old (.inr (.inl F))
    have Q:jq u B=true:=by simpa [hw] using j5
    have direct:∀x∈l.op.operands,∀id∈(s.get I x).ids,∀q∈B,q.1≠id:=by intro x z id E q D e;obtain⟨d,k,K,L⟩:=fj Q ⟨q,D,e⟩;subst K;obtain⟨ed,he,hb,ho⟩:=uk i4 z E hj L;exact notj ed he hb ho
    rcases hdi with hdi | hdi
    case inr=>exact old (.inr (.inr (.inl (by rw [hdi];rfl))))
    rcases hcm'.1 with hwi | hpj | haj'
    .exact old (.inr (.inr (.inr ⟨w_r l hwi,hdi,λx z id E=>de λq D e=>direct x z id E q D e⟩)))
    .exact old (.inr (.inr (.inl (by rw [purej hpj];rfl))))
    .cases hwi:aJ P An l with
     | false=>exact old (.inr (.inr (.inr ⟨w_r l hwi,hdi,λx z id E=>de λq D e=>direct x z id E q D e⟩)))
     | true=>
      have hus:qc ops l C=true:=by simpa [hwi] using i8
      refine sN (s:=s) (s':=s.put false u.dst G vj B) (N:=λi=>∃q∈B,q.1=i) (λx z k e=>ti _ _ _ k (eH (e▸z))) (λi Z=> ?_) hdi (λx z id E=> ?_) (λk=> ?_) (λp F=> ?_) wi.op
      .exact de λq D e=>Z ⟨q,D,e⟩
      .rintro⟨q,D,e⟩;exact direct x z id E q D e
      .rintro⟨q,D,e⟩;obtain⟨d,k',K,L⟩:=fj Q ⟨q,D,e⟩;simp only [Id.s.injEq] at K;have h:=ltd u j1 j9 d L;rw [<-K.1] at h;exact absurd h (QN.2 (OC (by decide) (P7 2000000 _)))
      .rintro⟨q,D,e⟩;obtain⟨d,k',K,L⟩:=fj Q ⟨q,D,rfl⟩;exact notmine l C j u hj notj hus a2' p F d k' L (by rw [<-e,K])
   have disj:∀p∈C,∀q∈B,p.1≠q.1:=by
    intro p F q D e;rcases hcm'.1 with hw | hpj | haj'
    .rcases hcm'.2 with hw' | hpi | hai'
     .obtain⟨d,k,K,L⟩:=fj (by simpa [hw] using i5:jq l C=true) ⟨p,F,rfl⟩;obtain⟨d',k',e3,e4⟩:=fj (by simpa [hw'] using j5:jq u B=true) ⟨q,D,rfl⟩;rw [K,e3] at e;simp only [Id.s.injEq] at e;obtain⟨rfl,_⟩:=e;exact a2 d L e4
     .rw [purei hpi] at F;cases F
     .obtain⟨d,k,K,L⟩:=fj (by simpa [hw] using i5:jq l C=true) ⟨p,F,rfl⟩;cases hwj:aJ P An u with
      | false=>obtain⟨d',k',e3,e4⟩:=fj (by simpa [hwj] using j5:jq u B=true) ⟨q,D,rfl⟩;rw [K,e3] at e;simp only [Id.s.injEq] at e;obtain⟨rfl,_⟩:=e;exact a2 d L e4
      | true=>exact notmine u B i l Z noti (by simpa [hwj] using j8) a2 q D d k L (by rw [<-e,K])
    .rw [purej hpj] at D;cases D
    .obtain⟨d,k,K,L⟩:=fj (by simpa [al_w u haj'] using j5:jq u B=true) ⟨q,D,rfl⟩;cases hwi:aJ P An l with
     | false=>obtain⟨d',k',e3,e4⟩:=fj (by simpa [hwi] using i5:jq l C=true) ⟨p,F,rfl⟩;rw [K,e3] at e;simp only [Id.s.injEq] at e;obtain⟨rfl,_⟩:=e;exact a2 d' e4 L
     | true=>exact notmine l C j u hj notj (by simpa [hwi] using i8) a2' p F d k L (by rw [e,K])
   exact⟨opj,opi,disj⟩
  .have hst3:((((iY An ops l u=true\/gW P An ops l u=true)\/gW P An ops u l=true)\/(jW P An ops l u=true\/jW P An ops u l=true))\/(jy P An ops l u=true\/jy P An ops u l=true))\/(pZ An l u=true\/pZ An u l=true):=by
    unfold pY at hst;simpa only [OA] using hst
   rcases hst3 with hst2 | hst6
   case inr=>
    have lq:∀o,mG o=true->o.guard=none/\lW P An o=true/\eF P o=false:=λo h=>by
     obtain⟨J,⟨t,x,U⟩ | ⟨t,x,n,U⟩⟩:=Cb h
     .exact⟨J,by simp [lW,U],by simp [eF,U]⟩
     .exact⟨J,by simp [lW,U],by simp [eF,U]⟩
    have gn:∀(o:Oper) (g:Option Gs) (s0:St),o.guard=none->cX ops o s0 some=some g->g=none:=by intro o g s0 J M;unfold cX at M;rw [J] at M;simp only [NL] at M;exact M.symm
    have kp:∀(o:Oper) (h0:Id->Option ad) (us:aB),An.oS o.dst o.type=true->iy An true o h0 us=true->mj h0 (aK h0 us):=λo h0 us J U=>by unfold iy at U;rw [J] at U;exact mj.of (by simpa using U)
    rcases hst6 with h6 | h6
    .simp only [pZ,NT] at h6;obtain⟨hlx,hil⟩:=h6;simp only [OA,NT] at hlx;obtain⟨gdj,qj,_⟩:=lq u hil;have gnj:=gn u G s gdj gj';have uj:B= []:=by simpa [qj] using j7
     have ejop:=wj.op;rw [gnj] at ejop;refine⟨?_, ?_,λp F q D=>by rw [uj] at D;cases D⟩
     .rw [gnj];refine(Es hil (hlx.symm.imp id λh=>⟨h.2,kp l s.h C h.1 wi.dH⟩) (λx z k e=> ?_) ?_).2 ejop
      .exact tj k (eH (e▸z))
      .refine xv (λx z=> ?_) j11;have h:=getj x z;rw [gnj] at h;exact h.symm
     .rw [<-wi.op];exact im (λx z k e=>ti _ _ _ k (eH (e▸z))) (.inr (.inr (.inl (by rw [uj];rfl))))
    .simp only [pZ,NT] at h6;obtain⟨hlx,hil⟩:=h6;simp only [OA,NT] at hlx;obtain⟨gdi,qi,_⟩:=lq l hil;have gni:=gn l I s gdi wi.guard;have ui:C= []:=by simpa [qi] using i7
     have eiop:=wi.op;rw [gni] at eiop;have opj:cK P An Or G u s=some (vj,B):=by rw [<-wj.op];exact(im (s:=s) (s':=s.put (dw ops l.dst) l.dst I vi C) (λx z k e=>tj k (eH (e▸z))) (.inr (.inr (.inl (by rw [ui];rfl))))).symm
     refine⟨opj, ?_,λp F=>by rw [ui] at F;cases F⟩;rw [gni];have hk:iy An true u s.h B=true:=by have:=wj.dH;rw [ui] at this;exact this
     exact(Es hil (hlx.symm.imp id λh=>⟨h.2,kp u s.h B h.1 hk⟩) (λx z k e=>ti _ _ _ k (eH (e▸z))) i11).1 eiop
   rcases hst2 with hst1 | hst5
   case inr=>
    have ixq:∀o,tQ P o=true->o.guard=none/\lW P An o=true/\eF P o=false:=λo h=>by
     obtain⟨a,J,⟨t,e,n,U,_⟩ | ⟨t,U⟩⟩:=xl h
     .exact⟨J,by simp [lW,U],by simp [eF,U]⟩
     .exact⟨J,by simp [lW,U],by simp [eF,U]⟩
    have gn:∀(o:Oper) (g:Option Gs) (s0:St),o.guard=none->cX ops o s0 some=some g->g=none:=by intro o g s0 J M;unfold cX at M;rw [J] at M;simp only [NL] at M;exact M.symm
    have stg:∀o,(ix P o true=true\/ix P o false=true)->o.guard=none/\dP An o=false/\dM An o=false:=λo h=>by
     obtain⟨t,a,y,J,U⟩:∃t a y,o.guard=none/\o.op= .store t (.tmp a) y:=by rcases h with h | h <;> exact nX h
     exact⟨J,by simp [dP,U],by simp [dM,U]⟩
    rcases hst5 with h5 | h5
    .have h5':=h5;simp only [jy,NT,OA] at h5';obtain⟨gdi,ri,di⟩:=stg l h5'.1.2;obtain⟨gdj,qj,_⟩:=ixq u h5'.2;have gni:=gn l I s gdi wi.guard;have gnj:=gn u G s gdj gj';have uj:B= []:=by simpa [qj] using j7
     have eiop:=wi.op;have ejop:=wj.op;rw [gni] at eiop;rw [gnj] at ejop;have hget:∀x∈u.op.operands,(s.put (dw ops l.dst) l.dst I vi C).get none x=s.get none x:=λx z=>by have:=getj x z;rwa [gnj] at this
     refine⟨?_, ?_,λp F q D=>by rw [uj] at D;cases D⟩
     .rw [gnj];exact(Ep h5 (Oi Z) (Oi hj) eiop i10 j10 rfl hget hget _).2 ejop
     .rw [<-wi.op];exact im (λx z k e=>ti _ _ _ k (eH (e▸z))) (.inr (.inr (.inl (by rw [uj];rfl))))
    .have h5':=h5;simp only [jy,NT,OA] at h5';obtain⟨gdj,rj,dj⟩:=stg u h5'.1.2;obtain⟨gdi,qi,_⟩:=ixq l h5'.2;have gni:=gn l I s gdi wi.guard;have gnj:=gn u G s gdj gj';have ui:C= []:=by simpa [qi] using i7
     have eiop:=wi.op;rw [gni] at eiop;have opj:cK P An Or G u s=some (vj,B):=by rw [<-wj.op];exact(im (s:=s) (s':=s.put (dw ops l.dst) l.dst I vi C) (λx z k e=>tj k (eH (e▸z))) (.inr (.inr (.inl (by rw [ui];rfl))))).symm
     have geti:∀x∈l.op.operands,(s.put false u.dst G vj B).get none x=s.get none x:=λx z=>lL λk e=>ti _ _ _ k (eH (e▸z));have okj:iZ P An ops u s B=true:=by
      refine yy (λk hk=> ?_) (λk hk x z=> ?_) (λM x z=> ?_) j10
      .rw [pli];exact(og (b:=false) λe=>hk (nK e ops.toList (Array.mem_toList_iff.2 (Oi Z)))).symm
      .have h:=getj x z;rw [gnj] at h;exact h.symm
      .have h:=getj x z;rw [gnj] at h;exact h.symm
     refine⟨opj, ?_,λp F=>by rw [ui] at F;cases F⟩;rw [gni];rw [gnj] at opj;exact(Ep h5 (Oi hj) (Oi Z) opj okj i10 rfl geti (λ_ _=>rfl) _).1 eiop
   have hst1:=hst1;rcases hst1 with hst0 | hst4
   case inr=>
    have both:∀o,(ix P o true=true\/ix P o false=true)->∃t a y,o.guard=none/\o.op= .store t (.tmp a) y:=λo h=>by
     rcases h with h | h
     .exact nX h
     .exact nX h
    have si:(ix P l true=true\/ix P l false=true)/\(ix P u true=true\/ix P u false=true):=by
     rcases hst4 with h | h <;> simp only [jW,NT] at h
     .exact⟨.inl h.1.2, .inr h.2⟩
     .exact⟨.inr h.2, .inl h.1.2⟩
    obtain⟨ti',xi,yi,gdi,opi'⟩:=both l si.1;obtain⟨tj',xj,yj,gdj,opj'⟩:=both u si.2;have hki:ft ops l=some (pM ops xi):=by simp [ft,gdi,opi']
    have hkj:ft ops u=some (pM ops xj):=by simp [ft,gdj,opj']
    obtain⟨gni,ri,di⟩:=guardA l I s _ hki wi.guard;obtain⟨gnj,rj,dj⟩:=guardA u G s _ hkj gj';have eiop:=wi.op;have ejop:=wj.op;rw [gni] at eiop;rw [gnj] at ejop;have hres:(∀p∈C,∀q∈B,p.1≠q.1)/\(∀x∈l.op.operands,∀i∈(s.get none x).ids,∃p∈C,p.1=i)/\(∀x∈u.op.operands,∀i∈((s.put (dw ops l.dst) l.dst I vi C).get none x).ids,∃p∈B,p.1=i):=by
     rcases hst4 with h | h
     .exact Eo h (Oi Z) (Oi hj) eiop ejop i10 j10 (.inl rfl)
     .obtain⟨r1,r2,r3⟩:=Eo h (Oi hj) (Oi Z) ejop eiop j10 i10 (.inr rfl);exact⟨λp F q D e=>r1 q D p F e.symm,r3,r2⟩
    obtain⟨d1,d2,d3⟩:=hres;refine⟨?_, ?_,d1⟩
    .rw [<-wj.op];refine(im (s:=s) (s':=s.put (dw ops l.dst) l.dst I vi C) (λx z k e=>tj k (eH (e▸z))) (.inr (.inr (.inr ⟨rj,dj,λx z id E=> ?_⟩)))).symm;refine de λq D e=> ?_;rw [<-getj x z,gnj] at E;obtain⟨p,F,L⟩:=d3 x z id E;exact d1 q D p F (e.trans L.symm)
    .rw [<-wi.op];refine im (λx z k e=>ti _ _ _ k (eH (e▸z))) (.inr (.inr (.inr ⟨ri,di,λx z id E=> ?_⟩)));refine de λq D e=> ?_;rw [gni] at E;obtain⟨p,F,L⟩:=d2 x z id E;exact d1 p F q D (L.trans e.symm)
   have tk:∀k,k∉fD ops.toList->(s.put (dw ops l.dst) l.dst I vi C).t k=s.t k:=λk dk=>by rw [pli];exact og (b:=false) λe=>dk (nK e ops.toList (Array.mem_toList_iff.2 (Oi Z)))
   have gnone:∀(o:Oper) (g:Option Gs) (s0:St),o.guard=none->cX ops o s0 some=some g->g=none:=by intro o g s0 J M;unfold cX at M;rw [J] at M;simp only [NL] at M;exact M.symm
   rcases hst0 with(hst | hld) | hld
   rotate_left
   ·
    obtain⟨ga,wa,ra,da⟩:=Cv hld;obtain⟨rb',hrb'⟩:∃r,gY ops u=some r:=by rcases qZ hld with⟨k,hk,_⟩ | hk <;> exact⟨_,hk⟩
    obtain⟨gb,wb,rb,db⟩:=Dy (P:=P) (An:=An) (Cw hld) hrb';have gni:=gnone l I s ga wi.guard;have gnj:=gnone u G s gb gj';have Q:jq u B=true:=by simpa [wb] using j5
    have hus:qc ops l C=true:=by simpa [wa] using i8
    have hap2:=Cy hld (Oi Z) (Oi hj) i10 j10 (λk hk=>by rw [tk k hk]);refine⟨?_, ?_, ?_⟩
    .rw [<-wj.op];refine(im (s:=s) (s':=s.put (dw ops l.dst) l.dst I vi C) (λx z k e=>tj k (eH (e▸z))) (.inr (.inr (.inr ⟨rb,db,λx z id E=> ?_⟩)))).symm;refine de λq D e=> ?_;rw [<-getj x z,gnj] at E;exact hap2 x z id E q D e
    .refine sN (s:=s) (s':=s.put false u.dst G vj B) (N:=λi=>∃q∈B,q.1=i) (λx z k e=>ti _ _ _ k (eH (e▸z))) (λi Z=> ?_) da (λx z id E=> ?_) (λk=> ?_) (λp F=> ?_) wi.op
     .exact de λq D e=>Z ⟨q,D,e⟩
     .rintro⟨q,D,e⟩;obtain⟨d,k,K,L⟩:=fj Q ⟨q,D,e⟩;subst K;obtain⟨ed,he,hb,ho⟩:=uk i4 z E hj L;exact notj ed he hb ho
     .rintro⟨q,D,e⟩;obtain⟨d,k',K,L⟩:=fj Q ⟨q,D,e⟩;simp only [Id.s.injEq] at K;have h:=ltd u j1 j9 d L;rw [<-K.1] at h;exact absurd h (QN.2 (OC (by decide) (P7 2000000 _)))
     .rintro⟨q,D,e⟩;obtain⟨d,k',K,L⟩:=fj Q ⟨q,D,rfl⟩;exact notmine l C j u hj notj hus a2' p F d k' L (by rw [<-e,K])
    .intro p F q D e;obtain⟨d,k,K,L⟩:=fj Q ⟨q,D,rfl⟩;exact notmine l C j u hj notj hus a2' p F d k L (by rw [e,K])
   ·
    obtain⟨ga,wa,ra,da⟩:=Cv hld;obtain⟨rb',hrb'⟩:∃r,gY ops l=some r:=by rcases qZ hld with⟨k,hk,_⟩ | hk <;> exact⟨_,hk⟩
    obtain⟨gb,wb,rb,db⟩:=Dy (P:=P) (An:=An) (Cw hld) hrb';have gni:=gnone l I s gb wi.guard;have gnj:=gnone u G s ga gj';have Q:jq l C=true:=by simpa [wb] using i5
    have hus:qc ops u B=true:=by simpa [wa] using j8
    have hap2:=Cy hld (Oi hj) (Oi Z) j10 i10 (λk hk=>by rw [tk k hk]);refine⟨?_, ?_, ?_⟩
    .refine sN (s:=s.put (dw ops l.dst) l.dst I vi C) (s':=s) (N:=λi=>∃q∈C,q.1=i) (λx z k e=>(tj k (eH (e▸z))).symm) (λi Z=> ?_) da (λx z id E=> ?_) (λk=> ?_) (λp F=> ?_) wj.op
     .exact(de λq D e=>Z ⟨q,D,e⟩).symm
     .rw [getj x z] at E;rintro⟨q,D,e⟩;obtain⟨d,k,K,L⟩:=fj Q ⟨q,D,e⟩;subst K;obtain⟨ed,he,hb,ho⟩:=uk nj z E Z L;exact noti ed he hb ho
     .rintro⟨q,D,e⟩;obtain⟨d,k',K,L⟩:=fj Q ⟨q,D,e⟩;simp only [Id.s.injEq] at K;have h:=ltd l i1 i9 d L;rw [<-K.1] at h;exact absurd h (QN.2 (OC (by decide) (P7 2000000 _)))
     .rintro⟨q,D,e⟩;obtain⟨d,k',K,L⟩:=fj Q ⟨q,D,rfl⟩;exact notmine u B i l Z noti hus a2 p F d k' L (by rw [<-e,K])
    .rw [<-wi.op];refine im (λx z k e=>ti _ _ _ k (eH (e▸z))) (.inr (.inr (.inr ⟨rb,db,λx z id E=> ?_⟩)));refine de λq D e=> ?_;rw [gni] at E;exact hap2 x z id E q D e
    .intro p F q D e;obtain⟨d,k,K,L⟩:=fj Q ⟨p,F,rfl⟩;exact notmine u B i l Z noti hus a2 q D d k L (by rw [<-e,K])
   obtain⟨k,k',sk,sk',nek,dk,dk'⟩:=yx hst;obtain⟨gni,ri,di⟩:=guardA l I s k sk wi.guard;obtain⟨gnj,rj,dj⟩:=guardA u G s k' sk' gj';have hst':iY An ops u l=true:=M6 hst;obtain⟨p1,p2,p3⟩:=Et i10 (Oi hj) hst sk sk';obtain⟨q1,q2,q3⟩:=Et j10 (Oi Z) hst' sk' sk;replace tk:=tk k dk;have tk':(s.put (dw ops l.dst) l.dst I vi C).t k'=s.t k':=by rw [pli];exact og (b:=false) λe=>dk' (nK e ops.toList (Array.mem_toList_iff.2 (Oi Z)))
   rw [tk] at q3;rw [tk'] at q2;refine⟨?_, ?_,λp F q D e=>q3 q D (e▸p2 p F)⟩
   .rw [<-wj.op];refine(im (s:=s) (s':=s.put (dw ops l.dst) l.dst I vi C) (λx z k e=>tj k (eH (e▸z))) (.inr (.inr (.inr ⟨rj,dj,λx z id E=> ?_⟩)))).symm;refine de λq D e=> ?_;rw [<-getj x z,gnj] at E;have:=q1 x z id E;rw [tk'] at this;exact p3 q D (e▸this)
   .rw [<-wi.op];refine im (λx z k e=>ti _ _ _ k (eH (e▸z))) (.inr (.inr (.inr ⟨ri,di,λx z id E=> ?_⟩)));refine de λq D e=> ?_;rw [gni] at E;exact q3 q D (e▸p1 x z id E)
 obtain⟨opj,opi,disj⟩:=three;have sj10:iZ P An ops u s B=true:=by
  refine yy (λk hk=> ?_) (λk hk x z=> ?_) (λM x z=> ?_) j10
  .rw [pli];exact(og (b:=false) λe=>hk (nK e ops.toList (Array.mem_toList_iff.2 (Oi Z)))).symm
  .have:=guardB u G s k hk gj';have h:=getj x z;rw [this] at h;exact h.symm
  .have hgn:G=none:=by
    have h:=gj';unfold cX at h;rw [M] at h;simp only [NL] at h;exact h.symm
   have h:=getj x z;rw [hgn] at h;exact h.symm
 have frj:gx (u.dst.getD 0) s.h B=true:=by
  unfold gx at j3⊢;refine N6.2 λp F=> ?_;have:=N6.1 j3 p F;split at this
  .simp only [OA,PT] at this⊢;rcases this with h | h
   .exact .inl h
   .exact .inr (vg h).2
  .rfl
  .cases this
 have lj11:mJ An u s vj=true:=by refine xv (λx z=> ?_) j11;exact(lL λk e=>tj k (eH (e▸z))).symm
 have kj:iy An true u s.h B=true:=by refine(Cm λp F=> ?_).trans wj.dH;show s.h p.1=aK s.h C p.1;rw [de λq D e=>disj q D p F e]
 have wj0:qo P An Or nt ops u s G vj B:=⟨gj',opj,by
  simp only [lT,NR,Om,NT];exact⟨⟨⟨j1,j2⟩,frj⟩,⟨⟨⟨⟨⟨⟨nj,j5⟩,j6⟩,j7⟩,j8⟩,j9⟩,sj10⟩,lj11⟩,kj⟩
 have plj:=xV (g:=G) (v:=vj) (us:=B) hu hj hlj hG (dw ops u.dst);refine⟨_,wj0.eu, ?_⟩;rw [plj];have gi':cX ops l (s.put false u.dst G vj B) some=some I:=by rw [<-wi.guard];exact B5 λx b d J U=>ti _ _ _ d (CF J U)
 have geti:∀x∈l.op.operands,(s.put false u.dst G vj B).get I x=s.get I x:=λx z=>lL λk e=>ti _ _ _ k (eH (e▸z));have ni:mM ops I l (s.put false u.dst G vj B)=true:=by rw [<-i4];exact CT geti
 have fri:gx (l.dst.getD 0) (s.put false u.dst G vj B).h C=true:=by
  unfold gx at i3⊢;refine N6.2 λp F=> ?_;have:=N6.1 i3 p F;split at this
  .rename_i d k ep;simp only [OA,PT] at this⊢;rcases this with h | h
   .exact .inl h
   .right;show aK s.h B p.1=none;rw [de λq D e=>disj p F q D e.symm];exact h
  .rfl
  .cases this
 have si10:iZ P An ops l (s.put false u.dst G vj B) C=true:=by
  refine yy (λk hk=> ?_) (λk hk x z=> ?_) (λM x z=> ?_) i10
  .exact og (b:=false) λe=>hk (nK e ops.toList (Array.mem_toList_iff.2 (Oi hj)))
  .have:=guardB l I s k hk wi.guard;have h:=geti x z;rw [this] at h;exact h
  .have hgn:I=none:=by
    have h:=wi.guard;unfold cX at h;rw [M] at h;simp only [NL] at h;exact h.symm
   have h:=geti x z;rw [hgn] at h;exact h
 have li11:mJ An l (s.put false u.dst G vj B) vi=true:=by refine xv (λx z=> ?_) i11;exact lL λk e=>ti _ _ _ k (eH (e▸z))
 have ki:iy An true l (s.put false u.dst G vj B).h C=true:=by refine(Cm λp F=> ?_).trans wi.dH;show aK s.h B p.1=s.h p.1;rw [de λq D e=>disj p F q D e.symm]
 have wi0:qo P An Or nt ops l (s.put false u.dst G vj B) I vi C:=⟨gi',opi,by
  simp only [lT,NR,Om,NT];exact⟨⟨⟨i1,i2⟩,fri⟩,⟨⟨⟨⟨⟨⟨ni,i5⟩,i6⟩,i7⟩,i8⟩,i9⟩,si10⟩,li11⟩,ki⟩
 rw [wi0.eu,pli];have dij:∀d,l.dst=some d->u.dst≠some d:=a2;have dA:∀(g:Option Gs) (o:Oper) (m:Nat) (om:Oper),ops[m]? =some om->listed.getD m true=false->cX ops o s some=some g->o∈ops->(∀e∈o.after,Region.binds .any e=true->listed.getD e.on false=true)->∀gs,g=some gs->om.dst≠some gs.d:=by
  intro g o m om hom hlm V hmem hall gs hgs hd;unfold cX at V;cases hog:o.guard with
  | none=>rw [hog] at V;simp only [NL] at V;rw [hgs] at V;cases V
  | some p=>
   obtain⟨jj,b⟩:=p;rw [hog] at V;simp only at V;cases hdd:(ops[jj]?).bind (·.dst) with
   | none=>rw [hdd] at V;simp at V
   | some d=>
    rw [hdd] at V;simp only at V;replace V:=NM.1 V;obtain⟨x,_,V⟩:=V;obtain⟨bb,V,_⟩:=nT V;simp only [NL] at V;rw [hgs] at V;simp only [NL] at V;have hgd:gs.d=d:=by rw [<-V]
    rw [hgd] at hd;obtain⟨ojj,J,U⟩:=NM.1 hdd;have:=hu hom J hd U;subst this;have hge:=Oz.1 hgk o hmem;rw [hog] at hge;simp only at hge;obtain⟨e,he,hb⟩:=PY.1 hge;simp only [NT,beq_iff_eq] at hb;exact rY hlm (hb.2▸hall e he hb.1)
 have nogi:=dA I l j u hj hlj wi.guard (Oi Z) hai;have nogj:=dA G u i l Z hli gj' (Oi hj) haj;have nos:∀(m:Nat) (om:Oper),ops[m]? =some om->listed.getD m true=false->∀k g v,s.t k= (some g,v)->om.dst≠some g.d:=by intro m om hom hlm k g v hst hd;obtain⟨x,ox,J,U,h3⟩:=hG k g v hst;have:=hu hom J hd h3;subst this;exact rY hlm U
 have tcomm:∀(bi bj:Bool),((s.put false u.dst G vj B).put bi l.dst I vi C).t= ((s.put false l.dst I vi C).put bj u.dst G vj B).t:=by
  intro bi bj;funext k;cases hdi:l.dst with
  | none=>
   cases hdj:u.dst with
   | none=>rfl
   | some dj=>
    simp only [St.put];by_cases ek:k=dj
    .simp [ek]
    .simp only [if_neg ek,cond_false];cases bj with
     | false=>rfl
     | true=>
      simp only [cond_true];cases hst:s.t k with
      | mk gk vk=>
       cases gk with
       | none=>rfl
       | some gk=>
        have:=nos j u hj hlj k gk vk hst;rw [hdj] at this;have hb:(gk.d==dj)=false:=by simp only [beq_eq_false_iff_ne,ne_eq];exact λe=>this (by rw [e])
        simp [kC,hb]
  | some di=>
   cases hdj:u.dst with
   | none=>
    simp only [St.put];by_cases ek:k=di
    .simp [ek]
    .simp only [if_neg ek,cond_false];cases bi with
     | false=>rfl
     | true=>
      simp only [cond_true];cases hst:s.t k with
      | mk gk vk=>
       cases gk with
       | none=>rfl
       | some gk=>
        have:=nos i l Z hli k gk vk hst;rw [hdi] at this;have hb:(gk.d==di)=false:=by simp only [beq_eq_false_iff_ne,ne_eq];exact λe=>this (by rw [e])
        simp [kC,hb]
   | some dj=>
    have hne':di≠dj:=λe=>dij di hdi (by rw [hdj,e]);simp only [St.put];have drop1:∀(b:Bool) (g:Option Gs) (v:AV) (d:Nat),(∀gs,g=some gs->gs.d≠d)->cond b (kC d (g,v)) (g,v)= (g,v):=by
     intro b g v d M;cases b with
     | false=>rfl
     | true=>
      cases g with
      | none=>rfl
      | some gs=>
       have hb:(gs.d==d)=false:=by simpa using M gs rfl
       simp [kC,hb]
    by_cases eki:k=di
    .subst eki;simp only [if_true,if_neg hne',cond_false];rw [drop1 bj I vi dj λgs e h=>nogi gs e (by rw [hdj,h])]
    .by_cases ekj:k=dj
     .subst ekj;simp only [if_true,if_neg eki,cond_false];rw [drop1 bi G vj di λgs e h=>nogj gs e (by rw [hdi,h])]
     .simp only [if_neg eki,if_neg ekj,cond_false];cases hst:s.t k with
      | mk gk vk=>rw [drop1 bi gk vk di λgs e h=>by subst e;exact nos i l Z hli k gs vk hst (by rw [hdi,h]),drop1 bj gk vk dj λgs e h=>by subst e;exact nos j u hj hlj k gs vk hst (by rw [hdj,h])]
 have:∀(bi bj:Bool),(s.put false u.dst G vj B).put bi l.dst I vi C= (s.put false l.dst I vi C).put bj u.dst G vj B:=by
  intro bi bj;have ht:=tcomm bi bj;have hh:((s.put false u.dst G vj B).put bi l.dst I vi C).h= ((s.put false l.dst I vi C).put bj u.dst G vj B).h:=by show aK (aK s.h B) C=aK (aK s.h C) B;exact(NC disj).symm
  generalize (s.put false u.dst G vj B).put bi l.dst I vi C=X at *
  generalize (s.put false l.dst I vi C).put bj u.dst G vj B=Y at *
  cases X;cases Y;simp only at ht hh;rw [ht,hh]
 rw [this]
theorem IJ{o:Oper}{l:Gs}{f:Array Bool}(v:pr ops=true)(a:cX ops o s some=some (some l))(r:o∈ops)(m:∀e∈o.after,Region.binds .any e=true->f.getD e.on false=true):
  ∃i y,ops[i]? =some y/\f.getD i false=true/\y.dst=some l.d:=by
 unfold cX at a;cases k:o.guard with
 | none=>rw [k] at a;simp at a
 | some p=>
  obtain⟨jj,b⟩:=p;rw [k] at a;simp only at a;cases g:(ops[jj]?).bind (·.dst) with
  | none=>rw [g] at a;simp at a
  | some d=>
   rw [g] at a;simp only at a;replace a:=NM.1 a;obtain⟨x,_,a⟩:=a;obtain⟨bb,a,_⟩:=nT a;simp only [NL] at a;have u:l.d=d:=by rw [<-a]
   obtain⟨z,B,C⟩:=NM.1 g;have j:=Oz.1 v o r;rw [k] at j;simp only at j;obtain⟨e,D,q⟩:=PY.1 j;simp only [NT,beq_iff_eq] at q;exact⟨jj,z,B,q.2▸m e D q.1,by rw [u];exact C⟩
theorem B2{a:Array Bool}{i:Nat}{r:Oper}(J:oL ops)(D:pr ops=true)(q:ops[i]? =some r)(F:i∈Region.ready .any ops a)(z:oC ops a s)(e:eu P An Or true nt ops r s=some s1):
  oC ops (a.setIfInBounds i true) s1:=by
 obtain⟨g,v,us,K,rfl⟩:=xK e;obtain⟨E,L,f,B⟩:=mem_ready.1 F;rw [q] at f;simp only [NL] at f;subst f;rw [xV J q E z];have j:∀k g v,s.t k= (some g,v)->∃i' o,ops[i']? =some o/\(a.setIfInBounds i true).getD i' false=true/\o.dst=some g.d:=by intro k g v G;obtain⟨x,u,l,m,p⟩:=z k g v G;exact⟨x,u,l,getD_set_true m,p⟩
 intro k y I b;unfold St.put at b;cases C:r.dst with
 | none=>rw [C] at b;exact j k y I b
 | some d=>
  rw [C] at b;dsimp only at b;split at b
  .simp only [Ow] at b;obtain⟨x,u,l,m,p⟩:=IJ D (by rw [<-b.1];exact K.guard) (Oi q) B;exact⟨x,u,l,getD_set_true m,p⟩
  .exact j k y I b
def qq(P:Program)(An:cC)(Or:aq)(nt:Nat)(ops:Array Oper)(Q:St->Prop):Nat->Array Bool->St->Prop
 | 0,a,s=>Region.ready .any ops a= []/\Q s
 | n+1,a,s=>(Region.ready .any ops a= []->Q s)/\∀i∈Region.ready .any ops a,∃o s1,ops[i]? =some o/\eu P An Or true nt ops o s=some s1/\qq P An Or nt ops Q n (a.setIfInBounds i true) s1
theorem Fy{n j i:Nat}{b:Oper}(g:ops[j]? =some b)(h:fU ops (n+1) j i=false):∀e∈b.after,Region.binds .any e=true->e.on≠i:=by intro e f d a;simp only [fU,g] at h;rw [Array.any_eq_false'] at h;exact h e f (by simp [d,a])
theorem zp{a:Array Bool}{j:Nat}(i:oA ops a)(p:j∈Region.ready .any ops a):oA ops (a.setIfInBounds j true):=by
 intro k ok m hl e l g;obtain⟨q,r,b,f⟩:=mem_ready.1 p;refine getD_set_true ?_;by_cases d:j=k
 .subst d;rw [m] at b;simp only [NL] at b;subst b;exact f e l g
 .have o:a.getD k false=true:=by
   rw [O8,Qn d] at hl;rw [O8];exact hl
  exact i k ok m o e l g
theorem E9{Q:St->Prop}{i:Nat}{d:Oper}(K:oL ops)(v:pr ops=true)(C:ops[i]? =some d):∀(iO:Nat) (a:Array Bool) (s s1:St),
  (∀j o,ops[j]? =some o->j≠i->a.getD j true=false->fU ops 12 j i=false->d.apart ops o=true/\(oT P An d o=true\/pY P An ops d o=true))->oA ops a->
  i∈Region.ready .any ops a->oC ops a s->eu P An Or true nt ops d s=some s1->qq P An Or nt ops Q iO (a.setIfInBounds i true) s1->qq P An Or nt ops Q (iO+1) a s:=by
 intro iO;induction iO with
 | zero=>
  intro a s s1 _ _ g z e H;refine⟨λh=>(by rw [h] at g;cases g),λj l=> ?_⟩;by_cases b:j=i
  .subst b;exact⟨d,s1,C,e,H⟩
  .have:=ready_mono l b;rw [H.1] at this;cases this
 | succ iO X=>
  intro a s s1 p q g z e H;refine⟨λh=>(by rw [h] at g;cases g),λj l=> ?_⟩;by_cases b:j=i
  .subst b;exact⟨d,s1,C,e,H⟩
  .obtain⟨o,s2,f,N,M⟩:=H.2 j (ready_mono l b);obtain⟨u,Y,m,B⟩:=mem_ready.1 l;rw [f] at m;simp only [NL] at m;subst m;have D:fU ops 12 j i=false:=vG q (mem_ready.1 g).1 f B;obtain⟨F,G⟩:=p j o f b u D;obtain⟨L,E,U⟩:=swap K v C f b g l q F G z e N;refine⟨o,L,f,E, ?_⟩
   have r:∀k ok,ops[k]? =some ok->k≠i->(a.setIfInBounds j true).getD k true=false->
     fU ops 12 k i=false->d.apart ops ok=true/\(oT P An d ok=true\/pY P An ops d ok=true):=λk ok V I y J=>by
    refine p k ok V I ?_ J;by_cases x:j=k
    .subst x;exact u
    .rw [getD_set_ne true x] at y;exact y
   refine X (a.setIfInBounds j true) L s2 r (zp q l) (ready_mono g (Qm b)) (B2 K v f l z E) U ?_;rw [Array.setIfInBounds_comm _ _ b];exact M
theorem IB{i:Nat}{b:Oper}{a:Array Bool}(m:ops[i]? =some b)(h:w7 P An ops a i=true)(j:Nat)(d:Oper)(f:ops[j]? =some d)(g:j≠i)(l:a.getD j true=false)
  (k:fU ops 12 j i=false):oT P An b d=true\/pY P An ops b d=true:=by
 simp only [w7,m,N6,Qx] at h;have e:=h j (Qa.1 f).1;simp only [f,OA,beq_iff_eq,g,false_or,l,Od,k,or_false] at e;exact e
theorem yU{Q:St->Prop}(u:oL ops)(b:pr ops=true):∀(l:List Oper) (k:Nat) (a:Array Bool) (s:St),(∀j,l[j]? =ops[k+j]?)->Region.lexFrom .any ops l.length k a=true->tZ P An ops l.length k a=true->oA ops a->oC ops a s->
  gZ P An Or true nt ops l s=some s'->Q s'->qq P An Or nt ops Q l.length a s
 | [],k,a,s,_,e,_,_,_,h,q=>by simp only [gZ,NL] at h;subst h;exact⟨by simpa [Region.lexFrom] using e,q⟩
 | o::l,k,a,s,hl,e,p,f,y,h,q=>by
  simp only [gZ] at h;obtain⟨s1,v,h⟩:=NM.1 h;have h0:ops[k]? =some o:=by simpa using (hl 0).symm
  simp only [NV,Region.lexFrom,NT] at e;obtain⟨⟨C,B⟩,x⟩:=e;simp only [NV,tZ,NT] at p;have d:k∈Region.ready .any ops a:=by simpa using C
  exact E9 u b h0 l.length a s s1 (λj z r g m i=>⟨Region.free_spec h0 B j z r g m (Fy r i),IB h0 p.1 j z r g m i⟩) f d y v
   (yU u b l (k+1) _ s1 (λj=>by have:=hl (j+1);simpa [PO,Nat.add_comm 1 j] using this) x p.2 (zp f d) (B2 u b h0 d y v) h q)
theorem yW(u:il P An Or){Q:Exit->Act->World->Prop}{s':St}:∀{iO:Nat} {b:Array Bool} {w:World} {s:St} {ρ:Id->Option Value} {O:Id->Option Nat} {a:Act},
  dV c nt w s ρ O a->me ops s->qq P An Or nt ops (· =s') iO b s->(∀k w' ρ' O',Le w ρ O w' ρ' O'->dV c nt w' s' ρ' O' k->Q .normal k w')->wpAny P .any ops Q iO b a w
 | 0,b,w,s,ρ,O,a,d,j,h,f=>⟨h.1,f a w ρ O Le.refl (h.2▸d)⟩
 | iO+1,b,w,s,ρ,O,a,d,j,h,f=>by refine⟨λz=>f a w ρ O Le.refl (h.1 z▸d),λi y=> ?_⟩;obtain⟨o,s1,ho,e,H⟩:=h.2 i y;obtain⟨l,step⟩:=C4 u d j (Oi ho) e;unfold wpOp;rw [ho];exact step _ Q λk w' ρ' O' le m=>yW u m l H λr x p q v g=>f r x p q (le.trans v) g
theorem K2{R:Type}{id:Nat}{f:Bool}{a:Act}{K:St->Option R}{r:R}(hm:P.follows .mixedOrders=true)(C:il P An Or)(l:dV c nt w s ρ O a)(p:mc s)(e:region P An Or nt f ops s K=some r):
  ∃s':St,K s'.clear=some r/\∀Q:Exit->Act->World->Prop,(∀q w' ρ' O',Le w ρ O w' ρ' O'->dV c nt w' s'.clear ρ' O' q->Q .normal q w')->(Code.region id ops f).wp P Q a w:=by
 unfold region at e;cases m:xW P An f ops with
 | false=>simp [m] at e
 | true=>
  rw [m,cond_true,x7] at e;replace e:=NM.1 e;obtain⟨s',e,F⟩:=e;refine⟨s',F,λQ D=> ?_⟩;cases f with
  | false=>exact K1 C l p e D
  | true=>simp only [xW,NR,Om,NT] at m;obtain⟨⟨⟨B,G⟩,I⟩,E⟩:=m;simp only [Region.lexB,NT] at B;have M:oL ops:=λ{i j x y d} J L N U=>zI I (by simpa using J) (by simpa using L) N U;have o:Le w ρ O w.drew ρ O:=⟨rfl,rfl,rfl,Oh _,λ_ _ h=>h,λ_ _ _=>rfl,λi b h=> .inl ⟨i,h⟩⟩;have z:dV c nt w.drew s ρ O a:=⟨l.hs.world o λ_ _ _=>rfl,SS.mono (λb p=>o.A b p) o.dQ l.ss,l.nt,l.defers⟩;refine wp_region_any hm ?_;have:=yU (P:=P) (An:=An) (Or:=Or) (nt:=nt) (Q:=(· =s')) M E ops.toList 0 (Array.replicate ops.size false) s (by simp) (by simpa using B.2) (by simpa using G) (λk ok F hl=>by simp [O8,Array.getElem?_replicate] at hl;split at hl <;> simp at hl) (λk g v h=>(p k g v h).elim) e rfl;simp only [Oe] at this;exact yW C z (p.B8 ops) this λq w' ρ' O' le u=>D q w' ρ' O' (o.trans le) u.clear
end
open Go Go.IntKind
section
variable {P:Program} {An:cC} {Or:aq} {w w':World} {A A':Nat->Prop} {c:Ctx} {ρ:Id->Option Value} {O:Id->Option Nat} {s s':St} {h:Id->Option ad}
def Ends(P:Program)(f:FuncId)(fn:Func)(todo:List Item)(a:Act)(w:World)(R:Value->World->Prop):Prop:=
 ∀(b:Frame),b.fn=f->b.kind= .normal->∀cs,∃d w' v todo',Steps P (lone (b.at a todo) cs w) (lone {b.at d todo' with mode:= .returning} cs w')/\
  d.defers= []/\(results fn d.tmps).run P w'= .ok v w'/\R v w'
theorem Ends.mono{f:FuncId}{fn:Func}{todo:List Item}{a:Act}{R d:Value->World->Prop}(h:Ends P f fn todo a w R)(o:∀v w',R v w'->d v w'):Ends P f fn todo a w d:=
 λb l m cs=>let⟨e,w',v,t,g,i,j,k⟩:=h b l m cs;⟨e,w',v,t,g,i,j,o _ _ k⟩
theorem Ends.step{f:FuncId}{fn:Func}{todo todo':List Item}{a:Act}{R:Value->World->Prop}(d:∀(b:Frame) cs,step P (lone (b.at a todo) cs w)= .next (lone (b.at a todo') cs w))(h:Ends P f fn todo' a w R):Ends P f fn todo a w R:=
 λb j k cs=>let⟨e,w',v,t,g,i⟩:=h b j k cs;⟨e,w',v,t, .head (d b cs) g,i⟩
theorem Ends.region{f:FuncId}{fn:Func}{id:Nat}{ops:Array Oper}{d:Bool}{k:List Item}{a:Act}{R:Value->World->Prop}
  (h:(Code.region id ops d).wp P (λe g w'=>e= .normal/\Ends P f fn k g w' R) a w):Ends P f fn (.code (.region id ops d)::k) a w R:=by
 intro b o p cs;obtain⟨e,j,r,⟨rfl,q⟩,i⟩:=h b k cs;obtain⟨g,w',v,t,l,m⟩:=q b o p cs;exact⟨g,w',v,t,Steps.trans i l,m⟩
theorem FQ{f:FuncId}{fn:Func}{a:Code}{args:Array Value}{R:Value->World->Prop}(g:P.funcs[f]? =some fn)(j:fn.body=some a)
  (h:Ends P f fn [.code a] {tmps:=args++Array.replicate (fn.ntmps - args.size) undef,defers:= []} w R):Calls P f args w λe w'=>∃v,e= .returned v/\R v w':=by
 intro cs;let b:Frame:={(default:Frame) with fn:=f,kind:= .normal};have d:Frame.enter P f args .normal=b.at {tmps:=args++Array.replicate (fn.ntmps - args.size) undef,defers:= []} [.code a]:=by simp [Frame.enter,Frame.at,g,j,b]
 obtain⟨m,w',v,todo',hs,k,l,i⟩:=h b rfl rfl cs;rw [<-d] at hs;exact⟨.returned v,w',_,⟨v,rfl,i⟩,hs,rfl,rfl,k,rfl,fn,g,l⟩
structure Fin (P:Program) (c:Ctx) (B:Nat->Option Value) (sh:List ch) (outs:List iC) (xs:List T) (Own:Nat->Prop) (w:World) (v:Value) (w':World):Prop where
 os:w'.os=w.os
 output:w'.output=w.output
 tape:w'.tape=w.tape
 size:w.heap.size<=w'.heap.size
 af:∀b,b < w.heap.size->¬Own b->w'.heap[b]? =w.heap[b]?
 res:∃rs x1 x2 o1 o2,v=mW rs/\xs=x1++x2/\(o1++o2).Nodup/\(∀b∈o1++o2,c.MO b/\b < w'.heap.size)/\dz B w' (λb=>(c.A0 b\/c.MO b)/\b < w'.heap.size/\b∉o1++o2) sh x1 rs o1/\
  mn B w' (λb=>(c.A0 b\/c.MO b)/\b < w'.heap.size/\b∉o1++o2) 0 outs x2 o2
theorem Fin.le{B:Nat->Option Value}{sh:List ch}{os:List iC}{xs:List T}{v:Value}{w'':World}{ρ':Id->Option Value}{O':Id->Option Nat}(le:Le w ρ O w' ρ' O')(h:Fin P c B sh os xs (eT O') w' v w''):Fin P c B sh os xs (eT O) w v w'' where
 os:=h.os.trans le.os
 output:=h.output.trans le.output
 tape:=h.tape.trans le.tape
 size:=OC le.size h.size
 af b hb hn:=by
  rw [h.af b (OM hb le.size) (λ⟨i,hi⟩=> ?_),le.af b hb (λi hi=>hn ⟨i,hi⟩)];rcases le.own i b hi with⟨j,hj⟩ | hj
  .exact hn ⟨j,hj⟩
  .omega
 res:=h.res
theorem Fin.own{B:Nat->Option Value}{d:List ch}{os:List iC}{xs:List T}{v:Value}{a:World}{O':Id->Option Nat}(f:∀b,eT O' b->eT O b)(h:Fin P c B d os xs (eT O') w v a):Fin P c B d os xs (eT O) w v a:=
 {h with af:=λb e g=>h.af b e λho=>g (f b ho)}
theorem CI:∀{l:List Id},uu l=true->l.Nodup
 | [],_=>Qg
 | i::r,h=>by
  simp only [uu,NT,OF] at h;refine OU.2 ⟨λhm=> ?_,CI h.2⟩;have:r.contains i=true:=by simpa using hm
  rw [this] at h;cases h.1
def jE(O:Id->Option Nat)(l:List Id):List Nat:=l.filterMap O
theorem zj(hs:HS c w h ρ O):∀{l:List Id},l.Nodup->(jE O l).Nodup
 | [],_=>Qg
 | i::l,m=>by
  obtain⟨f,g⟩:=OU.1 m;have d:=zj hs g;unfold jE at *
  cases a:O i with
  | none=>rw [List.filterMap_cons_none a];exact d
  | some b=>rw [List.filterMap_cons_some a];refine OU.2 ⟨λhm=> ?_,d⟩;obtain⟨j,k,e⟩:=Qf.1 hm;have:=hs.inj i j b a e;exact f (this▸k)
theorem Fx(a b:List Id):jE O (a++b)=jE O a++jE O b:=by simp [jE]
def eS(O:Id->Option Nat)(l:List Id)(own:List Nat):Prop:=(∀i∈l,i.real=true)/\∃ids,own=jE O ids/\(l.Nodup->ids.Nodup)/\∀x∈ids,Of l x
theorem eS.nil:eS O [] []:=⟨by simp,[],rfl,λh=>h,by simp⟩
theorem eS.one{i:Id}(a:i.real=true):eS O [i] (O i).toList:=by refine⟨by simpa using a,[i], ?_,λh=>h,λx b=> .inl b⟩;cases h:O i <;> simp [jE,h]
theorem eS.append{a b:List Id}{o1 o2:List Nat}(v:eS O a o1)(z:eS O b o2):eS O (a++b) (o1++o2):=by
 obtain⟨r1,G,rfl,J,q⟩:=v;obtain⟨u,I,rfl,K,r⟩:=z;refine⟨λi f=> ?_,G++I,(Fx _ _).symm,λB=> ?_,λx d=> ?_⟩
 .rcases N4.1 f with f | f
  .exact r1 i f
  .exact u i f
 .obtain⟨E,F,p⟩:=Pf.1 B;refine Pf.2 ⟨J E,K F,λx d y C e=> ?_⟩;subst e;rcases q x d with l | ⟨j,n,l,o⟩ <;> rcases r x C with m | ⟨D,L,m,k⟩
  .exact p x l x m rfl
  .have:=r1 x l;rw [k] at this;cases this
  .have:=u x m;rw [o] at this;cases this
  .rw [o] at k;simp only [Id.g.injEq] at k;exact p j l D m k.1
 .rcases N4.1 d with d | d
  .rcases q x d with g | ⟨j,n,g,e⟩
   .exact .inl (N3 _ g)
   .exact .inr ⟨j,n,N3 _ g,e⟩
  .rcases r x d with g | ⟨j,n,g,e⟩
   .exact .inl (N1 _ g)
   .exact .inr ⟨j,n,N1 _ g,e⟩
theorem eS.mem{l:List Id}{own:List Nat}(h:eS O l own){b:Nat}(a:b∈own):∃i,Of l i/\O i=some b:=by obtain⟨_,ids,rfl,_,m⟩:=h;obtain⟨i,d,e⟩:=Qf.1 a;exact⟨i,m i d,e⟩
def kR:Nat->List Row->List Row
 | _,[]=> []
 | n,e::r=>{e with n:=n}::kR (n+1) r
theorem rK:∀(es:List Row) (n:Nat),(kR n es).length=es.length
 | [],_=>rfl
 | e::r,n=>by simp [kR,rK r]
theorem uG:∀(es:List Row) (n:Nat),(kR n es).map (·.n)=List.range' n es.length
 | [],_=>rfl
 | e::r,n=>by simp [kR,uG r,P5]
theorem zA:∀{es:List Row} {n:Nat},bc es=true->nI n (es.map λe=> [.ptr e.cs,pQ e])=some (kR n es)
 | [],_,_=>rfl
 | e::r,n,h=>by
  simp only [bc,O6,NT] at h;have b:=zA (es:=r) (n:=n+1) h.2;obtain⟨en,a,eo⟩:=e;cases eo with
  | none=>simp at h
  | some p=>show((nI (n+1) (r.map λe=> [.ptr e.cs,pQ e])).bind λl=>some (⟨n,a,some (p.1,p.2)⟩::l))=_;rw [b];rfl
theorem Du{A A':Nat->Prop}{d:Id->Option Value}{a:Id->Option Nat}{i:Id}{af sz col rsz:Nat}(l:∀b,A b->A' b):∀{es:List Row} {k base:Nat},(∀j e,es[j]? =some e->d (.g i (k+j))=ρ (.g i e.n)/\a (.g i (k+j))=O (.g i e.n))->
  cv w A ρ O i af sz col rsz base es->cv w A' d a i af sz col rsz base (kR k es)
 | [],_,_,_,_=>trivial
 | e::r,k,base,m,h=>by
  obtain⟨h0,D⟩:=h;obtain⟨B,C⟩:=m 0 e rfl;refine⟨?_,Du l (k:=k+1) (λj f F=>by
   have:=m (j+1) f (by simpa using F);rw [show k+1+j=k+ (j+1) by omega];exact this) D⟩
  have h0:=h0.move (A':=A') (w':=w) (ρ':=ρ) (O':=O) (λ_ _=>rfl) (λb E=>⟨l b E,rfl⟩) rfl rfl (λ_ _=>rfl);obtain⟨o,q,v,u,x,y,z⟩:=h0;refine⟨o,q,v,u,x,by rw [<-y];exact B, ?_⟩;revert z;show(match e.own with | some p=>cJ w A' rsz p.1 p.2 u (λb=>O (.g i e.n)=some b) | none=>O (.g i e.n)=none)->(match e.own with | some p=>cJ w A' rsz p.1 p.2 u (λb=>a (.g i k)=some b) | none=>a (.g i k)=none);rw [show a (.g i k)=O (.g i e.n) from C];exact id
def oE(w:World)(c:Ctx)(O:Id->Option Nat)(b:List Id)(Q:(Nat->Prop)->Prop):Prop:=
 ∀A:Nat->Prop,(∀k,AA c w O k->A k)->(∀i af,i∈b->i.real=true->O i=some af->A af)->Q A
def gP(m:Nat)(B:Nat->Option Value)(ρ:Id->Option Value):Prop:= ∀j,j < m->∃v,B j=some v/\ρ (.c j)=some v
theorem Bs{B:Nat->Option Value}{i:Id}{b:Bool}{sz col rsz nx:Nat}{es:List Row}{u:Value}{l:List Id}(hs:HS c w h ρ O)(U:h i=some (.rows b sz col rsz nx es))(hv:ρ i=some u)(N:bc es=true):
  eS O [i] (jE O (i::es.map λe=> .g i e.n))/\oE w c O l λA=>iG B w A (.rows sz col rsz) (bg b es) u (jE O (i::es.map λe=> .g i e.n)):=by
 have o:=hs.real (i:=i) (by rw [U];simp);obtain⟨a,cap,r1,r2,r3,⟨Z,n2,n3,n4⟩,K⟩:=hs.af i _ U;have X:(i::es.map λe=>Id.g i e.n).Nodup:=by
  refine OU.2 ⟨λhm=> ?_, ?_⟩
  .obtain⟨e,_,G⟩:=Ou.1 hm;rw [<-G] at o;cases o
  .have:(es.map λe=>Id.g i e.n)= (es.map (·.n)).map (Id.g i):=by rw [List.map_map];rfl
   rw [this];exact List.pairwise_map.2 (Z.imp λh e=>h (by simpa using e))
 refine⟨⟨by simpa using o,_,rfl,λ_=>X,λx m=> ?_⟩,λA hA _=> ?_⟩
 .rcases N2.1 m with rfl | m
  .exact .inl NN
  .obtain⟨e,_,rfl⟩:=Ou.1 m;exact .inr ⟨i,e.n,NN,rfl⟩
 .let V:Id->Option Value:=λx=>match x with
   | .g y k=>if y=i then(es[k]?).bind λe=>ρ (.g i e.n) else none
   | x=>if x=i then ρ i else none
  let Q:Id->Option Nat:=λx=>match x with
   | .g y k=>if y=i then(es[k]?).bind λe=>O (.g i e.n) else none
   | x=>if x=i then O i else none
  have M:V i=ρ i:=by
   cases i with
   | g y n=>cases o
   | _=>simp only [V,if_true]
  have L:Q i=O i:=by
   cases i with
   | g y n=>cases o
   | _=>simp only [Q,if_true]
  have D:∀k,V (.g i k)= (es[k]?).bind λe=>ρ (.g i e.n):=λk=>by simp only [V,if_true]
  have C:∀k,Q (.g i k)= (es[k]?).bind λe=>O (.g i e.n):=λk=>by simp only [Q,if_true]
  have r:∀x d,Q x=some d->(x=i/\O i=some d)\/∃k e,x= .g i k/\es[k]? =some e/\O (.g i e.n)=some d:=by
   intro x d m;cases x with
   | g y k=>
    simp only [Q] at m;split at m
    .rename_i e;subst e;obtain⟨e,E,F⟩:=NM.1 m;exact .inr ⟨k,e,rfl,E,F⟩
    .cases m
   | s y k=>
    simp only [Q] at m;split at m
    .rename_i e;exact .inl ⟨e,m⟩
    .cases m
   | c k=>
    simp only [Q] at m;split at m
    .rename_i e;exact .inl ⟨e,m⟩
    .cases m
  refine⟨b,kR 0 es,i,V,Q, ?_,⟨a,cap,by rw [M,rK];exact r1,by rw [rK];exact r2,r3,⟨?_,λf I=> ?_,λk p=> ?_,λk d p=> ?_⟩, ?_⟩,by rw [M];exact hv,o,λx y d m hy=> ?_,λk v p=> ?_,λx d m=> ?_,λd=> ?_⟩
  .simp only [bg,aP,zA N,NO]
  .rw [uG];exact List.nodup_range'
  .have:f.n∈(kR 0 es).map (·.n):=Ou.2 ⟨f,I,rfl⟩;rw [uG,List.mem_range'_1] at this;rw [rK];omega
  .rw [rK] at p;rw [D,Pv p];rfl
  .rw [C] at p;obtain⟨e,E,_⟩:=NM.1 p;have hlt:=(NQ.1 E).1;have:k∈(kR 0 es).map (·.n):=by rw [uG,List.mem_range'_1];omega
   obtain⟨f,I,e2⟩:=Ou.1 this;exact⟨f,I,e2⟩
  .rcases K with K | ⟨af,off,arr,t,q1,q2,q3,q4,q5⟩
   .exact .inl K
   .refine .inr ⟨af,off,arr,t,q1,by rw [L];exact q2,q3,q4,Du hA (λj e hj=> ?_) q5⟩;rw [Ov,D,C,hj];exact⟨rfl,rfl⟩
  .rcases r x d m with⟨rfl,q⟩ | ⟨k,e,rfl,q,z⟩ <;> rcases r y d hy with⟨rfl,J⟩ | ⟨k',e',rfl,J,Y⟩
   .rfl
   .have:=hs.inj _ _ d q Y;rw [this] at o;cases o
   .have:=hs.inj _ _ d J z;rw [this] at o;cases o
   .have:=hs.inj _ _ d z Y;simp only [Id.g.injEq,true_and] at this;rw [ry Z q J this]
  .rw [D] at p;obtain⟨e,_,F⟩:=NM.1 p;exact hs.gone i e.n v F
  .rcases r x d m with⟨rfl,_⟩ | ⟨k,_,rfl,_⟩
   .exact .inl rfl
   .exact .inr ⟨k,rfl⟩
  .simp only [jE,Qf,N2,Ou];constructor
   .rintro⟨x,rfl | ⟨e,G,rfl⟩,m⟩
    .exact⟨x,by rw [L];exact m⟩
    .obtain⟨k,p⟩:=PB G;exact⟨.g i k,by rw [C,p];exact m⟩
   .rintro⟨x,m⟩;rcases r x d m with⟨rfl,q⟩ | ⟨k,e,rfl,q,z⟩
    .exact⟨x, .inl rfl,q⟩
    .exact⟨.g i e.n, .inr ⟨e,NU q,rfl⟩,z⟩
theorem Br{R:Type}{m:Nat}{B:Nat->Option Value}{r:ch}{v:AV}{u:Value}{K:T->List Id->List Id->Option R}{res:R}(hB:gP m B ρ)(hs:HS c w h ρ O)(g:aj w (AA c w O) ρ v u)(d:iu m h r v K=some res):
  ∃x a b ob,K x a b=some res/\eS O a ob/\oE w c O b λA=>iG B w A r x u ob:=by
 cases r with
 | f k=>simp only [iu] at d;replace d:=NM.1 d;obtain⟨x,V,d⟩:=d;replace d:=aO d (.inl rfl);obtain⟨y,hy,d⟩:=d;rw [AV.jX V] at g;simp only [aj] at g;exact⟨_,_,_,[],d, .nil,λA z C=>⟨hy,g.flat hy,rfl⟩⟩
 | t k=>simp only [iu] at d;replace d:=NM.1 d;obtain⟨x,V,d⟩:=d;refine⟨_,_,_,[],d, .nil,λA z C=>⟨kW hs g V z (λi af q ho=> ?_),rfl⟩⟩;obtain⟨p,D,e⟩:=tI hs V q ho;refine C i af (Ou.2 ⟨p,D,e⟩) ?_ ho;rw [<-e];refine hs.real λe0=> ?_;have I:=qM (h:=h) v p D;rw [e0] at I;rcases I with⟨sz,b,l,_,I⟩ | ⟨l,_,I⟩ <;> simp at I
 | own sz=>
  simp only [iu] at d;split at d
  .rename_i i;replace d:=NM.1 d;obtain⟨p,D,d⟩:=d;simp only [Da] at D;split at D
   .rename_i sz' b xs q;split at D
    .rename_i hsz;subst hsz;simp only [NL] at D;subst D;refine⟨_,_,_,(O i).toList,d, .one (hs.real (by rw [q];simp)),λA z C=> ?_⟩;obtain⟨v',G,g2,_⟩:=hs.af i _ q;simp only [aj] at g;rw [G] at g;simp only [NL] at g;subst g;exact⟨O i,(b,xs),rfl,by simp [T.ak],g2.mono (λb J=>⟨z b J,rfl⟩) (λb J=>⟨by simpa using J,rfl⟩)⟩
    .simp at D
   .simp at D
  .rename_i i sz1 n;split at d
   .rename_i sz2 b xs q;split at d
    .rename_i j;obtain⟨rfl,rfl⟩:=j;refine⟨_,_,_,(O i).toList,d, .one (hs.real (by rw [q];simp)),λA z C=> ?_⟩;obtain⟨v',G,⟨a,cap,rfl,f2,f3,_,f4⟩,_⟩:=hs.af i _ q;simp only [aj] at g;obtain⟨a1,L,cap1,Y,F,U,e3,rfl,e4⟩:=g;rw [G] at F;simp only [NL,OO] at F;obtain⟨rfl,rfl,rfl⟩:=F;have M:(xs.take n).length=n:=by rw [OG];omega
     have ha:Y=none↔a=none:=by
      rcases e4 with⟨_,rfl⟩ | ⟨_,h,_⟩ | ⟨_,_,rfl,rfl⟩
      .exact P4
      .exact h
      .simp
     refine⟨O i,(b,xs.take n),rfl,by simp [T.ak],Y,cap,by rw [M];rfl,by rw [M];omega,by rw [ha];exact f3,trivial, ?_⟩
     .rcases f4 with f4 | ⟨af,off,Z,t',q1,q2,q3,q4,q5⟩
      .exact .inl f4
      .by_cases X:cap=0
       .exact .inl X
       .right;subst q1;have:Y=some ⟨af,off,none⟩:=by
         rcases e4 with⟨_,rfl⟩ | ⟨h,_⟩ | ⟨b',o,e5,rfl⟩
         .rfl
         .exact absurd h.symm X
         .simp only [NL,OK] at e5;obtain⟨rfl,rfl,_⟩:=e5;simp
        exact⟨af,off,Z,t',this,by simpa using q2,q3,q4,(bf.lQ (λb J=>⟨z b J,rfl⟩) af _ rfl off xs q5).take n⟩
    .simp at d
   .simp at d
  .rename_i b;simp only [aj,ay] at g;refine⟨_,_,_,[],d, .nil,λA z C=>⟨none,(b,[]),rfl,by simp [T.ak], ?_⟩⟩;rcases g with⟨rfl,rfl⟩ | ⟨rfl,af,off,sp,rfl⟩
   .exact⟨none,0,rfl,by simp,by simp,trivial, .inl rfl⟩
   .exact⟨some ⟨af,off,sp⟩,0,rfl,by simp,by simp,trivial, .inl rfl⟩
  .simp only [aj,ay] at g;refine⟨_,_,_,[],d, .nil,λA z C=>⟨none,(true,[]),rfl,by simp [T.ak], ?_⟩⟩;rcases g with⟨_,_,rfl⟩ | ⟨h,_⟩
   .exact⟨none,0,rfl,by simp,by simp,trivial, .inl rfl⟩
   .cases h
  .simp at d
 | ref k off=>
  simp only [iu] at d;split at d
  .rename_i k' off';split at d
   .rename_i j;obtain⟨rfl,rfl,N⟩:=j;refine⟨_,_,_,[],d, .nil,λA z C=>⟨?_,rfl⟩⟩;simp only [aj] at g;obtain⟨b,F,rfl⟩:=g;obtain⟨v,U,e3⟩:=hB _ N;rw [F] at e3;simp only [NL] at e3;subst e3;exact⟨b,U,rfl⟩
   .simp at d
  .simp at d
 | same k=>
  simp only [iu] at d;split at d
  .rename_i k';split at d
   .rename_i j;obtain⟨rfl,N⟩:=j;refine⟨_,_,_,[],d, .nil,λA z C=>⟨?_,rfl⟩⟩;simp only [aj] at g;obtain⟨v,U,e3⟩:=hB _ N;rw [g] at e3;simp only [NL] at e3;subst e3;exact⟨U,iV hs g⟩
   .simp at d
  .simp at d
 | no=>
  simp only [iu] at d;split at d
  .refine⟨_,_,_,[],d, .nil,λA z C=>⟨?_,rfl⟩⟩;simp only [aj] at g;obtain⟨b,_,rfl⟩:=g;exact⟨rfl,rfl⟩
  .simp at d
 | rows sz col rsz=>
  simp only [iu] at d;split at d
  .rename_i i;split at d
   .rename_i b sz' col' rsz' nx es q;split at d
    .rename_i j;obtain⟨rfl,rfl,rfl⟩:=j;replace d:=aO d (.inl rfl);obtain⟨_,E,d⟩:=d;have E:bc es=true:=by
      split at E
      .assumption
      .cases E
     simp only [aj] at g;exact⟨_,_,_,_,d,(Bs (B:=B) (l:= []) hs q g E).1,(Bs hs q g E).2⟩
    .simp at d
   .simp at d
  .simp at d
 | mp ag ks vk=>
  simp only [iu] at d;split at d
  .rename_i i;split at d
   .rename_i ag' ks' vk' es q;split at d
    .rename_i j;obtain⟨rfl,rfl,rfl⟩:=j;obtain⟨b,ents,Q,G,g2,g3,g4,g5⟩:=hs.af i _ q;simp only [aj] at g;rw [G] at g;simp only [NL] at g;subst g;refine⟨_,_,_,[b],d, ?_,λA z C=>⟨es,b,ents,Q,rfl,rfl,rfl,g3,g4,g5⟩⟩;have:=eS.one (O:=O) (hs.real (i:=i) (by rw [q];simp));rw [g2] at this;exact this
    .simp at d
   .simp at d
  .simp at d
 | agg l=>simp [iu] at d
 | new l=>simp [iu] at d
theorem tw{R:Type}{m:Nat}{B:Nat->Option Value}(k:gP m B ρ)(hs:HS c w h ρ O):∀{rs:List ch} {vs:List AV} {us:List Value} {K:List T->List Id->List Id->Option R} {res:R},az w (AA c w O) ρ vs us->lF m h rs vs K=some res->
  ∃xs a b own,K xs a b=some res/\eS O a own/\oE w c O b λA=>eI B w A rs xs us own
 | [],[],us,K,res,e,d=>by simp only [az] at e;subst e;simp only [lF] at d;exact⟨_,_,_,[],d, .nil,λA _ _=>⟨rfl,rfl,rfl⟩⟩
 | [],v::vs,us,K,res,e,d=>by simp [lF] at d
 | r::rs,[],us,K,res,e,d=>by simp [lF] at d
 | r::rs,v::vs,us,K,res,e,d=>by simp only [az] at e;obtain⟨u,o,rfl,C,D⟩:=e;simp only [lF] at d;obtain⟨x,a,b,ob,d,p,y⟩:=Br k hs C d;obtain⟨xs,F,G,own,d,q,z⟩:=tw k hs D d;refine⟨_,_,_,_,d,p.append q,λA j l=> ?_⟩;have E:=y A j (λi af f g ho=>l i af (N3 _ f) g ho);exact⟨x,xs,u,o,ob,own,rfl,rfl,rfl,E,z A j (λi af f g ho=>l i af (N1 _ f) g ho)⟩
theorem tz{R:Type}{m:Nat}{B:Nat->Option Value}(C:gP m B ρ)(hs:HS c w h ρ O):∀{rs:List ch} {vs:List AV} {us:List Value} {K:List T->List Id->List Id->Option R} {res:R},az w (AA c w O) ρ vs us->ff m h rs vs K=some res->
  ∃xs a b own,K xs a b=some res/\eS O a own/\oE w c O b λA=>dz B w A rs xs us own
 | [],[],us,K,res,y,d=>by simp only [az] at y;subst y;simp only [ff] at d;exact⟨_,_,_,[],d, .nil,λA _ _=>⟨rfl,rfl,rfl⟩⟩
 | [],v::vs,us,K,res,y,d=>by simp [ff] at d
 | r::rs,[],us,K,res,y,d=>by cases r <;> simp [ff] at d
 | r::rs,v::vs,us,K,res,y,d=>by
  simp only [az] at y;obtain⟨u,q,rfl,I,V⟩:=y
  have e:(iu m h r v λx a b=>ff m h rs vs λxs L M=>K (x::xs) (a++L) (b++M))=some res->(∀l,r≠ .agg l)->(∀l,r≠ .new l)->
    ∃xs a b own,K xs a b=some res/\eS O a own/\oE w c O b λA=>dz B w A (r::rs) xs (u::q) own:=by
   intro d j Y;obtain⟨x,a,b,ob,d,D,F⟩:=Br C hs I d;obtain⟨xs,L,M,own,d,E,G⟩:=tz C hs V d;refine⟨_,_,_,_,d,D.append E,λA o p=> ?_⟩;have z:=F A o (λi af g j ho=>p i af (N3 _ g) j ho);have:∃Z U v Q N J,x::xs=Z::U/\u::q=v::Q/\ob++own=N++J/\iG B w A r Z v N/\dz B w A rs U Q J:=
    ⟨x,xs,u,q,ob,own,rfl,rfl,rfl,z,G A o (λi af g j ho=>p i af (N1 _ g) j ho)⟩
   cases r with
   | agg l=>exact(j l rfl).elim
   | new l=>exact(Y l rfl).elim
   | _=>exact this
  cases r with
  | f k=>exact e (by simpa [ff] using d) (by simp) (by simp)
  | t k=>exact e (by simpa [ff] using d) (by simp) (by simp)
  | own sz=>exact e (by simpa [ff] using d) (by simp) (by simp)
  | rows sz col rsz=>exact e (by simpa [ff] using d) (by simp) (by simp)
  | mp ag ks vk=>exact e (by simpa [ff] using d) (by simp) (by simp)
  | new l=>
   simp only [ff] at d;split at d
   .rename_i i;split at d
    .rename_i cs g;obtain⟨b0,arr,ty,e1,e2,e3,e4,e5⟩:=hs.af i _ g;simp only [aj] at I;obtain⟨b,z,rfl⟩:=I;rw [e1] at z;simp only [NL,Pj,OK] at z;obtain⟨rfl,_⟩:=z;obtain⟨xs,a,b,o1,d,D,F⟩:=tw C hs e4 d;obtain⟨X,L,M,o2,d,E,G⟩:=tz C hs V d;refine⟨_,_,_,_,d,(eS.one (hs.real (i:=i) (by rw [g];simp))).append (D.append E),λA o p=> ?_⟩;exact⟨xs,X,b0,arr,ty,q,o1,o2,rfl,by simp,by simp [e2],e3,F A o (λi af g j ho=>p i af (N3 _ g) j ho),G A o (λi af g j ho=>p i af (N1 _ g) j ho)⟩
    .simp at d
   .simp at d
  | ref k off=>exact e (by simpa [ff] using d) (by simp) (by simp)
  | same k=>exact e (by simpa [ff] using d) (by simp) (by simp)
  | no=>exact e (by simpa [ff] using d) (by simp) (by simp)
  | agg l=>
   cases v with
   | agg cs=>simp only [ff] at d;simp only [aj] at I;obtain⟨ws,rfl,z,k2⟩:=I;obtain⟨xs,a,b,o1,d,D,F⟩:=tw C hs z d;obtain⟨X,L,M,o2,d,E,G⟩:=tz C hs V d;refine⟨_,_,_,_,d,D.append E,λA o p=> ?_⟩;exact⟨xs,X,ws,q,o1,o2,rfl,rfl,rfl,F A o (λi af g j ho=>p i af (N3 _ g) j ho),G A o (λi af g j ho=>p i af (N1 _ g) j ho)⟩
   | _=>simp [ff] at d
def uJ(tmps:Array Value):ResultVar->Sem Value
 | .tmp t=>pure (tmps.getD t undef)
 | .cell b t=>do loadVar t (<-asAddr (tmps.getD b undef))
theorem K5(fn:Func)(tmps:Array Value):results fn tmps= (do
  let vs <-fn.results.mapM (uJ tmps)
  pure (if h:vs.size=1 then vs[0] else .tuple vs)):=rfl
theorem x5{R:Type}{a:Act}(hs:HS c w s.h ρ O)(g:SS w (AA c w O) ρ s.t a.tmps):∀{l:List ResultVar} {K:List AV->Option R} {r:R},pL P s l K=some r->
  ∃vs us,K vs=some r/\az w (AA c w O) ρ vs us/\(l.mapM (uJ a.tmps)).run P w= .ok us w
 | [],K,r,h=>⟨[],[],h,by simp [az],by simp⟩
 | .tmp k::l,K,r,h=>by
  simp only [pL] at h;have d:=g k;split at h
  .rename_i v e;rw [e] at d;obtain⟨vs,us,i,j,m⟩:=x5 hs g h;refine⟨v::vs,_::us,i,by simp only [az];exact⟨_,us,rfl,d,j⟩, ?_⟩;rw [QJ];simp only [uJ,N9,Oo,NX,m]
  .simp at h
 | .cell k t::l,K,r,h=>by
  simp only [pL] at h;have d:=g k;split at h
  .rename_i v e;rw [e] at d;obtain⟨o,y,h0,f,q⟩:=CC hs d (.inl rfl) h;obtain⟨vs,us,i,j,m⟩:=x5 hs g h0;refine⟨o::vs,y::us,i,by simp only [az];exact⟨y,us,rfl,q,j⟩, ?_⟩;rw [QJ];have:(do loadVar t (<-asAddr (a.tmps.getD k undef)):Sem Value).run P w= .ok y w:=by
    rw [<-f];generalize a.tmps.getD k undef=u at *
    unfold Instr.loadAt at *
    cases u with
    | pointer p=>
     cases p with
     | none=>simp [Instr.sureAddr,runtimePanic] at f
     | some b=>simp [Instr.sureAddr,asAddr]
    | _=>simp [Instr.sureAddr,runtimePanic] at f
   simp only [uJ,N9,Oo,NX] at this⊢;rw [this];simp only [NX,m]
  .simp at h
theorem qH{R:Type}{m:Nat}{B:Nat->Option Value}(k:gP m B ρ)(hs:HS c w h ρ O):∀{os:List iC} {j:Nat} {K:List T->List Id->List Id->Option R} {res:R},j+os.length<=m->jJ m h j os K=some res->
  ∃xs a b own,K xs a b=some res/\eS O a own/\oE w c O b λA=>mn B w A j os xs own
 | [],j,K,res,_,d=>by simp only [jJ] at d;exact⟨_,_,_,[],d, .nil,λA _ _=>⟨rfl,rfl⟩⟩
 | .box l::os,j,K,res,hm,d=>by
  simp only [NV] at hm;simp only [jJ] at d;split at d
  .rename_i cs g;obtain⟨F,arr,t,x,y,I,J,N⟩:=hs.af _ _ g;obtain⟨xs,a,b,o1,d,U,V⟩:=tw k hs J d;obtain⟨r,D,E,o2,d,p,q⟩:=qH k hs (by omega) d;refine⟨_,_,_,_,d,(eS.one (i:= .c j) rfl).append (U.append p),λA f o=> ?_⟩;obtain⟨v,u,e⟩:=k j (by omega);rw [x] at e;simp only [NL] at e;subst e;exact⟨xs,r,F,arr,t,o1,o2,rfl,by simp [y],u,I,V A f (λi af g M ho=>o i af (N3 _ g) M ho),q A f (λi af g M ho=>o i af (N1 _ g) M ho)⟩
  .simp at d
 | .sl sz::os,j,K,res,hm,d=>by
  simp only [NV] at hm;simp only [jJ] at d;split at d
  .rename_i sz' bb l g;split at d
   .rename_i Q;subst Q;obtain⟨v,x,y,_⟩:=hs.af _ _ g;obtain⟨r,D,E,o2,d,p,q⟩:=qH k hs (by omega) d;refine⟨_,_,_,_,d,(eS.one (i:= .c j) rfl).append p,λA f o=> ?_⟩;obtain⟨X,u,e⟩:=k j (by omega);rw [x] at e;simp only [NL] at e;subst e;exact⟨bb,l,r,O (.c j),_,o2,rfl,rfl,u,y.mono (λb L=>⟨f b L,rfl⟩) (λb L=>⟨by simpa using L,rfl⟩),q A f o⟩
   .simp at d
  .simp at d
 | .mp ag ks vk::os,j,K,res,hm,d=>by
  simp only [NV] at hm;simp only [jJ] at d;split at d
  .rename_i Y Z vk' es g;split at d
   .rename_i C;obtain⟨rfl,rfl,rfl⟩:=C;obtain⟨F,G,z,x,y,I,J,N⟩:=hs.af _ _ g;obtain⟨r,D,E,o2,d,p,q⟩:=qH k hs (by omega) d;refine⟨_,_,_,_,d,(eS.one (i:= .c j) rfl).append p,λA f o=> ?_⟩;obtain⟨X,u,e⟩:=k j (by omega);rw [x] at e;simp only [NL] at e;subst e;exact⟨es,F,G,z,r,o2,rfl,by simp [y],u,I,J,N,q A f o⟩
   .simp at d
  .simp at d
 | .dead::os,j,K,res,hm,d=>by simp only [NV] at hm;simp only [jJ] at d;obtain⟨r,D,E,o2,d,p,q⟩:=qH k hs (by omega) d;exact⟨_,_,_,o2,d,p,λA f o=>q A f o⟩
theorem BL{f:FuncId}{fn:Func}{nt:Nat}{m:Nat×Nat}{B:Nat->Option Value}{xs:List T}{a:Act}(K:gP m.1 B ρ)(d:dV c nt w s ρ O a)(h:tE P An f fn m s=some xs):
  ∃v,(results fn a.tmps).run P w= .ok v w/\Fin P c B (cZ P An f m.2 fn) (fP An f m.2) xs (eT O) w v w:=by
 unfold tE at h;obtain⟨vs,us,h,z,F⟩:=x5 d.hs d.ss h;split at h
 .rename_i hm;obtain⟨Z,N,Y,o1,h,U,G⟩:=tz K d.hs z h;obtain⟨zs,E,Q,o2,h,V,C⟩:=qH K d.hs (by omega) h;split at h
  .rename_i r;simp only [NL] at h;subst h;simp only [NT,N6,OF] at r;have M:=CI r.1;have D:=U.append V;have g:∀b,b∈o1++o2->∃i,Of (N++E) i/\O i=some b:=λb l=>D.mem l;have J:∀k,AA c w O k->(c.A0 k\/c.MO k)/\k < w.heap.size/\k∉o1++o2:=by
    intro b l;refine⟨l.1,l.2.1,λhm=> ?_⟩;obtain⟨i,o,e⟩:=g b hm;exact l.2.2 i e
   have L:∀i af,i∈Y++Q->i.real=true->O i=some af->(c.A0 af\/c.MO af)/\af < w.heap.size/\af∉o1++o2:=by
    intro i af o p ho;refine⟨.inr (d.hs.own i af ho),d.hs.lt i af ho,λhm=> ?_⟩;obtain⟨j,I,e⟩:=g af hm;have:=d.hs.inj i j af ho e;subst this;have z:=r.2 i o;rcases I with I | ⟨y,n,_,X⟩
    .have F:(N++E).contains i=true:=by simpa using I
     rw [F] at z;cases z
    .rw [X] at p;cases p
   have q:(o1++o2).Nodup:=by obtain⟨_,ids,e,n,_⟩:=D;rw [e];exact zj d.hs (n M)
   refine⟨mW us, ?_,rfl,rfl,rfl,Oh _,λ_ _ _=>rfl,us,Z,zs,o1,o2,rfl,rfl,q,λb l=> ?_, ?_, ?_⟩
   .rw [K5,Array.mapM_eq_mapM_toList];simp only [N9,map_eq_pure_bind,Oo];rw [F];simp only [NX];congr 1;unfold mW;split
    .rename_i x;have hl:us.length=1:=by simpa using x
     obtain⟨u,rfl⟩:=PZ.1 hl;rfl
    .rename_i x;split
     .rename_i u;simp at x
     .rfl
   .obtain⟨i,o,e⟩:=g b l;exact⟨d.hs.own i b e,d.hs.lt i b e⟩
   .exact G _ J λi af o p ho=>L i af (N3 _ o) p ho
   .exact C _ J λi af o p ho=>L i af (N1 _ o) p ho
  .simp at h
 .simp at h
end
open Go Go.IntKind
section
variable {P:Program} {An:cC} {Or:aq} {w w':World} {A A':Nat->Prop} {c:Ctx} {ρ:Id->Option Value} {O:Id->Option Nat} {s s':St} {h:Id->Option ad}
theorem xH{v:AV}{u:Value}(hs:HS c w h ρ O)(a:aj w (AA c w O) ρ v u):aj w (AA c w O) ρ (lR h v) u:=by
 cases v
 case own i=>
  simp only [lR];split
  .rename_i sz b xs d;have m:O i=none:=by
    obtain⟨_,_,_,f⟩:=hs.af i _ d;exact f rfl
   have:=kW (x:= .ab sz b xs) (A':=AA c w O) hs a (by simp [dr,d]) (λ_ h=>h) (λj af k ho=>by
    rcases k with e | ⟨_,_,_,e⟩ | ⟨_,e⟩
    .cases e;rw [m] at ho;cases ho
    .cases e
    .cases e)
   simpa [aj] using this
  .exact a
 case part i sz off n=>
  simp only [lR];split
  .rename_i r b xs d;split
   .rename_i o;have m:O i=none:=by
     obtain⟨_,_,_,f⟩:=hs.af i _ d;exact f rfl
    have:=kW (x:= .ab sz b ((xs.drop off).take n)) (A':=AA c w O) hs a (by simp [dr,d,o]) (λ_ h=>h) (λj af k ho=>by
     rcases k with e | ⟨_,_,_,e⟩ | ⟨_,e⟩
     .cases e
     .cases e;rw [m] at ho;cases ho
     .cases e)
    simpa [aj] using this
   .exact a
  .exact a
 case ref i off=>
  simp only [lR];split
  .rename_i l d;obtain⟨b,p,z,f,q⟩:=hs.af i _ d;simp only [aj] at a;obtain⟨y,g,rfl⟩:=a;rw [p] at g;simp only [NL,Pj,OK] at g;obtain⟨rfl,_⟩:=g;simp only [aj,ay];refine⟨b,off,rfl, .inr f, ?_⟩;have:=q.drop off;rwa [Ov] at this
  .exact a
 all_goals exact a
theorem I3{k:Nat×Option Nat}{p:AV×aB}{tmps:Array Value}{g:Id->Option Value}(hs:HS c w s.h ρ O)(m:SS w (AA c w O) ρ s.t tmps)(e:rq s k=some p)(f:∀i v,ρ i=some v->g i=some v)
  (l:∀q∈p.2,g q.1=some (tmps.getD k.1 undef)):aj w (AA c w O) g p.1 (tmps.getD k.1 undef):=by
 unfold rq at e;have d:=m k.1;split at e
 .simp at e
 .rename_i v j;rw [j] at d;simp only at d;split at e
  .simp only [NL] at e;subst e;exact aj.mono (λb a=>⟨a,rfl⟩) f _ _ (xH hs d)
  .split at e
   .simp only [NL] at e;subst e;exact aj.mono (λb a=>⟨a,rfl⟩) f _ _ (xH hs d)
   split at e
   .split at e
    .simp only [NL] at e;subst e;exact aj.mono (λb a=>⟨a,rfl⟩) f _ _ d
    .simp at e
   .simp only [NL] at e;subst e;simp only [aj];exact l _ (NY.2 rfl)
   .simp at e
theorem CA{tmps:Array Value}{f:Id->Option Value}(hs:HS c w s.h ρ O)(o:SS w (AA c w O) ρ s.t tmps)(j:∀i v,ρ i=some v->f i=some v):∀{l:List (Nat×Option Nat)} {p:List AV×aB},mK s l=some p->
  (∀q∈p.2,∀k,q.1= .s (1000000+k) 0->f q.1=some (tmps.getD k undef))->az w (AA c w O) f p.1 (l.map λk=>tmps.getD k.1 undef)/\
   ∀q∈p.2,∃k sz b,q= (.s (1000000+k) 0, .sl false sz b [])/\ay w (AA c w O) (.ae b) (tmps.getD k undef)
 | [],p,e,_=>by simp only [mK,NL] at e;subst e;exact⟨by simp [az],(by intro q a;cases a)⟩
 | k::l,p,e,r=>by
  simp only [mK] at e;replace e:=NM.1 e;obtain⟨x,d,e⟩:=e;replace e:=NM.1 e;obtain⟨y,D,e⟩:=e;simp only [NL] at e;subst e;have g:∀q∈x.2,∃sz b,q= (.s (1000000+k.1) 0, .sl false sz b [])/\ay w (AA c w O) (.ae b) (tmps.getD k.1 undef):=by
   intro q a;have m:=o k.1;unfold rq at d;split at d
   .simp at d
   .rename_i v u;rw [u] at m;simp only at m;split at d
    .simp only [NL] at d;subst d;cases a
    .split at d
     .simp only [NL] at d;subst d;cases a
     split at d
     .split at d
      .simp only [NL] at d;subst d;cases a
      .simp at d
     .simp only [NL] at d;subst d;simp only [NY] at a;subst a;exact⟨_,_,rfl,by simpa [aj] using m⟩
     .simp at d
  obtain⟨z,B⟩:=CA hs o j D (λq a=>r q (N1 _ a));refine⟨?_,λq a=> ?_⟩
  .simp only [Oq,az];refine⟨_,_,rfl,I3 hs o d j (λq a=> ?_),z⟩;obtain⟨sz,b,e,_⟩:=g q a;exact r q (N3 _ a) k.1 (by rw [e])
  .rcases N4.1 a with a | a
   .obtain⟨sz,b,e,C⟩:=g q a;exact⟨k.1,sz,b,e,C⟩
   .exact B q a
theorem EP:∀{us:aB} {h:Id->Option ad} {i:Id} {b:ad},aK h us i=some b->(i,b)∈us\/((∀q∈us,q.1≠i)/\h i=some b)
 | [],h,i,b,e=> .inr ⟨by simp,e⟩
 | (j,x)::us,h,i,b,e=>by
  rw [cN] at e;rcases EP e with e | ⟨g,a⟩
  .exact .inl (NP _ e)
  .by_cases d:i=j
   .subst d;rw [aA] at a;simp only [NL] at a;subst a;exact .inl NN
   .rw [ax _ _ d] at a;refine .inr ⟨λq f=> ?_,a⟩;rcases N2.1 f with rfl | f
    .exact λe=>d e.symm
    .exact g q f
theorem HS.E7{us:aB}{a:Id->Option Value}(r:∀q∈us,q.1.real=true)(hs:HS c w h ρ O)(B:∀q∈us,h q.1=none)(x:∀q∈us,∃sz b u,q.2= .sl false sz b []/\a q.1=some u/\ay w A (.ae b) u)
  (f:∀i,(∀q∈us,q.1≠i)->a i=ρ i):HS c w (aK h us) a O:=by
 have mono:∀i v,ρ i=some v->a i=some v:=by
  intro i v d;rw [f i (λq j e=> ?_)]
  .exact d
  .have:=(hs.cx _ (r q j) (B q j)).1;rw [e,d] at this;cases this
 have k:∀i n,∀q∈us,q.1≠ .g i n:=λi n q j e=>by have:=r q j;rw [e] at this;cases this
 have le:Le w ρ O w a O:=⟨rfl,rfl,rfl,Oh _,mono,λ_ _ _=>rfl,λi b h=> .inl ⟨i,h⟩⟩;refine hs.go le (λi n=>⟨f _ (k i n),rfl,λ_ _=>rfl⟩) (λi b l=> ?_) (λi p d=> ?_) (λi d=>(vg d).2) (λi n=>by rw [de (k i n)];exact hs.dA i n) hs.inj hs.lt
 .rcases EP l with hm | ⟨_,l⟩
  .right;obtain⟨sz,C,u,m,o,e3⟩:=x _ hm;simp only at m o;subst m;refine⟨u,o, ?_,by simp⟩;simp only [ay] at e3;rcases e3 with⟨rfl,rfl⟩ | ⟨rfl,af,off,sp,rfl⟩
   .exact⟨none,0,rfl,by simp,by simp,by simp, .inl rfl⟩
   .exact⟨some ⟨af,off,sp⟩,0,rfl,by simp,by simp,trivial, .inl rfl⟩
  .exact .inl ⟨l,rfl,λ_ _=>rfl⟩
 .obtain⟨y,z⟩:=vg d;rw [f i y];exact hs.cx i p z
theorem CE{b:Id->Option Value}{tmps:Array Value}:∀{live:List (Nat×Option Nat)} {bo:List AV},az w A b bo (live.map λk=>tmps.getD k.1 undef)->∀k,aj w A b (lI.look live bo k) (tmps.getD k undef)
 | [],bo,a,k=>by cases bo <;> simp [lI.look,aj]
 | (j,o)::live,bo,a,k=>by
  cases bo with
  | nil=>simp [az] at a
  | cons v bo=>
   simp only [Oq,az,OY] at a;obtain⟨u,r,⟨rfl,rfl⟩,d,f⟩:=a;simp only [lI.look];split
   .rename_i e;subst e;exact d
   .exact CE f k
def ru:List Item->List Item
 | .inLoop b::k=> .code b:: .inLoop b::k
 | t=>t
def nC(P:Program)(An:cC)(Or:aq):Prop:= ∀f fn todo live m bo b xs,Or (.node f todo live m) bo b=some xs->P.funcs[f]? =some fn->
 ∀c w ρ O a B,gP m.1 B ρ->dV c fn.ntmps w (lI live bo b) ρ O a->Ends P f fn (ru todo) a w (Fin P c B (cZ P An f m.2 fn) (fP An f m.2) xs (eT O) w)
theorem dV.yt{nt:Nat}{a:Act}{h':Id->Option ad}{ρ':Id->Option Value}{O':Id->Option Nat}(d:dV c nt w s ρ O a)(le:Le w ρ O w ρ' O')(hs:HS c w h' ρ' O'):dV c nt w {t:=s.t,h:=h'} ρ' O' a:=
 ⟨hs,SS.mono (λb e=>le.A b e) le.dQ d.ss,d.nt,d.defers⟩
theorem gP.le{m:Nat}{B:Nat->Option Value}{ρ':Id->Option Value}(h:gP m B ρ)(le:∀i v,ρ i=some v->ρ' i=some v):gP m B ρ':=λj d=>by obtain⟨v,a,b⟩:=h j d;exact⟨v,a,le _ _ b⟩
theorem xx{s:St}:∀{live:List (Nat×Option Nat)} {p:List AV×aB},mK s live=some p->∀q∈p.2,∃k,q.1=Id.s (1000000+k) 0
 | [],p,b,q,d=>by simp only [mK,NL] at b;subst b;cases d
 | k::live,p,b,q,d=>by
  simp only [mK] at b;obtain⟨f,a,b⟩:=NM.1 b;obtain⟨g,e,b⟩:=NM.1 b;simp only [NL] at b;subst b;rcases N4.1 d with d | d
  .unfold rq at a;split at a
   .cases a
   .split at a
    .simp only [NL] at a;subst a;cases d
    .split at a
     .simp only [NL] at a;subst a;cases d
     .split at a
      .split at a
       .simp only [NL] at a;subst a;cases d
       .cases a
      .simp only [NL] at a;subst a;rw [NY.1 d];exact⟨_,rfl⟩
      .cases a
  .exact xx e q d
theorem Nl{f:FuncId}{fn:Func}{todo:List Item}{live:List (Nat×Option Nat)}{m:Nat×Nat}{B:Nat->Option Value}{xs:List T}{a:Act}(hN:nC P An Or)(Q:P.funcs[f]? =some fn)(hB:gP m.1 B ρ)(o:dV c fn.ntmps w s ρ O a)(e:u5 Or f todo live m s=some xs):
  Ends P f fn (ru todo) a w (Fin P c B (cZ P An f m.2 fn) (fP An f m.2) xs (eT O) w):=by
 unfold u5 at e;replace e:=NM.1 e;obtain⟨p,K,e⟩:=e;split at e
 .rename_i y;replace e:=NM.1 e;obtain⟨seen,u,e⟩:=e;let l:Id->Option Value:=λi=>if p.2.any (λq=>decide (q.1=i)) then(match i with | .s d _=>some (a.tmps.getD (d - 1000000) undef) | _=>none) else ρ i;have N:∀q∈p.2,s.h q.1=none:=by
   intro q g;have:=N6.1 y q g;simpa using this
  have z:∀i,(∀q∈p.2,q.1≠i)->l i=ρ i:=by
   intro i r;have:p.2.any (λq=>decide (q.1=i))=false:=by rw [Pg];intro q g;simpa using r q g
   simp only [l,this,Od,if_false]
  have F:∀q∈p.2,∀k,q.1= .s (1000000+k) 0->l q.1=some (a.tmps.getD k undef):=by intro q g k e;have:p.2.any (λx=>decide (x.1=q.1))=true:=PG.2 ⟨q,g,by simp⟩;simp only [l,this,if_true];rw [e];simp
  have mono:∀i v,ρ i=some v->l i=some v:=by
   intro i v r;rw [z i (λq g e=> ?_)]
   .exact r
   .cases E:q.1.real with
    | true=>have:=(o.hs.cx _ E (N q g)).1;rw [e,r] at this;cases this
    | false=>have hm:p.2.any (λx=>decide (x.1=q.1))=true:=PG.2 ⟨q,g,by simp⟩;obtain⟨k,ek⟩:=xx K q g;rw [ek] at E;cases E
  obtain⟨hv,X⟩:=CA o.hs o.ss mono K F;have U:HS c w (aK s.h p.2) l O:=o.hs.E7 (λq g=>by obtain⟨k,ek⟩:=xx K q g;rw [ek];rfl) N (A:=AA c w O) (λq g=>by
   obtain⟨k,sz,b,e,E⟩:=X q g;exact⟨sz,b,_,by rw [e],F q g k (by rw [e]),E⟩) z
  obtain⟨g1,g2,g3,g4,g5⟩:=rJ u Qg (by simp) (by simp);obtain⟨V,C⟩:=U.rn g1 g4 g5;have hA:∀b,AA c w O b->AA c w (cw seen O) b:=λb G=>⟨G.1,G.2.1,λi r=>by
   obtain⟨k,hk⟩:=C b ⟨i,r⟩;exact G.2.2 k hk⟩
  have Y:=az.rn (m:=seen) hA _ _ (λi r=>g3 i (N1 _ r)) hv;have L:dV c fn.ntmps w (lI live (iW seen p.1) (seen.map λi=>fQ seen (aK s.h p.2 i))) (cw seen l) (cw seen O) a:=
   ⟨V,λk=>CE Y k,o.nt,o.defers⟩
  have D:=Ds u (by
   exact List.pairwise_map.2 (List.nodup_range.imp λh e=>h (by simpa using e))) (by simp)
  rw [PA] at D;have M:gP m.1 B (cw seen l):=by
   intro j J;obtain⟨v,Z,e2⟩:=hB.le mono j J;refine⟨v,Z, ?_⟩;obtain⟨t,ht⟩:=D;have:seen[j]? =some (.c j):=by rw [<-ht,Ot (by simpa using J)];simp [J]
   simp [cw,this,e2]
  exact(hN f fn todo live m _ _ xs e Q c w _ _ a B M L).mono λv w' I=>I.own C
 .simp at e
theorem tJ:∀{l:List (Nat×Option Nat)},fu s.h (lJ s l)
 | []=>by intro p a;cases a
 | (k,none)::l=>by simp only [lJ];exact tJ
 | (k,some 0)::l=>by simp only [lJ];exact(qM _).append tJ
 | (k,some (n+1))::l=>by
  simp only [lJ];refine fu.append ?_ tJ;cases Nat.beq n 999998 with
  | false=>intro p a;cases a
  | true=>
   show fu s.h (w9 s.h (s.t k).2);unfold w9;split
   .split
    .exact w8 _
    .intro p a;cases a
   .intro p a;cases a
theorem C2{h:Id->Option ad}(hs:HS c w h ρ O)(v:AV):HS c w (uw h v) ρ O:=by
 unfold uw;split
 .rename_i i off;split
  .rename_i cs f;obtain⟨b,arr,t,q,y,z,B,C⟩:=hs.af i _ f;have j:=hs.real (i:=i) (by rw [f];simp);have D:az w (AA c w O) ρ (cs.map (lR h)) arr.toList:=by
    have d:∀(l:List AV) (us:List Value),az w (AA c w O) ρ l us->az w (AA c w O) ρ (l.map (lR h)) us:=by
     intro l;induction l with
     | nil=>intro us h;exact h
     | cons x l E=>intro us h;simp only [Oq,az] at h⊢;obtain⟨u,r,e,o,p⟩:=h;exact⟨u,r,e,xH hs o,E r p⟩
    exact d _ _ B
   rw [du];refine hs.go Le.refl (λk m=>⟨rfl,rfl,λ_ _=>rfl⟩) (λk x a=> ?_) (λk g a=> ?_) (λk a=> ?_) (λk m=>by rw [ax _ _ (aQ j)];exact hs.dA k m) hs.inj hs.lt
   .by_cases e:k=i
    .subst e;rw [aA] at a;simp only [NL] at a;subst a;exact .inr ⟨b,arr,t,q,y,z,D,C⟩
    .rw [ax _ _ e] at a;exact .inl ⟨a,rfl,λ_ _=>rfl⟩
   .by_cases e:k=i
    .subst e;rw [aA] at a;cases a
    .rw [ax _ _ e] at a;exact hs.cx k g a
   .by_cases e:k=i
    .subst e;rw [aA] at a;cases a
    .rw [ax _ _ e] at a;exact a
  .exact hs
 .exact hs
theorem BR(live:List (Nat×Option Nat))(bo:List AV)(a:List ad):mc (lI live bo a):=by intro k g v e;simp [lI] at e
theorem bd.rC{af:Nat}:∀{cs:List T} {off:Nat},(∀(j:Nat) (x:T),cs[j]? =some x->∃v,w.cell? ⟨af,off+j,none⟩=some v/\ay w A x v)->bd w A af off cs
 | [],_,_=>by simp [bd]
 | x::cs,off,h=>by simp only [bd];refine⟨by simpa using h 0 x rfl,bd.rC λj y a=> ?_⟩;have:=h (j+1) y (by simpa using a);rw [show off+1+j=off+ (j+1) by omega];exact this
theorem DS{i:Id}{af sz col rsz:Nat}:∀{es:List Row} {base:Nat},bc es=true->cv w A ρ O i af sz col rsz base es->(∀e∈es,∀d,O (.g i e.n)=some d->A d)->bf w A af sz base (es.map (pP col rsz))
 | [],_,_,_,_=>by simp [bf]
 | e::es,base,b,D,l=>by
  simp only [bc,O6,NT] at b;obtain⟨m,o⟩:=D;simp only [Oq,bf];obtain⟨q,I,r,u,v,J,z⟩:=m;have key:∃x,pP col rsz e=e.cs.set col x/\ay w A x u:=by
   obtain⟨en,G,eo⟩:=e;cases eo with
   | none=>simp at b
   | some p=>refine⟨_,rfl, ?_⟩;exact cJ.EJ z λd C=>l _ NN d C
  obtain⟨x,F,E⟩:=key;rw [F];refine⟨by rw [Qd];exact q,bd.rC λj y a=> ?_,DS b.2 o λf B=>l f (NP _ B)⟩;rw [Pe] at a;split at a
  .rename_i k;subst k;split at a
   .cases a;exact⟨u,v,E⟩
   .cases a
  .rename_i k;exact r j y (λe=>k e.symm) a
theorem HS.Ec{i:Id}{b:Bool}{sz col rsz N:Nat}{es:List Row}(hs:HS c w h ρ O)(E:h i=some (.rows b sz col rsz N es))(D:bc es=true):
  ∃O',Le w ρ O w ρ O'/\HS c w (aH h i (some (.sl true sz b (es.map (pP col rsz))))) ρ O':=by
 classical
 have q:=hs.real (i:=i) (by rw [E];simp);let Q:Id->Option Nat:=λx=>if Of [i] x then none else O x;have G:Q i=none:=if_pos (.inl NN);have Q2:∀n,Q (.g i n)=none:=λn=>if_pos (.inr ⟨i,n,NN,rfl⟩);have o:∀x d,Q x=some d->O x=some d/\¬Of [i] x:=by
  intro x d k;simp only [Q] at k;split at k
  .cases k
  .rename_i K;exact⟨k,K⟩
 have B:∀x,x.real=true->x≠i->Q x=O x:=by
  intro x r k;refine if_neg ?_;rintro(hm | ⟨j,n,_,rfl⟩)
  .exact k (NY.1 hm)
  .cases r
 have C:∀x n,x≠i->Q (.g x n)=O (.g x n):=by
  intro x n k;refine if_neg ?_;rintro(hm | ⟨j,m,J,e⟩)
  .rw [<-NY.1 hm] at q;cases q
  .simp only [Id.g.injEq] at e;exact k (e.1.trans (NY.1 J))
 have le:Le w ρ O w ρ Q:=⟨rfl,rfl,rfl,Oh _,λ_ _ h=>h,λ_ _ _=>rfl,λx d k=> .inl ⟨x,(o x d k).1⟩⟩;have u:∀x d,Of [i] x->O x=some d->AA c w Q d:=by intro x d k p;refine⟨.inr (hs.own x d p),hs.lt x d p,λy v=> ?_⟩;obtain⟨L,M⟩:=o y d v;exact M (hs.inj x y d p L▸k)
 refine⟨Q,le,hs.mC le (λx y k=> ?_) (λx r k=> ?_) (λx n=>by rw [ax _ _ (aQ q)];exact hs.dA x n) (λx n k=> ?_) hs.gone (λx y d k v=>hs.inj x y d (o x d k).1 (o y d v).1) (λx d k=>hs.lt x d (o x d k).1)⟩
 .by_cases e:x=i
  .subst e;rw [aA] at k;cases k;right;obtain⟨a,cap,r1,r2,r3,r4,z⟩:=hs.af x _ E;refine⟨_,r1,⟨a,cap,by rw [O7],by rw [O7];exact r2,r3,trivial, ?_⟩,λ_=>G⟩;rcases z with z | ⟨af,off,arr,t,U,V,X,Y,Z⟩
   .exact .inl z
   .refine .inr ⟨af,off,arr,t,U,by simp only [if_true];exact u x af (.inl NN) V,X,Y, ?_⟩;refine DS (ρ:=ρ) (O:=O) (i:=x) D (cv.move (λb I=>le.A b I) (λ_ _=>rfl) (λf _=>⟨rfl,rfl,λ_ _=>rfl⟩) Z) λf hf d p=>u _ d (.inr ⟨x,f.n,NN,rfl⟩) p
  .rw [ax _ _ e] at k;have F:=hs.real (i:=x) (by rw [k];simp);exact .inl ⟨k,B x F e,λ_ _=>rfl,λn=>⟨rfl,C x n e,λ_ _=>rfl⟩⟩
 .have l:x≠i:=λe=>by rw [e,aA] at k;cases k
  rw [ax _ _ l] at k;rw [B x r l];exact hs.cx x r k
 .have l:x≠i:=λe=>by rw [e,aA] at k;cases k
  rw [ax _ _ l] at k;rw [C x n l];exact hs.eM x n k
theorem yp{R:Type}:∀{l:List Id} {h:Id->Option ad} {O:Id->Option Nat} {K:aB->Option R} {r:R},HS c w h ρ O->rU h l K=some r->∃us O',K us=some r/\Le w ρ O w ρ O'/\HS c w (aK h us) ρ O'
 | [],h,O,K,r,hs,e=>⟨[],O,e,Le.refl,hs⟩
 | i::l,h,O,K,r,hs,e=>by
  simp only [rU] at e;split at e
  .rename_i b sz col rsz o es k;replace e:=aO e (.inl rfl);obtain⟨_,a,e⟩:=e;have a:bc es=true:=by
    split at a
    .assumption
    .cases a
   obtain⟨m,cn,d⟩:=hs.Ec k a;obtain⟨us,j,e,g,f⟩:=yp d e;exact⟨_,j,e,cn.trans g,by rw [cN];exact f⟩
  .exact yp hs e
theorem MW{h:Id->Option ad}{O:Id->Option Nat}(hs:HS c w h ρ O)(v:AV):∃O',Le w ρ O w ρ O'/\HS c w (yq h v) ρ O':=by
 unfold yq;split
 .split
  .rename_i b sz col rsz g es f;cases e:bc es with
   | true=>obtain⟨d,cn,a⟩:=hs.Ec f e;exact⟨d,cn,by rw [cond_true,du];exact a⟩
   | false=>exact⟨O,Le.refl,hs⟩
  .exact⟨O,Le.refl,hs⟩
 .exact⟨O,Le.refl,hs⟩
theorem Ed:∀(l:List AV) {h:Id->Option ad} {O:Id->Option Nat},HS c w h ρ O->∃O',Le w ρ O w ρ O'/\HS c w (yr h l) ρ O'
 | [],h,O,hs=>⟨O,Le.refl,hs⟩
 | v::r,h,O,hs=>by obtain⟨f,cn,a⟩:=MW hs v;obtain⟨e,d,b⟩:=Ed r a;exact⟨e,cn.trans d,b⟩
theorem MV{h:Id->Option ad}{O:Id->Option Nat}(hs:HS c w h ρ O)(v:AV):∃O',Le w ρ O w ρ O'/\HS c w (yo h v) ρ O':=by
 unfold yo;split
 .split
  .exact Ed _ hs
  .exact⟨O,Le.refl,hs⟩
 .exact⟨O,Le.refl,hs⟩
theorem rz{t:Nat->Option Gs×AV}:∀{l:List (Nat×Option Nat)} {h:Id->Option ad} {O:Id->Option Nat},HS c w h ρ O->∃O',Le w ρ O w ρ O'/\HS c w (pG t h l) ρ O'
 | [],h,O,hs=>⟨O,Le.refl,hs⟩
 | (k,some n)::l,h,O,hs=>by
  simp only [pG];cases Nat.beq n 999999 with
  | true=>exact rz (C2 hs _)
  | false=>
   cases Nat.beq n 999998 with
   | true=>obtain⟨f,cn,a⟩:=MV hs (t k).2;obtain⟨e,d,b⟩:=rz (t:=t) (l:=l) (C2 a (t k).2);exact⟨e,cn.trans d,b⟩
   | false=>exact rz hs
 | (k,none)::l,h,O,hs=>by simp only [pG];exact rz hs
theorem yF{f:FuncId}{fn:Func}{todo:List Item}{live:List (Nat×Option Nat)}{m:Nat×Nat}{B:Nat->Option Value}{xs:List T}{a:Act}(y:nC P An Or)(o:P.funcs[f]? =some fn)(x:gP m.1 B ρ)(i:dV c fn.ntmps w s ρ O a)(e:jZ Or f todo live m s=some xs):
  Ends P f fn (ru todo) a w (Fin P c B (cZ P An f m.2 fn) (fP An f m.2) xs (eT O) w):=by
 unfold jZ at e;obtain⟨us,u,e⟩:=NM.1 e;obtain⟨C,cn,p,_⟩:=i.hs.nR tJ;have d:=i.yt cn p;obtain⟨z,D,b,q⟩:=xQ d.hs u;obtain⟨E,g,r⟩:=rz (t:=s.t) (l:=live) q;have k:=d.yt (b.trans g) r;exact(Nl y o (x.le b.dQ) k e).mono λv w' j=>Fin.le cn (Fin.le (b.trans g) j)
theorem BM{f:FuncId}{fn:Func}{nt:Nat}{m:Nat×Nat}{B:Nat->Option Value}{xs:List T}{a:Act}(d:gP m.1 B ρ)(b:dV c nt w s ρ O a)(h:tD P An f fn m s=some xs):
  ∃v,(results fn a.tmps).run P w= .ok v w/\Fin P c B (cZ P An f m.2 fn) (fP An f m.2) xs (eT O) w v w:=by
 unfold tD at h;cases e:(cZ P An f m.2 fn).any Cf with
 | true=>rw [e,cond_true] at h;exact BL d b h
 | false=>rw [e,cond_false] at h;obtain⟨us,k,h,cn,g⟩:=yp b.hs h;obtain⟨v,i,j⟩:=BL d (b.yt cn g) h;exact⟨v,i,Fin.le cn j⟩
theorem jL(hm:P.follows .mixedOrders=true)(u:il P An Or)(r:nC P An Or){f:FuncId}{fn:Func}{m:Nat×Nat}{B:Nat->Option Value}(o:P.funcs[f]? =some fn):∀{n:Nat} {j:Bool} {todo:List Item} {xs:List T} {w:World} {s:St} {ρ:Id->Option Value} {O:Id->Option Nat} {a:Act},
  gP m.1 B ρ->dV c fn.ntmps w s ρ O a->mc s->ev P An Or f fn m n j todo s=some xs->Ends P f fn todo a w (Fin P c B (cZ P An f m.2 fn) (fP An f m.2) xs (eT O) w)
 | 0,j,todo,xs,w,s,ρ,O,a,i,d,l,e=>by simp [ev] at e
 | n+1,j,[],xs,w,s,ρ,O,a,i,d,l,e=>by simp only [ev] at e;obtain⟨v,C,D⟩:=BM i d e;exact λb K F cs=>⟨a,w,v,[], .one step_end,d.defers,C,D⟩
 | n+1,j, .code .skip::k,xs,w,s,ρ,O,a,i,d,l,e=>by simp only [ev] at e;exact Ends.step (λb cs=>step_skip) (jL hm u r o i d l e)
 | n+1,j, .code (.seq x y)::k,xs,w,s,ρ,O,a,i,d,l,e=>by simp only [ev] at e;exact Ends.step (λb cs=>step_seq) (jL hm u r o i d l e)
 | n+1,j, .code (.region id ops z)::k,xs,w,s,ρ,O,a,i,d,l,e=>by
  simp only [ev] at e;split at e
  .rename_i live _;exact yF (todo:= .code (.region id ops z)::k) r o i d e
  .obtain⟨s',e,G⟩:=K2 hm u d l e;refine Ends.region (G _ λQ w' ρ' O' le J=>⟨rfl, ?_⟩);exact(jL hm u r o (i.le le.dQ) J (FV _) e).mono λv N E=>E.le le
 | n+1,j, .code (.cond x p q)::k,xs,w,s,ρ,O,a,i,d,l,e=>by
  simp only [ev] at e;replace e:=NM.1 e;obtain⟨y,M,e⟩:=e;replace e:=aO e (.inl rfl);obtain⟨t,L,e⟩:=e;have I:=SS.get (h:=s.h) d.ss (g:=none) trivial x;rw [show(⟨s.t,s.h⟩:St)=s from rfl,AV.jX M,T.gR L] at I;simp only [aj,ay] at I;refine Ends.step (todo':= .code (if t then p else q)::k) (λb cs=>step_cond I) ?_;cases t with
  | true=>exact jL hm u r o i d l e
  | false=>exact jL hm u r o i d l e
 | n+1,j, .code (.block id b)::k,xs,w,s,ρ,O,a,i,d,l,e=>by simp only [ev] at e;exact Ends.step (λb cs=>step_block) (jL hm u r o i d l e)
 | n+1,j, .code (.loop b)::k,xs,w,s,ρ,O,a,i,d,l,e=>by
  simp only [ev] at e;split at e
  .exact Ends.step (λb cs=>step_loop) (yF (todo:= .inLoop b::k) r o i d e)
  .simp at e
 | n+1,j, .code (.exit id)::k,xs,w,s,ρ,O,a,i,d,l,e=>by
  simp only [ev] at e;split at e
  .rename_i U F;exact Ends.step (λb cs=>step_exit F) (jL hm u r o i d l e)
  .simp at e
 | n+1,j, .code .ret::k,xs,w,s,ρ,O,a,i,d,l,e=>by simp only [ev] at e;obtain⟨v,C,D⟩:=BM i d e;exact λb K F cs=>⟨a,w,v,_, .one step_ret,d.defers,C,D⟩
 | n+1,j, .inBlock id::k,xs,w,s,ρ,O,a,i,d,l,e=>by simp only [ev] at e;exact Ends.step (λb cs=>step_inBlock) (jL hm u r o i d l e)
 | n+1,j, .inLoop b::k,xs,w,s,ρ,O,a,i,d,l,e=>by
  simp only [ev] at e;split at e
  .exact Ends.step (λb cs=>step_inLoop) (yF (todo:= .inLoop b::k) r o i d e)
  .simp at e
 | n+1,j, .code (.label _)::k,xs,w,s,ρ,O,a,i,d,l,e=>by simp [ev] at e
 | n+1,j, .code (.goto _)::k,xs,w,s,ρ,O,a,i,d,l,e=>by simp [ev] at e
theorem Jd{a:Id->Option Value}{bo:List AV}{args:List Value}(i:az w A a bo args)(m k:Nat):aj w A a (bo.getD k .top) ((args.toArray++Array.replicate m undef).getD k undef):=by
 have e:(args.toArray++Array.replicate m undef).getD k undef= (args++List.replicate m undef).getD k undef:=by rw [O8,N8,<-OE];simp
 rw [e,N8,N8];cases f:bo[k]? with
 | none=>simp [aj]
 | some v=>obtain⟨u,d,g⟩:=i.get f;have b:k < args.length:=(NQ.1 d).1;rw [Ot b,d];exact g
theorem Na(G:lb P An)(hm:P.follows .mixedOrders=true)(K:∀(f:FuncId) (fn:Func),P.funcs[f]? =some fn->fn.name≠ "runtime.NumGoroutine")(F:il P An Or)(E:nC P An Or):il P An (au P An Or):=by
 intro f bo a xs e;simp only [au] at e;split at e
 .rename_i r y;exact G f bo a xs (y.trans e)
 split at e
 .rename_i fn l;split at e
  .rename_i q d;split at e
   .rename_i J;refine⟨fn,q,l,d,K f fn l,λc w ρ O args N hs m=> ?_⟩;have hl:=m.length;have eh:(qL bo a).h=iJ a:=by funext i;cases i <;> rfl
    have C:dV c fn.ntmps w (qL bo a) ρ O {tmps:=args.toArray++Array.replicate (fn.ntmps - args.toArray.size) undef,defers:= []}:=by refine⟨by rw [eh];exact hs,λk=>Jd m _ k, ?_,rfl⟩;simp only [Qh,OZ,Array.size_replicate];omega
    have o:mc (qL bo a):=by intro k g v e;simp [qL] at e
    have D:gP (a.length,fM a.head?).1 (mE a.length ρ) ρ:=by
     intro j u;simp only at u;have z:iJ a (.c j)=some a[j]:=by simp [iJ,u]
     obtain⟨v,p,_⟩:=hs.Ek z;exact⟨v,by simp [mE,u,p],p⟩
    refine(FQ l d (jL hm F E l D C o e)).mono λe w' ⟨v,I,b⟩=> ?_;obtain⟨rs,M,x2,o1,o2,p,L,B,x,y,ho⟩:=b.res;exact⟨rs,M,x2,o1,o2,by rw [I,p],⟨b.os,b.output,b.tape,b.size,b.af⟩,L,B,x,y,ho⟩
   .simp at e
  .simp at e
 .simp at e
theorem M8(hm:P.follows .mixedOrders=true)(l:il P An Or)(j:nC P An Or):nC P An (au P An Or):=by
 intro f fn todo live m bo p xs e d c w ρ O a B i g;simp only [au,d] at e;split at e
 .exact jL hm l j d i g (BR _ _ _) e
 .rename_i o;have:ru todo=todo:=by
   unfold ru;split
   .rename_i b k;exact(o b k rfl).elim
   .rfl
  rw [this];exact jL hm l j d i g (BR _ _ _) e
theorem C7(d:lb P An)(hm:P.follows .mixedOrders=true)(g:∀(f:FuncId) (fn:Func),P.funcs[f]? =some fn->fn.name≠ "runtime.NumGoroutine"):∀n,il P An (gX P An n)/\nC P An (gX P An n)
 | 0=>⟨λ_ _ _ _ e=>by simp [gX] at e,λ_ _ _ _ _ _ _ _ e=>by simp [gX] at e⟩
 | n+1=>by obtain⟨a,b⟩:=C7 d hm g n;exact⟨Na d hm g a b,M8 hm a b⟩
theorem C9{k:Key}{vs:List AV}{a:List ad}{r:List T}(e:jP P An k vs a=some r):∃n,gX P An n k vs a=some r:=by
 unfold jP at e;split at e
 .rename_i b;simp only [NL] at e;exact⟨_,by rw [<-e];exact PL (PL b)⟩
 .simp at e
theorem KO(b:lb P An)(hm:P.follows .mixedOrders=true)(d:∀(f:FuncId) (fn:Func),P.funcs[f]? =some fn->fn.name≠ "runtime.NumGoroutine"):il P An (jP P An):=by intro f bo a xs e;obtain⟨n,e⟩:=C9 e;exact(C7 b hm d n).1 f bo a xs e
end
open Go Go.IntKind
abbrev EX:=Key×List AV×List ad×List T
def vo(O:aq)(L:List EX):Prop:= ∀q∈L,O q.1 q.2.1 q.2.2.1=some q.2.2.2
def aF{R:Type}(F:aq->Option R):Prop:= ∀O r,F O=some r->∃L,vo O L/\∀O',vo O' L->F O'=some r
section
variable {P:Program} {A:cC} {R S:Type}
theorem aF.const(m:Option R):aF (λ_=>m):=λ_ r h=>⟨[],(by intro q a;cases a),λ_ _=>h⟩
theorem aF.bind{F:aq->Option R}{G:R->aq->Option S}(j:aF F)(k:∀a,aF (G a)):aF (λO=>(F O).bind λa=>G a O):=by
 intro O r h;obtain⟨a,l,h⟩:=NM.1 h;obtain⟨L1,e,g⟩:=j O a l;obtain⟨L2,f,i⟩:=k a O r h;refine⟨L1++L2,λq b=> ?_,λO' d=> ?_⟩
 .rcases N4.1 b with b | b
  .exact e q b
  .exact f q b
 .have:=g O' (λq b=>d q (N3 _ b));simp only [this,NO];exact i O' (λq b=>d q (N1 _ b))
theorem aF.ask(k:Key)(vs:List AV)(a:List ad):aF (λO=>O k vs a):=λO r h=>⟨[(k,vs,a,r)],(by intro q b;simp only [NY] at b;subst b;exact h),
 λO' d=>d _ (NY.2 rfl)⟩
theorem aF.cond{b:Bool}{F G:aq->Option R}(a:aF F)(d:aF G):aF (λO=>cond b (F O) (G O)):=by cases b <;> assumption
theorem aF.ite{p:Prop}[Decidable p]{F G:aq->Option R}(b:aF F)(d:aF G):aF (λO=>if p then F O else G O):=by
 by_cases a:p
 .simp only [a,if_true];exact b
 .simp only [a,if_false];exact d
theorem aF.aa{d:Type}[Inhabited d]{c:Option Bool}{m:Option d}{K:d->aq->Option R}(h:∀a,aF (K a)):aF (λO=>aa c m λa=>K a O):=by
 unfold Aev.aa;cases m with
 | some a=>exact h a
 | none=>cases c with
  | none=>exact aF.const none
  | some b=>exact aF.cond (aF.const none) (h default)
theorem aF.eD{k:Ck}{c:Option Bool}{x:T}{K:T->aq->Option R}(h:∀a,aF (K a)):aF (λO=>eD k c x λa=>K a O):=by
 unfold Aev.eD;cases k <;> (try dsimp only)
 case x=>exact h x
 all_goals exact aF.aa λa=>h _
theorem aF.ef{c:Option Bool}:∀{ks:List Ck} {xs:List T} {K:List T->aq->Option R},(∀a,aF (K a))->aF (λO=>ef c ks xs λa=>K a O)
 | [],xs,K,h=>h xs
 | _::_,[],K,h=>h []
 | k::ks,x::xs,K,h=>by simp only [Aev.ef];exact aF.eD (K:=λy O=>Aev.ef c ks xs λb=>K (y::b) O) λy=>aF.ef (K:=λb O=>K (y::b) O) λb=>h _
theorem aF.kZ{c:Option Bool}{t:TypeId}{v:AV}{K:AV->aq->Option R}(h:∀a,aF (K a)):aF (λO=>kZ P c t v λa=>K a O):=by
 unfold Aev.kZ;cases v <;> (try exact h _)
 case t x=>exact aF.eD (K:=λy O=>K (.t y) O) λy=>h _
 case agg vs=>
  dsimp only;cases dJ vs with
  | none=>exact h _
  | some l=>exact aF.ef (K:=λl O=>K (.agg (l.map .t)) O) λy=>h _
theorem aF.hJ{c:Option Bool}:∀{ts:List TypeId} {vs:List AV} {K:List AV->aq->Option R},(∀a,aF (K a))->aF (λO=>hJ P c ts vs λa=>K a O)
 | [],vs,K,h=>h vs
 | _::_,[],K,h=>h []
 | t::ts,v::vs,K,h=>by simp only [Aev.hJ];exact aF.kZ (K:=λu O=>Aev.hJ P c ts vs λus=>K (u::us) O) λu=>aF.hJ (K:=λus O=>K (u::us) O) λus=>h _
theorem aF.fA{s:St}{d:Nat}{c:Option Bool}{f:FuncId}{args:List AV}{K:AV->aB->Option R}:aF (λO=>fA P A O s d c f args K):=by
 unfold Aev.fA;cases P.funcs[f]? with
 | none=>exact aF.const none
 | some fn=>
  dsimp only;have e:∀(m:Option (List T)) (k:List T->Option R),Aev.aa none m k=m.bind k:=by intro m k;cases m <;> rfl
  cases A.gu f with
  | none=>
   dsimp only;refine aF.bind (F:=λ_=>jC ((cZ P A f 0 fn).all pk) (A.deep f) s.h args) (aF.const _) λp=> ?_;simp only [e];refine aF.hJ λq=> ?_;refine aF.bind (F:=λO=>cD c (O (.call f) q [])) ?_ λxs=>aF.const _;unfold cD;cases c with
   | none=>exact aF.ask _ _ _
   | some b=>exact aF.cond (aF.ask _ _ _) (aF.const _)
  | some a=>
   cases c with
   | some b=>exact aF.const none
   | none=>dsimp only;refine aF.bind (F:=λ_=>kv s.h (vK a args) a args) (aF.const _) λp=> ?_;refine aF.bind (F:=λ_=>iS (2000000+d) 0 (aK s.h p.2) (lZ (nJ (cf p.1) []) (fP A f (fM ((cf p.1).head?.bind (aK s.h p.2)))))) (aF.const _) λus=> ?_;refine aF.bind (F:=λ_=>eA (aK (aK s.h p.2) us) 1000 (cf p.1) []) (aF.const _) λseen=> ?_;refine aF.cond ?_ (aF.const none);simp only [e];refine aF.hJ λq=> ?_;exact aF.bind (aF.ask _ _ _) λxs=>aF.const _
theorem aF.iq{fO:Bool}{s:St}{d:Nat}{c:Option Bool}{f:FuncId}{args:List AV}{K:AV->aB->Option R}:aF (λO=>iq fO P A O s d c f args K):=by
 unfold Aev.iq;cases _root_.cond fO (gF args) none with
 | none=>exact aF.fA
 | some q=>
  obtain⟨a,i,n,e⟩:=q;cases c with
  | some b=>exact aF.const none
  | none=>
   dsimp only;cases s.h i with
   | none=>exact aF.const none
   | some b=>
    cases b with
    | rows b sz col rsz g es=>
     dsimp only;cases cA n es with
     | none=>exact aF.const none
     | some p=>exact aF.cond aF.fA (aF.const none)
    | _=>exact aF.const none
theorem aF.cK{g:Option Gs}{o:Oper}{s:St}:aF (λO=>cK P A O g o s):=by
 unfold Aev.cK gQ;cases o.op <;> (try dsimp only) <;> try exact aF.const _
 case makeFunc fn a b=>cases fn <;> (try dsimp only) <;> exact aF.const _
 case call cl=>
  cases cl.callee <;> (try dsimp only)
  case value d=>cases kG (s.get g d) <;> (try dsimp only) <;> first | exact aF.iq | exact aF.const _
  case builtin b=>cases b <;> (try dsimp only) <;> exact aF.const _
  all_goals exact aF.const _
theorem aF.eu{a:Bool}{nt:Nat}{ops:Array Oper}{o:Oper}{s:St}:aF (λO=>eu P A O a nt ops o s):=by
 unfold Aev.eu mR;have key:∀{G:aq->Option Gs->Option St},(∀g,aF (λO=>G O g))->aF (λO=>cX ops o s (G O)):=λ{G} b=>by rw [show(λO=>cX ops o s (G O))=λO=>(cX ops o s some).bind (G O) from funext λO=>tM _ _ _ _];exact aF.bind (aF.const _) b
 refine key λg=> ?_;cases ou A a o g with
 | none=>simp only [oM];exact aF.bind aF.cK λp=>aF.const _
 | some d=>simp only [oM];exact aF.cond (aF.cond (aF.bind aF.cK λp=>aF.const _) (aF.const _)) (aF.const _)
theorem aF.gZ{a:Bool}{nt:Nat}{ops:Array Oper}:∀(l:List Oper) (s:St),aF (λO=>gZ P A O a nt ops l s)
 | [],s=>aF.const _
 | o::r,s=>aF.bind (F:=λO=>Aev.eu P A O a nt ops o s) aF.eu λs'=>aF.gZ r s'
theorem aF.region{nt:Nat}{a:Bool}{ops:Array Oper}{s:St}{K:St->aq->Option R}(h:∀s,aF (K s)):aF (λO=>region P A O nt a ops s λs'=>K s' O):=by
 unfold Aev.region;refine aF.cond ?_ (aF.const none);have:(λO=>rN P A O a nt ops ops.toList s λs'=>K s'.clear O)=λO=>(Aev.gZ P A O a nt ops ops.toList s).bind λs'=>K s'.clear O:=by funext O;rw [x7]
 rw [this];exact aF.bind (aF.gZ _ _) λs'=>h _
theorem aF.jZ{f:FuncId}{todo:List Item}{live:List (Nat×Option Nat)}{m:Nat×Nat}{s:St}:aF (λO=>jZ O f todo live m s):=by unfold Aev.jZ;refine aF.bind (aF.const _) λus=> ?_;unfold Aev.u5;refine aF.bind (aF.const _) λp=>aF.ite ?_ (aF.const none);exact aF.bind (aF.const _) λseen=>aF.ask _ _ _
theorem aF.ev{f:FuncId}{fn:Func}{m:Nat×Nat}:∀(n:Nat) (a:Bool) (todo:List Item) (s:St),aF (λO=>ev P A O f fn m n a todo s)
 | 0,a,todo,s=>by simp only [Aev.ev];exact aF.const none
 | n+1,a,[],s=>by simp only [Aev.ev];exact aF.const _
 | n+1,a, .code .skip::k,s=>by simp only [Aev.ev];exact aF.ev n _ _ _
 | n+1,a, .code (.seq x y)::k,s=>by simp only [Aev.ev];exact aF.ev n _ _ _
 | n+1,a, .code (.region id ops d)::k,s=>by
  simp only [Aev.ev];cases e:(bif a then A.join f id else none) with
  | some live=>exact aF.jZ
  | none=>exact aF.region λs'=>aF.ev n _ _ _
 | n+1,a, .code (.cond x p q)::k,s=>by simp only [Aev.ev];refine aF.bind (F:=λ_=>(s.get none x).t?) (aF.const _) λy=>aF.aa λt=>aF.cond (aF.ev n _ _ _) (aF.ev n _ _ _)
 | n+1,a, .code (.block id b)::k,s=>by simp only [Aev.ev];exact aF.ev n _ _ _
 | n+1,a, .code (.loop b)::k,s=>by
  simp only [Aev.ev];cases A.live f (mX b) with
  | some live=>exact aF.jZ
  | none=>exact aF.const none
 | n+1,a, .code (.exit id)::k,s=>by
  simp only [Aev.ev];cases exitTo id k with
  | some g=>exact aF.ev n _ _ _
  | none=>exact aF.const none
 | n+1,a, .code .ret::k,s=>by simp only [Aev.ev];exact aF.const _
 | n+1,a, .inBlock id::k,s=>by simp only [Aev.ev];exact aF.ev n _ _ _
 | n+1,a, .inLoop b::k,s=>by
  simp only [Aev.ev];cases A.live f (mX b) with
  | some live=>exact aF.jZ
  | none=>exact aF.const none
 | n+1,a, .code (.label _)::k,s=>by simp only [Aev.ev];exact aF.const _
 | n+1,a, .code (.goto _)::k,s=>by simp only [Aev.ev];exact aF.const _
 | n+1,a, .code (.rangeFunc ..)::k,s=>by simp only [Aev.ev];exact aF.const _
 | n+1,a, .code (.scope _)::k,s=>by simp only [Aev.ev];exact aF.const _
 | n+1,a, .code (.refuse _)::k,s=>by simp only [Aev.ev];exact aF.const _
 | n+1,a, .inRegion ..::k,s=>by simp only [Aev.ev];exact aF.const _
 | n+1,a, .inScope _::k,s=>by simp only [Aev.ev];exact aF.const _
 | n+1,a, .inRangeFunc _::k,s=>by simp only [Aev.ev];exact aF.const _
 | n+1,a, .endRangeFunc _::k,s=>by simp only [Aev.ev];exact aF.const _
 | n+1,a, .beginRound::k,s=>by simp only [Aev.ev];exact aF.const _
 | n+1,a, .extern ..::k,s=>by simp only [Aev.ev];exact aF.const _
 | n+1,a, .call ..::k,s=>by simp only [Aev.ev];exact aF.const _
theorem aF.au(k:Key)(vs:List AV)(a:List ad):aF (λO=>au P A O k vs a):=by
 cases k with
 | call f=>
  simp only [Aev.au];cases A.ext f vs a with
  | some r=>exact aF.const _
  | none=>
   dsimp only;cases P.funcs[f]? with
   | none=>exact aF.const _
   | some fn=>
    dsimp only;cases fn.body with
    | none=>exact aF.const _
    | some c=>exact aF.ite (aF.ev _ _ _ _) (aF.const _)
 | node f todo live m=>
  simp only [Aev.au];cases P.funcs[f]? with
  | none=>exact aF.const _
  | some fn=>
   dsimp only;split
   .exact aF.ev _ _ _ _
   .exact aF.ev _ _ _ _
theorem C8:∀(n:Nat) {k:Key} {vs:List AV} {a:List ad} {r:List T},gX P A n k vs a=some r->gX P A (n+1) k vs a=some r
 | 0,k,vs,a,r,h=>by simp [gX] at h
 | n+1,k,vs,a,r,h=>by obtain⟨L,e,g⟩:=aF.au (P:=P) (A:=A) k vs a _ r h;exact g _ λq b=>C8 n (e q b)
theorem uz{n m:Nat}(b:n<=m){k:Key}{vs:List AV}{a:List ad}{r:List T}(h:gX P A n k vs a=some r):gX P A m k vs a=some r:=by
 induction b with
 | refl=>exact h
 | step _ d=>exact C8 _ d
theorem xN{n:Nat}{k:Key}{vs:List AV}{e:List ad}{r:List T}(h:gX P A n k vs e=some r):jP P A k vs e=some r:=by unfold jP;have d:∃n r,gX P A n k vs e=some r:=⟨n,r,h⟩;rw [dif_pos d];have f:=PL (PL d);have a:=uz (Nat.le_max_left n (Classical.choose d)) h;have b:=uz (Nat.le_max_right n (Classical.choose d)) f;rw [a] at b;exact b.symm
theorem ah{k:Key}{vs:List AV}{b:List ad}{r:List T}(h:au P A (jP P A) k vs b=some r):jP P A k vs b=some r:=by
 obtain⟨L,e,g⟩:=aF.au (P:=P) (A:=A) k vs b _ r h;have:∃n,vo (gX P A n) L:=by
  clear g h;induction L with
  | nil=>exact⟨0,(by intro q a;cases a)⟩
  | cons q L i=>
   obtain⟨n,d⟩:=i λf a=>e f (NP _ a);obtain⟨m,hm⟩:=C9 (e q NN);refine⟨max n m,λf a=> ?_⟩;rcases N2.1 a with rfl | a
   .exact uz (Nat.le_max_right _ _) hm
   .exact uz (Nat.le_max_left _ _) (d f a)
 obtain⟨n,d⟩:=this;exact xN (n:=n+1) (g _ d)
end
open Go Go.IntKind
section
variable {P:Program} {An:cC} {w w':World}
theorem sI.below(k:sI w w'):Go.RowKit.Below w.heap.size w w':=⟨k.os,k.tape,k.output,k.size,k.af⟩
theorem FR{f:FuncId}{fn:Func}{bo:List AV}{args:List Value}{A0:Nat->Prop}(y:lb P An)(hm:P.follows .mixedOrders=true)(B:∀(f:FuncId) (fn:Func),P.funcs[f]? =some fn->fn.name≠ "runtime.NumGoroutine")
  (l:P.funcs[f]? =some fn) (d:An.gu f=none) (i:cZ P An f 0 fn= [.f .b]) (r:∀b,A0 b->b < w.heap.size) (g:az w A0 (λ_=>none) bo args)
  (e:jP P An (.call f) bo []=some [.bool true]) (u:GlobOk w:=by exact Go.Aev.globOk _):Calls P f args.toArray w λe w'=>e= .returned (.bool true)/\Go.RowKit.Below w.heap.size w w':=by
 obtain⟨E,o,a,_,_,p⟩:=KO y hm B f bo [] _ e;rw [l] at a;simp only [NL] at a;subst a;refine(p.values d A0 w args r g u).mono λe w' ⟨rs,own,z,C,_,_,m⟩=> ?_;rw [i] at m;obtain⟨x,G,v,F,ob,D,j,rfl,_,q,I,rfl,_⟩:=m;simp only [OY] at j;obtain⟨rfl,rfl⟩:=j;obtain⟨_,k,_⟩:=q;simp only [ay] at k;subst k;exact⟨z,C.below⟩
end
open Go Go.IntKind
abbrev I(n:Int):AV:= .t (.int .i64 n)
abbrev B(b:Bool):AV:= .t (.bool b)
theorem aG{b R:Type}[Inhabited b](c:Option Bool)(a:b)(k:b->Option R):aa c (some a) k=k a:=by cases c <;> rfl
theorem br{a R:Type}[Inhabited a](m:Option a)(k:a->Option R):aa (some false) m k=k (m.getD default):=by cases m <;> rfl
theorem aI{a:Type}(x:a)(l:List a):(x::l).head? =some x:=by cases l <;> rfl
theorem aR{a:Type}(x:a)(l:List a):(x::l).tail=l:=by cases l <;> rfl
theorem bH{a:Type}(l:List a):l.drop 0=l:=by cases l <;> rfl
theorem bK{a:Type}(x:a)(l:List a):(x::l).drop 1=l:=by cases l <;> rfl
theorem bZ{a:Type}(x y:a)(l:List a):(x::y::l).drop 2=l:=by cases l <;> rfl
theorem lD{a:Type}(x y z:a)(l:List a):(x::y::z::l).drop 3=l:=by cases l <;> rfl
theorem zE{a:Type}(x y z u:a)(l:List a):(x::y::z::u::l).drop 4=l:=by cases l <;> rfl
theorem zF{a:Type}(x y z u v:a)(l:List a):(x::y::z::u::v::l).drop 5=l:=by cases l <;> rfl
theorem zG{a:Type}(x y z u v t:a)(l:List a):(x::y::z::u::v::t::l).drop 6=l:=by cases l <;> rfl
theorem aT(b:Bool):(T.bool b).bool? =some b:=by cases b <;> rfl
theorem aL(k:IntKind)(n:Int):(T.int k n).int? k=some n:=by cases k <;> simp [T.int?]
theorem bD(s:ByteArray):(T.str s).bh =some s:=by cases s;rfl
theorem aW(sz:Nat)(b:Bool)(l:List (List T)):(T.ab sz b l).ak sz=some (b,l):=by cases b <;> simp [T.ak]
theorem cn(sz:Nat)(b:Bool):(T.ae b).ak sz=some (b,[]):=by cases b <;> rfl
theorem Dk(l:List T):(T.ptr l).oe =some l:=by cases l <;> rfl
theorem BG(k:IntKind)(n:Int):(T.int k n).nP =some ():=by cases k <;> rfl
theorem BF(b:Bool):(T.bool b).nP =some ():=by cases b <;> rfl
theorem BY(b:ByteArray):(T.str b).nP =some ():=by cases b;rfl
theorem aZ{d:Type}(a b:d):cond true a b=a:=by simp
theorem be{d:Type}(a b:d):cond false a b=b:=by simp
theorem gf:(!true)=false:=by decide
theorem fZ:(!false)=true:=by decide
theorem fL(m:Option (List T)):cD none m=m:=by cases m <;> rfl
theorem dE(m:Option (List T)):cD (some true) m=m:=by cases m <;> rfl
theorem dW(m:Option (List T)):cD (some false) m=some []:=by cases m <;> rfl
theorem bu{d:Type}(p:Prop)[Decidable p](a b:d):(bif decide p then a else b)=if p then a else b:=by by_cases h:p <;> simp [h]
theorem zr{d:Type}(p:Prop)[Decidable p](a b:d):(bif !decide p then a else b)=if p then b else a:=by by_cases h:p <;> simp [h]
theorem qw{d:Type}(m n:Int)(a b:d):(bif m==n then a else b)=if m=n then a else b:=by
 by_cases h:m=n
 .simp [h]
 .have:(m==n)=false:=by simpa using h
  simp [h,this]
theorem zq{d:Type}(m n:Int)(a b:d):(bif !m==n then a else b)=if m=n then b else a:=by
 by_cases h:m=n
 .simp [h]
 .have:(m==n)=false:=by simpa using h
  simp [h,this]
theorem sU(a b:Bool):(bif a then b else false)= (a && b):=by cases a <;> simp
theorem sZ(a b:Bool):(bif a then true else b)= (a || b):=by cases a <;> simp
theorem wr{v:Int}(h: -9223372036854775808<=v/\v < 9223372036854775808):i64.wrap v=v:=by simp [IntKind.wrap,IntKind.signed,IntKind.bits];omega
theorem an:(type_of% @aG)/\(type_of% @aI)/\(type_of% @aR)/\(type_of% @bH)/\(type_of% @bK)/\(type_of% @bZ)/\(type_of% @lD)/\(type_of% @zE)/\(type_of% @zF)/\(type_of% @zG)/\(type_of% @aT)/\(type_of% @aL)/\(type_of% @bD)/\(type_of% @aW)/\(type_of% @cn)/\(type_of% @Dk)/\(type_of% @BG)/\(type_of% @BF)/\(type_of% @BY)/\(type_of% @aZ)/\(type_of% @be)/\(type_of% @gf)/\(type_of% @fZ)/\(type_of% @fL)/\(type_of% @dE)/\(type_of% @dW)/\(type_of% @bu)/\(type_of% @zr)/\(type_of% @qw)/\(type_of% @zq)/\(type_of% @beq_self_eq_true.{0})/\(type_of% @OW)/\(type_of% @OR)/\(type_of% @OX)/\(type_of% @Pd):=⟨@aG,@aI,@aR,@bH,@bK,@bZ,@lD,@zE,@zF,@zG,@aT,@aL,@bD,@aW,@cn,@Dk,@BG,@BF,@BY,@aZ,@be,@gf,@fZ,@fL,@dE,@dW,@bu,@zr,@qw,@zq,@beq_self_eq_true.{0},@OW,@OR,@OX,@Pd⟩
open Go Go.ChangeShapes Go.WideShapes Go.ChangeAt Go.RowKit Go.IntKind
def rW(P:Program)(go:TypeId->Bool):List Field->Nat->Option Nat
 | [],off=>some off
 | f::r,off=>if f.offset=off/\go f.type=true then rW P go r (off+P.cellsOf f.type) else none
def iz(P:Program):Nat->TypeId->Bool
 | 0,_=>false
 | n+1,t=>match P.underlying t with
  | some .bool=>true
  | some (.int _)=>true
  | some .string=>true
  | some (.slice e)=>iz P n e && decide (0 < P.cellsOf e)
  | some (.struct a)=>decide (rW P (iz P n) a.toList 0=some (P.cellsOf t))
  | some (.array m e)=>iz P n e && decide (P.cellsOf t=m * P.cellsOf e)
  | _=>false
def sL(W:TypeId->List T->Prop):List Field->List T->Prop
 | [],ts=>ts= []
 | f::r,ts=>∃a b,ts=a++b/\W f.type a/\sL W r b
def vw(W:List T->Prop):Nat->List T->Prop
 | 0,ts=>ts= []
 | m+1,ts=>∃a b,ts=a++b/\W a/\vw W m b
def Wt(P:Program):Nat->TypeId->List T->Prop
 | 0,_,_=>False
 | n+1,t,ts=>match P.underlying t with
  | some .bool=>∃b,ts= [.bool b]
  | some (.int k)=>∃m,ts= [.int k m]/\(Lit.int k m).wf=true
  | some .string=>∃s,ts= [.str s]/\s.size<=maxLen
  | some (.slice e)=>∃b xs,ts= [.ab (P.cellsOf e) b xs]/\(b=true->xs= [])/\xs.length<=maxLen/\(∀cs∈xs,Wt P n e cs)/\xs.length * P.bytesOf e<=reachBytes
  | some (.struct a)=>sL (Wt P n) a.toList ts
  | some (.array m e)=>vw (Wt P n e) m ts
  | _=>False
section
variable {H:Type} {enc:TypeId×Value->H} {P:Program} {w:World} {base:Nat} {sp:Nat->Bool} {held:Bool}
def nh{H:Type}(P:Program)(t:TypeId)(d:DataW H):Prop:= ∀k∈DataW.weights P t d,k<=reachBytes
theorem yL{H:Type}{P:Program}{e:TypeId}:∀{l:List (DataW H)} {d:DataW H},d∈l->∀k∈DataW.weights P e d,k∈DataW.weightsAll P e l
 | [],d,h,k,_=>by cases h
 | c::l,d,h,k,a=>by
  simp only [DataW.weightsAll,N4];rcases N2.1 h with rfl | h
  .exact .inl a
  .exact .inr (yL h k a)
theorem EU{H:Type}{P:Program}{us:List TypeId}{a:List (DataW H)}{k:Nat}:∀{ts:List TypeId} {ds:List (DataW H)},k∈DataW.weightsEach P ts ds->k∈DataW.weightsEach P (ts++us) (ds++a)
 | [],ds,h=>by simp [DataW.weightsEach] at h
 | t::ts,[],h=>by simp [DataW.weightsEach] at h
 | t::ts,d::ds,h=>by simp only [DataW.weightsEach,OL,N4] at h⊢;exact h.imp id EU
theorem aU.vD{A:Nat->Prop}:∀{a b:List T} {vs us:List Value},aU w A a vs->aU w A b us->aU w A (a++b) (vs++us)
 | [],b,vs,us,h,h'=>by simp only [aU] at h;subst h;simpa using h'
 | c::a,b,vs,us,⟨v,r,e,d,f⟩,h'=>by subst e;exact⟨v,r++us,rfl,d,aU.vD f h'⟩
theorem EK{n m:Nat}(o:∀(t:TypeId) (cs:List Value) (x:DataW H×List MemPlace),iz P n t=true->DataW.trod enc P w base sp held m t cs=some x->nh P t x.1->
   ∃ts,aU w (λb=>b < w.heap.size) ts cs/\Wt P n t ts) (cs:List Value):∀(i:List Field) (off E:Nat),rW P (iz P n) i off=some E->E<=cs.length->
   (∀f∈i,∃x,DataW.trod enc P w base sp held m f.type ((cs.drop f.offset).take (P.cellsOf f.type))=some x/\nh P f.type x.1)->
   off<=E/\∃ts,aU w (λb=>b < w.heap.size) ts ((cs.drop off).take (E - off))/\sL (Wt P n) i ts
 | [],off,E,d,k,_=>by simp only [rW,NL] at d;subst d;exact⟨Oh _,[],by simp [aU],rfl⟩
 | f::i,off,E,d,k,l=>by
  simp only [rW] at d;split at d
  .rename_i r;obtain⟨p,q⟩:=r;obtain⟨x,v,j⟩:=l f NN;obtain⟨a,y,B⟩:=o _ _ _ q v j;obtain⟨D,b,z,C⟩:=EK o cs i _ E d k λg u=>l g (NP _ u);refine⟨by omega,a++b, ?_,⟨a,b,rfl,B,C⟩⟩;have e:(cs.drop off).take (E - off)= (cs.drop f.offset).take (P.cellsOf f.type)++ (cs.drop (off+P.cellsOf f.type)).take (E - (off+P.cellsOf f.type)):=by
    rw [p,<-P3];have:E - off=P.cellsOf f.type+ (E - (off+P.cellsOf f.type)):=by omega
    rw [this,List.take_add]
   rw [e];exact aU.vD y z
  .cases d
theorem EL{n m e:Nat}(l:∀(t:TypeId) (cs:List Value) (x:DataW H×List MemPlace),iz P n t=true->DataW.trod enc P w base sp held m t cs=some x->nh P t x.1->
   ∃ts,aU w (λb=>b < w.heap.size) ts cs/\Wt P n t ts) (f:iz P n e=true):∀(k:Nat) (cs:List Value),cs.length=k * P.cellsOf e->
   (∀i,i < k->∃x,DataW.trod enc P w base sp held m e ((cs.drop (i * P.cellsOf e)).take (P.cellsOf e))=some x/\nh P e x.1)->∃ts,aU w (λb=>b < w.heap.size) ts cs/\vw (Wt P n e) k ts
 | 0,cs,hl,_=>by have:cs= []:=Oc.1 (by simpa using hl);subst this;exact⟨[],rfl,rfl⟩
 | k+1,cs,hl,g=>by
  obtain⟨x,j,d⟩:=g 0 (Nat.zero_lt_succ _);simp only [Nat.zero_mul,PU] at j;obtain⟨a,p,r⟩:=l _ _ _ f j d;obtain⟨b,q,u⟩:=EL l f k (cs.drop (P.cellsOf e)) (by rw [ON,hl,OJ];omega) λi v=>by
   obtain⟨y,o,d⟩:=g (i+1) (by omega);refine⟨y, ?_,d⟩;rw [P3];have:P.cellsOf e+i * P.cellsOf e= (i+1) * P.cellsOf e:=by rw [OJ];omega
   rw [this];exact o
  refine⟨a++b, ?_,⟨a,b,rfl,r,u⟩⟩;have:=aU.vD p q;rwa [List.take_append_drop] at this
theorem CK{A:Nat->Prop}{af sz:Nat}{n e:Nat}:∀(len off:Nat),(∀i,i < len->∃ts a,ts.length=sz/\aU w A ts a/\Wt P n e ts/\∀j v,a[j]? =some v->w.cell? ⟨af,off+i * sz+j,none⟩=some v)->
  ∃xs:List (List T),xs.length=len/\bf w A af sz off xs/\∀cs∈xs,Wt P n e cs
 | 0,off,_=>⟨[],rfl,trivial,(by intro c b;cases b)⟩
 | len+1,off,h=>by
  obtain⟨ts,a,d,f,g,k⟩:=h 0 (Nat.zero_lt_succ _);obtain⟨xs,m,o,p⟩:=CK (A:=A) (af:=af) (sz:=sz) (n:=n) (e:=e) len (off+sz) λi q=>by
   obtain⟨ts,a,d,f,g,k⟩:=h (i+1) (by omega);refine⟨ts,a,d,f,g,λj v l=> ?_⟩;have:=k j v l;have e:off+ (i+1) * sz+j=off+sz+i * sz+j:=by rw [OJ];omega
   rwa [e] at this
  refine⟨ts::xs,by simp [m],⟨d,bd.js f λj v l=> ?_,o⟩,λc b=> ?_⟩
  .have:=k j v l;simpa using this
  .rcases N2.1 b with rfl | b
   .exact g
   .exact p c b
theorem u6:∀(n:Nat) (m:Nat) (t:TypeId) (cs:List Value) (x:DataW H×List MemPlace),iz P n t=true->DataW.trod enc P w base sp held m t cs=some x->nh P t x.1->
  ∃ts,aU w (λb=>b < w.heap.size) ts cs/\Wt P n t ts
 | 0,m,t,cs,x,g,_,_=>by simp [iz] at g
 | n+1,m,t,cs,x,g,h,l=>by
  simp only [iz] at g;split at g
  .rename_i d;obtain⟨b,rfl,_⟩:=DataW.trod_bool d h;exact⟨[.bool b],⟨_,[],rfl,rfl,rfl⟩,by simp only [Wt,d];exact⟨b,rfl⟩⟩
  .rename_i k d;obtain⟨z,rfl,_,X⟩:=DataW.trod_int d h;exact⟨[.int k z],⟨_,[],rfl,rfl,rfl⟩,by simp only [Wt,d];exact⟨z,rfl,X⟩⟩
  .rename_i d;obtain⟨s,rfl,_,X⟩:=DataW.trod_string d h;exact⟨[.str s],⟨_,[],rfl,rfl,rfl⟩,by simp only [Wt,d];exact⟨s,rfl,X⟩⟩
  .rename_i e d;simp only [NT,decide_eq_true_eq] at g;obtain⟨V,C⟩:=g;rcases Go.Deep.open_slice d h with⟨rfl,_⟩ | ⟨a,len,cap,k,F,D,Pl,rfl,hb,hl,hm,hk,rfl,M⟩
   .exact⟨[.ab (P.cellsOf e) true []],⟨_,[],rfl, .inl ⟨rfl,rfl,rfl⟩,rfl⟩,by simp only [Wt,d];exact⟨true,[],rfl,λ_=>rfl,by simp,(by intro c B;cases B),by simp⟩⟩
   .obtain⟨af,off,s⟩:=a;have hlk:len<=k:=by rw [hk];split <;> omega
    dsimp only at l;have Q:len * P.bytesOf e<=reachBytes:=by have:=l ((len+ (k - len)) * P.bytesOf e) (by simp [DataW.weights,d]);exact OC (OI _ (P7 _ _)) this
    have K:∀i,i < len->nh P e (D i):=λi p q E=>l q (by
     simp only [DataW.weights,d,N2,N4];exact .inr (.inl (yL (Ou.2 ⟨i,Qx.2 p,rfl⟩) q E)))
    have I: 0 < len->s=none/\af < w.heap.size:=by
     intro h0;obtain⟨y,B,_⟩:=M 0 (by omega);obtain⟨J,u,r⟩:=World.cells?_some B;have L:=World.cells?_block B C;have o:=r 0 C;have N:((⟨af,off,s⟩:Addr).add (0 * P.cellsOf e)).add 0= ⟨af,off,s⟩:=by simp [Addr.add]
     rw [N] at o;have Z:∃v,y[0]? =some v:=⟨_,NZ (by omega)⟩;obtain⟨v,hv⟩:=Z;rw [hv] at o;refine⟨?_, ?_⟩
     .cases s with
      | none=>rfl
      | some z=>simp only [World.cell?] at o;split at o <;> simp at o
     .have e:((⟨af,off,s⟩:Addr).add (0 * P.cellsOf e))= ⟨af,off,s⟩:=by simp [Addr.add]
      rw [e] at L;exact L
    obtain⟨xs,k1,k2,k3⟩:=CK (P:=P) (w:=w) (A:=λb=>b < w.heap.size) (af:=af) (sz:=P.cellsOf e) (n:=n) (e:=e) len off λi p=>by
     obtain⟨y,B,hd⟩:=M i (by omega);obtain⟨hs,_⟩:=I (by omega);subst hs;obtain⟨ts,r1,G⟩:=u6 n F e y _ V hd (K i (by omega));obtain⟨J,u,r⟩:=World.cells?_some B;refine⟨ts,y,by rw [<-r1.length,u],r1,G,λj v hj=> ?_⟩;have hj':j < P.cellsOf e:=by rw [<-u];exact(NQ.1 hj).1
     have:=r j hj';rw [hj,fK,fK] at this;exact this
    refine⟨[.ab (P.cellsOf e) false xs],⟨_,[],rfl, .inr ⟨rfl,af,off,s,cap,by rw [k1],by omega, ?_,k2⟩,rfl⟩,by simp only [Wt,d];exact⟨false,xs,rfl,λh=>(by cases h),by omega,k3,by rw [k1];exact Q⟩⟩;by_cases h0:len=0
    .left;exact Oc.1 (by omega)
    .right;exact I (by omega)
  .rename_i Y d;simp only [decide_eq_true_eq] at g;obtain⟨xs,F,rfl,rfl,hl,hsz,U⟩:=DataW.trod_struct d h;dsimp only at l;obtain⟨_,ts,r1,G⟩:=EK (λt cs x=>u6 n F t cs x) cs Y.toList 0 _ g (by omega) λf hf'=>by
    obtain⟨i,p,e⟩:=List.getElem_of_mem hf';have e':Y.toList[i]? =some f:=by rw [NZ p,e]
    have:=U i f (by rw [<-OE];exact e');rw [this];have hx:xs[i]? =some (xs[i]'(by simp at p;omega)):=NZ (by simp at p;omega);refine⟨_,hx,λq E=>l q ?_⟩;simp only [DataW.weights,d];exact DataW.weights_mem_each (j:=i) (by rw [OQ,e'];rfl) (by rw [OQ,hx];rfl) q E
   refine⟨ts, ?_,by simp only [Wt,d];exact G⟩;simp only [PU,Nat.sub_zero] at r1;rwa [<-hl,List.take_length] at r1
  .rename_i m' e d;simp only [NT,decide_eq_true_eq] at g;obtain⟨xs,F,rfl,rfl,hl,hsz,U⟩:=DataW.trod_array d h;dsimp only at l;obtain⟨ts,r1,G⟩:=EL (λt cs x=>u6 n F t cs x) g.1 m' cs (by omega) λi p=>by
    rw [U i p];refine⟨_,NZ (by omega),λq E=>l q ?_⟩;simp only [DataW.weights,d];exact yL (Ou.2 ⟨_,P8 _,rfl⟩) q E
   exact⟨ts,r1,by simp only [Wt,d];exact G⟩
  .cases g
end
def r9(P:Program)(n:Nat):List TypeId->List AV->Prop
 | [],b=>b= []
 | t::ts,b=>∃a r,b=a::r/\((bI P t=true/\∃l,Wt P n t l/\a= .agg (l.map .t))\/(bI P t=false/\∃x,Wt P n t [x]/\a= .t x))/\r9 P n ts r
section
variable {H:Type} {enc:TypeId×Value->H} {P:Program} {W W':World} {sp:Nat->Bool} {held:Bool}
theorem KN{n:Nat}{t:TypeId}{v:Value}{d:DataW H}{F:List MemPlace}{r:Reach}{D base:Nat}(o:iz P (n+1) t=true)(f:Value.okWide P W r D t v)(h:DataW.Trod enc P W base sp held t v d F)(B:nh P t d):
  ∃a,((bI P t=true/\∃l,Wt P (n+1) t l/\a= .agg (l.map .t))\/(bI P t=false/\∃x,Wt P (n+1) t [x]/\a= .t x))/\aj W (λb=>b < W.heap.size) (λ_=>none) a v:=by
 obtain⟨m,hm⟩:=h;obtain⟨ts,r1,C⟩:=u6 (n+1) m t _ _ o hm B;have j:bI P t=false->v.cells= #[v]->∃a,((bI P t=true/\∃l,Wt P (n+1) t l/\a= .agg (l.map .t))\/(bI P t=false/\∃x,Wt P (n+1) t [x]/\a= .t x))/\aj W (λb=>b < W.heap.size) (λ_=>none) a v:=by
  intro p E;rw [E] at r1
  match ts,r1 with
  | [],r1=>simp [aU] at r1
  | [x],⟨u,q,e,g,_⟩=>simp only [OY] at e;obtain⟨rfl,_⟩:=e;exact⟨.t x, .inr ⟨p,x,C,rfl⟩,by simpa [aj] using g⟩
  | x::y::z,⟨u,q,e,_,⟨K,J,e',_⟩⟩=>subst e';simp at e
 have agg:bI P t=true->(∃cs,v= .agg cs)->∃a,((bI P t=true/\∃l,Wt P (n+1) t l/\a= .agg (l.map .t))\/(bI P t=false/\∃x,Wt P (n+1) t [x]/\a= .t x))/\aj W (λb=>b < W.heap.size) (λ_=>none) a v:=by rintro p ⟨cs,rfl⟩;refine⟨.agg (ts.map .t), .inl ⟨p,ts,C,rfl⟩, ?_⟩;simp only [aj];exact⟨cs.toList,by simp,az.jO r1,r1.one⟩
 simp only [iz] at o;split at o
 .rename_i i;simp only [Value.okWide,i,Cell.okWide] at f;refine j (by simp [bI,i]) ?_;cases v <;> first | rfl | (simp [Cell.ok,i] at f)
 .rename_i k i;simp only [Value.okWide,i,Cell.okWide] at f;refine j (by simp [bI,i]) ?_;cases v <;> first | rfl | (simp [Cell.ok,i] at f)
 .rename_i i;simp only [Value.okWide,i,Cell.okWide] at f;refine j (by simp [bI,i]) ?_;cases v <;> first | rfl | (simp [Cell.ok,i] at f)
 .rename_i e i;simp only [Value.okWide,i,Cell.okWide] at f;refine j (by simp [bI,i]) ?_;cases v <;> first | rfl | (simp [Cell.ok,i] at f)
 .rename_i G i;simp only [Value.okWide,i] at f;obtain⟨cs,e,_⟩:=f;exact agg (by simp [bI,i]) ⟨cs,e⟩
 .rename_i I e i;simp only [Value.okWide,i] at f;obtain⟨cs,e,_⟩:=f;exact agg (by simp [bI,i]) ⟨cs,e⟩
 .cases o
theorem C5{n:Nat}{r:Reach}{y base:Nat}:∀{ts:List TypeId} {vs:List Value} {ds:List (DataW H)} {m:List MemPlace},ts.all (iz P (n+1))=true->(∀(j:Nat) (t:TypeId) (v:Value),ts[j]? =some t->vs[j]? =some v->Value.okWide P W r y t v)->
  DataW.TrodAll enc P W base sp held ts vs ds m->(∀k∈DataW.weightsEach P ts ds,k<=reachBytes)->∃e,r9 P (n+1) ts e/\az W (λb=>b < W.heap.size) (λ_=>none) e vs
 | [],vs,ds,m,_,_,h,_=>by obtain⟨rfl,_,_⟩:=trodAll_nil h;exact⟨[],rfl,by simp [az]⟩
 | t::ts,vs,ds,m,g,i,h,f=>by simp only [O6,NT] at g;obtain⟨v,x,d,J,p,q,rfl,rfl,rfl,z,B⟩:=trodAll_cons h;obtain⟨a,C,D⟩:=KN g.1 (i 0 t v rfl rfl) z (λk l=>f k (by simp only [DataW.weightsEach,N4];exact .inl l));obtain⟨e,o,u⟩:=C5 g.2 (λj G I E F=>i (j+1) G I (by simpa using E) (by simpa using F)) B (λk l=>f k (by simp only [DataW.weightsEach,N4];exact .inr l));exact⟨a::e,⟨a,e,rfl,C,o⟩,by simp only [az];exact⟨v,x,rfl,D,u⟩⟩
theorem Ee(hl:laidOutB P=true)(i:Below W.heap.size W W'):∀{ts:List TypeId} {vs:List Value} {ds:List (DataW H)} {a:List MemPlace},(ts.all λt=>P.readableRec t && decide (t < P.types.size))=true->
  DataW.TrodAll enc P W 0 (λ_=>true) true ts vs ds a->(∀x∈a,x.block < W.heap.size)->DataW.TrodAll enc P W' 0 (λb=>decide (b < W.heap.size)) true ts vs ds a
 | [],vs,ds,a,_,h,_=>by obtain⟨rfl,rfl,rfl⟩:=trodAll_nil h;exact trodAll_mk0
 | t::ts,vs,ds,a,e,h,f=>by simp only [O6,NT,decide_eq_true_eq] at e;obtain⟨v,m,d,l,p,q,rfl,rfl,rfl,j,k⟩:=trodAll_cons h;exact trodAll_cons_mk (Below.trod hl e.1.1 e.1.2 j i λx g=>f x (N3 _ g)) (Ee hl i (by simpa using e.2) k λx g=>f x (N1 _ g))
theorem Fu(a:Below W.heap.size W W')(b:MemPlace->Prop):W.keptBut W' b:=by
 refine⟨a.os,a.output,λi d=> ?_⟩;rw [a.block i d];cases W.heap[i]? with
 | none=>rfl
 | some o=>cases o <;> first | exact⟨rfl,rfl,rfl,λ_ _=>rfl⟩ | exact .inr ⟨rfl,rfl⟩ | rfl
theorem law_contract{n:Nat}{fn:Func}{s:ChangeSpec}{An:cC}{f:FuncId}{tb:TypeId}(hm:P.follows .mixedOrders=true)(hn:(P.funcs.toList.all λfn=>fn.name != "runtime.NumGoroutine")=true)(hl:laidOutB P=true)
  (N:P.funcs[f]? =some fn) (G:An.gu f=none) (I:cZ P An f 0 fn= [.f .b]) (Y:P.underlying tb=some .bool) (X:fn.resultTypes= #[tb])
  (C:fn.params.toList.all (iz P (n+1))=true) (l:(fn.params.toList.all λt=>P.readableRec t && decide (t < P.types.size))=true)
  (m:s.vars= []) (B:∀(ds:List (DataW H)),ds.length=fn.params.toList.length->s.fn H ds= {results:= [.lit (.bool true)],args:=ds})
  (g:∀a,r9 P (n+1) fn.params.toList a->jP P An (.call f) a []=some [.bool true])
  (W:World) (base:Nat) (args:Array Value) (ds J:List (DataW H)) (r:List MemPlace) (z:∀(j:Nat) t v,fn.params[j]? =some t->args[j]? =some v->Value.okWide P W .any base t v)
  (K:DataW.Whole enc P fn.params.toList s.vars false W args.toList ds J r)
  (D:(DataW.weightsEach P (fn.params.toList++s.plain.varTypes P) (ds++J)).all (· <=reachBytes)=true)
  (hX:lb P An:=by exact Go.Aev.lb.no λ_ _ _=>rfl) (hG:GlobOk W:=by exact Go.Aev.globOk _):
  Calls P f args W λe W'=>∃v,e= .returned v/\s.post enc P fn false true false false W args v W':=by
 have u:=K;obtain⟨p,q,o,E,rfl,hz,Q⟩:=K;rw [m] at E;obtain⟨rfl,rfl⟩:=trodVars_none E;obtain⟨a,L,V⟩:=C5 C (λj t v ht hv=>z j t v (by rw [<-OE];exact ht) (by rw [<-OE];exact hv)) o (λk hk=>by simpa using N6.1 D k (EU hk));have F:ds.length=fn.params.toList.length:=by
  clear u V L z hz Q E l C g D;generalize fn.params.toList=ts at o;generalize args.toList=vs at o;induction ts generalizing vs ds p with
  | nil=>obtain⟨_,rfl,_⟩:=trodAll_nil o;rfl
  | cons t ts ih=>obtain⟨v,vs',d,ds',p',q',_,rfl,_,_,Z⟩:=trodAll_cons o;simp [ih _ _ _ Z]
 have U:∀(f:FuncId) (fn:Func),P.funcs[f]? =some fn->fn.name≠ "runtime.NumGoroutine" :=by intro f fn h;have:=N6.1 hn fn (NU (i:=f) (by rw [OE];exact h));simpa using this
 have:=FR (w:=W) (A0:=λb=>b < W.heap.size) hX hm U N G I (λ_ h=>h) V (g a L) hG;rw [show args.toList.toArray=args from by simp] at this;refine this.mono λe W' ⟨he,M⟩=>⟨.bool true,he, ?_⟩;have y:=B ds F;refine⟨ds,[],p++ [],[],p,[],u, ?_, ?_, ?_,Fu M _,λh=>by cases h⟩
 .rw [Oj,y,X];exact trodAll_cons_mk (shut_bool Y true) trodAll_mk0
 .rw [Oj,y];exact Ee hl M l o (λx hx=>u.lt x (by simpa using hx))
 .rw [Oj,y,m];rfl
end
section
variable {P:Program} {n:Nat} {t:TypeId} {ts:List T}
theorem NG{k:IntKind}(a:P.underlying t=some (.int k))(h:Wt P (n+1) t ts):∃m,ts= [.int k m]/\(Lit.int k m).wf=true:=by simpa only [Wt,a] using h
theorem EW(a:P.underlying t=some .string)(h:Wt P (n+1) t ts):∃s,ts= [.str s]/\s.size<=maxLen:=by simpa only [Wt,a] using h
theorem ma{a:Array Field}(b:P.underlying t=some (.struct a))(h:Wt P (n+1) t ts):sL (Wt P n) a.toList ts:=by simpa only [Wt,b] using h
theorem NH{e:TypeId}(a:P.underlying t=some (.slice e))(h:Wt P (n+1) t ts):∃b xs,ts= [.ab (P.cellsOf e) b xs]/\(b=true->xs= [])/\xs.length<=maxLen/\(∀cs∈xs,Wt P n e cs)/\xs.length * P.bytesOf e<=reachBytes:=by simpa only [Wt,a] using h
theorem qe{k:Type}(g:k->List T){e:TypeId}(r:P.underlying t=some (.slice e))(h:Wt P (n+1) t ts)(q:∀cs,Wt P n e cs->∃a,cs=g a):
  ∃b l,ts= [.ab (P.cellsOf e) b (l.map g)]/\(b=true->l= [])/\l.length<=maxLen/\l.length * P.bytesOf e<=reachBytes:=by
 obtain⟨b,xs,rfl,d,f,i,j⟩:=NH r h;have:∃l:List k,xs=l.map g:=by
  clear d f h j;induction xs with
  | nil=>exact⟨[],rfl⟩
  | cons c xs u=>obtain⟨a,m⟩:=q c (i c NN);obtain⟨l,hl⟩:=u λcs p=>i cs (NP _ p);exact⟨a::l,by rw [m,hl];rfl⟩
 obtain⟨l,rfl⟩:=this;exact⟨b,l,rfl,λo=>by simpa using d o,by simpa using f,by simpa using j⟩
theorem zd{a:AV}(h:(bI P t=true/\∃l,Wt P n t l/\a= .agg (l.map .t))\/(bI P t=false/\∃x,Wt P n t [x]/\a= .t x))(b:bI P t=true):∃l,Wt P n t l/\a= .agg (l.map .t):=by
 rcases h with h | h
 .exact h.2
 .rw [b] at h;cases h.1
end
end Go.Aev
