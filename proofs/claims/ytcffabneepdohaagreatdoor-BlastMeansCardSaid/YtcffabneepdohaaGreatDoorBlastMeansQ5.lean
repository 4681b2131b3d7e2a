import Derived.Test.YtcffabneepdohaaGreatDoorBlastMeansQ4
import Derived.Orders
import Derived.Still
import Derived.Below
import Derived.Deep.Slices
import Derived.Carry
import Derived.ProofKit
import Derived.OpenShut
import Derived.SizedLaws
set_option linter.all false
namespace Go.Aev
open Go Go.IntKind
section
variable {P:Program} {An:cR} {Or:aq} {w w':World} {A A':Nat->Prop} {c:Ctx} {ρ:Id->Option Value} {O:Id->Option Nat} {s s':St}
structure fG (c:Ctx) (nt:Nat) (w:World) (s:St) (ρ:Id->Option Value) (O:Id->Option Nat) (a:Act):Prop where
 hs:HS c w s.h ρ O
 ss:SS w (AA c w O) ρ s.t a.tmps
 nt:a.tmps.size=nt
 defers:a.defers= []
def pn(ops:Array Oper)(s:St):Prop:= ∀k g v,s.t k= (some g,v)->eD ops (some g.d)=true
theorem oE{a:Act}{d k:Nat}{x:Value}(b:d < a.tmps.size):(a.put (some d) x).tmps.getD k undef=if k=d then x else a.tmps.getD k undef:=by
 simp only [Act.put];by_cases e:k=d
 .subst e;simp [b]
 .rw [if_neg e];simp [Zc (Za e)]
theorem zi(a:Act)(d:Option Nat)(x:Value):(a.put d x).tmps.size=a.tmps.size:=by cases d <;> simp [Act.put]
theorem zh(a:Act)(d:Option Nat)(x:Value):(a.put d x).defers=a.defers:=by cases d <;> rfl
theorem PA{ops:Array Oper}{o:Oper}{a:Act}{g:Option Gs}(L:SS w A ρ s.t a.tmps)(h:dL ops o s some=some g):
  (Region.wanted o (yielded ops a.tmps)=true->l0 a.tmps g)/\
  (Region.wanted o (yielded ops a.tmps)=false->∃i,g=some i/\a.tmps.getD i.d undef≠ .bool i.want/\i.c=false)/\
  (∀i,g=some i->eD ops (some i.d)=true\/∀Q∈ops,Q≠o):=by
 unfold dL at h;cases q:o.guard with
 | none=>simp only [q,Wj] at h;subst h;exact⟨λ_=>trivial,λh=>by simp [Region.wanted,q] at h,λi h=>by cases h⟩
 | some p=>
  obtain⟨j,want⟩:=p;simp only [q] at h;cases B:(ops[j]?).bind (·.dst) with
  | none=>simp [B] at h
  | some d=>
   simp only [B] at h;replace h:=Wk.1 h;obtain⟨x,m,h⟩:=h;have M:Region.wanted o (yielded ops a.tmps)=true↔a.tmps.getD d undef= .bool want:=by
    simp only [Region.wanted,q,yielded,B,Wq,beq_iff_eq];rw [XX];cases a.tmps[d]? with
    | none=>simp [undef]
    | some u=>cases u <;> simp
   have J:∀i,g=some i->i.d=d/\i.want=want:=by intro i e;replace h:=rJ h;obtain⟨b,h,_⟩:=h;simp only [Wj] at h;rw [<-h] at e;simp only [Wj] at e;subst e;exact⟨rfl,rfl⟩
   have C:∃i,g=some i:=by replace h:=rJ h;obtain⟨b,h,_⟩:=h;simp only [Wj] at h;exact⟨_,h.symm⟩
   obtain⟨i,rfl⟩:=C;obtain⟨F,G⟩:=J i rfl;refine⟨λN=> ?_,λE=>⟨i,rfl, ?_⟩,λX e=> ?_⟩
   .have D:=M.1 N;simp only [l0,F,G];refine⟨D, ?_⟩;have f:=L d;rw [D] at f;cases y:s.t d with
    | mk gd v=>
     rw [y] at f m h;dsimp only at m h f;rw [AV.nh m] at f;cases gd with
     | none=>simp only [ao] at f;simp only [Zf] at h;replace h:=aS h (.inl rfl);obtain⟨b,l,h⟩:=h;simp only [Wj] at h;have:=T.jG l;subst this;simp only [az,Value.bool.injEq] at f;rw [<-h,<-f];cases want <;> rfl
     | some g0=>
      simp only at f;rcases f with⟨_,k,z⟩ | ⟨_,_,V⟩
      .simp only [X4,k] at h;replace h:=aS h (.inr rfl);obtain⟨b,l,h⟩:=h;simp only [Wj] at h;have:=T.jG l;subst this;simp only [ao,az,Value.bool.injEq] at z;rw [<-h,<-z];simp only [gC,k];cases want <;> rfl
      .simp [undef] at V
   .have r:a.tmps.getD d undef≠ .bool want:=λU=>by
     have:=M.2 U;rw [this] at E;cases E
    refine⟨by rw [F,G];exact r, ?_⟩;have f:=L d;cases y:s.t d with
    | mk gd v=>
     rw [y] at f m h;dsimp only at m h f;rw [AV.nh m] at f;cases gd with
     | none=>simp only [ao] at f;simp only [Zf] at h;replace h:=aS h (.inl rfl);obtain⟨b,l,h⟩:=h;simp only [Wj] at h;have:=T.jG l;subst this;simp only [az] at f;have I:b≠want:=λe=>r (by rw [f,e]);rw [<-h];simp only [gC];cases b <;> cases want <;> simp_all [xS]
     | some g0=>
      simp only at f;rcases f with⟨_,k,z⟩ | ⟨_,k,_⟩
      .simp only [X4,k] at h;replace h:=aS h (.inr rfl);obtain⟨b,l,h⟩:=h;simp only [Wj] at h;have:=T.jG l;subst this;simp only [ao,az] at z;have I:b≠want:=λe=>r (by rw [z,e]);rw [<-h];simp only [gC,k];cases b <;> cases want <;> simp_all [xS]
      .replace h:=rJ h;obtain⟨b,h,_⟩:=h;simp only [Wj] at h;rw [<-h];simp [gC,k]
   .simp only [Wj] at e;subst e;by_cases hm:o∈ops
    .left;unfold eD;rw [YI];exact⟨o,hm,by simp [q,B,F]⟩
    .right;intro Q K e;exact hm (e▸K)
theorem CI{ops:Array Oper}{o:Oper}{g:Option Gs}{v:AV}{us:aH}(b:pn ops s)(p:∀q,g=some q->eD ops (some q.d)=true):pn ops (s.put (eD ops o.dst) o.dst g v us):=by
 intro k m u a;cases r:o.dst with
 | none=>simp only [St.put,r] at a;exact b k m u a
 | some d=>
  simp only [St.put,r] at a;by_cases e:k=d
  .simp only [if_pos e,Xa] at a;exact p m a.1
  .simp only [if_neg e] at a;cases f:eD ops (some d) with
   | false=>rw [f,cond_false] at a;exact b k m u a
   | true=>
    rw [f,cond_true] at a;cases l:s.t k with
    | mk i vk=>
     rw [l] at a;cases i with
     | none=>simp [nG] at a
     | some i=>
      simp only [nG] at a;cases j:(i.d==d) with
      | true=>simp [j] at a
      | false=>simp only [j,cond_false,Xa,Wj] at a;rw [<-a.1];exact b k i vk l
theorem zj{nt:Nat}{ops:Array Oper}{o:Oper}{a:Act}{g:Option Gs}{v:AV}{us:aH}(ss:SS w (AA c w O) ρ s.t a.tmps)(E:a.tmps.size=nt)(D:pn ops s)
  (u:∀d,o.dst=some d->d < nt) (C:∀j d,g=some j->o.dst=some d->j.d≠d)
  (w':World) (ρ':Id->Option Value) (O':Id->Option Nat) (x:Value) (I:∀b,AA c w O b->AA c w' O' b/\w'.heap[b]? =w.heap[b]?) (G:∀i v,ρ i=some v->ρ' i=some v)
  (F:match g with
   | none=>ao w' (AA c w' O') ρ' v x
   | some j=>(a.tmps.getD j.d undef= .bool j.want/\j.c=true/\ao w' (AA c w' O') ρ' v x)\/(a.tmps.getD j.d undef≠ .bool j.want/\j.c=false/\x=undef)):
  SS w' (AA c w' O') ρ' (s.put (eD ops o.dst) o.dst g v us).t (a.put o.dst x).tmps:=by
 have r:=SS.mono I G ss;cases z:o.dst with
 | none=>simp only [St.put,Act.put];exact r
 | some d=>
  have f:d < a.tmps.size:=by rw [E];exact u d z
  intro k;simp only [St.put];by_cases e:k=d
  .subst e;simp only [if_true];cases g with
   | none=>simp only;rw [oE f,if_pos rfl];exact F
   | some j=>have p:j.d≠k:=C j k rfl z;simp only;rw [oE f,oE f,if_neg p,if_pos rfl];exact F
  .simp only [if_neg e];have l:=r k;cases y:eD ops (some d) with
   | false=>
    simp only [cond_false];cases q:s.t k with
    | mk m vk=>
     rw [q] at l;cases m with
     | none=>simp only at l⊢;rw [oE f,if_neg e];exact l
     | some m=>
      have p:m.d≠d:=by intro e';have:=D k m vk q;rw [e',y] at this;cases this
      simp only at l⊢;rw [oE f,oE f,if_neg e,if_neg p];exact l
   | true=>
    simp only [cond_true];cases q:s.t k with
    | mk m vk=>
     rw [q] at l;cases m with
     | none=>simp only [nG] at l⊢;rw [oE f,if_neg e];exact l
     | some m=>
      simp only [nG];cases B:(m.d==d) with
      | true=>simp [ao]
      | false=>
       have p:m.d≠d:=by simpa using B
       simp only [cond_false] at l⊢;rw [oE f,oE f,if_neg e,if_neg p];exact l
theorem SS.tY{tmps:Array Value}{e:Gs}(hs:SS w A ρ s.t tmps)(l:tmps.getD e.d undef= .bool e.want):SS w A ρ (s.tY e).t tmps:=by
 intro k;have b:=hs k;simp only [St.tY];cases f:s.t k with
 | mk g v=>
  rw [f] at b;cases g with
  | none=>simp only [mo,cond_true] at b⊢;exact b
  | some g0=>
   by_cases a:mo (some g0) (some e)=true
   .simp only [a,cond_true];simp only [mo,Ww,beq_iff_eq] at a;simp only at b;rcases b with⟨_,_,j⟩ | ⟨i,_⟩
    .exact j
    .exfalso;apply i;rw [a.1,a.2];exact l
   .simp only [Yj] at a;simp only [a,cond_false];exact b
theorem IT{m:Bool}{nt:Nat}{ops:Array Oper}{o:Oper}{a:Act}(hO:ko P An Or)(f:fG c nt w s ρ O a)(p:pn ops s)(hmem:o∈ops)(h:fV P An Or m nt ops o s=some s'):
  pn ops s'/\∀(K:Act->World->Prop) (Q:Exit->Act->World->Prop),(∀a' w' ρ' O',Le w ρ O w' ρ' O'->fG c nt w' s' ρ' O' a'->K a' w')->
   if Region.wanted o (yielded ops a.tmps) then o.wp P a w K Q\/(o.asks P a w/\LetsOut Q) else K (a.put o.dst undef) w:=by
 unfold fV qt at h;rw [yG] at h;replace h:=Wk.1 h;obtain⟨g,hg,h⟩:=h;obtain⟨G,B,Z⟩:=PA f.ss hg;have y:∀j,g=some j->eD ops (some j.d)=true:=λj e=>(Z j e).resolve_right λhn=>hn o hmem rfl;cases l:sB An m o g with
 | none=>
  rw [l] at h;dsimp only at h;rw [sS] at h;replace h:=Wk.1 h;obtain⟨⟨v,us⟩,M,h⟩:=h;dsimp only at h;rw [vQ] at h;replace h:(if oO P An m nt ops o g s v us then some (s.put (eD ops o.dst) o.dst g v us) else none)=some s':=by
   cases hk:kJ An m o s.h us with
   | false=>rw [hk] at h;cases h
   | true=>rw [hk] at h;exact h
  split at h
  .rename_i F;simp only [Wj] at h;subst h;simp only [oO,Ww] at F;obtain⟨⟨⟨hdst,I⟩,z⟩,_⟩:=F;have k:∀d,o.dst=some d->d < nt:=λd e=>by simpa [e] using hdst
   have E:∀j d,g=some j->o.dst=some d->j.d≠d:=λj d X Y=>by subst X;simp only [Y,Ww,Xo,beq_eq_false_iff_ne,ne_eq,Wj] at I;exact λe=>I.2 e.symm
   refine⟨CI p y,λK Q L=> ?_⟩;split
   .rename_i q;left;have i:=G q;refine jA.wp (D8 hO f.hs f.ss i M z) λx w' ⟨ρ',O',le,N,V⟩=> ?_;refine L _ w' ρ' O' le ⟨N, ?_,by rw [zi];exact f.nt,by rw [zh];exact f.defers⟩;refine zj f.ss f.nt p k E w' ρ' O' x (λb r=>le.A b r) le.fq ?_;cases g with
    | none=>exact V
    | some j=>exact .inl ⟨i.1,i.2,V⟩
   .rename_i q;obtain⟨j,rfl,J,u⟩:=B (by simpa using q);have hus:us= []:=by
     simp only [Ww,XN] at I;exact I.1
    subst hus;refine L _ w ρ O Le.refl ⟨f.hs, ?_,by rw [zi];exact f.nt,by rw [zh];exact f.defers⟩;exact zj f.ss f.nt p k E w ρ O undef (λb r=>⟨r,rfl⟩) (λ_ _ h=>h) (.inr ⟨J,u,rfl⟩)
  .simp at h
 | some j=>
  rw [l] at h;dsimp only at h;have hg':g=some j:=by
   cases g with
   | none=>simp [sB] at l
   | some g0=>
    simp only [sB] at l;cases r:(!m && fp An o) with
    | false=>rw [r] at l;cases l
    | true=>rw [r] at l;simpa using l
  subst hg';cases D:ye nt o j with
  | false=>rw [D] at h;cases h
  | true=>
   rw [D,cond_true] at h;simp only [ye,Ww] at D;have k:∀d,o.dst=some d->d < nt:=λd e=>by simpa [e] using D.1
   have E:∀C d,some j=some C->o.dst=some d->C.d≠d:=λC d X Y=>by cases X;have:=D.2;simp only [Y,Xo,beq_eq_false_iff_ne,ne_eq,Wj] at this;exact λe=>this e.symm
   cases U:j.c with
   | false=>
    rw [U,cond_false] at h;simp only [Wj] at h;subst h;refine⟨CI p y,λK Q L=> ?_⟩;split
    .rename_i q;have:=(G q).2;rw [U] at this;cases this
    .rename_i q;obtain⟨C,e,J,u⟩:=B (by simpa using q);cases e;refine L _ w ρ O Le.refl ⟨f.hs, ?_,by rw [zi];exact f.nt,by rw [zh];exact f.defers⟩;exact zj f.ss f.nt p k E w ρ O undef (λb r=>⟨r,rfl⟩) (λ_ _ h=>h) (.inr ⟨J,u,rfl⟩)
   | true=>
    rw [U,cond_true,sS] at h;replace h:=Wk.1 h;obtain⟨⟨v,us⟩,M,h⟩:=h;dsimp only at h;split at h
    .rename_i F;simp only [Wj] at h;subst h;simp only [oO,Ww] at F;obtain⟨⟨⟨_,_⟩,z⟩,_⟩:=F;refine⟨CI p y,λK Q L=> ?_⟩;split
     .rename_i q;left;have i:=G q;refine jA.wp (D8 (s:=s.tY j) (g:=none) hO f.hs (f.ss.tY i.1) trivial M z) λx w' ⟨ρ',O',le,N,V⟩=> ?_;refine L _ w' ρ' O' le ⟨N, ?_,by rw [zi];exact f.nt,by rw [zh];exact f.defers⟩;exact zj f.ss f.nt p k E w' ρ' O' x (λb r=>le.A b r) le.fq (.inl ⟨i.1,i.2,V⟩)
     .rename_i q;obtain⟨C,e,J,u⟩:=B (by simpa using q);cases e;rw [U] at u;cases u
    .simp at h
theorem fG.clear{nt:Nat}{a:Act}(b:fG c nt w s ρ O a):fG c nt w s.clear ρ O a:=by
 refine⟨b.hs,λk=> ?_,b.nt,b.defers⟩;have:=b.ss k;simp only [St.clear];cases d:s.t k with
 | mk e vk=>
  rw [d] at this;cases e with
  | none=>exact this
  | some g=>simp [ao]
def pk(s:St):Prop:= ∀k g v,s.t k≠(some g,v)
theorem Mu(s:St):pk s.clear:=by intro k g v h;simp only [St.clear] at h;split at h <;> simp at h
theorem pk.Hl(h:pk s)(ops:Array Oper):pn ops s:=λk g v e=>(h k g v e).elim
theorem Jv{g:Bool}{nt:Nat}{ops:Array Oper}(v:ko P An Or){Q:Exit->Act->World->Prop}:∀{l:List Oper} {k:Nat} {w:World} {s:St} {ρ:Id->Option Value} {O:Id->Option Nat} {a:Act},
  (∀j,l[j]? =ops[k+j]?)->fG c nt w s ρ O a->pn ops s->jR P An Or g nt ops l s=some s'->
  (∀f w' ρ' O',Le w ρ O w' ρ' O'->fG c nt w' s' ρ' O' f->Q .normal f w')->wpOps P ops Q (List.range' k l.length) a w
 | [],k,w,s,ρ,O,a,hl,b,e,h,i=>by simp only [jR,Wj] at h;subst h;exact i a w ρ O Le.refl b
 | o::l,k,w,s,ρ,O,a,hl,b,e,h,i=>by
  simp only [jR] at h;obtain⟨s1,z,h⟩:=Wk.1 h;have h0:ops[k]? =some o:=by simpa using (hl 0).symm
  obtain⟨m,step⟩:=IT v b e (W2 h0) z;rw [Wz,Yk];simp only [wpOps,h0];refine step _ Q λf w' ρ' O' le p=> ?_;exact Jv v (λj=>by have:=hl (j+1);simpa [Yw,Nat.add_comm 1 j] using this) p m h
   (λu y q r x d=>i u y q r (le.trans x) d)
theorem Sv{nt id:Nat}{ops:Array Oper}{a:Act}(f:ko P An Or){Q:Exit->Act->World->Prop}(e:fG c nt w s ρ O a)(i:pk s)(h:jR P An Or false nt ops ops.toList s=some s')
  (g:∀b w' ρ' O',Le w ρ O w' ρ' O'->fG c nt w' s'.clear ρ' O' b->Q .normal b w'):(Code.region id ops false).wp P Q a w:=by
 refine wp_region ?_;rw [Zd,<-WY];exact Jv f (by intro j;simp) e (i.Hl ops) h λb w' ρ' O' le d=>g b w' ρ' O' le d.clear
end
open Go Go.IntKind
section
variable {P:Program} {A:cR} {O:aq} {R:Type} {h h':Id->Option aa} {s s':St}
theorem lH{v:AV}{vs:List AV}{i:Id}:i∈cy (v::vs)↔i∈v.ids\/i∈cy vs:=by simp [cy]
theorem ux{v:AV}(a:∀i∈v.ids,h' i=h i):ei h' v=ei h v:=by
 cases v <;> simp only [ei]
 all_goals rw [a _ (by simp [AV.ids])]
theorem yB{v:AV}(a:∀i∈v.ids,h' i=h i):iH h' v=iH h v:=by
 cases v <;> simp only [iH]
 all_goals rw [a _ (by simp [AV.ids])]
theorem Kc:∀{vs:List AV},(∀i∈cy vs,h' i=h i)->mr h' vs=mr h vs
 | [],_=>rfl
 | v::vs,b=>by simp only [mr];rw [ux λi a=>b i (lH.2 (.inl a)),Kc λi a=>b i (lH.2 (.inr a))]
theorem G0:∀{vs:List AV},(∀i∈cy vs,h' i=h i)->nK h' vs=nK h vs
 | [],_=>rfl
 | v::vs,b=>by simp only [nK];rw [yB λi a=>b i (lH.2 (.inl a)),G0 λi a=>b i (lH.2 (.inr a))]
theorem Kf{v:AV}(a:∀i∈v.ids,h' i=h i):mq h' v=mq h v:=by
 cases v
 case agg vs=>simp only [mq];exact Kc (by simpa [AV.ids] using a)
 all_goals (simp only [mq];rw [ux a])
theorem G3{v:AV}(a:∀i∈v.ids,h' i=h i):iw h' v=iw h v:=by
 cases v
 case agg vs=>simp only [iw];exact G0 (by simpa [AV.ids] using a)
 all_goals (simp only [iw];rw [yB a])
theorem Eb{b:Bool}{v:AV}(a:∀i∈v.ids,h' i=h i):lf b false h' v=lf b false h v:=by
 cases v
 case ref i off=>simp only [lf,cond_false];rw [a i (by simp [AV.ids]),ux a,yB a]
 all_goals (simp only [lf];rw [ux a,yB a])
theorem xG{b:Bool}:∀{vs:List AV},(∀i∈cy vs,h' i=h i)->nw b false h' vs=nw b false h vs
 | [],_=>rfl
 | v::vs,d=>by simp only [nw];rw [Eb λi a=>d i (lH.2 (.inl a)),xG λi a=>d i (lH.2 (.inr a))]
theorem Ef{g:Bool}{v:AV}(d:∀i∈v.ids,h' i=h i):mz g false h' v=mz g false h v:=by
 cases v
 case agg vs=>simp only [mz];rw [xG (by simpa [AV.ids] using d)]
 case fn f a b=>simp only [AV.ids,WK] at d;simp only [mz];rw [xG λi e=>d i (.inl e),xG λi e=>d i (.inr e)]
 all_goals (simp only [mz];rw [Eb d])
theorem Eh{b:Bool}:∀{vs:List AV},(∀i∈cy vs,h' i=h i)->mA b false h' vs=mA b false h vs
 | [],_=>rfl
 | v::vs,d=>by simp only [mA];rw [Ef λi a=>d i (lH.2 (.inl a)),Eh λi a=>d i (lH.2 (.inr a))]
theorem vM:∀{a b:List AV} {i:Id},i∈cy (a++b)↔i∈cy a\/i∈cy b
 | [],b,i=>by simp [cy]
 | v::a,b,i=>by rw [Xp,lH,lH,vM,or_assoc]
theorem BO:∀{vs:List AV} {i:Id},i∈cy vs->∃v∈vs,i∈v.ids
 | v::vs,i,a=>by
  rcases lH.1 a with a | a
  .exact⟨v,Wl,a⟩
  .obtain⟨u,b,d⟩:=BO a;exact⟨u,Wn _ b,d⟩
 | [],i,a=>by simp [cy] at a
theorem AD{d:Nat}{c:Option Bool}{f:FuncId}{args:List AV}{K:AV->aH->Option R}(a:s'.h=s.h\/(A.ji f=none/\A.deep f=false/\∀i∈cy args,s'.h i=s.h i)):il P A O s' d c f args K=il P A O s d c f args K:=by
 unfold il;rcases a with a | ⟨g,j,a⟩
 .rw [a]
 .have e:∀b,mA b false s'.h args=mA b false s.h args:=λb=>Eh a;simp only [g,j,e]
theorem CS{c:Option Bool}{i:Id}{n:Nat}{K:Nat->Bool->List (List T)->Option R}(a:h' i=h i):na h' c i n K=na h c i n K:=by unfold na;rw [a]
theorem Mm{iL:Bool}{d:Nat}{c:Option Bool}{f:FuncId}{args:List AV}{K:AV->aH->Option R}(a:s'.h=s.h\/(iL=false/\A.ji f=none/\A.deep f=false/\∀i∈cy args,s'.h i=s.h i)):kz iL P A O s' d c f args K=kz iL P A O s d c f args K:=by
 rcases a with a | ⟨rfl,a⟩
 .unfold kz;rw [a];cases cond iL (js args) none with
  | none=>exact AD (.inl a)
  | some q=>obtain⟨b,i,n,e⟩:=q;dsimp only;split <;> rfl
 .exact AD (.inr a)
theorem P6{c:Option Bool}{t:TypeId}{a:AV}{K:AV->Option R}(b:∀i∈a.ids,s'.h i=s.h i):ix P s' c t a K=ix P s c t a K:=by unfold ix;cases a <;> (try rfl) <;> (simp only [];first | rw [CS (b _ (by simp [AV.ids]))] | rw [b _ (by simp [AV.ids])])
theorem UA{t:TypeId}{a v:AV}{K:aH->Option R}(d:∀i∈a.ids,s'.h i=s.h i)(b:∀i∈v.ids,s'.h i=s.h i):jU P s' t a v K=jU P s t a v K:=by
 unfold jU;cases a <;> (try rfl) <;> (simp only [];rw [d _ (by simp [AV.ids])];try rw [Kf b,G3 b]);cases v
 case own j=>simp only [b j (by simp [AV.ids])]
 all_goals rfl
theorem PD{c:Option Bool}{t:TypeId}{x:AV}{i:Int}{K:AV->Option R}(a:∀i∈x.ids,s'.h i=s.h i):kG P s' c t x i K=kG P s c t x i K:=by
 unfold kG;cases x
 case row i n=>simp only [CS (a i (by simp [AV.ids]))]
 all_goals first | rfl | (simp only [];rw [a _ (by simp [AV.ids])])
theorem PU{c:Option Bool}{t:TypeId}{x:AV}{K:AV->Option R}(a:∀i∈x.ids,s'.h i=s.h i):oI P s' c t x K=oI P s c t x K:=by
 unfold oI;cases x
 case row i n=>simp only [CS (a i (by simp [AV.ids]))]
 all_goals first | rfl | (simp only [];rw [a _ (by simp [AV.ids])])
theorem Uk{c:Option Bool}{t:TypeId}{x:AV}{b a d:Option Int}{K:AV->Option R}(e:∀i∈x.ids,s'.h i=s.h i):o7 P s' c t x b a d K=o7 P s c t x b a d K:=by unfold o7;cases x <;> (try rfl) <;> (simp only [];rw [e _ (by simp [AV.ids])])
theorem Hq{t:TypeId}{x:AV}(a:∀i∈x.ids,s'.h i=s.h i):kH P s' t x=kH P s t x:=by
 unfold kH;cases x
 case own i=>simp only [a i (by simp [AV.ids])]
 case t z=>cases z <;> rfl
 all_goals rfl
theorem LC{t:TypeId}{sz:Nat}{a:List T}{y:AV}{K:List (List T)->Option R}(b:∀i∈y.ids,s'.h i=s.h i):nv P s' t sz a y K=nv P s t sz a y K:=by unfold nv;rw [ux b]
theorem Lw{d:Nat}{t ty:TypeId}{x y:AV}{K:AV->aH->Option R}(a:∀i∈x.ids,s'.h i=s.h i)(b:∀i∈y.ids,s'.h i=s.h i):l4 P s' d false t ty x y K=l4 P s d false t ty x y K:=by
 unfold l4;simp only [cond_false];cases x <;> simp only [LC b]
 case own i=>rw [a i (by simp [AV.ids])]
 case part i sz off n=>rw [a i (by simp [AV.ids])]
 all_goals rfl
theorem Qe{c:Option Bool}{t:TypeId}{x k:AV}{ok:Bool}{K:AV->Option R}(a:∀i∈x.ids,s'.h i=s.h i):oJ P s' c t x k ok K=oJ P s c t x k ok K:=by unfold oJ;cases x <;> (try rfl) <;> (simp only [];rw [a _ (by simp [AV.ids])])
theorem Sp{t:TypeId}{x k v:AV}{K:aH->Option R}(a:∀i∈x.ids,s'.h i=s.h i):oQ P s' t x k v K=oQ P s t x k v K:=by unfold oQ;cases x <;> (try rfl) <;> (simp only [];rw [a _ (by simp [AV.ids])])
theorem ME{t:TypeId}{x k:AV}{K:aH->Option R}(a:∀i∈x.ids,s'.h i=s.h i):ot P s' t x k K=ot P s t x k K:=by unfold ot;cases x <;> (try rfl) <;> (simp only [];rw [a _ (by simp [AV.ids])])
theorem Gn{e:TypeId}{ev:Operand->AV}:∀{a:List (Nat×Operand)} {n:Nat},(∀x∈a.map (·.2),∀i∈(ev x).ids,h' i=h i)->jl P h' e ev n a=jl P h e ev n a
 | [],n,_=>rfl
 | (k,o)::a,n,b=>by simp only [jl];rw [Kf (b o (by simp)),G3 (b o (by simp)),Gn λx d=>b x (by simp only [WL];exact Wn _ d)]
theorem Gp{e:TypeId}{ev b:Operand->AV}:∀{a:List (Nat×Operand)} {n:Nat},(∀x∈a.map (·.2),b x=ev x)->jl P h e b n a=jl P h e ev n a
 | [],n,_=>rfl
 | (k,o)::a,n,d=>by simp only [jl];rw [d o (by simp),Gp λx f=>d x (by simp only [WL];exact Wn _ f)]
theorem I3{t:TypeId}{ev b:Operand->AV}:∀{a:List (Nat×Operand)},(∀x∈a.map (·.2),b x=ev x)->qv P t b a=qv P t ev a
 | [],_=>rfl
 | (k,o)::a,d=>by simp only [qv];rw [d o (by simp),I3 λx e=>d x (by simp only [WL];exact Wn _ e)]
theorem oF{g:Option Gs}{x:Operand}(a:∀k,x= .tmp k->s'.t k=s.t k):s'.get g x=s.get g x:=by
 cases x with
 | tmp k=>show(cond (mo (s'.t k).1 g) (s'.t k).2 AV.top)=cond (mo (s.t k).1 g) (s.t k).2 AV.top;rw [a k rfl]
 | _=>rfl
theorem G8{g:Option Gs}{b x:Operand}{w:Bool}(a:∀k,x= .tmp k->s'.t k=s.t k):s'.nL g b w x=s.nL g b w x:=by
 unfold St.nL;split
 .rw [a _ rfl]
 .exact oF a
set_option maxHeartbeats 1000000 in
theorem Jx:∀{vs:List AV} {b:List AV} {i:Id} {n:Nat} {d:List AV},js vs=some (b,i,n,d)->i∈cy vs
 | [],_,_,_,_,h=>by simp [js] at h
 | v::r,b,i,n,d,h=>by
  unfold js at h;split at h
  .cases h
  .rename_i i' g f a;simp only [XD] at a;obtain⟨rfl,rfl⟩:=a;simp only [Wj,Xa] at h;obtain⟨rfl,rfl,rfl,rfl⟩:=h;simp [cy,AV.ids]
  .rename_i o f _ a;simp only [XD] at a;obtain⟨rfl,rfl⟩:=a;obtain⟨q,e,h⟩:=Wk.1 h;obtain⟨j,k,l,m⟩:=q;simp only [Wj,Xa] at h;obtain⟨rfl,rfl,rfl,rfl⟩:=h;simp only [cy,WK];exact .inr (Jx e)
theorem SD{R:Type}{P:Program}{s s':St}{e:TypeId}{d:Nat}{c:Option Bool}{v:AV}{K:AV->aH->Option R}(b:∀i∈v.ids,s'.h i=s.h i):oW P s' e d c v K=oW P s e d c v K:=by
 unfold oW;split
 .rename_i vs;split
  .rename_i f i n g a;rw [b i (by simp only [AV.ids];exact Jx a)]
  .rfl
 .rfl
theorem GV(v:AV):(nJ v).ids=v.ids:=by unfold nJ;split <;> rfl
theorem kr{g:Option Gs}{o:Oper}(I:∀x∈o.op.operands,∀k,x= .tmp k->s'.t k=s.t k)(N:gh P o=true\/jM o=true\/s'.h=s.h\/(fp A o=false/\fc A o=false/\∀x∈o.op.operands,∀i∈(s.get g x).ids,s'.h i=s.h i)):
  dq P A O g o s'=dq P A O g o s:=by
 have j:∀x∈o.op.operands,s'.get g x=s.get g x:=λx m=>oF (I x m);have l:gh P o=true\/jM o=true\/∀x∈o.op.operands,∀i∈(s.get g x).ids,s'.h i=s.h i:=by
  rcases N with h | h | h | h
  .exact .inl h
  .exact .inr (.inl h)
  .exact .inr (.inr λ_ _ i _=>by rw [h])
  .exact .inr (.inr h.2.2)
 have hw:∀cl,o.op= .call cl->∀f,cl.callee= .value f->gh P o=false:=by intro cl U f h2;simp [gh,U,h2]
 have hal:∀cl,o.op= .call cl->jM o=false:=by intro cl U;simp [jM,U]
 have Q:gh P o=true\/jM o=true\/s'.h=s.h\/(fp A o=false/\fc A o=false):=N.imp id (Or.imp id (Or.imp id λh=>⟨h.1,h.2.1⟩));unfold dq jD;cases B:o.op <;> rw [B] at I j l <;> simp only [gh,jM,B,WX,false_or] at l <;> dsimp only <;> simp only [Op.operands] at I j l
 case pick a b x=>rw [j a (by simp),G8 (I b (by simp)),G8 (I x (by simp))]
 case build t ps=>unfold xO;rw [I3 (ev:=s.get g) (by simpa using j)]
 case buildSlice t n ps=>
  have C:∀e,jl P s'.h e (s'.get g) 0 ps.toList=jl P s.h e (s.get g) 0 ps.toList:=λe=>by rw [Gp (ev:=s.get g) (by simpa using j),Gn (by simpa using l)]
  simp only [C];congr 1;funext e;split
  .split
   .rename_i x _ E;rw [j x (by simp [E])]
   .rfl
  .split
   .split
    .rename_i x E;rw [j x (by simp [E])];exact SD (l x (by simp [E]))
    .rfl
   .rfl
 case load t x=>rw [j x (by simp),P6 (l x (by simp))]
 case store t x y=>rw [j x (by simp),j y (by simp),UA (l x (by simp)) (l y (by simp))]
 case binOp op t x y ty=>
  rw [j x (by simp),j y (by simp)];rcases l with l | l
  .simp only [Xo,Xq] at l;rw [l.1,l.2];cases op <;> rfl
  .rw [Hq (l x (by simp)),Hq (l y (by simp))]
 case convert src dst x=>rw [j x (by simp),ux (l x (by simp))]
 case makeFunc fn L G=>
  cases fn <;> try rfl
  have C:L.toList.map (s'.get g)=L.toList.map (s.get g):=W8 λx m=>j x (by simp at m⊢;exact .inl m);have e2:G.toList.map (s'.get g)=G.toList.map (s.get g):=W8 λx m=>j x (by simp at m⊢;exact .inr m);simp only [C,e2]
 case slice t x Z q mx=>
  have eb:∀(o:Option Operand) (c:Option Bool) (K:Option Int->Option (AV×aH)),(∀y,o=some y->y∈#[x] ++Z.toArray++q.toArray++mx.toArray)->jH s' c g o K=jH s c g o K:=by
   intro o c K hm;unfold jH;cases o with
   | none=>rfl
   | some y=>simp only [j y (hm y rfl)]
  have m:x∈#[x] ++Z.toArray++q.toArray++mx.toArray:=by simp
  rw [j x m];simp only [Uk (l x m)];rw [eb Z _ _ (by intro y e;subst e;simp)];congr 1;funext lo';rw [eb q _ _ (by intro y e;subst e;simp)];congr 1;funext hi';rw [eb mx _ _ (by intro y e;subst e;simp)]
 case indexAddr t x i=>rw [j x (by simp),j i (by simp)];simp only [PD (l x (by simp))]
 case call cl=>
  simp only [Call.operands] at j l;split
  .rename_i p;split
   .rename_i x t ts m _;have hm:x∈(match cl.callee with | .value f=> #[f] | .invoke r _=> #[r] | .builtin _=> #[])++cl.args:=by
     simp [<-Array.mem_toList_iff,m]
    rw [j x hm];rcases l with l | l
    .simp [p] at l
    .exact PU (l x hm)
   .rfl
  .rename_i p;split
   .rename_i x y t u _ m _;have hm:∀z,(z=x\/z=y)->z∈(match cl.callee with | .value f=> #[f] | .invoke r _=> #[r] | .builtin _=> #[])++cl.args:=by
     intro z Y;simp [<-Array.mem_toList_iff,m,Y]
    rw [j x (hm x (.inl rfl)),j y (hm y (.inr rfl))];rcases l with l | l
    .simp [p] at l
    .cases hn:(A.mP o.dst o.type==3) with
     | false=>exact Lw (l x (hm x (.inl rfl))) (l y (hm y (.inr rfl)))
     | true=>
      rcases Q with h | h | h | h
      .simp [gh,B,p] at h
      .simp [jM,B] at h
      .have:∀(d:Nat) (b:Bool) (t ty:TypeId) (x y:AV) (K:AV->aH->Option (AV×aH)),l4 P s' d b t ty x y K=l4 P s d b t ty x y K:=λd b t ty x y K=>by
        unfold l4 qX nv;rw [h]
       exact this _ _ _ _ _ _ _
      .have:=h.2;simp [fc,B,p,hn] at this
   .rfl
  .have C:cl.args.toList.map (s'.get g)=cl.args.toList.map (s.get g):=W8 λx m=>j x (by simp at m⊢;exact .inr m);rw [C]
  .have C:cl.args.toList.map (s'.get g)=cl.args.toList.map (s.get g):=W8 λx m=>j x (by simp at m⊢;exact .inr m);rw [C]
  .rename_i p;split
   .rename_i x y t ts _ m _;have hm:∀z,(z=x\/z=y)->z∈(match cl.callee with | .value f=> #[f] | .invoke r _=> #[r] | .builtin _=> #[])++cl.args:=by
     intro z Y;simp [<-Array.mem_toList_iff,m,Y]
    rw [j x (hm x (.inl rfl)),j y (hm y (.inr rfl))];rcases l with l | l
    .simp [p] at l
    .exact ME (l x (hm x (.inl rfl)))
   .rfl
  .rename_i p;split
   .rename_i x t ts m _;have hm:x∈(match cl.callee with | .value f=> #[f] | .invoke r _=> #[r] | .builtin _=> #[])++cl.args:=by
     simp [<-Array.mem_toList_iff,m]
    rw [j x hm]
   .rfl
  .rename_i F p;have C:cl.args.toList.map (s'.get g)=cl.args.toList.map (s.get g):=W8 λx m=>j x (by simp at m⊢;exact .inr m);have M:F∈(match cl.callee with | .value f=> #[f] | .invoke r _=> #[r] | .builtin _=> #[])++cl.args:=by simp [p]
   rw [C,j F M];rcases l with l | l
   .simp [p] at l
   .cases J:nJ (s.get g F) <;> try rfl
    rename_i f a b;have D:=l F M;rw [<-GV,J] at D;simp only [AV.ids,WK] at D;refine Mm ?_;have V:∀i∈cy (a++cl.args.toList.map (s.get g)++b),s'.h i=s.h i:=by
     intro i q;rcases vM.1 q with q | q
     .rcases vM.1 q with q | q
      .exact D i (.inl q)
      .obtain⟨v,J,q⟩:=BO q;obtain⟨x,m,rfl⟩:=WU.1 J;exact l x (by simp at m⊢;exact .inr m) i q
     .exact D i (.inr q)
    rcases Q with h | h | h | h
    .rw [hw cl B F p] at h;cases h
    .rw [hal cl B] at h;cases h
    .exact .inl h
    .obtain⟨h,X⟩:=h;simp only [fp,B,p] at h;simp only [fc,B,p] at X;cases F with
     | func f'=>
      simp only [St.get,nJ] at J;obtain⟨rfl,_,_⟩:f'=f/\_/\_:=by simpa using J
      cases hb:A.ji f' with
      | some x=>dsimp only at h;rw [hb] at h;simp at h
      | none=>exact .inr ⟨rfl,rfl,X,V⟩
     | _=>simp at X
  .rfl
 case move x=>rw [j x (by simp)]
 case assign x=>rw [j x (by simp)]
 case box t x=>rw [j x (by simp)]
 case nilCheck x=>rw [j x (by simp)]
 case unOp op t x=>rw [j x (by simp)]
 case makeSlice t x y=>rw [j x (by simp),j y (by simp)]
 case lookup t x k ok=>rw [j x (by simp),j k (by simp),Qe (l x (by simp))]
 case mapUpdate t x k v=>rw [j x (by simp),j k (by simp),j v (by simp),Sp (l x (by simp))]
 case fieldAddr t x f=>rw [j x (by simp)]
 case field t x f=>rw [j x (by simp)]
 case index t x i=>rw [j x (by simp),j i (by simp)]
 case extract x k=>rw [j x (by simp)]
theorem LI{eQ:List Id}{b:Bool}{v:AV}(a:∀i∈v.ids,h' i=h i):uY h' eQ b v=uY h eQ b v:=by unfold uY;rw [Ef a]
theorem Ed{eQ:List Id}:∀{a:List Bool} {vs:List AV},(∀i∈cy vs,h' i=h i)->ny h' eQ a vs=ny h eQ a vs
 | _,[],_=>by simp [ny]
 | a,v::vs,d=>by simp only [ny];rw [LI λi b=>d i (lH.2 (.inl b)),Ed λi b=>d i (lH.2 (.inr b))]
theorem zU{N:Id->Prop}:∀{us:aH} {h h':Id->Option aa},(∀i,¬N i->h' i=h i)->∀i,¬N i->aP h' us i=aP h us i
 | [],_,_,a,i,d=>a i d
 | (j,b)::us,h,h',a,i,d=>by
  rw [du,du];refine zU (N:=N) (λk f=> ?_) i d;by_cases e:k=j
  .subst e;rw [aF,aF]
  .rw [ay _ _ e,ay _ _ e];exact a k f
theorem Sd{N:Id->Prop}{new i:Id}{k sz:Nat}{us:aH}(a:∀i,¬N i->h' i=h i)(f:¬N i)(d:¬N new)(o:∀p∈us,¬N p.1)(e:qu h new i k sz=some us):qu h' new i k sz=some us:=by
 unfold qu at e⊢;cases l:Nat.ble 100000 sz with
 | true=>rw [l,cond_true] at e;rw [cond_true];unfold ug at e⊢;rw [a i f,a new d];exact e
 | false=>
 rw [l,cond_false] at e;rw [cond_false];rw [a i f,a new d];split at e
 .rename_i cs f
  try simp only [f]
  split at e
  .exact e
  .exact e
  .exact e
  .rename_i j v n x;split at e
   .rename_i u b xs r;split at e
    .rename_i q;have g:¬N j:=by
      cases m:(h new).isNone with
      | false=>rw [m] at e;simp at e
      | true=>rw [m] at e;simp only [cond_true,Wj] at e;subst e;exact o (j,_) Wl
     rw [a j g,r];simp only [if_pos q];exact e
    .cases e
   .cases e
  .cases e
 .cases e
theorem I8{N:Id->Prop}{nm:Nat}(a:∀k,¬N (.s nm k)):∀{l:List (Id×Nat×Nat)} {j:Nat} {h h':Id->Option aa} {us:aH},(∀i,¬N i->h' i=h i)->(∀q∈l,¬N q.1)->(∀p∈us,¬N p.1)->lK nm j h l=some us->lK nm j h' l=some us
 | [],_,_,_,_,_,_,_,e=>e
 | (i,k,sz)::l,j,h,h',us,f,hl,b,e=>by simp only [lK] at e⊢;obtain⟨r,g,e⟩:=Wk.1 e;obtain⟨u,m,e⟩:=Wk.1 e;simp only [Wj] at e;subst e;rw [Sd f (hl (i,k,sz) Wl) (a j) (λp d=>b p (WI _ d)) g];simp only [Wq];rw [I8 a (zU f) (λq o=>hl q (Wn _ o)) (λp d=>b p (WE _ d)) m];rfl
theorem wK:∀{n:Nat} {todo a seen:List Id},fW h n todo a=some seen->(∀i∈seen,h' i=h i)->fW h' n todo a=some seen
 | 0,todo,a,seen,e,_=>by simp [fW] at e
 | n+1,[],a,seen,e,_=>e
 | n+1,i::todo,a,seen,e,hs=>by
  simp only [fW] at e⊢;cases b:a.contains i with
  | true=>rw [b,cond_true] at e;rw [cond_true];exact wK e hs
  | false=>
   rw [b,cond_false] at e;rw [cond_false];have hm:i∈seen:=by
    have:a++ [i] <+:seen:=by
     split at e
     .exact qw e
     .exact qw e
     .exact qw e
     .cases e
    exact this.subset (WE _ (WA.2 rfl))
   rw [hs i hm];split at e
   .exact wK e hs
   .exact wK e hs
   .exact wK e hs
   .cases e
theorem AN:∀{l seen:List Id},∀i∈rz l seen,i∈l
 | [],_,i,a=>by simp [rz] at a
 | j::l,seen,i,a=>by
  simp only [rz] at a;cases b:seen.contains j with
  | true=>rw [b,cond_true] at a;exact Wn _ (AN i a)
  | false=>
   rw [b,cond_false] at a;rcases WC.1 a with rfl | a
   .exact Wl
   .exact Wn _ (AN i a)
theorem zl{i:Id}:∀{l:List cD} {k:Nat},∀q∈oU i k l,q.1=i
 | [],_,q,a=>by simp [oU] at a
 | r::l,k,q,a=>by
  cases r with
  | own sz=>
   simp only [oU] at a;rcases WC.1 a with rfl | a
   .rfl
   .exact zl q a
  | rows sz col rsz=>
   simp only [oU] at a;rcases WC.1 a with rfl | a
   .rfl
   .exact zl q a
  | _=>simp only [oU] at a;exact zl q a
theorem CM:∀{e:List Id} {d:List kQ},∀q∈oV e d,q.1∈e
 | [],d,q,a=>by cases d <;> simp [oV] at a
 | i::e,[],q,a=>by simp [oV] at a
 | i::e,b::d,q,a=>by
  cases b with
  | box l=>
   simp only [oV,WK] at a;rcases a with a | a
   .rw [zl q a];exact Wl
   .exact Wn _ (CM q a)
  | _=>simp only [oV] at a;exact Wn _ (CM q a)
theorem Ml{N:Id->Prop}{d:Nat}{c:Option Bool}{f:FuncId}{args:List AV}{v:AV}{us:aH}(F:∀i,¬N i->s'.h i=s.h i)(M:A.deep f=false)(m:∀i∈cy args,¬N i)(G:∀k,¬N (.s (2000000+d) k))(E:∀p∈us,¬N p.1)
  (e:il P A O s d c f args (λv u=>some (v,u))=some (v,us)):il P A O s' d c f args (λv u=>some (v,u))=some (v,us):=by
 cases K:A.ji f with
 | none=>rw [AD (.inr ⟨K,M,λi l=>F i (m i l)⟩)];exact e
 | some Y=>
  unfold il at e⊢;cases D:P.funcs[f]? with
  | none=>rw [D] at e;simp at e
  | some fn=>
   simp only [D,K] at e⊢;cases c with
   | some b=>simp at e
   | none=>
    simp only at e⊢;rw [Ed λi l=>F i (m i l)];obtain⟨p,U,e⟩:=Wk.1 e;rw [U,Wq];obtain⟨a,I,e⟩:=Wk.1 e;obtain⟨seen,o,e⟩:=Wk.1 e;obtain⟨_,_,J,_,_⟩:=wL o Y2 (by simp) (by simp);have L:=e;have g:(∀q∈a,¬N q.1)/\∀i∈seen,¬N i:=by
     cases C:(y7 d seen && Nat.beq (iF (seen.map λi=>iN seen (aP (aP s.h p.2) a i)).head?) (iF ((cy p.1).head?.bind (aP s.h p.2)))) with
     | false=>rw [C] at e;simp at e
     | true=>
      rw [C,cond_true] at e;obtain⟨Z,e,_⟩:=zT (.inl rfl) e;obtain⟨xs,_,e⟩:=aS e (.inl rfl);rw [show ∀(n:Nat),(eO seen d none 0 (dN P A f n fn) xs λvs u j=>gV seen d j seen (iM A f n) (xs.drop (nZ (dN P A f n fn))) λq=>(some (mX vs,p.2++a++lC seen++u++q):Option (AV×aH)))=
       ((eO seen d none 0 (dN P A f n fn) xs λvs u j=>some (vs,u,j)).bind λz=>(gV seen d z.2.2 seen (iM A f n) (xs.drop (nZ (dN P A f n fn))) some).bind λq=>some (mX z.1,p.2++a++lC seen++z.2.1++q)) from λn=>by
        rw [rv];congr 1;funext vs u j;simp only [Wq];rw [yd];rfl] at e
      obtain⟨z,_,e⟩:=Wk.1 e;obtain⟨q,_,e⟩:=Wk.1 e;simp only [Wj,Xa] at e;obtain⟨_,rfl⟩:=e;refine⟨λx X=>E x ?_,λi l=>E (i, .dead) ?_⟩
      .exact WI _ (WI _ (WI _ (WE _ X)))
      .exact WI _ (WI _ (WE _ (WU.2 ⟨i,l,rfl⟩)))
    have r:∀i,¬N i->aP s'.h p.2 i=aP s.h p.2 i:=zU F;have B:∀i,¬N i->aP (aP s'.h p.2) a i=aP (aP s.h p.2) a i:=zU r;have y:(cy p.1).head?.bind (aP s'.h p.2)= (cy p.1).head?.bind (aP s.h p.2):=by
     cases Q:(cy p.1).head? with
     | none=>rfl
     | some i=>exact r i (g.2 i (J i (List.mem_of_mem_head? (by rw [Q];rfl))))
    rw [y];rw [I8 G r (λq V=>g.2 q.1 (J q.1 (AN q.1 (CM q V)))) g.1 I,Wq];rw [wK o λi l=>B i (g.2 i l),Wq];have hm:(seen.map λi=>iN seen (aP (aP s'.h p.2) a i))=seen.map λi=>iN seen (aP (aP s.h p.2) a i):=W8 λi l=>by rw [B i (g.2 i l)]
    rw [hm];exact L
theorem xF{N:Id->Prop}{g:Option Gs}{o:Oper}{v:AV}{us:aH}(K:∀x∈o.op.operands,∀k,x= .tmp k->s'.t k=s.t k)(J:∀i,¬N i->s'.h i=s.h i)(z:fc A o=false)(l:∀x∈o.op.operands,∀i∈(s.get g x).ids,¬N i)
  (F:∀k,¬N (.s (2000000+o.dst.getD 0) k)) (L:∀p∈us,¬N p.1) (e:dq P A O g o s=some (v,us)):dq P A O g o s'=some (v,us):=by
 cases G:fp A o with
 | false=>rw [kr (s:=s) K (.inr (.inr (.inr ⟨G,z,λx q i d=>J i (l x q i d)⟩)))];exact e
 | true=>
  have C:∀x∈o.op.operands,s'.get g x=s.get g x:=λx q=>oF (K x q);cases y:o.op <;> simp only [fp,y,WX] at G;rename_i cl;cases j:cl.callee <;> simp only [j,WX] at G;rename_i u;unfold dq jD at e⊢;rw [y] at e l C⊢;simp only [Op.operands,Call.operands] at l C;simp only [j] at e⊢;have M:cl.args.toList.map (s'.get g)=cl.args.toList.map (s.get g):=W8 λx q=>C x (by simp at q⊢;exact .inr q);have E:u∈(match cl.callee with | .value f=> #[f] | .invoke r _=> #[r] | .builtin _=> #[])++cl.args:=by simp [j]
  rw [M,C u E];cases B:nJ (s.get g u) <;> rw [B] at e <;> simp only [reduceCtorEq] at e;rename_i f a b;have m:=l u E;rw [<-GV,B] at m;simp only [AV.ids,WK] at m;have D:A.deep f=false:=by
   simp only [fc,y,j] at z;cases u with
   | func I=>
    simp only [St.get,nJ] at B;obtain⟨rfl,_,_⟩:I=f/\_/\_:=by simpa using B
    exact z
   | _=>simp at z
  have hl:HW u=false:=by
   simp only [fc,y,j] at z;cases u with
   | func I=>rfl
   | _=>simp at z
  dsimp only at e⊢;rw [hl,Mn] at e⊢;refine Ml J D ?_ F L e;intro i d;rcases vM.1 d with d | d
  .rcases vM.1 d with d | d
   .exact m i (.inl d)
   .obtain⟨v,B,d⟩:=BO d;obtain⟨x,q,rfl⟩:=WU.1 B;exact l x (by simp at q⊢;exact .inr q) i d
  .exact m i (.inr d)
end
open Go Go.IntKind
section
variable {P:Program} {An:cR} {Or:aq} {w w':World} {A A':Nat->Prop} {c:Ctx} {ρ:Id->Option Value} {O:Id->Option Nat} {s s' s1 s2:St} {h:Id->Option aa} {ops:Array Oper} {nt:Nat}
structure uS (P:Program) (An:cR) (Or:aq) (nt:Nat) (ops:Array Oper) (o:Oper) (s:St) (g:Option Gs) (v:AV) (us:aH):Prop where
 guard:dL ops o s some=some g
 op:dq P An Or g o s=some (v,us)
 ok:oO P An true nt ops o g s v us=true
 eQ:kJ An true o s.h us=true
theorem Kk{o:Oper}{g:Option Gs}:sB An true o g=none:=by cases g <;> rfl
theorem Cy{o:Oper}(e:fV P An Or true nt ops o s=some s'):∃g v us,uS P An Or nt ops o s g v us/\s'=s.put (eD ops o.dst) o.dst g v us:=by
 unfold fV qt at e;rw [yG] at e;replace e:=Wk.1 e;obtain⟨g,f,e⟩:=e;rw [Kk] at e;dsimp only at e;rw [sS] at e;replace e:=Wk.1 e;obtain⟨⟨v,us⟩,d,e⟩:=e;dsimp only at e;rw [vQ] at e;cases a:kJ An true o s.h us with
 | false=>rw [a] at e;cases e
 | true=>
  rw [a,cond_true] at e;split at e
  .rename_i b;simp only [Wj] at e;exact⟨g,v,us,⟨f,d,b,a⟩,e.symm⟩
  .simp at e
theorem uS.fV{o:Oper}{g:Option Gs}{v:AV}{us:aH}(a:uS P An Or nt ops o s g v us):fV P An Or true nt ops o s=some (s.put (eD ops o.dst) o.dst g v us):=by unfold Aev.fV qt;rw [yG,a.guard,Wq,Kk];dsimp only;rw [sS,a.op,Wq];dsimp only;rw [vQ,a.eQ,cond_true,if_pos a.ok]
def sG(ops:Array Oper)(a:Array Bool)(s:St):Prop:= ∀k g v,s.t k= (some g,v)->∃i o,ops[i]? =some o/\a.getD i false=true/\o.dst=some g.d
theorem rA{d:Nat}{o:Oper}(a:o.dst=some d):∀(l:List Oper),o∈l->d∈iu l:=by
 intro l;induction l with
 | nil=>intro hm;cases hm
 | cons x l b=>
  intro hm;simp only [iu];rcases WC.1 hm with rfl | hm
  .rw [a];exact Wl
  .have:=b hm;split
   .exact Wn _ this
   .exact this
theorem Fa:∀{l:List Oper},wm (iu l)=true->∀{i j:Nat} {x y:Oper} {d:Nat},l[i]? =some x->l[j]? =some y->x.dst=some d->y.dst=some d->i=j
 | [],_,i,j,x,y,d,b,_,_,_=>by simp at b
 | z::l,a,i,j,x,y,d,b,f,k,m=>by
  have g:wm (iu l)=true/\∀d,z.dst=some d->d∉iu l:=by
   simp only [iu] at a;cases o:z.dst with
   | none=>rw [o] at a;exact⟨a,λd h=>by cases h⟩
   | some e=>
    rw [o] at a;simp only [wm,Ww,Xo] at a;refine⟨a.2,λd h=> ?_⟩;simp only [Wj] at h;subst h;intro hm;have:(iu l).contains e=true:=by simpa using hm
    rw [this] at a;cases a.1
  cases i with
  | zero=>
   simp only [W7,Wj] at b;subst b;cases j with
   | zero=>rfl
   | succ j=>simp only [XH] at f;exact(g.2 d k (rA m _ (Wx f))).elim
  | succ i=>
   simp only [XH] at b;cases j with
   | zero=>simp only [W7,Wj] at f;subst f;exact(g.2 d m (rA k _ (Wx b))).elim
   | succ j=>simp only [XH] at f;rw [Fa g.1 b f k m]
def sP(ops:Array Oper):Prop:= ∀{i j:Nat} {x y:Oper} {d:Nat},ops[i]? =some x->ops[j]? =some y->x.dst=some d->y.dst=some d->i=j
theorem w8{a:Array Bool}{i:Nat}(h:a.getD i true=false):a.getD i false=true->False:=by
 intro d;rw [XX] at h d;cases e:a[i]? with
 | none=>rw [e] at h;simp at h
 | some b=>rw [e] at h d;simp at h d;rw [h] at d;cases d
theorem CJ{a:Array Bool}{i:Nat}{o:Oper}{g:Option Gs}{v:AV}{us:aH}(z:sP ops)(y:ops[i]? =some o)(hl:a.getD i true=false)(x:sG ops a s)(b:Bool):
  s.put b o.dst g v us=s.put false o.dst g v us:=by
 unfold St.put;cases u:o.dst with
 | none=>rfl
 | some d=>
  simp only [St.mk.injEq,and_true];funext k;split
  .rfl
  .cases b with
   | false=>rfl
   | true=>
    simp only [cond_true,cond_false];cases p:s.t k with
    | mk f vk=>
     cases f with
     | none=>rfl
     | some f=>
      simp only [nG];cases m:(f.d==d) with
      | false=>rfl
      | true=>
       exfalso;obtain⟨j,B,q,r,l⟩:=x k f vk p;have e:f.d=d:=by simpa using m
       rw [e] at l;have:=z q y l u;subst this;exact w8 hl r
theorem gp{o:Oper}{k:Nat}(h:(.tmp k:Operand)∈o.op.operands):k∈o.looksAt ops:=by unfold Oper.looksAt;refine WI _ (YY.2 ⟨.tmp k,by simpa using h,rfl⟩)
theorem H7{o:Oper}{j d:Nat}{b:Bool}(h:o.guard=some (j,b))(a:(ops[j]?).bind (·.dst)=some d):d∈o.looksAt ops:=by unfold Oper.looksAt;refine WE _ ?_;rw [h];simp [a]
theorem sq{b:Bool}{o:Oper}{g:Option Gs}{v:AV}{us:aH}{k:Nat}(f:o.dst≠some k):(s.put false o.dst g v us).t k=s.t k:=by
 unfold St.put;cases a:o.dst with
 | none=>rfl
 | some d=>have:k≠d:=λe=>f (by rw [a,e]);simp [if_neg this]
theorem Hg{o:Oper}(f:∀j b d,o.guard=some (j,b)->(ops[j]?).bind (·.dst)=some d->s'.t d=s.t d):dL ops o s' some=dL ops o s some:=by
 unfold dL;cases e:o.guard with
 | none=>rfl
 | some p=>
  obtain⟨j,b⟩:=p;simp only;cases a:(ops[j]?).bind (·.dst) with
  | none=>rfl
  | some d=>simp only [f j b d e a]
theorem zV:∀{us:aH} {h:Id->Option aa} {i:Id},aP h us i=none->(∀q∈us,q.1≠i)/\h i=none
 | [],h,i,e=>⟨by simp,e⟩
 | (j,x)::us,h,i,e=>by
  rw [du] at e;obtain⟨f,b⟩:=zV e;by_cases a:i=j
  .subst a;rw [aF] at b;cases b
  .rw [ay _ _ a] at b;refine⟨λq d=> ?_,b⟩;rcases WC.1 d with rfl | d
   .exact λe=>a e.symm
   .exact f q d
theorem Iy{o:Oper}{g:Option Gs}(a:∀x∈o.op.operands,s'.get g x=s.get g x):qk ops g o s'=qk ops g o s:=by
 unfold qk;have key:∀l:List Operand,(∀x∈l,s'.get g x=s.get g x)->(l.all λx=>(s'.get g x).ids.all λi=>match i with
  | .s d _=>sY ops o d
  | .c _=>true
  | .g _ _=>false)= (l.all λx=>(s.get g x).ids.all λi=>match i with
  | .s d _=>sY ops o d
  | .c _=>true
  | .g _ _=>false):=by
  intro l;induction l with
  | nil=>intro _;rfl
  | cons x l f=>intro h;rw [XI,XI,h x Wl,f λy e=>h y (Wn _ e)]
 exact key _ λx b=>a x (by simpa using b)
theorem yX{o:Oper}{g:Option Gs}(l:qk ops g o s=true){x:Operand}(v:x∈o.op.operands){d k:Nat}(u:Id.s d k∈(s.get g x).ids){i:Nat}{m:Oper}(a:ops[i]? =some m)(q:m.dst=some d):
  ∃e∈o.after,Region.binds .any e=true/\(e.on=i\/iT ops 12 e.on i=true):=by
 unfold qk at l;have p:=WO.1 l x (by simpa using v);have b:=WO.1 p _ u;simp only at b;unfold sY at b;have f:=WO.1 b i (Zj.2 (YU.1 a).1);rw [a] at f;simp only [q,BEq.rfl,Ws,W4] at f;obtain⟨e,r,j⟩:=YI.1 f;simp only [Ww,Xf,beq_iff_eq] at j;exact⟨e,r,j.1,j.2⟩
theorem gX{o:Oper}{us:aH}(b:mg o us=true){i:Id}(a:∃q∈us,q.1=i):∃d k,i= .s d k/\o.dst=some d:=by
 obtain⟨q,f,rfl⟩:=a;have:=WO.1 b q f;split at this
 .rename_i d k e;exact⟨d,k,e,by simpa using this⟩
 .simp at this
 .simp at this
theorem U2{us vs:aH}(a:∀p∈us,∀q∈vs,p.1≠q.1):∀{h:Id->Option aa},aP (aP h us) vs=aP (aP h vs) us:=by
 induction us with
 | nil=>intro h;rfl
 | cons p us g=>intro h;obtain⟨i,b⟩:=p;rw [du,du,g (λp d=>a p (Wn _ d)),w9 (λq f e=>a (i,b) Wl q f e.symm)]
def sE(ops:Array Oper)(a:Array Bool):Prop:= ∀k ok,ops[k]? =some ok->a.getD k false=true->∀e∈ok.after,Region.binds .any e=true->a.getD e.on false=true
theorem Av{a:Array Bool}(f:sE ops a){i:Nat}(m:a.getD i true=false):∀{n j:Nat} {d:Oper},ops[j]? =some d->(∀e∈d.after,Region.binds .any e=true->a.getD e.on false=true)->iT ops n j i=false
 | 0,j,d,_,_=>rfl
 | n+1,j,d,q,g=>by
  simp only [iT,q];rw [Array.any_eq_false'];intro e p l;simp only [Ww,Xf,beq_iff_eq] at l;obtain⟨o,b⟩:=l;have hl:=g e p o;rcases b with b | ⟨_,b⟩
  .exact w8 m (b▸hl)
  .cases k:ops[e.on]? with
   | none=>
    cases n with
    | zero=>simp [iT] at b
    | succ n=>simp [iT,k] at b
   | some ok=>rw [Av f m k (f e.on ok k hl)] at b;cases b
theorem Df{a b:Oper}(h:lQ An ops a b=true):∃k d,hI ops a=some k/\hI ops b=some d/\k≠d/\k∉iu ops.toList/\d∉iu ops.toList:=by
 unfold lQ at h;simp only [Ww] at h;obtain⟨_,h⟩:=h;split at h
 .rename_i k d e f;simp only [Ww,Xo,beq_eq_false_iff_ne,ne_eq] at h;obtain⟨⟨g,i⟩,j⟩:=h;exact⟨k,d,e,f,g,by simpa using i,by simpa using j⟩
 .cases h
theorem Uw{a b:Oper}(h:lQ An ops a b=true):lQ An ops b a=true:=by have h0:=h;unfold lQ at h0;simp only [Ww] at h0;obtain⟨k,l,d,f,g,i,j⟩:=Df h;unfold lQ;rw [d,f,h0.1];simp only [Xe,Ww,Xo,beq_eq_false_iff_ne,ne_eq];exact⟨⟨λe=>g e.symm,by simpa using j⟩,by simpa using i⟩
theorem Kq{o b:Oper}{us:aH}{k e:Nat}(h:lR P An ops o s us=true)(hm:b∈ops)(f:lQ An ops o b=true)(m:hI ops o=some k)(d:hI ops b=some e):
  (∀x∈o.op.operands,∀i∈(s.get none x).ids,i∈(s.t k).2.ids)/\(∀p∈us,p.1∈(s.t k).2.ids)/\(∀p∈us,p.1∉(s.t e).2.ids):=by
 have a:=Xi.1 h b hm;simp only [Ww] at a;replace a:=a.1.1.1.1;rw [f] at a;simp only [Ws,W4,Dh,m,d,Ww,WO,decide_eq_true_eq] at a;obtain⟨⟨g,j⟩,l⟩:=a;exact⟨λx q=>g x (Array.mem_toList_iff.2 q),j,l⟩
theorem vV{a b:Oper}(h:jO P An ops a b=true):(∃k,jQ ops b=some (some k)/\k∉iu ops.toList)\/jQ ops b=some none:=by
 unfold jO at h;simp only [Ww] at h;obtain⟨_,h⟩:=h;split at h
 .rename_i k d;exact .inl ⟨k,d,by simpa using h⟩
 .rename_i d;exact .inr d
 .cases h
theorem HR{a b:Oper}(h:jO P An ops a b=true):a.guard=none/\aE P An a=true/\fp An a=false/\fc An a=false:=by
 unfold jO at h;simp only [Ww] at h;obtain⟨⟨_,⟨_,h⟩,_⟩,_⟩:=h;unfold D9 at h;simp only [Ww,Yz] at h;obtain⟨⟨i,j⟩,e⟩:=h;refine⟨i,j, ?_⟩;split at e
 .rename_i cl d;split at e
  .rename_i g;simp only [Xo] at e;simp [fp,fc,d,g,e]
  .rename_i f g;simp only [Ww,Yz,Xo] at e;simp [fp,fc,d,g,e.1,e.2]
  .cases e
 .rename_i d;simp [fp,fc,d]
 .rename_i d;simp [fp,fc,d]
 .cases e
theorem HT{a b:Oper}(h:jO P An ops a b=true):aE P An b=false:=by unfold jO at h;simp only [Ww,Xo] at h;exact h.1.2.1.1
theorem SB{o:Oper}{r:Option Nat}(h:jQ ops o=some r):o.guard=none:=by
 unfold jQ at h;split at h
 .rename_i a b;exact a
 .rename_i a b;exact a
 .cases h
theorem Ju{o:Oper}{r:Option Nat}(d:aE P An o=false)(h:jQ ops o=some r):o.guard=none/\aE P An o=false/\fp An o=false/\fc An o=false:=by
 unfold jQ at h;split at h
 .rename_i b a;simp [b,aE,fp,fc,a]
 .rename_i b a;exact⟨b,d,by simp [fp,a],by simp [fc,a]⟩
 .cases h
theorem SC{o:Oper}{k:Nat}(h:jQ ops o=some (some k)):hI ops o=some k:=by
 unfold jQ at h;split at h
 .rename_i a b;simp only [Wj] at h;subst h;simp [hI,a,b]
 .cases h
 .cases h
theorem rN{o:Oper}{k:Bool}(h:kI P o k=true):∃t a y,o.guard=none/\o.op= .store t (.tmp a) y:=by
 unfold kI at h;split at h
 .rename_i t a y b d;exact⟨t,a,y,b,d⟩
 .cases h
theorem UD{k off:Nat}{l:List T}{xs a:List (List T)}(h:iZ k off l xs=some a):a.length=xs.length:=by
 unfold iZ at h;split at h
 .split at h
  .simp only [Wj] at h;subst h;simp
  .cases h
 .cases h
theorem Hz{t:TypeId}{a v B:AV}{us:aH}(h:jU P s t a v (λu=>some (AV.top,u))=some (B,us))(f:ka us=true):
  ∃i sz k off j rsz X,a= .el i sz k off/\v= .own j/\(∃bb xs,s.h j=some (.sl false rsz bb xs))/\rsz≠1/\us= [(j, .dead),(i,X)]/\∃b d col g es x es',s.h i=some (.rows b d col rsz g es)/\X= .rows b d col rsz x es'/\es'.length=es.length:=by
 unfold jU at h;cases r:cx P t with
 | false=>rw [r] at h;cases h
 | true=>
  rw [r,cond_true] at h;split at h
  .split at h
   .split at h
    .simp only [Wj,Xa] at h;obtain⟨_,rfl⟩:=h;simp [ka] at f
    .cases h
   .cases h
  .rename_i i sz k off;split at h
   .obtain⟨l,_,h⟩:=Wk.1 h;split at h
    .replace h:=aS h (.inl rfl);obtain⟨C,_,h⟩:=h;simp only [Wj,Xa] at h;obtain⟨_,rfl⟩:=h;simp [ka] at f
    .cases h
   .rename_i b d col rsz g es y;split at h
    .rename_i j;split at h
     .rename_i m b' xs z;split at h
      .rename_i o;have q:=o.2.2.1;subst q;replace h:=aS h (.inl rfl);obtain⟨e,_,h⟩:=h;simp only [Wj,Xa] at h;obtain⟨_,rfl⟩:=h;refine⟨i,sz,k,off,j,m,_,rfl,rfl,⟨_,_,z⟩, ?_,rfl,b,d,col,g,es,_,_,y,by rw [show sz=d from o.1.symm],by simp⟩;simpa [ka] using f
      .cases h
     .cases h
    .cases h
   .cases h
  .split at h
   .replace h:=aS h (.inl rfl);obtain⟨p,_,h⟩:=h;obtain⟨l,_,h⟩:=Wk.1 h;split at h
    .replace h:=aS h (.inl rfl);obtain⟨C,_,h⟩:=h;simp only [Wj,Xa] at h;obtain⟨_,rfl⟩:=h;simp [ka] at f
    .cases h
   .cases h
  .cases h
theorem HA{t:TypeId}{a v z:AV}{us:aH}(h:jU P s t a v (λu=>some (AV.top,u))=some (z,us))(d:kb us=true):
  ∃i sz k off b f,a= .el i sz k off/\(∃xs,s.h i=some (.sl false 1 b xs)/\f.length=xs.length)/\us= [(i, .sl false 1 b f)]:=by
 unfold jU at h;cases m:cx P t with
 | false=>rw [m] at h;cases h
 | true=>
  rw [m,cond_true] at h;split at h
  .split at h
   .split at h
    .simp only [Wj,Xa] at h;obtain⟨_,rfl⟩:=h;simp [kb] at d
    .cases h
   .cases h
  .rename_i i sz k off;split at h
   .rename_i B b xs y;obtain⟨l,_,h⟩:=Wk.1 h;split at h
    .rename_i x;obtain⟨j,_,_⟩:=x;subst j;replace h:=aS h (.inl rfl);obtain⟨f,o,h⟩:=h;simp only [Wj,Xa] at h;obtain⟨_,rfl⟩:=h;cases g:iw s.h v with
     | cons q r=>rw [g] at d;simp [kb] at d
     | nil=>rw [g] at d;simp only [kb,beq_iff_eq] at d;subst d;exact⟨_,_,_,_,_,_,rfl,⟨_,y,UD o⟩,rfl⟩
    .cases h
   .split at h
    .split at h
     .split at h
      .replace h:=aS h (.inl rfl);obtain⟨e,_,h⟩:=h;simp only [Wj,Xa] at h;obtain⟨_,rfl⟩:=h;simp [kb] at d
      .cases h
     .cases h
    .cases h
   .cases h
  .split at h
   .replace h:=aS h (.inl rfl);obtain⟨p,_,h⟩:=h;obtain⟨l,_,h⟩:=Wk.1 h;split at h
    .replace h:=aS h (.inl rfl);obtain⟨f,_,h⟩:=h;simp only [Wj,Xa] at h;obtain⟨_,rfl⟩:=h;simp [kb] at d
    .cases h
   .cases h
  .cases h
theorem Dj{o:Oper}{t:TypeId}{a:Nat}{y:Operand}{v:AV}{us:aH}(b:o.op= .store t (.tmp a) y)(h:dq P An Or none o s=some (v,us)):jU P s t (s.get none (.tmp a)) (s.get none y) (λu=>some (AV.top,u))=some (v,us):=by unfold dq jD at h;rw [b] at h;exact h
theorem Kl{a b:Oper}(hl:nf P An ops a b=true)(M:a∈ops)(N:b∈ops){s1 s2:St}{Q U:AV}{v y:aH}(ea:dq P An Or none a s1=some (Q,v))(eb:dq P An Or none b s2=some (U,y))
  (G:lR P An ops a s1 v=true) (okb:lR P An ops b s2 y=true) (r:s2.h=aP s1.h v\/s1.h=aP s2.h y):
  (∀p∈v,∀q∈y,p.1≠q.1)/\(∀x∈a.op.operands,∀i∈(s1.get none x).ids,∃p∈v,p.1=i)/\(∀x∈b.op.operands,∀i∈(s2.get none x).ids,∃p∈y,p.1=i):=by
 have o:=Xi.1 G b N;have l:=Xi.1 okb a M;simp only [Ww] at o l;replace o:=o.1.2.1;replace l:=l.1.2.2;rw [hl] at o l;simp only [Ws,W4,Ww] at o l;simp only [nf,Ww] at hl;obtain⟨ta,V,Z,ga,z⟩:=rN hl.1.2;obtain⟨tb,Y,yb,gb,u⟩:=rN hl.2;obtain⟨i,sz,k,off,j,rsz,X,I,J,⟨_,_,a4⟩,K,rfl,_,_,_,_,_,_,_,B,rfl,_⟩:=Hz (Dj z ea) o;obtain⟨i',sz',k',off',b',ys',L,⟨_,g,_⟩,rfl⟩:=HA (Dj u eb) l.1;have m:=l.2;simp only [Aq,u,XN] at m;have F:i'≠i/\i'≠j:=by
  rcases r with r | r
  .rw [r,du,eC] at g;constructor
   .rintro rfl;rw [aF] at g;cases g
   .intro e;by_cases C:i'=i
    .rw [C,aF] at g;cases g
    .rw [ay _ _ C,e,aF] at g;cases g
  .rw [r,eC] at B a4;constructor
   .rintro rfl;rw [aF] at B;cases B
   .rintro rfl;rw [aF] at a4;simp only [Wj,aa.sl.injEq] at a4;exact K a4.2.1.symm
 refine⟨λp D q E e=> ?_,λx f id d=> ?_,λx f id d=> ?_⟩
 .simp only [WC,XE,or_false] at D E;subst E;rcases D with rfl | rfl
  .exact F.2 e.symm
  .exact F.1 e.symm
 .simp only [z,Op.operands] at f;have f:x= .tmp V\/x=Z:=by simpa using f
  rcases f with rfl | rfl
  .rw [I] at d;simp only [AV.ids,WA] at d;subst d;exact⟨_,Wn _ (WA.2 rfl),rfl⟩
  .rw [J] at d;simp only [AV.ids,WA] at d;subst d;exact⟨_,Wl,rfl⟩
 .simp only [u,Op.operands] at f;have f:x= .tmp Y\/x=yb:=by simpa using f
  rcases f with rfl | rfl
  .rw [L] at d;simp only [AV.ids,WA] at d;subst d;exact⟨_,Wl,rfl⟩
  .rw [m] at d;cases d
theorem BS{o:Oper}(h:yK P o=true):∃a,o.guard=none/\((∃t e n,o.op= .indexAddr t (.tmp a) n/\ou P t=some e/\P.cellsOf e=1)\/∃t,o.op= .load t (.tmp a)):=by
 unfold yK at h;split at h
 .rename_i t a n b d;split at h
  .rename_i e f;exact⟨a,b, .inl ⟨t,e,n,d,f,by simpa using h⟩⟩
  .cases h
 .rename_i t a b d;exact⟨a,b, .inr ⟨t,d⟩⟩
 .cases h
def qK(h h':Id->Option aa):Prop:= ∀m,h' m=h m\/(∃fz sz b xs d b' a,h m=some (.sl fz sz b xs)/\h' m=some (.sl d sz b' a)/\a.length=xs.length)\/
 (∃b sz col rsz f es e es',h m=some (.rows b sz col rsz f es)/\h' m=some (.rows b sz col rsz e es')/\es'.length=es.length)\/∃sz b xs,sz≠1/\h m=some (.sl false sz b xs)/\h' m=some .dead
theorem qK.index{t e:TypeId}{m:Id}{n:Int}{K:AV->Option (AV×aH)}{r:AV×aH}(H:qK s.h s'.h)(g:ou P t=some e)(f:P.cellsOf e=1):kG P s none t (.own m) n K=some r↔kG P s' none t (.own m) n K=some r:=by
 unfold kG;simp only [g];rcases H m with h | ⟨_,_,_,_,_,_,_,a,b,d⟩ | ⟨_,_,_,_,_,_,_,_,a,b,d⟩ | ⟨sz,_,_,h0,a,b⟩
 .rw [h]
 .rw [a,b];simp only [d]
 .rw [a,b];simp only [d]
 .rw [a,b];simp only [f,if_neg h0,reduceCtorEq]
theorem qK.load{t:TypeId}{m:Id}{off:Nat}{K:AV->Option (AV×aH)}{r:AV×aH}(H:qK s.h s'.h):ix P s none t (.ref m off) K=some r↔ix P s' none t (.ref m off) K=some r:=by
 unfold ix;rcases H m with h | ⟨_,_,_,_,_,_,_,a,b,d⟩ | ⟨_,_,_,_,_,_,_,_,a,b,d⟩ | ⟨sz,_,_,h0,a,b⟩
 .simp only [h]
 .simp only [a,b]
 .simp only [a,b]
 .simp only [a,b]
theorem qK.store{t:TypeId}{a v q:AV}{us:aH}(h:jU P s t a v (λu=>some (AV.top,u))=some (q,us))(d:ka us=true\/kb us=true):qK s.h (aP s.h us):=by
 rcases d with d | d
 .obtain⟨i,sz,k,off,j,rsz,X,_,_,⟨_,_,a4⟩,g,rfl,_,_,_,_,_,_,_,f,rfl,l⟩:=Hz h d;intro m;rw [du,eC];by_cases b:m=i
  .subst b;exact .inr (.inr (.inl ⟨_,_,_,_,_,_,_,_,f,aF _ _ _,l⟩))
  .rw [ay _ _ b];by_cases e:m=j
   .subst e;exact .inr (.inr (.inr ⟨_,_,_,g,a4,aF _ _ _⟩))
   .rw [ay _ _ e];exact .inl rfl
 .obtain⟨i,_,_,_,_,_,_,⟨_,o,p⟩,rfl⟩:=HA h d;intro m;rw [eC];by_cases b:m=i
  .subst b;exact .inr (.inl ⟨_,_,_,_,_,_,_,o,aF _ _ _,p⟩)
  .rw [ay _ _ b];exact .inl rfl
theorem Km{a b:Oper}(hl:mu P An ops a b=true)(u:a∈ops)(B:b∈ops){s1 s2 q:St}{G:AV}{l:aH}{F:aH}(ea:dq P An Or none a s1=some (G,l))(o:lR P An ops a s1 l=true)(okb:lR P An ops b q F=true)
  (E:s2.h=aP s1.h l) (g:∀x∈b.op.operands,s2.get none x=s1.get none x) (k:∀x∈b.op.operands,q.get none x=s1.get none x) (r:AV×aH):dq P An Or none b s1=some r↔dq P An Or none b s2=some r:=by
 have i:=Xi.1 o b B;have f:=Xi.1 okb a u;simp only [Ww] at i f;replace i:=i.2.1;replace f:=f.2.2;rw [hl] at i f;simp only [Ws,W4,Xf] at i f;simp only [mu,Ww,Xf] at hl;obtain⟨K,L,M,I,p⟩:∃t x y,a.guard=none/\a.op= .store t (.tmp x) y:=by rcases hl.1.2 with h | h <;> exact rN h
 have H:=qK.store (Dj p ea) i;rw [<-E] at H;obtain⟨j,J,⟨tb,e,n,d,D,C⟩ | ⟨tb,d⟩⟩:=BS hl.2
 case inr=>
  simp only [wE,d] at f;rw [k (.tmp j) (by simp [d,Op.operands])] at f;split at f
  .rename_i m off hm;unfold dq jD;rw [d];dsimp only;rw [g (.tmp j) (by simp [d,Op.operands]),hm];exact H.load
  .cases f
 simp only [wE,d] at f;rw [k (.tmp j) (by simp [d,Op.operands])] at f;split at f
 .rename_i m hm;unfold dq jD;rw [d];dsimp only;rw [g (.tmp j) (by simp [d,Op.operands]),g n (by simp [d,Op.operands]),hm];unfold p7;cases(s1.get none n).t? with
  | none=>exact YL
  | some y=>
   simp only [Wq];cases jH.anyInt y with
   | none=>exact YL
   | some z=>change (kG P s1 none tb (AV.own m) z λv=>some (v,[]))=some r↔(kG P s2 none tb (AV.own m) z λv=>some (v,[]))=some r;exact H.index D C
 .cases f
theorem HU{a b:Oper}{s1 s2:St}{us:aH}{y:aH}(hl:jO P An ops a b=true)(o:a∈ops)(p:b∈ops)(m:lR P An ops a s1 us=true)(okb:lR P An ops b s2 y=true)(v:∀k,k∉iu ops.toList->(s1.t k).2= (s2.t k).2):
  ∀x∈b.op.operands,∀i∈(s2.get none x).ids,∀q∈us,q.1≠i:=by
 have f:=Xi.1 m b p;have d:=Xi.1 okb a o;simp only [Ww] at f d;replace f:=f.1.1.1.2;replace d:=d.1.1.2;rw [hl] at f d;simp only [Ws,W4] at f d;rcases vV hl with⟨k,j,r⟩ | j
 .simp only [yO,vW,j,WO,decide_eq_true_eq] at f d;intro x l i g q u e;have:=d x (Array.mem_toList_iff.2 l) i g;rw [<-v k r,<-e] at this;exact f q u this
 .simp only [vW,j,WO,XN] at d;intro x l i g;rw [d x (Array.mem_toList_iff.2 l)] at g;cases g
theorem Dg{o:Oper}{us:aH}(v:∀k,k∉iu ops.toList->s'.t k=s.t k)(u:∀k,hI ops o=some k\/jQ ops o=some none->∀x∈o.op.operands,s'.get none x=s.get none x)(B:o.guard=none->∀x∈o.op.operands,s'.get none x=s.get none x)(h:lR P An ops o s us=true):lR P An ops o s' us=true:=by
 refine Xi.2 λp hm=> ?_;have h0:=Xi.1 h p hm;simp only [Ww] at h0⊢;obtain⟨⟨⟨⟨q,r⟩,m⟩,K,j⟩,F,f⟩:=h0;refine⟨⟨⟨⟨?_, ?_⟩, ?_⟩,K, ?_⟩,F, ?_⟩
 .cases g:lQ An ops o p with
  | false=>rfl
  | true=>obtain⟨k,L,b,G,M,I,J⟩:=Df g;rw [g] at q;simp only [Ws,W4,Dh,b,G,Ww,WO] at q⊢;rw [v k I,v L J];refine⟨⟨λx i=> ?_,q.1.2⟩,q.2⟩;rw [u k (.inl b) x (Array.mem_toList_iff.1 i)];exact q.1.1 x i
 .cases g:jO P An ops o p with
  | false=>rfl
  | true=>
   rw [g] at r;simp only [Ws,W4] at r⊢;rcases vV g with⟨k,b,E⟩ | b
   .simp only [yO,b] at r⊢;rw [v k E];exact r
   .simp only [yO,b]
 .cases g:jO P An ops p o with
  | false=>rfl
  | true=>
   rw [g] at m;simp only [Ws,W4] at m⊢;rcases vV g with⟨k,b,E⟩ | b
   .simp only [vW,b,WO] at m⊢;rw [v k E];intro x i;rw [u k (.inl (SC b)) x (Array.mem_toList_iff.1 i)];exact m x i
   .simp only [vW,b,WO] at m⊢;intro x i;rw [u 0 (.inr b) x (Array.mem_toList_iff.1 i)];exact m x i
 .cases C:nf P An ops p o with
  | false=>rfl
  | true=>
   rw [C] at j;simp only [Ws,W4,Ww] at j⊢;refine⟨j.1, ?_⟩;have z:=j.2;simp only [nf,Ww] at C;obtain⟨t,a,y,l,d⟩:=rN C.2;have b:hI ops o=some (uf ops a):=by simp [hI,l,d]
   simp only [Aq,d] at z⊢;rw [u _ (.inl b) y (by simp [d,Op.operands])];exact z
 .cases D:mu P An ops p o with
  | false=>rfl
  | true=>
   rw [D] at f;simp only [Ws,W4] at f⊢;simp only [mu,Ww] at D;obtain⟨a,l,⟨t,e,n,d,_,_⟩ | ⟨t,d⟩⟩:=BS D.2
   .simp only [wE,d] at f⊢;rw [B l (.tmp a) (by simp [d,Op.operands])];exact f
   .simp only [wE,d] at f⊢;rw [B l (.tmp a) (by simp [d,Op.operands])];exact f
theorem HC:∀{l l':List AV},nP l l'=true->∀{k:Nat} {v:AV},vN v=true->(l[k]? =some v↔l'[k]? =some v)
 | [],[],_,_,_,_=>YL
 | [],_::_,h,_,_,_=>by cases h
 | _::_,[],h,_,_,_=>by cases h
 | c::r,c'::m,h,k,v,b=>by
  unfold nP at h;cases a:vO c c' with
  | none=>rw [a] at h;cases h
  | some q=>
  rw [a] at h;have tl:nP r m=true:=by
   cases q with
   | none=>exact h
   | some p=>simp only [Ww] at h;exact h.2
  have f:∀p,q=some p->p.1=p.2:=λp e=>by subst e;simp only [Ww,decide_eq_true_eq] at h;exact h.1
  have d:c=v↔c'=v:=by
   unfold vO at a;split at a
   .rename_i i o j p;by_cases e:i=j/\o=p
    .obtain⟨rfl,rfl⟩:=e;exact YL
    .simp [e] at a
   .cases a
   .cases a
   .rename_i g u k1 x;by_cases e:g=k1
    .subst e;simp at a;have:=f _ a.symm;simp at this;subst this;exact YL
    .simp [e] at a
   .cases a
   .cases a
   .constructor
    .rintro rfl;unfold vN at b;split at b
     .simp_all
     .simp_all
     .cases b
    .rintro rfl;unfold vN at b;split at b
     .simp_all
     .simp_all
     .cases b
  cases k with
  | zero=>simpa using d
  | succ k=>simpa using HC tl (k:=k) b
def px(h h':Id->Option aa):Prop:= ∀m,h' m=h m\/(∃cs a,h m=some (.box cs)/\h' m=some (.box a)/\nP cs a=true)\/
 ((∀cs,h m≠some (.box cs))/\(∀cs,h' m≠some (.box cs))/\(∀cs,h m≠some (.dy cs))/\∀cs,h' m≠some (.dy cs))
theorem HH{h h':Id->Option aa}:∀{us:aH},mb h h' us=true->∀p∈us,(∃cs d,h p.1=some (.box cs)/\h' p.1=some (.box d)/\nP cs d=true)\/
  ((∀cs,h p.1≠some (.box cs))/\(∀cs,h' p.1≠some (.box cs))/\(∀cs,h p.1≠some (.dy cs))/\∀cs,h' p.1≠some (.dy cs))
 | [],_,_,f=>by cases f
 | q::us,b,p,f=>by
  unfold mb at b;cases a:vP (h q.1) (h' q.1) with
  | none=>rw [a] at b;cases b
  | some r=>
  rw [a] at b;have tl:mb h h' us=true:=by
   cases r with
   | none=>exact b
   | some r=>simp only [Ww] at b;exact b.2
  rcases WC.1 f with rfl | f
  .generalize g:h p.1=x at a;generalize i:h' p.1=y at a;unfold vP at a;split at a
   .rename_i cs d;cases a;simp only [Ww] at b;exact .inl ⟨cs,d,rfl,rfl,b.1⟩
   .cases a
   .cases a
   .cases a
   .cases a
   .exact .inr ⟨λcs e=>by simp_all,λcs e=>by simp_all,λcs e=>by simp_all,λcs e=>by simp_all⟩
  .exact HH tl p f
theorem px.of{h:Id->Option aa}{us:aH}(d:mb h (aP h us) us=true):px h (aP h us):=by
 intro m;by_cases e:∃p∈us,p.1=m
 .obtain⟨p,a,rfl⟩:=e;exact .inr (HH d p a)
 .exact .inl (dV λp a b=>e ⟨p,a,b⟩)
theorem px.load{t:TypeId}{m:Id}{off:Nat}{v:AV}{u:aH}(H:px s.h s'.h)(b:vN v=true):
  ix P s none t (.ref m off) (λv=>some (v,([]:aH)))=some (v,u)↔ix P s' none t (.ref m off) (λv=>some (v,([]:aH)))=some (v,u):=by
 unfold ix;rcases H m with h | ⟨cs,B,i,j,o⟩ | ⟨p,q,r,z⟩
 .simp only [h]
 .simp only [i,j];cases cx P t with
  | false=>exact YL
  | true=>
   simp only [cond_true];unfold nR;cases bW P t with
   | true=>
    simp only [cond_true];have no:∀l:List AV,¬((n6 (P.cellsOf t) l).bind λl=>some (AV.agg l,([]:aH)))=some (v,u):=λl e=>by obtain⟨x,_,e⟩:=Wk.1 e;simp only [Wj,Xa] at e;rw [<-e.1] at b;cases b
    exact⟨λe=>absurd e (no _),λe=>absurd e (no _)⟩
   | false=>
    simp only [cond_false,List.head?_drop];have key:=HC o (k:=off) b;constructor <;> intro e
    .obtain⟨x,d,e⟩:=Wk.1 e;simp only [Wj,Xa] at e;obtain⟨rfl,rfl⟩:=e;rw [key.1 d];rfl
    .obtain⟨x,d,e⟩:=Wk.1 e;simp only [Wj,Xa] at e;obtain⟨rfl,rfl⟩:=e;rw [key.2 d];rfl
 .have a:∀(s0:St),(∀cs,s0.h m≠some (.box cs))->(∀cs,s0.h m≠some (.dy cs))->ix P s0 none t (.ref m off) (λv=>some (v,([]:aH)))=none:=λs0 x y=>by
   unfold ix;cases cx P t with
   | false=>rfl
   | true=>
    dsimp only [cond_true];split
    .rename_i cs e;exact absurd e (x cs)
    .rename_i cs e;exact absurd e (y cs)
    .rfl
  have f:=a s p r;have g:=a s' q z;unfold ix at f g;rw [f,g]
theorem Hp{o:Oper}(h:p8 o=true):o.guard=none/\((∃t x,o.op= .load t (.tmp x))\/∃t x n,o.op= .indexAddr t (.tmp x) n):=by
 unfold p8 at h;split at h
 .rename_i t x a b;exact⟨a, .inl ⟨t,x,b⟩⟩
 .rename_i t x n a b;exact⟨a, .inr ⟨t,x,n,b⟩⟩
 .cases h
theorem Kn{b:Oper}(hl:p8 b=true){s1 s2:St}(g:∀x∈b.op.operands,∀k,x= .tmp k->s2.t k=s1.t k)(f:sU b s1=true):dq P An Or none b s2=dq P An Or none b s1:=by
 have a:fp An b=false/\fc An b=false:=by obtain⟨_,⟨t,x,e⟩ | ⟨t,x,n,e⟩⟩:=Hp hl <;> simp [fp,fc,e]
 refine kr (s:=s1) (s':=s2) g (.inr (.inr (.inr ⟨a.1,a.2,λx a id d=> ?_⟩)));have:=WO.1 f x (Array.mem_toList_iff.2 a);rw [XN.1 this] at d;cases d
theorem Ko{b:Oper}(hl:p8 b=true){s1 s2:St}(H:An.yP b.dst b.type=true\/(An.yQ b.dst b.type=true/\px s1.h s2.h))(i:∀x∈b.op.operands,∀k,x= .tmp k->s2.t k=s1.t k){v:AV}{u:aH}
  (a:qe An b s1 v=true):dq P An Or none b s1=some (v,u)↔dq P An Or none b s2=some (v,u):=by
 unfold qe at a;simp only [Ww] at a;rcases H with h | ⟨j,H⟩
 .have d:=a.1;rw [h,hl] at d;simp only [Zl,Ws,W4] at d;rw [Kn hl i d]
 replace a:=a.2;rw [j,hl] at a;simp only [Zl,Ws,W4,Xf] at a;rcases a with d | f
 .rw [Kn hl i d]
 .split at f
  .rename_i t x g;simp only [Ww] at f;obtain⟨e,l⟩:=f;unfold Hs at e;split at e
   .rename_i m off hm;have o:s2.get none x= .ref m off:=by rw [<-hm];exact oF (i x (by simp [g,Op.operands]))
    unfold dq jD;rw [g];dsimp only;rw [hm,o];exact px.load H l
   .cases e
  .cases f
theorem B6{o:Oper}{v:AV}(b:∀x∈o.op.operands,s'.get none x=s.get none x)(h:qe An o s v=true):qe An o s' v=true:=by
 have d:sU o s'=sU o s:=by
  unfold sU;rw [Bool.eq_iff_iff,WO,WO];constructor
  .intro h x hm;rw [<-b x (Array.mem_toList_iff.1 hm)];exact h x hm
  .intro h x hm;rw [b x (Array.mem_toList_iff.1 hm)];exact h x hm
 unfold qe at h⊢;rw [d];simp only [Ww] at h⊢;refine⟨h.1, ?_⟩;have a:=h.2;simp only [Xf] at a⊢;rcases a with a | a
 .exact .inl a
 .right;split at a
  .rename_i t x e;rw [b x (by simp [e,Op.operands])];exact a
  .cases a
theorem KP{h h':Id->Option aa}:∀{us:aH} {i:Id},(∃p∈us,p.1=i)\/h i=h' i->aP h us i=aP h' us i
 | [],i,e=>by
  rcases e with⟨p,a,_⟩ | e
  .cases a
  .exact e
 | q::us,i,e=>by
  obtain⟨j,b⟩:=q;rw [du,du];refine KP ?_;by_cases d:i=j
  .right;subst d;rw [aF,aF]
  .rcases e with⟨p,a,rfl⟩ | e
   .rcases WC.1 a with rfl | a
    .exact absurd rfl d
    .exact .inl ⟨p,a,rfl⟩
   .right;rw [ay _ _ d,ay _ _ d];exact e
theorem HG{h h' g a:Id->Option aa}:∀{us:aH},(∀p∈us,h p.1=h' p.1/\g p.1=a p.1)->mb h g us=mb h' a us
 | [],_=>rfl
 | p::us,e=>by have d:=HG (us:=us) λq b=>e q (Wn _ b);unfold mb;rw [(e p Wl).1,(e p Wl).2,d]
theorem HB{o:Oper}{h h':Id->Option aa}{us:aH}(e:∀p∈us,h p.1=h' p.1):kJ An true o h us=kJ An true o h' us:=by unfold kJ;rw [HG λp a=>⟨e p a,KP (.inl ⟨p,a,rfl⟩)⟩]
theorem swap{listed:Array Bool}{i j:Nat}{l u:Oper}(hu:sP ops)(hgk:tM ops=true)(Z:ops[i]? =some l)(hj:ops[j]? =some u)(hne:j≠i)(hri:i∈Region.ready .any ops listed)(hrj:j∈Region.ready .any ops listed)
  (hcl:sE ops listed) (hap:l.apart ops u=true) (hcm0':s7 P An l u=true\/uz P An ops l u=true) (hG:sG ops listed s) (K:fV P An Or true nt ops l s=some s1) (L:fV P An Or true nt ops u s1=some s2):
  ∃sj,fV P An Or true nt ops u s=some sj/\fV P An Or true nt ops l sj=some s2:=by
 obtain⟨I,vi,C,wi,rfl⟩:=Cy K;obtain⟨G,vj,B,wj,rfl⟩:=Cy L;obtain⟨hli,oi',hi',hai⟩:=mem_ready.1 hri;rw [Z] at hi';simp only [Wj] at hi';subst hi';obtain⟨hlj,oj',hj',haj⟩:=mem_ready.1 hrj;rw [hj] at hj';simp only [Wj] at hj';subst hj';obtain⟨a1,a2,a3⟩:=Oper.apart_spec hap;have behind:∀(o:Oper) (m:Nat),listed.getD m true=false->(∀e∈o.after,Region.binds .any e=true->listed.getD e.on false=true)->∀e∈o.after,Region.binds .any e=true->¬(e.on=m\/iT ops 12 e.on m=true):=by
  intro o m hlm hall e he hb h;rcases h with h | h
  .exact w8 hlm (h▸hall e he hb)
  .have hl:=hall e he hb;cases hk:ops[e.on]? with
   | none=>simp [iT,hk] at h
   | some ok=>rw [Av hcl hlm hk (hcl e.on ok hk hl)] at h;cases h
 have noti:=behind u i hli haj;have notj:=behind l j hlj hai;have wiok:=wi.ok;have wjok:=wj.ok;simp only [oO,Ws,W4,Ww] at wiok wjok;obtain⟨⟨⟨i1,i2⟩,i3⟩,⟨⟨⟨⟨⟨⟨i4,i5⟩,i6⟩,i7⟩,i8⟩,i9⟩,i10⟩,i11⟩:=wiok;obtain⟨⟨⟨j1,j2⟩,j3⟩,⟨⟨⟨⟨⟨⟨j4,j5⟩,j6⟩,j7⟩,j8⟩,j9⟩,j10⟩,j11⟩:=wjok;have pli:=CJ (g:=I) (v:=vi) (us:=C) hu Z hli hG (eD ops l.dst);have tj:∀k,k∈u.looksAt ops->(s.put (eD ops l.dst) l.dst I vi C).t k=s.t k:=by intro k hk;rw [pli];exact sq (b:=false) λe=>a1 k e hk
 have ti:∀(g:Option Gs) (v:AV) (us:aH) k,k∈l.looksAt ops->(s.put false u.dst g v us).t k=s.t k:=λg v us k hk=>sq (b:=false) λe=>a3 k e hk;have gj':dL ops u s some=some G:=by rw [<-wj.guard];exact(Hg λx b d J U=>tj d (H7 J U)).symm
 have getj:∀x∈u.op.operands,(s.put (eD ops l.dst) l.dst I vi C).get G x=s.get G x:=λx z=>oF λk e=>tj k (gp (e▸z));have nj:qk ops G u s=true:=by rw [<-j4];exact(Iy getj).symm
 have a2':∀d,u.dst=some d->l.dst≠some d:=λd h h'=>a2 d h' h;have guardA:∀(o:Oper) (g:Option Gs) (s0:St) (k:Nat),hI ops o=some k->dL ops o s0 some=some g->g=none/\fp An o=false/\fc An o=false:=by
  intro o g s0 k h M;unfold hI at h;split at h
  .rename_i J U;unfold dL at M;rw [J] at M;simp only [Wj] at M;exact⟨M.symm,by simp [fp,U],by simp [fc,U]⟩
  .rename_i J U;unfold dL at M;rw [J] at M;simp only [Wj] at M;exact⟨M.symm,by simp [fp,U],by simp [fc,U]⟩
  .cases h
 have al_w:∀o:Oper,jM o=true->aE P An o=false:=by intro o h;cases hop:o.op <;> simp only [jM,hop,WX] at h <;> simp [aE,hop]
 have w_r:∀o:Oper,aE P An o=false->fp An o=false:=by
  intro o h;cases hr:fp An o with
  | false=>rfl
  | true=>
   exfalso;cases hop:o.op <;> simp only [fp,hop,WX] at hr;rename_i cl;cases hcal:cl.callee <;> simp only [hcal,WX] at hr;rename_i fo;simp only [aE,hop,hcal] at h;cases fo with
   | func f=>
    dsimp only at h hr;cases hb:An.ji f with
    | none=>rw [hb] at hr;simp at hr
    | some x=>rw [hb] at h;simp at h
   | _=>dsimp only at h hr;rw [h] at hr;cases hr
 have notmine:∀(o:Oper) (us:aH) (m:Nat) (om:Oper),ops[m]? =some om->(∀e∈o.after,Region.binds .any e=true->¬(e.on=m\/iT ops 12 e.on m=true))->uH ops o us=true->(∀d,om.dst=some d->o.dst≠some d)->∀q∈us,∀d k,om.dst=some d->q.1≠ .s d k:=by
  intro o us m om hm hnot hok hdst q D d k hd e;have J:=WO.1 hok q D;rw [e] at J;simp only [Xf] at J;rcases J with J | J
  .unfold sY at J;have h3:=WO.1 J m (Zj.2 (YU.1 hm).1);rw [hm] at h3;simp only [hd,BEq.rfl,Ws,W4] at h3;obtain⟨e',he,hb⟩:=YI.1 h3;simp only [Ww,Xf,beq_iff_eq] at hb;exact hnot e' he hb.1 hb.2
  .exact hdst d hd (by simpa using J)
 have ltd:∀(o:Oper),(match o.dst with | some d=>decide (d < nt) | none=>true)=true->Nat.ble nt 1000000=true->∀d,o.dst=some d->d < 1000000:=by intro o J U d hd;rw [hd] at J;simp only [decide_eq_true_eq] at J;exact Xt J (Nat.le_of_ble_eq_true U)
 have guardB:∀(o:Oper) (g:Option Gs) (s0:St) (k:Nat),(hI ops o=some k\/jQ ops o=some none)->dL ops o s0 some=some g->g=none:=by
  intro o g s0 k h M;rcases h with h | h
  .exact(guardA o g s0 k h M).1
  .have J:=SB h;unfold dL at M;rw [J] at M;simp only [Wj] at M;exact M.symm
 have three:dq P An Or G u s=some (vj,B)/\dq P An Or I l (s.put false u.dst G vj B)=some (vi,C)/\(∀p∈C,∀q∈B,p.1≠q.1):=by
  rcases hcm0' with hcm | hst
  .skip
   have hcm0:=hcm;unfold s7 at hcm0;simp only [Ww] at hcm0;obtain⟨⟨hcm1,hcd1⟩,hcd2⟩:=hcm0;have hcm':(aE P An l=false\/gh P u=true\/jM u=true)/\(aE P An u=false\/gh P l=true\/jM l=true):=by simp only [Xo,Xq,Bool.and_eq_false_iff,Yp,Xf] at hcm1;exact hcm1
   have hdi:fc An l=false\/B= []:=by
    simp only [Xf,Xo] at hcd1;rcases hcd1 with h | h
    .exact .inl h
    .right;simpa [h] using j7
   have hdj:fc An u=false\/C= []:=by
    simp only [Xf,Xo] at hcd2;rcases hcd2 with h | h
    .exact .inl h
    .right;simpa [h] using i7
   have purei:gh P l=true->C= []:=λh=>by simpa [h] using i6
   have purej:gh P u=true->B= []:=λh=>by simpa [h] using j6
   have opj:dq P An Or G u s=some (vj,B):=by
    have old:gh P u=true\/jM u=true\/aP s.h C=s.h\/(fp An u=false/\fc An u=false/\∀x∈u.op.operands,∀id∈(s.get G x).ids,aP s.h C id=s.h id)->dq P An Or G u s=some (vj,B):=by intro h;rw [<-wj.op];exact(kr (s:=s) (s':=s.put (eD ops l.dst) l.dst I vi C) (λx z k e=>tj k (gp (e▸z))) h).symm
    rcases hcm'.1 with hw | F | F
    case inr.inl=>exact old (.inl F)
    case inr.inr=>exact old (.inr (.inl F))
    have Q:mg l C=true:=by simpa [hw] using i5
    have direct:∀x∈u.op.operands,∀id∈(s.get G x).ids,∀q∈C,q.1≠id:=by intro x z id E q D e;obtain⟨d,k,K,L⟩:=gX Q ⟨q,D,e⟩;subst K;obtain⟨ed,he,hb,ho⟩:=yX nj z E Z L;exact noti ed he hb ho
    rcases hdj with hdj | hdj
    case inr=>exact old (.inr (.inr (.inl (by rw [hdj];rfl))))
    rcases hcm'.2 with hwj | hpi | hai'
    .exact old (.inr (.inr (.inr ⟨w_r u hwj,hdj,λx z id E=>dV λq D e=>direct x z id E q D e⟩)))
    .exact old (.inr (.inr (.inl (by rw [purei hpi];rfl))))
    .cases hwj:aE P An u with
     | false=>exact old (.inr (.inr (.inr ⟨w_r u hwj,hdj,λx z id E=>dV λq D e=>direct x z id E q D e⟩)))
     | true=>
      have hus:uH ops u B=true:=by simpa [hwj] using j8
      refine xF (s:=s.put (eD ops l.dst) l.dst I vi C) (s':=s) (N:=λi=>∃q∈C,q.1=i) (λx z k e=>(tj k (gp (e▸z))).symm) (λi Z=> ?_) hdj (λx z id E=> ?_) (λk=> ?_) (λp F=> ?_) wj.op
      .exact(dV λq D e=>Z ⟨q,D,e⟩).symm
      .rw [getj x z] at E;rintro⟨q,D,e⟩;exact direct x z id E q D e
      .rintro⟨q,D,e⟩;obtain⟨d,k',K,L⟩:=gX Q ⟨q,D,e⟩;simp only [Id.s.injEq] at K;have h:=ltd l i1 i9 d L;rw [<-K.1] at h;exact absurd h (ZI.2 (Xl (by decide) (YR 2000000 _)))
      .rintro⟨q,D,e⟩;obtain⟨d,k',K,L⟩:=gX Q ⟨q,D,rfl⟩;exact notmine u B i l Z noti hus a2 p F d k' L (by rw [<-e,K])
   have opi:dq P An Or I l (s.put false u.dst G vj B)=some (vi,C):=by
    have old:gh P l=true\/jM l=true\/aP s.h B=s.h\/(fp An l=false/\fc An l=false/\∀x∈l.op.operands,∀id∈(s.get I x).ids,aP s.h B id=s.h id)->dq P An Or I l (s.put false u.dst G vj B)=some (vi,C):=by intro h;rw [<-wi.op];exact kr (λx z k e=>ti _ _ _ k (gp (e▸z))) h
    rcases hcm'.2 with hw | F | F
    case inr.inl=>exact old (.inl F)
    case inr.inr=>exact old (.inr (.inl F))
    have Q:mg u B=true:=by simpa [hw] using j5
    have direct:∀x∈l.op.operands,∀id∈(s.get I x).ids,∀q∈B,q.1≠id:=by intro x z id E q D e;obtain⟨d,k,K,L⟩:=gX Q ⟨q,D,e⟩;subst K;obtain⟨ed,he,hb,ho⟩:=yX i4 z E hj L;exact notj ed he hb ho
    rcases hdi with hdi | hdi
    case inr=>exact old (.inr (.inr (.inl (by rw [hdi];rfl))))
    rcases hcm'.1 with hwi | hpj | haj'
    .exact old (.inr (.inr (.inr ⟨w_r l hwi,hdi,λx z id E=>dV λq D e=>direct x z id E q D e⟩)))
    .exact old (.inr (.inr (.inl (by rw [purej hpj];rfl))))
    .cases hwi:aE P An l with
     | false=>exact old (.inr (.inr (.inr ⟨w_r l hwi,hdi,λx z id E=>dV λq D e=>direct x z id E q D e⟩)))
     | true=>
      have hus:uH ops l C=true:=by simpa [hwi] using i8
      refine xF (s:=s) (s':=s.put false u.dst G vj B) (N:=λi=>∃q∈B,q.1=i) (λx z k e=>ti _ _ _ k (gp (e▸z))) (λi Z=> ?_) hdi (λx z id E=> ?_) (λk=> ?_) (λp F=> ?_) wi.op
      .exact dV λq D e=>Z ⟨q,D,e⟩
      .rintro⟨q,D,e⟩;exact direct x z id E q D e
      .rintro⟨q,D,e⟩;obtain⟨d,k',K,L⟩:=gX Q ⟨q,D,e⟩;simp only [Id.s.injEq] at K;have h:=ltd u j1 j9 d L;rw [<-K.1] at h;exact absurd h (ZI.2 (Xl (by decide) (YR 2000000 _)))
      .rintro⟨q,D,e⟩;obtain⟨d,k',K,L⟩:=gX Q ⟨q,D,rfl⟩;exact notmine l C j u hj notj hus a2' p F d k' L (by rw [<-e,K])
   have disj:∀p∈C,∀q∈B,p.1≠q.1:=by
    intro p F q D e;rcases hcm'.1 with hw | hpj | haj'
    .rcases hcm'.2 with hw' | hpi | hai'
     .obtain⟨d,k,K,L⟩:=gX (by simpa [hw] using i5:mg l C=true) ⟨p,F,rfl⟩;obtain⟨d',k',e3,e4⟩:=gX (by simpa [hw'] using j5:mg u B=true) ⟨q,D,rfl⟩;rw [K,e3] at e;simp only [Id.s.injEq] at e;obtain⟨rfl,_⟩:=e;exact a2 d L e4
     .rw [purei hpi] at F;cases F
     .obtain⟨d,k,K,L⟩:=gX (by simpa [hw] using i5:mg l C=true) ⟨p,F,rfl⟩;cases hwj:aE P An u with
      | false=>obtain⟨d',k',e3,e4⟩:=gX (by simpa [hwj] using j5:mg u B=true) ⟨q,D,rfl⟩;rw [K,e3] at e;simp only [Id.s.injEq] at e;obtain⟨rfl,_⟩:=e;exact a2 d L e4
      | true=>exact notmine u B i l Z noti (by simpa [hwj] using j8) a2 q D d k L (by rw [<-e,K])
    .rw [purej hpj] at D;cases D
    .obtain⟨d,k,K,L⟩:=gX (by simpa [al_w u haj'] using j5:mg u B=true) ⟨q,D,rfl⟩;cases hwi:aE P An l with
     | false=>obtain⟨d',k',e3,e4⟩:=gX (by simpa [hwi] using i5:mg l C=true) ⟨p,F,rfl⟩;rw [K,e3] at e;simp only [Id.s.injEq] at e;obtain⟨rfl,_⟩:=e;exact a2 d' e4 L
     | true=>exact notmine l C j u hj notj (by simpa [hwi] using i8) a2' p F d k L (by rw [e,K])
   exact⟨opj,opi,disj⟩
  .have hst3:((((lQ An ops l u=true\/jO P An ops l u=true)\/jO P An ops u l=true)\/(nf P An ops l u=true\/nf P An ops u l=true))\/(mu P An ops l u=true\/mu P An ops u l=true))\/(uA An l u=true\/uA An u l=true):=by
    unfold uz at hst;simpa only [Xf] using hst
   rcases hst3 with hst2 | hst6
   case inr=>
    have lq:∀o,p8 o=true->o.guard=none/\oS P An o=true/\gh P o=false:=λo h=>by
     obtain⟨J,⟨t,x,U⟩ | ⟨t,x,n,U⟩⟩:=Hp h
     .exact⟨J,by simp [oS,U],by simp [gh,U]⟩
     .exact⟨J,by simp [oS,U],by simp [gh,U]⟩
    have gn:∀(o:Oper) (g:Option Gs) (s0:St),o.guard=none->dL ops o s0 some=some g->g=none:=by intro o g s0 J M;unfold dL at M;rw [J] at M;simp only [Wj] at M;exact M.symm
    have kp:∀(o:Oper) (h0:Id->Option aa) (us:aH),An.s6 o.dst o.type=true->kJ An true o h0 us=true->px h0 (aP h0 us):=λo h0 us J U=>by unfold kJ at U;rw [J] at U;exact px.of (by simpa using U)
    rcases hst6 with h6 | h6
    .simp only [uA,Ww] at h6;obtain⟨hlx,hil⟩:=h6;simp only [Xf,Ww] at hlx;obtain⟨gdj,qj,_⟩:=lq u hil;have gnj:=gn u G s gdj gj';have uj:B= []:=by simpa [qj] using j7
     have ejop:=wj.op;rw [gnj] at ejop;refine⟨?_, ?_,λp F q D=>by rw [uj] at D;cases D⟩
     .rw [gnj];refine(Ko hil (hlx.symm.imp id λh=>⟨h.2,kp l s.h C h.1 wi.eQ⟩) (λx z k e=> ?_) ?_).2 ejop
      .exact tj k (gp (e▸z))
      .refine B6 (λx z=> ?_) j11;have h:=getj x z;rw [gnj] at h;exact h.symm
     .rw [<-wi.op];exact kr (λx z k e=>ti _ _ _ k (gp (e▸z))) (.inr (.inr (.inl (by rw [uj];rfl))))
    .simp only [uA,Ww] at h6;obtain⟨hlx,hil⟩:=h6;simp only [Xf,Ww] at hlx;obtain⟨gdi,qi,_⟩:=lq l hil;have gni:=gn l I s gdi wi.guard;have ui:C= []:=by simpa [qi] using i7
     have eiop:=wi.op;rw [gni] at eiop;have opj:dq P An Or G u s=some (vj,B):=by rw [<-wj.op];exact(kr (s:=s) (s':=s.put (eD ops l.dst) l.dst I vi C) (λx z k e=>tj k (gp (e▸z))) (.inr (.inr (.inl (by rw [ui];rfl))))).symm
     refine⟨opj, ?_,λp F=>by rw [ui] at F;cases F⟩;rw [gni];have hk:kJ An true u s.h B=true:=by have:=wj.eQ;rw [ui] at this;exact this
     exact(Ko hil (hlx.symm.imp id λh=>⟨h.2,kp u s.h B h.1 hk⟩) (λx z k e=>ti _ _ _ k (gp (e▸z))) i11).1 eiop
   rcases hst2 with hst1 | hst5
   case inr=>
    have ixq:∀o,yK P o=true->o.guard=none/\oS P An o=true/\gh P o=false:=λo h=>by
     obtain⟨a,J,⟨t,e,n,U,_⟩ | ⟨t,U⟩⟩:=BS h
     .exact⟨J,by simp [oS,U],by simp [gh,U]⟩
     .exact⟨J,by simp [oS,U],by simp [gh,U]⟩
    have gn:∀(o:Oper) (g:Option Gs) (s0:St),o.guard=none->dL ops o s0 some=some g->g=none:=by intro o g s0 J M;unfold dL at M;rw [J] at M;simp only [Wj] at M;exact M.symm
    have stg:∀o,(kI P o true=true\/kI P o false=true)->o.guard=none/\fp An o=false/\fc An o=false:=λo h=>by
     obtain⟨t,a,y,J,U⟩:∃t a y,o.guard=none/\o.op= .store t (.tmp a) y:=by rcases h with h | h <;> exact rN h
     exact⟨J,by simp [fp,U],by simp [fc,U]⟩
    rcases hst5 with h5 | h5
    .have h5':=h5;simp only [mu,Ww,Xf] at h5';obtain⟨gdi,ri,di⟩:=stg l h5'.1.2;obtain⟨gdj,qj,_⟩:=ixq u h5'.2;have gni:=gn l I s gdi wi.guard;have gnj:=gn u G s gdj gj';have uj:B= []:=by simpa [qj] using j7
     have eiop:=wi.op;have ejop:=wj.op;rw [gni] at eiop;rw [gnj] at ejop;have hget:∀x∈u.op.operands,(s.put (eD ops l.dst) l.dst I vi C).get none x=s.get none x:=λx z=>by have:=getj x z;rwa [gnj] at this
     refine⟨?_, ?_,λp F q D=>by rw [uj] at D;cases D⟩
     .rw [gnj];exact(Km h5 (W2 Z) (W2 hj) eiop i10 j10 rfl hget hget _).2 ejop
     .rw [<-wi.op];exact kr (λx z k e=>ti _ _ _ k (gp (e▸z))) (.inr (.inr (.inl (by rw [uj];rfl))))
    .have h5':=h5;simp only [mu,Ww,Xf] at h5';obtain⟨gdj,rj,dj⟩:=stg u h5'.1.2;obtain⟨gdi,qi,_⟩:=ixq l h5'.2;have gni:=gn l I s gdi wi.guard;have gnj:=gn u G s gdj gj';have ui:C= []:=by simpa [qi] using i7
     have eiop:=wi.op;rw [gni] at eiop;have opj:dq P An Or G u s=some (vj,B):=by rw [<-wj.op];exact(kr (s:=s) (s':=s.put (eD ops l.dst) l.dst I vi C) (λx z k e=>tj k (gp (e▸z))) (.inr (.inr (.inl (by rw [ui];rfl))))).symm
     have geti:∀x∈l.op.operands,(s.put false u.dst G vj B).get none x=s.get none x:=λx z=>oF λk e=>ti _ _ _ k (gp (e▸z));have okj:lR P An ops u s B=true:=by
      refine Dg (λk hk=> ?_) (λk hk x z=> ?_) (λM x z=> ?_) j10
      .rw [pli];exact(sq (b:=false) λe=>hk (rA e ops.toList (Array.mem_toList_iff.2 (W2 Z)))).symm
      .have h:=getj x z;rw [gnj] at h;exact h.symm
      .have h:=getj x z;rw [gnj] at h;exact h.symm
     refine⟨opj, ?_,λp F=>by rw [ui] at F;cases F⟩;rw [gni];rw [gnj] at opj;exact(Km h5 (W2 hj) (W2 Z) opj okj i10 rfl geti (λ_ _=>rfl) _).1 eiop
   have hst1:=hst1;rcases hst1 with hst0 | hst4
   case inr=>
    have both:∀o,(kI P o true=true\/kI P o false=true)->∃t a y,o.guard=none/\o.op= .store t (.tmp a) y:=λo h=>by
     rcases h with h | h
     .exact rN h
     .exact rN h
    have si:(kI P l true=true\/kI P l false=true)/\(kI P u true=true\/kI P u false=true):=by
     rcases hst4 with h | h <;> simp only [nf,Ww] at h
     .exact⟨.inl h.1.2, .inr h.2⟩
     .exact⟨.inr h.2, .inl h.1.2⟩
    obtain⟨ti',xi,yi,gdi,opi'⟩:=both l si.1;obtain⟨tj',xj,yj,gdj,opj'⟩:=both u si.2;have hki:hI ops l=some (uf ops xi):=by simp [hI,gdi,opi']
    have hkj:hI ops u=some (uf ops xj):=by simp [hI,gdj,opj']
    obtain⟨gni,ri,di⟩:=guardA l I s _ hki wi.guard;obtain⟨gnj,rj,dj⟩:=guardA u G s _ hkj gj';have eiop:=wi.op;have ejop:=wj.op;rw [gni] at eiop;rw [gnj] at ejop;have hres:(∀p∈C,∀q∈B,p.1≠q.1)/\(∀x∈l.op.operands,∀i∈(s.get none x).ids,∃p∈C,p.1=i)/\(∀x∈u.op.operands,∀i∈((s.put (eD ops l.dst) l.dst I vi C).get none x).ids,∃p∈B,p.1=i):=by
     rcases hst4 with h | h
     .exact Kl h (W2 Z) (W2 hj) eiop ejop i10 j10 (.inl rfl)
     .obtain⟨r1,r2,r3⟩:=Kl h (W2 hj) (W2 Z) ejop eiop j10 i10 (.inr rfl);exact⟨λp F q D e=>r1 q D p F e.symm,r3,r2⟩
    obtain⟨d1,d2,d3⟩:=hres;refine⟨?_, ?_,d1⟩
    .rw [<-wj.op];refine(kr (s:=s) (s':=s.put (eD ops l.dst) l.dst I vi C) (λx z k e=>tj k (gp (e▸z))) (.inr (.inr (.inr ⟨rj,dj,λx z id E=> ?_⟩)))).symm;refine dV λq D e=> ?_;rw [<-getj x z,gnj] at E;obtain⟨p,F,L⟩:=d3 x z id E;exact d1 q D p F (e.trans L.symm)
    .rw [<-wi.op];refine kr (λx z k e=>ti _ _ _ k (gp (e▸z))) (.inr (.inr (.inr ⟨ri,di,λx z id E=> ?_⟩)));refine dV λq D e=> ?_;rw [gni] at E;obtain⟨p,F,L⟩:=d2 x z id E;exact d1 p F q D (L.trans e.symm)
   have tk:∀k,k∉iu ops.toList->(s.put (eD ops l.dst) l.dst I vi C).t k=s.t k:=λk dk=>by rw [pli];exact sq (b:=false) λe=>dk (rA e ops.toList (Array.mem_toList_iff.2 (W2 Z)))
   have gnone:∀(o:Oper) (g:Option Gs) (s0:St),o.guard=none->dL ops o s0 some=some g->g=none:=by intro o g s0 J M;unfold dL at M;rw [J] at M;simp only [Wj] at M;exact M.symm
   rcases hst0 with(hst | hld) | hld
   rotate_left
   ·
    obtain⟨ga,wa,ra,da⟩:=HR hld;obtain⟨rb',hrb'⟩:∃r,jQ ops u=some r:=by rcases vV hld with⟨k,hk,_⟩ | hk <;> exact⟨_,hk⟩
    obtain⟨gb,wb,rb,db⟩:=Ju (P:=P) (An:=An) (HT hld) hrb';have gni:=gnone l I s ga wi.guard;have gnj:=gnone u G s gb gj';have Q:mg u B=true:=by simpa [wb] using j5
    have hus:uH ops l C=true:=by simpa [wa] using i8
    have hap2:=HU hld (W2 Z) (W2 hj) i10 j10 (λk hk=>by rw [tk k hk]);refine⟨?_, ?_, ?_⟩
    .rw [<-wj.op];refine(kr (s:=s) (s':=s.put (eD ops l.dst) l.dst I vi C) (λx z k e=>tj k (gp (e▸z))) (.inr (.inr (.inr ⟨rb,db,λx z id E=> ?_⟩)))).symm;refine dV λq D e=> ?_;rw [<-getj x z,gnj] at E;exact hap2 x z id E q D e
    .refine xF (s:=s) (s':=s.put false u.dst G vj B) (N:=λi=>∃q∈B,q.1=i) (λx z k e=>ti _ _ _ k (gp (e▸z))) (λi Z=> ?_) da (λx z id E=> ?_) (λk=> ?_) (λp F=> ?_) wi.op
     .exact dV λq D e=>Z ⟨q,D,e⟩
     .rintro⟨q,D,e⟩;obtain⟨d,k,K,L⟩:=gX Q ⟨q,D,e⟩;subst K;obtain⟨ed,he,hb,ho⟩:=yX i4 z E hj L;exact notj ed he hb ho
     .rintro⟨q,D,e⟩;obtain⟨d,k',K,L⟩:=gX Q ⟨q,D,e⟩;simp only [Id.s.injEq] at K;have h:=ltd u j1 j9 d L;rw [<-K.1] at h;exact absurd h (ZI.2 (Xl (by decide) (YR 2000000 _)))
     .rintro⟨q,D,e⟩;obtain⟨d,k',K,L⟩:=gX Q ⟨q,D,rfl⟩;exact notmine l C j u hj notj hus a2' p F d k' L (by rw [<-e,K])
    .intro p F q D e;obtain⟨d,k,K,L⟩:=gX Q ⟨q,D,rfl⟩;exact notmine l C j u hj notj hus a2' p F d k L (by rw [e,K])
   ·
    obtain⟨ga,wa,ra,da⟩:=HR hld;obtain⟨rb',hrb'⟩:∃r,jQ ops l=some r:=by rcases vV hld with⟨k,hk,_⟩ | hk <;> exact⟨_,hk⟩
    obtain⟨gb,wb,rb,db⟩:=Ju (P:=P) (An:=An) (HT hld) hrb';have gni:=gnone l I s gb wi.guard;have gnj:=gnone u G s ga gj';have Q:mg l C=true:=by simpa [wb] using i5
    have hus:uH ops u B=true:=by simpa [wa] using j8
    have hap2:=HU hld (W2 hj) (W2 Z) j10 i10 (λk hk=>by rw [tk k hk]);refine⟨?_, ?_, ?_⟩
    .refine xF (s:=s.put (eD ops l.dst) l.dst I vi C) (s':=s) (N:=λi=>∃q∈C,q.1=i) (λx z k e=>(tj k (gp (e▸z))).symm) (λi Z=> ?_) da (λx z id E=> ?_) (λk=> ?_) (λp F=> ?_) wj.op
     .exact(dV λq D e=>Z ⟨q,D,e⟩).symm
     .rw [getj x z] at E;rintro⟨q,D,e⟩;obtain⟨d,k,K,L⟩:=gX Q ⟨q,D,e⟩;subst K;obtain⟨ed,he,hb,ho⟩:=yX nj z E Z L;exact noti ed he hb ho
     .rintro⟨q,D,e⟩;obtain⟨d,k',K,L⟩:=gX Q ⟨q,D,e⟩;simp only [Id.s.injEq] at K;have h:=ltd l i1 i9 d L;rw [<-K.1] at h;exact absurd h (ZI.2 (Xl (by decide) (YR 2000000 _)))
     .rintro⟨q,D,e⟩;obtain⟨d,k',K,L⟩:=gX Q ⟨q,D,rfl⟩;exact notmine u B i l Z noti hus a2 p F d k' L (by rw [<-e,K])
    .rw [<-wi.op];refine kr (λx z k e=>ti _ _ _ k (gp (e▸z))) (.inr (.inr (.inr ⟨rb,db,λx z id E=> ?_⟩)));refine dV λq D e=> ?_;rw [gni] at E;exact hap2 x z id E q D e
    .intro p F q D e;obtain⟨d,k,K,L⟩:=gX Q ⟨p,F,rfl⟩;exact notmine u B i l Z noti hus a2 q D d k L (by rw [<-e,K])
   obtain⟨k,k',sk,sk',nek,dk,dk'⟩:=Df hst;obtain⟨gni,ri,di⟩:=guardA l I s k sk wi.guard;obtain⟨gnj,rj,dj⟩:=guardA u G s k' sk' gj';have hst':lQ An ops u l=true:=Uw hst;obtain⟨p1,p2,p3⟩:=Kq i10 (W2 hj) hst sk sk';obtain⟨q1,q2,q3⟩:=Kq j10 (W2 Z) hst' sk' sk;replace tk:=tk k dk;have tk':(s.put (eD ops l.dst) l.dst I vi C).t k'=s.t k':=by rw [pli];exact sq (b:=false) λe=>dk' (rA e ops.toList (Array.mem_toList_iff.2 (W2 Z)))
   rw [tk] at q3;rw [tk'] at q2;refine⟨?_, ?_,λp F q D e=>q3 q D (e▸p2 p F)⟩
   .rw [<-wj.op];refine(kr (s:=s) (s':=s.put (eD ops l.dst) l.dst I vi C) (λx z k e=>tj k (gp (e▸z))) (.inr (.inr (.inr ⟨rj,dj,λx z id E=> ?_⟩)))).symm;refine dV λq D e=> ?_;rw [<-getj x z,gnj] at E;have:=q1 x z id E;rw [tk'] at this;exact p3 q D (e▸this)
   .rw [<-wi.op];refine kr (λx z k e=>ti _ _ _ k (gp (e▸z))) (.inr (.inr (.inr ⟨ri,di,λx z id E=> ?_⟩)));refine dV λq D e=> ?_;rw [gni] at E;exact q3 q D (e▸p1 x z id E)
 obtain⟨opj,opi,disj⟩:=three;have sj10:lR P An ops u s B=true:=by
  refine Dg (λk hk=> ?_) (λk hk x z=> ?_) (λM x z=> ?_) j10
  .rw [pli];exact(sq (b:=false) λe=>hk (rA e ops.toList (Array.mem_toList_iff.2 (W2 Z)))).symm
  .have:=guardB u G s k hk gj';have h:=getj x z;rw [this] at h;exact h.symm
  .have hgn:G=none:=by
    have h:=gj';unfold dL at h;rw [M] at h;simp only [Wj] at h;exact h.symm
   have h:=getj x z;rw [hgn] at h;exact h.symm
 have frj:jn (u.dst.getD 0) s.h B=true:=by
  unfold jn at j3⊢;refine WO.2 λp F=> ?_;have:=WO.1 j3 p F;split at this
  .simp only [Xf,Yz] at this⊢;rcases this with h | h
   .exact .inl h
   .exact .inr (zV h).2
  .rfl
  .cases this
 have lj11:qe An u s vj=true:=by refine B6 (λx z=> ?_) j11;exact(oF λk e=>tj k (gp (e▸z))).symm
 have kj:kJ An true u s.h B=true:=by refine(HB λp F=> ?_).trans wj.eQ;show s.h p.1=aP s.h C p.1;rw [dV λq D e=>disj q D p F e]
 have wj0:uS P An Or nt ops u s G vj B:=⟨gj',opj,by
  simp only [oO,Ws,W4,Ww];exact⟨⟨⟨j1,j2⟩,frj⟩,⟨⟨⟨⟨⟨⟨nj,j5⟩,j6⟩,j7⟩,j8⟩,j9⟩,sj10⟩,lj11⟩,kj⟩
 have plj:=CJ (g:=G) (v:=vj) (us:=B) hu hj hlj hG (eD ops u.dst);refine⟨_,wj0.fV, ?_⟩;rw [plj];have gi':dL ops l (s.put false u.dst G vj B) some=some I:=by rw [<-wi.guard];exact Hg λx b d J U=>ti _ _ _ d (H7 J U)
 have geti:∀x∈l.op.operands,(s.put false u.dst G vj B).get I x=s.get I x:=λx z=>oF λk e=>ti _ _ _ k (gp (e▸z));have ni:qk ops I l (s.put false u.dst G vj B)=true:=by rw [<-i4];exact Iy geti
 have fri:jn (l.dst.getD 0) (s.put false u.dst G vj B).h C=true:=by
  unfold jn at i3⊢;refine WO.2 λp F=> ?_;have:=WO.1 i3 p F;split at this
  .rename_i d k ep;simp only [Xf,Yz] at this⊢;rcases this with h | h
   .exact .inl h
   .right;show aP s.h B p.1=none;rw [dV λq D e=>disj p F q D e.symm];exact h
  .rfl
  .cases this
 have si10:lR P An ops l (s.put false u.dst G vj B) C=true:=by
  refine Dg (λk hk=> ?_) (λk hk x z=> ?_) (λM x z=> ?_) i10
  .exact sq (b:=false) λe=>hk (rA e ops.toList (Array.mem_toList_iff.2 (W2 hj)))
  .have:=guardB l I s k hk wi.guard;have h:=geti x z;rw [this] at h;exact h
  .have hgn:I=none:=by
    have h:=wi.guard;unfold dL at h;rw [M] at h;simp only [Wj] at h;exact h.symm
   have h:=geti x z;rw [hgn] at h;exact h
 have li11:qe An l (s.put false u.dst G vj B) vi=true:=by refine B6 (λx z=> ?_) i11;exact oF λk e=>ti _ _ _ k (gp (e▸z))
 have ki:kJ An true l (s.put false u.dst G vj B).h C=true:=by refine(HB λp F=> ?_).trans wi.eQ;show aP s.h B p.1=s.h p.1;rw [dV λq D e=>disj p F q D e.symm]
 have wi0:uS P An Or nt ops l (s.put false u.dst G vj B) I vi C:=⟨gi',opi,by
  simp only [oO,Ws,W4,Ww];exact⟨⟨⟨i1,i2⟩,fri⟩,⟨⟨⟨⟨⟨⟨ni,i5⟩,i6⟩,i7⟩,i8⟩,i9⟩,si10⟩,li11⟩,ki⟩
 rw [wi0.fV,pli];have dij:∀d,l.dst=some d->u.dst≠some d:=a2;have eK:∀(g:Option Gs) (o:Oper) (m:Nat) (om:Oper),ops[m]? =some om->listed.getD m true=false->dL ops o s some=some g->o∈ops->(∀e∈o.after,Region.binds .any e=true->listed.getD e.on false=true)->∀gs,g=some gs->om.dst≠some gs.d:=by
  intro g o m om hom hlm V hmem hall gs hgs hd;unfold dL at V;cases hog:o.guard with
  | none=>rw [hog] at V;simp only [Wj] at V;rw [hgs] at V;cases V
  | some p=>
   obtain⟨jj,b⟩:=p;rw [hog] at V;simp only at V;cases hdd:(ops[jj]?).bind (·.dst) with
   | none=>rw [hdd] at V;simp at V
   | some d=>
    rw [hdd] at V;simp only at V;replace V:=Wk.1 V;obtain⟨x,_,V⟩:=V;obtain⟨bb,V,_⟩:=rJ V;simp only [Wj] at V;rw [hgs] at V;simp only [Wj] at V;have hgd:gs.d=d:=by rw [<-V]
    rw [hgd] at hd;obtain⟨ojj,J,U⟩:=Wk.1 hdd;have:=hu hom J hd U;subst this;have hge:=Xi.1 hgk o hmem;rw [hog] at hge;simp only at hge;obtain⟨e,he,hb⟩:=YI.1 hge;simp only [Ww,beq_iff_eq] at hb;exact w8 hlm (hb.2▸hall e he hb.1)
 have nogi:=eK I l j u hj hlj wi.guard (W2 Z) hai;have nogj:=eK G u i l Z hli gj' (W2 hj) haj;have nos:∀(m:Nat) (om:Oper),ops[m]? =some om->listed.getD m true=false->∀k g v,s.t k= (some g,v)->om.dst≠some g.d:=by intro m om hom hlm k g v hst hd;obtain⟨x,ox,J,U,h3⟩:=hG k g v hst;have:=hu hom J hd h3;subst this;exact w8 hlm U
 have tcomm:∀(bi bj:Bool),((s.put false u.dst G vj B).put bi l.dst I vi C).t= ((s.put false l.dst I vi C).put bj u.dst G vj B).t:=by
  intro bi bj;funext k;cases hdi:l.dst with
  | none=>
   cases hdj:u.dst with
   | none=>rfl
   | some dj=>
    simp only [St.put];by_cases ek:k=dj
    .simp [ek]
    .simp only [if_neg ek,cond_false];cases bj with
     | false=>rfl
     | true=>
      simp only [cond_true];cases hst:s.t k with
      | mk gk vk=>
       cases gk with
       | none=>rfl
       | some gk=>
        have:=nos j u hj hlj k gk vk hst;rw [hdj] at this;have hb:(gk.d==dj)=false:=by simp only [beq_eq_false_iff_ne,ne_eq];exact λe=>this (by rw [e])
        simp [nG,hb]
  | some di=>
   cases hdj:u.dst with
   | none=>
    simp only [St.put];by_cases ek:k=di
    .simp [ek]
    .simp only [if_neg ek,cond_false];cases bi with
     | false=>rfl
     | true=>
      simp only [cond_true];cases hst:s.t k with
      | mk gk vk=>
       cases gk with
       | none=>rfl
       | some gk=>
        have:=nos i l Z hli k gk vk hst;rw [hdi] at this;have hb:(gk.d==di)=false:=by simp only [beq_eq_false_iff_ne,ne_eq];exact λe=>this (by rw [e])
        simp [nG,hb]
   | some dj=>
    have hne':di≠dj:=λe=>dij di hdi (by rw [hdj,e]);simp only [St.put];have drop1:∀(b:Bool) (g:Option Gs) (v:AV) (d:Nat),(∀gs,g=some gs->gs.d≠d)->cond b (nG d (g,v)) (g,v)= (g,v):=by
     intro b g v d M;cases b with
     | false=>rfl
     | true=>
      cases g with
      | none=>rfl
      | some gs=>
       have hb:(gs.d==d)=false:=by simpa using M gs rfl
       simp [nG,hb]
    by_cases eki:k=di
    .subst eki;simp only [if_true,if_neg hne',cond_false];rw [drop1 bj I vi dj λgs e h=>nogi gs e (by rw [hdj,h])]
    .by_cases ekj:k=dj
     .subst ekj;simp only [if_true,if_neg eki,cond_false];rw [drop1 bi G vj di λgs e h=>nogj gs e (by rw [hdi,h])]
     .simp only [if_neg eki,if_neg ekj,cond_false];cases hst:s.t k with
      | mk gk vk=>rw [drop1 bi gk vk di λgs e h=>by subst e;exact nos i l Z hli k gs vk hst (by rw [hdi,h]),drop1 bj gk vk dj λgs e h=>by subst e;exact nos j u hj hlj k gs vk hst (by rw [hdj,h])]
 have:∀(bi bj:Bool),(s.put false u.dst G vj B).put bi l.dst I vi C= (s.put false l.dst I vi C).put bj u.dst G vj B:=by
  intro bi bj;have ht:=tcomm bi bj;have hh:((s.put false u.dst G vj B).put bi l.dst I vi C).h= ((s.put false l.dst I vi C).put bj u.dst G vj B).h:=by show aP (aP s.h B) C=aP (aP s.h C) B;exact(U2 disj).symm
  generalize (s.put false u.dst G vj B).put bi l.dst I vi C=X at *
  generalize (s.put false l.dst I vi C).put bj u.dst G vj B=Y at *
  cases X;cases Y;simp only at ht hh;rw [ht,hh]
 rw [this]
theorem Pz{o:Oper}{l:Gs}{f:Array Bool}(v:tM ops=true)(a:dL ops o s some=some (some l))(r:o∈ops)(m:∀e∈o.after,Region.binds .any e=true->f.getD e.on false=true):
  ∃i y,ops[i]? =some y/\f.getD i false=true/\y.dst=some l.d:=by
 unfold dL at a;cases k:o.guard with
 | none=>rw [k] at a;simp at a
 | some p=>
  obtain⟨jj,b⟩:=p;rw [k] at a;simp only at a;cases g:(ops[jj]?).bind (·.dst) with
  | none=>rw [g] at a;simp at a
  | some d=>
   rw [g] at a;simp only at a;replace a:=Wk.1 a;obtain⟨x,_,a⟩:=a;obtain⟨bb,a,_⟩:=rJ a;simp only [Wj] at a;have u:l.d=d:=by rw [<-a]
   obtain⟨z,B,C⟩:=Wk.1 g;have j:=Xi.1 v o r;rw [k] at j;simp only at j;obtain⟨e,D,q⟩:=YI.1 j;simp only [Ww,beq_iff_eq] at q;exact⟨jj,z,B,q.2▸m e D q.1,by rw [u];exact C⟩
theorem G9{a:Array Bool}{i:Nat}{r:Oper}(J:sP ops)(D:tM ops=true)(q:ops[i]? =some r)(F:i∈Region.ready .any ops a)(z:sG ops a s)(e:fV P An Or true nt ops r s=some s1):
  sG ops (a.setIfInBounds i true) s1:=by
 obtain⟨g,v,us,K,rfl⟩:=Cy e;obtain⟨E,L,f,B⟩:=mem_ready.1 F;rw [q] at f;simp only [Wj] at f;subst f;rw [CJ J q E z];have j:∀k g v,s.t k= (some g,v)->∃i' o,ops[i']? =some o/\(a.setIfInBounds i true).getD i' false=true/\o.dst=some g.d:=by intro k g v G;obtain⟨x,u,l,m,p⟩:=z k g v G;exact⟨x,u,l,getD_set_true m,p⟩
 intro k y I b;unfold St.put at b;cases C:r.dst with
 | none=>rw [C] at b;exact j k y I b
 | some d=>
  rw [C] at b;dsimp only at b;split at b
  .simp only [Xa] at b;obtain⟨x,u,l,m,p⟩:=Pz D (by rw [<-b.1];exact K.guard) (W2 q) B;exact⟨x,u,l,getD_set_true m,p⟩
  .exact j k y I b
def uW(P:Program)(An:cR)(Or:aq)(nt:Nat)(ops:Array Oper)(Q:St->Prop):Nat->Array Bool->St->Prop
 | 0,a,s=>Region.ready .any ops a= []/\Q s
 | n+1,a,s=>(Region.ready .any ops a= []->Q s)/\∀i∈Region.ready .any ops a,∃o s1,ops[i]? =some o/\fV P An Or true nt ops o s=some s1/\uW P An Or nt ops Q n (a.setIfInBounds i true) s1
theorem L6{n j i:Nat}{b:Oper}(g:ops[j]? =some b)(h:iT ops (n+1) j i=false):∀e∈b.after,Region.binds .any e=true->e.on≠i:=by intro e f d a;simp only [iT,g] at h;rw [Array.any_eq_false'] at h;exact h e f (by simp [d,a])
theorem EJ{a:Array Bool}{j:Nat}(i:sE ops a)(p:j∈Region.ready .any ops a):sE ops (a.setIfInBounds j true):=by
 intro k ok m hl e l g;obtain⟨q,r,b,f⟩:=mem_ready.1 p;refine getD_set_true ?_;by_cases d:j=k
 .subst d;rw [m] at b;simp only [Wj] at b;subst b;exact f e l g
 .have o:a.getD k false=true:=by
   rw [XX,Zc d] at hl;rw [XX];exact hl
  exact i k ok m o e l g
theorem Lu{Q:St->Prop}{i:Nat}{d:Oper}(J:sP ops)(v:tM ops=true)(C:ops[i]? =some d):∀(lG:Nat) (a:Array Bool) (s s1:St),
  (∀j o,ops[j]? =some o->j≠i->a.getD j true=false->iT ops 12 j i=false->d.apart ops o=true/\(s7 P An d o=true\/uz P An ops d o=true))->sE ops a->
  i∈Region.ready .any ops a->sG ops a s->fV P An Or true nt ops d s=some s1->uW P An Or nt ops Q lG (a.setIfInBounds i true) s1->uW P An Or nt ops Q (lG+1) a s:=by
 intro lG;induction lG with
 | zero=>
  intro a s s1 _ _ g z e H;refine⟨λh=>(by rw [h] at g;cases g),λj l=> ?_⟩;by_cases b:j=i
  .subst b;exact⟨d,s1,C,e,H⟩
  .have:=ready_mono l b;rw [H.1] at this;cases this
 | succ lG V=>
  intro a s s1 p q g z e H;refine⟨λh=>(by rw [h] at g;cases g),λj l=> ?_⟩;by_cases b:j=i
  .subst b;exact⟨d,s1,C,e,H⟩
  .obtain⟨o,s2,f,M,L⟩:=H.2 j (ready_mono l b);obtain⟨u,X,m,B⟩:=mem_ready.1 l;rw [f] at m;simp only [Wj] at m;subst m;have D:iT ops 12 j i=false:=Av q (mem_ready.1 g).1 f B;obtain⟨E,F⟩:=p j o f b u D;obtain⟨K,g1,N⟩:=swap J v C f b g l q E F z e M;refine⟨o,K,f,g1, ?_⟩
   have r:∀k ok,ops[k]? =some ok->k≠i->(a.setIfInBounds j true).getD k true=false->
     iT ops 12 k i=false->d.apart ops ok=true/\(s7 P An d ok=true\/uz P An ops d ok=true):=λk ok U G y I=>by
    refine p k ok U G ?_ I;by_cases x:j=k
    .subst x;exact u
    .rw [getD_set_ne true x] at y;exact y
   refine V (a.setIfInBounds j true) K s2 r (EJ q l) (ready_mono g (Za b)) (G9 J v f l z g1) N ?_;rw [Array.setIfInBounds_comm _ _ b];exact L
theorem Pq{i:Nat}{b:Oper}{a:Array Bool}(m:ops[i]? =some b)(h:BF P An ops a i=true)(j:Nat)(d:Oper)(f:ops[j]? =some d)(g:j≠i)(l:a.getD j true=false)
  (k:iT ops 12 j i=false):s7 P An b d=true\/uz P An ops b d=true:=by
 simp only [BF,m,WO,Zj] at h;have e:=h j (YU.1 f).1;simp only [f,Xf,beq_iff_eq,g,false_or,l,WX,k,or_false] at e;exact e
theorem D5{Q:St->Prop}(u:sP ops)(b:tM ops=true):∀(l:List Oper) (k:Nat) (a:Array Bool) (s:St),(∀j,l[j]? =ops[k+j]?)->Region.lexFrom .any ops l.length k a=true->yS P An ops l.length k a=true->sE ops a->sG ops a s->
  jR P An Or true nt ops l s=some s'->Q s'->uW P An Or nt ops Q l.length a s
 | [],k,a,s,_,e,_,_,_,h,q=>by simp only [jR,Wj] at h;subst h;exact⟨by simpa [Region.lexFrom] using e,q⟩
 | o::l,k,a,s,hl,e,p,f,y,h,q=>by
  simp only [jR] at h;obtain⟨s1,v,h⟩:=Wk.1 h;have h0:ops[k]? =some o:=by simpa using (hl 0).symm
  simp only [Wz,Region.lexFrom,Ww] at e;obtain⟨⟨C,B⟩,x⟩:=e;simp only [Wz,yS,Ww] at p;have d:k∈Region.ready .any ops a:=by simpa using C
  exact Lu u b h0 l.length a s s1 (λj z r g m i=>⟨Region.free_spec h0 B j z r g m (L6 r i),Pq h0 p.1 j z r g m i⟩) f d y v
   (D5 u b l (k+1) _ s1 (λj=>by have:=hl (j+1);simpa [Yw,Nat.add_comm 1 j] using this) x p.2 (EJ f d) (G9 u b h0 d y v) h q)
theorem D7(u:ko P An Or){Q:Exit->Act->World->Prop}{s':St}:∀{lG:Nat} {b:Array Bool} {w:World} {s:St} {ρ:Id->Option Value} {O:Id->Option Nat} {a:Act},
  fG c nt w s ρ O a->pn ops s->uW P An Or nt ops (· =s') lG b s->(∀k w' ρ' O',Le w ρ O w' ρ' O'->fG c nt w' s' ρ' O' k->Q .normal k w')->wpAny P .any ops Q lG b a w
 | 0,b,w,s,ρ,O,a,d,j,h,f=>⟨h.1,f a w ρ O Le.refl (h.2▸d)⟩
 | lG+1,b,w,s,ρ,O,a,d,j,h,f=>by refine⟨λz=>f a w ρ O Le.refl (h.1 z▸d),λi y=> ?_⟩;obtain⟨o,s1,ho,e,H⟩:=h.2 i y;obtain⟨l,step⟩:=IT u d j (W2 ho) e;unfold wpOp;rw [ho];exact step _ Q λk w' ρ' O' le m=>D7 u m l H λr x p q v g=>f r x p q (le.trans v) g
theorem Sw{R:Type}{id:Nat}{f:Bool}{a:Act}{K:St->Option R}{r:R}(hm:P.follows .mixedOrders=true)(C:ko P An Or)(l:fG c nt w s ρ O a)(p:pk s)(e:region P An Or nt f ops s K=some r):
  ∃s':St,K s'.clear=some r/\∀Q:Exit->Act->World->Prop,(∀q w' ρ' O',Le w ρ O w' ρ' O'->fG c nt w' s'.clear ρ' O' q->Q .normal q w')->(Code.region id ops f).wp P Q a w:=by
 unfold region at e;cases m:CL P An f ops with
 | false=>simp [m] at e
 | true=>
  rw [m,cond_true,CR] at e;replace e:=Wk.1 e;obtain⟨s',e,F⟩:=e;refine⟨s',F,λQ D=> ?_⟩;cases f with
  | false=>exact Sv C l p e D
  | true=>simp only [CL,Ws,W4,Ww] at m;obtain⟨⟨⟨B,G⟩,I⟩,E⟩:=m;simp only [Region.lexB,Ww] at B;have M:sP ops:=λ{i j x y d} J L N U=>Fa I (by simpa using J) (by simpa using L) N U;have o:Le w ρ O w.drew ρ O:=⟨rfl,rfl,rfl,WH _,λ_ _ h=>h,λ_ _ _=>rfl,λi b h=> .inl ⟨i,h⟩⟩;have z:fG c nt w.drew s ρ O a:=⟨l.hs.world o λ_ _ _=>rfl,SS.mono (λb p=>o.A b p) o.fq l.ss,l.nt,l.defers⟩;refine wp_region_any hm ?_;have:=D5 (P:=P) (An:=An) (Or:=Or) (nt:=nt) (Q:=(· =s')) M E ops.toList 0 (Array.replicate ops.size false) s (by simp) (by simpa using B.2) (by simpa using G) (λk ok F hl=>by simp [XX,Array.getElem?_replicate] at hl;split at hl <;> simp at hl) (λk g v h=>(p k g v h).elim) e rfl;simp only [WY] at this;exact D7 C z (p.Hl ops) this λq w' ρ' O' le u=>D q w' ρ' O' (o.trans le) u.clear
end
open Go Go.IntKind
section
variable {P:Program} {An:cR} {Or:aq} {w w':World} {A A':Nat->Prop} {c:Ctx} {ρ:Id->Option Value} {O:Id->Option Nat} {s s':St} {h:Id->Option aa}
def Ends(P:Program)(f:FuncId)(fn:Func)(todo:List Item)(a:Act)(w:World)(R:Value->World->Prop):Prop:=
 ∀(b:Frame),b.fn=f->b.kind= .normal->∀cs,∃d w' v todo',Steps P (lone (b.at a todo) cs w) (lone {b.at d todo' with mode:= .returning} cs w')/\
  d.defers= []/\(results fn d.tmps).run P w'= .ok v w'/\R v w'
theorem Ends.mono{f:FuncId}{fn:Func}{todo:List Item}{a:Act}{R d:Value->World->Prop}(h:Ends P f fn todo a w R)(o:∀v w',R v w'->d v w'):Ends P f fn todo a w d:=
 λb l m cs=>let⟨e,w',v,t,g,i,j,k⟩:=h b l m cs;⟨e,w',v,t,g,i,j,o _ _ k⟩
theorem Ends.step{f:FuncId}{fn:Func}{todo todo':List Item}{a:Act}{R:Value->World->Prop}(d:∀(b:Frame) cs,step P (lone (b.at a todo) cs w)= .next (lone (b.at a todo') cs w))(h:Ends P f fn todo' a w R):Ends P f fn todo a w R:=
 λb j k cs=>let⟨e,w',v,t,g,i⟩:=h b j k cs;⟨e,w',v,t, .head (d b cs) g,i⟩
theorem Ends.region{f:FuncId}{fn:Func}{id:Nat}{ops:Array Oper}{d:Bool}{k:List Item}{a:Act}{R:Value->World->Prop}
  (h:(Code.region id ops d).wp P (λe g w'=>e= .normal/\Ends P f fn k g w' R) a w):Ends P f fn (.code (.region id ops d)::k) a w R:=by
 intro b o p cs;obtain⟨e,j,r,⟨rfl,q⟩,i⟩:=h b k cs;obtain⟨g,w',v,t,l,m⟩:=q b o p cs;exact⟨g,w',v,t,Steps.trans i l,m⟩
theorem Mq{f:FuncId}{fn:Func}{a:Code}{args:Array Value}{R:Value->World->Prop}(g:P.funcs[f]? =some fn)(j:fn.body=some a)
  (h:Ends P f fn [.code a] {tmps:=args++Array.replicate (fn.ntmps - args.size) undef,defers:= []} w R):Calls P f args w λe w'=>∃v,e= .returned v/\R v w':=by
 intro cs;let b:Frame:={(default:Frame) with fn:=f,kind:= .normal};have d:Frame.enter P f args .normal=b.at {tmps:=args++Array.replicate (fn.ntmps - args.size) undef,defers:= []} [.code a]:=by simp [Frame.enter,Frame.at,g,j,b]
 obtain⟨m,w',v,todo',hs,k,l,i⟩:=h b rfl rfl cs;rw [<-d] at hs;exact⟨.returned v,w',_,⟨v,rfl,i⟩,hs,rfl,rfl,k,rfl,fn,g,l⟩
structure Fin (P:Program) (c:Ctx) (B:Nat->Option Value) (sh:List cD) (outs:List kQ) (xs:List T) (Own:Nat->Prop) (w:World) (v:Value) (w':World):Prop where
 os:w'.os=w.os
 output:w'.output=w.output
 tape:w'.tape=w.tape
 size:w.heap.size<=w'.heap.size
 ah:∀b,b < w.heap.size->¬Own b->w'.heap[b]? =w.heap[b]?
 res:∃rs x1 x2 o1 o2,v=qx rs/\xs=x1++x2/\(o1++o2).Nodup/\(∀b∈o1++o2,c.MO b/\b < w'.heap.size)/\eH B w' (λb=>(c.A0 b\/c.MO b)/\b < w'.heap.size/\b∉o1++o2) sh x1 rs o1/\
  pA B w' (λb=>(c.A0 b\/c.MO b)/\b < w'.heap.size/\b∉o1++o2) 0 outs x2 o2
theorem Fin.le{B:Nat->Option Value}{sh:List cD}{os:List kQ}{xs:List T}{v:Value}{w'':World}{ρ':Id->Option Value}{O':Id->Option Nat}(le:Le w ρ O w' ρ' O')(h:Fin P c B sh os xs (gI O') w' v w''):Fin P c B sh os xs (gI O) w v w'' where
 os:=h.os.trans le.os
 output:=h.output.trans le.output
 tape:=h.tape.trans le.tape
 size:=Xl le.size h.size
 ah b hb hn:=by
  rw [h.ah b (Xt hb le.size) (λ⟨i,hi⟩=> ?_),le.ah b hb (λi hi=>hn ⟨i,hi⟩)];rcases le.own i b hi with⟨j,hj⟩ | hj
  .exact hn ⟨j,hj⟩
  .omega
 res:=h.res
theorem Fin.own{B:Nat->Option Value}{d:List cD}{os:List kQ}{xs:List T}{v:Value}{a:World}{O':Id->Option Nat}(f:∀b,gI O' b->gI O b)(h:Fin P c B d os xs (gI O') w v a):Fin P c B d os xs (gI O) w v a:=
 {h with ah:=λb e g=>h.ah b e λho=>g (f b ho)}
theorem Ii:∀{l:List Id},y6 l=true->l.Nodup
 | [],_=>Y2
 | i::r,h=>by
  simp only [y6,Ww,Xo] at h;refine XJ.2 ⟨λhm=> ?_,Ii h.2⟩;have:r.contains i=true:=by simpa using hm
  rw [this] at h;cases h.1
def mC(O:Id->Option Nat)(l:List Id):List Nat:=l.filterMap O
theorem Ey(hs:HS c w h ρ O):∀{l:List Id},l.Nodup->(mC O l).Nodup
 | [],_=>Y2
 | i::l,m=>by
  obtain⟨f,g⟩:=XJ.1 m;have d:=Ey hs g;unfold mC at *
  cases a:O i with
  | none=>rw [List.filterMap_cons_none a];exact d
  | some b=>rw [List.filterMap_cons_some a];refine XJ.2 ⟨λhm=> ?_,d⟩;obtain⟨j,k,e⟩:=YY.1 hm;have:=hs.inj i j b a e;exact f (this▸k)
theorem L5(a b:List Id):mC O (a++b)=mC O a++mC O b:=by simp [mC]
def gH(O:Id->Option Nat)(l:List Id)(own:List Nat):Prop:=(∀i∈l,i.real=true)/\∃ids,own=mC O ids/\(l.Nodup->ids.Nodup)/\∀x∈ids,Of l x
theorem gH.nil:gH O [] []:=⟨by simp,[],rfl,λh=>h,by simp⟩
theorem gH.one{i:Id}(a:i.real=true):gH O [i] (O i).toList:=by refine⟨by simpa using a,[i], ?_,λh=>h,λx b=> .inl b⟩;cases h:O i <;> simp [mC,h]
theorem gH.append{a b:List Id}{o1 o2:List Nat}(q:gH O a o1)(r:gH O b o2):gH O (a++b) (o1++o2):=by
 obtain⟨r1,B,rfl,D,o⟩:=q;obtain⟨r2,C,rfl,E,p⟩:=r;refine⟨λi f=> ?_,B++C,(L5 _ _).symm,λu=> ?_,λx d=> ?_⟩
 .rcases WK.1 f with f | f
  .exact r1 i f
  .exact r2 i f
 .obtain⟨k1,k2,k3⟩:=X2.1 u;refine X2.2 ⟨D k1,E k2,λx d y v e=> ?_⟩;subst e;rcases o x d with g1 | ⟨j,n,g1,m⟩ <;> rcases p x v with l | ⟨z,F,l,k⟩
  .exact k3 x g1 x l rfl
  .have:=r1 x g1;rw [k] at this;cases this
  .have:=r2 x l;rw [m] at this;cases this
  .rw [m] at k;simp only [Id.g.injEq] at k;exact k3 j g1 z l k.1
 .rcases WK.1 d with d | d
  .rcases o x d with g | ⟨j,n,g,e⟩
   .exact .inl (WI _ g)
   .exact .inr ⟨j,n,WI _ g,e⟩
  .rcases p x d with g | ⟨j,n,g,e⟩
   .exact .inl (WE _ g)
   .exact .inr ⟨j,n,WE _ g,e⟩
theorem gH.mem{l:List Id}{own:List Nat}(h:gH O l own){b:Nat}(a:b∈own):∃i,Of l i/\O i=some b:=by obtain⟨_,ids,rfl,_,m⟩:=h;obtain⟨i,d,e⟩:=YY.1 a;exact⟨i,m i d,e⟩
def nW:Nat->List Row->List Row
 | _,[]=> []
 | n,e::r=>{e with n:=n}::nW (n+1) r
theorem wM:∀(es:List Row) (n:Nat),(nW n es).length=es.length
 | [],_=>rfl
 | e::r,n=>by simp [nW,wM r]
theorem zk:∀(es:List Row) (n:Nat),(nW n es).map (·.n)=List.range' n es.length
 | [],_=>rfl
 | e::r,n=>by simp [nW,zk r,Yk]
theorem EY:∀{es:List Row} {n:Nat},bf es=true->ry n (es.map λe=> [.ptr e.cs,uk e])=some (nW n es)
 | [],_,_=>rfl
 | e::r,n,h=>by
  simp only [bf,XI,Ww] at h;have b:=EY (es:=r) (n:=n+1) h.2;obtain⟨en,a,eo⟩:=e;cases eo with
  | none=>simp at h
  | some p=>show((ry (n+1) (r.map λe=> [.ptr e.cs,uk e])).bind λl=>some (⟨n,a,some (p.1,p.2)⟩::l))=_;rw [b];rfl
theorem Jq{A A':Nat->Prop}{d:Id->Option Value}{a:Id->Option Nat}{i:Id}{ah sz col rsz:Nat}(l:∀b,A b->A' b):∀{es:List Row} {k base:Nat},(∀j e,es[j]? =some e->d (.g i (k+j))=ρ (.g i e.n)/\a (.g i (k+j))=O (.g i e.n))->
  cI w A ρ O i ah sz col rsz base es->cI w A' d a i ah sz col rsz base (nW k es)
 | [],_,_,_,_=>trivial
 | e::r,k,base,m,h=>by
  obtain⟨h0,B⟩:=h;obtain⟨g1,z⟩:=m 0 e rfl;refine⟨?_,Jq l (k:=k+1) (λj f D=>by
   have:=m (j+1) f (by simpa using D);rw [show k+1+j=k+ (j+1) by omega];exact this) B⟩
  have h0:=h0.move (A':=A') (w':=w) (ρ':=ρ) (O':=O) (λ_ _=>rfl) (λb C=>⟨l b C,rfl⟩) rfl rfl (λ_ _=>rfl);obtain⟨o,q,v,u,a4,x,y⟩:=h0;refine⟨o,q,v,u,a4,by rw [<-x];exact g1, ?_⟩;revert y;show(match e.own with | some p=>dm w A' rsz p.1 p.2 u (λb=>O (.g i e.n)=some b) | none=>O (.g i e.n)=none)->(match e.own with | some p=>dm w A' rsz p.1 p.2 u (λb=>a (.g i k)=some b) | none=>a (.g i k)=none);rw [show a (.g i k)=O (.g i e.n) from z];exact id
def sI(w:World)(c:Ctx)(O:Id->Option Nat)(b:List Id)(Q:(Nat->Prop)->Prop):Prop:=
 ∀A:Nat->Prop,(∀k,AA c w O k->A k)->(∀i ah,i∈b->i.real=true->O i=some ah->A ah)->Q A
def jC(m:Nat)(B:Nat->Option Value)(ρ:Id->Option Value):Prop:= ∀j,j < m->∃v,B j=some v/\ρ (.c j)=some v
theorem Gx{B:Nat->Option Value}{i:Id}{b:Bool}{sz col rsz nx:Nat}{es:List Row}{u:Value}{l:List Id}(hs:HS c w h ρ O)(M:h i=some (.rows b sz col rsz nx es))(hv:ρ i=some u)(L:bf es=true):
  gH O [i] (mC O (i::es.map λe=> .g i e.n))/\sI w c O l λA=>kU B w A (.rows sz col rsz) (bu b es) u (mC O (i::es.map λe=> .g i e.n)):=by
 have o:=hs.real (i:=i) (by rw [M];simp);obtain⟨a,cap,r1,r2,r3,⟨U,n2,n3,n4⟩,I⟩:=hs.ah i _ M;have N:(i::es.map λe=>Id.g i e.n).Nodup:=by
  refine XJ.2 ⟨λhm=> ?_, ?_⟩
  .obtain⟨e,_,F⟩:=WU.1 hm;rw [<-F] at o;cases o
  .have:(es.map λe=>Id.g i e.n)= (es.map (·.n)).map (Id.g i):=by rw [XW];rfl
   rw [this];exact List.pairwise_map.2 (U.imp λh e=>h (by simpa using e))
 refine⟨⟨by simpa using o,_,rfl,λ_=>N,λx m=> ?_⟩,λA Y _=> ?_⟩
 .rcases WC.1 m with rfl | m
  .exact .inl Wl
  .obtain⟨e,_,rfl⟩:=WU.1 m;exact .inr ⟨i,e.n,Wl,rfl⟩
 .let V:Id->Option Value:=λx=>match x with
   | .g y k=>if y=i then(es[k]?).bind λe=>ρ (.g i e.n) else none
   | x=>if x=i then ρ i else none
  let Q:Id->Option Nat:=λx=>match x with
   | .g y k=>if y=i then(es[k]?).bind λe=>O (.g i e.n) else none
   | x=>if x=i then O i else none
  have K:V i=ρ i:=by
   cases i with
   | g y n=>cases o
   | _=>simp only [V,if_true]
  have J:Q i=O i:=by
   cases i with
   | g y n=>cases o
   | _=>simp only [Q,if_true]
  have C:∀k,V (.g i k)= (es[k]?).bind λe=>ρ (.g i e.n):=λk=>by simp only [V,if_true]
  have z:∀k,Q (.g i k)= (es[k]?).bind λe=>O (.g i e.n):=λk=>by simp only [Q,if_true]
  have q:∀x d,Q x=some d->(x=i/\O i=some d)\/∃k e,x= .g i k/\es[k]? =some e/\O (.g i e.n)=some d:=by
   intro x d m;cases x with
   | g y k=>
    simp only [Q] at m;split at m
    .rename_i e;subst e;obtain⟨e,D,E⟩:=Wk.1 m;exact .inr ⟨k,e,rfl,D,E⟩
    .cases m
   | s y k=>
    simp only [Q] at m;split at m
    .rename_i e;exact .inl ⟨e,m⟩
    .cases m
   | c k=>
    simp only [Q] at m;split at m
    .rename_i e;exact .inl ⟨e,m⟩
    .cases m
  refine⟨b,nW 0 es,i,V,Q, ?_,⟨a,cap,by rw [K,wM];exact r1,by rw [wM];exact r2,r3,⟨?_,λf G=> ?_,λk p=> ?_,λk d p=> ?_⟩, ?_⟩,by rw [K];exact hv,o,λx y d m hy=> ?_,λk v p=> ?_,λx d m=> ?_,λd=> ?_⟩
  .simp only [bu,kC,EY L,Wq]
  .rw [zk];exact List.nodup_range'
  .have:f.n∈(nW 0 es).map (·.n):=WU.2 ⟨f,G,rfl⟩;rw [zk,List.mem_range'_1] at this;rw [wM];omega
  .rw [wM] at p;rw [C,XV p];rfl
  .rw [z] at p;obtain⟨e,D,_⟩:=Wk.1 p;have hlt:=(Wm.1 D).1;have:k∈(nW 0 es).map (·.n):=by rw [zk,List.mem_range'_1];omega
   obtain⟨f,G,X⟩:=WU.1 this;exact⟨f,G,X⟩
  .rcases I with I | ⟨ah,off,arr,t,q1,q2,q3,q4,q5⟩
   .exact .inl I
   .refine .inr ⟨ah,off,arr,t,q1,by rw [J];exact q2,q3,q4,Jq Y (λj e Z=> ?_) q5⟩;rw [WZ,C,z,Z];exact⟨rfl,rfl⟩
  .rcases q x d m with⟨rfl,g1⟩ | ⟨k,e,rfl,g1,r⟩ <;> rcases q y d hy with⟨rfl,k1⟩ | ⟨k',e',rfl,k1,k2⟩
   .rfl
   .have:=hs.inj _ _ d g1 k2;rw [this] at o;cases o
   .have:=hs.inj _ _ d k1 r;rw [this] at o;cases o
   .have:=hs.inj _ _ d r k2;simp only [Id.g.injEq,true_and] at this;rw [wo U g1 k1 this]
  .rw [C] at p;obtain⟨e,_,E⟩:=Wk.1 p;exact hs.gone i e.n v E
  .rcases q x d m with⟨rfl,_⟩ | ⟨k,_,rfl,_⟩
   .exact .inl rfl
   .exact .inr ⟨k,rfl⟩
  .simp only [mC,YY,WC,WU];constructor
   .rintro⟨x,rfl | ⟨e,F,rfl⟩,m⟩
    .exact⟨x,by rw [J];exact m⟩
    .obtain⟨k,p⟩:=Xv F;exact⟨.g i k,by rw [z,p];exact m⟩
   .rintro⟨x,m⟩;rcases q x d m with⟨rfl,g1⟩ | ⟨k,e,rfl,g1,r⟩
    .exact⟨x, .inl rfl,g1⟩
    .exact⟨.g i e.n, .inr ⟨e,Wx g1,rfl⟩,r⟩
theorem Gw{R:Type}{m:Nat}{B:Nat->Option Value}{r:cD}{v:AV}{u:Value}{K:T->List Id->List Id->Option R}{res:R}(hB:jC m B ρ)(hs:HS c w h ρ O)(g:ao w (AA c w O) ρ v u)(d:kE m h r v K=some res):
  ∃x a b ob,K x a b=some res/\gH O a ob/\sI w c O b λA=>kU B w A r x u ob:=by
 cases r with
 | f k=>simp only [kE] at d;replace d:=Wk.1 d;obtain⟨x,U,d⟩:=d;replace d:=aS d (.inl rfl);obtain⟨y,hy,d⟩:=d;rw [AV.nh U] at g;simp only [ao] at g;exact⟨_,_,_,[],d, .nil,λA z C=>⟨hy,g.flat hy,rfl⟩⟩
 | t k=>simp only [kE] at d;replace d:=Wk.1 d;obtain⟨x,U,d⟩:=d;refine⟨_,_,_,[],d, .nil,λA z C=>⟨n5 hs g U z (λi ah q ho=> ?_),rfl⟩⟩;obtain⟨p,D,e⟩:=yC hs U q ho;refine C i ah (WU.2 ⟨p,D,e⟩) ?_ ho;rw [<-e];refine hs.real λe0=> ?_;have G:=vL (h:=h) v p D;rw [e0] at G;rcases G with⟨sz,b,l,_,G⟩ | ⟨l,_,G⟩ <;> simp at G
 | own sz=>
  simp only [kE] at d;split at d
  .rename_i i;replace d:=Wk.1 d;obtain⟨p,D,d⟩:=d;simp only [IY] at D;split at D
   .rename_i sz' b xs q;split at D
    .rename_i hsz;subst hsz;simp only [Wj] at D;subst D;refine⟨_,_,_,(O i).toList,d, .one (hs.real (by rw [q];simp)),λA z C=> ?_⟩;obtain⟨v',g1,g2,_⟩:=hs.ah i _ q;simp only [ao] at g;rw [g1] at g;simp only [Wj] at g;subst g;exact⟨O i,(b,xs),rfl,by simp [T.aQ],g2.mono (λb I=>⟨z b I,rfl⟩) (λb I=>⟨by simpa using I,rfl⟩)⟩
    .simp at D
   .simp at D
  .rename_i i sz1 n;split at d
   .rename_i sz2 b xs q;split at d
    .rename_i j;obtain⟨rfl,rfl⟩:=j;refine⟨_,_,_,(O i).toList,d, .one (hs.real (by rw [q];simp)),λA z C=> ?_⟩;obtain⟨v',g1,⟨a,cap,rfl,f2,f3,_,f4⟩,_⟩:=hs.ah i _ q;simp only [ao] at g;obtain⟨a1,L,cap1,X,F,Q,e3,rfl,e4⟩:=g;rw [g1] at F;simp only [Wj,XC] at F;obtain⟨rfl,rfl,rfl⟩:=F;have J:(xs.take n).length=n:=by rw [Xk];omega
     have ha:X=none↔a=none:=by
      rcases e4 with⟨_,rfl⟩ | ⟨_,h,_⟩ | ⟨_,_,rfl,rfl⟩
      .exact YL
      .exact h
      .simp
     refine⟨O i,(b,xs.take n),rfl,by simp [T.aQ],X,cap,by rw [J];rfl,by rw [J];omega,by rw [ha];exact f3,trivial, ?_⟩
     .rcases f4 with f4 | ⟨ah,off,Y,t',q1,q2,q3,q4,q5⟩
      .exact .inl f4
      .by_cases V:cap=0
       .exact .inl V
       .right;subst q1;have:X=some ⟨ah,off,none⟩:=by
         rcases e4 with⟨_,rfl⟩ | ⟨h,_⟩ | ⟨b',o,e5,rfl⟩
         .rfl
         .exact absurd h.symm V
         .simp only [Wj,Xy] at e5;obtain⟨rfl,rfl,_⟩:=e5;simp
        exact⟨ah,off,Y,t',this,by simpa using q2,q3,q4,(bq.oK (λb I=>⟨z b I,rfl⟩) ah _ rfl off xs q5).take n⟩
    .simp at d
   .simp at d
  .rename_i b;simp only [ao,az] at g;refine⟨_,_,_,[],d, .nil,λA z C=>⟨none,(b,[]),rfl,by simp [T.aQ], ?_⟩⟩;rcases g with⟨rfl,rfl⟩ | ⟨rfl,ah,off,sp,rfl⟩
   .exact⟨none,0,rfl,by simp,by simp,trivial, .inl rfl⟩
   .exact⟨some ⟨ah,off,sp⟩,0,rfl,by simp,by simp,trivial, .inl rfl⟩
  .simp only [ao,az] at g;refine⟨_,_,_,[],d, .nil,λA z C=>⟨none,(true,[]),rfl,by simp [T.aQ], ?_⟩⟩;rcases g with⟨_,_,rfl⟩ | ⟨h,_⟩
   .exact⟨none,0,rfl,by simp,by simp,trivial, .inl rfl⟩
   .cases h
  .simp at d
 | ref k off=>
  simp only [kE] at d;split at d
  .rename_i k' off';split at d
   .rename_i j;obtain⟨rfl,rfl,M⟩:=j;refine⟨_,_,_,[],d, .nil,λA z C=>⟨?_,rfl⟩⟩;simp only [ao] at g;obtain⟨b,F,rfl⟩:=g;obtain⟨v,Q,e3⟩:=hB _ M;rw [F] at e3;simp only [Wj] at e3;subst e3;exact⟨b,Q,rfl⟩
   .simp at d
  .simp at d
 | same k=>
  simp only [kE] at d;split at d
  .rename_i k';split at d
   .rename_i j;obtain⟨rfl,M⟩:=j;refine⟨_,_,_,[],d, .nil,λA z C=>⟨?_,rfl⟩⟩;simp only [ao] at g;obtain⟨v,Q,e3⟩:=hB _ M;rw [g] at e3;simp only [Wj] at e3;subst e3;exact⟨Q,lN hs g⟩
   .simp at d
  .simp at d
 | no=>
  simp only [kE] at d;split at d
  .refine⟨_,_,_,[],d, .nil,λA z C=>⟨?_,rfl⟩⟩;simp only [ao] at g;obtain⟨b,_,rfl⟩:=g;exact⟨rfl,rfl⟩
  .simp at d
 | rows sz col rsz=>
  simp only [kE] at d;split at d
  .rename_i i;split at d
   .rename_i b sz' col' rsz' nx es q;split at d
    .rename_i j;obtain⟨rfl,rfl,rfl⟩:=j;replace d:=aS d (.inl rfl);obtain⟨_,E,d⟩:=d;have E:bf es=true:=by
      split at E
      .assumption
      .cases E
     simp only [ao] at g;exact⟨_,_,_,_,d,(Gx (B:=B) (l:= []) hs q g E).1,(Gx hs q g E).2⟩
    .simp at d
   .simp at d
  .simp at d
 | mp ag ks vk=>
  simp only [kE] at d;split at d
  .rename_i i;split at d
   .rename_i ag' ks' vk' es q;split at d
    .rename_i j;obtain⟨rfl,rfl,rfl⟩:=j;obtain⟨b,Z,N,g1,g2,g3,g4,g5⟩:=hs.ah i _ q;simp only [ao] at g;rw [g1] at g;simp only [Wj] at g;subst g;refine⟨_,_,_,[b],d, ?_,λA z C=>⟨es,b,Z,N,rfl,rfl,rfl,g3,g4,g5⟩⟩;have:=gH.one (O:=O) (hs.real (i:=i) (by rw [q];simp));rw [g2] at this;exact this
    .simp at d
   .simp at d
  .simp at d
 | agg l=>simp [kE] at d
 | new l=>simp [kE] at d
theorem yo{R:Type}{m:Nat}{B:Nat->Option Value}(k:jC m B ρ)(hs:HS c w h ρ O):∀{rs:List cD} {vs:List AV} {us:List Value} {K:List T->List Id->List Id->Option R} {res:R},aC w (AA c w O) ρ vs us->ov m h rs vs K=some res->
  ∃xs a b own,K xs a b=some res/\gH O a own/\sI w c O b λA=>gu B w A rs xs us own
 | [],[],us,K,res,e,d=>by simp only [aC] at e;subst e;simp only [ov] at d;exact⟨_,_,_,[],d, .nil,λA _ _=>⟨rfl,rfl,rfl⟩⟩
 | [],v::vs,us,K,res,e,d=>by simp [ov] at d
 | r::rs,[],us,K,res,e,d=>by simp [ov] at d
 | r::rs,v::vs,us,K,res,e,d=>by simp only [aC] at e;obtain⟨u,o,rfl,z,C⟩:=e;simp only [ov] at d;obtain⟨x,a,b,ob,d,p,g1⟩:=Gw k hs z d;obtain⟨xs,D,b',own,d,q,y⟩:=yo k hs C d;refine⟨_,_,_,_,d,p.append q,λA j l=> ?_⟩;have k1:=g1 A j (λi ah f g ho=>l i ah (WI _ f) g ho);exact⟨x,xs,u,o,ob,own,rfl,rfl,rfl,k1,y A j (λi ah f g ho=>l i ah (WE _ f) g ho)⟩
theorem yp{R:Type}{m:Nat}{B:Nat->Option Value}(z:jC m B ρ)(hs:HS c w h ρ O):∀{rs:List cD} {vs:List AV} {us:List Value} {K:List T->List Id->List Id->Option R} {res:R},aC w (AA c w O) ρ vs us->cO m h rs vs K=some res->
  ∃xs a b own,K xs a b=some res/\gH O a own/\sI w c O b λA=>eH B w A rs xs us own
 | [],[],us,K,res,y,d=>by simp only [aC] at y;subst y;simp only [cO] at d;exact⟨_,_,_,[],d, .nil,λA _ _=>⟨rfl,rfl,rfl⟩⟩
 | [],v::vs,us,K,res,y,d=>by simp [cO] at d
 | r::rs,[],us,K,res,y,d=>by cases r <;> simp [cO] at d
 | r::rs,v::vs,us,K,res,y,d=>by
  simp only [aC] at y;obtain⟨u,q,rfl,F,N⟩:=y
  have e:(kE m h r v λx a b=>cO m h rs vs λxs I b'=>K (x::xs) (a++I) (b++b'))=some res->(∀l,r≠ .agg l)->(∀l,r≠ .new l)->
    ∃xs a b own,K xs a b=some res/\gH O a own/\sI w c O b λA=>eH B w A (r::rs) xs (u::q) own:=by
   intro d j U;obtain⟨x,a,b,ob,d,C,g1⟩:=Gw z hs F d;obtain⟨xs,I,b',own,d,D,E⟩:=yp z hs N d;refine⟨_,_,_,_,d,C.append D,λA o p=> ?_⟩;have k1:=g1 A o (λi ah g j ho=>p i ah (WI _ g) j ho);have:∃V M v L J G,x::xs=V::M/\u::q=v::L/\ob++own=J++G/\kU B w A r V v J/\eH B w A rs M L G:=
    ⟨x,xs,u,q,ob,own,rfl,rfl,rfl,k1,E A o (λi ah g j ho=>p i ah (WE _ g) j ho)⟩
   cases r with
   | agg l=>exact(j l rfl).elim
   | new l=>exact(U l rfl).elim
   | _=>exact this
  cases r with
  | f k=>exact e (by simpa [cO] using d) (by simp) (by simp)
  | t k=>exact e (by simpa [cO] using d) (by simp) (by simp)
  | own sz=>exact e (by simpa [cO] using d) (by simp) (by simp)
  | rows sz col rsz=>exact e (by simpa [cO] using d) (by simp) (by simp)
  | mp ag ks vk=>exact e (by simpa [cO] using d) (by simp) (by simp)
  | new l=>
   simp only [cO] at d;split at d
   .rename_i i;split at d
    .rename_i cs g;obtain⟨X,arr,ty,Y,Z,e3,e4,e5⟩:=hs.ah i _ g;simp only [ao] at F;obtain⟨b,k1,rfl⟩:=F;rw [Y] at k1;simp only [Wj,X3,Xy] at k1;obtain⟨rfl,_⟩:=k1;obtain⟨xs,a,b,o1,d,C,g1⟩:=yo z hs e4 d;obtain⟨Q,I,b',o2,d,D,E⟩:=yp z hs N d;refine⟨_,_,_,_,d,(gH.one (hs.real (i:=i) (by rw [g];simp))).append (C.append D),λA o p=> ?_⟩;exact⟨xs,Q,X,arr,ty,q,o1,o2,rfl,by simp,by simp [Z],e3,g1 A o (λi ah g j ho=>p i ah (WI _ g) j ho),E A o (λi ah g j ho=>p i ah (WE _ g) j ho)⟩
    .simp at d
   .simp at d
  | ref k off=>exact e (by simpa [cO] using d) (by simp) (by simp)
  | same k=>exact e (by simpa [cO] using d) (by simp) (by simp)
  | no=>exact e (by simpa [cO] using d) (by simp) (by simp)
  | agg l=>
   cases v with
   | agg cs=>simp only [cO] at d;simp only [ao] at F;obtain⟨ws,rfl,k1,k2⟩:=F;obtain⟨xs,a,b,o1,d,C,g1⟩:=yo z hs k1 d;obtain⟨Q,I,b',o2,d,D,E⟩:=yp z hs N d;refine⟨_,_,_,_,d,C.append D,λA o p=> ?_⟩;exact⟨xs,Q,ws,q,o1,o2,rfl,rfl,rfl,g1 A o (λi ah g j ho=>p i ah (WI _ g) j ho),E A o (λi ah g j ho=>p i ah (WE _ g) j ho)⟩
   | _=>simp [cO] at d
def zn(tmps:Array Value):ResultVar->Sem Value
 | .tmp t=>pure (tmps.getD t undef)
 | .cell b t=>do loadVar t (<-asAddr (tmps.getD b undef))
theorem Sz(fn:Func)(tmps:Array Value):results fn tmps= (do
  let vs <-fn.results.mapM (zn tmps)
  pure (if h:vs.size=1 then vs[0] else .tuple vs)):=rfl
theorem CP{R:Type}{a:Act}(hs:HS c w s.h ρ O)(g:SS w (AA c w O) ρ s.t a.tmps):∀{l:List ResultVar} {K:List AV->Option R} {r:R},ue P s l K=some r->
  ∃vs us,K vs=some r/\aC w (AA c w O) ρ vs us/\(l.mapM (zn a.tmps)).run P w= .ok us w
 | [],K,r,h=>⟨[],[],h,by simp [aC],by simp⟩
 | .tmp k::l,K,r,h=>by
  simp only [ue] at h;have d:=g k;split at h
  .rename_i v e;rw [e] at d;obtain⟨vs,us,i,j,m⟩:=CP hs g h;refine⟨v::vs,_::us,i,by simp only [aC];exact⟨_,us,rfl,d,j⟩, ?_⟩;rw [ZF];simp only [zn,WR,W9,WD,m]
  .simp at h
 | .cell k t::l,K,r,h=>by
  simp only [ue] at h;have d:=g k;split at h
  .rename_i v e;rw [e] at d;obtain⟨o,y,h0,f,q⟩:=H4 hs d (.inl rfl) h;obtain⟨vs,us,i,j,m⟩:=CP hs g h0;refine⟨o::vs,y::us,i,by simp only [aC];exact⟨y,us,rfl,q,j⟩, ?_⟩;rw [ZF];have:(do loadVar t (<-asAddr (a.tmps.getD k undef)):Sem Value).run P w= .ok y w:=by
    rw [<-f];generalize a.tmps.getD k undef=u at *
    unfold Instr.loadAt at *
    cases u with
    | pointer p=>
     cases p with
     | none=>simp [Instr.sureAddr,runtimePanic] at f
     | some b=>simp [Instr.sureAddr,asAddr]
    | _=>simp [Instr.sureAddr,runtimePanic] at f
   simp only [zn,WR,W9,WD] at this⊢;rw [this];simp only [WD,m]
  .simp at h
theorem vE{R:Type}{m:Nat}{B:Nat->Option Value}(k:jC m B ρ)(hs:HS c w h ρ O):∀{os:List kQ} {j:Nat} {K:List T->List Id->List Id->Option R} {res:R},j+os.length<=m->mH m h j os K=some res->
  ∃xs a b own,K xs a b=some res/\gH O a own/\sI w c O b λA=>pA B w A j os xs own
 | [],j,K,res,_,d=>by simp only [mH] at d;exact⟨_,_,_,[],d, .nil,λA _ _=>⟨rfl,rfl⟩⟩
 | .box l::os,j,K,res,hm,d=>by
  simp only [Wz] at hm;simp only [mH] at d;split at d
  .rename_i cs g;obtain⟨E,arr,t,x,y,G,I,M⟩:=hs.ah _ _ g;obtain⟨xs,a,b,o1,d,Q,g1⟩:=yo k hs I d;obtain⟨r,D,b',o2,d,p,q⟩:=vE k hs (by omega) d;refine⟨_,_,_,_,d,(gH.one (i:= .c j) rfl).append (Q.append p),λA f o=> ?_⟩;obtain⟨v,u,e⟩:=k j (by omega);rw [x] at e;simp only [Wj] at e;subst e;exact⟨xs,r,E,arr,t,o1,o2,rfl,by simp [y],u,G,g1 A f (λi ah g L ho=>o i ah (WI _ g) L ho),q A f (λi ah g L ho=>o i ah (WE _ g) L ho)⟩
  .simp at d
 | .sl sz::os,j,K,res,hm,d=>by
  simp only [Wz] at hm;simp only [mH] at d;split at d
  .rename_i Y bb l g;split at d
   .rename_i N;subst N;obtain⟨v,x,y,_⟩:=hs.ah _ _ g;obtain⟨r,D,b',o2,d,p,q⟩:=vE k hs (by omega) d;refine⟨_,_,_,_,d,(gH.one (i:= .c j) rfl).append p,λA f o=> ?_⟩;obtain⟨U,u,e⟩:=k j (by omega);rw [x] at e;simp only [Wj] at e;subst e;exact⟨bb,l,r,O (.c j),_,o2,rfl,rfl,u,y.mono (λb J=>⟨f b J,rfl⟩) (λb J=>⟨by simpa using J,rfl⟩),q A f o⟩
   .simp at d
  .simp at d
 | .mp ag ks vk::os,j,K,res,hm,d=>by
  simp only [Wz] at hm;simp only [mH] at d;split at d
  .rename_i V X Z es g;split at d
   .rename_i C;obtain⟨rfl,rfl,rfl⟩:=C;obtain⟨E,F,z,x,y,G,I,M⟩:=hs.ah _ _ g;obtain⟨r,D,b',o2,d,p,q⟩:=vE k hs (by omega) d;refine⟨_,_,_,_,d,(gH.one (i:= .c j) rfl).append p,λA f o=> ?_⟩;obtain⟨U,u,e⟩:=k j (by omega);rw [x] at e;simp only [Wj] at e;subst e;exact⟨es,E,F,z,r,o2,rfl,by simp [y],u,G,I,M,q A f o⟩
   .simp at d
  .simp at d
 | .dead::os,j,K,res,hm,d=>by simp only [Wz] at hm;simp only [mH] at d;obtain⟨r,D,b',o2,d,p,q⟩:=vE k hs (by omega) d;exact⟨_,_,_,o2,d,p,λA f o=>q A f o⟩
theorem GQ{f:FuncId}{fn:Func}{nt:Nat}{m:Nat×Nat}{B:Nat->Option Value}{xs:List T}{a:Act}(K:jC m.1 B ρ)(d:fG c nt w s ρ O a)(h:yv P An f fn m s=some xs):
  ∃v,(results fn a.tmps).run P w= .ok v w/\Fin P c B (dN P An f m.2 fn) (iM An f m.2) xs (gI O) w v w:=by
 unfold yv at h;obtain⟨vs,us,h,z,F⟩:=CP d.hs d.ss h;split at h
 .rename_i hm;obtain⟨Z,N,Y,o1,h,U,G⟩:=yp K d.hs z h;obtain⟨zs,E,Q,o2,h,V,C⟩:=vE K d.hs (by omega) h;split at h
  .rename_i r;simp only [Wj] at h;subst h;simp only [Ww,WO,Xo] at r;have M:=Ii r.1;have D:=U.append V;have g:∀b,b∈o1++o2->∃i,Of (N++E) i/\O i=some b:=λb l=>D.mem l;have J:∀k,AA c w O k->(c.A0 k\/c.MO k)/\k < w.heap.size/\k∉o1++o2:=by
    intro b l;refine⟨l.1,l.2.1,λhm=> ?_⟩;obtain⟨i,o,e⟩:=g b hm;exact l.2.2 i e
   have L:∀i ah,i∈Y++Q->i.real=true->O i=some ah->(c.A0 ah\/c.MO ah)/\ah < w.heap.size/\ah∉o1++o2:=by
    intro i ah o p ho;refine⟨.inr (d.hs.own i ah ho),d.hs.lt i ah ho,λhm=> ?_⟩;obtain⟨j,I,e⟩:=g ah hm;have:=d.hs.inj i j ah ho e;subst this;have z:=r.2 i o;rcases I with I | ⟨y,n,_,X⟩
    .have F:(N++E).contains i=true:=by simpa using I
     rw [F] at z;cases z
    .rw [X] at p;cases p
   have q:(o1++o2).Nodup:=by obtain⟨_,ids,e,n,_⟩:=D;rw [e];exact Ey d.hs (n M)
   refine⟨qx us, ?_,rfl,rfl,rfl,WH _,λ_ _ _=>rfl,us,Z,zs,o1,o2,rfl,rfl,q,λb l=> ?_, ?_, ?_⟩
   .rw [Sz,Array.mapM_eq_mapM_toList];simp only [WR,map_eq_pure_bind,W9];rw [F];simp only [WD];congr 1;unfold qx;split
    .rename_i x;have hl:us.length=1:=by simpa using x
     obtain⟨u,rfl⟩:=X0.1 hl;rfl
    .rename_i x;split
     .rename_i u;simp at x
     .rfl
   .obtain⟨i,o,e⟩:=g b l;exact⟨d.hs.own i b e,d.hs.lt i b e⟩
   .exact G _ J λi ah o p ho=>L i ah (WI _ o) p ho
   .exact C _ J λi ah o p ho=>L i ah (WE _ o) p ho
  .simp at h
 .simp at h
end
open Go Go.IntKind
section
variable {P:Program} {An:cR} {Or:aq} {w w':World} {A A':Nat->Prop} {c:Ctx} {ρ:Id->Option Value} {O:Id->Option Nat} {s s':St} {h:Id->Option aa}
theorem Ct{v:AV}{u:Value}(hs:HS c w h ρ O)(a:ao w (AA c w O) ρ v u):ao w (AA c w O) ρ (oN h v) u:=by
 cases v
 case own i=>
  simp only [oN];split
  .rename_i sz b xs d;have m:O i=none:=by
    obtain⟨_,_,_,f⟩:=hs.ah i _ d;exact f rfl
   have:=n5 (x:= .ad sz b xs) (A':=AA c w O) hs a (by simp [ei,d]) (λ_ h=>h) (λj ah k ho=>by
    rcases k with e | ⟨_,_,_,e⟩ | ⟨_,e⟩
    .cases e;rw [m] at ho;cases ho
    .cases e
    .cases e)
   simpa [ao] using this
  .exact a
 case part i sz off n=>
  simp only [oN];split
  .rename_i r b xs d;split
   .rename_i o;have m:O i=none:=by
     obtain⟨_,_,_,f⟩:=hs.ah i _ d;exact f rfl
    have:=n5 (x:= .ad sz b ((xs.drop off).take n)) (A':=AA c w O) hs a (by simp [ei,d,o]) (λ_ h=>h) (λj ah k ho=>by
     rcases k with e | ⟨_,_,_,e⟩ | ⟨_,e⟩
     .cases e
     .cases e;rw [m] at ho;cases ho
     .cases e)
    simpa [ao] using this
   .exact a
  .exact a
 case ref i off=>
  simp only [oN];split
  .rename_i l d;obtain⟨b,p,y,f,q⟩:=hs.ah i _ d;simp only [ao] at a;obtain⟨b',g,rfl⟩:=a;rw [p] at g;simp only [Wj,X3,Xy] at g;obtain⟨rfl,_⟩:=g;simp only [ao,az];refine⟨b,off,rfl, .inr f, ?_⟩;have:=q.drop off;rwa [WZ] at this
  .exact a
 all_goals exact a
theorem P2{k:Nat×Option Nat}{p:AV×aH}{tmps:Array Value}{g:Id->Option Value}(hs:HS c w s.h ρ O)(m:SS w (AA c w O) ρ s.t tmps)(e:vY s k=some p)(f:∀i v,ρ i=some v->g i=some v)
  (l:∀q∈p.2,g q.1=some (tmps.getD k.1 undef)):ao w (AA c w O) g p.1 (tmps.getD k.1 undef):=by
 unfold vY at e;have d:=m k.1;split at e
 .simp at e
 .rename_i v j;rw [j] at d;simp only at d;split at e
  .simp only [Wj] at e;subst e;exact ao.mono (λb a=>⟨a,rfl⟩) f _ _ (Ct hs d)
  .split at e
   .simp only [Wj] at e;subst e;exact ao.mono (λb a=>⟨a,rfl⟩) f _ _ (Ct hs d)
   split at e
   .split at e
    .simp only [Wj] at e;subst e;exact ao.mono (λb a=>⟨a,rfl⟩) f _ _ d
    .simp at e
   .simp only [Wj] at e;subst e;simp only [ao];exact l _ (WA.2 rfl)
   .simp at e
theorem H0{tmps:Array Value}{f:Id->Option Value}(hs:HS c w s.h ρ O)(o:SS w (AA c w O) ρ s.t tmps)(j:∀i v,ρ i=some v->f i=some v):∀{l:List (Nat×Option Nat)} {p:List AV×aH},qg s l=some p->
  (∀q∈p.2,∀k,q.1= .s (1000000+k) 0->f q.1=some (tmps.getD k undef))->aC w (AA c w O) f p.1 (l.map λk=>tmps.getD k.1 undef)/\
   ∀q∈p.2,∃k sz b,q= (.s (1000000+k) 0, .sl false sz b [])/\az w (AA c w O) (.aB b) (tmps.getD k undef)
 | [],p,e,_=>by simp only [qg,Wj] at e;subst e;exact⟨by simp [aC],(by intro q a;cases a)⟩
 | k::l,p,e,r=>by
  simp only [qg] at e;replace e:=Wk.1 e;obtain⟨x,d,e⟩:=e;replace e:=Wk.1 e;obtain⟨y,C,e⟩:=e;simp only [Wj] at e;subst e;have g:∀q∈x.2,∃sz b,q= (.s (1000000+k.1) 0, .sl false sz b [])/\az w (AA c w O) (.aB b) (tmps.getD k.1 undef):=by
   intro q a;have m:=o k.1;unfold vY at d;split at d
   .simp at d
   .rename_i v u;rw [u] at m;simp only at m;split at d
    .simp only [Wj] at d;subst d;cases a
    .split at d
     .simp only [Wj] at d;subst d;cases a
     split at d
     .split at d
      .simp only [Wj] at d;subst d;cases a
      .simp at d
     .simp only [Wj] at d;subst d;simp only [WA] at a;subst a;exact⟨_,_,rfl,by simpa [ao] using m⟩
     .simp at d
  obtain⟨g1,z⟩:=H0 hs o j C (λq a=>r q (WE _ a));refine⟨?_,λq a=> ?_⟩
  .simp only [WL,aC];refine⟨_,_,rfl,P2 hs o d j (λq a=> ?_),g1⟩;obtain⟨sz,b,e,_⟩:=g q a;exact r q (WI _ a) k.1 (by rw [e])
  .rcases WK.1 a with a | a
   .obtain⟨sz,b,e,B⟩:=g q a;exact⟨k.1,sz,b,e,B⟩
   .exact z q a
theorem KO:∀{us:aH} {h:Id->Option aa} {i:Id} {b:aa},aP h us i=some b->(i,b)∈us\/((∀q∈us,q.1≠i)/\h i=some b)
 | [],h,i,b,e=> .inr ⟨by simp,e⟩
 | (j,x)::us,h,i,b,e=>by
  rw [du] at e;rcases KO e with e | ⟨g,a⟩
  .exact .inl (Wn _ e)
  .by_cases d:i=j
   .subst d;rw [aF] at a;simp only [Wj] at a;subst a;exact .inl Wl
   .rw [ay _ _ d] at a;refine .inr ⟨λq f=> ?_,a⟩;rcases WC.1 f with rfl | f
    .exact λe=>d e.symm
    .exact g q f
theorem HS.Lq{us:aH}{a:Id->Option Value}(r:∀q∈us,q.1.real=true)(hs:HS c w h ρ O)(B:∀q∈us,h q.1=none)(x:∀q∈us,∃sz b u,q.2= .sl false sz b []/\a q.1=some u/\az w A (.aB b) u)
  (f:∀i,(∀q∈us,q.1≠i)->a i=ρ i):HS c w (aP h us) a O:=by
 have mono:∀i v,ρ i=some v->a i=some v:=by
  intro i v d;rw [f i (λq j e=> ?_)]
  .exact d
  .have:=(hs.cK _ (r q j) (B q j)).1;rw [e,d] at this;cases this
 have k:∀i n,∀q∈us,q.1≠ .g i n:=λi n q j e=>by have:=r q j;rw [e] at this;cases this
 have le:Le w ρ O w a O:=⟨rfl,rfl,rfl,WH _,mono,λ_ _ _=>rfl,λi b h=> .inl ⟨i,h⟩⟩;refine hs.go le (λi n=>⟨f _ (k i n),rfl,λ_ _=>rfl⟩) (λi b l=> ?_) (λi p d=> ?_) (λi d=>(zV d).2) (λi n=>by rw [dV (k i n)];exact hs.eK i n) hs.inj hs.lt
 .rcases KO l with hm | ⟨_,l⟩
  .right;obtain⟨sz,b',u,m,o,e3⟩:=x _ hm;simp only at m o;subst m;refine⟨u,o, ?_,by simp⟩;simp only [az] at e3;rcases e3 with⟨rfl,rfl⟩ | ⟨rfl,ah,off,sp,rfl⟩
   .exact⟨none,0,rfl,by simp,by simp,by simp, .inl rfl⟩
   .exact⟨some ⟨ah,off,sp⟩,0,rfl,by simp,by simp,trivial, .inl rfl⟩
  .exact .inl ⟨l,rfl,λ_ _=>rfl⟩
 .obtain⟨y,z⟩:=zV d;rw [f i y];exact hs.cK i p z
theorem H6{b:Id->Option Value}{tmps:Array Value}:∀{live:List (Nat×Option Nat)} {bC:List AV},aC w A b bC (live.map λk=>tmps.getD k.1 undef)->∀k,ao w A b (oC.look live bC k) (tmps.getD k undef)
 | [],bC,a,k=>by cases bC <;> simp [oC.look,ao]
 | (j,o)::live,bC,a,k=>by
  cases bC with
  | nil=>simp [aC] at a
  | cons v bC=>
   simp only [WL,aC,XD] at a;obtain⟨u,r,⟨rfl,rfl⟩,d,f⟩:=a;simp only [oC.look];split
   .rename_i e;subst e;exact d
   .exact H6 f k
def wk:List Item->List Item
 | .inLoop b::k=> .code b:: .inLoop b::k
 | t=>t
def qT(P:Program)(An:cR)(Or:aq):Prop:= ∀f fn todo live m bC b xs,Or (.node f todo live m) bC b=some xs->P.funcs[f]? =some fn->
 ∀c w ρ O a B,jC m.1 B ρ->fG c fn.ntmps w (oC live bC b) ρ O a->Ends P f fn (wk todo) a w (Fin P c B (dN P An f m.2 fn) (iM An f m.2) xs (gI O) w)
theorem fG.C9{nt:Nat}{a:Act}{h':Id->Option aa}{ρ':Id->Option Value}{O':Id->Option Nat}(d:fG c nt w s ρ O a)(le:Le w ρ O w ρ' O')(hs:HS c w h' ρ' O'):fG c nt w {t:=s.t,h:=h'} ρ' O' a:=
 ⟨hs,SS.mono (λb e=>le.A b e) le.fq d.ss,d.nt,d.defers⟩
theorem jC.le{m:Nat}{B:Nat->Option Value}{ρ':Id->Option Value}(h:jC m B ρ)(le:∀i v,ρ i=some v->ρ' i=some v):jC m B ρ':=λj d=>by obtain⟨v,a,b⟩:=h j d;exact⟨v,a,le _ _ b⟩
theorem Cc{s:St}:∀{live:List (Nat×Option Nat)} {p:List AV×aH},qg s live=some p->∀q∈p.2,∃k,q.1=Id.s (1000000+k) 0
 | [],p,b,q,d=>by simp only [qg,Wj] at b;subst b;cases d
 | k::live,p,b,q,d=>by
  simp only [qg] at b;obtain⟨f,a,b⟩:=Wk.1 b;obtain⟨g,e,b⟩:=Wk.1 b;simp only [Wj] at b;subst b;rcases WK.1 d with d | d
  .unfold vY at a;split at a
   .cases a
   .split at a
    .simp only [Wj] at a;subst a;cases d
    .split at a
     .simp only [Wj] at a;subst a;cases d
     .split at a
      .split at a
       .simp only [Wj] at a;subst a;cases d
       .cases a
      .simp only [Wj] at a;subst a;rw [WA.1 d];exact⟨_,rfl⟩
      .cases a
  .exact Cc e q d
theorem UM{f:FuncId}{fn:Func}{todo:List Item}{live:List (Nat×Option Nat)}{m:Nat×Nat}{B:Nat->Option Value}{xs:List T}{a:Act}(hN:qT P An Or)(Q:P.funcs[f]? =some fn)(hB:jC m.1 B ρ)(o:fG c fn.ntmps w s ρ O a)(e:zO Or f todo live m s=some xs):
  Ends P f fn (wk todo) a w (Fin P c B (dN P An f m.2 fn) (iM An f m.2) xs (gI O) w):=by
 unfold zO at e;replace e:=Wk.1 e;obtain⟨p,K,e⟩:=e;split at e
 .rename_i y;replace e:=Wk.1 e;obtain⟨seen,u,e⟩:=e;let l:Id->Option Value:=λi=>if p.2.any (λq=>decide (q.1=i)) then(match i with | .s d _=>some (a.tmps.getD (d - 1000000) undef) | _=>none) else ρ i;have N:∀q∈p.2,s.h q.1=none:=by
   intro q g;have:=WO.1 y q g;simpa using this
  have z:∀i,(∀q∈p.2,q.1≠i)->l i=ρ i:=by
   intro i r;have:p.2.any (λq=>decide (q.1=i))=false:=by rw [Xd];intro q g;simpa using r q g
   simp only [l,this,WX,if_false]
  have F:∀q∈p.2,∀k,q.1= .s (1000000+k) 0->l q.1=some (a.tmps.getD k undef):=by intro q g k e;have:p.2.any (λx=>decide (x.1=q.1))=true:=Yl.2 ⟨q,g,by simp⟩;simp only [l,this,if_true];rw [e];simp
  have mono:∀i v,ρ i=some v->l i=some v:=by
   intro i v r;rw [z i (λq g e=> ?_)]
   .exact r
   .cases E:q.1.real with
    | true=>have:=(o.hs.cK _ E (N q g)).1;rw [e,r] at this;cases this
    | false=>have hm:p.2.any (λx=>decide (x.1=q.1))=true:=Yl.2 ⟨q,g,by simp⟩;obtain⟨k,ek⟩:=Cc K q g;rw [ek] at E;cases E
  obtain⟨hv,X⟩:=H0 o.hs o.ss mono K F;have U:HS c w (aP s.h p.2) l O:=o.hs.Lq (λq g=>by obtain⟨k,ek⟩:=Cc K q g;rw [ek];rfl) N (A:=AA c w O) (λq g=>by
   obtain⟨k,sz,b,e,E⟩:=X q g;exact⟨sz,b,_,by rw [e],F q g k (by rw [e]),E⟩) z
  obtain⟨g1,g2,g3,g4,g5⟩:=wL u Y2 (by simp) (by simp);obtain⟨V,C⟩:=U.rn g1 g4 g5;have hA:∀b,AA c w O b->AA c w (cJ seen O) b:=λb G=>⟨G.1,G.2.1,λi r=>by
   obtain⟨k,hk⟩:=C b ⟨i,r⟩;exact G.2.2 k hk⟩
  have Y:=aC.rn (m:=seen) hA _ _ (λi r=>g3 i (WE _ r)) hv;have L:fG c fn.ntmps w (oC live (lO seen p.1) (seen.map λi=>iN seen (aP s.h p.2 i))) (cJ seen l) (cJ seen O) a:=
   ⟨V,λk=>H6 Y k,o.nt,o.defers⟩
  have D:=Jo u (by
   exact List.pairwise_map.2 (List.nodup_range.imp λh e=>h (by simpa using e))) (by simp)
  rw [XB] at D;have M:jC m.1 B (cJ seen l):=by
   intro j J;obtain⟨v,Z,e2⟩:=hB.le mono j J;refine⟨v,Z, ?_⟩;obtain⟨t,ht⟩:=D;have:seen[j]? =some (.c j):=by rw [<-ht,WB (by simpa using J)];simp [J]
   simp [cJ,this,e2]
  exact(hN f fn todo live m _ _ xs e Q c w _ _ a B M L).mono λv w' I=>I.own C
 .simp at e
theorem yD:∀{l:List (Nat×Option Nat)},ig s.h (oD s l)
 | []=>by intro p a;cases a
 | (k,none)::l=>by simp only [oD];exact yD
 | (k,some 0)::l=>by simp only [oD];exact(vL _).append yD
 | (k,some (n+1))::l=>by
  simp only [oD];refine ig.append ?_ yD;cases Nat.beq n 999998 with
  | false=>intro p a;cases a
  | true=>
   show ig s.h (BH s.h (s.t k).2);unfold BH;split
   .split
    .exact BG _
    .intro p a;cases a
   .intro p a;cases a
theorem IJ{h:Id->Option aa}(hs:HS c w h ρ O)(v:AV):HS c w (y8 h v) ρ O:=by
 unfold y8;split
 .rename_i i off;split
  .rename_i cs f;obtain⟨b,arr,t,p,q,y,z,B⟩:=hs.ah i _ f;have j:=hs.real (i:=i) (by rw [f];simp);have C:aC w (AA c w O) ρ (cs.map (oN h)) arr.toList:=by
    have d:∀(l:List AV) (us:List Value),aC w (AA c w O) ρ l us->aC w (AA c w O) ρ (l.map (oN h)) us:=by
     intro l;induction l with
     | nil=>intro us h;exact h
     | cons x l D=>intro us h;simp only [WL,aC] at h⊢;obtain⟨u,r,e,g1,o⟩:=h;exact⟨u,r,e,Ct hs g1,D r o⟩
    exact d _ _ z
   rw [eC];refine hs.go Le.refl (λk m=>⟨rfl,rfl,λ_ _=>rfl⟩) (λk x a=> ?_) (λk g a=> ?_) (λk a=> ?_) (λk m=>by rw [ay _ _ (aU j)];exact hs.eK k m) hs.inj hs.lt
   .by_cases e:k=i
    .subst e;rw [aF] at a;simp only [Wj] at a;subst a;exact .inr ⟨b,arr,t,p,q,y,C,B⟩
    .rw [ay _ _ e] at a;exact .inl ⟨a,rfl,λ_ _=>rfl⟩
   .by_cases e:k=i
    .subst e;rw [aF] at a;cases a
    .rw [ay _ _ e] at a;exact hs.cK k g a
   .by_cases e:k=i
    .subst e;rw [aF] at a;cases a
    .rw [ay _ _ e] at a;exact a
  .exact hs
 .exact hs
theorem GY(live:List (Nat×Option Nat))(bC:List AV)(a:List aa):pk (oC live bC a):=by intro k g v e;simp [oC] at e
theorem bh.wC{ah:Nat}:∀{cs:List T} {off:Nat},(∀(j:Nat) (x:T),cs[j]? =some x->∃v,w.cell? ⟨ah,off+j,none⟩=some v/\az w A x v)->bh w A ah off cs
 | [],_,_=>by simp [bh]
 | x::cs,off,h=>by simp only [bh];refine⟨by simpa using h 0 x rfl,bh.wC λj y a=> ?_⟩;have:=h (j+1) y (by simpa using a);rw [show off+1+j=off+ (j+1) by omega];exact this
theorem JM{i:Id}{ah sz col rsz:Nat}:∀{es:List Row} {base:Nat},bf es=true->cI w A ρ O i ah sz col rsz base es->(∀e∈es,∀d,O (.g i e.n)=some d->A d)->bq w A ah sz base (es.map (uh col rsz))
 | [],_,_,_,_=>by simp [bq]
 | e::es,base,b,C,l=>by
  simp only [bf,XI,Ww] at b;obtain⟨m,o⟩:=C;simp only [WL,bq];obtain⟨q,G,r,u,a4,I,v⟩:=m;have key:∃x,uh col rsz e=e.cs.set col x/\az w A x u:=by
   obtain⟨en,F,eo⟩:=e;cases eo with
   | none=>simp at b
   | some p=>refine⟨_,rfl, ?_⟩;exact dm.KJ v λd B=>l _ Wl d B
  obtain⟨x,E,D⟩:=key;rw [E];refine⟨by rw [Yg];exact q,bh.wC λj y a=> ?_,JM b.2 o λf z=>l f (Wn _ z)⟩;rw [XS] at a;split at a
  .rename_i k;subst k;split at a
   .cases a;exact⟨u,a4,D⟩
   .cases a
  .rename_i k;exact r j y (λe=>k e.symm) a
theorem HS.J7{i:Id}{b:Bool}{sz col rsz L:Nat}{es:List Row}(hs:HS c w h ρ O)(E:h i=some (.rows b sz col rsz L es))(D:bf es=true):
  ∃O',Le w ρ O w ρ O'/\HS c w (aK h i (some (.sl true sz b (es.map (uh col rsz))))) ρ O':=by
 classical
 have q:=hs.real (i:=i) (by rw [E];simp);let Q:Id->Option Nat:=λx=>if Of [i] x then none else O x;have G:Q i=none:=if_pos (.inl Wl);have Z:∀n,Q (.g i n)=none:=λn=>if_pos (.inr ⟨i,n,Wl,rfl⟩);have o:∀x d,Q x=some d->O x=some d/\¬Of [i] x:=by
  intro x d k;simp only [Q] at k;split at k
  .cases k
  .rename_i K;exact⟨k,K⟩
 have B:∀x,x.real=true->x≠i->Q x=O x:=by
  intro x r k;refine if_neg ?_;rintro(hm | ⟨j,n,_,rfl⟩)
  .exact k (WA.1 hm)
  .cases r
 have C:∀x n,x≠i->Q (.g x n)=O (.g x n):=by
  intro x n k;refine if_neg ?_;rintro(hm | ⟨j,m,J,e⟩)
  .rw [<-WA.1 hm] at q;cases q
  .simp only [Id.g.injEq] at e;exact k (e.1.trans (WA.1 J))
 have le:Le w ρ O w ρ Q:=⟨rfl,rfl,rfl,WH _,λ_ _ h=>h,λ_ _ _=>rfl,λx d k=> .inl ⟨x,(o x d k).1⟩⟩;have u:∀x d,Of [i] x->O x=some d->AA c w Q d:=by intro x d k p;refine⟨.inr (hs.own x d p),hs.lt x d p,λy v=> ?_⟩;obtain⟨k1,k2⟩:=o y d v;exact k2 (hs.inj x y d p k1▸k)
 refine⟨Q,le,hs.pX le (λx y k=> ?_) (λx r k=> ?_) (λx n=>by rw [ay _ _ (aU q)];exact hs.eK x n) (λx n k=> ?_) hs.gone (λx y d k v=>hs.inj x y d (o x d k).1 (o y d v).1) (λx d k=>hs.lt x d (o x d k).1)⟩
 .by_cases e:x=i
  .subst e;rw [aF] at k;cases k;right;obtain⟨a,cap,r1,r2,Y,r4,z⟩:=hs.ah x _ E;refine⟨_,r1,⟨a,cap,by rw [W6],by rw [W6];exact r2,Y,trivial, ?_⟩,λ_=>G⟩;rcases z with z | ⟨ah,off,arr,t,M,N,U,V,X⟩
   .exact .inl z
   .refine .inr ⟨ah,off,arr,t,M,by simp only [if_true];exact u x ah (.inl Wl) N,U,V, ?_⟩;refine JM (ρ:=ρ) (O:=O) (i:=x) D (cI.move (λb I=>le.A b I) (λ_ _=>rfl) (λf _=>⟨rfl,rfl,λ_ _=>rfl⟩) X) λf hf d p=>u _ d (.inr ⟨x,f.n,Wl,rfl⟩) p
  .rw [ay _ _ e] at k;have F:=hs.real (i:=x) (by rw [k];simp);exact .inl ⟨k,B x F e,λ_ _=>rfl,λn=>⟨rfl,C x n e,λ_ _=>rfl⟩⟩
 .have l:x≠i:=λe=>by rw [e,aF] at k;cases k
  rw [ay _ _ l] at k;rw [B x r l];exact hs.cK x r k
 .have l:x≠i:=λe=>by rw [e,aF] at k;cases k
  rw [ay _ _ l] at k;rw [C x n l];exact hs.gF x n k
theorem C6{R:Type}:∀{l:List Id} {h:Id->Option aa} {O:Id->Option Nat} {K:aH->Option R} {r:R},HS c w h ρ O->wV h l K=some r->∃us O',K us=some r/\Le w ρ O w ρ O'/\HS c w (aP h us) ρ O'
 | [],h,O,K,r,hs,e=>⟨[],O,e,Le.refl,hs⟩
 | i::l,h,O,K,r,hs,e=>by
  simp only [wV] at e;split at e
  .rename_i b sz col rsz o es k;replace e:=aS e (.inl rfl);obtain⟨_,a,e⟩:=e;have a:bf es=true:=by
    split at a
    .assumption
    .cases a
   obtain⟨m,cz,d⟩:=hs.J7 k a;obtain⟨us,j,e,g,f⟩:=C6 d e;exact⟨_,j,e,cz.trans g,by rw [du];exact f⟩
  .exact C6 hs e
theorem Uj{h:Id->Option aa}{O:Id->Option Nat}(hs:HS c w h ρ O)(v:AV):∃O',Le w ρ O w ρ O'/\HS c w (C7 h v) ρ O':=by
 unfold C7;split
 .split
  .rename_i b sz col rsz g es f;cases e:bf es with
   | true=>obtain⟨d,cz,a⟩:=hs.J7 f e;exact⟨d,cz,by rw [cond_true,eC];exact a⟩
   | false=>exact⟨O,Le.refl,hs⟩
  .exact⟨O,Le.refl,hs⟩
 .exact⟨O,Le.refl,hs⟩
theorem J8:∀(l:List AV) {h:Id->Option aa} {O:Id->Option Nat},HS c w h ρ O->∃O',Le w ρ O w ρ O'/\HS c w (C8 h l) ρ O'
 | [],h,O,hs=>⟨O,Le.refl,hs⟩
 | v::r,h,O,hs=>by obtain⟨f,cz,a⟩:=Uj hs v;obtain⟨e,d,b⟩:=J8 r a;exact⟨e,cz.trans d,b⟩
theorem Ui{h:Id->Option aa}{O:Id->Option Nat}(hs:HS c w h ρ O)(v:AV):∃O',Le w ρ O w ρ O'/\HS c w (C5 h v) ρ O':=by
 unfold C5;split
 .split
  .exact J8 _ hs
  .exact⟨O,Le.refl,hs⟩
 .exact⟨O,Le.refl,hs⟩
theorem wz{t:Nat->Option Gs×AV}:∀{l:List (Nat×Option Nat)} {h:Id->Option aa} {O:Id->Option Nat},HS c w h ρ O->∃O',Le w ρ O w ρ O'/\HS c w (tV t h l) ρ O'
 | [],h,O,hs=>⟨O,Le.refl,hs⟩
 | (k,some n)::l,h,O,hs=>by
  simp only [tV];cases Nat.beq n 999999 with
  | true=>exact wz (IJ hs _)
  | false=>
   cases Nat.beq n 999998 with
   | true=>obtain⟨f,cz,a⟩:=Ui hs (t k).2;obtain⟨e,d,b⟩:=wz (t:=t) (l:=l) (IJ a (t k).2);exact⟨e,cz.trans d,b⟩
   | false=>exact wz hs
 | (k,none)::l,h,O,hs=>by simp only [tV];exact wz hs
theorem Dt{f:FuncId}{fn:Func}{todo:List Item}{live:List (Nat×Option Nat)}{m:Nat×Nat}{B:Nat->Option Value}{xs:List T}{a:Act}(y:qT P An Or)(o:P.funcs[f]? =some fn)(x:jC m.1 B ρ)(i:fG c fn.ntmps w s ρ O a)(e:nn Or f todo live m s=some xs):
  Ends P f fn (wk todo) a w (Fin P c B (dN P An f m.2 fn) (iM An f m.2) xs (gI O) w):=by
 unfold nn at e;obtain⟨us,u,e⟩:=Wk.1 e;obtain⟨C,cz,p,_⟩:=i.hs.rH yD;have d:=i.C9 cz p;obtain⟨z,D,b,q⟩:=CE d.hs u;obtain⟨E,g,r⟩:=wz (t:=s.t) (l:=live) q;have k:=d.C9 (b.trans g) r;exact(UM y o (x.le b.fq) k e).mono λv w' j=>Fin.le cz (Fin.le (b.trans g) j)
theorem GS{f:FuncId}{fn:Func}{nt:Nat}{m:Nat×Nat}{B:Nat->Option Value}{xs:List T}{a:Act}(d:jC m.1 B ρ)(b:fG c nt w s ρ O a)(h:yu P An f fn m s=some xs):
  ∃v,(results fn a.tmps).run P w= .ok v w/\Fin P c B (dN P An f m.2 fn) (iM An f m.2) xs (gI O) w v w:=by
 unfold yu at h;cases e:(dN P An f m.2 fn).any Ht with
 | true=>rw [e,cond_true] at h;exact GQ d b h
 | false=>rw [e,cond_false] at h;obtain⟨us,k,h,cz,g⟩:=C6 b.hs h;obtain⟨v,i,j⟩:=GQ d (b.C9 cz g) h;exact⟨v,i,Fin.le cz j⟩
theorem mJ(hm:P.follows .mixedOrders=true)(u:ko P An Or)(r:qT P An Or){f:FuncId}{fn:Func}{m:Nat×Nat}{B:Nat->Option Value}(o:P.funcs[f]? =some fn):∀{n:Nat} {j:Bool} {todo:List Item} {xs:List T} {w:World} {s:St} {ρ:Id->Option Value} {O:Id->Option Nat} {a:Act},
  jC m.1 B ρ->fG c fn.ntmps w s ρ O a->pk s->ev P An Or f fn m n j todo s=some xs->Ends P f fn todo a w (Fin P c B (dN P An f m.2 fn) (iM An f m.2) xs (gI O) w)
 | 0,j,todo,xs,w,s,ρ,O,a,i,d,l,e=>by simp [ev] at e
 | n+1,j,[],xs,w,s,ρ,O,a,i,d,l,e=>by simp only [ev] at e;obtain⟨v,C,D⟩:=GS i d e;exact λb K F cs=>⟨a,w,v,[], .one step_end,d.defers,C,D⟩
 | n+1,j, .code .skip::k,xs,w,s,ρ,O,a,i,d,l,e=>by simp only [ev] at e;exact Ends.step (λb cs=>step_skip) (mJ hm u r o i d l e)
 | n+1,j, .code (.seq x y)::k,xs,w,s,ρ,O,a,i,d,l,e=>by simp only [ev] at e;exact Ends.step (λb cs=>step_seq) (mJ hm u r o i d l e)
 | n+1,j, .code (.region id ops z)::k,xs,w,s,ρ,O,a,i,d,l,e=>by
  simp only [ev] at e;split at e
  .rename_i live _;exact Dt (todo:= .code (.region id ops z)::k) r o i d e
  .obtain⟨s',e,G⟩:=Sw hm u d l e;refine Ends.region (G _ λQ w' ρ' O' le J=>⟨rfl, ?_⟩);exact(mJ hm u r o (i.le le.fq) J (Mu _) e).mono λv N E=>E.le le
 | n+1,j, .code (.cond x p q)::k,xs,w,s,ρ,O,a,i,d,l,e=>by
  simp only [ev] at e;replace e:=Wk.1 e;obtain⟨y,M,e⟩:=e;replace e:=aS e (.inl rfl);obtain⟨t,L,e⟩:=e;have I:=SS.get (h:=s.h) d.ss (g:=none) trivial x;rw [show(⟨s.t,s.h⟩:St)=s from rfl,AV.nh M,T.jG L] at I;simp only [ao,az] at I;refine Ends.step (todo':= .code (if t then p else q)::k) (λb cs=>step_cond I) ?_;cases t with
  | true=>exact mJ hm u r o i d l e
  | false=>exact mJ hm u r o i d l e
 | n+1,j, .code (.block id b)::k,xs,w,s,ρ,O,a,i,d,l,e=>by simp only [ev] at e;exact Ends.step (λb cs=>step_block) (mJ hm u r o i d l e)
 | n+1,j, .code (.loop b)::k,xs,w,s,ρ,O,a,i,d,l,e=>by
  simp only [ev] at e;split at e
  .exact Ends.step (λb cs=>step_loop) (Dt (todo:= .inLoop b::k) r o i d e)
  .simp at e
 | n+1,j, .code (.exit id)::k,xs,w,s,ρ,O,a,i,d,l,e=>by
  simp only [ev] at e;split at e
  .rename_i U F;exact Ends.step (λb cs=>step_exit F) (mJ hm u r o i d l e)
  .simp at e
 | n+1,j, .code .ret::k,xs,w,s,ρ,O,a,i,d,l,e=>by simp only [ev] at e;obtain⟨v,C,D⟩:=GS i d e;exact λb K F cs=>⟨a,w,v,_, .one step_ret,d.defers,C,D⟩
 | n+1,j, .inBlock id::k,xs,w,s,ρ,O,a,i,d,l,e=>by simp only [ev] at e;exact Ends.step (λb cs=>step_inBlock) (mJ hm u r o i d l e)
 | n+1,j, .inLoop b::k,xs,w,s,ρ,O,a,i,d,l,e=>by
  simp only [ev] at e;split at e
  .exact Ends.step (λb cs=>step_inLoop) (Dt (todo:= .inLoop b::k) r o i d e)
  .simp at e
 | n+1,j, .code (.label _)::k,xs,w,s,ρ,O,a,i,d,l,e=>by simp [ev] at e
 | n+1,j, .code (.goto _)::k,xs,w,s,ρ,O,a,i,d,l,e=>by simp [ev] at e
theorem Qd{a:Id->Option Value}{bC:List AV}{args:List Value}(i:aC w A a bC args)(m k:Nat):ao w A a (bC.getD k .top) ((args.toArray++Array.replicate m undef).getD k undef):=by
 have e:(args.toArray++Array.replicate m undef).getD k undef= (args++List.replicate m undef).getD k undef:=by rw [XX,Wp,<-Xs];simp
 rw [e,Wp,Wp];cases f:bC[k]? with
 | none=>simp [ao]
 | some v=>obtain⟨u,d,g⟩:=i.get f;have b:k < args.length:=(Wm.1 d).1;rw [WB b,d];exact g
theorem Uz(G:oa P An)(hm:P.follows .mixedOrders=true)(K:∀(f:FuncId) (fn:Func),P.funcs[f]? =some fn->fn.name≠ "runtime.NumGoroutine")(F:ko P An Or)(E:qT P An Or):ko P An (au P An Or):=by
 intro f bC a xs e;simp only [au] at e;split at e
 .rename_i r y;exact G f bC a xs (y.trans e)
 split at e
 .rename_i fn l;split at e
  .rename_i q d;split at e
   .rename_i J;refine⟨fn,q,l,d,K f fn l,λc w ρ O args N hs m=> ?_⟩;have hl:=m.length;have eh:(vK bC a).h=lh a:=by funext i;cases i <;> rfl
    have C:fG c fn.ntmps w (vK bC a) ρ O {tmps:=args.toArray++Array.replicate (fn.ntmps - args.toArray.size) undef,defers:= []}:=by refine⟨by rw [eh];exact hs,λk=>Qd m _ k, ?_,rfl⟩;simp only [Y3,XT,Array.size_replicate];omega
    have o:pk (vK bC a):=by intro k g v e;simp [vK] at e
    have D:jC (a.length,iF a.head?).1 (pZ a.length ρ) ρ:=by
     intro j u;simp only at u;have z:lh a (.c j)=some a[j]:=by simp [lh,u]
     obtain⟨v,p,_⟩:=hs.Kg z;exact⟨v,by simp [pZ,u,p],p⟩
    refine(Mq l d (mJ hm F E l D C o e)).mono λe w' ⟨v,I,b⟩=> ?_;obtain⟨rs,M,x2,o1,o2,p,L,B,x,y,ho⟩:=b.res;exact⟨rs,M,x2,o1,o2,by rw [I,p],⟨b.os,b.output,b.tape,b.size,b.ah⟩,L,B,x,y,ho⟩
   .simp at e
  .simp at e
 .simp at e
theorem Uy(hm:P.follows .mixedOrders=true)(l:ko P An Or)(j:qT P An Or):qT P An (au P An Or):=by
 intro f fn todo live m bC p xs e d c w ρ O a B i g;simp only [au,d] at e;split at e
 .exact mJ hm l j d i g (GY _ _ _) e
 .rename_i o;have:wk todo=todo:=by
   unfold wk;split
   .rename_i b k;exact(o b k rfl).elim
   .rfl
  rw [this];exact mJ hm l j d i g (GY _ _ _) e
theorem IV(d:oa P An)(hm:P.follows .mixedOrders=true)(g:∀(f:FuncId) (fn:Func),P.funcs[f]? =some fn->fn.name≠ "runtime.NumGoroutine"):∀n,ko P An (jP P An n)/\qT P An (jP P An n)
 | 0=>⟨λ_ _ _ _ e=>by simp [jP] at e,λ_ _ _ _ _ _ _ _ e=>by simp [jP] at e⟩
 | n+1=>by obtain⟨a,b⟩:=IV d hm g n;exact⟨Uz d hm g a b,Uy hm a b⟩
theorem IX{k:Key}{vs:List AV}{a:List aa}{r:List T}(e:mU P An k vs a=some r):∃n,jP P An n k vs a=some r:=by
 unfold mU at e;split at e
 .rename_i b;simp only [Wj] at e;exact⟨_,by rw [<-e];exact Yu (Yu b)⟩
 .simp at e
theorem Sa(b:oa P An)(hm:P.follows .mixedOrders=true)(d:∀(f:FuncId) (fn:Func),P.funcs[f]? =some fn->fn.name≠ "runtime.NumGoroutine"):ko P An (mU P An):=by intro f bC a xs e;obtain⟨n,e⟩:=IX e;exact(IV b hm d n).1 f bC a xs e
end
open Go Go.IntKind
abbrev Li:=Key×List AV×List aa×List T
def zZ(O:aq)(L:List Li):Prop:= ∀q∈L,O q.1 q.2.1 q.2.2.1=some q.2.2.2
def aJ{R:Type}(F:aq->Option R):Prop:= ∀O r,F O=some r->∃L,zZ O L/\∀O',zZ O' L->F O'=some r
section
variable {P:Program} {A:cR} {R S:Type}
theorem aJ.const(m:Option R):aJ (λ_=>m):=λ_ r h=>⟨[],(by intro q a;cases a),λ_ _=>h⟩
theorem aJ.bind{F:aq->Option R}{G:R->aq->Option S}(i:aJ F)(j:∀a,aJ (G a)):aJ (λO=>(F O).bind λa=>G a O):=by
 intro O r h;obtain⟨a,k,h⟩:=Wk.1 h;obtain⟨L1,e,g1⟩:=i O a k;obtain⟨L2,f,g⟩:=j a O r h;refine⟨L1++L2,λq b=> ?_,λO' d=> ?_⟩
 .rcases WK.1 b with b | b
  .exact e q b
  .exact f q b
 .have:=g1 O' (λq b=>d q (WI _ b));simp only [this,Wq];exact g O' (λq b=>d q (WE _ b))
theorem aJ.ask(k:Key)(vs:List AV)(a:List aa):aJ (λO=>O k vs a):=λO r h=>⟨[(k,vs,a,r)],(by intro q b;simp only [WA] at b;subst b;exact h),
 λO' d=>d _ (WA.2 rfl)⟩
theorem aJ.cond{b:Bool}{F G:aq->Option R}(a:aJ F)(d:aJ G):aJ (λO=>cond b (F O) (G O)):=by cases b <;> assumption
theorem aJ.ite{p:Prop}[Decidable p]{F G:aq->Option R}(b:aJ F)(d:aJ G):aJ (λO=>if p then F O else G O):=by
 by_cases a:p
 .simp only [a,if_true];exact b
 .simp only [a,if_false];exact d
theorem aJ.ab{d:Type}[Inhabited d]{c:Option Bool}{m:Option d}{K:d->aq->Option R}(h:∀a,aJ (K a)):aJ (λO=>ab c m λa=>K a O):=by
 unfold Aev.ab;cases m with
 | some a=>exact h a
 | none=>cases c with
  | none=>exact aJ.const none
  | some b=>exact aJ.cond (aJ.const none) (h default)
theorem aJ.fX{k:Ck}{c:Option Bool}{x:T}{K:T->aq->Option R}(h:∀a,aJ (K a)):aJ (λO=>fX k c x λa=>K a O):=by
 unfold Aev.fX;cases k <;> (try dsimp only)
 case x=>exact h x
 all_goals exact aJ.ab λa=>h _
theorem aJ.fM{c:Option Bool}:∀{ks:List Ck} {xs:List T} {K:List T->aq->Option R},(∀a,aJ (K a))->aJ (λO=>fM c ks xs λa=>K a O)
 | [],xs,K,h=>h xs
 | _::_,[],K,h=>h []
 | k::ks,x::xs,K,h=>by simp only [Aev.fM];exact aJ.fX (K:=λy O=>Aev.fM c ks xs λb=>K (y::b) O) λy=>aJ.fM (K:=λb O=>K (y::b) O) λb=>h _
theorem aJ.n7{c:Option Bool}{t:TypeId}{v:AV}{K:AV->aq->Option R}(h:∀a,aJ (K a)):aJ (λO=>n7 P c t v λa=>K a O):=by
 unfold Aev.n7;cases v <;> (try exact h _)
 case t x=>exact aJ.fX (K:=λy O=>K (.t y) O) λy=>h _
 case agg vs=>
  dsimp only;cases eV vs with
  | none=>exact h _
  | some l=>exact aJ.fM (K:=λl O=>K (.agg (l.map .t)) O) λy=>h _
theorem aJ.jW{c:Option Bool}:∀{ts:List TypeId} {vs:List AV} {K:List AV->aq->Option R},(∀a,aJ (K a))->aJ (λO=>jW P c ts vs λa=>K a O)
 | [],vs,K,h=>h vs
 | _::_,[],K,h=>h []
 | t::ts,v::vs,K,h=>by simp only [Aev.jW];exact aJ.n7 (K:=λu O=>Aev.jW P c ts vs λus=>K (u::us) O) λu=>aJ.jW (K:=λus O=>K (u::us) O) λus=>h _
theorem aJ.il{s:St}{d:Nat}{c:Option Bool}{f:FuncId}{args:List AV}{K:AV->aH->Option R}:aJ (λO=>il P A O s d c f args K):=by
 unfold Aev.il;cases P.funcs[f]? with
 | none=>exact aJ.const none
 | some fn=>
  dsimp only;have e:∀(m:Option (List T)) (k:List T->Option R),Aev.ab none m k=m.bind k:=by intro m k;cases m <;> rfl
  cases A.ji f with
  | none=>
   dsimp only;refine aJ.bind (F:=λ_=>mA ((dN P A f 0 fn).all tH) (A.deep f) s.h args) (aJ.const _) λp=> ?_;simp only [e];refine aJ.jW λq=> ?_;refine aJ.bind (F:=λO=>fy c (O (.call f) q [])) ?_ λxs=>aJ.const _;unfold fy;cases c with
   | none=>exact aJ.ask _ _ _
   | some b=>exact aJ.cond (aJ.ask _ _ _) (aJ.const _)
  | some a=>
   cases c with
   | some b=>exact aJ.const none
   | none=>dsimp only;refine aJ.bind (F:=λ_=>ny s.h (AB a args) a args) (aJ.const _) λp=> ?_;refine aJ.bind (F:=λ_=>lK (2000000+d) 0 (aP s.h p.2) (oV (rz (cy p.1) []) (iM A f (iF ((cy p.1).head?.bind (aP s.h p.2)))))) (aJ.const _) λus=> ?_;refine aJ.bind (F:=λ_=>fW (aP (aP s.h p.2) us) 1000 (cy p.1) []) (aJ.const _) λseen=> ?_;refine aJ.cond ?_ (aJ.const none);simp only [e];refine aJ.jW λq=> ?_;exact aJ.bind (aJ.ask _ _ _) λxs=>aJ.const _
theorem aJ.kz{iL:Bool}{s:St}{d:Nat}{c:Option Bool}{f:FuncId}{args:List AV}{K:AV->aH->Option R}:aJ (λO=>kz iL P A O s d c f args K):=by
 unfold Aev.kz;cases _root_.cond iL (js args) none with
 | none=>exact aJ.il
 | some q=>
  obtain⟨a,i,n,e⟩:=q;cases c with
  | some b=>exact aJ.const none
  | none=>
   dsimp only;cases s.h i with
   | none=>exact aJ.const none
   | some b=>
    cases b with
    | rows b sz col rsz g es=>
     dsimp only;cases cP n es with
     | none=>exact aJ.const none
     | some p=>exact aJ.cond aJ.il (aJ.const none)
    | _=>exact aJ.const none
theorem aJ.dq{g:Option Gs}{o:Oper}{s:St}:aJ (λO=>dq P A O g o s):=by
 unfold Aev.dq jD;cases o.op <;> (try dsimp only) <;> try exact aJ.const _
 case makeFunc fn a b=>cases fn <;> (try dsimp only) <;> exact aJ.const _
 case call cl=>
  cases cl.callee <;> (try dsimp only)
  case value d=>cases nJ (s.get g d) <;> (try dsimp only) <;> first | exact aJ.kz | exact aJ.const _
  case builtin b=>cases b <;> (try dsimp only) <;> exact aJ.const _
  all_goals exact aJ.const _
theorem aJ.fV{a:Bool}{nt:Nat}{ops:Array Oper}{o:Oper}{s:St}:aJ (λO=>fV P A O a nt ops o s):=by
 unfold Aev.fV qt;have key:∀{G:aq->Option Gs->Option St},(∀g,aJ (λO=>G O g))->aJ (λO=>dL ops o s (G O)):=λ{G} b=>by rw [show(λO=>dL ops o s (G O))=λO=>(dL ops o s some).bind (G O) from funext λO=>yG _ _ _ _];exact aJ.bind (aJ.const _) b
 refine key λg=> ?_;cases sB A a o g with
 | none=>simp only [sS];exact aJ.bind aJ.dq λp=>aJ.const _
 | some d=>simp only [sS];exact aJ.cond (aJ.cond (aJ.bind aJ.dq λp=>aJ.const _) (aJ.const _)) (aJ.const _)
theorem aJ.jR{a:Bool}{nt:Nat}{ops:Array Oper}:∀(l:List Oper) (s:St),aJ (λO=>jR P A O a nt ops l s)
 | [],s=>aJ.const _
 | o::r,s=>aJ.bind (F:=λO=>Aev.fV P A O a nt ops o s) aJ.fV λs'=>aJ.jR r s'
theorem aJ.region{nt:Nat}{a:Bool}{ops:Array Oper}{s:St}{K:St->aq->Option R}(h:∀s,aJ (K s)):aJ (λO=>region P A O nt a ops s λs'=>K s' O):=by
 unfold Aev.region;refine aJ.cond ?_ (aJ.const none);have:(λO=>wP P A O a nt ops ops.toList s λs'=>K s'.clear O)=λO=>(Aev.jR P A O a nt ops ops.toList s).bind λs'=>K s'.clear O:=by funext O;rw [CR]
 rw [this];exact aJ.bind (aJ.jR _ _) λs'=>h _
theorem aJ.nn{f:FuncId}{todo:List Item}{live:List (Nat×Option Nat)}{m:Nat×Nat}{s:St}:aJ (λO=>nn O f todo live m s):=by unfold Aev.nn;refine aJ.bind (aJ.const _) λus=> ?_;unfold Aev.zO;refine aJ.bind (aJ.const _) λp=>aJ.ite ?_ (aJ.const none);exact aJ.bind (aJ.const _) λseen=>aJ.ask _ _ _
theorem aJ.ev{f:FuncId}{fn:Func}{m:Nat×Nat}:∀(n:Nat) (a:Bool) (todo:List Item) (s:St),aJ (λO=>ev P A O f fn m n a todo s)
 | 0,a,todo,s=>by simp only [Aev.ev];exact aJ.const none
 | n+1,a,[],s=>by simp only [Aev.ev];exact aJ.const _
 | n+1,a, .code .skip::k,s=>by simp only [Aev.ev];exact aJ.ev n _ _ _
 | n+1,a, .code (.seq x y)::k,s=>by simp only [Aev.ev];exact aJ.ev n _ _ _
 | n+1,a, .code (.region id ops d)::k,s=>by
  simp only [Aev.ev];cases e:(bif a then A.join f id else none) with
  | some live=>exact aJ.nn
  | none=>exact aJ.region λs'=>aJ.ev n _ _ _
 | n+1,a, .code (.cond x p q)::k,s=>by simp only [Aev.ev];refine aJ.bind (F:=λ_=>(s.get none x).t?) (aJ.const _) λy=>aJ.ab λt=>aJ.cond (aJ.ev n _ _ _) (aJ.ev n _ _ _)
 | n+1,a, .code (.block id b)::k,s=>by simp only [Aev.ev];exact aJ.ev n _ _ _
 | n+1,a, .code (.loop b)::k,s=>by
  simp only [Aev.ev];cases A.live f (qy b) with
  | some live=>exact aJ.nn
  | none=>exact aJ.const none
 | n+1,a, .code (.exit id)::k,s=>by
  simp only [Aev.ev];cases exitTo id k with
  | some g=>exact aJ.ev n _ _ _
  | none=>exact aJ.const none
 | n+1,a, .code .ret::k,s=>by simp only [Aev.ev];exact aJ.const _
 | n+1,a, .inBlock id::k,s=>by simp only [Aev.ev];exact aJ.ev n _ _ _
 | n+1,a, .inLoop b::k,s=>by
  simp only [Aev.ev];cases A.live f (qy b) with
  | some live=>exact aJ.nn
  | none=>exact aJ.const none
 | n+1,a, .code (.label _)::k,s=>by simp only [Aev.ev];exact aJ.const _
 | n+1,a, .code (.goto _)::k,s=>by simp only [Aev.ev];exact aJ.const _
 | n+1,a, .code (.rangeFunc ..)::k,s=>by simp only [Aev.ev];exact aJ.const _
 | n+1,a, .code (.scope _)::k,s=>by simp only [Aev.ev];exact aJ.const _
 | n+1,a, .code (.refuse _)::k,s=>by simp only [Aev.ev];exact aJ.const _
 | n+1,a, .inRegion ..::k,s=>by simp only [Aev.ev];exact aJ.const _
 | n+1,a, .inScope _::k,s=>by simp only [Aev.ev];exact aJ.const _
 | n+1,a, .inRangeFunc _::k,s=>by simp only [Aev.ev];exact aJ.const _
 | n+1,a, .endRangeFunc _::k,s=>by simp only [Aev.ev];exact aJ.const _
 | n+1,a, .beginRound::k,s=>by simp only [Aev.ev];exact aJ.const _
 | n+1,a, .extern ..::k,s=>by simp only [Aev.ev];exact aJ.const _
 | n+1,a, .call ..::k,s=>by simp only [Aev.ev];exact aJ.const _
theorem aJ.au(k:Key)(vs:List AV)(a:List aa):aJ (λO=>au P A O k vs a):=by
 cases k with
 | call f=>
  simp only [Aev.au];cases A.ext f vs a with
  | some r=>exact aJ.const _
  | none=>
   dsimp only;cases P.funcs[f]? with
   | none=>exact aJ.const _
   | some fn=>
    dsimp only;cases fn.body with
    | none=>exact aJ.const _
    | some c=>exact aJ.ite (aJ.ev _ _ _ _) (aJ.const _)
 | node f todo live m=>
  simp only [Aev.au];cases P.funcs[f]? with
  | none=>exact aJ.const _
  | some fn=>
   dsimp only;split
   .exact aJ.ev _ _ _ _
   .exact aJ.ev _ _ _ _
theorem IW:∀(n:Nat) {k:Key} {vs:List AV} {a:List aa} {r:List T},jP P A n k vs a=some r->jP P A (n+1) k vs a=some r
 | 0,k,vs,a,r,h=>by simp [jP] at h
 | n+1,k,vs,a,r,h=>by obtain⟨L,e,g⟩:=aJ.au (P:=P) (A:=A) k vs a _ r h;exact g _ λq b=>IW n (e q b)
theorem zb{n m:Nat}(b:n<=m){k:Key}{vs:List AV}{a:List aa}{r:List T}(h:jP P A n k vs a=some r):jP P A m k vs a=some r:=by
 induction b with
 | refl=>exact h
 | step _ d=>exact IW _ d
theorem CC{n:Nat}{k:Key}{vs:List AV}{e:List aa}{r:List T}(h:jP P A n k vs e=some r):mU P A k vs e=some r:=by unfold mU;have d:∃n r,jP P A n k vs e=some r:=⟨n,r,h⟩;rw [dif_pos d];have f:=Yu (Yu d);have a:=zb (Nat.le_max_left n (Classical.choose d)) h;have b:=zb (Nat.le_max_right n (Classical.choose d)) f;rw [a] at b;exact b.symm
theorem ai{k:Key}{vs:List AV}{b:List aa}{r:List T}(h:au P A (mU P A) k vs b=some r):mU P A k vs b=some r:=by
 obtain⟨L,e,g⟩:=aJ.au (P:=P) (A:=A) k vs b _ r h;have:∃n,zZ (jP P A n) L:=by
  clear g h;induction L with
  | nil=>exact⟨0,(by intro q a;cases a)⟩
  | cons q L i=>
   obtain⟨n,d⟩:=i λf a=>e f (Wn _ a);obtain⟨m,hm⟩:=IX (e q Wl);refine⟨max n m,λf a=> ?_⟩;rcases WC.1 a with rfl | a
   .exact zb (Nat.le_max_right _ _) hm
   .exact zb (Nat.le_max_left _ _) (d f a)
 obtain⟨n,d⟩:=this;exact CC (n:=n+1) (g _ d)
end
open Go Go.IntKind
section
variable {P:Program} {An:cR} {w w':World}
theorem xy.below(k:xy w w'):Go.RowKit.Below w.heap.size w w':=⟨k.os,k.tape,k.output,k.size,k.ah⟩
theorem Mr{f:FuncId}{fn:Func}{bC:List AV}{args:List Value}{A0:Nat->Prop}(y:oa P An)(hm:P.follows .mixedOrders=true)(B:∀(f:FuncId) (fn:Func),P.funcs[f]? =some fn->fn.name≠ "runtime.NumGoroutine")
  (l:P.funcs[f]? =some fn) (d:An.ji f=none) (i:dN P An f 0 fn= [.f .b]) (r:∀b,A0 b->b < w.heap.size) (g:aC w A0 (λ_=>none) bC args)
  (e:mU P An (.call f) bC []=some [.bool true]) (u:GlobOk w:=by exact Go.Aev.globOk _):Calls P f args.toArray w λe w'=>e= .returned (.bool true)/\Go.RowKit.Below w.heap.size w w':=by
 obtain⟨E,o,a,_,_,p⟩:=Sa y hm B f bC [] _ e;rw [l] at a;simp only [Wj] at a;subst a;refine(p.values d A0 w args r g u).mono λe w' ⟨rs,own,z,C,_,_,m⟩=> ?_;rw [i] at m;obtain⟨x,G,v,F,ob,D,j,rfl,_,q,I,rfl,_⟩:=m;simp only [XD] at j;obtain⟨rfl,rfl⟩:=j;obtain⟨_,k,_⟩:=q;simp only [az] at k;subst k;exact⟨z,C.below⟩
end
open Go Go.IntKind
abbrev I(n:Int):AV:= .t (.int .i64 n)
abbrev B(b:Bool):AV:= .t (.bool b)
theorem aI{b R:Type}[Inhabited b](c:Option Bool)(a:b)(k:b->Option R):ab c (some a) k=k a:=by cases c <;> rfl
theorem bE{a R:Type}[Inhabited a](m:Option a)(k:a->Option R):ab (some false) m k=k (m.getD default):=by cases m <;> rfl
def bR(m:Option (List T))(k:Int->(Bool×List Row)->(List (List T×T))->Option (List T)):Option (List T):=ab none m λv0=>ab none v0.head? λa=>ab none (T.int? i64 a) λb=>ab none (List.drop 1 v0).head? λd=>ab none (kC d) λe=>ab none (List.drop 1 v0).tail.head? λg=>ab none ((List.drop 2 (List.drop 1 v0)).head?.bind λz=>jJ z) λf=>k b e f
def bn(l:List (List T))(i:Int)(k:Int->Option (List T)):Option (List T):=ab none (if 0<=i/\i < ↑l.length then some () else none) λ_=>ab none l[i.toNat]? λv0=>ab none v0.head? λa=>ab none (T.int? i64 a) λb=>k b
def pK(m:Option (List T))(k:(Bool×List (List T))->Int->Int->Int->(Bool×List (List T))->(Bool×List (List T))->(Bool×List (List T))->ByteArray->(Bool×List (List T))->(Bool×List Row)->(Bool×List (List T))->(Bool×List (List T))->(List (List T×T))->Option (List T)):Option (List T):=ab none m λv0=>ab none v0.head? λC=>ab none (T.aQ 1 C) λD=>ab none (List.drop 1 v0).head? λU=>ab none (List.drop 1 (List.drop 1 v0)).head? λE=>ab none (T.int? i64 E) λF=>ab none (List.drop 1 (List.drop 1 v0)).tail.head? λG=>ab none (T.aQ 1 G) λV=>ab none (List.drop 1 (List.drop 1 v0)).tail.tail.head? λI=>ab none (T.int? i64 I) λJ=>ab none (List.drop 1 (List.drop 1 v0)).tail.tail.tail.head? λa=>ab none (T.int? i64 a) λb=>ab none (List.drop 1 (List.drop 1 v0)).tail.tail.tail.tail.head? λd=>ab none d.dU λK=>ab none (List.drop 5 (List.drop 1 (List.drop 1 v0))).head? λL=>ab none (List.drop 5 (List.drop 1 (List.drop 1 v0))).tail.head? λe=>ab none (T.aQ 3 e) λf=>ab none (List.drop 5 (List.drop 1 (List.drop 1 v0))).tail.tail.head? λg=>ab none (T.aQ 5 g) λi=>ab none (List.drop 5 (List.drop 1 (List.drop 1 v0))).tail.tail.tail.head? λj=>ab none (T.aQ 1 j) λl=>ab none (List.drop 5 (List.drop 1 (List.drop 1 v0))).tail.tail.tail.tail.head? λo=>ab none o.dU λp=>ab none (List.drop 5 (List.drop 1 (List.drop 1 v0))).tail.tail.tail.tail.tail.head? λq=>ab none (T.aQ 1 q) λr=>ab none (List.drop 5 (List.drop 1 (List.drop 1 v0))).tail.tail.tail.tail.tail.tail.head? λM=>ab none (List.drop 5 (List.drop 1 (List.drop 1 v0))).tail.tail.tail.tail.tail.tail.tail.head? λN=>ab none (List.drop 8 (List.drop 5 (List.drop 1 (List.drop 1 v0)))).head? λu=>ab none (kC u) λv=>ab none (List.drop 8 (List.drop 5 (List.drop 1 (List.drop 1 v0)))).tail.head? λQ=>ab none ((List.drop 2 (List.drop 8 (List.drop 5 (List.drop 1 (List.drop 1 v0))))).head?.bind λz=>T.aQ 1 z) λx=>ab none ((List.drop 2 (List.drop 8 (List.drop 5 (List.drop 1 (List.drop 1 v0))))).tail.head?.bind λz=>T.aQ 1 z) λy=>ab none ((List.drop 2 (List.drop 8 (List.drop 5 (List.drop 1 (List.drop 1 v0))))).tail.tail.head?.bind λz=>jJ z) λB=>k D F J b f i l p r v x y B
def pL(m:Option (List T))(k:(Bool×List (List T))->Int->(Bool×List (List T))->Int->Int->ByteArray->(Bool×List (List T))->(Bool×List (List T))->(Bool×List (List T))->ByteArray->(Bool×List (List T))->(Bool×List Row)->(Bool×List (List T))->(Bool×List (List T))->(List (List T×T))->Option (List T)):Option (List T):=ab none m λv0=>ab none v0.head? λD=>ab none (T.aQ 1 D) λE=>ab none (List.drop 1 v0).head? λV=>ab none (List.drop 1 (List.drop 1 v0)).head? λF=>ab none (T.int? i64 F) λG=>ab none (List.drop 1 (List.drop 1 v0)).tail.head? λI=>ab none (T.aQ 1 I) λJ=>ab none (List.drop 1 (List.drop 1 v0)).tail.tail.head? λK=>ab none (T.int? i64 K) λL=>ab none (List.drop 1 (List.drop 1 v0)).tail.tail.tail.head? λa=>ab none (T.int? i64 a) λb=>ab none (List.drop 1 (List.drop 1 v0)).tail.tail.tail.tail.head? λd=>ab none d.dU λe=>ab none (List.drop 5 (List.drop 1 (List.drop 1 v0))).head? λM=>ab none (List.drop 5 (List.drop 1 (List.drop 1 v0))).tail.head? λf=>ab none (T.aQ 3 f) λg=>ab none (List.drop 5 (List.drop 1 (List.drop 1 v0))).tail.tail.head? λi=>ab none (T.aQ 5 i) λj=>ab none (List.drop 5 (List.drop 1 (List.drop 1 v0))).tail.tail.tail.head? λl=>ab none (T.aQ 1 l) λo=>ab none (List.drop 5 (List.drop 1 (List.drop 1 v0))).tail.tail.tail.tail.head? λp=>ab none p.dU λq=>ab none (List.drop 5 (List.drop 1 (List.drop 1 v0))).tail.tail.tail.tail.tail.head? λr=>ab none (T.aQ 1 r) λu=>ab none (List.drop 5 (List.drop 1 (List.drop 1 v0))).tail.tail.tail.tail.tail.tail.head? λN=>ab none (List.drop 5 (List.drop 1 (List.drop 1 v0))).tail.tail.tail.tail.tail.tail.tail.head? λQ=>ab none (List.drop 8 (List.drop 5 (List.drop 1 (List.drop 1 v0)))).head? λv=>ab none (kC v) λx=>ab none (List.drop 8 (List.drop 5 (List.drop 1 (List.drop 1 v0)))).tail.head? λU=>ab none ((List.drop 2 (List.drop 8 (List.drop 5 (List.drop 1 (List.drop 1 v0))))).head?.bind λz=>T.aQ 1 z) λy=>ab none ((List.drop 2 (List.drop 8 (List.drop 5 (List.drop 1 (List.drop 1 v0))))).tail.head?.bind λz=>T.aQ 1 z) λB=>ab none ((List.drop 2 (List.drop 8 (List.drop 5 (List.drop 1 (List.drop 1 v0))))).tail.tail.head?.bind λz=>jJ z) λC=>k E G J L b e g j o q u x y B C
def fi(m:Option (List T))(k:Int->Int->(Bool×List (List T))->Int->Option (List T)):Option (List T):=ab none m λv0=>ab none v0.head? λa=>ab none (T.int? i64 a) λb=>ab none v0.tail.head? λd=>ab none (T.int? i64 d) λe=>ab none v0.tail.tail.head? λf=>ab none (T.aQ 2 f) λg=>ab none v0.tail.tail.tail.head? λi=>ab none (T.int? i64 i) λj=>k b e g j
def bz(m:Option (List T))(k:Bool->Option (List T)):Option (List T):=ab none m λv0=>ab none v0.head? λa=>ab none a.bool? λb=>k b
def kA(l:List (List T))(i:Int)(k:(Bool×List (List T))->Int->Int->(Bool×List (List T))->Int->Option (List T)):Option (List T):=ab none (if 0<=i/\i < ↑l.length then some () else none) λ_=>ab none l[i.toNat]? λv0=>ab none v0.head? λb=>ab none v0.tail.head? λd=>ab none v0.tail.tail.head? λe=>ab none v0.tail.tail.tail.head? λf=>ab none v0.tail.tail.tail.tail.head? λg=>ab none (T.aQ 1 b) λj=>ab none (T.int? i64 d) λm=>ab none (T.int? i64 e) λo=>ab none (T.aQ 2 f) λp=>ab none (T.int? i64 g) λa=>k j m o p a
def gz(m:Option (List T))(k:Bool->(Bool×List Row)->(List (List T×T))->Option (List T)):Option (List T):=ab none m λv0=>ab none v0.head? λa=>ab none a.bool? λb=>ab none (List.drop 1 v0).head? λd=>ab none (kC d) λe=>ab none (List.drop 1 v0).tail.head? λg=>ab none ((List.drop 2 (List.drop 1 v0)).head?.bind λz=>jJ z) λf=>k b e f
def fH(l:List (List T))(k:Int->Option (List T)):Option (List T):=ab none (if(0:Int)<=0/\(0:Int) < ↑l.length then some () else none) λ_=>ab none l[0]? λv0=>ab none v0.head? λa=>ab none (T.int? i64 a) λb=>k b
def x6(m:Option (List T))(k:(Bool×List (List T))->(Bool×List (List T))->(Bool×List (List T))->(Bool×List (List T))->ByteArray->(Bool×List (List T))->(Bool×List Row)->(Bool×List (List T))->(Bool×List (List T))->(List (List T×T))->Option (List T)):Option (List T):=ab none m λv0=>ab none v0.head? λB=>ab none (T.aQ 1 B) λC=>ab none (List.drop 1 v0).head? λN=>ab none (List.drop 1 (List.drop 1 v0)).head? λD=>ab none (T.int? i64 D) λQ=>ab none (List.drop 1 (List.drop 1 v0)).tail.head? λE=>ab none (T.aQ 1 E) λU=>ab none (List.drop 1 (List.drop 1 v0)).tail.tail.head? λF=>ab none (T.int? i64 F) λV=>ab none (List.drop 1 (List.drop 1 v0)).tail.tail.tail.head? λa=>ab none (T.int? i64 a) λG=>ab none (List.drop 1 (List.drop 1 v0)).tail.tail.tail.tail.head? λb=>ab none b.dU λI=>ab none (List.drop 5 (List.drop 1 (List.drop 1 v0))).head? λJ=>ab none (List.drop 5 (List.drop 1 (List.drop 1 v0))).tail.head? λd=>ab none (T.aQ 3 d) λe=>ab none (List.drop 5 (List.drop 1 (List.drop 1 v0))).tail.tail.head? λf=>ab none (T.aQ 5 f) λg=>ab none (List.drop 5 (List.drop 1 (List.drop 1 v0))).tail.tail.tail.head? λi=>ab none (T.aQ 1 i) λj=>ab none (List.drop 5 (List.drop 1 (List.drop 1 v0))).tail.tail.tail.tail.head? λl=>ab none l.dU λo=>ab none (List.drop 5 (List.drop 1 (List.drop 1 v0))).tail.tail.tail.tail.tail.head? λp=>ab none (T.aQ 1 p) λq=>ab none (List.drop 5 (List.drop 1 (List.drop 1 v0))).tail.tail.tail.tail.tail.tail.head? λK=>ab none (List.drop 5 (List.drop 1 (List.drop 1 v0))).tail.tail.tail.tail.tail.tail.tail.head? λL=>ab none (List.drop 8 (List.drop 5 (List.drop 1 (List.drop 1 v0)))).head? λr=>ab none (kC r) λu=>ab none (List.drop 8 (List.drop 5 (List.drop 1 (List.drop 1 v0)))).tail.head? λM=>ab none ((List.drop 2 (List.drop 8 (List.drop 5 (List.drop 1 (List.drop 1 v0))))).head?.bind λz=>T.aQ 1 z) λv=>ab none ((List.drop 2 (List.drop 8 (List.drop 5 (List.drop 1 (List.drop 1 v0))))).tail.head?.bind λz=>T.aQ 1 z) λx=>ab none ((List.drop 2 (List.drop 8 (List.drop 5 (List.drop 1 (List.drop 1 v0))))).tail.tail.head?.bind λz=>jJ z) λy=>k C e g j o q u v x y
def nA(l:List (List T))(i:Int)(k:Int->(Bool×List (List T))->Int->Int->ByteArray->Option (List T)):Option (List T):=ab none (if 0<=i/\i < ↑l.length then some () else none) λ_=>ab none l[i.toNat]? λv0=>ab none v0.head? λb=>ab none v0.tail.head? λd=>ab none v0.tail.tail.head? λe=>ab none v0.tail.tail.tail.head? λf=>ab none v0.tail.tail.tail.tail.head? λg=>ab none (T.int? i64 b) λj=>ab none (T.aQ 1 d) λm=>ab none (T.int? i64 e) λo=>ab none (T.int? i64 f) λp=>ab none g.dU λa=>k j m o p a
def cU(m:Option (List T))(k:Int->Option (List T)):Option (List T):=ab none m λv0=>ab none v0.head? λa=>ab none (T.int? i64 a) λb=>k b
def lj(l:List (List T))(i:Int)(k:ByteArray->(Bool×List (List T))->Int->Option (List T)):Option (List T):=ab none (if 0<=i/\i < ↑l.length then some () else none) λ_=>ab none l[i.toNat]? λv0=>ab none v0.head? λa=>ab none v0.tail.head? λb=>ab none v0.tail.tail.head? λd=>ab none a.dU λe=>ab none (T.aQ 1 b) λf=>ab none (T.int? i64 d) λg=>k e f g
def xT(m:Option (List T))(k:Int->Int->(Bool×List (List T))->(Bool×List (List T))->(Bool×List (List T))->ByteArray->(Bool×List (List T))->(Bool×List Row)->(Bool×List (List T))->(Bool×List (List T))->(List (List T×T))->Option (List T)):Option (List T):=ab none m λv0=>ab none v0.head? λr=>ab none (T.int? i64 r) λu=>ab none (List.drop 1 v0).head? λG=>ab none (List.drop 1 (List.drop 1 v0)).head? λv=>ab none (T.int? i64 v) λx=>ab none (List.drop 1 (List.drop 1 (List.drop 1 v0))).head? λI=>ab none (List.drop 1 (List.drop 1 (List.drop 1 v0))).tail.head? λy=>ab none (T.aQ 3 y) λB=>ab none (List.drop 1 (List.drop 1 (List.drop 1 v0))).tail.tail.head? λC=>ab none (T.aQ 5 C) λa=>ab none (List.drop 1 (List.drop 1 (List.drop 1 v0))).tail.tail.tail.head? λb=>ab none (T.aQ 1 b) λd=>ab none (List.drop 1 (List.drop 1 (List.drop 1 v0))).tail.tail.tail.tail.head? λe=>ab none e.dU λf=>ab none (List.drop 1 (List.drop 1 (List.drop 1 v0))).tail.tail.tail.tail.tail.head? λg=>ab none (T.aQ 1 g) λi=>ab none (List.drop 1 (List.drop 1 (List.drop 1 v0))).tail.tail.tail.tail.tail.tail.head? λD=>ab none (List.drop 1 (List.drop 1 (List.drop 1 v0))).tail.tail.tail.tail.tail.tail.tail.head? λE=>ab none (List.drop 8 (List.drop 1 (List.drop 1 (List.drop 1 v0)))).head? λj=>ab none (kC j) λl=>ab none (List.drop 8 (List.drop 1 (List.drop 1 (List.drop 1 v0)))).tail.head? λF=>ab none ((List.drop 2 (List.drop 8 (List.drop 1 (List.drop 1 (List.drop 1 v0))))).head?.bind λz=>T.aQ 1 z) λo=>ab none ((List.drop 2 (List.drop 8 (List.drop 1 (List.drop 1 (List.drop 1 v0))))).tail.head?.bind λz=>T.aQ 1 z) λp=>ab none ((List.drop 2 (List.drop 8 (List.drop 1 (List.drop 1 (List.drop 1 v0))))).tail.tail.head?.bind λz=>jJ z) λq=>k u x B a d f i l o p q
def lr(m:Option (List T))(k:(Bool×List (List T))->(Bool×List Row)->(List (List T×T))->Option (List T)):Option (List T):=ab none m λv0=>ab none v0.head? λa=>ab none (T.aQ 1 a) λb=>ab none (List.drop 1 v0).head? λd=>ab none (kC d) λe=>ab none (List.drop 1 v0).tail.head? λg=>ab none ((List.drop 2 (List.drop 1 v0)).head?.bind λz=>jJ z) λf=>k b e f
def lu(l:List (List T))(k:Int->Option (List T)):Option (List T):=ab none (if(0:Int)<=1/\(1:Int) < ↑l.length then some () else none) λ_=>ab none l[1]? λv0=>ab none v0.head? λa=>ab none (T.int? i64 a) λb=>k b
def td(l:List (List T))(i:Int)(k:(Bool×List (List T))->Int->Int->(Bool×List (List T))->Int->Option (List T)):Option (List T):=ab none (if 0<=i/\i < ↑l.length then some () else none) λ_=>ab none l[i.toNat]? λv0=>ab none v0.head? λb=>ab none v0.tail.head? λd=>ab none v0.tail.tail.head? λe=>ab none v0.tail.tail.tail.head? λf=>ab none v0.tail.tail.tail.tail.head? λg=>ab none (T.aQ 5 b) λj=>ab none (T.int? i64 d) λm=>ab none (T.int? i64 e) λo=>ab none (T.aQ 2 f) λp=>ab none (T.int? i64 g) λa=>k j m o p a
def lA(m:Option (List T))(k:Int->Int->Option (List T)):Option (List T):=ab none m λv0=>ab none v0.head? λa=>ab none (T.int? i64 a) λb=>ab none v0.tail.head? λd=>ab none (T.int? i64 d) λe=>k b e
def rq(m:Option (List T))(k:Int->Int->Int->Int->Option (List T)):Option (List T):=ab none m λv0=>ab none v0.head? λa=>ab none (T.int? i64 a) λb=>ab none v0.tail.head? λd=>ab none (T.int? i64 d) λe=>ab none (List.drop 2 v0).head? λf=>ab none (T.int? i64 f) λg=>ab none (List.drop 2 v0).tail.head? λi=>ab none (T.int? i64 i) λj=>k b e g j
def gT(m:Option (List T))(k:(Bool×List (List T))->Option (List T)):Option (List T):=ab none m λv0=>ab none v0.head? λa=>ab none (T.aQ 1 a) λb=>k b
def rr(l:List (List T))(i:Int)(k:Int->Int->Option (List T)):Option (List T):=ab none (if 0<=i/\i < ↑l.length then some () else none) λ_=>ab none l[i.toNat]? λv0=>ab none v0.head? λa=>ab none v0.tail.head? λb=>ab none (T.int? i64 a) λd=>ab none (T.int? i64 b) λe=>k d e
def vg(l:List (List T))(i:Int)(k:Int->Int->(Bool×List (List T))->Int->Option (List T)):Option (List T):=ab none (if 0<=i/\i < ↑l.length then some () else none) λ_=>ab none l[i.toNat]? λv0=>ab none v0.head? λa=>ab none v0.tail.head? λb=>ab none v0.tail.tail.head? λd=>ab none v0.tail.tail.tail.head? λe=>ab none (T.int? i64 a) λf=>ab none (T.int? i64 b) λg=>ab none (T.aQ 2 d) λj=>ab none (T.int? i64 e) λm=>k f g j m
def ir(m:Option (List T))(k:ByteArray->Option (List T)):Option (List T):=ab none m λv0=>ab none v0.head? λa=>ab none a.dU λb=>k b
def vh(m:Option (List T))(k:Int->Int->(Bool×List (List T))->Int->Bool->Option (List T)):Option (List T):=ab none m λv0=>ab none v0.head? λb=>ab none (T.int? i64 b) λd=>ab none v0.tail.head? λe=>ab none (T.int? i64 e) λf=>ab none v0.tail.tail.head? λg=>ab none (T.aQ 2 g) λi=>ab none v0.tail.tail.tail.head? λj=>ab none (T.int? i64 j) λl=>ab none (List.drop 4 v0).head? λo=>ab none o.bool? λa=>k d f i l a
def te(l:List (List T))(k:Int->Int->Option (List T)):Option (List T):=ab none (if(0:Int)<=0/\(0:Int) < ↑l.length then some () else none) λ_=>ab none l[0]? λv0=>ab none v0.head? λa=>ab none v0.tail.head? λb=>ab none (T.int? i64 a) λd=>ab none (T.int? i64 b) λe=>k d e
def xU(l:List (List T))(k:Int->Int->(Bool×List (List T))->Int->Option (List T)):Option (List T):=ab none (if(0:Int)<=0/\(0:Int) < ↑l.length then some () else none) λ_=>ab none l[0]? λv0=>ab none v0.head? λa=>ab none v0.tail.head? λb=>ab none v0.tail.tail.head? λd=>ab none v0.tail.tail.tail.head? λe=>ab none (T.int? i64 a) λf=>ab none (T.int? i64 b) λg=>ab none (T.aQ 2 d) λi=>ab none (T.int? i64 e) λj=>k f g i j
def ru(l:List (List T))(i:Int)(k:(Bool×List (List T))->Option (List T)):Option (List T):=ab none (if 0<=i/\i < ↑l.length then some () else none) λ_=>ab none l[i.toNat]? λv0=>ab none v0.head? λa=>ab none (T.aQ 1 a) λb=>k b
def vl(l:List (List T))(k:Int->Int->Option (List T)):Option (List T):=ab none (if(0:Int)<=1/\(1:Int) < ↑l.length then some () else none) λ_=>ab none l[1]? λv0=>ab none v0.head? λa=>ab none v0.tail.head? λb=>ab none (T.int? i64 a) λd=>ab none (T.int? i64 b) λe=>k d e
def xV(m:Option (List T))(k:(Bool×List (List T))->Int->Int->(Bool×List (List T))->Int->Option (List T)):Option (List T):=ab none m λv0=>ab none v0.head? λb=>ab none (T.aQ 5 b) λd=>ab none v0.tail.head? λe=>ab none (T.int? i64 e) λf=>ab none v0.tail.tail.head? λg=>ab none (T.int? i64 g) λi=>ab none v0.tail.tail.tail.head? λj=>ab none (T.aQ 2 j) λl=>ab none v0.tail.tail.tail.tail.head? λo=>ab none (T.int? i64 o) λa=>k d f i l a
def xW(l:List (List T))(i:Int)(k:Int->Option (List T)):Option (List T):=ab none (if 0<=i/\i < ↑l.length then some () else none) λ_=>ab none l[i.toNat]? λv0=>ab none v0.head? λa=>ab none v0.tail.head? λb=>ab none v0.tail.tail.head? λd=>ab none a.dU λf=>ab none (T.aQ 1 b) λg=>ab none (T.int? i64 d) λe=>k e
def vo(l:List (List T))(i:Int)(k:Bool->Option (List T)):Option (List T):=ab none (if 0<=i/\i < ↑l.length then some () else none) λ_=>ab none l[i.toNat]? λv0=>ab none v0.head? λa=>ab none a.bool? λb=>k b
def xX(m:Option (List T))(k:(Bool×List (List T))->Int->Option (List T)):Option (List T):=ab none m λv0=>ab none v0.head? λa=>ab none (T.aQ 4 a) λb=>ab none v0.tail.head? λd=>ab none (T.int? i64 d) λe=>ab none v0.tail.tail.head? λf=>ab none (T.int? i64 f) λg=>k b e
def xY(m:Option (List T))(k:Bool->Option (List T)):Option (List T):=ab none m λv0=>ab none v0.head? λa=>ab none a.bool? λb=>ab none v0.tail.head? λd=>ab none (T.int? i64 d) λf=>ab none v0.tail.tail.head? λe=>ab none (T.int? i64 e) λg=>k b
def xZ(m:Option (List T))(k:(Bool×List (List T))->(Bool×List (List T))->(Bool×List (List T))->Option (List T)):Option (List T):=ab none m λv0=>ab none v0.head? λa=>ab none (T.aQ 3 a) λb=>ab none v0.tail.head? λd=>ab none (T.aQ 5 d) λe=>ab none v0.tail.tail.head? λf=>ab none (T.aQ 1 f) λg=>k b e g
def x5(m:Option (List T))(k:Int->Option (List T)):Option (List T):=ab none m λv0=>ab none v0.head? λa=>ab none (T.int? i64 a) λb=>ab none v0.tail.head? λd=>ab none (T.int? i64 d) λe=>k b
def tf(m:Option (List T))(k:(Bool×List (List T))->Option (List T)):Option (List T):=ab none m λv0=>ab none v0.head? λa=>ab none (T.aQ 2 a) λb=>k b
def vp(m:Option (List T))(k:Int->Option (List T)):Option (List T):=ab none m λv0=>ab none v0.head? λa=>ab none (T.int? u64 a) λb=>k b
theorem Hi{a:Type}(x:a)(l:List a):(x::l).head? =some x:=by cases l <;> rfl
theorem aL:(type_of% @Hi)/\(type_of% @bR.eq_1)/\(type_of% @bn.eq_1)/\(type_of% @pK.eq_1)/\(type_of% @pL.eq_1)/\(type_of% @fi.eq_1)/\(type_of% @bz.eq_1)/\(type_of% @kA.eq_1)/\(type_of% @gz.eq_1)/\(type_of% @fH.eq_1)/\(type_of% @x6.eq_1)/\(type_of% @nA.eq_1)/\(type_of% @cU.eq_1)/\(type_of% @lj.eq_1)/\(type_of% @xT.eq_1)/\(type_of% @lr.eq_1)/\(type_of% @lu.eq_1)/\(type_of% @td.eq_1)/\(type_of% @lA.eq_1)/\(type_of% @rq.eq_1)/\(type_of% @gT.eq_1)/\(type_of% @rr.eq_1)/\(type_of% @vg.eq_1)/\(type_of% @ir.eq_1)/\(type_of% @vh.eq_1)/\(type_of% @te.eq_1)/\(type_of% @xU.eq_1)/\(type_of% @ru.eq_1)/\(type_of% @vl.eq_1)/\(type_of% @xV.eq_1)/\(type_of% @xW.eq_1)/\(type_of% @vo.eq_1)/\(type_of% @xX.eq_1)/\(type_of% @xY.eq_1)/\(type_of% @xZ.eq_1)/\(type_of% @x5.eq_1)/\(type_of% @tf.eq_1)/\(type_of% @vp.eq_1):=⟨@Hi,@bR.eq_1,@bn.eq_1,@pK.eq_1,@pL.eq_1,@fi.eq_1,@bz.eq_1,@kA.eq_1,@gz.eq_1,@fH.eq_1,@x6.eq_1,@nA.eq_1,@cU.eq_1,@lj.eq_1,@xT.eq_1,@lr.eq_1,@lu.eq_1,@td.eq_1,@lA.eq_1,@rq.eq_1,@gT.eq_1,@rr.eq_1,@vg.eq_1,@ir.eq_1,@vh.eq_1,@te.eq_1,@xU.eq_1,@ru.eq_1,@vl.eq_1,@xV.eq_1,@xW.eq_1,@vo.eq_1,@xX.eq_1,@xY.eq_1,@xZ.eq_1,@x5.eq_1,@tf.eq_1,@vp.eq_1⟩
theorem aV{a:Type}(x:a)(l:List a):(x::l).tail=l:=by cases l <;> rfl
theorem fA{a:Type}(l:List a):l.drop 0=l:=by cases l <;> rfl
theorem eP{a:Type}(x:a)(l:List a):(x::l).drop 1=l:=by cases l <;> rfl
theorem fB{a:Type}(x y:a)(l:List a):(x::y::l).drop 2=l:=by cases l <;> rfl
theorem gA{a:Type}(x y z:a)(l:List a):(x::y::z::l).drop 3=l:=by cases l <;> rfl
theorem tn{a:Type}(x y z u:a)(l:List a):(x::y::z::u::l).drop 4=l:=by cases l <;> rfl
theorem E7{a:Type}(x y z u v:a)(l:List a):(x::y::z::u::v::l).drop 5=l:=by cases l <;> rfl
theorem E8{a:Type}(x y z u v t:a)(l:List a):(x::y::z::u::v::t::l).drop 6=l:=by cases l <;> rfl
theorem bK(b:Bool):(T.bool b).bool? =some b:=by cases b <;> rfl
theorem aO(k:IntKind)(n:Int):(T.int k n).int? k=some n:=by cases k <;> simp [T.int?]
theorem iO(s:ByteArray):(T.str s).dU =some s:=by cases s;rfl
theorem cu(sz:Nat)(b:Bool)(l:List (List T)):(T.ad sz b l).aQ sz=some (b,l):=by cases b <;> simp [T.aQ]
theorem cz(sz:Nat)(b:Bool):(T.aB b).aQ sz=some (b,[]):=by cases b <;> rfl
theorem Ja(l:List T):(T.ptr l).sf =some l:=by cases l <;> rfl
theorem GJ(k:IntKind)(n:Int):(T.int k n).rF =some ():=by cases k <;> rfl
theorem GI(b:Bool):(T.bool b).rF =some ():=by cases b <;> rfl
theorem G5(b:ByteArray):(T.str b).rF =some ():=by cases b;rfl
theorem aR{d:Type}(a b:d):cond true a b=a:=by simp
theorem aX{d:Type}(a b:d):cond false a b=b:=by simp
theorem iX:(!true)=false:=by decide
theorem iW:(!false)=true:=by decide
theorem iR(m:Option (List T)):fy none m=m:=by cases m <;> rfl
theorem fx(m:Option (List T)):fy (some true) m=m:=by cases m <;> rfl
theorem fO(m:Option (List T)):fy (some false) m=some []:=by cases m <;> rfl
theorem im{d:Type}(p:Prop)[Decidable p](a b:d):(bif decide p then a else b)=if p then a else b:=by by_cases h:p <;> simp [h]
theorem EL{d:Type}(p:Prop)[Decidable p](a b:d):(bif !decide p then a else b)=if p then b else a:=by by_cases h:p <;> simp [h]
theorem AE{d:Type}(m n:Int)(a b:d):(bif m==n then a else b)=if m=n then a else b:=by
 by_cases h:m=n
 .simp [h]
 .have:(m==n)=false:=by simpa using h
  simp [h,this]
theorem EK{d:Type}(m n:Int)(a b:d):(bif !m==n then a else b)=if m=n then b else a:=by
 by_cases h:m=n
 .simp [h]
 .have:(m==n)=false:=by simpa using h
  simp [h,this]
theorem s5(a b:Bool):(bif a then b else false)= (a && b):=by cases a <;> simp
theorem vf(a b:Bool):(bif a then true else b)= (a || b):=by cases a <;> simp
theorem wr{v:Int}(h: -9223372036854775808<=v/\v < 9223372036854775808):i64.wrap v=v:=by simp [IntKind.wrap,IntKind.signed,IntKind.bits];omega
theorem an:(type_of% @aI)/\(type_of% @aL)/\(type_of% @aV)/\(type_of% @fA)/\(type_of% @eP)/\(type_of% @fB)/\(type_of% @gA)/\(type_of% @tn)/\(type_of% @E7)/\(type_of% @E8)/\(type_of% @bK)/\(type_of% @aO)/\(type_of% @iO)/\(type_of% @cu)/\(type_of% @cz)/\(type_of% @Ja)/\(type_of% @GJ)/\(type_of% @GI)/\(type_of% @G5)/\(type_of% @aR)/\(type_of% @aX)/\(type_of% @iX)/\(type_of% @iW)/\(type_of% @iR)/\(type_of% @fx)/\(type_of% @fO)/\(type_of% @im)/\(type_of% @EL)/\(type_of% @AE)/\(type_of% @EK)/\(type_of% @beq_self_eq_true.{0})/\(type_of% @XF)/\(type_of% @Xe)/\(type_of% @Xm)/\(type_of% @Xn):=⟨@aI,@aL,@aV,@fA,@eP,@fB,@gA,@tn,@E7,@E8,@bK,@aO,@iO,@cu,@cz,@Ja,@GJ,@GI,@G5,@aR,@aX,@iX,@iW,@iR,@fx,@fO,@im,@EL,@AE,@EK,@beq_self_eq_true.{0},@XF,@Xe,@Xm,@Xn⟩
open Go Go.ChangeShapes Go.WideShapes Go.ChangeAt Go.RowKit Go.IntKind
def wZ(P:Program)(go:TypeId->Bool):List Field->Nat->Option Nat
 | [],off=>some off
 | f::r,off=>if f.offset=off/\go f.type=true then wZ P go r (off+P.cellsOf f.type) else none
def kK(P:Program):Nat->TypeId->Bool
 | 0,_=>false
 | n+1,t=>match P.underlying t with
  | some .bool=>true
  | some (.int _)=>true
  | some .string=>true
  | some (.slice e)=>kK P n e && decide (0 < P.cellsOf e)
  | some (.struct a)=>decide (wZ P (kK P n) a.toList 0=some (P.cellsOf t))
  | some (.array m e)=>kK P n e && decide (P.cellsOf t=m * P.cellsOf e)
  | _=>false
def xE(W:TypeId->List T->Prop):List Field->List T->Prop
 | [],ts=>ts= []
 | f::r,ts=>∃a b,ts=a++b/\W f.type a/\xE W r b
def Ah(W:List T->Prop):Nat->List T->Prop
 | 0,ts=>ts= []
 | m+1,ts=>∃a b,ts=a++b/\W a/\Ah W m b
def Wt(P:Program):Nat->TypeId->List T->Prop
 | 0,_,_=>False
 | n+1,t,ts=>match P.underlying t with
  | some .bool=>∃b,ts= [.bool b]
  | some (.int k)=>∃m,ts= [.int k m]/\(Lit.int k m).wf=true
  | some .string=>∃s,ts= [.str s]/\s.size<=maxLen
  | some (.slice e)=>∃b xs,ts= [.ad (P.cellsOf e) b xs]/\(b=true->xs= [])/\xs.length<=maxLen/\(∀cs∈xs,Wt P n e cs)/\xs.length * P.bytesOf e<=reachBytes
  | some (.struct a)=>xE (Wt P n) a.toList ts
  | some (.array m e)=>Ah (Wt P n e) m ts
  | _=>False
section
variable {H:Type} {enc:TypeId×Value->H} {P:Program} {w:World} {base:Nat} {sp:Nat->Bool} {held:Bool}
def qJ{H:Type}(P:Program)(t:TypeId)(d:DataW H):Prop:= ∀k∈DataW.weights P t d,k<=reachBytes
theorem DH{H:Type}{P:Program}{e:TypeId}:∀{l:List (DataW H)} {d:DataW H},d∈l->∀k∈DataW.weights P e d,k∈DataW.weightsAll P e l
 | [],d,h,k,_=>by cases h
 | c::l,d,h,k,a=>by
  simp only [DataW.weightsAll,WK];rcases WC.1 h with rfl | h
  .exact .inl a
  .exact .inr (DH h k a)
theorem K8{H:Type}{P:Program}{us:List TypeId}{a:List (DataW H)}{k:Nat}:∀{ts:List TypeId} {ds:List (DataW H)},k∈DataW.weightsEach P ts ds->k∈DataW.weightsEach P (ts++us) (ds++a)
 | [],ds,h=>by simp [DataW.weightsEach] at h
 | t::ts,[],h=>by simp [DataW.weightsEach] at h
 | t::ts,d::ds,h=>by simp only [DataW.weightsEach,Xp,WK] at h⊢;exact h.imp id K8
theorem aY.Ao{A:Nat->Prop}:∀{a b:List T} {vs us:List Value},aY w A a vs->aY w A b us->aY w A (a++b) (vs++us)
 | [],b,vs,us,h,h'=>by simp only [aY] at h;subst h;simpa using h'
 | c::a,b,vs,us,⟨v,r,e,d,f⟩,h'=>by subst e;exact⟨v,r++us,rfl,d,aY.Ao f h'⟩
theorem KL{n m:Nat}(o:∀(t:TypeId) (cs:List Value) (x:DataW H×List MemPlace),kK P n t=true->DataW.trod enc P w base sp held m t cs=some x->qJ P t x.1->
   ∃ts,aY w (λb=>b < w.heap.size) ts cs/\Wt P n t ts) (cs:List Value):∀(i:List Field) (off E:Nat),wZ P (kK P n) i off=some E->E<=cs.length->
   (∀f∈i,∃x,DataW.trod enc P w base sp held m f.type ((cs.drop f.offset).take (P.cellsOf f.type))=some x/\qJ P f.type x.1)->
   off<=E/\∃ts,aY w (λb=>b < w.heap.size) ts ((cs.drop off).take (E - off))/\xE (Wt P n) i ts
 | [],off,E,d,k,_=>by simp only [wZ,Wj] at d;subst d;exact⟨WH _,[],by simp [aY],rfl⟩
 | f::i,off,E,d,k,l=>by
  simp only [wZ] at d;split at d
  .rename_i r;obtain⟨p,q⟩:=r;obtain⟨x,v,j⟩:=l f Wl;obtain⟨a,y,B⟩:=o _ _ _ q v j;obtain⟨D,b,z,C⟩:=KL o cs i _ E d k λg u=>l g (Wn _ u);refine⟨by omega,a++b, ?_,⟨a,b,rfl,B,C⟩⟩;have e:(cs.drop off).take (E - off)= (cs.drop f.offset).take (P.cellsOf f.type)++ (cs.drop (off+P.cellsOf f.type)).take (E - (off+P.cellsOf f.type)):=by
    rw [p,<-Zi];have:E - off=P.cellsOf f.type+ (E - (off+P.cellsOf f.type)):=by omega
    rw [this,List.take_add]
   rw [e];exact aY.Ao y z
  .cases d
theorem KM{n m e:Nat}(l:∀(t:TypeId) (cs:List Value) (x:DataW H×List MemPlace),kK P n t=true->DataW.trod enc P w base sp held m t cs=some x->qJ P t x.1->
   ∃ts,aY w (λb=>b < w.heap.size) ts cs/\Wt P n t ts) (f:kK P n e=true):∀(k:Nat) (cs:List Value),cs.length=k * P.cellsOf e->
   (∀i,i < k->∃x,DataW.trod enc P w base sp held m e ((cs.drop (i * P.cellsOf e)).take (P.cellsOf e))=some x/\qJ P e x.1)->∃ts,aY w (λb=>b < w.heap.size) ts cs/\Ah (Wt P n e) k ts
 | 0,cs,hl,_=>by have:cs= []:=WT.1 (by simpa using hl);subst this;exact⟨[],rfl,rfl⟩
 | k+1,cs,hl,g=>by
  obtain⟨x,j,d⟩:=g 0 (Nat.zero_lt_succ _);simp only [Nat.zero_mul,List.drop_zero] at j;obtain⟨a,p,r⟩:=l _ _ _ f j d;obtain⟨b,q,u⟩:=KM l f k (cs.drop (P.cellsOf e)) (by rw [XK,hl,Xw];omega) λi v=>by
   obtain⟨y,o,d⟩:=g (i+1) (by omega);refine⟨y, ?_,d⟩;rw [Zi];have:P.cellsOf e+i * P.cellsOf e= (i+1) * P.cellsOf e:=by rw [Xw];omega
   rw [this];exact o
  refine⟨a++b, ?_,⟨a,b,rfl,r,u⟩⟩;have:=aY.Ao p q;rwa [Zb] at this
theorem Ik{A:Nat->Prop}{ah sz:Nat}{n e:Nat}:∀(len off:Nat),(∀i,i < len->∃ts a,ts.length=sz/\aY w A ts a/\Wt P n e ts/\∀j v,a[j]? =some v->w.cell? ⟨ah,off+i * sz+j,none⟩=some v)->
  ∃xs:List (List T),xs.length=len/\bq w A ah sz off xs/\∀cs∈xs,Wt P n e cs
 | 0,off,_=>⟨[],rfl,trivial,(by intro c b;cases b)⟩
 | len+1,off,h=>by
  obtain⟨ts,a,d,f,g,k⟩:=h 0 (Nat.zero_lt_succ _);obtain⟨xs,k1,k2,k3⟩:=Ik (A:=A) (ah:=ah) (sz:=sz) (n:=n) (e:=e) len (off+sz) λi m=>by
   obtain⟨ts,a,d,f,g,k⟩:=h (i+1) (by omega);refine⟨ts,a,d,f,g,λj v l=> ?_⟩;have:=k j v l;have e:off+ (i+1) * sz+j=off+sz+i * sz+j:=by rw [Xw];omega
   rwa [e] at this
  refine⟨ts::xs,by simp [k1],⟨d,bh.mi f λj v l=> ?_,k2⟩,λc b=> ?_⟩
  .have:=k j v l;simpa using this
  .rcases WC.1 b with rfl | b
   .exact g
   .exact k3 c b
theorem zR:∀(n:Nat) (m:Nat) (t:TypeId) (cs:List Value) (x:DataW H×List MemPlace),kK P n t=true->DataW.trod enc P w base sp held m t cs=some x->qJ P t x.1->
  ∃ts,aY w (λb=>b < w.heap.size) ts cs/\Wt P n t ts
 | 0,m,t,cs,x,g,_,_=>by simp [kK] at g
 | n+1,m,t,cs,x,g,h,l=>by
  simp only [kK] at g;split at g
  .rename_i d;obtain⟨b,rfl,_⟩:=DataW.trod_bool d h;exact⟨[.bool b],⟨_,[],rfl,rfl,rfl⟩,by simp only [Wt,d];exact⟨b,rfl⟩⟩
  .rename_i k d;obtain⟨z,rfl,_,V⟩:=DataW.trod_int d h;exact⟨[.int k z],⟨_,[],rfl,rfl,rfl⟩,by simp only [Wt,d];exact⟨z,rfl,V⟩⟩
  .rename_i d;obtain⟨s,rfl,_,V⟩:=DataW.trod_string d h;exact⟨[.str s],⟨_,[],rfl,rfl,rfl⟩,by simp only [Wt,d];exact⟨s,rfl,V⟩⟩
  .rename_i e d;simp only [Ww,decide_eq_true_eq] at g;obtain⟨U,C⟩:=g;rcases Go.Deep.open_slice d h with⟨rfl,_⟩ | ⟨a,len,cap,k,F,D,Pl,rfl,hb,hl,hm,hk,rfl,L⟩
   .exact⟨[.ad (P.cellsOf e) true []],⟨_,[],rfl, .inl ⟨rfl,rfl,rfl⟩,rfl⟩,by simp only [Wt,d];exact⟨true,[],rfl,λ_=>rfl,by simp,(by intro c B;cases B),by simp⟩⟩
   .obtain⟨ah,off,s⟩:=a;have hlk:len<=k:=by rw [hk];split <;> omega
    dsimp only at l;have N:len * P.bytesOf e<=reachBytes:=by have:=l ((len+ (k - len)) * P.bytesOf e) (by simp [DataW.weights,d]);exact Xl (Xu _ (YR _ _)) this
    have J:∀i,i < len->qJ P e (D i):=λi p q E=>l q (by
     simp only [DataW.weights,d,WC,WK];exact .inr (.inl (DH (WU.2 ⟨i,Zj.2 p,rfl⟩) q E)))
    have G: 0 < len->s=none/\ah < w.heap.size:=by
     intro h0;obtain⟨y,B,_⟩:=L 0 (by omega);obtain⟨I,u,r⟩:=World.cells?_some B;have K:=World.cells?_block B C;have o:=r 0 C;have M:((⟨ah,off,s⟩:Addr).add (0 * P.cellsOf e)).add 0= ⟨ah,off,s⟩:=by simp [Addr.add]
     rw [M] at o;have Y:∃v,y[0]? =some v:=⟨_,Wv (by omega)⟩;obtain⟨v,hv⟩:=Y;rw [hv] at o;refine⟨?_, ?_⟩
     .cases s with
      | none=>rfl
      | some z=>simp only [World.cell?] at o;split at o <;> simp at o
     .have e:((⟨ah,off,s⟩:Addr).add (0 * P.cellsOf e))= ⟨ah,off,s⟩:=by simp [Addr.add]
      rw [e] at K;exact K
    obtain⟨xs,k1,k2,k3⟩:=Ik (P:=P) (w:=w) (A:=λb=>b < w.heap.size) (ah:=ah) (sz:=P.cellsOf e) (n:=n) (e:=e) len off λi p=>by
     obtain⟨y,B,hd⟩:=L i (by omega);obtain⟨hs,_⟩:=G (by omega);subst hs;obtain⟨ts,r1,r2⟩:=zR n F e y _ U hd (J i (by omega));obtain⟨I,u,r⟩:=World.cells?_some B;refine⟨ts,y,by rw [<-r1.length,u],r1,r2,λj v hj=> ?_⟩;have hj':j < P.cellsOf e:=by rw [<-u];exact(Wm.1 hj).1
     have:=r j hj';rw [hj,iD,iD] at this;exact this
    refine⟨[.ad (P.cellsOf e) false xs],⟨_,[],rfl, .inr ⟨rfl,ah,off,s,cap,by rw [k1],by omega, ?_,k2⟩,rfl⟩,by simp only [Wt,d];exact⟨false,xs,rfl,λh=>(by cases h),by omega,k3,by rw [k1];exact N⟩⟩;by_cases h0:len=0
    .left;exact WT.1 (by omega)
    .right;exact G (by omega)
  .rename_i X d;simp only [decide_eq_true_eq] at g;obtain⟨xs,F,rfl,rfl,hl,hsz,Q⟩:=DataW.trod_struct d h;dsimp only at l;obtain⟨_,ts,r1,r2⟩:=KL (λt cs x=>zR n F t cs x) cs X.toList 0 _ g (by omega) λf Z=>by
    obtain⟨i,p,e⟩:=List.getElem_of_mem Z;have e':X.toList[i]? =some f:=by rw [Wv p,e]
    have:=Q i f (by rw [<-Xs];exact e');rw [this];have hx:xs[i]? =some (xs[i]'(by simp at p;omega)):=Wv (by simp at p;omega);refine⟨_,hx,λq E=>l q ?_⟩;simp only [DataW.weights,d];exact DataW.weights_mem_each (j:=i) (by rw [Xh,e'];rfl) (by rw [Xh,hx];rfl) q E
   refine⟨ts, ?_,by simp only [Wt,d];exact r2⟩;simp only [List.drop_zero,Nat.sub_zero] at r1;rwa [<-hl,YC] at r1
  .rename_i m' e d;simp only [Ww,decide_eq_true_eq] at g;obtain⟨xs,F,rfl,rfl,hl,hsz,Q⟩:=DataW.trod_array d h;dsimp only at l;obtain⟨ts,r1,r2⟩:=KM (λt cs x=>zR n F t cs x) g.1 m' cs (by omega) λi p=>by
    rw [Q i p];refine⟨_,Wv (by omega),λq E=>l q ?_⟩;simp only [DataW.weights,d];exact DH (WU.2 ⟨_,YD _,rfl⟩) q E
   exact⟨ts,r1,by simp only [Wt,d];exact r2⟩
  .cases g
end
def xf(P:Program)(n:Nat):List TypeId->List AV->Prop
 | [],b=>b= []
 | t::ts,b=>∃a r,b=a::r/\((bW P t=true/\∃l,Wt P n t l/\a= .agg (l.map .t))\/(bW P t=false/\∃x,Wt P n t [x]/\a= .t x))/\xf P n ts r
section
variable {H:Type} {enc:TypeId×Value->H} {P:Program} {W W':World} {sp:Nat->Bool} {held:Bool}
theorem R8{n:Nat}{t:TypeId}{v:Value}{d:DataW H}{E:List MemPlace}{r:Reach}{C base:Nat}(o:kK P (n+1) t=true)(f:Value.okWide P W r C t v)(h:DataW.Trod enc P W base sp held t v d E)(B:qJ P t d):
  ∃a,((bW P t=true/\∃l,Wt P (n+1) t l/\a= .agg (l.map .t))\/(bW P t=false/\∃x,Wt P (n+1) t [x]/\a= .t x))/\ao W (λb=>b < W.heap.size) (λ_=>none) a v:=by
 obtain⟨m,hm⟩:=h;obtain⟨ts,r1,r2⟩:=zR (n+1) m t _ _ o hm B;have j:bW P t=false->v.cells= #[v]->∃a,((bW P t=true/\∃l,Wt P (n+1) t l/\a= .agg (l.map .t))\/(bW P t=false/\∃x,Wt P (n+1) t [x]/\a= .t x))/\ao W (λb=>b < W.heap.size) (λ_=>none) a v:=by
  intro p D;rw [D] at r1
  match ts,r1 with
  | [],r1=>simp [aY] at r1
  | [x],⟨u,q,e,g,_⟩=>simp only [XD] at e;obtain⟨rfl,_⟩:=e;exact⟨.t x, .inr ⟨p,x,r2,rfl⟩,by simpa [ao] using g⟩
  | x::y::z,⟨u,q,e,_,⟨J,I,e',_⟩⟩=>subst e';simp at e
 have agg:bW P t=true->(∃cs,v= .agg cs)->∃a,((bW P t=true/\∃l,Wt P (n+1) t l/\a= .agg (l.map .t))\/(bW P t=false/\∃x,Wt P (n+1) t [x]/\a= .t x))/\ao W (λb=>b < W.heap.size) (λ_=>none) a v:=by rintro p ⟨cs,rfl⟩;refine⟨.agg (ts.map .t), .inl ⟨p,ts,r2,rfl⟩, ?_⟩;simp only [ao];exact⟨cs.toList,by simp,aC.mR r1,r1.one⟩
 simp only [kK] at o;split at o
 .rename_i i;simp only [Value.okWide,i,Cell.okWide] at f;refine j (by simp [bW,i]) ?_;cases v <;> first | rfl | (simp [Cell.ok,i] at f)
 .rename_i k i;simp only [Value.okWide,i,Cell.okWide] at f;refine j (by simp [bW,i]) ?_;cases v <;> first | rfl | (simp [Cell.ok,i] at f)
 .rename_i i;simp only [Value.okWide,i,Cell.okWide] at f;refine j (by simp [bW,i]) ?_;cases v <;> first | rfl | (simp [Cell.ok,i] at f)
 .rename_i e i;simp only [Value.okWide,i,Cell.okWide] at f;refine j (by simp [bW,i]) ?_;cases v <;> first | rfl | (simp [Cell.ok,i] at f)
 .rename_i F i;simp only [Value.okWide,i] at f;obtain⟨cs,e,_⟩:=f;exact agg (by simp [bW,i]) ⟨cs,e⟩
 .rename_i G e i;simp only [Value.okWide,i] at f;obtain⟨cs,e,_⟩:=f;exact agg (by simp [bW,i]) ⟨cs,e⟩
 .cases o
theorem IU{n:Nat}{r:Reach}{y base:Nat}:∀{ts:List TypeId} {vs:List Value} {ds:List (DataW H)} {m:List MemPlace},ts.all (kK P (n+1))=true->(∀(j:Nat) (t:TypeId) (v:Value),ts[j]? =some t->vs[j]? =some v->Value.okWide P W r y t v)->
  DataW.TrodAll enc P W base sp held ts vs ds m->(∀k∈DataW.weightsEach P ts ds,k<=reachBytes)->∃e,xf P (n+1) ts e/\aC W (λb=>b < W.heap.size) (λ_=>none) e vs
 | [],vs,ds,m,_,_,h,_=>by obtain⟨rfl,_,_⟩:=trodAll_nil h;exact⟨[],rfl,by simp [aC]⟩
 | t::ts,vs,ds,m,g,i,h,f=>by simp only [XI,Ww] at g;obtain⟨v,x,d,J,p,q,rfl,rfl,rfl,z,B⟩:=trodAll_cons h;obtain⟨a,C,D⟩:=R8 g.1 (i 0 t v rfl rfl) z (λk l=>f k (by simp only [DataW.weightsEach,WK];exact .inl l));obtain⟨e,o,u⟩:=IU g.2 (λj G I E F=>i (j+1) G I (by simpa using E) (by simpa using F)) B (λk l=>f k (by simp only [DataW.weightsEach,WK];exact .inr l));exact⟨a::e,⟨a,e,rfl,C,o⟩,by simp only [aC];exact⟨v,x,rfl,D,u⟩⟩
theorem J9(hl:laidOutB P=true)(i:Below W.heap.size W W'):∀{ts:List TypeId} {vs:List Value} {ds:List (DataW H)} {a:List MemPlace},(ts.all λt=>P.readableRec t && decide (t < P.types.size))=true->
  DataW.TrodAll enc P W 0 (λ_=>true) true ts vs ds a->(∀x∈a,x.block < W.heap.size)->DataW.TrodAll enc P W' 0 (λb=>decide (b < W.heap.size)) true ts vs ds a
 | [],vs,ds,a,_,h,_=>by obtain⟨rfl,rfl,rfl⟩:=trodAll_nil h;exact trodAll_mk0
 | t::ts,vs,ds,a,e,h,f=>by simp only [XI,Ww,decide_eq_true_eq] at e;obtain⟨v,m,d,l,p,q,rfl,rfl,rfl,j,k⟩:=trodAll_cons h;exact trodAll_cons_mk (Below.trod hl e.1.1 e.1.2 j i λx g=>f x (WI _ g)) (J9 hl i (by simpa using e.2) k λx g=>f x (WE _ g))
theorem LR(a:Below W.heap.size W W')(b:MemPlace->Prop):W.keptBut W' b:=by
 refine⟨a.os,a.output,λi d=> ?_⟩;rw [a.block i d];cases W.heap[i]? with
 | none=>rfl
 | some o=>cases o <;> first | exact⟨rfl,rfl,rfl,λ_ _=>rfl⟩ | exact .inr ⟨rfl,rfl⟩ | rfl
theorem law_contract{n:Nat}{fn:Func}{s:ChangeSpec}{An:cR}{f:FuncId}{tb:TypeId}(hm:P.follows .mixedOrders=true)(hn:(P.funcs.toList.all λfn=>fn.name != "runtime.NumGoroutine")=true)(hl:laidOutB P=true)
  (N:P.funcs[f]? =some fn) (G:An.ji f=none) (I:dN P An f 0 fn= [.f .b]) (Y:P.underlying tb=some .bool) (X:fn.resultTypes= #[tb])
  (C:fn.params.toList.all (kK P (n+1))=true) (l:(fn.params.toList.all λt=>P.readableRec t && decide (t < P.types.size))=true)
  (m:s.vars= []) (B:∀(ds:List (DataW H)),ds.length=fn.params.toList.length->s.fn H ds= {results:= [.lit (.bool true)],args:=ds})
  (g:∀a,xf P (n+1) fn.params.toList a->mU P An (.call f) a []=some [.bool true])
  (W:World) (base:Nat) (args:Array Value) (ds J:List (DataW H)) (r:List MemPlace) (z:∀(j:Nat) t v,fn.params[j]? =some t->args[j]? =some v->Value.okWide P W .any base t v)
  (K:DataW.Whole enc P fn.params.toList s.vars false W args.toList ds J r)
  (D:(DataW.weightsEach P (fn.params.toList++s.plain.varTypes P) (ds++J)).all (· <=reachBytes)=true)
  (hX:oa P An:=by exact Go.Aev.oa.no λ_ _ _=>rfl) (hG:GlobOk W:=by exact Go.Aev.globOk _):
  Calls P f args W λe W'=>∃v,e= .returned v/\s.post enc P fn false true false false W args v W':=by
 have u:=K;obtain⟨p,q,o,E,rfl,hz,Q⟩:=K;rw [m] at E;obtain⟨rfl,rfl⟩:=trodVars_none E;obtain⟨a,L,V⟩:=IU C (λj t v ht hv=>z j t v (by rw [<-Xs];exact ht) (by rw [<-Xs];exact hv)) o (λk hk=>by simpa using WO.1 D k (K8 hk));have F:ds.length=fn.params.toList.length:=by
  clear u V L z hz Q E l C g D;generalize fn.params.toList=ts at o;generalize args.toList=vs at o;induction ts generalizing vs ds p with
  | nil=>obtain⟨_,rfl,_⟩:=trodAll_nil o;rfl
  | cons t ts ih=>obtain⟨v,vs',d,ds',p',q',_,rfl,_,_,Z⟩:=trodAll_cons o;simp [ih _ _ _ Z]
 have U:∀(f:FuncId) (fn:Func),P.funcs[f]? =some fn->fn.name≠ "runtime.NumGoroutine" :=by intro f fn h;have:=WO.1 hn fn (Wx (i:=f) (by rw [Xs];exact h));simpa using this
 have:=Mr (w:=W) (A0:=λb=>b < W.heap.size) hX hm U N G I (λ_ h=>h) V (g a L) hG;rw [show args.toList.toArray=args from by simp] at this;refine this.mono λe W' ⟨he,M⟩=>⟨.bool true,he, ?_⟩;have y:=B ds F;refine⟨ds,[],p++ [],[],p,[],u, ?_, ?_, ?_,LR M _,λh=>by cases h⟩
 .rw [WQ,y,X];exact trodAll_cons_mk (shut_bool Y true) trodAll_mk0
 .rw [WQ,y];exact J9 hl M l o (λx hx=>u.lt x (by simpa using hx))
 .rw [WQ,y,m];rfl
end
section
variable {P:Program} {n:Nat} {t:TypeId} {ts:List T}
theorem V6{k:IntKind}(a:P.underlying t=some (.int k))(h:Wt P (n+1) t ts):∃m,ts= [.int k m]/\(Lit.int k m).wf=true:=by simpa only [Wt,a] using h
theorem La(a:P.underlying t=some .string)(h:Wt P (n+1) t ts):∃s,ts= [.str s]/\s.size<=maxLen:=by simpa only [Wt,a] using h
theorem pg{a:Array Field}(b:P.underlying t=some (.struct a))(h:Wt P (n+1) t ts):xE (Wt P n) a.toList ts:=by simpa only [Wt,b] using h
theorem V7{e:TypeId}(a:P.underlying t=some (.slice e))(h:Wt P (n+1) t ts):∃b xs,ts= [.ad (P.cellsOf e) b xs]/\(b=true->xs= [])/\xs.length<=maxLen/\(∀cs∈xs,Wt P n e cs)/\xs.length * P.bytesOf e<=reachBytes:=by simpa only [Wt,a] using h
theorem uK{k:Type}(g:k->List T){e:TypeId}(r:P.underlying t=some (.slice e))(h:Wt P (n+1) t ts)(q:∀cs,Wt P n e cs->∃a,cs=g a):
  ∃b l,ts= [.ad (P.cellsOf e) b (l.map g)]/\(b=true->l= [])/\l.length<=maxLen/\l.length * P.bytesOf e<=reachBytes:=by
 obtain⟨b,xs,rfl,d,f,i,j⟩:=V7 r h;have:∃l:List k,xs=l.map g:=by
  clear d f h j;induction xs with
  | nil=>exact⟨[],rfl⟩
  | cons c xs u=>obtain⟨a,m⟩:=q c (i c Wl);obtain⟨l,hl⟩:=u λcs p=>i cs (Wn _ p);exact⟨a::l,by rw [m,hl];rfl⟩
 obtain⟨l,rfl⟩:=this;exact⟨b,l,rfl,λo=>by simpa using d o,by simpa using f,by simpa using j⟩
theorem Ej{a:AV}(h:(bW P t=true/\∃l,Wt P n t l/\a= .agg (l.map .t))\/(bW P t=false/\∃x,Wt P n t [x]/\a= .t x))(b:bW P t=true):∃l,Wt P n t l/\a= .agg (l.map .t):=by
 rcases h with h | h
 .exact h.2
 .rw [b] at h;cases h.1
end
end Go.Aev
