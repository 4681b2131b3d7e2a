import Derived.Test.YtcjplcpngagalaaGreatDoorBlastFormQ4
import Derived.Orders
import Derived.Still
import Derived.Below
import Derived.Deep.Slices
import Derived.Carry
import Derived.ProofKit
import Derived.OpenShut
import Derived.SizedLaws
set_option linter.all false
namespace Go.Aev
open Go Go.IntKind
section
variable {P:Program} {An:cx} {Or:ax} {w w':World} {A A':Nat->Prop} {c:Ctx} {ρ:Id->Option Value} {O:Id->Option Nat} {s s':St}
structure ei (c:Ctx) (nt:Nat) (w:World) (s:St) (ρ:Id->Option Value) (O:Id->Option Nat) (a:Act):Prop where
 hs:HS c w s.h ρ O
 ss:SS w (AA c w O) ρ s.t a.tmps
 nt:a.tmps.size=nt
 defers:a.defers= []
def lZ(ops:Array Oper)(s:St):Prop:= ∀k g v,s.t k= (some g,v)->dt ops (some g.d)=true
theorem lr{a:Act}{d k:Nat}{x:Value}(b:d < a.tmps.size):(a.put (some d) x).tmps.getD k undef=if k=d then x else a.tmps.getD k undef:=by
 simp only [Act.put];by_cases e:k=d
 .subst e;simp [b]
 .rw [if_neg e];simp [PN (PM e)]
theorem tY(a:Act)(d:Option Nat)(x:Value):(a.put d x).tmps.size=a.tmps.size:=by cases d <;> simp [Act.put]
theorem tX(a:Act)(d:Option Nat)(x:Value):(a.put d x).defers=a.defers:=by cases d <;> rfl
theorem Ia{ops:Array Oper}{o:Oper}{a:Act}{g:Option Gs}(L:SS w A ρ s.t a.tmps)(h:cW ops o s some=some g):
  (Region.wanted o (yielded ops a.tmps)=true->jc a.tmps g)/\
  (Region.wanted o (yielded ops a.tmps)=false->∃i,g=some i/\a.tmps.getD i.d undef≠ .bool i.want/\i.c=false)/\
  (∀i,g=some i->dt ops (some i.d)=true\/∀Q∈ops,Q≠o):=by
 unfold cW at h;cases q:o.guard with
 | none=>simp only [q,M1] at h;subst h;exact⟨λ_=>trivial,λh=>by simp [Region.wanted,q] at h,λi h=>by cases h⟩
 | some p=>
  obtain⟨j,want⟩:=p;simp only [q] at h;cases B:(ops[j]?).bind (·.dst) with
  | none=>simp [B] at h
  | some d=>
   simp only [B] at h;replace h:=M2.1 h;obtain⟨x,m,h⟩:=h;have M:Region.wanted o (yielded ops a.tmps)=true↔a.tmps.getD d undef= .bool want:=by
    simp only [Region.wanted,q,yielded,B,M6,beq_iff_eq];rw [Ox];cases a.tmps[d]? with
    | none=>simp [undef]
    | some u=>cases u <;> simp
   have J:∀i,g=some i->i.d=d/\i.want=want:=by intro i e;replace h:=nT h;obtain⟨b,h,_⟩:=h;simp only [M1] at h;rw [<-h] at e;simp only [M1] at e;subst e;exact⟨rfl,rfl⟩
   have C:∃i,g=some i:=by replace h:=nT h;obtain⟨b,h,_⟩:=h;simp only [M1] at h;exact⟨_,h.symm⟩
   obtain⟨i,rfl⟩:=C;obtain⟨F,G⟩:=J i rfl;refine⟨λN=> ?_,λE=>⟨i,rfl, ?_⟩,λY e=> ?_⟩
   .have D:=M.1 N;simp only [jc,F,G];refine⟨D, ?_⟩;have f:=L d;rw [D] at f;cases y:s.t d with
    | mk gd v=>
     rw [y] at f m h;dsimp only at m h f;rw [AV.jV m] at f;cases gd with
     | none=>simp only [ai] at f;simp only [PT] at h;replace h:=aM h (.inl rfl);obtain⟨b,l,h⟩:=h;simp only [M1] at h;have:=T.gL l;subst this;simp only [ay,Value.bool.injEq] at f;rw [<-h,<-f];cases want <;> rfl
     | some U=>
      simp only at f;rcases f with⟨_,k,z⟩ | ⟨_,_,X⟩
      .simp only [OI,k] at h;replace h:=aM h (.inr rfl);obtain⟨b,l,h⟩:=h;simp only [M1] at h;have:=T.gL l;subst this;simp only [ai,ay,Value.bool.injEq] at z;rw [<-h,<-z];simp only [gC,k];cases want <;> rfl
      .simp [undef] at X
   .have r:a.tmps.getD d undef≠ .bool want:=λV=>by
     have:=M.2 V;rw [this] at E;cases E
    refine⟨by rw [F,G];exact r, ?_⟩;have f:=L d;cases y:s.t d with
    | mk gd v=>
     rw [y] at f m h;dsimp only at m h f;rw [AV.jV m] at f;cases gd with
     | none=>simp only [ai] at f;simp only [PT] at h;replace h:=aM h (.inl rfl);obtain⟨b,l,h⟩:=h;simp only [M1] at h;have:=T.gL l;subst this;simp only [ay] at f;have I:b≠want:=λe=>r (by rw [f,e]);rw [<-h];simp only [gC];cases b <;> cases want <;> simp_all [sJ]
     | some U=>
      simp only at f;rcases f with⟨_,k,z⟩ | ⟨_,k,_⟩
      .simp only [OI,k] at h;replace h:=aM h (.inr rfl);obtain⟨b,l,h⟩:=h;simp only [M1] at h;have:=T.gL l;subst this;simp only [ai,ay] at z;have I:b≠want:=λe=>r (by rw [z,e]);rw [<-h];simp only [gC,k];cases b <;> cases want <;> simp_all [sJ]
      .replace h:=nT h;obtain⟨b,h,_⟩:=h;simp only [M1] at h;rw [<-h];simp [gC,k]
   .simp only [M1] at e;subst e;by_cases hm:o∈ops
    .left;unfold dt;rw [Pg];exact⟨o,hm,by simp [q,B,F]⟩
    .right;intro Q K e;exact hm (e▸K)
theorem xF{ops:Array Oper}{o:Oper}{g:Option Gs}{v:AV}{us:aE}(b:lZ ops s)(p:∀q,g=some q->dt ops (some q.d)=true):lZ ops (s.put (dt ops o.dst) o.dst g v us):=by
 intro k m u a;cases r:o.dst with
 | none=>simp only [St.put,r] at a;exact b k m u a
 | some d=>
  simp only [St.put,r] at a;by_cases e:k=d
  .simp only [if_pos e,NL] at a;exact p m a.1
  .simp only [if_neg e] at a;cases f:dt ops (some d) with
   | false=>rw [f,cond_false] at a;exact b k m u a
   | true=>
    rw [f,cond_true] at a;cases l:s.t k with
    | mk i vk=>
     rw [l] at a;cases i with
     | none=>simp [ko] at a
     | some i=>
      simp only [ko] at a;cases j:(i.d==d) with
      | true=>simp [j] at a
      | false=>simp only [j,cond_false,NL,M1] at a;rw [<-a.1];exact b k i vk l
theorem tZ{nt:Nat}{ops:Array Oper}{o:Oper}{a:Act}{g:Option Gs}{v:AV}{us:aE}(ss:SS w (AA c w O) ρ s.t a.tmps)(E:a.tmps.size=nt)(D:lZ ops s)
  (u:∀d,o.dst=some d->d < nt) (C:∀j d,g=some j->o.dst=some d->j.d≠d)
  (w':World) (ρ':Id->Option Value) (O':Id->Option Nat) (x:Value) (I:∀b,AA c w O b->AA c w' O' b/\w'.heap[b]? =w.heap[b]?) (G:∀i v,ρ i=some v->ρ' i=some v)
  (F:match g with
   | none=>ai w' (AA c w' O') ρ' v x
   | some j=>(a.tmps.getD j.d undef= .bool j.want/\j.c=true/\ai w' (AA c w' O') ρ' v x)\/(a.tmps.getD j.d undef≠ .bool j.want/\j.c=false/\x=undef)):
  SS w' (AA c w' O') ρ' (s.put (dt ops o.dst) o.dst g v us).t (a.put o.dst x).tmps:=by
 have r:=SS.mono I G ss;cases z:o.dst with
 | none=>simp only [St.put,Act.put];exact r
 | some d=>
  have f:d < a.tmps.size:=by rw [E];exact u d z
  intro k;simp only [St.put];by_cases e:k=d
  .subst e;simp only [if_true];cases g with
   | none=>simp only;rw [lr f,if_pos rfl];exact F
   | some j=>have p:j.d≠k:=C j k rfl z;simp only;rw [lr f,lr f,if_neg p,if_pos rfl];exact F
  .simp only [if_neg e];have l:=r k;cases y:dt ops (some d) with
   | false=>
    simp only [cond_false];cases q:s.t k with
    | mk m vk=>
     rw [q] at l;cases m with
     | none=>simp only at l⊢;rw [lr f,if_neg e];exact l
     | some m=>
      have p:m.d≠d:=by intro e';have:=D k m vk q;rw [e',y] at this;cases this
      simp only at l⊢;rw [lr f,lr f,if_neg e,if_neg p];exact l
   | true=>
    simp only [cond_true];cases q:s.t k with
    | mk m vk=>
     rw [q] at l;cases m with
     | none=>simp only [ko] at l⊢;rw [lr f,if_neg e];exact l
     | some m=>
      simp only [ko];cases B:(m.d==d) with
      | true=>simp [ai]
      | false=>
       have p:m.d≠d:=by simpa using B
       simp only [cond_false] at l⊢;rw [lr f,lr f,if_neg e,if_neg p];exact l
theorem SS.pG{tmps:Array Value}{e:Gs}(hs:SS w A ρ s.t tmps)(m:tmps.getD e.d undef= .bool e.want):SS w A ρ (s.pG e).t tmps:=by
 intro k;have b:=hs k;simp only [St.pG];cases f:s.t k with
 | mk i v=>
  rw [f] at b;cases i with
  | none=>simp only [jt,cond_true] at b⊢;exact b
  | some g=>
   by_cases a:jt (some g) (some e)=true
   .simp only [a,cond_true];simp only [jt,M7,beq_iff_eq] at a;simp only at b;rcases b with⟨_,_,l⟩ | ⟨j,_⟩
    .exact l
    .exfalso;apply j;rw [a.1,a.2];exact m
   .simp only [PI] at a;simp only [a,cond_false];exact b
theorem CW{m:Bool}{nt:Nat}{ops:Array Oper}{o:Oper}{a:Act}(hO:ic P An Or)(f:ei c nt w s ρ O a)(p:lZ ops s)(hmem:o∈ops)(h:eD P An Or m nt ops o s=some s'):
  lZ ops s'/\∀(K:Act->World->Prop) (Q:Exit->Act->World->Prop),(∀a' w' ρ' O',Le w ρ O w' ρ' O'->ei c nt w' s' ρ' O' a'->K a' w')->
   if Region.wanted o (yielded ops a.tmps) then o.wp P a w K Q\/(o.asks P a w/\LetsOut Q) else K (a.put o.dst undef) w:=by
 unfold eD mK at h;rw [tq] at h;replace h:=M2.1 h;obtain⟨g,hg,h⟩:=h;obtain⟨G,B,Z⟩:=Ia f.ss hg;have y:∀j,g=some j->dt ops (some j.d)=true:=λj e=>(Z j e).resolve_right λhn=>hn o hmem rfl;cases l:oq An m o g with
 | none=>
  rw [l] at h;dsimp only at h;rw [oH] at h;replace h:=M2.1 h;obtain⟨⟨v,us⟩,M,h⟩:=h;dsimp only at h;rw [qP] at h;replace h:(if lI P An m nt ops o g s v us then some (s.put (dt ops o.dst) o.dst g v us) else none)=some s':=by
   cases hk:ix An m o s.h us with
   | false=>rw [hk] at h;cases h
   | true=>rw [hk] at h;exact h
  split at h
  .rename_i F;simp only [M1] at h;subst h;simp only [lI,M7] at F;obtain⟨⟨⟨hdst,I⟩,z⟩,_⟩:=F;have k:∀d,o.dst=some d->d < nt:=λd e=>by simpa [e] using hdst
   have E:∀j d,g=some j->o.dst=some d->j.d≠d:=λj d X Y=>by subst X;simp only [Y,M7,N4,beq_eq_false_iff_ne,ne_eq,M1] at I;exact λe=>I.2 e.symm
   refine⟨xF p y,λK Q L=> ?_⟩;split
   .rename_i q;left;have i:=G q;refine gF.wp (yJ hO f.hs f.ss i M z) λx w' ⟨ρ',O',le,N,V⟩=> ?_;refine L _ w' ρ' O' le ⟨N, ?_,by rw [tY];exact f.nt,by rw [tX];exact f.defers⟩;refine tZ f.ss f.nt p k E w' ρ' O' x (λb r=>le.A b r) le.dU ?_;cases g with
    | none=>exact V
    | some j=>exact .inl ⟨i.1,i.2,V⟩
   .rename_i q;obtain⟨j,rfl,J,u⟩:=B (by simpa using q);have hus:us= []:=by
     simp only [M7,ON] at I;exact I.1
    subst hus;refine L _ w ρ O Le.refl ⟨f.hs, ?_,by rw [tY];exact f.nt,by rw [tX];exact f.defers⟩;exact tZ f.ss f.nt p k E w ρ O undef (λb r=>⟨r,rfl⟩) (λ_ _ h=>h) (.inr ⟨J,u,rfl⟩)
  .simp at h
 | some j=>
  rw [l] at h;dsimp only at h;have hg':g=some j:=by
   cases g with
   | none=>simp [oq] at l
   | some g0=>
    simp only [oq] at l;cases r:(!m && dT An o) with
    | false=>rw [r] at l;cases l
    | true=>rw [r] at l;simpa using l
  subst hg';cases D:sP nt o j with
  | false=>rw [D] at h;cases h
  | true=>
   rw [D,cond_true] at h;simp only [sP,M7] at D;have k:∀d,o.dst=some d->d < nt:=λd e=>by simpa [e] using D.1
   have E:∀C d,some j=some C->o.dst=some d->C.d≠d:=λC d X Y=>by cases X;have:=D.2;simp only [Y,N4,beq_eq_false_iff_ne,ne_eq,M1] at this;exact λe=>this e.symm
   cases U:j.c with
   | false=>
    rw [U,cond_false] at h;simp only [M1] at h;subst h;refine⟨xF p y,λK Q L=> ?_⟩;split
    .rename_i q;have:=(G q).2;rw [U] at this;cases this
    .rename_i q;obtain⟨C,e,J,u⟩:=B (by simpa using q);cases e;refine L _ w ρ O Le.refl ⟨f.hs, ?_,by rw [tY];exact f.nt,by rw [tX];exact f.defers⟩;exact tZ f.ss f.nt p k E w ρ O undef (λb r=>⟨r,rfl⟩) (λ_ _ h=>h) (.inr ⟨J,u,rfl⟩)
   | true=>
    rw [U,cond_true,oH] at h;replace h:=M2.1 h;obtain⟨⟨v,us⟩,M,h⟩:=h;dsimp only at h;split at h
    .rename_i F;simp only [M1] at h;subst h;simp only [lI,M7] at F;obtain⟨⟨⟨_,_⟩,z⟩,_⟩:=F;refine⟨xF p y,λK Q L=> ?_⟩;split
     .rename_i q;left;have i:=G q;refine gF.wp (yJ (s:=s.pG j) (g:=none) hO f.hs (f.ss.pG i.1) trivial M z) λx w' ⟨ρ',O',le,N,V⟩=> ?_;refine L _ w' ρ' O' le ⟨N, ?_,by rw [tY];exact f.nt,by rw [tX];exact f.defers⟩;exact tZ f.ss f.nt p k E w' ρ' O' x (λb r=>le.A b r) le.dU (.inl ⟨i.1,i.2,V⟩)
     .rename_i q;obtain⟨C,e,J,u⟩:=B (by simpa using q);cases e;rw [U] at u;cases u
    .simp at h
theorem ei.clear{nt:Nat}{a:Act}(b:ei c nt w s ρ O a):ei c nt w s.clear ρ O a:=by
 refine⟨b.hs,λk=> ?_,b.nt,b.defers⟩;have:=b.ss k;simp only [St.clear];cases d:s.t k with
 | mk e vk=>
  rw [d] at this;cases e with
  | none=>exact this
  | some g=>simp [ai]
def lY(s:St):Prop:= ∀k g v,s.t k≠(some g,v)
theorem FI(s:St):lY s.clear:=by intro k g v h;simp only [St.clear] at h;split at h <;> simp at h
theorem lY.BG(h:lY s)(ops:Array Oper):lZ ops s:=λk g v e=>(h k g v e).elim
theorem Du{g:Bool}{nt:Nat}{ops:Array Oper}(v:ic P An Or){Q:Exit->Act->World->Prop}:∀{l:List Oper} {k:Nat} {w:World} {s:St} {ρ:Id->Option Value} {O:Id->Option Nat} {a:Act},
  (∀j,l[j]? =ops[k+j]?)->ei c nt w s ρ O a->lZ ops s->gV P An Or g nt ops l s=some s'->
  (∀f w' ρ' O',Le w ρ O w' ρ' O'->ei c nt w' s' ρ' O' f->Q .normal f w')->wpOps P ops Q (List.range' k l.length) a w
 | [],k,w,s,ρ,O,a,hl,b,e,h,i=>by simp only [gV,M1] at h;subst h;exact i a w ρ O Le.refl b
 | o::l,k,w,s,ρ,O,a,hl,b,e,h,i=>by
  simp only [gV] at h;obtain⟨s1,z,h⟩:=M2.1 h;have h0:ops[k]? =some o:=by simpa using (hl 0).symm
  obtain⟨m,step⟩:=CW v b e (NC h0) z;rw [Nf,Pp];simp only [wpOps,h0];refine step _ Q λf w' ρ' O' le p=> ?_;exact Du v (λj=>by have:=hl (j+1);simpa [O7,Nat.add_comm 1 j] using this) p m h
   (λu y q r x d=>i u y q r (le.trans x) d)
theorem Ko{nt id:Nat}{ops:Array Oper}{a:Act}(f:ic P An Or){Q:Exit->Act->World->Prop}(e:ei c nt w s ρ O a)(i:lY s)(h:gV P An Or false nt ops ops.toList s=some s')
  (g:∀b w' ρ' O',Le w ρ O w' ρ' O'->ei c nt w' s'.clear ρ' O' b->Q .normal b w'):(Code.region id ops false).wp P Q a w:=by
 refine wp_region ?_;rw [PO,<-NB];exact Du f (by intro j;simp) e (i.BG ops) h λb w' ρ' O' le d=>g b w' ρ' O' le d.clear
end
open Go Go.IntKind
section
variable {P:Program} {A:cx} {O:ax} {R:Type} {h h':Id->Option ab} {s s':St}
theorem iM{v:AV}{vs:List AV}{i:Id}:i∈bX (v::vs)↔i∈v.ids\/i∈bX vs:=by simp [bX]
theorem pV{v:AV}(a:∀i∈v.ids,h' i=h i):dm h' v=dm h v:=by
 cases v <;> simp only [dm]
 all_goals rw [a _ (by simp [AV.ids])]
theorem tf{v:AV}(a:∀i∈v.ids,h' i=h i):fN h' v=fN h v:=by
 cases v <;> simp only [fN]
 all_goals rw [a _ (by simp [AV.ids])]
theorem D5:∀{vs:List AV},(∀i∈bX vs,h' i=h i)->jv h' vs=jv h vs
 | [],_=>rfl
 | v::vs,b=>by simp only [jv];rw [pV λi a=>b i (iM.2 (.inl a)),D5 λi a=>b i (iM.2 (.inr a))]
theorem Bq:∀{vs:List AV},(∀i∈bX vs,h' i=h i)->kv h' vs=kv h vs
 | [],_=>rfl
 | v::vs,b=>by simp only [kv];rw [tf λi a=>b i (iM.2 (.inl a)),Bq λi a=>b i (iM.2 (.inr a))]
theorem D8{v:AV}(a:∀i∈v.ids,h' i=h i):ju h' v=ju h v:=by
 cases v
 case agg vs=>simp only [ju];exact D5 (by simpa [AV.ids] using a)
 all_goals (simp only [ju];rw [pV a])
theorem Bt{v:AV}(a:∀i∈v.ids,h' i=h i):fH h' v=fH h v:=by
 cases v
 case agg vs=>simp only [fH];exact Bq (by simpa [AV.ids] using a)
 all_goals (simp only [fH];rw [tf a])
theorem yM{b:Bool}{v:AV}(a:∀i∈v.ids,h' i=h i):iG b false h' v=iG b false h v:=by
 cases v
 case ref i off=>simp only [iG,cond_false];rw [a i (by simp [AV.ids]),pV a,tf a]
 all_goals (simp only [iG];rw [pV a,tf a])
theorem sD{b:Bool}:∀{vs:List AV},(∀i∈bX vs,h' i=h i)->kf b false h' vs=kf b false h vs
 | [],_=>rfl
 | v::vs,d=>by simp only [kf];rw [yM λi a=>d i (iM.2 (.inl a)),sD λi a=>d i (iM.2 (.inr a))]
theorem yQ{g:Bool}{v:AV}(d:∀i∈v.ids,h' i=h i):jy g false h' v=jy g false h v:=by
 cases v
 case agg vs=>simp only [jy];rw [sD (by simpa [AV.ids] using d)]
 case fn f a b=>simp only [AV.ids,Nq] at d;simp only [jy];rw [sD λi e=>d i (.inl e),sD λi e=>d i (.inr e)]
 all_goals (simp only [jy];rw [yM d])
theorem yS{b:Bool}:∀{vs:List AV},(∀i∈bX vs,h' i=h i)->jz b false h' vs=jz b false h vs
 | [],_=>rfl
 | v::vs,d=>by simp only [jz];rw [yQ λi a=>d i (iM.2 (.inl a)),yS λi a=>d i (iM.2 (.inr a))]
theorem qK:∀{a b:List AV} {i:Id},i∈bX (a++b)↔i∈bX a\/i∈bX b
 | [],b,i=>by simp [bX]
 | v::a,b,i=>by rw [NR,iM,iM,qK,or_assoc]
theorem wG:∀{vs:List AV} {i:Id},i∈bX vs->∃v∈vs,i∈v.ids
 | v::vs,i,a=>by
  rcases iM.1 a with a | a
  .exact⟨v,M3,a⟩
  .obtain⟨u,b,d⟩:=wG a;exact⟨u,M4 _ b,d⟩
 | [],i,a=>by simp [bX] at a
theorem vl{d:Nat}{c:Option Bool}{f:FuncId}{args:List AV}{K:AV->aE->Option R}(a:s'.h=s.h\/(A.gf f=none/\A.deep f=false/\∀i∈bX args,s'.h i=s.h i)):fD P A O s' d c f args K=fD P A O s d c f args K:=by
 unfold fD;rcases a with a | ⟨g,j,a⟩
 .rw [a]
 .have e:∀b,jz b false s'.h args=jz b false s.h args:=λb=>yS a;simp only [g,j,e]
theorem xO{c:Option Bool}{i:Id}{n:Nat}{K:Nat->Bool->List (List T)->Option R}(a:h' i=h i):jS h' c i n K=jS h c i n K:=by unfold jS;rw [a]
theorem FA{fO:Bool}{d:Nat}{c:Option Bool}{f:FuncId}{args:List AV}{K:AV->aE->Option R}(a:s'.h=s.h\/(fO=false/\A.gf f=none/\A.deep f=false/\∀i∈bX args,s'.h i=s.h i)):im fO P A O s' d c f args K=im fO P A O s d c f args K:=by
 rcases a with a | ⟨rfl,a⟩
 .unfold im;rw [a];cases cond fO (gw args) none with
  | none=>exact vl (.inl a)
  | some q=>obtain⟨b,i,n,e⟩:=q;dsimp only;split <;> rfl
 .exact vl (.inr a)
theorem IA{c:Option Bool}{t:TypeId}{a:AV}{K:AV->Option R}(b:∀i∈a.ids,s'.h i=s.h i):fI P s' c t a K=fI P s c t a K:=by unfold fI;cases a <;> (try rfl) <;> (simp only [];first | rw [xO (b _ (by simp [AV.ids]))] | rw [b _ (by simp [AV.ids])])
theorem Mn{t:TypeId}{a v:AV}{K:aE->Option R}(d:∀i∈a.ids,s'.h i=s.h i)(b:∀i∈v.ids,s'.h i=s.h i):gZ P s' t a v K=gZ P s t a v K:=by
 unfold gZ;cases a <;> (try rfl) <;> (simp only [];rw [d _ (by simp [AV.ids])];try rw [D8 b,Bt b]);cases v
 case own j=>simp only [b j (by simp [AV.ids])]
 all_goals rfl
theorem Ie{c:Option Bool}{t:TypeId}{x:AV}{i:Int}{K:AV->Option R}(a:∀i∈x.ids,s'.h i=s.h i):iu P s' c t x i K=iu P s c t x i K:=by
 unfold iu;cases x
 case row i n=>simp only [xO (a i (by simp [AV.ids]))]
 all_goals first | rfl | (simp only [];rw [a _ (by simp [AV.ids])])
theorem Ir{c:Option Bool}{t:TypeId}{x:AV}{K:AV->Option R}(a:∀i∈x.ids,s'.h i=s.h i):lC P s' c t x K=lC P s c t x K:=by
 unfold lC;cases x
 case row i n=>simp only [xO (a i (by simp [AV.ids]))]
 all_goals first | rfl | (simp only [];rw [a _ (by simp [AV.ids])])
theorem L7{c:Option Bool}{t:TypeId}{x:AV}{b a d:Option Int}{K:AV->Option R}(e:∀i∈x.ids,s'.h i=s.h i):lS P s' c t x b a d K=lS P s c t x b a d K:=by unfold lS;cases x <;> (try rfl) <;> (simp only [];rw [e _ (by simp [AV.ids])])
theorem BJ{t:TypeId}{x:AV}(a:∀i∈x.ids,s'.h i=s.h i):iv P s' t x=iv P s t x:=by
 unfold iv;cases x
 case own i=>simp only [a i (by simp [AV.ids])]
 case t z=>cases z <;> rfl
 all_goals rfl
theorem E5{t:TypeId}{sz:Nat}{a:List T}{y:AV}{K:List (List T)->Option R}(b:∀i∈y.ids,s'.h i=s.h i):ke P s' t sz a y K=ke P s t sz a y K:=by unfold ke;rw [pV b]
theorem EX{d:Nat}{t ty:TypeId}{x y:AV}{K:AV->aE->Option R}(a:∀i∈x.ids,s'.h i=s.h i)(b:∀i∈y.ids,s'.h i=s.h i):jd P s' d false t ty x y K=jd P s d false t ty x y K:=by
 unfold jd;simp only [cond_false];cases x <;> simp only [E5 b]
 case own i=>rw [a i (by simp [AV.ids])]
 case part i sz off n=>rw [a i (by simp [AV.ids])]
 all_goals rfl
theorem II{c:Option Bool}{t:TypeId}{x k:AV}{ok:Bool}{K:AV->Option R}(a:∀i∈x.ids,s'.h i=s.h i):lD P s' c t x k ok K=lD P s c t x k ok K:=by unfold lD;cases x <;> (try rfl) <;> (simp only [];rw [a _ (by simp [AV.ids])])
theorem Kk{t:TypeId}{x k v:AV}{K:aE->Option R}(a:∀i∈x.ids,s'.h i=s.h i):lK P s' t x k v K=lK P s t x k v K:=by unfold lK;cases x <;> (try rfl) <;> (simp only [];rw [a _ (by simp [AV.ids])])
theorem FT{t:TypeId}{x k:AV}{K:aE->Option R}(a:∀i∈x.ids,s'.h i=s.h i):kU P s' t x k K=kU P s t x k K:=by unfold kU;cases x <;> (try rfl) <;> (simp only [];rw [a _ (by simp [AV.ids])])
theorem AQ{e:TypeId}{ev:Operand->AV}:∀{a:List (Nat×Operand)} {n:Nat},(∀x∈a.map (·.2),∀i∈(ev x).ids,h' i=h i)->gh P h' e ev n a=gh P h e ev n a
 | [],n,_=>rfl
 | (k,o)::a,n,b=>by simp only [gh];rw [D8 (b o (by simp)),Bt (b o (by simp)),AQ λx d=>b x (by simp only [NH];exact M4 _ d)]
theorem AR{e:TypeId}{ev b:Operand->AV}:∀{a:List (Nat×Operand)} {n:Nat},(∀x∈a.map (·.2),b x=ev x)->gh P h e b n a=gh P h e ev n a
 | [],n,_=>rfl
 | (k,o)::a,n,d=>by simp only [gh];rw [d o (by simp),AR λx f=>d x (by simp only [NH];exact M4 _ f)]
theorem C6{t:TypeId}{ev b:Operand->AV}:∀{a:List (Nat×Operand)},(∀x∈a.map (·.2),b x=ev x)->mM P t b a=mM P t ev a
 | [],_=>rfl
 | (k,o)::a,d=>by simp only [mM];rw [d o (by simp),C6 λx e=>d x (by simp only [NH];exact M4 _ e)]
theorem lu{g:Option Gs}{x:Operand}(a:∀k,x= .tmp k->s'.t k=s.t k):s'.get g x=s.get g x:=by
 cases x with
 | tmp k=>show(cond (jt (s'.t k).1 g) (s'.t k).2 AV.top)=cond (jt (s.t k).1 g) (s.t k).2 AV.top;rw [a k rfl]
 | _=>rfl
theorem By{g:Option Gs}{b x:Operand}{w:Bool}(a:∀k,x= .tmp k->s'.t k=s.t k):s'.kx g b w x=s.kx g b w x:=by
 unfold St.kx;split
 .rw [a _ rfl]
 .exact lu a
set_option maxHeartbeats 1000000 in
theorem Dw:∀{vs:List AV} {b:List AV} {i:Id} {n:Nat} {d:List AV},gw vs=some (b,i,n,d)->i∈bX vs
 | [],_,_,_,_,h=>by simp [gw] at h
 | v::r,b,i,n,d,h=>by
  unfold gw at h;split at h
  .cases h
  .rename_i i' g f a;simp only [Oa] at a;obtain⟨rfl,rfl⟩:=a;simp only [M1,NL] at h;obtain⟨rfl,rfl,rfl,rfl⟩:=h;simp [bX,AV.ids]
  .rename_i o f _ a;simp only [Oa] at a;obtain⟨rfl,rfl⟩:=a;obtain⟨q,e,h⟩:=M2.1 h;obtain⟨j,k,l,m⟩:=q;simp only [M1,NL] at h;obtain⟨rfl,rfl,rfl,rfl⟩:=h;simp only [bX,Nq];exact .inr (Dw e)
theorem Kw{R:Type}{P:Program}{s s':St}{e:TypeId}{d:Nat}{c:Option Bool}{v:AV}{K:AV->aE->Option R}(b:∀i∈v.ids,s'.h i=s.h i):lP P s' e d c v K=lP P s e d c v K:=by
 unfold lP;split
 .rename_i vs;split
  .rename_i f i n g a;rw [b i (by simp only [AV.ids];exact Dw a)]
  .rfl
 .rfl
theorem Bj(v:AV):(ku v).ids=v.ids:=by unfold ku;split <;> rfl
theorem ij{g:Option Gs}{o:Oper}(I:∀x∈o.op.operands,∀k,x= .tmp k->s'.t k=s.t k)(N:eJ P o=true\/gQ o=true\/s'.h=s.h\/(dT A o=false/\dO A o=false/\∀x∈o.op.operands,∀i∈(s.get g x).ids,s'.h i=s.h i)):
  cG P A O g o s'=cG P A O g o s:=by
 have j:∀x∈o.op.operands,s'.get g x=s.get g x:=λx m=>lu (I x m);have l:eJ P o=true\/gQ o=true\/∀x∈o.op.operands,∀i∈(s.get g x).ids,s'.h i=s.h i:=by
  rcases N with h | h | h | h
  .exact .inl h
  .exact .inr (.inl h)
  .exact .inr (.inr λ_ _ i _=>by rw [h])
  .exact .inr (.inr h.2.2)
 have hw:∀cl,o.op= .call cl->∀f,cl.callee= .value f->eJ P o=false:=by intro cl U f h2;simp [eJ,U,h2]
 have hal:∀cl,o.op= .call cl->gQ o=false:=by intro cl U;simp [gQ,U]
 have Q:eJ P o=true\/gQ o=true\/s'.h=s.h\/(dT A o=false/\dO A o=false):=N.imp id (Or.imp id (Or.imp id λh=>⟨h.1,h.2.1⟩));unfold cG gK;cases B:o.op <;> rw [B] at I j l <;> simp only [eJ,gQ,B,NA,false_or] at l <;> dsimp only <;> simp only [Op.operands] at I j l
 case pick a b x=>rw [j a (by simp),By (I b (by simp)),By (I x (by simp))]
 case build t ps=>unfold sG;rw [C6 (ev:=s.get g) (by simpa using j)]
 case buildSlice t n ps=>
  have C:∀e,gh P s'.h e (s'.get g) 0 ps.toList=gh P s.h e (s.get g) 0 ps.toList:=λe=>by rw [AR (ev:=s.get g) (by simpa using j),AQ (by simpa using l)]
  simp only [C];congr 1;funext e;split
  .split
   .rename_i x _ E;rw [j x (by simp [E])]
   .rfl
  .split
   .split
    .rename_i x E;rw [j x (by simp [E])];exact Kw (l x (by simp [E]))
    .rfl
   .rfl
 case load t x=>rw [j x (by simp),IA (l x (by simp))]
 case store t x y=>rw [j x (by simp),j y (by simp),Mn (l x (by simp)) (l y (by simp))]
 case binOp op t x y ty=>
  rw [j x (by simp),j y (by simp)];rcases l with l | l
  .simp only [N4,OF] at l;rw [l.1,l.2];cases op <;> rfl
  .rw [BJ (l x (by simp)),BJ (l y (by simp))]
 case convert src dst x=>rw [j x (by simp),pV (l x (by simp))]
 case makeFunc fn L G=>
  cases fn <;> try rfl
  have C:L.toList.map (s'.get g)=L.toList.map (s.get g):=N9 λx m=>j x (by simp at m⊢;exact .inl m);have e2:G.toList.map (s'.get g)=G.toList.map (s.get g):=N9 λx m=>j x (by simp at m⊢;exact .inr m);simp only [C,e2]
 case slice t x Z q mx=>
  have eb:∀(o:Option Operand) (c:Option Bool) (K:Option Int->Option (AV×aE)),(∀y,o=some y->y∈#[x] ++Z.toArray++q.toArray++mx.toArray)->gM s' c g o K=gM s c g o K:=by
   intro o c K hm;unfold gM;cases o with
   | none=>rfl
   | some y=>simp only [j y (hm y rfl)]
  have m:x∈#[x] ++Z.toArray++q.toArray++mx.toArray:=by simp
  rw [j x m];simp only [L7 (l x m)];rw [eb Z _ _ (by intro y e;subst e;simp)];congr 1;funext lo';rw [eb q _ _ (by intro y e;subst e;simp)];congr 1;funext hi';rw [eb mx _ _ (by intro y e;subst e;simp)]
 case indexAddr t x i=>rw [j x (by simp),j i (by simp)];simp only [Ie (l x (by simp))]
 case call cl=>
  simp only [Call.operands] at j l;split
  .rename_i p;split
   .rename_i x t ts m _;have hm:x∈(match cl.callee with | .value f=> #[f] | .invoke r _=> #[r] | .builtin _=> #[])++cl.args:=by
     simp [<-Array.mem_toList_iff,m]
    rw [j x hm];rcases l with l | l
    .simp [p] at l
    .exact Ir (l x hm)
   .rfl
  .rename_i p;split
   .rename_i x y t u _ m _;have hm:∀z,(z=x\/z=y)->z∈(match cl.callee with | .value f=> #[f] | .invoke r _=> #[r] | .builtin _=> #[])++cl.args:=by
     intro z Y;simp [<-Array.mem_toList_iff,m,Y]
    rw [j x (hm x (.inl rfl)),j y (hm y (.inr rfl))];rcases l with l | l
    .simp [p] at l
    .cases hn:(A.jK o.dst o.type==3) with
     | false=>exact EX (l x (hm x (.inl rfl))) (l y (hm y (.inr rfl)))
     | true=>
      rcases Q with h | h | h | h
      .simp [eJ,B,p] at h
      .simp [gQ,B] at h
      .have:∀(d:Nat) (b:Bool) (t ty:TypeId) (x y:AV) (K:AV->aE->Option (AV×aE)),jd P s' d b t ty x y K=jd P s d b t ty x y K:=λd b t ty x y K=>by
        unfold jd nC ke;rw [h]
       exact this _ _ _ _ _ _ _
      .have:=h.2;simp [dO,B,p,hn] at this
   .rfl
  .have C:cl.args.toList.map (s'.get g)=cl.args.toList.map (s.get g):=N9 λx m=>j x (by simp at m⊢;exact .inr m);rw [C]
  .have C:cl.args.toList.map (s'.get g)=cl.args.toList.map (s.get g):=N9 λx m=>j x (by simp at m⊢;exact .inr m);rw [C]
  .rename_i p;split
   .rename_i x y t ts _ m _;have hm:∀z,(z=x\/z=y)->z∈(match cl.callee with | .value f=> #[f] | .invoke r _=> #[r] | .builtin _=> #[])++cl.args:=by
     intro z Y;simp [<-Array.mem_toList_iff,m,Y]
    rw [j x (hm x (.inl rfl)),j y (hm y (.inr rfl))];rcases l with l | l
    .simp [p] at l
    .exact FT (l x (hm x (.inl rfl)))
   .rfl
  .rename_i p;split
   .rename_i x t ts m _;have hm:x∈(match cl.callee with | .value f=> #[f] | .invoke r _=> #[r] | .builtin _=> #[])++cl.args:=by
     simp [<-Array.mem_toList_iff,m]
    rw [j x hm]
   .rfl
  .rename_i F p;have C:cl.args.toList.map (s'.get g)=cl.args.toList.map (s.get g):=N9 λx m=>j x (by simp at m⊢;exact .inr m);have M:F∈(match cl.callee with | .value f=> #[f] | .invoke r _=> #[r] | .builtin _=> #[])++cl.args:=by simp [p]
   rw [C,j F M];rcases l with l | l
   .simp [p] at l
   .cases J:ku (s.get g F) <;> try rfl
    rename_i f a b;have D:=l F M;rw [<-Bj,J] at D;simp only [AV.ids,Nq] at D;refine FA ?_;have V:∀i∈bX (a++cl.args.toList.map (s.get g)++b),s'.h i=s.h i:=by
     intro i q;rcases qK.1 q with q | q
     .rcases qK.1 q with q | q
      .exact D i (.inl q)
      .obtain⟨v,J,q⟩:=wG q;obtain⟨x,m,rfl⟩:=NG.1 J;exact l x (by simp at m⊢;exact .inr m) i q
     .exact D i (.inr q)
    rcases Q with h | h | h | h
    .rw [hw cl B F p] at h;cases h
    .rw [hal cl B] at h;cases h
    .exact .inl h
    .obtain⟨h,X⟩:=h;simp only [dT,B,p] at h;simp only [dO,B,p] at X;cases F with
     | func f'=>
      simp only [St.get,ku] at J;obtain⟨rfl,_,_⟩:f'=f/\_/\_:=by simpa using J
      cases hb:A.gf f' with
      | some x=>dsimp only at h;rw [hb] at h;simp at h
      | none=>exact .inr ⟨rfl,rfl,X,V⟩
     | _=>simp at X
  .rfl
 case move x=>rw [j x (by simp)]
 case assign x=>rw [j x (by simp)]
 case box t x=>rw [j x (by simp)]
 case nilCheck x=>rw [j x (by simp)]
 case unOp op t x=>rw [j x (by simp)]
 case makeSlice t x y=>rw [j x (by simp),j y (by simp)]
 case lookup t x k ok=>rw [j x (by simp),j k (by simp),II (l x (by simp))]
 case mapUpdate t x k v=>rw [j x (by simp),j k (by simp),j v (by simp),Kk (l x (by simp))]
 case fieldAddr t x f=>rw [j x (by simp)]
 case field t x f=>rw [j x (by simp)]
 case index t x i=>rw [j x (by simp),j i (by simp)]
 case extract x k=>rw [j x (by simp)]
theorem Fa{dE:List Id}{b:Bool}{v:AV}(a:∀i∈v.ids,h' i=h i):qp h' dE b v=qp h dE b v:=by unfold qp;rw [yQ a]
theorem yO{dE:List Id}:∀{a:List Bool} {vs:List AV},(∀i∈bX vs,h' i=h i)->kg h' dE a vs=kg h dE a vs
 | _,[],_=>by simp [kg]
 | a,v::vs,d=>by simp only [kg];rw [Fa λi b=>d i (iM.2 (.inl b)),yO λi b=>d i (iM.2 (.inr b))]
theorem uJ{N:Id->Prop}:∀{us:aE} {h h':Id->Option ab},(∀i,¬N i->h' i=h i)->∀i,¬N i->aJ h' us i=aJ h us i
 | [],_,_,a,i,d=>a i d
 | (j,b)::us,h,h',a,i,d=>by
  rw [cJ,cJ];refine uJ (N:=N) (λk f=> ?_) i d;by_cases e:k=j
  .subst e;rw [aC,aC]
  .rw [aq _ _ e,aq _ _ e];exact a k f
theorem J9{N:Id->Prop}{new i:Id}{k sz:Nat}{us:aE}(a:∀i,¬N i->h' i=h i)(f:¬N i)(d:¬N new)(o:∀p∈us,¬N p.1)(e:mL h new i k sz=some us):mL h' new i k sz=some us:=by
 unfold mL at e⊢;cases l:Nat.ble 100000 sz with
 | true=>rw [l,cond_true] at e;rw [cond_true];unfold pM at e⊢;rw [a i f,a new d];exact e
 | false=>
 rw [l,cond_false] at e;rw [cond_false];rw [a i f,a new d];split at e
 .rename_i cs f
  try simp only [f]
  split at e
  .exact e
  .exact e
  .exact e
  .rename_i j v n x;split at e
   .rename_i u b xs r;split at e
    .rename_i q;have g:¬N j:=by
      cases m:(h new).isNone with
      | false=>rw [m] at e;simp at e
      | true=>rw [m] at e;simp only [cond_true,M1] at e;subst e;exact o (j,_) M3
     rw [a j g,r];simp only [if_pos q];exact e
    .cases e
   .cases e
  .cases e
 .cases e
theorem Db{N:Id->Prop}{nm:Nat}(a:∀k,¬N (.s nm k)):∀{l:List (Id×Nat×Nat)} {j:Nat} {h h':Id->Option ab} {us:aE},(∀i,¬N i->h' i=h i)->(∀q∈l,¬N q.1)->(∀p∈us,¬N p.1)->iQ nm j h l=some us->iQ nm j h' l=some us
 | [],_,_,_,_,_,_,_,e=>e
 | (i,k,sz)::l,j,h,h',us,f,hl,b,e=>by simp only [iQ] at e⊢;obtain⟨r,g,e⟩:=M2.1 e;obtain⟨u,m,e⟩:=M2.1 e;simp only [M1] at e;subst e;rw [J9 f (hl (i,k,sz) M3) (a j) (λp d=>b p (Nn _ d)) g];simp only [M6];rw [Db a (uJ f) (λq o=>hl q (M4 _ o)) (λp d=>b p (Nl _ d)) m];rfl
theorem rG:∀{n:Nat} {todo a seen:List Id},eE h n todo a=some seen->(∀i∈seen,h' i=h i)->eE h' n todo a=some seen
 | 0,todo,a,seen,e,_=>by simp [eE] at e
 | n+1,[],a,seen,e,_=>e
 | n+1,i::todo,a,seen,e,hs=>by
  simp only [eE] at e⊢;cases b:a.contains i with
  | true=>rw [b,cond_true] at e;rw [cond_true];exact rG e hs
  | false=>
   rw [b,cond_false] at e;rw [cond_false];have hm:i∈seen:=by
    have:a++ [i] <+:seen:=by
     split at e
     .exact mP e
     .exact mP e
     .exact mP e
     .cases e
    exact this.subset (Nl _ (Ng.2 rfl))
   rw [hs i hm];split at e
   .exact rG e hs
   .exact rG e hs
   .exact rG e hs
   .cases e
theorem vu:∀{l seen:List Id},∀i∈nI l seen,i∈l
 | [],_,i,a=>by simp [nI] at a
 | j::l,seen,i,a=>by
  simp only [nI] at a;cases b:seen.contains j with
  | true=>rw [b,cond_true] at a;exact M4 _ (vu i a)
  | false=>
   rw [b,cond_false] at a;rcases Nj.1 a with rfl | a
   .exact M3
   .exact M4 _ (vu i a)
theorem ud{i:Id}:∀{l:List cf} {k:Nat},∀q∈lN i k l,q.1=i
 | [],_,q,a=>by simp [lN] at a
 | r::l,k,q,a=>by
  cases r with
  | own sz=>
   simp only [lN] at a;rcases Nj.1 a with rfl | a
   .rfl
   .exact ud q a
  | rows sz col rsz=>
   simp only [lN] at a;rcases Nj.1 a with rfl | a
   .rfl
   .exact ud q a
  | _=>simp only [lN] at a;exact ud q a
theorem xI:∀{e:List Id} {d:List iC},∀q∈lO e d,q.1∈e
 | [],d,q,a=>by cases d <;> simp [lO] at a
 | i::e,[],q,a=>by simp [lO] at a
 | i::e,b::d,q,a=>by
  cases b with
  | box l=>
   simp only [lO,Nq] at a;rcases a with a | a
   .rw [ud q a];exact M3
   .exact M4 _ (xI q a)
  | _=>simp only [lO] at a;exact M4 _ (xI q a)
theorem Fz{N:Id->Prop}{d:Nat}{c:Option Bool}{f:FuncId}{args:List AV}{v:AV}{us:aE}(F:∀i,¬N i->s'.h i=s.h i)(M:A.deep f=false)(m:∀i∈bX args,¬N i)(G:∀k,¬N (.s (2000000+d) k))(E:∀p∈us,¬N p.1)
  (e:fD P A O s d c f args (λv u=>some (v,u))=some (v,us)):fD P A O s' d c f args (λv u=>some (v,u))=some (v,us):=by
 cases K:A.gf f with
 | none=>rw [vl (.inr ⟨K,M,λi l=>F i (m i l)⟩)];exact e
 | some Y=>
  unfold fD at e⊢;cases D:P.funcs[f]? with
  | none=>rw [D] at e;simp at e
  | some fn=>
   simp only [D,K] at e⊢;cases c with
   | some b=>simp at e
   | none=>
    simp only at e⊢;rw [yO λi l=>F i (m i l)];obtain⟨p,U,e⟩:=M2.1 e;rw [U,M6];obtain⟨a,I,e⟩:=M2.1 e;obtain⟨seen,o,e⟩:=M2.1 e;obtain⟨_,_,J,_,_⟩:=rH o PF (by simp) (by simp);have L:=e;have g:(∀q∈a,¬N q.1)/\∀i∈seen,¬N i:=by
     cases C:(tO d seen && Nat.beq (fM (seen.map λi=>fQ seen (aJ (aJ s.h p.2) a i)).head?) (fM ((bX p.1).head?.bind (aJ s.h p.2)))) with
     | false=>rw [C] at e;simp at e
     | true=>
      rw [C,cond_true] at e;obtain⟨Z,e,_⟩:=uI (.inl rfl) e;obtain⟨xs,_,e⟩:=aM e (.inl rfl);rw [show ∀(n:Nat),(dD seen d none 0 (cZ P A f n fn) xs λvs u j=>fk seen d j seen (fP A f n) (xs.drop (kH (cZ P A f n fn))) λq=>(some (jP vs,p.2++a++iI seen++u++q):Option (AV×aE)))=
       ((dD seen d none 0 (cZ P A f n fn) xs λvs u j=>some (vs,u,j)).bind λz=>(fk seen d z.2.2 seen (fP A f n) (xs.drop (kH (cZ P A f n fn))) some).bind λq=>some (jP z.1,p.2++a++iI seen++z.2.1++q)) from λn=>by
        rw [nG];congr 1;funext vs u j;simp only [M6];rw [sN];rfl] at e
      obtain⟨z,_,e⟩:=M2.1 e;obtain⟨q,_,e⟩:=M2.1 e;simp only [M1,NL] at e;obtain⟨_,rfl⟩:=e;refine⟨λx X=>E x ?_,λi l=>E (i, .dead) ?_⟩
      .exact Nn _ (Nn _ (Nn _ (Nl _ X)))
      .exact Nn _ (Nn _ (Nl _ (NG.2 ⟨i,l,rfl⟩)))
    have r:∀i,¬N i->aJ s'.h p.2 i=aJ s.h p.2 i:=uJ F;have B:∀i,¬N i->aJ (aJ s'.h p.2) a i=aJ (aJ s.h p.2) a i:=uJ r;have y:(bX p.1).head?.bind (aJ s'.h p.2)= (bX p.1).head?.bind (aJ s.h p.2):=by
     cases Q:(bX p.1).head? with
     | none=>rfl
     | some i=>exact r i (g.2 i (J i (List.mem_of_mem_head? (by rw [Q];rfl))))
    rw [y];rw [Db G r (λq V=>g.2 q.1 (J q.1 (vu q.1 (xI q V)))) g.1 I,M6];rw [rG o λi l=>B i (g.2 i l),M6];have hm:(seen.map λi=>fQ seen (aJ (aJ s'.h p.2) a i))=seen.map λi=>fQ seen (aJ (aJ s.h p.2) a i):=N9 λi l=>by rw [B i (g.2 i l)]
    rw [hm];exact L
theorem sC{N:Id->Prop}{g:Option Gs}{o:Oper}{v:AV}{us:aE}(K:∀x∈o.op.operands,∀k,x= .tmp k->s'.t k=s.t k)(J:∀i,¬N i->s'.h i=s.h i)(z:dO A o=false)(l:∀x∈o.op.operands,∀i∈(s.get g x).ids,¬N i)
  (F:∀k,¬N (.s (2000000+o.dst.getD 0) k)) (L:∀p∈us,¬N p.1) (e:cG P A O g o s=some (v,us)):cG P A O g o s'=some (v,us):=by
 cases G:dT A o with
 | false=>rw [ij (s:=s) K (.inr (.inr (.inr ⟨G,z,λx q i d=>J i (l x q i d)⟩)))];exact e
 | true=>
  have C:∀x∈o.op.operands,s'.get g x=s.get g x:=λx q=>lu (K x q);cases y:o.op <;> simp only [dT,y,NA] at G;rename_i cl;cases j:cl.callee <;> simp only [j,NA] at G;rename_i u;unfold cG gK at e⊢;rw [y] at e l C⊢;simp only [Op.operands,Call.operands] at l C;simp only [j] at e⊢;have M:cl.args.toList.map (s'.get g)=cl.args.toList.map (s.get g):=N9 λx q=>C x (by simp at q⊢;exact .inr q);have E:u∈(match cl.callee with | .value f=> #[f] | .invoke r _=> #[r] | .builtin _=> #[])++cl.args:=by simp [j]
  rw [M,C u E];cases B:ku (s.get g u) <;> rw [B] at e <;> simp only [reduceCtorEq] at e;rename_i f a b;have m:=l u E;rw [<-Bj,B] at m;simp only [AV.ids,Nq] at m;have D:A.deep f=false:=by
   simp only [dO,y,j] at z;cases u with
   | func I=>
    simp only [St.get,ku] at B;obtain⟨rfl,_,_⟩:I=f/\_/\_:=by simpa using B
    exact z
   | _=>simp at z
  have hl:B7 u=false:=by
   simp only [dO,y,j] at z;cases u with
   | func I=>rfl
   | _=>simp at z
  dsimp only at e⊢;rw [hl,FC] at e⊢;refine Fz J D ?_ F L e;intro i d;rcases qK.1 d with d | d
  .rcases qK.1 d with d | d
   .exact m i (.inl d)
   .obtain⟨v,B,d⟩:=wG d;obtain⟨x,q,rfl⟩:=NG.1 B;exact l x (by simp at q⊢;exact .inr q) i d
  .exact m i (.inr d)
end
open Go Go.IntKind
section
variable {P:Program} {An:cx} {Or:ax} {w w':World} {A A':Nat->Prop} {c:Ctx} {ρ:Id->Option Value} {O:Id->Option Nat} {s s' s1 s2:St} {h:Id->Option ab} {ops:Array Oper} {nt:Nat}
structure qm (P:Program) (An:cx) (Or:ax) (nt:Nat) (ops:Array Oper) (o:Oper) (s:St) (g:Option Gs) (v:AV) (us:aE):Prop where
 guard:cW ops o s some=some g
 op:cG P An Or g o s=some (v,us)
 ok:lI P An true nt ops o g s v us=true
 dE:ix An true o s.h us=true
theorem Ec{o:Oper}{g:Option Gs}:oq An true o g=none:=by cases g <;> rfl
theorem xu{o:Oper}(e:eD P An Or true nt ops o s=some s'):∃g v us,qm P An Or nt ops o s g v us/\s'=s.put (dt ops o.dst) o.dst g v us:=by
 unfold eD mK at e;rw [tq] at e;replace e:=M2.1 e;obtain⟨g,f,e⟩:=e;rw [Ec] at e;dsimp only at e;rw [oH] at e;replace e:=M2.1 e;obtain⟨⟨v,us⟩,d,e⟩:=e;dsimp only at e;rw [qP] at e;cases a:ix An true o s.h us with
 | false=>rw [a] at e;cases e
 | true=>
  rw [a,cond_true] at e;split at e
  .rename_i b;simp only [M1] at e;exact⟨g,v,us,⟨f,d,b,a⟩,e.symm⟩
  .simp at e
theorem qm.eD{o:Oper}{g:Option Gs}{v:AV}{us:aE}(a:qm P An Or nt ops o s g v us):eD P An Or true nt ops o s=some (s.put (dt ops o.dst) o.dst g v us):=by unfold Aev.eD mK;rw [tq,a.guard,M6,Ec];dsimp only;rw [oH,a.op,M6];dsimp only;rw [qP,a.dE,cond_true,if_pos a.ok]
def ow(ops:Array Oper)(a:Array Bool)(s:St):Prop:= ∀k g v,s.t k= (some g,v)->∃i o,ops[i]? =some o/\a.getD i false=true/\o.dst=some g.d
theorem nJ{d:Nat}{o:Oper}(a:o.dst=some d):∀(l:List Oper),o∈l->d∈fF l:=by
 intro l;induction l with
 | nil=>intro hm;cases hm
 | cons x l b=>
  intro hm;simp only [fF];rcases Nj.1 hm with rfl | hm
  .rw [a];exact M3
  .have:=b hm;split
   .exact M4 _ this
   .exact this
theorem zC:∀{l:List Oper},rm (fF l)=true->∀{i j:Nat} {x y:Oper} {d:Nat},l[i]? =some x->l[j]? =some y->x.dst=some d->y.dst=some d->i=j
 | [],_,i,j,x,y,d,b,_,_,_=>by simp at b
 | z::l,a,i,j,x,y,d,b,f,k,m=>by
  have g:rm (fF l)=true/\∀d,z.dst=some d->d∉fF l:=by
   simp only [fF] at a;cases o:z.dst with
   | none=>rw [o] at a;exact⟨a,λd h=>by cases h⟩
   | some e=>
    rw [o] at a;simp only [rm,M7,N4] at a;refine⟨a.2,λd h=> ?_⟩;simp only [M1] at h;subst h;intro hm;have:(fF l).contains e=true:=by simpa using hm
    rw [this] at a;cases a.1
  cases i with
  | zero=>
   simp only [N5,M1] at b;subst b;cases j with
   | zero=>rfl
   | succ j=>simp only [Oy] at f;exact(g.2 d k (nJ m _ (Nh f))).elim
  | succ i=>
   simp only [Oy] at b;cases j with
   | zero=>simp only [N5,M1] at f;subst f;exact(g.2 d m (nJ k _ (Nh b))).elim
   | succ j=>simp only [Oy] at f;rw [zC g.1 b f k m]
def oG(ops:Array Oper):Prop:= ∀{i j:Nat} {x y:Oper} {d:Nat},ops[i]? =some x->ops[j]? =some y->x.dst=some d->y.dst=some d->i=j
theorem rW{a:Array Bool}{i:Nat}(h:a.getD i true=false):a.getD i false=true->False:=by
 intro d;rw [Ox] at h d;cases e:a[i]? with
 | none=>rw [e] at h;simp at h
 | some b=>rw [e] at h d;simp at h d;rw [h] at d;cases d
theorem xG{a:Array Bool}{i:Nat}{o:Oper}{g:Option Gs}{v:AV}{us:aE}(z:oG ops)(y:ops[i]? =some o)(hl:a.getD i true=false)(x:ow ops a s)(b:Bool):
  s.put b o.dst g v us=s.put false o.dst g v us:=by
 unfold St.put;cases u:o.dst with
 | none=>rfl
 | some d=>
  simp only [St.mk.injEq,and_true];funext k;split
  .rfl
  .cases b with
   | false=>rfl
   | true=>
    simp only [cond_true,cond_false];cases p:s.t k with
    | mk f vk=>
     cases f with
     | none=>rfl
     | some f=>
      simp only [ko];cases m:(f.d==d) with
      | false=>rfl
      | true=>
       exfalso;obtain⟨j,B,q,r,l⟩:=x k f vk p;have e:f.d=d:=by simpa using m
       rw [e] at l;have:=z q y l u;subst this;exact rW hl r
theorem eK{o:Oper}{k:Nat}(h:(.tmp k:Operand)∈o.op.operands):k∈o.looksAt ops:=by unfold Oper.looksAt;refine Nn _ (PB.2 ⟨.tmp k,by simpa using h,rfl⟩)
theorem Ch{o:Oper}{j d:Nat}{b:Bool}(h:o.guard=some (j,b))(a:(ops[j]?).bind (·.dst)=some d):d∈o.looksAt ops:=by unfold Oper.looksAt;refine Nl _ ?_;rw [h];simp [a]
theorem oe{b:Bool}{o:Oper}{g:Option Gs}{v:AV}{us:aE}{k:Nat}(f:o.dst≠some k):(s.put false o.dst g v us).t k=s.t k:=by
 unfold St.put;cases a:o.dst with
 | none=>rfl
 | some d=>have:k≠d:=λe=>f (by rw [a,e]);simp [if_neg this]
theorem BC{o:Oper}(f:∀j b d,o.guard=some (j,b)->(ops[j]?).bind (·.dst)=some d->s'.t d=s.t d):cW ops o s' some=cW ops o s some:=by
 unfold cW;cases e:o.guard with
 | none=>rfl
 | some p=>
  obtain⟨j,b⟩:=p;simp only;cases a:(ops[j]?).bind (·.dst) with
  | none=>rfl
  | some d=>simp only [f j b d e a]
theorem uK:∀{us:aE} {h:Id->Option ab} {i:Id},aJ h us i=none->(∀q∈us,q.1≠i)/\h i=none
 | [],h,i,e=>⟨by simp,e⟩
 | (j,x)::us,h,i,e=>by
  rw [cJ] at e;obtain⟨f,b⟩:=uK e;by_cases a:i=j
  .subst a;rw [aC] at b;cases b
  .rw [aq _ _ a] at b;refine⟨λq d=> ?_,b⟩;rcases Nj.1 d with rfl | d
   .exact λe=>a e.symm
   .exact f q d
theorem CC{o:Oper}{g:Option Gs}(a:∀x∈o.op.operands,s'.get g x=s.get g x):mG ops g o s'=mG ops g o s:=by
 unfold mG;have key:∀l:List Operand,(∀x∈l,s'.get g x=s.get g x)->(l.all λx=>(s'.get g x).ids.all λi=>match i with
  | .s d _=>oL ops o d
  | .c _=>true
  | .g _ _=>false)= (l.all λx=>(s.get g x).ids.all λi=>match i with
  | .s d _=>oL ops o d
  | .c _=>true
  | .g _ _=>false):=by
  intro l;induction l with
  | nil=>intro _;rfl
  | cons x l f=>intro h;rw [Ot,Ot,h x M3,f λy e=>h y (M4 _ e)]
 exact key _ λx b=>a x (by simpa using b)
theorem tJ{o:Oper}{g:Option Gs}(l:mG ops g o s=true){x:Operand}(v:x∈o.op.operands){d k:Nat}(u:Id.s d k∈(s.get g x).ids){i:Nat}{m:Oper}(a:ops[i]? =some m)(q:m.dst=some d):
  ∃e∈o.after,Region.binds .any e=true/\(e.on=i\/fT ops 12 e.on i=true):=by
 unfold mG at l;have p:=Nt.1 l x (by simpa using v);have b:=Nt.1 p _ u;simp only at b;unfold oL at b;have f:=Nt.1 b i (PX.2 (Pw.1 a).1);rw [a] at f;simp only [q,BEq.rfl,M8,NT] at f;obtain⟨e,r,j⟩:=Pg.1 f;simp only [M7,NS,beq_iff_eq] at j;exact⟨e,r,j.1,j.2⟩
theorem fu{o:Oper}{us:aE}(b:jn o us=true){i:Id}(a:∃q∈us,q.1=i):∃d k,i= .s d k/\o.dst=some d:=by
 obtain⟨q,f,rfl⟩:=a;have:=Nt.1 b q f;split at this
 .rename_i d k e;exact⟨d,k,e,by simpa using this⟩
 .simp at this
 .simp at this
theorem MK{us vs:aE}(a:∀p∈us,∀q∈vs,p.1≠q.1):∀{h:Id->Option ab},aJ (aJ h us) vs=aJ (aJ h vs) us:=by
 induction us with
 | nil=>intro h;rfl
 | cons p us g=>intro h;obtain⟨i,b⟩:=p;rw [cJ,cJ,g (λp d=>a p (M4 _ d)),rX (λq f e=>a (i,b) M3 q f e.symm)]
def ou(ops:Array Oper)(a:Array Bool):Prop:= ∀k ok,ops[k]? =some ok->a.getD k false=true->∀e∈ok.after,Region.binds .any e=true->a.getD e.on false=true
theorem vd{a:Array Bool}(f:ou ops a){i:Nat}(m:a.getD i true=false):∀{n j:Nat} {d:Oper},ops[j]? =some d->(∀e∈d.after,Region.binds .any e=true->a.getD e.on false=true)->fT ops n j i=false
 | 0,j,d,_,_=>rfl
 | n+1,j,d,q,g=>by
  simp only [fT,q];rw [Array.any_eq_false'];intro e p l;simp only [M7,NS,beq_iff_eq] at l;obtain⟨o,b⟩:=l;have hl:=g e p o;rcases b with b | ⟨_,b⟩
  .exact rW m (b▸hl)
  .cases k:ops[e.on]? with
   | none=>
    cases n with
    | zero=>simp [fT] at b
    | succ n=>simp [fT,k] at b
   | some ok=>rw [vd f m k (f e.on ok k hl)] at b;cases b
theorem yg{a b:Oper}(h:iW An ops a b=true):∃k d,fx ops a=some k/\fx ops b=some d/\k≠d/\k∉fF ops.toList/\d∉fF ops.toList:=by
 unfold iW at h;simp only [M7] at h;obtain⟨_,h⟩:=h;split at h
 .rename_i k d e f;simp only [M7,N4,beq_eq_false_iff_ne,ne_eq] at h;obtain⟨⟨g,i⟩,j⟩:=h;exact⟨k,d,e,f,g,by simpa using i,by simpa using j⟩
 .cases h
theorem Mh{a b:Oper}(h:iW An ops a b=true):iW An ops b a=true:=by have h0:=h;unfold iW at h0;simp only [M7] at h0;obtain⟨k,l,d,f,g,i,j⟩:=yg h;unfold iW;rw [d,f,h0.1];simp only [N1,M7,N4,beq_eq_false_iff_ne,ne_eq];exact⟨⟨λe=>g e.symm,by simpa using j⟩,by simpa using i⟩
theorem Eh{o b:Oper}{us:aE}{k e:Nat}(h:iX P An ops o s us=true)(hm:b∈ops)(f:iW An ops o b=true)(m:fx ops o=some k)(d:fx ops b=some e):
  (∀x∈o.op.operands,∀i∈(s.get none x).ids,i∈(s.t k).2.ids)/\(∀p∈us,p.1∈(s.t k).2.ids)/\(∀p∈us,p.1∉(s.t e).2.ids):=by
 have a:=NP.1 h b hm;simp only [M7] at a;replace a:=a.1.1.1.1;rw [f] at a;simp only [M8,NT,yk,m,d,M7,Nt,decide_eq_true_eq] at a;obtain⟨⟨g,j⟩,l⟩:=a;exact⟨λx q=>g x (Array.mem_toList_iff.2 q),j,l⟩
theorem qU{a b:Oper}(h:gR P An ops a b=true):(∃k,gU ops b=some (some k)/\k∉fF ops.toList)\/gU ops b=some none:=by
 unfold gR at h;simp only [M7] at h;obtain⟨_,h⟩:=h;split at h
 .rename_i k d;exact .inl ⟨k,d,by simpa using h⟩
 .rename_i d;exact .inr d
 .cases h
theorem B3{a b:Oper}(h:gR P An ops a b=true):a.guard=none/\aF P An a=true/\dT An a=false/\dO An a=false:=by
 unfold gR at h;simp only [M7] at h;obtain⟨⟨_,⟨_,h⟩,_⟩,_⟩:=h;unfold yK at h;simp only [M7,O9] at h;obtain⟨⟨i,j⟩,e⟩:=h;refine⟨i,j, ?_⟩;split at e
 .rename_i cl d;split at e
  .rename_i g;simp only [N4] at e;simp [dT,dO,d,g,e]
  .rename_i f g;simp only [M7,O9,N4] at e;simp [dT,dO,d,g,e.1,e.2]
  .cases e
 .rename_i d;simp [dT,dO,d]
 .rename_i d;simp [dT,dO,d]
 .cases e
theorem B4{a b:Oper}(h:gR P An ops a b=true):aF P An b=false:=by unfold gR at h;simp only [M7,N4] at h;exact h.1.2.1.1
theorem Ku{o:Oper}{r:Option Nat}(h:gU ops o=some r):o.guard=none:=by
 unfold gU at h;split at h
 .rename_i a b;exact a
 .rename_i a b;exact a
 .cases h
theorem Dt{o:Oper}{r:Option Nat}(d:aF P An o=false)(h:gU ops o=some r):o.guard=none/\aF P An o=false/\dT An o=false/\dO An o=false:=by
 unfold gU at h;split at h
 .rename_i b a;simp [b,aF,dT,dO,a]
 .rename_i b a;exact⟨b,d,by simp [dT,a],by simp [dO,a]⟩
 .cases h
theorem Kv{o:Oper}{k:Nat}(h:gU ops o=some (some k)):fx ops o=some k:=by
 unfold gU at h;split at h
 .rename_i a b;simp only [M1] at h;subst h;simp [fx,a,b]
 .cases h
 .cases h
theorem nW{o:Oper}{k:Bool}(h:iw P o k=true):∃t a y,o.guard=none/\o.op= .store t (.tmp a) y:=by
 unfold iw at h;split at h
 .rename_i t a y b d;exact⟨t,a,y,b,d⟩
 .cases h
theorem Mq{k off:Nat}{l:List T}{xs a:List (List T)}(h:fV k off l xs=some a):a.length=xs.length:=by
 unfold fV at h;split at h
 .split at h
  .simp only [M1] at h;subst h;simp
  .cases h
 .cases h
theorem BQ{t:TypeId}{a v B:AV}{us:aE}(h:gZ P s t a v (λu=>some (AV.top,u))=some (B,us))(f:ka us=true):
  ∃i sz k off j rsz X,a= .el i sz k off/\v= .own j/\(∃bb xs,s.h j=some (.sl false rsz bb xs))/\rsz≠1/\us= [(j, .dead),(i,X)]/\∃b d col g es x es',s.h i=some (.rows b d col rsz g es)/\X= .rows b d col rsz x es'/\es'.length=es.length:=by
 unfold gZ at h;cases r:bW P t with
 | false=>rw [r] at h;cases h
 | true=>
  rw [r,cond_true] at h;split at h
  .split at h
   .split at h
    .simp only [M1,NL] at h;obtain⟨_,rfl⟩:=h;simp [ka] at f
    .cases h
   .cases h
  .rename_i i sz k off;split at h
   .obtain⟨l,_,h⟩:=M2.1 h;split at h
    .replace h:=aM h (.inl rfl);obtain⟨C,_,h⟩:=h;simp only [M1,NL] at h;obtain⟨_,rfl⟩:=h;simp [ka] at f
    .cases h
   .rename_i b d col rsz g es y;split at h
    .rename_i j;split at h
     .rename_i m D xs z;split at h
      .rename_i o;have q:=o.2.2.1;subst q;replace h:=aM h (.inl rfl);obtain⟨e,_,h⟩:=h;simp only [M1,NL] at h;obtain⟨_,rfl⟩:=h;refine⟨i,sz,k,off,j,m,_,rfl,rfl,⟨_,_,z⟩, ?_,rfl,b,d,col,g,es,_,_,y,by rw [show sz=d from o.1.symm],by simp⟩;simpa [ka] using f
      .cases h
     .cases h
    .cases h
   .cases h
  .split at h
   .replace h:=aM h (.inl rfl);obtain⟨p,_,h⟩:=h;obtain⟨l,_,h⟩:=M2.1 h;split at h
    .replace h:=aM h (.inl rfl);obtain⟨C,_,h⟩:=h;simp only [M1,NL] at h;obtain⟨_,rfl⟩:=h;simp [ka] at f
    .cases h
   .cases h
  .cases h
theorem BR{t:TypeId}{a v z:AV}{us:aE}(h:gZ P s t a v (λu=>some (AV.top,u))=some (z,us))(d:kb us=true):
  ∃i sz k off b f,a= .el i sz k off/\(∃xs,s.h i=some (.sl false 1 b xs)/\f.length=xs.length)/\us= [(i, .sl false 1 b f)]:=by
 unfold gZ at h;cases m:bW P t with
 | false=>rw [m] at h;cases h
 | true=>
  rw [m,cond_true] at h;split at h
  .split at h
   .split at h
    .simp only [M1,NL] at h;obtain⟨_,rfl⟩:=h;simp [kb] at d
    .cases h
   .cases h
  .rename_i i sz k off;split at h
   .rename_i B b xs y;obtain⟨l,_,h⟩:=M2.1 h;split at h
    .rename_i x;obtain⟨j,_,_⟩:=x;subst j;replace h:=aM h (.inl rfl);obtain⟨f,o,h⟩:=h;simp only [M1,NL] at h;obtain⟨_,rfl⟩:=h;cases g:fH s.h v with
     | cons q r=>rw [g] at d;simp [kb] at d
     | nil=>rw [g] at d;simp only [kb,beq_iff_eq] at d;subst d;exact⟨_,_,_,_,_,_,rfl,⟨_,y,Mq o⟩,rfl⟩
    .cases h
   .split at h
    .split at h
     .split at h
      .replace h:=aM h (.inl rfl);obtain⟨e,_,h⟩:=h;simp only [M1,NL] at h;obtain⟨_,rfl⟩:=h;simp [kb] at d
      .cases h
     .cases h
    .cases h
   .cases h
  .split at h
   .replace h:=aM h (.inl rfl);obtain⟨p,_,h⟩:=h;obtain⟨l,_,h⟩:=M2.1 h;split at h
    .replace h:=aM h (.inl rfl);obtain⟨f,_,h⟩:=h;simp only [M1,NL] at h;obtain⟨_,rfl⟩:=h;simp [kb] at d
    .cases h
   .cases h
  .cases h
theorem ym{o:Oper}{t:TypeId}{a:Nat}{y:Operand}{v:AV}{us:aE}(b:o.op= .store t (.tmp a) y)(h:cG P An Or none o s=some (v,us)):gZ P s t (s.get none (.tmp a)) (s.get none y) (λu=>some (AV.top,u))=some (v,us):=by unfold cG gK at h;rw [b] at h;exact h
theorem Ed{a b:Oper}(hl:jU P An ops a b=true)(M:a∈ops)(N:b∈ops){s1 s2:St}{Q U:AV}{v y:aE}(ea:cG P An Or none a s1=some (Q,v))(eb:cG P An Or none b s2=some (U,y))
  (G:iX P An ops a s1 v=true) (okb:iX P An ops b s2 y=true) (r:s2.h=aJ s1.h v\/s1.h=aJ s2.h y):
  (∀p∈v,∀q∈y,p.1≠q.1)/\(∀x∈a.op.operands,∀i∈(s1.get none x).ids,∃p∈v,p.1=i)/\(∀x∈b.op.operands,∀i∈(s2.get none x).ids,∃p∈y,p.1=i):=by
 have o:=NP.1 G b N;have l:=NP.1 okb a M;simp only [M7] at o l;replace o:=o.1.2.1;replace l:=l.1.2.2;rw [hl] at o l;simp only [M8,NT,M7] at o l;simp only [jU,M7] at hl;obtain⟨ta,V,Z,ga,z⟩:=nW hl.1.2;obtain⟨tb,Y,yb,gb,u⟩:=nW hl.2;obtain⟨i,sz,k,off,j,rsz,X,I,J,⟨_,_,a4⟩,K,rfl,_,_,_,_,_,_,_,B,rfl,_⟩:=BQ (ym z ea) o;obtain⟨i',sz',k',off',b',ys',L,⟨_,g,_⟩,rfl⟩:=BR (ym u eb) l.1;have m:=l.2;simp only [uZ,u,ON] at m;have F:i'≠i/\i'≠j:=by
  rcases r with r | r
  .rw [r,cJ,dr] at g;constructor
   .rintro rfl;rw [aC] at g;cases g
   .intro e;by_cases C:i'=i
    .rw [C,aC] at g;cases g
    .rw [aq _ _ C,e,aC] at g;cases g
  .rw [r,dr] at B a4;constructor
   .rintro rfl;rw [aC] at B;cases B
   .rintro rfl;rw [aC] at a4;simp only [M1,ab.sl.injEq] at a4;exact K a4.2.1.symm
 refine⟨λp D q E e=> ?_,λx f id d=> ?_,λx f id d=> ?_⟩
 .simp only [Nj,Ol,or_false] at D E;subst E;rcases D with rfl | rfl
  .exact F.2 e.symm
  .exact F.1 e.symm
 .simp only [z,Op.operands] at f;have f:x= .tmp V\/x=Z:=by simpa using f
  rcases f with rfl | rfl
  .rw [I] at d;simp only [AV.ids,Ng] at d;subst d;exact⟨_,M4 _ (Ng.2 rfl),rfl⟩
  .rw [J] at d;simp only [AV.ids,Ng] at d;subst d;exact⟨_,M3,rfl⟩
 .simp only [u,Op.operands] at f;have f:x= .tmp Y\/x=yb:=by simpa using f
  rcases f with rfl | rfl
  .rw [L] at d;simp only [AV.ids,Ng] at d;subst d;exact⟨_,M3,rfl⟩
  .rw [m] at d;cases d
theorem wL{o:Oper}(h:tw P o=true):∃a,o.guard=none/\((∃t e n,o.op= .indexAddr t (.tmp a) n/\kW P t=some e/\P.cellsOf e=1)\/∃t,o.op= .load t (.tmp a)):=by
 unfold tw at h;split at h
 .rename_i t a n b d;split at h
  .rename_i e f;exact⟨a,b, .inl ⟨t,e,n,d,f,by simpa using h⟩⟩
  .cases h
 .rename_i t a b d;exact⟨a,b, .inr ⟨t,d⟩⟩
 .cases h
def nh(h h':Id->Option ab):Prop:= ∀m,h' m=h m\/(∃fz sz b xs d f a,h m=some (.sl fz sz b xs)/\h' m=some (.sl d sz f a)/\a.length=xs.length)\/
 (∃b sz col rsz g es e es',h m=some (.rows b sz col rsz g es)/\h' m=some (.rows b sz col rsz e es')/\es'.length=es.length)\/∃sz b xs,sz≠1/\h m=some (.sl false sz b xs)/\h' m=some .dead
theorem nh.index{t e:TypeId}{m:Id}{n:Int}{K:AV->Option (AV×aE)}{r:AV×aE}(H:nh s.h s'.h)(g:kW P t=some e)(f:P.cellsOf e=1):iu P s none t (.own m) n K=some r↔iu P s' none t (.own m) n K=some r:=by
 unfold iu;simp only [g];rcases H m with h | ⟨_,_,_,_,_,_,_,a,b,d⟩ | ⟨_,_,_,_,_,_,_,_,a,b,d⟩ | ⟨sz,_,_,h0,a,b⟩
 .rw [h]
 .rw [a,b];simp only [d]
 .rw [a,b];simp only [d]
 .rw [a,b];simp only [f,if_neg h0,reduceCtorEq]
theorem nh.load{t:TypeId}{m:Id}{off:Nat}{K:AV->Option (AV×aE)}{r:AV×aE}(H:nh s.h s'.h):fI P s none t (.ref m off) K=some r↔fI P s' none t (.ref m off) K=some r:=by
 unfold fI;rcases H m with h | ⟨_,_,_,_,_,_,_,a,b,d⟩ | ⟨_,_,_,_,_,_,_,_,a,b,d⟩ | ⟨sz,_,_,h0,a,b⟩
 .simp only [h]
 .simp only [a,b]
 .simp only [a,b]
 .simp only [a,b]
theorem nh.store{t:TypeId}{a v q:AV}{us:aE}(h:gZ P s t a v (λu=>some (AV.top,u))=some (q,us))(d:ka us=true\/kb us=true):nh s.h (aJ s.h us):=by
 rcases d with d | d
 .obtain⟨i,sz,k,off,j,rsz,X,_,_,⟨_,_,a4⟩,g,rfl,_,_,_,_,_,_,_,f,rfl,l⟩:=BQ h d;intro m;rw [cJ,dr];by_cases b:m=i
  .subst b;exact .inr (.inr (.inl ⟨_,_,_,_,_,_,_,_,f,aC _ _ _,l⟩))
  .rw [aq _ _ b];by_cases e:m=j
   .subst e;exact .inr (.inr (.inr ⟨_,_,_,g,a4,aC _ _ _⟩))
   .rw [aq _ _ e];exact .inl rfl
 .obtain⟨i,_,_,_,_,_,_,⟨_,o,p⟩,rfl⟩:=BR h d;intro m;rw [dr];by_cases b:m=i
  .subst b;exact .inr (.inl ⟨_,_,_,_,_,_,_,o,aC _ _ _,p⟩)
  .rw [aq _ _ b];exact .inl rfl
theorem Ee{a b:Oper}(hl:jw P An ops a b=true)(u:a∈ops)(B:b∈ops){s1 s2 q:St}{G:AV}{l:aE}{F:aE}(ea:cG P An Or none a s1=some (G,l))(o:iX P An ops a s1 l=true)(okb:iX P An ops b q F=true)
  (E:s2.h=aJ s1.h l) (g:∀x∈b.op.operands,s2.get none x=s1.get none x) (k:∀x∈b.op.operands,q.get none x=s1.get none x) (r:AV×aE):cG P An Or none b s1=some r↔cG P An Or none b s2=some r:=by
 have i:=NP.1 o b B;have f:=NP.1 okb a u;simp only [M7] at i f;replace i:=i.2.1;replace f:=f.2.2;rw [hl] at i f;simp only [M8,NT,NS] at i f;simp only [jw,M7,NS] at hl;obtain⟨K,L,M,I,p⟩:∃t x y,a.guard=none/\a.op= .store t (.tmp x) y:=by rcases hl.1.2 with h | h <;> exact nW h
 have H:=nh.store (ym p ea) i;rw [<-E] at H;obtain⟨j,J,⟨tb,e,n,d,D,C⟩ | ⟨tb,d⟩⟩:=wL hl.2
 case inr=>
  simp only [rA,d] at f;rw [k (.tmp j) (by simp [d,Op.operands])] at f;split at f
  .rename_i m off hm;unfold cG gK;rw [d];dsimp only;rw [g (.tmp j) (by simp [d,Op.operands]),hm];exact H.load
  .cases f
 simp only [rA,d] at f;rw [k (.tmp j) (by simp [d,Op.operands])] at f;split at f
 .rename_i m hm;unfold cG gK;rw [d];dsimp only;rw [g (.tmp j) (by simp [d,Op.operands]),g n (by simp [d,Op.operands]),hm];unfold mz;cases(s1.get none n).t? with
  | none=>exact Pm
  | some y=>
   simp only [M6];cases gM.anyInt y with
   | none=>exact Pm
   | some z=>change (iu P s1 none tb (AV.own m) z λv=>some (v,[]))=some r↔(iu P s2 none tb (AV.own m) z λv=>some (v,[]))=some r;exact H.index D C
 .cases f
theorem B5{a b:Oper}{s1 s2:St}{us:aE}{y:aE}(hl:gR P An ops a b=true)(o:a∈ops)(p:b∈ops)(m:iX P An ops a s1 us=true)(okb:iX P An ops b s2 y=true)(v:∀k,k∉fF ops.toList->(s1.t k).2= (s2.t k).2):
  ∀x∈b.op.operands,∀i∈(s2.get none x).ids,∀q∈us,q.1≠i:=by
 have f:=NP.1 m b p;have d:=NP.1 okb a o;simp only [M7] at f d;replace f:=f.1.1.1.2;replace d:=d.1.1.2;rw [hl] at f d;simp only [M8,NT] at f d;rcases qU hl with⟨k,j,r⟩ | j
 .simp only [tB,qV,j,Nt,decide_eq_true_eq] at f d;intro x l i g q u e;have:=d x (Array.mem_toList_iff.2 l) i g;rw [<-v k r,<-e] at this;exact f q u this
 .simp only [qV,j,Nt,ON] at d;intro x l i g;rw [d x (Array.mem_toList_iff.2 l)] at g;cases g
theorem yh{o:Oper}{us:aE}(v:∀k,k∉fF ops.toList->s'.t k=s.t k)(u:∀k,fx ops o=some k\/gU ops o=some none->∀x∈o.op.operands,s'.get none x=s.get none x)(B:o.guard=none->∀x∈o.op.operands,s'.get none x=s.get none x)(h:iX P An ops o s us=true):iX P An ops o s' us=true:=by
 refine NP.2 λp hm=> ?_;have h0:=NP.1 h p hm;simp only [M7] at h0⊢;obtain⟨⟨⟨⟨q,r⟩,m⟩,K,j⟩,F,f⟩:=h0;refine⟨⟨⟨⟨?_, ?_⟩, ?_⟩,K, ?_⟩,F, ?_⟩
 .cases g:iW An ops o p with
  | false=>rfl
  | true=>obtain⟨k,L,b,G,M,I,J⟩:=yg g;rw [g] at q;simp only [M8,NT,yk,b,G,M7,Nt] at q⊢;rw [v k I,v L J];refine⟨⟨λx i=> ?_,q.1.2⟩,q.2⟩;rw [u k (.inl b) x (Array.mem_toList_iff.1 i)];exact q.1.1 x i
 .cases g:gR P An ops o p with
  | false=>rfl
  | true=>
   rw [g] at r;simp only [M8,NT] at r⊢;rcases qU g with⟨k,b,E⟩ | b
   .simp only [tB,b] at r⊢;rw [v k E];exact r
   .simp only [tB,b]
 .cases g:gR P An ops p o with
  | false=>rfl
  | true=>
   rw [g] at m;simp only [M8,NT] at m⊢;rcases qU g with⟨k,b,E⟩ | b
   .simp only [qV,b,Nt] at m⊢;rw [v k E];intro x i;rw [u k (.inl (Kv b)) x (Array.mem_toList_iff.1 i)];exact m x i
   .simp only [qV,b,Nt] at m⊢;intro x i;rw [u 0 (.inr b) x (Array.mem_toList_iff.1 i)];exact m x i
 .cases C:jU P An ops p o with
  | false=>rfl
  | true=>
   rw [C] at j;simp only [M8,NT,M7] at j⊢;refine⟨j.1, ?_⟩;have z:=j.2;simp only [jU,M7] at C;obtain⟨t,a,y,l,d⟩:=nW C.2;have b:fx ops o=some (pL ops a):=by simp [fx,l,d]
   simp only [uZ,d] at z⊢;rw [u _ (.inl b) y (by simp [d,Op.operands])];exact z
 .cases D:jw P An ops p o with
  | false=>rfl
  | true=>
   rw [D] at f;simp only [M8,NT] at f⊢;simp only [jw,M7] at D;obtain⟨a,l,⟨t,e,n,d,_,_⟩ | ⟨t,d⟩⟩:=wL D.2
   .simp only [rA,d] at f⊢;rw [B l (.tmp a) (by simp [d,Op.operands])];exact f
   .simp only [rA,d] at f⊢;rw [B l (.tmp a) (by simp [d,Op.operands])];exact f
theorem BT:∀{l d:List AV},kz l d=true->∀{k:Nat} {v:AV},qM v=true->(l[k]? =some v↔d[k]? =some v)
 | [],[],_,_,_,_=>Pm
 | [],_::_,h,_,_,_=>by cases h
 | _::_,[],h,_,_,_=>by cases h
 | c::r,c'::x,h,k,v,b=>by
  unfold kz at h;cases a:qN c c' with
  | none=>rw [a] at h;cases h
  | some q=>
  rw [a] at h;have tl:kz r x=true:=by
   cases q with
   | none=>exact h
   | some p=>simp only [M7] at h;exact h.2
  have g:∀p,q=some p->p.1=p.2:=λp e=>by subst e;simp only [M7,decide_eq_true_eq] at h;exact h.1
  have f:c=v↔c'=v:=by
   unfold qN at a;split at a
   .rename_i i o j p;by_cases e:i=j/\o=p
    .obtain⟨rfl,rfl⟩:=e;exact Pm
    .simp [e] at a
   .cases a
   .cases a
   .rename_i m y u z;by_cases e:m=u
    .subst e;simp at a;have:=g _ a.symm;simp at this;subst this;exact Pm
    .simp [e] at a
   .cases a
   .cases a
   .constructor
    .rintro rfl;unfold qM at b;split at b
     .simp_all
     .simp_all
     .cases b
    .rintro rfl;unfold qM at b;split at b
     .simp_all
     .simp_all
     .cases b
  cases k with
  | zero=>simpa using f
  | succ k=>simpa using BT tl (k:=k) b
def l6(h h':Id->Option ab):Prop:= ∀m,h' m=h m\/(∃cs a,h m=some (.box cs)/\h' m=some (.box a)/\kz cs a=true)\/
 ((∀cs,h m≠some (.box cs))/\(∀cs,h' m≠some (.box cs))/\(∀cs,h m≠some (.eI cs))/\∀cs,h' m≠some (.eI cs))
theorem BY{h h':Id->Option ab}:∀{us:aE},ji h h' us=true->∀p∈us,(∃cs d,h p.1=some (.box cs)/\h' p.1=some (.box d)/\kz cs d=true)\/
  ((∀cs,h p.1≠some (.box cs))/\(∀cs,h' p.1≠some (.box cs))/\(∀cs,h p.1≠some (.eI cs))/\∀cs,h' p.1≠some (.eI cs))
 | [],_,_,f=>by cases f
 | q::us,b,p,f=>by
  unfold ji at b;cases a:qO (h q.1) (h' q.1) with
  | none=>rw [a] at b;cases b
  | some r=>
  rw [a] at b;have tl:ji h h' us=true:=by
   cases r with
   | none=>exact b
   | some r=>simp only [M7] at b;exact b.2
  rcases Nj.1 f with rfl | f
  .generalize g:h p.1=x at a;generalize i:h' p.1=y at a;unfold qO at a;split at a
   .rename_i cs d;cases a;simp only [M7] at b;exact .inl ⟨cs,d,rfl,rfl,b.1⟩
   .cases a
   .cases a
   .cases a
   .cases a
   .exact .inr ⟨λcs e=>by simp_all,λcs e=>by simp_all,λcs e=>by simp_all,λcs e=>by simp_all⟩
  .exact BY tl p f
theorem l6.of{h:Id->Option ab}{us:aE}(d:ji h (aJ h us) us=true):l6 h (aJ h us):=by
 intro m;by_cases e:∃p∈us,p.1=m
 .obtain⟨p,a,rfl⟩:=e;exact .inr (BY d p a)
 .exact .inl (de λp a b=>e ⟨p,a,b⟩)
theorem l6.load{t:TypeId}{m:Id}{off:Nat}{v:AV}{u:aE}(H:l6 s.h s'.h)(b:qM v=true):
  fI P s none t (.ref m off) (λv=>some (v,([]:aE)))=some (v,u)↔fI P s' none t (.ref m off) (λv=>some (v,([]:aE)))=some (v,u):=by
 unfold fI;rcases H m with h | ⟨cs,B,i,j,o⟩ | ⟨p,q,r,z⟩
 .simp only [h]
 .simp only [i,j];cases bW P t with
  | false=>exact Pm
  | true=>
   simp only [cond_true];unfold kB;cases bD P t with
   | true=>
    simp only [cond_true];have no:∀l:List AV,¬((kK (P.cellsOf t) l).bind λl=>some (AV.agg l,([]:aE)))=some (v,u):=λl e=>by obtain⟨x,_,e⟩:=M2.1 e;simp only [M1,NL] at e;rw [<-e.1] at b;cases b
    exact⟨λe=>absurd e (no _),λe=>absurd e (no _)⟩
   | false=>
    simp only [cond_false,List.head?_drop];have key:=BT o (k:=off) b;constructor <;> intro e
    .obtain⟨x,d,e⟩:=M2.1 e;simp only [M1,NL] at e;obtain⟨rfl,rfl⟩:=e;rw [key.1 d];rfl
    .obtain⟨x,d,e⟩:=M2.1 e;simp only [M1,NL] at e;obtain⟨rfl,rfl⟩:=e;rw [key.2 d];rfl
 .have a:∀(s0:St),(∀cs,s0.h m≠some (.box cs))->(∀cs,s0.h m≠some (.eI cs))->fI P s0 none t (.ref m off) (λv=>some (v,([]:aE)))=none:=λs0 x y=>by
   unfold fI;cases bW P t with
   | false=>rfl
   | true=>
    dsimp only [cond_true];split
    .rename_i cs e;exact absurd e (x cs)
    .rename_i cs e;exact absurd e (y cs)
    .rfl
  have f:=a s p r;have g:=a s' q z;unfold fI at f g;rw [f,g]
theorem BI{o:Oper}(h:mA o=true):o.guard=none/\((∃t x,o.op= .load t (.tmp x))\/∃t x n,o.op= .indexAddr t (.tmp x) n):=by
 unfold mA at h;split at h
 .rename_i t x a b;exact⟨a, .inl ⟨t,x,b⟩⟩
 .rename_i t x n a b;exact⟨a, .inr ⟨t,x,n,b⟩⟩
 .cases h
theorem Ef{b:Oper}(hl:mA b=true){s1 s2:St}(g:∀x∈b.op.operands,∀k,x= .tmp k->s2.t k=s1.t k)(f:oJ b s1=true):cG P An Or none b s2=cG P An Or none b s1:=by
 have a:dT An b=false/\dO An b=false:=by obtain⟨_,⟨t,x,e⟩ | ⟨t,x,n,e⟩⟩:=BI hl <;> simp [dT,dO,e]
 refine ij (s:=s1) (s':=s2) g (.inr (.inr (.inr ⟨a.1,a.2,λx a id d=> ?_⟩)));have:=Nt.1 f x (Array.mem_toList_iff.2 a);rw [ON.1 this] at d;cases d
theorem Eg{b:Oper}(hl:mA b=true){s1 s2:St}(H:An.tC b.dst b.type=true\/(An.tD b.dst b.type=true/\l6 s1.h s2.h))(i:∀x∈b.op.operands,∀k,x= .tmp k->s2.t k=s1.t k){v:AV}{u:aE}
  (a:mD An b s1 v=true):cG P An Or none b s1=some (v,u)↔cG P An Or none b s2=some (v,u):=by
 unfold mD at a;simp only [M7] at a;rcases H with h | ⟨j,H⟩
 .have d:=a.1;rw [h,hl] at d;simp only [Bool.and_self,M8,NT] at d;rw [Ef hl i d]
 replace a:=a.2;rw [j,hl] at a;simp only [Bool.and_self,M8,NT,NS] at a;rcases a with d | f
 .rw [Ef hl i d]
 .split at f
  .rename_i t x g;simp only [M7] at f;obtain⟨e,l⟩:=f;unfold BL at e;split at e
   .rename_i m off hm;have o:s2.get none x= .ref m off:=by rw [<-hm];exact lu (i x (by simp [g,Op.operands]))
    unfold cG gK;rw [g];dsimp only;rw [hm,o];exact l6.load H l
   .cases e
  .cases f
theorem wV{o:Oper}{v:AV}(b:∀x∈o.op.operands,s'.get none x=s.get none x)(h:mD An o s v=true):mD An o s' v=true:=by
 have d:oJ o s'=oJ o s:=by
  unfold oJ;rw [Bool.eq_iff_iff,Nt,Nt];constructor
  .intro h x hm;rw [<-b x (Array.mem_toList_iff.1 hm)];exact h x hm
  .intro h x hm;rw [b x (Array.mem_toList_iff.1 hm)];exact h x hm
 unfold mD at h⊢;rw [d];simp only [M7] at h⊢;refine⟨h.1, ?_⟩;have a:=h.2;simp only [NS] at a⊢;rcases a with a | a
 .exact .inl a
 .right;split at a
  .rename_i t x e;rw [b x (by simp [e,Op.operands])];exact a
  .cases a
theorem EF{h h':Id->Option ab}:∀{us:aE} {i:Id},(∃p∈us,p.1=i)\/h i=h' i->aJ h us i=aJ h' us i
 | [],i,e=>by
  rcases e with⟨p,a,_⟩ | e
  .cases a
  .exact e
 | q::us,i,e=>by
  obtain⟨j,b⟩:=q;rw [cJ,cJ];refine EF ?_;by_cases d:i=j
  .right;subst d;rw [aC,aC]
  .rcases e with⟨p,a,rfl⟩ | e
   .rcases Nj.1 a with rfl | a
    .exact absurd rfl d
    .exact .inl ⟨p,a,rfl⟩
   .right;rw [aq _ _ d,aq _ _ d];exact e
theorem BX{h h' g a:Id->Option ab}:∀{us:aE},(∀p∈us,h p.1=h' p.1/\g p.1=a p.1)->ji h g us=ji h' a us
 | [],_=>rfl
 | p::us,e=>by have d:=BX (us:=us) λq b=>e q (M4 _ b);unfold ji;rw [(e p M3).1,(e p M3).2,d]
theorem BS{o:Oper}{h h':Id->Option ab}{us:aE}(e:∀p∈us,h p.1=h' p.1):ix An true o h us=ix An true o h' us:=by unfold ix;rw [BX λp a=>⟨e p a,EF (.inl ⟨p,a,rfl⟩)⟩]
theorem swap{listed:Array Bool}{i j:Nat}{l u:Oper}(hu:oG ops)(hgk:pn ops=true)(Z:ops[i]? =some l)(hj:ops[j]? =some u)(hne:j≠i)(hri:i∈Region.ready .any ops listed)(hrj:j∈Region.ready .any ops listed)
  (hcl:ou ops listed) (hap:l.apart ops u=true) (hcm0':oO P An l u=true\/pX P An ops l u=true) (hG:ow ops listed s) (K:eD P An Or true nt ops l s=some s1) (L:eD P An Or true nt ops u s1=some s2):
  ∃sj,eD P An Or true nt ops u s=some sj/\eD P An Or true nt ops l sj=some s2:=by
 obtain⟨I,vi,C,wi,rfl⟩:=xu K;obtain⟨G,vj,B,wj,rfl⟩:=xu L;obtain⟨hli,oi',hi',hai⟩:=mem_ready.1 hri;rw [Z] at hi';simp only [M1] at hi';subst hi';obtain⟨hlj,oj',hj',haj⟩:=mem_ready.1 hrj;rw [hj] at hj';simp only [M1] at hj';subst hj';obtain⟨a1,a2,a3⟩:=Oper.apart_spec hap;have behind:∀(o:Oper) (m:Nat),listed.getD m true=false->(∀e∈o.after,Region.binds .any e=true->listed.getD e.on false=true)->∀e∈o.after,Region.binds .any e=true->¬(e.on=m\/fT ops 12 e.on m=true):=by
  intro o m hlm hall e he hb h;rcases h with h | h
  .exact rW hlm (h▸hall e he hb)
  .have hl:=hall e he hb;cases hk:ops[e.on]? with
   | none=>simp [fT,hk] at h
   | some ok=>rw [vd hcl hlm hk (hcl e.on ok hk hl)] at h;cases h
 have noti:=behind u i hli haj;have notj:=behind l j hlj hai;have wiok:=wi.ok;have wjok:=wj.ok;simp only [lI,M8,NT,M7] at wiok wjok;obtain⟨⟨⟨i1,i2⟩,i3⟩,⟨⟨⟨⟨⟨⟨i4,i5⟩,i6⟩,i7⟩,i8⟩,i9⟩,i10⟩,i11⟩:=wiok;obtain⟨⟨⟨j1,j2⟩,j3⟩,⟨⟨⟨⟨⟨⟨j4,j5⟩,j6⟩,j7⟩,j8⟩,j9⟩,j10⟩,j11⟩:=wjok;have pli:=xG (g:=I) (v:=vi) (us:=C) hu Z hli hG (dt ops l.dst);have tj:∀k,k∈u.looksAt ops->(s.put (dt ops l.dst) l.dst I vi C).t k=s.t k:=by intro k hk;rw [pli];exact oe (b:=false) λe=>a1 k e hk
 have ti:∀(g:Option Gs) (v:AV) (us:aE) k,k∈l.looksAt ops->(s.put false u.dst g v us).t k=s.t k:=λg v us k hk=>oe (b:=false) λe=>a3 k e hk;have gj':cW ops u s some=some G:=by rw [<-wj.guard];exact(BC λx b d J U=>tj d (Ch J U)).symm
 have getj:∀x∈u.op.operands,(s.put (dt ops l.dst) l.dst I vi C).get G x=s.get G x:=λx z=>lu λk e=>tj k (eK (e▸z));have nj:mG ops G u s=true:=by rw [<-j4];exact(CC getj).symm
 have a2':∀d,u.dst=some d->l.dst≠some d:=λd h h'=>a2 d h' h;have guardA:∀(o:Oper) (g:Option Gs) (s0:St) (k:Nat),fx ops o=some k->cW ops o s0 some=some g->g=none/\dT An o=false/\dO An o=false:=by
  intro o g s0 k h M;unfold fx at h;split at h
  .rename_i J U;unfold cW at M;rw [J] at M;simp only [M1] at M;exact⟨M.symm,by simp [dT,U],by simp [dO,U]⟩
  .rename_i J U;unfold cW at M;rw [J] at M;simp only [M1] at M;exact⟨M.symm,by simp [dT,U],by simp [dO,U]⟩
  .cases h
 have al_w:∀o:Oper,gQ o=true->aF P An o=false:=by intro o h;cases hop:o.op <;> simp only [gQ,hop,NA] at h <;> simp [aF,hop]
 have w_r:∀o:Oper,aF P An o=false->dT An o=false:=by
  intro o h;cases hr:dT An o with
  | false=>rfl
  | true=>
   exfalso;cases hop:o.op <;> simp only [dT,hop,NA] at hr;rename_i cl;cases hcal:cl.callee <;> simp only [hcal,NA] at hr;rename_i fo;simp only [aF,hop,hcal] at h;cases fo with
   | func f=>
    dsimp only at h hr;cases hb:An.gf f with
    | none=>rw [hb] at hr;simp at hr
    | some x=>rw [hb] at h;simp at h
   | _=>dsimp only at h hr;rw [h] at hr;cases hr
 have notmine:∀(o:Oper) (us:aE) (m:Nat) (om:Oper),ops[m]? =some om->(∀e∈o.after,Region.binds .any e=true->¬(e.on=m\/fT ops 12 e.on m=true))->qd ops o us=true->(∀d,om.dst=some d->o.dst≠some d)->∀q∈us,∀d k,om.dst=some d->q.1≠ .s d k:=by
  intro o us m om hm hnot hok hdst q D d k hd e;have J:=Nt.1 hok q D;rw [e] at J;simp only [NS] at J;rcases J with J | J
  .unfold oL at J;have h3:=Nt.1 J m (PX.2 (Pw.1 hm).1);rw [hm] at h3;simp only [hd,BEq.rfl,M8,NT] at h3;obtain⟨e',he,hb⟩:=Pg.1 h3;simp only [M7,NS,beq_iff_eq] at hb;exact hnot e' he hb.1 hb.2
  .exact hdst d hd (by simpa using J)
 have ltd:∀(o:Oper),(match o.dst with | some d=>decide (d < nt) | none=>true)=true->Nat.ble nt 1000000=true->∀d,o.dst=some d->d < 1000000:=by intro o J U d hd;rw [hd] at J;simp only [decide_eq_true_eq] at J;exact N8 J (Nat.le_of_ble_eq_true U)
 have guardB:∀(o:Oper) (g:Option Gs) (s0:St) (k:Nat),(fx ops o=some k\/gU ops o=some none)->cW ops o s0 some=some g->g=none:=by
  intro o g s0 k h M;rcases h with h | h
  .exact(guardA o g s0 k h M).1
  .have J:=Ku h;unfold cW at M;rw [J] at M;simp only [M1] at M;exact M.symm
 have three:cG P An Or G u s=some (vj,B)/\cG P An Or I l (s.put false u.dst G vj B)=some (vi,C)/\(∀p∈C,∀q∈B,p.1≠q.1):=by
  rcases hcm0' with hcm | hst
  .skip
   have hcm0:=hcm;unfold oO at hcm0;simp only [M7] at hcm0;obtain⟨⟨hcm1,hcd1⟩,hcd2⟩:=hcm0;have hcm':(aF P An l=false\/eJ P u=true\/gQ u=true)/\(aF P An u=false\/eJ P l=true\/gQ l=true):=by simp only [N4,OF,Bool.and_eq_false_iff,PY,NS] at hcm1;exact hcm1
   have hdi:dO An l=false\/B= []:=by
    simp only [NS,N4] at hcd1;rcases hcd1 with h | h
    .exact .inl h
    .right;simpa [h] using j7
   have hdj:dO An u=false\/C= []:=by
    simp only [NS,N4] at hcd2;rcases hcd2 with h | h
    .exact .inl h
    .right;simpa [h] using i7
   have purei:eJ P l=true->C= []:=λh=>by simpa [h] using i6
   have purej:eJ P u=true->B= []:=λh=>by simpa [h] using j6
   have opj:cG P An Or G u s=some (vj,B):=by
    have old:eJ P u=true\/gQ u=true\/aJ s.h C=s.h\/(dT An u=false/\dO An u=false/\∀x∈u.op.operands,∀id∈(s.get G x).ids,aJ s.h C id=s.h id)->cG P An Or G u s=some (vj,B):=by intro h;rw [<-wj.op];exact(ij (s:=s) (s':=s.put (dt ops l.dst) l.dst I vi C) (λx z k e=>tj k (eK (e▸z))) h).symm
    rcases hcm'.1 with hw | F | F
    case inr.inl=>exact old (.inl F)
    case inr.inr=>exact old (.inr (.inl F))
    have Q:jn l C=true:=by simpa [hw] using i5
    have direct:∀x∈u.op.operands,∀id∈(s.get G x).ids,∀q∈C,q.1≠id:=by intro x z id E q D e;obtain⟨d,k,K,L⟩:=fu Q ⟨q,D,e⟩;subst K;obtain⟨ed,he,hb,ho⟩:=tJ nj z E Z L;exact noti ed he hb ho
    rcases hdj with hdj | hdj
    case inr=>exact old (.inr (.inr (.inl (by rw [hdj];rfl))))
    rcases hcm'.2 with hwj | hpi | hai'
    .exact old (.inr (.inr (.inr ⟨w_r u hwj,hdj,λx z id E=>de λq D e=>direct x z id E q D e⟩)))
    .exact old (.inr (.inr (.inl (by rw [purei hpi];rfl))))
    .cases hwj:aF P An u with
     | false=>exact old (.inr (.inr (.inr ⟨w_r u hwj,hdj,λx z id E=>de λq D e=>direct x z id E q D e⟩)))
     | true=>
      have hus:qd ops u B=true:=by simpa [hwj] using j8
      refine sC (s:=s.put (dt ops l.dst) l.dst I vi C) (s':=s) (N:=λi=>∃q∈C,q.1=i) (λx z k e=>(tj k (eK (e▸z))).symm) (λi Z=> ?_) hdj (λx z id E=> ?_) (λk=> ?_) (λp F=> ?_) wj.op
      .exact(de λq D e=>Z ⟨q,D,e⟩).symm
      .rw [getj x z] at E;rintro⟨q,D,e⟩;exact direct x z id E q D e
      .rintro⟨q,D,e⟩;obtain⟨d,k',K,L⟩:=fu Q ⟨q,D,e⟩;simp only [Id.s.injEq] at K;have h:=ltd l i1 i9 d L;rw [<-K.1] at h;exact absurd h (Qe.2 (NQ (by decide) (Pt 2000000 _)))
      .rintro⟨q,D,e⟩;obtain⟨d,k',K,L⟩:=fu Q ⟨q,D,rfl⟩;exact notmine u B i l Z noti hus a2 p F d k' L (by rw [<-e,K])
   have opi:cG P An Or I l (s.put false u.dst G vj B)=some (vi,C):=by
    have old:eJ P l=true\/gQ l=true\/aJ s.h B=s.h\/(dT An l=false/\dO An l=false/\∀x∈l.op.operands,∀id∈(s.get I x).ids,aJ s.h B id=s.h id)->cG P An Or I l (s.put false u.dst G vj B)=some (vi,C):=by intro h;rw [<-wi.op];exact ij (λx z k e=>ti _ _ _ k (eK (e▸z))) h
    rcases hcm'.2 with hw | F | F
    case inr.inl=>exact old (.inl F)
    case inr.inr=>exact old (.inr (.inl F))
    have Q:jn u B=true:=by simpa [hw] using j5
    have direct:∀x∈l.op.operands,∀id∈(s.get I x).ids,∀q∈B,q.1≠id:=by intro x z id E q D e;obtain⟨d,k,K,L⟩:=fu Q ⟨q,D,e⟩;subst K;obtain⟨ed,he,hb,ho⟩:=tJ i4 z E hj L;exact notj ed he hb ho
    rcases hdi with hdi | hdi
    case inr=>exact old (.inr (.inr (.inl (by rw [hdi];rfl))))
    rcases hcm'.1 with hwi | hpj | haj'
    .exact old (.inr (.inr (.inr ⟨w_r l hwi,hdi,λx z id E=>de λq D e=>direct x z id E q D e⟩)))
    .exact old (.inr (.inr (.inl (by rw [purej hpj];rfl))))
    .cases hwi:aF P An l with
     | false=>exact old (.inr (.inr (.inr ⟨w_r l hwi,hdi,λx z id E=>de λq D e=>direct x z id E q D e⟩)))
     | true=>
      have hus:qd ops l C=true:=by simpa [hwi] using i8
      refine sC (s:=s) (s':=s.put false u.dst G vj B) (N:=λi=>∃q∈B,q.1=i) (λx z k e=>ti _ _ _ k (eK (e▸z))) (λi Z=> ?_) hdi (λx z id E=> ?_) (λk=> ?_) (λp F=> ?_) wi.op
      .exact de λq D e=>Z ⟨q,D,e⟩
      .rintro⟨q,D,e⟩;exact direct x z id E q D e
      .rintro⟨q,D,e⟩;obtain⟨d,k',K,L⟩:=fu Q ⟨q,D,e⟩;simp only [Id.s.injEq] at K;have h:=ltd u j1 j9 d L;rw [<-K.1] at h;exact absurd h (Qe.2 (NQ (by decide) (Pt 2000000 _)))
      .rintro⟨q,D,e⟩;obtain⟨d,k',K,L⟩:=fu Q ⟨q,D,rfl⟩;exact notmine l C j u hj notj hus a2' p F d k' L (by rw [<-e,K])
   have disj:∀p∈C,∀q∈B,p.1≠q.1:=by
    intro p F q D e;rcases hcm'.1 with hw | hpj | haj'
    .rcases hcm'.2 with hw' | hpi | hai'
     .obtain⟨d,k,K,L⟩:=fu (by simpa [hw] using i5:jn l C=true) ⟨p,F,rfl⟩;obtain⟨d',k',e3,e4⟩:=fu (by simpa [hw'] using j5:jn u B=true) ⟨q,D,rfl⟩;rw [K,e3] at e;simp only [Id.s.injEq] at e;obtain⟨rfl,_⟩:=e;exact a2 d L e4
     .rw [purei hpi] at F;cases F
     .obtain⟨d,k,K,L⟩:=fu (by simpa [hw] using i5:jn l C=true) ⟨p,F,rfl⟩;cases hwj:aF P An u with
      | false=>obtain⟨d',k',e3,e4⟩:=fu (by simpa [hwj] using j5:jn u B=true) ⟨q,D,rfl⟩;rw [K,e3] at e;simp only [Id.s.injEq] at e;obtain⟨rfl,_⟩:=e;exact a2 d L e4
      | true=>exact notmine u B i l Z noti (by simpa [hwj] using j8) a2 q D d k L (by rw [<-e,K])
    .rw [purej hpj] at D;cases D
    .obtain⟨d,k,K,L⟩:=fu (by simpa [al_w u haj'] using j5:jn u B=true) ⟨q,D,rfl⟩;cases hwi:aF P An l with
     | false=>obtain⟨d',k',e3,e4⟩:=fu (by simpa [hwi] using i5:jn l C=true) ⟨p,F,rfl⟩;rw [K,e3] at e;simp only [Id.s.injEq] at e;obtain⟨rfl,_⟩:=e;exact a2 d' e4 L
     | true=>exact notmine l C j u hj notj (by simpa [hwi] using i8) a2' p F d k L (by rw [e,K])
   exact⟨opj,opi,disj⟩
  .have hst3:((((iW An ops l u=true\/gR P An ops l u=true)\/gR P An ops u l=true)\/(jU P An ops l u=true\/jU P An ops u l=true))\/(jw P An ops l u=true\/jw P An ops u l=true))\/(pY An l u=true\/pY An u l=true):=by
    unfold pX at hst;simpa only [NS] using hst
   rcases hst3 with hst2 | hst6
   case inr=>
    have lq:∀o,mA o=true->o.guard=none/\lL P An o=true/\eJ P o=false:=λo h=>by
     obtain⟨J,⟨t,x,U⟩ | ⟨t,x,n,U⟩⟩:=BI h
     .exact⟨J,by simp [lL,U],by simp [eJ,U]⟩
     .exact⟨J,by simp [lL,U],by simp [eJ,U]⟩
    have gn:∀(o:Oper) (g:Option Gs) (s0:St),o.guard=none->cW ops o s0 some=some g->g=none:=by intro o g s0 J M;unfold cW at M;rw [J] at M;simp only [M1] at M;exact M.symm
    have kp:∀(o:Oper) (h0:Id->Option ab) (us:aE),An.oN o.dst o.type=true->ix An true o h0 us=true->l6 h0 (aJ h0 us):=λo h0 us J U=>by unfold ix at U;rw [J] at U;exact l6.of (by simpa using U)
    rcases hst6 with h6 | h6
    .simp only [pY,M7] at h6;obtain⟨hlx,hil⟩:=h6;simp only [NS,M7] at hlx;obtain⟨gdj,qj,_⟩:=lq u hil;have gnj:=gn u G s gdj gj';have uj:B= []:=by simpa [qj] using j7
     have ejop:=wj.op;rw [gnj] at ejop;refine⟨?_, ?_,λp F q D=>by rw [uj] at D;cases D⟩
     .rw [gnj];refine(Eg hil (hlx.symm.imp id λh=>⟨h.2,kp l s.h C h.1 wi.dE⟩) (λx z k e=> ?_) ?_).2 ejop
      .exact tj k (eK (e▸z))
      .refine wV (λx z=> ?_) j11;have h:=getj x z;rw [gnj] at h;exact h.symm
     .rw [<-wi.op];exact ij (λx z k e=>ti _ _ _ k (eK (e▸z))) (.inr (.inr (.inl (by rw [uj];rfl))))
    .simp only [pY,M7] at h6;obtain⟨hlx,hil⟩:=h6;simp only [NS,M7] at hlx;obtain⟨gdi,qi,_⟩:=lq l hil;have gni:=gn l I s gdi wi.guard;have ui:C= []:=by simpa [qi] using i7
     have eiop:=wi.op;rw [gni] at eiop;have opj:cG P An Or G u s=some (vj,B):=by rw [<-wj.op];exact(ij (s:=s) (s':=s.put (dt ops l.dst) l.dst I vi C) (λx z k e=>tj k (eK (e▸z))) (.inr (.inr (.inl (by rw [ui];rfl))))).symm
     refine⟨opj, ?_,λp F=>by rw [ui] at F;cases F⟩;rw [gni];have hk:ix An true u s.h B=true:=by have:=wj.dE;rw [ui] at this;exact this
     exact(Eg hil (hlx.symm.imp id λh=>⟨h.2,kp u s.h B h.1 hk⟩) (λx z k e=>ti _ _ _ k (eK (e▸z))) i11).1 eiop
   rcases hst2 with hst1 | hst5
   case inr=>
    have ixq:∀o,tw P o=true->o.guard=none/\lL P An o=true/\eJ P o=false:=λo h=>by
     obtain⟨a,J,⟨t,e,n,U,_⟩ | ⟨t,U⟩⟩:=wL h
     .exact⟨J,by simp [lL,U],by simp [eJ,U]⟩
     .exact⟨J,by simp [lL,U],by simp [eJ,U]⟩
    have gn:∀(o:Oper) (g:Option Gs) (s0:St),o.guard=none->cW ops o s0 some=some g->g=none:=by intro o g s0 J M;unfold cW at M;rw [J] at M;simp only [M1] at M;exact M.symm
    have stg:∀o,(iw P o true=true\/iw P o false=true)->o.guard=none/\dT An o=false/\dO An o=false:=λo h=>by
     obtain⟨t,a,y,J,U⟩:∃t a y,o.guard=none/\o.op= .store t (.tmp a) y:=by rcases h with h | h <;> exact nW h
     exact⟨J,by simp [dT,U],by simp [dO,U]⟩
    rcases hst5 with h5 | h5
    .have h5':=h5;simp only [jw,M7,NS] at h5';obtain⟨gdi,ri,di⟩:=stg l h5'.1.2;obtain⟨gdj,qj,_⟩:=ixq u h5'.2;have gni:=gn l I s gdi wi.guard;have gnj:=gn u G s gdj gj';have uj:B= []:=by simpa [qj] using j7
     have eiop:=wi.op;have ejop:=wj.op;rw [gni] at eiop;rw [gnj] at ejop;have hget:∀x∈u.op.operands,(s.put (dt ops l.dst) l.dst I vi C).get none x=s.get none x:=λx z=>by have:=getj x z;rwa [gnj] at this
     refine⟨?_, ?_,λp F q D=>by rw [uj] at D;cases D⟩
     .rw [gnj];exact(Ee h5 (NC Z) (NC hj) eiop i10 j10 rfl hget hget _).2 ejop
     .rw [<-wi.op];exact ij (λx z k e=>ti _ _ _ k (eK (e▸z))) (.inr (.inr (.inl (by rw [uj];rfl))))
    .have h5':=h5;simp only [jw,M7,NS] at h5';obtain⟨gdj,rj,dj⟩:=stg u h5'.1.2;obtain⟨gdi,qi,_⟩:=ixq l h5'.2;have gni:=gn l I s gdi wi.guard;have gnj:=gn u G s gdj gj';have ui:C= []:=by simpa [qi] using i7
     have eiop:=wi.op;rw [gni] at eiop;have opj:cG P An Or G u s=some (vj,B):=by rw [<-wj.op];exact(ij (s:=s) (s':=s.put (dt ops l.dst) l.dst I vi C) (λx z k e=>tj k (eK (e▸z))) (.inr (.inr (.inl (by rw [ui];rfl))))).symm
     have geti:∀x∈l.op.operands,(s.put false u.dst G vj B).get none x=s.get none x:=λx z=>lu λk e=>ti _ _ _ k (eK (e▸z));have okj:iX P An ops u s B=true:=by
      refine yh (λk hk=> ?_) (λk hk x z=> ?_) (λM x z=> ?_) j10
      .rw [pli];exact(oe (b:=false) λe=>hk (nJ e ops.toList (Array.mem_toList_iff.2 (NC Z)))).symm
      .have h:=getj x z;rw [gnj] at h;exact h.symm
      .have h:=getj x z;rw [gnj] at h;exact h.symm
     refine⟨opj, ?_,λp F=>by rw [ui] at F;cases F⟩;rw [gni];rw [gnj] at opj;exact(Ee h5 (NC hj) (NC Z) opj okj i10 rfl geti (λ_ _=>rfl) _).1 eiop
   have hst1:=hst1;rcases hst1 with hst0 | hst4
   case inr=>
    have both:∀o,(iw P o true=true\/iw P o false=true)->∃t a y,o.guard=none/\o.op= .store t (.tmp a) y:=λo h=>by
     rcases h with h | h
     .exact nW h
     .exact nW h
    have si:(iw P l true=true\/iw P l false=true)/\(iw P u true=true\/iw P u false=true):=by
     rcases hst4 with h | h <;> simp only [jU,M7] at h
     .exact⟨.inl h.1.2, .inr h.2⟩
     .exact⟨.inr h.2, .inl h.1.2⟩
    obtain⟨ti',xi,yi,gdi,opi'⟩:=both l si.1;obtain⟨tj',xj,yj,gdj,opj'⟩:=both u si.2;have hki:fx ops l=some (pL ops xi):=by simp [fx,gdi,opi']
    have hkj:fx ops u=some (pL ops xj):=by simp [fx,gdj,opj']
    obtain⟨gni,ri,di⟩:=guardA l I s _ hki wi.guard;obtain⟨gnj,rj,dj⟩:=guardA u G s _ hkj gj';have eiop:=wi.op;have ejop:=wj.op;rw [gni] at eiop;rw [gnj] at ejop;have hres:(∀p∈C,∀q∈B,p.1≠q.1)/\(∀x∈l.op.operands,∀i∈(s.get none x).ids,∃p∈C,p.1=i)/\(∀x∈u.op.operands,∀i∈((s.put (dt ops l.dst) l.dst I vi C).get none x).ids,∃p∈B,p.1=i):=by
     rcases hst4 with h | h
     .exact Ed h (NC Z) (NC hj) eiop ejop i10 j10 (.inl rfl)
     .obtain⟨r1,r2,r3⟩:=Ed h (NC hj) (NC Z) ejop eiop j10 i10 (.inr rfl);exact⟨λp F q D e=>r1 q D p F e.symm,r3,r2⟩
    obtain⟨d1,d2,d3⟩:=hres;refine⟨?_, ?_,d1⟩
    .rw [<-wj.op];refine(ij (s:=s) (s':=s.put (dt ops l.dst) l.dst I vi C) (λx z k e=>tj k (eK (e▸z))) (.inr (.inr (.inr ⟨rj,dj,λx z id E=> ?_⟩)))).symm;refine de λq D e=> ?_;rw [<-getj x z,gnj] at E;obtain⟨p,F,L⟩:=d3 x z id E;exact d1 q D p F (e.trans L.symm)
    .rw [<-wi.op];refine ij (λx z k e=>ti _ _ _ k (eK (e▸z))) (.inr (.inr (.inr ⟨ri,di,λx z id E=> ?_⟩)));refine de λq D e=> ?_;rw [gni] at E;obtain⟨p,F,L⟩:=d2 x z id E;exact d1 p F q D (L.trans e.symm)
   have tk:∀k,k∉fF ops.toList->(s.put (dt ops l.dst) l.dst I vi C).t k=s.t k:=λk dk=>by rw [pli];exact oe (b:=false) λe=>dk (nJ e ops.toList (Array.mem_toList_iff.2 (NC Z)))
   have gnone:∀(o:Oper) (g:Option Gs) (s0:St),o.guard=none->cW ops o s0 some=some g->g=none:=by intro o g s0 J M;unfold cW at M;rw [J] at M;simp only [M1] at M;exact M.symm
   rcases hst0 with(hst | hld) | hld
   rotate_left
   ·
    obtain⟨ga,wa,ra,da⟩:=B3 hld;obtain⟨rb',hrb'⟩:∃r,gU ops u=some r:=by rcases qU hld with⟨k,hk,_⟩ | hk <;> exact⟨_,hk⟩
    obtain⟨gb,wb,rb,db⟩:=Dt (P:=P) (An:=An) (B4 hld) hrb';have gni:=gnone l I s ga wi.guard;have gnj:=gnone u G s gb gj';have Q:jn u B=true:=by simpa [wb] using j5
    have hus:qd ops l C=true:=by simpa [wa] using i8
    have hap2:=B5 hld (NC Z) (NC hj) i10 j10 (λk hk=>by rw [tk k hk]);refine⟨?_, ?_, ?_⟩
    .rw [<-wj.op];refine(ij (s:=s) (s':=s.put (dt ops l.dst) l.dst I vi C) (λx z k e=>tj k (eK (e▸z))) (.inr (.inr (.inr ⟨rb,db,λx z id E=> ?_⟩)))).symm;refine de λq D e=> ?_;rw [<-getj x z,gnj] at E;exact hap2 x z id E q D e
    .refine sC (s:=s) (s':=s.put false u.dst G vj B) (N:=λi=>∃q∈B,q.1=i) (λx z k e=>ti _ _ _ k (eK (e▸z))) (λi Z=> ?_) da (λx z id E=> ?_) (λk=> ?_) (λp F=> ?_) wi.op
     .exact de λq D e=>Z ⟨q,D,e⟩
     .rintro⟨q,D,e⟩;obtain⟨d,k,K,L⟩:=fu Q ⟨q,D,e⟩;subst K;obtain⟨ed,he,hb,ho⟩:=tJ i4 z E hj L;exact notj ed he hb ho
     .rintro⟨q,D,e⟩;obtain⟨d,k',K,L⟩:=fu Q ⟨q,D,e⟩;simp only [Id.s.injEq] at K;have h:=ltd u j1 j9 d L;rw [<-K.1] at h;exact absurd h (Qe.2 (NQ (by decide) (Pt 2000000 _)))
     .rintro⟨q,D,e⟩;obtain⟨d,k',K,L⟩:=fu Q ⟨q,D,rfl⟩;exact notmine l C j u hj notj hus a2' p F d k' L (by rw [<-e,K])
    .intro p F q D e;obtain⟨d,k,K,L⟩:=fu Q ⟨q,D,rfl⟩;exact notmine l C j u hj notj hus a2' p F d k L (by rw [e,K])
   ·
    obtain⟨ga,wa,ra,da⟩:=B3 hld;obtain⟨rb',hrb'⟩:∃r,gU ops l=some r:=by rcases qU hld with⟨k,hk,_⟩ | hk <;> exact⟨_,hk⟩
    obtain⟨gb,wb,rb,db⟩:=Dt (P:=P) (An:=An) (B4 hld) hrb';have gni:=gnone l I s gb wi.guard;have gnj:=gnone u G s ga gj';have Q:jn l C=true:=by simpa [wb] using i5
    have hus:qd ops u B=true:=by simpa [wa] using j8
    have hap2:=B5 hld (NC hj) (NC Z) j10 i10 (λk hk=>by rw [tk k hk]);refine⟨?_, ?_, ?_⟩
    .refine sC (s:=s.put (dt ops l.dst) l.dst I vi C) (s':=s) (N:=λi=>∃q∈C,q.1=i) (λx z k e=>(tj k (eK (e▸z))).symm) (λi Z=> ?_) da (λx z id E=> ?_) (λk=> ?_) (λp F=> ?_) wj.op
     .exact(de λq D e=>Z ⟨q,D,e⟩).symm
     .rw [getj x z] at E;rintro⟨q,D,e⟩;obtain⟨d,k,K,L⟩:=fu Q ⟨q,D,e⟩;subst K;obtain⟨ed,he,hb,ho⟩:=tJ nj z E Z L;exact noti ed he hb ho
     .rintro⟨q,D,e⟩;obtain⟨d,k',K,L⟩:=fu Q ⟨q,D,e⟩;simp only [Id.s.injEq] at K;have h:=ltd l i1 i9 d L;rw [<-K.1] at h;exact absurd h (Qe.2 (NQ (by decide) (Pt 2000000 _)))
     .rintro⟨q,D,e⟩;obtain⟨d,k',K,L⟩:=fu Q ⟨q,D,rfl⟩;exact notmine u B i l Z noti hus a2 p F d k' L (by rw [<-e,K])
    .rw [<-wi.op];refine ij (λx z k e=>ti _ _ _ k (eK (e▸z))) (.inr (.inr (.inr ⟨rb,db,λx z id E=> ?_⟩)));refine de λq D e=> ?_;rw [gni] at E;exact hap2 x z id E q D e
    .intro p F q D e;obtain⟨d,k,K,L⟩:=fu Q ⟨p,F,rfl⟩;exact notmine u B i l Z noti hus a2 q D d k L (by rw [<-e,K])
   obtain⟨k,k',sk,sk',nek,dk,dk'⟩:=yg hst;obtain⟨gni,ri,di⟩:=guardA l I s k sk wi.guard;obtain⟨gnj,rj,dj⟩:=guardA u G s k' sk' gj';have hst':iW An ops u l=true:=Mh hst;obtain⟨p1,p2,p3⟩:=Eh i10 (NC hj) hst sk sk';obtain⟨q1,q2,q3⟩:=Eh j10 (NC Z) hst' sk' sk;replace tk:=tk k dk;have tk':(s.put (dt ops l.dst) l.dst I vi C).t k'=s.t k':=by rw [pli];exact oe (b:=false) λe=>dk' (nJ e ops.toList (Array.mem_toList_iff.2 (NC Z)))
   rw [tk] at q3;rw [tk'] at q2;refine⟨?_, ?_,λp F q D e=>q3 q D (e▸p2 p F)⟩
   .rw [<-wj.op];refine(ij (s:=s) (s':=s.put (dt ops l.dst) l.dst I vi C) (λx z k e=>tj k (eK (e▸z))) (.inr (.inr (.inr ⟨rj,dj,λx z id E=> ?_⟩)))).symm;refine de λq D e=> ?_;rw [<-getj x z,gnj] at E;have:=q1 x z id E;rw [tk'] at this;exact p3 q D (e▸this)
   .rw [<-wi.op];refine ij (λx z k e=>ti _ _ _ k (eK (e▸z))) (.inr (.inr (.inr ⟨ri,di,λx z id E=> ?_⟩)));refine de λq D e=> ?_;rw [gni] at E;exact q3 q D (e▸p1 x z id E)
 obtain⟨opj,opi,disj⟩:=three;have sj10:iX P An ops u s B=true:=by
  refine yh (λk hk=> ?_) (λk hk x z=> ?_) (λM x z=> ?_) j10
  .rw [pli];exact(oe (b:=false) λe=>hk (nJ e ops.toList (Array.mem_toList_iff.2 (NC Z)))).symm
  .have:=guardB u G s k hk gj';have h:=getj x z;rw [this] at h;exact h.symm
  .have hgn:G=none:=by
    have h:=gj';unfold cW at h;rw [M] at h;simp only [M1] at h;exact h.symm
   have h:=getj x z;rw [hgn] at h;exact h.symm
 have frj:gq (u.dst.getD 0) s.h B=true:=by
  unfold gq at j3⊢;refine Nt.2 λp F=> ?_;have:=Nt.1 j3 p F;split at this
  .simp only [NS,O9] at this⊢;rcases this with h | h
   .exact .inl h
   .exact .inr (uK h).2
  .rfl
  .cases this
 have lj11:mD An u s vj=true:=by refine wV (λx z=> ?_) j11;exact(lu λk e=>tj k (eK (e▸z))).symm
 have kj:ix An true u s.h B=true:=by refine(BS λp F=> ?_).trans wj.dE;show s.h p.1=aJ s.h C p.1;rw [de λq D e=>disj q D p F e]
 have wj0:qm P An Or nt ops u s G vj B:=⟨gj',opj,by
  simp only [lI,M8,NT,M7];exact⟨⟨⟨j1,j2⟩,frj⟩,⟨⟨⟨⟨⟨⟨nj,j5⟩,j6⟩,j7⟩,j8⟩,j9⟩,sj10⟩,lj11⟩,kj⟩
 have plj:=xG (g:=G) (v:=vj) (us:=B) hu hj hlj hG (dt ops u.dst);refine⟨_,wj0.eD, ?_⟩;rw [plj];have gi':cW ops l (s.put false u.dst G vj B) some=some I:=by rw [<-wi.guard];exact BC λx b d J U=>ti _ _ _ d (Ch J U)
 have geti:∀x∈l.op.operands,(s.put false u.dst G vj B).get I x=s.get I x:=λx z=>lu λk e=>ti _ _ _ k (eK (e▸z));have ni:mG ops I l (s.put false u.dst G vj B)=true:=by rw [<-i4];exact CC geti
 have fri:gq (l.dst.getD 0) (s.put false u.dst G vj B).h C=true:=by
  unfold gq at i3⊢;refine Nt.2 λp F=> ?_;have:=Nt.1 i3 p F;split at this
  .rename_i d k ep;simp only [NS,O9] at this⊢;rcases this with h | h
   .exact .inl h
   .right;show aJ s.h B p.1=none;rw [de λq D e=>disj p F q D e.symm];exact h
  .rfl
  .cases this
 have si10:iX P An ops l (s.put false u.dst G vj B) C=true:=by
  refine yh (λk hk=> ?_) (λk hk x z=> ?_) (λM x z=> ?_) i10
  .exact oe (b:=false) λe=>hk (nJ e ops.toList (Array.mem_toList_iff.2 (NC hj)))
  .have:=guardB l I s k hk wi.guard;have h:=geti x z;rw [this] at h;exact h
  .have hgn:I=none:=by
    have h:=wi.guard;unfold cW at h;rw [M] at h;simp only [M1] at h;exact h.symm
   have h:=geti x z;rw [hgn] at h;exact h
 have li11:mD An l (s.put false u.dst G vj B) vi=true:=by refine wV (λx z=> ?_) i11;exact lu λk e=>ti _ _ _ k (eK (e▸z))
 have ki:ix An true l (s.put false u.dst G vj B).h C=true:=by refine(BS λp F=> ?_).trans wi.dE;show aJ s.h B p.1=s.h p.1;rw [de λq D e=>disj p F q D e.symm]
 have wi0:qm P An Or nt ops l (s.put false u.dst G vj B) I vi C:=⟨gi',opi,by
  simp only [lI,M8,NT,M7];exact⟨⟨⟨i1,i2⟩,fri⟩,⟨⟨⟨⟨⟨⟨ni,i5⟩,i6⟩,i7⟩,i8⟩,i9⟩,si10⟩,li11⟩,ki⟩
 rw [wi0.eD,pli];have dij:∀d,l.dst=some d->u.dst≠some d:=a2;have dB:∀(g:Option Gs) (o:Oper) (m:Nat) (om:Oper),ops[m]? =some om->listed.getD m true=false->cW ops o s some=some g->o∈ops->(∀e∈o.after,Region.binds .any e=true->listed.getD e.on false=true)->∀gs,g=some gs->om.dst≠some gs.d:=by
  intro g o m om hom hlm V hmem hall gs hgs hd;unfold cW at V;cases hog:o.guard with
  | none=>rw [hog] at V;simp only [M1] at V;rw [hgs] at V;cases V
  | some p=>
   obtain⟨jj,b⟩:=p;rw [hog] at V;simp only at V;cases hdd:(ops[jj]?).bind (·.dst) with
   | none=>rw [hdd] at V;simp at V
   | some d=>
    rw [hdd] at V;simp only at V;replace V:=M2.1 V;obtain⟨x,_,V⟩:=V;obtain⟨bb,V,_⟩:=nT V;simp only [M1] at V;rw [hgs] at V;simp only [M1] at V;have hgd:gs.d=d:=by rw [<-V]
    rw [hgd] at hd;obtain⟨ojj,J,U⟩:=M2.1 hdd;have:=hu hom J hd U;subst this;have hge:=NP.1 hgk o hmem;rw [hog] at hge;simp only at hge;obtain⟨e,he,hb⟩:=Pg.1 hge;simp only [M7,beq_iff_eq] at hb;exact rW hlm (hb.2▸hall e he hb.1)
 have nogi:=dB I l j u hj hlj wi.guard (NC Z) hai;have nogj:=dB G u i l Z hli gj' (NC hj) haj;have nos:∀(m:Nat) (om:Oper),ops[m]? =some om->listed.getD m true=false->∀k g v,s.t k= (some g,v)->om.dst≠some g.d:=by intro m om hom hlm k g v hst hd;obtain⟨x,ox,J,U,h3⟩:=hG k g v hst;have:=hu hom J hd h3;subst this;exact rW hlm U
 have tcomm:∀(bi bj:Bool),((s.put false u.dst G vj B).put bi l.dst I vi C).t= ((s.put false l.dst I vi C).put bj u.dst G vj B).t:=by
  intro bi bj;funext k;cases hdi:l.dst with
  | none=>
   cases hdj:u.dst with
   | none=>rfl
   | some dj=>
    simp only [St.put];by_cases ek:k=dj
    .simp [ek]
    .simp only [if_neg ek,cond_false];cases bj with
     | false=>rfl
     | true=>
      simp only [cond_true];cases hst:s.t k with
      | mk gk vk=>
       cases gk with
       | none=>rfl
       | some gk=>
        have:=nos j u hj hlj k gk vk hst;rw [hdj] at this;have hb:(gk.d==dj)=false:=by simp only [beq_eq_false_iff_ne,ne_eq];exact λe=>this (by rw [e])
        simp [ko,hb]
  | some di=>
   cases hdj:u.dst with
   | none=>
    simp only [St.put];by_cases ek:k=di
    .simp [ek]
    .simp only [if_neg ek,cond_false];cases bi with
     | false=>rfl
     | true=>
      simp only [cond_true];cases hst:s.t k with
      | mk gk vk=>
       cases gk with
       | none=>rfl
       | some gk=>
        have:=nos i l Z hli k gk vk hst;rw [hdi] at this;have hb:(gk.d==di)=false:=by simp only [beq_eq_false_iff_ne,ne_eq];exact λe=>this (by rw [e])
        simp [ko,hb]
   | some dj=>
    have hne':di≠dj:=λe=>dij di hdi (by rw [hdj,e]);simp only [St.put];have drop1:∀(b:Bool) (g:Option Gs) (v:AV) (d:Nat),(∀gs,g=some gs->gs.d≠d)->cond b (ko d (g,v)) (g,v)= (g,v):=by
     intro b g v d M;cases b with
     | false=>rfl
     | true=>
      cases g with
      | none=>rfl
      | some gs=>
       have hb:(gs.d==d)=false:=by simpa using M gs rfl
       simp [ko,hb]
    by_cases eki:k=di
    .subst eki;simp only [if_true,if_neg hne',cond_false];rw [drop1 bj I vi dj λgs e h=>nogi gs e (by rw [hdj,h])]
    .by_cases ekj:k=dj
     .subst ekj;simp only [if_true,if_neg eki,cond_false];rw [drop1 bi G vj di λgs e h=>nogj gs e (by rw [hdi,h])]
     .simp only [if_neg eki,if_neg ekj,cond_false];cases hst:s.t k with
      | mk gk vk=>rw [drop1 bi gk vk di λgs e h=>by subst e;exact nos i l Z hli k gs vk hst (by rw [hdi,h]),drop1 bj gk vk dj λgs e h=>by subst e;exact nos j u hj hlj k gs vk hst (by rw [hdj,h])]
 have:∀(bi bj:Bool),(s.put false u.dst G vj B).put bi l.dst I vi C= (s.put false l.dst I vi C).put bj u.dst G vj B:=by
  intro bi bj;have ht:=tcomm bi bj;have hh:((s.put false u.dst G vj B).put bi l.dst I vi C).h= ((s.put false l.dst I vi C).put bj u.dst G vj B).h:=by show aJ (aJ s.h B) C=aJ (aJ s.h C) B;exact(MK disj).symm
  generalize (s.put false u.dst G vj B).put bi l.dst I vi C=X at *
  generalize (s.put false l.dst I vi C).put bj u.dst G vj B=Y at *
  cases X;cases Y;simp only at ht hh;rw [ht,hh]
 rw [this]
theorem H9{o:Oper}{l:Gs}{f:Array Bool}(v:pn ops=true)(a:cW ops o s some=some (some l))(r:o∈ops)(m:∀e∈o.after,Region.binds .any e=true->f.getD e.on false=true):
  ∃i y,ops[i]? =some y/\f.getD i false=true/\y.dst=some l.d:=by
 unfold cW at a;cases k:o.guard with
 | none=>rw [k] at a;simp at a
 | some p=>
  obtain⟨jj,b⟩:=p;rw [k] at a;simp only at a;cases g:(ops[jj]?).bind (·.dst) with
  | none=>rw [g] at a;simp at a
  | some d=>
   rw [g] at a;simp only at a;replace a:=M2.1 a;obtain⟨x,_,a⟩:=a;obtain⟨bb,a,_⟩:=nT a;simp only [M1] at a;have u:l.d=d:=by rw [<-a]
   obtain⟨z,B,C⟩:=M2.1 g;have j:=NP.1 v o r;rw [k] at j;simp only at j;obtain⟨e,D,q⟩:=Pg.1 j;simp only [M7,beq_iff_eq] at q;exact⟨jj,z,B,q.2▸m e D q.1,by rw [u];exact C⟩
theorem Bz{a:Array Bool}{i:Nat}{r:Oper}(J:oG ops)(D:pn ops=true)(q:ops[i]? =some r)(F:i∈Region.ready .any ops a)(z:ow ops a s)(e:eD P An Or true nt ops r s=some s1):
  ow ops (a.setIfInBounds i true) s1:=by
 obtain⟨g,v,us,K,rfl⟩:=xu e;obtain⟨E,L,f,B⟩:=mem_ready.1 F;rw [q] at f;simp only [M1] at f;subst f;rw [xG J q E z];have j:∀k g v,s.t k= (some g,v)->∃i' o,ops[i']? =some o/\(a.setIfInBounds i true).getD i' false=true/\o.dst=some g.d:=by intro k g v G;obtain⟨x,u,l,m,p⟩:=z k g v G;exact⟨x,u,l,getD_set_true m,p⟩
 intro k y I b;unfold St.put at b;cases C:r.dst with
 | none=>rw [C] at b;exact j k y I b
 | some d=>
  rw [C] at b;dsimp only at b;split at b
  .simp only [NL] at b;obtain⟨x,u,l,m,p⟩:=H9 D (by rw [<-b.1];exact K.guard) (NC q) B;exact⟨x,u,l,getD_set_true m,p⟩
  .exact j k y I b
def qo(P:Program)(An:cx)(Or:ax)(nt:Nat)(ops:Array Oper)(Q:St->Prop):Nat->Array Bool->St->Prop
 | 0,a,s=>Region.ready .any ops a= []/\Q s
 | n+1,a,s=>(Region.ready .any ops a= []->Q s)/\∀i∈Region.ready .any ops a,∃o s1,ops[i]? =some o/\eD P An Or true nt ops o s=some s1/\qo P An Or nt ops Q n (a.setIfInBounds i true) s1
theorem Fp{n j i:Nat}{b:Oper}(g:ops[j]? =some b)(h:fT ops (n+1) j i=false):∀e∈b.after,Region.binds .any e=true->e.on≠i:=by intro e f d a;simp only [fT,g] at h;rw [Array.any_eq_false'] at h;exact h e f (by simp [d,a])
theorem ze{a:Array Bool}{j:Nat}(i:ou ops a)(p:j∈Region.ready .any ops a):ou ops (a.setIfInBounds j true):=by
 intro k ok m hl e l g;obtain⟨q,r,b,f⟩:=mem_ready.1 p;refine getD_set_true ?_;by_cases d:j=k
 .subst d;rw [m] at b;simp only [M1] at b;subst b;exact f e l g
 .have o:a.getD k false=true:=by
   rw [Ox,PN d] at hl;rw [Ox];exact hl
  exact i k ok m o e l g
theorem EW{Q:St->Prop}{i:Nat}{d:Oper}(K:oG ops)(v:pn ops=true)(C:ops[i]? =some d):∀(iK:Nat) (a:Array Bool) (s s1:St),
  (∀j o,ops[j]? =some o->j≠i->a.getD j true=false->fT ops 12 j i=false->d.apart ops o=true/\(oO P An d o=true\/pX P An ops d o=true))->ou ops a->
  i∈Region.ready .any ops a->ow ops a s->eD P An Or true nt ops d s=some s1->qo P An Or nt ops Q iK (a.setIfInBounds i true) s1->qo P An Or nt ops Q (iK+1) a s:=by
 intro iK;induction iK with
 | zero=>
  intro a s s1 _ _ g z e H;refine⟨λh=>(by rw [h] at g;cases g),λj l=> ?_⟩;by_cases b:j=i
  .subst b;exact⟨d,s1,C,e,H⟩
  .have:=ready_mono l b;rw [H.1] at this;cases this
 | succ iK X=>
  intro a s s1 p q g z e H;refine⟨λh=>(by rw [h] at g;cases g),λj l=> ?_⟩;by_cases b:j=i
  .subst b;exact⟨d,s1,C,e,H⟩
  .obtain⟨o,s2,f,N,M⟩:=H.2 j (ready_mono l b);obtain⟨u,Y,m,B⟩:=mem_ready.1 l;rw [f] at m;simp only [M1] at m;subst m;have D:fT ops 12 j i=false:=vd q (mem_ready.1 g).1 f B;obtain⟨F,G⟩:=p j o f b u D;obtain⟨L,E,U⟩:=swap K v C f b g l q F G z e N;refine⟨o,L,f,E, ?_⟩
   have r:∀k ok,ops[k]? =some ok->k≠i->(a.setIfInBounds j true).getD k true=false->
     fT ops 12 k i=false->d.apart ops ok=true/\(oO P An d ok=true\/pX P An ops d ok=true):=λk ok V I y J=>by
    refine p k ok V I ?_ J;by_cases x:j=k
    .subst x;exact u
    .rw [getD_set_ne true x] at y;exact y
   refine X (a.setIfInBounds j true) L s2 r (ze q l) (ready_mono g (PM b)) (Bz K v f l z E) U ?_;rw [Array.setIfInBounds_comm _ _ b];exact M
theorem HU{i:Nat}{b:Oper}{a:Array Bool}(m:ops[i]? =some b)(h:wu P An ops a i=true)(j:Nat)(d:Oper)(f:ops[j]? =some d)(g:j≠i)(l:a.getD j true=false)
  (k:fT ops 12 j i=false):oO P An b d=true\/pX P An ops b d=true:=by
 simp only [wu,m,Nt,PX] at h;have e:=h j (Pw.1 f).1;simp only [f,NS,beq_iff_eq,g,false_or,l,NA,k,or_false] at e;exact e
theorem yH{Q:St->Prop}(u:oG ops)(b:pn ops=true):∀(l:List Oper) (k:Nat) (a:Array Bool) (s:St),(∀j,l[j]? =ops[k+j]?)->Region.lexFrom .any ops l.length k a=true->tF P An ops l.length k a=true->ou ops a->ow ops a s->
  gV P An Or true nt ops l s=some s'->Q s'->qo P An Or nt ops Q l.length a s
 | [],k,a,s,_,e,_,_,_,h,q=>by simp only [gV,M1] at h;subst h;exact⟨by simpa [Region.lexFrom] using e,q⟩
 | o::l,k,a,s,hl,e,p,f,y,h,q=>by
  simp only [gV] at h;obtain⟨s1,v,h⟩:=M2.1 h;have h0:ops[k]? =some o:=by simpa using (hl 0).symm
  simp only [Nf,Region.lexFrom,M7] at e;obtain⟨⟨C,B⟩,x⟩:=e;simp only [Nf,tF,M7] at p;have d:k∈Region.ready .any ops a:=by simpa using C
  exact EW u b h0 l.length a s s1 (λj z r g m i=>⟨Region.free_spec h0 B j z r g m (Fp r i),HU h0 p.1 j z r g m i⟩) f d y v
   (yH u b l (k+1) _ s1 (λj=>by have:=hl (j+1);simpa [O7,Nat.add_comm 1 j] using this) x p.2 (ze f d) (Bz u b h0 d y v) h q)
theorem yI(u:ic P An Or){Q:Exit->Act->World->Prop}{s':St}:∀{iK:Nat} {b:Array Bool} {w:World} {s:St} {ρ:Id->Option Value} {O:Id->Option Nat} {a:Act},
  ei c nt w s ρ O a->lZ ops s->qo P An Or nt ops (· =s') iK b s->(∀k w' ρ' O',Le w ρ O w' ρ' O'->ei c nt w' s' ρ' O' k->Q .normal k w')->wpAny P .any ops Q iK b a w
 | 0,b,w,s,ρ,O,a,d,j,h,f=>⟨h.1,f a w ρ O Le.refl (h.2▸d)⟩
 | iK+1,b,w,s,ρ,O,a,d,j,h,f=>by refine⟨λz=>f a w ρ O Le.refl (h.1 z▸d),λi y=> ?_⟩;obtain⟨o,s1,ho,e,H⟩:=h.2 i y;obtain⟨l,step⟩:=CW u d j (NC ho) e;unfold wpOp;rw [ho];exact step _ Q λk w' ρ' O' le m=>yI u m l H λr x p q v g=>f r x p q (le.trans v) g
theorem Kq{R:Type}{id:Nat}{f:Bool}{a:Act}{K:St->Option R}{r:R}(hm:P.follows .mixedOrders=true)(C:ic P An Or)(l:ei c nt w s ρ O a)(p:lY s)(e:region P An Or nt f ops s K=some r):
  ∃s':St,K s'.clear=some r/\∀Q:Exit->Act->World->Prop,(∀q w' ρ' O',Le w ρ O w' ρ' O'->ei c nt w' s'.clear ρ' O' q->Q .normal q w')->(Code.region id ops f).wp P Q a w:=by
 unfold region at e;cases m:xH P An f ops with
 | false=>simp [m] at e
 | true=>
  rw [m,cond_true,xN] at e;replace e:=M2.1 e;obtain⟨s',e,F⟩:=e;refine⟨s',F,λQ D=> ?_⟩;cases f with
  | false=>exact Ko C l p e D
  | true=>simp only [xH,M8,NT,M7] at m;obtain⟨⟨⟨B,G⟩,I⟩,E⟩:=m;simp only [Region.lexB,M7] at B;have M:oG ops:=λ{i j x y d} J L N U=>zC I (by simpa using J) (by simpa using L) N U;have o:Le w ρ O w.drew ρ O:=⟨rfl,rfl,rfl,Ns _,λ_ _ h=>h,λ_ _ _=>rfl,λi b h=> .inl ⟨i,h⟩⟩;have z:ei c nt w.drew s ρ O a:=⟨l.hs.world o λ_ _ _=>rfl,SS.mono (λb p=>o.A b p) o.dU l.ss,l.nt,l.defers⟩;refine wp_region_any hm ?_;have:=yH (P:=P) (An:=An) (Or:=Or) (nt:=nt) (Q:=(· =s')) M E ops.toList 0 (Array.replicate ops.size false) s (by simp) (by simpa using B.2) (by simpa using G) (λk ok F hl=>by simp [Ox,Array.getElem?_replicate] at hl;split at hl <;> simp at hl) (λk g v h=>(p k g v h).elim) e rfl;simp only [NB] at this;exact yI C z (p.BG ops) this λq w' ρ' O' le u=>D q w' ρ' O' (o.trans le) u.clear
end
open Go Go.IntKind
section
variable {P:Program} {An:cx} {Or:ax} {w w':World} {A A':Nat->Prop} {c:Ctx} {ρ:Id->Option Value} {O:Id->Option Nat} {s s':St} {h:Id->Option ab}
def Ends(P:Program)(f:FuncId)(fn:Func)(todo:List Item)(a:Act)(w:World)(R:Value->World->Prop):Prop:=
 ∀(b:Frame),b.fn=f->b.kind= .normal->∀cs,∃d w' v todo',Steps P (lone (b.at a todo) cs w) (lone {b.at d todo' with mode:= .returning} cs w')/\
  d.defers= []/\(results fn d.tmps).run P w'= .ok v w'/\R v w'
theorem Ends.mono{f:FuncId}{fn:Func}{todo:List Item}{a:Act}{R d:Value->World->Prop}(h:Ends P f fn todo a w R)(o:∀v w',R v w'->d v w'):Ends P f fn todo a w d:=
 λb l m cs=>let⟨e,w',v,t,g,i,j,k⟩:=h b l m cs;⟨e,w',v,t,g,i,j,o _ _ k⟩
theorem Ends.step{f:FuncId}{fn:Func}{todo todo':List Item}{a:Act}{R:Value->World->Prop}(d:∀(b:Frame) cs,step P (lone (b.at a todo) cs w)= .next (lone (b.at a todo') cs w))(h:Ends P f fn todo' a w R):Ends P f fn todo a w R:=
 λb j k cs=>let⟨e,w',v,t,g,i⟩:=h b j k cs;⟨e,w',v,t, .head (d b cs) g,i⟩
theorem Ends.region{f:FuncId}{fn:Func}{id:Nat}{ops:Array Oper}{d:Bool}{k:List Item}{a:Act}{R:Value->World->Prop}
  (h:(Code.region id ops d).wp P (λe g w'=>e= .normal/\Ends P f fn k g w' R) a w):Ends P f fn (.code (.region id ops d)::k) a w R:=by
 intro b o p cs;obtain⟨e,j,r,⟨rfl,q⟩,i⟩:=h b k cs;obtain⟨g,w',v,t,l,m⟩:=q b o p cs;exact⟨g,w',v,t,Steps.trans i l,m⟩
theorem FF{f:FuncId}{fn:Func}{a:Code}{args:Array Value}{R:Value->World->Prop}(g:P.funcs[f]? =some fn)(j:fn.body=some a)
  (h:Ends P f fn [.code a] {tmps:=args++Array.replicate (fn.ntmps - args.size) undef,defers:= []} w R):Calls P f args w λe w'=>∃v,e= .returned v/\R v w':=by
 intro cs;let b:Frame:={(default:Frame) with fn:=f,kind:= .normal};have d:Frame.enter P f args .normal=b.at {tmps:=args++Array.replicate (fn.ntmps - args.size) undef,defers:= []} [.code a]:=by simp [Frame.enter,Frame.at,g,j,b]
 obtain⟨m,w',v,todo',hs,k,l,i⟩:=h b rfl rfl cs;rw [<-d] at hs;exact⟨.returned v,w',_,⟨v,rfl,i⟩,hs,rfl,rfl,k,rfl,fn,g,l⟩
structure Fin (P:Program) (c:Ctx) (B:Nat->Option Value) (sh:List cf) (outs:List iC) (xs:List T) (Own:Nat->Prop) (w:World) (v:Value) (w':World):Prop where
 os:w'.os=w.os
 output:w'.output=w.output
 tape:w'.tape=w.tape
 size:w.heap.size<=w'.heap.size
 ae:∀b,b < w.heap.size->¬Own b->w'.heap[b]? =w.heap[b]?
 res:∃rs x1 x2 o1 o2,v=mQ rs/\xs=x1++x2/\(o1++o2).Nodup/\(∀b∈o1++o2,c.MO b/\b < w'.heap.size)/\dx B w' (λb=>(c.A0 b\/c.MO b)/\b < w'.heap.size/\b∉o1++o2) sh x1 rs o1/\
  l7 B w' (λb=>(c.A0 b\/c.MO b)/\b < w'.heap.size/\b∉o1++o2) 0 outs x2 o2
theorem Fin.le{B:Nat->Option Value}{sh:List cf}{os:List iC}{xs:List T}{v:Value}{w'':World}{ρ':Id->Option Value}{O':Id->Option Nat}(le:Le w ρ O w' ρ' O')(h:Fin P c B sh os xs (eV O') w' v w''):Fin P c B sh os xs (eV O) w v w'' where
 os:=h.os.trans le.os
 output:=h.output.trans le.output
 tape:=h.tape.trans le.tape
 size:=NQ le.size h.size
 ae b hb hn:=by
  rw [h.ae b (N8 hb le.size) (λ⟨i,hi⟩=> ?_),le.ae b hb (λi hi=>hn ⟨i,hi⟩)];rcases le.own i b hi with⟨j,hj⟩ | hj
  .exact hn ⟨j,hj⟩
  .omega
 res:=h.res
theorem Fin.own{B:Nat->Option Value}{d:List cf}{os:List iC}{xs:List T}{v:Value}{a:World}{O':Id->Option Nat}(f:∀b,eV O' b->eV O b)(h:Fin P c B d os xs (eV O') w v a):Fin P c B d os xs (eV O) w v a:=
 {h with ae:=λb e g=>h.ae b e λho=>g (f b ho)}
theorem Cn:∀{l:List Id},tN l=true->l.Nodup
 | [],_=>PF
 | i::r,h=>by
  simp only [tN,M7,N4] at h;refine Od.2 ⟨λhm=> ?_,Cn h.2⟩;have:r.contains i=true:=by simpa using hm
  rw [this] at h;cases h.1
def jA(O:Id->Option Nat)(l:List Id):List Nat:=l.filterMap O
theorem y0(hs:HS c w h ρ O):∀{l:List Id},l.Nodup->(jA O l).Nodup
 | [],_=>PF
 | i::l,m=>by
  obtain⟨f,g⟩:=Od.1 m;have d:=y0 hs g;unfold jA at *
  cases a:O i with
  | none=>rw [List.filterMap_cons_none a];exact d
  | some b=>rw [List.filterMap_cons_some a];refine Od.2 ⟨λhm=> ?_,d⟩;obtain⟨j,k,e⟩:=PB.1 hm;have:=hs.inj i j b a e;exact f (this▸k)
theorem Fo(a b:List Id):jA O (a++b)=jA O a++jA O b:=by simp [jA]
def eU(O:Id->Option Nat)(l:List Id)(own:List Nat):Prop:=(∀i∈l,i.real=true)/\∃ids,own=jA O ids/\(l.Nodup->ids.Nodup)/\∀x∈ids,Of l x
theorem eU.nil:eU O [] []:=⟨by simp,[],rfl,λh=>h,by simp⟩
theorem eU.one{i:Id}(a:i.real=true):eU O [i] (O i).toList:=by refine⟨by simpa using a,[i], ?_,λh=>h,λx b=> .inl b⟩;cases h:O i <;> simp [jA,h]
theorem eU.append{a b:List Id}{o1 o2:List Nat}(v:eU O a o1)(z:eU O b o2):eU O (a++b) (o1++o2):=by
 obtain⟨r1,G,rfl,J,q⟩:=v;obtain⟨u,I,rfl,K,r⟩:=z;refine⟨λi f=> ?_,G++I,(Fo _ _).symm,λB=> ?_,λx d=> ?_⟩
 .rcases Nq.1 f with f | f
  .exact r1 i f
  .exact u i f
 .obtain⟨E,F,p⟩:=OA.1 B;refine OA.2 ⟨J E,K F,λx d y C e=> ?_⟩;subst e;rcases q x d with l | ⟨j,n,l,o⟩ <;> rcases r x C with m | ⟨D,L,m,k⟩
  .exact p x l x m rfl
  .have:=r1 x l;rw [k] at this;cases this
  .have:=u x m;rw [o] at this;cases this
  .rw [o] at k;simp only [Id.g.injEq] at k;exact p j l D m k.1
 .rcases Nq.1 d with d | d
  .rcases q x d with g | ⟨j,n,g,e⟩
   .exact .inl (Nn _ g)
   .exact .inr ⟨j,n,Nn _ g,e⟩
  .rcases r x d with g | ⟨j,n,g,e⟩
   .exact .inl (Nl _ g)
   .exact .inr ⟨j,n,Nl _ g,e⟩
theorem eU.mem{l:List Id}{own:List Nat}(h:eU O l own){b:Nat}(a:b∈own):∃i,Of l i/\O i=some b:=by obtain⟨_,ids,rfl,_,m⟩:=h;obtain⟨i,d,e⟩:=PB.1 a;exact⟨i,m i d,e⟩
def kD:Nat->List Row->List Row
 | _,[]=> []
 | n,e::r=>{e with n:=n}::kD (n+1) r
theorem rI:∀(es:List Row) (n:Nat),(kD n es).length=es.length
 | [],_=>rfl
 | e::r,n=>by simp [kD,rI r]
theorem uc:∀(es:List Row) (n:Nat),(kD n es).map (·.n)=List.range' n es.length
 | [],_=>rfl
 | e::r,n=>by simp [kD,uc r,Pp]
theorem zp:∀{es:List Row} {n:Nat},aX es=true->nH n (es.map λe=> [.ptr e.cs,pP e])=some (kD n es)
 | [],_,_=>rfl
 | e::r,n,h=>by
  simp only [aX,Ot,M7] at h;have b:=zp (es:=r) (n:=n+1) h.2;obtain⟨en,a,eo⟩:=e;cases eo with
  | none=>simp at h
  | some p=>show((nH (n+1) (r.map λe=> [.ptr e.cs,pP e])).bind λl=>some (⟨n,a,some (p.1,p.2)⟩::l))=_;rw [b];rfl
theorem Dp{A A':Nat->Prop}{d:Id->Option Value}{a:Id->Option Nat}{i:Id}{ae sz col rsz:Nat}(l:∀b,A b->A' b):∀{es:List Row} {k base:Nat},(∀j e,es[j]? =some e->d (.g i (k+j))=ρ (.g i e.n)/\a (.g i (k+j))=O (.g i e.n))->
  cn w A ρ O i ae sz col rsz base es->cn w A' d a i ae sz col rsz base (kD k es)
 | [],_,_,_,_=>trivial
 | e::r,k,base,m,h=>by
  obtain⟨h0,C⟩:=h;obtain⟨z,B⟩:=m 0 e rfl;refine⟨?_,Dp l (k:=k+1) (λj f E=>by
   have:=m (j+1) f (by simpa using E);rw [show k+1+j=k+ (j+1) by omega];exact this) C⟩
  have h0:=h0.move (A':=A') (w':=w) (ρ':=ρ) (O':=O) (λ_ _=>rfl) (λb D=>⟨l b D,rfl⟩) rfl rfl (λ_ _=>rfl);obtain⟨o,q,v,u,a4,x,y⟩:=h0;refine⟨o,q,v,u,a4,by rw [<-x];exact z, ?_⟩;revert y;show(match e.own with | some p=>cF w A' rsz p.1 p.2 u (λb=>O (.g i e.n)=some b) | none=>O (.g i e.n)=none)->(match e.own with | some p=>cF w A' rsz p.1 p.2 u (λb=>a (.g i k)=some b) | none=>a (.g i k)=none);rw [show a (.g i k)=O (.g i e.n) from B];exact id
def oA(w:World)(c:Ctx)(O:Id->Option Nat)(b:List Id)(Q:(Nat->Prop)->Prop):Prop:=
 ∀A:Nat->Prop,(∀k,AA c w O k->A k)->(∀i ae,i∈b->i.real=true->O i=some ae->A ae)->Q A
def gH(m:Nat)(B:Nat->Option Value)(ρ:Id->Option Value):Prop:= ∀j,j < m->∃v,B j=some v/\ρ (.c j)=some v
theorem AY{B:Nat->Option Value}{i:Id}{b:Bool}{sz col rsz nx:Nat}{es:List Row}{u:Value}{l:List Id}(hs:HS c w h ρ O)(U:h i=some (.rows b sz col rsz nx es))(hv:ρ i=some u)(N:aX es=true):
  eU O [i] (jA O (i::es.map λe=> .g i e.n))/\oA w c O l λA=>iE B w A (.rows sz col rsz) (be b es) u (jA O (i::es.map λe=> .g i e.n)):=by
 have o:=hs.real (i:=i) (by rw [U];simp);obtain⟨a,cap,r1,r2,r3,⟨Z,n2,n3,n4⟩,K⟩:=hs.ae i _ U;have X:(i::es.map λe=>Id.g i e.n).Nodup:=by
  refine Od.2 ⟨λhm=> ?_, ?_⟩
  .obtain⟨e,_,G⟩:=NG.1 hm;rw [<-G] at o;cases o
  .have:(es.map λe=>Id.g i e.n)= (es.map (·.n)).map (Id.g i):=by rw [PR];rfl
   rw [this];exact List.pairwise_map.2 (Z.imp λh e=>h (by simpa using e))
 refine⟨⟨by simpa using o,_,rfl,λ_=>X,λx m=> ?_⟩,λA hA _=> ?_⟩
 .rcases Nj.1 m with rfl | m
  .exact .inl M3
  .obtain⟨e,_,rfl⟩:=NG.1 m;exact .inr ⟨i,e.n,M3,rfl⟩
 .let V:Id->Option Value:=λx=>match x with
   | .g y k=>if y=i then(es[k]?).bind λe=>ρ (.g i e.n) else none
   | x=>if x=i then ρ i else none
  let Q:Id->Option Nat:=λx=>match x with
   | .g y k=>if y=i then(es[k]?).bind λe=>O (.g i e.n) else none
   | x=>if x=i then O i else none
  have M:V i=ρ i:=by
   cases i with
   | g y n=>cases o
   | _=>simp only [V,if_true]
  have L:Q i=O i:=by
   cases i with
   | g y n=>cases o
   | _=>simp only [Q,if_true]
  have D:∀k,V (.g i k)= (es[k]?).bind λe=>ρ (.g i e.n):=λk=>by simp only [V,if_true]
  have C:∀k,Q (.g i k)= (es[k]?).bind λe=>O (.g i e.n):=λk=>by simp only [Q,if_true]
  have r:∀x d,Q x=some d->(x=i/\O i=some d)\/∃k e,x= .g i k/\es[k]? =some e/\O (.g i e.n)=some d:=by
   intro x d m;cases x with
   | g y k=>
    simp only [Q] at m;split at m
    .rename_i e;subst e;obtain⟨e,E,F⟩:=M2.1 m;exact .inr ⟨k,e,rfl,E,F⟩
    .cases m
   | s y k=>
    simp only [Q] at m;split at m
    .rename_i e;exact .inl ⟨e,m⟩
    .cases m
   | c k=>
    simp only [Q] at m;split at m
    .rename_i e;exact .inl ⟨e,m⟩
    .cases m
  refine⟨b,kD 0 es,i,V,Q, ?_,⟨a,cap,by rw [M,rI];exact r1,by rw [rI];exact r2,r3,⟨?_,λf I=> ?_,λk p=> ?_,λk d p=> ?_⟩, ?_⟩,by rw [M];exact hv,o,λx y d m hy=> ?_,λk v p=> ?_,λx d m=> ?_,λd=> ?_⟩
  .simp only [be,aN,zp N,M6]
  .rw [uc];exact List.nodup_range'
  .have:f.n∈(kD 0 es).map (·.n):=NG.2 ⟨f,I,rfl⟩;rw [uc,List.mem_range'_1] at this;rw [rI];omega
  .rw [rI] at p;rw [D,Ov p];rfl
  .rw [C] at p;obtain⟨e,E,_⟩:=M2.1 p;have hlt:=(M5.1 E).1;have:k∈(kD 0 es).map (·.n):=by rw [uc,List.mem_range'_1];omega
   obtain⟨f,I,e2⟩:=NG.1 this;exact⟨f,I,e2⟩
  .rcases K with K | ⟨ae,off,arr,t,q1,q2,q3,q4,q5⟩
   .exact .inl K
   .refine .inr ⟨ae,off,arr,t,q1,by rw [L];exact q2,q3,q4,Dp hA (λj e hj=> ?_) q5⟩;rw [NF,D,C,hj];exact⟨rfl,rfl⟩
  .rcases r x d m with⟨rfl,q⟩ | ⟨k,e,rfl,q,z⟩ <;> rcases r y d hy with⟨rfl,J⟩ | ⟨k',e',rfl,J,Y⟩
   .rfl
   .have:=hs.inj _ _ d q Y;rw [this] at o;cases o
   .have:=hs.inj _ _ d J z;rw [this] at o;cases o
   .have:=hs.inj _ _ d z Y;simp only [Id.g.injEq,true_and] at this;rw [rp Z q J this]
  .rw [D] at p;obtain⟨e,_,F⟩:=M2.1 p;exact hs.gone i e.n v F
  .rcases r x d m with⟨rfl,_⟩ | ⟨k,_,rfl,_⟩
   .exact .inl rfl
   .exact .inr ⟨k,rfl⟩
  .simp only [jA,PB,Nj,NG];constructor
   .rintro⟨x,rfl | ⟨e,G,rfl⟩,m⟩
    .exact⟨x,by rw [L];exact m⟩
    .obtain⟨k,p⟩:=Oi G;exact⟨.g i k,by rw [C,p];exact m⟩
   .rintro⟨x,m⟩;rcases r x d m with⟨rfl,q⟩ | ⟨k,e,rfl,q,z⟩
    .exact⟨x, .inl rfl,q⟩
    .exact⟨.g i e.n, .inr ⟨e,Nh q,rfl⟩,z⟩
theorem AX{R:Type}{m:Nat}{B:Nat->Option Value}{r:cf}{v:AV}{u:Value}{K:T->List Id->List Id->Option R}{res:R}(hB:gH m B ρ)(hs:HS c w h ρ O)(g:ai w (AA c w O) ρ v u)(d:ir m h r v K=some res):
  ∃x a b ob,K x a b=some res/\eU O a ob/\oA w c O b λA=>iE B w A r x u ob:=by
 cases r with
 | f k=>simp only [ir] at d;replace d:=M2.1 d;obtain⟨x,V,d⟩:=d;replace d:=aM d (.inl rfl);obtain⟨y,hy,d⟩:=d;rw [AV.jV V] at g;simp only [ai] at g;exact⟨_,_,_,[],d, .nil,λA z C=>⟨hy,g.flat hy,rfl⟩⟩
 | t k=>simp only [ir] at d;replace d:=M2.1 d;obtain⟨x,V,d⟩:=d;refine⟨_,_,_,[],d, .nil,λA z C=>⟨kJ hs g V z (λi ae q ho=> ?_),rfl⟩⟩;obtain⟨p,D,e⟩:=tg hs V q ho;refine C i ae (NG.2 ⟨p,D,e⟩) ?_ ho;rw [<-e];refine hs.real λe0=> ?_;have I:=qJ (h:=h) v p D;rw [e0] at I;rcases I with⟨sz,b,l,_,I⟩ | ⟨l,_,I⟩ <;> simp at I
 | own sz=>
  simp only [ir] at d;split at d
  .rename_i i;replace d:=M2.1 d;obtain⟨p,D,d⟩:=d;simp only [C1] at D;split at D
   .rename_i sz' b xs q;split at D
    .rename_i hsz;subst hsz;simp only [M1] at D;subst D;refine⟨_,_,_,(O i).toList,d, .one (hs.real (by rw [q];simp)),λA z C=> ?_⟩;obtain⟨v',G,g2,_⟩:=hs.ae i _ q;simp only [ai] at g;rw [G] at g;simp only [M1] at g;subst g;exact⟨O i,(b,xs),rfl,by simp [T.au],g2.mono (λb J=>⟨z b J,rfl⟩) (λb J=>⟨by simpa using J,rfl⟩)⟩
    .simp at D
   .simp at D
  .rename_i i sz1 n;split at d
   .rename_i sz2 b xs q;split at d
    .rename_i j;obtain⟨rfl,rfl⟩:=j;refine⟨_,_,_,(O i).toList,d, .one (hs.real (by rw [q];simp)),λA z C=> ?_⟩;obtain⟨v',G,⟨a,cap,rfl,f2,f3,_,f4⟩,_⟩:=hs.ae i _ q;simp only [ai] at g;obtain⟨a1,L,cap1,Y,F,U,e3,rfl,e4⟩:=g;rw [G] at F;simp only [M1,N7] at F;obtain⟨rfl,rfl,rfl⟩:=F;have M:(xs.take n).length=n:=by rw [N2];omega
     have ha:Y=none↔a=none:=by
      rcases e4 with⟨_,rfl⟩ | ⟨_,h,_⟩ | ⟨_,_,rfl,rfl⟩
      .exact Pm
      .exact h
      .simp
     refine⟨O i,(b,xs.take n),rfl,by simp [T.au],Y,cap,by rw [M];rfl,by rw [M];omega,by rw [ha];exact f3,trivial, ?_⟩
     .rcases f4 with f4 | ⟨ae,off,Z,t',q1,q2,q3,q4,q5⟩
      .exact .inl f4
      .by_cases X:cap=0
       .exact .inl X
       .right;subst q1;have:Y=some ⟨ae,off,none⟩:=by
         rcases e4 with⟨_,rfl⟩ | ⟨h,_⟩ | ⟨b',o,e5,rfl⟩
         .rfl
         .exact absurd h.symm X
         .simp only [M1,NZ] at e5;obtain⟨rfl,rfl,_⟩:=e5;simp
        exact⟨ae,off,Z,t',this,by simpa using q2,q3,q4,(bd.lE (λb J=>⟨z b J,rfl⟩) ae _ rfl off xs q5).take n⟩
    .simp at d
   .simp at d
  .rename_i b;simp only [ai,ay] at g;refine⟨_,_,_,[],d, .nil,λA z C=>⟨none,(b,[]),rfl,by simp [T.au], ?_⟩⟩;rcases g with⟨rfl,rfl⟩ | ⟨rfl,ae,off,sp,rfl⟩
   .exact⟨none,0,rfl,by simp,by simp,trivial, .inl rfl⟩
   .exact⟨some ⟨ae,off,sp⟩,0,rfl,by simp,by simp,trivial, .inl rfl⟩
  .simp only [ai,ay] at g;refine⟨_,_,_,[],d, .nil,λA z C=>⟨none,(true,[]),rfl,by simp [T.au], ?_⟩⟩;rcases g with⟨_,_,rfl⟩ | ⟨h,_⟩
   .exact⟨none,0,rfl,by simp,by simp,trivial, .inl rfl⟩
   .cases h
  .simp at d
 | ref k off=>
  simp only [ir] at d;split at d
  .rename_i k' off';split at d
   .rename_i j;obtain⟨rfl,rfl,N⟩:=j;refine⟨_,_,_,[],d, .nil,λA z C=>⟨?_,rfl⟩⟩;simp only [ai] at g;obtain⟨b,F,rfl⟩:=g;obtain⟨v,U,e3⟩:=hB _ N;rw [F] at e3;simp only [M1] at e3;subst e3;exact⟨b,U,rfl⟩
   .simp at d
  .simp at d
 | same k=>
  simp only [ir] at d;split at d
  .rename_i k';split at d
   .rename_i j;obtain⟨rfl,N⟩:=j;refine⟨_,_,_,[],d, .nil,λA z C=>⟨?_,rfl⟩⟩;simp only [ai] at g;obtain⟨v,U,e3⟩:=hB _ N;rw [g] at e3;simp only [M1] at e3;subst e3;exact⟨U,iT hs g⟩
   .simp at d
  .simp at d
 | no=>
  simp only [ir] at d;split at d
  .refine⟨_,_,_,[],d, .nil,λA z C=>⟨?_,rfl⟩⟩;simp only [ai] at g;obtain⟨b,_,rfl⟩:=g;exact⟨rfl,rfl⟩
  .simp at d
 | rows sz col rsz=>
  simp only [ir] at d;split at d
  .rename_i i;split at d
   .rename_i b sz' col' rsz' nx es q;split at d
    .rename_i j;obtain⟨rfl,rfl,rfl⟩:=j;replace d:=aM d (.inl rfl);obtain⟨_,E,d⟩:=d;have E:aX es=true:=by
      split at E
      .assumption
      .cases E
     simp only [ai] at g;exact⟨_,_,_,_,d,(AY (B:=B) (l:= []) hs q g E).1,(AY hs q g E).2⟩
    .simp at d
   .simp at d
  .simp at d
 | mp ag ks vk=>
  simp only [ir] at d;split at d
  .rename_i i;split at d
   .rename_i ag' ks' vk' es q;split at d
    .rename_i j;obtain⟨rfl,rfl,rfl⟩:=j;obtain⟨b,ents,Q,G,g2,g3,g4,g5⟩:=hs.ae i _ q;simp only [ai] at g;rw [G] at g;simp only [M1] at g;subst g;refine⟨_,_,_,[b],d, ?_,λA z C=>⟨es,b,ents,Q,rfl,rfl,rfl,g3,g4,g5⟩⟩;have:=eU.one (O:=O) (hs.real (i:=i) (by rw [q];simp));rw [g2] at this;exact this
    .simp at d
   .simp at d
  .simp at d
 | agg l=>simp [ir] at d
 | new l=>simp [ir] at d
theorem sY{R:Type}{m:Nat}{B:Nat->Option Value}(k:gH m B ρ)(hs:HS c w h ρ O):∀{rs:List cf} {vs:List AV} {us:List Value} {K:List T->List Id->List Id->Option R} {res:R},az w (AA c w O) ρ vs us->kY m h rs vs K=some res->
  ∃xs a b own,K xs a b=some res/\eU O a own/\oA w c O b λA=>eM B w A rs xs us own
 | [],[],us,K,res,e,d=>by simp only [az] at e;subst e;simp only [kY] at d;exact⟨_,_,_,[],d, .nil,λA _ _=>⟨rfl,rfl,rfl⟩⟩
 | [],v::vs,us,K,res,e,d=>by simp [kY] at d
 | r::rs,[],us,K,res,e,d=>by simp [kY] at d
 | r::rs,v::vs,us,K,res,e,d=>by simp only [az] at e;obtain⟨u,o,rfl,C,D⟩:=e;simp only [kY] at d;obtain⟨x,a,b,ob,d,p,y⟩:=AX k hs C d;obtain⟨xs,F,G,own,d,q,z⟩:=sY k hs D d;refine⟨_,_,_,_,d,p.append q,λA j l=> ?_⟩;have E:=y A j (λi ae f g ho=>l i ae (Nn _ f) g ho);exact⟨x,xs,u,o,ob,own,rfl,rfl,rfl,E,z A j (λi ae f g ho=>l i ae (Nl _ f) g ho)⟩
theorem sZ{R:Type}{m:Nat}{B:Nat->Option Value}(C:gH m B ρ)(hs:HS c w h ρ O):∀{rs:List cf} {vs:List AV} {us:List Value} {K:List T->List Id->List Id->Option R} {res:R},az w (AA c w O) ρ vs us->fm m h rs vs K=some res->
  ∃xs a b own,K xs a b=some res/\eU O a own/\oA w c O b λA=>dx B w A rs xs us own
 | [],[],us,K,res,y,d=>by simp only [az] at y;subst y;simp only [fm] at d;exact⟨_,_,_,[],d, .nil,λA _ _=>⟨rfl,rfl,rfl⟩⟩
 | [],v::vs,us,K,res,y,d=>by simp [fm] at d
 | r::rs,[],us,K,res,y,d=>by cases r <;> simp [fm] at d
 | r::rs,v::vs,us,K,res,y,d=>by
  simp only [az] at y;obtain⟨u,q,rfl,I,V⟩:=y
  have e:(ir m h r v λx a b=>fm m h rs vs λxs L M=>K (x::xs) (a++L) (b++M))=some res->(∀l,r≠ .agg l)->(∀l,r≠ .new l)->
    ∃xs a b own,K xs a b=some res/\eU O a own/\oA w c O b λA=>dx B w A (r::rs) xs (u::q) own:=by
   intro d j Y;obtain⟨x,a,b,ob,d,D,F⟩:=AX C hs I d;obtain⟨xs,L,M,own,d,E,G⟩:=sZ C hs V d;refine⟨_,_,_,_,d,D.append E,λA o p=> ?_⟩;have z:=F A o (λi ae g j ho=>p i ae (Nn _ g) j ho);have:∃Z U v Q N J,x::xs=Z::U/\u::q=v::Q/\ob++own=N++J/\iE B w A r Z v N/\dx B w A rs U Q J:=
    ⟨x,xs,u,q,ob,own,rfl,rfl,rfl,z,G A o (λi ae g j ho=>p i ae (Nl _ g) j ho)⟩
   cases r with
   | agg l=>exact(j l rfl).elim
   | new l=>exact(Y l rfl).elim
   | _=>exact this
  cases r with
  | f k=>exact e (by simpa [fm] using d) (by simp) (by simp)
  | t k=>exact e (by simpa [fm] using d) (by simp) (by simp)
  | own sz=>exact e (by simpa [fm] using d) (by simp) (by simp)
  | rows sz col rsz=>exact e (by simpa [fm] using d) (by simp) (by simp)
  | mp ag ks vk=>exact e (by simpa [fm] using d) (by simp) (by simp)
  | new l=>
   simp only [fm] at d;split at d
   .rename_i i;split at d
    .rename_i cs g;obtain⟨b0,arr,ty,e1,e2,e3,e4,e5⟩:=hs.ae i _ g;simp only [ai] at I;obtain⟨b,z,rfl⟩:=I;rw [e1] at z;simp only [M1,OB,NZ] at z;obtain⟨rfl,_⟩:=z;obtain⟨xs,a,b,o1,d,D,F⟩:=sY C hs e4 d;obtain⟨X,L,M,o2,d,E,G⟩:=sZ C hs V d;refine⟨_,_,_,_,d,(eU.one (hs.real (i:=i) (by rw [g];simp))).append (D.append E),λA o p=> ?_⟩;exact⟨xs,X,b0,arr,ty,q,o1,o2,rfl,by simp,by simp [e2],e3,F A o (λi ae g j ho=>p i ae (Nn _ g) j ho),G A o (λi ae g j ho=>p i ae (Nl _ g) j ho)⟩
    .simp at d
   .simp at d
  | ref k off=>exact e (by simpa [fm] using d) (by simp) (by simp)
  | same k=>exact e (by simpa [fm] using d) (by simp) (by simp)
  | no=>exact e (by simpa [fm] using d) (by simp) (by simp)
  | agg l=>
   cases v with
   | agg cs=>simp only [fm] at d;simp only [ai] at I;obtain⟨ws,rfl,z,k2⟩:=I;obtain⟨xs,a,b,o1,d,D,F⟩:=sY C hs z d;obtain⟨X,L,M,o2,d,E,G⟩:=sZ C hs V d;refine⟨_,_,_,_,d,D.append E,λA o p=> ?_⟩;exact⟨xs,X,ws,q,o1,o2,rfl,rfl,rfl,F A o (λi ae g j ho=>p i ae (Nn _ g) j ho),G A o (λi ae g j ho=>p i ae (Nl _ g) j ho)⟩
   | _=>simp [fm] at d
def uf(tmps:Array Value):ResultVar->Sem Value
 | .tmp t=>pure (tmps.getD t undef)
 | .cell b t=>do loadVar t (<-asAddr (tmps.getD b undef))
theorem Kt(fn:Func)(tmps:Array Value):results fn tmps= (do
  let vs <-fn.results.mapM (uf tmps)
  pure (if h:vs.size=1 then vs[0] else .tuple vs)):=rfl
theorem xL{R:Type}{a:Act}(hs:HS c w s.h ρ O)(g:SS w (AA c w O) ρ s.t a.tmps):∀{l:List ResultVar} {K:List AV->Option R} {r:R},pK P s l K=some r->
  ∃vs us,K vs=some r/\az w (AA c w O) ρ vs us/\(l.mapM (uf a.tmps)).run P w= .ok us w
 | [],K,r,h=>⟨[],[],h,by simp [az],by simp⟩
 | .tmp k::l,K,r,h=>by
  simp only [pK] at h;have d:=g k;split at h
  .rename_i v e;rw [e] at d;obtain⟨vs,us,i,j,m⟩:=xL hs g h;refine⟨v::vs,_::us,i,by simp only [az];exact⟨_,us,rfl,d,j⟩, ?_⟩;rw [Qb];simp only [uf,Nv,NJ,Ni,m]
  .simp at h
 | .cell k t::l,K,r,h=>by
  simp only [pK] at h;have d:=g k;split at h
  .rename_i v e;rw [e] at d;obtain⟨o,y,h0,f,q⟩:=Ce hs d (.inl rfl) h;obtain⟨vs,us,i,j,m⟩:=xL hs g h0;refine⟨o::vs,y::us,i,by simp only [az];exact⟨y,us,rfl,q,j⟩, ?_⟩;rw [Qb];have:(do loadVar t (<-asAddr (a.tmps.getD k undef)):Sem Value).run P w= .ok y w:=by
    rw [<-f];generalize a.tmps.getD k undef=u at *
    unfold Instr.loadAt at *
    cases u with
    | pointer p=>
     cases p with
     | none=>simp [Instr.sureAddr,runtimePanic] at f
     | some b=>simp [Instr.sureAddr,asAddr]
    | _=>simp [Instr.sureAddr,runtimePanic] at f
   simp only [uf,Nv,NJ,Ni] at this⊢;rw [this];simp only [Ni,m]
  .simp at h
theorem qE{R:Type}{m:Nat}{B:Nat->Option Value}(k:gH m B ρ)(hs:HS c w h ρ O):∀{os:List iC} {j:Nat} {K:List T->List Id->List Id->Option R} {res:R},j+os.length<=m->jG m h j os K=some res->
  ∃xs a b own,K xs a b=some res/\eU O a own/\oA w c O b λA=>l7 B w A j os xs own
 | [],j,K,res,_,d=>by simp only [jG] at d;exact⟨_,_,_,[],d, .nil,λA _ _=>⟨rfl,rfl⟩⟩
 | .box l::os,j,K,res,hm,d=>by
  simp only [Nf] at hm;simp only [jG] at d;split at d
  .rename_i cs g;obtain⟨F,arr,t,x,y,I,J,N⟩:=hs.ae _ _ g;obtain⟨xs,a,b,o1,d,U,V⟩:=sY k hs J d;obtain⟨r,D,E,o2,d,p,q⟩:=qE k hs (by omega) d;refine⟨_,_,_,_,d,(eU.one (i:= .c j) rfl).append (U.append p),λA f o=> ?_⟩;obtain⟨v,u,e⟩:=k j (by omega);rw [x] at e;simp only [M1] at e;subst e;exact⟨xs,r,F,arr,t,o1,o2,rfl,by simp [y],u,I,V A f (λi ae g M ho=>o i ae (Nn _ g) M ho),q A f (λi ae g M ho=>o i ae (Nl _ g) M ho)⟩
  .simp at d
 | .sl sz::os,j,K,res,hm,d=>by
  simp only [Nf] at hm;simp only [jG] at d;split at d
  .rename_i sz' bb l g;split at d
   .rename_i Q;subst Q;obtain⟨v,x,y,_⟩:=hs.ae _ _ g;obtain⟨r,D,E,o2,d,p,q⟩:=qE k hs (by omega) d;refine⟨_,_,_,_,d,(eU.one (i:= .c j) rfl).append p,λA f o=> ?_⟩;obtain⟨X,u,e⟩:=k j (by omega);rw [x] at e;simp only [M1] at e;subst e;exact⟨bb,l,r,O (.c j),_,o2,rfl,rfl,u,y.mono (λb L=>⟨f b L,rfl⟩) (λb L=>⟨by simpa using L,rfl⟩),q A f o⟩
   .simp at d
  .simp at d
 | .mp ag ks vk::os,j,K,res,hm,d=>by
  simp only [Nf] at hm;simp only [jG] at d;split at d
  .rename_i Y Z vk' es g;split at d
   .rename_i C;obtain⟨rfl,rfl,rfl⟩:=C;obtain⟨F,G,z,x,y,I,J,N⟩:=hs.ae _ _ g;obtain⟨r,D,E,o2,d,p,q⟩:=qE k hs (by omega) d;refine⟨_,_,_,_,d,(eU.one (i:= .c j) rfl).append p,λA f o=> ?_⟩;obtain⟨X,u,e⟩:=k j (by omega);rw [x] at e;simp only [M1] at e;subst e;exact⟨es,F,G,z,r,o2,rfl,by simp [y],u,I,J,N,q A f o⟩
   .simp at d
  .simp at d
 | .dead::os,j,K,res,hm,d=>by simp only [Nf] at hm;simp only [jG] at d;obtain⟨r,D,E,o2,d,p,q⟩:=qE k hs (by omega) d;exact⟨_,_,_,o2,d,p,λA f o=>q A f o⟩
theorem Bg{f:FuncId}{fn:Func}{nt:Nat}{m:Nat×Nat}{B:Nat->Option Value}{xs:List T}{a:Act}(K:gH m.1 B ρ)(d:ei c nt w s ρ O a)(h:s8 P An f fn m s=some xs):
  ∃v,(results fn a.tmps).run P w= .ok v w/\Fin P c B (cZ P An f m.2 fn) (fP An f m.2) xs (eV O) w v w:=by
 unfold s8 at h;obtain⟨vs,us,h,z,F⟩:=xL d.hs d.ss h;split at h
 .rename_i hm;obtain⟨Z,N,Y,o1,h,U,G⟩:=sZ K d.hs z h;obtain⟨zs,E,Q,o2,h,V,C⟩:=qE K d.hs (by omega) h;split at h
  .rename_i r;simp only [M1] at h;subst h;simp only [M7,Nt,N4] at r;have M:=Cn r.1;have D:=U.append V;have g:∀b,b∈o1++o2->∃i,Of (N++E) i/\O i=some b:=λb l=>D.mem l;have J:∀k,AA c w O k->(c.A0 k\/c.MO k)/\k < w.heap.size/\k∉o1++o2:=by
    intro b l;refine⟨l.1,l.2.1,λhm=> ?_⟩;obtain⟨i,o,e⟩:=g b hm;exact l.2.2 i e
   have L:∀i ae,i∈Y++Q->i.real=true->O i=some ae->(c.A0 ae\/c.MO ae)/\ae < w.heap.size/\ae∉o1++o2:=by
    intro i ae o p ho;refine⟨.inr (d.hs.own i ae ho),d.hs.lt i ae ho,λhm=> ?_⟩;obtain⟨j,I,e⟩:=g ae hm;have:=d.hs.inj i j ae ho e;subst this;have z:=r.2 i o;rcases I with I | ⟨y,n,_,X⟩
    .have F:(N++E).contains i=true:=by simpa using I
     rw [F] at z;cases z
    .rw [X] at p;cases p
   have q:(o1++o2).Nodup:=by obtain⟨_,ids,e,n,_⟩:=D;rw [e];exact y0 d.hs (n M)
   refine⟨mQ us, ?_,rfl,rfl,rfl,Ns _,λ_ _ _=>rfl,us,Z,zs,o1,o2,rfl,rfl,q,λb l=> ?_, ?_, ?_⟩
   .rw [Kt,Array.mapM_eq_mapM_toList];simp only [Nv,map_eq_pure_bind,NJ];rw [F];simp only [Ni];congr 1;unfold mQ;split
    .rename_i x;have hl:us.length=1:=by simpa using x
     obtain⟨u,rfl⟩:=OX.1 hl;rfl
    .rename_i x;split
     .rename_i u;simp at x
     .rfl
   .obtain⟨i,o,e⟩:=g b l;exact⟨d.hs.own i b e,d.hs.lt i b e⟩
   .exact G _ J λi ae o p ho=>L i ae (Nn _ o) p ho
   .exact C _ J λi ae o p ho=>L i ae (Nl _ o) p ho
  .simp at h
 .simp at h
end
open Go Go.IntKind
section
variable {P:Program} {An:cx} {Or:ax} {w w':World} {A A':Nat->Prop} {c:Ctx} {ρ:Id->Option Value} {O:Id->Option Nat} {s s':St} {h:Id->Option ab}
theorem xq{v:AV}{u:Value}(hs:HS c w h ρ O)(a:ai w (AA c w O) ρ v u):ai w (AA c w O) ρ (lH h v) u:=by
 cases v
 case own i=>
  simp only [lH];split
  .rename_i sz b xs d;have m:O i=none:=by
    obtain⟨_,_,_,f⟩:=hs.ae i _ d;exact f rfl
   have:=kJ (x:= .ad sz b xs) (A':=AA c w O) hs a (by simp [dm,d]) (λ_ h=>h) (λj ae k ho=>by
    rcases k with e | ⟨_,_,_,e⟩ | ⟨_,e⟩
    .cases e;rw [m] at ho;cases ho
    .cases e
    .cases e)
   simpa [ai] using this
  .exact a
 case part i sz off n=>
  simp only [lH];split
  .rename_i r b xs d;split
   .rename_i o;have m:O i=none:=by
     obtain⟨_,_,_,f⟩:=hs.ae i _ d;exact f rfl
    have:=kJ (x:= .ad sz b ((xs.drop off).take n)) (A':=AA c w O) hs a (by simp [dm,d,o]) (λ_ h=>h) (λj ae k ho=>by
     rcases k with e | ⟨_,_,_,e⟩ | ⟨_,e⟩
     .cases e
     .cases e;rw [m] at ho;cases ho
     .cases e)
    simpa [ai] using this
   .exact a
  .exact a
 case ref i off=>
  simp only [lH];split
  .rename_i l d;obtain⟨b,p,z,f,q⟩:=hs.ae i _ d;simp only [ai] at a;obtain⟨y,g,rfl⟩:=a;rw [p] at g;simp only [M1,OB,NZ] at g;obtain⟨rfl,_⟩:=g;simp only [ai,ay];refine⟨b,off,rfl, .inr f, ?_⟩;have:=q.drop off;rwa [NF] at this
  .exact a
 all_goals exact a
theorem Ix{k:Nat×Option Nat}{p:AV×aE}{tmps:Array Value}{g:Id->Option Value}(hs:HS c w s.h ρ O)(m:SS w (AA c w O) ρ s.t tmps)(e:qX s k=some p)(f:∀i v,ρ i=some v->g i=some v)
  (l:∀q∈p.2,g q.1=some (tmps.getD k.1 undef)):ai w (AA c w O) g p.1 (tmps.getD k.1 undef):=by
 unfold qX at e;have d:=m k.1;split at e
 .simp at e
 .rename_i v j;rw [j] at d;simp only at d;split at e
  .simp only [M1] at e;subst e;exact ai.mono (λb a=>⟨a,rfl⟩) f _ _ (xq hs d)
  .split at e
   .simp only [M1] at e;subst e;exact ai.mono (λb a=>⟨a,rfl⟩) f _ _ (xq hs d)
   split at e
   .split at e
    .simp only [M1] at e;subst e;exact ai.mono (λb a=>⟨a,rfl⟩) f _ _ d
    .simp at e
   .simp only [M1] at e;subst e;simp only [ai];exact l _ (Ng.2 rfl)
   .simp at e
theorem Ca{tmps:Array Value}{f:Id->Option Value}(hs:HS c w s.h ρ O)(o:SS w (AA c w O) ρ s.t tmps)(j:∀i v,ρ i=some v->f i=some v):∀{l:List (Nat×Option Nat)} {p:List AV×aE},mE s l=some p->
  (∀q∈p.2,∀k,q.1= .s (1000000+k) 0->f q.1=some (tmps.getD k undef))->az w (AA c w O) f p.1 (l.map λk=>tmps.getD k.1 undef)/\
   ∀q∈p.2,∃k sz b,q= (.s (1000000+k) 0, .sl false sz b [])/\ay w (AA c w O) (.af b) (tmps.getD k undef)
 | [],p,e,_=>by simp only [mE,M1] at e;subst e;exact⟨by simp [az],(by intro q a;cases a)⟩
 | k::l,p,e,r=>by
  simp only [mE] at e;replace e:=M2.1 e;obtain⟨x,d,e⟩:=e;replace e:=M2.1 e;obtain⟨y,D,e⟩:=e;simp only [M1] at e;subst e;have g:∀q∈x.2,∃sz b,q= (.s (1000000+k.1) 0, .sl false sz b [])/\ay w (AA c w O) (.af b) (tmps.getD k.1 undef):=by
   intro q a;have m:=o k.1;unfold qX at d;split at d
   .simp at d
   .rename_i v u;rw [u] at m;simp only at m;split at d
    .simp only [M1] at d;subst d;cases a
    .split at d
     .simp only [M1] at d;subst d;cases a
     split at d
     .split at d
      .simp only [M1] at d;subst d;cases a
      .simp at d
     .simp only [M1] at d;subst d;simp only [Ng] at a;subst a;exact⟨_,_,rfl,by simpa [ai] using m⟩
     .simp at d
  obtain⟨z,B⟩:=Ca hs o j D (λq a=>r q (Nl _ a));refine⟨?_,λq a=> ?_⟩
  .simp only [NH,az];refine⟨_,_,rfl,Ix hs o d j (λq a=> ?_),z⟩;obtain⟨sz,b,e,_⟩:=g q a;exact r q (Nn _ a) k.1 (by rw [e])
  .rcases Nq.1 a with a | a
   .obtain⟨sz,b,e,C⟩:=g q a;exact⟨k.1,sz,b,e,C⟩
   .exact B q a
theorem EE:∀{us:aE} {h:Id->Option ab} {i:Id} {b:ab},aJ h us i=some b->(i,b)∈us\/((∀q∈us,q.1≠i)/\h i=some b)
 | [],h,i,b,e=> .inr ⟨by simp,e⟩
 | (j,x)::us,h,i,b,e=>by
  rw [cJ] at e;rcases EE e with e | ⟨g,a⟩
  .exact .inl (M4 _ e)
  .by_cases d:i=j
   .subst d;rw [aC] at a;simp only [M1] at a;subst a;exact .inl M3
   .rw [aq _ _ d] at a;refine .inr ⟨λq f=> ?_,a⟩;rcases Nj.1 f with rfl | f
    .exact λe=>d e.symm
    .exact g q f
theorem HS.EU{us:aE}{a:Id->Option Value}(r:∀q∈us,q.1.real=true)(hs:HS c w h ρ O)(B:∀q∈us,h q.1=none)(x:∀q∈us,∃sz b u,q.2= .sl false sz b []/\a q.1=some u/\ay w A (.af b) u)
  (f:∀i,(∀q∈us,q.1≠i)->a i=ρ i):HS c w (aJ h us) a O:=by
 have mono:∀i v,ρ i=some v->a i=some v:=by
  intro i v d;rw [f i (λq j e=> ?_)]
  .exact d
  .have:=(hs.ct _ (r q j) (B q j)).1;rw [e,d] at this;cases this
 have k:∀i n,∀q∈us,q.1≠ .g i n:=λi n q j e=>by have:=r q j;rw [e] at this;cases this
 have le:Le w ρ O w a O:=⟨rfl,rfl,rfl,Ns _,mono,λ_ _ _=>rfl,λi b h=> .inl ⟨i,h⟩⟩;refine hs.go le (λi n=>⟨f _ (k i n),rfl,λ_ _=>rfl⟩) (λi b l=> ?_) (λi p d=> ?_) (λi d=>(uK d).2) (λi n=>by rw [de (k i n)];exact hs.dB i n) hs.inj hs.lt
 .rcases EE l with hm | ⟨_,l⟩
  .right;obtain⟨sz,C,u,m,o,e3⟩:=x _ hm;simp only at m o;subst m;refine⟨u,o, ?_,by simp⟩;simp only [ay] at e3;rcases e3 with⟨rfl,rfl⟩ | ⟨rfl,ae,off,sp,rfl⟩
   .exact⟨none,0,rfl,by simp,by simp,by simp, .inl rfl⟩
   .exact⟨some ⟨ae,off,sp⟩,0,rfl,by simp,by simp,trivial, .inl rfl⟩
  .exact .inl ⟨l,rfl,λ_ _=>rfl⟩
 .obtain⟨y,z⟩:=uK d;rw [f i y];exact hs.ct i p z
theorem Cg{b:Id->Option Value}{tmps:Array Value}:∀{live:List (Nat×Option Nat)} {bh:List AV},az w A b bh (live.map λk=>tmps.getD k.1 undef)->∀k,ai w A b (lh.look live bh k) (tmps.getD k undef)
 | [],bh,a,k=>by cases bh <;> simp [lh.look,ai]
 | (j,o)::live,bh,a,k=>by
  cases bh with
  | nil=>simp [az] at a
  | cons v bh=>
   simp only [NH,az,Oa] at a;obtain⟨u,r,⟨rfl,rfl⟩,d,f⟩:=a;simp only [lh.look];split
   .rename_i e;subst e;exact d
   .exact Cg f k
def rf:List Item->List Item
 | .inLoop b::k=> .code b:: .inLoop b::k
 | t=>t
def nz(P:Program)(An:cx)(Or:ax):Prop:= ∀f fn todo live m bh b xs,Or (.node f todo live m) bh b=some xs->P.funcs[f]? =some fn->
 ∀c w ρ O a B,gH m.1 B ρ->ei c fn.ntmps w (lh live bh b) ρ O a->Ends P f fn (rf todo) a w (Fin P c B (cZ P An f m.2 fn) (fP An f m.2) xs (eV O) w)
theorem ei.x9{nt:Nat}{a:Act}{h':Id->Option ab}{ρ':Id->Option Value}{O':Id->Option Nat}(d:ei c nt w s ρ O a)(le:Le w ρ O w ρ' O')(hs:HS c w h' ρ' O'):ei c nt w {t:=s.t,h:=h'} ρ' O' a:=
 ⟨hs,SS.mono (λb e=>le.A b e) le.dU d.ss,d.nt,d.defers⟩
theorem gH.le{m:Nat}{B:Nat->Option Value}{ρ':Id->Option Value}(h:gH m B ρ)(le:∀i v,ρ i=some v->ρ' i=some v):gH m B ρ':=λj d=>by obtain⟨v,a,b⟩:=h j d;exact⟨v,a,le _ _ b⟩
theorem w7{s:St}:∀{live:List (Nat×Option Nat)} {p:List AV×aE},mE s live=some p->∀q∈p.2,∃k,q.1=Id.s (1000000+k) 0
 | [],p,b,q,d=>by simp only [mE,M1] at b;subst b;cases d
 | k::live,p,b,q,d=>by
  simp only [mE] at b;obtain⟨f,a,b⟩:=M2.1 b;obtain⟨g,e,b⟩:=M2.1 b;simp only [M1] at b;subst b;rcases Nq.1 d with d | d
  .unfold qX at a;split at a
   .cases a
   .split at a
    .simp only [M1] at a;subst a;cases d
    .split at a
     .simp only [M1] at a;subst a;cases d
     .split at a
      .split at a
       .simp only [M1] at a;subst a;cases d
       .cases a
      .simp only [M1] at a;subst a;rw [Ng.1 d];exact⟨_,rfl⟩
      .cases a
  .exact w7 e q d
theorem Mx{f:FuncId}{fn:Func}{todo:List Item}{live:List (Nat×Option Nat)}{m:Nat×Nat}{B:Nat->Option Value}{xs:List T}{a:Act}(hN:nz P An Or)(Q:P.funcs[f]? =some fn)(hB:gH m.1 B ρ)(o:ei c fn.ntmps w s ρ O a)(e:uF Or f todo live m s=some xs):
  Ends P f fn (rf todo) a w (Fin P c B (cZ P An f m.2 fn) (fP An f m.2) xs (eV O) w):=by
 unfold uF at e;replace e:=M2.1 e;obtain⟨p,K,e⟩:=e;split at e
 .rename_i y;replace e:=M2.1 e;obtain⟨seen,u,e⟩:=e;let l:Id->Option Value:=λi=>if p.2.any (λq=>decide (q.1=i)) then(match i with | .s d _=>some (a.tmps.getD (d - 1000000) undef) | _=>none) else ρ i;have N:∀q∈p.2,s.h q.1=none:=by
   intro q g;have:=Nt.1 y q g;simpa using this
  have z:∀i,(∀q∈p.2,q.1≠i)->l i=ρ i:=by
   intro i r;have:p.2.any (λq=>decide (q.1=i))=false:=by rw [NV];intro q g;simpa using r q g
   simp only [l,this,NA,if_false]
  have F:∀q∈p.2,∀k,q.1= .s (1000000+k) 0->l q.1=some (a.tmps.getD k undef):=by intro q g k e;have:p.2.any (λx=>decide (x.1=q.1))=true:=OU.2 ⟨q,g,by simp⟩;simp only [l,this,if_true];rw [e];simp
  have mono:∀i v,ρ i=some v->l i=some v:=by
   intro i v r;rw [z i (λq g e=> ?_)]
   .exact r
   .cases E:q.1.real with
    | true=>have:=(o.hs.ct _ E (N q g)).1;rw [e,r] at this;cases this
    | false=>have hm:p.2.any (λx=>decide (x.1=q.1))=true:=OU.2 ⟨q,g,by simp⟩;obtain⟨k,ek⟩:=w7 K q g;rw [ek] at E;cases E
  obtain⟨hv,X⟩:=Ca o.hs o.ss mono K F;have U:HS c w (aJ s.h p.2) l O:=o.hs.EU (λq g=>by obtain⟨k,ek⟩:=w7 K q g;rw [ek];rfl) N (A:=AA c w O) (λq g=>by
   obtain⟨k,sz,b,e,E⟩:=X q g;exact⟨sz,b,_,by rw [e],F q g k (by rw [e]),E⟩) z
  obtain⟨g1,g2,g3,g4,g5⟩:=rH u PF (by simp) (by simp);obtain⟨V,C⟩:=U.rn g1 g4 g5;have hA:∀b,AA c w O b->AA c w (cr seen O) b:=λb G=>⟨G.1,G.2.1,λi r=>by
   obtain⟨k,hk⟩:=C b ⟨i,r⟩;exact G.2.2 k hk⟩
  have Y:=az.rn (m:=seen) hA _ _ (λi r=>g3 i (Nl _ r)) hv;have L:ei c fn.ntmps w (lh live (iU seen p.1) (seen.map λi=>fQ seen (aJ s.h p.2 i))) (cr seen l) (cr seen O) a:=
   ⟨V,λk=>Cg Y k,o.nt,o.defers⟩
  have D:=Dm u (by
   exact List.pairwise_map.2 (List.nodup_range.imp λh e=>h (by simpa using e))) (by simp)
  rw [Ow] at D;have M:gH m.1 B (cr seen l):=by
   intro j J;obtain⟨v,Z,e2⟩:=hB.le mono j J;refine⟨v,Z, ?_⟩;obtain⟨t,ht⟩:=D;have:seen[j]? =some (.c j):=by rw [<-ht,Nu (by simpa using J)];simp [J]
   simp [cr,this,e2]
  exact(hN f fn todo live m _ _ xs e Q c w _ _ a B M L).mono λv w' I=>I.own C
 .simp at e
theorem th:∀{l:List (Nat×Option Nat)},fA s.h (lj s l)
 | []=>by intro p a;cases a
 | (k,none)::l=>by simp only [lj];exact th
 | (k,some 0)::l=>by simp only [lj];exact(qJ _).append th
 | (k,some (n+1))::l=>by
  simp only [lj];refine fA.append ?_ th;cases Nat.beq n 999998 with
  | false=>intro p a;cases a
  | true=>
   show fA s.h (wz s.h (s.t k).2);unfold wz;split
   .split
    .exact wv _
    .intro p a;cases a
   .intro p a;cases a
theorem CN{h:Id->Option ab}(hs:HS c w h ρ O)(v:AV):HS c w (tP h v) ρ O:=by
 unfold tP;split
 .rename_i i off;split
  .rename_i cs f;obtain⟨b,arr,t,q,y,z,B,C⟩:=hs.ae i _ f;have j:=hs.real (i:=i) (by rw [f];simp);have D:az w (AA c w O) ρ (cs.map (lH h)) arr.toList:=by
    have d:∀(l:List AV) (us:List Value),az w (AA c w O) ρ l us->az w (AA c w O) ρ (l.map (lH h)) us:=by
     intro l;induction l with
     | nil=>intro us h;exact h
     | cons x l E=>intro us h;simp only [NH,az] at h⊢;obtain⟨u,r,e,o,p⟩:=h;exact⟨u,r,e,xq hs o,E r p⟩
    exact d _ _ B
   rw [dr];refine hs.go Le.refl (λk m=>⟨rfl,rfl,λ_ _=>rfl⟩) (λk x a=> ?_) (λk g a=> ?_) (λk a=> ?_) (λk m=>by rw [aq _ _ (aP j)];exact hs.dB k m) hs.inj hs.lt
   .by_cases e:k=i
    .subst e;rw [aC] at a;simp only [M1] at a;subst a;exact .inr ⟨b,arr,t,q,y,z,D,C⟩
    .rw [aq _ _ e] at a;exact .inl ⟨a,rfl,λ_ _=>rfl⟩
   .by_cases e:k=i
    .subst e;rw [aC] at a;cases a
    .rw [aq _ _ e] at a;exact hs.ct k g a
   .by_cases e:k=i
    .subst e;rw [aC] at a;cases a
    .rw [aq _ _ e] at a;exact a
  .exact hs
 .exact hs
theorem Bo(live:List (Nat×Option Nat))(bh:List AV)(a:List ab):lY (lh live bh a):=by intro k g v e;simp [lh] at e
theorem aZ.rz{ae:Nat}:∀{cs:List T} {off:Nat},(∀(j:Nat) (x:T),cs[j]? =some x->∃v,w.cell? ⟨ae,off+j,none⟩=some v/\ay w A x v)->aZ w A ae off cs
 | [],_,_=>by simp [aZ]
 | x::cs,off,h=>by simp only [aZ];refine⟨by simpa using h 0 x rfl,aZ.rz λj y a=> ?_⟩;have:=h (j+1) y (by simpa using a);rw [show off+1+j=off+ (j+1) by omega];exact this
theorem DL{i:Id}{ae sz col rsz:Nat}:∀{es:List Row} {base:Nat},aX es=true->cn w A ρ O i ae sz col rsz base es->(∀e∈es,∀d,O (.g i e.n)=some d->A d)->bd w A ae sz base (es.map (pO col rsz))
 | [],_,_,_,_=>by simp [bd]
 | e::es,base,b,C,l=>by
  simp only [aX,Ot,M7] at b;obtain⟨m,o⟩:=C;simp only [NH,bd];obtain⟨q,G,r,u,a4,I,v⟩:=m;have key:∃x,pO col rsz e=e.cs.set col x/\ay w A x u:=by
   obtain⟨en,F,eo⟩:=e;cases eo with
   | none=>simp at b
   | some p=>refine⟨_,rfl, ?_⟩;exact cF.EA v λd B=>l _ M3 d B
  obtain⟨x,E,D⟩:=key;rw [E];refine⟨by rw [O6];exact q,aZ.rz λj y a=> ?_,DL b.2 o λf z=>l f (M4 _ z)⟩;rw [On] at a;split at a
  .rename_i k;subst k;split at a
   .cases a;exact⟨u,a4,D⟩
   .cases a
  .rename_i k;exact r j y (λe=>k e.symm) a
theorem HS.D0{i:Id}{b:Bool}{sz col rsz N:Nat}{es:List Row}(hs:HS c w h ρ O)(E:h i=some (.rows b sz col rsz N es))(D:aX es=true):
  ∃O',Le w ρ O w ρ O'/\HS c w (aH h i (some (.sl true sz b (es.map (pO col rsz))))) ρ O':=by
 classical
 have q:=hs.real (i:=i) (by rw [E];simp);let Q:Id->Option Nat:=λx=>if Of [i] x then none else O x;have G:Q i=none:=if_pos (.inl M3);have Q2:∀n,Q (.g i n)=none:=λn=>if_pos (.inr ⟨i,n,M3,rfl⟩);have o:∀x d,Q x=some d->O x=some d/\¬Of [i] x:=by
  intro x d k;simp only [Q] at k;split at k
  .cases k
  .rename_i K;exact⟨k,K⟩
 have B:∀x,x.real=true->x≠i->Q x=O x:=by
  intro x r k;refine if_neg ?_;rintro(hm | ⟨j,n,_,rfl⟩)
  .exact k (Ng.1 hm)
  .cases r
 have C:∀x n,x≠i->Q (.g x n)=O (.g x n):=by
  intro x n k;refine if_neg ?_;rintro(hm | ⟨j,m,J,e⟩)
  .rw [<-Ng.1 hm] at q;cases q
  .simp only [Id.g.injEq] at e;exact k (e.1.trans (Ng.1 J))
 have le:Le w ρ O w ρ Q:=⟨rfl,rfl,rfl,Ns _,λ_ _ h=>h,λ_ _ _=>rfl,λx d k=> .inl ⟨x,(o x d k).1⟩⟩;have u:∀x d,Of [i] x->O x=some d->AA c w Q d:=by intro x d k p;refine⟨.inr (hs.own x d p),hs.lt x d p,λy v=> ?_⟩;obtain⟨L,M⟩:=o y d v;exact M (hs.inj x y d p L▸k)
 refine⟨Q,le,hs.mv le (λx y k=> ?_) (λx r k=> ?_) (λx n=>by rw [aq _ _ (aP q)];exact hs.dB x n) (λx n k=> ?_) hs.gone (λx y d k v=>hs.inj x y d (o x d k).1 (o y d v).1) (λx d k=>hs.lt x d (o x d k).1)⟩
 .by_cases e:x=i
  .subst e;rw [aC] at k;cases k;right;obtain⟨a,cap,r1,r2,r3,r4,z⟩:=hs.ae x _ E;refine⟨_,r1,⟨a,cap,by rw [N3],by rw [N3];exact r2,r3,trivial, ?_⟩,λ_=>G⟩;rcases z with z | ⟨ae,off,arr,t,U,V,X,Y,Z⟩
   .exact .inl z
   .refine .inr ⟨ae,off,arr,t,U,by simp only [if_true];exact u x ae (.inl M3) V,X,Y, ?_⟩;refine DL (ρ:=ρ) (O:=O) (i:=x) D (cn.move (λb I=>le.A b I) (λ_ _=>rfl) (λf _=>⟨rfl,rfl,λ_ _=>rfl⟩) Z) λf hf d p=>u _ d (.inr ⟨x,f.n,M3,rfl⟩) p
  .rw [aq _ _ e] at k;have F:=hs.real (i:=x) (by rw [k];simp);exact .inl ⟨k,B x F e,λ_ _=>rfl,λn=>⟨rfl,C x n e,λ_ _=>rfl⟩⟩
 .have l:x≠i:=λe=>by rw [e,aC] at k;cases k
  rw [aq _ _ l] at k;rw [B x r l];exact hs.ct x r k
 .have l:x≠i:=λe=>by rw [e,aC] at k;cases k
  rw [aq _ _ l] at k;rw [C x n l];exact hs.eQ x n k
theorem x6{R:Type}:∀{l:List Id} {h:Id->Option ab} {O:Id->Option Nat} {K:aE->Option R} {r:R},HS c w h ρ O->rR h l K=some r->∃us O',K us=some r/\Le w ρ O w ρ O'/\HS c w (aJ h us) ρ O'
 | [],h,O,K,r,hs,e=>⟨[],O,e,Le.refl,hs⟩
 | i::l,h,O,K,r,hs,e=>by
  simp only [rR] at e;split at e
  .rename_i b sz col rsz o es k;replace e:=aM e (.inl rfl);obtain⟨_,a,e⟩:=e;have a:aX es=true:=by
    split at a
    .assumption
    .cases a
   obtain⟨m,cq,d⟩:=hs.D0 k a;obtain⟨us,j,e,g,f⟩:=x6 d e;exact⟨_,j,e,cq.trans g,by rw [cJ];exact f⟩
  .exact x6 hs e
theorem L6{h:Id->Option ab}{O:Id->Option Nat}(hs:HS c w h ρ O)(v:AV):∃O',Le w ρ O w ρ O'/\HS c w (x7 h v) ρ O':=by
 unfold x7;split
 .split
  .rename_i b sz col rsz g es f;cases e:aX es with
   | true=>obtain⟨d,cq,a⟩:=hs.D0 f e;exact⟨d,cq,by rw [cond_true,dr];exact a⟩
   | false=>exact⟨O,Le.refl,hs⟩
  .exact⟨O,Le.refl,hs⟩
 .exact⟨O,Le.refl,hs⟩
theorem D1:∀(l:List AV) {h:Id->Option ab} {O:Id->Option Nat},HS c w h ρ O->∃O',Le w ρ O w ρ O'/\HS c w (x8 h l) ρ O'
 | [],h,O,hs=>⟨O,Le.refl,hs⟩
 | v::r,h,O,hs=>by obtain⟨f,cq,a⟩:=L6 hs v;obtain⟨e,d,b⟩:=D1 r a;exact⟨e,cq.trans d,b⟩
theorem L5{h:Id->Option ab}{O:Id->Option Nat}(hs:HS c w h ρ O)(v:AV):∃O',Le w ρ O w ρ O'/\HS c w (x5 h v) ρ O':=by
 unfold x5;split
 .split
  .exact D1 _ hs
  .exact⟨O,Le.refl,hs⟩
 .exact⟨O,Le.refl,hs⟩
theorem ru{t:Nat->Option Gs×AV}:∀{l:List (Nat×Option Nat)} {h:Id->Option ab} {O:Id->Option Nat},HS c w h ρ O->∃O',Le w ρ O w ρ O'/\HS c w (pE t h l) ρ O'
 | [],h,O,hs=>⟨O,Le.refl,hs⟩
 | (k,some n)::l,h,O,hs=>by
  simp only [pE];cases Nat.beq n 999999 with
  | true=>exact ru (CN hs _)
  | false=>
   cases Nat.beq n 999998 with
   | true=>obtain⟨f,cq,a⟩:=L5 hs (t k).2;obtain⟨e,d,b⟩:=ru (t:=t) (l:=l) (CN a (t k).2);exact⟨e,cq.trans d,b⟩
   | false=>exact ru hs
 | (k,none)::l,h,O,hs=>by simp only [pE];exact ru hs
theorem yq{f:FuncId}{fn:Func}{todo:List Item}{live:List (Nat×Option Nat)}{m:Nat×Nat}{B:Nat->Option Value}{xs:List T}{a:Act}(y:nz P An Or)(o:P.funcs[f]? =some fn)(x:gH m.1 B ρ)(i:ei c fn.ntmps w s ρ O a)(e:jW Or f todo live m s=some xs):
  Ends P f fn (rf todo) a w (Fin P c B (cZ P An f m.2 fn) (fP An f m.2) xs (eV O) w):=by
 unfold jW at e;obtain⟨us,u,e⟩:=M2.1 e;obtain⟨C,cq,p,_⟩:=i.hs.nR th;have d:=i.x9 cq p;obtain⟨z,D,b,q⟩:=xB d.hs u;obtain⟨E,g,r⟩:=ru (t:=s.t) (l:=live) q;have k:=d.x9 (b.trans g) r;exact(Mx y o (x.le b.dU) k e).mono λv w' j=>Fin.le cq (Fin.le (b.trans g) j)
theorem Bh{f:FuncId}{fn:Func}{nt:Nat}{m:Nat×Nat}{B:Nat->Option Value}{xs:List T}{a:Act}(d:gH m.1 B ρ)(b:ei c nt w s ρ O a)(h:s7 P An f fn m s=some xs):
  ∃v,(results fn a.tmps).run P w= .ok v w/\Fin P c B (cZ P An f m.2 fn) (fP An f m.2) xs (eV O) w v w:=by
 unfold s7 at h;cases e:(cZ P An f m.2 fn).any BM with
 | true=>rw [e,cond_true] at h;exact Bg d b h
 | false=>rw [e,cond_false] at h;obtain⟨us,k,h,cq,g⟩:=x6 b.hs h;obtain⟨v,i,j⟩:=Bg d (b.x9 cq g) h;exact⟨v,i,Fin.le cq j⟩
theorem jI(hm:P.follows .mixedOrders=true)(u:ic P An Or)(r:nz P An Or){f:FuncId}{fn:Func}{m:Nat×Nat}{B:Nat->Option Value}(o:P.funcs[f]? =some fn):∀{n:Nat} {j:Bool} {todo:List Item} {xs:List T} {w:World} {s:St} {ρ:Id->Option Value} {O:Id->Option Nat} {a:Act},
  gH m.1 B ρ->ei c fn.ntmps w s ρ O a->lY s->ev P An Or f fn m n j todo s=some xs->Ends P f fn todo a w (Fin P c B (cZ P An f m.2 fn) (fP An f m.2) xs (eV O) w)
 | 0,j,todo,xs,w,s,ρ,O,a,i,d,l,e=>by simp [ev] at e
 | n+1,j,[],xs,w,s,ρ,O,a,i,d,l,e=>by simp only [ev] at e;obtain⟨v,C,D⟩:=Bh i d e;exact λb K F cs=>⟨a,w,v,[], .one step_end,d.defers,C,D⟩
 | n+1,j, .code .skip::k,xs,w,s,ρ,O,a,i,d,l,e=>by simp only [ev] at e;exact Ends.step (λb cs=>step_skip) (jI hm u r o i d l e)
 | n+1,j, .code (.seq x y)::k,xs,w,s,ρ,O,a,i,d,l,e=>by simp only [ev] at e;exact Ends.step (λb cs=>step_seq) (jI hm u r o i d l e)
 | n+1,j, .code (.region id ops z)::k,xs,w,s,ρ,O,a,i,d,l,e=>by
  simp only [ev] at e;split at e
  .rename_i live _;exact yq (todo:= .code (.region id ops z)::k) r o i d e
  .obtain⟨s',e,G⟩:=Kq hm u d l e;refine Ends.region (G _ λQ w' ρ' O' le J=>⟨rfl, ?_⟩);exact(jI hm u r o (i.le le.dU) J (FI _) e).mono λv N E=>E.le le
 | n+1,j, .code (.cond x p q)::k,xs,w,s,ρ,O,a,i,d,l,e=>by
  simp only [ev] at e;replace e:=M2.1 e;obtain⟨y,M,e⟩:=e;replace e:=aM e (.inl rfl);obtain⟨t,L,e⟩:=e;have I:=SS.get (h:=s.h) d.ss (g:=none) trivial x;rw [show(⟨s.t,s.h⟩:St)=s from rfl,AV.jV M,T.gL L] at I;simp only [ai,ay] at I;refine Ends.step (todo':= .code (if t then p else q)::k) (λb cs=>step_cond I) ?_;cases t with
  | true=>exact jI hm u r o i d l e
  | false=>exact jI hm u r o i d l e
 | n+1,j, .code (.block id b)::k,xs,w,s,ρ,O,a,i,d,l,e=>by simp only [ev] at e;exact Ends.step (λb cs=>step_block) (jI hm u r o i d l e)
 | n+1,j, .code (.loop b)::k,xs,w,s,ρ,O,a,i,d,l,e=>by
  simp only [ev] at e;split at e
  .exact Ends.step (λb cs=>step_loop) (yq (todo:= .inLoop b::k) r o i d e)
  .simp at e
 | n+1,j, .code (.exit id)::k,xs,w,s,ρ,O,a,i,d,l,e=>by
  simp only [ev] at e;split at e
  .rename_i U F;exact Ends.step (λb cs=>step_exit F) (jI hm u r o i d l e)
  .simp at e
 | n+1,j, .code .ret::k,xs,w,s,ρ,O,a,i,d,l,e=>by simp only [ev] at e;obtain⟨v,C,D⟩:=Bh i d e;exact λb K F cs=>⟨a,w,v,_, .one step_ret,d.defers,C,D⟩
 | n+1,j, .inBlock id::k,xs,w,s,ρ,O,a,i,d,l,e=>by simp only [ev] at e;exact Ends.step (λb cs=>step_inBlock) (jI hm u r o i d l e)
 | n+1,j, .inLoop b::k,xs,w,s,ρ,O,a,i,d,l,e=>by
  simp only [ev] at e;split at e
  .exact Ends.step (λb cs=>step_inLoop) (yq (todo:= .inLoop b::k) r o i d e)
  .simp at e
 | n+1,j, .code (.label _)::k,xs,w,s,ρ,O,a,i,d,l,e=>by simp [ev] at e
 | n+1,j, .code (.goto _)::k,xs,w,s,ρ,O,a,i,d,l,e=>by simp [ev] at e
theorem IH{a:Id->Option Value}{bh:List AV}{args:List Value}(i:az w A a bh args)(m k:Nat):ai w A a (bh.getD k .top) ((args.toArray++Array.replicate m undef).getD k undef):=by
 have e:(args.toArray++Array.replicate m undef).getD k undef= (args++List.replicate m undef).getD k undef:=by rw [Ox,Na,<-NU];simp
 rw [e,Na,Na];cases f:bh[k]? with
 | none=>simp [ai]
 | some v=>obtain⟨u,d,g⟩:=i.get f;have b:k < args.length:=(M5.1 d).1;rw [Nu b,d];exact g
theorem Mm(G:kM P An)(hm:P.follows .mixedOrders=true)(K:∀(f:FuncId) (fn:Func),P.funcs[f]? =some fn->fn.name≠ "runtime.NumGoroutine")(F:ic P An Or)(E:nz P An Or):ic P An (aA P An Or):=by
 intro f bh a xs e;simp only [aA] at e;split at e
 .rename_i r y;exact G f bh a xs (y.trans e)
 split at e
 .rename_i fn l;split at e
  .rename_i q d;split at e
   .rename_i J;refine⟨fn,q,l,d,K f fn l,λc w ρ O args N hs m=> ?_⟩;have hl:=m.length;have eh:(qI bh a).h=iH a:=by funext i;cases i <;> rfl
    have C:ei c fn.ntmps w (qI bh a) ρ O {tmps:=args.toArray++Array.replicate (fn.ntmps - args.toArray.size) undef,defers:= []}:=by refine⟨by rw [eh];exact hs,λk=>IH m _ k, ?_,rfl⟩;simp only [PG,Oo,Array.size_replicate];omega
    have o:lY (qI bh a):=by intro k g v e;simp [qI] at e
    have D:gH (a.length,fM a.head?).1 (my a.length ρ) ρ:=by
     intro j u;simp only at u;have z:iH a (.c j)=some a[j]:=by simp [iH,u]
     obtain⟨v,p,_⟩:=hs.D9 z;exact⟨v,by simp [my,u,p],p⟩
    refine(FF l d (jI hm F E l D C o e)).mono λe w' ⟨v,I,b⟩=> ?_;obtain⟨rs,M,x2,o1,o2,p,L,B,x,y,ho⟩:=b.res;exact⟨rs,M,x2,o1,o2,by rw [I,p],⟨b.os,b.output,b.tape,b.size,b.ae⟩,L,B,x,y,ho⟩
   .simp at e
  .simp at e
 .simp at e
theorem Ml(hm:P.follows .mixedOrders=true)(l:ic P An Or)(j:nz P An Or):nz P An (aA P An Or):=by
 intro f fn todo live m bh p xs e d c w ρ O a B i g;simp only [aA,d] at e;split at e
 .exact jI hm l j d i g (Bo _ _ _) e
 .rename_i o;have:rf todo=todo:=by
   unfold rf;split
   .rename_i b k;exact(o b k rfl).elim
   .rfl
  rw [this];exact jI hm l j d i g (Bo _ _ _) e
theorem CY(d:kM P An)(hm:P.follows .mixedOrders=true)(g:∀(f:FuncId) (fn:Func),P.funcs[f]? =some fn->fn.name≠ "runtime.NumGoroutine"):∀n,ic P An (gS P An n)/\nz P An (gS P An n)
 | 0=>⟨λ_ _ _ _ e=>by simp [gS] at e,λ_ _ _ _ _ _ _ _ e=>by simp [gS] at e⟩
 | n+1=>by obtain⟨a,b⟩:=CY d hm g n;exact⟨Mm d hm g a b,Ml hm a b⟩
theorem C0{k:Key}{vs:List AV}{a:List ab}{r:List T}(e:jN P An k vs a=some r):∃n,gS P An n k vs a=some r:=by
 unfold jN at e;split at e
 .rename_i b;simp only [M1] at e;exact⟨_,by rw [<-e];exact OZ (OZ b)⟩
 .simp at e
theorem J6(b:kM P An)(hm:P.follows .mixedOrders=true)(d:∀(f:FuncId) (fn:Func),P.funcs[f]? =some fn->fn.name≠ "runtime.NumGoroutine"):ic P An (jN P An):=by intro f bh a xs e;obtain⟨n,e⟩:=C0 e;exact(CY b hm d n).1 f bh a xs e
end
open Go Go.IntKind
abbrev EK:=Key×List AV×List ab×List T
def uN(O:ax)(L:List EK):Prop:= ∀q∈L,O q.1 q.2.1 q.2.2.1=some q.2.2.2
def aG{R:Type}(F:ax->Option R):Prop:= ∀O r,F O=some r->∃L,uN O L/\∀O',uN O' L->F O'=some r
section
variable {P:Program} {A:cx} {R S:Type}
theorem aG.const(m:Option R):aG (λ_=>m):=λ_ r h=>⟨[],(by intro q a;cases a),λ_ _=>h⟩
theorem aG.bind{F:ax->Option R}{G:R->ax->Option S}(j:aG F)(k:∀a,aG (G a)):aG (λO=>(F O).bind λa=>G a O):=by
 intro O r h;obtain⟨a,l,h⟩:=M2.1 h;obtain⟨L1,e,g⟩:=j O a l;obtain⟨L2,f,i⟩:=k a O r h;refine⟨L1++L2,λq b=> ?_,λO' d=> ?_⟩
 .rcases Nq.1 b with b | b
  .exact e q b
  .exact f q b
 .have:=g O' (λq b=>d q (Nn _ b));simp only [this,M6];exact i O' (λq b=>d q (Nl _ b))
theorem aG.ask(k:Key)(vs:List AV)(a:List ab):aG (λO=>O k vs a):=λO r h=>⟨[(k,vs,a,r)],(by intro q b;simp only [Ng] at b;subst b;exact h),
 λO' d=>d _ (Ng.2 rfl)⟩
theorem aG.cond{b:Bool}{F G:ax->Option R}(a:aG F)(d:aG G):aG (λO=>cond b (F O) (G O)):=by cases b <;> assumption
theorem aG.ite{p:Prop}[Decidable p]{F G:ax->Option R}(b:aG F)(d:aG G):aG (λO=>if p then F O else G O):=by
 by_cases a:p
 .simp only [a,if_true];exact b
 .simp only [a,if_false];exact d
theorem aG.aa{d:Type}[Inhabited d]{c:Option Bool}{m:Option d}{K:d->ax->Option R}(h:∀a,aG (K a)):aG (λO=>aa c m λa=>K a O):=by
 unfold Aev.aa;cases m with
 | some a=>exact h a
 | none=>cases c with
  | none=>exact aG.const none
  | some b=>exact aG.cond (aG.const none) (h default)
theorem aG.eF{k:Ck}{c:Option Bool}{x:T}{K:T->ax->Option R}(h:∀a,aG (K a)):aG (λO=>eF k c x λa=>K a O):=by
 unfold Aev.eF;cases k <;> (try dsimp only)
 case x=>exact h x
 all_goals exact aG.aa λa=>h _
theorem aG.eC{c:Option Bool}:∀{ks:List Ck} {xs:List T} {K:List T->ax->Option R},(∀a,aG (K a))->aG (λO=>eC c ks xs λa=>K a O)
 | [],xs,K,h=>h xs
 | _::_,[],K,h=>h []
 | k::ks,x::xs,K,h=>by simp only [Aev.eC];exact aG.eF (K:=λy O=>Aev.eC c ks xs λb=>K (y::b) O) λy=>aG.eC (K:=λb O=>K (y::b) O) λb=>h _
theorem aG.kL{c:Option Bool}{t:TypeId}{v:AV}{K:AV->ax->Option R}(h:∀a,aG (K a)):aG (λO=>kL P c t v λa=>K a O):=by
 unfold Aev.kL;cases v <;> (try exact h _)
 case t x=>exact aG.eF (K:=λy O=>K (.t y) O) λy=>h _
 case agg vs=>
  dsimp only;cases dK vs with
  | none=>exact h _
  | some l=>exact aG.eC (K:=λl O=>K (.agg (l.map .t)) O) λy=>h _
theorem aG.hI{c:Option Bool}:∀{ts:List TypeId} {vs:List AV} {K:List AV->ax->Option R},(∀a,aG (K a))->aG (λO=>hI P c ts vs λa=>K a O)
 | [],vs,K,h=>h vs
 | _::_,[],K,h=>h []
 | t::ts,v::vs,K,h=>by simp only [Aev.hI];exact aG.kL (K:=λu O=>Aev.hI P c ts vs λus=>K (u::us) O) λu=>aG.hI (K:=λus O=>K (u::us) O) λus=>h _
theorem aG.fD{s:St}{d:Nat}{c:Option Bool}{f:FuncId}{args:List AV}{K:AV->aE->Option R}:aG (λO=>fD P A O s d c f args K):=by
 unfold Aev.fD;cases P.funcs[f]? with
 | none=>exact aG.const none
 | some fn=>
  dsimp only;have e:∀(m:Option (List T)) (k:List T->Option R),Aev.aa none m k=m.bind k:=by intro m k;cases m <;> rfl
  cases A.gf f with
  | none=>
   dsimp only;refine aG.bind (F:=λ_=>jz ((cZ P A f 0 fn).all pg) (A.deep f) s.h args) (aG.const _) λp=> ?_;simp only [e];refine aG.hI λq=> ?_;refine aG.bind (F:=λO=>dL c (O (.call f) q [])) ?_ λxs=>aG.const _;unfold dL;cases c with
   | none=>exact aG.ask _ _ _
   | some b=>exact aG.cond (aG.ask _ _ _) (aG.const _)
  | some a=>
   cases c with
   | some b=>exact aG.const none
   | none=>dsimp only;refine aG.bind (F:=λ_=>kg s.h (vh a args) a args) (aG.const _) λp=> ?_;refine aG.bind (F:=λ_=>iQ (2000000+d) 0 (aJ s.h p.2) (lO (nI (bX p.1) []) (fP A f (fM ((bX p.1).head?.bind (aJ s.h p.2)))))) (aG.const _) λus=> ?_;refine aG.bind (F:=λ_=>eE (aJ (aJ s.h p.2) us) 1000 (bX p.1) []) (aG.const _) λseen=> ?_;refine aG.cond ?_ (aG.const none);simp only [e];refine aG.hI λq=> ?_;exact aG.bind (aG.ask _ _ _) λxs=>aG.const _
theorem aG.im{fO:Bool}{s:St}{d:Nat}{c:Option Bool}{f:FuncId}{args:List AV}{K:AV->aE->Option R}:aG (λO=>im fO P A O s d c f args K):=by
 unfold Aev.im;cases _root_.cond fO (gw args) none with
 | none=>exact aG.fD
 | some q=>
  obtain⟨a,i,n,e⟩:=q;cases c with
  | some b=>exact aG.const none
  | none=>
   dsimp only;cases s.h i with
   | none=>exact aG.const none
   | some b=>
    cases b with
    | rows b sz col rsz g es=>
     dsimp only;cases cv n es with
     | none=>exact aG.const none
     | some p=>exact aG.cond aG.fD (aG.const none)
    | _=>exact aG.const none
theorem aG.cG{g:Option Gs}{o:Oper}{s:St}:aG (λO=>cG P A O g o s):=by
 unfold Aev.cG gK;cases o.op <;> (try dsimp only) <;> try exact aG.const _
 case makeFunc fn a b=>cases fn <;> (try dsimp only) <;> exact aG.const _
 case call cl=>
  cases cl.callee <;> (try dsimp only)
  case value d=>cases ku (s.get g d) <;> (try dsimp only) <;> first | exact aG.im | exact aG.const _
  case builtin b=>cases b <;> (try dsimp only) <;> exact aG.const _
  all_goals exact aG.const _
theorem aG.eD{a:Bool}{nt:Nat}{ops:Array Oper}{o:Oper}{s:St}:aG (λO=>eD P A O a nt ops o s):=by
 unfold Aev.eD mK;have key:∀{G:ax->Option Gs->Option St},(∀g,aG (λO=>G O g))->aG (λO=>cW ops o s (G O)):=λ{G} b=>by rw [show(λO=>cW ops o s (G O))=λO=>(cW ops o s some).bind (G O) from funext λO=>tq _ _ _ _];exact aG.bind (aG.const _) b
 refine key λg=> ?_;cases oq A a o g with
 | none=>simp only [oH];exact aG.bind aG.cG λp=>aG.const _
 | some d=>simp only [oH];exact aG.cond (aG.cond (aG.bind aG.cG λp=>aG.const _) (aG.const _)) (aG.const _)
theorem aG.gV{a:Bool}{nt:Nat}{ops:Array Oper}:∀(l:List Oper) (s:St),aG (λO=>gV P A O a nt ops l s)
 | [],s=>aG.const _
 | o::r,s=>aG.bind (F:=λO=>Aev.eD P A O a nt ops o s) aG.eD λs'=>aG.gV r s'
theorem aG.region{nt:Nat}{a:Bool}{ops:Array Oper}{s:St}{K:St->ax->Option R}(h:∀s,aG (K s)):aG (λO=>region P A O nt a ops s λs'=>K s' O):=by
 unfold Aev.region;refine aG.cond ?_ (aG.const none);have:(λO=>rL P A O a nt ops ops.toList s λs'=>K s'.clear O)=λO=>(Aev.gV P A O a nt ops ops.toList s).bind λs'=>K s'.clear O:=by funext O;rw [xN]
 rw [this];exact aG.bind (aG.gV _ _) λs'=>h _
theorem aG.jW{f:FuncId}{todo:List Item}{live:List (Nat×Option Nat)}{m:Nat×Nat}{s:St}:aG (λO=>jW O f todo live m s):=by unfold Aev.jW;refine aG.bind (aG.const _) λus=> ?_;unfold Aev.uF;refine aG.bind (aG.const _) λp=>aG.ite ?_ (aG.const none);exact aG.bind (aG.const _) λseen=>aG.ask _ _ _
theorem aG.ev{f:FuncId}{fn:Func}{m:Nat×Nat}:∀(n:Nat) (a:Bool) (todo:List Item) (s:St),aG (λO=>ev P A O f fn m n a todo s)
 | 0,a,todo,s=>by simp only [Aev.ev];exact aG.const none
 | n+1,a,[],s=>by simp only [Aev.ev];exact aG.const _
 | n+1,a, .code .skip::k,s=>by simp only [Aev.ev];exact aG.ev n _ _ _
 | n+1,a, .code (.seq x y)::k,s=>by simp only [Aev.ev];exact aG.ev n _ _ _
 | n+1,a, .code (.region id ops d)::k,s=>by
  simp only [Aev.ev];cases e:(bif a then A.join f id else none) with
  | some live=>exact aG.jW
  | none=>exact aG.region λs'=>aG.ev n _ _ _
 | n+1,a, .code (.cond x p q)::k,s=>by simp only [Aev.ev];refine aG.bind (F:=λ_=>(s.get none x).t?) (aG.const _) λy=>aG.aa λt=>aG.cond (aG.ev n _ _ _) (aG.ev n _ _ _)
 | n+1,a, .code (.block id b)::k,s=>by simp only [Aev.ev];exact aG.ev n _ _ _
 | n+1,a, .code (.loop b)::k,s=>by
  simp only [Aev.ev];cases A.live f (mR b) with
  | some live=>exact aG.jW
  | none=>exact aG.const none
 | n+1,a, .code (.exit id)::k,s=>by
  simp only [Aev.ev];cases exitTo id k with
  | some g=>exact aG.ev n _ _ _
  | none=>exact aG.const none
 | n+1,a, .code .ret::k,s=>by simp only [Aev.ev];exact aG.const _
 | n+1,a, .inBlock id::k,s=>by simp only [Aev.ev];exact aG.ev n _ _ _
 | n+1,a, .inLoop b::k,s=>by
  simp only [Aev.ev];cases A.live f (mR b) with
  | some live=>exact aG.jW
  | none=>exact aG.const none
 | n+1,a, .code (.label _)::k,s=>by simp only [Aev.ev];exact aG.const _
 | n+1,a, .code (.goto _)::k,s=>by simp only [Aev.ev];exact aG.const _
 | n+1,a, .code (.rangeFunc ..)::k,s=>by simp only [Aev.ev];exact aG.const _
 | n+1,a, .code (.scope _)::k,s=>by simp only [Aev.ev];exact aG.const _
 | n+1,a, .code (.refuse _)::k,s=>by simp only [Aev.ev];exact aG.const _
 | n+1,a, .inRegion ..::k,s=>by simp only [Aev.ev];exact aG.const _
 | n+1,a, .inScope _::k,s=>by simp only [Aev.ev];exact aG.const _
 | n+1,a, .inRangeFunc _::k,s=>by simp only [Aev.ev];exact aG.const _
 | n+1,a, .endRangeFunc _::k,s=>by simp only [Aev.ev];exact aG.const _
 | n+1,a, .beginRound::k,s=>by simp only [Aev.ev];exact aG.const _
 | n+1,a, .extern ..::k,s=>by simp only [Aev.ev];exact aG.const _
 | n+1,a, .call ..::k,s=>by simp only [Aev.ev];exact aG.const _
theorem aG.aA(k:Key)(vs:List AV)(a:List ab):aG (λO=>aA P A O k vs a):=by
 cases k with
 | call f=>
  simp only [Aev.aA];cases A.ext f vs a with
  | some r=>exact aG.const _
  | none=>
   dsimp only;cases P.funcs[f]? with
   | none=>exact aG.const _
   | some fn=>
    dsimp only;cases fn.body with
    | none=>exact aG.const _
    | some c=>exact aG.ite (aG.ev _ _ _ _) (aG.const _)
 | node f todo live m=>
  simp only [Aev.aA];cases P.funcs[f]? with
  | none=>exact aG.const _
  | some fn=>
   dsimp only;split
   .exact aG.ev _ _ _ _
   .exact aG.ev _ _ _ _
theorem CZ:∀(n:Nat) {k:Key} {vs:List AV} {a:List ab} {r:List T},gS P A n k vs a=some r->gS P A (n+1) k vs a=some r
 | 0,k,vs,a,r,h=>by simp [gS] at h
 | n+1,k,vs,a,r,h=>by obtain⟨L,e,g⟩:=aG.aA (P:=P) (A:=A) k vs a _ r h;exact g _ λq b=>CZ n (e q b)
theorem tT{n m:Nat}(b:n<=m){k:Key}{vs:List AV}{a:List ab}{r:List T}(h:gS P A n k vs a=some r):gS P A m k vs a=some r:=by
 induction b with
 | refl=>exact h
 | step _ d=>exact CZ _ d
theorem xz{n:Nat}{k:Key}{vs:List AV}{e:List ab}{r:List T}(h:gS P A n k vs e=some r):jN P A k vs e=some r:=by unfold jN;have d:∃n r,gS P A n k vs e=some r:=⟨n,r,h⟩;rw [dif_pos d];have f:=OZ (OZ d);have a:=tT (Nat.le_max_left n (Classical.choose d)) h;have b:=tT (Nat.le_max_right n (Classical.choose d)) f;rw [a] at b;exact b.symm
theorem ah{k:Key}{vs:List AV}{b:List ab}{r:List T}(h:aA P A (jN P A) k vs b=some r):jN P A k vs b=some r:=by
 obtain⟨L,e,g⟩:=aG.aA (P:=P) (A:=A) k vs b _ r h;have:∃n,uN (gS P A n) L:=by
  clear g h;induction L with
  | nil=>exact⟨0,(by intro q a;cases a)⟩
  | cons q L i=>
   obtain⟨n,d⟩:=i λf a=>e f (M4 _ a);obtain⟨m,hm⟩:=C0 (e q M3);refine⟨max n m,λf a=> ?_⟩;rcases Nj.1 a with rfl | a
   .exact tT (Nat.le_max_right _ _) hm
   .exact tT (Nat.le_max_left _ _) (d f a)
 obtain⟨n,d⟩:=this;exact xz (n:=n+1) (g _ d)
end
open Go Go.IntKind
section
variable {P:Program} {An:cx} {w w':World}
theorem sv.below(k:sv w w'):Go.RowKit.Below w.heap.size w w':=⟨k.os,k.tape,k.output,k.size,k.ae⟩
theorem FG{f:FuncId}{fn:Func}{bh:List AV}{args:List Value}{A0:Nat->Prop}(y:kM P An)(hm:P.follows .mixedOrders=true)(B:∀(f:FuncId) (fn:Func),P.funcs[f]? =some fn->fn.name≠ "runtime.NumGoroutine")
  (l:P.funcs[f]? =some fn) (d:An.gf f=none) (i:cZ P An f 0 fn= [.f .b]) (r:∀b,A0 b->b < w.heap.size) (g:az w A0 (λ_=>none) bh args)
  (e:jN P An (.call f) bh []=some [.bool true]) (u:GlobOk w:=by exact Go.Aev.globOk _):Calls P f args.toArray w λe w'=>e= .returned (.bool true)/\Go.RowKit.Below w.heap.size w w':=by
 obtain⟨E,o,a,_,_,p⟩:=J6 y hm B f bh [] _ e;rw [l] at a;simp only [M1] at a;subst a;refine(p.values d A0 w args r g u).mono λe w' ⟨rs,own,z,C,_,_,m⟩=> ?_;rw [i] at m;obtain⟨x,G,v,F,ob,D,j,rfl,_,q,I,rfl,_⟩:=m;simp only [Oa] at j;obtain⟨rfl,rfl⟩:=j;obtain⟨_,k,_⟩:=q;simp only [ay] at k;subst k;exact⟨z,C.below⟩
end
open Go Go.IntKind
abbrev I(n:Int):AV:= .t (.int .i64 n)
abbrev B(b:Bool):AV:= .t (.bool b)
theorem bu{b R:Type}[Inhabited b](c:Option Bool)(a:b)(k:b->Option R):aa c (some a) k=k a:=by cases c <;> rfl
theorem bo{a R:Type}[Inhabited a](m:Option a)(k:a->Option R):aa (some false) m k=k (m.getD default):=by cases m <;> rfl
theorem bA{a:Type}(x:a)(l:List a):(x::l).head? =some x:=by cases l <;> rfl
theorem cC{a:Type}(x:a)(l:List a):(x::l).tail=l:=by cases l <;> rfl
theorem jg{a:Type}(l:List a):l.drop 0=l:=by cases l <;> rfl
theorem mh{a:Type}(x:a)(l:List a):(x::l).drop 1=l:=by cases l <;> rfl
theorem mi{a:Type}(x y:a)(l:List a):(x::y::l).drop 2=l:=by cases l <;> rfl
theorem oT{a:Type}(x y z:a)(l:List a):(x::y::z::l).drop 3=l:=by cases l <;> rfl
theorem zy{a:Type}(x y z u:a)(l:List a):(x::y::z::u::l).drop 4=l:=by cases l <;> rfl
theorem zz{a:Type}(x y z u v:a)(l:List a):(x::y::z::u::v::l).drop 5=l:=by cases l <;> rfl
theorem zA{a:Type}(x y z u v t:a)(l:List a):(x::y::z::u::v::t::l).drop 6=l:=by cases l <;> rfl
theorem eN(b:Bool):(T.bool b).bool? =some b:=by cases b <;> rfl
theorem bG(k:IntKind)(n:Int):(T.int k n).int? k=some n:=by cases k <;> simp [T.int?]
theorem eT(s:ByteArray):(T.str s).a8 =some s:=by cases s;rfl
theorem dP(sz:Nat)(b:Bool)(l:List (List T)):(T.ad sz b l).au sz=some (b,l):=by cases b <;> simp [T.au]
theorem cq(sz:Nat)(b:Bool):(T.af b).au sz=some (b,[]):=by cases b <;> rfl
theorem De(l:List T):(T.ptr l).od =some l:=by cases l <;> rfl
theorem Ba(k:IntKind)(n:Int):(T.int k n).nP =some ():=by cases k <;> rfl
theorem A9(b:Bool):(T.bool b).nP =some ():=by cases b <;> rfl
theorem Bv(b:ByteArray):(T.str b).nP =some ():=by cases b;rfl
theorem bt{d:Type}(a b:d):cond true a b=a:=by simp
theorem bB{d:Type}(a b:d):cond false a b=b:=by simp
theorem iz:(!true)=false:=by decide
theorem iy:(!false)=true:=by decide
theorem ig(m:Option (List T)):dL none m=m:=by cases m <;> rfl
theorem fh(m:Option (List T)):dL (some true) m=m:=by cases m <;> rfl
theorem fY(m:Option (List T)):dL (some false) m=some []:=by cases m <;> rfl
theorem oM{d:Type}(p:Prop)[Decidable p](a b:d):(bif decide p then a else b)=if p then a else b:=by by_cases h:p <;> simp [h]
theorem zg{d:Type}(p:Prop)[Decidable p](a b:d):(bif !decide p then a else b)=if p then b else a:=by by_cases h:p <;> simp [h]
theorem y8{d:Type}(m n:Int)(a b:d):(bif m==n then a else b)=if m=n then a else b:=by
 by_cases h:m=n
 .simp [h]
 .have:(m==n)=false:=by simpa using h
  simp [h,this]
theorem zf{d:Type}(m n:Int)(a b:d):(bif !m==n then a else b)=if m=n then b else a:=by
 by_cases h:m=n
 .simp [h]
 .have:(m==n)=false:=by simpa using h
  simp [h,this]
theorem FH(a b:Bool):(bif a then b else false)= (a && b):=by cases a <;> simp
theorem wr{v:Int}(h: -9223372036854775808<=v/\v < 9223372036854775808):i64.wrap v=v:=by simp [IntKind.wrap,IntKind.signed,IntKind.bits];omega
theorem aj:(type_of% @bu)/\(type_of% @bA)/\(type_of% @cC)/\(type_of% @jg)/\(type_of% @mh)/\(type_of% @mi)/\(type_of% @oT)/\(type_of% @zy)/\(type_of% @zz)/\(type_of% @zA)/\(type_of% @eN)/\(type_of% @bG)/\(type_of% @eT)/\(type_of% @dP)/\(type_of% @cq)/\(type_of% @De)/\(type_of% @Ba)/\(type_of% @A9)/\(type_of% @Bv)/\(type_of% @bt)/\(type_of% @bB)/\(type_of% @iz)/\(type_of% @iy)/\(type_of% @ig)/\(type_of% @fh)/\(type_of% @fY)/\(type_of% @oM)/\(type_of% @zg)/\(type_of% @y8)/\(type_of% @zf)/\(type_of% @beq_self_eq_true.{0})/\(type_of% @Og)/\(type_of% @N1)/\(type_of% @OG)/\(type_of% @Oc):=⟨@bu,@bA,@cC,@jg,@mh,@mi,@oT,@zy,@zz,@zA,@eN,@bG,@eT,@dP,@cq,@De,@Ba,@A9,@Bv,@bt,@bB,@iz,@iy,@ig,@fh,@fY,@oM,@zg,@y8,@zf,@beq_self_eq_true.{0},@Og,@N1,@OG,@Oc⟩
open Go Go.ChangeShapes Go.WideShapes Go.ChangeAt Go.RowKit Go.IntKind
def rU(P:Program)(go:TypeId->Bool):List Field->Nat->Option Nat
 | [],off=>some off
 | f::r,off=>if f.offset=off/\go f.type=true then rU P go r (off+P.cellsOf f.type) else none
def iA(P:Program):Nat->TypeId->Bool
 | 0,_=>false
 | n+1,t=>match P.underlying t with
  | some .bool=>true
  | some (.int _)=>true
  | some .string=>true
  | some (.slice e)=>iA P n e && decide (0 < P.cellsOf e)
  | some (.struct a)=>decide (rU P (iA P n) a.toList 0=some (P.cellsOf t))
  | some (.array m e)=>iA P n e && decide (P.cellsOf t=m * P.cellsOf e)
  | _=>false
def sB(W:TypeId->List T->Prop):List Field->List T->Prop
 | [],ts=>ts= []
 | f::r,ts=>∃a b,ts=a++b/\W f.type a/\sB W r b
def uT(W:List T->Prop):Nat->List T->Prop
 | 0,ts=>ts= []
 | m+1,ts=>∃a b,ts=a++b/\W a/\uT W m b
def Wt(P:Program):Nat->TypeId->List T->Prop
 | 0,_,_=>False
 | n+1,t,ts=>match P.underlying t with
  | some .bool=>∃b,ts= [.bool b]
  | some (.int k)=>∃m,ts= [.int k m]/\(Lit.int k m).wf=true
  | some .string=>∃s,ts= [.str s]/\s.size<=maxLen
  | some (.slice e)=>∃b xs,ts= [.ad (P.cellsOf e) b xs]/\(b=true->xs= [])/\xs.length<=maxLen/\(∀cs∈xs,Wt P n e cs)/\xs.length * P.bytesOf e<=reachBytes
  | some (.struct a)=>sB (Wt P n) a.toList ts
  | some (.array m e)=>uT (Wt P n e) m ts
  | _=>False
section
variable {H:Type} {enc:TypeId×Value->H} {P:Program} {w:World} {base:Nat} {sp:Nat->Bool} {held:Bool}
def nf{H:Type}(P:Program)(t:TypeId)(d:DataW H):Prop:= ∀k∈DataW.weights P t d,k<=reachBytes
theorem yu{H:Type}{P:Program}{e:TypeId}:∀{l:List (DataW H)} {d:DataW H},d∈l->∀k∈DataW.weights P e d,k∈DataW.weightsAll P e l
 | [],d,h,k,_=>by cases h
 | c::l,d,h,k,a=>by
  simp only [DataW.weightsAll,Nq];rcases Nj.1 h with rfl | h
  .exact .inl a
  .exact .inr (yu h k a)
theorem EH{H:Type}{P:Program}{us:List TypeId}{a:List (DataW H)}{k:Nat}:∀{ts:List TypeId} {ds:List (DataW H)},k∈DataW.weightsEach P ts ds->k∈DataW.weightsEach P (ts++us) (ds++a)
 | [],ds,h=>by simp [DataW.weightsEach] at h
 | t::ts,[],h=>by simp [DataW.weightsEach] at h
 | t::ts,d::ds,h=>by simp only [DataW.weightsEach,NR,Nq] at h⊢;exact h.imp id EH
theorem aR.uX{A:Nat->Prop}:∀{a b:List T} {vs us:List Value},aR w A a vs->aR w A b us->aR w A (a++b) (vs++us)
 | [],b,vs,us,h,h'=>by simp only [aR] at h;subst h;simpa using h'
 | c::a,b,vs,us,⟨v,r,e,d,f⟩,h'=>by subst e;exact⟨v,r++us,rfl,d,aR.uX f h'⟩
theorem EB{n m:Nat}(o:∀(t:TypeId) (cs:List Value) (x:DataW H×List MemPlace),iA P n t=true->DataW.trod enc P w base sp held m t cs=some x->nf P t x.1->
   ∃ts,aR w (λb=>b < w.heap.size) ts cs/\Wt P n t ts) (cs:List Value):∀(i:List Field) (off E:Nat),rU P (iA P n) i off=some E->E<=cs.length->
   (∀f∈i,∃x,DataW.trod enc P w base sp held m f.type ((cs.drop f.offset).take (P.cellsOf f.type))=some x/\nf P f.type x.1)->
   off<=E/\∃ts,aR w (λb=>b < w.heap.size) ts ((cs.drop off).take (E - off))/\sB (Wt P n) i ts
 | [],off,E,d,k,_=>by simp only [rU,M1] at d;subst d;exact⟨Ns _,[],by simp [aR],rfl⟩
 | f::i,off,E,d,k,l=>by
  simp only [rU] at d;split at d
  .rename_i r;obtain⟨p,q⟩:=r;obtain⟨x,v,j⟩:=l f M3;obtain⟨a,y,B⟩:=o _ _ _ q v j;obtain⟨D,b,z,C⟩:=EB o cs i _ E d k λg u=>l g (M4 _ u);refine⟨by omega,a++b, ?_,⟨a,b,rfl,B,C⟩⟩;have e:(cs.drop off).take (E - off)= (cs.drop f.offset).take (P.cellsOf f.type)++ (cs.drop (off+P.cellsOf f.type)).take (E - (off+P.cellsOf f.type)):=by
    rw [p,<-PW];have:E - off=P.cellsOf f.type+ (E - (off+P.cellsOf f.type)):=by omega
    rw [this,List.take_add]
   rw [e];exact aR.uX y z
  .cases d
theorem EC{n m e:Nat}(l:∀(t:TypeId) (cs:List Value) (x:DataW H×List MemPlace),iA P n t=true->DataW.trod enc P w base sp held m t cs=some x->nf P t x.1->
   ∃ts,aR w (λb=>b < w.heap.size) ts cs/\Wt P n t ts) (f:iA P n e=true):∀(k:Nat) (cs:List Value),cs.length=k * P.cellsOf e->
   (∀i,i < k->∃x,DataW.trod enc P w base sp held m e ((cs.drop (i * P.cellsOf e)).take (P.cellsOf e))=some x/\nf P e x.1)->∃ts,aR w (λb=>b < w.heap.size) ts cs/\uT (Wt P n e) k ts
 | 0,cs,hl,_=>by have:cs= []:=Ny.1 (by simpa using hl);subst this;exact⟨[],rfl,rfl⟩
 | k+1,cs,hl,g=>by
  obtain⟨x,j,d⟩:=g 0 (Nat.zero_lt_succ _);simp only [Nat.zero_mul,List.drop_zero] at j;obtain⟨a,p,r⟩:=l _ _ _ f j d;obtain⟨b,q,u⟩:=EC l f k (cs.drop (P.cellsOf e)) (by rw [Oj,hl,NY];omega) λi v=>by
   obtain⟨y,o,d⟩:=g (i+1) (by omega);refine⟨y, ?_,d⟩;rw [PW];have:P.cellsOf e+i * P.cellsOf e= (i+1) * P.cellsOf e:=by rw [NY];omega
   rw [this];exact o
  refine⟨a++b, ?_,⟨a,b,rfl,r,u⟩⟩;have:=aR.uX p q;rwa [List.take_append_drop] at this
theorem Cp{A:Nat->Prop}{ae sz:Nat}{n e:Nat}:∀(len off:Nat),(∀i,i < len->∃ts a,ts.length=sz/\aR w A ts a/\Wt P n e ts/\∀j v,a[j]? =some v->w.cell? ⟨ae,off+i * sz+j,none⟩=some v)->
  ∃xs:List (List T),xs.length=len/\bd w A ae sz off xs/\∀cs∈xs,Wt P n e cs
 | 0,off,_=>⟨[],rfl,trivial,(by intro c b;cases b)⟩
 | len+1,off,h=>by
  obtain⟨ts,a,d,f,g,k⟩:=h 0 (Nat.zero_lt_succ _);obtain⟨xs,m,o,p⟩:=Cp (A:=A) (ae:=ae) (sz:=sz) (n:=n) (e:=e) len (off+sz) λi q=>by
   obtain⟨ts,a,d,f,g,k⟩:=h (i+1) (by omega);refine⟨ts,a,d,f,g,λj v l=> ?_⟩;have:=k j v l;have e:off+ (i+1) * sz+j=off+sz+i * sz+j:=by rw [NY];omega
   rwa [e] at this
  refine⟨ts::xs,by simp [m],⟨d,aZ.jq f λj v l=> ?_,o⟩,λc b=> ?_⟩
  .have:=k j v l;simpa using this
  .rcases Nj.1 b with rfl | b
   .exact g
   .exact p c b
theorem uG:∀(n:Nat) (m:Nat) (t:TypeId) (cs:List Value) (x:DataW H×List MemPlace),iA P n t=true->DataW.trod enc P w base sp held m t cs=some x->nf P t x.1->
  ∃ts,aR w (λb=>b < w.heap.size) ts cs/\Wt P n t ts
 | 0,m,t,cs,x,g,_,_=>by simp [iA] at g
 | n+1,m,t,cs,x,g,h,l=>by
  simp only [iA] at g;split at g
  .rename_i d;obtain⟨b,rfl,_⟩:=DataW.trod_bool d h;exact⟨[.bool b],⟨_,[],rfl,rfl,rfl⟩,by simp only [Wt,d];exact⟨b,rfl⟩⟩
  .rename_i k d;obtain⟨z,rfl,_,X⟩:=DataW.trod_int d h;exact⟨[.int k z],⟨_,[],rfl,rfl,rfl⟩,by simp only [Wt,d];exact⟨z,rfl,X⟩⟩
  .rename_i d;obtain⟨s,rfl,_,X⟩:=DataW.trod_string d h;exact⟨[.str s],⟨_,[],rfl,rfl,rfl⟩,by simp only [Wt,d];exact⟨s,rfl,X⟩⟩
  .rename_i e d;simp only [M7,decide_eq_true_eq] at g;obtain⟨V,C⟩:=g;rcases Go.Deep.open_slice d h with⟨rfl,_⟩ | ⟨a,len,cap,k,F,D,Pl,rfl,hb,hl,hm,hk,rfl,M⟩
   .exact⟨[.ad (P.cellsOf e) true []],⟨_,[],rfl, .inl ⟨rfl,rfl,rfl⟩,rfl⟩,by simp only [Wt,d];exact⟨true,[],rfl,λ_=>rfl,by simp,(by intro c B;cases B),by simp⟩⟩
   .obtain⟨ae,off,s⟩:=a;have hlk:len<=k:=by rw [hk];split <;> omega
    dsimp only at l;have Q:len * P.bytesOf e<=reachBytes:=by have:=l ((len+ (k - len)) * P.bytesOf e) (by simp [DataW.weights,d]);exact NQ (NX _ (Pt _ _)) this
    have K:∀i,i < len->nf P e (D i):=λi p q E=>l q (by
     simp only [DataW.weights,d,Nj,Nq];exact .inr (.inl (yu (NG.2 ⟨i,PX.2 p,rfl⟩) q E)))
    have I: 0 < len->s=none/\ae < w.heap.size:=by
     intro h0;obtain⟨y,B,_⟩:=M 0 (by omega);obtain⟨J,u,r⟩:=World.cells?_some B;have L:=World.cells?_block B C;have o:=r 0 C;have N:((⟨ae,off,s⟩:Addr).add (0 * P.cellsOf e)).add 0= ⟨ae,off,s⟩:=by simp [Addr.add]
     rw [N] at o;have Z:∃v,y[0]? =some v:=⟨_,Nc (by omega)⟩;obtain⟨v,hv⟩:=Z;rw [hv] at o;refine⟨?_, ?_⟩
     .cases s with
      | none=>rfl
      | some z=>simp only [World.cell?] at o;split at o <;> simp at o
     .have e:((⟨ae,off,s⟩:Addr).add (0 * P.cellsOf e))= ⟨ae,off,s⟩:=by simp [Addr.add]
      rw [e] at L;exact L
    obtain⟨xs,k1,k2,k3⟩:=Cp (P:=P) (w:=w) (A:=λb=>b < w.heap.size) (ae:=ae) (sz:=P.cellsOf e) (n:=n) (e:=e) len off λi p=>by
     obtain⟨y,B,hd⟩:=M i (by omega);obtain⟨hs,_⟩:=I (by omega);subst hs;obtain⟨ts,r1,G⟩:=uG n F e y _ V hd (K i (by omega));obtain⟨J,u,r⟩:=World.cells?_some B;refine⟨ts,y,by rw [<-r1.length,u],r1,G,λj v hj=> ?_⟩;have hj':j < P.cellsOf e:=by rw [<-u];exact(M5.1 hj).1
     have:=r j hj';rw [hj,fK,fK] at this;exact this
    refine⟨[.ad (P.cellsOf e) false xs],⟨_,[],rfl, .inr ⟨rfl,ae,off,s,cap,by rw [k1],by omega, ?_,k2⟩,rfl⟩,by simp only [Wt,d];exact⟨false,xs,rfl,λh=>(by cases h),by omega,k3,by rw [k1];exact Q⟩⟩;by_cases h0:len=0
    .left;exact Ny.1 (by omega)
    .right;exact I (by omega)
  .rename_i Y d;simp only [decide_eq_true_eq] at g;obtain⟨xs,F,rfl,rfl,hl,hsz,U⟩:=DataW.trod_struct d h;dsimp only at l;obtain⟨_,ts,r1,G⟩:=EB (λt cs x=>uG n F t cs x) cs Y.toList 0 _ g (by omega) λf hf'=>by
    obtain⟨i,p,e⟩:=List.getElem_of_mem hf';have e':Y.toList[i]? =some f:=by rw [Nc p,e]
    have:=U i f (by rw [<-NU];exact e');rw [this];have hx:xs[i]? =some (xs[i]'(by simp at p;omega)):=Nc (by simp at p;omega);refine⟨_,hx,λq E=>l q ?_⟩;simp only [DataW.weights,d];exact DataW.weights_mem_each (j:=i) (by rw [Ob,e'];rfl) (by rw [Ob,hx];rfl) q E
   refine⟨ts, ?_,by simp only [Wt,d];exact G⟩;simp only [List.drop_zero,Nat.sub_zero] at r1;rwa [<-hl,PK] at r1
  .rename_i m' e d;simp only [M7,decide_eq_true_eq] at g;obtain⟨xs,F,rfl,rfl,hl,hsz,U⟩:=DataW.trod_array d h;dsimp only at l;obtain⟨ts,r1,G⟩:=EC (λt cs x=>uG n F t cs x) g.1 m' cs (by omega) λi p=>by
    rw [U i p];refine⟨_,Nc (by omega),λq E=>l q ?_⟩;simp only [DataW.weights,d];exact yu (NG.2 ⟨_,Pb _,rfl⟩) q E
   exact⟨ts,r1,by simp only [Wt,d];exact G⟩
  .cases g
end
def rY(P:Program)(n:Nat):List TypeId->List AV->Prop
 | [],b=>b= []
 | t::ts,b=>∃a r,b=a::r/\((bD P t=true/\∃l,Wt P n t l/\a= .agg (l.map .t))\/(bD P t=false/\∃x,Wt P n t [x]/\a= .t x))/\rY P n ts r
section
variable {H:Type} {enc:TypeId×Value->H} {P:Program} {W W':World} {sp:Nat->Bool} {held:Bool}
theorem J5{n:Nat}{t:TypeId}{v:Value}{d:DataW H}{F:List MemPlace}{r:Reach}{D base:Nat}(o:iA P (n+1) t=true)(f:Value.okWide P W r D t v)(h:DataW.Trod enc P W base sp held t v d F)(B:nf P t d):
  ∃a,((bD P t=true/\∃l,Wt P (n+1) t l/\a= .agg (l.map .t))\/(bD P t=false/\∃x,Wt P (n+1) t [x]/\a= .t x))/\ai W (λb=>b < W.heap.size) (λ_=>none) a v:=by
 obtain⟨m,hm⟩:=h;obtain⟨ts,r1,C⟩:=uG (n+1) m t _ _ o hm B;have j:bD P t=false->v.cells= #[v]->∃a,((bD P t=true/\∃l,Wt P (n+1) t l/\a= .agg (l.map .t))\/(bD P t=false/\∃x,Wt P (n+1) t [x]/\a= .t x))/\ai W (λb=>b < W.heap.size) (λ_=>none) a v:=by
  intro p E;rw [E] at r1
  match ts,r1 with
  | [],r1=>simp [aR] at r1
  | [x],⟨u,q,e,g,_⟩=>simp only [Oa] at e;obtain⟨rfl,_⟩:=e;exact⟨.t x, .inr ⟨p,x,C,rfl⟩,by simpa [ai] using g⟩
  | x::y::z,⟨u,q,e,_,⟨K,J,e',_⟩⟩=>subst e';simp at e
 have agg:bD P t=true->(∃cs,v= .agg cs)->∃a,((bD P t=true/\∃l,Wt P (n+1) t l/\a= .agg (l.map .t))\/(bD P t=false/\∃x,Wt P (n+1) t [x]/\a= .t x))/\ai W (λb=>b < W.heap.size) (λ_=>none) a v:=by rintro p ⟨cs,rfl⟩;refine⟨.agg (ts.map .t), .inl ⟨p,ts,C,rfl⟩, ?_⟩;simp only [ai];exact⟨cs.toList,by simp,az.jM r1,r1.one⟩
 simp only [iA] at o;split at o
 .rename_i i;simp only [Value.okWide,i,Cell.okWide] at f;refine j (by simp [bD,i]) ?_;cases v <;> first | rfl | (simp [Cell.ok,i] at f)
 .rename_i k i;simp only [Value.okWide,i,Cell.okWide] at f;refine j (by simp [bD,i]) ?_;cases v <;> first | rfl | (simp [Cell.ok,i] at f)
 .rename_i i;simp only [Value.okWide,i,Cell.okWide] at f;refine j (by simp [bD,i]) ?_;cases v <;> first | rfl | (simp [Cell.ok,i] at f)
 .rename_i e i;simp only [Value.okWide,i,Cell.okWide] at f;refine j (by simp [bD,i]) ?_;cases v <;> first | rfl | (simp [Cell.ok,i] at f)
 .rename_i G i;simp only [Value.okWide,i] at f;obtain⟨cs,e,_⟩:=f;exact agg (by simp [bD,i]) ⟨cs,e⟩
 .rename_i I e i;simp only [Value.okWide,i] at f;obtain⟨cs,e,_⟩:=f;exact agg (by simp [bD,i]) ⟨cs,e⟩
 .cases o
theorem CX{n:Nat}{r:Reach}{y base:Nat}:∀{ts:List TypeId} {vs:List Value} {ds:List (DataW H)} {m:List MemPlace},ts.all (iA P (n+1))=true->(∀(j:Nat) (t:TypeId) (v:Value),ts[j]? =some t->vs[j]? =some v->Value.okWide P W r y t v)->
  DataW.TrodAll enc P W base sp held ts vs ds m->(∀k∈DataW.weightsEach P ts ds,k<=reachBytes)->∃e,rY P (n+1) ts e/\az W (λb=>b < W.heap.size) (λ_=>none) e vs
 | [],vs,ds,m,_,_,h,_=>by obtain⟨rfl,_,_⟩:=trodAll_nil h;exact⟨[],rfl,by simp [az]⟩
 | t::ts,vs,ds,m,g,i,h,f=>by simp only [Ot,M7] at g;obtain⟨v,x,d,ds',p,q,rfl,rfl,rfl,z,B⟩:=trodAll_cons h;obtain⟨a,C,D⟩:=J5 g.1 (i 0 t v rfl rfl) z (λk l=>f k (by simp only [DataW.weightsEach,Nq];exact .inl l));obtain⟨e,o,u⟩:=CX g.2 (λj G I E F=>i (j+1) G I (by simpa using E) (by simpa using F)) B (λk l=>f k (by simp only [DataW.weightsEach,Nq];exact .inr l));exact⟨a::e,⟨a,e,rfl,C,o⟩,by simp only [az];exact⟨v,x,rfl,D,u⟩⟩
theorem D2(hl:laidOutB P=true)(i:Below W.heap.size W W'):∀{ts:List TypeId} {vs:List Value} {ds:List (DataW H)} {a:List MemPlace},(ts.all λt=>P.readableRec t && decide (t < P.types.size))=true->
  DataW.TrodAll enc P W 0 (λ_=>true) true ts vs ds a->(∀x∈a,x.block < W.heap.size)->DataW.TrodAll enc P W' 0 (λb=>decide (b < W.heap.size)) true ts vs ds a
 | [],vs,ds,a,_,h,_=>by obtain⟨rfl,rfl,rfl⟩:=trodAll_nil h;exact trodAll_mk0
 | t::ts,vs,ds,a,e,h,f=>by simp only [Ot,M7,decide_eq_true_eq] at e;obtain⟨v,l,d,ds',p,q,rfl,rfl,rfl,j,k⟩:=trodAll_cons h;exact trodAll_cons_mk (Below.trod hl e.1.1 e.1.2 j i λx g=>f x (Nn _ g)) (D2 hl i (by simpa using e.2) k λx g=>f x (Nl _ g))
theorem Fk(a:Below W.heap.size W W')(b:MemPlace->Prop):W.keptBut W' b:=by
 refine⟨a.os,a.output,λi d=> ?_⟩;rw [a.block i d];cases W.heap[i]? with
 | none=>rfl
 | some o=>cases o <;> first | exact⟨rfl,rfl,rfl,λ_ _=>rfl⟩ | exact .inr ⟨rfl,rfl⟩ | rfl
theorem law_contract{n:Nat}{fn:Func}{s:ChangeSpec}{An:cx}{f:FuncId}{tb:TypeId}(hm:P.follows .mixedOrders=true)(hn:(P.funcs.toList.all λfn=>fn.name != "runtime.NumGoroutine")=true)(hl:laidOutB P=true)
  (N:P.funcs[f]? =some fn) (G:An.gf f=none) (I:cZ P An f 0 fn= [.f .b]) (Y:P.underlying tb=some .bool) (X:fn.resultTypes= #[tb])
  (C:fn.params.toList.all (iA P (n+1))=true) (l:(fn.params.toList.all λt=>P.readableRec t && decide (t < P.types.size))=true)
  (m:s.vars= []) (B:∀(ds:List (DataW H)),ds.length=fn.params.toList.length->s.fn H ds= {results:= [.lit (.bool true)],args:=ds})
  (g:∀a,rY P (n+1) fn.params.toList a->jN P An (.call f) a []=some [.bool true])
  (W:World) (base:Nat) (args:Array Value) (ds J:List (DataW H)) (r:List MemPlace) (z:∀(j:Nat) t v,fn.params[j]? =some t->args[j]? =some v->Value.okWide P W .any base t v)
  (K:DataW.Whole enc P fn.params.toList s.vars false W args.toList ds J r)
  (D:(DataW.weightsEach P (fn.params.toList++s.plain.varTypes P) (ds++J)).all (· <=reachBytes)=true)
  (hX:kM P An:=by exact Go.Aev.kM.no λ_ _ _=>rfl) (hG:GlobOk W:=by exact Go.Aev.globOk _):
  Calls P f args W λe W'=>∃v,e= .returned v/\s.post enc P fn false true false false W args v W':=by
 have u:=K;obtain⟨p,q,o,E,rfl,hz,Q⟩:=K;rw [m] at E;obtain⟨rfl,rfl⟩:=trodVars_none E;obtain⟨a,L,V⟩:=CX C (λj t v ht hv=>z j t v (by rw [<-NU];exact ht) (by rw [<-NU];exact hv)) o (λk hk=>by simpa using Nt.1 D k (EH hk));have F:ds.length=fn.params.toList.length:=by
  clear u V L z hz Q E l C g D;generalize fn.params.toList=ts at o;generalize args.toList=vs at o;induction ts generalizing vs ds p with
  | nil=>obtain⟨_,rfl,_⟩:=trodAll_nil o;rfl
  | cons t ts ih=>obtain⟨v,vs',d,ds',p',q',_,rfl,_,_,Z⟩:=trodAll_cons o;simp [ih _ _ _ Z]
 have U:∀(f:FuncId) (fn:Func),P.funcs[f]? =some fn->fn.name≠ "runtime.NumGoroutine" :=by intro f fn h;have:=Nt.1 hn fn (Nh (i:=f) (by rw [NU];exact h));simpa using this
 have:=FG (w:=W) (A0:=λb=>b < W.heap.size) hX hm U N G I (λ_ h=>h) V (g a L) hG;rw [show args.toList.toArray=args from by simp] at this;refine this.mono λe W' ⟨he,M⟩=>⟨.bool true,he, ?_⟩;have y:=B ds F;refine⟨ds,[],p++ [],[],p,[],u, ?_, ?_, ?_,Fk M _,λh=>by cases h⟩
 .rw [Nz,y,X];exact trodAll_cons_mk (shut_bool Y true) trodAll_mk0
 .rw [Nz,y];exact D2 hl M l o (λx hx=>u.lt x (by simpa using hx))
 .rw [Nz,y,m];rfl
end
section
variable {P:Program} {n:Nat} {t:TypeId} {ts:List T}
theorem MR{k:IntKind}(a:P.underlying t=some (.int k))(h:Wt P (n+1) t ts):∃m,ts= [.int k m]/\(Lit.int k m).wf=true:=by simpa only [Wt,a] using h
theorem EJ(a:P.underlying t=some .string)(h:Wt P (n+1) t ts):∃s,ts= [.str s]/\s.size<=maxLen:=by simpa only [Wt,a] using h
theorem yw{a:Array Field}(b:P.underlying t=some (.struct a))(h:Wt P (n+1) t ts):sB (Wt P n) a.toList ts:=by simpa only [Wt,b] using h
theorem MS{e:TypeId}(a:P.underlying t=some (.slice e))(h:Wt P (n+1) t ts):∃b xs,ts= [.ad (P.cellsOf e) b xs]/\(b=true->xs= [])/\xs.length<=maxLen/\(∀cs∈xs,Wt P n e cs)/\xs.length * P.bytesOf e<=reachBytes:=by simpa only [Wt,a] using h
theorem yv{k:Type}(g:k->List T){e:TypeId}(r:P.underlying t=some (.slice e))(h:Wt P (n+1) t ts)(q:∀cs,Wt P n e cs->∃a,cs=g a):
  ∃b l,ts= [.ad (P.cellsOf e) b (l.map g)]/\(b=true->l= [])/\l.length<=maxLen/\l.length * P.bytesOf e<=reachBytes:=by
 obtain⟨b,xs,rfl,d,f,i,j⟩:=MS r h;have:∃l:List k,xs=l.map g:=by
  clear d f h j;induction xs with
  | nil=>exact⟨[],rfl⟩
  | cons c xs u=>obtain⟨a,m⟩:=q c (i c M3);obtain⟨l,hl⟩:=u λcs p=>i cs (M4 _ p);exact⟨a::l,by rw [m,hl];rfl⟩
 obtain⟨l,rfl⟩:=this;exact⟨b,l,rfl,λo=>by simpa using d o,by simpa using f,by simpa using j⟩
theorem Fb{a:AV}(h:(bD P t=true/\∃l,Wt P n t l/\a= .agg (l.map .t))\/(bD P t=false/\∃x,Wt P n t [x]/\a= .t x))(b:bD P t=true):∃l,Wt P n t l/\a= .agg (l.map .t):=by
 rcases h with h | h
 .exact h.2
 .rw [b] at h;cases h.1
end
end Go.Aev
