import Derived.Test.YticjdhgokemdlaaGreatMostTwiceQ4
import Derived.Orders
import Derived.Still
import Derived.Below
import Derived.Deep.Slices
import Derived.Carry
import Derived.ProofKit
import Derived.OpenShut
import Derived.SizedLaws
set_option linter.all false
namespace Go.Aev
open Go Go.IntKind
section
variable {P:Program} {An:cM} {Or:au} {w w':World} {A A':Nat->Prop} {c:Ctx} {ρ:Id->Option Value} {O:Id->Option Nat} {s s':St}
structure eX (c:Ctx) (nt:Nat) (w:World) (s:St) (ρ:Id->Option Value) (O:Id->Option Nat) (a:Act):Prop where
 hs:HS c w s.h ρ O
 ss:SS w (AA c w O) ρ s.t a.tmps
 nt:a.tmps.size=nt
 defers:a.defers= []
def oG(ops:Array Oper)(s:St):Prop:= ∀k g v,s.t k= (some g,v)->eB ops (some g.d)=true
theorem nJ{a:Act}{d k:Nat}{x:Value}(b:d < a.tmps.size):(a.put (some d) x).tmps.getD k undef=if k=d then x else a.tmps.getD k undef:=by
 simp only [Act.put];by_cases e:k=d
 .subst e;simp [b]
 .rw [if_neg e];simp [YY (Zn e)]
theorem zT(a:Act)(d:Option Nat)(x:Value):(a.put d x).tmps.size=a.tmps.size:=by cases d <;> simp [Act.put]
theorem zR(a:Act)(d:Option Nat)(x:Value):(a.put d x).defers=a.defers:=by cases d <;> rfl
theorem Qe{ops:Array Oper}{o:Oper}{a:Act}{g:Option Gs}(I:SS w A ρ s.t a.tmps)(h:dI ops o s some=some g):
  (Region.wanted o (yielded ops a.tmps)=true->kP a.tmps g)/\
  (Region.wanted o (yielded ops a.tmps)=false->∃i,g=some i/\a.tmps.getD i.d undef≠ .bool i.want/\i.c=false)/\
  (∀i,g=some i->eB ops (some i.d)=true\/∀L∈ops,L≠o):=by
 unfold dI at h;cases m:o.guard with
 | none=>simp only [m,U7] at h;subst h;exact⟨λ_=>trivial,λh=>by simp [Region.wanted,m] at h,λi h=>by cases h⟩
 | some p=>
  obtain⟨j,want⟩:=p;simp only [m] at h;cases y:(ops[j]?).bind (·.dst) with
  | none=>simp [y] at h
  | some d=>
   simp only [y] at h;replace h:=U8.1 h;obtain⟨x,l,h⟩:=h;have J:Region.wanted o (yielded ops a.tmps)=true↔a.tmps.getD d undef= .bool want:=by
    simp only [Region.wanted,m,yielded,y,Vj,beq_iff_eq];rw [Xa];cases a.tmps[d]? with
    | none=>simp [undef]
    | some u=>cases u <;> simp
   have F:∀i,g=some i->i.d=d/\i.want=want:=by intro i e;replace h:=qJ h;obtain⟨b,h,_⟩:=h;simp only [U7] at h;rw [<-h] at e;simp only [U7] at e;subst e;exact⟨rfl,rfl⟩
   have z:∃i,g=some i:=by replace h:=qJ h;obtain⟨b,h,_⟩:=h;simp only [U7] at h;exact⟨_,h.symm⟩
   obtain⟨i,rfl⟩:=z;obtain⟨D,e2⟩:=F i rfl;refine⟨λK=> ?_,λC=>⟨i,rfl, ?_⟩,λU e=> ?_⟩
   .have B:=J.1 K;simp only [kP,D,e2];refine⟨B, ?_⟩;have f:=I d;rw [B] at f;cases r:s.t d with
    | mk gd v=>
     rw [r] at f l h;dsimp only at l h f;rw [AV.mB l] at f;cases gd with
     | none=>simp only [an] at f;simp only [YH] at h;replace h:=aO h (.inl rfl);obtain⟨b,hb,h⟩:=h;simp only [U7] at h;have:=T.jf hb;subst this;simp only [aB,Value.bool.injEq] at f;rw [<-h,<-f];cases want <;> rfl
     | some M=>
      simp only at f;rcases f with⟨_,k,hv⟩ | ⟨_,_,Q⟩
      .simp only [Xm,k] at h;replace h:=aO h (.inr rfl);obtain⟨b,hb,h⟩:=h;simp only [U7] at h;have:=T.jf hb;subst this;simp only [an,aB,Value.bool.injEq] at hv;rw [<-h,<-hv];simp only [gC,k];cases want <;> rfl
      .simp [undef] at Q
   .have q:a.tmps.getD d undef≠ .bool want:=λN=>by
     have:=J.2 N;rw [this] at C;cases C
    refine⟨by rw [D,e2];exact q, ?_⟩;have f:=I d;cases r:s.t d with
    | mk gd v=>
     rw [r] at f l h;dsimp only at l h f;rw [AV.mB l] at f;cases gd with
     | none=>simp only [an] at f;simp only [YH] at h;replace h:=aO h (.inl rfl);obtain⟨b,hb,h⟩:=h;simp only [U7] at h;have:=T.jf hb;subst this;simp only [aB] at f;have E:b≠want:=λe=>q (by rw [f,e]);rw [<-h];simp only [gC];cases b <;> cases want <;> simp_all [yw]
     | some M=>
      simp only at f;rcases f with⟨_,k,hv⟩ | ⟨_,k,_⟩
      .simp only [Xm,k] at h;replace h:=aO h (.inr rfl);obtain⟨b,hb,h⟩:=h;simp only [U7] at h;have:=T.jf hb;subst this;simp only [an,aB] at hv;have E:b≠want:=λe=>q (by rw [hv,e]);rw [<-h];simp only [gC,k];cases b <;> cases want <;> simp_all [yw]
      .replace h:=qJ h;obtain⟨b,h,_⟩:=h;simp only [U7] at h;rw [<-h];simp [gC,k]
   .simp only [U7] at e;subst e;by_cases hm:o∈ops
    .left;unfold eB;rw [Yd];exact⟨o,hm,by simp [m,y,D]⟩
    .right;intro L G e;exact hm (e▸G)
theorem DI{ops:Array Oper}{o:Oper}{g:Option Gs}{v:AV}{us:aH}(b:oG ops s)(p:∀q,g=some q->eB ops (some q.d)=true):oG ops (s.put (eB ops o.dst) o.dst g v us):=by
 intro k m u a;cases r:o.dst with
 | none=>simp only [St.put,r] at a;exact b k m u a
 | some d=>
  simp only [St.put,r] at a;by_cases e:k=d
  .simp only [if_pos e,Wk] at a;exact p m a.1
  .simp only [if_neg e] at a;cases f:eB ops (some d) with
   | false=>rw [f,cond_false] at a;exact b k m u a
   | true=>
    rw [f,cond_true] at a;cases l:s.t k with
    | mk i vk=>
     rw [l] at a;cases i with
     | none=>simp [mQ] at a
     | some i=>
      simp only [mQ] at a;cases j:(i.d==d) with
      | true=>simp [j] at a
      | false=>simp only [j,cond_false,Wk,U7] at a;rw [<-a.1];exact b k i vk l
theorem zU{nt:Nat}{ops:Array Oper}{o:Oper}{a:Act}{g:Option Gs}{v:AV}{us:aH}(ss:SS w (AA c w O) ρ s.t a.tmps)(E:a.tmps.size=nt)(D:oG ops s)
  (u:∀d,o.dst=some d->d < nt) (C:∀j d,g=some j->o.dst=some d->j.d≠d)
  (w':World) (ρ':Id->Option Value) (O':Id->Option Nat) (x:Value) (I:∀b,AA c w O b->AA c w' O' b/\w'.heap[b]? =w.heap[b]?) (G:∀i v,ρ i=some v->ρ' i=some v)
  (F:match g with
   | none=>an w' (AA c w' O') ρ' v x
   | some j=>(a.tmps.getD j.d undef= .bool j.want/\j.c=true/\an w' (AA c w' O') ρ' v x)\/(a.tmps.getD j.d undef≠ .bool j.want/\j.c=false/\x=undef)):
  SS w' (AA c w' O') ρ' (s.put (eB ops o.dst) o.dst g v us).t (a.put o.dst x).tmps:=by
 have r:=SS.mono I G ss;cases z:o.dst with
 | none=>simp only [St.put,Act.put];exact r
 | some d=>
  have f:d < a.tmps.size:=by rw [E];exact u d z
  intro k;simp only [St.put];by_cases e:k=d
  .subst e;simp only [if_true];cases g with
   | none=>simp only;rw [nJ f,if_pos rfl];exact F
   | some j=>have p:j.d≠k:=C j k rfl z;simp only;rw [nJ f,nJ f,if_neg p,if_pos rfl];exact F
  .simp only [if_neg e];have l:=r k;cases y:eB ops (some d) with
   | false=>
    simp only [cond_false];cases q:s.t k with
    | mk m vk=>
     rw [q] at l;cases m with
     | none=>simp only at l⊢;rw [nJ f,if_neg e];exact l
     | some m=>
      have p:m.d≠d:=by intro e';have:=D k m vk q;rw [e',y] at this;cases this
      simp only at l⊢;rw [nJ f,nJ f,if_neg e,if_neg p];exact l
   | true=>
    simp only [cond_true];cases q:s.t k with
    | mk m vk=>
     rw [q] at l;cases m with
     | none=>simp only [mQ] at l⊢;rw [nJ f,if_neg e];exact l
     | some m=>
      simp only [mQ];cases B:(m.d==d) with
      | true=>simp [an]
      | false=>
       have p:m.d≠d:=by simpa using B
       simp only [cond_false] at l⊢;rw [nJ f,nJ f,if_neg e,if_neg p];exact l
theorem SS.td{tmps:Array Value}{e:Gs}(hs:SS w A ρ s.t tmps)(l:tmps.getD e.d undef= .bool e.want):SS w A ρ (s.td e).t tmps:=by
 intro k;have b:=hs k;simp only [St.td];cases f:s.t k with
 | mk i v=>
  rw [f] at b;cases i with
  | none=>simp only [lD,cond_true] at b⊢;exact b
  | some g=>
   by_cases a:lD (some g) (some e)=true
   .simp only [a,cond_true];simp only [lD,Ve,beq_iff_eq] at a;simp only at b;rcases b with⟨_,_,j⟩ | ⟨h1,_⟩
    .exact j
    .exfalso;apply h1;rw [a.1,a.2];exact l
   .simp only [ZE] at a;simp only [a,cond_false];exact b
theorem JV{E:Bool}{nt:Nat}{ops:Array Oper}{o:Oper}{a:Act}(hO:jG P An Or)(f:eX c nt w s ρ O a)(m:oG ops s)(Y:o∈ops)(h:fj P An Or E nt ops o s=some s'):
  oG ops s'/\∀(K:Act->World->Prop) (Q:Exit->Act->World->Prop),(∀Z w' ρ' O',Le w ρ O w' ρ' O'->eX c nt w' s' ρ' O' Z->K Z w')->
   if Region.wanted o (yielded ops a.tmps) then o.wp P a w K Q\/(o.asks P a w/\LetsOut Q) else K (a.put o.dst undef) w:=by
 unfold fj pw at h;rw [zm] at h;replace h:=U8.1 h;obtain⟨g,hg,h⟩:=h;obtain⟨F,y,V⟩:=Qe f.ss hg;have r:∀j,g=some j->eB ops (some j.d)=true:=λj e=>(V j e).resolve_right λhn=>hn o Y rfl;cases l:rv An E o g with
 | none=>
  rw [l] at h;dsimp only at h;rw [r7] at h;replace h:=U8.1 h;obtain⟨⟨v,us⟩,L,h⟩:=h;dsimp only at h;split at h
  .rename_i D;simp only [U7] at h;subst h;simp only [pr,Ve] at D;obtain⟨⟨⟨X,G⟩,u⟩,_⟩:=D;have k:∀d,o.dst=some d->d < nt:=λd e=>by simpa [e] using X
   have C:∀j d,g=some j->o.dst=some d->j.d≠d:=λj d U e2=>by subst U;simp only [e2,Ve,WM,beq_eq_false_iff_ne,ne_eq,U7] at G;exact λe=>G.2 e.symm
   refine⟨DI m r,λK Q J=> ?_⟩;split
   .rename_i p;left;have i:=F p;refine ja.wp (Fe hO f.hs f.ss i L u) λx w' ⟨ρ',O',le,M,hv⟩=> ?_;refine J _ w' ρ' O' le ⟨M, ?_,by rw [zT];exact f.nt,by rw [zR];exact f.defers⟩;refine zU f.ss f.nt m k C w' ρ' O' x (λb hb=>le.A b hb) le.eU ?_;cases g with
    | none=>exact hv
    | some j=>exact .inl ⟨i.1,i.2,hv⟩
   .rename_i p;obtain⟨j,rfl,I,q⟩:=y (by simpa using p);have hus:us= []:=by
     simp only [Ve,YV] at G;exact G.1
    subst hus;refine J _ w ρ O Le.refl ⟨f.hs, ?_,by rw [zT];exact f.nt,by rw [zR];exact f.defers⟩;exact zU f.ss f.nt m k C w ρ O undef (λb hb=>⟨hb,rfl⟩) (λ_ _ h=>h) (.inr ⟨I,q,rfl⟩)
  .simp at h
 | some j=>
  rw [l] at h;dsimp only at h;have hg':g=some j:=by
   cases g with
   | none=>simp [rv] at l
   | some g0=>
    simp only [rv] at l;cases hb:(!E && fD An o) with
    | false=>rw [hb] at l;cases l
    | true=>rw [hb] at l;simpa using l
  subst hg';cases B:yI nt o j with
  | false=>rw [B] at h;cases h
  | true=>
   rw [B,cond_true] at h;simp only [yI,Ve] at B;have k:∀d,o.dst=some d->d < nt:=λd e=>by simpa [e] using B.1
   have C:∀z d,some j=some z->o.dst=some d->z.d≠d:=λz d U e2=>by cases U;have:=B.2;simp only [e2,WM,beq_eq_false_iff_ne,ne_eq,U7] at this;exact λe=>this e.symm
   cases N:j.c with
   | false=>
    rw [N,cond_false] at h;simp only [U7] at h;subst h;refine⟨DI m r,λK Q J=> ?_⟩;split
    .rename_i p;have:=(F p).2;rw [N] at this;cases this
    .rename_i p;obtain⟨z,e,I,q⟩:=y (by simpa using p);cases e;refine J _ w ρ O Le.refl ⟨f.hs, ?_,by rw [zT];exact f.nt,by rw [zR];exact f.defers⟩;exact zU f.ss f.nt m k C w ρ O undef (λb hb=>⟨hb,rfl⟩) (λ_ _ h=>h) (.inr ⟨I,q,rfl⟩)
   | true=>
    rw [N,cond_true,r7] at h;replace h:=U8.1 h;obtain⟨⟨v,us⟩,L,h⟩:=h;dsimp only at h;split at h
    .rename_i D;simp only [U7] at h;subst h;simp only [pr,Ve] at D;obtain⟨⟨⟨_,_⟩,u⟩,_⟩:=D;refine⟨DI m r,λK Q J=> ?_⟩;split
     .rename_i p;left;have i:=F p;refine ja.wp (Fe (s:=s.td j) (g:=none) hO f.hs (f.ss.td i.1) trivial L u) λx w' ⟨ρ',O',le,M,hv⟩=> ?_;refine J _ w' ρ' O' le ⟨M, ?_,by rw [zT];exact f.nt,by rw [zR];exact f.defers⟩;exact zU f.ss f.nt m k C w' ρ' O' x (λb hb=>le.A b hb) le.eU (.inl ⟨i.1,i.2,hv⟩)
     .rename_i p;obtain⟨z,e,I,q⟩:=y (by simpa using p);cases e;rw [N] at q;cases q
    .simp at h
theorem eX.clear{nt:Nat}{a:Act}(b:eX c nt w s ρ O a):eX c nt w s.clear ρ O a:=by
 refine⟨b.hs,λk=> ?_,b.nt,b.defers⟩;have:=b.ss k;simp only [St.clear];cases d:s.t k with
 | mk e vk=>
  rw [d] at this;cases e with
  | none=>exact this
  | some g=>simp [an]
def oB(s:St):Prop:= ∀k g v,s.t k≠(some g,v)
theorem M4(s:St):oB s.clear:=by intro k g v h;simp only [St.clear] at h;split at h <;> simp at h
theorem oB.IE(h:oB s)(ops:Array Oper):oG ops s:=λk g v e=>(h k g v e).elim
theorem Kv{g:Bool}{nt:Nat}{ops:Array Oper}(y:jG P An Or){Q:Exit->Act->World->Prop}:∀{l:List Oper} {k:Nat} {w:World} {s:St} {ρ:Id->Option Value} {O:Id->Option Nat} {a:Act},
  (∀j,l[j]? =ops[k+j]?)->eX c nt w s ρ O a->oG ops s->jv P An Or g nt ops l s=some s'->
  (∀f w' ρ' O',Le w ρ O w' ρ' O'->eX c nt w' s' ρ' O' f->Q .normal f w')->wpOps P ops Q (List.range' k l.length) a w
 | [],k,w,s,ρ,O,a,p,b,e,h,i=>by simp only [jv,U7] at h;subst h;exact i a w ρ O Le.refl b
 | o::l,k,w,s,ρ,O,a,p,b,e,h,i=>by
  simp only [jv] at h;obtain⟨s1,h1,h⟩:=U8.1 h;have x:ops[k]? =some o:=by simpa using (p 0).symm
  obtain⟨m,step⟩:=JV y b e (VI x) h1;rw [Vy,X6];simp only [wpOps,x];refine step _ Q λf w' ρ' O' le q=> ?_;exact Kv y (λj=>by have:=p (j+1);simpa [XZ,Za 1 j] using this) q m h
   (λv B r u z d=>i v B r u (le.trans z) d)
theorem Sk{nt id:Nat}{ops:Array Oper}{a:Act}(f:jG P An Or){Q:Exit->Act->World->Prop}(e:eX c nt w s ρ O a)(hb:oB s)(h:jv P An Or false nt ops ops.toList s=some s')
  (g:∀b w' ρ' O',Le w ρ O w' ρ' O'->eX c nt w' s'.clear ρ' O' b->Q .normal b w'):(Code.region id ops false).wp P Q a w:=by
 refine wp_region ?_;rw [Yv,<-VH];exact Kv f (by intro j;simp) e (hb.IE ops) h λb w' ρ' O' le d=>g b w' ρ' O' le d.clear
end
open Go
section
variable {P:Program} {A:cM} {O:au} {R:Type} {h h':Id->Option ab} {s s':St}
theorem kr{v:AV}{vs:List AV}{i:Id}:i∈b8 (v::vs)↔i∈v.ids\/i∈b8 vs:=by simp [b8]
theorem tD{v:AV}(a:∀i∈v.ids,h' i=h i):dK h' v=dK h v:=by
 cases v <;> simp only [dK]
 all_goals rw [a _ (by simp [AV.ids])]
theorem zg{v:AV}(a:∀i∈v.ids,h' i=h i):ik h' v=ik h v:=by
 cases v <;> simp only [ik]
 all_goals rw [a _ (by simp [AV.ids])]
theorem Lh:∀{vs:List AV},(∀i∈b8 vs,h' i=h i)->lI h' vs=lI h vs
 | [],_=>rfl
 | v::vs,a=>by simp only [lI];rw [tD λi hi=>a i (kr.2 (.inl hi)),Lh λi hi=>a i (kr.2 (.inr hi))]
theorem If:∀{vs:List AV},(∀i∈b8 vs,h' i=h i)->nI h' vs=nI h vs
 | [],_=>rfl
 | v::vs,a=>by simp only [nI];rw [zg λi hi=>a i (kr.2 (.inl hi)),If λi hi=>a i (kr.2 (.inr hi))]
theorem Lk{v:AV}(a:∀i∈v.ids,h' i=h i):lH h' v=lH h v:=by
 cases v
 case agg vs=>simp only [lH];exact Lh (by simpa [AV.ids] using a)
 all_goals (simp only [lH];rw [tD a])
theorem Ij{v:AV}(a:∀i∈v.ids,h' i=h i):gY h' v=gY h v:=by
 cases v
 case agg vs=>simp only [gY];exact If (by simpa [AV.ids] using a)
 all_goals (simp only [gY];rw [zg a])
theorem Fh{fl:Bool}{v:AV}(a:∀i∈v.ids,h' i=h i):jY fl false h' v=jY fl false h v:=by
 cases v
 case ref i off=>simp only [jY,cond_false];rw [a i (by simp [AV.ids]),tD a,zg a]
 all_goals (simp only [jY];rw [tD a,zg a])
theorem ye{fl:Bool}:∀{vs:List AV},(∀i∈b8 vs,h' i=h i)->mL fl false h' vs=mL fl false h vs
 | [],_=>rfl
 | v::vs,a=>by simp only [mL];rw [Fh λi hi=>a i (kr.2 (.inl hi)),ye λi hi=>a i (kr.2 (.inr hi))]
theorem Fm{fl:Bool}{v:AV}(d:∀i∈v.ids,h' i=h i):lS fl false h' v=lS fl false h v:=by
 cases v
 case agg vs=>simp only [lS];rw [ye (by simpa [AV.ids] using d)]
 case fn f a b=>simp only [AV.ids,Vr] at d;simp only [lS];rw [ye λi hi=>d i (.inl hi),ye λi hi=>d i (.inr hi)]
 all_goals (simp only [lS];rw [Fh d])
theorem Fp{fl:Bool}:∀{vs:List AV},(∀i∈b8 vs,h' i=h i)->lT fl false h' vs=lT fl false h vs
 | [],_=>rfl
 | v::vs,a=>by simp only [lT];rw [Fm λi hi=>a i (kr.2 (.inl hi)),Fp λi hi=>a i (kr.2 (.inr hi))]
theorem vh:∀{a b:List AV} {i:Id},i∈b8 (a++b)↔i∈b8 a\/i∈b8 b
 | [],b,i=>by simp [b8]
 | v::a,b,i=>by rw [Vf,kr,kr,vh,or_assoc]
theorem CR:∀{vs:List AV} {i:Id},i∈b8 vs->∃v∈vs,i∈v.ids
 | v::vs,i,hi=>by
  rcases kr.1 hi with hi | hi
  .exact⟨v,Vb,hi⟩
  .obtain⟨u,h1,a⟩:=CR hi;exact⟨u,Vc _ h1,a⟩
 | [],i,hi=>by simp [b8] at hi
theorem BJ{d:Nat}{c:Option Bool}{f:FuncId}{args:List AV}{K:AV->aH->Option R}(a:s'.h=s.h\/(A.iP f=none/\A.deep f=false/\∀i∈b8 args,s'.h i=s.h i)):gV P A O s' d c f args K=gV P A O s d c f args K:=by
 unfold gV;rcases a with a | ⟨hb,b,a⟩
 .rw [a]
 .have e:∀fl,lT fl false s'.h args=lT fl false s.h args:=λfl=>Fp a;simp only [hb,b,e]
theorem D0{c:Option Bool}{i:Id}{n:Nat}{K:Nat->Bool->List (List T)->Option R}(a:h' i=h i):my h' c i n K=my h c i n K:=by unfold my;rw [a]
theorem MU{iE:Bool}{d:Nat}{c:Option Bool}{f:FuncId}{args:List AV}{K:AV->aH->Option R}(a:s'.h=s.h\/(iE=false/\A.iP f=none/\A.deep f=false/\∀i∈b8 args,s'.h i=s.h i)):jJ iE P A O s' d c f args K=jJ iE P A O s d c f args K:=by
 rcases a with a | ⟨rfl,a⟩
 .unfold jJ;rw [a];cases cond iE (n7 args) none with
  | none=>exact BJ (.inl a)
  | some q=>obtain⟨b,i,n,e⟩:=q;dsimp only;split <;> rfl
 .exact BJ (.inr a)
theorem QA{c:Option Bool}{t:TypeId}{a:AV}{K:AV->Option R}(b:∀i∈a.ids,s'.h i=s.h i):kA P s' c t a K=kA P s c t a K:=by unfold kA;cases a <;> (try rfl) <;> (simp only [];first | rw [D0 (b _ (by simp [AV.ids]))] | rw [b _ (by simp [AV.ids])])
theorem TE{t:TypeId}{a v:AV}{K:aH->Option R}(b:∀i∈a.ids,s'.h i=s.h i)(hv:∀i∈v.ids,s'.h i=s.h i):jz P s' t a v K=jz P s t a v K:=by
 unfold jz;cases a <;> (try rfl) <;> (simp only [];rw [b _ (by simp [AV.ids])];try rw [Lk hv,Ij hv]);cases v
 case own j=>simp only [hv j (by simp [AV.ids])]
 all_goals rfl
theorem Qg{c:Option Bool}{t:TypeId}{x:AV}{i:Int}{K:AV->Option R}(a:∀i∈x.ids,s'.h i=s.h i):jO P s' c t x i K=jO P s c t x i K:=by
 unfold jO;cases x
 case row i n=>simp only [D0 (a i (by simp [AV.ids]))]
 all_goals first | rfl | (simp only [];rw [a _ (by simp [AV.ids])])
theorem Qv{c:Option Bool}{t:TypeId}{x:AV}{K:AV->Option R}(a:∀i∈x.ids,s'.h i=s.h i):nL P s' c t x K=nL P s c t x K:=by
 unfold nL;cases x
 case row i n=>simp only [D0 (a i (by simp [AV.ids]))]
 all_goals first | rfl | (simp only [];rw [a _ (by simp [AV.ids])])
theorem Tr{c:Option Bool}{t:TypeId}{x:AV}{a hi b:Option Int}{K:AV->Option R}(d:∀i∈x.ids,s'.h i=s.h i):oc P s' c t x a hi b K=oc P s c t x a hi b K:=by unfold oc;cases x <;> (try rfl) <;> (simp only [];rw [d _ (by simp [AV.ids])])
theorem IG{t:TypeId}{x:AV}(a:∀i∈x.ids,s'.h i=s.h i):jP P s' t x=jP P s t x:=by
 unfold jP;cases x
 case own i=>simp only [a i (by simp [AV.ids])]
 case t z=>cases z <;> rfl
 all_goals rfl
theorem Mq{t:TypeId}{sz:Nat}{a:List T}{y:AV}{K:List (List T)->Option R}(b:∀i∈y.ids,s'.h i=s.h i):mK P s' t sz a y K=mK P s t sz a y K:=by unfold mK;rw [tD b]
theorem Mk{d:Nat}{t ty:TypeId}{x y:AV}{K:AV->aH->Option R}(a:∀i∈x.ids,s'.h i=s.h i)(hy:∀i∈y.ids,s'.h i=s.h i):kT P s' d false t ty x y K=kT P s d false t ty x y K:=by
 unfold kT;simp only [cond_false];cases x <;> simp only [Mq hy]
 case own i=>rw [a i (by simp [AV.ids])]
 case part i sz off n=>rw [a i (by simp [AV.ids])]
 all_goals rfl
theorem QJ{c:Option Bool}{t:TypeId}{x k:AV}{ok:Bool}{K:AV->Option R}(a:∀i∈x.ids,s'.h i=s.h i):nN P s' c t x k ok K=nN P s c t x k ok K:=by unfold nN;cases x <;> (try rfl) <;> (simp only [];rw [a _ (by simp [AV.ids])])
theorem R4{t:TypeId}{x k v:AV}{K:aH->Option R}(a:∀i∈x.ids,s'.h i=s.h i):nW P s' t x k v K=nW P s t x k v K:=by unfold nW;cases x <;> (try rfl) <;> (simp only [];rw [a _ (by simp [AV.ids])])
theorem Ng{t:TypeId}{x k:AV}{K:aH->Option R}(a:∀i∈x.ids,s'.h i=s.h i):nA P s' t x k K=nA P s t x k K:=by unfold nA;cases x <;> (try rfl) <;> (simp only [];rw [a _ (by simp [AV.ids])])
theorem Hl{e:TypeId}{ev:Operand->AV}:∀{a:List (Nat×Operand)} {n:Nat},(∀x∈a.map (·.2),∀i∈(ev x).ids,h' i=h i)->iU P h' e ev n a=iU P h e ev n a
 | [],n,_=>rfl
 | (k,o)::a,n,b=>by simp only [iU];rw [Lk (b o (by simp)),Ij (b o (by simp)),Hl λx d=>b x (by simp only [V6];exact Vc _ d)]
theorem Hm{e:TypeId}{ev b:Operand->AV}:∀{a:List (Nat×Operand)} {n:Nat},(∀x∈a.map (·.2),b x=ev x)->iU P h e b n a=iU P h e ev n a
 | [],n,_=>rfl
 | (k,o)::a,n,d=>by simp only [iU];rw [d o (by simp),Hm λx f=>d x (by simp only [V6];exact Vc _ f)]
theorem J5{t:TypeId}{ev b:Operand->AV}:∀{a:List (Nat×Operand)},(∀x∈a.map (·.2),b x=ev x)->py P t b a=py P t ev a
 | [],_=>rfl
 | (k,o)::a,d=>by simp only [py];rw [d o (by simp),J5 λx e=>d x (by simp only [V6];exact Vc _ e)]
theorem sQ{g:Option Gs}{x:Operand}(a:∀k,x= .tmp k->s'.t k=s.t k):s'.get g x=s.get g x:=by
 cases x with
 | tmp k=>show(cond (lD (s'.t k).1 g) (s'.t k).2 AV.top)=cond (lD (s.t k).1 g) (s.t k).2 AV.top;rw [a k rfl]
 | _=>rfl
theorem It{g:Option Gs}{b x:Operand}{w:Bool}(a:∀k,x= .tmp k->s'.t k=s.t k):s'.mS g b w x=s.mS g b w x:=by
 unfold St.mS;split
 .rw [a _ rfl]
 .exact sQ a
set_option maxHeartbeats 1000000 in
theorem lR{g:Option Gs}{o:Oper}(F:∀x∈o.op.operands,∀k,x= .tmp k->s'.t k=s.t k)(J:gB P o=true\/js o=true\/s'.h=s.h\/(fD A o=false/\fh A o=false/\∀x∈o.op.operands,∀i∈(s.get g x).ids,s'.h i=s.h i)):
  dG P A O g o s'=dG P A O g o s:=by
 have eg:∀x∈o.op.operands,s'.get g x=s.get g x:=λx l=>sQ (F x l);have j:gB P o=true\/js o=true\/∀x∈o.op.operands,∀i∈(s.get g x).ids,s'.h i=s.h i:=by
  rcases J with h | h | h | h
  .exact .inl h
  .exact .inr (.inl h)
  .exact .inr (.inr λ_ _ i _=>by rw [h])
  .exact .inr (.inr h.2.2)
 have hw:∀p,o.op= .call p->∀f,p.callee= .value f->gB P o=false:=by intro p h1 f h2;simp [gB,h1,h2]
 have X:∀p,o.op= .call p->js o=false:=by intro p h1;simp [js,h1]
 have L:gB P o=true\/js o=true\/s'.h=s.h\/(fD A o=false/\fh A o=false):=J.imp id (Or.imp id (Or.imp id λh=>⟨h.1,h.2.1⟩));unfold dG jI;cases q:o.op <;> rw [q] at F eg j <;> simp only [gB,js,q,VF,false_or] at j <;> dsimp only <;> simp only [Op.operands] at F eg j
 case pick a b x=>rw [eg a (by simp),It (F b (by simp)),It (F x (by simp))]
 case build t U=>unfold yk;rw [J5 (ev:=s.get g) (by simpa using eg)]
 case buildSlice t n U=>
  have B:∀e,iU P s'.h e (s'.get g) 0 U.toList=iU P s.h e (s.get g) 0 U.toList:=λe=>by rw [Hm (ev:=s.get g) (by simpa using eg),Hl (by simpa using j)]
  simp only [B];congr 1;funext e;split
  .split
   .rename_i x _ Z;rw [eg x (by simp [Z])]
   .rfl
  .rfl
 case load t x=>rw [eg x (by simp),QA (j x (by simp))]
 case store t x y=>rw [eg x (by simp),eg y (by simp),TE (j x (by simp)) (j y (by simp))]
 case binOp op t x y ty=>
  rw [eg x (by simp),eg y (by simp)];rcases j with j | j
  .simp only [WM,YZ] at j;rw [j.1,j.2];cases op <;> rfl
  .rw [IG (j x (by simp)),IG (j y (by simp))]
 case convert src dst x=>rw [eg x (by simp),tD (j x (by simp))]
 case makeFunc fn G E=>
  cases fn <;> try rfl
  have B:G.toList.map (s'.get g)=G.toList.map (s.get g):=Xl λx l=>eg x (by simp at l⊢;exact .inl l);have e2:E.toList.map (s'.get g)=E.toList.map (s.get g):=Xl λx l=>eg x (by simp at l⊢;exact .inr l);simp only [B,e2]
 case slice t x N hi Q=>
  have eb:∀(o:Option Operand) (c:Option Bool) (K:Option Int->Option (AV×aH)),(∀y,o=some y->y∈#[x] ++N.toArray++hi.toArray++Q.toArray)->jg s' c g o K=jg s c g o K:=by
   intro o c K hm;unfold jg;cases o with
   | none=>rfl
   | some y=>simp only [eg y (hm y rfl)]
  have l:x∈#[x] ++N.toArray++hi.toArray++Q.toArray:=by simp
  rw [eg x l];simp only [Tr (j x l)];rw [eb N _ _ (by intro y e;subst e;simp)];congr 1;funext lo';rw [eb hi _ _ (by intro y e;subst e;simp)];congr 1;funext hi';rw [eb Q _ _ (by intro y e;subst e;simp)]
 case indexAddr t x i=>rw [eg x (by simp),eg i (by simp)];simp only [Qg (j x (by simp))]
 case call p=>
  simp only [Call.operands] at eg j;split
  .rename_i m;split
   .rename_i x t ts l _;have hm:x∈(match p.callee with | .value f=> #[f] | .invoke r _=> #[r] | .builtin _=> #[])++p.args:=by
     simp [<-Array.mem_toList_iff,l]
    rw [eg x hm];rcases j with j | j
    .simp [m] at j
    .exact Qv (j x hm)
   .rfl
  .rename_i m;split
   .rename_i x y t u _ l _;have hm:∀z,(z=x\/z=y)->z∈(match p.callee with | .value f=> #[f] | .invoke r _=> #[r] | .builtin _=> #[])++p.args:=by
     intro z hz;simp [<-Array.mem_toList_iff,l,hz]
    rw [eg x (hm x (.inl rfl)),eg y (hm y (.inr rfl))];rcases j with j | j
    .simp [m] at j
    .cases hn:(A.nS o.dst o.type==3) with
     | false=>exact Mk (j x (hm x (.inl rfl))) (j y (hm y (.inr rfl)))
     | true=>
      rcases L with h | h | h | h
      .simp [gB,q,m] at h
      .simp [js,q] at h
      .have:∀(d:Nat) (b:Bool) (t ty:TypeId) (x y:AV) (K:AV->aH->Option (AV×aH)),kT P s' d b t ty x y K=kT P s d b t ty x y K:=λd b t ty x y K=>by
        unfold kT qf mK;rw [h]
       exact this _ _ _ _ _ _ _
      .have:=h.2;simp [fh,q,m,hn] at this
   .rfl
  .have B:p.args.toList.map (s'.get g)=p.args.toList.map (s.get g):=Xl λx l=>eg x (by simp at l⊢;exact .inr l);rw [B]
  .have B:p.args.toList.map (s'.get g)=p.args.toList.map (s.get g):=Xl λx l=>eg x (by simp at l⊢;exact .inr l);rw [B]
  .rename_i m;split
   .rename_i x y t ts _ l _;have hm:∀z,(z=x\/z=y)->z∈(match p.callee with | .value f=> #[f] | .invoke r _=> #[r] | .builtin _=> #[])++p.args:=by
     intro z hz;simp [<-Array.mem_toList_iff,l,hz]
    rw [eg x (hm x (.inl rfl)),eg y (hm y (.inr rfl))];rcases j with j | j
    .simp [m] at j
    .exact Ng (j x (hm x (.inl rfl)))
   .rfl
  .rename_i m;split
   .rename_i x t ts l _;have hm:x∈(match p.callee with | .value f=> #[f] | .invoke r _=> #[r] | .builtin _=> #[])++p.args:=by
     simp [<-Array.mem_toList_iff,l]
    rw [eg x hm]
   .rfl
  .rename_i D m;have B:p.args.toList.map (s'.get g)=p.args.toList.map (s.get g):=Xl λx l=>eg x (by simp at l⊢;exact .inr l);have I:D∈(match p.callee with | .value f=> #[f] | .invoke r _=> #[r] | .builtin _=> #[])++p.args:=by simp [m]
   rw [B,eg D I];rcases j with j | j
   .simp [m] at j
   .cases hv:s.get g D <;> try rfl
    rename_i f a b;have C:=j D I;rw [hv] at C;simp only [AV.ids,Vr] at C;refine MU ?_;have M:∀i∈b8 (a++p.args.toList.map (s.get g)++b),s'.h i=s.h i:=by
     intro i hi;rcases vh.1 hi with hi | hi
     .rcases vh.1 hi with hi | hi
      .exact C i (.inl hi)
      .obtain⟨v,hv,hi⟩:=CR hi;obtain⟨x,l,rfl⟩:=VK.1 hv;exact j x (by simp at l⊢;exact .inr l) i hi
     .exact C i (.inr hi)
    rcases L with h | h | h | h
    .rw [hw p q D m] at h;cases h
    .rw [X p q] at h;cases h
    .exact .inl h
    .obtain⟨h,Y⟩:=h;simp only [fD,q,m] at h;simp only [fh,q,m] at Y;cases D with
     | func V=>
      simp only [St.get] at hv;obtain⟨rfl,_,_⟩:V=f/\_/\_:=by simpa using hv
      cases hb:A.iP V with
      | some x=>dsimp only at h;rw [hb] at h;simp at h
      | none=>exact .inr ⟨rfl,rfl,Y,M⟩
     | _=>simp at h
  .rfl
 case move x=>rw [eg x (by simp)]
 case assign x=>rw [eg x (by simp)]
 case box t x=>rw [eg x (by simp)]
 case nilCheck x=>rw [eg x (by simp)]
 case unOp op t x=>rw [eg x (by simp)]
 case makeSlice t x y=>rw [eg x (by simp),eg y (by simp)]
 case lookup t x k ok=>rw [eg x (by simp),eg k (by simp),QJ (j x (by simp))]
 case mapUpdate t x k v=>rw [eg x (by simp),eg k (by simp),eg v (by simp),R4 (j x (by simp))]
 case fieldAddr t x f=>rw [eg x (by simp)]
 case field t x f=>rw [eg x (by simp)]
 case index t x i=>rw [eg x (by simp),eg i (by simp)]
 case extract x k=>rw [eg x (by simp)]
theorem Mv{fS:List Id}{b:Bool}{v:AV}(a:∀i∈v.ids,h' i=h i):uH h' fS b v=uH h fS b v:=by unfold uH;rw [Fm a]
theorem Fj{fS:List Id}:∀{fl:List Bool} {vs:List AV},(∀i∈b8 vs,h' i=h i)->mM h' fS fl vs=mM h fS fl vs
 | _,[],_=>by simp [mM]
 | fl,v::vs,a=>by simp only [mM];rw [Mv λi hi=>a i (kr.2 (.inl hi)),Fj λi hi=>a i (kr.2 (.inr hi))]
theorem Aw{N:Id->Prop}:∀{us:aH} {h h':Id->Option ab},(∀i,¬N i->h' i=h i)->∀i,¬N i->aL h' us i=aL h us i
 | [],_,_,a,i,hi=>a i hi
 | (j,b)::us,h,h',a,i,hi=>by
  rw [dA,dA];refine Aw (N:=N) (λk d=> ?_) i hi;by_cases e:k=j
  .subst e;rw [aF,aF]
  .rw [ar _ _ e,ar _ _ e];exact a k d
theorem RT{N:Id->Prop}{new i:Id}{k sz:Nat}{us:aH}(a:∀i,¬N i->h' i=h i)(hi:¬N i)(d:¬N new)(l:∀p∈us,¬N p.1)(e:px h new i k sz=some us):px h' new i k sz=some us:=by
 unfold px at e⊢;cases hb:Nat.ble 100000 sz with
 | true=>rw [hb,cond_true] at e;rw [cond_true];unfold tw at e⊢;rw [a i hi,a new d];exact e
 | false=>
 rw [hb,cond_false] at e;rw [cond_false];rw [a i hi,a new d];split at e
 .rename_i cs hi
  try simp only [hi]
  split at e
  .exact e
  .exact e
  .exact e
  .rename_i j r n u;split at e
   .rename_i q b xs o;split at e
    .rename_i m;have f:¬N j:=by
      cases g:(h new).isNone with
      | false=>rw [g] at e;simp at e
      | true=>rw [g] at e;simp only [cond_true,U7] at e;subst e;exact l (j,_) Vb
     rw [a j f,o];simp only [if_pos m];exact e
    .cases e
   .cases e
  .cases e
 .cases e
theorem Kb{N:Id->Prop}{f:Nat}(a:∀k,¬N (.s f k)):∀{l:List (Id×Nat×Nat)} {j:Nat} {h h':Id->Option ab} {us:aH},(∀i,¬N i->h' i=h i)->(∀q∈l,¬N q.1)->(∀p∈us,¬N p.1)->kD f j h l=some us->kD f j h' l=some us
 | [],_,_,_,_,_,_,_,e=>e
 | (i,k,sz)::l,j,h,h',us,g,m,b,e=>by simp only [kD] at e⊢;obtain⟨u,o,e⟩:=U8.1 e;obtain⟨v,e2,e⟩:=U8.1 e;simp only [U7] at e;subst e;rw [RT g (m (i,k,sz) Vb) (a j) (λp d=>b p (Vn _ d)) o];simp only [Vj];rw [Kb a (Aw g) (λq r=>m q (Vc _ r)) (λp d=>b p (Vp _ d)) e2];rfl
theorem vW:∀{n:Nat} {todo a seen:List Id},fm h n todo a=some seen->(∀i∈seen,h' i=h i)->fm h' n todo a=some seen
 | 0,todo,a,seen,e,_=>by simp [fm] at e
 | n+1,[],a,seen,e,_=>e
 | n+1,i::todo,a,seen,e,hs=>by
  simp only [fm] at e⊢;cases b:a.contains i with
  | true=>rw [b,cond_true] at e;rw [cond_true];exact vW e hs
  | false=>
   rw [b,cond_false] at e;rw [cond_false];have hm:i∈seen:=by
    have:a++ [i] <+:seen:=by
     split at e
     .exact pC e
     .exact pC e
     .exact pC e
     .cases e
    exact this.subset (Vp _ (Vk.2 rfl))
   rw [hs i hm];split at e
   .exact vW e hs
   .exact vW e hs
   .exact vW e hs
   .cases e
theorem BT:∀{l seen:List Id},∀i∈qq l seen,i∈l
 | [],_,i,hi=>by simp [qq] at hi
 | j::l,seen,i,hi=>by
  simp only [qq] at hi;cases a:seen.contains j with
  | true=>rw [a,cond_true] at hi;exact Vc _ (BT i hi)
  | false=>
   rw [a,cond_false] at hi;rcases Vo.1 hi with rfl | hi
   .exact Vb
   .exact Vc _ (BT i hi)
theorem zW{i:Id}:∀{l:List bX} {k:Nat},∀q∈nZ i k l,q.1=i
 | [],_,q,a=>by simp [nZ] at a
 | r::l,k,q,a=>by
  cases r with
  | own sz=>
   simp only [nZ] at a;rcases Vo.1 a with rfl | a
   .rfl
   .exact zW q a
  | rows sz aD rsz=>
   simp only [nZ] at a;rcases Vo.1 a with rfl | a
   .rfl
   .exact zW q a
  | _=>simp only [nZ] at a;exact zW q a
theorem DQ:∀{d:List Id} {bs:List jV},∀q∈n6 d bs,q.1∈d
 | [],bs,q,a=>by cases bs <;> simp [n6] at a
 | i::d,[],q,a=>by simp [n6] at a
 | i::d,b::bs,q,a=>by
  cases b with
  | box l=>
   simp only [n6,Vr] at a;rcases a with a | a
   .rw [zW q a];exact Vb
   .exact Vc _ (DQ q a)
  | _=>simp only [n6] at a;exact Vc _ (DQ q a)
theorem MT{N:Id->Prop}{d:Nat}{c:Option Bool}{f:FuncId}{args:List AV}{v:AV}{us:aH}(E:∀i,¬N i->s'.h i=s.h i)(J:A.deep f=false)(l:∀i∈b8 args,¬N i)(F:∀k,¬N (.s (2000000+d) k))(D:∀p∈us,¬N p.1)
  (e:gV P A O s d c f args (λv u=>some (v,u))=some (v,us)):gV P A O s' d c f args (λv u=>some (v,u))=some (v,us):=by
 cases hb:A.iP f with
 | none=>rw [BJ (.inr ⟨hb,J,λi hi=>E i (l i hi)⟩)];exact e
 | some fl=>
  unfold gV at e⊢;cases C:P.funcs[f]? with
  | none=>rw [C] at e;simp at e
  | some fn=>
   simp only [C,hb] at e⊢;cases c with
   | some b=>simp at e
   | none=>
    simp only at e⊢;rw [Fj λi hi=>E i (l i hi)];obtain⟨p,L,e⟩:=U8.1 e;rw [L,Vj];obtain⟨a,G,e⟩:=U8.1 e;obtain⟨seen,m,e⟩:=U8.1 e;obtain⟨_,_,I,_,_⟩:=vX m YM (by simp) (by simp);have e0:=e;have g:(∀q∈a,¬N q.1)/\∀i∈seen,¬N i:=by
     cases B:(zL d seen && Nat.beq (iA (seen.map λi=>ir seen (aL (aL s.h p.2) a i)).head?) (iA ((b8 p.1).head?.bind (aL s.h p.2)))) with
     | false=>rw [B] at e;simp at e
     | true=>
      rw [B,cond_true] at e;obtain⟨pt,e,_⟩:=Aq (.inl rfl) e;obtain⟨xs,_,e⟩:=aO e (.inl rfl);rw [show ∀(n:Nat),(eC seen d none 0 (dC P A f n fn) xs λvs u j=>gz seen d j seen (iq A f n) (xs.drop (m6 (dC P A f n fn))) λq=>(some (mw vs,p.2++a++kg seen++u++q):Option (AV×aH)))=
       ((eC seen d none 0 (dC P A f n fn) xs λvs u j=>some (vs,u,j)).bind λy=>(gz seen d y.2.2 seen (iq A f n) (xs.drop (m6 (dC P A f n fn))) some).bind λq=>some (mw y.1,p.2++a++kg seen++y.2.1++q)) from λn=>by
        rw [qp];congr 1;funext vs u j;simp only [Vj];rw [yD];rfl] at e
      obtain⟨y,_,e⟩:=U8.1 e;obtain⟨q,_,e⟩:=U8.1 e;simp only [U7,Wk] at e;obtain⟨_,rfl⟩:=e;refine⟨λx Q=>D x ?_,λi hi=>D (i, .dead) ?_⟩
      .exact Vn _ (Vn _ (Vn _ (Vp _ Q)))
      .exact Vn _ (Vn _ (Vp _ (VK.2 ⟨i,hi,rfl⟩)))
    have o:∀i,¬N i->aL s'.h p.2 i=aL s.h p.2 i:=Aw E;have z:∀i,¬N i->aL (aL s'.h p.2) a i=aL (aL s.h p.2) a i:=Aw o;have r:(b8 p.1).head?.bind (aL s'.h p.2)= (b8 p.1).head?.bind (aL s.h p.2):=by
     cases K:(b8 p.1).head? with
     | none=>rfl
     | some i=>exact o i (g.2 i (I i (List.mem_of_mem_head? (by rw [K];rfl))))
    rw [r];rw [Kb F o (λq M=>g.2 q.1 (I q.1 (BT q.1 (DQ q M)))) g.1 G,Vj];rw [vW m λi hi=>z i (g.2 i hi),Vj];have hm:(seen.map λi=>ir seen (aL (aL s'.h p.2) a i))=seen.map λi=>ir seen (aL (aL s.h p.2) a i):=Xl λi hi=>by rw [z i (g.2 i hi)]
    rw [hm];exact e0
theorem yd{N:Id->Prop}{g:Option Gs}{o:Oper}{v:AV}{us:aH}(I:∀x∈o.op.operands,∀k,x= .tmp k->s'.t k=s.t k)(G:∀i,¬N i->s'.h i=s.h i)(y:fh A o=false)(j:∀x∈o.op.operands,∀i∈(s.get g x).ids,¬N i)
  (D:∀k,¬N (.s (2000000+o.dst.getD 0) k)) (J:∀p∈us,¬N p.1) (e:dG P A O g o s=some (v,us)):dG P A O g o s'=some (v,us):=by
 cases E:fD A o with
 | false=>rw [lR (s:=s) I (.inr (.inr (.inr ⟨E,y,λx m i hi=>G i (j x m i hi)⟩)))];exact e
 | true=>
  have eg:∀x∈o.op.operands,s'.get g x=s.get g x:=λx m=>sQ (I x m);cases u:o.op <;> simp only [fD,u,VF] at E;rename_i z;cases d:z.callee <;> simp only [d,VF] at E;rename_i q;unfold dG jI at e⊢;rw [u] at e j eg⊢;simp only [Op.operands,Call.operands] at j eg;simp only [d] at e⊢;have K:z.args.toList.map (s'.get g)=z.args.toList.map (s.get g):=Xl λx m=>eg x (by simp at m⊢;exact .inr m);have C:q∈(match z.callee with | .value f=> #[f] | .invoke r _=> #[r] | .builtin _=> #[])++z.args:=by simp [d]
  rw [K,eg q C];cases hv:s.get g q <;> rw [hv] at e <;> simp only [reduceCtorEq] at e;rename_i f a b;have l:=j q C;rw [hv] at l;simp only [AV.ids,Vr] at l;have B:A.deep f=false:=by
   simp only [fh,u,d] at y;cases q with
   | func F=>
    simp only [St.get] at hv;obtain⟨rfl,_,_⟩:F=f/\_/\_:=by simpa using hv
    exact y
   | _=>simp at y
  have L:IU q=false:=by
   simp only [fh,u,d] at y;cases q with
   | func F=>rfl
   | _=>simp at y
  dsimp only at e⊢;rw [L,MV] at e⊢;refine MT G B ?_ D J e;intro i hi;rcases vh.1 hi with hi | hi
  .rcases vh.1 hi with hi | hi
   .exact l i (.inl hi)
   .obtain⟨v,hv,hi⟩:=CR hi;obtain⟨x,m,rfl⟩:=VK.1 hv;exact j x (by simp at m⊢;exact .inr m) i hi
  .exact l i (.inr hi)
end
open Go
section
variable {P:Program} {An:cM} {Or:au} {w w':World} {A A':Nat->Prop} {c:Ctx} {ρ:Id->Option Value} {O:Id->Option Nat} {s s' s1 s2:St} {h:Id->Option ab} {ops:Array Oper} {nt:Nat}
structure uC (P:Program) (An:cM) (Or:au) (nt:Nat) (ops:Array Oper) (o:Oper) (s:St) (g:Option Gs) (v:AV) (us:aH):Prop where
 guard:dI ops o s some=some g
 op:dG P An Or g o s=some (v,us)
 ok:pr P An true nt ops o g s us=true
theorem Lm{o:Oper}{g:Option Gs}:rv An true o g=none:=by cases g <;> rfl
theorem Dx{o:Oper}(e:fj P An Or true nt ops o s=some s'):∃g v us,uC P An Or nt ops o s g v us/\s'=s.put (eB ops o.dst) o.dst g v us:=by
 unfold fj pw at e;rw [zm] at e;replace e:=U8.1 e;obtain⟨g,d,e⟩:=e;rw [Lm] at e;dsimp only at e;rw [r7] at e;replace e:=U8.1 e;obtain⟨⟨v,us⟩,b,e⟩:=e;dsimp only at e;split at e
 .rename_i a;simp only [U7] at e;exact⟨g,v,us,⟨d,b,a⟩,e.symm⟩
 .simp at e
theorem uC.fj{o:Oper}{g:Option Gs}{v:AV}{us:aH}(a:uC P An Or nt ops o s g v us):fj P An Or true nt ops o s=some (s.put (eB ops o.dst) o.dst g v us):=by unfold Aev.fj pw;rw [zm,a.guard,Vj,Lm];dsimp only;rw [r7,a.op,Vj];dsimp only;rw [if_pos a.ok]
def rL(ops:Array Oper)(a:Array Bool)(s:St):Prop:= ∀k g v,s.t k= (some g,v)->∃i o,ops[i]? =some o/\a.getD i false=true/\o.dst=some g.d
theorem qA{d:Nat}{o:Oper}(a:o.dst=some d):∀(l:List Oper),o∈l->d∈gW l:=by
 intro l;induction l with
 | nil=>intro hm;cases hm
 | cons x l b=>
  intro hm;simp only [gW];rcases Vo.1 hm with rfl | hm
  .rw [a];exact Vb
  .have:=b hm;split
   .exact Vc _ this
   .exact this
theorem Gr:∀{l:List Oper},vK (gW l)=true->∀{i j:Nat} {x y:Oper} {d:Nat},l[i]? =some x->l[j]? =some y->x.dst=some d->y.dst=some d->i=j
 | [],_,i,j,x,y,d,hi,_,_,_=>by simp at hi
 | z::l,a,i,j,x,y,d,hi,b,g,hy=>by
  have f:vK (gW l)=true/\∀d,z.dst=some d->d∉gW l:=by
   simp only [gW] at a;cases hz:z.dst with
   | none=>rw [hz] at a;exact⟨a,λd h=>by cases h⟩
   | some e=>
    rw [hz] at a;simp only [vK,Ve,WM] at a;refine⟨a.2,λd h=> ?_⟩;simp only [U7] at h;subst h;intro hm;have:(gW l).contains e=true:=by simpa using hm
    rw [this] at a;cases a.1
  cases i with
  | zero=>
   simp only [Xu,U7] at hi;subst hi;cases j with
   | zero=>rfl
   | succ j=>simp only [Xv] at b;exact(f.2 d g (qA hy _ (Va b))).elim
  | succ i=>
   simp only [Xv] at hi;cases j with
   | zero=>simp only [Xu,U7] at b;subst b;exact(f.2 d hy (qA g _ (Va hi))).elim
   | succ j=>simp only [Xv] at b;rw [Gr f.1 hi b g hy]
def rZ(ops:Array Oper):Prop:= ∀{i j:Nat} {x y:Oper} {d:Nat},ops[i]? =some x->ops[j]? =some y->x.dst=some d->y.dst=some d->i=j
theorem wL{a:Array Bool}{i:Nat}(h:a.getD i true=false):a.getD i false=true->False:=by
 intro d;rw [Xa] at h d;cases e:a[i]? with
 | none=>rw [e] at h;simp at h
 | some b=>rw [e] at h d;simp at h d;rw [h] at d;cases d
theorem DJ{a:Array Bool}{i:Nat}{o:Oper}{g:Option Gs}{v:AV}{us:aH}(y:rZ ops)(hi:ops[i]? =some o)(x:a.getD i true=false)(u:rL ops a s)(b:Bool):
  s.put b o.dst g v us=s.put false o.dst g v us:=by
 unfold St.put;cases r:o.dst with
 | none=>rfl
 | some d=>
  simp only [St.mk.injEq,and_true];funext k;split
  .rfl
  .cases b with
   | false=>rfl
   | true=>
    simp only [cond_true,cond_false];cases p:s.t k with
    | mk f vk=>
     cases f with
     | none=>rfl
     | some f=>
      simp only [mQ];cases m:(f.d==d) with
      | false=>rfl
      | true=>
       exfalso;obtain⟨j,z,h1,q,l⟩:=u k f vk p;have e:f.d=d:=by simpa using m
       rw [e] at l;have:=y h1 hi l r;subst this;exact wL x q
theorem iG{o:Oper}{k:Nat}(h:(.tmp k:Operand)∈o.op.operands):k∈o.looksAt ops:=by unfold Oper.looksAt;refine Vn _ (YJ.2 ⟨.tmp k,by simpa using h,rfl⟩)
theorem I2{o:Oper}{j d:Nat}{b:Bool}(h:o.guard=some (j,b))(a:(ops[j]?).bind (·.dst)=some d):d∈o.looksAt ops:=by unfold Oper.looksAt;refine Vp _ ?_;rw [h];simp [a]
theorem qZ{b:Bool}{o:Oper}{g:Option Gs}{v:AV}{us:aH}{k:Nat}(f:o.dst≠some k):(s.put false o.dst g v us).t k=s.t k:=by
 unfold St.put;cases a:o.dst with
 | none=>rfl
 | some d=>have:k≠d:=λe=>f (by rw [a,e]);simp [if_neg this]
theorem Iy{o:Oper}(f:∀j b d,o.guard=some (j,b)->(ops[j]?).bind (·.dst)=some d->s'.t d=s.t d):dI ops o s' some=dI ops o s some:=by
 unfold dI;cases e:o.guard with
 | none=>rfl
 | some p=>
  obtain⟨j,b⟩:=p;simp only;cases a:(ops[j]?).bind (·.dst) with
  | none=>rfl
  | some d=>simp only [f j b d e a]
theorem Ax:∀{us:aH} {h:Id->Option ab} {i:Id},aL h us i=none->(∀q∈us,q.1≠i)/\h i=none
 | [],h,i,e=>⟨by simp,e⟩
 | (j,x)::us,h,i,e=>by
  rw [dA] at e;obtain⟨d,e2⟩:=Ax e;by_cases a:i=j
  .subst a;rw [aF] at e2;cases e2
  .rw [ar _ _ a] at e2;refine⟨λq b=> ?_,e2⟩;rcases Vo.1 b with rfl | b
   .exact λe=>a e.symm
   .exact d q b
theorem Jz{o:Oper}{g:Option Gs}(a:∀x∈o.op.operands,s'.get g x=s.get g x):ph ops g o s'=ph ops g o s:=by
 unfold ph;have key:∀l:List Operand,(∀x∈l,s'.get g x=s.get g x)->(l.all λx=>(s'.get g x).ids.all λi=>match i with
  | .s d _=>sc ops o d
  | .c _=>true
  | .g _ _=>false)= (l.all λx=>(s.get g x).ids.all λi=>match i with
  | .s d _=>sc ops o d
  | .c _=>true
  | .g _ _=>false):=by
  intro l;induction l with
  | nil=>intro _;rfl
  | cons x l e=>intro h;rw [WV,WV,h x Vb,e λy hy=>h y (Vc _ hy)]
 exact key _ λx b=>a x (by simpa using b)
theorem zF{o:Oper}{g:Option Gs}(j:ph ops g o s=true){x:Operand}(q:x∈o.op.operands){d k:Nat}(hi:Id.s d k∈(s.get g x).ids){i:Nat}{l:Oper}(a:ops[i]? =some l)(m:l.dst=some d):
  ∃e∈o.after,Region.binds .any e=true/\(e.on=i\/iy ops 12 e.on i=true):=by
 unfold ph at j;have h1:=Vu.1 j x (by simpa using q);have b:=Vu.1 h1 _ hi;simp only at b;unfold sc at b;have f:=Vu.1 b i (Xi.2 (YB.1 a).1);rw [a] at f;simp only [m,BEq.rfl,Vs,WA] at f;obtain⟨e,p,hb⟩:=Yd.1 f;simp only [Ve,WK,beq_iff_eq] at hb;exact⟨e,p,hb.1,hb.2⟩
theorem gG{o:Oper}{us:aH}(a:lr o us=true){i:Id}(hi:∃q∈us,q.1=i):∃d k,i= .s d k/\o.dst=some d:=by
 obtain⟨q,b,rfl⟩:=hi;have:=Vu.1 a q b;split at this
 .rename_i d k e;exact⟨d,k,e,by simpa using this⟩
 .simp at this
 .simp at this
theorem UO{us vs:aH}(a:∀p∈us,∀q∈vs,p.1≠q.1):∀{h:Id->Option ab},aL (aL h us) vs=aL (aL h vs) us:=by
 induction us with
 | nil=>intro h;rfl
 | cons p us g=>intro h;obtain⟨i,b⟩:=p;rw [dA,dA,g (λp d=>a p (Vc _ d)),wN (λq f e=>a (i,b) Vb q f e.symm)]
def rD(ops:Array Oper)(a:Array Bool):Prop:= ∀k ok,ops[k]? =some ok->a.getD k false=true->∀e∈ok.after,Region.binds .any e=true->a.getD e.on false=true
theorem BB{a:Array Bool}(f:rD ops a){i:Nat}(hi:a.getD i true=false):∀{n j:Nat} {d:Oper},ops[j]? =some d->(∀e∈d.after,Region.binds .any e=true->a.getD e.on false=true)->iy ops n j i=false
 | 0,j,d,_,_=>rfl
 | n+1,j,d,o,g=>by
  simp only [iy,o];rw [Array.any_eq_false'];intro e m hb;simp only [Ve,WK,beq_iff_eq] at hb;obtain⟨h1,b⟩:=hb;have l:=g e m h1;rcases b with b | ⟨_,b⟩
  .exact wL hi (b▸l)
  .cases k:ops[e.on]? with
   | none=>
    cases n with
    | zero=>simp [iy] at b
    | succ n=>simp [iy,k] at b
   | some ok=>rw [BB f hi k (f e.on ok k l)] at b;cases b
theorem Es{a b:Oper}(h:lJ An ops a b=true):∃k d,gO ops a=some k/\gO ops b=some d/\k≠d/\k∉gW ops.toList/\d∉gW ops.toList:=by
 unfold lJ at h;simp only [Ve] at h;obtain⟨_,h⟩:=h;split at h
 .rename_i k d h1 e;simp only [Ve,WM,beq_eq_false_iff_ne,ne_eq] at h;obtain⟨⟨f,g⟩,i⟩:=h;exact⟨k,d,h1,e,f,by simpa using g,by simpa using i⟩
 .cases h
theorem TA{a b:Oper}(h:lJ An ops a b=true):lJ An ops b a=true:=by have d:=h;unfold lJ at d;simp only [Ve] at d;obtain⟨k,l,h1,f,g,i,j⟩:=Es h;unfold lJ;rw [h1,f,d.1];simp only [WS,Ve,WM,beq_eq_false_iff_ne,ne_eq];exact⟨⟨λe=>g e.symm,by simpa using j⟩,by simpa using i⟩
theorem Lr{o a:Oper}{us:aH}{k d:Nat}(h:kJ P An ops o s us=true)(hm:a∈ops)(e:lJ An ops o a=true)(l:gO ops o=some k)(b:gO ops a=some d):
  (∀x∈o.op.operands,∀i∈(s.get none x).ids,i∈(s.t k).2.ids)/\(∀p∈us,p.1∈(s.t k).2.ids)/\(∀p∈us,p.1∉(s.t d).2.ids):=by
 have h1:=VY.1 h a hm;simp only [Ve] at h1;replace h1:=h1.1.1.1.1;rw [e] at h1;simp only [Vs,WA,Eu,l,b,Ve,Vu,decide_eq_true_eq] at h1;obtain⟨⟨f,g⟩,j⟩:=h1;exact⟨λx m=>f x (Array.mem_toList_iff.2 m),g,j⟩
theorem vB{a b:Oper}(h:kz P An ops a b=true):(∃k,kH ops b=some (some k)/\k∉gW ops.toList)\/kH ops b=some none:=by
 unfold kz at h;simp only [Ve] at h;obtain⟨_,h⟩:=h;split at h
 .rename_i k d;exact .inl ⟨k,d,by simpa using h⟩
 .rename_i d;exact .inr d
 .cases h
theorem IS{a b:Oper}(h:kz P An ops a b=true):a.guard=none/\gD P An a=true/\fD An a=false/\fh An a=false:=by
 unfold kz at h;simp only [Ve] at h;obtain⟨⟨_,h⟩,_⟩:=h;unfold Ff at h;simp only [Ve,X2] at h;obtain⟨⟨h1,i⟩,d⟩:=h;refine⟨h1,i, ?_⟩;split at d
 .rename_i j g;split at d
  .rename_i e;simp only [WM] at d;simp [fD,fh,g,e,d]
  .rename_i f e;simp only [Ve,X2,WM] at d;simp [fD,fh,g,e,d.1,d.2]
  .cases d
 .cases d
theorem DX{o:Oper}{r:Option Nat}(h:kH ops o=some r):o.guard=none/\gD P An o=false/\fD An o=false/\fh An o=false:=by
 unfold kH at h;split at h
 .rename_i h1 a;simp [h1,gD,fD,fh,a]
 .rename_i h1 a;simp [h1,gD,fD,fh,a]
 .cases h
theorem Sq{o:Oper}{k:Nat}(h:kH ops o=some (some k)):gO ops o=some k:=by
 unfold kH at h;split at h
 .rename_i h1 a;simp only [U7] at h;subst h;simp [gO,h1,a]
 .cases h
 .cases h
theorem qN{o:Oper}{k:Bool}(h:jQ P o k=true):∃t a y,o.guard=none/\o.op= .store t (.tmp a) y:=by
 unfold jQ at h;split at h
 .rename_i t a y h1 b;exact⟨t,a,y,h1,b⟩
 .cases h
theorem TH{k off:Nat}{l:List T}{xs a:List (List T)}(h:bo k off l xs=some a):a.length=xs.length:=by
 unfold bo at h;split at h
 .split at h
  .simp only [U7] at h;subst h;simp
  .cases h
 .cases h
theorem IJ{t:TypeId}{a v y:AV}{us:aH}(h:jz P s t a v (λu=>some (AV.top,u))=some (y,us))(f:ka us=true):
  ∃i sz k off j rsz X,a= .el i sz k off/\v= .own j/\(∃bb xs,s.h j=some (.sl false rsz bb xs))/\rsz≠1/\us= [(j, .dead),(i,X)]/\∃b d aD nx es r es',s.h i=some (.rows b d aD rsz nx es)/\X= .rows b d aD rsz r es'/\es'.length=es.length:=by
 unfold jz at h;cases q:bV P t with
 | false=>rw [q] at h;cases h
 | true=>
  rw [q,cond_true] at h;split at h
  .split at h
   .split at h
    .simp only [U7,Wk] at h;obtain⟨_,rfl⟩:=h;simp [ka] at f
    .cases h
   .cases h
  .rename_i i sz k off;split at h
   .obtain⟨l,_,h⟩:=U8.1 h;split at h
    .replace h:=aO h (.inl rfl);obtain⟨z,_,h⟩:=h;simp only [U7,Wk] at h;obtain⟨_,rfl⟩:=h;simp [ka] at f
    .cases h
   .rename_i b d aD rsz nx es hi;split at h
    .rename_i j;split at h
     .rename_i g B xs x;split at h
      .rename_i m;have o:=m.2.2.1;subst o;replace h:=aO h (.inl rfl);obtain⟨e,_,h⟩:=h;simp only [U7,Wk] at h;obtain⟨_,rfl⟩:=h;refine⟨i,sz,k,off,j,g,_,rfl,rfl,⟨_,_,x⟩, ?_,rfl,b,d,aD,nx,es,_,_,hi,by rw [show sz=d from m.1.symm],by simp⟩;simpa [ka] using f
      .cases h
     .cases h
    .cases h
   .cases h
  .split at h
   .replace h:=aO h (.inl rfl);obtain⟨p,_,h⟩:=h;obtain⟨l,_,h⟩:=U8.1 h;split at h
    .replace h:=aO h (.inl rfl);obtain⟨z,_,h⟩:=h;simp only [U7,Wk] at h;obtain⟨_,rfl⟩:=h;simp [ka] at f
    .cases h
   .cases h
  .cases h
theorem IK{t:TypeId}{a v y:AV}{us:aH}(h:jz P s t a v (λu=>some (AV.top,u))=some (y,us))(d:kb us=true):
  ∃i sz k off b f,a= .el i sz k off/\(∃xs,s.h i=some (.sl false 1 b xs)/\f.length=xs.length)/\us= [(i, .sl false 1 b f)]:=by
 unfold jz at h;cases m:bV P t with
 | false=>rw [m] at h;cases h
 | true=>
  rw [m,cond_true] at h;split at h
  .split at h
   .split at h
    .simp only [U7,Wk] at h;obtain⟨_,rfl⟩:=h;simp [kb] at d
    .cases h
   .cases h
  .rename_i i sz k off;split at h
   .rename_i z b xs hi;obtain⟨l,_,h⟩:=U8.1 h;split at h
    .rename_i x;obtain⟨j,_,_⟩:=x;subst j;replace h:=aO h (.inl rfl);obtain⟨f,o,h⟩:=h;simp only [U7,Wk] at h;obtain⟨_,rfl⟩:=h;cases g:gY s.h v with
     | cons q r=>rw [g] at d;simp [kb] at d
     | nil=>rw [g] at d;simp only [kb,beq_iff_eq] at d;subst d;exact⟨_,_,_,_,_,_,rfl,⟨_,hi,TH o⟩,rfl⟩
    .cases h
   .split at h
    .split at h
     .split at h
      .replace h:=aO h (.inl rfl);obtain⟨e,_,h⟩:=h;simp only [U7,Wk] at h;obtain⟨_,rfl⟩:=h;simp [kb] at d
      .cases h
     .cases h
    .cases h
   .cases h
  .split at h
   .replace h:=aO h (.inl rfl);obtain⟨p,_,h⟩:=h;obtain⟨l,_,h⟩:=U8.1 h;split at h
    .replace h:=aO h (.inl rfl);obtain⟨f,_,h⟩:=h;simp only [U7,Wk] at h;obtain⟨_,rfl⟩:=h;simp [kb] at d
    .cases h
   .cases h
  .cases h
theorem Ev{o:Oper}{t:TypeId}{a:Nat}{y:Operand}{v:AV}{us:aH}(b:o.op= .store t (.tmp a) y)(h:dG P An Or none o s=some (v,us)):jz P s t (s.get none (.tmp a)) (s.get none y) (λu=>some (AV.top,u))=some (v,us):=by unfold dG jI at h;rw [b] at h;exact h
theorem Lp{a b:Oper}(z:mA P An ops a b=true)(N:a∈ops)(hb:b∈ops){s1 s2:St}{Q U:AV}{u v:aH}(M:dG P An Or none a s1=some (Q,u))(eb:dG P An Or none b s2=some (U,v))
  (F:kJ P An ops a s1 u=true) (G:kJ P An ops b s2 v=true) (o:s2.h=aL s1.h u\/s1.h=aL s2.h v):
  (∀p∈u,∀q∈v,p.1≠q.1)/\(∀x∈a.op.operands,∀i∈(s1.get none x).ids,∃p∈u,p.1=i)/\(∀x∈b.op.operands,∀i∈(s2.get none x).ids,∃p∈v,p.1=i):=by
 have h1:=VY.1 F b hb;have l:=VY.1 G a N;simp only [Ve] at h1 l;replace h1:=h1.1.2.1;replace l:=l.1.2.2;rw [z] at h1 l;simp only [Vs,WA,Ve] at h1 l;simp only [mA,Ve] at z;obtain⟨ta,V,Z,ga,B⟩:=qN z.1.2;obtain⟨tb,Y,yb,gb,r⟩:=qN z.2;obtain⟨i,sz,k,off,j,rsz,X,I,J,⟨_,_,y⟩,K,rfl,_,_,_,_,_,_,_,C,rfl,_⟩:=IJ (Ev B M) h1;obtain⟨i',sz',k',off',b',ys',L,⟨_,g,_⟩,rfl⟩:=IK (Ev r eb) l.1;have m:=l.2;simp only [Bz,r,YV] at m;have ne:i'≠i/\i'≠j:=by
  rcases o with o | o
  .rw [o,dA,eP] at g;constructor
   .rintro rfl;rw [aF] at g;cases g
   .intro e;by_cases e2:i'=i
    .rw [e2,aF] at g;cases g
    .rw [ar _ _ e2,e,aF] at g;cases g
  .rw [o,eP] at C y;constructor
   .rintro rfl;rw [aF] at C;cases C
   .rintro rfl;rw [aF] at y;simp only [U7,ab.sl.injEq] at y;exact K y.2.1.symm
 refine⟨λp D q E e=> ?_,λx f id d=> ?_,λx f id d=> ?_⟩
 .simp only [Vo,YW,or_false] at D E;subst E;rcases D with rfl | rfl
  .exact ne.2 e.symm
  .exact ne.1 e.symm
 .simp only [B,Op.operands] at f;have f:x= .tmp V\/x=Z:=by simpa using f
  rcases f with rfl | rfl
  .rw [I] at d;simp only [AV.ids,Vk] at d;subst d;exact⟨_,Vc _ (Vk.2 rfl),rfl⟩
  .rw [J] at d;simp only [AV.ids,Vk] at d;subst d;exact⟨_,Vb,rfl⟩
 .simp only [r,Op.operands] at f;have f:x= .tmp Y\/x=yb:=by simpa using f
  rcases f with rfl | rfl
  .rw [L] at d;simp only [AV.ids,Vk] at d;subst d;exact⟨_,Vb,rfl⟩
  .rw [m] at d;cases d
theorem CU{o:Oper}(h:zq P o=true):∃a,o.guard=none/\((∃t e n,o.op= .indexAddr t (.tmp a) n/\nD P t=some e/\P.cellsOf e=1)\/∃t,o.op= .load t (.tmp a)):=by
 unfold zq at h;split at h
 .rename_i t a n h1 b;split at h
  .rename_i e d;exact⟨a,h1, .inl ⟨t,e,n,b,d,by simpa using h⟩⟩
  .cases h
 .rename_i t a h1 b;exact⟨a,h1, .inr ⟨t,b⟩⟩
 .cases h
def pY(h h':Id->Option ab):Prop:= ∀m,h' m=h m\/(∃g sz b xs d f a,h m=some (.sl g sz b xs)/\h' m=some (.sl d sz f a)/\a.length=xs.length)\/
 (∃b sz aD rsz nx es e es',h m=some (.rows b sz aD rsz nx es)/\h' m=some (.rows b sz aD rsz e es')/\es'.length=es.length)\/∃sz b xs,sz≠1/\h m=some (.sl false sz b xs)/\h' m=some .dead
theorem pY.index{t e:TypeId}{m:Id}{n:Int}{K:AV->Option (AV×aH)}{r:AV×aH}(H:pY s.h s'.h)(g:nD P t=some e)(f:P.cellsOf e=1):jO P s none t (.own m) n K=some r↔jO P s' none t (.own m) n K=some r:=by
 unfold jO;simp only [g];rcases H m with h | ⟨_,_,_,_,_,_,_,h1,a,b⟩ | ⟨_,_,_,_,_,_,_,_,h1,a,b⟩ | ⟨sz,_,_,d,h1,a⟩
 .rw [h]
 .rw [h1,a];simp only [b]
 .rw [h1,a];simp only [b]
 .rw [h1,a];simp only [f,if_neg d,reduceCtorEq]
theorem pY.load{t:TypeId}{m:Id}{off:Nat}{K:AV->Option (AV×aH)}{r:AV×aH}(H:pY s.h s'.h):kA P s none t (.ref m off) K=some r↔kA P s' none t (.ref m off) K=some r:=by
 unfold kA;rcases H m with h | ⟨_,_,_,_,_,_,_,h1,a,b⟩ | ⟨_,_,_,_,_,_,_,_,h1,a,b⟩ | ⟨sz,_,_,d,h1,a⟩
 .simp only [h]
 .simp only [h1,a]
 .simp only [h1,a]
 .simp only [h1,a]
theorem pY.store{t:TypeId}{a v q:AV}{us:aH}(h:jz P s t a v (λu=>some (AV.top,u))=some (q,us))(d:ka us=true\/kb us=true):pY s.h (aL s.h us):=by
 rcases d with d | d
 .obtain⟨i,sz,k,off,j,rsz,X,_,_,⟨_,_,f⟩,g,rfl,_,_,_,_,_,_,_,e,rfl,l⟩:=IJ h d;intro m;rw [dA,eP];by_cases b:m=i
  .subst b;exact .inr (.inr (.inl ⟨_,_,_,_,_,_,_,_,e,aF _ _ _,l⟩))
  .rw [ar _ _ b];by_cases e2:m=j
   .subst e2;exact .inr (.inr (.inr ⟨_,_,_,g,f,aF _ _ _⟩))
   .rw [ar _ _ e2];exact .inl rfl
 .obtain⟨i,_,_,_,_,_,_,⟨_,o,p⟩,rfl⟩:=IK h d;intro m;rw [eP];by_cases b:m=i
  .subst b;exact .inr (.inl ⟨_,_,_,_,_,_,_,o,aF _ _ _,p⟩)
  .rw [ar _ _ b];exact .inl rfl
theorem Lq{a b:Oper}(i:lK P An ops a b=true)(C:a∈ops)(hb:b∈ops){s1 s2 u:St}{I:AV}{l:aH}{G:aH}(B:dG P An Or none a s1=some (I,l))(o:kJ P An ops a s1 l=true)(p:kJ P An ops b u G=true)
  (F:s2.h=aL s1.h l) (g:∀x∈b.op.operands,s2.get none x=s1.get none x) (k:∀x∈b.op.operands,u.get none x=s1.get none x) (r:AV×aH):dG P An Or none b s1=some r↔dG P An Or none b s2=some r:=by
 have h1:=VY.1 o b hb;have f:=VY.1 p a C;simp only [Ve] at h1 f;replace h1:=h1.2.1;replace f:=f.2.2;rw [i] at h1 f;simp only [Vs,WA,WK] at h1 f;simp only [lK,Ve,WK] at i;obtain⟨K,L,M,J,q⟩:∃t x y,a.guard=none/\a.op= .store t (.tmp x) y:=by rcases i.1.2 with h | h <;> exact qN h
 have H:=pY.store (Ev q B) h1;rw [<-F] at H;obtain⟨j,gb,⟨tb,e,n,d,E,D⟩ | ⟨tb,d⟩⟩:=CU i.2
 case inr=>
  simp only [vO,d] at f;rw [k (.tmp j) (by simp [d,Op.operands])] at f;split at f
  .rename_i m off hm;unfold dG jI;rw [d];dsimp only;rw [g (.tmp j) (by simp [d,Op.operands]),hm];exact H.load
  .cases f
 simp only [vO,d] at f;rw [k (.tmp j) (by simp [d,Op.operands])] at f;split at f
 .rename_i m hm;unfold dG jI;rw [d];dsimp only;rw [g (.tmp j) (by simp [d,Op.operands]),g n (by simp [d,Op.operands]),hm];unfold pa;cases(s1.get none n).t? with
  | none=>exact Zm
  | some y=>
   simp only [Vj];cases jg.anyInt y with
   | none=>exact Zm
   | some z=>change (jO P s1 none tb (AV.own m) z λv=>some (v,[]))=some r↔(jO P s2 none tb (AV.own m) z λv=>some (v,[]))=some r;exact H.index E D
 .cases f
theorem IT{a b:Oper}{s1 s2:St}{us:aH}{v:aH}(j:kz P An ops a b=true)(o:a∈ops)(hb:b∈ops)(l:kJ P An ops a s1 us=true)(m:kJ P An ops b s2 v=true)(u:∀k,k∉gW ops.toList->(s1.t k).2= (s2.t k).2):
  ∀x∈b.op.operands,∀i∈(s2.get none x).ids,∀q∈us,q.1≠i:=by
 have h1:=VY.1 l b hb;have d:=VY.1 m a o;simp only [Ve] at h1 d;replace h1:=h1.1.1.1.2;replace d:=d.1.1.2;rw [j] at h1 d;simp only [Vs,WA] at h1 d;rcases vB j with⟨k,f,p⟩ | f
 .simp only [zu,vC,f,Vu,decide_eq_true_eq] at h1 d;intro x g i hi q r e;have:=d x (Array.mem_toList_iff.2 g) i hi;rw [<-u k p,<-e] at this;exact h1 q r this
 .simp only [vC,f,Vu,YV] at d;intro x g i hi;rw [d x (Array.mem_toList_iff.2 g)] at hi;cases hi
theorem Et{o:Oper}{us:aH}(r:∀k,k∉gW ops.toList->s'.t k=s.t k)(q:∀k,gO ops o=some k\/kH ops o=some none->∀x∈o.op.operands,s'.get none x=s.get none x)(v:o.guard=none->∀x∈o.op.operands,s'.get none x=s.get none x)(h:kJ P An ops o s us=true):kJ P An ops o s' us=true:=by
 refine VY.2 λm hm=> ?_;have D:=VY.1 h m hm;simp only [Ve] at D⊢;obtain⟨⟨⟨⟨h1,p⟩,hb⟩,J,j⟩,E,f⟩:=D;refine⟨⟨⟨⟨?_, ?_⟩, ?_⟩,J, ?_⟩,E, ?_⟩
 .cases g:lJ An ops o m with
  | false=>rfl
  | true=>obtain⟨k,K,b,F,L,G,I⟩:=Es g;rw [g] at h1;simp only [Vs,WA,Eu,b,F,Ve,Vu] at h1⊢;rw [r k G,r K I];refine⟨⟨λx i=> ?_,h1.1.2⟩,h1.2⟩;rw [q k (.inl b) x (Array.mem_toList_iff.1 i)];exact h1.1.1 x i
 .cases g:kz P An ops o m with
  | false=>rfl
  | true=>
   rw [g] at p;simp only [Vs,WA] at p⊢;rcases vB g with⟨k,b,C⟩ | b
   .simp only [zu,b] at p⊢;rw [r k C];exact p
   .simp only [zu,b]
 .cases g:kz P An ops m o with
  | false=>rfl
  | true=>
   rw [g] at hb;simp only [Vs,WA] at hb⊢;rcases vB g with⟨k,b,C⟩ | b
   .simp only [vC,b,Vu] at hb⊢;rw [r k C];intro x i;rw [q k (.inl (Sq b)) x (Array.mem_toList_iff.1 i)];exact hb x i
   .simp only [vC,b,Vu] at hb⊢;intro x i;rw [q 0 (.inr b) x (Array.mem_toList_iff.1 i)];exact hb x i
 .cases z:mA P An ops m o with
  | false=>rfl
  | true=>
   rw [z] at j;simp only [Vs,WA,Ve] at j⊢;refine⟨j.1, ?_⟩;have u:=j.2;simp only [mA,Ve] at z;obtain⟨t,a,y,l,d⟩:=qN z.2;have b:gO ops o=some (tu ops a):=by simp [gO,l,d]
   simp only [Bz,d] at u⊢;rw [q _ (.inl b) y (by simp [d,Op.operands])];exact u
 .cases B:lK P An ops m o with
  | false=>rfl
  | true=>
   rw [B] at f;simp only [Vs,WA] at f⊢;simp only [lK,Ve] at B;obtain⟨a,l,⟨t,e,n,d,_,_⟩ | ⟨t,d⟩⟩:=CU B.2
   .simp only [vO,d] at f⊢;rw [v l (.tmp a) (by simp [d,Op.operands])];exact f
   .simp only [vO,d] at f⊢;rw [v l (.tmp a) (by simp [d,Op.operands])];exact f
theorem TK{U:Array Bool}{i j:Nat}{l u:Oper}(hu:rZ ops)(hgk:sR ops=true)(hi:ops[i]? =some l)(hj:ops[j]? =some u)(hne:j≠i)(hri:i∈Region.ready .any ops U)(hrj:j∈Region.ready .any ops U)
  (hcl:rD ops U) (hap:l.apart ops u=true) (hcm0':sf P An l u=true\/tE P An ops l u=true) (hG:rL ops U s) (J:fj P An Or true nt ops l s=some s1) (e2:fj P An Or true nt ops u s1=some s2):
  ∃sj,fj P An Or true nt ops u s=some sj/\fj P An Or true nt ops l sj=some s2:=by
 obtain⟨G,Z,C,wi,rfl⟩:=Dx J;obtain⟨I,vj,B,wj,rfl⟩:=Dx e2;obtain⟨hli,oi',hi',hai⟩:=mem_ready.1 hri;rw [hi] at hi';simp only [U7] at hi';subst hi';obtain⟨hlj,oj',hj',haj⟩:=mem_ready.1 hrj;rw [hj] at hj';simp only [U7] at hj';subst hj';obtain⟨a1,a2,a3⟩:=Oper.apart_spec hap;have behind:∀(o:Oper) (m:Nat),U.getD m true=false->(∀e∈o.after,Region.binds .any e=true->U.getD e.on false=true)->∀e∈o.after,Region.binds .any e=true->¬(e.on=m\/iy ops 12 e.on m=true):=by
  intro o m hlm hall e he hb h;rcases h with h | h
  .exact wL hlm (h▸hall e he hb)
  .have hl:=hall e he hb;cases V:ops[e.on]? with
   | none=>simp [iy,V] at h
   | some ok=>rw [BB hcl hlm V (hcl e.on ok V hl)] at h;cases h
 have noti:=behind u i hli haj;have notj:=behind l j hlj hai;have wiok:=wi.ok;have wjok:=wj.ok;simp only [pr,Vs,WA,Ve] at wiok wjok;obtain⟨⟨⟨i1,i2⟩,i3⟩,⟨⟨⟨⟨⟨i4,i5⟩,i6⟩,i7⟩,i8⟩,i9⟩,i10⟩:=wiok;obtain⟨⟨⟨j1,j2⟩,j3⟩,⟨⟨⟨⟨⟨j4,j5⟩,j6⟩,j7⟩,j8⟩,j9⟩,j10⟩:=wjok;have pli:=DJ (g:=G) (v:=Z) (us:=C) hu hi hli hG (eB ops l.dst);have tj:∀k,k∈u.looksAt ops->(s.put (eB ops l.dst) l.dst G Z C).t k=s.t k:=by intro k V;rw [pli];exact qZ (b:=false) λe=>a1 k e V
 have ti:∀(g:Option Gs) (v:AV) (us:aH) k,k∈l.looksAt ops->(s.put false u.dst g v us).t k=s.t k:=λg v us k V=>qZ (b:=false) λe=>a3 k e V;have gj':dI ops u s some=some I:=by rw [<-wj.guard];exact(Iy λx b d h1 h2=>tj d (I2 h1 h2)).symm
 have getj:∀x∈u.op.operands,(s.put (eB ops l.dst) l.dst G Z C).get I x=s.get I x:=λx z=>sQ λk e=>tj k (iG (e▸z));have nj:ph ops I u s=true:=by rw [<-j4];exact(Jz getj).symm
 have a2':∀d,u.dst=some d->l.dst≠some d:=λd h h'=>a2 d h' h;have guardA:∀(o:Oper) (g:Option Gs) (s0:St) (k:Nat),gO ops o=some k->dI ops o s0 some=some g->g=none/\fD An o=false/\fh An o=false:=by
  intro o g s0 k h M;unfold gO at h;split at h
  .rename_i h1 h2;unfold dI at M;rw [h1] at M;simp only [U7] at M;exact⟨M.symm,by simp [fD,h2],by simp [fh,h2]⟩
  .rename_i h1 h2;unfold dI at M;rw [h1] at M;simp only [U7] at M;exact⟨M.symm,by simp [fD,h2],by simp [fh,h2]⟩
  .cases h
 have al_w:∀o:Oper,js o=true->gD P An o=false:=by intro o h;cases hop:o.op <;> simp only [js,hop,VF] at h <;> simp [gD,hop]
 have w_r:∀o:Oper,gD P An o=false->fD An o=false:=by
  intro o h;cases hr:fD An o with
  | false=>rfl
  | true=>
   exfalso;cases hop:o.op <;> simp only [fD,hop,VF] at hr;rename_i cl;cases hcal:cl.callee <;> simp only [hcal,VF] at hr;rename_i fo;simp only [gD,hop,hcal] at h;cases fo with
   | func f=>
    dsimp only at h hr;cases hb:An.iP f with
    | none=>rw [hb] at hr;simp at hr
    | some x=>rw [hb] at h;simp at h
   | _=>simp at h
 have Q:∀(o:Oper) (us:aH) (m:Nat) (om:Oper),ops[m]? =some om->(∀e∈o.after,Region.binds .any e=true->¬(e.on=m\/iy ops 12 e.on m=true))->tR ops o us=true->(∀d,om.dst=some d->o.dst≠some d)->∀q∈us,∀d k,om.dst=some d->q.1≠ .s d k:=by
  intro o us m om hm hnot hok hdst q D d k hd e;have h1:=Vu.1 hok q D;rw [e] at h1;simp only [WK] at h1;rcases h1 with h1 | h1
  .unfold sc at h1;have h3:=Vu.1 h1 m (Xi.2 (YB.1 hm).1);rw [hm] at h3;simp only [hd,BEq.rfl,Vs,WA] at h3;obtain⟨e',he,hb⟩:=Yd.1 h3;simp only [Ve,WK,beq_iff_eq] at hb;exact hnot e' he hb.1 hb.2
  .exact hdst d hd (by simpa using h1)
 have ltd:∀(o:Oper),(match o.dst with | some d=>decide (d < nt) | none=>true)=true->Nat.ble nt 1000000=true->∀d,o.dst=some d->d < 1000000:=by intro o h1 h2 d hd;rw [hd] at h1;simp only [decide_eq_true_eq] at h1;exact W0 h1 (Nat.le_of_ble_eq_true h2)
 have guardB:∀(o:Oper) (g:Option Gs) (s0:St) (k:Nat),(gO ops o=some k\/kH ops o=some none)->dI ops o s0 some=some g->g=none:=by
  intro o g s0 k h M;rcases h with h | h
  .exact(guardA o g s0 k h M).1
  .have h1:=(DX (P:=P) (An:=An) h).1;unfold dI at M;rw [h1] at M;simp only [U7] at M;exact M.symm
 have three:dG P An Or I u s=some (vj,B)/\dG P An Or G l (s.put false u.dst I vj B)=some (Z,C)/\(∀p∈C,∀q∈B,p.1≠q.1):=by
  rcases hcm0' with hcm | hst
  .skip
   have hcm0:=hcm;unfold sf at hcm0;simp only [Ve] at hcm0;obtain⟨⟨hcm1,hcd1⟩,hcd2⟩:=hcm0;have hcm':(gD P An l=false\/gB P u=true\/js u=true)/\(gD P An u=false\/gB P l=true\/js l=true):=by simp only [WM,YZ,Bool.and_eq_false_iff,Bool.not_eq_false',WK] at hcm1;exact hcm1
   have hdi:fh An l=false\/B= []:=by
    simp only [WK,WM] at hcd1;rcases hcd1 with h | h
    .exact .inl h
    .right;simpa [h] using j7
   have hdj:fh An u=false\/C= []:=by
    simp only [WK,WM] at hcd2;rcases hcd2 with h | h
    .exact .inl h
    .right;simpa [h] using i7
   have purei:gB P l=true->C= []:=λh=>by simpa [h] using i6
   have purej:gB P u=true->B= []:=λh=>by simpa [h] using j6
   have opj:dG P An Or I u s=some (vj,B):=by
    have old:gB P u=true\/js u=true\/aL s.h C=s.h\/(fD An u=false/\fh An u=false/\∀x∈u.op.operands,∀id∈(s.get I x).ids,aL s.h C id=s.h id)->dG P An Or I u s=some (vj,B):=by intro h;rw [<-wj.op];exact(lR (s:=s) (s':=s.put (eB ops l.dst) l.dst G Z C) (λx z k e=>tj k (iG (e▸z))) h).symm
    rcases hcm'.1 with hw | F | F
    case inr.inl=>exact old (.inl F)
    case inr.inr=>exact old (.inr (.inl F))
    have K:lr l C=true:=by simpa [hw] using i5
    have direct:∀x∈u.op.operands,∀id∈(s.get I x).ids,∀q∈C,q.1≠id:=by intro x z id E q D e;obtain⟨d,k,J,e2⟩:=gG K ⟨q,D,e⟩;subst J;obtain⟨ed,he,hb,ho⟩:=zF nj z E hi e2;exact noti ed he hb ho
    rcases hdj with hdj | hdj
    case inr=>exact old (.inr (.inr (.inl (by rw [hdj];rfl))))
    rcases hcm'.2 with hwj | hpi | hai'
    .exact old (.inr (.inr (.inr ⟨w_r u hwj,hdj,λx z id E=>ei λq D e=>direct x z id E q D e⟩)))
    .exact old (.inr (.inr (.inl (by rw [purei hpi];rfl))))
    .cases hwj:gD P An u with
     | false=>exact old (.inr (.inr (.inr ⟨w_r u hwj,hdj,λx z id E=>ei λq D e=>direct x z id E q D e⟩)))
     | true=>
      have hus:tR ops u B=true:=by simpa [hwj] using j8
      refine yd (s:=s.put (eB ops l.dst) l.dst G Z C) (s':=s) (N:=λi=>∃q∈C,q.1=i) (λx z k e=>(tj k (iG (e▸z))).symm) (λi hi=> ?_) hdj (λx z id E=> ?_) (λk=> ?_) (λp F=> ?_) wj.op
      .exact(ei λq D e=>hi ⟨q,D,e⟩).symm
      .rw [getj x z] at E;rintro⟨q,D,e⟩;exact direct x z id E q D e
      .rintro⟨q,D,e⟩;obtain⟨d,k',J,e2⟩:=gG K ⟨q,D,e⟩;simp only [Id.s.injEq] at J;have h:=ltd l i1 i9 d e2;rw [<-J.1] at h;exact absurd h (XC.2 (VO (by decide) (XP 2000000 _)))
      .rintro⟨q,D,e⟩;obtain⟨d,k',J,e2⟩:=gG K ⟨q,D,rfl⟩;exact Q u B i l hi noti hus a2 p F d k' e2 (by rw [<-e,J])
   have opi:dG P An Or G l (s.put false u.dst I vj B)=some (Z,C):=by
    have old:gB P l=true\/js l=true\/aL s.h B=s.h\/(fD An l=false/\fh An l=false/\∀x∈l.op.operands,∀id∈(s.get G x).ids,aL s.h B id=s.h id)->dG P An Or G l (s.put false u.dst I vj B)=some (Z,C):=by intro h;rw [<-wi.op];exact lR (λx z k e=>ti _ _ _ k (iG (e▸z))) h
    rcases hcm'.2 with hw | F | F
    case inr.inl=>exact old (.inl F)
    case inr.inr=>exact old (.inr (.inl F))
    have K:lr u B=true:=by simpa [hw] using j5
    have direct:∀x∈l.op.operands,∀id∈(s.get G x).ids,∀q∈B,q.1≠id:=by intro x z id E q D e;obtain⟨d,k,J,e2⟩:=gG K ⟨q,D,e⟩;subst J;obtain⟨ed,he,hb,ho⟩:=zF i4 z E hj e2;exact notj ed he hb ho
    rcases hdi with hdi | hdi
    case inr=>exact old (.inr (.inr (.inl (by rw [hdi];rfl))))
    rcases hcm'.1 with hwi | hpj | haj'
    .exact old (.inr (.inr (.inr ⟨w_r l hwi,hdi,λx z id E=>ei λq D e=>direct x z id E q D e⟩)))
    .exact old (.inr (.inr (.inl (by rw [purej hpj];rfl))))
    .cases hwi:gD P An l with
     | false=>exact old (.inr (.inr (.inr ⟨w_r l hwi,hdi,λx z id E=>ei λq D e=>direct x z id E q D e⟩)))
     | true=>
      have hus:tR ops l C=true:=by simpa [hwi] using i8
      refine yd (s:=s) (s':=s.put false u.dst I vj B) (N:=λi=>∃q∈B,q.1=i) (λx z k e=>ti _ _ _ k (iG (e▸z))) (λi hi=> ?_) hdi (λx z id E=> ?_) (λk=> ?_) (λp F=> ?_) wi.op
      .exact ei λq D e=>hi ⟨q,D,e⟩
      .rintro⟨q,D,e⟩;exact direct x z id E q D e
      .rintro⟨q,D,e⟩;obtain⟨d,k',J,e2⟩:=gG K ⟨q,D,e⟩;simp only [Id.s.injEq] at J;have h:=ltd u j1 j9 d e2;rw [<-J.1] at h;exact absurd h (XC.2 (VO (by decide) (XP 2000000 _)))
      .rintro⟨q,D,e⟩;obtain⟨d,k',J,e2⟩:=gG K ⟨q,D,rfl⟩;exact Q l C j u hj notj hus a2' p F d k' e2 (by rw [<-e,J])
   have disj:∀p∈C,∀q∈B,p.1≠q.1:=by
    intro p F q D e;rcases hcm'.1 with hw | hpj | haj'
    .rcases hcm'.2 with hw' | hpi | hai'
     .obtain⟨d,k,J,e2⟩:=gG (by simpa [hw] using i5:lr l C=true) ⟨p,F,rfl⟩;obtain⟨d',k',e3,e4⟩:=gG (by simpa [hw'] using j5:lr u B=true) ⟨q,D,rfl⟩;rw [J,e3] at e;simp only [Id.s.injEq] at e;obtain⟨rfl,_⟩:=e;exact a2 d e2 e4
     .rw [purei hpi] at F;cases F
     .obtain⟨d,k,J,e2⟩:=gG (by simpa [hw] using i5:lr l C=true) ⟨p,F,rfl⟩;cases hwj:gD P An u with
      | false=>obtain⟨d',k',e3,e4⟩:=gG (by simpa [hwj] using j5:lr u B=true) ⟨q,D,rfl⟩;rw [J,e3] at e;simp only [Id.s.injEq] at e;obtain⟨rfl,_⟩:=e;exact a2 d e2 e4
      | true=>exact Q u B i l hi noti (by simpa [hwj] using j8) a2 q D d k e2 (by rw [<-e,J])
    .rw [purej hpj] at D;cases D
    .obtain⟨d,k,J,e2⟩:=gG (by simpa [al_w u haj'] using j5:lr u B=true) ⟨q,D,rfl⟩;cases hwi:gD P An l with
     | false=>obtain⟨d',k',e3,e4⟩:=gG (by simpa [hwi] using i5:lr l C=true) ⟨p,F,rfl⟩;rw [J,e3] at e;simp only [Id.s.injEq] at e;obtain⟨rfl,_⟩:=e;exact a2 d' e4 e2
     | true=>exact Q l C j u hj notj (by simpa [hwi] using i8) a2' p F d k e2 (by rw [e,J])
   exact⟨opj,opi,disj⟩
  .have hst2:(((lJ An ops l u=true\/kz P An ops l u=true)\/kz P An ops u l=true)\/(mA P An ops l u=true\/mA P An ops u l=true))\/(lK P An ops l u=true\/lK P An ops u l=true):=by
    unfold tE at hst;simpa only [WK] using hst
   rcases hst2 with hst1 | hst5
   case inr=>
    have ixq:∀o,zq P o=true->o.guard=none/\te P An o=true/\gB P o=false:=λo h=>by
     obtain⟨a,h1,⟨t,e,n,h2,_⟩ | ⟨t,h2⟩⟩:=CU h
     .exact⟨h1,by simp [te,h2],by simp [gB,h2]⟩
     .exact⟨h1,by simp [te,h2],by simp [gB,h2]⟩
    have gn:∀(o:Oper) (g:Option Gs) (s0:St),o.guard=none->dI ops o s0 some=some g->g=none:=by intro o g s0 h1 M;unfold dI at M;rw [h1] at M;simp only [U7] at M;exact M.symm
    have stg:∀o,(jQ P o true=true\/jQ P o false=true)->o.guard=none/\fD An o=false/\fh An o=false:=λo h=>by
     obtain⟨t,a,y,h1,h2⟩:∃t a y,o.guard=none/\o.op= .store t (.tmp a) y:=by rcases h with h | h <;> exact qN h
     exact⟨h1,by simp [fD,h2],by simp [fh,h2]⟩
    rcases hst5 with h5 | h5
    .have h5':=h5;simp only [lK,Ve,WK] at h5';obtain⟨gdi,ri,di⟩:=stg l h5'.1.2;obtain⟨gdj,qj,_⟩:=ixq u h5'.2;have gni:=gn l G s gdi wi.guard;have gnj:=gn u I s gdj gj';have uj:B= []:=by simpa [qj] using j7
     have eiop:=wi.op;have ejop:=wj.op;rw [gni] at eiop;rw [gnj] at ejop;have hget:∀x∈u.op.operands,(s.put (eB ops l.dst) l.dst G Z C).get none x=s.get none x:=λx z=>by have:=getj x z;rwa [gnj] at this
     refine⟨?_, ?_,λp F q D=>by rw [uj] at D;cases D⟩
     .rw [gnj];exact(Lq h5 (VI hi) (VI hj) eiop i10 j10 rfl hget hget _).2 ejop
     .rw [<-wi.op];exact lR (λx z k e=>ti _ _ _ k (iG (e▸z))) (.inr (.inr (.inl (by rw [uj];rfl))))
    .have h5':=h5;simp only [lK,Ve,WK] at h5';obtain⟨gdj,rj,dj⟩:=stg u h5'.1.2;obtain⟨gdi,qi,_⟩:=ixq l h5'.2;have gni:=gn l G s gdi wi.guard;have gnj:=gn u I s gdj gj';have ui:C= []:=by simpa [qi] using i7
     have eiop:=wi.op;rw [gni] at eiop;have opj:dG P An Or I u s=some (vj,B):=by rw [<-wj.op];exact(lR (s:=s) (s':=s.put (eB ops l.dst) l.dst G Z C) (λx z k e=>tj k (iG (e▸z))) (.inr (.inr (.inl (by rw [ui];rfl))))).symm
     have geti:∀x∈l.op.operands,(s.put false u.dst I vj B).get none x=s.get none x:=λx z=>sQ λk e=>ti _ _ _ k (iG (e▸z));have okj:kJ P An ops u s B=true:=by
      refine Et (λk V=> ?_) (λk V x z=> ?_) (λM x z=> ?_) j10
      .rw [pli];exact(qZ (b:=false) λe=>V (qA e ops.toList (Array.mem_toList_iff.2 (VI hi)))).symm
      .have h:=getj x z;rw [gnj] at h;exact h.symm
      .have h:=getj x z;rw [gnj] at h;exact h.symm
     refine⟨opj, ?_,λp F=>by rw [ui] at F;cases F⟩;rw [gni];rw [gnj] at opj;exact(Lq h5 (VI hj) (VI hi) opj okj i10 rfl geti (λ_ _=>rfl) _).1 eiop
   have hst1:=hst1;rcases hst1 with hst0 | hst4
   case inr=>
    have both:∀o,(jQ P o true=true\/jQ P o false=true)->∃t a y,o.guard=none/\o.op= .store t (.tmp a) y:=λo h=>by
     rcases h with h | h
     .exact qN h
     .exact qN h
    have si:(jQ P l true=true\/jQ P l false=true)/\(jQ P u true=true\/jQ P u false=true):=by
     rcases hst4 with h | h <;> simp only [mA,Ve] at h
     .exact⟨.inl h.1.2, .inr h.2⟩
     .exact⟨.inr h.2, .inl h.1.2⟩
    obtain⟨ti',xi,yi,gdi,opi'⟩:=both l si.1;obtain⟨tj',xj,yj,gdj,opj'⟩:=both u si.2;have hki:gO ops l=some (tu ops xi):=by simp [gO,gdi,opi']
    have hkj:gO ops u=some (tu ops xj):=by simp [gO,gdj,opj']
    obtain⟨gni,ri,di⟩:=guardA l G s _ hki wi.guard;obtain⟨gnj,rj,dj⟩:=guardA u I s _ hkj gj';have eiop:=wi.op;have ejop:=wj.op;rw [gni] at eiop;rw [gnj] at ejop;have hres:(∀p∈C,∀q∈B,p.1≠q.1)/\(∀x∈l.op.operands,∀i∈(s.get none x).ids,∃p∈C,p.1=i)/\(∀x∈u.op.operands,∀i∈((s.put (eB ops l.dst) l.dst G Z C).get none x).ids,∃p∈B,p.1=i):=by
     rcases hst4 with h | h
     .exact Lp h (VI hi) (VI hj) eiop ejop i10 j10 (.inl rfl)
     .obtain⟨r1,r2,r3⟩:=Lp h (VI hj) (VI hi) ejop eiop j10 i10 (.inr rfl);exact⟨λp F q D e=>r1 q D p F e.symm,r3,r2⟩
    obtain⟨d1,d2,d3⟩:=hres;refine⟨?_, ?_,d1⟩
    .rw [<-wj.op];refine(lR (s:=s) (s':=s.put (eB ops l.dst) l.dst G Z C) (λx z k e=>tj k (iG (e▸z))) (.inr (.inr (.inr ⟨rj,dj,λx z id E=> ?_⟩)))).symm;refine ei λq D e=> ?_;rw [<-getj x z,gnj] at E;obtain⟨p,F,e2⟩:=d3 x z id E;exact d1 q D p F (e.trans e2.symm)
    .rw [<-wi.op];refine lR (λx z k e=>ti _ _ _ k (iG (e▸z))) (.inr (.inr (.inr ⟨ri,di,λx z id E=> ?_⟩)));refine ei λq D e=> ?_;rw [gni] at E;obtain⟨p,F,e2⟩:=d2 x z id E;exact d1 p F q D (e2.trans e.symm)
   have tk:∀k,k∉gW ops.toList->(s.put (eB ops l.dst) l.dst G Z C).t k=s.t k:=λk dk=>by rw [pli];exact qZ (b:=false) λe=>dk (qA e ops.toList (Array.mem_toList_iff.2 (VI hi)))
   have gnone:∀(o:Oper) (g:Option Gs) (s0:St),o.guard=none->dI ops o s0 some=some g->g=none:=by intro o g s0 h1 M;unfold dI at M;rw [h1] at M;simp only [U7] at M;exact M.symm
   rcases hst0 with(hst | hld) | hld
   rotate_left
   ·
    obtain⟨ga,wa,ra,da⟩:=IS hld;obtain⟨rb',hrb'⟩:∃r,kH ops u=some r:=by rcases vB hld with⟨k,V,_⟩ | V <;> exact⟨_,V⟩
    obtain⟨gb,wb,rb,db⟩:=DX (P:=P) (An:=An) hrb';have gni:=gnone l G s ga wi.guard;have gnj:=gnone u I s gb gj';have K:lr u B=true:=by simpa [wb] using j5
    have hus:tR ops l C=true:=by simpa [wa] using i8
    have hap2:=IT hld (VI hi) (VI hj) i10 j10 (λk V=>by rw [tk k V]);refine⟨?_, ?_, ?_⟩
    .rw [<-wj.op];refine(lR (s:=s) (s':=s.put (eB ops l.dst) l.dst G Z C) (λx z k e=>tj k (iG (e▸z))) (.inr (.inr (.inr ⟨rb,db,λx z id E=> ?_⟩)))).symm;refine ei λq D e=> ?_;rw [<-getj x z,gnj] at E;exact hap2 x z id E q D e
    .refine yd (s:=s) (s':=s.put false u.dst I vj B) (N:=λi=>∃q∈B,q.1=i) (λx z k e=>ti _ _ _ k (iG (e▸z))) (λi hi=> ?_) da (λx z id E=> ?_) (λk=> ?_) (λp F=> ?_) wi.op
     .exact ei λq D e=>hi ⟨q,D,e⟩
     .rintro⟨q,D,e⟩;obtain⟨d,k,J,e2⟩:=gG K ⟨q,D,e⟩;subst J;obtain⟨ed,he,hb,ho⟩:=zF i4 z E hj e2;exact notj ed he hb ho
     .rintro⟨q,D,e⟩;obtain⟨d,k',J,e2⟩:=gG K ⟨q,D,e⟩;simp only [Id.s.injEq] at J;have h:=ltd u j1 j9 d e2;rw [<-J.1] at h;exact absurd h (XC.2 (VO (by decide) (XP 2000000 _)))
     .rintro⟨q,D,e⟩;obtain⟨d,k',J,e2⟩:=gG K ⟨q,D,rfl⟩;exact Q l C j u hj notj hus a2' p F d k' e2 (by rw [<-e,J])
    .intro p F q D e;obtain⟨d,k,J,e2⟩:=gG K ⟨q,D,rfl⟩;exact Q l C j u hj notj hus a2' p F d k e2 (by rw [e,J])
   ·
    obtain⟨ga,wa,ra,da⟩:=IS hld;obtain⟨rb',hrb'⟩:∃r,kH ops l=some r:=by rcases vB hld with⟨k,V,_⟩ | V <;> exact⟨_,V⟩
    obtain⟨gb,wb,rb,db⟩:=DX (P:=P) (An:=An) hrb';have gni:=gnone l G s gb wi.guard;have gnj:=gnone u I s ga gj';have K:lr l C=true:=by simpa [wb] using i5
    have hus:tR ops u B=true:=by simpa [wa] using j8
    have hap2:=IT hld (VI hj) (VI hi) j10 i10 (λk V=>by rw [tk k V]);refine⟨?_, ?_, ?_⟩
    .refine yd (s:=s.put (eB ops l.dst) l.dst G Z C) (s':=s) (N:=λi=>∃q∈C,q.1=i) (λx z k e=>(tj k (iG (e▸z))).symm) (λi hi=> ?_) da (λx z id E=> ?_) (λk=> ?_) (λp F=> ?_) wj.op
     .exact(ei λq D e=>hi ⟨q,D,e⟩).symm
     .rw [getj x z] at E;rintro⟨q,D,e⟩;obtain⟨d,k,J,e2⟩:=gG K ⟨q,D,e⟩;subst J;obtain⟨ed,he,hb,ho⟩:=zF nj z E hi e2;exact noti ed he hb ho
     .rintro⟨q,D,e⟩;obtain⟨d,k',J,e2⟩:=gG K ⟨q,D,e⟩;simp only [Id.s.injEq] at J;have h:=ltd l i1 i9 d e2;rw [<-J.1] at h;exact absurd h (XC.2 (VO (by decide) (XP 2000000 _)))
     .rintro⟨q,D,e⟩;obtain⟨d,k',J,e2⟩:=gG K ⟨q,D,rfl⟩;exact Q u B i l hi noti hus a2 p F d k' e2 (by rw [<-e,J])
    .rw [<-wi.op];refine lR (λx z k e=>ti _ _ _ k (iG (e▸z))) (.inr (.inr (.inr ⟨rb,db,λx z id E=> ?_⟩)));refine ei λq D e=> ?_;rw [gni] at E;exact hap2 x z id E q D e
    .intro p F q D e;obtain⟨d,k,J,e2⟩:=gG K ⟨p,F,rfl⟩;exact Q u B i l hi noti hus a2 q D d k e2 (by rw [<-e,J])
   obtain⟨k,k',sk,sk',nek,dk,dk'⟩:=Es hst;obtain⟨gni,ri,di⟩:=guardA l G s k sk wi.guard;obtain⟨gnj,rj,dj⟩:=guardA u I s k' sk' gj';have hst':lJ An ops u l=true:=TA hst;obtain⟨p1,p2,p3⟩:=Lr i10 (VI hj) hst sk sk';obtain⟨q1,q2,q3⟩:=Lr j10 (VI hi) hst' sk' sk;replace tk:=tk k dk;have tk':(s.put (eB ops l.dst) l.dst G Z C).t k'=s.t k':=by rw [pli];exact qZ (b:=false) λe=>dk' (qA e ops.toList (Array.mem_toList_iff.2 (VI hi)))
   rw [tk] at q3;rw [tk'] at q2;refine⟨?_, ?_,λp F q D e=>q3 q D (e▸p2 p F)⟩
   .rw [<-wj.op];refine(lR (s:=s) (s':=s.put (eB ops l.dst) l.dst G Z C) (λx z k e=>tj k (iG (e▸z))) (.inr (.inr (.inr ⟨rj,dj,λx z id E=> ?_⟩)))).symm;refine ei λq D e=> ?_;rw [<-getj x z,gnj] at E;have:=q1 x z id E;rw [tk'] at this;exact p3 q D (e▸this)
   .rw [<-wi.op];refine lR (λx z k e=>ti _ _ _ k (iG (e▸z))) (.inr (.inr (.inr ⟨ri,di,λx z id E=> ?_⟩)));refine ei λq D e=> ?_;rw [gni] at E;exact q3 q D (e▸p1 x z id E)
 obtain⟨opj,opi,disj⟩:=three;have sj10:kJ P An ops u s B=true:=by
  refine Et (λk V=> ?_) (λk V x z=> ?_) (λM x z=> ?_) j10
  .rw [pli];exact(qZ (b:=false) λe=>V (qA e ops.toList (Array.mem_toList_iff.2 (VI hi)))).symm
  .have:=guardB u I s k V gj';have h:=getj x z;rw [this] at h;exact h.symm
  .have hgn:I=none:=by
    have h:=gj';unfold dI at h;rw [M] at h;simp only [U7] at h;exact h.symm
   have h:=getj x z;rw [hgn] at h;exact h.symm
 have frj:jq (u.dst.getD 0) s.h B=true:=by
  unfold jq at j3⊢;refine Vu.2 λp F=> ?_;have:=Vu.1 j3 p F;split at this
  .simp only [WK,X2] at this⊢;rcases this with h | h
   .exact .inl h
   .exact .inr (Ax h).2
  .rfl
  .cases this
 have wj0:uC P An Or nt ops u s I vj B:=⟨gj',opj,by
  simp only [pr,Vs,WA,Ve];exact⟨⟨⟨j1,j2⟩,frj⟩,⟨⟨⟨⟨⟨nj,j5⟩,j6⟩,j7⟩,j8⟩,j9⟩,sj10⟩⟩
 have plj:=DJ (g:=I) (v:=vj) (us:=B) hu hj hlj hG (eB ops u.dst);refine⟨_,wj0.fj, ?_⟩;rw [plj];have gi':dI ops l (s.put false u.dst I vj B) some=some G:=by rw [<-wi.guard];exact Iy λx b d h1 h2=>ti _ _ _ d (I2 h1 h2)
 have geti:∀x∈l.op.operands,(s.put false u.dst I vj B).get G x=s.get G x:=λx z=>sQ λk e=>ti _ _ _ k (iG (e▸z));have ni:ph ops G l (s.put false u.dst I vj B)=true:=by rw [<-i4];exact Jz geti
 have fri:jq (l.dst.getD 0) (s.put false u.dst I vj B).h C=true:=by
  unfold jq at i3⊢;refine Vu.2 λp F=> ?_;have:=Vu.1 i3 p F;split at this
  .rename_i d k ep;simp only [WK,X2] at this⊢;rcases this with h | h
   .exact .inl h
   .right;show aL s.h B p.1=none;rw [ei λq D e=>disj p F q D e.symm];exact h
  .rfl
  .cases this
 have si10:kJ P An ops l (s.put false u.dst I vj B) C=true:=by
  refine Et (λk V=> ?_) (λk V x z=> ?_) (λM x z=> ?_) i10
  .exact qZ (b:=false) λe=>V (qA e ops.toList (Array.mem_toList_iff.2 (VI hj)))
  .have:=guardB l G s k V wi.guard;have h:=geti x z;rw [this] at h;exact h
  .have hgn:G=none:=by
    have h:=wi.guard;unfold dI at h;rw [M] at h;simp only [U7] at h;exact h.symm
   have h:=geti x z;rw [hgn] at h;exact h
 have wi0:uC P An Or nt ops l (s.put false u.dst I vj B) G Z C:=⟨gi',opi,by
  simp only [pr,Vs,WA,Ve];exact⟨⟨⟨i1,i2⟩,fri⟩,⟨⟨⟨⟨⟨ni,i5⟩,i6⟩,i7⟩,i8⟩,i9⟩,si10⟩⟩
 rw [wi0.fj,pli];have dij:∀d,l.dst=some d->u.dst≠some d:=a2;have eH:∀(g:Option Gs) (o:Oper) (m:Nat) (om:Oper),ops[m]? =some om->U.getD m true=false->dI ops o s some=some g->o∈ops->(∀e∈o.after,Region.binds .any e=true->U.getD e.on false=true)->∀gs,g=some gs->om.dst≠some gs.d:=by
  intro g o m om hom hlm L hmem hall gs hgs hd;unfold dI at L;cases hog:o.guard with
  | none=>rw [hog] at L;simp only [U7] at L;rw [hgs] at L;cases L
  | some p=>
   obtain⟨jj,b⟩:=p;rw [hog] at L;simp only at L;cases hdd:(ops[jj]?).bind (·.dst) with
   | none=>rw [hdd] at L;simp at L
   | some d=>
    rw [hdd] at L;simp only at L;replace L:=U8.1 L;obtain⟨x,_,L⟩:=L;obtain⟨bb,L,_⟩:=qJ L;simp only [U7] at L;rw [hgs] at L;simp only [U7] at L;have hgd:gs.d=d:=by rw [<-L]
    rw [hgd] at hd;obtain⟨ojj,h1,h2⟩:=U8.1 hdd;have:=hu hom h1 hd h2;subst this;have hge:=VY.1 hgk o hmem;rw [hog] at hge;simp only at hge;obtain⟨e,he,hb⟩:=Yd.1 hge;simp only [Ve,beq_iff_eq] at hb;exact wL hlm (hb.2▸hall e he hb.1)
 have nogi:=eH G l j u hj hlj wi.guard (VI hi) hai;have nogj:=eH I u i l hi hli gj' (VI hj) haj;have nos:∀(m:Nat) (om:Oper),ops[m]? =some om->U.getD m true=false->∀k g v,s.t k= (some g,v)->om.dst≠some g.d:=by intro m om hom hlm k g v hst hd;obtain⟨x,ox,h1,h2,h3⟩:=hG k g v hst;have:=hu hom h1 hd h3;subst this;exact wL hlm h2
 have tcomm:∀(bi bj:Bool),((s.put false u.dst I vj B).put bi l.dst G Z C).t= ((s.put false l.dst G Z C).put bj u.dst I vj B).t:=by
  intro bi bj;funext k;cases hdi:l.dst with
  | none=>
   cases hdj:u.dst with
   | none=>rfl
   | some dj=>
    simp only [St.put];by_cases ek:k=dj
    .simp [ek]
    .simp only [if_neg ek,cond_false];cases bj with
     | false=>rfl
     | true=>
      simp only [cond_true];cases hst:s.t k with
      | mk gk vk=>
       cases gk with
       | none=>rfl
       | some gk=>
        have:=nos j u hj hlj k gk vk hst;rw [hdj] at this;have hb:(gk.d==dj)=false:=by simp only [beq_eq_false_iff_ne,ne_eq];exact λe=>this (by rw [e])
        simp [mQ,hb]
  | some di=>
   cases hdj:u.dst with
   | none=>
    simp only [St.put];by_cases ek:k=di
    .simp [ek]
    .simp only [if_neg ek,cond_false];cases bi with
     | false=>rfl
     | true=>
      simp only [cond_true];cases hst:s.t k with
      | mk gk vk=>
       cases gk with
       | none=>rfl
       | some gk=>
        have:=nos i l hi hli k gk vk hst;rw [hdi] at this;have hb:(gk.d==di)=false:=by simp only [beq_eq_false_iff_ne,ne_eq];exact λe=>this (by rw [e])
        simp [mQ,hb]
   | some dj=>
    have hne':di≠dj:=λe=>dij di hdi (by rw [hdj,e]);simp only [St.put];have drop1:∀(b:Bool) (g:Option Gs) (v:AV) (d:Nat),(∀gs,g=some gs->gs.d≠d)->cond b (mQ d (g,v)) (g,v)= (g,v):=by
     intro b g v d M;cases b with
     | false=>rfl
     | true=>
      cases g with
      | none=>rfl
      | some gs=>
       have hb:(gs.d==d)=false:=by simpa using M gs rfl
       simp [mQ,hb]
    by_cases eki:k=di
    .subst eki;simp only [if_true,if_neg hne',cond_false];rw [drop1 bj G Z dj λgs e h=>nogi gs e (by rw [hdj,h])]
    .by_cases ekj:k=dj
     .subst ekj;simp only [if_true,if_neg eki,cond_false];rw [drop1 bi I vj di λgs e h=>nogj gs e (by rw [hdi,h])]
     .simp only [if_neg eki,if_neg ekj,cond_false];cases hst:s.t k with
      | mk gk vk=>rw [drop1 bi gk vk di λgs e h=>by subst e;exact nos i l hi hli k gs vk hst (by rw [hdi,h]),drop1 bj gk vk dj λgs e h=>by subst e;exact nos j u hj hlj k gs vk hst (by rw [hdj,h])]
 have:∀(bi bj:Bool),(s.put false u.dst I vj B).put bi l.dst G Z C= (s.put false l.dst G Z C).put bj u.dst I vj B:=by
  intro bi bj;have ht:=tcomm bi bj;have hh:((s.put false u.dst I vj B).put bi l.dst G Z C).h= ((s.put false l.dst G Z C).put bj u.dst I vj B).h:=by show aL (aL s.h B) C=aL (aL s.h C) B;exact(UO disj).symm
  generalize (s.put false u.dst I vj B).put bi l.dst G Z C=X at *
  generalize (s.put false l.dst G Z C).put bj u.dst I vj B=Y at *
  cases X;cases Y;simp only at ht hh;rw [ht,hh]
 rw [this]
theorem Qd{o:Oper}{l:Gs}{f:Array Bool}(u:sR ops=true)(a:dI ops o s some=some (some l))(q:o∈ops)(m:∀e∈o.after,Region.binds .any e=true->f.getD e.on false=true):
  ∃i v,ops[i]? =some v/\f.getD i false=true/\v.dst=some l.d:=by
 unfold dI at a;cases k:o.guard with
 | none=>rw [k] at a;simp at a
 | some p=>
  obtain⟨jj,b⟩:=p;rw [k] at a;simp only at a;cases g:(ops[jj]?).bind (·.dst) with
  | none=>rw [g] at a;simp at a
  | some d=>
   rw [g] at a;simp only at a;replace a:=U8.1 a;obtain⟨x,_,a⟩:=a;obtain⟨bb,a,_⟩:=qJ a;simp only [U7] at a;have r:l.d=d:=by rw [<-a]
   obtain⟨y,h1,z⟩:=U8.1 g;have j:=VY.1 u o q;rw [k] at j;simp only at j;obtain⟨e,B,hb⟩:=Yd.1 j;simp only [Ve,beq_iff_eq] at hb;exact⟨jj,y,h1,hb.2▸m e B hb.1,by rw [r];exact z⟩
theorem Iu{a:Array Bool}{i:Nat}{p:Oper}(G:rZ ops)(B:sR ops=true)(hi:ops[i]? =some p)(D:i∈Region.ready .any ops a)(u:rL ops a s)(e:fj P An Or true nt ops p s=some s1):
  rL ops (a.setIfInBounds i true) s1:=by
 obtain⟨g,v,us,I,rfl⟩:=Dx e;obtain⟨C,J,f,y⟩:=mem_ready.1 D;rw [hi] at f;simp only [U7] at f;subst f;rw [DJ G hi C u];have j:∀k g v,s.t k= (some g,v)->∃i' o,ops[i']? =some o/\(a.setIfInBounds i true).getD i' false=true/\o.dst=some g.d:=by intro k g v E;obtain⟨x,q,h1,l,m⟩:=u k g v E;exact⟨x,q,h1,getD_set_true l,m⟩
 intro k r F b;unfold St.put at b;cases z:p.dst with
 | none=>rw [z] at b;exact j k r F b
 | some d=>
  rw [z] at b;dsimp only at b;split at b
  .simp only [Wk] at b;obtain⟨x,q,h1,l,m⟩:=Qd B (by rw [<-b.1];exact I.guard) (VI hi) y;exact⟨x,q,h1,getD_set_true l,m⟩
  .exact j k r F b
def uG(P:Program)(An:cM)(Or:au)(nt:Nat)(ops:Array Oper)(Q:St->Prop):Nat->Array Bool->St->Prop
 | 0,a,s=>Region.ready .any ops a= []/\Q s
 | n+1,a,s=>(Region.ready .any ops a= []->Q s)/\∀i∈Region.ready .any ops a,∃o s1,ops[i]? =some o/\fj P An Or true nt ops o s=some s1/\uG P An Or nt ops Q n (a.setIfInBounds i true) s1
theorem MK{n j i:Nat}{b:Oper}(f:ops[j]? =some b)(h:iy ops (n+1) j i=false):∀e∈b.after,Region.binds .any e=true->e.on≠i:=by intro e d hb a;simp only [iy,f] at h;rw [Array.any_eq_false'] at h;exact h e d (by simp [hb,a])
theorem FW{a:Array Bool}{j:Nat}(g:rD ops a)(p:j∈Region.ready .any ops a):rD ops (a.setIfInBounds j true):=by
 intro k ok l m e i hb;obtain⟨q,r,b,f⟩:=mem_ready.1 p;refine getD_set_true ?_;by_cases d:j=k
 .subst d;rw [l] at b;simp only [U7] at b;subst b;exact f e i hb
 .have o:a.getD k false=true:=by
   rw [Xa,YY d] at m;rw [Xa];exact m
  exact g k ok l o e i hb
theorem Mj{Q:St->Prop}{i:Nat}{d:Oper}(J:rZ ops)(v:sR ops=true)(hi:ops[i]? =some d):∀(ko:Nat) (a:Array Bool) (s s1:St),
  (∀j o,ops[j]? =some o->j≠i->a.getD j true=false->iy ops 12 j i=false->d.apart ops o=true/\(sf P An d o=true\/tE P An ops d o=true))->rD ops a->
  i∈Region.ready .any ops a->rL ops a s->fj P An Or true nt ops d s=some s1->uG P An Or nt ops Q ko (a.setIfInBounds i true) s1->uG P An Or nt ops Q (ko+1) a s:=by
 intro ko;induction ko with
 | zero=>
  intro a s s1 _ _ g z e H;refine⟨λh=>(by rw [h] at g;cases g),λj l=> ?_⟩;by_cases b:j=i
  .subst b;exact⟨d,s1,hi,e,H⟩
  .have:=ready_mono l b;rw [H.1] at this;cases this
 | succ ko U=>
  intro a s s1 p q g z e H;refine⟨λh=>(by rw [h] at g;cases g),λj l=> ?_⟩;by_cases b:j=i
  .subst b;exact⟨d,s1,hi,e,H⟩
  .obtain⟨o,s2,f,e2,L⟩:=H.2 j (ready_mono l b);obtain⟨u,V,m,B⟩:=mem_ready.1 l;rw [f] at m;simp only [U7] at m;subst m;have C:iy ops 12 j i=false:=BB q (mem_ready.1 g).1 f B;obtain⟨E,F⟩:=p j o f b u C;obtain⟨K,D,M⟩:=TK J v hi f b g l q E F z e e2;refine⟨o,K,f,D, ?_⟩
   have r:∀k ok,ops[k]? =some ok->k≠i->(a.setIfInBounds j true).getD k true=false->
     iy ops 12 k i=false->d.apart ops ok=true/\(sf P An d ok=true\/tE P An ops d ok=true):=λk ok N G y I=>by
    refine p k ok N G ?_ I;by_cases x:j=k
    .subst x;exact u
    .rw [getD_set_ne true x] at y;exact y
   refine U (a.setIfInBounds j true) K s2 r (FW q l) (ready_mono g (Zn b)) (Iu J v f l z D) M ?_;rw [Array.setIfInBounds_comm _ _ b];exact L
theorem PT{i:Nat}{b:Oper}{a:Array Bool}(hi:ops[i]? =some b)(h:CC P An ops a i=true)(j:Nat)(d:Oper)(e:ops[j]? =some d)(f:j≠i)(k:a.getD j true=false)
  (g:iy ops 12 j i=false):sf P An b d=true\/tE P An ops b d=true:=by
 simp only [CC,hi,Vu,Xi] at h;have h1:=h j (YB.1 e).1;simp only [e,WK,beq_iff_eq,f,false_or,k,VF,g,or_false] at h1;exact h1
theorem Fb{Q:St->Prop}(v:rZ ops)(b:sR ops=true):∀(l:List Oper) (k:Nat) (a:Array Bool) (s:St),(∀j,l[j]? =ops[k+j]?)->Region.lexFrom .any ops l.length k a=true->zz P An ops l.length k a=true->rD ops a->rL ops a s->
  jv P An Or true nt ops l s=some s'->Q s'->uG P An Or nt ops Q l.length a s
 | [],k,a,s,_,f,_,_,_,h,r=>by simp only [jv,U7] at h;subst h;exact⟨by simpa [Region.lexFrom] using f,r⟩
 | o::l,k,a,s,z,f,q,g,y,h,r=>by
  simp only [jv] at h;obtain⟨s1,h1,h⟩:=U8.1 h;have e:ops[k]? =some o:=by simpa using (z 0).symm
  simp only [Vy,Region.lexFrom,Ve] at f;obtain⟨⟨D,C⟩,x⟩:=f;simp only [Vy,zz,Ve] at q;have d:k∈Region.ready .any ops a:=by simpa using D
  exact Mj v b e l.length a s s1 (λj B u i p m=>⟨Region.free_spec e C j B u i p (MK u m),PT e q.1 j B u i p m⟩) g d y h1
   (Fb v b l (k+1) _ s1 (λj=>by have:=z (j+1);simpa [XZ,Za 1 j] using this) x q.2 (FW g d) (Iu v b e d y h1) h r)
theorem Fc(u:jG P An Or){Q:Exit->Act->World->Prop}{s':St}:∀{ko:Nat} {b:Array Bool} {w:World} {s:St} {ρ:Id->Option Value} {O:Id->Option Nat} {a:Act},
  eX c nt w s ρ O a->oG ops s->uG P An Or nt ops (· =s') ko b s->(∀k w' ρ' O',Le w ρ O w' ρ' O'->eX c nt w' s' ρ' O' k->Q .normal k w')->wpAny P .any ops Q ko b a w
 | 0,b,w,s,ρ,O,a,d,j,h,f=>⟨h.1,f a w ρ O Le.refl (h.2▸d)⟩
 | ko+1,b,w,s,ρ,O,a,d,j,h,f=>by refine⟨λz=>f a w ρ O Le.refl (h.1 z▸d),λi hi=> ?_⟩;obtain⟨o,s1,v,e,H⟩:=h.2 i hi;obtain⟨l,step⟩:=JV u d j (VI v) e;unfold wpOp;rw [v];exact step _ Q λk w' ρ' O' le m=>Fc u m l H λr y p q x g=>f r y p q (le.trans x) g
theorem Sl{R:Type}{id:Nat}{f:Bool}{a:Act}{K:St->Option R}{r:R}(hm:P.follows .mixedOrders=true)(C:jG P An Or)(l:eX c nt w s ρ O a)(hb:oB s)(e:region P An Or nt f ops s K=some r):
  ∃s':St,K s'.clear=some r/\∀Q:Exit->Act->World->Prop,(∀p w' ρ' O',Le w ρ O w' ρ' O'->eX c nt w' s'.clear ρ' O' p->Q .normal p w')->(Code.region id ops f).wp P Q a w:=by
 unfold region at e;cases m:DO P An f ops with
 | false=>simp [m] at e
 | true=>
  rw [m,cond_true,DY] at e;replace e:=U8.1 e;obtain⟨s',e,F⟩:=e;refine⟨s',F,λQ D=> ?_⟩;cases f with
  | false=>exact Sk C l hb e D
  | true=>simp only [DO,Vs,WA,Ve] at m;obtain⟨⟨⟨B,G⟩,I⟩,E⟩:=m;simp only [Region.lexB,Ve] at B;have L:rZ ops:=λ{i j x y d} hi J M hy=>Gr I (by simpa using hi) (by simpa using J) M hy;have o:Le w ρ O w.drew ρ O:=⟨rfl,rfl,rfl,Vq _,λ_ _ h=>h,λ_ _ _=>rfl,λi b h=> .inl ⟨i,h⟩⟩;have z:eX c nt w.drew s ρ O a:=⟨l.hs.world o λ_ _ _=>rfl,SS.mono (λb hb=>o.A b hb) o.eU l.ss,l.nt,l.defers⟩;refine wp_region_any hm ?_;have:=Fb (P:=P) (An:=An) (Or:=Or) (nt:=nt) (Q:=(· =s')) L E ops.toList 0 (Array.replicate ops.size false) s (by simp) (by simpa using B.2) (by simpa using G) (λk ok F q=>by simp [Xa,Array.getElem?_replicate] at q;split at q <;> simp at q) (λk g v h=>(hb k g v h).elim) e rfl;simp only [VH] at this;exact Fc C z (hb.IE ops) this λp w' ρ' O' le u=>D p w' ρ' O' (o.trans le) u.clear
end
open Go
section
variable {P:Program} {An:cM} {Or:au} {w w':World} {A A':Nat->Prop} {c:Ctx} {ρ:Id->Option Value} {O:Id->Option Nat} {s s':St} {h:Id->Option ab}
def Ends(P:Program)(f:FuncId)(fn:Func)(todo:List Item)(a:Act)(w:World)(R:Value->World->Prop):Prop:=
 ∀(b:Frame),b.fn=f->b.kind= .normal->∀cs,∃d w' v todo',Steps P (lone (b.at a todo) cs w) (lone {b.at d todo' with mode:= .returning} cs w')/\
  d.defers= []/\(results fn d.tmps).run P w'= .ok v w'/\R v w'
theorem Ends.mono{f:FuncId}{fn:Func}{todo:List Item}{a:Act}{R d:Value->World->Prop}(h:Ends P f fn todo a w R)(l:∀v w',R v w'->d v w'):Ends P f fn todo a w d:=
 λb hb k cs=>let⟨e,w',v,t,h1,g,i,j⟩:=h b hb k cs;⟨e,w',v,t,h1,g,i,l _ _ j⟩
theorem Ends.step{f:FuncId}{fn:Func}{todo todo':List Item}{a:Act}{R:Value->World->Prop}(d:∀(b:Frame) cs,step P (lone (b.at a todo) cs w)= .next (lone (b.at a todo') cs w))(h:Ends P f fn todo' a w R):Ends P f fn todo a w R:=
 λb hb i cs=>let⟨e,w',v,t,h1,g⟩:=h b hb i cs;⟨e,w',v,t, .head (d b cs) h1,g⟩
theorem Ends.region{f:FuncId}{fn:Func}{id:Nat}{ops:Array Oper}{d:Bool}{k:List Item}{a:Act}{R:Value->World->Prop}
  (h:(Code.region id ops d).wp P (λe g w'=>e= .normal/\Ends P f fn k g w' R) a w):Ends P f fn (.code (.region id ops d)::k) a w R:=by
 intro b hb m cs;obtain⟨e,j,p,⟨rfl,o⟩,i⟩:=h b k cs;obtain⟨g,w',v,t,h1,l⟩:=o b hb m cs;exact⟨g,w',v,t,Steps.trans i h1,l⟩
theorem MY{f:FuncId}{fn:Func}{a:Code}{args:Array Value}{R:Value->World->Prop}(g:P.funcs[f]? =some fn)(hb:fn.body=some a)
  (h:Ends P f fn [.code a] {tmps:=args++Array.replicate (fn.ntmps - args.size) undef,defers:= []} w R):Calls P f args w λe w'=>∃v,e= .returned v/\R v w':=by
 intro cs;let b:Frame:={(default:Frame) with fn:=f,kind:= .normal};have d:Frame.enter P f args .normal=b.at {tmps:=args++Array.replicate (fn.ntmps - args.size) undef,defers:= []} [.code a]:=by simp [Frame.enter,Frame.at,g,hb,b]
 obtain⟨l,w',v,todo',hs,j,k,i⟩:=h b rfl rfl cs;rw [<-d] at hs;exact⟨.returned v,w',_,⟨v,rfl,i⟩,hs,rfl,rfl,j,rfl,fn,g,k⟩
structure Fin (P:Program) (c:Ctx) (B:Nat->Option Value) (sh:List bX) (outs:List jV) (xs:List T) (Own:Nat->Prop) (w:World) (v:Value) (w':World):Prop where
 os:w'.os=w.os
 output:w'.output=w.output
 tape:w'.tape=w.tape
 size:w.heap.size<=w'.heap.size
 ah:∀b,b < w.heap.size->¬Own b->w'.heap[b]? =w.heap[b]?
 res:∃rs x1 x2 o1 o2,v=pD rs/\xs=x1++x2/\(o1++o2).Nodup/\(∀b∈o1++o2,c.MO b/\b < w'.heap.size)/\dP B w' (λb=>(c.A0 b\/c.MO b)/\b < w'.heap.size/\b∉o1++o2) sh x1 rs o1/\
  oM B w' (λb=>(c.A0 b\/c.MO b)/\b < w'.heap.size/\b∉o1++o2) 0 outs x2 o2
theorem Fin.le{B:Nat->Option Value}{sh:List bX}{os:List jV}{xs:List T}{v:Value}{w'':World}{ρ':Id->Option Value}{O':Id->Option Nat}(le:Le w ρ O w' ρ' O')(h:Fin P c B sh os xs (fW O') w' v w''):Fin P c B sh os xs (fW O) w v w'' where
 os:=h.os.trans le.os
 output:=h.output.trans le.output
 tape:=h.tape.trans le.tape
 size:=VO le.size h.size
 ah b hb hn:=by
  rw [h.ah b (W0 hb le.size) (λ⟨i,hi⟩=> ?_),le.ah b hb (λi hi=>hn ⟨i,hi⟩)];rcases le.own i b hi with⟨j,hj⟩ | hj
  .exact hn ⟨j,hj⟩
  .omega
 res:=h.res
theorem Fin.own{B:Nat->Option Value}{d:List bX}{os:List jV}{xs:List T}{v:Value}{a:World}{O':Id->Option Nat}(e:∀b,fW O' b->fW O b)(h:Fin P c B d os xs (fW O') w v a):Fin P c B d os xs (fW O) w v a:=
 {h with ah:=λb hb f=>h.ah b hb λg=>f (e b g)}
theorem I3:∀{l:List Id},zK l=true->l.Nodup
 | [],_=>YM
 | i::r,h=>by
  simp only [zK,Ve,WM] at h;refine WC.2 ⟨λhm=> ?_,I3 h.2⟩;have:r.contains i=true:=by simpa using hm
  rw [this] at h;cases h.1
def lV(O:Id->Option Nat)(l:List Id):List Nat:=l.filterMap O
theorem Fx(hs:HS c w h ρ O):∀{l:List Id},l.Nodup->(lV O l).Nodup
 | [],_=>YM
 | i::l,g=>by
  obtain⟨h1,d⟩:=WC.1 g;have a:=Fx hs d;unfold lV at *
  cases hi:O i with
  | none=>rw [List.filterMap_cons_none hi];exact a
  | some b=>rw [List.filterMap_cons_some hi];refine WC.2 ⟨λhm=> ?_,a⟩;obtain⟨j,f,e⟩:=YJ.1 hm;have:=hs.inj i j b hi e;exact h1 (this▸f)
theorem MJ(a b:List Id):lV O (a++b)=lV O a++lV O b:=by simp [lV]
def fU(O:Id->Option Nat)(l:List Id)(own:List Nat):Prop:=(∀i∈l,i.real=true)/\∃ids,own=lV O ids/\(l.Nodup->ids.Nodup)/\∀x∈ids,Of l x
theorem fU.nil:fU O [] []:=⟨by simp,[],rfl,λh=>h,by simp⟩
theorem fU.one{i:Id}(a:i.real=true):fU O [i] (O i).toList:=by refine⟨by simpa using a,[i], ?_,λh=>h,λx b=> .inl b⟩;cases h:O i <;> simp [lV,h]
theorem fU.append{a b:List Id}{o1 q:List Nat}(h1:fU O a o1)(u:fU O b q):fU O (a++b) (o1++q):=by
 obtain⟨r1,C,rfl,E,o⟩:=h1;obtain⟨r,D,rfl,F,p⟩:=u;refine⟨λi hi=> ?_,C++D,(MJ _ _).symm,λv=> ?_,λx d=> ?_⟩
 .rcases Vr.1 hi with hi | hi
  .exact r1 i hi
  .exact r i hi
 .obtain⟨B,k2,m⟩:=W6.1 v;refine W6.2 ⟨E B,F k2,λx d y hy e=> ?_⟩;subst e;rcases o x d with f | ⟨j,n,f,l⟩ <;> rcases p x hy with k | ⟨z,G,k,e2⟩
  .exact m x f x k rfl
  .have:=r1 x f;rw [e2] at this;cases this
  .have:=r x k;rw [l] at this;cases this
  .rw [l] at e2;simp only [Id.g.injEq] at e2;exact m j f z k e2.1
 .rcases Vr.1 d with d | d
  .rcases o x d with g | ⟨j,n,g,e⟩
   .exact .inl (Vn _ g)
   .exact .inr ⟨j,n,Vn _ g,e⟩
  .rcases p x d with g | ⟨j,n,g,e⟩
   .exact .inl (Vp _ g)
   .exact .inr ⟨j,n,Vp _ g,e⟩
theorem fU.mem{l:List Id}{own:List Nat}(h:fU O l own){b:Nat}(hb:b∈own):∃i,Of l i/\O i=some b:=by obtain⟨_,ids,rfl,_,m⟩:=h;obtain⟨i,hi,e⟩:=YJ.1 hb;exact⟨i,m i hi,e⟩
def mZ:Nat->List Row->List Row
 | _,[]=> []
 | n,e::r=>{e with n:=n}::mZ (n+1) r
theorem vY:∀(es:List Row) (n:Nat),(mZ n es).length=es.length
 | [],_=>rfl
 | e::r,n=>by simp [mZ,vY r]
theorem zV:∀(es:List Row) (n:Nat),(mZ n es).map (·.n)=List.range' n es.length
 | [],_=>rfl
 | e::r,n=>by simp [mZ,zV r,X6]
theorem F5:∀{es:List Row} {n:Nat},bP es=true->sw n (es.map λe=> [.ptr e.cs,pG e])=some (mZ n es)
 | [],_,_=>rfl
 | e::r,n,h=>by
  simp only [bP,WV,Ve] at h;have d:=F5 (es:=r) (n:=n+1) h.2;obtain⟨f,a,b⟩:=e;cases b with
  | none=>simp at h
  | some p=>show((sw (n+1) (r.map λe=> [.ptr e.cs,pG e])).bind λl=>some (⟨n,a,some (p.1,p.2)⟩::l))=_;rw [d];rfl
theorem Kp{A A':Nat->Prop}{d:Id->Option Value}{a:Id->Option Nat}{i:Id}{ah sz aD rsz:Nat}(m:∀b,A b->A' b):∀{es:List Row} {k base:Nat},(∀j e,es[j]? =some e->d (.g i (k+j))=ρ (.g i e.n)/\a (.g i (k+j))=O (.g i e.n))->
  cr w A ρ O i ah sz aD rsz base es->cr w A' d a i ah sz aD rsz base (mZ k es)
 | [],_,_,_,_=>trivial
 | e::r,k,base,o,h=>by
  obtain⟨l,h1⟩:=h;obtain⟨C,D⟩:=o 0 e rfl;refine⟨?_,Kp m (k:=k+1) (λj f E=>by
   have:=o (j+1) f (by simpa using E);rw [show k+1+j=k+ (j+1) by omega];exact this) h1⟩
  have l:=l.move (A':=A') (w':=w) (ρ':=ρ) (O':=O) (λ_ _=>rfl) (λb hb=>⟨m b hb,rfl⟩) rfl rfl (λ_ _=>rfl);obtain⟨q,v,x,u,y,z,B⟩:=l;refine⟨q,v,x,u,y,by rw [<-z];exact C, ?_⟩;revert B;show(match e.own with | some p=>cT w A' rsz p.1 p.2 u (λb=>O (.g i e.n)=some b) | none=>O (.g i e.n)=none)->(match e.own with | some p=>cT w A' rsz p.1 p.2 u (λb=>a (.g i k)=some b) | none=>a (.g i k)=none);rw [show a (.g i k)=O (.g i e.n) from D];exact id
def rN(w:World)(c:Ctx)(O:Id->Option Nat)(b:List Id)(Q:(Nat->Prop)->Prop):Prop:=
 ∀A:Nat->Prop,(∀k,AA c w O k->A k)->(∀i ah,i∈b->i.real=true->O i=some ah->A ah)->Q A
def jc(m:Nat)(B:Nat->Option Value)(ρ:Id->Option Value):Prop:= ∀j,j < m->∃v,B j=some v/\ρ (.c j)=some v
theorem Hr{B:Nat->Option Value}{i:Id}{b:Bool}{sz aD rsz nx:Nat}{es:List Row}{u:Value}{l:List Id}(hs:HS c w h ρ O)(hi:h i=some (.rows b sz aD rsz nx es))(hv:ρ i=some u)(M:bP es=true):
  fU O [i] (lV O (i::es.map λe=> .g i e.n))/\rN w c O l λA=>jX B w A (.rows sz aD rsz) (bO b es) u (lV O (i::es.map λe=> .g i e.n)):=by
 have o:=hs.real (i:=i) (by rw [hi];simp);obtain⟨a,cap,r1,r2,r3,⟨U,n2,n3,n4⟩,J⟩:=hs.ah i _ hi;have N:(i::es.map λe=>Id.g i e.n).Nodup:=by
  refine WC.2 ⟨λhm=> ?_, ?_⟩
  .obtain⟨e,_,F⟩:=VK.1 hm;rw [<-F] at o;cases o
  .have:(es.map λe=>Id.g i e.n)= (es.map (·.n)).map (Id.g i):=by rw [XV];rfl
   rw [this];exact List.pairwise_map.2 (U.imp λh e=>h (by simpa using e))
 refine⟨⟨by simpa using o,_,rfl,λ_=>N,λx m=> ?_⟩,λA X _=> ?_⟩
 .rcases Vo.1 m with rfl | m
  .exact .inl Vb
  .obtain⟨e,_,rfl⟩:=VK.1 m;exact .inr ⟨i,e.n,Vb,rfl⟩
 .let V:Id->Option Value:=λx=>match x with
   | .g y k=>if y=i then(es[k]?).bind λe=>ρ (.g i e.n) else none
   | x=>if x=i then ρ i else none
  let Q:Id->Option Nat:=λx=>match x with
   | .g y k=>if y=i then(es[k]?).bind λe=>O (.g i e.n) else none
   | x=>if x=i then O i else none
  have L:V i=ρ i:=by
   cases i with
   | g y n=>cases o
   | _=>simp only [V,if_true]
  have K:Q i=O i:=by
   cases i with
   | g y n=>cases o
   | _=>simp only [Q,if_true]
  have D:∀k,V (.g i k)= (es[k]?).bind λe=>ρ (.g i e.n):=λk=>by simp only [V,if_true]
  have C:∀k,Q (.g i k)= (es[k]?).bind λe=>O (.g i e.n):=λk=>by simp only [Q,if_true]
  have r:∀x d,Q x=some d->(x=i/\O i=some d)\/∃k e,x= .g i k/\es[k]? =some e/\O (.g i e.n)=some d:=by
   intro x d m;cases x with
   | g y k=>
    simp only [Q] at m;split at m
    .rename_i e;subst e;obtain⟨e,h1,E⟩:=U8.1 m;exact .inr ⟨k,e,rfl,h1,E⟩
    .cases m
   | s y k=>
    simp only [Q] at m;split at m
    .rename_i e;exact .inl ⟨e,m⟩
    .cases m
   | c k=>
    simp only [Q] at m;split at m
    .rename_i e;exact .inl ⟨e,m⟩
    .cases m
  refine⟨b,mZ 0 es,i,V,Q, ?_,⟨a,cap,by rw [L,vY];exact r1,by rw [vY];exact r2,r3,⟨?_,λf G=> ?_,λk p=> ?_,λk d p=> ?_⟩, ?_⟩,by rw [L];exact hv,o,λx y d m hy=> ?_,λk v p=> ?_,λx d m=> ?_,λd=> ?_⟩
  .simp only [bO,kV,F5 M,Vj]
  .rw [zV];exact List.nodup_range'
  .have:f.n∈(mZ 0 es).map (·.n):=VK.2 ⟨f,G,rfl⟩;rw [zV,List.mem_range'_1] at this;rw [vY];omega
  .rw [vY] at p;rw [D,Wc p];rfl
  .rw [C] at p;obtain⟨e,h1,_⟩:=U8.1 p;have hlt:=(Vi.1 h1).1;have:k∈(mZ 0 es).map (·.n):=by rw [zV,List.mem_range'_1];omega
   obtain⟨f,G,e2⟩:=VK.1 this;exact⟨f,G,e2⟩
  .rcases J with J | ⟨ah,off,arr,t,q1,Z,q3,q4,q5⟩
   .exact .inl J
   .refine .inr ⟨ah,off,arr,t,q1,by rw [K];exact Z,q3,q4,Kp X (λj e Y=> ?_) q5⟩;rw [VP,D,C,Y];exact⟨rfl,rfl⟩
  .rcases r x d m with⟨rfl,q⟩ | ⟨k,e,rfl,q,z⟩ <;> rcases r y d hy with⟨rfl,I⟩ | ⟨k',e',rfl,I,k2⟩
   .rfl
   .have:=hs.inj _ _ d q k2;rw [this] at o;cases o
   .have:=hs.inj _ _ d I z;rw [this] at o;cases o
   .have:=hs.inj _ _ d z k2;simp only [Id.g.injEq,true_and] at this;rw [vL U q I this]
  .rw [D] at p;obtain⟨e,_,E⟩:=U8.1 p;exact hs.gone i e.n v E
  .rcases r x d m with⟨rfl,_⟩ | ⟨k,_,rfl,_⟩
   .exact .inl rfl
   .exact .inr ⟨k,rfl⟩
  .simp only [lV,YJ,Vo,VK];constructor
   .rintro⟨x,rfl | ⟨e,F,rfl⟩,m⟩
    .exact⟨x,by rw [K];exact m⟩
    .obtain⟨k,p⟩:=List.getElem?_of_mem F;exact⟨.g i k,by rw [C,p];exact m⟩
   .rintro⟨x,m⟩;rcases r x d m with⟨rfl,q⟩ | ⟨k,e,rfl,q,z⟩
    .exact⟨x, .inl rfl,q⟩
    .exact⟨.g i e.n, .inr ⟨e,Va q,rfl⟩,z⟩
theorem Hq{R:Type}{m:Nat}{B:Nat->Option Value}{r:bX}{v:AV}{u:Value}{K:T->List Id->List Id->Option R}{res:R}(hB:jc m B ρ)(hs:HS c w h ρ O)(hv:an w (AA c w O) ρ v u)(d:jM m h r v K=some res):
  ∃x a b ob,K x a b=some res/\fU O a ob/\rN w c O b λA=>jX B w A r x u ob:=by
 cases r with
 | f k=>simp only [jM] at d;replace d:=U8.1 d;obtain⟨x,M,d⟩:=d;replace d:=aO d (.inl rfl);obtain⟨y,hy,d⟩:=d;rw [AV.mB M] at hv;simp only [an] at hv;exact⟨_,_,_,[],d, .nil,λA j q=>⟨hy,hv.flat hy,rfl⟩⟩
 | t k=>simp only [jM] at d;replace d:=U8.1 d;obtain⟨x,M,d⟩:=d;refine⟨_,_,_,[],d, .nil,λA j q=>⟨m8 hs hv M j (λi ah hi ho=> ?_),rfl⟩⟩;obtain⟨p,z,e⟩:=zh hs M hi ho;refine q i ah (VK.2 ⟨p,z,e⟩) ?_ ho;rw [<-e];refine hs.real λe0=> ?_;have F:=vf (h:=h) v p z;rw [e0] at F;rcases F with⟨sz,b,l,_,F⟩ | ⟨l,_,F⟩ <;> simp at F
 | own sz=>
  simp only [jM] at d;split at d
  .rename_i i;replace d:=U8.1 d;obtain⟨p,z,d⟩:=d;simp only [J2] at z;split at z
   .rename_i sz' b xs hi;split at z
    .rename_i hsz;subst hsz;simp only [U7] at z;subst z;refine⟨_,_,_,(O i).toList,d, .one (hs.real (by rw [hi];simp)),λA j q=> ?_⟩;obtain⟨v',E,Y,_⟩:=hs.ah i _ hi;simp only [an] at hv;rw [E] at hv;simp only [U7] at hv;subst hv;exact⟨O i,(b,xs),rfl,by simp [T.aQ],Y.mono (λb hb=>⟨j b hb,rfl⟩) (λb hb=>⟨by simpa using hb,rfl⟩)⟩
    .simp at z
   .simp at z
  .rename_i i sz1 n;split at d
   .rename_i sz2 b xs hi;split at d
    .rename_i g;obtain⟨rfl,rfl⟩:=g;refine⟨_,_,_,(O i).toList,d, .one (hs.real (by rw [hi];simp)),λA j q=> ?_⟩;obtain⟨v',E,⟨a,cap,rfl,f2,f3,_,X⟩,_⟩:=hs.ah i _ hi;simp only [an] at hv;obtain⟨a1,L,cap1,Q,D,e2,e3,rfl,Z⟩:=hv;rw [E] at D;simp only [U7,WG] at D;obtain⟨rfl,rfl,rfl⟩:=D;have G:(xs.take n).length=n:=by rw [Wb];omega
     have ha:Q=none↔a=none:=by
      rcases Z with⟨_,rfl⟩ | ⟨_,h,_⟩ | ⟨_,_,rfl,rfl⟩
      .exact Zm
      .exact h
      .simp
     refine⟨O i,(b,xs.take n),rfl,by simp [T.aQ],Q,cap,by rw [G];rfl,by rw [G];omega,by rw [ha];exact f3,trivial, ?_⟩
     .rcases X with X | ⟨ah,off,U,t',q1,q2,q3,q4,q5⟩
      .exact .inl X
      .by_cases N:cap=0
       .exact .inl N
       .right;subst q1;have:Q=some ⟨ah,off,none⟩:=by
         rcases Z with⟨_,rfl⟩ | ⟨h,_⟩ | ⟨b',o,e5,rfl⟩
         .rfl
         .exact absurd h.symm N
         .simp only [U7,Wr] at e5;obtain⟨rfl,rfl,_⟩:=e5;simp
        exact⟨ah,off,U,t',this,by simpa using q2,q3,q4,(aZ.nO (λb hb=>⟨j b hb,rfl⟩) ah _ rfl off xs q5).take n⟩
    .simp at d
   .simp at d
  .rename_i b;simp only [an,aB] at hv;refine⟨_,_,_,[],d, .nil,λA j q=>⟨none,(b,[]),rfl,by simp [T.aQ], ?_⟩⟩;rcases hv with⟨rfl,rfl⟩ | ⟨rfl,ah,off,sp,rfl⟩
   .exact⟨none,0,rfl,by simp,by simp,trivial, .inl rfl⟩
   .exact⟨some ⟨ah,off,sp⟩,0,rfl,by simp,by simp,trivial, .inl rfl⟩
  .simp only [an,aB] at hv;refine⟨_,_,_,[],d, .nil,λA j q=>⟨none,(true,[]),rfl,by simp [T.aQ], ?_⟩⟩;rcases hv with⟨_,_,rfl⟩ | ⟨h,_⟩
   .exact⟨none,0,rfl,by simp,by simp,trivial, .inl rfl⟩
   .cases h
  .simp at d
 | ref k off=>
  simp only [jM] at d;split at d
  .rename_i k' off';split at d
   .rename_i g;obtain⟨rfl,rfl,I⟩:=g;refine⟨_,_,_,[],d, .nil,λA j q=>⟨?_,rfl⟩⟩;simp only [an] at hv;obtain⟨b,D,rfl⟩:=hv;obtain⟨v,e2,e3⟩:=hB _ I;rw [D] at e3;simp only [U7] at e3;subst e3;exact⟨b,e2,rfl⟩
   .simp at d
  .simp at d
 | same k=>
  simp only [jM] at d;split at d
  .rename_i k';split at d
   .rename_i g;obtain⟨rfl,I⟩:=g;refine⟨_,_,_,[],d, .nil,λA j q=>⟨?_,rfl⟩⟩;simp only [an] at hv;obtain⟨v,e2,e3⟩:=hB _ I;rw [hv] at e3;simp only [U7] at e3;subst e3;exact⟨e2,kF hs hv⟩
   .simp at d
  .simp at d
 | no=>
  simp only [jM] at d;split at d
  .refine⟨_,_,_,[],d, .nil,λA j q=>⟨?_,rfl⟩⟩;simp only [an] at hv;obtain⟨b,_,rfl⟩:=hv;exact⟨rfl,rfl⟩
  .simp at d
 | rows sz aD rsz=>
  simp only [jM] at d;split at d
  .rename_i i;split at d
   .rename_i b sz' col' rsz' nx es hi;split at d
    .rename_i g;obtain⟨rfl,rfl,rfl⟩:=g;replace d:=aO d (.inl rfl);obtain⟨_,C,d⟩:=d;have C:bP es=true:=by
      split at C
      .assumption
      .cases C
     simp only [an] at hv;exact⟨_,_,_,_,d,(Hr (B:=B) (l:= []) hs hi hv C).1,(Hr hs hi hv C).2⟩
    .simp at d
   .simp at d
  .simp at d
 | mp ag ks vk=>
  simp only [jM] at d;split at d
  .rename_i i;split at d
   .rename_i ag' ks' vk' es hi;split at d
    .rename_i g;obtain⟨rfl,rfl,rfl⟩:=g;obtain⟨b,V,J,E,Y,g3,g4,g5⟩:=hs.ah i _ hi;simp only [an] at hv;rw [E] at hv;simp only [U7] at hv;subst hv;refine⟨_,_,_,[b],d, ?_,λA j q=>⟨es,b,V,J,rfl,rfl,rfl,g3,g4,g5⟩⟩;have:=fU.one (O:=O) (hs.real (i:=i) (by rw [hi];simp));rw [Y] at this;exact this
    .simp at d
   .simp at d
  .simp at d
 | agg l=>simp [jM] at d
 | new l=>simp [jM] at d
theorem yW{R:Type}{m:Nat}{B:Nat->Option Value}(k:jc m B ρ)(hs:HS c w h ρ O):∀{e:List bX} {vs:List AV} {us:List Value} {K:List T->List Id->List Id->Option R} {res:R},aC w (AA c w O) ρ vs us->nE m h e vs K=some res->
  ∃xs a b own,K xs a b=some res/\fU O a own/\rN w c O b λA=>fH B w A e xs us own
 | [],[],us,K,res,hv,d=>by simp only [aC] at hv;subst hv;simp only [nE] at d;exact⟨_,_,_,[],d, .nil,λA _ _=>⟨rfl,rfl,rfl⟩⟩
 | [],v::vs,us,K,res,hv,d=>by simp [nE] at d
 | r::e,[],us,K,res,hv,d=>by simp [nE] at d
 | r::e,v::vs,us,K,res,hv,d=>by simp only [aC] at hv;obtain⟨u,o,rfl,h1,C⟩:=hv;simp only [nE] at d;obtain⟨x,a,b,ob,d,p,y⟩:=Hq k hs h1 d;obtain⟨xs,E,F,own,d,q,z⟩:=yW k hs C d;refine⟨_,_,_,_,d,p.append q,λA j l=> ?_⟩;have D:=y A j (λi ah hi g f=>l i ah (Vn _ hi) g f);exact⟨x,xs,u,o,ob,own,rfl,rfl,rfl,D,z A j (λi ah hi g f=>l i ah (Vp _ hi) g f)⟩
theorem yX{R:Type}{m:Nat}{B:Nat->Option Value}(C:jc m B ρ)(hs:HS c w h ρ O):∀{z:List bX} {vs:List AV} {us:List Value} {K:List T->List Id->List Id->Option R} {res:R},aC w (AA c w O) ρ vs us->bZ m h z vs K=some res->
  ∃xs a b own,K xs a b=some res/\fU O a own/\rN w c O b λA=>dP B w A z xs us own
 | [],[],us,K,res,hv,d=>by simp only [aC] at hv;subst hv;simp only [bZ] at d;exact⟨_,_,_,[],d, .nil,λA _ _=>⟨rfl,rfl,rfl⟩⟩
 | [],v::vs,us,K,res,hv,d=>by simp [bZ] at d
 | r::z,[],us,K,res,hv,d=>by cases r <;> simp [bZ] at d
 | r::z,v::vs,us,K,res,hv,d=>by
  simp only [aC] at hv;obtain⟨u,q,rfl,h1,U⟩:=hv
  have e:(jM m h r v λx a b=>bZ m h z vs λxs J L=>K (x::xs) (a++J) (b++L))=some res->(∀l,r≠ .agg l)->(∀l,r≠ .new l)->
    ∃xs a b own,K xs a b=some res/\fU O a own/\rN w c O b λA=>dP B w A (r::z) xs (u::q) own:=by
   intro d g Y;obtain⟨x,a,b,ob,d,D,F⟩:=Hq C hs h1 d;obtain⟨xs,J,L,own,d,E,G⟩:=yX C hs U d;refine⟨_,_,_,_,d,D.append E,λA o p=> ?_⟩;have y:=F A o (λi ah hi g j=>p i ah (Vn _ hi) g j);have:∃Z Q v N M I,x::xs=Z::Q/\u::q=v::N/\ob++own=M++I/\jX B w A r Z v M/\dP B w A z Q N I:=
    ⟨x,xs,u,q,ob,own,rfl,rfl,rfl,y,G A o (λi ah hi g j=>p i ah (Vp _ hi) g j)⟩
   cases r with
   | agg l=>exact(g l rfl).elim
   | new l=>exact(Y l rfl).elim
   | _=>exact this
  cases r with
  | f k=>exact e (by simpa [bZ] using d) (by simp) (by simp)
  | t k=>exact e (by simpa [bZ] using d) (by simp) (by simp)
  | own sz=>exact e (by simpa [bZ] using d) (by simp) (by simp)
  | rows sz aD rsz=>exact e (by simpa [bZ] using d) (by simp) (by simp)
  | mp ag ks vk=>exact e (by simpa [bZ] using d) (by simp) (by simp)
  | new l=>
   simp only [bZ] at d;split at d
   .rename_i i;split at d
    .rename_i cs hi;obtain⟨b0,arr,ty,e1,e2,e3,e4,e5⟩:=hs.ah i _ hi;simp only [an] at h1;obtain⟨b,y,rfl⟩:=h1;rw [e1] at y;simp only [U7,Xk,Wr] at y;obtain⟨rfl,_⟩:=y;obtain⟨xs,a,b,o1,d,D,F⟩:=yW C hs e4 d;obtain⟨X,J,L,V,d,E,G⟩:=yX C hs U d;refine⟨_,_,_,_,d,(fU.one (hs.real (i:=i) (by rw [hi];simp))).append (D.append E),λA o p=> ?_⟩;exact⟨xs,X,b0,arr,ty,q,o1,V,rfl,by simp,by simp [e2],e3,F A o (λi ah hi g j=>p i ah (Vn _ hi) g j),G A o (λi ah hi g j=>p i ah (Vp _ hi) g j)⟩
    .simp at d
   .simp at d
  | ref k off=>exact e (by simpa [bZ] using d) (by simp) (by simp)
  | same k=>exact e (by simpa [bZ] using d) (by simp) (by simp)
  | no=>exact e (by simpa [bZ] using d) (by simp) (by simp)
  | agg l=>
   cases v with
   | agg cs=>simp only [bZ] at d;simp only [an] at h1;obtain⟨ws,rfl,y,k2⟩:=h1;obtain⟨xs,a,b,o1,d,D,F⟩:=yW C hs y d;obtain⟨X,J,L,V,d,E,G⟩:=yX C hs U d;refine⟨_,_,_,_,d,D.append E,λA o p=> ?_⟩;exact⟨xs,X,ws,q,o1,V,rfl,rfl,rfl,F A o (λi ah hi g j=>p i ah (Vn _ hi) g j),G A o (λi ah hi g j=>p i ah (Vp _ hi) g j)⟩
   | _=>simp [bZ] at d
def zY(tmps:Array Value):ResultVar->Sem Value
 | .tmp t=>pure (tmps.getD t undef)
 | .cell b t=>do loadVar t (<-asAddr (tmps.getD b undef))
theorem Sp(fn:Func)(tmps:Array Value):results fn tmps= (do
  let vs <-fn.results.mapM (zY tmps)
  pure (if h:vs.size=1 then vs[0] else .tuple vs)):=rfl
theorem DT{R:Type}{a:Act}(hs:HS c w s.h ρ O)(g:SS w (AA c w O) ρ s.t a.tmps):∀{l:List ResultVar} {K:List AV->Option R} {r:R},tq P s l K=some r->
  ∃vs us,K vs=some r/\aC w (AA c w O) ρ vs us/\(l.mapM (zY a.tmps)).run P w= .ok us w
 | [],K,r,h=>⟨[],[],h,by simp [aC],by simp⟩
 | .tmp k::l,K,r,h=>by
  simp only [tq] at h;have d:=g k;split at h
  .rename_i v e;rw [e] at d;obtain⟨vs,us,h1,i,j⟩:=DT hs g h;refine⟨v::vs,_::us,h1,by simp only [aC];exact⟨_,us,rfl,d,i⟩, ?_⟩;rw [ZT];simp only [zY,Vz,VQ,Vm,j]
  .simp at h
 | .cell k t::l,K,r,h=>by
  simp only [tq] at h;have d:=g k;split at h
  .rename_i v e;rw [e] at d;obtain⟨av,y,m,f,hv⟩:=IZ hs d (.inl rfl) h;obtain⟨vs,us,h1,i,j⟩:=DT hs g m;refine⟨av::vs,y::us,h1,by simp only [aC];exact⟨y,us,rfl,hv,i⟩, ?_⟩;rw [ZT];have:(do loadVar t (<-asAddr (a.tmps.getD k undef)):Sem Value).run P w= .ok y w:=by
    rw [<-f];generalize a.tmps.getD k undef=o at *
    unfold Instr.loadAt at *
    cases o with
    | pointer p=>
     cases p with
     | none=>simp [Instr.sureAddr,runtimePanic] at f
     | some b=>simp [Instr.sureAddr,asAddr]
    | _=>simp [Instr.sureAddr,runtimePanic] at f
   simp only [zY,Vz,VQ,Vm] at this⊢;rw [this];simp only [Vm,j]
  .simp at h
theorem uV{R:Type}{m:Nat}{B:Nat->Option Value}(f:jc m B ρ)(hs:HS c w h ρ O):∀{os:List jV} {j:Nat} {K:List T->List Id->List Id->Option R} {res:R},j+os.length<=m->lY m h j os K=some res->
  ∃xs a b own,K xs a b=some res/\fU O a own/\rN w c O b λA=>oM B w A j os xs own
 | [],j,K,res,_,d=>by simp only [lY] at d;exact⟨_,_,_,[],d, .nil,λA _ _=>⟨rfl,rfl⟩⟩
 | .box l::os,j,K,res,hm,d=>by
  simp only [Vy] at hm;simp only [lY] at d;split at d
  .rename_i cs hi;obtain⟨D,arr,t,h1,u,F,G,L⟩:=hs.ah _ _ hi;obtain⟨xs,a,b,o1,d,N,Q⟩:=yW f hs G d;obtain⟨q,z,C,p,d,k,o⟩:=uV f hs (by omega) d;refine⟨_,_,_,_,d,(fU.one (i:= .c j) rfl).append (N.append k),λA e g=> ?_⟩;obtain⟨v,r,e2⟩:=f j (by omega);rw [h1] at e2;simp only [U7] at e2;subst e2;exact⟨xs,q,D,arr,t,o1,p,rfl,by simp [u],r,F,Q A e (λi ah hi J I=>g i ah (Vn _ hi) J I),o A e (λi ah hi J I=>g i ah (Vp _ hi) J I)⟩
  .simp at d
 | .sl sz::os,j,K,res,hm,d=>by
  simp only [Vy] at hm;simp only [lY] at d;split at d
  .rename_i Y bb l hi;split at d
   .rename_i M;subst M;obtain⟨v,h1,u,_⟩:=hs.ah _ _ hi;obtain⟨q,z,C,p,d,k,o⟩:=uV f hs (by omega) d;refine⟨_,_,_,_,d,(fU.one (i:= .c j) rfl).append k,λA e g=> ?_⟩;obtain⟨U,r,e2⟩:=f j (by omega);rw [h1] at e2;simp only [U7] at e2;subst e2;exact⟨bb,l,q,O (.c j),_,p,rfl,rfl,r,u.mono (λb hb=>⟨e b hb,rfl⟩) (λb hb=>⟨by simpa using hb,rfl⟩),o A e g⟩
   .simp at d
  .simp at d
 | .mp ag ks vk::os,j,K,res,hm,d=>by
  simp only [Vy] at hm;simp only [lY] at d;split at d
  .rename_i V X Z es hi;split at d
   .rename_i y;obtain⟨rfl,rfl,rfl⟩:=y;obtain⟨D,E,x,h1,u,F,G,L⟩:=hs.ah _ _ hi;obtain⟨q,z,C,p,d,k,o⟩:=uV f hs (by omega) d;refine⟨_,_,_,_,d,(fU.one (i:= .c j) rfl).append k,λA e g=> ?_⟩;obtain⟨U,r,e2⟩:=f j (by omega);rw [h1] at e2;simp only [U7] at e2;subst e2;exact⟨es,D,E,x,q,p,rfl,by simp [u],r,F,G,L,o A e g⟩
   .simp at d
  .simp at d
 | .dead::os,j,K,res,hm,d=>by simp only [Vy] at hm;simp only [lY] at d;obtain⟨q,z,C,p,d,k,o⟩:=uV f hs (by omega) d;exact⟨_,_,_,p,d,k,λA e g=>o A e g⟩
theorem H7{f:FuncId}{fn:Func}{nt:Nat}{m:Nat×Nat}{B:Nat->Option Value}{xs:List T}{a:Act}(J:jc m.1 B ρ)(d:eX c nt w s ρ O a)(h:za P An f fn m s=some xs):
  ∃v,(results fn a.tmps).run P w= .ok v w/\Fin P c B (dC P An f m.2 fn) (iq An f m.2) xs (fW O) w v w:=by
 unfold za at h;obtain⟨vs,us,h,h1,E⟩:=DT d.hs d.ss h;split at h
 .rename_i hm;obtain⟨Y,M,X,o1,h,Q,F⟩:=yX J d.hs h1 h;obtain⟨Z,D,N,x,h,U,z⟩:=uV J d.hs (by omega) h;split at h
  .rename_i q;simp only [U7] at h;subst h;simp only [Ve,Vu,WM] at q;have L:=I3 q.1;have C:=Q.append U;have g:∀b,b∈o1++x->∃i,Of (M++D) i/\O i=some b:=λb hb=>C.mem hb;have I:∀k,AA c w O k->(c.A0 k\/c.MO k)/\k < w.heap.size/\k∉o1++x:=by
    intro b hb;refine⟨hb.1,hb.2.1,λhm=> ?_⟩;obtain⟨i,hi,e⟩:=g b hm;exact hb.2.2 i e
   have K:∀i ah,i∈X++N->i.real=true->O i=some ah->(c.A0 ah\/c.MO ah)/\ah < w.heap.size/\ah∉o1++x:=by
    intro i ah hi o l;refine⟨.inr (d.hs.own i ah l),d.hs.lt i ah l,λhm=> ?_⟩;obtain⟨j,G,e⟩:=g ah hm;have:=d.hs.inj i j ah l e;subst this;have h1:=q.2 i hi;rcases G with G | ⟨y,n,_,e2⟩
    .have E:(M++D).contains i=true:=by simpa using G
     rw [E] at h1;cases h1
    .rw [e2] at o;cases o
   have p:(o1++x).Nodup:=by obtain⟨_,ids,e,n,_⟩:=C;rw [e];exact Fx d.hs (n L)
   refine⟨pD us, ?_,rfl,rfl,rfl,Vq _,λ_ _ _=>rfl,us,Y,Z,o1,x,rfl,rfl,p,λb hb=> ?_, ?_, ?_⟩
   .rw [Sp,Array.mapM_eq_mapM_toList];simp only [Vz,map_eq_pure_bind,VQ];rw [E];simp only [Vm];congr 1;unfold pD;split
    .rename_i r;have V:us.length=1:=by simpa using r
     obtain⟨u,rfl⟩:=List.length_eq_one_iff.1 V;rfl
    .rename_i r;split
     .rename_i u;simp at r
     .rfl
   .obtain⟨i,hi,e⟩:=g b hb;exact⟨d.hs.own i b e,d.hs.lt i b e⟩
   .exact F _ I λi ah hi o l=>K i ah (Vn _ hi) o l
   .exact z _ I λi ah hi o l=>K i ah (Vp _ hi) o l
  .simp at h
 .simp at h
end
open Go
section
variable {P:Program} {An:cM} {Or:au} {w w':World} {A A':Nat->Prop} {c:Ctx} {ρ:Id->Option Value} {O:Id->Option Nat} {s s':St} {h:Id->Option ab}
theorem JN{v:AV}{u:Value}(hs:HS c w h ρ O)(hv:an w (AA c w O) ρ v u):an w (AA c w O) ρ (s9 h v) u:=by
 cases v
 case own i=>
  simp only [s9];split
  .rename_i sz b xs hi;have k:O i=none:=by
    obtain⟨_,_,_,a⟩:=hs.ah i _ hi;exact a rfl
   have:=m8 (x:= .aa sz b xs) (A':=AA c w O) hs hv (by simp [dK,hi]) (λ_ h=>h) (λj ah g d=>by
    rcases g with e | ⟨_,_,_,e⟩ | ⟨_,e⟩
    .cases e;rw [k] at d;cases d
    .cases e
    .cases e)
   simpa [an] using this
  .exact hv
 case part i sz off n=>
  simp only [s9];split
  .rename_i p b xs hi;split
   .rename_i m;have k:O i=none:=by
     obtain⟨_,_,_,a⟩:=hs.ah i _ hi;exact a rfl
    have:=m8 (x:= .aa sz b ((xs.drop off).take n)) (A':=AA c w O) hs hv (by simp [dK,hi,m]) (λ_ h=>h) (λj ah g d=>by
     rcases g with e | ⟨_,_,_,e⟩ | ⟨_,e⟩
     .cases e
     .cases e;rw [k] at d;cases d
     .cases e)
    simpa [an] using this
   .exact hv
  .exact hv
 case ref i off=>
  simp only [s9];split
  .rename_i l hi;obtain⟨b,h1,r,a,o⟩:=hs.ah i _ hi;simp only [an] at hv;obtain⟨q,f,rfl⟩:=hv;rw [h1] at f;simp only [U7,Xk,Wr] at f;obtain⟨rfl,_⟩:=f;simp only [an,aB];refine⟨b,off,rfl, .inr a, ?_⟩;have:=o.drop off;rwa [VP] at this
  .exact hv
 all_goals exact hv
theorem Qz{k:Nat×Option Nat}{p:AV×aH}{tmps:Array Value}{f:Id->Option Value}(hs:HS c w s.h ρ O)(j:SS w (AA c w O) ρ s.t tmps)(e:vD s k=some p)(d:∀i v,ρ i=some v->f i=some v)
  (h1:∀q∈p.2,f q.1=some (tmps.getD k.1 undef)):an w (AA c w O) f p.1 (tmps.getD k.1 undef):=by
 unfold vD at e;have a:=j k.1;split at e
 .simp at e
 .rename_i v g;rw [g] at a;simp only at a;split at e
  .simp only [U7] at e;subst e;exact an.mono (λb hb=>⟨hb,rfl⟩) d _ _ (JN hs a)
  .split at e
   .simp only [U7] at e;subst e;exact an.mono (λb hb=>⟨hb,rfl⟩) d _ _ (JN hs a)
   split at e
   .split at e
    .simp only [U7] at e;subst e;exact an.mono (λb hb=>⟨hb,rfl⟩) d _ _ a
    .simp at e
   .simp only [U7] at e;subst e;simp only [an];exact h1 _ (Vk.2 rfl)
   .simp at e
theorem IY{tmps:Array Value}{f:Id->Option Value}(hs:HS c w s.h ρ O)(o:SS w (AA c w O) ρ s.t tmps)(j:∀i v,ρ i=some v->f i=some v):∀{l:List (Nat×Option Nat)} {p:List AV×aH},pc s l=some p->
  (∀q∈p.2,∀k,q.1= .s (1000000+k) 0->f q.1=some (tmps.getD k undef))->aC w (AA c w O) f p.1 (l.map λk=>tmps.getD k.1 undef)/\
   ∀q∈p.2,∃k sz b,q= (.s (1000000+k) 0, .sl false sz b [])/\aB w (AA c w O) (.aK b) (tmps.getD k undef)
 | [],p,e,_=>by simp only [pc,U7] at e;subst e;exact⟨by simp [aC],(by intro q a;cases a)⟩
 | k::l,p,e,h1=>by
  simp only [pc] at e;replace e:=U8.1 e;obtain⟨x,d,e⟩:=e;replace e:=U8.1 e;obtain⟨y,hy,e⟩:=e;simp only [U7] at e;subst e;have g:∀q∈x.2,∃sz b,q= (.s (1000000+k.1) 0, .sl false sz b [])/\aB w (AA c w O) (.aK b) (tmps.getD k.1 undef):=by
   intro q a;have m:=o k.1;unfold vD at d;split at d
   .simp at d
   .rename_i v r;rw [r] at m;simp only at m;split at d
    .simp only [U7] at d;subst d;cases a
    .split at d
     .simp only [U7] at d;subst d;cases a
     split at d
     .split at d
      .simp only [U7] at d;subst d;cases a
      .simp at d
     .simp only [U7] at d;subst d;simp only [Vk] at a;subst a;exact⟨_,_,rfl,by simpa [an] using m⟩
     .simp at d
  obtain⟨u,z⟩:=IY hs o j hy (λq a=>h1 q (Vp _ a));refine⟨?_,λq a=> ?_⟩
  .simp only [V6,aC];refine⟨_,_,rfl,Qz hs o d j (λq a=> ?_),u⟩;obtain⟨sz,b,e,_⟩:=g q a;exact h1 q (Vn _ a) k.1 (by rw [e])
  .rcases Vr.1 a with a | a
   .obtain⟨sz,b,e,B⟩:=g q a;exact⟨k.1,sz,b,e,B⟩
   .exact z q a
theorem L0:∀{us:aH} {h:Id->Option ab} {i:Id} {b:ab},aL h us i=some b->(i,b)∈us\/((∀q∈us,q.1≠i)/\h i=some b)
 | [],h,i,b,e=> .inr ⟨by simp,e⟩
 | (j,x)::us,h,i,b,e=>by
  rw [dA] at e;rcases L0 e with e | ⟨f,e2⟩
  .exact .inl (Vc _ e)
  .by_cases a:i=j
   .subst a;rw [aF] at e2;simp only [U7] at e2;subst e2;exact .inl Vb
   .rw [ar _ _ a] at e2;refine .inr ⟨λq d=> ?_,e2⟩;rcases Vo.1 d with rfl | d
    .exact λe=>a e.symm
    .exact f q d
theorem HS.Mg{us:aH}{a:Id->Option Value}(m:∀q∈us,q.1.real=true)(hs:HS c w h ρ O)(r:∀q∈us,h q.1=none)(o:∀q∈us,∃sz b u,q.2= .sl false sz b []/\a q.1=some u/\aB w A (.aK b) u)
  (d:∀i,(∀q∈us,q.1≠i)->a i=ρ i):HS c w (aL h us) a O:=by
 have mono:∀i v,ρ i=some v->a i=some v:=by
  intro i v hi;rw [d i (λq f e=> ?_)]
  .exact hi
  .have:=(hs.cC _ (m q f) (r q f)).1;rw [e,hi] at this;cases this
 have j:∀i n,∀q∈us,q.1≠ .g i n:=λi n q f e=>by have:=m q f;rw [e] at this;cases this
 have le:Le w ρ O w a O:=⟨rfl,rfl,rfl,Vq _,mono,λ_ _ _=>rfl,λi b h=> .inl ⟨i,h⟩⟩;refine hs.go le (λi n=>⟨d _ (j i n),rfl,λ_ _=>rfl⟩) (λi b hb=> ?_) (λi l hi=> ?_) (λi hi=>(Ax hi).2) (λi n=>by rw [ei (j i n)];exact hs.eH i n) hs.inj hs.lt
 .rcases L0 hb with hm | ⟨_,hb⟩
  .right;obtain⟨sz,x,u,k,e2,e3⟩:=o _ hm;simp only at k e2;subst k;refine⟨u,e2, ?_,by simp⟩;simp only [aB] at e3;rcases e3 with⟨rfl,rfl⟩ | ⟨rfl,ah,off,sp,rfl⟩
   .exact⟨none,0,rfl,by simp,by simp,by simp, .inl rfl⟩
   .exact⟨some ⟨ah,off,sp⟩,0,rfl,by simp,by simp,trivial, .inl rfl⟩
  .exact .inl ⟨hb,rfl,λ_ _=>rfl⟩
 .obtain⟨h1,p⟩:=Ax hi;rw [d i h1];exact hs.cC i l p
theorem I1{a:Id->Option Value}{tmps:Array Value}:∀{live:List (Nat×Option Nat)} {bg:List AV},aC w A a bg (live.map λk=>tmps.getD k.1 undef)->∀k,an w A a (nH.look live bg k) (tmps.getD k undef)
 | [],bg,hv,k=>by cases bg <;> simp [nH.look,an]
 | (j,o)::live,bg,hv,k=>by
  cases bg with
  | nil=>simp [aC] at hv
  | cons v bg=>
   simp only [V6,aC,Xn] at hv;obtain⟨u,r,⟨rfl,rfl⟩,h1,b⟩:=hv;simp only [nH.look];split
   .rename_i e;subst e;exact h1
   .exact I1 b k
def vJ:List Item->List Item
 | .inLoop b::k=> .code b:: .inLoop b::k
 | t=>t
def qe(P:Program)(An:cM)(Or:au):Prop:= ∀f fn todo live m bg b xs,Or (.node f todo live m) bg b=some xs->P.funcs[f]? =some fn->
 ∀c w ρ O a B,jc m.1 B ρ->eX c fn.ntmps w (nH live bg b) ρ O a->Ends P f fn (vJ todo) a w (Fin P c B (dC P An f m.2 fn) (iq An f m.2) xs (fW O) w)
theorem eX.Ek{nt:Nat}{a:Act}{h':Id->Option ab}{ρ':Id->Option Value}{O':Id->Option Nat}(d:eX c nt w s ρ O a)(le:Le w ρ O w ρ' O')(hs:HS c w h' ρ' O'):eX c nt w {t:=s.t,h:=h'} ρ' O' a:=
 ⟨hs,SS.mono (λb hb=>le.A b hb) le.eU d.ss,d.nt,d.defers⟩
theorem jc.le{m:Nat}{B:Nat->Option Value}{ρ':Id->Option Value}(h:jc m B ρ)(le:∀i v,ρ i=some v->ρ' i=some v):jc m B ρ':=λj b=>by obtain⟨v,a,e2⟩:=h j b;exact⟨v,a,le _ _ e2⟩
theorem C3{s:St}:∀{live:List (Nat×Option Nat)} {p:List AV×aH},pc s live=some p->∀q∈p.2,∃k,q.1=Id.s (1000000+k) 0
 | [],p,a,q,b=>by simp only [pc,U7] at a;subst a;cases b
 | k::live,p,a,q,b=>by
  simp only [pc] at a;obtain⟨e,h1,a⟩:=U8.1 a;obtain⟨f,d,a⟩:=U8.1 a;simp only [U7] at a;subst a;rcases Vr.1 b with b | b
  .unfold vD at h1;split at h1
   .cases h1
   .split at h1
    .simp only [U7] at h1;subst h1;cases b
    .split at h1
     .simp only [U7] at h1;subst h1;cases b
     .split at h1
      .split at h1
       .simp only [U7] at h1;subst h1;cases b
       .cases h1
      .simp only [U7] at h1;subst h1;rw [Vk.1 b];exact⟨_,rfl⟩
      .cases h1
  .exact C3 d q b
theorem TQ{f:FuncId}{fn:Func}{todo:List Item}{live:List (Nat×Option Nat)}{m:Nat×Nat}{B:Nat->Option Value}{xs:List T}{a:Act}(hN:qe P An Or)(N:P.funcs[f]? =some fn)(hB:jc m.1 B ρ)(o:eX c fn.ntmps w s ρ O a)(e:Al Or f todo live m s=some xs):
  Ends P f fn (vJ todo) a w (Fin P c B (dC P An f m.2 fn) (iq An f m.2) xs (fW O) w):=by
 unfold Al at e;replace e:=U8.1 e;obtain⟨p,J,e⟩:=e;split at e
 .rename_i u;replace e:=U8.1 e;obtain⟨seen,r,e⟩:=e;let l:Id->Option Value:=λi=>if p.2.any (λq=>decide (q.1=i)) then(match i with | .s d _=>some (a.tmps.getD (d - 1000000) undef) | _=>none) else ρ i;have M:∀q∈p.2,s.h q.1=none:=by
   intro q g;have:=Vu.1 u q g;simpa using this
  have y:∀i,(∀q∈p.2,q.1≠i)->l i=ρ i:=by
   intro i hi;have:p.2.any (λq=>decide (q.1=i))=false:=by rw [List.any_eq_false];intro q g;simpa using hi q g
   simp only [l,this,VF,if_false]
  have E:∀q∈p.2,∀k,q.1= .s (1000000+k) 0->l q.1=some (a.tmps.getD k undef):=by intro q g k e;have:p.2.any (λx=>decide (x.1=q.1))=true:=List.any_eq_true.2 ⟨q,g,by simp⟩;simp only [l,this,if_true];rw [e];simp
  have mono:∀i v,ρ i=some v->l i=some v:=by
   intro i v hi;rw [y i (λq g e=> ?_)]
   .exact hi
   .cases D:q.1.real with
    | true=>have:=(o.hs.cC _ D (M q g)).1;rw [e,hi] at this;cases this
    | false=>have hm:p.2.any (λx=>decide (x.1=q.1))=true:=List.any_eq_true.2 ⟨q,g,by simp⟩;obtain⟨k,F⟩:=C3 J q g;rw [F] at D;cases D
  obtain⟨hv,V⟩:=IY o.hs o.ss mono J E;have Q:HS c w (aL s.h p.2) l O:=o.hs.Mg (λq g=>by obtain⟨k,F⟩:=C3 J q g;rw [F];rfl) M (A:=AA c w O) (λq g=>by
   obtain⟨k,sz,b,e,D⟩:=V q g;exact⟨sz,b,_,by rw [e],E q g k (by rw [e]),D⟩) y
  obtain⟨Z,g2,g3,g4,g5⟩:=vX r YM (by simp) (by simp);obtain⟨U,z⟩:=Q.rn Z g4 g5;have hA:∀b,AA c w O b->AA c w (cv seen O) b:=λb hb=>⟨hb.1,hb.2.1,λi hi=>by
   obtain⟨k,hk⟩:=z b ⟨i,hi⟩;exact hb.2.2 k hk⟩
  have X:=aC.rn (m:=seen) hA _ _ (λi hi=>g3 i (Vp _ hi)) hv;have K:eX c fn.ntmps w (nH live (kG seen p.1) (seen.map λi=>ir seen (aL s.h p.2 i))) (cv seen l) (cv seen O) a:=
   ⟨U,λk=>I1 X k,o.nt,o.defers⟩
  have C:=Kn r (by
   exact List.pairwise_map.2 (List.nodup_range.imp λh e=>h (by simpa using e))) (by simp)
  rw [Vg] at C;have L:jc m.1 B (cv seen l):=by
   intro j I;obtain⟨v,Y,e2⟩:=hB.le mono j I;refine⟨v,Y, ?_⟩;obtain⟨t,ht⟩:=C;have:seen[j]? =some (.c j):=by rw [<-ht,WJ (by simpa using I)];simp [I]
   simp [cv,this,e2]
  exact(hN f fn todo live m _ _ xs e N c w _ _ a B L K).mono λv w' G=>G.own z
 .simp at e
theorem zi:∀{l:List (Nat×Option Nat)},ix s.h (o5 s l)
 | []=>by intro p a;cases a
 | (k,none)::l=>by simp only [o5];exact zi
 | (k,some 0)::l=>by simp only [o5];exact(vf _).append zi
 | (k,some (n+1))::l=>by simp only [o5];exact zi
theorem EA{f:FuncId}{fn:Func}{todo:List Item}{live:List (Nat×Option Nat)}{m:Nat×Nat}{B:Nat->Option Value}{xs:List T}{a:Act}(r:qe P An Or)(k:P.funcs[f]? =some fn)(q:jc m.1 B ρ)(g:eX c fn.ntmps w s ρ O a)(e:mC Or f todo live m s=some xs):
  Ends P f fn (vJ todo) a w (Fin P c B (dC P An f m.2 fn) (iq An f m.2) xs (fW O) w):=by
 unfold mC at e;obtain⟨us,p,e⟩:=U8.1 e;obtain⟨x,cV,l,_⟩:=g.hs.sO zi;have d:=g.Ek cV l;obtain⟨u,y,b,o⟩:=DC d.hs p;have j:=d.Ek b o;exact(TQ r k (q.le b.eU) j e).mono λv w' i=>Fin.le cV (Fin.le b i)
theorem Ic(live:List (Nat×Option Nat))(bg:List AV)(a:List ab):oB (nH live bg a):=by intro k g v e;simp [nH] at e
theorem cT.TR{sz:Nat}{b:Bool}{xs:List (List T)}{v:Value}{Q:Nat->Prop}(h:cT w A sz b xs v Q)(l:∀d,Q d->A d):aB w A (.aa sz b xs) v:=by
 obtain⟨a,cap,rfl,f,g,_,i⟩:=h;simp only [aB];cases a with
 | none=>
  rcases i with rfl | ⟨_,_,_,_,e,_⟩
  .have:xs= []:=Vt.1 (by omega);subst this;exact .inl ⟨g.1 rfl,rfl,rfl⟩
  .cases e
 | some a=>
  have hb:b=false:=by
   cases b with
   | false=>rfl
   | true=>have:=g.2 rfl;cases this
  obtain⟨ah,off,sp⟩:=a;right;rcases i with rfl | ⟨blk',off',arr,t,e,j,m,o,k⟩
  .have:xs= []:=Vt.1 (by omega);subst this;exact⟨hb,ah,off,sp,0,rfl,f, .inl rfl,by simp [aZ]⟩
  .cases e;exact⟨hb,ah,off,none,cap,rfl,f, .inr ⟨rfl,l _ j⟩,k⟩
theorem aX.vN{ah:Nat}:∀{cs:List T} {off:Nat},(∀(j:Nat) (x:T),cs[j]? =some x->∃v,w.cell? ⟨ah,off+j,none⟩=some v/\aB w A x v)->aX w A ah off cs
 | [],_,_=>by simp [aX]
 | x::cs,off,h=>by simp only [aX];refine⟨by simpa using h 0 x rfl,aX.vN λj y a=> ?_⟩;have:=h (j+1) y (by simpa using a);rw [show off+1+j=off+ (j+1) by omega];exact this
theorem Ky{i:Id}{ah sz aD rsz:Nat}:∀{es:List Row} {base:Nat},bP es=true->cr w A ρ O i ah sz aD rsz base es->(∀e∈es,∀d,O (.g i e.n)=some d->A d)->aZ w A ah sz base (es.map (wg aD rsz))
 | [],_,_,_,_=>by simp [aZ]
 | e::es,base,b,E,l=>by
  simp only [bP,WV,Ve] at b;obtain⟨m,o⟩:=E;simp only [V6,aZ];obtain⟨q,J,r,u,v,K,z⟩:=m;have key:∃x,wg aD rsz e=e.cs.set aD x/\aB w A x u:=by
   obtain⟨L,I,B⟩:=e;cases B with
   | none=>simp at b
   | some p=>refine⟨_,rfl, ?_⟩;exact cT.TR z λd D=>l _ Vb d D
  obtain⟨x,G,F⟩:=key;rw [G];refine⟨by rw [Wa];exact q,aX.vN λj y a=> ?_,Ky b.2 o λf C=>l f (Vc _ C)⟩;rw [WE] at a;split at a
  .rename_i k;subst k;split at a
   .cases a;exact⟨u,v,F⟩
   .cases a
  .rename_i k;exact r j y (λe=>k e.symm) a
theorem HS.Tp{i:Id}{b:Bool}{sz aD rsz nx:Nat}{es:List Row}(hs:HS c w h ρ O)(hi:h i=some (.rows b sz aD rsz nx es))(C:bP es=true):
  ∃O',Le w ρ O w ρ O'/\HS c w (aE h i (some (.sl true sz b (es.map (wg aD rsz))))) ρ O':=by
 classical
 have q:=hs.real (i:=i) (by rw [hi];simp);let Q:Id->Option Nat:=λx=>if Of [i] x then none else O x;have E:Q i=none:=if_pos (.inl Vb);have V:∀n,Q (.g i n)=none:=λn=>if_pos (.inr ⟨i,n,Vb,rfl⟩);have o:∀x d,Q x=some d->O x=some d/\¬Of [i] x:=by
  intro x d k;simp only [Q] at k;split at k
  .cases k
  .rename_i G;exact⟨k,G⟩
 have z:∀x,x.real=true->x≠i->Q x=O x:=by
  intro x r k;refine if_neg ?_;rintro(hm | ⟨j,n,_,rfl⟩)
  .exact k (Vk.1 hm)
  .cases r
 have B:∀x n,x≠i->Q (.g x n)=O (.g x n):=by
  intro x n k;refine if_neg ?_;rintro(hm | ⟨j,m,F,e⟩)
  .rw [<-Vk.1 hm] at q;cases q
  .simp only [Id.g.injEq] at e;exact k (e.1.trans (Vk.1 F))
 have le:Le w ρ O w ρ Q:=⟨rfl,rfl,rfl,Vq _,λ_ _ h=>h,λ_ _ _=>rfl,λx d k=> .inl ⟨x,(o x d k).1⟩⟩;have u:∀x d,Of [i] x->O x=some d->AA c w Q d:=by intro x d k p;refine⟨.inr (hs.own x d p),hs.lt x d p,λy hy=> ?_⟩;obtain⟨I,k2⟩:=o y d hy;exact k2 (hs.inj x y d p I▸k)
 refine⟨Q,le,hs.o7 le (λx y k=> ?_) (λx r k=> ?_) (λx n=>by rw [ar _ _ (aP q)];exact hs.eH x n) (λx n k=> ?_) hs.gone (λx y d k hy=>hs.inj x y d (o x d k).1 (o y d hy).1) (λx d k=>hs.lt x d (o x d k).1)⟩
 .by_cases e:x=i
  .subst e;rw [aF] at k;cases k;right;obtain⟨a,cap,r1,N,U,Y,v⟩:=hs.ah x _ hi;refine⟨_,r1,⟨a,cap,by rw [W9],by rw [W9];exact N,U,trivial, ?_⟩,λ_=>E⟩;rcases v with v | ⟨ah,off,arr,t,q1,J,K,L,M⟩
   .exact .inl v
   .refine .inr ⟨ah,off,arr,t,q1,by simp only [if_true];exact u x ah (.inl Vb) J,K,L, ?_⟩;refine Ky (ρ:=ρ) (O:=O) (i:=x) C (cr.move (λb hb=>le.A b hb) (λ_ _=>rfl) (λf _=>⟨rfl,rfl,λ_ _=>rfl⟩) M) λf X d p=>u _ d (.inr ⟨x,f.n,Vb,rfl⟩) p
  .rw [ar _ _ e] at k;have D:=hs.real (i:=x) (by rw [k];simp);exact .inl ⟨k,z x D e,λ_ _=>rfl,λn=>⟨rfl,B x n e,λ_ _=>rfl⟩⟩
 .have l:x≠i:=λe=>by rw [e,aF] at k;cases k
  rw [ar _ _ l] at k;rw [z x r l];exact hs.cC x r k
 .have l:x≠i:=λe=>by rw [e,aF] at k;cases k
  rw [ar _ _ l] at k;rw [B x n l];exact hs.fO x n k
theorem Ej{R:Type}:∀{l:List Id} {h:Id->Option ab} {O:Id->Option Nat} {K:aH->Option R} {r:R},HS c w h ρ O->wA h l K=some r->∃us O',K us=some r/\Le w ρ O w ρ O'/\HS c w (aL h us) ρ O'
 | [],h,O,K,r,hs,e=>⟨[],O,e,Le.refl,hs⟩
 | i::l,h,O,K,r,hs,e=>by
  simp only [wA] at e;split at e
  .rename_i b sz aD rsz nx es hi;replace e:=aO e (.inl rfl);obtain⟨_,a,e⟩:=e;have a:bP es=true:=by
    split at a
    .assumption
    .cases a
   obtain⟨k,cV,d⟩:=hs.Tp hi a;obtain⟨us,j,e,g,f⟩:=Ej d e;exact⟨_,j,e,cV.trans g,by rw [dA];exact f⟩
  .exact Ej hs e
theorem H8{f:FuncId}{fn:Func}{nt:Nat}{m:Nat×Nat}{B:Nat->Option Value}{xs:List T}{a:Act}(d:jc m.1 B ρ)(b:eX c nt w s ρ O a)(h:y9 P An f fn m s=some xs):
  ∃v,(results fn a.tmps).run P w= .ok v w/\Fin P c B (dC P An f m.2 fn) (iq An f m.2) xs (fW O) w v w:=by
 unfold y9 at h;cases e:(dC P An f m.2 fn).any II with
 | true=>rw [e,cond_true] at h;exact H7 d b h
 | false=>rw [e,cond_false] at h;obtain⟨us,j,h,cV,g⟩:=Ej b.hs h;obtain⟨v,h1,i⟩:=H7 d (b.Ek cV g) h;exact⟨v,h1,Fin.le cV i⟩
theorem l0(hm:P.follows .mixedOrders=true)(r:jG P An Or)(o:qe P An Or){f:FuncId}{fn:Func}{m:Nat×Nat}{B:Nat->Option Value}(l:P.funcs[f]? =some fn):∀{n:Nat} {j:Bool} {todo:List Item} {xs:List T} {w:World} {s:St} {ρ:Id->Option Value} {O:Id->Option Nat} {a:Act},
  jc m.1 B ρ->eX c fn.ntmps w s ρ O a->oB s->ev P An Or f fn m n j todo s=some xs->Ends P f fn todo a w (Fin P c B (dC P An f m.2 fn) (iq An f m.2) xs (fW O) w)
 | 0,j,todo,xs,w,s,ρ,O,a,i,d,hb,e=>by simp [ev] at e
 | n+1,j,[],xs,w,s,ρ,O,a,i,d,hb,e=>by simp only [ev] at e;obtain⟨v,h1,z⟩:=H8 i d e;exact λb I D cs=>⟨a,w,v,[], .one step_end,d.defers,h1,z⟩
 | n+1,j, .code .skip::k,xs,w,s,ρ,O,a,i,d,hb,e=>by simp only [ev] at e;exact Ends.step (λb cs=>step_skip) (l0 hm r o l i d hb e)
 | n+1,j, .code (.seq x y)::k,xs,w,s,ρ,O,a,i,d,hb,e=>by simp only [ev] at e;exact Ends.step (λb cs=>step_seq) (l0 hm r o l i d hb e)
 | n+1,j, .code (.region id ops u)::k,xs,w,s,ρ,O,a,i,d,hb,e=>by
  simp only [ev] at e;split at e
  .rename_i live _;exact EA (todo:= .code (.region id ops u)::k) o l i d e
  .obtain⟨s',e,E⟩:=Sl hm r d hb e;refine Ends.region (E _ λL w' ρ' O' le G=>⟨rfl, ?_⟩);exact(l0 hm r o l (i.le le.eU) G (M4 _) e).mono λv K C=>C.le le
 | n+1,j, .code (.cond x p q)::k,xs,w,s,ρ,O,a,i,d,hb,e=>by
  simp only [ev] at e;replace e:=U8.1 e;obtain⟨y,hy,e⟩:=e;replace e:=aO e (.inl rfl);obtain⟨t,J,e⟩:=e;have F:=SS.get (h:=s.h) d.ss (g:=none) trivial x;rw [show(⟨s.t,s.h⟩:St)=s from rfl,AV.mB hy,T.jf J] at F;simp only [an,aB] at F;refine Ends.step (todo':= .code (if t then p else q)::k) (λb cs=>step_cond F) ?_;cases t with
  | true=>exact l0 hm r o l i d hb e
  | false=>exact l0 hm r o l i d hb e
 | n+1,j, .code (.block id b)::k,xs,w,s,ρ,O,a,i,d,hb,e=>by simp only [ev] at e;exact Ends.step (λb cs=>step_block) (l0 hm r o l i d hb e)
 | n+1,j, .code (.loop b)::k,xs,w,s,ρ,O,a,i,d,hb,e=>by
  simp only [ev] at e;split at e
  .exact Ends.step (λb cs=>step_loop) (EA (todo:= .inLoop b::k) o l i d e)
  .simp at e
 | n+1,j, .code (.exit id)::k,xs,w,s,ρ,O,a,i,d,hb,e=>by
  simp only [ev] at e;split at e
  .rename_i M D;exact Ends.step (λb cs=>step_exit D) (l0 hm r o l i d hb e)
  .simp at e
 | n+1,j, .code .ret::k,xs,w,s,ρ,O,a,i,d,hb,e=>by simp only [ev] at e;obtain⟨v,h1,z⟩:=H8 i d e;exact λb I D cs=>⟨a,w,v,_, .one step_ret,d.defers,h1,z⟩
 | n+1,j, .inBlock id::k,xs,w,s,ρ,O,a,i,d,hb,e=>by simp only [ev] at e;exact Ends.step (λb cs=>step_inBlock) (l0 hm r o l i d hb e)
 | n+1,j, .inLoop b::k,xs,w,s,ρ,O,a,i,d,hb,e=>by
  simp only [ev] at e;split at e
  .exact Ends.step (λb cs=>step_inLoop) (EA (todo:= .inLoop b::k) o l i d e)
  .simp at e
 | n+1,j, .code (.label _)::k,xs,w,s,ρ,O,a,i,d,hb,e=>by simp [ev] at e
 | n+1,j, .code (.goto _)::k,xs,w,s,ρ,O,a,i,d,hb,e=>by simp [ev] at e
theorem QI{a:Id->Option Value}{bg:List AV}{args:List Value}(hv:aC w A a bg args)(m k:Nat):an w A a (bg.getD k .top) ((args.toArray++Array.replicate m undef).getD k undef):=by
 have e:(args.toArray++Array.replicate m undef).getD k undef= (args++List.replicate m undef).getD k undef:=by rw [Xa,U9,<-Wl];simp
 rw [e,U9,U9];cases f:bg[k]? with
 | none=>simp [an]
 | some v=>obtain⟨u,d,g⟩:=hv.get f;have b:k < args.length:=(Vi.1 d).1;rw [WJ b,d];exact g
theorem TD(G:oC P An)(hm:P.follows .mixedOrders=true)(K:∀(f:FuncId) (fn:Func),P.funcs[f]? =some fn->fn.name≠ "runtime.NumGoroutine")(F:jG P An Or)(E:qe P An Or):jG P An (az P An Or):=by
 intro f bg a xs e;simp only [az] at e;split at e
 .rename_i r x;exact G f bg a xs (x.trans e)
 split at e
 .rename_i fn l;split at e
  .rename_i p d;split at e
   .rename_i J;refine⟨fn,p,l,d,K f fn l,λc w ρ O args V hs m=> ?_⟩;have X:=m.length;have C:(ve bg a).h=ke a:=by funext i;cases i <;> rfl
    have B:eX c fn.ntmps w (ve bg a) ρ O {tmps:=args.toArray++Array.replicate (fn.ntmps - args.toArray.size) undef,defers:= []}:=by refine⟨by rw [C];exact hs,λk=>QI m _ k, ?_,rfl⟩;simp only [YP,WX,Array.size_replicate];omega
    have o:oB (ve bg a):=by intro k g v e;simp [ve] at e
    have D:jc (a.length,iA a.head?).1 (o9 a.length ρ) ρ:=by
     intro j q;simp only at q;have y:ke a (.c j)=some a[j]:=by simp [ke,q]
     obtain⟨v,hv,_⟩:=hs.Ll y;exact⟨v,by simp [o9,q,hv],hv⟩
    refine(MY l d (l0 hm F E l D B o e)).mono λe w' ⟨v,I,b⟩=> ?_;obtain⟨Q,U,x2,o1,N,hv,M,z,u,x,L⟩:=b.res;exact⟨Q,U,x2,o1,N,by rw [I,hv],⟨b.os,b.output,b.tape,b.size,b.ah⟩,M,z,u,x,L⟩
   .simp at e
  .simp at e
 .simp at e
theorem TC(hm:P.follows .mixedOrders=true)(l:jG P An Or)(j:qe P An Or):qe P An (az P An Or):=by
 intro f fn todo live m bg p xs e d c w ρ O a B i g;simp only [az,d] at e;split at e
 .exact l0 hm l j d i g (Ic _ _ _) e
 .rename_i o;have:vJ todo=todo:=by
   unfold vJ;split
   .rename_i b k;exact(o b k rfl).elim
   .rfl
  rw [this];exact l0 hm l j d i g (Ic _ _ _) e
theorem JY(b:oC P An)(hm:P.follows .mixedOrders=true)(d:∀(f:FuncId) (fn:Func),P.funcs[f]? =some fn->fn.name≠ "runtime.NumGoroutine"):∀n,jG P An (jt P An n)/\qe P An (jt P An n)
 | 0=>⟨λ_ _ _ _ e=>by simp [jt] at e,λ_ _ _ _ _ _ _ _ e=>by simp [jt] at e⟩
 | n+1=>by obtain⟨h1,a⟩:=JY b hm d n;exact⟨TD b hm d h1 a,TC hm h1 a⟩
theorem J0{k:Key}{vs:List AV}{bs:List ab}{r:List T}(e:mW P An k vs bs=some r):∃n,jt P An n k vs bs=some r:=by
 unfold mW at e;split at e
 .rename_i a;simp only [U7] at e;exact⟨_,by rw [<-e];exact XX (XX a)⟩
 .simp at e
theorem RR(b:oC P An)(hm:P.follows .mixedOrders=true)(d:∀(f:FuncId) (fn:Func),P.funcs[f]? =some fn->fn.name≠ "runtime.NumGoroutine"):jG P An (mW P An):=by intro f bg a xs e;obtain⟨n,e⟩:=J0 e;exact(JY b hm d n).1 f bg a xs e
end
open Go
abbrev L9:=Key×List AV×List ab×List T
def AH(O:au)(L:List L9):Prop:= ∀q∈L,O q.1 q.2.1 q.2.2.1=some q.2.2.2
def aG{R:Type}(F:au->Option R):Prop:= ∀O r,F O=some r->∃L,AH O L/\∀O',AH O' L->F O'=some r
section
variable {P:Program} {A:cM} {R S:Type}
theorem aG.const(m:Option R):aG (λ_=>m):=λ_ r h=>⟨[],(by intro q a;cases a),λ_ _=>h⟩
theorem aG.bind{F:au->Option R}{G:R->au->Option S}(h1:aG F)(k:∀a,aG (G a)):aG (λO=>(F O).bind λa=>G a O):=by
 intro O r h;obtain⟨a,l,h⟩:=U8.1 h;obtain⟨e,g,i⟩:=h1 O a l;obtain⟨f,e2,j⟩:=k a O r h;refine⟨e++f,λq b=> ?_,λO' d=> ?_⟩
 .rcases Vr.1 b with b | b
  .exact g q b
  .exact e2 q b
 .have:=i O' (λq b=>d q (Vn _ b));simp only [this,Vj];exact j O' (λq b=>d q (Vp _ b))
theorem aG.ask(k:Key)(vs:List AV)(bs:List ab):aG (λO=>O k vs bs):=λO r h=>⟨[(k,vs,bs,r)],(by intro q a;simp only [Vk] at a;subst a;exact h),
 λO' b=>b _ (Vk.2 rfl)⟩
theorem aG.cond{b:Bool}{F G:au->Option R}(h1:aG F)(a:aG G):aG (λO=>cond b (F O) (G O)):=by cases b <;> assumption
theorem aG.ite{p:Prop}[Decidable p]{F G:au->Option R}(h1:aG F)(b:aG G):aG (λO=>if p then F O else G O):=by
 by_cases a:p
 .simp only [a,if_true];exact h1
 .simp only [a,if_false];exact b
theorem aG.ae{d:Type}[Inhabited d]{c:Option Bool}{m:Option d}{K:d->au->Option R}(h:∀a,aG (K a)):aG (λO=>ae c m λa=>K a O):=by
 unfold Aev.ae;cases m with
 | some a=>exact h a
 | none=>cases c with
  | none=>exact aG.const none
  | some b=>exact aG.cond (aG.const none) (h default)
theorem aG.ft{k:Ck}{c:Option Bool}{x:T}{K:T->au->Option R}(h:∀a,aG (K a)):aG (λO=>ft k c x λa=>K a O):=by
 unfold Aev.ft;cases k <;> (try dsimp only)
 case x=>exact h x
 all_goals exact aG.ae λa=>h _
theorem aG.fc{c:Option Bool}:∀{ks:List Ck} {xs:List T} {K:List T->au->Option R},(∀a,aG (K a))->aG (λO=>fc c ks xs λa=>K a O)
 | [],xs,K,h=>h xs
 | _::_,[],K,h=>h []
 | k::ks,x::xs,K,h=>by simp only [Aev.fc];exact aG.ft (K:=λy O=>Aev.fc c ks xs λb=>K (y::b) O) λy=>aG.fc (K:=λb O=>K (y::b) O) λb=>h _
theorem aG.nh{c:Option Bool}{t:TypeId}{v:AV}{K:AV->au->Option R}(h:∀a,aG (K a)):aG (λO=>nh P c t v λa=>K a O):=by
 unfold Aev.nh;cases v <;> (try exact h _)
 case t x=>exact aG.ft (K:=λy O=>K (.t y) O) λy=>h _
 case agg vs=>
  dsimp only;cases ff vs with
  | none=>exact h _
  | some l=>exact aG.fc (K:=λl O=>K (.agg (l.map .t)) O) λy=>h _
theorem aG.jB{c:Option Bool}:∀{ts:List TypeId} {vs:List AV} {K:List AV->au->Option R},(∀a,aG (K a))->aG (λO=>jB P c ts vs λa=>K a O)
 | [],vs,K,h=>h vs
 | _::_,[],K,h=>h []
 | t::ts,v::vs,K,h=>by simp only [Aev.jB];exact aG.nh (K:=λu O=>Aev.jB P c ts vs λus=>K (u::us) O) λu=>aG.jB (K:=λus O=>K (u::us) O) λus=>h _
theorem aG.gV{s:St}{d:Nat}{c:Option Bool}{f:FuncId}{args:List AV}{K:AV->aH->Option R}:aG (λO=>gV P A O s d c f args K):=by
 unfold Aev.gV;cases P.funcs[f]? with
 | none=>exact aG.const none
 | some fn=>
  dsimp only;have e:∀(m:Option (List T)) (k:List T->Option R),Aev.ae none m k=m.bind k:=by intro m k;cases m <;> rfl
  cases A.iP f with
  | none=>
   dsimp only;refine aG.bind (F:=λ_=>lT ((dC P A f 0 fn).all sN) (A.deep f) s.h args) (aG.const _) λp=> ?_;simp only [e];refine aG.jB λq=> ?_;refine aG.bind (F:=λO=>bG c (O (.call f) q [])) ?_ λxs=>aG.const _;unfold bG;cases c with
   | none=>exact aG.ask _ _ _
   | some b=>exact aG.cond (aG.ask _ _ _) (aG.const _)
  | some fl=>
   cases c with
   | some b=>exact aG.const none
   | none=>dsimp only;refine aG.bind (F:=λ_=>mM s.h (BI fl args) fl args) (aG.const _) λp=> ?_;refine aG.bind (F:=λ_=>kD (2000000+d) 0 (aL s.h p.2) (n6 (qq (b8 p.1) []) (iq A f (iA ((b8 p.1).head?.bind (aL s.h p.2)))))) (aG.const _) λus=> ?_;refine aG.bind (F:=λ_=>fm (aL (aL s.h p.2) us) 1000 (b8 p.1) []) (aG.const _) λseen=> ?_;refine aG.cond ?_ (aG.const none);simp only [e];refine aG.jB λq=> ?_;exact aG.bind (aG.ask _ _ _) λxs=>aG.const _
theorem aG.jJ{iE:Bool}{s:St}{d:Nat}{c:Option Bool}{f:FuncId}{args:List AV}{K:AV->aH->Option R}:aG (λO=>jJ iE P A O s d c f args K):=by
 unfold Aev.jJ;cases _root_.cond iE (n7 args) none with
 | none=>exact aG.gV
 | some q=>
  obtain⟨a,i,n,e⟩:=q;cases c with
  | some b=>exact aG.const none
  | none=>
   dsimp only;cases s.h i with
   | none=>exact aG.const none
   | some b=>
    cases b with
    | rows b sz aD rsz nx es=>
     dsimp only;cases bA n es with
     | none=>exact aG.const none
     | some p=>exact aG.cond aG.gV (aG.const none)
    | _=>exact aG.const none
theorem aG.dG{g:Option Gs}{o:Oper}{s:St}:aG (λO=>dG P A O g o s):=by
 unfold Aev.dG jI;cases o.op <;> (try dsimp only) <;> try exact aG.const _
 case makeFunc fn a b=>cases fn <;> (try dsimp only) <;> exact aG.const _
 case call d=>
  cases d.callee <;> (try dsimp only)
  case value e=>cases s.get g e <;> (try dsimp only) <;> first | exact aG.jJ | exact aG.const _
  case builtin b=>cases b <;> (try dsimp only) <;> exact aG.const _
  all_goals exact aG.const _
theorem aG.fj{a:Bool}{nt:Nat}{ops:Array Oper}{o:Oper}{s:St}:aG (λO=>fj P A O a nt ops o s):=by
 unfold Aev.fj pw;have key:∀{G:au->Option Gs->Option St},(∀g,aG (λO=>G O g))->aG (λO=>dI ops o s (G O)):=λ{G} b=>by rw [show(λO=>dI ops o s (G O))=λO=>(dI ops o s some).bind (G O) from funext λO=>zm _ _ _ _];exact aG.bind (aG.const _) b
 refine key λg=> ?_;cases rv A a o g with
 | none=>simp only [r7];exact aG.bind aG.dG λp=>aG.const _
 | some d=>simp only [r7];exact aG.cond (aG.cond (aG.bind aG.dG λp=>aG.const _) (aG.const _)) (aG.const _)
theorem aG.jv{a:Bool}{nt:Nat}{ops:Array Oper}:∀(l:List Oper) (s:St),aG (λO=>jv P A O a nt ops l s)
 | [],s=>aG.const _
 | o::r,s=>aG.bind (F:=λO=>Aev.fj P A O a nt ops o s) aG.fj λs'=>aG.jv r s'
theorem aG.region{nt:Nat}{a:Bool}{ops:Array Oper}{s:St}{K:St->au->Option R}(h:∀s,aG (K s)):aG (λO=>region P A O nt a ops s λs'=>K s' O):=by
 unfold Aev.region;refine aG.cond ?_ (aG.const none);have:(λO=>we P A O a nt ops ops.toList s λs'=>K s'.clear O)=λO=>(Aev.jv P A O a nt ops ops.toList s).bind λs'=>K s'.clear O:=by funext O;rw [DY]
 rw [this];exact aG.bind (aG.jv _ _) λs'=>h _
theorem aG.mC{f:FuncId}{todo:List Item}{live:List (Nat×Option Nat)}{m:Nat×Nat}{s:St}:aG (λO=>mC O f todo live m s):=by unfold Aev.mC;refine aG.bind (aG.const _) λus=> ?_;unfold Aev.Al;refine aG.bind (aG.const _) λp=>aG.ite ?_ (aG.const none);exact aG.bind (aG.const _) λseen=>aG.ask _ _ _
theorem aG.ev{f:FuncId}{fn:Func}{m:Nat×Nat}:∀(n:Nat) (a:Bool) (todo:List Item) (s:St),aG (λO=>ev P A O f fn m n a todo s)
 | 0,a,todo,s=>by simp only [Aev.ev];exact aG.const none
 | n+1,a,[],s=>by simp only [Aev.ev];exact aG.const _
 | n+1,a, .code .skip::k,s=>by simp only [Aev.ev];exact aG.ev n _ _ _
 | n+1,a, .code (.seq x y)::k,s=>by simp only [Aev.ev];exact aG.ev n _ _ _
 | n+1,a, .code (.region id ops d)::k,s=>by
  simp only [Aev.ev];cases e:(bif a then A.join f id else none) with
  | some live=>exact aG.mC
  | none=>exact aG.region λs'=>aG.ev n _ _ _
 | n+1,a, .code (.cond x p q)::k,s=>by simp only [Aev.ev];refine aG.bind (F:=λ_=>(s.get none x).t?) (aG.const _) λy=>aG.ae λt=>aG.cond (aG.ev n _ _ _) (aG.ev n _ _ _)
 | n+1,a, .code (.block id b)::k,s=>by simp only [Aev.ev];exact aG.ev n _ _ _
 | n+1,a, .code (.loop b)::k,s=>by
  simp only [Aev.ev];cases A.live f (pE b) with
  | some live=>exact aG.mC
  | none=>exact aG.const none
 | n+1,a, .code (.exit id)::k,s=>by
  simp only [Aev.ev];cases exitTo id k with
  | some g=>exact aG.ev n _ _ _
  | none=>exact aG.const none
 | n+1,a, .code .ret::k,s=>by simp only [Aev.ev];exact aG.const _
 | n+1,a, .inBlock id::k,s=>by simp only [Aev.ev];exact aG.ev n _ _ _
 | n+1,a, .inLoop b::k,s=>by
  simp only [Aev.ev];cases A.live f (pE b) with
  | some live=>exact aG.mC
  | none=>exact aG.const none
 | n+1,a, .code (.label _)::k,s=>by simp only [Aev.ev];exact aG.const _
 | n+1,a, .code (.goto _)::k,s=>by simp only [Aev.ev];exact aG.const _
 | n+1,a, .code (.rangeFunc ..)::k,s=>by simp only [Aev.ev];exact aG.const _
 | n+1,a, .code (.scope _)::k,s=>by simp only [Aev.ev];exact aG.const _
 | n+1,a, .code (.refuse _)::k,s=>by simp only [Aev.ev];exact aG.const _
 | n+1,a, .inRegion ..::k,s=>by simp only [Aev.ev];exact aG.const _
 | n+1,a, .inScope _::k,s=>by simp only [Aev.ev];exact aG.const _
 | n+1,a, .inRangeFunc _::k,s=>by simp only [Aev.ev];exact aG.const _
 | n+1,a, .endRangeFunc _::k,s=>by simp only [Aev.ev];exact aG.const _
 | n+1,a, .beginRound::k,s=>by simp only [Aev.ev];exact aG.const _
 | n+1,a, .extern ..::k,s=>by simp only [Aev.ev];exact aG.const _
 | n+1,a, .call ..::k,s=>by simp only [Aev.ev];exact aG.const _
theorem aG.az(k:Key)(vs:List AV)(bs:List ab):aG (λO=>az P A O k vs bs):=by
 cases k with
 | call f=>
  simp only [Aev.az];cases A.ext f vs bs with
  | some r=>exact aG.const _
  | none=>
   dsimp only;cases P.funcs[f]? with
   | none=>exact aG.const _
   | some fn=>
    dsimp only;cases fn.body with
    | none=>exact aG.const _
    | some c=>exact aG.ite (aG.ev _ _ _ _) (aG.const _)
 | node f todo live m=>
  simp only [Aev.az];cases P.funcs[f]? with
  | none=>exact aG.const _
  | some fn=>
   dsimp only;split
   .exact aG.ev _ _ _ _
   .exact aG.ev _ _ _ _
theorem JZ:∀(n:Nat) {k:Key} {vs:List AV} {bs:List ab} {r:List T},jt P A n k vs bs=some r->jt P A (n+1) k vs bs=some r
 | 0,k,vs,bs,r,h=>by simp [jt] at h
 | n+1,k,vs,bs,r,h=>by obtain⟨L,e,g⟩:=aG.az (P:=P) (A:=A) k vs bs _ r h;exact g _ λq a=>JZ n (e q a)
theorem zN{n m:Nat}(a:n<=m){k:Key}{vs:List AV}{bs:List ab}{r:List T}(h:jt P A n k vs bs=some r):jt P A m k vs bs=some r:=by
 induction a with
 | refl=>exact h
 | step _ b=>exact JZ _ b
theorem RQ{n:Nat}{k:Key}{vs:List AV}{bs:List ab}{r:List T}(h:jt P A n k vs bs=some r):mW P A k vs bs=some r:=by unfold mW;have d:∃n r,jt P A n k vs bs=some r:=⟨n,r,h⟩;rw [dif_pos d];have e:=XX (XX d);have a:=zN (Nat.le_max_left n (Classical.choose d)) h;have b:=zN (Nat.le_max_right n (Classical.choose d)) e;rw [a] at b;exact b.symm
theorem al{k:Key}{vs:List AV}{bs:List ab}{r:List T}(h:az P A (mW P A) k vs bs=some r):mW P A k vs bs=some r:=by
 obtain⟨L,e,g⟩:=aG.az (P:=P) (A:=A) k vs bs _ r h;have:∃n,AH (jt P A n) L:=by
  clear g h;induction L with
  | nil=>exact⟨0,(by intro q a;cases a)⟩
  | cons q L f=>
   obtain⟨n,b⟩:=f λd a=>e d (Vc _ a);obtain⟨m,hm⟩:=J0 (e q Vb);refine⟨max n m,λd a=> ?_⟩;rcases Vo.1 a with rfl | a
   .exact zN (Nat.le_max_right _ _) hm
   .exact zN (Nat.le_max_left _ _) (b d a)
 obtain⟨n,b⟩:=this;exact RQ (n:=n+1) (g _ b)
end
open Go
section
variable {P:Program} {An:cM} {w w':World}
theorem xJ.below(k:xJ w w'):Go.RowKit.Below w.heap.size w w':=⟨k.os,k.tape,k.output,k.size,k.ah⟩
theorem MZ{f:FuncId}{fn:Func}{bg:List AV}{args:List Value}{A0:Nat->Prop}(r:oC P An)(hm:P.follows .mixedOrders=true)(y:∀(f:FuncId) (fn:Func),P.funcs[f]? =some fn->fn.name≠ "runtime.NumGoroutine")
  (k:P.funcs[f]? =some fn) (a:An.iP f=none) (g:dC P An f 0 fn= [.f .b]) (q:∀b,A0 b->b < w.heap.size) (d:aC w A0 (λ_=>none) bg args)
  (e:mW P An (.call f) bg []=some [.bool true]):Calls P f args.toArray w λe w'=>e= .returned (.bool true)/\Go.RowKit.Below w.heap.size w w':=by
 obtain⟨C,m,h1,_,_,o⟩:=RR r hm y f bg [] _ e;rw [k] at h1;simp only [U7] at h1;subst h1;refine(o.values a A0 w args q d).mono λe w' ⟨F,own,u,z,_,_,l⟩=> ?_;rw [g] at l;obtain⟨x,E,v,D,ob,B,i,rfl,_,p,e2,rfl,_⟩:=l;simp only [Xn] at i;obtain⟨rfl,rfl⟩:=i;obtain⟨_,j,_⟩:=p;simp only [aB] at j;subst j;exact⟨u,z.below⟩
end
open Go
abbrev I(n:Int):AV:= .t (.int .i64 n)
abbrev B(b:Bool):AV:= .t (.bool b)
theorem CJ{b R:Type}[Inhabited b](c:Option Bool)(a:b)(k:b->Option R):ae c (some a) k=k a:=by cases c <;> rfl
theorem bE{a R:Type}[Inhabited a](m:Option a)(k:a->Option R):ae (some false) m k=k (m.getD default):=by cases m <;> rfl
theorem IC{a:Type}(x:a)(l:List a):(x::l).head? =some x:=by cases l <;> rfl
theorem LA{a:Type}(x:a)(l:List a):(x::l).tail=l:=by cases l <;> rfl
theorem Gj{a:Type}(l:List a):l.drop 0=l:=by cases l <;> rfl
theorem Gk{a:Type}(x:a)(l:List a):(x::l).drop 1=l:=by cases l <;> rfl
theorem Gl{a:Type}(x y:a)(l:List a):(x::y::l).drop 2=l:=by cases l <;> rfl
theorem Gm{a:Type}(x y z:a)(l:List a):(x::y::z::l).drop 3=l:=by cases l <;> rfl
theorem Gn{a:Type}(x y z u:a)(l:List a):(x::y::z::u::l).drop 4=l:=by cases l <;> rfl
theorem Gp{a:Type}(x y z u v:a)(l:List a):(x::y::z::u::v::l).drop 5=l:=by cases l <;> rfl
theorem Gq{a:Type}(x y z u v t:a)(l:List a):(x::y::z::u::v::t::l).drop 6=l:=by cases l <;> rfl
theorem Fy(b:Bool):(T.bool b).bool? =some b:=by cases b <;> rfl
theorem CS(k:IntKind)(n:Int):(T.int k n).int? k=some n:=by cases k <;> simp [T.int?]
theorem Lo(s:ByteArray):(T.str s).bC =some s:=by cases s;rfl
theorem qP(sz:Nat)(b:Bool)(l:List (List T)):(T.aa sz b l).aQ sz=some (b,l):=by cases b <;> simp [T.aQ]
theorem cV(sz:Nat)(b:Bool):(T.aK b).aQ sz=some (b,[]):=by cases b <;> rfl
theorem Ke(l:List T):(T.ptr l).qY =some l:=by cases l <;> rfl
theorem H0(k:IntKind)(n:Int):(T.int k n).qG =some ():=by cases k <;> rfl
theorem HZ(b:Bool):(T.bool b).qG =some ():=by cases b <;> rfl
theorem Il(b:ByteArray):(T.str b).qG =some ():=by cases b;rfl
theorem uM{d:Type}(a b:d):cond true a b=a:=by simp
theorem yp{d:Type}(a b:d):cond false a b=b:=by simp
theorem JO:(!true)=false:=by decide
theorem JC:(!false)=true:=by decide
theorem E7(m:Option (List T)):bG none m=m:=by cases m <;> rfl
theorem E9(m:Option (List T)):bG (some true) m=m:=by cases m <;> rfl
theorem E8(m:Option (List T)):bG (some false) m=some []:=by cases m <;> rfl
theorem qm{d:Type}(p:Prop)[Decidable p](a b:d):(bif decide p then a else b)=if p then a else b:=by by_cases h:p <;> simp [h]
theorem F0{d:Type}(p:Prop)[Decidable p](a b:d):(bif !decide p then a else b)=if p then b else a:=by by_cases h:p <;> simp [h]
theorem FM{d:Type}(m n:Int)(a b:d):(bif m==n then a else b)=if m=n then a else b:=by
 by_cases h:m=n
 .simp [h]
 .have:(m==n)=false:=by simpa using h
  simp [h,this]
theorem FZ{d:Type}(m n:Int)(a b:d):(bif !m==n then a else b)=if m=n then b else a:=by
 by_cases h:m=n
 .simp [h]
 .have:(m==n)=false:=by simpa using h
  simp [h,this]
theorem eZ(a b:Bool):(bif a then b else false)= (a && b):=by cases a <;> simp
theorem jm(a b:Bool):(bif a then true else b)= (a || b):=by cases a <;> simp
theorem wr{v:Int}(h: -9223372036854775808<=v/\v < 9223372036854775808):i64.wrap v=v:=by simp [IntKind.wrap,IntKind.signed,IntKind.bits];omega
theorem ai:(type_of% @CJ)/\(type_of% @IC)/\(type_of% @LA)/\(type_of% @Gj)/\(type_of% @Gk)/\(type_of% @Gl)/\(type_of% @Gm)/\(type_of% @Gn)/\(type_of% @Gp)/\(type_of% @Gq)/\(type_of% @Fy)/\(type_of% @CS)/\(type_of% @Lo)/\(type_of% @qP)/\(type_of% @cV)/\(type_of% @Ke)/\(type_of% @H0)/\(type_of% @HZ)/\(type_of% @Il)/\(type_of% @uM)/\(type_of% @yp)/\(type_of% @JO)/\(type_of% @JC)/\(type_of% @E7)/\(type_of% @E9)/\(type_of% @E8)/\(type_of% @qm)/\(type_of% @F0)/\(type_of% @FM)/\(type_of% @FZ)/\(type_of% @beq_self_eq_true.{0})/\(type_of% @Yb)/\(type_of% @WS)/\(type_of% @WZ)/\(type_of% @YN):=⟨@CJ,@IC,@LA,@Gj,@Gk,@Gl,@Gm,@Gn,@Gp,@Gq,@Fy,@CS,@Lo,@qP,@cV,@Ke,@H0,@HZ,@Il,@uM,@yp,@JO,@JC,@E7,@E9,@E8,@qm,@F0,@FM,@FZ,@beq_self_eq_true.{0},@Yb,@WS,@WZ,@YN⟩
open Go Go.ChangeShapes Go.WideShapes Go.ChangeAt Go.RowKit
def wI(P:Program)(go:TypeId->Bool):List Field->Nat->Option Nat
 | [],off=>some off
 | f::r,off=>if f.offset=off/\go f.type=true then wI P go r (off+P.cellsOf f.type) else none
def jR(P:Program):Nat->TypeId->Bool
 | 0,_=>false
 | n+1,t=>match P.underlying t with
  | some .bool=>true
  | some (.int _)=>true
  | some .string=>true
  | some (.slice e)=>jR P n e && decide (0 < P.cellsOf e)
  | some (.struct a)=>decide (wI P (jR P n) a.toList 0=some (P.cellsOf t))
  | some (.array m e)=>jR P n e && decide (P.cellsOf t=m * P.cellsOf e)
  | _=>false
def x8(W:TypeId->List T->Prop):List Field->List T->Prop
 | [],ts=>ts= []
 | f::r,ts=>∃a b,ts=a++b/\W f.type a/\x8 W r b
def Be(W:List T->Prop):Nat->List T->Prop
 | 0,ts=>ts= []
 | m+1,ts=>∃a b,ts=a++b/\W a/\Be W m b
def Wt(P:Program):Nat->TypeId->List T->Prop
 | 0,_,_=>False
 | n+1,t,ts=>match P.underlying t with
  | some .bool=>∃b,ts= [.bool b]
  | some (.int k)=>∃m,ts= [.int k m]/\(Lit.int k m).wf=true
  | some .string=>∃s,ts= [.str s]/\s.size<=maxLen
  | some (.slice e)=>∃b xs,ts= [.aa (P.cellsOf e) b xs]/\(b=true->xs= [])/\xs.length<=maxLen/\(∀cs∈xs,Wt P n e cs)/\xs.length * P.bytesOf e<=reachBytes
  | some (.struct a)=>x8 (Wt P n) a.toList ts
  | some (.array m e)=>Be (Wt P n e) m ts
  | _=>False
section
variable {H:Type} {enc:TypeId×Value->H} {P:Program} {w:World} {base:Nat} {sp:Nat->Bool} {held:Bool}
def pT{H:Type}(P:Program)(t:TypeId)(d:DataW H):Prop:= ∀k∈DataW.weights P t d,k<=reachBytes
theorem EH{H:Type}{P:Program}{e:TypeId}:∀{l:List (DataW H)} {d:DataW H},d∈l->∀k∈DataW.weights P e d,k∈DataW.weightsAll P e l
 | [],d,h,k,_=>by cases h
 | c::l,d,h,k,a=>by
  simp only [DataW.weightsAll,Vr];rcases Vo.1 h with rfl | h
  .exact .inl a
  .exact .inr (EH h k a)
theorem L6{H:Type}{P:Program}{us:List TypeId}{b:List (DataW H)}{k:Nat}:∀{ts:List TypeId} {a:List (DataW H)},k∈DataW.weightsEach P ts a->k∈DataW.weightsEach P (ts++us) (a++b)
 | [],a,h=>by simp [DataW.weightsEach] at h
 | t::ts,[],h=>by simp [DataW.weightsEach] at h
 | t::ts,d::a,h=>by simp only [DataW.weightsEach,Vf,Vr] at h⊢;exact h.imp id L6
theorem aR.Bu{A:Nat->Prop}:∀{a b:List T} {vs us:List Value},aR w A a vs->aR w A b us->aR w A (a++b) (vs++us)
 | [],b,vs,us,h,h'=>by simp only [aR] at h;subst h;simpa using h'
 | c::a,b,vs,us,⟨v,r,e,h1,d⟩,h'=>by subst e;exact⟨v,r++us,rfl,h1,aR.Bu d h'⟩
theorem LG{n m:Nat}(o:∀(t:TypeId) (cs:List Value) (x:DataW H×List MemPlace),jR P n t=true->DataW.trod enc P w base sp held m t cs=some x->pT P t x.1->
   ∃ts,aR w (λb=>b < w.heap.size) ts cs/\Wt P n t ts) (cs:List Value):∀(i:List Field) (off E:Nat),wI P (jR P n) i off=some E->E<=cs.length->
   (∀f∈i,∃x,DataW.trod enc P w base sp held m f.type ((cs.drop f.offset).take (P.cellsOf f.type))=some x/\pT P f.type x.1)->
   off<=E/\∃ts,aR w (λb=>b < w.heap.size) ts ((cs.drop off).take (E - off))/\x8 (Wt P n) i ts
 | [],off,E,d,k,_=>by simp only [wI,U7] at d;subst d;exact⟨Vq _,[],by simp [aR],rfl⟩
 | f::i,off,E,d,k,l=>by
  simp only [wI] at d;split at d
  .rename_i q;obtain⟨p,e2⟩:=q;obtain⟨x,u,j⟩:=l f Vb;obtain⟨a,v,z⟩:=o _ _ _ e2 u j;obtain⟨C,b,y,B⟩:=LG o cs i _ E d k λg r=>l g (Vc _ r);refine⟨by omega,a++b, ?_,⟨a,b,rfl,z,B⟩⟩;have e:(cs.drop off).take (E - off)= (cs.drop f.offset).take (P.cellsOf f.type)++ (cs.drop (off+P.cellsOf f.type)).take (E - (off+P.cellsOf f.type)):=by
    rw [p,<-Zl];have:E - off=P.cellsOf f.type+ (E - (off+P.cellsOf f.type)):=by omega
    rw [this,List.take_add]
   rw [e];exact aR.Bu v y
  .cases d
theorem LH{n m e:Nat}(o:∀(t:TypeId) (cs:List Value) (x:DataW H×List MemPlace),jR P n t=true->DataW.trod enc P w base sp held m t cs=some x->pT P t x.1->
   ∃ts,aR w (λb=>b < w.heap.size) ts cs/\Wt P n t ts) (g:jR P n e=true):∀(k:Nat) (cs:List Value),cs.length=k * P.cellsOf e->
   (∀i,i < k->∃x,DataW.trod enc P w base sp held m e ((cs.drop (i * P.cellsOf e)).take (P.cellsOf e))=some x/\pT P e x.1)->∃ts,aR w (λb=>b < w.heap.size) ts cs/\Be (Wt P n e) k ts
 | 0,cs,f,_=>by have:cs= []:=Vt.1 (by simpa using f);subst this;exact⟨[],rfl,rfl⟩
 | k+1,cs,f,j=>by
  obtain⟨x,l,d⟩:=j 0 (Nat.zero_lt_succ _);simp only [Nat.zero_mul,Yo] at l;obtain⟨a,p,r⟩:=o _ _ _ g l d;obtain⟨b,q,u⟩:=LH o g k (cs.drop (P.cellsOf e)) (by rw [Xd,f,Wm];omega) λi hi=>by
   obtain⟨y,hy,d⟩:=j (i+1) (by omega);refine⟨y, ?_,d⟩;rw [Zl];have:P.cellsOf e+i * P.cellsOf e= (i+1) * P.cellsOf e:=by rw [Wm];omega
   rw [this];exact hy
  refine⟨a++b, ?_,⟨a,b,rfl,r,u⟩⟩;have:=aR.Bu p q;rwa [Yp] at this
theorem I7{A:Nat->Prop}{ah sz:Nat}{n e:Nat}:∀(len off:Nat),(∀i,i < len->∃ts a,ts.length=sz/\aR w A ts a/\Wt P n e ts/\∀j v,a[j]? =some v->w.cell? ⟨ah,off+i * sz+j,none⟩=some v)->
  ∃xs:List (List T),xs.length=len/\aZ w A ah sz off xs/\∀cs∈xs,Wt P n e cs
 | 0,off,_=>⟨[],rfl,trivial,(by intro c b;cases b)⟩
 | len+1,off,h=>by
  obtain⟨ts,a,h1,d,f,g⟩:=h 0 (Nat.zero_lt_succ _);obtain⟨xs,l,k2,m⟩:=I7 (A:=A) (ah:=ah) (sz:=sz) (n:=n) (e:=e) len (off+sz) λi hi=>by
   obtain⟨ts,a,h1,d,f,g⟩:=h (i+1) (by omega);refine⟨ts,a,h1,d,f,λj v k=> ?_⟩;have:=g j v k;have e:off+ (i+1) * sz+j=off+sz+i * sz+j:=by rw [Wm];omega
   rwa [e] at this
  refine⟨ts::xs,by simp [l],⟨h1,aX.lA d λj v k=> ?_,k2⟩,λc b=> ?_⟩
  .have:=g j v k;simpa using this
  .rcases Vo.1 b with rfl | b
   .exact f
   .exact m c b
theorem Ao:∀(n:Nat) (m:Nat) (t:TypeId) (cs:List Value) (x:DataW H×List MemPlace),jR P n t=true->DataW.trod enc P w base sp held m t cs=some x->pT P t x.1->
  ∃ts,aR w (λb=>b < w.heap.size) ts cs/\Wt P n t ts
 | 0,m,t,cs,x,g,_,_=>by simp [jR] at g
 | n+1,m,t,cs,x,g,h,l=>by
  simp only [jR] at g;split at g
  .rename_i d;obtain⟨b,rfl,_⟩:=DataW.trod_bool d h;exact⟨[.bool b],⟨_,[],rfl,rfl,rfl⟩,by simp only [Wt,d];exact⟨b,rfl⟩⟩
  .rename_i k d;obtain⟨z,rfl,_,X⟩:=DataW.trod_int d h;exact⟨[.int k z],⟨_,[],rfl,rfl,rfl⟩,by simp only [Wt,d];exact⟨z,rfl,X⟩⟩
  .rename_i d;obtain⟨s,rfl,_,X⟩:=DataW.trod_string d h;exact⟨[.str s],⟨_,[],rfl,rfl,rfl⟩,by simp only [Wt,d];exact⟨s,rfl,X⟩⟩
  .rename_i e d;simp only [Ve,decide_eq_true_eq] at g;obtain⟨V,B⟩:=g;rcases Go.Deep.open_slice d h with⟨rfl,_⟩ | ⟨a,len,cap,k,E,D,Pl,rfl,hb,U,hm,hk,rfl,L⟩
   .exact⟨[.aa (P.cellsOf e) true []],⟨_,[],rfl, .inl ⟨rfl,rfl,rfl⟩,rfl⟩,by simp only [Wt,d];exact⟨true,[],rfl,λ_=>rfl,by simp,(by intro c y;cases y),by simp⟩⟩
   .obtain⟨ah,off,s⟩:=a;have hlk:len<=k:=by rw [hk];split <;> omega
    dsimp only at l;have N:len * P.bytesOf e<=reachBytes:=by have:=l ((len+ (k - len)) * P.bytesOf e) (by simp [DataW.weights,d]);exact VO (V5 _ (XP _ _)) this
    have J:∀i,i < len->pT P e (D i):=λi hi q C=>l q (by
     simp only [DataW.weights,d,Vo,Vr];exact .inr (.inl (EH (VK.2 ⟨i,Xi.2 hi,rfl⟩) q C)))
    have G: 0 < len->s=none/\ah < w.heap.size:=by
     intro h0;obtain⟨u,y,_⟩:=L 0 (by omega);obtain⟨I,r,p⟩:=World.cells?_some y;have K:=World.cells?_block y B;have o:=p 0 B;have M:((⟨ah,off,s⟩:Addr).add (0 * P.cellsOf e)).add 0= ⟨ah,off,s⟩:=by simp [Addr.add]
     rw [M] at o;have Z:∃v,u[0]? =some v:=⟨_,Vd (by omega)⟩;obtain⟨v,hv⟩:=Z;rw [hv] at o;refine⟨?_, ?_⟩
     .cases s with
      | none=>rfl
      | some z=>simp only [World.cell?] at o;split at o <;> simp at o
     .have e:((⟨ah,off,s⟩:Addr).add (0 * P.cellsOf e))= ⟨ah,off,s⟩:=by simp [Addr.add]
      rw [e] at K;exact K
    obtain⟨xs,k1,k2,k3⟩:=I7 (P:=P) (w:=w) (A:=λb=>b < w.heap.size) (ah:=ah) (sz:=P.cellsOf e) (n:=n) (e:=e) len off λi hi=>by
     obtain⟨u,y,hd⟩:=L i (by omega);obtain⟨hs,_⟩:=G (by omega);subst hs;obtain⟨ts,r1,F⟩:=Ao n E e u _ V hd (J i (by omega));obtain⟨I,r,p⟩:=World.cells?_some y;refine⟨ts,u,by rw [<-r1.length,r],r1,F,λj v hj=> ?_⟩;have hj':j < P.cellsOf e:=by rw [<-r];exact(Vi.1 hj).1
     have:=p j hj';rw [hj,hZ,hZ] at this;exact this
    refine⟨[.aa (P.cellsOf e) false xs],⟨_,[],rfl, .inr ⟨rfl,ah,off,s,cap,by rw [k1],by omega, ?_,k2⟩,rfl⟩,by simp only [Wt,d];exact⟨false,xs,rfl,λh=>(by cases h),by omega,k3,by rw [k1];exact N⟩⟩;by_cases h0:len=0
    .left;exact Vt.1 (by omega)
    .right;exact G (by omega)
  .rename_i Y d;simp only [decide_eq_true_eq] at g;obtain⟨xs,E,rfl,rfl,U,hsz,Q⟩:=DataW.trod_struct d h;dsimp only at l;obtain⟨_,ts,r1,F⟩:=LG (λt cs x=>Ao n E t cs x) cs Y.toList 0 _ g (by omega) λf hf'=>by
    obtain⟨i,hi,e⟩:=WB hf';have e':Y.toList[i]? =some f:=by rw [Vd hi,e]
    have:=Q i f (by rw [<-Wl];exact e');rw [this];have hx:xs[i]? =some (xs[i]'(by simp at hi;omega)):=Vd (by simp at hi;omega);refine⟨_,hx,λq C=>l q ?_⟩;simp only [DataW.weights,d];exact DataW.weights_mem_each (j:=i) (by rw [VZ,e'];rfl) (by rw [VZ,hx];rfl) q C
   refine⟨ts, ?_,by simp only [Wt,d];exact F⟩;simp only [Yo,Wq] at r1;rwa [<-U,XE] at r1
  .rename_i m' e d;simp only [Ve,decide_eq_true_eq] at g;obtain⟨xs,E,rfl,rfl,U,hsz,Q⟩:=DataW.trod_array d h;dsimp only at l;obtain⟨ts,r1,F⟩:=LH (λt cs x=>Ao n E t cs x) g.1 m' cs (by omega) λi hi=>by
    rw [Q i hi];refine⟨_,Vd (by omega),λq C=>l q ?_⟩;simp only [DataW.weights,d];exact EH (VK.2 ⟨_,WT _,rfl⟩) q C
   exact⟨ts,r1,by simp only [Wt,d];exact F⟩
  .cases g
end
def wR(P:Program)(n:Nat):List TypeId->List AV->Prop
 | [],as=>as= []
 | t::ts,as=>∃a r,as=a::r/\((bp P t=true/\∃l,Wt P n t l/\a= .agg (l.map .t))\/(bp P t=false/\∃x,Wt P n t [x]/\a= .t x))/\wR P n ts r
section
variable {H:Type} {enc:TypeId×Value->H} {P:Program} {W W':World} {sp:Nat->Bool} {held:Bool}
theorem RN{n:Nat}{t:TypeId}{v:Value}{d:DataW H}{E:List MemPlace}{r:Reach}{C base:Nat}(o:jR P (n+1) t=true)(f:Value.okWide P W r C t v)(h:DataW.Trod enc P W base sp held t v d E)(p:pT P t d):
  ∃a,((bp P t=true/\∃l,Wt P (n+1) t l/\a= .agg (l.map .t))\/(bp P t=false/\∃x,Wt P (n+1) t [x]/\a= .t x))/\an W (λb=>b < W.heap.size) (λ_=>none) a v:=by
 obtain⟨m,hm⟩:=h;obtain⟨ts,r1,B⟩:=Ao (n+1) m t _ _ o hm p;have j:bp P t=false->v.cells= #[v]->∃a,((bp P t=true/\∃l,Wt P (n+1) t l/\a= .agg (l.map .t))\/(bp P t=false/\∃x,Wt P (n+1) t [x]/\a= .t x))/\an W (λb=>b < W.heap.size) (λ_=>none) a v:=by
  intro h1 D;rw [D] at r1
  match ts,r1 with
  | [],r1=>simp [aR] at r1
  | [x],⟨u,q,e,g,_⟩=>simp only [Xn] at e;obtain⟨rfl,_⟩:=e;exact⟨.t x, .inr ⟨h1,x,B,rfl⟩,by simpa [an] using g⟩
  | x::y::z,⟨u,q,e,_,⟨J,I,e',_⟩⟩=>subst e';simp at e
 have agg:bp P t=true->(∃cs,v= .agg cs)->∃a,((bp P t=true/\∃l,Wt P (n+1) t l/\a= .agg (l.map .t))\/(bp P t=false/\∃x,Wt P (n+1) t [x]/\a= .t x))/\an W (λb=>b < W.heap.size) (λ_=>none) a v:=by rintro h1 ⟨cs,rfl⟩;refine⟨.agg (ts.map .t), .inl ⟨h1,ts,B,rfl⟩, ?_⟩;simp only [an];exact⟨cs.toList,by simp,aC.mn r1,r1.one⟩
 simp only [jR] at o;split at o
 .rename_i i;simp only [Value.okWide,i,Cell.okWide] at f;refine j (by simp [bp,i]) ?_;cases v <;> first | rfl | (simp [Cell.ok,i] at f)
 .rename_i k i;simp only [Value.okWide,i,Cell.okWide] at f;refine j (by simp [bp,i]) ?_;cases v <;> first | rfl | (simp [Cell.ok,i] at f)
 .rename_i i;simp only [Value.okWide,i,Cell.okWide] at f;refine j (by simp [bp,i]) ?_;cases v <;> first | rfl | (simp [Cell.ok,i] at f)
 .rename_i e i;simp only [Value.okWide,i,Cell.okWide] at f;refine j (by simp [bp,i]) ?_;cases v <;> first | rfl | (simp [Cell.ok,i] at f)
 .rename_i F i;simp only [Value.okWide,i] at f;obtain⟨cs,e,_⟩:=f;exact agg (by simp [bp,i]) ⟨cs,e⟩
 .rename_i G e i;simp only [Value.okWide,i] at f;obtain⟨cs,e,_⟩:=f;exact agg (by simp [bp,i]) ⟨cs,e⟩
 .cases o
theorem JW{n:Nat}{r:Reach}{y base:Nat}:∀{ts:List TypeId} {vs:List Value} {i:List (DataW H)} {m:List MemPlace},ts.all (jR P (n+1))=true->(∀(j:Nat) (t:TypeId) (v:Value),ts[j]? =some t->vs[j]? =some v->Value.okWide P W r y t v)->
  DataW.TrodAll enc P W base sp held ts vs i m->(∀k∈DataW.weightsEach P ts i,k<=reachBytes)->∃as,wR P (n+1) ts as/\aC W (λb=>b < W.heap.size) (λ_=>none) as vs
 | [],vs,i,m,_,_,h,_=>by obtain⟨rfl,_,_⟩:=trodAll_nil h;exact⟨[],rfl,by simp [aC]⟩
 | t::ts,vs,i,m,f,g,h,e=>by simp only [WV,Ve] at f;obtain⟨v,x,d,G,p,q,rfl,rfl,rfl,h1,z⟩:=trodAll_cons h;obtain⟨a,B,C⟩:=RN f.1 (g 0 t v rfl rfl) h1 (λk l=>e k (by simp only [DataW.weightsEach,Vr];exact .inl l));obtain⟨as,o,u⟩:=JW f.2 (λj E F D hv=>g (j+1) E F (by simpa using D) (by simpa using hv)) z (λk l=>e k (by simp only [DataW.weightsEach,Vr];exact .inr l));exact⟨a::as,⟨a,as,rfl,B,o⟩,by simp only [aC];exact⟨v,x,rfl,C,u⟩⟩
theorem K8(j:laidOutB P=true)(hb:Below W.heap.size W W'):∀{ts:List TypeId} {vs:List Value} {e:List (DataW H)} {a:List MemPlace},(ts.all λt=>P.readableRec t && decide (t < P.types.size))=true->
  DataW.TrodAll enc P W 0 (λ_=>true) true ts vs e a->(∀x∈a,x.block < W.heap.size)->DataW.TrodAll enc P W' 0 (λb=>decide (b < W.heap.size)) true ts vs e a
 | [],vs,e,a,_,h,_=>by obtain⟨rfl,rfl,rfl⟩:=trodAll_nil h;exact trodAll_mk0
 | t::ts,vs,e,a,f,h,g=>by simp only [WV,Ve,decide_eq_true_eq] at f;obtain⟨v,m,d,l,p,q,rfl,rfl,rfl,h1,k⟩:=trodAll_cons h;exact trodAll_cons_mk (Below.trod j f.1.1 f.1.2 h1 hb λx i=>g x (Vn _ i)) (K8 j hb (by simpa using f.2) k λx i=>g x (Vp _ i))
theorem MC(hb:Below W.heap.size W W')(a:MemPlace->Prop):W.keptBut W' a:=by
 refine⟨hb.os,hb.output,λi hi=> ?_⟩;rw [hb.block i hi];cases W.heap[i]? with
 | none=>rfl
 | some o=>cases o <;> first | exact⟨rfl,rfl,rfl,λ_ _=>rfl⟩ | exact .inr ⟨rfl,rfl⟩ | rfl
theorem law_contract{n:Nat}{fn:Func}{s:ChangeSpec}{An:cM}{f:FuncId}{tb:TypeId}(hm:P.follows .mixedOrders=true)(hn:(P.funcs.toList.all λfn=>fn.name != "runtime.NumGoroutine")=true)(hl:laidOutB P=true)
  (M:P.funcs[f]? =some fn) (G:An.iP f=none) (I:dC P An f 0 fn= [.f .b]) (X:P.underlying tb=some .bool) (V:fn.resultTypes= #[tb])
  (C:fn.params.toList.all (jR P (n+1))=true) (l:(fn.params.toList.all λt=>P.readableRec t && decide (t < P.types.size))=true)
  (m:s.vars= []) (B:∀(a:List (DataW H)),a.length=fn.params.toList.length->s.fn H a= {results:= [.lit (.bool true)],args:=a})
  (g:∀as,wR P (n+1) fn.params.toList as->mW P An (.call f) as []=some [.bool true])
  (W:World) (base:Nat) (args:Array Value) (a J:List (DataW H)) (r:List MemPlace) (z:∀(j:Nat) t v,fn.params[j]? =some t->args[j]? =some v->Value.okWide P W .any base t v)
  (K:DataW.Whole enc P fn.params.toList s.vars false W args.toList a J r)
  (D:(DataW.weightsEach P (fn.params.toList++s.plain.varTypes P) (a++J)).all (· <=reachBytes)=true)
  (Z:oC P An:=by exact Go.Aev.oC.no λ_ _ _=>rfl):
  Calls P f args W λe W'=>∃v,e= .returned v/\s.post enc P fn false true false false W args v W':=by
 have u:=K;obtain⟨p,q,o,E,rfl,hz,N⟩:=K;rw [m] at E;obtain⟨rfl,rfl⟩:=trodVars_none E;obtain⟨as,L,U⟩:=JW C (λj t v ht hv=>z j t v (by rw [<-Wl];exact ht) (by rw [<-Wl];exact hv)) o (λk hk=>by simpa using Vu.1 D k (L6 hk));have F:a.length=fn.params.toList.length:=by
  clear u U L z hz N E l C g D;generalize fn.params.toList=ts at o;generalize args.toList=vs at o;induction ts generalizing vs a p with
  | nil=>obtain⟨_,rfl,_⟩:=trodAll_nil o;rfl
  | cons t ts ih=>obtain⟨v,vs',d,ds',p',q',_,rfl,_,_,Y⟩:=trodAll_cons o;simp [ih _ _ _ Y]
 have Q:∀(f:FuncId) (fn:Func),P.funcs[f]? =some fn->fn.name≠ "runtime.NumGoroutine" :=by intro f fn h;have:=Vu.1 hn fn (Va (i:=f) (by rw [Wl];exact h));simpa using this
 have:=MZ (w:=W) (A0:=λb=>b < W.heap.size) Z hm Q M G I (λ_ h=>h) U (g as L);rw [show args.toList.toArray=args from by simp] at this;refine this.mono λe W' ⟨he,hb⟩=>⟨.bool true,he, ?_⟩;have y:=B a F;refine⟨a,[],p++ [],[],p,[],u, ?_, ?_, ?_,MC hb _,λh=>by cases h⟩
 .rw [We,y,V];exact trodAll_cons_mk (shut_bool X true) trodAll_mk0
 .rw [We,y];exact K8 hl hb l o (λx hx=>u.lt x (by simpa using hx))
 .rw [We,y,m];rfl
end
section
variable {P:Program} {n:Nat} {t:TypeId} {ts:List T}
theorem UZ{k:IntKind}(a:P.underlying t=some (.int k))(h:Wt P (n+1) t ts):∃m,ts= [.int k m]/\(Lit.int k m).wf=true:=by simpa only [Wt,a] using h
theorem U3{a:Array Field}(b:P.underlying t=some (.struct a))(h:Wt P (n+1) t ts):x8 (Wt P n) a.toList ts:=by simpa only [Wt,b] using h
theorem U1{e:TypeId}(a:P.underlying t=some (.slice e))(h:Wt P (n+1) t ts):∃b xs,ts= [.aa (P.cellsOf e) b xs]/\(b=true->xs= [])/\xs.length<=maxLen/\(∀cs∈xs,Wt P n e cs)/\xs.length * P.bytesOf e<=reachBytes:=by simpa only [Wt,a] using h
theorem EJ{j:Type}(g:j->List T){e:TypeId}(q:P.underlying t=some (.slice e))(h:Wt P (n+1) t ts)(o:∀cs,Wt P n e cs->∃a,cs=g a):
  ∃b l,ts= [.aa (P.cellsOf e) b (l.map g)]/\(b=true->l= [])/\l.length<=maxLen/\l.length * P.bytesOf e<=reachBytes:=by
 obtain⟨b,xs,rfl,h1,d,f,i⟩:=U1 q h;have:∃l:List j,xs=l.map g:=by
  clear h1 d h i;induction xs with
  | nil=>exact⟨[],rfl⟩
  | cons c xs r=>obtain⟨a,k⟩:=o c (f c Vb);obtain⟨l,p⟩:=r λcs m=>f cs (Vc _ m);exact⟨a::l,by rw [k,p];rfl⟩
 obtain⟨l,rfl⟩:=this;exact⟨b,l,rfl,λhb=>by simpa using h1 hb,by simpa using d,by simpa using i⟩
theorem U0{k:Type}(g:k->List T){e:TypeId}(j:P.underlying t=some (.slice e))(h:Wt P (n+1) t ts)(i:∀cs,Wt P n e cs->∃a,cs=g a):
  ∃b l,ts= [.aa (P.cellsOf e) b (l.map g)]/\(b=true->l= [])/\l.length<=maxLen:=by
 obtain⟨b,l,h1,d,f,_⟩:=EJ g j h i;exact⟨b,l,h1,d,f⟩
theorem Mw{a:AV}(h:(bp P t=true/\∃l,Wt P n t l/\a= .agg (l.map .t))\/(bp P t=false/\∃x,Wt P n t [x]/\a= .t x))(hb:bp P t=true):∃l,Wt P n t l/\a= .agg (l.map .t):=by
 rcases h with h | h
 .exact h.2
 .rw [hb] at h;cases h.1
theorem Bv{a:AV}(h:(bp P t=true/\∃l,Wt P n t l/\a= .agg (l.map .t))\/(bp P t=false/\∃x,Wt P n t [x]/\a= .t x))(hb:bp P t=false):∃x,Wt P n t [x]/\a= .t x:=by
 rcases h with h | h
 .rw [hb] at h;cases h.1
 .exact h.2
end
end Go.Aev
