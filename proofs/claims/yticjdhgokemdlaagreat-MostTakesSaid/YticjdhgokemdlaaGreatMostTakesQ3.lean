import Derived.Test.YticjdhgokemdlaaGreatMostTakesQ2
import Derived.MapKept
import Derived.ChangeMaps5
set_option linter.unusedSimpArgs false
set_option linter.unusedVariables false
namespace Go.Aev
open Go
section
variable {P:Program} {w w':World} {A A':Nat->Prop} {c:Ctx} {ρ:Id->Option Value} {O:Id->Option Nat} {s:St} {cc:Option Bool} {h:Id->Option Blk}
def co(ρ:Id->Option Value)(i i':Id)(nx:Nat)(v vk:Value):Id->Option Value:=fun x=>
 if x=i' then some v else match x with
  | .g y n=>if y=i' then(if n=nx then some vk else ρ (.g i n)) else ρ (.g y n)
  | x=>ρ x
def bu(O:Id->Option Nat)(i i' j src:Id)(nx:Nat)(ob:Option Nat):Id->Option Nat:=fun x=>
 if x=i' then ob else if x=i\/x=j\/x=src then none else match x with
  | .g y n=>if y=i' then(if n=nx then O src else O (.g i n)) else if y=i then none else O (.g y n)
  | x=>O x
def kQ(i i' j src:Id)(nx:Nat):Id->Option Id:=fun x=>
 if x=i' then some i else if x=i\/x=j\/x=src then none else match x with
  | .g y n=>if y=i' then(if n=nx then some src else some (.g i n)) else if y=i then none else some (.g y n)
  | x=>some x
def fd(i i' src:Id)(nx:Nat):Id->Id:=fun z=>
 if z=i then i' else if z=src then .g i' nx else match z with
  | .g y n=>if y=i then .g i' n else .g y n
  | z=>z
theorem oC{i i' j src:Id}{nx:Nat}(hsi:src≠i)(hsg:∀n,src≠ .g i n)(hir:i.real=true){x z:Id}(hx:kQ i i' j src nx x=some z):fd i i' src nx z=x:=by
 unfold kQ at hx
 split at hx
 ·rename_i h;simp only [Option.some.injEq] at hx;subst hx
  unfold fd;rw [if_pos rfl,h]
 ·rename_i h1
  split at hx
  ·cases hx
  ·rename_i h2
   have h3:x≠i:=fun e=>h2 (.inl e)
   have h4:x≠src:=fun e=>h2 (.inr (.inr e))
   cases x with
   | g y n=>
    dsimp only at hx
    split at hx
    ·rename_i e;subst e
     split at hx
     ·rename_i e2;simp only [Option.some.injEq] at hx;subst hx
      unfold fd;rw [if_neg hsi,if_pos rfl,e2]
     ·simp only [Option.some.injEq] at hx;subst hx
      unfold fd
      rw [if_neg (ai hir),if_neg (fun e=>hsg n e.symm)]
      simp
    ·split at hx
     ·cases hx
     ·rename_i e3
      simp only [Option.some.injEq] at hx;subst hx
      unfold fd
      rw [if_neg h3,if_neg h4]
      simp [e3]
   | c a=>
    simp only [Option.some.injEq] at hx;subst hx
    unfold fd;rw [if_neg h3,if_neg h4]
   | s d a=>
    simp only [Option.some.injEq] at hx;subst hx
    unfold fd;rw [if_neg h3,if_neg h4]
theorem zr{i i' j src:Id}{nx:Nat}{ob:Option Nat}{x:Id}{d:Nat}(hx:bu O i i' j src nx ob x=some d):(x=i'/\ob=some d)\/(x≠i'/\∃z,kQ i i' j src nx x=some z/\O z=some d):=by
 unfold bu at hx
 unfold kQ
 split at hx
 ·exact .inl ⟨by assumption,hx⟩
 ·rename_i h1
  right
  refine⟨h1, ?_⟩
  rw [if_neg h1]
  split at hx
  ·cases hx
  ·rename_i h2
   rw [if_neg h2]
   cases x with
   | g y n=>
    dsimp only at hx⊢
    split at hx
    ·rename_i e
     rw [if_pos e]
     split at hx
     ·rename_i e2;rw [if_pos e2];exact⟨_,rfl,hx⟩
     ·rename_i e2;rw [if_neg e2];exact⟨_,rfl,hx⟩
    ·rename_i e
     rw [if_neg e]
     split at hx
     ·cases hx
     ·rename_i e3;rw [if_neg e3];exact⟨_,rfl,hx⟩
   | c a=>exact⟨_,rfl,hx⟩
   | s d a=>exact⟨_,rfl,hx⟩
theorem HS.pushRow{i i' j src s0:Id}{b:Bool}{sz col rsz nx:Nat}{es:List Row}{l:List T}{bb:Bool}{xs:List (List T)}{vk:Value}{X:Blk}{blk blk' off off' cap':Nat}{arr':Array Value}{t':TypeId}{ob:Option Nat}{news:List Value}
  (hs:HS c w h ρ O) (hi:h i=some (.rows b sz col rsz nx es)) (hi':h i'=none) (hrl:i'.real=true) (hj:h j≠none) (hji:j≠i) (hs0:h s0≠none) (hs0i:s0≠i) (hs0j:s0≠j)
  (hsrc:src=s0\/∃n,src= .g s0 n) (hvk:ρ src=some vk) (hsl:SlAt w (AA c w O) rsz bb xs vk (fun d=>O src=some d))
  (hos:w'.os=w.os) (ho:w'.output=w.output) (htp:w'.tape=w.tape) (hsz:w.heap.size<=w'.heap.size) (hkeep:∀k,k < w.heap.size->O i≠some k->w'.heap[k]? =w.heap[k]?)
  (hob:ob=O i\/(ob=some w.heap.size/\w.heap.size < w'.heap.size)) (hobs:ob=some blk') (hb:w'.heap[blk']? =some (.cells arr' t' (0,0))) (hfit:off'+cap' * sz<=arr'.size) (hcap:es.length+1<=cap')
  (hrows:RowsAt w (AA c w O) ρ O i blk sz col rsz off es) (hold:∀p,p < es.length * sz->w'.cell? ⟨blk',off'+p,none⟩=w.cell? ⟨blk,off+p,none⟩)
  (hcol:col < sz) (hl:l.length=sz) (hnew:∀p v,news[p]? =some v->w'.cell? ⟨blk',off'+es.length * sz+p,none⟩=some v) (hnr:∀m x,m≠col->l[m]? =some x->∃v,news[m]? =some v/\RelT w (AA c w O) x v) (hnk:news[col]? =some vk)
  (hX:(∀b,AA c w O b->AA c w' (bu O i i' j src nx ob) b/\w'.heap[b]? =w.heap[b]?)->RelB w' (AA c w' (bu O i i' j src nx ob)) (co ρ i i' nx (.slice (some ⟨blk',off',none⟩) (es.length+1) cap') vk) (bu O i i' j src nx ob) s0 X):
  Le w ρ O w' (co ρ i i' nx (.slice (some ⟨blk',off',none⟩) (es.length+1) cap') vk) (bu O i i' j src nx ob)/\
  HS c w' (upd (upd (upd (upd h i (some .dead)) j (some .dead)) s0 (some X)) i' (some (.rows false sz col rsz (nx+1) (es++ [⟨nx,l,some (bb,xs)⟩])))) (co ρ i i' nx (.slice (some ⟨blk',off',none⟩) (es.length+1) cap') vk) (bu O i i' j src nx ob):=by
 have hri:=hs.real (i:=i) (by rw [hi];simp)
 have hrj:=hs.real hj
 have hr0:=hs.real hs0
 have hii:i'≠i:=fun e=>by rw [e,hi] at hi';cases hi'
 have hij:i'≠j:=fun e=>hj (e▸hi')
 have hi0:i'≠s0:=fun e=>hs0 (e▸hi')
 have hsi:src≠i:=by
  rcases hsrc with rfl | ⟨n,rfl⟩
  ·exact hs0i
  ·exact ai hri
 have hsj:src≠j:=by
  rcases hsrc with rfl | ⟨n,rfl⟩
  ·exact hs0j
  ·exact ai hrj
 have hsi':src≠i':=by
  rcases hsrc with rfl | ⟨n,rfl⟩
  ·exact hi0.symm
  ·exact ai hrl
 have hsg:∀n,src≠ .g i n:=by
  intro n
  rcases hsrc with rfl | ⟨m,rfl⟩
  ·exact(ai hr0).symm
  ·intro e;simp only [Id.g.injEq] at e;exact hs0i e.1
 have hsg':∀n,src≠ .g i' n:=by
  intro n
  rcases hsrc with rfl | ⟨m,rfl⟩
  ·exact(ai hr0).symm
  ·intro e;simp only [Id.g.injEq] at e;exact hi0 e.1.symm
 obtain⟨a,cap,r1,r2,r3,⟨n1,n2,n3,n4⟩,r5⟩:=hs.blk i _ hi
 obtain⟨V,hV⟩:∃V,V=co ρ i i' nx (.slice (some ⟨blk',off',none⟩) (es.length+1) cap') vk:=⟨_,rfl⟩
 obtain⟨Q,hQ⟩:∃Q,Q=bu O i i' j src nx ob:=⟨_,rfl⟩
 rw [<-hV,<-hQ] at hX⊢
 have V1:V i'=some (.slice (some ⟨blk',off',none⟩) (es.length+1) cap'):=by rw [hV];unfold co;rw [if_pos rfl]
 have V2:∀x,x.real=true->x≠i'->V x=ρ x:=by
  intro x hr hx
  rw [hV];unfold co;rw [if_neg hx]
  cases x with
  | g y n=>cases hr
  | _=>rfl
 have V3:∀y n,y≠i'->V (.g y n)=ρ (.g y n):=by
  intro y n hy
  rw [hV];unfold co;rw [if_neg (ai hrl)];simp only [if_neg hy]
 have V4:∀n,V (.g i' n)=if n=nx then some vk else ρ (.g i n):=by
  intro n
  rw [hV];unfold co;rw [if_neg (ai hrl)];simp
 have Q1:Q i'=ob:=by rw [hQ];unfold bu;rw [if_pos rfl]
 have Q0:∀x,x≠i'->(x=i\/x=j\/x=src)->Q x=none:=by
  intro x hx h2
  rw [hQ];unfold bu;rw [if_neg hx,if_pos h2]
 have Q2:∀x,x.real=true->x≠i'->x≠i->x≠j->x≠src->Q x=O x:=by
  intro x hr hx h1 h2 h3
  rw [hQ];unfold bu;rw [if_neg hx,if_neg (by rintro(h | h | h) <;> contradiction)]
  cases x with
  | g y n=>cases hr
  | _=>rfl
 have Q3:∀y n,y≠i'->y≠i->Id.g y n≠src->Q (.g y n)=O (.g y n):=by
  intro y n hy hy2 h3
  rw [hQ];unfold bu;rw [if_neg (ai hrl),if_neg (by rintro(h | h | h);exact ai hri h;exact ai hrj h;exact h3 h)];simp only [if_neg hy,if_neg hy2]
 have Q4:∀n,Q (.g i' n)=if n=nx then O src else O (.g i n):=by
  intro n
  rw [hQ];unfold bu;rw [if_neg (ai hrl),if_neg (by rintro(h | h | h);exact ai hri h;exact ai hrj h;exact hsg' n h.symm)];simp
 have dec:∀x d,Q x=some d->(x=i'/\ob=some d)\/(x≠i'/\∃z,kQ i i' j src nx x=some z/\O z=some d):=fun x d hx=>zr (by rw [<-hQ];exact hx)
 have le:Le w ρ O w' V Q:=by
  refine⟨hos,ho,htp,hsz,fun x u hx=> ?_,fun d hd hn=>hkeep d hd (hn i),fun x d hx=> ?_⟩
  ·cases hr:x.real with
   | true=>
    have:x≠i':=fun e=>by rw [e,(hs.nodom i' hrl hi').1] at hx;cases hx
    rw [V2 x hr this];exact hx
   | false=>
    cases x with
    | g y n=>
     have:y≠i':=fun e=>by rw [e,(hs.gdom i' n hi').1] at hx;cases hx
     rw [V3 y n this];exact hx
    | _=>cases hr
  ·rcases dec x d hx with⟨_,h1⟩ | ⟨_,z,_,h2⟩
   ·rcases hob with e | ⟨e,_⟩
    ·exact .inl ⟨i,by rw [<-e];exact h1⟩
    ·rw [e] at h1;cases h1;exact .inr (Nat.le_refl _)
   ·exact .inl ⟨z,h2⟩
 have hA:∀d,AA c w O d->AA c w' Q d/\w'.heap[d]? =w.heap[d]?:=fun d hd=>le.A d hd
 have keepO:∀x d,x≠i->O x=some d->w'.heap[d]? =w.heap[d]?:=fun x d hx hd=>hkeep d (hs.lt x d hd) fun e=>hx (hs.inj x i d hd e)
 refine⟨le,hs.goG le (fun x y hx=> ?_) (fun x hr hx=> ?_) (fun x n=> ?_) (fun x n hx=> ?_) (fun x n u hu=> ?_) (fun x y d hx hy=> ?_) (fun x d hx=> ?_)⟩
 ·by_cases e1:x=i'
  ·subst e1;rw [upd_same] at hx;cases hx
   right
   have hlen:(es++ [(⟨nx,l,some (bb,xs)⟩:Row)]).length=es.length+1:=by simp
   refine⟨some ⟨blk',off',none⟩,cap',by rw [hlen];exact V1,by rw [hlen];exact hcap,by simp,⟨?_,fun f hf=> ?_,fun n hn=> ?_,fun n d hd=> ?_⟩, .inr ⟨blk',off',arr',t',rfl,by rw [Q1];exact hobs,hb,hfit,RowsAt.append ?_ ⟨?_,trivial⟩⟩⟩
   ·rw [List.map_append,List.nodup_append]
    refine⟨n1,by simp,fun a ha b hb=> ?_⟩
    simp only [List.map_cons,List.map_nil,List.mem_singleton] at hb
    obtain⟨f,hf,e⟩:=List.mem_map.1 ha
    have:=n2 f hf
    omega
   ·rcases List.mem_append.1 hf with hf | hf
    ·have:=n2 f hf;omega
    ·simp only [List.mem_singleton] at hf;subst hf;simp
   ·rw [V4,if_neg (by omega)];exact n3 n (by omega)
   ·rw [Q4] at hd
    by_cases en:n=nx
    ·exact⟨_,List.mem_append_right _ (List.mem_singleton.2 rfl),en.symm⟩
    ·rw [if_neg en] at hd
     obtain⟨f,hf,hfn⟩:=n4 n d hd
     exact⟨f,List.mem_append_left _ hf,hfn⟩
   ·refine RowsAt.move hA hold (fun f hf=> ?_) hrows
    have hne:f.n≠nx:=by have:=n2 f hf;omega
    exact⟨by rw [V4,if_neg hne],by rw [Q4,if_neg hne],fun d hd=>keepO _ d (ai hri) hd⟩
   ·refine⟨hl,hcol,fun m y hm hy=> ?_,vk,hnew col vk hnk,by rw [V4];simp, ?_⟩
    ·obtain⟨v,g1,g2⟩:=hnr m y hm hy
     exact⟨v,hnew m v g1,RelT.mono hA y v g2⟩
    ·simp only
     refine SlAt.mono hA (fun d hd=> ?_) hsl
     rw [Q4]
     exact⟨by simpa using hd,keepO src d hsi hd⟩
  ·rw [ab _ _ e1] at hx
   by_cases e2:x=s0
   ·subst e2;rw [upd_same] at hx;cases hx;exact .inr (hX hA)
   ·rw [ab _ _ e2] at hx
    by_cases e3:x=j
    ·subst e3;rw [upd_same] at hx;cases hx
     obtain⟨y,hy⟩:=Option.ne_none_iff_exists'.1 hj
     have:∃u,ρ x=some u:=by
      cases hρ:ρ x with
      | some u=>exact⟨u,rfl⟩
      | none=>
       exfalso
       have:=hs.blk x y hy
       cases y with
       | box cs=>obtain⟨b,_,_,h1,_⟩:=this;rw [hρ] at h1;cases h1
       | sl fz sz b xs=>obtain⟨v,h1,_⟩:=this;rw [hρ] at h1;cases h1
       | fbox l=>obtain⟨b,h1,_⟩:=this;rw [hρ] at h1;cases h1
       | mp ag ks vk es=>obtain⟨b,_,_,h1,_⟩:=this;rw [hρ] at h1;cases h1
       | arr cs=>obtain⟨b,_,_,h1,_⟩:=this;rw [hρ] at h1;cases h1
       | rows _ _ _ _ _ _=>obtain⟨_,_,h1,_⟩:=this;rw [hρ] at h1;cases h1
       | dead=>obtain⟨⟨v,h1,_⟩,_⟩:=this;rw [hρ] at h1;cases h1
     obtain⟨u,hu⟩:=this
     exact .inr ⟨⟨u,by rw [V2 x hrj e1];exact hu,cL hs hu⟩,Q0 x e1 (.inr (.inl rfl))⟩
    ·rw [ab _ _ e3] at hx
     by_cases e4:x=i
     ·subst e4;rw [upd_same] at hx;cases hx
      exact .inr ⟨⟨_,by rw [V2 x hri e1];exact r1,rfl,rfl⟩,Q0 x e1 (.inl rfl)⟩
     ·rw [ab _ _ e4] at hx
      have hrx:=hs.real (i:=x) (by rw [hx];simp)
      have e5:x≠src:=by
       rcases hsrc with rfl | ⟨n,rfl⟩
       ·exact e2
       ·exact(ai hrx).symm
      refine .inl ⟨hx,Q2 x hrx e1 e4 e3 e5,fun d hd=>keepO x d e4 hd,fun n=>⟨V3 x n e1,Q3 x n e1 e4 ?_,fun d hd=>keepO _ d (ai hri) hd⟩⟩
      rcases hsrc with rfl | ⟨m,rfl⟩
      ·exact ai hr0
      ·intro e;simp only [Id.g.injEq] at e;exact e2 e.1
 ·have hne:x≠i':=fun e=>by rw [e,upd_same] at hx;cases hx
  rw [ab _ _ hne] at hx
  have h0:x≠s0:=fun e=>by rw [e,upd_same] at hx;cases hx
  rw [ab _ _ h0] at hx
  have h1:x≠j:=fun e=>by rw [e,upd_same] at hx;cases hx
  rw [ab _ _ h1] at hx
  have h2:x≠i:=fun e=>by rw [e,upd_same] at hx;cases hx
  rw [ab _ _ h2] at hx
  have h5:x≠src:=by
   rcases hsrc with rfl | ⟨n,rfl⟩
   ·exact h0
   ·exact(ai hr).symm
  rw [V2 x hr hne,Q2 x hr hne h2 h1 h5]
  exact hs.nodom x hr hx
 ·rw [ab _ _ (ai hrl),ab _ _ (ai hr0),ab _ _ (ai hrj),ab _ _ (ai hri)];exact hs.nog x n
 ·have hne:x≠i':=fun e=>by rw [e,upd_same] at hx;cases hx
  rw [ab _ _ hne] at hx
  have h0:x≠s0:=fun e=>by rw [e,upd_same] at hx;cases hx
  rw [ab _ _ h0] at hx
  have h1:x≠j:=fun e=>by rw [e,upd_same] at hx;cases hx
  rw [ab _ _ h1] at hx
  have h2:x≠i:=fun e=>by rw [e,upd_same] at hx;cases hx
  rw [ab _ _ h2] at hx
  have h5:Id.g x n≠src:=by
   rcases hsrc with rfl | ⟨m,rfl⟩
   ·exact ai hr0
   ·intro e;simp only [Id.g.injEq] at e;exact h0 e.1
  rw [V3 x n hne,Q3 x n hne h2 h5]
  exact hs.gdom x n hx
 ·by_cases hne:x=i'
  ·subst hne
   rw [V4] at hu
   split at hu
   ·simp only [Option.some.injEq] at hu;subst hu;exact cL hs hvk
   ·exact hs.gone i n u hu
  ·rw [V3 x n hne] at hu;exact hs.gone x n u hu
 ·rcases dec x d hx with⟨x1,x2⟩ | ⟨x1,z,x2,x3⟩ <;> rcases dec y d hy with⟨y1,y2⟩ | ⟨y1,z',y2,y3⟩
  ·rw [x1,y1]
  ·rcases hob with e | ⟨e,_⟩
   ·rw [e] at x2
    have:=hs.inj i z' d x2 y3
    subst this
    have:=oC hsi hsg hri y2
    unfold fd at this;rw [if_pos rfl] at this
    rw [x1];exact this
   ·rw [e] at x2;cases x2;exact absurd (hs.lt _ _ y3) (Nat.lt_irrefl _)
  ·rcases hob with e | ⟨e,_⟩
   ·rw [e] at y2
    have:=hs.inj i z d y2 x3
    subst this
    have:=oC hsi hsg hri x2
    unfold fd at this;rw [if_pos rfl] at this
    rw [y1];exact this.symm
   ·rw [e] at y2;cases y2;exact absurd (hs.lt _ _ x3) (Nat.lt_irrefl _)
  ·have:=hs.inj z z' d x3 y3
   subst this
   rw [<-oC hsi hsg hri x2,<-oC hsi hsg hri y2]
 ·rcases dec x d hx with⟨_,h1⟩ | ⟨_,z,_,h2⟩
  ·rcases hob with e | ⟨e,e2⟩
   ·rw [e] at h1;have:=hs.lt i d h1;omega
   ·rw [e] at h1;cases h1;exact e2
  ·have:=hs.lt z d h2;omega
end
open Go
section
variable {P:Program} {w w':World} {A A':Nat->Prop} {c:Ctx} {ρ:Id->Option Value} {O:Id->Option Nat} {s:St} {cc:Option Bool} {h:Id->Option Blk}
theorem HS.move{i i':Id}(hs:HS c w h ρ O)(hi:h i≠none)(hi':h i'=none)(v:Value)(ob':Option Nat)(hos:w'.os=w.os)(ho:w'.output=w.output)(htp:w'.tape=w.tape)(hsz:w.heap.size<=w'.heap.size)
  (hkeep:∀k,k < w.heap.size->O i≠some k->w'.heap[k]? =w.heap[k]?) (hob:ob'=none\/ob'=O i\/(ob'=some w.heap.size/\w.heap.size < w'.heap.size)) (x:Blk)
  (hx:RelB w' (AA c w' (upd (upd O i none) i' ob')) (upd ρ i' (some v)) (upd (upd O i none) i' ob') i' x) (hrl:i'.real=true:=by rfl):
  Le w ρ O w' (upd ρ i' (some v)) (upd (upd O i none) i' ob')/\HS c w' (upd (upd h i' (some x)) i (some .dead)) (upd ρ i' (some v)) (upd (upd O i none) i' ob'):=by
 have hne:i≠i':=fun e=>hi (e▸hi')
 have lt':∀b,ob'=some b->b < w'.heap.size:=by
  intro b hb
  rcases hob with e | e | ⟨e,e2⟩
  ·rw [e] at hb;cases hb
  ·rw [e] at hb;have:=hs.lt i b hb;omega
  ·rw [e] at hb;cases hb;exact e2
 have le:Le w ρ O w' (upd ρ i' (some v)) (upd (upd O i none) i' ob'):=by
  refine⟨hos,ho,htp,hsz,fun j u hj=> ?_,fun b hb hn=>hkeep b hb (hn i),fun j b hj=> ?_⟩
  ·by_cases e:j=i'
   ·subst e;rw [(hs.nodom _ hrl hi').1] at hj;cases hj
   ·rw [ab _ _ e];exact hj
  ·by_cases e:j=i'
   ·subst e;rw [upd_same] at hj
    rcases hob with e | e | ⟨e,_⟩
    ·rw [e] at hj;cases hj
    ·rw [e] at hj;exact .inl ⟨i,hj⟩
    ·rw [e] at hj;cases hj;exact .inr (Nat.le_refl _)
   ·rw [ab _ _ e] at hj
    by_cases e2:j=i
    ·subst e2;rw [upd_same] at hj;cases hj
    ·rw [ab _ _ e2] at hj;exact .inl ⟨j,hj⟩
 have hri:=hs.real hi
 have gk:GK w ρ O w' (upd ρ i' (some v)) (upd (upd O i none) i' ob'):=fun j n=>⟨ab _ _ (ai hrl),by rw [ab _ _ (ai hrl),ab _ _ (ai hri)],fun b hb=>hkeep b (hs.lt _ b hb) fun e=>ai hri (hs.inj _ i b hb e)⟩
 refine⟨le,hs.go le gk (fun j b' hj=> ?_) (fun j hjr hj=> ?_) (fun j hj=> ?_) (fun j n=>by rw [ab _ _ (ai hri),ab _ _ (ai hrl)];exact hs.nog j n) (fun j k d hj hk=> ?_) (fun j d hj=> ?_)⟩
 ·by_cases e:j=i
  ·subst e;rw [upd_same] at hj;cases hj
   right
   obtain⟨b,hb⟩:=Option.ne_none_iff_exists'.1 hi
   have hone:∃u,ρ j=some u/\u.oneCell'=true/\u.cells= #[u]:=by
    cases hρ:ρ j with
    | none=>
     exfalso
     have:=hs.blk j b hb
     cases b with
     | box cs=>obtain⟨b,_,_,h1,_⟩:=this;rw [hρ] at h1;cases h1
     | sl fz sz b xs=>obtain⟨v,h1,_⟩:=this;rw [hρ] at h1;cases h1
     | fbox l=>obtain⟨b,h1,_⟩:=this;rw [hρ] at h1;cases h1
     | mp ag ks vk es=>obtain⟨b,_,_,h1,_⟩:=this;rw [hρ] at h1;cases h1
     | arr cs=>obtain⟨b,_,_,h1,_⟩:=this;rw [hρ] at h1;cases h1
     | rows _ _ _ _ _ _=>obtain⟨_,_,h1,_⟩:=this;rw [hρ] at h1;cases h1
     | dead=>obtain⟨⟨v,h1,_⟩,_⟩:=this;rw [hρ] at h1;cases h1
    | some u=>exact⟨u,rfl,cL hs hρ⟩
   obtain⟨u,h1,h2⟩:=hone
   exact⟨⟨u,by rw [ab _ _ hne];exact h1,h2⟩,by rw [ab _ _ hne,upd_same]⟩
  ·rw [ab _ _ e] at hj
   by_cases e2:j=i'
   ·subst e2;rw [upd_same] at hj;cases hj;exact .inr hx
   ·rw [ab _ _ e2] at hj
    refine .inl ⟨hj,by rw [ab _ _ e2,ab _ _ e],fun blk hblk=>hkeep blk (hs.lt j blk hblk) (fun ho=>e (hs.inj j i blk hblk ho))⟩
 ·by_cases e:j=i
  ·subst e;rw [upd_same] at hj;cases hj
  ·rw [ab _ _ e] at hj
   by_cases e2:j=i'
   ·subst e2;rw [upd_same] at hj;cases hj
   ·rw [ab _ _ e2] at hj
    rw [ab _ _ e2,ab _ _ e2,ab _ _ e];exact hs.nodom j hjr hj
 ·by_cases e:j=i
  ·subst e;rw [upd_same] at hj;cases hj
  ·rw [ab _ _ e] at hj
   by_cases e2:j=i'
   ·subst e2;rw [upd_same] at hj;cases hj
   ·rw [ab _ _ e2] at hj;exact hj
 ·have dec:∀j b,upd (upd O i none) i' ob' j=some b->(j=i'/\ob'=some b)\/(j≠i'/\j≠i/\O j=some b):=by
   intro j b hj
   by_cases e:j=i'
   ·subst e;rw [upd_same] at hj;exact .inl ⟨rfl,hj⟩
   ·rw [ab _ _ e] at hj
    by_cases e2:j=i
    ·subst e2;rw [upd_same] at hj;cases hj
    ·rw [ab _ _ e2] at hj;exact .inr ⟨e,e2,hj⟩
  have clash:∀k b,ob'=some b->k≠i->O k=some b->False:=by
   intro k b hb hk ho
   rcases hob with e | e | ⟨e,_⟩
   ·rw [e] at hb;cases hb
   ·rw [e] at hb;exact hk (hs.inj k i b ho hb)
   ·rw [e] at hb;cases hb;exact Nat.lt_irrefl _ (hs.lt k _ ho)
  rcases dec j d hj with⟨e1,e2⟩ | ⟨e1,e2,e3⟩ <;> rcases dec k d hk with⟨f1,f2⟩ | ⟨f1,f2,f3⟩
  ·rw [e1,f1]
  ·exact(clash k d e2 f2 f3).elim
  ·exact(clash j d f2 e2 e3).elim
  ·exact hs.inj j k d e3 f3
 ·by_cases e:j=i'
  ·subst e;rw [upd_same] at hj;exact lt' d hj
  ·rw [ab _ _ e] at hj
   by_cases e2:j=i
   ·subst e2;rw [upd_same] at hj;cases hj
   ·rw [ab _ _ e2] at hj;have:=hs.lt j d hj;omega
theorem tT{v:AV}{x:T}{u:Value}{sz:Nat}{p:Bool×List (List T)}(hs:HS c w h ρ O)(hv:RelV w (AA c w O) ρ v u)(hsn:aS h v=some x)(hp:x.lst? sz=some p):
  (p.2= []/\(u= .slice none 0 0\/∃a cap,u= .slice (some a) 0 cap))\/∃blk off cap,u= .slice (some ⟨blk,off,none⟩) p.2.length cap/\RelEls w (AA c w O) blk sz off p.2:=by
 have relU:RelT w (fun _=>True) x u:=eT hs hv hsn (fun _ _=>trivial) (fun _ _ _ _=>trivial)
 have aA:p.2= []->(u= .slice none 0 0\/∃a cap,u= .slice (some a) 0 cap):=by
  intro e
  rcases T.lst?_eq hp with rfl | ⟨rfl,_⟩
  ·simp only [RelT] at relU
   rcases relU with⟨_,_,rfl⟩ | ⟨_,blk,off,sp,cap,rfl,_⟩
   ·exact .inl rfl
   ·rw [e];exact .inr ⟨_,_,rfl⟩
  ·simp only [RelT] at relU
   rcases relU with⟨_,rfl⟩ | ⟨_,blk,off,sp,rfl⟩
   ·exact .inl rfl
   ·exact .inr ⟨_,_,rfl⟩
 by_cases e:p.2= []
 ·exact .inl ⟨e,aA e⟩
 right
 have hx:x= .lst sz p.1 p.2:=by
  rcases T.lst?_eq hp with h | ⟨_,h⟩
  ·exact h
  ·exact absurd h e
 subst hx
 cases v <;> simp only [aS,reduceCtorEq,Option.some.injEq] at hsn
 case t y=>
  subst hsn
  simp only [RelV,RelT] at hv
  rcases hv with⟨_,h,_⟩ | ⟨_,blk,off,sp,cap,rfl,_,g0,g⟩
  ·exact absurd h e
  ·rcases g0 with g0 | ⟨rfl,_⟩
   ·exact absurd g0 e
   exact⟨blk,off,cap,rfl,g⟩
 case own i=>
  split at hsn
  ·rename_i fz sz' b xs hi
   simp only [Option.some.injEq,T.lst.injEq] at hsn
   obtain⟨rfl,rfl,rfl⟩:=hsn
   obtain⟨v',g1,a,cap,q1,q2,q3,q4,q5⟩:=eY hs hi
   simp only [RelV] at hv
   rw [g1] at hv;simp only [Option.some.injEq] at hv;subst hv;subst q1
   rcases q5 with q5 | ⟨blk,off,arr,t,q6,q7,q8,q9,q10⟩
   ·exact absurd (List.length_eq_zero_iff.1 (by omega)) e
   ·subst q6;exact⟨blk,off,cap,rfl,q10⟩
  ·simp at hsn
 case ref i off=>
  split at hsn
  ·obtain⟨l,_,hsn⟩:=Option.bind_eq_some_iff.1 hsn
   simp at hsn
  ·simp at hsn
  ·simp at hsn
 case part i sz1 off n=>
  split at hsn
  ·rename_i fz sz' b xs hi
   split at hsn
   ·rename_i hsz;subst hsz
    simp only [Option.some.injEq,T.lst.injEq] at hsn
    obtain⟨rfl,rfl,hxs⟩:=hsn
    obtain⟨v',g1,a,cap,q1,q2,q3,q4,q5⟩:=eY hs hi
    simp only [RelV] at hv
    obtain⟨a1,L,cap1,a',e1,e2,e3,rfl,e4⟩:=hv
    rw [g1] at e1;simp only [Option.some.injEq] at e1;subst e1
    simp only [Value.slice.injEq] at q1
    obtain⟨rfl,rfl,rfl⟩:=q1
    have hlen:((xs.drop off).take n).length=n:=by simp only [List.length_take,List.length_drop];omega
    rw [<-hxs] at e⊢
    have hn:n≠0:=fun h=>e (by rw [h];rfl)
    rcases q5 with q5 | ⟨blk,off',arr,t,q6,q7,q8,q9,q10⟩
    ·omega
    ·subst q6
     have ea:a'=some ⟨blk,off'+off * sz',none⟩:=by
      rcases e4 with⟨rfl,rfl⟩ | ⟨rfl,_⟩ | ⟨b',o,e5,e6⟩
      ·simp
      ·omega
      ·simp only [Option.some.injEq,Addr.mk.injEq] at e5
       obtain⟨rfl,rfl,_⟩:=e5
       exact e6
     subst ea
     exact⟨blk,_,_,by rw [hlen],(q10.drop off).take n⟩
   ·simp at hsn
  ·simp at hsn
theorem Cj{t tx ty e:TypeId}{i:TypeInfo}(ht:P.underlying t=some (.slice e))(hi:P.info? e=some i){b off sLen sCap:Nat}{arr:Array Value}{tt:TypeId}(hb:w.heap[b]? =some (.cells arr tt (0,0))){x:Value}{n:Nat}{news:List Value}
  (hs:Src P i.size tx x n news w) (hroom:sLen+n<=sCap) (hfit:off+sCap * i.size<=arr.size):
  (Builtin.append_ #[t,tx] ty #[.slice (some ⟨b,off,none⟩) sLen sCap,x]).run P w= .ok (.slice (some ⟨b,off,none⟩) (sLen+n) sCap) (w.setRow b (repl (off+sLen * i.size) news arr.toList).toArray):=by
 have hl:=hs.newsLen
 have hm:(sLen+n) * i.size<=sCap * i.size:=Nat.mul_le_mul_right _ hroom
 have e:(sLen+n) * i.size=sLen * i.size+n * i.size:=Nat.add_mul _ _ _
 have hst:=run_storeCells_at P b (off+sLen * i.size) tt news 0 arr w hb (by omega) hs.one
 simp only [Nat.add_zero] at hst
 rcases hs.kind with⟨e',hk⟩ | hk <;> simp [Builtin.append_,run_underlying ht,run_underlying hk,sizeOf,typeInfo,hi,hs.len,hroom,hs.cells,b8,hst,repl]
theorem CW{t tx ty e:TypeId}{i:TypeInfo}(ht:P.underlying t=some (.slice e))(hi:P.info? e=some i){base:Option Addr}{sLen sCap:Nat}{x:Value}(hs:Src P i.size tx x 0 [] w)(hroom:sLen<=sCap):
  (Builtin.append_ #[t,tx] ty #[.slice base sLen sCap,x]).run P w= .ok (.slice base sLen sCap) w:=by
 have hc:∀a:Addr,(storeCells a []).run P w= .ok () w:=fun a=>by simp [storeCells]
 cases base <;> rcases hs.kind with⟨e',hk⟩ | hk <;> simp [Builtin.append_,run_underlying ht,run_underlying hk,sizeOf,typeInfo,hi,hs.len,hroom,hs.cells,storeCells]
structure Ad (P:Program) (t tx e:TypeId) (i:TypeInfo) (x:Value) (n:Nat) (news:List Value) (w:World):Prop where
 newsLen:news.length=n * i.size
 one:∀u∈news,u.oneCell'=true
 idle:n=0->∀(ty:TypeId) (base:Option Addr) (sLen sCap:Nat),sLen<=sCap->(Builtin.append_ #[t,tx] ty #[.slice base sLen sCap,x]).run P w= .ok (.slice base sLen sCap) w
 inn:∀(ty:TypeId) (b off sLen sCap:Nat) (arr:Array Value) (tt:TypeId),w.heap[b]? =some (.cells arr tt (0,0))->sLen+n<=sCap->off+sCap * i.size<=arr.size->
  (Builtin.append_ #[t,tx] ty #[.slice (some ⟨b,off,none⟩) sLen sCap,x]).run P w= .ok (.slice (some ⟨b,off,none⟩) (sLen+n) sCap) (w.setRow b (repl (off+sLen * i.size) news arr.toList).toArray)
 grow:∀(ty:TypeId) (z:Value) (base:Option Addr) (sLen sCap:Nat) (olds:List Value),i.zero=some z->(Builtin.firstCells i.size sLen (.slice base sLen sCap)).run P w.drew= .ok olds.toArray w.drew->sCap < sLen+n->
  ((sLen+n:Nat):Int)<=9223372036854775807->Builtin.nextslicecap (sLen+n) sCap * i.bytes<=281474976710656->
  (Builtin.append_ #[t,tx] ty #[.slice base sLen sCap,x]).run P w=
   .ok (.slice (some ⟨w.heap.size,0,none⟩) (sLen+n) (grownCap w (sLen+n) sCap e))
    (w.drew.alloc (.cells ((olds++news).toArray++Builtin.zeroCells z.cells (grownCap w (sLen+n) sCap e - (sLen+n))) e))
theorem Ad.ofSrc{t tx e:TypeId}{i:TypeInfo}{x:Value}{n:Nat}{news:List Value}(ht:P.underlying t=some (.slice e))(hi:P.info? e=some i)(hs:Src P i.size tx x n news w):Ad P t tx e i x n news w where
 newsLen:=hs.newsLen
 one:=hs.one
 idle:=by
  intro h ty base sLen sCap hr
  subst h
  have:news= []:=List.length_eq_zero_iff.1 (by rw [hs.newsLen];simp)
  subst this
  exact CW ht hi hs hr
 inn:=fun ty b off sLen sCap arr tt hb hr hf=>Cj ht hi hb hs hr hf
 grow:=fun ty z base sLen sCap olds hz ho hg h63 hf=>run_append_grow_src w t tx ty e i z ht hi hz base sLen sCap olds ho x n news hs hg h63 hf
theorem Cl{z:Array Value}{sz:Nat}(hz:z.size=sz)(n:Nat):(Builtin.zeroCells z n).toList= (List.replicate n z.toList).flatten:=by
 apply List.ext_getElem?
 intro p
 by_cases hp:p < n * sz
 ·have h1:((List.replicate n z.toList).flatten).length=n * sz:=by simp [hz]
  have h2:((List.replicate n z.toList).flatten)[p]? =some ((List.replicate n z.toList).flatten[p]'(by omega)):=List.getElem?_eq_getElem _
  rw [h2]
  have h3:=rN (zv:=z) hz n n (Nat.le_refl _) p _ h2
  rw [<-h3,Array.getElem?_toList]
  simp [madeCells,Builtin.zeroCells,hz]
 ·have h1:((List.replicate n z.toList).flatten).length=n * sz:=by simp [hz]
  have h2:(Builtin.zeroCells z n).toList.length=n * sz:=by rw [Array.length_toList,size_zeroCells,hz]
  rw [List.getElem?_eq_none (by omega),List.getElem?_eq_none (by omega)]
theorem Ba{n:Int}(h0: 0<=n)(h1:n<=4294967296):IntKind.i64.wrap n=n:=by
 rw [IntKind.wrap_i64];omega
theorem Ad.ofZeros{t tx e:TypeId}{i:TypeInfo}{zv:Value}{ki:IntKind}{n:Int}(ht:P.underlying t=some (.slice e))(hk:P.underlying tx=some (.int ki))(hi:P.info? e=some i)(hz:i.zero=some zv)(hzs:zv.cells.size=i.size)(hb:i.bytes<=8192)
  (h0: 0<=n) (h1:n<=4294967296) (h1c:∀u∈zv.cells.toList,u.oneCell'=true):Ad P t tx e i (.int .i64 n) n.toNat (List.replicate n.toNat zv.cells.toList).flatten w:=by
 have hw:=Ba h0 h1
 have hn0:¬(n < 0):=by omega
 have hbig:¬(281474976710656 < n * (i.bytes:Int)):=by
  have e1:n * (i.bytes:Int)<=4294967296 * 8192:=Int.le_trans (Int.mul_le_mul_of_nonneg_right h1 (by omega)) (Int.mul_le_mul_of_nonneg_left (by omega) (by omega))
  omega
 have nl:(List.replicate n.toNat zv.cells.toList).flatten.length=n.toNat * i.size:=by simp [hzs]
 have one:∀u∈(List.replicate n.toNat zv.cells.toList).flatten,u.oneCell'=true:=by
  intro u hu
  obtain⟨l,hl,hu⟩:=List.mem_flatten.1 hu
  rw [List.mem_replicate] at hl
  obtain⟨_,rfl⟩:=hl
  exact h1c u hu
 have zc:=Cl hzs n.toNat
 have zc':Builtin.zeroCells zv.cells n.toNat= (List.replicate n.toNat zv.cells.toList).flatten.toArray:=by rw [<-zc]
 have emp:n.toNat * i.size=0->(List.replicate n.toNat zv.cells.toList).flatten= []:=fun h=>List.length_eq_zero_iff.1 (by rw [nl,h])
 refine⟨nl,one, ?_, ?_, ?_⟩
 ·intro h ty base sLen sCap hr
  have hc:∀a:Addr,(storeCells a []).run P w= .ok () w:=fun a=>by simp [storeCells]
  cases base <;> simp [Builtin.append_,run_underlying ht,run_underlying hk,sizeOf,typeInfo,hi,asInt,asIntOf,hw,hn0,hbig,h,hr,hc]
 ·intro ty b off sLen sCap arr tt hbk hroom hfit
  have hm:(sLen+n.toNat) * i.size<=sCap * i.size:=Nat.mul_le_mul_right _ hroom
  have e:(sLen+n.toNat) * i.size=sLen * i.size+n.toNat * i.size:=Nat.add_mul _ _ _
  have hst:=run_storeCells_at P b (off+sLen * i.size) tt (List.replicate n.toNat zv.cells.toList).flatten 0 arr w hbk (by omega) one
  simp only [Nat.add_zero] at hst
  by_cases hs0:n.toNat * i.size=0
  ·have:=emp hs0
   rw [this] at hst⊢
   simp [Builtin.append_,run_underlying ht,run_underlying hk,sizeOf,typeInfo,hi,asInt,asIntOf,hw,hn0,hbig,hroom,hs0,b8,hst,repl]
  ·simp [Builtin.append_,run_underlying ht,run_underlying hk,sizeOf,typeInfo,zeroValue,hi,hz,asInt,asIntOf,hw,hn0,hbig,hroom,hs0,zc',b8,hst,repl]
 ·intro ty z base sLen sCap olds hz' hold hg h63 hfit
  rw [hz] at hz';cases hz'
  have hn:¬(sLen+n.toNat<=sCap):=by omega
  have h63':¬(9223372036854775807 < ((sLen:Int)+ (n.toNat:Int))):=by omega
  have h63m:¬(9223372036854775807 < ((sLen:Int)+max n 0)):=by omega
  have h63k:¬(IntKind.i64.max < ((sLen:Int)+ (n.toNat:Int))):=by simp only [IntKind.max,IntKind.bits,IntKind.signed];omega
  have h48':¬(281474976710656 < Builtin.nextslicecap (sLen+n.toNat) sCap * i.bytes):=by omega
  by_cases hs0:n.toNat * i.size=0
  ·have:=emp hs0
   rw [this]
   simp [Builtin.append_,run_underlying ht,run_underlying hk,sizeOf,typeInfo,zeroValue,hi,hz,asInt,asIntOf,hw,hn0,hbig,hn,h63',h63m,h63k,h48',Question.forced,hs0,hold,newRow,grownCap]
  ·simp [Builtin.append_,run_underlying ht,run_underlying hk,sizeOf,typeInfo,zeroValue,hi,hz,asInt,asIntOf,hw,hn0,hbig,hn,h63',h63m,h63k,h48',Question.forced,hs0,zc',hold,newRow,grownCap]
   congr 2
   apply Array.ext'
   simp [List.append_assoc]
theorem wS{n m:Int}(h:ap n m=some ()): 0<=n/\n<=m/\m<=lim:=by
 unfold ap at h;split at h
 ·assumption
 ·simp at h
theorem AN{R:Type}{t t0 e:TypeId}{sz:Nat}{zs:List T}{ti:TypeInfo}{y:AV}{vy:Value}{K:List (List T)->Option R}{r:R}(hs:HS c w s.h ρ O)(ht:P.underlying t0=some (.slice e))(hti:P.info? e=some ti)(hsz:ti.size=sz)(hz:cD P e=some zs)(hzl:zs.length=sz)(hby:P.bytesOf e<=8192)(hy:RelV w (AA c w O) ρ y vy)(hk:eJ P s t sz zs y K=some r):
  ∃ys vss,K ys=some r/\Ad P t0 t e ti vy ys.length vss.flatten w/\RelLs w (AA c w O) sz ys vss:=by
 subst hsz
 unfold eJ at hk
 split at hk
 ·rename_i e' hu
  obtain⟨x,hx,hk⟩:=Option.bind_eq_some_iff.1 hk
  replace hk:=ah hk (.inl rfl);obtain⟨p,hp,hk⟩:=hk
  rcases tT hs hy hx hp with⟨e,h⟩ | ⟨blk,off,cap,rfl,g⟩
  ·rw [e] at hk
   refine⟨[],[],hk, ?_,rfl⟩
   rcases h with rfl | ⟨a,cap,rfl⟩
   ·exact .ofSrc ht hti (Src.ofNil w hu 0)
   ·exact .ofSrc ht hti (Src.ofSlice w hu a 0 cap [] (by simp) (by simp) (by simp))
  ·obtain⟨vss,h1,h2⟩:=g.vals
   obtain⟨l1,l2⟩:=h1.length
   exact⟨p.2,vss,hk, .ofSrc ht hti (Src.ofSlice w hu ⟨blk,off,none⟩ _ cap _ (by rw [l2]) (fun j u hj=>by rw [b8];exact h2 j u hj) (fun u hu=>(h1.one u hu).1)),h1⟩
 ·rename_i hu
  split at hk
  ·rename_i hsz
   obtain⟨x,hx,hk⟩:=Option.bind_eq_some_iff.1 hk
   replace hk:=ah hk (.inl rfl);obtain⟨b,hb,hk⟩:=hk
   have:=T.str?_eq hb;subst this
   rw [AV.t?_eq hx] at hy
   simp only [RelV,RelT] at hy;subst hy
   have flat:∀l:List Value,(l.map fun v=> [v]).flatten=l:=by intro l;induction l <;> simp_all
   refine⟨_,((b.data.toList.map fun b=>Value.int .u8 b.toNat).map fun v=> [v]),hk, ?_, ?_⟩
   ·rw [flat,List.length_map]
    have:=Src.ofString (P:=P) w hu b
    have e:b.data.toList.length=b.size:=by rw [Array.length_toList];rfl
    rw [e];exact .ofSrc ht hti (by rw [hsz];exact this)
   ·have gen:∀l:List UInt8,RelLs w (AA c w O) 1 (l.map fun u=> [T.int .u8 u.toNat]) ((l.map fun b=>Value.int .u8 b.toNat).map fun v=> [v]):=by
     intro l
     induction l with
     | nil=>rfl
     | cons u l ih=>exact⟨_,_,rfl,rfl,⟨_,[],rfl,bL _ _ _ _,rfl⟩,ih⟩
    rw [hsz];exact gen _
  ·simp at hk
 ·rename_i ki hu
  obtain⟨x,hx,hk⟩:=Option.bind_eq_some_iff.1 hk
  replace hk:=ah hk (.inl rfl);obtain⟨n,hn,hk⟩:=hk
  replace hk:=ah hk (.inl rfl);obtain⟨_,hb,hk⟩:=hk
  have:=T.int?_eq hn;subst this
  obtain⟨h0,_,h2⟩:=wS hb
  rw [AV.t?_eq hx] at hy
  simp only [RelV,RelT] at hy;subst hy
  obtain⟨ti',zv,hti',hzv,hof⟩:=fu hz
  rw [hti] at hti';cases hti'
  have hr:RelTs w (AA c w O) zs zv.cells.toList:=gp hof
  have hzs:zv.cells.size=ti.size:=by
   have:=hr.length
   rw [Array.length_toList] at this
   omega
  have hrs:=RelLs.replicate hr hzl n.toNat
  have hby':ti.bytes<=8192:=by simpa [Program.bytesOf,hti] using hby
  refine⟨_,_,hk, ?_,hrs⟩
  rw [List.length_replicate]
  exact .ofZeros ht hu hti hzv hzs hby' h0 (by simpa [lim] using h2) (fun u hu=>(hr.one u hu).1)
 ·simp at hk
theorem pC(z:Array Value)(l:List Value)(k:Nat):∀(p:Nat) (v:Value),l[p]? =some v->(l.toArray++Builtin.zeroCells z k)[p]? =some v:=by
 intro p v hp
 have hlt:=(List.getElem?_eq_some_iff.1 hp).1
 rw [Array.getElem?_append_left (by simpa using hlt)]
 simpa using hp
theorem pY{bs n:Nat}(h:f0 bs n)(hb:bs<=8192):n * bs<=140737488355328:=by
 rcases h with h | ⟨_,h⟩
 ·have:n * bs<=4294967296 * 8192:=Nat.mul_le_mul h hb
  omega
 ·exact h
theorem qS{bs n:Nat}(h:f0 bs n):n<=140737488355328:=by
 rcases h with h | ⟨h0,h⟩
 ·have:n<=4294967296:=h
  omega
 ·exact Nat.le_trans (Nat.le_mul_of_pos_right n h0) h
theorem sZ{t tx ty e:TypeId}{ti:TypeInfo}{zs:List T}{y:Value}{i i':Id}{b:Bool}{xs ys:List (List T)}{vss:List (List Value)}{base:Option Addr}{cap:Nat}
  (hs:HS c w h ρ O) (hi:h i≠none) (hi':h i'=none) (ht:P.underlying t=some (.slice e)) (hz:cD P e=some zs) (hzl:zs.length=P.cellsOf e) (hby:P.bytesOf e<=8192)
  (hsm:f0 (P.bytesOf e) (xs.length+ys.length)) (hcap:xs.length<=cap) (hnil:base=none↔b=true) (hspot:True)
  (hat:cap=0\/∃blk off arr tt,base=some ⟨blk,off,none⟩/\O i=some blk/\w.heap[blk]? =some (.cells arr tt (0,0))/\off+cap * P.cellsOf e<=arr.size/\RelEls w (AA c w O) blk (P.cellsOf e) off xs)
  (hti:P.info? e=some ti) (src:Ad P t tx e ti y ys.length vss.flatten w) (hfrz:RelLs w (AA c w O) (P.cellsOf e) ys vss) (hrl:i'.real=true:=by rfl):
  ∃v w' ρ' O',(Builtin.append_ #[t,tx] ty #[.slice base xs.length cap,y]).run P w= .ok v w'/\Le w ρ O w' ρ' O'/\ρ' i'=some v/\
   HS c w' (upd (upd h i' (some (.sl false (P.cellsOf e) (b && ys.isEmpty) (xs++ys)))) i (some .dead)) ρ' O':=by
 obtain⟨ti',zv,hti',hzv,hof⟩:=fu hz
 rw [hti] at hti';cases hti'
 have hsz:P.cellsOf e=ti.size:=by simp [Program.cellsOf,hti]
 have hne:i'≠i:=fun e=>hi (e▸hi')
 obtain⟨l1,l2⟩:=hfrz.length
 by_cases hroom:xs.length+ys.length<=cap
 ·rcases hat with hat | ⟨blk,off,arr,tt,rfl,hO,hb,hfit,hels⟩
  ·
   subst hat
   have ex:xs= []:=List.length_eq_zero_iff.1 (by omega)
   have ey:ys= []:=List.length_eq_zero_iff.1 (by omega)
   subst ex;subst ey
   have ev:vss= []:=by simpa using l1
   subst ev
   obtain⟨g1,g2⟩:=HS.move (hrl:=hrl) (w':=w) hs hi hi' (.slice base 0 0) none rfl rfl rfl (Nat.le_refl _) (fun _ _ _=>rfl) (.inl rfl) (.sl false (P.cellsOf e) (b && true) []) (by
    refine⟨_,by rw [upd_same];rfl,⟨base,0,rfl,by simp, ?_,hspot, .inl rfl⟩,by simp⟩
    simpa using hnil)
   refine⟨_,w,_,_, ?_,g1,by rw [upd_same],by simpa using g2⟩
   exact src.idle rfl ty base 0 0 (Nat.le_refl _)
  ·
   rw [hsz] at hfit
   have run:=src.inn ty blk off xs.length cap arr tt hb hroom hfit
   have hcond:∀k,k < w.heap.size->O i≠some k->(w.setRow blk (repl (off+xs.length * ti.size) vss.flatten arr.toList).toArray).heap[k]? =w.heap[k]?:=fun k _ hk=>setRow_other w blk k _ (fun e=>hk (e▸hO))
   have lfit:off+xs.length * ti.size+vss.flatten.length<=arr.toList.length:=by
    have l3:arr.toList.length=arr.size:=Array.length_toList
    rw [l2,hsz,l3]
    have hm:(xs.length+ys.length) * ti.size<=cap * ti.size:=Nat.mul_le_mul_right _ hroom
    rw [Nat.add_mul] at hm;omega
   obtain⟨g1,g2⟩:=HS.move (hrl:=hrl) (w':=w.setRow blk (repl (off+xs.length * ti.size) vss.flatten arr.toList).toArray) hs hi hi' (.slice (some ⟨blk,off,none⟩) (xs.length+ys.length) cap) (O i) rfl rfl rfl (by rw [gQ];exact Nat.le_refl _) hcond (.inr (.inl rfl))
    (.sl false (P.cellsOf e) (b && ys.isEmpty) (xs++ys)) (by
     refine⟨_,by rw [upd_same],⟨some ⟨blk,off,none⟩,cap,by simp,by simpa using hroom, ?_,hspot, .inr ⟨blk,off,_,tt,rfl, ?_,setRow_heap w blk arr _ tt (0,0) hb, ?_, ?_⟩⟩,by simp⟩
     ·have:b=false:=by cases b <;> simp_all
      simp [this]
     ·simpa using hO
     ·simp only [List.size_toArray]
      rw [iA _ _ _ lfit,hsz];simpa using hfit
     ·have cellAt:∀p,(w.setRow blk (repl (off+xs.length * ti.size) vss.flatten arr.toList).toArray).cell? ⟨blk,p,none⟩=if off+xs.length * ti.size<=p/\p < off+xs.length * ti.size+vss.flatten.length then vss.flatten[p - (off+xs.length * ti.size)]? else w.cell? ⟨blk,p,none⟩:=by
       intro p
       rw [kk hb,List.getElem?_toArray,jn _ _ _ lfit,du hb]
       simp
      have hA:∀b',AA c w O b'->AA c (w.setRow blk (repl (off+xs.length * ti.size) vss.flatten arr.toList).toArray) (upd (upd O i none) i' (O i)) b'/\(w.setRow blk (repl (off+xs.length * ti.size) vss.flatten arr.toList).toArray).heap[b']? =w.heap[b']?:=by
       intro b' hb'
       refine⟨⟨hb'.1,by rw [gQ];exact hb'.2.1,fun j hj=> ?_⟩,setRow_other w blk b' _ (fun e=>hb'.2.2 i (e▸hO))⟩
       by_cases e1:j=i'
       ·subst e1;rw [upd_same] at hj;exact hb'.2.2 i hj
       ·rw [ab _ _ e1] at hj
        by_cases e2:j=i
        ·subst e2;rw [upd_same] at hj;cases hj
        ·rw [ab _ _ e2] at hj;exact hb'.2.2 j hj
      refine RelEls.append (RelEls.cells hA (fun p h1 h2=> ?_) hels) ?_
      ·rw [hsz] at h2;rw [cellAt,if_neg (by omega)]
      ·refine RelEls.of_vals (RelLs.mono hA hfrz) (fun p v hp=> ?_)
       have hlt:=(List.getElem?_eq_some_iff.1 hp).1
       rw [hsz,cellAt,if_pos (by omega),show off+xs.length * ti.size+p - (off+xs.length * ti.size)=p by omega]
       exact hp)
   exact⟨_,_,_,_,run,g1,by rw [upd_same],g2⟩
 ·
  have hneed:(xs.length+ys.length) * ti.bytes<=140737488355328:=by
   have e1:P.bytesOf e=ti.bytes:=by simp [Program.bytesOf,hti]
   rw [<-e1];exact pY hsm hby
  have hold:∃olds:List (List Value),RelLs w (AA c w O) (P.cellsOf e) xs olds/\(Builtin.firstCells ti.size xs.length (.slice base xs.length cap)).run P w.drew= .ok olds.flatten.toArray w.drew:=by
   rcases hat with hat | ⟨blk,off,arr,tt,rfl,hO,hb,hfit,hels⟩
   ·have ex:xs= []:=List.length_eq_zero_iff.1 (by omega)
    subst ex
    refine⟨[],rfl, ?_⟩
    cases base with
    | none=>exact run_firstCells_none w.drew _ _ _ _
    | some a=>exact run_firstCells_some w.drew _ 0 a _ _ [] (by simp) (by simp)
   ·obtain⟨olds,k1,k2⟩:=hels.vals
    refine⟨olds,k1, ?_⟩
    obtain⟨m1,m2⟩:=k1.length
    exact run_firstCells_some w.drew _ _ _ _ _ _ (by rw [m2,hsz]) (fun j v hj=>by rw [b8];simpa using k2 j v hj)
  obtain⟨olds,ho1,ho2⟩:=hold
  have hgrow:cap < xs.length+ys.length:=by omega
  have run:=src.grow ty zv base xs.length cap olds.flatten hzv ho2 hgrow (by have:=qS hsm;omega) (growslice_fits hgrow hneed)
  obtain⟨m1,m2⟩:=ho1.length
  have hzs:zv.cells.size=ti.size:=by
   have:=(gp (w:=w) (A:=AA c w O) hof).length
   rw [Array.length_toList] at this
   rw [this,hzl,hsz]
  have ys0:ys.isEmpty=false:=by
   cases ys with
   | nil=>simp at hgrow;omega
   | cons=>rfl
  have hge:=grownCap_ge w (xs.length+ys.length) cap e
  obtain⟨g1,g2⟩:=HS.move (hrl:=hrl) (w':=w.drew.alloc (.cells ((olds.flatten++vss.flatten).toArray++Builtin.zeroCells zv.cells (grownCap w (xs.length+ys.length) cap e - (xs.length+ys.length))) e)) hs hi hi'
   (.slice (some ⟨w.heap.size,0,none⟩) (xs.length+ys.length) (grownCap w (xs.length+ys.length) cap e)) (some w.heap.size) rfl rfl rfl (by simp) (fun k hk _=>Go.RowKit.Below.heap_alloc w.drew _ k hk) (.inr (.inr ⟨rfl,by simp⟩))
   (.sl false (P.cellsOf e) (b && ys.isEmpty) (xs++ys)) (by
    refine⟨_,by rw [upd_same],⟨some ⟨w.heap.size,0,none⟩,grownCap w (xs.length+ys.length) cap e,by simp,by simpa using hge,by simp [ys0],trivial, .inr ⟨w.heap.size,0,_,e,rfl,by simp,de (w:=w.drew) _, ?_, ?_⟩⟩,by simp⟩
    ·simp only [Array.size_append,List.size_toArray,List.length_append,m2,l2,size_zeroCells,hzs,hsz,<-Nat.add_mul,Nat.zero_add]
     exact Nat.mul_le_mul_right _ (by omega)
    ·have hA:∀b',AA c w O b'->AA c (w.drew.alloc (.cells ((olds.flatten++vss.flatten).toArray++Builtin.zeroCells zv.cells (grownCap w (xs.length+ys.length) cap e - (xs.length+ys.length))) e)) (upd (upd O i none) i' (some w.heap.size)) b'/\(w.drew.alloc (.cells ((olds.flatten++vss.flatten).toArray++Builtin.zeroCells zv.cells (grownCap w (xs.length+ys.length) cap e - (xs.length+ys.length))) e)).heap[b']? =w.heap[b']?:=by
      intro b' hb'
      refine⟨⟨hb'.1,by have:=hb'.2.1;simp;omega,fun j hj=> ?_⟩,Go.RowKit.Below.heap_alloc w.drew _ b' hb'.2.1⟩
      by_cases e1:j=i'
      ·subst e1;rw [upd_same] at hj;cases hj;exact Nat.lt_irrefl _ hb'.2.1
      ·rw [ab _ _ e1] at hj
       by_cases e2:j=i
       ·subst e2;rw [upd_same] at hj;cases hj
       ·rw [ab _ _ e2] at hj;exact hb'.2.2 j hj
     refine RelEls.of_vals (vss:=olds++vss) (RelLs.append (RelLs.mono hA ho1) (RelLs.mono hA hfrz)) (fun p v hp=> ?_)
     refine(du (w:=w.drew.alloc _) (b:=w.heap.size) (de (w:=w.drew) _) _).trans ?_
     rw [Nat.zero_add]
     exact pC _ _ _ p v (by simpa using hp))
  exact⟨_,_,_,_,run,g1,by rw [upd_same],g2⟩
theorem Du{t tx ty e:TypeId}{ti:TypeInfo}{zs:List T}{y vx:Value}{i':Id}{b:Bool}{ys:List (List T)}{vss:List (List Value)}
  (hs:HS c w h ρ O) (hi':h i'=none) (ht:P.underlying t=some (.slice e)) (hz:cD P e=some zs) (hzl:zs.length=P.cellsOf e) (hby:P.bytesOf e<=8192)
  (hsm:f0 (P.bytesOf e) ys.length) (hx:RelT w A (.emp b) vx)
  (hti:P.info? e=some ti) (src:Ad P t tx e ti y ys.length vss.flatten w) (hfrz:RelLs w (AA c w O) (P.cellsOf e) ys vss) (hrl:i'.real=true:=by rfl):
  ∃v w' ρ' O',(Builtin.append_ #[t,tx] ty #[vx,y]).run P w= .ok v w'/\Le w ρ O w' ρ' O'/\ρ' i'=some v/\
   HS c w' (upd h i' (some (.sl false (P.cellsOf e) (b && ys.isEmpty) ys))) ρ' O':=by
 obtain⟨ti',zv,hti',hzv,hof⟩:=fu hz
 rw [hti] at hti';cases hti'
 have hsz:P.cellsOf e=ti.size:=by simp [Program.cellsOf,hti]
 obtain⟨l1,l2⟩:=hfrz.length
 obtain⟨base,rfl,hnil,hspot⟩:∃base,vx= .slice base 0 0/\(base=none↔b=true)/\True:=by
  simp only [RelT] at hx
  rcases hx with⟨rfl,rfl⟩ | ⟨rfl,blk,off,sp,rfl⟩
  ·exact⟨none,rfl,by simp,trivial⟩
  ·exact⟨some _,rfl,by simp,trivial⟩
 by_cases hy0:ys= []
 ·subst hy0
  have ev:vss= []:=by simpa using l1
  subst ev
  have le:Le w ρ O w (upd ρ i' (some (.slice base 0 0))) (upd O i' none):=by
   refine⟨rfl,rfl,rfl,Nat.le_refl _,fun j u hj=> ?_,fun b hb hn=>rfl,fun j b hj=> ?_⟩
   ·by_cases e:j=i'
    ·subst e;rw [(hs.nodom _ hrl hi').1] at hj;cases hj
    ·rw [ab _ _ e];exact hj
   ·by_cases e:j=i'
    ·subst e;rw [upd_same] at hj;cases hj
    ·rw [ab _ _ e] at hj;exact .inl ⟨j,hj⟩
  refine⟨.slice base 0 0,w,_,_,src.idle rfl ty base 0 0 (Nat.le_refl _),le,by rw [upd_same], ?_⟩
  have gk:GK w ρ O w (upd ρ i' (some (.slice base 0 0))) (upd O i' none):=fun j n=>⟨ab _ _ (ai hrl),ab _ _ (ai hrl),fun _ _=>rfl⟩
  refine hs.go le gk (fun j b' hj=> ?_) (fun j hjr hj=> ?_) (fun j hj=> ?_) (fun j n=>by rw [ab _ _ (ai hrl)];exact hs.nog j n) (fun j k d hj hk=> ?_) (fun j d hj=> ?_)
  ·by_cases e:j=i'
   ·subst e;rw [upd_same] at hj;cases hj
    right
    refine⟨_,by rw [upd_same];rfl,⟨base,0,rfl,by simp, ?_,hspot, .inl rfl⟩,by simp⟩
    simpa using hnil
   ·rw [ab _ _ e] at hj
    exact .inl ⟨hj,ab _ _ e,fun _ _=>rfl⟩
  ·by_cases e:j=i'
   ·subst e;rw [upd_same] at hj;cases hj
   ·rw [ab _ _ e] at hj;rw [ab _ _ e,ab _ _ e];exact hs.nodom j hjr hj
  ·by_cases e:j=i'
   ·subst e;rw [upd_same] at hj;cases hj
   ·rw [ab _ _ e] at hj;exact hj
  ·by_cases e:j=i'
   ·subst e;rw [upd_same] at hj;cases hj
   ·by_cases e':k=i'
    ·subst e';rw [upd_same] at hk;cases hk
    ·rw [ab _ _ e] at hj;rw [ab _ _ e'] at hk;exact hs.inj j k d hj hk
  ·by_cases e:j=i'
   ·subst e;rw [upd_same] at hj;cases hj
   ·rw [ab _ _ e] at hj;exact hs.lt j d hj
 ·have hpos: 0 < ys.length:=List.length_pos_iff.2 hy0
  have hneed:(0+ys.length) * ti.bytes<=140737488355328:=by
   have e1:P.bytesOf e=ti.bytes:=by simp [Program.bytesOf,hti]
   rw [<-e1,Nat.zero_add];exact pY hsm hby
  have ho2:(Builtin.firstCells ti.size 0 (.slice base 0 0)).run P w.drew= .ok ([]:List Value).toArray w.drew:=by
   cases base with
   | none=>exact run_firstCells_none w.drew _ _ _ _
   | some a=>exact run_firstCells_some w.drew _ 0 a _ _ [] (by simp) (by simp)
  have run:=src.grow ty zv base 0 0 [] hzv ho2 (by omega) (by have:=qS hsm;omega) (growslice_fits (by omega) hneed)
  have hzs:zv.cells.size=ti.size:=by
   have:=(gp (w:=w) (A:=AA c w O) hof).length
   rw [Array.length_toList] at this
   rw [this,hzl,hsz]
  have ys0:ys.isEmpty=false:=by
   cases ys with
   | nil=>simp at hpos
   | cons=>rfl
  have hge:=grownCap_ge w (0+ys.length) 0 e
  have lew:Le w ρ O w.drew ρ O:=⟨rfl,rfl,rfl,Nat.le_refl _,fun _ _ h=>h,fun _ _ _=>rfl,fun i b h=> .inl ⟨i,h⟩⟩
  have hs':HS c w.drew h ρ O:=hs.world lew fun _ _ _=>rfl
  obtain⟨g1,g2⟩:=hs'.newSl (hrl:=hrl) (sz:=P.cellsOf e) hi' e (([] ++vss.flatten).toArray++Builtin.zeroCells zv.cells (grownCap w (0+ys.length) 0 e - (0+ys.length))) (grownCap w (0+ys.length) 0 e) (RelLs.mono (fun b hb=>lew.A b hb) hfrz)
   (fun p v hp=>pC _ _ _ p v (by simpa using hp)) (by omega) (by
    simp only [Array.size_append,List.size_toArray,List.nil_append,l2,size_zeroCells,hzs,hsz,<-Nat.add_mul]
    exact Nat.mul_le_mul_right _ (by omega))
  refine⟨_,_,_,_,run,lew.trans g1, ?_, ?_⟩
  ·rw [upd_same,Nat.zero_add];rfl
  ·simpa [ys0] using g2
theorem xY(h:Id->Option Blk)(i j:Id)(a b:Blk):ae h [(i,a),(j,b)]=upd (upd h i (some a)) j (some b):=rfl
theorem dl{d:Nat}{us:Upd}{k:Nat}{b:Blk}(hf:cC d h us=true)(hm:(Id.s d k,b)∈us):h (.s d k)=none:=by
 have:=List.all_eq_true.1 hf _ hm
 simpa using this
set_option maxHeartbeats 1000000 in
theorem vE{i i' x:Id}{nx:Nat}{v vk:Value}(hr:x.real=true)(hx:x≠i'):co ρ i i' nx v vk x=ρ x:=by
 unfold co;rw [if_neg hx]
 cases x with
 | g y n=>cases hr
 | _=>rfl
theorem uI{i i':Id}{nx:Nat}{v vk:Value}:co ρ i i' nx v vk i'=some v:=by unfold co;rw [if_pos rfl]
theorem qd{i i' y:Id}{n nx:Nat}{v vk:Value}(hrl:i'.real=true)(hy:y≠i'):co ρ i i' nx v vk (.g y n)=ρ (.g y n):=by
 unfold co;rw [if_neg (ai hrl)];simp only [if_neg hy]
theorem rK{i i' j src:Id}{nx:Nat}{ob:Option Nat}(h:src≠i'):bu O i i' j src nx ob src=none:=by
 unfold bu;rw [if_neg h,if_pos (.inr (.inr rfl))]
theorem By{i i' j src x:Id}{nx:Nat}{ob:Option Nat}(hr:x.real=true)(hx:x≠i')(h1:x≠i)(h2:x≠j)(h3:x≠src):bu O i i' j src nx ob x=O x:=by
 unfold bu;rw [if_neg hx,if_neg (by rintro(h | h | h) <;> contradiction)]
 cases x with
 | g y n=>cases hr
 | _=>rfl
theorem DW{i i' j src y:Id}{n nx:Nat}{ob:Option Nat}(hri:i.real=true)(hrj:j.real=true)(hrl:i'.real=true)(hy:y≠i')(hy2:y≠i)(h3:Id.g y n≠src):bu O i i' j src nx ob (.g y n)=O (.g y n):=by
 unfold bu;rw [if_neg (ai hrl),if_neg (by rintro(h | h | h);exact ai hri h;exact ai hrj h;exact h3 h)];simp only [if_neg hy,if_neg hy2]
theorem RelB.gone{i i' j a:Id}{n nx:Nat}{ob:Option Nat}{v vk:Value}{b:Bool}{sz col rsz nx2:Nat}{es:List Row}{p:Bool×List (List T)}(hs:HS c w h ρ O)(hri:i.real=true)(hrj:j.real=true)(hrl:i'.real=true)(ha:h a=some (.rows b sz col rsz nx2 es))(hai':a≠i')(hai:a≠i)(haj:a≠j)(hf:cf n es=some p)
  (hA:∀d,AA c w O d->AA c w' (bu O i i' j (.g a n) nx ob) d/\w'.heap[d]? =w.heap[d]?) (hkeep:∀x d,x≠i->O x=some d->w'.heap[d]? =w.heap[d]?):
  RelB w' (AA c w' (bu O i i' j (.g a n) nx ob)) (co ρ i i' nx v vk) (bu O i i' j (.g a n) nx ob) a (.rows b sz col rsz nx2 (bW n none es)):=by
 have hra:=hs.real (i:=a) (by rw [ha];simp)
 obtain⟨k,e,hk,hen,heo,hset⟩:=n9 hf
 obtain⟨a',cap,r1,r2,r3,⟨n1,n2,n3,n4⟩,r5⟩:=hs.blk a _ ha
 have O1:∀m,m≠n->bu O i i' j (.g a n) nx ob (.g a m)=O (.g a m):=fun m hm=>DW hri hrj hrl hai' hai (by intro h;simp only [Id.g.injEq] at h;exact hm h.2)
 have hs':(.g a n:Id)≠i':=ai hrl
 rw [hset]
 have hlen:(es.set k {e with own:=none}).length=es.length:=by simp
 have hmap:(es.set k {e with own:=none}).map (·.n)=es.map (·.n):=by
  rw [List.map_set]
  refine List.ext_getElem? fun m=> ?_
  rw [List.getElem?_set]
  split
  ·rename_i h;subst h
   have:=(List.getElem?_eq_some_iff.1 hk).1
   rw [if_pos (by simpa using this)];simp [hk]
  ·rfl
 refine⟨a',cap,by rw [hlen,vE hra hai'];exact r1,by rw [hlen];exact r2,r3,⟨by rw [hmap];exact n1,fun f hf'=> ?_,fun m hm=>by rw [qd hrl hai'];exact n3 m hm,fun m d hd=> ?_⟩, ?_⟩
 ·rcases List.mem_or_eq_of_mem_set hf' with hf' | rfl
  ·exact n2 f hf'
  ·exact n2 e (List.mem_of_getElem? hk)
 ·by_cases hm:m=n
  ·subst hm;rw [rK hs'] at hd;cases hd
  ·rw [O1 m hm] at hd
   obtain⟨f,hf',hfn⟩:=n4 m d hd
   have:m∈(es.set k {e with own:=none}).map (·.n):=by rw [hmap];exact List.mem_map.2 ⟨f,hf',hfn⟩
   obtain⟨f',h1,h2⟩:=List.mem_map.1 this
   exact⟨f',h1,h2⟩
 ·rcases r5 with r5 | ⟨blk,off,arr,t,q1,q2,q3,q4,q5⟩
  ·exact .inl r5
  ·have hbk:w'.heap[blk]? =w.heap[blk]?:=hkeep a blk hai q2
   refine .inr ⟨blk,off,arr,t,q1,by rw [By hra hai' hai haj (ai hra).symm];exact q2,by rw [hbk];exact q3,q4, ?_⟩
   have hrow:=q5.get hk
   refine RowsAt.set hA (List.getElem?_eq_some_iff.1 hk).1 (fun _ _ _ _=>fK hbk) (fun m f hm hf'=> ?_) ?_ q5
   ·have hfn:f.n≠n:=fun h=>hm (lH n1 hf' hk (by rw [h,hen]))
    exact⟨qd hrl hai',O1 _ hfn,fun d hd=>hkeep _ d (ai hri) hd⟩
   ·obtain⟨a1,a2,a3,u,a4,a5,a7⟩:=hrow
    refine⟨a1,a2,fun m y hm hy=> ?_,u,by rw [fK hbk];exact a4,by rw [qd hrl hai'];exact a5, ?_⟩
    ·obtain⟨u',g1,g2⟩:=a3 m y hm hy
     exact⟨u',by rw [fK hbk];exact g1,RelT.mono hA y u' g2⟩
    ·simp only
     rw [hen];exact rK hs'
theorem uH:∀{cs:List AV} {l:List T},bx cs=some l->l.length=cs.length/\∀(j:Nat) (x:T),l[j]? =some x->cs[j]? =some (AV.t x)
 | [],l,h=>by simp only [bx,Option.some.injEq] at h;subst h;simp
 | v::cs,l,h=>by
  cases v <;> simp only [bx,reduceCtorEq] at h
  rename_i x
  obtain⟨l',h1,h⟩:=Option.bind_eq_some_iff.1 h
  simp only [Option.some.injEq] at h;subst h
  obtain⟨g1,g2⟩:=uH h1
  refine⟨by simp [g1],fun j y hj=> ?_⟩
  cases j with
  | zero=>simpa using hj
  | succ j=>simpa using g2 j y (by simpa using hj)
theorem Dj{R:Type}{d:Nat}{t ty tr e e':TypeId}{ti:TypeInfo}{zs:List T}{i j:Id}{b:Bool}{sz col rsz nx:Nat}{es:List Row}{cs:List AV}{vx vy:Value}{K:AV->Upd->Option R}{r:R}(hs:HS c w s.h ρ O)
  (ht:P.underlying t=some (.slice e)) (hty:P.underlying ty=some (.slice e')) (hz:cD P e=some zs) (hzl:zs.length=P.cellsOf e) (hby:P.bytesOf e<=8192) (hti:P.info? e=some ti)
  (hi:s.h i=some (.rows b sz col rsz nx es)) (hj:s.h j=some (.arr cs)) (hx:ρ i=some vx) (hy:ρ j=some vy) (hk:gU P s d e i sz col rsz nx es j cs K=some r):
  ∃v us,K v us=some r/\(cC d s.h us=true->∃u w' ρ' O',(Builtin.append_ #[t,ty] tr #[vx,vy]).run P w= .ok u w'/\Le w ρ O w' ρ' O'/\HS c w' (ae s.h us) ρ' O'/\RelV w' (AA c w' O') ρ' v u):=by
 obtain⟨ti',zv,hti',hzv,hof⟩:=fu hz
 rw [hti] at hti';cases hti'
 have hsz:P.cellsOf e=ti.size:=by simp [Program.cellsOf,hti]
 unfold gU at hk
 split at hk
 ·rename_i hcond
  obtain⟨rfl,c1,c2,c3⟩:=hcond
  replace hk:=Option.bind_eq_some_iff.1 hk;obtain⟨l,hl,hk⟩:=hk
  obtain⟨bj,arrj,tj,h1,h2,h3,h4,h5⟩:=hs.blk j _ hj
  rw [hy] at h1;cases h1
  obtain⟨a,cap,r1,r2,r3,r4,r5⟩:=hs.blk i _ hi
  rw [hx] at r1;cases r1
  have hri:=hs.real (i:=i) (by rw [hi];simp)
  have hrj:=hs.real (i:=j) (by rw [hj];simp)
  have hnl:arrj.toList.length=1 * ti.size:=by rw [h4.length,c1,hsz];omega
  obtain⟨ll,lg⟩:=uH hl
  have src:Ad P t ty e ti (.slice (some ⟨bj,0,none⟩) 1 1) 1 arrj.toList w:= .ofSrc ht hti (Src.ofSlice w hty ⟨bj,0,none⟩ 1 1 _ hnl (fun p u hp=>by
   rw [b8,Nat.zero_add,du h3];simpa using hp) (fun u hu=>(h5 u hu).1))
  have smallOf:∀n,aA (P.bytesOf e) n=some ()->f0 (P.bytesOf e) n:=by
   intro n hn;unfold aA at hn;split at hn
   ·assumption
   ·simp at hn
  have key:∀(src0 s0:Id) (bb:Bool) (xs:List (List T)) (vk:Value) (X:Blk),s.h s0≠none->s0≠i->s0≠j->(src0=s0\/∃n,src0= .g s0 n)->ρ src0=some vk->SlAt w (AA c w O) rsz bb xs vk (fun d=>O src0=some d)->
    arrj.toList[col]? =some vk->aA (P.bytesOf e) (es.length+1)=some ()->s.h (.s d 0)=none->
    (∀w' ob v,(∀d',AA c w O d'->AA c w' (bu O i (.s d 0) j src0 nx ob) d'/\w'.heap[d']? =w.heap[d']?)->(∀x d',x≠i->O x=some d'->w'.heap[d']? =w.heap[d']?)->RelB w' (AA c w' (bu O i (.s d 0) j src0 nx ob)) (co ρ i (.s d 0) nx v vk) (bu O i (.s d 0) j src0 nx ob) s0 X)->
    ∃u w' ρ' O',(Builtin.append_ #[t,ty] tr #[.slice a es.length cap, .slice (some ⟨bj,0,none⟩) 1 1]).run P w= .ok u w'/\Le w ρ O w' ρ' O'/\
     HS c w' (upd (upd (upd (upd s.h i (some .dead)) j (some .dead)) s0 (some X)) (.s d 0) (some (.rows false (P.cellsOf e) col rsz (nx+1) (es++ [⟨nx,l,some (bb,xs)⟩])))) ρ' O'/\RelV w' (AA c w' O') ρ' (.own (.s d 0)) u:=by
   intro src0 s0 bb xs vk X q1 q2 q3 q4 q5 q6 q7 hsm hfree hX
   have hlr:l.length=P.cellsOf e:=by rw [ll,List.length_set,c1]
   have hnr:∀m x,m≠col->l[m]? =some x->∃v,arrj.toList[m]? =some v/\RelT w (AA c w O) x v:=by
    intro m x hm hx
    have:=lg m x hx
    rw [List.getElem?_set,if_neg (Ne.symm hm)] at this
    obtain⟨v,g1,g2⟩:=h4.get this
    exact⟨v,g1,by simpa [RelV] using g2⟩
   by_cases hroom:es.length+1<=cap
   ·rcases r5 with r5 | ⟨blk,off,arr,t',k1,k2,k3,k4,k5⟩
    ·omega
    ·subst k1
     have hm:(es.length+1) * ti.size<=cap * ti.size:=Nat.mul_le_mul_right _ hroom
     rw [Nat.add_mul] at hm
     rw [hsz] at k4
     have run:=src.inn tr blk off es.length cap arr t' k3 hroom k4
     have lfit:off+es.length * ti.size+arrj.toList.length<=arr.toList.length:=by rw [hnl,Array.length_toList (xs:=arr)];omega
     have cellAt:∀p,(w.setRow blk (repl (off+es.length * ti.size) arrj.toList arr.toList).toArray).cell? ⟨blk,p,none⟩=if off+es.length * ti.size<=p/\p < off+es.length * ti.size+arrj.toList.length then arrj.toList[p - (off+es.length * ti.size)]? else w.cell? ⟨blk,p,none⟩:=by
      intro p
      rw [kk k3,List.getElem?_toArray,jn _ _ _ lfit,du k3]
      simp
     obtain⟨g1,g2⟩:=HS.pushRow (i':= .s d 0) (j:=j) (src:=src0) (s0:=s0) (bb:=bb) (xs:=xs) (vk:=vk) (X:=X) (blk:=blk) (blk':=blk) (off:=off) (off':=off) (cap':=cap) (ob:=O i) (news:=arrj.toList) (l:=l) (w':=w.setRow blk (repl (off+es.length * ti.size) arrj.toList arr.toList).toArray)
      hs hi hfree rfl (by rw [hj];simp) (Ne.symm c3) q1 q2 q3 q4 q5 q6 rfl rfl rfl (by rw [gQ];exact Nat.le_refl _) (fun k _ hk=>setRow_other w blk k _ fun e=>hk (e▸k2)) (.inl rfl) k2 (setRow_heap w blk arr _ t' (0,0) k3) (by rw [List.size_toArray,iA _ _ _ lfit,hsz];simpa using k4) hroom k5
      (fun p hp=>by rw [hsz] at hp;have hp:p < es.length * ti.size:=hp;rw [cellAt,if_neg (by omega)]) c2 hlr (fun p v hp=>by
       have hlt:=(List.getElem?_eq_some_iff.1 hp).1
       rw [hsz,cellAt,if_pos (by omega),show off+es.length * ti.size+p - (off+es.length * ti.size)=p by omega];exact hp) hnr q7
      (fun hA=>hX _ _ _ hA fun x d' hx hd=>setRow_other w blk d' _ fun e=>hx (hs.inj x i d' hd (e▸k2)))
     exact⟨_,_,_,_,run,g1,g2,by simp only [RelV];exact uI⟩
   ·have hneed:(es.length+1) * ti.bytes<=140737488355328:=by
     have e1:P.bytesOf e=ti.bytes:=by simp [Program.bytesOf,hti]
     rw [<-e1];exact pY (smallOf _ hsm) hby
    have hold:∃(olds:List Value) (blk off:Nat),olds.length=es.length * ti.size/\(Builtin.firstCells ti.size es.length (.slice a es.length cap)).run P w.drew= .ok olds.toArray w.drew/\RowsAt w (AA c w O) ρ O i blk (P.cellsOf e) col rsz off es/\∀p v,olds[p]? =some v->w.cell? ⟨blk,off+p,none⟩=some v:=by
     rcases r5 with r5 | ⟨blk,off,arr,t',k1,k2,k3,k4,k5⟩
     ·have ex:es= []:=List.length_eq_zero_iff.1 (by omega)
      subst ex
      refine⟨[],0,0,by simp, ?_,trivial,by simp⟩
      cases a with
      | none=>exact run_firstCells_none w.drew _ _ _ _
      | some a=>exact run_firstCells_some w.drew _ 0 a _ _ [] (by simp) (by simp)
     ·subst k1
      have hm:es.length * ti.size<=cap * ti.size:=Nat.mul_le_mul_right _ r2
      rw [hsz] at k4
      have hlen:((arr.toList.drop off).take (es.length * ti.size)).length=es.length * ti.size:=by rw [List.length_take,List.length_drop,Array.length_toList (xs:=arr)];omega
      have hcell:∀p v,((arr.toList.drop off).take (es.length * ti.size))[p]? =some v->w.cell? ⟨blk,off+p,none⟩=some v:=by
       intro p v hp
       rw [List.getElem?_take] at hp
       split at hp
       ·rw [List.getElem?_drop] at hp
        rw [du k3];simpa using hp
       ·cases hp
      refine⟨_,blk,off,hlen, ?_,k5,hcell⟩
      exact run_firstCells_some w.drew _ _ _ _ _ _ hlen (fun p v hp=>by rw [b8];simpa using hcell p v hp)
    obtain⟨olds,blk,off,ho1,ho2,ho3,ho4⟩:=hold
    have hgrow:cap < es.length+1:=by omega
    have run:=src.grow tr zv a es.length cap olds hzv ho2 hgrow (by have:=qS (smallOf _ hsm);omega) (growslice_fits hgrow hneed)
    have hzs:zv.cells.size=ti.size:=by
     have:=(gp (w:=w) (A:=AA c w O) hof).length
     rw [Array.length_toList] at this
     rw [this,hzl,hsz]
    have hge:=grownCap_ge w (es.length+1) cap e
    have cellN:∀p v,(olds++arrj.toList)[p]? =some v->(w.drew.alloc (.cells ((olds++arrj.toList).toArray++Builtin.zeroCells zv.cells (grownCap w (es.length+1) cap e - (es.length+1))) e)).cell? ⟨w.heap.size,p,none⟩=some v:=by
     intro p v hp
     refine(du (w:=w.drew.alloc _) (b:=w.heap.size) (de (w:=w.drew) _) _).trans ?_
     exact pC _ _ _ p v hp
    obtain⟨g1,g2⟩:=HS.pushRow (i':= .s d 0) (j:=j) (src:=src0) (s0:=s0) (bb:=bb) (xs:=xs) (vk:=vk) (X:=X) (blk:=blk) (blk':=w.heap.size) (off:=off) (off':=0) (cap':=grownCap w (es.length+1) cap e) (ob:=some w.heap.size) (news:=arrj.toList) (l:=l)
     (w':=w.drew.alloc (.cells ((olds++arrj.toList).toArray++Builtin.zeroCells zv.cells (grownCap w (es.length+1) cap e - (es.length+1))) e))
     hs hi hfree rfl (by rw [hj];simp) (Ne.symm c3) q1 q2 q3 q4 q5 q6 rfl rfl rfl (by simp) (fun k hk _=>Go.RowKit.Below.heap_alloc w.drew _ k hk) (.inr ⟨rfl,by simp⟩) rfl (de (w:=w.drew) _) (by
      simp only [Array.size_append,List.size_toArray,List.length_append,ho1,hnl,size_zeroCells,hzs,hsz,<-Nat.add_mul,Nat.zero_add]
      exact Nat.mul_le_mul_right _ (by omega)) hge ho3
     (fun p hp=>by
      rw [hsz] at hp
      have hp:p < es.length * ti.size:=hp
      have hlt:p < olds.length:=by omega
      rw [Nat.zero_add,ho4 p _ (List.getElem?_eq_getElem hlt)]
      exact cellN p _ (by rw [List.getElem?_append_left hlt];exact List.getElem?_eq_getElem hlt)) c2 hlr (fun p v hp=>by
      rw [hsz,Nat.zero_add]
      refine cellN _ v ?_
      rw [List.getElem?_append_right (by omega),ho1,show es.length * ti.size+p - es.length * ti.size=p by omega];exact hp) hnr q7
     (fun hA=>hX _ _ _ hA fun x d' hx hd=>Go.RowKit.Below.heap_alloc w.drew _ d' (hs.lt x d' hd))
    exact⟨_,_,_,_,run,g1,g2,by simp only [RelV];exact uI⟩
  split at hk
  ·rename_i j2 hcol
   split at hk
   ·rename_i rsz' b' xs hj2
    split at hk
    ·rename_i hrsz;subst hrsz
     replace hk:=ah hk (.inl rfl);obtain⟨_,hsm,hk⟩:=hk
     refine⟨_,_,hk,fun hfree=> ?_⟩
     have hfree:=dl hfree (k:=0) (b:= .rows false (P.cellsOf e) col rsz' (nx+1) (es++ [⟨nx,l,some (b',xs)⟩])) (by simp)
     obtain⟨vk,v1,v2⟩:=h4.get hcol
     simp only [RelV] at v2
     obtain⟨v',s1,s2⟩:=eY hs hj2
     rw [v2] at s1;cases s1
     have hr2:=hs.real (i:=j2) (by rw [hj2];simp)
     have n2:j2≠ .s d 0:=fun e=>by rw [e,hfree] at hj2;cases hj2
     obtain⟨u,w',ρ',O',g1,g2,g3,g4⟩:=key j2 j2 b' xs vk .dead (by rw [hj2];simp) (fun e=>by rw [e,hi] at hj2;cases hj2) (fun e=>by rw [e,hj] at hj2;cases hj2) (.inl rfl) v2 (by simpa using s2) v1 (by assumption) hfree
      (fun w' ob v hA hkeep=>⟨⟨vk,by rw [vE hr2 n2];exact v2,cL hs v2⟩,rK n2⟩)
     exact⟨u,w',ρ',O',g1,g2,by rw [aO,aO,aO,bo];exact g3,g4⟩
    ·simp at hk
   ·simp at hk
  ·rename_i a2 n hcol
   split at hk
   ·rename_i b2 sz2 col2 rsz2 nx2 es2 ha2
    split at hk
    ·rename_i hc2
     obtain⟨rfl,hai⟩:=hc2
     replace hk:=ah hk (.inl rfl);obtain⟨p,hp,hk⟩:=hk
     replace hk:=ah hk (.inl rfl);obtain⟨_,hsm,hk⟩:=hk
     refine⟨_,_,hk,fun hfree=> ?_⟩
     have hfree:=dl hfree (k:=0) (b:= .rows false (P.cellsOf e) col rsz2 (nx+1) (es++ [⟨nx,l,some p⟩])) (by simp)
     obtain⟨vk,v1,v2⟩:=h4.get hcol
     simp only [RelV] at v2
     obtain⟨v',s1,s2⟩:=mF hs ha2 hp
     rw [v2] at s1;cases s1
     have n2:a2≠ .s d 0:=fun e=>by rw [e,hfree] at ha2;cases ha2
     have n3:a2≠j:=fun e=>by rw [e,hj] at ha2;cases ha2
     obtain⟨u,w',ρ',O',g1,g2,g3,g4⟩:=key (.g a2 n) a2 p.1 p.2 vk (.rows b2 sz2 col2 rsz2 nx2 (bW n none es2)) (by rw [ha2];simp) hai n3 (.inr ⟨n,rfl⟩) v2 s2 v1 (by assumption) hfree
      (fun w' ob v hA hkeep=>RelB.gone hs hri hrj rfl ha2 n2 hai n3 hp hA hkeep)
     exact⟨u,w',ρ',O',g1,g2,by rw [aO,aO,aO,bo];exact g3,g4⟩
    ·simp at hk
   ·simp at hk
  ·simp at hk
 ·simp at hk
theorem AH{h:Id->Option Blk}{x:AV}{q:Id×Nat×Nat×Nat×Nat×List Row}(e:pq h x=some q):x= .own q.1/\∃b,h q.1=some (.rows b q.2.1 q.2.2.1 q.2.2.2.1 q.2.2.2.2.1 q.2.2.2.2.2):=by
 unfold pq at e
 split at e
 ·split at e
  ·rename_i hi;simp only [Option.some.injEq] at e;subst e;exact⟨rfl,_,hi⟩
  ·cases e
 ·cases e
theorem Cq{h:Id->Option Blk}{x:AV}{q:Id×List AV}(e:rm h x=some q):x= .own q.1/\h q.1=some (.arr q.2):=by
 unfold rm at e
 split at e
 ·split at e
  ·rename_i hi;simp only [Option.some.injEq] at e;subst e;exact⟨rfl,hi⟩
  ·cases e
 ·cases e
theorem Di{R:Type}{d:Nat}{rw:Bool}{t ty tr:TypeId}{x y:AV}{vx vy:Value}{K:AV->Upd->Option R}{r:R}(hs:HS c w s.h ρ O)(hx:RelV w (AA c w O) ρ x vx)(hy:RelV w (AA c w O) ρ y vy)
  (hk:dh P s d rw t ty x y K=some r):
  ∃v us,K v us=some r/\(cC d s.h us=true->∃u w' ρ' O',(Builtin.append_ #[t,ty] tr #[vx,vy]).run P w= .ok u w'/\Le w ρ O w' ρ' O'/\HS c w' (ae s.h us) ρ' O'/\RelV w' (AA c w' O') ρ' v u):=by
 unfold dh at hk
 replace hk:=Option.bind_eq_some_iff.1 hk;obtain⟨e,he,hk⟩:=hk
 replace hk:=Option.bind_eq_some_iff.1 hk;obtain⟨zs,hz,hk⟩:=hk
 obtain⟨hu,hok⟩:=nf he
 split at hk
 ·rename_i hcond
  obtain⟨hby,hzl⟩:=hcond
  obtain⟨ti0,_,hti0,_,_⟩:=fu hz
  split at hk
  ·rename_i i sz col rsz nx es j cs e1 e2
   cases rw with
   | false=>cases e1
   | true=>
   obtain⟨rfl,b,hi⟩:=AH e1
   obtain⟨rfl,hj⟩:=Cq e2
   simp only [RelV] at hx hy
   split at hk
   ·rename_i e' hu'
    exact Dj hs hu hu' hz hzl hby hti0 hi hj hx hy hk
   ·cases hk
  rename_i hnr
  clear hnr
  replace hk:=AN hs hu hti0 (by simp [Program.cellsOf,hti0]) hz hzl hby hy hk;obtain⟨ys,vss,hk,src,hfrz⟩:=hk
  have smallOf:∀n,aA (P.bytesOf e) n=some ()->f0 (P.bytesOf e) n:=by
   intro n hn;unfold aA at hn;split at hn
   ·assumption
   ·simp at hn
  clear he hok
  revert hk
  rcases x with _ | z | _ | _ | _ | _ | i | ⟨i,sz'',off,n⟩ | _ | _ | _ <;> intro hk <;> (try dsimp only at hk) <;> (try cases hk)
  case own=>
   split at hk
   ·rename_i sz' b xs hi
    split at hk
    ·rename_i hsz;subst hsz
     replace hk:=ah hk (.inl rfl);obtain⟨_,hb,hk⟩:=hk
     refine⟨_,_,hk,fun hfree=> ?_⟩
     have hfree:=dl hfree List.mem_cons_self
     obtain⟨v',g1,a,cap,q1,q2,q3,q4,q5⟩:=eY hs hi
     simp only [RelV] at hx
     rw [g1] at hx;simp only [Option.some.injEq] at hx;subst hx;subst q1
     obtain⟨v,w',ρ',O',e1,e2,e3,e4⟩:=sZ (ty:=tr) hs (by rw [hi];simp) hfree hu hz hzl hby (smallOf _ hb) q2 q3 q4 (by
      rcases q5 with q5 | ⟨blk,off,arr,tt,k1,k2,k3,k4,k5⟩
      ·exact .inl q5
      ·exact .inr ⟨blk,off,arr,tt,k1,by simpa using k2,k3,k4,k5⟩) hti0 src hfrz
     exact⟨v,w',ρ',O',e1,e2,by rw [xY];exact e4,by simp only [RelV];exact e3⟩
    ·simp at hk
   ·simp at hk
  case part=>
   split at hk
   ·rename_i sz' b xs hi
    split at hk
    ·rename_i hsz;obtain⟨rfl,rfl⟩:=hsz
     replace hk:=ah hk (.inl rfl);obtain⟨_,hb,hk⟩:=hk
     refine⟨_,_,hk,fun hfree=> ?_⟩
     have hfree:=dl hfree List.mem_cons_self
     obtain⟨v',g1,a,cap,q1,q2,q3,q4,q5⟩:=eY hs hi
     simp only [RelV] at hx
     obtain⟨a1,L,cap1,a',k1,k2,k3,rfl,k4⟩:=hx
     rw [g1] at k1;simp only [Option.some.injEq] at k1;subst k1
     simp only [Value.slice.injEq] at q1
     obtain⟨rfl,rfl,rfl⟩:=q1
     have hlen:((xs.drop off).take n).length=n:=by simp only [List.length_take,List.length_drop];omega
     have hnil:a'=none↔b=true:=by
      rw [<-q3]
      rcases k4 with⟨_,rfl⟩ | ⟨_,e5,_⟩ | ⟨b',o,rfl,rfl⟩
      ·exact Iff.rfl
      ·exact e5
      ·simp
     have hspot:True:=trivial
     obtain⟨v,w',ρ',O',e1,e2,e3,e4⟩:=sZ (ty:=tr) (xs:=(xs.drop off).take n) (base:=a') (cap:=cap1 - off) hs (by rw [hi];simp) hfree hu hz hzl hby (by rw [hlen];exact smallOf _ hb) (by rw [hlen];omega) hnil hspot (by
      rcases q5 with q5 | ⟨blk,off',arr,tt,j1,j2,j3,j4,j5⟩
      ·exact .inl (by omega)
      ·subst j1
       rcases k4 with⟨rfl,rfl⟩ | ⟨rfl,_⟩ | ⟨b',o,e5,rfl⟩
       ·exact .inr ⟨blk,off',arr,tt,rfl,by simpa using j2,j3,by simpa using j4,by simpa using j5.take n⟩
       ·exact .inl (by omega)
       ·simp only [Option.some.injEq,Addr.mk.injEq] at e5
        obtain⟨rfl,rfl,_⟩:=e5
        refine .inr ⟨blk,_,arr,tt,rfl,by simpa using j2,j3, ?_,(j5.drop off).take n⟩
        have:(cap1 - off) * P.cellsOf e+off * P.cellsOf e=cap1 * P.cellsOf e:=by rw [<-Nat.add_mul];congr 1;omega
        omega) hti0 src hfrz
     rw [hlen] at e1
     exact⟨v,w',ρ',O',e1,e2,by rw [xY];exact e4,by simp only [RelV];exact e3⟩
    ·simp at hk
   ·simp at hk
  case t=>
   have core:∀b,RelT w (AA c w O) (.emp b) vx->(gdK none (aA (P.bytesOf e) ys.length) fun _=>K (.own (.s d 0)) [(.s d 0, .sl false (P.cellsOf e) (b && ys.isEmpty) ys)])=some r->
     ∃v us,K v us=some r/\(cC d s.h us=true->∃u w' ρ' O',(Builtin.append_ #[t,ty] tr #[vx,vy]).run P w= .ok u w'/\Le w ρ O w' ρ' O'/\HS c w' (ae s.h us) ρ' O'/\RelV w' (AA c w' O') ρ' v u):=by
    intro b hx hk
    replace hk:=ah hk (.inl rfl);obtain⟨_,hb,hk⟩:=hk
    refine⟨_,_,hk,fun hfree=> ?_⟩
    have hfree:=dl hfree List.mem_cons_self
    obtain⟨v,w',ρ',O',e1,e2,e3,e4⟩:=Du (ty:=tr) hs hfree hu hz hzl hby (smallOf _ hb) hx hti0 src hfrz
    exact⟨v,w',ρ',O',e1,e2,by rw [bo];exact e4,by simp only [RelV];exact e3⟩
   simp only [RelV] at hx
   replace hk:=Option.bind_eq_some_iff.1 hk;obtain⟨b,hb,hk⟩:=hk
   refine core b ?_ hk
   unfold uQ at hb
   split at hb
   ·simp only [Option.some.injEq] at hb;subst hb;exact hx
   ·rename_i sz b' xs
    cases h:(b' && xs.isEmpty) with
    | false=>rw [h] at hb;simp at hb
    | true=>
     rw [h] at hb
     simp only [cond_true,Option.some.injEq] at hb
     subst hb
     simp only [Bool.and_eq_true,List.isEmpty_iff] at h
     simp only [RelT] at hx⊢
     rcases hx with⟨_,_,h1⟩ | ⟨h1,_⟩
     ·exact .inl ⟨trivial,h1⟩
     ·rw [h.1] at h1;cases h1
   ·cases hb
 ·simp at hk
theorem Ai{zv:Array Value}{sz:Nat}(hz:zv.size=sz)(n:Nat):(madeCells zv (n * sz)).toList= (List.replicate n zv.toList).flatten:=by
 refine List.ext_getElem? fun p=> ?_
 by_cases hp:p < n * sz
 ·have h1:p < (List.replicate n zv.toList).flatten.length:=by simpa [hz] using hp
  have:=rN hz n n (Nat.le_refl _) p _ (List.getElem?_eq_getElem h1)
  rw [Array.getElem?_toList,this,List.getElem?_eq_getElem h1]
 ·rw [List.getElem?_eq_none (by simp [madeCells];omega),List.getElem?_eq_none (by simp [hz];omega)]
theorem uK{rsz:Nat}{i:Id}{blk:Nat}:∀{k n base:Nat},(∀m,m < n->w.cell? ⟨blk,base+m,none⟩=some (.slice none 0 0))->(∀m,k<=m->m < k+n->ρ (.g i m)=some (.slice none 0 0))->
  RowsAt w A ρ O i blk 1 0 rsz base ((List.range' k n).map fun k=>⟨k,[.nilp],some (true,[])⟩)
 | k,0,base,_,_=>trivial
 | k,n+1,base,hc,hr=>by
  rw [List.range'_succ,List.map_cons]
  refine⟨⟨rfl,by omega,fun j x hj hx=> ?_,_,hc 0 (by omega),hr k (by omega) (by omega),⟨none,0,rfl,by simp,by simp,trivial, .inl rfl⟩⟩,uK (fun m hm=> ?_) (fun m h1 h2=>hr m (by omega) (by omega))⟩
  ·have:j < 1:=by simpa using (List.getElem?_eq_some_iff.1 hx).1
   omega
  ·have:=hc (m+1) (by omega)
   rw [show base+1+m=base+ (m+1) by omega];exact this
theorem HS.newRows{i:Id}{N cap rsz:Nat}{cells:Array Value}(hs:HS c w h ρ O)(hi:h i=none)(t:TypeId)(hc:∀p,p < N->cells[p]? =some (.slice none 0 0))(hsz:cap<=cells.size)(hN:N<=cap)(hrl:i.real=true:=by rfl):
  ∃ρ' O',Le w ρ O (w.alloc (.cells cells t)) ρ' O'/\HS c (w.alloc (.cells cells t)) (upd h i (some (.rows false 1 0 rsz N (ii N)))) ρ' O'/\ρ' i=some (.slice (some ⟨w.heap.size,0,none⟩) N cap):=by
 let V:Id->Option Value:=fun x=>if x=i then some (.slice (some ⟨w.heap.size,0,none⟩) N cap) else match x with
  | .g y n=>if y=i then(if n < N then some (.slice none 0 0) else none) else ρ (.g y n)
  | x=>ρ x
 have V1:V i=some (.slice (some ⟨w.heap.size,0,none⟩) N cap):=by simp only [V,if_true]
 have V2:∀x,x.real=true->x≠i->V x=ρ x:=by
  intro x hr hx
  simp only [V,if_neg hx]
  cases x with
  | g y n=>cases hr
  | _=>rfl
 have V3:∀y n,y≠i->V (.g y n)=ρ (.g y n):=by
  intro y n hy
  simp only [V,if_neg (ai hrl),if_neg hy]
 have V4:∀n,V (.g i n)=if n < N then some (.slice none 0 0) else none:=by
  intro n
  simp only [V,if_neg (ai hrl),if_true]
 have hOg:∀n,O (.g i n)=none:=fun n=>(hs.gdom i n hi).2
 have le:Le w ρ O (w.alloc (.cells cells t)) V (upd O i (some w.heap.size)):=by
  refine⟨rfl,rfl,rfl,by simp,fun x u hx=> ?_,fun d hd _=>Go.RowKit.Below.heap_alloc _ _ _ hd,fun x d hx=> ?_⟩
  ·cases hr:x.real with
   | true=>
    have:x≠i:=fun e=>by rw [e,(hs.nodom i hrl hi).1] at hx;cases hx
    rw [V2 x hr this];exact hx
   | false=>
    cases x with
    | g y n=>
     have:y≠i:=fun e=>by rw [e,(hs.gdom i n hi).1] at hx;cases hx
     rw [V3 y n this];exact hx
    | _=>cases hr
  ·by_cases e:x=i
   ·rw [e,upd_same] at hx;cases hx;exact .inr (Nat.le_refl _)
   ·rw [ab _ _ e] at hx;exact .inl ⟨x,hx⟩
 have hnl:(ii N).length=N:=by simp [ii]
 refine⟨V,_,le,hs.goG le (fun x y hx=> ?_) (fun x hr hx=> ?_) (fun x n=>by rw [ab _ _ (ai hrl)];exact hs.nog x n) (fun x n hx=> ?_) (fun x n u hu=> ?_) (fun x y d hx hy=> ?_) (fun x d hx=> ?_),V1⟩
 ·by_cases e:x=i
  ·subst e;rw [upd_same] at hx;cases hx
   right
   refine⟨_,cap,by rw [hnl];exact V1,by rw [hnl];exact hN,by simp,⟨?_,fun f hf=> ?_,fun n hn=>by rw [V4,if_neg (by omega)],fun n d hd=> ?_⟩, .inr ⟨w.heap.size,0,cells,t,rfl,by rw [upd_same],de _,by omega, ?_⟩⟩
   ·have:(ii N).map (·.n)=List.range N:=by
     unfold ii
     rw [List.map_map]
     exact List.map_id _
    rw [this];exact List.nodup_range
   ·obtain⟨k,hk,rfl⟩:=List.mem_map.1 hf
    simpa using hk
   ·rw [ab _ _ (ai hrl),hOg] at hd;cases hd
   ·unfold ii
    rw [List.range_eq_range']
    refine uK (fun m hm=> ?_) (fun m _ hm=>by rw [V4,if_pos (by omega)])
    rw [du (de _),Nat.zero_add];exact hc m hm
  ·rw [ab _ _ e] at hx
   have hrx:=hs.real (i:=x) (by rw [hx];simp)
   exact .inl ⟨hx,ab _ _ e,fun d hd=>Go.RowKit.Below.heap_alloc _ _ _ (hs.lt x d hd),fun n=>⟨V3 x n e,ab _ _ (ai hrl),fun d hd=>Go.RowKit.Below.heap_alloc _ _ _ (hs.lt _ d hd)⟩⟩
 ·have hne:x≠i:=fun e=>by rw [e,upd_same] at hx;cases hx
  rw [ab _ _ hne] at hx
  rw [V2 x hr hne,ab _ _ hne];exact hs.nodom x hr hx
 ·have hne:x≠i:=fun e=>by rw [e,upd_same] at hx;cases hx
  rw [ab _ _ hne] at hx
  rw [V3 x n hne,ab _ _ (ai hrl)];exact hs.gdom x n hx
 ·by_cases hne:x=i
  ·subst hne
   rw [V4] at hu
   split at hu
   ·simp only [Option.some.injEq] at hu;subst hu;exact⟨rfl,rfl⟩
   ·cases hu
  ·rw [V3 x n hne] at hu;exact hs.gone x n u hu
 ·by_cases e:x=i <;> by_cases e':y=i
  ·rw [e,e']
  ·rw [e,upd_same] at hx;cases hx;rw [ab _ _ e'] at hy;exact absurd (hs.lt _ _ hy) (Nat.lt_irrefl _)
  ·rw [e',upd_same] at hy;cases hy;rw [ab _ _ e] at hx;exact absurd (hs.lt _ _ hx) (Nat.lt_irrefl _)
  ·rw [ab _ _ e] at hx;rw [ab _ _ e'] at hy;exact hs.inj x y d hx hy
 ·by_cases e:x=i
  ·rw [e,upd_same] at hx;cases hx;simp
  ·rw [ab _ _ e] at hx;have:=hs.lt x d hx;simp;omega
theorem z6{R:Type}{d:Nat}{t:TypeId}{ns:Nat}{n m:T}{vn vm:Value}{K:AV->Upd->Option R}{r:R}(hs:HS c w s.h ρ O)(hn:RelV w (AA c w O) ρ (.t n) vn)(hm:RelV w (AA c w O) ρ (.t m) vm)
  (hk:je P d t ns n m K=some r):
  ∃v us,K v us=some r/\(cC d s.h us=true->∃u w' ρ' O',(Instr.makeSlice t vn vm).run P w= .ok u w'/\Le w ρ O w' ρ' O'/\HS c w' (ae s.h us) ρ' O'/\RelV w' (AA c w' O') ρ' v u):=by
 unfold je at hk
 replace hk:=Option.bind_eq_some_iff.1 hk;obtain⟨e,he,hk⟩:=hk
 replace hk:=Option.bind_eq_some_iff.1 hk;obtain⟨zs,hz,hk⟩:=hk
 obtain⟨hu,hok⟩:=nf he
 replace hk:=ah hk (.inl rfl);obtain⟨n',hn',hk⟩:=hk
 replace hk:=ah hk (.inl rfl);obtain⟨m',hm',hk⟩:=hk
 have:=T.int?_eq hn';subst this
 have:=T.int?_eq hm';subst this
 simp only [RelV,RelT] at hn hm;subst hn;subst hm
 split at hk
 ·rename_i hcond
  obtain⟨hby,hzl⟩:=hcond
  replace hk:=ah hk (.inl rfl);obtain⟨_,hb,hk⟩:=hk
  obtain⟨h0,h1,h2⟩:=wS hb
  cases hns:(ns==2) with
  | true=>
   simp only [hns,cond_true] at hk
   split at hk
   ·rename_i u hue
    split at hk
    ·rename_i hc1
     refine⟨_,_,hk,fun hfree=> ?_⟩
     have hfree:=dl hfree List.mem_cons_self
     obtain⟨zv,hzr,run⟩:=wU (w:=w) (A:=AA c w O) (kn:= .i64) (km:= .i64) hu hz hby hzl h0 h1 h2
     have hzs:zv.cells.size=P.cellsOf e:=by have:=hzr.length;rw [Array.length_toList] at this;omega
     have hzc:zv.cells.toList= [.slice none 0 0]:=by
      obtain⟨v,q,e1,g1,g2⟩:=hzr
      simp only [RelTs] at g2
      rw [e1,g2]
      simp only [RelT] at g1
      rcases g1 with⟨_,g1⟩ | ⟨g1,_⟩
      ·rw [g1]
      ·cases g1
     have hcells:∀p,p < n'.toNat->(madeCells zv.cells (m'.toNat * P.cellsOf e))[p]? =some (.slice none 0 0):=by
      intro p hp
      rw [<-Array.getElem?_toList,Ai hzs,hzc]
      have:(List.replicate m'.toNat [Value.slice none 0 0]).flatten=List.replicate m'.toNat (.slice none 0 0):=by
       induction m'.toNat with
       | zero=>rfl
       | succ k ih=>rw [List.replicate_succ,List.flatten_cons,ih];rfl
      rw [this,List.getElem?_replicate,if_pos (by omega)]
     obtain⟨ρ',O',g1,g2,g3⟩:=hs.newRows (i:= .s d 0) (rsz:=P.cellsOf u) hfree e hcells (cap:=m'.toNat) (by simp [madeCells,hc1]) (by omega)
     refine⟨_,_,ρ',O',run,g1, ?_, ?_⟩
     ·rw [bo];with_reducible exact g2
     ·simp only [RelV]
      exact g3
    ·simp at hk
   ·simp at hk
  | false=>
  simp only [hns,cond_false] at hk
  refine⟨_,_,hk,fun hfree=> ?_⟩
  have hfree:=dl hfree List.mem_cons_self
  obtain⟨zv,hzr,run⟩:=wU (w:=w) (A:=AA c w O) (kn:= .i64) (km:= .i64) hu hz hby hzl h0 h1 h2
  have hzs:zv.cells.size=P.cellsOf e:=by have:=hzr.length;rw [Array.length_toList] at this;omega
  obtain⟨g1,g2⟩:=hs.newSl (i:= .s d 0) (sz:=P.cellsOf e) hfree e (madeCells zv.cells (m'.toNat * P.cellsOf e)) m'.toNat (RelLs.replicate hzr hzl n'.toNat)
   (rN hzs _ _ (by omega)) (by simp;omega) (by simp [madeCells])
  refine⟨_,_,_,_,run,g1,by rw [bo];exact g2, ?_⟩
  simp only [RelV]
  rw [upd_same,List.length_replicate]
 ·simp at hk
end
open Go
section
variable {P:Program} {w w':World} {A A':Nat->Prop} {c:Ctx} {ρ:Id->Option Value} {O:Id->Option Nat} {s:St} {cc:Option Bool} {h:Id->Option Blk}
theorem uz{t:TypeId}{x:AV}{vx:Value}{b:Bool}(hs:HS c w s.h ρ O)(hx:RelV w (AA c w O) ρ x vx)(h:cE P s t x=some b)(o:Operand)(ho:gz P t o=true)(a:Act)(ox oy:Operand):
  ((eqGuard .eql t ox oy vx (a.eval o)).run P w= .ok () w/\(binOp .eql t vx (a.eval o)).run P w= .ok (.bool b) w)/\
  ((eqGuard .neq t ox oy vx (a.eval o)).run P w= .ok () w/\(binOp .neq t vx (a.eval o)).run P w= .ok (.bool (!b)) w)/\
  ((eqGuard .eql t ox oy (a.eval o) vx).run P w= .ok () w/\(binOp .eql t (a.eval o) vx).run P w= .ok (.bool b) w)/\
  ((eqGuard .neq t ox oy (a.eval o) vx).run P w= .ok () w/\(binOp .neq t (a.eval o) vx).run P w= .ok (.bool (!b)) w):=by
 unfold gz at ho
 split at ho
 ·rename_i e hu
  have key:∃p l cp,vx= .slice p l cp/\p.isNone=b:=by
   unfold cE at h
   rw [hu] at h
   dsimp only at h
   split at h
   ·rename_i sz b' xs
    simp only [Option.some.injEq] at h;subst h
    simp only [RelV,RelT] at hx
    rcases hx with⟨rfl,_,rfl⟩ | ⟨rfl,_,_,_,_,rfl,_⟩
    ·exact⟨_,_,_,rfl,rfl⟩
    ·exact⟨_,_,_,rfl,rfl⟩
   ·simp only [Option.some.injEq] at h;subst h
    simp only [RelV,RelT] at hx
    rcases hx with⟨rfl,rfl⟩ | ⟨rfl,_,_,_,rfl⟩
    ·exact⟨_,_,_,rfl,rfl⟩
    ·exact⟨_,_,_,rfl,rfl⟩
   ·split at h
    ·rename_i hi
     simp only [Option.some.injEq] at h;subst h
     obtain⟨v',g1,a,cap,q1,q2,q3,q4,q5⟩:=eY hs hi
     simp only [RelV] at hx
     rw [g1] at hx;simp only [Option.some.injEq] at hx;subst hx;subst q1
     refine⟨_,_,_,rfl, ?_⟩
     cases a with
     | none=>simpa using q3
     | some a=> have:¬(_=true):=fun e=>by have:=q3.2 e;simp at this
                simpa using this
    ·simp at h
   ·simp at h
  obtain⟨p,l,cp,rfl,rfl⟩:=key
  simp only [Act.eval]
  have E1:(Op.equal t (.slice p l cp) (.slice none 0 0)).run P w= .ok p.isNone w:=by
   have:∀d,(Op.equalIn (d+1) t (.slice p l cp) (.slice none 0 0)).run P w= .ok p.isNone w:=by intro d;cases p <;> simp [Op.equalIn,run_underlying hu]
   exact this 9999
  have E2:(Op.equal t (.slice none 0 0) (.slice p l cp)).run P w= .ok p.isNone w:=by
   have:∀d,(Op.equalIn (d+1) t (.slice none 0 0) (.slice p l cp)).run P w= .ok p.isNone w:=by intro d;simp [Op.equalIn,run_underlying hu]
   exact this 9999
  refine⟨⟨by simp [eqGuard], ?_⟩,⟨by simp [eqGuard], ?_⟩,⟨by simp [eqGuard], ?_⟩,⟨by simp [eqGuard], ?_⟩⟩ <;> simp only [binOp] <;> simp [E1,E2]
 ·rename_i e hu
  have key:∃p,vx= .pointer p/\p.isNone=b:=by
   unfold cE at h
   rw [hu] at h
   dsimp only at h
   split at h
   ·simp only [Option.some.injEq] at h;subst h
    simp only [RelV,RelT] at hx
    obtain⟨_,_,rfl,_⟩:=hx
    exact⟨_,rfl,rfl⟩
   ·simp only [Option.some.injEq] at h;subst h
    simp only [RelV,RelT] at hx;subst hx
    exact⟨_,rfl,rfl⟩
   ·simp only [Option.some.injEq] at h;subst h
    simp only [RelV] at hx
    obtain⟨_,_,rfl⟩:=hx
    exact⟨_,rfl,rfl⟩
   ·simp only [Option.some.injEq] at h;subst h
    simp only [RelV] at hx
    obtain⟨_,_,_,_,_,rfl⟩:=hx
    exact⟨_,rfl,rfl⟩
   ·simp at h
  obtain⟨p,rfl,rfl⟩:=key
  simp only [Act.eval]
  have E1:(Op.equal t (.pointer p) (.pointer none)).run P w= .ok p.isNone w:=by
   have:∀d,(Op.equalIn (d+1) t (.pointer p) (.pointer none)).run P w= .ok p.isNone w:=by intro d;cases p <;> simp [Op.equalIn,run_underlying hu]
   exact this 9999
  have E2:(Op.equal t (.pointer none) (.pointer p)).run P w= .ok p.isNone w:=by
   have:∀d,(Op.equalIn (d+1) t (.pointer none) (.pointer p)).run P w= .ok p.isNone w:=by intro d;simp [Op.equalIn,run_underlying hu]
   exact this 9999
  refine⟨⟨by simp [eqGuard], ?_⟩,⟨by simp [eqGuard], ?_⟩,⟨by simp [eqGuard], ?_⟩,⟨by simp [eqGuard], ?_⟩⟩ <;> simp only [binOp] <;> simp [E1,E2]
 ·rename_i hu
  have key:(vx= .nilFunc/\b=true)\/(∃f x y,vx= .func f x y/\b=false):=by
   unfold cE at h
   rw [hu] at h
   dsimp only at h
   split at h
   ·simp only [Option.some.injEq] at h;subst h
    simp only [RelV,RelT] at hx
    exact .inl ⟨hx,rfl⟩
   ·simp only [Option.some.injEq] at h;subst h
    simp only [RelV] at hx
    obtain⟨_,_,rfl,_⟩:=hx
    exact .inr ⟨_,_,_,rfl,rfl⟩
   ·simp at h
  simp only [Act.eval]
  have E:(Op.equal t vx .nilFunc).run P w= .ok b w/\(Op.equal t .nilFunc vx).run P w= .ok b w:=by
   constructor
   ·have:∀d,(Op.equalIn (d+1) t vx .nilFunc).run P w= .ok b w:=by intro d;rcases key with⟨rfl,rfl⟩ | ⟨f,x,y,rfl,rfl⟩ <;> simp [Op.equalIn,run_underlying hu]
    exact this 9999
   ·have:∀d,(Op.equalIn (d+1) t .nilFunc vx).run P w= .ok b w:=by intro d;rcases key with⟨rfl,rfl⟩ | ⟨f,x,y,rfl,rfl⟩ <;> simp [Op.equalIn,run_underlying hu]
    exact this 9999
  rcases key with⟨rfl,rfl⟩ | ⟨f,x,y,rfl,rfl⟩ <;>
  refine⟨⟨by simp [eqGuard], ?_⟩,⟨by simp [eqGuard], ?_⟩,⟨by simp [eqGuard], ?_⟩,⟨by simp [eqGuard], ?_⟩⟩ <;> simp only [binOp] <;> simp [E.1,E.2]
 ·rename_i hu
  have key:vx= .map none/\b=true:=by
   unfold cE at h
   rw [hu] at h
   dsimp only at h
   split at h
   ·simp only [Option.some.injEq] at h;subst h
    simp only [RelV,RelT] at hx
    exact⟨hx,rfl⟩
   ·simp at h
  simp only [Act.eval]
  obtain⟨rfl,rfl⟩:=key
  have E:(Op.equal t (.map none) (.map none)).run P w= .ok true w:=by
   have:∀d,(Op.equalIn (d+1) t (.map none) (.map none)).run P w= .ok true w:=by intro d;simp [Op.equalIn,run_underlying hu]
   exact this 9999
  refine⟨⟨by simp [eqGuard], ?_⟩,⟨by simp [eqGuard], ?_⟩,⟨by simp [eqGuard], ?_⟩,⟨by simp [eqGuard], ?_⟩⟩ <;> simp only [binOp] <;> simp [E]
 ·simp at ho
theorem yJ{R:Type}{src dst:TypeId}{x:T}{vx:Value}{K:T->Option R}{r:R}(hc:cc=none\/cc=some true)(hx:RelT w A x vx)(hk:jJ P cc src dst x K=some r):
  ∃z v,K z=some r/\(convert src dst vx).run P w= .ok v w/\RelT w A z v:=by
 unfold jJ at hk
 split at hk
 ·rename_i k k' hu hu'
  replace hk:=ah hk hc;obtain⟨n,hn,hk⟩:=hk
  have:=T.int?_eq hn;subst this
  simp only [RelT] at hx;subst hx
  exact⟨_,_,hk,by simp [convert,run_underlying hu,run_underlying hu',Conv.intToInt],bL _ _ _ _⟩
 ·rename_i hu hu'
  replace hk:=ah hk hc;obtain⟨n,hn,hk⟩:=hk
  have:=T.str?_eq hn;subst this
  simp only [RelT] at hx;subst hx
  exact⟨_,_,hk,by simp [convert,run_underlying hu,run_underlying hu'],ei _ _ _⟩
 ·simp at hk
theorem sA:∀{xs:List (List T)} {l:List UInt8} {vss:List (List Value)},bytesOf xs=some l->RelLs w A 1 xs vss->∃ns:List Int,vss.flatten=ns.map (Value.int .u8)/\l=ns.map (fun n=>UInt8.ofNat n.toNat)
 | [],l,vss,e,h=>by
  simp only [RelLs] at h;subst h
  simp only [bytesOf,Option.some.injEq] at e;subst e
  exact⟨[],rfl,rfl⟩
 | cs::xs,l,vss,e,⟨vs,r,e1,e2,e3,e4⟩=>by
  subst e1
  simp only [bytesOf] at e
  obtain⟨x,hx,e⟩:=Option.bind_eq_some_iff.1 e
  obtain⟨n,hn,e⟩:=Option.bind_eq_some_iff.1 e
  obtain⟨q,hq,e⟩:=Option.bind_eq_some_iff.1 e
  simp only [Option.some.injEq] at e;subst e
  obtain⟨ns,g1,g2⟩:=sA hq e4
  have:=T.int?_eq hn;subst this
  cases cs with
  | nil=>simp at e2
  | cons y cs=>
   simp only [List.head?_cons,Option.some.injEq] at hx;subst hx
   have:cs= []:=List.length_eq_zero_iff.1 (by simpa using e2)
   subst this
   obtain⟨v,q',rfl,h3,h4⟩:=e3
   simp only [RelTs] at h4;subst h4
   simp only [RelT] at h3;subst h3
   exact⟨n::ns,by simp [g1],by simp [g2]⟩
theorem uL:∀(ns:List Int) (b:ByteArray),ns.foldl (fun r n=>r.push (UInt8.ofNat n.toNat)) b= ⟨b.data++ (ns.map (fun n=>UInt8.ofNat n.toNat)).toArray⟩
 | [],b=>by simp
 | n::ns,b=>by
  rw [List.foldl_cons,uL ns]
  simp [ByteArray.push]
theorem C4{src dst e:TypeId}{x:AV}{y:T}{vx:Value}{p:Bool×List (List T)}{l:List UInt8}(hs:HS c w s.h ρ O)(hu:P.underlying src=some (.slice e))(hu':P.underlying dst=some .string)(he:P.underlying e=some (.int .u8))
  (hx:RelV w (AA c w O) ρ x vx) (hy:aS s.h x=some y) (hp:y.lst? 1=some p) (hl:bytesOf p.2=some l):(convert src dst vx).run P w= .ok (.string ⟨l.toArray⟩) w:=by
 rcases tT hs hx hy hp with⟨e1,rfl | ⟨a,cap,rfl⟩⟩ | ⟨blk,off,cap,rfl,hels⟩
 ·rw [e1] at hl;simp only [bytesOf,Option.some.injEq] at hl;subst hl
  rw [run_convert_bytes_string w src dst e _ _ _ hu he hu']
  simp [Conv.bytesToString];rfl
 ·rw [e1] at hl;simp only [bytesOf,Option.some.injEq] at hl;subst hl
  rw [run_convert_bytes_string w src dst e _ _ _ hu he hu',run_bytesToString w a 0 cap [] (run_loadCells_list (P:=P) w a [] (by simp))]
  rfl
 ·obtain⟨vss,h1,h2⟩:=hels.vals
  obtain⟨l1,l2⟩:=h1.length
  obtain⟨ns,g1,g2⟩:=sA hl h1
  rw [run_convert_bytes_string w src dst e _ _ _ hu he hu',run_bytesToString w _ _ cap ns ?_,uL]
  ·rw [g2];simp
  ·rw [<-g1]
   have hl2:=run_loadCells_list (P:=P) w ⟨blk,off,none⟩ vss.flatten (fun j v hj=>by rw [b8];exact h2 j v hj)
   rw [l2,Nat.mul_one] at hl2
   exact hl2
theorem Ah{R:Type}{t:TypeId}(ht:az P t=true){cs:List AV}{arr:Array Value}{off:Nat}{K:AV->Option R}{r:R}(hr:RelVs w A ρ cs (arr.toList.drop off))(h1:∀u∈arr.toList,u.oneCell'=true/\u.cells= #[u])(h:fk P t cs K=some r):
  ∃av v,K av=some r/\(part t arr off).run P w= .ok v w/\RelV w A ρ av v:=by
 unfold fk at h
 unfold part
 simp only [Sem.run_bind,jH ht,Result.andThen_ok]
 cases hb:al P t
 ·simp only [hb,cond_false] at h
  cases cs with
  | nil=>simp at h
  | cons y cs=>
   simp only [List.head?_cons,Option.bind_some] at h
   simp only [RelVs] at hr
   obtain⟨v,q,e,h3,_⟩:=hr
   have hlt:off < arr.toList.length:=by
    rcases Nat.lt_or_ge off arr.toList.length with g | g
    ·exact g
    ·rw [List.drop_eq_nil_of_le g] at e;simp at e
   rw [List.drop_eq_getElem_cons hlt] at e
   simp only [List.cons.injEq] at e
   have:arr[off]? =some v:=by
    rw [Array.getElem?_eq_getElem (by simpa using hlt)]
    rw [<-e.1];simp
   simp only [Bool.false_eq_true,if_false,this]
   exact⟨_,v,h,by simp,h3⟩
 ·simp only [hb,cond_true] at h
  cases hq:fF (P.cellsOf t) cs with
  | none=>simp [hq] at h
  | some l=>
   simp only [hq,Option.bind_some] at h
   obtain⟨hl,hn⟩:=p7 hq
   have h3:=hr.take (P.cellsOf t)
   rw [<-hl] at h3
   refine⟨_, .agg (arr.extract off (off+P.cellsOf t)),h,by simp only [if_true,Sem.run_bind,cv ht,Result.andThen_ok,Sem.run_pure], ?_⟩
   simp only [RelV]
   refine⟨_, ?_,h3,fun u hu=>h1 u (List.mem_of_mem_drop (List.mem_of_mem_take hu))⟩
   congr 1
   apply Array.ext'
   simp [Array.toList_extract,List.extract_eq_take_drop]
theorem AI{R:Type}{t:TypeId}{x:AV}{vx:Value}{f:Nat}{K:AV->Option R}{r:R}(hx:RelV w A ρ x vx)(h:jO P t x f K=some r):
  ∃av v,K av=some r/\(Instr.field t vx f).run P w= .ok v w/\RelV w A ρ av v:=by
 unfold jO at h
 split at h
 ·rename_i off u hf
  obtain⟨fs,y,h1,h2,h3,h4⟩:=pT hf
  simp only [Prod.mk.injEq] at h3
  obtain⟨rfl,rfl⟩:=h3
  split at h
  ·rename_i vs
   simp only [RelV] at hx
   obtain⟨ws,rfl,g1,g2⟩:=hx
   obtain⟨av,v,k1,k2,k3⟩:=Ah (arr:=ws.toArray) h4 (by simpa using g1.drop y.offset) (by simpa using g2) h
   exact⟨av,v,k1,by simp [Instr.field,run_underlying h1,h2,asAgg,k2],k3⟩
  ·simp at h
 ·simp at h
theorem yV{R:Type}{t:TypeId}(ht:az P t=true){cs:List T}{arr:Array Value}{off:Nat}{K:AV->Option R}{r:R}(hc:cc=none\/cc=some true)(hr:RelTs w A cs (arr.toList.drop off))(h:dC P t cc cs K=some r):
  ∃av v,K av=some r/\(part t arr off).run P w= .ok v w/\RelV w A ρ av v:=by
 unfold dC at h
 unfold part
 simp only [Sem.run_bind,jH ht,Result.andThen_ok]
 cases hb:al P t
 ·simp only [hb,cond_false] at h
  replace h:=ah h hc;obtain⟨x,hx,h⟩:=h
  cases cs with
  | nil=>simp at hx
  | cons y cs=>
   simp only [List.head?_cons,Option.some.injEq] at hx;subst hx
   obtain⟨v,q,e,h3,_⟩:=hr
   have hlt:off < arr.toList.length:=by
    rcases Nat.lt_or_ge off arr.toList.length with g | g
    ·exact g
    ·rw [List.drop_eq_nil_of_le g] at e;simp at e
   rw [List.drop_eq_getElem_cons hlt] at e
   simp only [List.cons.injEq] at e
   have:arr[off]? =some v:=by
    rw [Array.getElem?_eq_getElem (by simpa using hlt)]
    rw [<-e.1];simp
   simp only [Bool.false_eq_true,if_false,this]
   obtain⟨z,h,h3⟩:=gf hc h3 h
   exact⟨_,v,h,by simp,by simpa [RelV] using h3⟩
 ·simp only [hb,cond_true] at h
  obtain⟨l,hl,hn,h⟩:=l7 hc h
  have h3:=hr.take (P.cellsOf t)
  rw [<-hl] at h3
  obtain⟨ys,h,h5⟩:=lC hc h3 h
  refine⟨_, .agg (arr.extract off (off+P.cellsOf t)),h,by simp only [if_true,Sem.run_bind,cv ht,Result.andThen_ok,Sem.run_pure], ?_⟩
  simp only [RelV]
  refine⟨_, ?_,RelVs.of_ts h5,h3.one⟩
  congr 1
  apply Array.ext'
  simp [Array.toList_extract,List.extract_eq_take_drop]
theorem pa{R:Type}{k:IntKind}(hc:cc=none\/cc=some true)(isMax:Bool):∀{l:List T} {a:Int} {vs:List Value} {K:T->Option R} {r:R},RelTs w A l vs->fW k cc isMax a l K=some r->
  ∃n,K (.int k n)=some r/\(vs.foldlM (cond isMax Builtin.max2 Builtin.min2) (.int k a)).run P w= .ok (.int k n) w
 | [],a,vs,K,r,hv,h=>by
  simp only [RelTs] at hv;subst hv
  exact⟨a,h,by simp⟩
 | y::l,a,vs,K,r,⟨v,q,e,h1,h2⟩,h=>by
  subst e
  simp only [fW] at h
  replace h:=ah h hc;obtain⟨b,hb,h⟩:=h
  have:=T.int?_eq hb;subst this
  simp only [RelT] at h1;subst h1
  obtain⟨n,e1,e2⟩:=pa hc isMax h2 h
  refine⟨n,e1, ?_⟩
  rw [List.foldlM_cons]
  have:((cond isMax Builtin.max2 Builtin.min2) (.int k a) (.int k b)).run P w= .ok (.int k (mm isMax a b)) w:=by
   cases isMax <;> simp [Builtin.max2,Builtin.min2,mm]
  simp only [Sem.run_bind,this,Result.andThen_ok]
  exact e2
end
open Go
def bK(O:Id->Option Nat)(b:Nat):Prop:= ∃i,O i=some b
def cX(blks:List Blk):Id->Option Blk
 | .c j=>blks[j]?
 | _=>none
section
variable {P:Program} {w w':World} {A A':Nat->Prop} {c:Ctx} {ρ:Id->Option Value} {O:Id->Option Nat} {s s':St} {h:Id->Option Blk}
def fH:Option Blk->List Id
 | some (.box cs)=>aD cs
 | some (.arr cs)=>aD cs
 | _=> []
theorem kC:∀{n:Nat} {todo seen0 seen:List Id},bB h n todo seen0=some seen->seen0.Nodup->(∀i∈seen0,h i≠none)->(∀i∈seen0,∀j∈fH (h i),j∈seen0\/j∈todo)->
  seen.Nodup/\(∀i∈seen0,i∈seen)/\(∀i∈todo,i∈seen)/\(∀i∈seen,h i≠none)/\∀i∈seen,∀j∈fH (h i),j∈seen
 | 0,todo,seen0,seen,e,_,_,_=>by simp [bB] at e
 | n+1,[],seen0,seen,e,hn,hd,hc=>by
  simp only [bB,Option.some.injEq] at e;subst e
  exact⟨hn,fun _ h=>h,by simp,hd,fun i hi j hj=>by rcases hc i hi j hj with h | h;exact h;cases h⟩
 | n+1,i::todo,seen0,seen,e,hn,hd,hc=>by
  simp only [bB] at e
  cases hin:seen0.contains i with
  | true=>
   rw [hin,cond_true] at e
   have hi:i∈seen0:=by simpa using hin
   obtain⟨g1,g2,g3,g4,g5⟩:=kC e hn hd (fun k hk j hj=>by
    rcases hc k hk j hj with h | h
    ·exact .inl h
    ·rcases List.mem_cons.1 h with rfl | h
     ·exact .inl hi
     ·exact .inr h)
   refine⟨g1,g2,fun k hk=> ?_,g4,g5⟩
   rcases List.mem_cons.1 hk with rfl | hk
   ·exact g2 _ hi
   ·exact g3 k hk
  | false=>
   rw [hin,cond_false] at e
   have hni:i∉seen0:=by intro hm;have:seen0.contains i=true:=by simpa using hm
                        rw [this] at hin;cases hin
   have hn':(seen0++ [i]).Nodup:=List.nodup_append.2 ⟨hn,by simp,fun a ha b hb hab=>by simp only [List.mem_singleton] at hb;exact hni (by rw [<-hb,<-hab];exact ha)⟩
   have go:∀more:List Id,h i≠none->fH (h i)=more->bB h n (todo++more) (seen0++ [i])=some seen->_:=fun more hne hm e=>
    kC e hn' (fun k hk=>by
     rcases List.mem_append.1 hk with hk | hk
     ·exact hd k hk
     ·simp only [List.mem_singleton] at hk;subst hk;exact hne) (fun k hk j hj=>by
     rcases List.mem_append.1 hk with hk | hk
     ·rcases hc k hk j hj with h | h
      ·exact .inl (List.mem_append_left _ h)
      ·rcases List.mem_cons.1 h with rfl | h
       ·exact .inl (List.mem_append_right _ (List.mem_singleton.2 rfl))
       ·exact .inr (List.mem_append_left _ h)
     ·simp only [List.mem_singleton] at hk;subst hk
      rw [hm] at hj;exact .inr (List.mem_append_right _ hj))
   have fin:∀more:List Id,(seen.Nodup/\(∀k∈seen0++ [i],k∈seen)/\(∀k∈todo++more,k∈seen)/\(∀k∈seen,h k≠none)/\∀k∈seen,∀j∈fH (h k),j∈seen)->
     seen.Nodup/\(∀i∈seen0,i∈seen)/\(∀k∈i::todo,k∈seen)/\(∀i∈seen,h i≠none)/\∀i∈seen,∀j∈fH (h i),j∈seen:=by
    rintro more ⟨g1,g2,g3,g4,g5⟩
    refine⟨g1,fun k hk=>g2 k (List.mem_append_left _ hk),fun k hk=> ?_,g4,g5⟩
    rcases List.mem_cons.1 hk with rfl | hk
    ·exact g2 _ (List.mem_append_right _ (List.mem_singleton.2 rfl))
    ·exact g3 k (List.mem_append_left _ hk)
   split at e
   ·rename_i cs hi
    exact fin _ (go (aD cs) (by rw [hi];simp) (by rw [hi];rfl) e)
   ·rename_i cs hi
    exact fin _ (go (aD cs) (by rw [hi];simp) (by rw [hi];rfl) e)
   ·rename_i b hb hb2 hi
    refine fin [] (go [] (by rw [hi];simp) ?_ (by simpa using e))
    rw [hi]
    cases b with
    | box cs=>exact(hb cs rfl).elim
    | arr cs=>exact(hb2 cs rfl).elim
    | _=>rfl
   ·simp at e
def rnρ{α:Type}(m:List Id)(f:Id->Option α):Id->Option α
 | .c j=>(m[j]?).bind f
 | .g (.c j) n=>(m[j]?).bind fun i=>f (.g i n)
 | _=>none
theorem mH{α:Type}{m:List Id}{f:Id->Option α}{i:Id}(hi:i∈m):rnρ m f (.c (m.idxOf i))=f i:=by
 simp only [rnρ]
 have:m.idxOf i < m.length:=List.idxOf_lt_length_iff.2 hi
 rw [List.getElem?_eq_getElem this]
 simp
theorem vu{α:Type}{m:List Id}{f:Id->Option α}{i:Id}{n:Nat}(hi:i∈m):rnρ m f (.g (.c (m.idxOf i)) n)=f (.g i n):=by
 simp only [rnρ]
 have:m.idxOf i < m.length:=List.idxOf_lt_length_iff.2 hi
 rw [List.getElem?_eq_getElem this]
 simp
def gD(seen:List Id):Id->Option Id
 | .c j=>seen[j]?
 | .g (.c j) n=>(seen[j]?).map fun i=> .g i n
 | _=>none
theorem sD{α:Type}{m:List Id}{f:Id->Option α}(i:Id):rnρ m f i= (gD m i).bind f:=by
 cases i with
 | c j=>rfl
 | s d j=>rfl
 | g i n=>
  cases i with
  | c j=>simp only [rnρ,gD];cases m[j]? <;> rfl
  | _=>rfl
theorem BN{seen:List Id}(hn:seen.Nodup){i j k:Id}(hr:∀x∈seen,x.real=true)(hi:gD seen i=some k)(hj:gD seen j=some k):i=j:=by
 have inj:∀{a b:Nat} {x:Id},seen[a]? =some x->seen[b]? =some x->a=b:=by
  intro a b x h1 h2
  obtain⟨l1,e1⟩:=List.getElem?_eq_some_iff.1 h1
  obtain⟨l2,e2⟩:=List.getElem?_eq_some_iff.1 h2
  exact(List.getElem_inj hn).1 (e1.trans e2.symm)
 have dec:∀i,gD seen i=some k->(∃a,i= .c a/\seen[a]? =some k)\/∃a n x,i= .g (.c a) n/\seen[a]? =some x/\k= .g x n:=by
  intro i hi
  cases i with
  | c a=>exact .inl ⟨a,rfl,hi⟩
  | s d a=>cases hi
  | g i n=>
   cases i with
   | c a=>
    simp only [gD,Option.map_eq_some_iff] at hi
    obtain⟨x,h1,h2⟩:=hi
    exact .inr ⟨a,n,x,rfl,h1,h2.symm⟩
   | _=>cases hi
 rcases dec i hi with⟨a,rfl,h1⟩ | ⟨a,n,x,rfl,h1,h2⟩ <;> rcases dec j hj with⟨b,rfl,h3⟩ | ⟨b,m,y,rfl,h3,h4⟩
 ·rw [inj h1 h3]
 ·have:=hr k (List.mem_of_getElem? h1);rw [h4] at this;cases this
 ·have:=hr k (List.mem_of_getElem? h3);rw [h2] at this;cases this
 ·rw [h2] at h4
  cases h4
  rw [inj h1 h3]
mutual
theorem RelV.rn{m:List Id}(hA:∀b,A b->A' b):∀(v:AV) (u:Value),(∀i∈v.ids,i∈m)->RelV w A ρ v u->RelV w A' (rnρ m ρ) (v.rn m) u
 | .top,_,_,_=>by simp [AV.rn,RelV]
 | .t x,u,_,hv=>by
  simp only [AV.rn,RelV] at hv⊢
  exact RelT.mono (fun b hb=>⟨hA b hb,rfl⟩) x u hv
 | .tup vs,u,hi,hv=>by
  simp only [AV.rn,RelV] at hv⊢
  obtain⟨ws,e,h1⟩:=hv
  exact⟨ws,e,RelVs.rn hA vs ws (by simpa [AV.ids] using hi) h1⟩
 | .agg vs,u,hi,hv=>by
  simp only [AV.rn,RelV] at hv⊢
  obtain⟨ws,e,h1,h2⟩:=hv
  exact⟨ws,e,RelVs.rn hA vs ws (by simpa [AV.ids] using hi) h1,h2⟩
 | .ref i off,u,hi,hv=>by
  simp only [AV.rn,RelV] at hv⊢
  rw [mH (hi i (by simp [AV.ids]))];exact hv
 | .el i sz k off,u,hi,hv=>by
  simp only [AV.rn,RelV] at hv⊢
  rw [mH (hi i (by simp [AV.ids]))];exact hv
 | .own i,u,hi,hv=>by
  simp only [AV.rn,RelV] at hv⊢
  rw [mH (hi i (by simp [AV.ids]))];exact hv
 | .part i sz off n,u,hi,hv=>by
  simp only [AV.rn,RelV] at hv⊢
  rw [mH (hi i (by simp [AV.ids]))];exact hv
 | .row i n,u,hi,hv=>by
  simp only [AV.rn,RelV] at hv⊢
  rw [vu (hi i (by simp [AV.ids]))];exact hv
 | .rel i sz n k off,u,hi,hv=>by
  simp only [AV.rn,RelV] at hv⊢
  rw [vu (hi i (by simp [AV.ids]))];exact hv
 | .fn f a b,u,hi,hv=>by
  simp only [AV.rn,RelV] at hv⊢
  obtain⟨x',y',e,h1,h2⟩:=hv
  simp only [AV.ids,List.mem_append] at hi
  exact⟨x',y',e,RelVs.rn hA a x' (fun i h=>hi i (.inl h)) h1,RelVs.rn hA b y' (fun i h=>hi i (.inr h)) h2⟩
theorem RelVs.rn{m:List Id}(hA:∀b,A b->A' b):∀(vs:List AV) (us:List Value),(∀i∈aD vs,i∈m)->RelVs w A ρ vs us->RelVs w A' (rnρ m ρ) (rnL m vs) us
 | [],us,_,hv=>by simpa [rnL,RelVs] using hv
 | v::vs,us,hi,hv=>by
  simp only [rnL,RelVs] at hv⊢
  obtain⟨u,r,e,h1,h2⟩:=hv
  simp only [aD,List.mem_append] at hi
  exact⟨u,r,e,RelV.rn hA v u (fun i h=>hi i (.inl h)) h1,RelVs.rn hA vs r (fun i h=>hi i (.inr h)) h2⟩
end
def Of(seen:List Id)(k:Id):Prop:=k∈seen\/∃i n,i∈seen/\k= .g i n
theorem CT{seen:List Id}{i k:Id}(h:gD seen i=some k):Of seen k:=by
 cases i with
 | c a=>exact .inl (List.mem_of_getElem? h)
 | s d a=>cases h
 | g i n=>
  cases i with
  | c a=>
   simp only [gD,Option.map_eq_some_iff] at h
   obtain⟨x,h1,h2⟩:=h
   exact .inr ⟨x,n,List.mem_of_getElem? h1,h2.symm⟩
  | _=>cases h
theorem kJ{seen:List Id}{b:Nat}(h:bK (rnρ seen O) b):∃k,Of seen k/\O k=some b:=by
 obtain⟨i,hi⟩:=h
 rw [sD] at hi
 obtain⟨k,hj,hk⟩:=Option.bind_eq_some_iff.1 hi
 exact⟨k,CT hj,hk⟩
theorem RowsAt.rn{seen:List Id}{i:Id}{j:Nat}{blk sz col rsz:Nat}(hA:∀b,A b->A' b)(hj:seen[j]? =some i):∀{es:List Row} {base:Nat},RowsAt w A ρ O i blk sz col rsz base es->
  RowsAt w A' (rnρ seen ρ) (rnρ seen O) (.c j) blk sz col rsz base es
 | [],_,_=>trivial
 | e::es,base,⟨⟨h1,h2,h3,v,h4,h5,h7⟩,hr⟩=>by
  have e1:rnρ seen ρ (.g (.c j) e.n)=ρ (.g i e.n):=by simp [rnρ,hj]
  refine⟨⟨h1,h2,fun k x hk hx=> ?_,v,h4,by rw [e1];exact h5, ?_⟩,RowsAt.rn hA hj hr⟩
  ·obtain⟨u,g1,g2⟩:=h3 k x hk hx
   exact⟨u,g1,RelT.mono (fun b hb=>⟨hA b hb,rfl⟩) x u g2⟩
  ·have e2:rnρ seen O (.g (.c j) e.n)=O (.g i e.n):=by simp [rnρ,hj]
   rw [e2]
   revert h7
   cases e.own with
   | none=>exact fun h=>h
   | some p=>exact fun h=>h.mono (fun b hb=>⟨hA b hb,rfl⟩) fun b hb=>⟨hb,rfl⟩
theorem RowNames.rn{seen:List Id}{i:Id}{j nx:Nat}{es:List Row}(hj:seen[j]? =some i)(h:RowNames ρ O i nx es):RowNames (rnρ seen ρ) (rnρ seen O) (.c j) nx es:=by
 have e1:∀n,rnρ seen ρ (.g (.c j) n)=ρ (.g i n):=fun n=>by simp [rnρ,hj]
 have e2:∀n,rnρ seen O (.g (.c j) n)=O (.g i n):=fun n=>by simp [rnρ,hj]
 exact⟨h.1,h.2.1,fun n hn=>by rw [e1];exact h.2.2.1 n hn,fun n b hn=>by rw [e2] at hn;exact h.2.2.2 n b hn⟩
theorem HS.rnC{c':Ctx}{seen:List Id}(hs:HS c w h ρ O)(hn:seen.Nodup)(hd:∀i∈seen,h i≠none)(hc:∀i∈seen,∀j∈fH (h i),j∈seen)
  (hA:∀b,AA c w O b->AA c' w (rnρ seen O) b) (hM:∀b,bK (rnρ seen O) b->c'.MO b) (hN:c'.N0<=w.heap.size):HS c' w (cX (seen.map fun i=>rnB seen (h i))) (rnρ seen ρ) (rnρ seen O):=by
 have hsub:∀b,bK (rnρ seen O) b->bK O b:=fun b h=>let⟨k,_,hk⟩:=kJ h;⟨k,hk⟩
 refine⟨fun i b hb=> ?_,fun i hr hi=> ?_,fun i n=>rfl,fun i n hi=> ?_,fun i n u hu=> ?_,fun i j b hi hj=> ?_,fun i b hi=> ?_,fun i b hi=> ?_,hN⟩
 ·cases i with
  | s d j=>simp [cX] at hb
  | g i n=>simp [cX] at hb
  | c j=>
   simp only [cX,List.getElem?_map,Option.map_eq_some_iff] at hb
   obtain⟨i,hi,e⟩:=hb
   have hmem:i∈seen:=List.mem_of_getElem? hi
   have hρ:rnρ seen ρ (.c j)=ρ i:=by simp [rnρ,hi]
   have hO:rnρ seen O (.c j)=O i:=by simp [rnρ,hi]
   cases hhi:h i with
   | none=>exact(hd i hmem hhi).elim
   | some x=>
    have hx:=hs.blk i x hhi
    have hcl:=hc i hmem
    rw [hhi] at e hcl
    cases x with
    | box cs=>
     simp only [rnB] at e;subst e
     obtain⟨bk,arr,t,e1,e2,e3,e4,e5⟩:=hx
     exact⟨bk,arr,t,by rw [hρ];exact e1,by rw [hO];exact e2,e3,RelVs.rn hA cs _ (fun k hk=>hcl k (by simpa [fH] using hk)) e4,e5⟩
    | sl fz sz bb xs=>
     simp only [rnB] at e;subst e
     obtain⟨v,e1,e2,e3⟩:=hx
     refine⟨v,by rw [hρ];exact e1,e2.mono (fun b hb=>⟨hA b hb,rfl⟩) (fun b hb=>⟨?_,rfl⟩),by rw [hO];exact e3⟩
     cases fz
     ·simp only [Bool.false_eq_true,if_false] at hb⊢;rw [hO];exact hb
     ·simp only [if_true] at hb⊢;exact hA b hb
    | fbox l=>
     simp only [rnB] at e;subst e
     obtain⟨bk,e1,e2,e3,e4⟩:=hx
     exact⟨bk,by rw [hρ];exact e1,by rw [hO];exact e2,hA bk e3,RelAt.mono (fun b hb=>⟨hA b hb,rfl⟩) bk e3 0 l e4⟩
    | mp ag ks vk es=>
     simp only [rnB] at e;subst e
     obtain⟨bk,ents,clock,e1,e2,e3,e4,e5⟩:=hx
     exact⟨bk,ents,clock,by rw [hρ];exact e1,by rw [hO];exact e2,e3,e4,e5⟩
    | arr cs=>
     simp only [rnB] at e;subst e
     obtain⟨bk,arr,t,e1,e2,e3,e4,e5⟩:=hx
     exact⟨bk,arr,t,by rw [hρ];exact e1,by rw [hO];exact e2,e3,RelVs.rn hA cs _ (fun k hk=>hcl k (by simpa [fH] using hk)) e4,e5⟩
    | rows bb sz col rsz nx es=>
     simp only [rnB] at e;subst e
     obtain⟨a,cap,e1,e2,e3,e4,e5⟩:=hx
     refine⟨a,cap,by rw [hρ];exact e1,e2,e3,e4.rn hi, ?_⟩
     rcases e5 with e5 | ⟨blk,off,arr,t,q1,q2,q3,q4,q5⟩
     ·exact .inl e5
     ·exact .inr ⟨blk,off,arr,t,q1,by rw [hO];exact q2,q3,q4,q5.rn hA hi⟩
    | dead=>
     simp only [rnB] at e;subst e
     obtain⟨e1,e2⟩:=hx
     exact⟨by rw [hρ];exact e1,by rw [hO];exact e2⟩
 ·cases i with
  | s d j=>exact⟨rfl,rfl⟩
  | g i n=>cases hr
  | c j=>
   simp only [cX,List.getElem?_map,Option.map_eq_none_iff] at hi
   simp [rnρ,hi]
 ·cases i with
  | c j=>
   simp only [cX,List.getElem?_map,Option.map_eq_none_iff] at hi
   simp [rnρ,hi]
  | _=>exact⟨rfl,rfl⟩
 ·cases i with
  | c j=>
   simp only [rnρ] at hu
   obtain⟨k,h1,h2⟩:=Option.bind_eq_some_iff.1 hu
   exact hs.gone k n u h2
  | _=>cases hu
 ·rw [sD] at hi hj
  obtain⟨k1,a1,b1⟩:=Option.bind_eq_some_iff.1 hi
  obtain⟨k2,a2,b2⟩:=Option.bind_eq_some_iff.1 hj
  have:=hs.inj k1 k2 b b1 b2
  subst this
  exact BN hn (fun x hx=>hs.real (hd x hx)) a1 a2
 ·obtain⟨k,hk⟩:=hsub b ⟨i,hi⟩;exact hs.lt k b hk
 ·exact hM b ⟨i,hi⟩
theorem HS.rn{seen:List Id}(hs:HS c w h ρ O)(hn:seen.Nodup)(hd:∀i∈seen,h i≠none)(hc:∀i∈seen,∀j∈fH (h i),j∈seen):
  HS c w (cX (seen.map fun i=>rnB seen (h i))) (rnρ seen ρ) (rnρ seen O)/\(∀b,bK (rnρ seen O) b->bK O b):=by
 have hsub:∀b,bK (rnρ seen O) b->bK O b:=fun b h=>let⟨k,_,hk⟩:=kJ h;⟨k,hk⟩
 refine⟨hs.rnC hn hd hc (fun b hb=>⟨hb.1,hb.2.1,fun i hi=> ?_⟩) (fun b hb=> ?_) hs.size,hsub⟩
 ·obtain⟨k,hk⟩:=hsub b ⟨i,hi⟩
  exact hb.2.2 k hk
 ·obtain⟨k,hk⟩:=hsub b hb
  exact hs.own k b hk
theorem gF:∀{n:Nat} {todo seen0 seen:List Id},bB h n todo seen0=some seen->seen0 <+:seen
 | 0,todo,seen0,seen,e=>by simp [bB] at e
 | n+1,[],seen0,seen,e=>by simp only [bB,Option.some.injEq] at e;subst e;exact List.prefix_refl _
 | n+1,i::todo,seen0,seen,e=>by
  simp only [bB] at e
  cases hin:seen0.contains i with
  | true=>rw [hin,cond_true] at e;exact gF e
  | false=>
   rw [hin,cond_false] at e
   split at e
   ·exact(List.prefix_append _ _).trans (gF e)
   ·exact(List.prefix_append _ _).trans (gF e)
   ·exact(List.prefix_append _ _).trans (gF e)
   ·simp at e
theorem tc:∀{l:List Id} {n:Nat} {todo seen0 seen:List Id},bB h n (l++todo) seen0=some seen->l.Nodup->(∀i∈l,i∉seen0)->(seen0++l) <+:seen
 | [],n,todo,seen0,seen,e,_,_=>by rw [List.append_nil];exact gF e
 | i::l,0,todo,seen0,seen,e,_,_=>by simp [bB] at e
 | i::l,n+1,todo,seen0,seen,e,hn,hd=>by
  obtain⟨n1,n2⟩:=List.nodup_cons.1 hn
  simp only [List.cons_append,bB] at e
  have hin:seen0.contains i=false:=by
   have:=hd i List.mem_cons_self
   simpa using this
  rw [hin,cond_false] at e
  have go:∀more:List Id,bB h n (l++todo++more) (seen0++ [i])=some seen->(seen0++i::l) <+:seen:=by
   intro more e
   rw [List.append_assoc] at e
   have:=tc e n2 (fun j hj hm=>by
    rcases List.mem_append.1 hm with hm | hm
    ·exact hd j (List.mem_cons_of_mem _ hj) hm
    ·simp only [List.mem_singleton] at hm;subst hm;exact n1 hj)
   simpa using this
  split at e
  ·exact go _ e
  ·exact go _ e
  ·exact go [] (by simpa using e)
  ·simp at e
theorem HS.someRho(hs:HS c w h ρ O){i:Id}{b:Blk}(hi:h i=some b):∃v,ρ i=some v/\v.oneCell'=true/\v.cells= #[v]:=by
 cases hρ:ρ i with
 | some u=>exact⟨u,rfl,cL hs hρ⟩
 | none=>
  exfalso
  have:=hs.blk i b hi
  cases b with
  | box cs=>obtain⟨b,_,_,h1,_⟩:=this;rw [hρ] at h1;cases h1
  | sl fz sz b xs=>obtain⟨v,h1,_⟩:=this;rw [hρ] at h1;cases h1
  | fbox l=>obtain⟨b,h1,_⟩:=this;rw [hρ] at h1;cases h1
  | mp ag ks vk es=>obtain⟨b,_,_,h1,_⟩:=this;rw [hρ] at h1;cases h1
  | arr cs=>obtain⟨b,_,_,h1,_⟩:=this;rw [hρ] at h1;cases h1
  | rows _ _ _ _ _ _=>obtain⟨_,_,h1,_⟩:=this;rw [hρ] at h1;cases h1
  | dead=>obtain⟨⟨v,h1,_⟩,_⟩:=this;rw [hρ] at h1;cases h1
theorem RelVs.set:∀{as:List AV} {us:List Value} {k:Nat} {v:AV} {u:Value},RelVs w A ρ as us->us[k]? =some u->RelV w A ρ v u->RelVs w A ρ (as.set k v) us
 | [],us,k,v,u,h,hk,hv=>by simp only [RelVs] at h;subst h;simp at hk
 | a::as,us,0,v,u,h,hk,hv=>by
  simp only [RelVs] at h;obtain⟨x,r,rfl,h1,h2⟩:=h
  simp only [List.getElem?_cons_zero,Option.some.injEq] at hk;subst hk
  simp only [List.set_cons_zero,RelVs];exact⟨_,_,rfl,hv,h2⟩
 | a::as,us,k+1,v,u,h,hk,hv=>by
  simp only [RelVs] at h;obtain⟨x,r,rfl,h1,h2⟩:=h
  simp only [List.getElem?_cons_succ] at hk
  simp only [List.set_cons_succ,RelVs];exact⟨_,_,rfl,h1,RelVs.set h2 hk hv⟩
theorem Cb{b:Bool}{sz:Nat}{u:Value}{Q:Nat->Prop}(h:RelT w A (.emp b) u):SlAt w A sz b [] u Q:=by
 simp only [RelT] at h
 rcases h with⟨rfl,rfl⟩ | ⟨rfl,blk,off,sp,rfl⟩
 ·exact⟨none,0,rfl,by simp,by simp,by simp, .inl rfl⟩
 ·exact⟨some ⟨blk,off,sp⟩,0,rfl,by simp,by simp,trivial, .inl rfl⟩
theorem m6{new i:Id}{k:Nat}{cs:List AV}{X:Blk}{us:Upd}{bb:Bool}(hnr:new.real=true)(hs:HS c w h ρ O)(hi:h i=some (.box cs))
  (hX:h new=none->∀u,RelT w (AA c w O) (.emp bb) u->RelB w (AA c w O) (upd ρ new (some u)) O new X) (hk:cs[k]? =some (.t (.emp bb))\/(∃z,cs[k]? =some (.t (.lst z true []))/\bb=true))
  (e:(cond (h new).isNone (some [(new,X),(i,Blk.box (cs.set k (.own new)))]) none)=some us):∃ρ' O',Le w ρ O w ρ' O'/\HS c w (ae h us) ρ' O':=by
 obtain⟨b,arr,t,h1,h2,h3,h4,h5⟩:=hs.blk i _ hi
 cases hf:h new with
 | some x=>rw [hf] at e;simp at e
 | none=>
  rw [hf] at e
  simp only [Option.isNone_none,cond_true,Option.some.injEq] at e;subst e
  have hu:∃u,arr.toList[k]? =some u/\RelT w (AA c w O) (.emp bb) u:=by
   rcases hk with hk | ⟨z,hk,rfl⟩
   ·obtain⟨u,g1,g2⟩:=h4.get hk;exact⟨u,g1,by simpa [RelV] using g2⟩
   ·obtain⟨u,g1,g2⟩:=h4.get hk
    refine⟨u,g1, ?_⟩
    simp only [RelV,RelT] at g2⊢
    rcases g2 with⟨_,_,g⟩ | ⟨g,_⟩
    ·exact .inl ⟨trivial,g⟩
    ·cases g
  obtain⟨u,g1,g2⟩:=hu
  obtain⟨n1,n2⟩:=hs.nodom new hnr hf
  have hne:i≠new:=fun e=>by rw [e,hf] at hi;cases hi
  have le:Le w ρ O w (upd ρ new (some u)) O:=⟨rfl,rfl,rfl,Nat.le_refl _,fun j v hj=>by
   by_cases e:j=new
   ·subst e;rw [n1] at hj;cases hj
   ·rw [ab _ _ e];exact hj,fun _ _ _=>rfl,fun j b h=> .inl ⟨j,h⟩⟩
  refine⟨_,O,le, ?_⟩
  rw [aO,bo]
  have hri:=hs.real (i:=i) (by rw [hi];simp)
  have gk:GK w ρ O w (upd ρ new (some u)) O:=fun j n=>⟨ab _ _ (ai hnr),rfl,fun _ _=>rfl⟩
  refine hs.go le gk (fun j x hj=> ?_) (fun j hjr hj=> ?_) (fun j hj=> ?_) (fun j n=>by rw [ab _ _ (ai hri),ab _ _ (ai hnr)];exact hs.nog j n) hs.inj hs.lt
  ·by_cases e:j=i
   ·subst e;rw [upd_same] at hj;cases hj
    right
    refine⟨b,arr,t,le.rho _ _ h1,h2,h3,RelVs.set (RelVs.mono (fun b hb=>le.A b hb) le.rho _ _ h4) g1 ?_,h5⟩
    simp only [RelV];exact upd_same _ _ _
   ·rw [ab _ _ e] at hj
    by_cases e2:j=new
    ·subst e2;rw [upd_same] at hj;cases hj
     exact .inr (hX hf u g2)
    ·rw [ab _ _ e2] at hj
     exact .inl ⟨hj,rfl,fun _ _=>rfl⟩
  ·by_cases e:j=i
   ·subst e;rw [upd_same] at hj;cases hj
   ·rw [ab _ _ e] at hj
    by_cases e2:j=new
    ·subst e2;rw [upd_same] at hj;cases hj
    ·rw [ab _ _ e2] at hj
     rw [ab _ _ e2];exact hs.nodom j hjr hj
  ·by_cases e:j=i
   ·subst e;rw [upd_same] at hj;cases hj
   ·rw [ab _ _ e] at hj
    by_cases e2:j=new
    ·subst e2;rw [upd_same] at hj;cases hj
    ·rw [ab _ _ e2] at hj;exact hj
theorem CJ{new i:Id}{k sz col rsz:Nat}{us:Upd}(hnr:new.real=true)(hs:HS c w h ρ O)(e:iS h new i k sz col rsz=some us):∃ρ' O',Le w ρ O w ρ' O'/\HS c w (ae h us) ρ' O':=by
 have hX:∀{bb:Bool},h new=none->∀u,RelT w (AA c w O) (.emp bb) u->RelB w (AA c w O) (upd ρ new (some u)) O new (.rows bb sz col rsz 0 []):=by
  intro bb hf u hu
  have hn:RowNames (upd ρ new (some u)) O new 0 []:=⟨by simp,(fun f hf=>by cases hf),fun n _=>by rw [ab _ _ (ai hnr)];exact(hs.gdom new n hf).1,fun n d hd=>by rw [(hs.gdom new n hf).2] at hd;cases hd⟩
  simp only [RelT] at hu
  rcases hu with⟨rfl,rfl⟩ | ⟨rfl,blk,off,sp,rfl⟩
  ·exact⟨none,0,upd_same _ _ _,by simp,by simp,hn, .inl rfl⟩
  ·exact⟨some ⟨blk,off,sp⟩,0,upd_same _ _ _,by simp,by simp,hn, .inl rfl⟩
 unfold iS at e
 split at e
 ·rename_i cs hi
  split at e
  ·simp only [Option.some.injEq] at e;subst e
   exact⟨ρ,O,Le.refl,hs⟩
  ·rename_i bb hk
   exact m6 hnr hs hi hX (.inl hk) e
  ·rename_i z hk
   exact m6 hnr hs hi hX (.inr ⟨z,hk,rfl⟩) e
  ·simp at e
 ·simp at e
theorem DJ{new i:Id}{k sz:Nat}{us:Upd}(hnr:new.real=true)(hs:HS c w h ρ O)(e:gg h new i k sz=some us):∃ρ' O',Le w ρ O w ρ' O'/\HS c w (ae h us) ρ' O':=by
 unfold gg at e
 cases hb:Nat.ble 100000 sz with
 | true=>rw [hb] at e;exact CJ hnr hs e
 | false=>
 rw [hb,cond_false] at e
 split at e
 ·rename_i cs hi
  obtain⟨b,arr,t,h1,h2,h3,h4,h5⟩:=hs.blk i _ hi
  have hX:∀{bb:Bool},h new=none->∀u,RelT w (AA c w O) (.emp bb) u->RelB w (AA c w O) (upd ρ new (some u)) O new (.sl false sz bb []):=
   fun _ u hu=>⟨u,upd_same _ _ _,Cb hu,by simp⟩
  split at e
  ·simp only [Option.some.injEq] at e;subst e
   exact⟨ρ,O,Le.refl,hs⟩
  ·rename_i bb hk
   exact m6 hnr hs hi hX (.inl hk) e
  ·rename_i z hk
   exact m6 hnr hs hi hX (.inr ⟨z,hk,rfl⟩) e
  ·rename_i j sz' n hk
   split at e
   ·rename_i sz'' bb xs hj0
    split at e
    ·rename_i hcond
     obtain⟨rfl,rfl,hji⟩:=hcond
     cases hf:h new with
     | some x=>rw [hf] at e;simp at e
     | none=>
      rw [hf] at e
      simp only [Option.isNone_none,cond_true,Option.some.injEq] at e;subst e
      obtain⟨u,g1,g2⟩:=h4.get hk
      obtain⟨n1,n2⟩:=hs.nodom new hnr hf
      have hne:i≠new:=fun e=>by rw [e,hf] at hi;cases hi
      have hnj:j≠new:=fun e=>by rw [e,hf] at hj0;cases hj0
      obtain⟨v,f1,⟨a,cap,rfl,f2,f3,_,f4⟩,_⟩:=hs.blk j _ hj0
      simp only [RelV] at g2
      obtain⟨a1,L,cap1,a',e1,e2,e3,rfl,e4⟩:=g2
      rw [f1] at e1;simp only [Option.some.injEq,Value.slice.injEq] at e1
      obtain⟨rfl,rfl,rfl⟩:=e1
      have hlen:(xs.take n).length=n:=by rw [List.length_take];omega
      have ha:a'=none↔a=none:=by
       rcases e4 with⟨_,rfl⟩ | ⟨_,h,_⟩ | ⟨_,_,rfl,rfl⟩
       ·exact Iff.rfl
       ·exact h
       ·simp
      have le:Le w ρ O w (upd ρ new (some (.slice a' n (cap - 0)))) (upd (upd O j none) new (O j)):=by
       refine⟨rfl,rfl,rfl,Nat.le_refl _,fun k v hk=> ?_,fun _ _ _=>rfl,fun k b hk=> ?_⟩
       ·by_cases e:k=new
        ·subst e;rw [n1] at hk;cases hk
        ·rw [ab _ _ e];exact hk
       ·by_cases e:k=new
        ·subst e;rw [upd_same] at hk;exact .inl ⟨j,hk⟩
        ·rw [ab _ _ e] at hk
         by_cases e2:k=j
         ·subst e2;rw [upd_same] at hk;cases hk
         ·rw [ab _ _ e2] at hk;exact .inl ⟨k,hk⟩
      have dec:∀k b,upd (upd O j none) new (O j) k=some b->(k=new/\O j=some b)\/(k≠new/\k≠j/\O k=some b):=by
       intro k b hk
       by_cases e:k=new
       ·subst e;rw [upd_same] at hk;exact .inl ⟨rfl,hk⟩
       ·rw [ab _ _ e] at hk
        by_cases e2:k=j
        ·subst e2;rw [upd_same] at hk;cases hk
        ·rw [ab _ _ e2] at hk;exact .inr ⟨e,e2,hk⟩
      refine⟨_,_,le, ?_⟩
      rw [aO,aO,bo]
      have hri:=hs.real (i:=i) (by rw [hi];simp)
      have hrj:=hs.real (i:=j) (by rw [hj0];simp)
      have gk:GK w ρ O w (upd ρ new (some (.slice a' n (cap - 0)))) (upd (upd O j none) new (O j)):=fun k m=>⟨ab _ _ (ai hnr),by rw [ab _ _ (ai hnr),ab _ _ (ai hrj)],fun _ _=>rfl⟩
      refine hs.go le gk (fun k x hk=> ?_) (fun k hkr hk=> ?_) (fun k hk=> ?_) (fun k m=>by rw [ab _ _ (ai hri),ab _ _ (ai hnr),ab _ _ (ai hrj)];exact hs.nog k m) (fun k k' b hk hk'=> ?_) (fun k b hk=> ?_)
      ·by_cases e:k=i
       ·subst e;rw [upd_same] at hk;cases hk
        right
        refine⟨b,arr,t,le.rho _ _ h1,by rw [ab _ _ hne,ab _ _ (Ne.symm hji)];exact h2,h3,RelVs.set (RelVs.mono (fun b hb=>le.A b hb) le.rho _ _ h4) g1 ?_,h5⟩
        simp only [RelV];exact upd_same _ _ _
       ·rw [ab _ _ e] at hk
        by_cases e2:k=new
        ·subst e2;rw [upd_same] at hk;cases hk
         right
         refine⟨_,upd_same _ _ _,⟨a',cap,by rw [hlen];rfl,by rw [hlen];omega,by rw [ha];exact f3,trivial, ?_⟩,by simp⟩
         rcases f4 with f4 | ⟨blk,off,arr',t',q1,q2,q3,q4,q5⟩
         ·exact .inl f4
         ·by_cases hc0:cap=0
          ·exact .inl hc0
          ·right
           subst q1
           have:a'=some ⟨blk,off,none⟩:=by
            rcases e4 with⟨_,rfl⟩ | ⟨h,_⟩ | ⟨b',o,e5,rfl⟩
            ·rfl
            ·exact absurd h.symm hc0
            ·simp only [Option.some.injEq,Addr.mk.injEq] at e5
             obtain⟨rfl,rfl,_⟩:=e5
             simp
           refine⟨blk,off,arr',t',this, ?_,q3,q4,(RelEls.mono' (fun b hb=>le.A b hb) blk _ rfl off xs q5).take n⟩
           simp only [Bool.false_eq_true,if_false] at q2⊢;rw [upd_same];exact q2
        ·rw [ab _ _ e2] at hk
         by_cases e3:k=j
         ·subst e3;rw [upd_same] at hk;cases hk
          exact .inr ⟨⟨_,le.rho _ _ f1,rfl,rfl⟩,by rw [ab _ _ hnj,upd_same]⟩
         ·rw [ab _ _ e3] at hk
          exact .inl ⟨hk,by rw [ab _ _ e2,ab _ _ e3],fun _ _=>rfl⟩
      ·by_cases e:k=i
       ·subst e;rw [upd_same] at hk;cases hk
       ·rw [ab _ _ e] at hk
        by_cases e2:k=new
        ·subst e2;rw [upd_same] at hk;cases hk
        ·rw [ab _ _ e2] at hk
         by_cases e3:k=j
         ·subst e3;rw [upd_same] at hk;cases hk
         ·rw [ab _ _ e3] at hk
          rw [ab _ _ e2,ab _ _ e2,ab _ _ e3];exact hs.nodom k hkr hk
      ·by_cases e:k=i
       ·subst e;rw [upd_same] at hk;cases hk
       ·rw [ab _ _ e] at hk
        by_cases e2:k=new
        ·subst e2;rw [upd_same] at hk;cases hk
        ·rw [ab _ _ e2] at hk
         by_cases e3:k=j
         ·subst e3;rw [upd_same] at hk;cases hk
         ·rw [ab _ _ e3] at hk;exact hk
      ·rcases dec k b hk with⟨rfl,p1⟩ | ⟨p0,p1,p2⟩ <;> rcases dec k' b hk' with⟨rfl,q1⟩ | ⟨q0,q1,q2⟩
       ·rfl
       ·exact(q1 (hs.inj k' j b q2 p1)).elim
       ·exact(p1 (hs.inj k j b p2 q1)).elim
       ·exact hs.inj k k' b p2 q2
      ·rcases dec k b hk with⟨rfl,p1⟩ | ⟨p0,p1,p2⟩
       ·exact hs.lt j b p1
       ·exact hs.lt k b p2
    ·simp at e
   ·simp at e
  ·simp at e
 ·simp at e
theorem Bj{new i x:Id}{k sz col rsz:Nat}{us:Upd}(e:iS h new i k sz col rsz=some us)(hx:h x=none)(hn:x≠new):ae h us x=none:=by
 unfold iS at e
 split at e
 ·rename_i cs hi
  have hxi:x≠i:=fun e=>by rw [e,hi] at hx;cases hx
  have fin:∀{b:Bool},(cond (h new).isNone (some [(new,Blk.rows b sz col rsz 0 []),(i,Blk.box (cs.set k (.own new)))]) none)=some us->ae h us x=none:=by
   intro b e
   cases hf:(h new).isNone with
   | false=>rw [hf] at e;simp at e
   | true=>
    rw [hf] at e
    simp only [cond_true,Option.some.injEq] at e;subst e
    rw [aO,bo,ab _ _ hxi,ab _ _ hn];exact hx
  split at e
  ·simp only [Option.some.injEq] at e;subst e;exact hx
  ·exact fin e
  ·exact fin e
  ·simp at e
 ·simp at e
theorem y9{new i x:Id}{k sz:Nat}{us:Upd}(e:gg h new i k sz=some us)(hx:h x=none)(hn:x≠new):ae h us x=none:=by
 unfold gg at e
 cases hb:Nat.ble 100000 sz with
 | true=>rw [hb] at e;exact Bj e hx hn
 | false=>
 rw [hb,cond_false] at e
 split at e
 ·rename_i cs hi
  have hxi:x≠i:=fun e=>by rw [e,hi] at hx;cases hx
  have fin:∀{b:Bool},(cond (h new).isNone (some [(new,Blk.sl false sz b []),(i,Blk.box (cs.set k (.own new)))]) none)=some us->ae h us x=none:=by
   intro b e
   cases hf:(h new).isNone with
   | false=>rw [hf] at e;simp at e
   | true=>
    rw [hf] at e
    simp only [cond_true,Option.some.injEq] at e;subst e
    rw [aO,bo,ab _ _ hxi,ab _ _ hn];exact hx
  split at e
  ·simp only [Option.some.injEq] at e;subst e;exact hx
  ·exact fin e
  ·exact fin e
  ·rename_i j sz' n hk
   split at e
   ·rename_i sz'' bb xs hj0
    have hxj:x≠j:=fun e=>by rw [e,hj0] at hx;cases hx
    split at e
    ·cases hf:(h new).isNone with
     | false=>rw [hf] at e;simp at e
     | true=>
      rw [hf] at e
      simp only [cond_true,Option.some.injEq] at e;subst e
      rw [aO,aO,bo,ab _ _ hxi,ab _ _ hn,ab _ _ hxj];exact hx
    ·simp at e
   ·simp at e
  ·simp at e
 ·simp at e
theorem pG{nm:Nat}:∀{l:List (Id×Nat×Nat)} {j:Nat} {h:Id->Option Blk} {ρ:Id->Option Value} {O:Id->Option Nat} {us:Upd},HS c w h ρ O->cS nm j h l=some us->∃ρ' O',Le w ρ O w ρ' O'/\HS c w (ae h us) ρ' O'
 | [],j,h,ρ,O,us,hs,e=>by simp only [cS,Option.some.injEq] at e;subst e;exact⟨ρ,O,Le.refl,hs⟩
 | (i,k,sz)::l,j,h,ρ,O,us,hs,e=>by
  simp only [cS] at e
  obtain⟨u1,e1,e⟩:=Option.bind_eq_some_iff.1 e
  obtain⟨u2,e2,e⟩:=Option.bind_eq_some_iff.1 e
  simp only [Option.some.injEq] at e;subst e
  obtain⟨ρ1,O1,le1,hs1⟩:=DJ rfl hs e1
  obtain⟨ρ2,O2,le2,hs2⟩:=pG hs1 e2
  exact⟨ρ2,O2,le1.trans le2,by rw [dQ];exact hs2⟩
theorem xM{nm:Nat}{x:Id}(hn:∀k,x≠ .s nm k):∀{l:List (Id×Nat×Nat)} {j:Nat} {h:Id->Option Blk} {us:Upd},cS nm j h l=some us->h x=none->ae h us x=none
 | [],j,h,us,e,hx=>by simp only [cS,Option.some.injEq] at e;subst e;exact hx
 | (i,k,sz)::l,j,h,us,e,hx=>by
  simp only [cS] at e
  obtain⟨u1,e1,e⟩:=Option.bind_eq_some_iff.1 e
  obtain⟨u2,e2,e⟩:=Option.bind_eq_some_iff.1 e
  simp only [Option.some.injEq] at e;subst e
  rw [dQ]
  exact xM hn e2 (y9 e1 hx (hn j))
end
open Go
section
variable {P:Program} {w w':World} {A A':Nat->Prop} {c:Ctx} {ρ:Id->Option Value} {O:Id->Option Nat} {s:St} {cc:Option Bool} {h:Id->Option Blk}
theorem ou{k:Ck}{x:T}(hk:okK k x=true):RelT w A x (aU x):=by
 cases x <;> cases k <;> simp_all [okK,RelT,aU]
theorem qC:∀{ks:List Ck} {xs:List T},aC ks xs=true->RelTs w A xs (xs.map aU)
 | [],[],_=>rfl
 | k::ks,x::xs,hk=>by
  simp only [aC,Bool.and_eq_true] at hk
  exact⟨_,_,rfl,ou hk.1,qC hk.2⟩
 | [],_::_,hk=>by simp [aC] at hk
 | _::_,[],hk=>by simp [aC] at hk
theorem rA:∀{ks:List Ck} {xs:List T},aC ks xs=true->xs.length=ks.length
 | [],[],_=>rfl
 | k::ks,x::xs,hk=>by
  simp only [aC,Bool.and_eq_true] at hk
  simp [rA hk.2]
 | [],_::_,hk=>by simp [aC] at hk
 | _::_,[],hk=>by simp [aC] at hk
theorem n8{R:Type}{k:Ck}{x:T}{v:Value}{K:T->Option R}{r:R}(hc:cc=none\/cc=some true)(hs:eD k=true)(hr:RelT w A x v)(h:typK k cc x K=some r):
  ∃y,K y=some r/\okK k y=true/\v=aU y:=by
 unfold typK at h
 cases k with
 | i k=>
  simp only at h
  replace h:=ah h hc;obtain⟨n,hn,h⟩:=h
  rw [T.int?_eq hn] at hr;exact⟨_,h,by simp [okK],by simpa [RelT,aU] using hr⟩
 | b=>
  simp only at h
  replace h:=ah h hc;obtain⟨n,hn,h⟩:=h
  rw [T.bool?_eq hn] at hr;exact⟨_,h,by simp [okK],by simpa [RelT,aU] using hr⟩
 | s=>
  simp only at h
  replace h:=ah h hc;obtain⟨n,hn,h⟩:=h
  rw [T.str?_eq hn] at hr;exact⟨_,h,by simp [okK],by simpa [RelT,aU] using hr⟩
 | l _=>simp [eD] at hs
 | x=>simp [eD] at hs
theorem qL{R:Type}(hc:cc=none\/cc=some true):∀{ks:List Ck} {xs:List T} {vs:List Value} {K:List T->Option R} {r:R},ks.all eD=true->xs.length=ks.length->RelTs w A xs vs->typKs cc ks xs K=some r->
  ∃ys,K ys=some r/\aC ks ys=true/\vs=ys.map aU
 | [],[],vs,K,r,_,_,hr,h=>⟨[],h,rfl,by simpa [RelTs] using hr⟩
 | [],_::_,vs,K,r,_,hl,hr,h=>by simp at hl
 | _::_,[],vs,K,r,_,hl,hr,h=>by simp at hl
 | k::ks,x::xs,vs,K,r,hs,hl,hr,h=>by
  obtain⟨v,q,rfl,h1,h2⟩:=hr
  simp only [List.all_cons,Bool.and_eq_true] at hs
  simp only [typKs] at h
  obtain⟨y,h,g1,g2⟩:=n8 hc hs.1 h1 h
  obtain⟨ys,h,g3,g4⟩:=qL hc hs.2 (by simpa using hl) h2 h
  exact⟨y::ys,h,by simp [aC,g1,g3],by rw [g2,g4];rfl⟩
theorem xC{k:TypeId}{q:Bool×List Ck}(h:dK P k=some q):q.2.all eD=true/\(q.1=false->q.2.length=1):=by
 unfold dK at h
 split at h
 ·simp only [Option.some.injEq] at h;subst h;simp [eD]
 ·simp only [Option.some.injEq] at h;subst h;simp [eD]
 ·split at h
  ·split at h
   ·simp only [Option.some.injEq] at h;subst h
    refine⟨?_,by simp⟩
    rw [List.all_eq_true]
    intro ck hck
    rw [List.eq_of_mem_replicate hck];rfl
   ·cases h
  ·cases h
 ·cases h
theorem pe{R:Type}{k:TypeId}{v:AV}{u:Value}{K:Bool->List Ck->List T->Option R}{r:R}(hc:cc=none\/cc=some true)(hv:RelV w A ρ v u)(h:fZ P k cc v K=some r):
  ∃ag ks cs,K ag ks cs=some r/\dK P k=some (ag,ks)/\aC ks cs=true/\u=aN ag cs:=by
 unfold fZ at h
 obtain⟨q,hq,h⟩:=Option.bind_eq_some_iff.1 h
 obtain⟨q1,q2⟩:=q
 have hsc:=xC hq
 simp only at h hsc
 split at h
 ·rename_i x _
  obtain⟨ys,h,g1,g2⟩:=qL (vs:= [u]) hc hsc.1 (by simpa using (hsc.2 rfl).symm) (show RelTs w A [x] [u] from⟨u,[],rfl,by simpa [RelV] using hv,rfl⟩) h
  refine⟨false,q2,ys,h,hq,g1, ?_⟩
  unfold aN
  rw [<-g2];rfl
 ·rename_i vs _
  obtain⟨l,hl,h⟩:=Option.bind_eq_some_iff.1 h
  split at h
  ·rename_i hlen
   simp only [RelV] at hv
   obtain⟨ws,rfl,h1,h2⟩:=hv
   obtain⟨ys,h,g1,g2⟩:=qL hc hsc.1 hlen (RelTs.of_allT hl h1) h
   refine⟨true,q2,ys,h,hq,g1, ?_⟩
   unfold aN
   rw [g2];rfl
  ·cases h
 ·cases h
theorem CE{a b:ByteArray}(e:(a==b)=true):a=b:=by
 cases a with
 | mk x=>cases b with
  | mk y=>
   have e':(x==y)=true:=e
   rw [eq_of_beq e']
theorem Aq{k:Ck}{x y:T}(hx:okK k x=true)(hy:okK k y=true)(e:hY x y=true):x=y:=by
 cases x <;> cases k <;> simp [okK] at hx <;> cases y <;> simp [okK] at hy <;> simp [hY] at e
 ·subst hx;subst hy;subst e;rfl
 ·subst e;rfl
 ·rw [CE e]
theorem yg:∀{ks:List Ck} {xs ys:List T},aC ks xs=true->aC ks ys=true->br xs ys=true->xs=ys
 | [],[],[],_,_,_=>rfl
 | k::ks,x::xs,y::ys,hx,hy,e=>by
  simp only [aC,Bool.and_eq_true] at hx hy
  simp only [br,Bool.and_eq_true] at e
  rw [Aq hx.1 hy.1 e.1,yg hx.2 hy.2 e.2]
 | [],_::_,_,hx,_,_=>by simp [aC] at hx
 | [],[],_::_,_,hy,_=>by simp [aC] at hy
 | _::_,[],_,hx,_,_=>by simp [aC] at hx
 | _::_,_::_,[],_,hy,_=>by simp [aC] at hy
theorem Cs{t:TypeId}{i:IntKind}(hu:P.underlying t=some (.int i)){x y:T}(hx:okK (.i i) x=true)(hy:okK (.i i) y=true){R:Type}(K:Bool->Option R):eqC P none t x y K=K (hY x y):=by
 cases x <;> simp [okK] at hx
 cases y <;> simp [okK] at hy
 subst hx;subst hy
 simp [eqC,hu,gdK,T.int?,hY]
theorem uT{e:TypeId}{i:IntKind}(hu:P.underlying e=some (.int i)){R:Type}:∀(n:Nat) (xs ys:List T) (K:Bool->Option R),aC (List.replicate n (.i i)) xs=true->aC (List.replicate n (.i i)) ys=true->bp P none (List.replicate n e) xs ys K=K (br xs ys)
 | 0,[],[],K,_,_=>rfl
 | n+1,x::xs,y::ys,K,hx,hy=>by
  simp only [List.replicate_succ,aC,Bool.and_eq_true] at hx hy
  simp only [List.replicate_succ,bp,br]
  rw [Cs hu hx.1 hy.1,uT hu n xs ys _ hx.2 hy.2]
 | 0,_::_,_,_,hx,_=>by simp [aC] at hx
 | 0,[],_::_,_,_,hy=>by simp [aC] at hy
 | n+1,[],_,_,hx,_=>by simp [List.replicate_succ,aC] at hx
 | n+1,_::_,[],_,_,hy=>by simp [List.replicate_succ,aC] at hy
theorem kE{ag:Bool}{ks:List Ck}{cs:List T}(hag:ag=false->ks.length=1)(h:aC ks cs=true)(ha:ag=false):∃x,cs= [x]/\aN ag cs=aU x:=by
 have hl:=rA h
 rw [hag ha] at hl
 obtain⟨x,rfl⟩:=List.length_eq_one_iff.1 hl
 exact⟨x,rfl,by rw [ha];rfl⟩
theorem A7{k:TypeId}{ag:Bool}{ks:List Ck}(hk:dK P k=some (ag,ks)){a b:List T}(ha:aC ks a=true)(hb:aC ks b=true)(w:World):
  (Op.equal k (aN ag a) (aN ag b)).run P w= .ok (br a b) w:=by
 unfold dK at hk
 split at hk
 ·rename_i i hu
  simp only [Option.some.injEq,Prod.mk.injEq] at hk
  obtain⟨rfl,rfl⟩:=hk
  obtain⟨x,rfl,ex⟩:=kE (ag:=false) (by simp) ha rfl
  obtain⟨y,rfl,ey⟩:=kE (ag:=false) (by simp) hb rfl
  rw [ex,ey]
  simp only [aC,Bool.and_true] at ha hb
  have key:∀d (p q:Int),(Op.equalIn (d+1) k (.int i p) (.int i q)).run P w= .ok (p==q) w:=fun d p q=>by simp [Op.equalIn,run_underlying hu]
  cases x <;> simp [okK] at ha
  cases y <;> simp [okK] at hb
  rename_i p1 q1
  subst ha;subst hb
  rw [show ∀a b:T,br [a] [b]=hY a b from fun a b=>by simp [br]]
  exact key 9999 _ _
 ·rename_i hu
  simp only [Option.some.injEq,Prod.mk.injEq] at hk
  obtain⟨rfl,rfl⟩:=hk
  obtain⟨x,rfl,ex⟩:=kE (ag:=false) (by simp) ha rfl
  obtain⟨y,rfl,ey⟩:=kE (ag:=false) (by simp) hb rfl
  rw [ex,ey]
  simp only [aC,Bool.and_true] at ha hb
  cases x <;> simp [okK] at ha
  cases y <;> simp [okK] at hb
  rename_i p q
  have:∀d,(Op.equalIn (d+1) k (.string p) (.string q)).run P w= .ok (p==q) w:=fun d=>by simp [Op.equalIn,run_underlying hu]
  rw [show ∀a b:T,br [a] [b]=hY a b from fun a b=>by simp [br]]
  exact this 9999
 ·rename_i n e hu
  split at hk
  ·rename_i i hu2
   split at hk
   ·rename_i hcond
    simp only [Option.some.injEq,Prod.mk.injEq] at hk
    obtain⟨rfl,rfl⟩:=hk
    have hf1:bH P 7 e=some [e]:=by simp [bH,hu2]
    have hf:bH P 8 k=some (List.replicate n e):=by
     simp only [bH,hu,hu2,Option.bind_some,List.length_singleton,hcond.1,if_true]
     congr 1
     induction n with
     | zero=>rfl
     | succ n ih=>simp [List.replicate_succ]
    obtain⟨bb,g1,g2⟩:=pB (P:=P) (w:=w) (A:=fun _=>True) 8 k _ hf 10000 (by omega) Bool none (.inl rfl) a b (a.map aU) (b.map aU) (fun b=>some b) _ (qC ha) (qC hb) (uT hu2 n a b _ ha hb)
    have hag:al P k=true:=by simp [al,hu]
    simp only [Option.some.injEq] at g1
    subst g1
    simpa [cN,hag,aN,Op.equal,Op.maxDepth] using g2
   ·cases hk
  ·cases hk
 ·cases hk
theorem n6{k:TypeId}{ag:Bool}{ks:List Ck}(hk:dK P k=some (ag,ks)){a:List T}(ha:aC ks a=true)(w:World):∀(ents:List MapEntry) (es:List (List T×T)) (j:Nat),ents.map (fun e=>(e.key,e.val))=es.map (fun p=>(aN ag p.1,aU p.2))->(∀p∈es,aC ks p.1=true)->
  ((Instr.findAsking k (aN ag a) ents j).run P w= .ok none w/\cz a es=none)\/∃i x e p,(Instr.findAsking k (aN ag a) ents j).run P w= .ok (some (j+i,aU x)) w/\cz a es=some x/\ents[i]? =some e/\es[i]? =some p/\br a p.1=true/\(∀i' p',i' < i->es[i']? =some p'->br a p'.1=false)
 | [],[],j,_,_=> .inl ⟨by simp [Instr.findAsking],rfl⟩
 | [],_::_,j,h,_=>by simp at h
 | _::_,[],j,h,_=>by simp at h
 | e::ents,(q,x)::es,j,h,hok=>by
  simp only [List.map_cons,List.cons.injEq,Prod.mk.injEq] at h
  obtain⟨⟨h1,h2⟩,h3⟩:=h
  have heq:=A7 hk ha (hok _ List.mem_cons_self) w
  simp only at heq
  cases hb:br a q
  ·rw [hb] at heq
   rcases n6 hk ha w ents es (j+1) h3 (fun p hp=>hok p (List.mem_cons_of_mem _ hp)) with⟨g1,g2⟩ | ⟨i,y,e',p',g1,g2,g3,g4,g5,g6⟩
   ·exact .inl ⟨by simp [Instr.findAsking,h1,heq,g1],by simp [cz,hb,g2]⟩
   ·refine .inr ⟨i+1,y,e',p',by simp [Instr.findAsking,h1,heq,g1];omega,by simp [cz,hb,g2],by simpa using g3,by simpa using g4,g5, ?_⟩
    intro i' p'' hi' hp''
    cases i' with
    | zero=>simp at hp'';subst hp'';exact hb
    | succ i'=>exact g6 i' p'' (by omega) (by simpa using hp'')
  ·rw [hb] at heq
   exact .inr ⟨0,x,e,(q,x),by simp [Instr.findAsking,h1,heq,h2],by simp [cz,hb],rfl,rfl,hb,fun i' _ hi'=>by omega⟩
theorem uO{f:Nat->Sem Unit}:∀(l:List Nat),(∀i∈l,(f i).run P w= .ok () w)->(forIn l PUnit.unit fun i _=>do f i;pure (ForInStep.yield PUnit.unit)).run P w= .ok PUnit.unit w
 | [],_=>by simp
 | i::l,h=>by
  simp only [List.forIn_cons,Sem.run_bind,h i List.mem_cons_self,Result.andThen_ok,Sem.run_pure]
  have:=uO (f:=f) l fun j hj=>h j (List.mem_cons_of_mem _ hj)
  simpa using this
theorem qA{k:TypeId}{ag:Bool}{ks:List Ck}(hk:dK P k=some (ag,ks)){a:List T}(ha:aC ks a=true)(em:Bool)(w:World):
  (Instr.checkKey em 10000 k (aN ag a)).run P w= .ok () w:=by
 unfold dK at hk
 split at hk
 ·rename_i i hu
  have:∀d,(Instr.checkKey em (d+1) k (aN ag a)).run P w= .ok () w:=fun d=>by simp [Instr.checkKey,run_underlying hu]
  exact this 9999
 ·rename_i hu
  have:∀d,(Instr.checkKey em (d+1) k (aN ag a)).run P w= .ok () w:=fun d=>by simp [Instr.checkKey,run_underlying hu]
  exact this 9999
 ·rename_i n e hu
  split at hk
  ·rename_i i hu2
   split at hk
   ·rename_i hcond
    simp only [Option.some.injEq,Prod.mk.injEq] at hk
    obtain⟨rfl,rfl⟩:=hk
    have hok:az P e=true:=by simp [az,hu2]
    have hag:al P e=false:=by simp [al,hu2]
    have hl:=rA ha
    rw [List.length_replicate] at hl
    have one:∀d v,(Instr.checkKey em (d+1) e v).run P w= .ok () w:=fun d v=>by simp [Instr.checkKey,run_underlying hu2]
    have hp:∀d,∀j∈List.range' 0 n 1,(do Instr.checkKey em (d+1) e (<-part e (a.map aU).toArray (j * (<-sizeOf e)))).run P w= .ok () w:=by
     intro d j hj
     have hj:j < n:=by simpa using hj
     have:=lF (P:=P) hok (a.map aU).toArray (j * 1) (fun _=>hcond.1) (by simp [hcond.1,hl];omega) w
     simp only [Sem.run_bind,cv hok,Result.andThen_ok,hcond.1,this,one d]
    have hd:∀d,(Instr.checkKey em (d+2) k (aN true a)).run P w= .ok () w:=by
     intro d
     have:=uO (P:=P) (w:=w) _ (hp d)
     rw [Instr.checkKey]
     simp only [aN,cond_true,Sem.run_bind,run_underlying hu,Result.andThen_ok]
     simp only [Std.Legacy.Range.forIn_eq_forIn_range',Std.Legacy.Range.size,Nat.sub_zero,Nat.add_one_sub_one,Nat.div_one]
     simp at this
     simp [this]
    exact hd 9998
   ·cases hk
  ·cases hk
 ·cases hk
theorem yw{kt:TypeId}{d:TypeDesc}(hu:P.underlying kt=some d)(k:Value):∀(es:List MapEntry) (j:Nat) (r:Option (Nat×Value)),Instr.findNow d k es j=some r->(Instr.findAsking kt k es j).run P w= .ok r w
 | [],j,r,h=>by simp [Instr.findNow] at h;subst h;simp [Instr.findAsking]
 | e::es,j,r,h=>by
  have key:∀b,Instr.sameNow d k e.key=some b->(Op.equal kt k e.key).run P w= .ok b w:=by
   intro b hb
   generalize e.key=ek at hb⊢
   have:∀n,(Op.equalIn (n+1) kt k ek).run P w= .ok b w:=by
    intro n
    unfold Instr.sameNow at hb
    split at hb
    ·split at hb
     ·rename_i h1
      simp only [Option.some.injEq] at hb;subst hb;subst h1
      simp [Op.equalIn,run_underlying hu]
     ·cases hb
    ·simp only [Option.some.injEq] at hb;subst hb
     simp [Op.equalIn,run_underlying hu]
    ·simp only [Option.some.injEq] at hb;subst hb
     simp [Op.equalIn,run_underlying hu]
    ·cases hb
   exact this 9999
  simp only [Instr.findNow] at h
  split at h
  ·rename_i hb
   simp only [Option.some.injEq] at h;subst h
   simp [Instr.findAsking,key _ hb]
  ·rename_i hb
   simp [Instr.findAsking,key _ hb,yw hu k es (j+1) r h]
  ·cases h
theorem jF{kt:TypeId}{d:TypeDesc}(hu:P.underlying kt=some d)(k:Value)(es:List MapEntry)(r:Option (Nat×Value))(h:(Instr.findAsking kt k es 0).run P w= .ok r w):(Instr.findKey kt k es).run P w= .ok r w:=by
 unfold Instr.findKey
 simp only [Sem.run_bind,run_underlying hu,Result.andThen_ok]
 cases hn:Instr.findNow d k es 0 with
 | none=>simpa using h
 | some r'=>
  have:=yw (w:=w) hu k es 0 r' hn
  rw [this] at h
  simpa using h
theorem pM{k:TypeId}{q:Bool×List Ck}(h:dK P k=some q):∃d,P.underlying k=some d:=by
 unfold dK at h
 split at h
 ·exact⟨_,by assumption⟩
 ·exact⟨_,by assumption⟩
 ·exact⟨_,by assumption⟩
 ·cases h
theorem o9{t:TypeId}{q:TypeId×TypeId}(h:iP P t=some q):P.underlying t=some (.map q.1 q.2):=by
 unfold iP at h
 split at h
 ·rename_i k e hu
  cases hc:az P k && az P e
  ·simp [hc] at h
  ·simp only [hc,cond_true,Option.some.injEq] at h;subst h;exact hu
 ·cases h
theorem B1{t:TypeId}{z:T}(h:qw P t=some z):∃v,(zeroValue t).run P w= .ok v w/\RelT w A z v:=by
 unfold qw at h
 split at h
 ·rename_i i hi
  split at h
  ·rename_i v hv
   refine⟨v, ?_,uN h⟩
   simp [zeroValue,typeInfo,run_program,hi,hv]
  ·cases h
 ·cases h
theorem o4{i:Id}{ag:Bool}{ks:List Ck}{vk:Ck}{es:List (List T×T)}(hs:HS c w s.h ρ O)(hi:s.h i=some (.mp ag ks vk es)):∃b ents clock,ρ i=some (.map (some b))/\O i=some b/\w.heap[b]? =some (.map ents clock)/\
   ents.toList.map (fun e=>(e.key,e.val))=es.map (fun p=>(aN ag p.1,aU p.2))/\(∀p∈es,aC ks p.1=true/\okK vk p.2=true):=by
 obtain⟨b,ents,clock,h1,h2,h3,h4,h5⟩:=hs.blk i _ hi
 exact⟨b,ents,clock,h1,h2,h3,h4,fun p hp=>by simpa using List.all_eq_true.1 h5 p hp⟩
theorem tg{a:List T}:∀{es:List (List T×T)} {x:T},cz a es=some x->∃p∈es,p.2=x
 | [],x,h=>by simp [cz] at h
 | (k,v)::r,x,h=>by
  simp only [cz] at h
  cases hb:br a k
  ·rw [hb,cond_false] at h
   obtain⟨p,hp,e⟩:=tg h
   exact⟨p,List.mem_cons_of_mem _ hp,e⟩
  ·rw [hb,cond_true] at h
   simp only [Option.some.injEq] at h
   exact⟨_,List.mem_cons_self,h⟩
theorem zL{R:Type}{t:TypeId}{x key:AV}{ok:Bool}{vx vk:Value}{K:AV->Option R}{r:R}(hs:HS c w s.h ρ O)(hx:RelV w (AA c w O) ρ x vx)(hkey:RelV w (AA c w O) ρ key vk)(hc:cc=none\/cc=some true)
  (h:fB P s cc t x key ok K=some r):∃av v,K av=some r/\(Instr.lookup t vx vk ok).run P w= .ok v w/\RelV w (AA c w O) ρ av v:=by
 unfold fB at h
 obtain⟨q,hq,h⟩:=Option.bind_eq_some_iff.1 h
 obtain⟨z,hz,h⟩:=Option.bind_eq_some_iff.1 h
 obtain⟨ag,ks,cs,h,hkk,hok,rfl⟩:=pe hc hkey h
 split at h
 ·rename_i i
  split at h
  ·rename_i ag' ks' vkk es hi
   split at h
   ·rename_i hcond
    obtain⟨rfl,rfl,hvk,hsc,_⟩:=hcond
    obtain⟨b,ents,clock,g1,g2,g3,g4,g5⟩:=o4 hs hi
    simp only [RelV] at hx
    rw [g1] at hx;simp only [Option.some.injEq] at hx;subst hx
    obtain⟨zv,hzr,hzt⟩:=B1 (w:=w) (A:=AA c w O) hz
    obtain⟨d,hd⟩:=pM hkk
    have hu:=o9 hq
    have hck:=qA hkk hok ents.isEmpty w
    rcases n6 hkk hok w ents.toList es 0 g4 (fun p hp=>(g5 p hp).1) with⟨f1,f2⟩ | ⟨j,y,e,p,f1,f2,f3,f4,f5,f6⟩
    ·have hfk:=jF hd _ _ _ f1
     rw [f2] at h
     simp only [Option.getD_none,Option.isSome_none] at h
     obtain⟨u,h,e1,e2⟩:=n8 hc hsc hzt h
     refine⟨_,cond ok (.tuple #[zv, .bool false]) zv,h, ?_, ?_⟩
     ·cases ok <;> simp [Instr.lookup,run_underlying hu,MapKept.run_getObj_map g3,hck,hfk,hzr]
     ·have:RelT w (AA c w O) u zv:=by rw [e2];exact ou e1
      cases ok
      ·simpa [RelV] using this
      ·simp only [cond_true,RelV]
       exact⟨[zv, .bool false],rfl,by simp only [RelVs,RelV];exact⟨zv,[.bool false],rfl,this, .bool false,[],rfl,by simp [RelT],rfl⟩⟩
    ·have hfk:=jF hd _ _ _ f1
     rw [f2] at h
     simp only [Option.getD_some,Option.isSome_some] at h
     obtain⟨p',hp',ep⟩:=tg f2
     have hy:okK vkk y=true:=by rw [<-ep];exact(g5 p' hp').2
     obtain⟨u,h,e1,e2⟩:=n8 hc hsc (ou (w:=w) (A:=AA c w O) hy) h
     refine⟨_,cond ok (.tuple #[aU y, .bool true]) (aU y),h, ?_, ?_⟩
     ·cases ok <;> simp [Instr.lookup,run_underlying hu,MapKept.run_getObj_map g3,hck,hfk]
     ·have:RelT w (AA c w O) u (aU y):=by rw [e2];exact ou e1
      cases ok
      ·simpa [RelV] using this
      ·simp only [cond_true,RelV]
       exact⟨[aU y, .bool true],rfl,by simp only [RelVs,RelV];exact⟨aU y,[.bool true],rfl,this, .bool true,[],rfl,by simp [RelT],rfl⟩⟩
   ·cases h
  ·cases h
 ·cases h
theorem zn(a:ByteArray):(a==a)=true:=by
 cases a with
 | mk x=>
  show(x==x)=true
  simp
theorem x7{k:Ck}{x:T}(h:okK k x=true)(n:Nat):Instr.sameBits n (aU x) (aU x)=true:=by
 cases x <;> cases k <;> simp [okK] at h <;> cases n <;> simp [Instr.sameBits,aU,zn]
theorem Ap{ag:Bool}{ks:List Ck}(hag:ag=false->ks.length=1){cs:List T}(h:aC ks cs=true)(n:Nat):Instr.sameBits (n+1) (aN ag cs) (aN ag cs)=true:=by
 cases ag with
 | false=>
  obtain⟨x,rfl,e⟩:=kE hag h rfl
  rw [e]
  cases ks with
  | nil=>simp [aC] at h
  | cons k ks=>
   simp only [aC,Bool.and_eq_true] at h
   exact x7 h.1 _
 | true=>
  simp only [aN,cond_true,Instr.sameBits,beq_self_eq_true,Bool.true_and]
  clear hag
  induction ks generalizing cs with
  | nil=>cases cs with
   | nil=>rfl
   | cons x cs=>simp [aC] at h
  | cons k ks ih=>cases cs with
   | nil=>simp [aC] at h
   | cons x cs=>
    simp only [aC,Bool.and_eq_true] at h
    have:=ih h.2
    simp only [List.map_cons,List.zip_cons_cons,List.all_cons,x7 h.1,Bool.true_and]
    simpa using this
theorem CC{ag:Bool}{ks:List Ck}(hag:ag=false->ks.length=1){cs:List T}(h:aC ks cs=true):(Instr.keyThatStays (aN ag cs) (aN ag cs)).run P w= .ok (aN ag cs) w:=by
 unfold Instr.keyThatStays
 have:Instr.sameBits 10000 (aN ag cs) (aN ag cs)=true:=Ap hag h 9999
 simp [this]
theorem vB{a:List T}{v:T}:∀{es:List (List T×T)},cz a es=none->cR a v es=es++ [(a,v)]
 | [],_=>rfl
 | (k,x)::r,h=>by
  simp only [cz] at h
  cases hb:br a k
  ·rw [hb,cond_false] at h
   simp [cR,hb,vB h]
  ·simp [hb] at h
theorem vf{a:List T}{v:T}:∀{es:List (List T×T)} {i:Nat} {p:List T×T},es[i]? =some p->br a p.1=true->(∀i' p',i' < i->es[i']? =some p'->br a p'.1=false)->cR a v es=es.set i (a,v)
 | [],i,p,h,_,_=>by simp at h
 | (k,x)::r,0,p,h,h1,_=>by
  simp at h;subst h
  simp only at h1
  simp [cR,h1]
 | (k,x)::r,i+1,p,h,h1,h2=>by
  have hb:br a k=false:=h2 0 (k,x) (by omega) rfl
  have:=vf (v:=v) (es:=r) (i:=i) (p:=p) (by simpa using h) h1 fun i' p' hi hp=>h2 (i'+1) p' (by omega) (by simpa using hp)
  simp [cR,hb,this]
theorem rr{ks:List Ck}{vk:Ck}{a:List T}{v:T}(ha:aC ks a=true)(hv:okK vk v=true):∀{es:List (List T×T)},(∀p∈es,aC ks p.1=true/\okK vk p.2=true)->∀p∈cR a v es,aC ks p.1=true/\okK vk p.2=true
 | [],_,p,hp=>by simp [cR] at hp;subst hp;exact⟨ha,hv⟩
 | (k,x)::r,h,p,hp=>by
  simp only [cR] at hp
  cases hb:br a k
  ·rw [hb,cond_false] at hp
   rcases List.mem_cons.1 hp with rfl | hp
   ·exact h _ List.mem_cons_self
   ·exact rr ha hv (fun q hq=>h q (List.mem_cons_of_mem _ hq)) p hp
  ·rw [hb,cond_true] at hp
   rcases List.mem_cons.1 hp with rfl | hp
   ·exact⟨ha,hv⟩
   ·exact h p (List.mem_cons_of_mem _ hp)
theorem HS.writeMap{i:Id}{b:Nat}{ents ents':Array MapEntry}{clock clock':Nat}{ag:Bool}{ks:List Ck}{vk:Ck}{es':List (List T×T)}{hh:Id->Option Blk}(hs:HS c w hh ρ O)(hi:hh i≠none)
  (g1:ρ i=some (.map (some b))) (g2:O i=some b) (g3:w.heap[b]? =some (.map ents clock)) (h4:ents'.toList.map (fun e=>(e.key,e.val))=es'.map (fun p=>(aN ag p.1,aU p.2))) (h5:∀p∈es',aC ks p.1=true/\okK vk p.2=true):
  Le w ρ O {w with heap:=w.heap.setIfInBounds b (.map ents' clock')} ρ O/\HS c {w with heap:=w.heap.setIfInBounds b (.map ents' clock')} (upd hh i (some (.mp ag ks vk es'))) ρ O:=by
 have hother:∀k,k≠b->(w.heap.setIfInBounds b (.map ents' clock'))[k]? =w.heap[k]?:=fun k hk=>Go.ChangeMaps.heap_setBlock_other g3 _ hk
 have le:Le w ρ O {w with heap:=w.heap.setIfInBounds b (.map ents' clock')} ρ O:=Le.write g2 rfl rfl rfl (by simp) hother
 refine⟨le,hs.write g2 le hother _ ?_ hi⟩
 exact⟨b,ents',clock',g1,g2,Go.ChangeMaps.heap_setBlock_same g3 _,h4,by rw [List.all_eq_true];exact fun p hp=>by simpa using h5 p hp⟩
theorem zC{R:Type}{t:TypeId}{x key v:AV}{vx vk vv:Value}{K:Upd->Option R}{r:R}(hs:HS c w s.h ρ O)(hx:RelV w (AA c w O) ρ x vx)(hkey:RelV w (AA c w O) ρ key vk)(hv:RelV w (AA c w O) ρ v vv)
  (h:fC P s t x key v K=some r):∃us w',K us=some r/\(Instr.mapUpdate t vx vk vv).run P w= .ok () w'/\Le w ρ O w' ρ O/\HS c w' (ae s.h us) ρ O:=by
 unfold fC at h
 obtain⟨q,hq,h⟩:=Option.bind_eq_some_iff.1 h
 obtain⟨ag,ks,cs,h,hkk,hok,rfl⟩:=pe (cc:=none) (.inl rfl) hkey h
 split at h
 ·rename_i i
  split at h
  ·rename_i ag' ks' vkk es hi
   split at h
   ·rename_i hcond
    obtain⟨rfl,rfl,hvk,hsc⟩:=hcond
    obtain⟨y,hy,h⟩:=Option.bind_eq_some_iff.1 h
    rw [AV.t?_eq hy] at hv
    simp only [RelV] at hv
    obtain⟨u,h,e1,e2⟩:=n8 (cc:=none) (.inl rfl) hsc hv h
    obtain⟨b,ents,clock,g1,g2,g3,g4,g5⟩:=o4 hs hi
    simp only [RelV] at hx
    rw [g1] at hx;simp only [Option.some.injEq] at hx;subst hx
    obtain⟨d,hd⟩:=pM hkk
    have hu:=o9 hq
    have hck:=qA hkk hok false w
    have hag:=(xC hkk).2
    rcases n6 hkk hok w ents.toList es 0 g4 (fun p hp=>(g5 p hp).1) with⟨f1,f2⟩ | ⟨j,y',e,p,f1,f2,f3,f4,f5,f6⟩
    ·have hfk:=jF hd _ _ _ f1
     obtain⟨le,hs'⟩:=HS.writeMap (ag:=ag') (ks:=ks') (vk:=vkk) (es':=cR cs u es) (ents':=ents.push {key:=aN ag' cs,val:=vv,born:=clock}) (clock':=clock+1) hs (by rw [hi];simp) g1 g2 g3
      (by rw [vB f2];simp [g4,e2]) (rr hok e1 g5)
     refine⟨_,_,h, ?_,le,hs'⟩
     simp [Instr.mapUpdate,run_underlying hu,MapKept.run_getObj_map g3,hck,hfk,MapKept.run_setObj_map _ g3]
    ·have hfk:=jF hd _ _ _ f1
     have hlt:j < es.length:=(List.getElem?_eq_some_iff.1 f4).1
     have hpk:p.1=cs:=(yg hok (g5 p (List.mem_of_getElem? f4)).1 f5).symm
     have hek:e.key=aN ag' cs:=by
      have h1:(ents.toList.map fun e=>(e.key,e.val))[j]? =some (e.key,e.val):=by simp [List.getElem?_map,f3]
      rw [g4] at h1
      simp only [List.getElem?_map,f4,Option.map_some,Option.some.injEq,Prod.mk.injEq] at h1
      rw [<-h1.1,hpk]
     have hmod:(ents.modify j fun e=>{e with key:=aN ag' cs,val:=vv}).toList.map (fun e=>(e.key,e.val))= (cR cs u es).map (fun p=>(aN ag' p.1,aU p.2)):=by
      rw [vf f4 f5 f6]
      refine List.ext_getElem? fun k=> ?_
      have hk0:(ents.toList.map fun e=>(e.key,e.val))[k]? = (es.map fun p=>(aN ag' p.1,aU p.2))[k]?:=by rw [g4]
      simp only [List.getElem?_map,Array.toList_modify,List.getElem?_modify,List.getElem?_set] at hk0⊢
      by_cases e0:j=k
      ·subst e0
       simp [f3,hlt,e2]
      ·simp only [e0,if_false]
       simpa using hk0
     obtain⟨le,hs'⟩:=HS.writeMap (ag:=ag') (ks:=ks') (vk:=vkk) (es':=cR cs u es) (ents':=ents.modify j fun e=>{e with key:=aN ag' cs,val:=vv}) (clock':=clock) hs (by rw [hi];simp) g1 g2 g3 hmod (rr hok e1 g5)
     refine⟨_,_,h, ?_,le,hs'⟩
     have hst:=CC (P:=P) (w:=w) hag hok
     have f3':ents[j]? =some e:=by simpa using f3
     rw [Nat.zero_add] at hfk
     simp [Instr.mapUpdate,run_underlying hu,MapKept.run_getObj_map g3,hck,hfk,f3',hek,hst,MapKept.run_setObj_map _ g3]
   ·cases h
  ·cases h
 ·cases h
theorem xH{a:List T}:∀{es:List (List T×T)},cz a es=none->dO a es=es
 | [],_=>rfl
 | p::es,h=>by
  unfold cz at h
  unfold dO
  cases he:br a p.1 with
  | true=>rw [he] at h;simp at h
  | false=>rw [he] at h;simp only [cond_false] at h⊢;rw [xH h]
theorem vN{a:List T}:∀{es:List (List T×T)} {i:Nat} {p:List T×T},es[i]? =some p->br a p.1=true->(∀i' p',i' < i->es[i']? =some p'->br a p'.1=false)->dO a es=es.eraseIdx i
 | [],_,_,h,_,_=>by simp at h
 | q::es,0,p,h,he,_=>by
  simp only [List.getElem?_cons_zero,Option.some.injEq] at h;subst h
  simp [dO,he]
 | q::es,i+1,p,h,he,hb=>by
  have h0:=hb 0 q (by omega) rfl
  unfold dO
  rw [h0,cond_false,vN (by simpa using h) he (fun i' p' hi hp=>hb (i'+1) p' (by omega) (by simpa using hp))]
  rfl
theorem pX{α β:Type}(f:α->β):∀(l:List α) (i:Nat),(l.eraseIdx i).map f= (l.map f).eraseIdx i
 | [],_=>rfl
 | _::_,0=>rfl
 | x::l,i+1=>by simp only [List.eraseIdx_cons_succ,List.map_cons,pX f l i]
theorem rJ{a:List T}:∀{es:List (List T×T)},∀p∈dO a es,p∈es
 | [],p,h=>h
 | q::es,p,h=>by
  unfold dO at h
  cases he:br a q.1 with
  | true=>rw [he] at h;exact List.mem_cons_of_mem _ h
  | false=>
   rw [he] at h
   rcases List.mem_cons.1 h with rfl | h
   ·exact List.mem_cons_self
   ·exact List.mem_cons_of_mem _ (rJ p h)
theorem A2{R:Type}{t ty tr:TypeId}{x key:AV}{vx vk:Value}{K:Upd->Option R}{r:R}(hs:HS c w s.h ρ O)(hx:RelV w (AA c w O) ρ x vx)(hkey:RelV w (AA c w O) ρ key vk)
  (h:eU P s t x key K=some r):∃us w',K us=some r/\(Builtin.delete_ #[t,ty] tr #[vx,vk]).run P w= .ok (.tuple #[]) w'/\Le w ρ O w' ρ O/\HS c w' (ae s.h us) ρ O:=by
 unfold eU at h
 obtain⟨q,hq,h⟩:=Option.bind_eq_some_iff.1 h
 obtain⟨ag,ks,cs,h,hkk,hok,rfl⟩:=pe (cc:=none) (.inl rfl) hkey h
 split at h
 ·rename_i i
  split at h
  ·rename_i ag' ks' vkk es hi
   split at h
   ·rename_i hcond
    obtain⟨rfl,rfl⟩:=hcond
    obtain⟨b,ents,clock,g1,g2,g3,g4,g5⟩:=o4 hs hi
    simp only [RelV] at hx
    rw [g1] at hx;simp only [Option.some.injEq] at hx;subst hx
    obtain⟨d,hd⟩:=pM hkk
    have hu:=o9 hq
    have hck:=qA hkk hok ents.isEmpty w
    rcases n6 hkk hok w ents.toList es 0 g4 (fun p hp=>(g5 p hp).1) with⟨f1,f2⟩ | ⟨j,y',e,p,f1,f2,f3,f4,f5,f6⟩
    ·have hfk:=jF hd _ _ _ f1
     obtain⟨le,hs'⟩:=HS.writeMap (ag:=ag') (ks:=ks') (vk:=vkk) (es':=dO cs es) (ents':=ents) (clock':=clock) hs (by rw [hi];simp) g1 g2 g3 (by rw [xH f2];exact g4) (fun p hp=>g5 p (rJ p hp))
     refine⟨_,_,h, ?_,le,hs'⟩
     simp [Builtin.delete_,run_underlying hu,MapKept.run_getObj_map g3,hck,hfk,MapKept.run_setObj_map _ g3]
    ·have hfk:=jF hd _ _ _ f1
     have hlt:j < es.length:=(List.getElem?_eq_some_iff.1 f4).1
     have hle:ents.toList.length=es.length:=by simpa using congrArg List.length g4
     have hj:j < ents.size:=by rw [<-Array.length_toList,hle];exact hlt
     obtain⟨le,hs'⟩:=HS.writeMap (ag:=ag') (ks:=ks') (vk:=vkk) (es':=dO cs es) (ents':=ents.eraseIdxIfInBounds j) (clock':=clock) hs (by rw [hi];simp) g1 g2 g3 (by
       rw [vN f4 f5 f6,pX,<-g4,<-pX]
       simp only [Array.eraseIdxIfInBounds,hj,dif_pos,Array.toList_eraseIdx]) (fun p hp=>g5 p (rJ p hp))
     refine⟨_,_,h, ?_,le,hs'⟩
     rw [Nat.zero_add] at hfk
     simp [Builtin.delete_,run_underlying hu,MapKept.run_getObj_map g3,hck,hfk,MapKept.run_setObj_map _ g3]
   ·cases h
  ·cases h
 ·cases h
theorem Ar{R:Type}{d:Nat}{t:TypeId}{K:AV->Upd->Option R}{r:R}(hs:HS c w s.h ρ O)(h:jv P d t K=some r):
  ∃v us,K v us=some r/\(cC d s.h us=true->∃u w' ρ' O',(Instr.makeMap t none).run P w= .ok u w'/\Le w ρ O w' ρ' O'/\HS c w' (ae s.h us) ρ' O'/\RelV w' (AA c w' O') ρ' v u):=by
 unfold jv at h
 obtain⟨q,hq,h⟩:=Option.bind_eq_some_iff.1 h
 obtain⟨p,hp,h⟩:=Option.bind_eq_some_iff.1 h
 split at h
 ·rename_i hsc
  refine⟨_,_,h,fun hfree=> ?_⟩
  have hfree:=dl hfree List.mem_cons_self
  have le:=Le.alloc hs (i:= .s d 0) rfl hfree (.map #[] 0) (.map (some w.heap.size)) (some w.heap.size) (.inr rfl)
  have hs':=hs.alloc (i:= .s d 0) rfl hfree (.map #[] 0) (.map (some w.heap.size)) (some w.heap.size) (.inr rfl) (.mp p.1 p.2 (ee P q.2) []) ⟨w.heap.size,#[],0,by simp,by simp,de _,by simp,by simp⟩
  refine⟨.map (some w.heap.size),_,_,_,rfl,le,by rw [bo];exact hs', ?_⟩
  simp only [RelV]
  rw [upd_same]
 ·cases h
end
end Go.Aev
