import Derived.Test.YtdjbbnlgpddbmaaAwayAllQ17
set_option linter.all false
namespace Go.Aev.Wd.Lg
open Go Go.Aev Go.Aev.Gen Go.Aev.Wd Go.Aev.Tb
structure RE (n:Nat) (rows:List R):Prop where
 n:n<=3
 m:rows.length<=8
 of:∀r∈rows,∀c∈r.of, -9<=c/\c<=9
 tv:∀r∈rows, -9<=r.tv/\r.tv<=9
section
variable {n:Nat} {rows:List R} {gl:List Int}
end
open Go Go.Aev Go.Aev.Gen Go.Aev.Wd Go.Aev.Tb
def Pt(n:Nat)(rows:List R)(xs:List Rat):Prop:=xs.length=n/\∀r∈rows,jU r (b9 r.of xs)=true
section
variable {n:Nat} {rows:List R} {gl:List Int}
end
section
variable {n:Nat} {rows:List R} {gl:List Int}
theorem Pt.left{r:R}{xs:List Rat}(h:Pt n (rows++ [r]) xs):Pt n rows xs:=⟨h.1,λq a=>h.2 q (RY _ a)⟩
end
end Go.Aev.Wd.Lg
namespace Go.Aev.Tb
open Go Go.Aev
def Sy.u2(S:Sy)(j:Nat):Rat:=if S.kd j=2 then -1 else 0
structure Sy.uP (S:Sy) (T:Nat->Rat):Prop where
 sg:∀j,j < S.m->S.kd j≠3->0<=T j
 ax:∀k,k < S.n->sm S.m (λj=>T j * S.A j k)=0
 val:cH (sm S.m (λj=>T j * S.to j),sm S.m (λj=>T j * S.u2 j)) (0,0)
theorem xT(S:Sy)(j:Nat):S.up (S.n+j)= (S.to j,S.u2 j):=by unfold Sy.up Sy.u2;rw [TH]
theorem O9{S:Sy}{t:bV}(ok:S.OK t){i:Nat}(hi:i < S.m)(hb:S.fO t (t.ah i))
  (no:∀u,u < S.n+S.m->t.c i u≠0->¬S.Can t (S.ao t (t.ah i) * t.c i u) u):S.uP (S.mul t i):=by
 have K:S.n<=t.ah i:=hb.1;have J:=ok.wf.hb i hi;have L:=Rn S t (t.ah i);obtain⟨q,d⟩:∃q,t.ah i=S.n+q:=⟨t.ah i - S.n,by omega⟩;have s:q < S.m:=by omega
 have E:t.c i (t.ah i)=0:=ok.wf.z i i hi hi;have free:∀u,u < S.n->t.c i u=0:=λu p=>V6 λa=>no u (by omega) a ⟨λ_=> .inl p,λ_=> .inl p⟩;have r:∀j,j < S.m->t.c i (S.n+j)≠0->(t.y (S.n+j),t.z (S.n+j))= (S.to j,S.u2 j):=λj b a=>by have nb:∀q,q < S.m->t.ah q≠S.n+j:=λq d e=>a (by rw [<-e];exact ok.wf.z i q hi d);have f:=ok.fix (S.n+j) (by omega) nb;unfold Sy.fx at f;rw [if_neg (by omega),xT] at f;exact f
 have x:∀y:Nat->Rat,fg S.n S.m S.A y->sm S.m (λj=>S.mul t i j * y (S.n+j))=0:=λy hy=>by
  have h1:=(ok.wf.same y).2 hy i hi;rw [BC (λk=>t.c i k * y k) S.n S.m] at h1;have l:sm S.n (λk=>t.c i k * y k)=0:=l7 λk hk=>by rw [free k hk,T6]
  rw [l] at h1;have e:sm S.m (λj=>S.mul t i j * y (S.n+j))=sm S.m (λj=>S.ao t (t.ah i) * (t.c i (S.n+j) * y (S.n+j))+ -(S.ao t (t.ah i)) * (if j=q then y (t.ah i) else 0)):=by
   refine eJ λj b=> ?_;unfold Sy.mul;by_cases g:j=q
   .subst g;rw [if_pos d.symm,if_pos rfl,<-d,E];grind
   .rw [if_neg (by omega),if_neg g];grind
  rw [e,k9,og s,h1];grind
 have val:∀(y F:Nat->Rat),fg S.n S.m S.A y->(∀j,j < S.m->t.c i (S.n+j)≠0->y (S.n+j)=F j)->sm S.m (λj=>S.mul t i j * F j)=S.ao t (t.ah i) * (y (t.ah i) - F q):=λy F hy H=>by
  have h:=x y hy;have e:sm S.m (λj=>S.mul t i j * F j)=sm S.m (λj=>1 * (S.mul t i j * y (S.n+j))+S.ao t (t.ah i) * (if j=q then y (t.ah i) - F q else 0)):=by
   refine eJ λj b=> ?_;by_cases g:j=q
   .subst g;unfold Sy.mul;rw [if_pos d.symm,if_pos rfl,d];grind
   .rw [if_neg g];by_cases l:t.c i (S.n+j)=0
    .unfold Sy.mul;rw [if_neg (by omega),l];grind
    .rw [H j b l];grind
  rw [e,k9,og s,h];grind
 refine⟨λj b D=> ?_,λk hk=> ?_, ?_⟩
 .unfold Sy.mul;by_cases g:S.n+j=t.ah i
  .rw [if_pos g];rcases hb.2 with h | ⟨h,_⟩
   .unfold Sy.ao;rw [if_pos h];grind
   .rw [<-g,TH] at h;exact absurd h D
  .rw [if_neg g];by_cases l:t.c i (S.n+j)=0
   .rw [l,Tm];exact To
   .refine V6 λI=>no (S.n+j) (by omega) l ⟨λh=>absurd h (by grind),λ_=> .inr (.inl ?_)⟩;rw [TH];exact D
 .let y:Nat->Rat:=λv=>if v < S.n then(if v=k then 1 else 0) else S.A (v - S.n) k;have w:∀i,y (S.n+i)=S.A i k:=λi=>by
   show(if S.n+i < S.n then _ else _)=_;rw [if_neg (by omega),TH]
  have C:fg S.n S.m S.A y:=λi _=>by
   rw [w,m7 hk]
   .show S.A i k=S.A i k * (if k < S.n then(if k=k then 1 else 0) else _);rw [if_pos hk,if_pos rfl,Rat.mul_one]
   .intro j b a;show S.A i j * (if j < S.n then(if j=k then 1 else 0) else _)=0;rw [if_pos b,if_neg a,Tm]
  rw [<-x y C];exact eJ λi _=>by rw [w]
 .rw [val t.y S.to ok.hy λj b a=>congrArg Prod.fst (r j b a),val t.z S.u2 ok.hz λj b a=>congrArg Prod.snd (r j b a)];have p:=xT S q;rcases hb.2 with h | ⟨_,h⟩
  .have o:S.ao t (t.ah i)= -1:=by unfold Sy.ao;rw [if_pos h]
   rw [o];rw [d,p,<-d] at h;unfold cH bV.val at h;unfold cH;rcases h with h | ⟨h1,B⟩
   .exact .inl (by simp only at h⊢;grind)
   .exact .inr (by simp only at h1 B⊢;grind)
  .have hn:¬cH (S.up (t.ah i)) (t.val (t.ah i)):=λG=>by
    unfold cH at h G;grind
   have o:S.ao t (t.ah i)=1:=by unfold Sy.ao;rw [if_neg hn]
   rw [o];rw [d,p,<-d] at h;unfold cH bV.val at h;unfold cH;rcases h with h | ⟨h1,B⟩
   .exact .inl (by simp only at h⊢;grind)
   .exact .inr (by simp only at h1 B⊢;grind)
theorem BE{f:Nat->Rat}:∀{n:Nat},(∀i,i < n->0<=f i)->0<=sm n f
 | 0,_=>To
 | n+1,h=>by have h1:=BE (n:=n) λi hi=>h i (by omega);have a:=h n (by omega);show 0<=sm n f+f n;grind
theorem IF{f:Nat->Rat}:∀{n:Nat},(∀i,i < n->0<=f i)->sm n f=0->∀i,i < n->f i=0
 | 0,_,_,i,hi=>by omega
 | n+1,h,e,i,hi=>by
  have h1:=BE (n:=n) λi hi=>h i (by omega);have c:=h n (by omega);have b:sm n f+f n=0:=e;by_cases a:i=n
  .subst a;grind
  .exact IF (n:=n) (λi hi=>h i (by omega)) (by grind) i (by omega)
theorem O8{S:Sy}{T:Nat->Rat}(R:S.uP T){y:Nat->Rat}(hy:fg S.n S.m S.A y)(g:∀j,j < S.m->y (S.n+j)<=S.to j/\(S.kd j=3->y (S.n+j)=S.to j)/\(S.kd j=2->y (S.n+j) < S.to j)):False:=by
 have e:sm S.m (λj=>T j * y (S.n+j))=0:=by
  have h1:sm S.m (λj=>T j * y (S.n+j))=sm S.m (λj=>sm S.n (λk=>T j * (S.A j k * y k))):=eJ λj d=>by rw [hy j d,tw]
  rw [h1,BF];refine l7 λk hk=> ?_;have c:sm S.m (λj=>T j * (S.A j k * y k))=sm S.m (λj=>y k * (T j * S.A j k)):=eJ λj _=>by grind
  rw [c,tw,R.ax k hk,Tm]
 have nn:∀j,j < S.m->0<=T j * (S.to j - y (S.n+j)):=λj d=>by
  obtain⟨h1,c,_⟩:=g j d;by_cases i:S.kd j=3
  .rw [c i];have:S.to j - S.to j=0:=by grind
   rw [this,Tm];exact To
  .exact TU (R.sg j d i) (by grind)
 have s:sm S.m (λj=>T j * (S.to j - y (S.n+j)))=sm S.m (λj=>T j * S.to j):=by
  have h1:sm S.m (λj=>T j * (S.to j - y (S.n+j)))=sm S.m (λj=>1 * (T j * S.to j)+ (-1) * (T j * y (S.n+j))):=eJ λj _=>by grind
  rw [h1,k9,e];grind
 have l:=BE nn;rcases R.val with h | ⟨h1,c⟩
 .simp only at h;rw [s] at l;exact absurd h (by grind)
 .simp only at h1 c;have f:=IF nn (by rw [s];exact h1);have:sm S.m (λj=>T j * S.u2 j)=0:=l7 λj d=>by
   unfold Sy.u2;by_cases k2:S.kd j=2
   .have a:=f j d;have b:=(g j d).2.2 k2;have:T j=0:=by
     rcases Rat.mul_eq_zero.1 a with h | h
     .exact h
     .exact absurd h (by grind)
    rw [this,T6]
   .rw [if_neg k2,Tm]
  rw [this] at c;exact absurd c (by grind)
theorem IH(d z:Nat->Rat):∀(m:Nat),∃e:Rat,0 < e/\∀j,j < m->0 < d j->e * z j < d j
 | 0=>⟨1,by decide,λj h=>by omega⟩
 | m+1=>by
  obtain⟨e,h1,g⟩:=IH d z m;by_cases i: 0 < d m
  .by_cases hz: 0 < z m
   .have a: 0 < d m / (2 * z m):=by
     rw [SF];exact Wq i (Rat.inv_pos.2 (by grind))
    have b:d m / (2 * z m) * z m=d m / 2:=by rw [SF,SF,Rat.inv_mul_rev];have:(z m)⁻¹ * z m=1:=UP _ (by grind);grind
    have p:d m / 2 < d m:=by
     have:d m / 2=d m * (1 / 2):=by rw [SF,SF];grind
     rw [this];grind
    by_cases k:e<=d m / (2 * z m)
    .refine⟨e,h1,λj h c=> ?_⟩;by_cases f:j=m
     .subst f;have:=UQ k (show 0<=z j by grind);grind
     .exact g j (by omega) c
    .refine⟨d m / (2 * z m),a,λj h c=> ?_⟩;by_cases f:j=m
     .subst f;grind
     .have l:=g j (by omega) c;by_cases o: 0 < z j
      .have:=UQ (show d m / (2 * z m)<=e by grind) (show 0<=z j by grind);grind
      .have:=TU (show 0<=d m / (2 * z m) by grind) (show 0<= -(z j) by grind);grind
   .refine⟨e,h1,λj h c=> ?_⟩;by_cases f:j=m
    .subst f;have:=TU (show 0<=e by grind) (show 0<= -(z j) by grind);grind
    .exact g j (by omega) c
  .refine⟨e,h1,λj h c=> ?_⟩;by_cases f:j=m
   .subst f;exact absurd c i
   .exact g j (by omega) c
theorem Ok{S:Sy}{t:bV}(ok:S.OK t)(kd:∀j,j < S.m->S.kd j=1\/S.kd j=2\/S.kd j=3)(p:∀j,j < S.m->¬S.fO t (t.ah j)):
  ∃y:Nat->Rat,fg S.n S.m S.A y/\∀j,j < S.m->y (S.n+j)<=S.to j/\(S.kd j=3->y (S.n+j)=S.to j)/\(S.kd j=2->y (S.n+j) < S.to j):=by
 have hv:∀j,j < S.m->¬cH (S.to j,S.u2 j) (t.y (S.n+j),t.z (S.n+j))/\(S.kd j=3->¬cH (t.y (S.n+j),t.z (S.n+j)) (S.to j,S.u2 j)):=λj a=>by
  by_cases hb:∃q,q < S.m/\t.ah q=S.n+j
  .obtain⟨q,l,e⟩:=hb;have h:=p q l;rw [e] at h;unfold Sy.fO at h;rw [xT,TH] at h;exact⟨λg=>h ⟨Ue _ _, .inl g⟩,λw g=>h ⟨Ue _ _, .inr ⟨w,g⟩⟩⟩
  .have f:=ok.fix (S.n+j) (by omega) (λq l e=>hb ⟨q,l,e⟩);unfold Sy.fx at f;rw [if_neg (by omega),xT] at f;have r:t.y (S.n+j)=S.to j:=congrArg Prod.fst f;have s:t.z (S.n+j)=S.u2 j:=congrArg Prod.snd f;rw [r,s];unfold cH;exact⟨by grind,λ_=>by grind⟩
 obtain⟨e,e0,u⟩:=IH (λj=>S.to j - t.y (S.n+j)) (λj=>t.z (S.n+j)) S.m;refine⟨λv=>t.y v+e * t.z v,λj a=> ?_,λj a=> ?_⟩
 .show t.y (S.n+j)+e * t.z (S.n+j)=sm S.n (λk=>S.A j k * (t.y k+e * t.z k));rw [ok.hy j a,ok.hz j a];have h1:sm S.n (λk=>S.A j k * (t.y k+e * t.z k))=sm S.n (λk=>1 * (S.A j k * t.y k)+e * (S.A j k * t.z k)):=eJ λk _=>by grind
  rw [h1,k9];grind
 .obtain⟨b,d⟩:=hv j a;have c:=u j a;unfold cH at b d;simp only at b d c;show t.y (S.n+j)+e * t.z (S.n+j)<=S.to j/\(S.kd j=3->t.y (S.n+j)+e * t.z (S.n+j)=S.to j)/\(S.kd j=2->t.y (S.n+j)+e * t.z (S.n+j) < S.to j);unfold Sy.u2 at b d;rcases kd j a with k | k | k
  .rw [if_neg (by omega)] at b;refine⟨?_,λh=>by omega,λh=>by omega⟩;by_cases h:t.y (S.n+j) < S.to j
   .have:=c (by grind);grind
   .have h1:t.y (S.n+j)=S.to j:=by grind
    have i:t.z (S.n+j)<=0:=by grind
    have:=TU (show 0<=e by grind) (show 0<= -(t.z (S.n+j)) by grind);grind
  .rw [if_pos k] at b;have o:t.y (S.n+j)+e * t.z (S.n+j) < S.to j:=by
    by_cases h:t.y (S.n+j) < S.to j
    .have:=c (by grind);grind
    .have h1:t.y (S.n+j)=S.to j:=by grind
     have i:t.z (S.n+j)<= -1:=by grind
     have:=TU (show 0<=e by grind) (show 0<= -1 - t.z (S.n+j) by grind);grind
   exact⟨by grind,λh=>by omega,λ_=>o⟩
  .rw [if_neg (by omega)] at b d;have x:=d k;have h1:t.y (S.n+j)=S.to j:=by grind
   have i:t.z (S.n+j)=0:=by grind
   rw [h1,i];exact⟨by grind,λ_=>by grind,λh=>by omega⟩
end Go.Aev.Tb
namespace Go.Aev.Wd.Lg
open Go Go.Aev Go.Aev.Gen Go.Aev.Wd Go.Aev.Tb
section
variable {n:Nat} {rows:List R} {t:TL}
end
open Go Go.Aev Go.Aev.Gen Go.Aev.Wd Go.Aev.Tb
def HR(r:R)(q:Rat):Prop:=q<=(r.tv:Rat)/\(r.kd=3->q= (r.tv:Rat))/\(r.kd=2->q < (r.tv:Rat))
theorem wg{r:R}(hk:r.kd=1\/r.kd=2\/r.kd=3)(q:Rat):jU r q=true↔HR r q:=by
 unfold jU HR;rcases hk with k | k | k
 .rw [if_pos k,decide_eq_true_eq];exact⟨λh=>⟨h,λa=>by omega,λa=>by omega⟩,λh=>h.1⟩
 .rw [if_neg (by omega),if_pos k,decide_eq_true_eq];exact⟨λh=>⟨by grind,λa=>by omega,λ_=>h⟩,λh=>h.2.2 k⟩
 .rw [if_neg (by omega),if_neg (by omega),decide_eq_true_eq];exact⟨λh=>⟨by grind,λ_=>h,λa=>by omega⟩,λh=>h.2.1 k⟩
section
variable {n:Nat} {rows:List R}
theorem MS:∀(p:Nat) (t:TL) (l:List Nm),ch n rows t->(bW n rows true p t).1=some l->∃T,(aQ n rows).uP T:=by
 intro p;induction p with
 | zero=>
  intro t l h hl;rcases oP h with⟨_,hb⟩ | ⟨i,hi,c,d,hb,hk⟩
  .rw [oZ true _ hb] at hl;cases hl
  .rw [qB true hb] at hl;cases hl
 | succ p j=>
  intro t l h hl;rcases oP h with⟨_,hb⟩ | ⟨i,hi,c,d,hb,hk⟩
  .rw [oZ true _ hb] at hl;cases hl
  .rw [qA true p hb hk] at hl;cases e:bx n rows t.val (bu n rows t (t.st.ah i)) (ay t.ak i) 0 with
   | none=>refine⟨_,O9 h.ok hi c λu _ f g=> ?_⟩;have a:=zB e u (Vt u) (by rw [Te];exact f);rw [Te] at a;rw [BX] at g;have b:=(rV (n:=n) (rows:=rows) t (xY n rows t _) f (v:=u)).2 g;exact Bool.noConfusion (a.symm.trans b)
   | some v=>rw [e] at hl;obtain⟨m,o,_⟩:=mB e;obtain⟨k,_⟩:=h.step true hi (v:=v) (by have:=h.aZ.row hi;omega) c e d;exact j _ l k hl
theorem NJ(f:Nat->Rat){n k:Nat}(hk:k < n):((List.range n).map f).getD k 0=f k:=by rw [RO,Sp,VH hk];rfl
theorem Pp(ro:eM n rows){y:Nat->Rat}(hy:fg n rows.length (aQ n rows).A y){i:Nat}(hi:i < rows.length):b9 (rowAt rows i).of ((List.range n).map y)=y (n+i):=by rw [zj _ _ (by simpa using ro.len _ (gJ hi)),Ty,List.length_range];refine Eq.trans ?_ (hy i hi).symm;exact eJ λk hk=>by rw [NJ y hk];rfl
theorem Pa(ro:eM n rows){T:Nat->Rat}(d:(aQ n rows).uP T){xs:List Rat}(c:xs.length=n)(h:∀r∈rows,HR r (b9 r.of xs)):False:=by
 let y:Nat->Rat:=λv=>if v < n then xs.getD v 0 else b9 (rowAt rows (v - n)).of xs;have a:∀i,y (n+i)=b9 (rowAt rows i).of xs:=λi=>by show(if n+i < n then _ else b9 (rowAt rows (n+i - n)).of xs)=_;rw [if_neg (by omega),TH]
 refine O8 d (y:=y) (λi hi=> ?_) (λj e=> ?_)
 .have b:i < rows.length:=hi;show y (n+i)=_;rw [a,zj _ _ (by rw [c];exact ro.len _ (gJ b)),c];exact eJ λk hk=>by
   show _=_ * (if k < n then xs.getD k 0 else _);rw [if_pos hk];rfl
 .show y (n+j)<=((rowAt rows j).tv:Rat)/\((rowAt rows j).kd=3->y (n+j)= ((rowAt rows j).tv:Rat))/\((rowAt rows j).kd=2->y (n+j) < ((rowAt rows j).tv:Rat));rw [a];exact h _ (gJ e)
end
section
variable {n:Nat} {rows:List R} {gl:List Int}
theorem Pt.hr(go:tT n rows gl){xs:List Rat}:Pt n rows xs↔xs.length=n/\∀r∈rows,HR r (b9 r.of xs):=
 ⟨λh=>⟨h.1,λr hr=>(wg (go.ro.kd r hr) _).1 (h.2 r hr)⟩,λh=>⟨h.1,λr hr=>(wg (go.ro.kd r hr) _).2 (h.2 r hr)⟩⟩
end
end Go.Aev.Wd.Lg
