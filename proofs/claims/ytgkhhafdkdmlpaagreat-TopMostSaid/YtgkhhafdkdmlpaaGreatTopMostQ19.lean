import Derived.Test.YtgkhhafdkdmlpaaGreatTopMostQ18
set_option linter.all false
namespace Go.Aev.Wd.Lg
open Go Go.Aev Go.Aev.Gen Go.Aev.Wd Go.Aev.Tb
structure mH (n:Nat) (rows:List R):Prop where
 n:n<=3
 m:rows.length<=8
 of:∀r∈rows,∀c∈r.of, -9<=c/\c<=9
 tv:∀r∈rows, -9<=r.tv/\r.tv<=9
theorem Fv{B:Nat}{D q:Rat}(j:B<=1073741824)(e:D≠0)(h1:aQ B D)(g:aQ B (D * q)):cT q=true:=by
 obtain⟨d,c,k⟩:=h1;obtain⟨u,f,l⟩:=g;have i:d≠0:=λh=>e (by rw [c,h];rfl);have:q=Rat.divInt u d:=by rw [U4,<-f,<-c,Sv];have:=Uw _ e;grind
 obtain⟨a,b⟩:=wF (u:=u) i;rw [<-this] at a b;unfold cT;rw [decide_eq_true_iff];omega
theorem sQ{l:List Nm}{B:Nat}{D:Rat}(a:B<=1073741824)(b:D≠0)(h1:aQ B D)(h:∀y∈l,aQ B (D * nv y)):cA l=true:=RK.2 λy hy=>Fv a b h1 (h y hy)
section
variable {n:Nat} {rows:List R} {gl:List Int}
theorem Kd(s:mH n rows)(i k:Nat)(hi:i < rows.length):aQ 9 ((aI n rows).A i k):=by
 refine aQ.int ?_;by_cases a:k < (aW rows i).of.length
 .have:=s.of _ (gF hi) ((aW rows i).of.getD k 0) (by
   rw [Rr,Rv a];exact S9 a)
  omega
 .rw [Rr,Sh (by omega)];decide
theorem JH{n:Nat}(h:n<=3):bd 9 n<=4374:=R4 (zw (by decide) h) (by decide)
theorem ux{t:TL}(s:mH n rows)(h:bC n rows t):∃D:Rat,D≠0/\aQ 4374 D/\
  (∀i v,i < rows.length->v < n+rows.length->aQ 4374 (D * nv (an (au t.aj i) v)))/\
  (∀(g G:Nat->Rat),(∀j,j < rows.length->g (t.st.af j)=0)->(∀k,k < n->aQ 9 (G k))->
   (∀y,eN n rows.length (aI n rows).A y->sm (n+rows.length) (λk=>g k * y k)=sm n (λk=>G k * y k))->∀v,v < n+rows.length->aQ 4374 (D * g v)):=by
 obtain⟨D,h1,d,e,f⟩:=h.ok.wf.den (K:=9) (by decide) (λi k hi _=>Kd s i k hi);have hb:=JH s.n;exact⟨D,h1,d.mono hb,λi v hi hv=>(e i v hi hv).mono hb,λg G a b c v hv=>(f g G a b c v hv).mono hb⟩
theorem PJ{t:TL}{D:Rat}(h:bC n rows t)(b:∀i v,i < rows.length->v < n+rows.length->aQ 4374 (D * nv (an (au t.aj i) v))){i:Nat}(hi:i < rows.length):∀y∈au t.aj i,aQ 4374 (D * nv y):=by
 intro y hy;obtain⟨k,c,a⟩:=SF hy;have e:=h.aX.row hi;have d:an (au t.aj i) k=y:=by unfold an;rw [Rr,Rv c];exact a
 have:=b i k hi (by omega);rwa [d] at this
theorem Gt{D:Rat}{B:Nat}{x:Nm}(h:aQ B (D * nv x)){w:Int}(a:w=1\/w= -1):aQ B (D * nv (tm x (iN w))):=by
 rw [Hb,Ha];rcases a with rfl | rfl
 .have:D * (nv x * ((1:Int):Rat))=D * nv x:=by have e:((1:Int):Rat)=1:=rfl;rw [e];grind
  rw [this];exact h
 .have:D * (nv x * ((-1:Int):Rat))= -(D * nv x):=by have e:((-1:Int):Rat)= -1:=rfl;rw [e];grind
  rw [this];exact h.neg
theorem Hd{D:Rat}{B:Nat}(h:aQ B D){w:Int}(a:w=1\/w= -1):aQ B (D * nv (iN w)):=by
 rw [Ha];rcases a with rfl | rfl
 .have:D * ((1:Int):Rat)=D:=by have e:((1:Int):Rat)=1:=rfl;rw [e];grind
  rw [this];exact h
 .have:D * ((-1:Int):Rat)= -D:=by have e:((-1:Int):Rat)= -1:=rfl;rw [e];grind
  rw [this];exact h.neg
theorem GV(D:Rat)(B:Nat):aQ B (D * nv none):=by rw [rJ,SG];exact aQ.zero _
theorem OF{m:Nat}{ai:Int}(k:ai=1\/ai= -1)(b:Nat){row:List Nm}{D:Rat}{B:Nat}(i:aQ B D)(j:∀x∈row,aQ B (D * nv x)):∀y∈iw n m ai b row,aQ B (D * nv y):=by
 have d: -ai=1\/ -ai= -1:=by omega
 have f:∀(xs:List Nm) (v:Nat) (a:List Nm),(∀x∈xs,aQ B (D * nv x))->(∀y∈a,aQ B (D * nv y))->∀y∈fG n (iN (-ai)) xs v a,aQ B (D * nv y):=by
  intro xs;induction xs with
  | nil=>intro v a _ c;exact c
  | cons x xs g=>
   intro v a e c;rw [fG];split
   .exact g _ _ (λx h=>e x (Ru _ h)) c
   .refine g _ _ (λx h=>e x (Ru _ h)) (λy hy=> ?_);rcases RV hy with hy | hy
    .exact c y hy
    .subst hy;have:=(Gt (e x Rs) d).neg;rw [NZ,Rat.mul_neg];exact this
 refine f row 0 _ j (λy hy=> ?_);rcases RV hy with hy | hy
 .rw [Te hy];exact GV _ _
 .subst hy;exact Hd i d
theorem MA(s:mH n rows):∀(p:Nat) (t:TL) (l:List Nm),bC n rows t->(ch n rows true p t).1=some l->cA l=true:=by
 intro p;induction p with
 | zero=>
  intro t l h a;rcases lZ h with⟨_,hb⟩ | ⟨i,hi,d,b,hb,f⟩
  .rw [mf true _ hb] at a;cases a
  .rw [pJ true hb] at a;cases a
 | succ p j=>
  intro t l h a;rcases lZ h with⟨_,hb⟩ | ⟨i,hi,d,b,hb,f⟩
  .rw [mf true _ hb] at a;cases a
  .rw [og true p hb f] at a;cases c:aR n rows t.val (bu n rows t (t.st.af i)) (au t.aj i) 0 with
   | none=>rw [c] at a;obtain rfl:=R1 a;obtain⟨D,h1,e,g,_⟩:=ux s h;exact sQ (by decide) h1 e (OF (uJ n rows t _) _ e (PJ h g hi))
   | some v=>rw [c] at a;obtain⟨m,o,_⟩:=iJ c;obtain⟨k,_⟩:=h.step true hi (v:=v) (by have:=h.aX.row hi;omega) d c b;exact j _ l k a
theorem Nv(go:eC n rows gl)(s:mH n rows)(r:∀c∈gl, -9<=c/\c<=9):∀(p:Nat) (t:TL),dS n rows gl t->
  (∀l,(cL n rows p t).1=some l->cA l=true)/\(∀l,(cL n rows p t).2.1=some l->cA l=true):=by
 intro p;induction p with
 | zero=>
  intro t h;cases b:aR n rows t.val 1 t.ax 0 with
  | some v=>rw [oC b];exact⟨(λl a=>by cases a),(λl a=>by cases a)⟩
  | none=>
   rw [jJ _ b];refine⟨λl a=> ?_,(λl a=>by cases a)⟩;obtain rfl:=R1 a;obtain⟨D,h1,d,_,j⟩:=ux s h.tok;refine sQ (by decide) h1 d λy hy=> ?_;obtain⟨v,hv,e⟩:=SF (Tm hy);have o:an t.ax v=y:=by unfold an;rw [Rr,Rv hv];exact e
   have:=j (λv=>nv (an t.ax v)) (gR gl) h.g.z (λk _=>aQ.int (by
    by_cases f:k < gl.length
    .have:=r (gl.getD k 0) (by rw [Rr,Rv f];exact S9 f);omega
    .rw [Rr,Sh (by omega)];decide)) h.g.same v (by rw [<-h.len];exact hv)
   rwa [o] at this
 | succ p x=>
  intro t h;cases b:aR n rows t.val 1 t.ax 0 with
  | none=>
   rw [jJ _ b];refine⟨λl a=> ?_,(λl a=>by cases a)⟩;obtain rfl:=R1 a;obtain⟨D,h1,d,_,j⟩:=ux s h.tok;refine sQ (by decide) h1 d λy hy=> ?_;obtain⟨v,hv,e⟩:=SF (Tm hy);have o:an t.ax v=y:=by unfold an;rw [Rr,Rv hv];exact e
   have:=j (λv=>nv (an t.ax v)) (gR gl) h.g.z (λk _=>aQ.int (by
    by_cases f:k < gl.length
    .have:=r (gl.getD k 0) (by rw [Rr,Rv f];exact S9 f);omega
    .rw [Rr,Sh (by omega)];decide)) h.g.same v (by rw [<-h.len];exact hv)
   rwa [o] at this
  | some v=>
   cases m:(bf n rows t v (nv (an t.ax v)).num.sign).2.2
   .rw [na p b m];refine⟨(λl a=>by cases a),λl a=> ?_⟩;obtain rfl:=R1 a;obtain⟨_,q,e3,_,_⟩:=iJ b;rw [Sr] at e3;rw [RY,h.len] at q;have u:=rV e3;obtain⟨D,h1,d,w,_⟩:=ux s h.tok;refine sQ (by decide) h1 d ?_;have base:∀y∈(List.range n).map (gG t v (nv (an t.ax v)).num.sign),aQ 4374 (D * nv y):=by
     intro y hy;obtain⟨k,_,rfl⟩:=RU.1 hy;unfold gG;cases a:bV k t.mp with
     | none=>exact GV _ _
     | some i=>exact Gt (w i v (h.tok.rA a) q) u
    unfold iU;split
    .intro y hy;rcases RV hy with hy | hy
     .exact base y hy
     .subst hy;exact Hd d u
    .exact base
   .rw [nf p b m];exact x _ (h.step go b m).1
theorem Is{t:TL}(s:mH n rows)(h:bC n rows t){D:Rat}(o:aQ 4374 D)
  (p:∀i v,i < rows.length->v < n+rows.length->aQ 4374 (D * nv (an (au t.aj i) v))) {v:Nat} (hv:v < n+rows.length):aQ 433026 (D * t.st.y v):=by
 have q:=s.n;have hm:=s.m;have g:∀v,v < n+rows.length->(∀i,i < rows.length->t.st.af i≠v)->aQ 9 (t.st.y v):=λv hv hb=>by
  have:=congrArg Prod.fst (h.ok.fix v hv hb);show aQ _ (t.st.val v).1;rw [this];unfold Sy.fx;show aQ 9 (if v < n then(0,0) else(aI n rows).up v:Rat×Rat).1;by_cases h:v < n
  .rw [if_pos h];exact aQ.zero _
  .rw [if_neg h];have:=s.tv _ (gF (rows:=rows) (i:=v - n) (by omega));exact aQ.int (z:=(aW rows (v - n)).tv) (by omega)
 by_cases hb:∃i,i < rows.length/\t.st.af i=v
 .obtain⟨i,hi,e⟩:=hb;have:=(h.ok.wf.same t.st.y).2 h.ok.hy i hi;rw [<-e,this,<-oX];have hs:aQ ((n+rows.length) * (4374 * 9)) (sm (n+rows.length) (λk=>D * (t.st.c i k * t.st.y k))):=by
   refine uy (λk l=> ?_);by_cases f:∃j,j < rows.length/\t.st.af j=k
   .obtain⟨j,d,b⟩:=f;rw [<-b,h.ok.wf.z i j hi d,Se,SG];exact aQ.zero _
   .have a:=(p i k hi l).mul (g k l (λj d b=>f ⟨j,d,b⟩));rw [<-Rat.mul_assoc];exact a
  exact hs.mono (by omega)
 .have a:=o.mul (g v hv (λj d b=>hb ⟨j,d,b⟩));exact a.mono (by decide)
theorem Og{t:TL}(s:mH n rows)(h:bC n rows t)(k2:∀r∈rows,r.kd≠2):cA (bM n rows t.val)=true/\(gl.length<=n->(∀c∈gl, -9<=c/\c<=9)->cT (eE gl (bM n rows t.val))=true):=by
 obtain⟨D,h1,f,i,_⟩:=ux s h;have o:=h.aX.v;have g:(bM n rows t.val).map nv= (List.range n).map t.st.y:=by
  refine VM (by unfold bM;simp;omega) (λk p j=> ?_);have d:k < n:=by simpa using j
  have hz:=z0 h k2 (v:=k) (by omega);unfold bM;simp only [Ul,T1,List.getElem_take,TJ];have e:t.val[k]'(by omega)=aH t.val k:=by unfold aH;rw [Rr,Rv (by omega)];rfl
  show nv (gf _ (t.val[k]'(by omega)))=_;rw [e];exact zq _ _ hz
 refine⟨?_,λm l=> ?_⟩
 .refine sQ (B:=433026) (by decide) h1 (f.mono (by decide)) λy hy=> ?_;have:nv y∈(List.range n).map t.st.y:=by rw [<-g];exact List.mem_map_of_mem hy
  obtain⟨k,d,e⟩:=RU.1 this;rw [<-e];exact Is s h f i (by have:=Tp.1 d;omega)
 .refine Fv (B:=3 * (9 * 433026)) (by decide) h1 (f.mono (by decide)) ?_;unfold eE;rw [g,pA gl _ (by simpa using m),SI,UB,<-oX];have hs:aQ (n * (9 * 433026)) (sm n (λk=>D * (((gl.getD k 0:Int):Rat) * ((List.range n).map t.st.y).getD k 0))):=by
   refine uy (λk d=> ?_);rw [Cs k d];have a:aQ 9 ((gl.getD k 0:Int):Rat):=aQ.int (by
    by_cases d:k < gl.length
    .have:=l (gl.getD k 0) (by rw [Rr,Rv d];exact S9 d);omega
    .rw [Rr,Sh (by omega)];decide)
   have b:=a.mul (Is s h f i (v:=k) (by omega));have e:D * (((gl.getD k 0:Int):Rat) * t.st.y k)= ((gl.getD k 0:Int):Rat) * (D * t.st.y k):=by grind
   rw [e];exact b
  exact hs.mono (Sc _ s.n)
theorem Hv(s:mH n rows):(n+rows.length) ^ n<=2000:=by have h1:(n+rows.length) ^ n<=11 ^ n:=Nat.pow_le_pow_left (by have:=s.n;have:=s.m;omega) n;have a: 11 ^ n<=11 ^ 3:=TS (by decide) s.n;exact R4 h1 (R4 a (by decide))
theorem Ku(go:eC n rows gl)(s:mH n rows)(z:∀c∈gl, -9<=c/\c<=9):
  (∃(v:Fr) (pl d:List Nm),iI n rows gl 2000= [ti 1,ti v.1,ti v.2,lF pl,lF d,ti 0,ti 0]/\bw v/\pl.length=n/\d.length=rows.length/\cA pl=true/\cA d=true/\kF n rows gl v (pl.map bL) (d.map bL)=true)\/
  (∃(d:List Nm) (w:Nat->Rat),iI n rows gl 2000= [ti 2,ti 0,ti 0,T.aT true,lF d,ti 0,ti 0]/\(aI n rows).Ref w)\/
  ∃(pl:List Nm) (t:TL),iI n rows gl 2000= [ti 3,ti 0,ti 0,lF pl,T.aT true,ti 0,ti 0]/\pl.length=n/\cA pl=true/\oP rows gl (pl.map bL)=true/\dS n rows gl t:=by
 have key:∃s:Int,(iI n rows gl 2000).head? =some (ti s)/\(s=1\/s=2\/s=3):=by
  have ro:=go.ro;have a:=Bj ro;have g:=AF ro 2000 a;have o:=AE ro 2000 (dQ n rows) a;have j:=Mz a (Hv s);have i:=λl=>MA s 2000 (dQ n rows) l a;unfold iI;generalize ch n rows true 2000 (dQ n rows)=r1 at g o j i⊢;obtain⟨no,done,A⟩:=r1;simp only at g o j i;subst j;cases no with
  | some l=>simp only;rw [if_pos (i l rfl)];exact⟨2,rfl, .inr (.inl rfl)⟩
  | none=>
   have y:=xh g (As g go.k2 (o rfl rfl)) go.gl;have k:=Bg (n:=n) (rows:=rows) 2000 (pL n rows gl A);have q:=λl=>GC go 2000 _ l y;have m:=Nu go y (Hv s);have f:=Nv go s z 2000 _ y;simp only;generalize cL n rows 2000 (pL n rows gl A)=G at k q m f⊢;obtain⟨r,H,B,b⟩:=G;simp only at k q m f;subst m;cases H with
   | some l=>
    have hm:oz n rows gl (r,some l,true,b)=if cA l=true then [ti 3,ti 0,ti 0,lF l,T.aT true,ti 0,ti 0] else oB:=by cases r <;> rfl
    rw [hm,if_pos (f.2 l rfl)];exact⟨3,rfl, .inr (.inr rfl)⟩
   | none=>
    cases r with
    | none=>exact(k rfl rfl rfl).elim
    | some l=>
     obtain⟨F,_,_⟩:=q l rfl;obtain⟨C,D⟩:=Og (gl:=gl) s F.tok go.k2;have E:(cT (eE gl (bM n rows b.val)) && cA (bM n rows b.val) && cA l)=true:=by rw [C,D go.gl z,f.1 l rfl];rfl
     have hm:oz n rows gl (some l,none,true,b)=if(cT (eE gl (bM n rows b.val)) && cA (bM n rows b.val) && cA l)=true then
       [ti 1,ti (eE gl (bM n rows b.val)).num,ti ((eE gl (bM n rows b.val)).den:Int),lF (bM n rows b.val),lF l,ti 0,ti 0] else oB:=rfl
     rw [hm,if_pos E];exact⟨1,rfl, .inl rfl⟩
 obtain⟨x,u,hs⟩:=key;rcases Kt go 2000 with e | e | h | ⟨d,w,e,_,_,R,_⟩ | h
 .rw [e] at u;have p:=R1 u;have:x=4:=by injection p with _ h;exact h.symm
  omega
 .rw [e] at u;have p:=R1 u;have:x=0:=by injection p with _ h;exact h.symm
  omega
 .exact .inl h
 .exact .inr (.inl ⟨d,w,e,R⟩)
 .exact .inr (.inr h)
end
open Go Go.Aev Go.Aev.Gen Go.Aev.Wd Go.Aev.Tb
def Pt(n:Nat)(rows:List R)(xs:List Rat):Prop:=xs.length=n/\∀r∈rows,ez r (bg r.of xs)=true
section
variable {n:Nat} {rows:List R} {gl:List Int}
theorem OE(ro:fv n rows)(k2:∀r∈rows,r.kd≠2){g:Nat->Rat}(R:(aI n rows).Ref g){xs:List Rat}(h:Pt n rows xs):False:=by
 let y:Nat->Rat:=λv=>if v < n then xs.getD v 0 else bg (aW rows (v - n)).of xs;have f:∀i,y (n+i)=bg (aW rows i).of xs:=λi=>by show(if n+i < n then _ else bg (aW rows (n+i - n)).of xs)=_;rw [if_neg (by omega),R3]
 refine OB R (t:=⟨λ_=>0,λ_ _=>0,y,λ_=>0⟩) (λi hi=> ?_) (λv c d=> ?_)
 .have b:i < rows.length:=hi;show y (n+i)=_;rw [f,pA _ _ (by rw [h.1];exact ro.len _ (gF b)),h.1];exact de λk j=>by
   show _=_ * (if k < n then xs.getD k 0 else _);rw [if_pos j];rfl
 .have l:n<=v:=c;have m:v < n+rows.length:=d;have hm:=gF (rows:=rows) (i:=v - n) (by omega);have a:=h.2 _ hm;have e:y v=bg (aW rows (v - n)).of xs:=if_neg (by omega);show y v<=((aW rows (v - n)).tv:Rat)/\((aW rows (v - n)).kd=3->y v= ((aW rows (v - n)).tv:Rat));rw [e];unfold ez at a;rcases ro.kd _ hm with k | k | k
  .rw [if_pos k,decide_eq_true_eq] at a;exact⟨a,λo=>by omega⟩
  .exact absurd k (k2 _ hm)
  .rw [if_neg (by omega),if_neg (by omega),decide_eq_true_eq] at a;exact⟨by rw [a];exact SN,λ_=>a⟩
theorem MT(go:eC n rows gl):∀r∈rows,r.kd=1\/r.kd=3:=λr a=>by have:=go.ro.kd r a;have:=go.k2 r a;omega
theorem Pv(go:eC n rows gl){v:Fr}{p t:List Fr}(hs:kF n rows gl v p t=true){xs:List Rat}(a:xs.length=n):bg gl xs=uK rows (t.map aY) xs:=by unfold kF at hs;simp only [Rw,decide_eq_true_eq,RK,Tp] at hs;obtain⟨⟨⟨⟨_,_⟩,_⟩,b⟩,_⟩:=hs;rw [<-DM rows (t.map aY) (by rw [a];exact go.ro.len),<-D8 (by rw [a];exact go.gl)];exact D5 _ 0 λj _ c=>(b j (by omega)).symm
theorem Rd(go:eC n rows gl){v:Fr}{p t:List Fr}(hs:kF n rows gl v p t=true)(a:∀x∈t,bw x){xs:List Rat}(h:Pt n rows xs):bg gl xs<=aY v:=by rw [Pv go hs h.1];unfold kF at hs;simp only [Rw,decide_eq_true_eq] at hs;rw [<-hs.2];exact I9 rows t (MT go) h.2 hs.1.1.2 a
end
theorem vR{l:List Nm}(h:cA l=true):∀x∈l.map bL,bw x:=λx a=>by obtain⟨y,hy,rfl⟩:=RU.1 a;exact Mp (RK.1 h y hy)
section
variable {n:Nat} {rows:List R} {gl:List Int}
theorem Pt.left{r:R}{xs:List Rat}(h:Pt n (rows++ [r]) xs):Pt n rows xs:=⟨h.1,λq a=>h.2 q (RD _ a)⟩
end
end Go.Aev.Wd.Lg
