import Derived.Test.YticjdhgokemdlaaMostSureQ19
set_option linter.all false
namespace Go.Aev.Wd.Lg
open Go Go.Aev Go.Aev.Gen Go.Aev.Wd Go.Aev.Tb
structure gA (n:Nat) (rows:List R):Prop where
 n:n<=3
 m:rows.length<=8
 of:∀r∈rows,∀c∈r.of, -9<=c/\c<=9
 tv:∀r∈rows, -9<=r.tv/\r.tv<=9
theorem Ba{B:Nat}{D q:Rat}(j:B<=1073741824)(e:D≠0)(h1:aJ B D)(g:aJ B (D * q)):cw q=true:=by
 obtain⟨d,c,k⟩:=h1;obtain⟨u,f,l⟩:=g;have i:d≠0:=λh=>e (by rw [c,h];rfl);have:q=Rat.divInt u d:=by rw [Xf,<-f,<-c,TR];have:=VG _ e;grind
 obtain⟨a,b⟩:=xp (u:=u) i;rw [<-this] at a b;unfold cw;rw [decide_eq_true_iff];omega
theorem tp{l:List Nm}{B:Nat}{D:Rat}(a:B<=1073741824)(b:D≠0)(h1:aJ B D)(h:∀y∈l,aJ B (D * nv y)):b8 l=true:=Tk.2 λy hy=>Ba a b h1 (h y hy)
section
variable {n:Nat} {rows:List R} {gl:List Int}
theorem K7(s:gA n rows)(i k:Nat)(hi:i < rows.length):aJ 9 ((aI n rows).A i k):=by
 refine aJ.int ?_;by_cases a:k < (aS rows i).of.length
 .have:=s.of _ (eG hi) ((aS rows i).of.getD k 0) (by
   rw [SV,SZ a];exact UA a)
  omega
 .rw [SV,TU (by omega)];decide
theorem KC{n:Nat}(h:n<=3):bd 9 n<=4374:=Tz (z7 (by decide) h) (by decide)
theorem sr{t:TL}(s:gA n rows)(h:bq n rows t):∃D:Rat,D≠0/\aJ 4374 D/\
  (∀i v,i < rows.length->v < n+rows.length->aJ 4374 (D * nv (ao (au t.aj i) v)))/\
  (∀(g G:Nat->Rat),(∀j,j < rows.length->g (t.st.af j)=0)->(∀k,k < n->aJ 9 (G k))->
   (∀y,df n rows.length (aI n rows).A y->sm (n+rows.length) (λk=>g k * y k)=sm n (λk=>G k * y k))->∀v,v < n+rows.length->aJ 4374 (D * g v)):=by
 obtain⟨D,h1,d,e,f⟩:=h.ok.wf.den (K:=9) (by decide) (λi k hi _=>K7 s i k hi);have hb:=KC s.n;exact⟨D,h1,d.mono hb,λi v hi hv=>(e i v hi hv).mono hb,λg G a b c v hv=>(f g G a b c v hv).mono hb⟩
theorem Re{t:TL}{D:Rat}(h:bq n rows t)(b:∀i v,i < rows.length->v < n+rows.length->aJ 4374 (D * nv (ao (au t.aj i) v))){i:Nat}(hi:i < rows.length):∀y∈au t.aj i,aJ 4374 (D * nv y):=by
 intro y hy;obtain⟨k,c,a⟩:=TY hy;have hr:=h.aW.row hi;have d:ao (au t.aj i) k=y:=by unfold ao;rw [SV,SZ c];exact a
 have:=b i k hi (by omega);rwa [d] at this
theorem Hs{D:Rat}{B:Nat}{x:Nm}(h:aJ B (D * nv x)){w:Int}(a:w=1\/w= -1):aJ B (D * nv (tm x (iN w))):=by
 rw [HX,BZ];rcases a with rfl | rfl
 .have:D * (nv x * ((1:Int):Rat))=D * nv x:=by have e:((1:Int):Rat)=1:=rfl;rw [e];grind
  rw [this];exact h
 .have:D * (nv x * ((-1:Int):Rat))= -(D * nv x):=by have e:((-1:Int):Rat)= -1:=rfl;rw [e];grind
  rw [this];exact h.neg
theorem H3{D:Rat}{B:Nat}(h:aJ B D){w:Int}(a:w=1\/w= -1):aJ B (D * nv (iN w)):=by
 rw [BZ];rcases a with rfl | rfl
 .have:D * ((1:Int):Rat)=D:=by have e:((1:Int):Rat)=1:=rfl;rw [e];grind
  rw [this];exact h
 .have:D * ((-1:Int):Rat)= -D:=by have e:((-1:Int):Rat)= -1:=rfl;rw [e];grind
  rw [this];exact h.neg
theorem HQ(D:Rat)(B:Nat):aJ B (D * nv none):=by rw [rY,TV];exact aJ.zero _
theorem P8{m:Nat}{ai:Int}(k:ai=1\/ai= -1)(b:Nat){row:List Nm}{D:Rat}{B:Nat}(i:aJ B D)(j:∀x∈row,aJ B (D * nv x)):∀y∈iE n m ai b row,aJ B (D * nv y):=by
 have d: -ai=1\/ -ai= -1:=by omega
 have f:∀(xs:List Nm) (v:Nat) (a:List Nm),(∀x∈xs,aJ B (D * nv x))->(∀y∈a,aJ B (D * nv y))->∀y∈fK n (iN (-ai)) xs v a,aJ B (D * nv y):=by
  intro xs;induction xs with
  | nil=>intro v a _ c;exact c
  | cons x xs g=>
   intro v a e c;rw [fK];split
   .exact g _ _ (λx h=>e x (SY _ h)) c
   .refine g _ _ (λx h=>e x (SY _ h)) (λy hy=> ?_);rcases Ty hy with hy | hy
    .exact c y hy
    .subst hy;have:=(Hs (e x SW) d).neg;rw [Pm,Rat.mul_neg];exact this
 refine f row 0 _ j (λy hy=> ?_);rcases Ty hy with hy | hy
 .rw [UE hy];exact HQ _ _
 .subst hy;exact H3 i d
theorem Gv(s:gA n rows):∀(p:Nat) (t:TL) (l:List Nm),bq n rows t->(bU n rows true p t).1=some l->b8 l=true:=by
 intro p;induction p with
 | zero=>
  intro t l h a;rcases kG h with⟨_,hb⟩ | ⟨i,hi,d,b,hb,f⟩
  .rw [kM true _ hb] at a;cases a
  .rw [oE true hb] at a;cases a
 | succ p j=>
  intro t l h a;rcases kG h with⟨_,hb⟩ | ⟨i,hi,d,b,hb,f⟩
  .rw [kM true _ hb] at a;cases a
  .rw [nr true p hb f] at a;cases c:aT n rows t.val (bp n rows t (t.st.af i)) (au t.aj i) 0 with
   | none=>rw [c] at a;obtain rfl:=TE a;obtain⟨D,h1,e,g,_⟩:=sr s h;exact tp (by decide) h1 e (P8 (sM n rows t _) _ e (Re h g hi))
   | some v=>rw [c] at a;obtain⟨m,o,_⟩:=iB c;obtain⟨k,_⟩:=h.step true hi (v:=v) (by have:=h.aW.row hi;omega) d c b;exact j _ l k a
theorem OJ(go:dY n rows gl)(s:gA n rows)(r:∀c∈gl, -9<=c/\c<=9):∀(p:Nat) (t:TL),dM n rows gl t->
  (∀l,(cI n rows p t).1=some l->b8 l=true)/\(∀l,(cI n rows p t).2.1=some l->b8 l=true):=by
 intro p;induction p with
 | zero=>
  intro t h;cases b:aT n rows t.val 1 t.aw 0 with
  | some v=>rw [oO b];exact⟨(λl a=>by cases a),(λl a=>by cases a)⟩
  | none=>
   rw [jX _ b];refine⟨λl a=> ?_,(λl a=>by cases a)⟩;obtain rfl:=TE a;obtain⟨D,h1,d,_,j⟩:=sr s h.tok;refine tp (by decide) h1 d λy hy=> ?_;obtain⟨v,hv,e⟩:=TY (UL hy);have o:ao t.aw v=y:=by unfold ao;rw [SV,SZ hv];exact e
   have:=j (λv=>nv (ao t.aw v)) (gR gl) h.g.z (λk _=>aJ.int (by
    by_cases f:k < gl.length
    .have:=r (gl.getD k 0) (by rw [SV,SZ f];exact UA f);omega
    .rw [SV,TU (by omega)];decide)) h.g.same v (by rw [<-h.len];exact hv)
   rwa [o] at this
 | succ p x=>
  intro t h;cases b:aT n rows t.val 1 t.aw 0 with
  | none=>
   rw [jX _ b];refine⟨λl a=> ?_,(λl a=>by cases a)⟩;obtain rfl:=TE a;obtain⟨D,h1,d,_,j⟩:=sr s h.tok;refine tp (by decide) h1 d λy hy=> ?_;obtain⟨v,hv,e⟩:=TY (UL hy);have o:ao t.aw v=y:=by unfold ao;rw [SV,SZ hv];exact e
   have:=j (λv=>nv (ao t.aw v)) (gR gl) h.g.z (λk _=>aJ.int (by
    by_cases f:k < gl.length
    .have:=r (gl.getD k 0) (by rw [SV,SZ f];exact UA f);omega
    .rw [SV,TU (by omega)];decide)) h.g.same v (by rw [<-h.len];exact hv)
   rwa [o] at this
  | some v=>
   cases m:(bf n rows t v (nv (ao t.aw v)).num.sign).2.2
   .rw [nE p b m];refine⟨(λl a=>by cases a),λl a=> ?_⟩;obtain rfl:=TE a;obtain⟨_,q,e3,_,_⟩:=iB b;rw [TZ] at e3;rw [TC,h.len] at q;have u:=sf e3;obtain⟨D,h1,d,w,_⟩:=sr s h.tok;refine tp (by decide) h1 d ?_;have base:∀y∈(List.range n).map (gK t v (nv (ao t.aw v)).num.sign),aJ 4374 (D * nv y):=by
     intro y hy;obtain⟨k,_,rfl⟩:=Tw.1 hy;unfold gK;cases a:bV k t.mp with
     | none=>exact HQ _ _
     | some i=>exact Hs (w i v (h.tok.rO a) q) u
    unfold je;split
    .intro y hy;rcases Ty hy with hy | hy
     .exact base y hy
     .subst hy;exact H3 d u
    .exact base
   .rw [nF p b m];exact x _ (h.step go b m).1
theorem Jm{t:TL}(s:gA n rows)(h:bq n rows t){D:Rat}(o:aJ 4374 D)
  (p:∀i v,i < rows.length->v < n+rows.length->aJ 4374 (D * nv (ao (au t.aj i) v))) {v:Nat} (hv:v < n+rows.length):aJ 433026 (D * t.st.y v):=by
 have q:=s.n;have hm:=s.m;have g:∀v,v < n+rows.length->(∀i,i < rows.length->t.st.af i≠v)->aJ 9 (t.st.y v):=λv hv hb=>by
  have:=congrArg Prod.fst (h.ok.fix v hv hb);show aJ _ (t.st.val v).1;rw [this];unfold Sy.fx;show aJ 9 (if v < n then(0,0) else(aI n rows).up v:Rat×Rat).1;by_cases h:v < n
  .rw [if_pos h];exact aJ.zero _
  .rw [if_neg h];have:=s.tv _ (eG (rows:=rows) (i:=v - n) (by omega));exact aJ.int (z:=(aS rows (v - n)).tv) (by omega)
 by_cases hb:∃i,i < rows.length/\t.st.af i=v
 .obtain⟨i,hi,e⟩:=hb;have:=(h.ok.wf.same t.st.y).2 h.ok.hy i hi;rw [<-e,this,<-kW];have hs:aJ ((n+rows.length) * (4374 * 9)) (sm (n+rows.length) (λk=>D * (t.st.c i k * t.st.y k))):=by
   refine su (λk l=> ?_);by_cases f:∃j,j < rows.length/\t.st.af j=k
   .obtain⟨j,d,b⟩:=f;rw [<-b,h.ok.wf.z i j hi d,TI,TV];exact aJ.zero _
   .have a:=(p i k hi l).mul (g k l (λj d b=>f ⟨j,d,b⟩));rw [<-Xe];exact a
  exact hs.mono (by omega)
 .have a:=o.mul (g v hv (λj d b=>hb ⟨j,d,b⟩));exact a.mono (by decide)
theorem PJ{t:TL}(s:gA n rows)(h:bq n rows t)(k2:∀r∈rows,r.kd≠2):b8 (bo n rows t.val)=true/\(gl.length<=n->(∀c∈gl, -9<=c/\c<=9)->cw (eI gl (bo n rows t.val))=true):=by
 obtain⟨D,h1,f,i,_⟩:=sr s h;have o:=h.aW.v;have g:(bo n rows t.val).map nv= (List.range n).map t.st.y:=by
  refine Xr (by unfold bo;simp;omega) (λk p j=> ?_);have d:k < n:=by simpa using j
  have hz:=z0 h k2 (v:=k) (by omega);unfold bo;simp only [VD,Vu,Xg,Ve];have e:t.val[k]'(by omega)=aG t.val k:=by unfold aG;rw [SV,SZ (by omega)];rfl
  show nv (cJ _ (t.val[k]'(by omega)))=_;rw [e];exact zZ _ _ hz
 refine⟨?_,λm l=> ?_⟩
 .refine tp (B:=433026) (by decide) h1 (f.mono (by decide)) λy hy=> ?_;have:nv y∈(List.range n).map t.st.y:=by rw [<-g];exact List.mem_map_of_mem hy
  obtain⟨k,d,e⟩:=Tw.1 this;rw [<-e];exact Jm s h f i (by have:=UO.1 d;omega)
 .refine Ba (B:=3 * (9 * 433026)) (by decide) h1 (f.mono (by decide)) ?_;unfold eI;rw [g,jP gl _ (by simpa using m),Uv,U8,<-kW];have hs:aJ (n * (9 * 433026)) (sm n (λk=>D * (((gl.getD k 0:Int):Rat) * ((List.range n).map t.st.y).getD k 0))):=by
   refine su (λk d=> ?_);rw [ze k d];have a:aJ 9 ((gl.getD k 0:Int):Rat):=aJ.int (by
    by_cases d:k < gl.length
    .have:=l (gl.getD k 0) (by rw [SV,SZ d];exact UA d);omega
    .rw [SV,TU (by omega)];decide)
   have b:=a.mul (Jm s h f i (v:=k) (by omega));have e:D * (((gl.getD k 0:Int):Rat) * t.st.y k)= ((gl.getD k 0:Int):Rat) * (D * t.st.y k):=by grind
   rw [e];exact b
  exact hs.mono (TK _ s.n)
theorem Ca(s:gA n rows):(n+rows.length) ^ n<=2000:=by have h1:(n+rows.length) ^ n<=11 ^ n:=Nat.pow_le_pow_left (by have:=s.n;have:=s.m;omega) n;have a: 11 ^ n<=11 ^ 3:=Vm (by decide) s.n;exact Tz h1 (Tz a (by decide))
theorem Lv(go:dY n rows gl)(s:gA n rows)(z:∀c∈gl, -9<=c/\c<=9):
  (∃(v:Fr) (pl d:List Nm),iU n rows gl 2000= [ti 1,ti v.1,ti v.2,lF pl,lF d,ti 0,ti 0]/\bH v/\pl.length=n/\d.length=rows.length/\b8 pl=true/\b8 d=true/\jf n rows gl v (pl.map cL) (d.map cL)=true)\/
  (∃(d:List Nm) (w:Nat->Rat),iU n rows gl 2000= [ti 2,ti 0,ti 0,T.aO true,lF d,ti 0,ti 0]/\(aI n rows).Ref w)\/
  ∃(pl:List Nm) (t:TL),iU n rows gl 2000= [ti 3,ti 0,ti 0,lF pl,T.aO true,ti 0,ti 0]/\pl.length=n/\b8 pl=true/\lW rows gl (pl.map cL)=true/\dM n rows gl t:=by
 have key:∃s:Int,(iU n rows gl 2000).head? =some (ti s)/\(s=1\/s=2\/s=3):=by
  have ro:=go.ro;have a:=um ro;have g:=tS ro 2000 a;have o:=xQ ro 2000 (cM n rows) a;have j:=Gu a (Ca s);have i:=λl=>Gv s 2000 (cM n rows) l a;unfold iU;generalize bU n rows true 2000 (cM n rows)=r1 at g o j i⊢;obtain⟨no,done,A⟩:=r1;simp only at g o j i;subst j;cases no with
  | some l=>simp only;rw [if_pos (i l rfl)];exact⟨2,rfl, .inr (.inl rfl)⟩
  | none=>
   have y:=xU g (A8 g go.k2 (o rfl rfl)) go.gl;have k:=BQ (n:=n) (rows:=rows) 2000 (pS n rows gl A);have q:=λl=>HB go 2000 _ l y;have m:=OI go y (Ca s);have f:=OJ go s z 2000 _ y;simp only;generalize cI n rows 2000 (pS n rows gl A)=G at k q m f⊢;obtain⟨r,H,B,b⟩:=G;simp only at k q m f;subst m;cases H with
   | some l=>
    have hm:oL n rows gl (r,some l,true,b)=if b8 l=true then [ti 3,ti 0,ti 0,lF l,T.aO true,ti 0,ti 0] else oN:=by cases r <;> rfl
    rw [hm,if_pos (f.2 l rfl)];exact⟨3,rfl, .inr (.inr rfl)⟩
   | none=>
    cases r with
    | none=>exact(k rfl rfl rfl).elim
    | some l=>
     obtain⟨F,_,_⟩:=q l rfl;obtain⟨C,D⟩:=PJ (gl:=gl) s F.tok go.k2;have E:(cw (eI gl (bo n rows b.val)) && b8 (bo n rows b.val) && b8 l)=true:=by rw [C,D go.gl z,f.1 l rfl];rfl
     have hm:oL n rows gl (some l,none,true,b)=if(cw (eI gl (bo n rows b.val)) && b8 (bo n rows b.val) && b8 l)=true then
       [ti 1,ti (eI gl (bo n rows b.val)).num,ti ((eI gl (bo n rows b.val)).den:Int),lF (bo n rows b.val),lF l,ti 0,ti 0] else oN:=rfl
     rw [hm,if_pos E];exact⟨1,rfl, .inl rfl⟩
 obtain⟨x,u,hs⟩:=key;rcases Lu go 2000 with e | e | h | ⟨d,w,e,_,_,R,_⟩ | h
 .rw [e] at u;have p:=TE u;have:x=4:=by injection p with _ h;exact h.symm
  omega
 .rw [e] at u;have p:=TE u;have:x=0:=by injection p with _ h;exact h.symm
  omega
 .exact .inl h
 .exact .inr (.inl ⟨d,w,e,R⟩)
 .exact .inr (.inr h)
end
open Go Go.Aev Go.Aev.Gen Go.Aev.Wd Go.Aev.Tb
def Pt(n:Nat)(rows:List R)(xs:List Rat):Prop:=xs.length=n/\∀r∈rows,eL r (aU r.of xs)=true
section
variable {n:Nat} {rows:List R} {gl:List Int}
theorem Qk{t:TL}(ro:ef n rows)(hy:df n rows.length (aI n rows).A t.st.y){r:R}{i:Nat}(hi:i < rows.length)(er:aS rows i=r):aU r.of ((List.range n).map t.st.y)=t.st.y (n+i):=by have hr:r∈rows:=er▸eG hi;rw [jP r.of _ (by simpa using ro.len r hr),Uv,U8];refine W1 ?_ (hy i hi).symm;exact cf λk a=>by rw [ze k a,<-er];rfl
theorem NV(ro:ef n rows){r:R}(hr:r∈rows)(k2:r.kd≠2){q:Rat}(h1:q<=(r.tv:Rat))(a:r.kd=3->q= (r.tv:Rat)):eL r q=true:=by
 unfold eL;rcases ro.kd r hr with k | k | k
 .rw [if_pos k];exact decide_eq_true h1
 .exact absurd k k2
 .rw [if_neg (by omega),if_neg (by omega)];exact decide_eq_true (a k)
theorem PI(go:dY n rows gl){t:TL}(h:dM n rows gl t):Pt n rows ((List.range n).map t.st.y):=by
 refine⟨by simp,λr hr=> ?_⟩;obtain⟨i,hi,e⟩:=TY hr;have er:aS rows i=r:=by unfold aS;rw [SV,SZ hi];exact e
 have a:=h.fe (n+i) (UY n i) (Nat.add_lt_add_left hi n);have b:(aI n rows).to (n+i - (aI n rows).n)= (r.tv:Rat):=by show((aS rows (n+i - n)).tv:Rat)=_;rw [Tq,er]
 have c:(aI n rows).kd (n+i - (aI n rows).n)=r.kd:=by show(aS rows (n+i - n)).kd=_;rw [Tq,er]
 rw [b,c] at a;rw [Qk go.ro h.tok.ok.hy hi er];exact NV go.ro hr (go.k2 r hr) a.1 a.2
theorem IA(ro:ef n rows)(k2:∀r∈rows,r.kd≠2){g:Nat->Rat}(R:(aI n rows).Ref g){xs:List Rat}(h:Pt n rows xs):False:=by
 let y:Nat->Rat:=λv=>if v < n then xs.getD v 0 else aU (aS rows (v - n)).of xs;have f:∀i,y (n+i)=aU (aS rows i).of xs:=λi=>by show(if n+i < n then _ else aU (aS rows (n+i - n)).of xs)=_;rw [if_neg (by omega),Tq]
 refine P6 R (t:=⟨λ_=>0,λ_ _=>0,y,λ_=>0⟩) (λi hi=> ?_) (λv c d=> ?_)
 .have b:i < rows.length:=hi;show y (n+i)=_;rw [f,jP _ _ (by rw [h.1];exact ro.len _ (eG b)),h.1];exact cf λk j=>by
   show _=_ * (if k < n then xs.getD k 0 else _);rw [if_pos j];rfl
 .have l:n<=v:=c;have m:v < n+rows.length:=d;have hm:=eG (rows:=rows) (i:=v - n) (by omega);have a:=h.2 _ hm;have e:y v=aU (aS rows (v - n)).of xs:=if_neg (by omega);show y v<=((aS rows (v - n)).tv:Rat)/\((aS rows (v - n)).kd=3->y v= ((aS rows (v - n)).tv:Rat));rw [e];unfold eL at a;rcases ro.kd _ hm with k | k | k
  .rw [if_pos k,decide_eq_true_eq] at a;exact⟨a,λo=>by omega⟩
  .exact absurd k (k2 _ hm)
  .rw [if_neg (by omega),if_neg (by omega),decide_eq_true_eq] at a;exact⟨by rw [a];exact Uc,λ_=>a⟩
theorem N5(go:dY n rows gl):∀r∈rows,r.kd=1\/r.kd=3:=λr hr=>by have:=go.ro.kd r hr;have:=go.k2 r hr;omega
theorem QV(go:dY n rows gl){v:Fr}{p t:List Fr}(hs:jf n rows gl v p t=true){xs:List Rat}(a:xs.length=n):aU gl xs=ve rows (t.map ba) xs:=by unfold jf at hs;simp only [S0,decide_eq_true_eq,Tk,UO] at hs;obtain⟨⟨⟨⟨_,_⟩,_⟩,b⟩,_⟩:=hs;rw [<-En rows (t.map ba) (by rw [a];exact go.ro.len),<-EL (by rw [a];exact go.gl)];exact EI _ 0 λj _ c=>(b j (by omega)).symm
theorem QT{v:Fr}{p t:List Fr}(hs:jf n rows gl v p t=true)(a:p.length=n):Pt n rows (p.map ba)/\aU gl (p.map ba)=ba v:=by unfold jf at hs;simp only [S0,decide_eq_true_eq,Tk] at hs;exact⟨⟨by simpa using a,hs.1.1.1.1⟩,hs.1.1.1.2⟩
theorem PZ{l:List Fr}(h:lW rows gl l=true):(∀r∈rows.map iG,eL r (aU r.of (l.map ba))=true)/\0 < aU gl (l.map ba):=by unfold lW at h;simp only [S0,decide_eq_true_eq,Tk] at h;exact h
theorem SG(go:dY n rows gl){v:Fr}{p t:List Fr}(hs:jf n rows gl v p t=true)(a:∀x∈t,bH x){xs:List Rat}(h:Pt n rows xs):aU gl xs<=ba v:=by rw [QV go hs h.1];unfold jf at hs;simp only [S0,decide_eq_true_eq] at hs;rw [<-hs.2];exact Kc rows t (N5 go) h.2 hs.1.1.2 a
end
theorem Kk{l:List Nm}(h:b8 l=true):∀x∈l.map cL,bH x:=λx a=>by obtain⟨y,hy,rfl⟩:=Tw.1 a;exact Nz (Tk.1 h y hy)
section
variable {n:Nat} {rows:List R} {gl:List Int}
theorem Pt.left{r:R}{xs:List Rat}(h:Pt n (rows++ [r]) xs):Pt n rows xs:=⟨h.1,λq a=>h.2 q (Tf _ a)⟩
end
end Go.Aev.Wd.Lg
namespace Go.Aev.Tb
open Go Go.Aev
def Sy.u2(S:Sy)(j:Nat):Rat:=if S.kd j=2 then -1 else 0
structure Sy.pC (S:Sy) (T:Nat->Rat):Prop where
 sg:∀j,j < S.m->S.kd j≠3->0<=T j
 az:∀k,k < S.n->sm S.m (λj=>T j * S.A j k)=0
 val:bW (sm S.m (λj=>T j * S.to j),sm S.m (λj=>T j * S.u2 j)) (0,0)
theorem y8(S:Sy)(j:Nat):S.up (S.n+j)= (S.to j,S.u2 j):=by unfold Sy.up Sy.u2;rw [Tq]
theorem P3{S:Sy}{t:bh}(ok:S.OK t){i:Nat}(hi:i < S.m)(hb:S.eQ t (t.af i))
  (no:∀u,u < S.n+S.m->t.c i u≠0->¬S.Can t (S.ai t (t.af i) * t.c i u) u):S.pC (S.mul t i):=by
 have M:S.n<=t.af i:=hb.1;have L:=ok.wf.hb i hi;have N:=Ka S t (t.af i);obtain⟨q,d⟩:∃q,t.af i=S.n+q:=⟨t.af i - S.n,by omega⟩;have w:q < S.m:=by omega
 have G:t.c i (t.af i)=0:=ok.wf.z i i hi hi;have free:∀u,u < S.n->t.c i u=0:=λu p=>Uq λa=>no u (by omega) a ⟨λ_=> .inl p,λ_=> .inl p⟩;have s:∀j,j < S.m->t.c i (S.n+j)≠0->(t.y (S.n+j),t.z (S.n+j))= (S.to j,S.u2 j):=λj b a=>by have nb:∀q,q < S.m->t.af q≠S.n+j:=λq d e=>a (by rw [<-e];exact ok.wf.z i q hi d);have f:=ok.fix (S.n+j) (by omega) nb;unfold Sy.fx at f;rw [if_neg (by omega),y8] at f;exact f
 have B:∀y:Nat->Rat,df S.n S.m S.A y->sm S.m (λj=>S.mul t i j * y (S.n+j))=0:=λy hy=>by
  have h1:=(ok.wf.same y).2 hy i hi;rw [uQ (λk=>t.c i k * y k) S.n S.m] at h1;have l:sm S.n (λk=>t.c i k * y k)=0:=jD λk r=>by rw [free k r,TI]
  rw [l] at h1;have e:sm S.m (λj=>S.mul t i j * y (S.n+j))=sm S.m (λj=>S.ai t (t.af i) * (t.c i (S.n+j) * y (S.n+j))+ -(S.ai t (t.af i)) * (if j=q then y (t.af i) else 0)):=by
   refine cf λj b=> ?_;unfold Sy.mul;by_cases g:j=q
   .subst g;rw [if_pos d.symm,if_pos rfl,<-d,G];grind
   .rw [if_neg (by omega),if_neg g];grind
  rw [e,ik,l0 w,h1];grind
 have val:∀(y F:Nat->Rat),df S.n S.m S.A y->(∀j,j < S.m->t.c i (S.n+j)≠0->y (S.n+j)=F j)->sm S.m (λj=>S.mul t i j * F j)=S.ai t (t.af i) * (y (t.af i) - F q):=λy F hy I=>by
  have h:=B y hy;have e:sm S.m (λj=>S.mul t i j * F j)=sm S.m (λj=>1 * (S.mul t i j * y (S.n+j))+S.ai t (t.af i) * (if j=q then y (t.af i) - F q else 0)):=by
   refine cf λj b=> ?_;by_cases g:j=q
   .subst g;unfold Sy.mul;rw [if_pos d.symm,if_pos rfl,d];grind
   .rw [if_neg g];by_cases l:t.c i (S.n+j)=0
    .unfold Sy.mul;rw [if_neg (by omega),l];grind
    .rw [I j b l];grind
  rw [e,ik,l0 w,h];grind
 refine⟨λj b E=> ?_,λk r=> ?_, ?_⟩
 .unfold Sy.mul;by_cases g:S.n+j=t.af i
  .rw [if_pos g];rcases hb.2 with h | ⟨h,_⟩
   .unfold Sy.ai;rw [if_pos h];grind
   .rw [<-g,Tq] at h;exact absurd h E
  .rw [if_neg g];by_cases l:t.c i (S.n+j)=0
   .rw [l,TV];exact Uc
   .refine Uq λK=>no (S.n+j) (by omega) l ⟨λh=>absurd h (by grind),λ_=> .inr (.inl ?_)⟩;rw [Tq];exact E
 .let y:Nat->Rat:=λv=>if v < S.n then(if v=k then 1 else 0) else S.A (v - S.n) k;have x:∀i,y (S.n+i)=S.A i k:=λi=>by
   show(if S.n+i < S.n then _ else _)=_;rw [if_neg (by omega),Tq]
  have D:df S.n S.m S.A y:=λi _=>by
   rw [x,jg r]
   .show S.A i k=S.A i k * (if k < S.n then(if k=k then 1 else 0) else _);rw [if_pos r,if_pos rfl,WH]
   .intro j b a;show S.A i j * (if j < S.n then(if j=k then 1 else 0) else _)=0;rw [if_pos b,if_neg a,TV]
  rw [<-B y D];exact cf λi _=>by rw [x]
 .rw [val t.y S.to ok.hy λj b a=>congrArg Prod.fst (s j b a),val t.z S.u2 ok.hz λj b a=>congrArg Prod.snd (s j b a)];have p:=y8 S q;rcases hb.2 with h | ⟨_,h⟩
  .have o:S.ai t (t.af i)= -1:=by unfold Sy.ai;rw [if_pos h]
   rw [o];rw [d,p,<-d] at h;unfold bW bh.val at h;unfold bW;rcases h with h | ⟨h1,C⟩
   .exact .inl (by simp only at h⊢;grind)
   .exact .inr (by simp only at h1 C⊢;grind)
  .have J:¬bW (S.up (t.af i)) (t.val (t.af i)):=λH=>by
    unfold bW at h H;grind
   have o:S.ai t (t.af i)=1:=by unfold Sy.ai;rw [if_neg J]
   rw [o];rw [d,p,<-d] at h;unfold bW bh.val at h;unfold bW;rcases h with h | ⟨h1,C⟩
   .exact .inl (by simp only at h⊢;grind)
   .exact .inr (by simp only at h1 C⊢;grind)
theorem CM{f:Nat->Rat}:∀{n:Nat},(∀i,i < n->0<=f i)->0<=sm n f
 | 0,_=>Uc
 | n+1,h=>by have h1:=CM (n:=n) λi hi=>h i (by omega);have a:=h n (by omega);show 0<=sm n f+f n;grind
theorem Jf{f:Nat->Rat}:∀{n:Nat},(∀i,i < n->0<=f i)->sm n f=0->∀i,i < n->f i=0
 | 0,_,_,i,hi=>by omega
 | n+1,h,e,i,hi=>by
  have h1:=CM (n:=n) λi hi=>h i (by omega);have c:=h n (by omega);have b:sm n f+f n=0:=e;by_cases a:i=n
  .subst a;grind
  .exact Jf (n:=n) (λi hi=>h i (by omega)) (by grind) i (by omega)
theorem P2{S:Sy}{T:Nat->Rat}(R:S.pC T){y:Nat->Rat}(hy:df S.n S.m S.A y)(g:∀j,j < S.m->y (S.n+j)<=S.to j/\(S.kd j=3->y (S.n+j)=S.to j)/\(S.kd j=2->y (S.n+j) < S.to j)):False:=by
 have e:sm S.m (λj=>T j * y (S.n+j))=0:=by
  have h1:sm S.m (λj=>T j * y (S.n+j))=sm S.m (λj=>sm S.n (λk=>T j * (S.A j k * y k))):=cf λj d=>by rw [hy j d,kW]
  rw [h1,yQ];refine jD λk o=> ?_;have c:sm S.m (λj=>T j * (S.A j k * y k))=sm S.m (λj=>y k * (T j * S.A j k)):=cf λj _=>by grind
  rw [c,kW,R.az k o,TV]
 have nn:∀j,j < S.m->0<=T j * (S.to j - y (S.n+j)):=λj d=>by
  obtain⟨h1,c,_⟩:=g j d;by_cases i:S.kd j=3
  .rw [c i];have:S.to j - S.to j=0:=by grind
   rw [this,TV];exact Uc
  .exact Un (R.sg j d i) (by grind)
 have s:sm S.m (λj=>T j * (S.to j - y (S.n+j)))=sm S.m (λj=>T j * S.to j):=by
  have h1:sm S.m (λj=>T j * (S.to j - y (S.n+j)))=sm S.m (λj=>1 * (T j * S.to j)+ (-1) * (T j * y (S.n+j))):=cf λj _=>by grind
  rw [h1,ik,e];grind
 have l:=CM nn;rcases R.val with h | ⟨h1,c⟩
 .simp only at h;rw [s] at l;exact absurd h (by grind)
 .simp only at h1 c;have f:=Jf nn (by rw [s];exact h1);have:sm S.m (λj=>T j * S.u2 j)=0:=jD λj d=>by
   unfold Sy.u2;by_cases k2:S.kd j=2
   .have a:=f j d;have b:=(g j d).2.2 k2;have:T j=0:=by
     rcases V6.1 a with h | h
     .exact h
     .exact absurd h (by grind)
    rw [this,TI]
   .rw [if_neg k2,TV]
  rw [this] at c;exact absurd c (by grind)
theorem Jn(d z:Nat->Rat):∀(m:Nat),∃e:Rat,0 < e/\∀j,j < m->0 < d j->e * z j < d j
 | 0=>⟨1,by decide,λj h=>by omega⟩
 | m+1=>by
  obtain⟨e,h1,g⟩:=Jn d z m;by_cases i: 0 < d m
  .by_cases hz: 0 < z m
   .have a: 0 < d m / (2 * z m):=by
     rw [TR];exact Rat.mul_pos i (Rat.inv_pos.2 (by grind))
    have b:d m / (2 * z m) * z m=d m / 2:=by rw [TR,TR,Rat.inv_mul_rev];have:(z m)⁻¹ * z m=1:=V5 _ (by grind);grind
    have p:d m / 2 < d m:=by
     have:d m / 2=d m * (1 / 2):=by rw [TR,TR];grind
     rw [this];grind
    by_cases k:e<=d m / (2 * z m)
    .refine⟨e,h1,λj h c=> ?_⟩;by_cases f:j=m
     .subst f;have:=V7 k (show 0<=z j by grind);grind
     .exact g j (by omega) c
    .refine⟨d m / (2 * z m),a,λj h c=> ?_⟩;by_cases f:j=m
     .subst f;grind
     .have l:=g j (by omega) c;by_cases o: 0 < z j
      .have:=V7 (show d m / (2 * z m)<=e by grind) (show 0<=z j by grind);grind
      .have:=Un (show 0<=d m / (2 * z m) by grind) (show 0<= -(z j) by grind);grind
   .refine⟨e,h1,λj h c=> ?_⟩;by_cases f:j=m
    .subst f;have:=Un (show 0<=e by grind) (show 0<= -(z j) by grind);grind
    .exact g j (by omega) c
  .refine⟨e,h1,λj h c=> ?_⟩;by_cases f:j=m
   .subst f;exact absurd c i
   .exact g j (by omega) c
theorem Pc{S:Sy}{t:bh}(ok:S.OK t)(kd:∀j,j < S.m->S.kd j=1\/S.kd j=2\/S.kd j=3)(p:∀j,j < S.m->¬S.eQ t (t.af j)):
  ∃y:Nat->Rat,df S.n S.m S.A y/\∀j,j < S.m->y (S.n+j)<=S.to j/\(S.kd j=3->y (S.n+j)=S.to j)/\(S.kd j=2->y (S.n+j) < S.to j):=by
 have hv:∀j,j < S.m->¬bW (S.to j,S.u2 j) (t.y (S.n+j),t.z (S.n+j))/\(S.kd j=3->¬bW (t.y (S.n+j),t.z (S.n+j)) (S.to j,S.u2 j)):=λj a=>by
  by_cases hb:∃q,q < S.m/\t.af q=S.n+j
  .obtain⟨q,l,e⟩:=hb;have h:=p q l;rw [e] at h;unfold Sy.eQ at h;rw [y8,Tq] at h;exact⟨λg=>h ⟨UY _ _, .inl g⟩,λw g=>h ⟨UY _ _, .inr ⟨w,g⟩⟩⟩
  .have f:=ok.fix (S.n+j) (by omega) (λq l e=>hb ⟨q,l,e⟩);unfold Sy.fx at f;rw [if_neg (by omega),y8] at f;have r:t.y (S.n+j)=S.to j:=congrArg Prod.fst f;have s:t.z (S.n+j)=S.u2 j:=congrArg Prod.snd f;rw [r,s];unfold bW;exact⟨by grind,λ_=>by grind⟩
 obtain⟨e,e0,u⟩:=Jn (λj=>S.to j - t.y (S.n+j)) (λj=>t.z (S.n+j)) S.m;refine⟨λv=>t.y v+e * t.z v,λj a=> ?_,λj a=> ?_⟩
 .show t.y (S.n+j)+e * t.z (S.n+j)=sm S.n (λk=>S.A j k * (t.y k+e * t.z k));rw [ok.hy j a,ok.hz j a];have h1:sm S.n (λk=>S.A j k * (t.y k+e * t.z k))=sm S.n (λk=>1 * (S.A j k * t.y k)+e * (S.A j k * t.z k)):=cf λk _=>by grind
  rw [h1,ik];grind
 .obtain⟨b,d⟩:=hv j a;have c:=u j a;unfold bW at b d;simp only at b d c;show t.y (S.n+j)+e * t.z (S.n+j)<=S.to j/\(S.kd j=3->t.y (S.n+j)+e * t.z (S.n+j)=S.to j)/\(S.kd j=2->t.y (S.n+j)+e * t.z (S.n+j) < S.to j);unfold Sy.u2 at b d;rcases kd j a with k | k | k
  .rw [if_neg (by omega)] at b;refine⟨?_,λh=>by omega,λh=>by omega⟩;by_cases h:t.y (S.n+j) < S.to j
   .have:=c (by grind);grind
   .have h1:t.y (S.n+j)=S.to j:=by grind
    have i:t.z (S.n+j)<=0:=by grind
    have:=Un (show 0<=e by grind) (show 0<= -(t.z (S.n+j)) by grind);grind
  .rw [if_pos k] at b;have o:t.y (S.n+j)+e * t.z (S.n+j) < S.to j:=by
    by_cases h:t.y (S.n+j) < S.to j
    .have:=c (by grind);grind
    .have h1:t.y (S.n+j)=S.to j:=by grind
     have i:t.z (S.n+j)<= -1:=by grind
     have:=Un (show 0<=e by grind) (show 0<= -1 - t.z (S.n+j) by grind);grind
   exact⟨by grind,λh=>by omega,λ_=>o⟩
  .rw [if_neg (by omega)] at b d;have x:=d k;have h1:t.y (S.n+j)=S.to j:=by grind
   have i:t.z (S.n+j)=0:=by grind
   rw [h1,i];exact⟨by grind,λ_=>by grind,λh=>by omega⟩
end Go.Aev.Tb
namespace Go.Aev.Wd.Lg
open Go Go.Aev Go.Aev.Gen Go.Aev.Wd Go.Aev.Tb
section
variable {n:Nat} {rows:List R} {t:TL}
theorem Rg(s:gA n rows)(h:bq n rows t):∃D:Rat,D≠0/\aJ 4374 D/\
  (∀i v,i < rows.length->v < n+rows.length->aJ 4374 (D * t.st.c i v))/\(∀i v,i < rows.length->v < n+rows.length->t.st.af i < n->aJ 486 (D * t.st.c i v)):=by
 obtain⟨D,h1,p,b,q⟩:=sr s h;refine⟨D,h1,p,b,λi v hi hv hb=> ?_⟩
 have a:=q (λv=>9 * t.st.c i v) (λk=>if k=t.st.af i then 9 else 0) (λj r=>by
   show 9 * t.st.c i (t.st.af j)=0;rw [h.ok.wf.z i j hi r,TV]) (λk _=>by
   show aJ 9 (if k=t.st.af i then 9 else 0);split
   .exact⟨9,rfl,by decide⟩
   .exact aJ.zero _) (λy hy=>by
   have e:y (t.st.af i)=sm (n+rows.length) (λk=>t.st.c i k * y k):=(h.ok.wf.same y).2 hy i hi;have l:sm (n+rows.length) (λk=>9 * t.st.c i k * y k)=sm (n+rows.length) (λk=>9 * (t.st.c i k * y k)):=cf λk _=>by grind
   rw [l,kW,<-e,jg (v:=t.st.af i) hb λk _ d=>by show(if k=t.st.af i then 9 else 0) * y k=0;rw [if_neg d,TI]];show _= (if t.st.af i=t.st.af i then 9 else 0) * y (t.st.af i);rw [if_pos rfl]) v hv
 obtain⟨z,e,_⟩:=b i v hi hv;obtain⟨f,g,w⟩:=a;have m:D * (9 * t.st.c i v)= ((9 * z:Int):Rat):=by rw [Xu];have o:((9:Int):Rat)=9:=rfl;have e3:D * t.st.c i v= (z:Rat):=e;rw [o,<-e3];grind
 have u: 9 * z=f:=by have:((9 * z:Int):Rat)= (f:Rat):=m.symm.trans g;exact Rat.intCast_inj.1 this
 exact⟨z,e,by omega⟩
theorem wR(s:gA n rows)(h:bq n rows t){D:Rat}{B F:Nat}{y:Nat->Rat}(hy:df n rows.length (aI n rows).A y)(o:∀v,v < n+rows.length->(∀i,i < rows.length->t.st.af i≠v)->aJ F (y v))
  {i:Nat} (hi:i < rows.length) (k:∀v,v < n+rows.length->aJ B (D * t.st.c i v)):aJ (3 * (B * F)) (D * y (t.st.af i)):=by
 obtain⟨nb,d,p,q,u,_⟩:=h.ok.wf.nb;have e:=(h.ok.wf.same y).2 hy i hi;have f:=WF.sum (n:=n) (m:=rows.length) (A:=(aI n rows).A) (af:=t.st.af) (c:=t.st.c) d p u (l:=t.st.c i) (λj b=>h.ok.wf.z i j hi b) y;have g:y (t.st.af i)=sm n (λr=>t.st.c i (nb r) * y (nb r)):=e.trans f;rw [g,<-kW];have hs:aJ (n * (B * F)) (sm n (λr=>D * (t.st.c i (nb r) * y (nb r)))):=by refine su λr hr=> ?_;have a:=(k (nb r) (d r hr)).mul (o (nb r) (d r hr) λj b e=>q r j hr b e.symm);rw [<-Xe];exact a
 exact hs.mono (TK _ s.n)
theorem Nv(s:gA n rows)(h:bq n rows t):∀v,v < n+rows.length->(∀i,i < rows.length->t.st.af i≠v)->aJ 9 (t.st.y v)/\aJ 1 (t.st.z v)/\(v < n->t.st.y v=0/\t.st.z v=0):=λv hv hb=>by
 have f:=h.ok.fix v hv hb;have b:t.st.y v= ((aI n rows).fx v).1:=congrArg Prod.fst f;have c:t.st.z v= ((aI n rows).fx v).2:=congrArg Prod.snd f;rw [b,c];have e:(aI n rows).fx v=if v < n then(0,0) else(aI n rows).up v:=rfl;rw [e];by_cases a:v < n
 .rw [if_pos a];exact⟨aJ.zero _,aJ.zero _,λ_=>⟨rfl,rfl⟩⟩
 .rw [if_neg a];have:=s.tv _ (eG (rows:=rows) (i:=v - n) (by omega));refine⟨aJ.int (z:=(aS rows (v - n)).tv) (by omega), ?_,λh=>absurd h a⟩;unfold Sy.up;dsimp only;split
  .exact⟨-1,rfl,by decide⟩
  .exact aJ.zero _
theorem Rh(s:gA n rows)(h:bq n rows t):∃D:Rat,D≠0/\aJ 4374 D/\(∀v,v < n+rows.length->aJ 118098 (D * t.st.y v)/\aJ 13122 (D * t.st.z v))/\∀v,v < n->aJ 13122 (D * t.st.y v)/\aJ 1458 (D * t.st.z v):=by
 obtain⟨D,h1,g,j,k⟩:=Rg s h;have d:=Nv s h;refine⟨D,h1,g,λv hv=> ?_,λv hv=> ?_⟩
 .by_cases hb:∃i,i < rows.length/\t.st.af i=v
  .obtain⟨i,hi,e⟩:=hb;rw [<-e];exact⟨wR s h (B:=4374) (F:=9) h.ok.hy (λv hv hb=>(d v hv hb).1) hi (λv hv=>j i v hi hv),wR s h (B:=4374) (F:=1) h.ok.hz (λv hv hb=>(d v hv hb).2.1) hi (λv hv=>j i v hi hv)⟩
  .obtain⟨a,b,_⟩:=d v hv λi hi e=>hb ⟨i,hi,e⟩;exact⟨(g.mul a).mono (by decide),(g.mul b).mono (by decide)⟩
 .by_cases hb:∃i,i < rows.length/\t.st.af i=v
  .obtain⟨i,hi,e⟩:=hb;have f:t.st.af i < n:=by omega
   rw [<-e];exact⟨wR s h (B:=486) (F:=9) h.ok.hy (λv hv hb=>(d v hv hb).1) hi (λv hv=>k i v hi hv f),wR s h (B:=486) (F:=1) h.ok.hz (λv hv hb=>(d v hv hb).2.1) hi (λv hv=>k i v hi hv f)⟩
  .obtain⟨_,_,c⟩:=d v (by omega) λi hi e=>hb ⟨i,hi,e⟩;rw [(c hv).1,(c hv).2,TV];exact⟨aJ.zero _,aJ.zero _⟩
def zC(q:Rat):Prop:= ∃b a:Rat,a≠0/\aJ 157464 b/\aJ 17496 a/\q * a=b
theorem Rc(s:gA n rows)(h:bq n rows t){D:Rat}(h1:D≠0)(j:aJ 4374 D)(p:∀v,v < n+rows.length->aJ 118098 (D * t.st.y v)/\aJ 13122 (D * t.st.z v)):
  ∀(d v:Nat) (o:Nm),d+v=n+rows.length->zC (nv o)->zC (nv (qp n rows t.val d v o)):=by
 intro d;induction d with
 | zero=>intro v o _ f;exact f
 | succ d u=>
  intro v o A f;rw [qp];refine u (v+1) _ (by omega) ?_;unfold iF;split
  .exact f
  .rename_i g;split
   .rename_i e;obtain⟨a,b⟩:=p v (by omega);have tv:=s.tv _ (eG (rows:=rows) (i:=v - n) (by omega));have w:nv (bu n rows v).1= ((aS rows (v - n)).tv:Rat):=by unfold bu;rw [if_neg g];rfl
    have q:aJ (4374 * 9) (D * nv (bu n rows v).1):=by rw [w];exact j.mul (aJ.int (by omega))
    have u2:aJ 1 (nv (bu n rows v).2):=by
     unfold bu;rw [if_neg g];dsimp only;split
     .exact⟨-1,rfl,by decide⟩
     .exact aJ.zero _
    have r:aJ (4374 * 1) (D * nv (bu n rows v).2):=j.mul u2;have l:t.st.y v=nv (aG t.val v).1:=rfl;have m:t.st.z v=nv (aG t.val v).2:=rfl;rw [l] at a;rw [m] at b;refine⟨D * nv (bu n rows v).1+ -(D * nv (aG t.val v).1),D * nv (aG t.val v).2+ -(D * nv (bu n rows v).2), ?_,q.add a.neg,b.add r.neg, ?_⟩
    .intro x;have:D * (nv (aG t.val v).2 - nv (bu n rows v).2)=0:=by grind
     rcases V6.1 this with c | c
     .exact h1 c
     .rw [c] at e;exact absurd e.1 (by decide)
    .rw [Pn,HW,HW];have k:nv (aG t.val v).2 - nv (bu n rows v).2≠0:=λc=>by rw [c] at e;exact absurd e.1 (by decide)
     have hi:=VG _ k;rw [TR];grind
   .exact f
theorem PH(s:gA n rows)(h:bq n rows t):b8 (bo n rows t.val)=true:=by
 obtain⟨D,h1,i,u,A⟩:=Rh s h;have G:=h.aW.v;obtain⟨l,c,p,q,g,r⟩:zC (nv (nf n rows t.val)):=by unfold nf;exact Rc s h h1 i u t.val.length 0 (iN 1) (by omega) ⟨1,1,by decide,⟨1,rfl,by decide⟩,⟨1,rfl,by decide⟩,by rw [BZ];exact WH _⟩
 refine Tk.2 λx F=> ?_;obtain⟨w,E,rfl⟩:=Tw.1 F;obtain⟨k,C,e⟩:=TY E;have j:k < n:=by rw [T3] at C;omega
 have f:aG t.val k=w:=by unfold aG;rw [SV,SZ (by omega)];rw [Xg] at e;exact e
 obtain⟨a,b⟩:=A k j;have m:t.st.y k=nv w.1:=by rw [<-f];rfl
 have o:t.st.z k=nv w.2:=by rw [<-f];rfl
 rw [m] at a;rw [o] at b;refine Ba (B:=13122 * 17496+1458 * 157464) (D:=D * c) (by decide) (λd=> ?_) ((i.mul g).mono (by decide)) ?_
 .rcases V6.1 d with d | d
  .exact h1 d
  .exact p d
 .show aJ _ (D * c * nv (cJ (nf n rows t.val) w));have:D * c * nv (cJ (nf n rows t.val) w)=D * nv w.1 * c+D * nv w.2 * l:=by
   show D * c * (nv w.1+nv w.2 * nv (nf n rows t.val))=_;rw [<-r];grind
  rw [this];exact(a.mul g).add (b.mul q)
end
open Go Go.Aev Go.Aev.Gen Go.Aev.Wd Go.Aev.Tb
def HR(r:R)(q:Rat):Prop:=q<=(r.tv:Rat)/\(r.kd=3->q= (r.tv:Rat))/\(r.kd=2->q < (r.tv:Rat))
theorem tT{r:R}(b:r.kd=1\/r.kd=2\/r.kd=3)(q:Rat):eL r q=true↔HR r q:=by
 unfold eL HR;rcases b with k | k | k
 .rw [if_pos k,decide_eq_true_eq];exact⟨λh=>⟨h,λa=>by omega,λa=>by omega⟩,λh=>h.1⟩
 .rw [if_neg (by omega),if_pos k,decide_eq_true_eq];exact⟨λh=>⟨by grind,λa=>by omega,λ_=>h⟩,λh=>h.2.2 k⟩
 .rw [if_neg (by omega),if_neg (by omega),decide_eq_true_eq];exact⟨λh=>⟨by grind,λ_=>h,λa=>by omega⟩,λh=>h.2.1 k⟩
section
variable {n:Nat} {rows:List R}
theorem NJ:∀(p:Nat) (t:TL) (l:List Nm),bq n rows t->(bU n rows true p t).1=some l->∃T,(aI n rows).pC T:=by
 intro p;induction p with
 | zero=>
  intro t l h c;rcases kG h with⟨_,hb⟩ | ⟨i,hi,d,e,hb,k⟩
  .rw [kM true _ hb] at c;cases c
  .rw [oE true hb] at c;cases c
 | succ p m=>
  intro t l h c;rcases kG h with⟨_,hb⟩ | ⟨i,hi,d,e,hb,k⟩
  .rw [kM true _ hb] at c;cases c
  .rw [nr true p hb k] at c;cases f:aT n rows t.val (bp n rows t (t.st.af i)) (au t.aj i) 0 with
   | none=>refine⟨_,P3 h.ok hi d λu _ g j=> ?_⟩;have a:=tH f u (Vx u) (by rw [TZ];exact g);rw [TZ] at a;rw [u5] at j;have b:=(rf (n:=n) (rows:=rows) t (sM n rows t _) g (v:=u)).2 j;exact Bool.noConfusion (a.symm.trans b)
   | some v=>rw [f] at c;obtain⟨q,r,_⟩:=iB f;obtain⟨o,_⟩:=h.step true hi (v:=v) (by have:=h.aW.row hi;omega) d f e;exact m _ l o c
theorem Hj(f:Nat->Rat){n k:Nat}(a:k < n):((List.range n).map f).getD k 0=f k:=by rw [SV,TM,VU a];rfl
theorem Ql(ro:ef n rows){y:Nat->Rat}(hy:df n rows.length (aI n rows).A y){i:Nat}(hi:i < rows.length):aU (aS rows i).of ((List.range n).map y)=y (n+i):=by rw [jP _ _ (by simpa using ro.len _ (eG hi)),Uv,U8];refine W1 ?_ (hy i hi).symm;exact cf λk a=>by rw [Hj y a];rfl
theorem sq(ro:ef n rows)(s:gA n rows):
  (∃pl,qn n rows 2000= [ti 1,lF pl,T.aO true,ti 0,ti 0]/\∃xs:List Rat,xs.length=n/\∀r∈rows,HR r (aU r.of xs))\/
  ∃l,qn n rows 2000= [ti 2,T.aO true,lF l,ti 0,ti 0]/\∃T,(aI n rows).pC T:=by
 have a:=um ro;have b:=tS ro 2000 a;have f:=xQ ro 2000 (cM n rows) a;have d:=Gu a (Ca s);have c:=λl=>Gv s 2000 (cM n rows) l a;have g:=λl=>NJ 2000 (cM n rows) l a;unfold qn;generalize bU n rows true 2000 (cM n rows)=r1 at b f d c g⊢;obtain⟨no,done,m⟩:=r1;simp only at b f d c g;subst d;cases no with
 | some l=>refine .inr ⟨l, ?_,g l rfl⟩;simp only;rw [if_pos (c l rfl)]
 | none=>
  refine .inl ⟨bo n rows m.val, ?_, ?_⟩
  .simp only;rw [if_pos (PH s b)]
  .obtain⟨y,hy,h⟩:=Pc b.ok (λj k=>ro.kd _ (eG k)) (f rfl rfl);refine⟨(List.range n).map y,by simp,λr hr=> ?_⟩;obtain⟨i,hi,e⟩:=TY hr;have er:aS rows i=r:=by unfold aS;rw [SV,SZ hi];exact e
   have:=h i hi;rw [<-er,Ql ro hy hi];exact this
theorem Iz(ro:ef n rows){T:Nat->Rat}(d:(aI n rows).pC T){xs:List Rat}(c:xs.length=n)(h:∀r∈rows,HR r (aU r.of xs)):False:=by
 let y:Nat->Rat:=λv=>if v < n then xs.getD v 0 else aU (aS rows (v - n)).of xs;have a:∀i,y (n+i)=aU (aS rows i).of xs:=λi=>by show(if n+i < n then _ else aU (aS rows (n+i - n)).of xs)=_;rw [if_neg (by omega),Tq]
 refine P2 d (y:=y) (λi hi=> ?_) (λj e=> ?_)
 .have b:i < rows.length:=hi;show y (n+i)=_;rw [a,jP _ _ (by rw [c];exact ro.len _ (eG b)),c];exact cf λk f=>by
   show _=_ * (if k < n then xs.getD k 0 else _);rw [if_pos f];rfl
 .show y (n+j)<=((aS rows j).tv:Rat)/\((aS rows j).kd=3->y (n+j)= ((aS rows j).tv:Rat))/\((aS rows j).kd=2->y (n+j) < ((aS rows j).tv:Rat));rw [a];exact h _ (eG e)
end
def ig(e:Bool)(gl:List Int)(a:Int):R:=⟨e,gl.map λc=> -c,2, -a⟩
theorem EO:∀(gl:List Int) (xs:List Rat),aU (gl.map λc=> -c) xs= -(aU gl xs)
 | [],xs=>by show aU [] xs=_;rw [pI];grind
 | c::gl,[]=>by show(0:Rat)= -0;grind
 | c::gl,x::xs=>by show((-c:Int):Rat) * x+aU (gl.map λc=> -c) xs= -((c:Rat) * x+aU gl xs);rw [EO gl xs,WS];grind
section
variable {n:Nat} {rows:List R} {gl:List Int}
theorem Ia(e:Bool)(a:Int)(xs:List Rat):HR (ig e gl a) (aU (ig e gl a).of xs)↔(a:Rat) < aU gl xs:=by unfold HR;show aU (gl.map λc=> -c) xs<=((-a:Int):Rat)/\((2:Int)=3->_)/\((2:Int)=2->aU (gl.map λc=> -c) xs < ((-a:Int):Rat))↔_;rw [EO,WS];exact⟨λh=>by have:=h.2.2 rfl;grind,λh=>⟨by grind,λb=>absurd b (by decide),λ_=>by grind⟩⟩
theorem Pt.hr(go:dY n rows gl){xs:List Rat}:Pt n rows xs↔xs.length=n/\∀r∈rows,HR r (aU r.of xs):=
 ⟨λh=>⟨h.1,λr hr=>(tT (go.ro.kd r hr) _).1 (h.2 r hr)⟩,λh=>⟨h.1,λr hr=>(tT (go.ro.kd r hr) _).2 (h.2 r hr)⟩⟩
theorem EM{of:List Int}{p d:List Rat}(e:p.length=n)(a:d.length=n)(c:of.length<=n)(u:Rat):aU of ((List.range n).map λk=>p.getD k 0+u * d.getD k 0)=aU of p+u * aU of d:=by
 rw [jP of _ (by simpa using c),jP of p (by omega),jP of d (by omega),Uv,U8,e,a];have h1:sm n (λk=>((of.getD k 0:Int):Rat) * ((List.range n).map λk=>p.getD k 0+u * d.getD k 0).getD k 0)=sm n (λk=>1 * (((of.getD k 0:Int):Rat) * p.getD k 0)+u * (((of.getD k 0:Int):Rat) * d.getD k 0)):=cf λk b=>by rw [Hj (λk=>p.getD k 0+u * d.getD k 0) b];grind
 rw [h1,ik,WE]
theorem P0(go:dY n rows gl){p d:List Rat}(c:Pt n rows p)(e:d.length=n)(h:∀r∈rows.map iG,eL r (aU r.of d)=true)(m: 0 < aU gl d)(a:Rat):∃xs,Pt n rows xs/\a < aU gl xs:=by
 by_cases o:a < aU gl p
 .exact⟨p,c,o⟩
 .have f: 0<=(a - aU gl p) / aU gl d+1:=by
   have:=Un (show 0<=a - aU gl p by grind) (show 0<=(aU gl d)⁻¹ by have:=Rat.inv_pos.2 m;grind);rw [TR];grind
  have hm:((a - aU gl p) / aU gl d) * aU gl d=a - aU gl p:=by have:=V5 (aU gl d) (by grind);rw [TR];grind
  generalize (a - aU gl p) / aU gl d=w at f hm;refine⟨(List.range n).map λk=>p.getD k 0+ (w+1) * d.getD k 0,⟨by simp,λr hr=> ?_⟩, ?_⟩
  .rw [EM c.1 e (go.ro.len r hr)];have h1:=(tT (go.ro.kd r hr) _).1 (c.2 r hr);have l:=h (iG r) (List.mem_map_of_mem hr);have g:(iG r).kd=r.kd:=rfl;have b:=(tT (r:=iG r) (by rw [g];exact go.ro.kd r hr) _).1 l;have e0:((iG r).tv:Rat)=0:=rfl;have j:(iG r).of=r.of:=rfl;unfold HR at b;rw [e0,j,g] at b;refine(tT (go.ro.kd r hr) _).2 ⟨?_,λi=> ?_,λk2=>absurd k2 (go.k2 r hr)⟩
   .have:=Un f (show 0<= -(aU r.of d) by have:=b.1;grind);have:=h1.1;grind
   .rw [b.2.1 i,h1.2.1 i];grind
  .rw [EM c.1 e go.gl];grind
theorem Rx(go:dY n rows gl)(s:gA n rows)(N:∀c∈gl, -9<=c/\c<=9){e:Bool}{f:Int}(p:ef n (rows++ [ig e gl f]))(A:gA n (rows++ [ig e gl f])):
  ∃(k:Int) (v:Fr) (x y:T) (a:Int) (J L:T) (b:Int) (K M:T),iU n rows gl 2000= [ti k,ti v.1,ti v.2,x,y,ti 0,ti 0]/\qn n rows 2000= [ti a,J,L,ti 0,ti 0]/\qn n (rows++ [ig e gl f]) 2000= [ti b,K,M,ti 0,ti 0]/\
   (∃b l,T.aP 2 x=some (b,l))/\(∃b l,T.aP 2 y=some (b,l))/\(∃b l,T.aP 2 J=some (b,l))/\(∃b l,T.aP 2 L=some (b,l))/\(∃b l,T.aP 2 K=some (b,l))/\(∃b l,T.aP 2 M=some (b,l))/\
   (k=1/\a=1/\bH v/\(b=1/\(f:Rat) < ba v\/b=2/\ba v<=(f:Rat))\/k=2/\a=2/\b=2\/k=3/\a=1/\b=1):=by
 have i:∃b l,T.aP 2 (T.aO true)=some (b,l):=⟨_,_,cU 2 true⟩;have g:∀l,∃b F,T.aP 2 (lF l)=some (b,F):=λl=>⟨_,_,rQ 2 _ _⟩;have D:ig e gl f∈rows++ [ig e gl f]:=Te _ (Tc.2 rfl);have up:∀xs:List Rat,xs.length=n->(∀r∈rows++ [ig e gl f],HR r (aU r.of xs))->Pt n rows xs/\(f:Rat) < aU gl xs:=λxs S h=>
  ⟨(Pt.hr go).2 ⟨S,λr hr=>h r (Tf _ hr)⟩,(Ia e f xs).1 (h _ D)⟩
 have B:∀T,(aI n (rows++ [ig e gl f])).pC T->∀xs,Pt n rows xs->aU gl xs<=(f:Rat):=λT q xs h=>by
  refine Wk.1 λC=>Iz p q h.1 λr hr=> ?_;rcases Tm.1 hr with hr | hr
  .exact((Pt.hr go).1 h).2 r hr
  .rw [Tc.1 hr];exact(Ia e f xs).2 C
 have z:∀T,(aI n rows).pC T->∀xs,¬Pt n rows xs:=λT q xs h=>Iz go.ro q h.1 ((Pt.hr go).1 h).2;rcases Lv go s N with⟨v,pl,W,u,hv,h1,Z,O,P,w⟩ | ⟨W,Y,u,q⟩ | ⟨pl,t,u,h1,O,w,Q⟩
 .obtain⟨G,U⟩:=QT w (by simpa using h1);rcases sq go.ro s with⟨H,j,_⟩ | ⟨l,j,T,m⟩
  .rcases sq p A with⟨I,e3,xs,o,x2⟩ | ⟨l,e3,T,m⟩
   .obtain⟨X,y2⟩:=up xs o x2;have:=SG go w (Kk P) X;exact⟨1,v,_,_,1,_,_,1,_,_,u,j,e3,g _,g _,g _,i,g _,i, .inl ⟨rfl,rfl,hv, .inl ⟨rfl,by grind⟩⟩⟩
   .have:=B T m _ G;rw [U] at this;exact⟨1,v,_,_,1,_,_,2,_,_,u,j,e3,g _,g _,g _,i,i,g _, .inl ⟨rfl,rfl,hv, .inr ⟨rfl,this⟩⟩⟩
  .exact(z T m _ G).elim
 .rcases sq go.ro s with⟨H,j,xs,o,x2⟩ | ⟨l,j,T,m⟩
  .exact(IA go.ro go.k2 q ((Pt.hr go).2 ⟨o,x2⟩)).elim
  .rcases sq p A with⟨I,e3,xs,o,x2⟩ | ⟨F,e3,_⟩
   .exact(IA go.ro go.k2 q (up xs o x2).1).elim
   .exact⟨2,(0,0),_,_,2,_,_,2,_,_,u,j,e3,i,g _,i,g _,i,g _, .inr (.inl ⟨rfl,rfl,rfl⟩)⟩
 .have E:=PI go Q;rcases sq go.ro s with⟨H,j,_⟩ | ⟨l,j,T,m⟩
  .rcases sq p A with⟨I,e3,_⟩ | ⟨l,e3,T,m⟩
   .exact⟨3,(0,0),_,_,1,_,_,1,_,_,u,j,e3,g _,i,g _,i,g _,i, .inr (.inr ⟨rfl,rfl,rfl⟩)⟩
   .obtain⟨r1,V⟩:=PZ w;obtain⟨xs,o,x2⟩:=P0 go E (d:=(pl.map cL).map ba) (by simpa using h1) r1 V (f:Rat);exact absurd (B T m xs o) (by grind)
  .exact(z T m _ E).elim
end
end Go.Aev.Wd.Lg
