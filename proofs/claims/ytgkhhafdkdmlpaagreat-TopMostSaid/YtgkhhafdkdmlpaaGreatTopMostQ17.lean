import Derived.Test.YtgkhhafdkdmlpaaGreatTopMostQ16
set_option linter.all false
namespace Go.Aev.Wd.Lg
open Go Go.Aev Go.Aev.Gen Go.Aev.Wd Go.Aev.Tb
def iV(n:Nat)(rows:List R)(val:List Vl)(v:Nat)(o:Nm):Nm:=
 if v < n then o else
 if 0 < nv (aH val v).2 - nv (bJ n rows v).2/\0 < nv (bJ n rows v).1 - nv (aH val v).1/\(nv (bJ n rows v).1 - nv (aH val v).1) / (nv (aH val v).2 - nv (bJ n rows v).2) < nv o
 then ov (mi (bJ n rows v).1 (aH val v).1) (mi (aH val v).2 (bJ n rows v).2) else o
def uv(n:Nat)(rows:List R)(val:List Vl):Nat->Nat->Nm->Nm
 | 0,_,o=>o
 | d+1,v,o=>uv n rows val d (v+1) (iV n rows val v o)
def wR(n:Nat)(rows:List R)(val:List Vl):Nm:=uv n rows val val.length 0 (iN 1)
theorem PI{n:Nat}{rows:List R}(sz:Sz n rows){val:List Vl}{mv:Nat}{v:Nat}(hv:v < n+rows.length)(c:VB mv (aH val v)){o:Nm}(b:QN (2 * mv+50) o)(hm:mv<=1000):QN (2 * mv+50) (iV n rows val v o):=by
 unfold iV;split
 .exact b
 .split
  .rename_i a;have d:=p6 sz hv;have q1:QN (20+mv+1) (mi (bJ n rows v).1 (aH val v).1):=d.1.sub c.1;have f:QN (mv+20+1) (mi (aH val v).2 (bJ n rows v).2):=c.2.sub d.2;have e:nv (mi (aH val v).2 (bJ n rows v).2)≠0:=λh=>by
    have:nv (aH val v).2 - nv (bJ n rows v).2=0:=h;rw [this] at a;exact absurd a.1 (by grind)
   exact(np q1 f (by omega) e).2.mono (by omega)
  .exact b
section
variable {n:Nat} {rows:List R} (sz:Sz n rows) (er eb ev eg:Bool) (af:List Nat) (val:List Vl) (ax:List Nm)
include sz
set_option maxRecDepth 10000 in
theorem QR{mv:Nat}(T:val.length=n+rows.length)(M:∀u,u < n+rows.length->VB mv (aH val u))(hm:mv<=1000):
  ∀(d v:Nat) (o:Nm),d+v=n+rows.length->QN (2 * mv+50) o->
  Or vJ [AV.t (TP n er rows eb af ev val eg ax),r0,AV.ref (Id.c 1) 0,I (val.length:Int),I (v:Int)] [gT none,gT o]=some (NL (uv n rows val d v o))/\QN (2 * mv+50) (uv n rows val d v o):=by
 have U:=sz.n;have S:=sz.m;intro d;induction d with
 | zero=>
  intro v o L w;have h1:¬(v:Int) < (val.length:Int):=by omega
  refine⟨ao ?_,w⟩;rw [qY];simp only [al,↓reduceIte,Int.reduceBEq,Int.reduceEq,GD,h1];rfl
 | succ d O=>
  intro v o L w;have hv:v < n+rows.length:=by omega
  have h1:(v:Int) < (val.length:Int):=by omega
  have q: 0<=(v:Int):=by omega
  have e:=sa sz er eb ev eg af val ax hv;have s:=mS (nK (val:=val) (i:=v) (by omega));have g:=M v hv;have A:=p6 sz hv;have Q:=PI sz hv g w hm;obtain⟨b,N⟩:=O (v+1) (iV n rows val v o) (by omega) Q;refine⟨ao ?_,N⟩;show _=some (NL (uv n rows val d (v+1) (iV n rows val v o)));rw [cD] at e;simp only [Rx,Ry] at e;by_cases a:v < n
  .have hs:iV n rows val v o=o:=by unfold iV;rw [if_pos a]
   rw [hs] at b⊢;rw [decide_eq_true a] at e;rw [qY];simp only [al,↓reduceIte,Int.reduceBEq,Int.reduceEq,GD,bW,h1,e,RH,next v (by omega)];exact b
  .rw [decide_eq_false a] at e;have q1:QN (20+mv+1) (mi (bJ n rows v).1 (aH val v).1):=A.1.sub g.1;have P:QN (mv+20+1) (mi (aH val v).2 (bJ n rows v).2):=g.2.sub A.2;have z:=Ho (x:=(bJ n rows v).1) (y:=(aH val v).1) A.1 g.1 (by omega);have k2:=Ho (x:=(aH val v).2) (y:=(bJ n rows v).2) g.2 A.2 (by omega);have C:=lM (mi (aH val v).2 (bJ n rows v).2);have B:=lM (mi (bJ n rows v).1 (aH val v).1);have H:=xM (nv (mi (aH val v).2 (bJ n rows v).2));have G:=xM (nv (mi (bJ n rows v).1 (aH val v).1));by_cases l: 0 < nv (mi (aH val v).2 (bJ n rows v).2)
   .have f:=H.2 l;have J:nv (mi (aH val v).2 (bJ n rows v).2)≠0:=λh=>by rw [h] at l;exact absurd l (by grind)
    by_cases k: 0 < nv (mi (bJ n rows v).1 (aH val v).1)
    .have j:=G.2 k;obtain⟨F,K⟩:=np q1 P (by omega) J;have E:=oZ (x:=ov (mi (bJ n rows v).1 (aH val v).1) (mi (aH val v).2 (bJ n rows v).2)) (y:=o) K w (by omega);have D:=sZ (nv (ov (mi (bJ n rows v).1 (aH val v).1) (mi (aH val v).2 (bJ n rows v).2))) (nv o);by_cases r:nv (ov (mi (bJ n rows v).1 (aH val v).1) (mi (aH val v).2 (bJ n rows v).2)) < nv o
     .have p:=D.2 r;have hs:iV n rows val v o=ov (mi (bJ n rows v).1 (aH val v).1) (mi (aH val v).2 (bJ n rows v).2):=by
       unfold iV;rw [if_neg a,if_pos ⟨l,k,r⟩]
      rw [hs] at b⊢;rw [qY];simp only [al,↓reduceIte,Int.reduceBEq,Int.reduceEq,GD,bW,h1,q,and_self,e,RJ,cJ,s,z,k2,B,C,f,j,F,E,p,decide_true,next v (by omega)];exact b
     .have p:¬cq (nv (ov (mi (bJ n rows v).1 (aH val v).1) (mi (aH val v).2 (bJ n rows v).2))) (nv o) < 0:=λh=>r (D.1 h);have hs:iV n rows val v o=o:=by unfold iV;rw [if_neg a,if_neg (λh=>r h.2.2)]
      rw [hs] at b⊢;rw [qY];simp only [al,↓reduceIte,Int.reduceBEq,Int.reduceEq,GD,bW,h1,q,and_self,e,RJ,cJ,s,z,k2,B,C,f,j,F,E,p,decide_true,decide_false,next v (by omega)];exact b
    .have j:¬(nv (mi (bJ n rows v).1 (aH val v).1)).num.sign > 0:=λh=>k (G.1 h);have hs:iV n rows val v o=o:=by unfold iV;rw [if_neg a,if_neg (λh=>k h.2.1)]
     rw [hs] at b⊢;rw [qY];simp only [cm,al,↓reduceIte,Int.reduceBEq,Int.reduceEq,GD,bW,h1,q,and_self,e,RJ,cJ,s,z,k2,B,C,f,j,decide_true,decide_false,next v (by omega)];exact b
   .have f:¬(nv (mi (aH val v).2 (bJ n rows v).2)).num.sign > 0:=λh=>l (H.1 h);have hs:iV n rows val v o=o:=by unfold iV;rw [if_neg a,if_neg (λh=>l h.1)]
    rw [hs] at b⊢;rw [qY];simp only [cm,al,↓reduceIte,Int.reduceBEq,Int.reduceEq,GD,bW,h1,q,and_self,e,RJ,cJ,s,z,k2,B,C,f,decide_true,decide_false,next v (by omega)];exact b
theorem QQ{mv:Nat}(a:val.length=n+rows.length)(e:∀u,u < n+rows.length->VB mv (aH val u))(hm:mv<=1000):
  Or (.call 49) [AV.t (TP n er rows eb af ev val eg ax)] []=some (NL (wR n rows val))/\QN (2 * mv+50) (wR n rows val):=by
 have b:=fE 1 (by omega);have q1:QN (2 * mv+50) (iN 1):=dP (by exact Vy);obtain⟨c,d⟩:=QR sz er eb ev eg af val ax a e hm (n+rows.length) 0 (iN 1) (by omega) q1;unfold wR;rw [a];refine⟨ao ?_,d⟩;rw [L7];simp only [al,↓reduceIte,Int.reduceBEq,Int.reduceEq,GD,b,cJ];exact c
end
def gf(e:Nm)(v:Vl):Nm:=pl v.1 (tm v.2 e)
def bM(n:Nat)(rows:List R)(val:List Vl):List Nm:=(val.take n).map (gf (wR n rows val))
abbrev SP(n:Nat)(rows:List R)(f:Fl)(t:TL):List ab:=
 [ab.box [I (n:Int),AV.t (T.ae 3 f.er (bX rows)),AV.own (Id.c 1),AV.own (Id.c 2),AV.own (Id.c 3),AV.own (Id.c 4),AV.t (T.ae 4 f.eg (aO t.ax))],ab.sl false 1 f.eb (cP t.af),ab.mp false [Ck.i .i64] (Ck.i .i64) (bS t.mp),
  ab.rows f.ec 1 0 4 t.aj.length (bB 0 t.aj),ab.sl false 8 f.ev (dB t.val)]
theorem QD{n:Nat}{rows:List R}(f:Fl)(t:TL){mv o:Nat}(D:n<=12)(C:t.val.length=n+rows.length)(z:∀u,u < n+rows.length->VB mv (aH t.val u)){e:Nm}(h:QN o e)(hm:mv+ (mv+o)+1<=6300):
  ∀(d k:Nat),d+k=n->
  Or vG [AV.ref (Id.c 5) 0,AV.own (Id.c 6),AV.part (Id.c 4) 8 0 n,I (n:Int),I (k:Int)] (SP n rows f t++ [gT e,ab.sl false 4 (decide (k=0)) (aO ((t.val.take k).map (gf e)))])=
   some (T.ae 4 (decide (n=0)) (aO ((t.val.take n).map (gf e))):: [ti (n:Int),T.ae 3 f.er (bX rows),T.aD,T.aD,bH f.ec (bB 0 t.aj),T.aD,T.ae 4 f.eg (aO t.ax),T.ae 1 f.eb (cP t.af),bK (bS t.mp),T.ae 8 f.ev (dB t.val)]):=by
 intro d;induction d with
 | zero=>
  intro k r;obtain rfl:k=n:=by omega
  have h1:¬(k:Int) < (k:Int):=by omega
  refine ao ?_;simp only [Rx,Ry];rw [E6];simp only [al,↓reduceIte,Int.reduceBEq,Int.reduceEq,GD,h1,cE,cF]
 | succ d A=>
  intro k r;have h1:(k:Int) < (n:Int):=by omega
  have p: 0<=(k:Int):=by omega
  have a:=nK (val:=t.val) (i:=k) (by omega);have s:=mS a;have l: 0+ (k:Int).toNat= (k:Int).toNat:=by omega
  have g:=z k (by omega);have m:=mo (x:=(aH t.val k).2) (y:=e) g.2 h (by omega);have b:=oL (x:=(aH t.val k).1) (y:=tm (aH t.val k).2 e) g.1 (g.2.mul h) (by omega);have v:((t.val.take k).map (gf e)).length=k:=by simp;omega
  have B:bY 48 (((t.val.take k).map (gf e)).length+ [[tb (decide ((nv (gf e (aH t.val k))).num < 0)),T.str (bF (dz (nv (gf e (aH t.val k))).num)),tb (nc (gf e (aH t.val k))),T.str (nd (gf e (aH t.val k)))]].length)=some ():=lK (by simp;omega);have q:aO ((t.val.take k).map (gf e))++ [[tb (decide ((nv (gf e (aH t.val k))).num < 0)),T.str (bF (dz (nv (gf e (aH t.val k))).num)),tb (nc (gf e (aH t.val k))),T.str (nd (gf e (aH t.val k)))]]=aO ((t.val.take (k+1)).map (gf e)):=by rw [Ue,a,TC,<-EJ];rfl
  have w:pl (aH t.val k).1 (tm (aH t.val k).2 e)=gf e (aH t.val k):=rfl;rw [w] at b;have:=A (k+1) (by omega);have j:decide (k+1=0)=false:=by simp
  rw [j] at this;simp only [Rx,Ry] at this;refine ao ?_;simp only [Rx,Ry];rw [E6];simp only [al,↓reduceIte,Int.reduceBEq,Int.reduceEq,GD,h1,p,and_self,l,s,m,b,bA,B,q,next k (by omega)];exact this
theorem QC{n:Nat}{rows:List R}(f:Fl)(t:TL){mv:Nat}(sz:Sz n rows)(b:t.val.length=n+rows.length)(c:∀u,u < n+rows.length->VB mv (aH t.val u))(hm:mv<=1000):
  Or (.call 17) [r0] (SP n rows f t)=
   some (T.ae 4 (decide (n=0)) (aO (bM n rows t.val)):: [ti (n:Int),T.ae 3 f.er (bX rows),T.aD,T.aD,bH f.ec (bB 0 t.aj),T.aD,T.ae 4 f.eg (aO t.ax),T.ae 1 f.eb (cP t.af),bK (bS t.mp),T.ae 8 f.ev (dB t.val)]):=by
 have h:=sz.n;obtain⟨e,g⟩:=QQ sz f.er f.eb f.ev f.eg t.af t.val t.ax b c hm;have:=QD (rows:=rows) f t h b c g (by omega) n 0 (by omega);simp only [Rx,Ry,TZ,SX] at this;have a:cZ 0 (n:Int) (t.val.length:Int)=some ():=tC (by omega);have d:(n:Int).toNat - 0=n:=by omega
 refine ao ?_;rw [LG];simp only [al,↓reduceIte,Int.reduceBEq,Int.reduceEq,GD,e,cJ,a,d];exact this
open Go Go.Aev Go.Aev.Gen Go.Aev.Wd Go.Aev.Tb
theorem OT{n:Nat}{rows:List R}(hn:n<=12)(hm:rows.length<=40)(ok:∀r∈rows,fM n r):fv n rows where
 sz:=⟨hn,hm,λr hr=>(ok r hr).tv⟩
 of:=λr hr=>(ok r hr).of
 len:=λr hr=>(ok r hr).len
 kd:=λr hr=>(ok r hr).kd
theorem Bi{n:Nat}{rows:List R}{i:Nat}(hi:i < rows.length):(dQ n rows).st.af i=n+i:=by show(ik n rows.length).getD i 0=n+i;unfold ik;rw [Rr,Sb,UR hi];rfl
theorem NT{n:Nat}{rows:List R}(ro:fv n rows){i k:Nat}(hi:i < rows.length):(dQ n rows).st.c i k=if k < n then(aI n rows).A i k else 0:=by
 show nv (an (au (rows.map (fY n rows.length)) i) k)=_;have h1:au (rows.map (fY n rows.length)) i=fY n rows.length (aW rows i):=by unfold au aW;rw [Rr,Rr,Sb,Rv hi];rfl
 rw [h1];have b:=ro.len _ (gF hi);unfold fY an;rw [Rr];show _=if k < n then(((aW rows i).of.getD k 0:Int):Rat) else 0;by_cases a:k < (aW rows i).of.length
 .rw [SH (by simpa using a),Sb,Rv a,if_pos (by omega),Rr,Rv a];rfl
 .have hz:nv (((List.map iN (aW rows i).of++List.replicate (n+rows.length - (aW rows i).of.length) none)[k]?).getD none)=0:=by
   rw [Sp (by simpa using a),Tj];split <;> rfl
  rw [hz];split
  .rw [Rr,Sh (by omega)];rfl
  .rfl
theorem Bk(n:Nat)(rows:List R)(v:Nat):aH (dQ n rows).val v= (none,none):=by show aH (List.replicate (n+rows.length) (none,none)) v=_;unfold aH;rw [Rr,Tj];split <;> rfl
theorem Bj{n:Nat}{rows:List R}(ro:fv n rows):bC n rows (dQ n rows):=by
 have hz:eN n rows.length (aI n rows).A (λ_=>0):=λi _=>(lJ (λk _=>SG _)).symm;have hy:(dQ n rows).st.y=λ_=>0:=by funext v;show nv (aH (dQ n rows).val v).1=0;rw [Bk];rfl
 have f:(dQ n rows).st.z=λ_=>0:=by funext v;show nv (aH (dQ n rows).val v).2=0;rw [Bk];rfl
 refine⟨⟨by simp [dQ,ik],by simp [dQ],λx j=> ?_,by simp [dQ],λb hb=> ?_, ?_⟩,⟨?_,by rw [hy];exact hz,by rw [f];exact hz,λv hv hb=> ?_⟩,λi b hb=> ?_,λv hv=> ?_, ?_⟩
 .obtain⟨r,g,rfl⟩:=RU.1 j;have:=ro.len r g;unfold fY;simp;omega
 .obtain⟨i,hi,rfl⟩:=RU.1 hb;have:=Tp.1 hi;omega
 .show(List.map (λi=>n+i) (List.range rows.length)).Nodup;refine TN.2 (λa b s hb o=> ?_);simp only [T1,TJ];omega
 .refine WF.congr (λi hi=>(Bi hi).symm) (λi k hi _=>(NT ro hi).symm) (Re n rows.length (aI n rows).A)
 .have p:v < n+rows.length:=hv;have e:v < n:=by
   refine Nat.lt_of_not_le λh=>hb (v - n) (show v - n < rows.length by omega) ?_;rw [Bi (by omega)];omega
  have d:v < (aI n rows).n:=e;unfold Sy.fx;rw [if_pos d];show vv (aH (dQ n rows).val v)=_;rw [Bk];rfl
 .show bV b (hF n rows.length)=some i;have hi:i < rows.length:=by
   have:=(Rz.1 hb).1;simpa [dQ,ik] using this
  have c:b=n+i:=by have:=iB (t:=dQ n rows) (i:=i) (by simp [dQ,ik];exact hi);rw [hb,Bi hi] at this;exact R1 this
  rw [A5,c,if_pos (by omega)];congr 1;omega
 .show bV v (hF n rows.length)=none;rw [A5,if_neg];rintro⟨h1,q⟩;exact hv (RU.2 ⟨v - n,Tp.2 (by omega),by omega⟩)
 .show nT (hF n rows.length);generalize rows.length=m;induction m with
  | zero=>exact trivial
  | succ m l=>rw [<-HH];exact AU _ _ _ l
theorem MB{n:Nat}{rows:List R}(ro:fv n rows):∀(p:Nat) (t:TL),bC n rows t->
  bC n rows (ch n rows true p t).2.2/\(ch n rows true p t).2.2.ax=t.ax\/(ch n rows true p t).1.isSome=true/\bC n rows (ch n rows true p t).2.2/\(ch n rows true p t).2.2.ax=t.ax:=by
 intro p;induction p using Nat.strongRecOn with
 | _ p e=>
 intro t h;rcases lZ h with⟨_,hb⟩ | ⟨i,hi,b,a,hb,d⟩
 .rw [mf true _ hb];exact .inl ⟨h,rfl⟩
 .cases p with
  | zero=>rw [pJ true hb];exact .inl ⟨h,rfl⟩
  | succ p=>
   rw [og true p hb d];cases c:aR n rows t.val (bu n rows t (t.st.af i)) (au t.aj i) 0 with
   | none=>exact .inl ⟨h,rfl⟩
   | some v=>obtain⟨g,j,_⟩:=iJ c;obtain⟨f,_⟩:=h.step true hi (v:=v) (by have:=h.aX.row hi;omega) b c a;exact e p (Tn p) _ f
theorem AF{n:Nat}{rows:List R}(ro:fv n rows)(p:Nat){t:TL}(h:bC n rows t):bC n rows (ch n rows true p t).2.2:=by
 rcases MB ro p t h with h | h
 .exact h.1
 .exact h.2.1
theorem AE{n:Nat}{rows:List R}(ro:fv n rows):∀(p:Nat) (t:TL),bC n rows t->(ch n rows true p t).1=none->(ch n rows true p t).2.1=true->
  ∀j,j < rows.length->¬(aI n rows).fq (ch n rows true p t).2.2.st ((ch n rows true p t).2.2.st.af j):=by
 intro p;induction p using Nat.strongRecOn with
 | _ p g=>
 intro t h h1 a;rcases lZ h with⟨e,hb⟩ | ⟨i,hi,d,c,hb,f⟩
 .rw [mf true _ hb];exact e
 .cases p with
  | zero=>rw [pJ true hb] at a;cases a
  | succ p=>
   rw [og true p hb f] at h1 a⊢;cases b:aR n rows t.val (bu n rows t (t.st.af i)) (au t.aj i) 0 with
   | none=>rw [b] at h1;cases h1
   | some v=>rw [b] at h1 a;obtain⟨l,m,_⟩:=iJ b;obtain⟨k,_⟩:=h.step true hi (v:=v) (by have:=h.aX.row hi;omega) d b c;exact g p (Tn p) _ k h1 a
theorem As{n:Nat}{rows:List R}{t:TL}(h:bC n rows t)(k2:∀r∈rows,r.kd≠2)(o:∀j,j < rows.length->¬(aI n rows).fq t.st (t.st.af j)):(aI n rows).nP t.st:=by
 intro v b d;have s:n<=v:=b;have l:v < n+rows.length:=d;have hz:=z0 h k2 l;have q:=k2 _ (gF (rows:=rows) (i:=v - n) (by omega));have c:(aI n rows).up v= ((aI n rows).to (v - n),0):=Uz rfl (if_neg q);show t.st.y v<=(aI n rows).to (v - n)/\((aI n rows).kd (v - n)=3->t.st.y v= (aI n rows).to (v - n));by_cases hb:∃j,j < rows.length/\t.st.af j=v
 .obtain⟨j,k,e⟩:=hb;have a:=o j k;rw [e] at a;unfold Sy.fq at a;rw [c] at a;unfold cQ bm.val at a;rw [hz] at a;have u:¬(aI n rows).to (v - n) < t.st.y v:=λf=>a ⟨b, .inl (.inl f)⟩;refine⟨by grind,λm=> ?_⟩;have w:¬t.st.y v < (aI n rows).to (v - n):=λf=>a ⟨b, .inr ⟨m, .inl f⟩⟩;grind
 .have g:=h.ok.fix v d (λj k e=>hb ⟨j,k,e⟩);unfold Sy.fx at g;have p:¬v < (aI n rows).n:=TG.2 b;rw [if_neg p,c] at g;have hy:t.st.y v= (aI n rows).to (v - n):=congrArg Prod.fst g;exact⟨by rw [hy];exact SN,λ_=>hy⟩
theorem Ny{n:Nat}{rows:List R}{gl:List Int}(go:eC n rows gl):∀(p:Nat) (t:TL),dS n rows gl t->dS n rows gl (cL n rows p t).2.2.2:=by
 intro p;induction p using Nat.strongRecOn with
 | _ p c=>
 intro t h;cases a:aR n rows t.val 1 t.ax 0 with
 | none=>rw [jJ p a];exact h
 | some v=>
  cases p with
  | zero=>rw [oC a];exact h
  | succ p=>
   cases b:(bf n rows t v (nv (an t.ax v)).num.sign).2.2
   .rw [na p a b];exact h
   .rw [nf p a b];exact c p (Tn p) _ (h.step go a b).1
abbrev pL(n:Nat)(rows:List R)(gl:List Int)(t:TL):TL:={t with ax:=iL t gl 0 (List.replicate (n+rows.length) none)}
def lF(l:List Nm):T:=T.ae 2 (decide (l= [])) (dN (l.map bL))
def cA(l:List Nm):Bool:=l.all λx=>cT (nv x)
def oB:List T:= [ti 0,ti 0,ti 0,T.aT true,T.aT true,ti 10,ti 0]
def AL:List T:= [ti 4,ti 0,ti 0,T.aT true,T.aT true,ti 0,ti 0]
def eE(gl:List Int)(l:List Nm):Rat:=bg gl (l.map nv)
def oz(n:Nat)(rows:List R)(gl:List Int)(r:Option (List Nm)×Option (List Nm)×Bool×TL):List T:=
 match r with
 | (_,_,false,_)=>AL
 | (_,some l,true,_)=>if cA l=true then [ti 3,ti 0,ti 0,lF l,T.aT true,ti 0,ti 0] else oB
 | (some l,none,true,t)=>if(cT (eE gl (bM n rows t.val)) && cA (bM n rows t.val) && cA l)=true then
   [ti 1,ti (eE gl (bM n rows t.val)).num,ti ((eE gl (bM n rows t.val)).den:Int),lF (bM n rows t.val),lF l,ti 0,ti 0] else oB
 | (none,none,true,_)=> []
def iI(n:Nat)(rows:List R)(gl:List Int)(p:Nat):List T:=
 match ch n rows true p (dQ n rows) with
 | (_,false,_)=>AL
 | (some l,true,_)=>if cA l=true then [ti 2,ti 0,ti 0,T.aT true,lF l,ti 0,ti 0] else oB
 | (none,true,t)=>oz n rows gl (cL n rows p (pL n rows gl t))
theorem zq(e:Nm)(v:Vl)(h:nv v.2=0):nv (gf e v)=nv v.1:=by show nv v.1+nv v.2 * nv e=nv v.1;rw [h];grind
theorem Oz{n:Nat}(m:Nat){ai:Int}(i:ai=1\/ai= -1)(b:Nat){row:List Nm}{mc:Nat}(g:∀x∈row,QN mc x):∀y∈iw n m ai b row,QN (mc+2) y:=by
 have hs:QN 2 (iN (-ai)):=by rcases i with rfl | rfl <;> exact dP (by decide)
 have e:∀(xs:List Nm) (v:Nat) (a:List Nm),(∀x∈xs,QN mc x)->(∀y∈a,QN (mc+2) y)->∀y∈fG n (iN (-ai)) xs v a,QN (mc+2) y:=by
  intro xs;induction xs with
  | nil=>intro v a _ c;exact c
  | cons x xs f=>
   intro v a d c;rw [fG];split
   .exact f _ _ (λx h=>d x (Ru _ h)) c
   .refine f _ _ (λx h=>d x (Ru _ h)) (λy hy=> ?_);rcases RV hy with hy | hy
    .exact c y hy
    .subst hy;exact((d x Rs).mul hs).neg
 refine e row 0 _ g (λy hy=> ?_);rcases RV hy with hy | hy
 .rw [Te hy];exact hY _
 .subst hy;exact hs.mono (by omega)
theorem FH{n:Nat}{rows:List R}(ro:fv n rows):∀(p:Nat) (t:TL),bC n rows t->∀l,(ch n rows true p t).1=some l->l.length=rows.length/\∀y∈l,QN 272 y:=by
 intro p;induction p using Nat.strongRecOn with
 | _ p g=>
 intro t h l a;rcases lZ h with⟨_,hb⟩ | ⟨i,hi,e,d,hb,f⟩
 .rw [mf true _ hb] at a;cases a
 .cases p with
  | zero=>rw [pJ true hb] at a;cases a
  | succ p=>
   rw [og true p hb f] at a;cases b:aR n rows t.val (bu n rows t (t.st.af i)) (au t.aj i) 0 with
   | none=>rw [b] at a;obtain rfl:=R1 a;refine⟨?_,Oz rows.length (uJ n rows t _) _ (h.aj ro _ (Rt (iF (by rw [h.aX.c];exact hi))))⟩;unfold iw;rw [BK];simp
   | some v=>rw [b] at a;obtain⟨k,m,_⟩:=iJ b;obtain⟨j,_⟩:=h.step true hi (v:=v) (by have:=h.aX.row hi;omega) e b d;exact g p (Tn p) _ j l a
theorem GB{n:Nat}{rows:List R}{gl:List Int}(go:eC n rows gl):∀(p:Nat) (t:TL),dS n rows gl t->
  (∀l,(cL n rows p t).1=some l->l.length=rows.length/\∀y∈l,QN 272 y)/\(∀l,(cL n rows p t).2.1=some l->l.length=n/\∀y∈l,QN 272 y):=by
 intro p;induction p using Nat.strongRecOn with
 | _ p q=>
 intro t h;cases b:aR n rows t.val 1 t.ax 0 with
 | none=>rw [jJ p b];refine⟨λl a=> ?_,(λl a=>by cases a)⟩;obtain rfl:=R1 a;have j:=h.len;exact⟨by simp;omega,λy hy=>(h.gq go y (Tm hy)).mono (by omega)⟩
 | some v=>
  cases p with
  | zero=>rw [oC b];exact⟨(λl a=>by cases a),(λl a=>by cases a)⟩
  | succ p=>
   cases d:(bf n rows t v (nv (an t.ax v)).num.sign).2.2
   .rw [na p b d];refine⟨(λl a=>by cases a),λl a=> ?_⟩;obtain rfl:=R1 a;obtain⟨_,g,e3,_,_⟩:=iJ b;rw [Sr] at e3;rw [RY,h.len] at g;have o:=rV e3;have f:QN 2 (iN (nv (an t.ax v)).num.sign):=by rcases o with e | e <;> rw [e] <;> exact dP (by decide)
    have base:∀y∈(List.range n).map (gG t v (nv (an t.ax v)).num.sign),QN 272 y:=by
     intro y hy;obtain⟨k,_,rfl⟩:=RU.1 hy;unfold gG;cases a:bV k t.mp with
     | none=>exact hY _
     | some i=>have hi:=h.tok.rA a;have m:=h.tok.aX.row hi;exact(h.tok.aj go.ro _ (Rt (iF (by rw [h.tok.aX.c];exact hi))) _ (Rt (fW (by omega)))).mul f
    unfold iU;split
    .refine⟨by simp,λy hy=> ?_⟩;rcases RV hy with hy | hy
     .exact base y hy
     .subst hy;exact f.mono (by omega)
    .exact⟨by simp,base⟩
   .rw [nf p b d];exact q p (Tn p) _ (h.step go b d).1
theorem Oe{n:Nat}{rows:List R}{t:TL}(ro:fv n rows)(h:bC n rows t)(k2:∀r∈rows,r.kd≠2):∀x∈bM n rows t.val,QN 300 x:=by
 intro x c;obtain⟨v,hv,rfl⟩:=RU.1 c;obtain⟨i,hi,e⟩:=SF (Tl hv);have d:=h.aX.v;have b:aH t.val i=v:=by unfold aH;rw [Rr,Rv hi];exact e
 have a:=h.val ro i (by omega);have hz:nv (aH t.val i).2=0:=z0 h k2 (by omega);rw [b] at a hz;show QB 300 (nv (gf _ v));rw [zq _ v hz];exact a.1
open Go Go.Aev Go.Aev.Gen Go.Aev.Wd Go.Aev.Tb
theorem AW(l:List Nm):lF l=T.ae 2 (decide (l= [])) (dN (l.map bL)):=rfl
theorem Bg{n:Nat}{rows:List R}:∀(p:Nat) (t:TL),(cL n rows p t).2.2.1=true->(cL n rows p t).1=none->(cL n rows p t).2.1=none->False:=by
 intro p;induction p with
 | zero=>
  intro t h1 a c;cases b:aR n rows t.val 1 t.ax 0 with
  | none=>rw [jJ 0 b] at a;cases a
  | some v=>rw [oC b] at h1;cases h1
 | succ p e=>
  intro t h1 a c;cases b:aR n rows t.val 1 t.ax 0 with
  | none=>rw [jJ _ b] at a;cases a
  | some v=>
   cases d:(bf n rows t v (nv (an t.ax v)).num.sign).2.2
   .rw [na p b d] at c;cases c
   .rw [nf p b d] at h1 a c;exact e _ h1 a c
section
variable {n:Nat} {rows:List R} {gl:List Int}
set_option maxRecDepth 20000 in
theorem Qe(a:Bool)(eg:Bool)(go:eC n rows gl)(p:Nat)(hp:p<=2000):
  aF ar ann Or (.call 6) [LR a rows,I (n:Int),ae eg gl,I (p:Int)] []=some (iI n rows gl p)\/(eF (n:Int) rows gl).1≠0\/¬Or (.call 11) [LR a rows,I (n:Int),ae eg gl] []=fl (eF (n:Int) rows gl):=by
 by_cases q:(eF (n:Int) rows gl).1=0
 .by_cases d:Or (.call 11) [LR a rows,I (n:Int),ae eg gl] []=fl (eF (n:Int) rows gl)
  .refine .inl ?_;have ro:=go.ro;have hn:=ro.sz.n;have hm:=ro.sz.m;have f:¬(p:Int) < 0:=by omega
   have g:¬(p:Int) > 2000:=by omega
   have e:=Qk a ro;have t:=Bj ro;have c:=Qn (n:=n) (rows:=rows) (oE a rows) ro rfl p (dQ n rows) (by omega) t;have A:=λl=>FH ro p (dQ n rows) t l;have u:=AF ro p t;have E:=AE ro p (dQ n rows) t;unfold iI;generalize ch n rows true p (dQ n rows)=r1 at c A u E⊢;obtain⟨no,done,S⟩:=r1;simp only at c A u E;rw [Hl] at e;rw [ei] at c;rw [z9];cases done with
   | false=>simp only [al,↓reduceIte,Int.reduceBEq,Int.reduceEq,GD,eI,d,q,f,g,decide_false,e,eH,dZ,RA,cU,c];cases no <;> (simp only [fD,al,↓reduceIte,Int.reduceBEq,Int.reduceEq,GD,eI,eH,dZ,RA];rfl)
   | true=>
    cases no with
    | some l=>
     have b:=yy false l (by have:=(A l rfl).1;omega) (A l rfl).2 (by omega);simp only;cases w:cA l
     .have o:(l.all λx=>cT (nv x))=false:=w;rw [o] at b;simp only [al,↓reduceIte,Int.reduceBEq,Int.reduceEq,GD,eI,fD,d,q,f,g,decide_false,e,eH,dZ,RA,cU,c,b,RJ,RH];rfl
     .have o:(l.all λx=>cT (nv x))=true:=w;rw [o] at b;simp only [al,↓reduceIte,Int.reduceBEq,Int.reduceEq,GD,eI,fD,d,q,f,g,decide_false,e,eH,dZ,RA,cU,c,b,RJ,RH];rfl
    | none=>
     have M:=As u go.k2 (E rfl rfl);have i:=Qt (n:=n) (rows:=rows) (gl:=gl) (oE a rows) go eg p S (by omega) u M;have T:=xh u M go.gl;have B:=GB go p _ T;have s:=Ny go p _ T;have D:=Bg (n:=n) (rows:=rows) p (pL n rows gl S);simp only;generalize cL n rows p (pL n rows gl S)=V at i B s D⊢;obtain⟨C,U,H,r⟩:=V;simp only at B s D;unfold rF at i;rw [pS] at i;cases H with
     | false=>cases C <;> cases U <;> (simp only [al,↓reduceIte,Int.reduceBEq,Int.reduceEq,GD,eI,fD,d,q,f,g,decide_false,e,eH,dZ,RA,cU,c,i,RJ,RH];rfl)
     | true=>
      cases U with
      | some l=>
       have G:=B.2 l rfl;have b:=yy false l (by omega) G.2 (by omega);cases w:cA l
       .have o:(l.all λx=>cT (nv x))=false:=w;rw [o] at b;cases C <;> (simp only [al,↓reduceIte,Int.reduceBEq,Int.reduceEq,GD,eI,fD,d,q,f,g,decide_false,e,eH,dZ,RA,cU,c,i,b,RJ,RH,oz,w];rfl)
       .have o:(l.all λx=>cT (nv x))=true:=w;rw [o] at b;cases C <;> (simp only [al,↓reduceIte,Int.reduceBEq,Int.reduceEq,GD,eI,fD,d,q,f,g,decide_false,e,eH,dZ,RA,cU,c,i,b,RJ,RH,oz,w];rfl)
      | none=>
       cases C with
       | none=>exact(D rfl rfl rfl).elim
       | some l=>
        have G:=B.1 l rfl;have b:=yy false l (by omega) G.2 (by omega);have N:=Oe ro s.tok go.k2;have hpl:(bM n rows r.val).length=n:=by have:=s.tok.aX.v;unfold bM;simp;omega
        have z:=QC (rows:=rows) ⟨(oE a rows).er,(oE a rows).eb,(oE a rows).ec,(oE a rows).ev,false⟩ r ro.sz s.tok.aX.v (s.tok.val ro) (by omega);obtain⟨y,J,W,X⟩:=Cm eg (decide (n=0)) gl (bM n rows r.val) go.gb (by have:=go.gl;omega) (by have:=go.gl;omega) N (by omega);have k:=Hp X (by omega);have j:=yy (decide (n=0)) (bM n rows r.val) (by omega) N (by omega);have hy:nv y=eE gl (bM n rows r.val):=W;have F:cT (nv y)=true->(bL y).1= (eE gl (bM n rows r.val)).num/\(bL y).2= ((eE gl (bM n rows r.val)).den:Int):=λh=>by unfold bL;rw [if_pos h,hy];exact⟨rfl,rfl⟩
        rw [hy] at F k;have P:((bM n rows r.val).all λx=>cT (nv x))=cA (bM n rows r.val):=rfl;have O:(l.all λx=>cT (nv x))=cA l:=rfl;rw [P] at j;rw [O] at b;simp only [oz];cases Q:cT (eE gl (bM n rows r.val)) with
        | false=>rw [Q] at k;simp only [al,↓reduceIte,Int.reduceBEq,Int.reduceEq,GD,eI,fD,d,q,f,g,decide_false,e,eH,dZ,RA,cU,c,i,z,J,k,j,b,RJ,RH];rfl
        | true=>
         rw [Q] at k;obtain⟨Y,Z⟩:=F Q;rw [Y,Z] at k;cases L:cA (bM n rows r.val) with
         | false=>rw [L] at j;simp only [al,↓reduceIte,Int.reduceBEq,Int.reduceEq,GD,eI,fD,d,q,f,g,decide_false,e,eH,dZ,RA,cU,c,i,z,J,k,j,b,RJ,RH];rfl
         | true=>
          rw [L] at j;cases K:cA l with
          | false=>rw [K] at b;simp only [al,↓reduceIte,Int.reduceBEq,Int.reduceEq,GD,eI,fD,d,q,f,g,decide_false,e,eH,dZ,RA,cU,c,i,z,J,k,j,b,RJ,RH];rfl
          | true=>rw [K] at b;simp only [al,↓reduceIte,Int.reduceBEq,Int.reduceEq,GD,eI,fD,d,q,f,g,decide_false,e,eH,dZ,RA,cU,c,i,z,J,k,j,b,RJ,RH];rfl
  .exact .inr (.inr d)
 .exact .inr (.inl q)
end
def Fj(e:Int×Int):List T:= [ti 0,ti 0,ti 0,T.aT true,T.aT true,ti e.1,ti e.2]
theorem FP{n:Int}{rows:List R}{gl:List Int}(b:∀r∈rows,r.e=true->r.of= [])(h:(eF n rows gl).1=0):((n.toNat:Nat):Int)=n/\eC n.toNat rows gl:=by obtain⟨_,d,c,a,ok,k2,f,hb⟩:=zK b h;exact⟨by omega,OT (by omega) a ok,k2,hb,by omega⟩
set_option maxRecDepth 20000 in
theorem Qd(rows:List R)(er eg:Bool)(n:Int)(gl:List Int)(p:Int)(f:∀r∈rows,r.e=true->r.of= []):Or (.call 6) [LR er rows,I n,ae eg gl,I p] []=
  some (if(eF n rows gl).1≠0 then Fj (eF n rows gl) else if p < 0\/p > 2000 then Fj (3, -1) else iI n.toNat rows gl p.toNat):=by
 have c:=Cl rows er eg n gl f;by_cases h:(eF n rows gl).1=0
 .rw [if_neg (by omega)];obtain⟨d,go⟩:=FP f h;by_cases b:p < 0\/p > 2000
  .rw [if_pos b];refine ao ?_;rw [z9];rcases b with b | b
   .simp only [al,↓reduceIte,Int.reduceBEq,Int.reduceEq,GD,c,h,b];rfl
   .have g:¬p < 0:=by omega
    simp only [al,↓reduceIte,Int.reduceBEq,Int.reduceEq,GD,c,h,b,g];rfl
  .rw [if_neg b];rcases Qe (n:=n.toNat) (rows:=rows) (gl:=gl) er eg go p.toNat (by omega) with a | a | a
   .rw [d,show((p.toNat:Nat):Int)=p by omega] at a;exact ao a
   .rw [d] at a;exact absurd h a
   .rw [d] at a;exact absurd c a
 .rw [if_pos h];refine ao ?_;rw [z9];simp only [al,↓reduceIte,Int.reduceBEq,Int.reduceEq,GD,c,h];rfl
end Go.Aev.Wd.Lg
