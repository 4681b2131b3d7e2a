import Derived.Test.YticjdhgokemdlaaGreatMostTwiceQ19
import Derived.Test.YticjdhgokemdlaaGreatMostTwiceQ6
set_option linter.all false
namespace Go.Aev.Wd.Lg
open Go Go.Aev Go.Aev.Gen Go.Aev.Wd Go.Aev.Tb Go.IntKind
def jy(n:Nat)(rows:List R)(val:List Vl)(v:Nat)(o:Nm):Nm:=
 if v < n then o else
 if 0 < nv (aJ val v).2 - nv (bR n rows v).2/\0 < nv (bR n rows v).1 - nv (aJ val v).1/\(nv (bR n rows v).1 - nv (aJ val v).1) / (nv (aJ val v).2 - nv (bR n rows v).2) < nv o
 then ov (mi (bR n rows v).1 (aJ val v).1) (mi (aJ val v).2 (bR n rows v).2) else o
def wB(n:Nat)(rows:List R)(val:List Vl):Nat->Nat->Nm->Nm
 | 0,_,o=>o
 | d+1,v,o=>wB n rows val d (v+1) (jy n rows val v o)
def yY(n:Nat)(rows:List R)(val:List Vl):Nm:=wB n rows val val.length 0 (iN 1)
theorem Tv{n:Nat}{rows:List R}(sz:Sz n rows){val:List Vl}{mv:Nat}{v:Nat}(hv:v < n+rows.length)(c:VB mv (aJ val v)){o:Nm}(b:QN (2 * mv+50) o)(hm:mv<=1000):QN (2 * mv+50) (jy n rows val v o):=by
 unfold jy;split
 .exact b
 .split
  .rename_i a;have d:=rA sz hv;have q1:QN (20+mv+1) (mi (bR n rows v).1 (aJ val v).1):=d.1.sub c.1;have f:QN (mv+20+1) (mi (aJ val v).2 (bR n rows v).2):=c.2.sub d.2;have e:nv (mi (aJ val v).2 (bR n rows v).2)≠0:=λh=>by
    have:nv (aJ val v).2 - nv (bR n rows v).2=0:=h;rw [this] at a;exact absurd a.1 (by grind)
   exact(mX q1 f (by omega) e).2.mono (by omega)
  .exact b
section
variable {n:Nat} {rows:List R} (sz:Sz n rows) (er eb ev eg:Bool) (af:List Nat) (val:List Vl) (aA:List Nm)
include sz
set_option maxRecDepth 10000 in
theorem UE{mv:Nat}(T:val.length=n+rows.length)(M:∀u,u < n+rows.length->VB mv (aJ val u))(hm:mv<=1000):
  ∀(d v:Nat) (o:Nm),d+v=n+rows.length->QN (2 * mv+50) o->
  Or xU [AV.t (TP n er rows eb af ev val eg aA),r0,AV.ref (Id.c 1) 0,I (val.length:Int),I (v:Int)] [iz none,iz o]=some (NL (wB n rows val d v o))/\QN (2 * mv+50) (wB n rows val d v o):=by
 have U:=sz.n;have S:=sz.m;intro d;induction d with
 | zero=>
  intro v o L w;have h1:¬(v:Int) < (val.length:Int):=by omega
  refine⟨al ?_,w⟩;rw [sG];simp only [ai,↓reduceIte,Int.reduceBEq,Int.reduceEq,GD,h1];rfl
 | succ d O=>
  intro v o L w;have hv:v < n+rows.length:=by omega
  have h1:(v:Int) < (val.length:Int):=by omega
  have q: 0<=(v:Int):=by omega
  have e:=tN sz er eb ev eg af val aA hv;have s:=nF (ou (val:=val) (i:=v) (by omega));have g:=M v hv;have A:=rA sz hv;have Q:=Tv sz hv g w hm;obtain⟨b,N⟩:=O (v+1) (jy n rows val v o) (by omega) Q;refine⟨al ?_,N⟩;show _=some (NL (wB n rows val d (v+1) (jy n rows val v o)));rw [cH] at e;simp only [Vf,Vg] at e;by_cases a:v < n
  .have hs:jy n rows val v o=o:=by unfold jy;rw [if_pos a]
   rw [hs] at b⊢;rw [decide_eq_true a] at e;rw [sG];simp only [ai,↓reduceIte,Int.reduceBEq,Int.reduceEq,GD,cm,h1,e,Vs,next v (by omega)];exact b
  .rw [decide_eq_false a] at e;have q1:QN (20+mv+1) (mi (bR n rows v).1 (aJ val v).1):=A.1.sub g.1;have P:QN (mv+20+1) (mi (aJ val v).2 (bR n rows v).2):=g.2.sub A.2;have z:=DA (x:=(bR n rows v).1) (y:=(aJ val v).1) A.1 g.1 (by omega);have k2:=DA (x:=(aJ val v).2) (y:=(bR n rows v).2) g.2 A.2 (by omega);have C:=lM (mi (aJ val v).2 (bR n rows v).2);have B:=lM (mi (bR n rows v).1 (aJ val v).1);have H:=vR (nv (mi (aJ val v).2 (bR n rows v).2));have G:=vR (nv (mi (bR n rows v).1 (aJ val v).1));by_cases l: 0 < nv (mi (aJ val v).2 (bR n rows v).2)
   .have f:=H.2 l;have J:nv (mi (aJ val v).2 (bR n rows v).2)≠0:=λh=>by rw [h] at l;exact absurd l (by grind)
    by_cases k: 0 < nv (mi (bR n rows v).1 (aJ val v).1)
    .have j:=G.2 k;obtain⟨F,K⟩:=mX q1 P (by omega) J;have E:=oh (x:=ov (mi (bR n rows v).1 (aJ val v).1) (mi (aJ val v).2 (bR n rows v).2)) (y:=o) K w (by omega);have D:=uL (nv (ov (mi (bR n rows v).1 (aJ val v).1) (mi (aJ val v).2 (bR n rows v).2))) (nv o);by_cases r:nv (ov (mi (bR n rows v).1 (aJ val v).1) (mi (aJ val v).2 (bR n rows v).2)) < nv o
     .have p:=D.2 r;have hs:jy n rows val v o=ov (mi (bR n rows v).1 (aJ val v).1) (mi (aJ val v).2 (bR n rows v).2):=by
       unfold jy;rw [if_neg a,if_pos ⟨l,k,r⟩]
      rw [hs] at b⊢;rw [sG];simp only [ai,↓reduceIte,Int.reduceBEq,Int.reduceEq,GD,cm,h1,q,and_self,e,Vv,cQ,s,z,k2,B,C,f,j,F,E,p,decide_true,next v (by omega)];exact b
     .have p:¬cq (nv (ov (mi (bR n rows v).1 (aJ val v).1) (mi (aJ val v).2 (bR n rows v).2))) (nv o) < 0:=λh=>r (D.1 h);have hs:jy n rows val v o=o:=by unfold jy;rw [if_neg a,if_neg (λh=>r h.2.2)]
      rw [hs] at b⊢;rw [sG];simp only [ai,↓reduceIte,Int.reduceBEq,Int.reduceEq,GD,cm,h1,q,and_self,e,Vv,cQ,s,z,k2,B,C,f,j,F,E,p,decide_true,decide_false,next v (by omega)];exact b
    .have j:¬(nv (mi (bR n rows v).1 (aJ val v).1)).num.sign > 0:=λh=>k (G.1 h);have hs:jy n rows val v o=o:=by unfold jy;rw [if_neg a,if_neg (λh=>k h.2.1)]
     rw [hs] at b⊢;rw [sG];simp only [bE,ai,↓reduceIte,Int.reduceBEq,Int.reduceEq,GD,cm,h1,q,and_self,e,Vv,cQ,s,z,k2,B,C,f,j,decide_true,decide_false,next v (by omega)];exact b
   .have f:¬(nv (mi (aJ val v).2 (bR n rows v).2)).num.sign > 0:=λh=>l (H.1 h);have hs:jy n rows val v o=o:=by unfold jy;rw [if_neg a,if_neg (λh=>l h.1)]
    rw [hs] at b⊢;rw [sG];simp only [bE,ai,↓reduceIte,Int.reduceBEq,Int.reduceEq,GD,cm,h1,q,and_self,e,Vv,cQ,s,z,k2,B,C,f,decide_true,decide_false,next v (by omega)];exact b
theorem UD{mv:Nat}(a:val.length=n+rows.length)(e:∀u,u < n+rows.length->VB mv (aJ val u))(hm:mv<=1000):
  Or (.call 88) [AV.t (TP n er rows eb af ev val eg aA)] []=some (NL (yY n rows val))/\QN (2 * mv+50) (yY n rows val):=by
 have b:=fT 1 (by omega);have q1:QN (2 * mv+50) (iN 1):=eF (by exact Zy);obtain⟨c,d⟩:=UE sz er eb ev eg af val aA a e hm (n+rows.length) 0 (iN 1) (by omega) q1;unfold yY;rw [a];refine⟨al ?_,d⟩;rw [Po];simp only [ai,↓reduceIte,Int.reduceBEq,Int.reduceEq,GD,b,cQ];exact c
end
def gK(e:Nm)(v:Vl):Nm:=pl v.1 (tm v.2 e)
def bU(n:Nat)(rows:List R)(val:List Vl):List Nm:=(val.take n).map (gK (yY n rows val))
abbrev SP(n:Nat)(rows:List R)(f:Fl)(t:TL):List ab:=
 [ab.box [I (n:Int),AV.t (T.aa 3 f.er (cU rows)),AV.own (Id.c 1),AV.own (Id.c 2),AV.own (Id.c 3),AV.own (Id.c 4),AV.t (T.aa 4 f.eg (aS t.aA))],ab.sl false 1 f.eb (cY t.af),ab.mp false [Ck.i .i64] (Ck.i .i64) (bZ t.mp),
  ab.rows f.ec 1 0 4 t.ak.length (bK 0 t.ak),ab.sl false 8 f.ev (dX t.val)]
theorem Uq{n:Nat}{rows:List R}(f:Fl)(t:TL){mv o:Nat}(D:n<=12)(C:t.val.length=n+rows.length)(z:∀u,u < n+rows.length->VB mv (aJ t.val u)){e:Nm}(h:QN o e)(hm:mv+ (mv+o)+1<=6300):
  ∀(d k:Nat),d+k=n->
  Or xR [AV.ref (Id.c 5) 0,AV.own (Id.c 6),AV.part (Id.c 4) 8 0 n,I (n:Int),I (k:Int)] (SP n rows f t++ [iz e,ab.sl false 4 (decide (k=0)) (aS ((t.val.take k).map (gK e)))])=
   some (T.aa 4 (decide (n=0)) (aS ((t.val.take n).map (gK e))):: [ti (n:Int),T.aa 3 f.er (cU rows),T.aw,T.aw,bO f.ec (bK 0 t.ak),T.aw,T.aa 4 f.eg (aS t.aA),T.aa 1 f.eb (cY t.af),bT (bZ t.mp),T.aa 8 f.ev (dX t.val)]):=by
 intro d;induction d with
 | zero=>
  intro k r;obtain rfl:k=n:=by omega
  have h1:¬(k:Int) < (k:Int):=by omega
  refine al ?_;simp only [Vf,Vg];rw [HJ];simp only [ai,↓reduceIte,Int.reduceBEq,Int.reduceEq,GD,h1,cI,cL]
 | succ d A=>
  intro k r;have h1:(k:Int) < (n:Int):=by omega
  have p: 0<=(k:Int):=by omega
  have a:=ou (val:=t.val) (i:=k) (by omega);have s:=nF a;have l: 0+ (k:Int).toNat= (k:Int).toNat:=by omega
  have g:=z k (by omega);have m:=mo (x:=(aJ t.val k).2) (y:=e) g.2 h (by omega);have b:=nU (x:=(aJ t.val k).1) (y:=tm (aJ t.val k).2 e) g.1 (g.2.mul h) (by omega);have v:((t.val.take k).map (gK e)).length=k:=by simp;omega
  have B:bu 48 (((t.val.take k).map (gK e)).length+ [[tb (decide ((nv (gK e (aJ t.val k))).num < 0)),T.str (bM (dz (nv (gK e (aJ t.val k))).num)),tb (nc (gK e (aJ t.val k))),T.str (nd (gK e (aJ t.val k)))]].length)=some ():=iL (by simp;omega);have q:aS ((t.val.take k).map (gK e))++ [[tb (decide ((nv (gK e (aJ t.val k))).num < 0)),T.str (bM (dz (nv (gK e (aJ t.val k))).num)),tb (nc (gK e (aJ t.val k))),T.str (nd (gK e (aJ t.val k)))]]=aS ((t.val.take (k+1)).map (gK e)):=by rw [XM,a,W2,<-Hp];rfl
  have w:pl (aJ t.val k).1 (tm (aJ t.val k).2 e)=gK e (aJ t.val k):=rfl;rw [w] at b;have:=A (k+1) (by omega);have j:decide (k+1=0)=false:=by simp
  rw [j] at this;simp only [Vf,Vg] at this;refine al ?_;simp only [Vf,Vg];rw [HJ];simp only [ai,↓reduceIte,Int.reduceBEq,Int.reduceEq,GD,h1,p,and_self,l,s,m,b,bJ,B,q,next k (by omega)];exact this
theorem Up{n:Nat}{rows:List R}(f:Fl)(t:TL){mv:Nat}(sz:Sz n rows)(b:t.val.length=n+rows.length)(c:∀u,u < n+rows.length->VB mv (aJ t.val u))(hm:mv<=1000):
  Or (.call 42) [r0] (SP n rows f t)=
   some (T.aa 4 (decide (n=0)) (aS (bU n rows t.val)):: [ti (n:Int),T.aa 3 f.er (cU rows),T.aw,T.aw,bO f.ec (bK 0 t.ak),T.aw,T.aa 4 f.eg (aS t.aA),T.aa 1 f.eb (cY t.af),bT (bZ t.mp),T.aa 8 f.ev (dX t.val)]):=by
 have h:=sz.n;obtain⟨e,g⟩:=UD sz f.er f.eb f.ev f.eg t.af t.val t.aA b c hm;have:=Uq (rows:=rows) f t h b c g (by omega) n 0 (by omega);simp only [Vf,Vg,X5,X9] at this;have a:bQ 0 (n:Int) (t.val.length:Int)=some ():=vo (by omega);have d:(n:Int).toNat - 0=n:=by omega
 refine al ?_;rw [OW];simp only [ai,↓reduceIte,Int.reduceBEq,Int.reduceEq,GD,e,cQ,a,d];exact this
open Go Go.Aev Go.Aev.Gen Go.Aev.Wd Go.Aev.Tb
theorem SB{n:Nat}{rows:List R}(hn:n<=12)(hm:rows.length<=40)(ok:∀r∈rows,jH n r):fy n rows where
 sz:=⟨hn,hm,λr hr=>(ok r hr).tv⟩
 of:=λr hr=>(ok r hr).of
 len:=λr hr=>(ok r hr).len
 kd:=λr hr=>(ok r hr).kd
theorem Dn{n:Nat}{rows:List R}{i:Nat}(hi:i < rows.length):(eG n rows).st.af i=n+i:=by show(iR n rows.length).getD i 0=n+i;unfold iR;rw [U9,VZ,YF hi];rfl
theorem RA{n:Nat}{rows:List R}(ro:fy n rows){i k:Nat}(hi:i < rows.length):(eG n rows).st.c i k=if k < n then(aI n rows).A i k else 0:=by
 show nv (aq (ay (rows.map (gH n rows.length)) i) k)=_;have h1:ay (rows.map (gH n rows.length)) i=gH n rows.length (aY rows i):=by unfold ay aY;rw [U9,U9,VZ,Vd hi];rfl
 rw [h1];have b:=ro.len _ (gN hi);unfold gH aq;rw [U9];show _=if k < n then(((aY rows i).of.getD k 0:Int):Rat) else 0;by_cases a:k < (aY rows i).of.length
 .rw [WJ (by simpa using a),VZ,Vd a,if_pos (by omega),U9,Vd a];rfl
 .have hz:nv (((List.map iN (aY rows i).of++List.replicate (n+rows.length - (aY rows i).of.length) none)[k]?).getD none)=0:=by
   rw [Wn (by simpa using a),Xc];split <;> rfl
  rw [hz];split
  .rw [U9,Wc (by omega)];rfl
  .rfl
theorem Dq(n:Nat)(rows:List R)(v:Nat):aJ (eG n rows).val v= (none,none):=by show aJ (List.replicate (n+rows.length) (none,none)) v=_;unfold aJ;rw [U9,Xc];split <;> rfl
theorem Dp{n:Nat}{rows:List R}(ro:fy n rows):bL n rows (eG n rows):=by
 have hz:eW n rows.length (aI n rows).A (λ_=>0):=λi _=>(mz (λk _=>Wz _)).symm;have hy:(eG n rows).st.y=λ_=>0:=by funext v;show nv (aJ (eG n rows).val v).1=0;rw [Dq];rfl
 have f:(eG n rows).st.z=λ_=>0:=by funext v;show nv (aJ (eG n rows).val v).2=0;rw [Dq];rfl
 refine⟨⟨by simp [eG,iR],by simp [eG],λx j=> ?_,by simp [eG],λb hb=> ?_, ?_⟩,⟨?_,by rw [hy];exact hz,by rw [f];exact hz,λv hv hb=> ?_⟩,λi b hb=> ?_,λv hv=> ?_, ?_⟩
 .obtain⟨r,g,rfl⟩:=VK.1 j;have:=ro.len r g;unfold gH;simp;omega
 .obtain⟨i,hi,rfl⟩:=VK.1 hb;have:=Xi.1 hi;omega
 .show(List.map (λi=>n+i) (List.range rows.length)).Nodup;refine XH.2 (λa b s hb o=> ?_);simp only [XR,XF];omega
 .refine WF.congr (λi hi=>(Dn hi).symm) (λi k hi _=>(RA ro hi).symm) (UW n rows.length (aI n rows).A)
 .have p:v < n+rows.length:=hv;have e:v < n:=by
   refine Nat.lt_of_not_le λh=>hb (v - n) (show v - n < rows.length by omega) ?_;rw [Dn (by omega)];omega
  have d:v < (aI n rows).n:=e;unfold Sy.fx;rw [if_pos d];show vv (aJ (eG n rows).val v)=_;rw [Dq];rfl
 .show cg b (iH n rows.length)=some i;have hi:i < rows.length:=by
   have:=(Vi.1 hb).1;simpa [eG,iR] using this
  have c:b=n+i:=by have:=jd (t:=eG n rows) (i:=i) (by simp [eG,iR];exact hi);rw [hb,Dn hi] at this;exact VR this
  rw [C4,c,if_pos (by omega)];congr 1;omega
 .show cg v (iH n rows.length)=none;rw [C4,if_neg];rintro⟨h1,q⟩;exact hv (VK.2 ⟨v - n,Xi.2 (by omega),by omega⟩)
 .show oH (iH n rows.length);generalize rows.length=m;induction m with
  | zero=>exact trivial
  | succ m l=>rw [<-Kl];exact C0 _ _ _ l
theorem PZ{n:Nat}{rows:List R}(ro:fy n rows):∀(p:Nat) (t:TL),bL n rows t->
  bL n rows (cA n rows true p t).2.2/\(cA n rows true p t).2.2.aA=t.aA\/(cA n rows true p t).1.isSome=true/\bL n rows (cA n rows true p t).2.2/\(cA n rows true p t).2.2.aA=t.aA:=by
 intro p;induction p using Nat.strongRecOn with
 | _ p e=>
 intro t h;rcases mN h with⟨_,hb⟩ | ⟨i,hi,b,a,hb,d⟩
 .rw [mR true _ hb];exact .inl ⟨h,rfl⟩
 .cases p with
  | zero=>rw [qI true hb];exact .inl ⟨h,rfl⟩
  | succ p=>
   rw [o6 true p hb d];cases c:aV n rows t.val (bB n rows t (t.st.af i)) (ay t.ak i) 0 with
   | none=>exact .inl ⟨h,rfl⟩
   | some v=>obtain⟨g,e2,_⟩:=jo c;obtain⟨f,_⟩:=h.step true hi (v:=v) (by have:=h.be.row hi;omega) b c a;exact e p (Xf p) _ f
theorem CF{n:Nat}{rows:List R}(ro:fy n rows)(p:Nat){t:TL}(h:bL n rows t):bL n rows (cA n rows true p t).2.2:=by
 rcases PZ ro p t h with h | h
 .exact h.1
 .exact h.2.1
theorem CE{n:Nat}{rows:List R}(ro:fy n rows):∀(p:Nat) (t:TL),bL n rows t->(cA n rows true p t).1=none->(cA n rows true p t).2.1=true->
  ∀j,j < rows.length->¬(aI n rows).fV (cA n rows true p t).2.2.st ((cA n rows true p t).2.2.st.af j):=by
 intro p;induction p using Nat.strongRecOn with
 | _ p g=>
 intro t h h1 a;rcases mN h with⟨e,hb⟩ | ⟨i,hi,d,c,hb,f⟩
 .rw [mR true _ hb];exact e
 .cases p with
  | zero=>rw [qI true hb] at a;cases a
  | succ p=>
   rw [o6 true p hb f] at h1 a⊢;cases b:aV n rows t.val (bB n rows t (t.st.af i)) (ay t.ak i) 0 with
   | none=>rw [b] at h1;cases h1
   | some v=>rw [b] at h1 a;obtain⟨l,e2,_⟩:=jo b;obtain⟨k,_⟩:=h.step true hi (v:=v) (by have:=h.be.row hi;omega) d b c;exact g p (Xf p) _ k h1 a
theorem Cw{n:Nat}{rows:List R}{t:TL}(h:bL n rows t)(k2:∀r∈rows,r.kd≠2)(o:∀j,j < rows.length->¬(aI n rows).fV t.st (t.st.af j)):(aI n rows).oD t.st:=by
 intro v b d;have s:n<=v:=b;have l:v < n+rows.length:=d;have hz:=z0 h k2 l;have q:=k2 _ (gN (rows:=rows) (i:=v - n) (by omega));have c:(aI n rows).up v= ((aI n rows).to (v - n),0):=Yj rfl (if_neg q);show t.st.y v<=(aI n rows).to (v - n)/\((aI n rows).kd (v - n)=3->t.st.y v= (aI n rows).to (v - n));by_cases hb:∃j,j < rows.length/\t.st.af j=v
 .obtain⟨j,k,e⟩:=hb;have a:=o j k;rw [e] at a;unfold Sy.fV at a;rw [c] at a;unfold dc bx.val at a;rw [hz] at a;have u:¬(aI n rows).to (v - n) < t.st.y v:=λf=>a ⟨b, .inl (.inl f)⟩;refine⟨by grind,λm=> ?_⟩;have w:¬t.st.y v < (aI n rows).to (v - n):=λf=>a ⟨b, .inr ⟨m, .inl f⟩⟩;grind
 .have g:=h.ok.fix v d (λj k e=>hb ⟨j,k,e⟩);unfold Sy.fx at g;have p:¬v < (aI n rows).n:=XC.2 b;rw [if_neg p,c] at g;have hy:t.st.y v= (aI n rows).to (v - n):=congrArg Prod.fst g;exact⟨by rw [hy];exact WQ,λ_=>hy⟩
theorem Ra{n:Nat}{rows:List R}{gl:List Int}(go:ez n rows gl):∀(p:Nat) (t:TL),eA n rows gl t->eA n rows gl (cS n rows p t).2.2.2:=by
 intro p;induction p using Nat.strongRecOn with
 | _ p c=>
 intro t h;cases a:aV n rows t.val 1 t.aA 0 with
 | none=>rw [kB p a];exact h
 | some v=>
  cases p with
  | zero=>rw [pg a];exact h
  | succ p=>
   cases b:(bm n rows t v (nv (aq t.aA v)).num.sign).2.2
   .rw [nQ p a b];exact h
   .rw [nR p a b];exact c p (Xf p) _ (h.step go a b).1
abbrev qK(n:Nat)(rows:List R)(gl:List Int)(t:TL):TL:={t with aA:=jr t gl 0 (List.replicate (n+rows.length) none)}
def lF(l:List Nm):T:=T.aa 2 (decide (l= [])) (gX (l.map cK))
def cG(l:List Nm):Bool:=l.all λx=>cZ (nv x)
def pf:List T:= [ti 0,ti 0,ti 0,T.aK true,T.aK true,ti 10,ti 0]
def CQ:List T:= [ti 4,ti 0,ti 0,T.aK true,T.aK true,ti 0,ti 0]
def eY(gl:List Int)(l:List Nm):Rat:=bh gl (l.map nv)
def pd(n:Nat)(rows:List R)(gl:List Int)(r:Option (List Nm)×Option (List Nm)×Bool×TL):List T:=
 match r with
 | (_,_,false,_)=>CQ
 | (_,some l,true,_)=>if cG l=true then [ti 3,ti 0,ti 0,lF l,T.aK true,ti 0,ti 0] else pf
 | (some l,none,true,t)=>if(cZ (eY gl (bU n rows t.val)) && cG (bU n rows t.val) && cG l)=true then
   [ti 1,ti (eY gl (bU n rows t.val)).num,ti ((eY gl (bU n rows t.val)).den:Int),lF (bU n rows t.val),lF l,ti 0,ti 0] else pf
 | (none,none,true,_)=> []
def iB(n:Nat)(rows:List R)(gl:List Int)(p:Nat):List T:=
 match cA n rows true p (eG n rows) with
 | (_,false,_)=>CQ
 | (some l,true,_)=>if cG l=true then [ti 2,ti 0,ti 0,T.aK true,lF l,ti 0,ti 0] else pf
 | (none,true,t)=>pd n rows gl (cS n rows p (qK n rows gl t))
theorem Bw(e:Nm)(v:Vl)(h:nv v.2=0):nv (gK e v)=nv v.1:=by show nv v.1+nv v.2 * nv e=nv v.1;rw [h];grind
theorem Sf{n:Nat}(m:Nat){aj:Int}(i:aj=1\/aj= -1)(b:Nat){row:List Nm}{mc:Nat}(g:∀x∈row,QN mc x):∀y∈iY n m aj b row,QN (mc+2) y:=by
 have hs:QN 2 (iN (-aj)):=by rcases i with rfl | rfl <;> exact eF (by decide)
 have e:∀(xs:List Nm) (v:Nat) (a:List Nm),(∀x∈xs,QN mc x)->(∀y∈a,QN (mc+2) y)->∀y∈gm n (iN (-aj)) xs v a,QN (mc+2) y:=by
  intro xs;induction xs with
  | nil=>intro v a _ c;exact c
  | cons x xs f=>
   intro v a d c;rw [gm];split
   .exact f _ _ (λx h=>d x (Vc _ h)) c
   .refine f _ _ (λx h=>d x (Vc _ h)) (λy hy=> ?_);rcases VM hy with hy | hy
    .exact c y hy
    .subst hy;exact((d x Vb).mul hs).neg
 refine e row 0 _ g (λy hy=> ?_);rcases VM hy with hy | hy
 .rw [WD hy];exact iM _
 .subst hy;exact hs.mono (by omega)
theorem Io{n:Nat}{rows:List R}(ro:fy n rows):∀(p:Nat) (t:TL),bL n rows t->∀l,(cA n rows true p t).1=some l->l.length=rows.length/\∀y∈l,QN 272 y:=by
 intro p;induction p using Nat.strongRecOn with
 | _ p g=>
 intro t h l a;rcases mN h with⟨_,hb⟩ | ⟨i,hi,e,d,hb,f⟩
 .rw [mR true _ hb] at a;cases a
 .cases p with
  | zero=>rw [qI true hb] at a;cases a
  | succ p=>
   rw [o6 true p hb f] at a;cases b:aV n rows t.val (bB n rows t (t.st.af i)) (ay t.ak i) 0 with
   | none=>rw [b] at a;obtain rfl:=VR a;refine⟨?_,Sf rows.length (wO n rows t _) _ (h.ak ro _ (Va (jh (by rw [h.be.c];exact hi))))⟩;unfold iY;rw [DW];simp
   | some v=>rw [b] at a;obtain⟨k,e2,_⟩:=jo b;obtain⟨j,_⟩:=h.step true hi (v:=v) (by have:=h.be.row hi;omega) e b d;exact g p (Xf p) _ j l a
theorem Jf{n:Nat}{rows:List R}{gl:List Int}(go:ez n rows gl):∀(p:Nat) (t:TL),eA n rows gl t->
  (∀l,(cS n rows p t).1=some l->l.length=rows.length/\∀y∈l,QN 272 y)/\(∀l,(cS n rows p t).2.1=some l->l.length=n/\∀y∈l,QN 272 y):=by
 intro p;induction p using Nat.strongRecOn with
 | _ p o=>
 intro t h;cases b:aV n rows t.val 1 t.aA 0 with
 | none=>rw [kB p b];refine⟨λl a=> ?_,(λl a=>by cases a)⟩;obtain rfl:=VR a;have g:=h.len;exact⟨by simp;omega,λy hy=>(h.gq go y (W1 hy)).mono (by omega)⟩
 | some v=>
  cases p with
  | zero=>rw [pg b];exact⟨(λl a=>by cases a),(λl a=>by cases a)⟩
  | succ p=>
   cases d:(bm n rows t v (nv (aq t.aA v)).num.sign).2.2
   .rw [nQ p b d];refine⟨(λl a=>by cases a),λl a=> ?_⟩;obtain rfl:=VR a;obtain⟨_,e2,e3,_,_⟩:=jo b;rw [Wq] at e3;rw [VP,h.len] at e2;have m:=tB e3;have f:QN 2 (iN (nv (aq t.aA v)).num.sign):=by rcases m with e | e <;> rw [e] <;> exact eF (by decide)
    have base:∀y∈(List.range n).map (hJ t v (nv (aq t.aA v)).num.sign),QN 272 y:=by
     intro y hy;obtain⟨k,_,rfl⟩:=VK.1 hy;unfold hJ;cases a:cg k t.mp with
     | none=>exact iM _
     | some i=>have hi:=h.tok.sT a;have j:=h.tok.be.row hi;exact(h.tok.ak go.ro _ (Va (jh (by rw [h.tok.be.c];exact hi))) _ (Va (gF (by omega)))).mul f
    unfold jx;split
    .refine⟨by simp,λy hy=> ?_⟩;rcases VM hy with hy | hy
     .exact base y hy
     .subst hy;exact f.mono (by omega)
    .exact⟨by simp,base⟩
   .rw [nR p b d];exact o p (Xf p) _ (h.step go b d).1
theorem RW{n:Nat}{rows:List R}{t:TL}(ro:fy n rows)(h:bL n rows t)(k2:∀r∈rows,r.kd≠2):∀x∈bU n rows t.val,QN 300 x:=by
 intro x c;obtain⟨v,hv,rfl⟩:=VK.1 c;obtain⟨i,hi,e⟩:=WB (Xe hv);have d:=h.be.v;have b:aJ t.val i=v:=by unfold aJ;rw [U9,Vd hi];exact e
 have a:=h.val ro i (by omega);have hz:nv (aJ t.val i).2=0:=z0 h k2 (by omega);rw [b] at a hz;show QB 300 (nv (gK _ v));rw [Bw _ v hz];exact a.1
open Go Go.Aev Go.Aev.Gen Go.Aev.Wd Go.Aev.Tb
theorem Dl{n:Nat}{rows:List R}:∀(p:Nat) (t:TL),(cS n rows p t).2.2.1=true->(cS n rows p t).1=none->(cS n rows p t).2.1=none->False:=by
 intro p;induction p with
 | zero=>
  intro t h1 a c;cases b:aV n rows t.val 1 t.aA 0 with
  | none=>rw [kB 0 b] at a;cases a
  | some v=>rw [pg b] at h1;cases h1
 | succ p e=>
  intro t h1 a c;cases b:aV n rows t.val 1 t.aA 0 with
  | none=>rw [kB _ b] at a;cases a
  | some v=>
   cases d:(bm n rows t v (nv (aq t.aA v)).num.sign).2.2
   .rw [nQ p b d] at c;cases c
   .rw [nR p b d] at h1 a c;exact e _ h1 a c
section
variable {n:Nat} {rows:List R} {gl:List Int}
set_option maxRecDepth 20000 in
theorem T2(a:Bool)(eg:Bool)(go:ez n rows gl)(p:Nat)(hp:p<=2000):
  az ao ann Or (.call 13) [LR a rows,I (n:Int),aa eg gl,I (p:Int)] []=some (iB n rows gl p)\/(dQ (n:Int) rows gl).1≠0\/¬Or (.call 24) [LR a rows,I (n:Int),aa eg gl] []=fl (dQ (n:Int) rows gl):=by
 by_cases q:(dQ (n:Int) rows gl).1=0
 .by_cases d:Or (.call 24) [LR a rows,I (n:Int),aa eg gl] []=fl (dQ (n:Int) rows gl)
  .refine .inl ?_;have ro:=go.ro;have hn:=ro.sz.n;have hm:=ro.sz.m;have f:¬(p:Int) < 0:=by omega
   have g:¬(p:Int) > 2000:=by omega
   have e:=T8 a ro;have t:=Dp ro;have c:=Ub (n:=n) (rows:=rows) (pj a rows) ro rfl p (eG n rows) (by omega) t;have A:=λl=>Io ro p (eG n rows) t l;have u:=CF ro p t;have E:=CE ro p (eG n rows) t;unfold iB;generalize cA n rows true p (eG n rows)=r1 at c A u E⊢;obtain⟨no,done,S⟩:=r1;simp only at c A u E;rw [J1] at e;rw [eO] at c;rw [Cf];cases done with
   | false=>simp only [ai,↓reduceIte,Int.reduceBEq,Int.reduceEq,GD,fa,d,q,f,g,decide_false,e,e9,eM,Vj,dh,c];cases no <;> (simp only [gg,ai,↓reduceIte,Int.reduceBEq,Int.reduceEq,GD,fa,e9,eM,Vj];rfl)
   | true=>
    cases no with
    | some l=>
     have b:=At false l (by have:=(A l rfl).1;omega) (A l rfl).2 (by omega);simp only;cases w:cG l
     .have o:(l.all λx=>cZ (nv x))=false:=w;rw [o] at b;simp only [ai,↓reduceIte,Int.reduceBEq,Int.reduceEq,GD,fa,gg,d,q,f,g,decide_false,e,e9,eM,Vj,dh,c,b,Vv,Vs];rfl
     .have o:(l.all λx=>cZ (nv x))=true:=w;rw [o] at b;simp only [ai,↓reduceIte,Int.reduceBEq,Int.reduceEq,GD,fa,gg,d,q,f,g,decide_false,e,e9,eM,Vj,dh,c,b,Vv,Vs];rfl
    | none=>
     have M:=Cw u go.k2 (E rfl rfl);have i:=Uh (n:=n) (rows:=rows) (gl:=gl) (pj a rows) go eg p S (by omega) u M;have T:=zl u M go.gl;have B:=Jf go p _ T;have s:=Ra go p _ T;have D:=Dl (n:=n) (rows:=rows) p (qK n rows gl S);simp only;generalize cS n rows p (qK n rows gl S)=V at i B s D⊢;obtain⟨C,U,H,r⟩:=V;simp only at B s D;unfold sY at i;rw [qV] at i;cases H with
     | false=>cases C <;> cases U <;> (simp only [ai,↓reduceIte,Int.reduceBEq,Int.reduceEq,GD,fa,gg,d,q,f,g,decide_false,e,e9,eM,Vj,dh,c,i,Vv,Vs];rfl)
     | true=>
      cases U with
      | some l=>
       have G:=B.2 l rfl;have b:=At false l (by omega) G.2 (by omega);cases w:cG l
       .have o:(l.all λx=>cZ (nv x))=false:=w;rw [o] at b;cases C <;> (simp only [ai,↓reduceIte,Int.reduceBEq,Int.reduceEq,GD,fa,gg,d,q,f,g,decide_false,e,e9,eM,Vj,dh,c,i,b,Vv,Vs,pd,w];rfl)
       .have o:(l.all λx=>cZ (nv x))=true:=w;rw [o] at b;cases C <;> (simp only [ai,↓reduceIte,Int.reduceBEq,Int.reduceEq,GD,fa,gg,d,q,f,g,decide_false,e,e9,eM,Vj,dh,c,i,b,Vv,Vs,pd,w];rfl)
      | none=>
       cases C with
       | none=>exact(D rfl rfl rfl).elim
       | some l=>
        have G:=B.1 l rfl;have b:=At false l (by omega) G.2 (by omega);have N:=RW ro s.tok go.k2;have hpl:(bU n rows r.val).length=n:=by have:=s.tok.be.v;unfold bU;simp;omega
        have z:=Up (rows:=rows) ⟨(pj a rows).er,(pj a rows).eb,(pj a rows).ec,(pj a rows).ev,false⟩ r ro.sz s.tok.be.v (s.tok.val ro) (by omega);obtain⟨y,J,W,X⟩:=EE eg (decide (n=0)) gl (bU n rows r.val) go.gb (by have:=go.gl;omega) (by have:=go.gl;omega) N (by omega);have k:=J3 X (by omega);have j:=At (decide (n=0)) (bU n rows r.val) (by omega) N (by omega);have hy:nv y=eY gl (bU n rows r.val):=W;have F:cZ (nv y)=true->(cK y).1= (eY gl (bU n rows r.val)).num/\(cK y).2= ((eY gl (bU n rows r.val)).den:Int):=λh=>by unfold cK;rw [if_pos h,hy];exact⟨rfl,rfl⟩
        rw [hy] at F k;have P:((bU n rows r.val).all λx=>cZ (nv x))=cG (bU n rows r.val):=rfl;have O:(l.all λx=>cZ (nv x))=cG l:=rfl;rw [P] at j;rw [O] at b;simp only [pd];cases Q:cZ (eY gl (bU n rows r.val)) with
        | false=>rw [Q] at k;simp only [ai,↓reduceIte,Int.reduceBEq,Int.reduceEq,GD,fa,gg,d,q,f,g,decide_false,e,e9,eM,Vj,dh,c,i,z,J,k,j,b,Vv,Vs];rfl
        | true=>
         rw [Q] at k;obtain⟨Y,Z⟩:=F Q;rw [Y,Z] at k;cases L:cG (bU n rows r.val) with
         | false=>rw [L] at j;simp only [ai,↓reduceIte,Int.reduceBEq,Int.reduceEq,GD,fa,gg,d,q,f,g,decide_false,e,e9,eM,Vj,dh,c,i,z,J,k,j,b,Vv,Vs];rfl
         | true=>
          rw [L] at j;cases K:cG l with
          | false=>rw [K] at b;simp only [ai,↓reduceIte,Int.reduceBEq,Int.reduceEq,GD,fa,gg,d,q,f,g,decide_false,e,e9,eM,Vj,dh,c,i,z,J,k,j,b,Vv,Vs];rfl
          | true=>rw [K] at b;simp only [ai,↓reduceIte,Int.reduceBEq,Int.reduceEq,GD,fa,gg,d,q,f,g,decide_false,e,e9,eM,Vj,dh,c,i,z,J,k,j,b,Vv,Vs];rfl
  .exact .inr (.inr d)
 .exact .inr (.inl q)
end
def HY(e:Int×Int):List T:= [ti 0,ti 0,ti 0,T.aK true,T.aK true,ti e.1,ti e.2]
theorem vg{n:Int}{rows:List R}{gl:List Int}(b:∀r∈rows,r.e=true->r.of= [])(h:(dQ n rows gl).1=0):((n.toNat:Nat):Int)=n/\ez n.toNat rows gl:=by obtain⟨_,d,c,a,ok,k2,f,hb⟩:=BO b h;exact⟨by omega,SB (by omega) a ok,k2,hb,by omega⟩
set_option maxRecDepth 20000 in
theorem Ar(rows:List R)(er eg:Bool)(n:Int)(gl:List Int)(p:Int)(f:∀r∈rows,r.e=true->r.of= []):Or (.call 13) [LR er rows,I n,aa eg gl,I p] []=
  some (if(dQ n rows gl).1≠0 then HY (dQ n rows gl) else if p < 0\/p > 2000 then HY (3, -1) else iB n.toNat rows gl p.toNat):=by
 have c:=ED rows er eg n gl f;by_cases h:(dQ n rows gl).1=0
 .rw [if_neg (by omega)];obtain⟨d,go⟩:=vg f h;by_cases b:p < 0\/p > 2000
  .rw [if_pos b];refine al ?_;rw [Cf];rcases b with b | b
   .simp only [ai,↓reduceIte,Int.reduceBEq,Int.reduceEq,GD,c,h,b];rfl
   .have g:¬p < 0:=by omega
    simp only [ai,↓reduceIte,Int.reduceBEq,Int.reduceEq,GD,c,h,b,g];rfl
  .rw [if_neg b];rcases T2 (n:=n.toNat) (rows:=rows) (gl:=gl) er eg go p.toNat (by omega) with a | a | a
   .rw [d,show((p.toNat:Nat):Int)=p by omega] at a;exact al a
   .rw [d] at a;exact absurd h a
   .rw [d] at a;exact absurd c a
 .rw [if_pos h];refine al ?_;rw [Cf];simp only [ai,↓reduceIte,Int.reduceBEq,Int.reduceEq,GD,c,h];rfl
open Go Go.Aev Go.Aev.Gen
noncomputable abbrev p9:Key:=aT ao 5 true 8 [(0,none),(1,none),(2,none),(7,none),(10,none),(11,none)] (0,0)
noncomputable abbrev uo:Key:=aT ao 19 true 4 [(0,none),(4,none),(11,none)] (0,0)
noncomputable abbrev xL:Key:=aT ao 19 true 7 [(0,none),(4,none),(11,none),(12,none)] (0,0)
theorem OX(O:au)(er eg ro:Bool)(r g c:JL)(n d e:Int):az ao ann O (Key.call 5) [Jl 3 er r,I n,Jl 1 eg g,AV.agg [Jl 1 ro c,I d,I e]] []=
 (G3 (O (.call 7) [] []) λb=>bif !b then some [Jb false] else G3 (O (.call 19) [Jl 3 er r,I n,I 3,I 7,I 9] []) λb=>G5 (some !!b) (bG (some !!b) (O (.call 19) [AV.t (T.aa 3 false [[T.aa 1 eg g,Ji 0,Ji 0]]),I n,I 3,I 1,I 4] [])) λa=>G5 (some !bif !b then true else !a) (bG (some !bif !b then true else !a) (O (.call 19) [AV.t (T.aa 3 false [[T.aa 1 ro c,Ji d,Ji e]]),I n,I 3,I 1,I 9] [])) λf=>bif bif bif bif !b then true else !a then true else !f then true else d==2 then some [Jb true] else O p9 [Jl 3 er r,I n,Jl 1 eg g,Jr 0,AV.t (T.aK true),I 0] [ab.box [Jl 1 ro c,I d,I e]]):=by kernel_rfl
theorem Cg(O:au)(a:Bool)(b:JL)(c d e f:Int):az ao ann O (Key.call 19) [Jl 3 a b,I c,I d,I e,I f] []=
 (bif bif decide (c > d) then true else decide ((b.length:Int) > e) then some [Jb false] else O uo [Jl 3 a b,I f,I 0] []):=by kernel_rfl
theorem HL(O:au)(h i g b:Bool)(f k c:JL)(m j d e:Int):az ao ann O p9 [Jl 3 h f,I m,Jl 1 i k,Jr 0,AV.t (T.aK g),I j] [ab.box [Jl 1 b c,I d,I e]]=
 (bif decide (j < (k.length:Int)) then G2 j k λn=>O p9 [Jl 3 h f,I m,Jl 1 i k,Jr 0,Jo 1,I (Jw j)] [ab.box [Jl 1 b c,I d,I e],ab.sl false 1 (g && false) [[Ji (i64.wrap (2 * n))]]] else kN (O (.call 13) [Jl 3 h f,I m,Jl 1 i k,I 2000] []) λl n o q=>fG (List.drop 2 l.tail).head? λp=>fG (List.drop 2 l.tail).tail.head? λp=>dO (List.drop 2 l.tail).tail.tail.head? λr=>dO (List.drop 2 l.tail).tail.tail.tail.head? λG=>kN (O (.call 13) [Jl 3 h f,I m,AV.t (T.aa 1 g []),I 2000] []) λl s B C=>fG (List.drop 2 l.tail).head? λp=>fG (List.drop 2 l.tail).tail.head? λp=>dO (List.drop 2 l.tail).tail.tail.head? λu=>dO (List.drop 2 l.tail).tail.tail.tail.head? λH=>Jg (bu 40 f.length) λx=>Jg (bu 40 (f.length+ [[T.aa 1 b c,Ji d,Ji e]].length)) λx=>kN (O (.call 13) [AV.t (T.aa 3 (f.isEmpty && false) (f++ [[T.aa 1 b c,Ji d,Ji e]])),I m,Jl 1 i k,I 2000] []) λl a v w=>fG (List.drop 2 l.tail).head? λp=>fG (List.drop 2 l.tail).tail.head? λp=>dO (List.drop 2 l.tail).tail.tail.head? λy=>dO (List.drop 2 l.tail).tail.tail.tail.head? λF=>bif bif bif !r==0 then true else !u==0 then true else !y==0 then some [Jb (bif r==u then n==s else false)] else bif bif bif !n==s then true else bif n==2 then !a==2 else false then true else bif n==1 then a==3 else false then some [Jb false] else jE (some (n==1)) (bG (some (n==1)) (O (.call 18) [AV.agg [I B,I C]] [])) λx=>jE (some (n==1)) (bG (some (n==1)) (O (.call 18) [AV.agg [I (i64.wrap (2 * o)),I q]] [])) λD=>G8 (some (n==1)) (bG (some (n==1)) (O (.call 17) [AV.t x,AV.t D] [])) λz=>bif bif n==1 then !z==0 else false then some [Jb false] else jE (some !bif !n==1 then true else !a==1) (bG (some !bif !n==1 then true else !a==1) (O (.call 18) [AV.agg [I v,I w]] [])) λx=>jE (some !bif !n==1 then true else !a==1) (bG (some !bif !n==1 then true else !a==1) (O (.call 18) [AV.agg [I o,I q]] [])) λE=>G8 (some !bif !n==1 then true else !a==1) (bG (some !bif !n==1 then true else !a==1) (O (.call 17) [AV.t x,AV.t E] [])) λA=>some [Jb (bif bif !n==1 then true else !a==1 then true else decide (A<=0))]):=by kernel_rfl
theorem Hz(O:au)(b:Bool)(c:JL)(d a:Int):az ao ann O uo [Jl 3 b c,I d,I a] []=
 (bif decide (a < (c.length:Int)) then O xL [Jl 3 b c,I d,I a,I 0] [] else some [Jb true]):=by kernel_rfl
theorem HM(O:au)(g h b k:Bool)(f j c o:JL)(m i d e:Int):az ao ann O p9 [Jl 3 g f,I m,Jl 1 h j,Jr 0,Jo 1,I i] [ab.box [Jl 1 b c,I d,I e],ab.sl false 1 k o]=
 (bif decide (i < (j.length:Int)) then G2 i j λn=>Jg (bu 8 (o.length+ [[Ji (i64.wrap (2 * n))]].length)) λx=>O p9 [Jl 3 g f,I m,Jl 1 h j,Jr 0,Jo 1,I (Jw i)] [ab.box [Jl 1 b c,I d,I e],ab.sl false 1 (k && false) (o++ [[Ji (i64.wrap (2 * n))]])] else kN (O (.call 13) [Jl 3 g f,I m,Jl 1 h j,I 2000] []) λl n q r=>fG (List.drop 2 l.tail).head? λp=>fG (List.drop 2 l.tail).tail.head? λp=>dO (List.drop 2 l.tail).tail.tail.head? λs=>dO (List.drop 2 l.tail).tail.tail.tail.head? λH=>kN (O (.call 13) [Jl 3 g f,I m,Jl 1 k o,I 2000] []) λl u C D=>fG (List.drop 2 l.tail).head? λp=>fG (List.drop 2 l.tail).tail.head? λp=>dO (List.drop 2 l.tail).tail.tail.head? λv=>dO (List.drop 2 l.tail).tail.tail.tail.head? λJ=>Jg (bu 40 f.length) λx=>Jg (bu 40 (f.length+ [[T.aa 1 b c,Ji d,Ji e]].length)) λx=>kN (O (.call 13) [AV.t (T.aa 3 (f.isEmpty && false) (f++ [[T.aa 1 b c,Ji d,Ji e]])),I m,Jl 1 h j,I 2000] []) λl a w y=>fG (List.drop 2 l.tail).head? λp=>fG (List.drop 2 l.tail).tail.head? λp=>dO (List.drop 2 l.tail).tail.tail.head? λz=>dO (List.drop 2 l.tail).tail.tail.tail.head? λG=>bif bif bif !s==0 then true else !v==0 then true else !z==0 then some [Jb (bif s==v then n==u else false)] else bif bif bif !n==u then true else bif n==2 then !a==2 else false then true else bif n==1 then a==3 else false then some [Jb false] else jE (some (n==1)) (bG (some (n==1)) (O (.call 18) [AV.agg [I C,I D]] [])) λx=>jE (some (n==1)) (bG (some (n==1)) (O (.call 18) [AV.agg [I (i64.wrap (2 * q)),I r]] [])) λE=>G8 (some (n==1)) (bG (some (n==1)) (O (.call 17) [AV.t x,AV.t E] [])) λA=>bif bif n==1 then !A==0 else false then some [Jb false] else jE (some !bif !n==1 then true else !a==1) (bG (some !bif !n==1 then true else !a==1) (O (.call 18) [AV.agg [I w,I y]] [])) λx=>jE (some !bif !n==1 then true else !a==1) (bG (some !bif !n==1 then true else !a==1) (O (.call 18) [AV.agg [I q,I r]] [])) λF=>G8 (some !bif !n==1 then true else !a==1) (bG (some !bif !n==1 then true else !a==1) (O (.call 17) [AV.t x,AV.t F] [])) λB=>some [Jb (bif bif !n==1 then true else !a==1 then true else decide (B<=0))]):=by kernel_rfl
theorem HA(O:au)(e:Bool)(d:JL)(c b a:Int):az ao ann O xL [Jl 3 e d,I c,I b,I a] []=
 (w9 b d λp=>bif decide (a < (p.snd.length:Int)) then w9 b d λp=>Jg (if 0<=a/\a < (p.snd.length:Int) then some () else none) λx=>G9 p.snd[a.toNat]? λn=>A2 (some !decide (n > c)) b d λp=>ae (some !decide (n > c)) (if 0<=a/\a < (p.snd.length:Int) then some () else none) λx=>A3 (some !decide (n > c)) p.snd[a.toNat]? λf=>bif bif decide (n > c) then true else decide (f < i64.wrap (0 - c)) then some [Jb false] else O xL [Jl 3 e d,I c,I b,I (Jw a)] [] else AZ b d λn=>A4 (some !decide (n > c)) b d λf=>bif bif decide (n > c) then true else decide (f < i64.wrap (0 - c)) then some [Jb false] else O uo [Jl 3 e d,I c,I (Jw b)] []):=by kernel_rfl
end Go.Aev.Wd.Lg
