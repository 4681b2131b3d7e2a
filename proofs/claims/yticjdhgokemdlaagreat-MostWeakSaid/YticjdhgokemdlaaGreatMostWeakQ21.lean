import Derived.Test.YticjdhgokemdlaaGreatMostWeakQ19
import Derived.Test.YticjdhgokemdlaaGreatMostWeakQ6
set_option linter.all false
namespace Go.Aev.Wd.Lg
open Go Go.Aev Go.Aev.Gen Go.Aev.Wd Go.Aev.Tb Go.IntKind
def jv(n:Nat)(rows:List R)(val:List Vl)(v:Nat)(o:Nm):Nm:=
 if v < n then o else
 if 0 < nv (aI val v).2 - nv (bP n rows v).2/\0 < nv (bP n rows v).1 - nv (aI val v).1/\(nv (bP n rows v).1 - nv (aI val v).1) / (nv (aI val v).2 - nv (bP n rows v).2) < nv o
 then ov (mi (bP n rows v).1 (aI val v).1) (mi (aI val v).2 (bP n rows v).2) else o
def vO(n:Nat)(rows:List R)(val:List Vl):Nat->Nat->Nm->Nm
 | 0,_,o=>o
 | d+1,v,o=>vO n rows val d (v+1) (jv n rows val v o)
def yD(n:Nat)(rows:List R)(val:List Vl):Nm:=vO n rows val val.length 0 (iN 1)
theorem Sw{n:Nat}{rows:List R}(sz:Sz n rows){val:List Vl}{mv:Nat}{v:Nat}(hv:v < n+rows.length)(c:VB mv (aI val v)){o:Nm}(b:QN (2 * mv+50) o)(hm:mv<=1000):QN (2 * mv+50) (jv n rows val v o):=by
 unfold jv;split
 .exact b
 .split
  .rename_i a;have d:=qK sz hv;have q1:QN (20+mv+1) (mi (bP n rows v).1 (aI val v).1):=d.1.sub c.1;have f:QN (mv+20+1) (mi (aI val v).2 (bP n rows v).2):=c.2.sub d.2;have e:nv (mi (aI val v).2 (bP n rows v).2)≠0:=λh=>by
    have:nv (aI val v).2 - nv (bP n rows v).2=0:=h;rw [this] at a;exact absurd a.1 (by grind)
   exact(mO q1 f (by omega) e).2.mono (by omega)
  .exact b
section
variable {n:Nat} {rows:List R} (sz:Sz n rows) (er eb ev eg:Bool) (ah:List Nat) (val:List Vl) (aB:List Nm)
include sz
set_option maxRecDepth 10000 in
theorem TS{mv:Nat}(T:val.length=n+rows.length)(M:∀u,u < n+rows.length->VB mv (aI val u))(hm:mv<=1000):
  ∀(d v:Nat) (o:Nm),d+v=n+rows.length->QN (2 * mv+50) o->
  Or xz [AV.t (TP n er rows eb ah ev val eg aB),r0,AV.ref (Id.c 1) 0,I (val.length:Int),I (v:Int)] [ix none,ix o]=some (NL (vO n rows val d v o))/\QN (2 * mv+50) (vO n rows val d v o):=by
 have U:=sz.n;have S:=sz.m;intro d;induction d with
 | zero=>
  intro v o L w;have h1:¬(v:Int) < (val.length:Int):=by omega
  refine⟨ak ?_,w⟩;rw [rU];simp only [ai,↓reduceIte,Int.reduceBEq,Int.reduceEq,GD,h1];rfl
 | succ d O=>
  intro v o L w;have hv:v < n+rows.length:=by omega
  have h1:(v:Int) < (val.length:Int):=by omega
  have q: 0<=(v:Int):=by omega
  have e:=td sz er eb ev eg ah val aB hv;have s:=np (n8 (val:=val) (i:=v) (by omega));have g:=M v hv;have A:=qK sz hv;have Q:=Sw sz hv g w hm;obtain⟨b,N⟩:=O (v+1) (jv n rows val v o) (by omega) Q;refine⟨ak ?_,N⟩;show _=some (NL (vO n rows val d (v+1) (jv n rows val v o)));rw [cE] at e;simp only [Uo,Uq] at e;by_cases a:v < n
  .have hs:jv n rows val v o=o:=by unfold jv;rw [if_pos a]
   rw [hs] at b⊢;rw [decide_eq_true a] at e;rw [rU];simp only [ai,↓reduceIte,Int.reduceBEq,Int.reduceEq,GD,cf,h1,e,Uz,next v (by omega)];exact b
  .rw [decide_eq_false a] at e;have q1:QN (20+mv+1) (mi (bP n rows v).1 (aI val v).1):=A.1.sub g.1;have P:QN (mv+20+1) (mi (aI val v).2 (bP n rows v).2):=g.2.sub A.2;have z:=C0 (x:=(bP n rows v).1) (y:=(aI val v).1) A.1 g.1 (by omega);have k2:=C0 (x:=(aI val v).2) (y:=(bP n rows v).2) g.2 A.2 (by omega);have C:=lH (mi (aI val v).2 (bP n rows v).2);have B:=lH (mi (bP n rows v).1 (aI val v).1);have H:=vo (nv (mi (aI val v).2 (bP n rows v).2));have G:=vo (nv (mi (bP n rows v).1 (aI val v).1));by_cases l: 0 < nv (mi (aI val v).2 (bP n rows v).2)
   .have f:=H.2 l;have J:nv (mi (aI val v).2 (bP n rows v).2)≠0:=λh=>by rw [h] at l;exact absurd l (by grind)
    by_cases k: 0 < nv (mi (bP n rows v).1 (aI val v).1)
    .have j:=G.2 k;obtain⟨F,K⟩:=mO q1 P (by omega) J;have E:=nY (x:=ov (mi (bP n rows v).1 (aI val v).1) (mi (aI val v).2 (bP n rows v).2)) (y:=o) K w (by omega);have D:=uk (nv (ov (mi (bP n rows v).1 (aI val v).1) (mi (aI val v).2 (bP n rows v).2))) (nv o);by_cases r:nv (ov (mi (bP n rows v).1 (aI val v).1) (mi (aI val v).2 (bP n rows v).2)) < nv o
     .have p:=D.2 r;have hs:jv n rows val v o=ov (mi (bP n rows v).1 (aI val v).1) (mi (aI val v).2 (bP n rows v).2):=by
       unfold jv;rw [if_neg a,if_pos ⟨l,k,r⟩]
      rw [hs] at b⊢;rw [rU];simp only [ai,↓reduceIte,Int.reduceBEq,Int.reduceEq,GD,cf,h1,q,and_self,e,UE,cN,s,z,k2,B,C,f,j,F,E,p,decide_true,next v (by omega)];exact b
     .have p:¬cq (nv (ov (mi (bP n rows v).1 (aI val v).1) (mi (aI val v).2 (bP n rows v).2))) (nv o) < 0:=λh=>r (D.1 h);have hs:jv n rows val v o=o:=by unfold jv;rw [if_neg a,if_neg (λh=>r h.2.2)]
      rw [hs] at b⊢;rw [rU];simp only [ai,↓reduceIte,Int.reduceBEq,Int.reduceEq,GD,cf,h1,q,and_self,e,UE,cN,s,z,k2,B,C,f,j,F,E,p,decide_true,decide_false,next v (by omega)];exact b
    .have j:¬(nv (mi (bP n rows v).1 (aI val v).1)).num.sign > 0:=λh=>k (G.1 h);have hs:jv n rows val v o=o:=by unfold jv;rw [if_neg a,if_neg (λh=>k h.2.1)]
     rw [hs] at b⊢;rw [rU];simp only [bT,ai,↓reduceIte,Int.reduceBEq,Int.reduceEq,GD,cf,h1,q,and_self,e,UE,cN,s,z,k2,B,C,f,j,decide_true,decide_false,next v (by omega)];exact b
   .have f:¬(nv (mi (aI val v).2 (bP n rows v).2)).num.sign > 0:=λh=>l (H.1 h);have hs:jv n rows val v o=o:=by unfold jv;rw [if_neg a,if_neg (λh=>l h.1)]
    rw [hs] at b⊢;rw [rU];simp only [bT,ai,↓reduceIte,Int.reduceBEq,Int.reduceEq,GD,cf,h1,q,and_self,e,UE,cN,s,z,k2,B,C,f,decide_true,decide_false,next v (by omega)];exact b
theorem TR{mv:Nat}(a:val.length=n+rows.length)(e:∀u,u < n+rows.length->VB mv (aI val u))(hm:mv<=1000):
  Or (.call 88) [AV.t (TP n er rows eb ah ev val eg aB)] []=some (NL (yD n rows val))/\QN (2 * mv+50) (yD n rows val):=by
 have b:=fK 1 (by omega);have q1:QN (2 * mv+50) (iN 1):=eu (by exact Yx);obtain⟨c,d⟩:=TS sz er eb ev eg ah val aB a e hm (n+rows.length) 0 (iN 1) (by omega) q1;unfold yD;rw [a];refine⟨ak ?_,d⟩;rw [Ow];simp only [ai,↓reduceIte,Int.reduceBEq,Int.reduceEq,GD,b,cN];exact c
end
def gX(e:Nm)(v:Vl):Nm:=pl v.1 (tm v.2 e)
def cI(n:Nat)(rows:List R)(val:List Vl):List Nm:=(val.take n).map (gX (yD n rows val))
abbrev SP(n:Nat)(rows:List R)(f:Fl)(t:TL):List ab:=
 [ab.box [I (n:Int),AV.t (T.aa 3 f.er (dC rows)),AV.own (Id.c 1),AV.own (Id.c 2),AV.own (Id.c 3),AV.own (Id.c 4),AV.t (T.aa 4 f.eg (aR t.aB))],ab.sl false 1 f.eb (cS t.ah),ab.mp false [Ck.i .i64] (Ck.i .i64) (bW t.mp),
  ab.rows f.ec 1 0 4 t.al.length (bI 0 t.al),ab.sl false 8 f.ev (dO t.val)]
theorem TC{n:Nat}{rows:List R}(f:Fl)(t:TL){mv o:Nat}(D:n<=12)(C:t.val.length=n+rows.length)(z:∀u,u < n+rows.length->VB mv (aI t.val u)){e:Nm}(h:QN o e)(hm:mv+ (mv+o)+1<=6300):
  ∀(d k:Nat),d+k=n->
  Or xv [AV.ref (Id.c 5) 0,AV.own (Id.c 6),AV.part (Id.c 4) 8 0 n,I (n:Int),I (k:Int)] (SP n rows f t++ [ix e,ab.sl false 4 (decide (k=0)) (aR ((t.val.take k).map (gX e)))])=
   some (T.aa 4 (decide (n=0)) (aR ((t.val.take n).map (gX e))):: [ti (n:Int),T.aa 3 f.er (dC rows),T.aw,T.aw,bK f.ec (bI 0 t.al),T.aw,T.aa 4 f.eg (aR t.aB),T.aa 1 f.eb (cS t.ah),bQ (bW t.mp),T.aa 8 f.ev (dO t.val)]):=by
 intro d;induction d with
 | zero=>
  intro k r;obtain rfl:k=n:=by omega
  have h1:¬(k:Int) < (k:Int):=by omega
  refine ak ?_;simp only [Uo,Uq];rw [GS];simp only [ai,↓reduceIte,Int.reduceBEq,Int.reduceEq,GD,h1,cF,cH]
 | succ d A=>
  intro k r;have h1:(k:Int) < (n:Int):=by omega
  have p: 0<=(k:Int):=by omega
  have a:=n8 (val:=t.val) (i:=k) (by omega);have s:=np a;have l: 0+ (k:Int).toNat= (k:Int).toNat:=by omega
  have g:=z k (by omega);have m:=l9 (x:=(aI t.val k).2) (y:=e) g.2 h (by omega);have b:=nI (x:=(aI t.val k).1) (y:=tm (aI t.val k).2 e) g.1 (g.2.mul h) (by omega);have v:((t.val.take k).map (gX e)).length=k:=by simp;omega
  have B:bL 48 (((t.val.take k).map (gX e)).length+ [[tb (decide ((nv (gX e (aI t.val k))).num < 0)),T.str (bJ (dz (nv (gX e (aI t.val k))).num)),tb (nc (gX e (aI t.val k))),T.str (nd (gX e (aI t.val k)))]].length)=some ():=jw (by simp;omega);have q:aR ((t.val.take k).map (gX e))++ [[tb (decide ((nv (gX e (aI t.val k))).num < 0)),T.str (bJ (dz (nv (gX e (aI t.val k))).num)),tb (nc (gX e (aI t.val k))),T.str (nd (gX e (aI t.val k)))]]=aR ((t.val.take (k+1)).map (gX e)):=by rw [W6,a,Wg,<-Gx];rfl
  have w:pl (aI t.val k).1 (tm (aI t.val k).2 e)=gX e (aI t.val k):=rfl;rw [w] at b;have:=A (k+1) (by omega);have j:decide (k+1=0)=false:=by simp
  rw [j] at this;simp only [Uo,Uq] at this;refine ak ?_;simp only [Uo,Uq];rw [GS];simp only [ai,↓reduceIte,Int.reduceBEq,Int.reduceEq,GD,h1,p,and_self,l,s,m,b,bH,B,q,next k (by omega)];exact this
theorem TB{n:Nat}{rows:List R}(f:Fl)(t:TL){mv:Nat}(sz:Sz n rows)(b:t.val.length=n+rows.length)(c:∀u,u < n+rows.length->VB mv (aI t.val u))(hm:mv<=1000):
  Or (.call 42) [r0] (SP n rows f t)=
   some (T.aa 4 (decide (n=0)) (aR (cI n rows t.val)):: [ti (n:Int),T.aa 3 f.er (dC rows),T.aw,T.aw,bK f.ec (bI 0 t.al),T.aw,T.aa 4 f.eg (aR t.aB),T.aa 1 f.eb (cS t.ah),bQ (bW t.mp),T.aa 8 f.ev (dO t.val)]):=by
 have h:=sz.n;obtain⟨e,g⟩:=TR sz f.er f.eb f.ev f.eg t.ah t.val t.aB b c hm;have:=TC (rows:=rows) f t h b c g (by omega) n 0 (by omega);simp only [Uo,Uq,Xb,Xf] at this;have a:bO 0 (n:Int) (t.val.length:Int)=some ():=uM (by omega);have d:(n:Int).toNat - 0=n:=by omega
 refine ak ?_;rw [N8];simp only [ai,↓reduceIte,Int.reduceBEq,Int.reduceEq,GD,e,cN,a,d];exact this
open Go Go.Aev Go.Aev.Gen Go.Aev.Wd Go.Aev.Tb
theorem RH{n:Nat}{rows:List R}(hn:n<=12)(hm:rows.length<=40)(ok:∀r∈rows,hJ n r):gm n rows where
 sz:=⟨hn,hm,λr hr=>(ok r hr).tv⟩
 of:=λr hr=>(ok r hr).of
 len:=λr hr=>(ok r hr).len
 kd:=λr hr=>(ok r hr).kd
theorem CQ{n:Nat}{rows:List R}{i:Nat}(hi:i < rows.length):(eO n rows).st.ah i=n+i:=by show(iM n rows.length).getD i 0=n+i;unfold iM;rw [Ul,U9,XO hi];rfl
theorem QF{n:Nat}{rows:List R}(ro:gm n rows){i k:Nat}(hi:i < rows.length):(eO n rows).st.c i k=if k < n then(aN n rows).A i k else 0:=by
 show nv (aq (az (rows.map (gD n rows.length)) i) k)=_;have h1:az (rows.map (gD n rows.length)) i=gD n rows.length (bf rows i):=by unfold az bf;rw [Ul,Ul,U9,Up hi];rfl
 rw [h1];have b:=ro.len _ (jt hi);unfold gD aq;rw [Ul];show _=if k < n then(((bf rows i).of.getD k 0:Int):Rat) else 0;by_cases a:k < (bf rows i).of.length
 .rw [VJ (by simpa using a),U9,Up a,if_pos (by omega),Ul,Up a];rfl
 .have hz:nv (((List.map iN (bf rows i).of++List.replicate (n+rows.length - (bf rows i).of.length) none)[k]?).getD none)=0:=by
   rw [Vq (by simpa using a),Wi];split <;> rfl
  rw [hz];split
  .rw [Ul,VI (by omega)];rfl
  .rfl
theorem CR(n:Nat)(rows:List R)(v:Nat):aI (eO n rows).val v= (none,none):=by show aI (List.replicate (n+rows.length) (none,none)) v=_;unfold aI;rw [Ul,Wi];split <;> rfl
theorem IL{n:Nat}{rows:List R}(ro:gm n rows):b8 n rows (eO n rows):=by
 have hz:gg n rows.length (aN n rows).A (λ_=>0):=λi _=>(mU (λk _=>V8 _)).symm;have hy:(eO n rows).st.y=λ_=>0:=by funext v;show nv (aI (eO n rows).val v).1=0;rw [CR];rfl
 have f:(eO n rows).st.z=λ_=>0:=by funext v;show nv (aI (eO n rows).val v).2=0;rw [CR];rfl
 refine⟨⟨by simp [eO,iM],by simp [eO],λx j=> ?_,by simp [eO],λb hb=> ?_, ?_⟩,⟨?_,by rw [hy];exact hz,by rw [f];exact hz,λv hv hb=> ?_⟩,λi b hb=> ?_,λv hv=> ?_, ?_⟩
 .obtain⟨r,g,rfl⟩:=UT.1 j;have:=ro.len r g;unfold gD;simp;omega
 .obtain⟨i,hi,rfl⟩:=UT.1 hb;have:=Wx.1 hi;omega
 .show(List.map (λi=>n+i) (List.range rows.length)).Nodup;refine WM.2 (λa b s hb o=> ?_);simp only [Xj,W0];omega
 .refine WF.congr (λi hi=>(CQ hi).symm) (λi k hi _=>(QF ro hi).symm) (T7 n rows.length (aN n rows).A)
 .have p:v < n+rows.length:=hv;have e:v < n:=by
   refine Nat.lt_of_not_le λh=>hb (v - n) (show v - n < rows.length by omega) ?_;rw [CQ (by omega)];omega
  have d:v < (aN n rows).n:=e;unfold Sy.fx;rw [if_pos d];show vv (aI (eO n rows).val v)=_;rw [CR];rfl
 .show cg b (iF n rows.length)=some i;have hi:i < rows.length:=by
   have:=(Us.1 hb).1;simpa [eO,iM] using this
  have c:b=n+i:=by have:=iY (t:=eO n rows) (i:=i) (by simp [eO,iM];exact hi);rw [hb,CQ hi] at this;exact Vb this
  rw [Cy,c,if_pos (by omega)];congr 1;omega
 .show cg v (iF n rows.length)=none;rw [Cy,if_neg];rintro⟨h1,q⟩;exact hv (UT.2 ⟨v - n,Wx.2 (by omega),by omega⟩)
 .show ot (iF n rows.length);generalize rows.length=m;induction m with
  | zero=>exact trivial
  | succ m l=>rw [<-Jx];exact Cv _ _ _ l
theorem Pb{n:Nat}{rows:List R}(ro:gm n rows):∀(p:Nat) (t:TL),b8 n rows t->
  b8 n rows (cG n rows true p t).2.2/\(cG n rows true p t).2.2.aB=t.aB\/(cG n rows true p t).1.isSome=true/\b8 n rows (cG n rows true p t).2.2/\(cG n rows true p t).2.2.aB=t.aB:=by
 intro p;induction p using Nat.strongRecOn with
 | _ p e=>
 intro t h;rcases pL h with⟨_,hb⟩ | ⟨i,hi,b,a,hb,d⟩
 .rw [pZ true _ hb];exact .inl ⟨h,rfl⟩
 .cases p with
  | zero=>rw [sd true hb];exact .inl ⟨h,rfl⟩
  | succ p=>
   rw [sc true p hb d];cases c:aV n rows t.val (bE n rows t (t.st.ah i)) (az t.al i) 0 with
   | none=>exact .inl ⟨h,rfl⟩
   | some v=>obtain⟨g,e2,_⟩:=kT c;obtain⟨f,_⟩:=h.step true hi (v:=v) (by have:=h.aZ.row hi;omega) b c a;exact e p (Wl p) _ f
theorem HE{n:Nat}{rows:List R}(ro:gm n rows)(p:Nat){t:TL}(h:b8 n rows t):b8 n rows (cG n rows true p t).2.2:=by
 rcases Pb ro p t h with h | h
 .exact h.1
 .exact h.2.1
theorem HD{n:Nat}{rows:List R}(ro:gm n rows):∀(p:Nat) (t:TL),b8 n rows t->(cG n rows true p t).1=none->(cG n rows true p t).2.1=true->
  ∀j,j < rows.length->¬(aN n rows).gf (cG n rows true p t).2.2.st ((cG n rows true p t).2.2.st.ah j):=by
 intro p;induction p using Nat.strongRecOn with
 | _ p g=>
 intro t h h1 a;rcases pL h with⟨e,hb⟩ | ⟨i,hi,d,c,hb,f⟩
 .rw [pZ true _ hb];exact e
 .cases p with
  | zero=>rw [sd true hb] at a;cases a
  | succ p=>
   rw [sc true p hb f] at h1 a⊢;cases b:aV n rows t.val (bE n rows t (t.st.ah i)) (az t.al i) 0 with
   | none=>rw [b] at h1;cases h1
   | some v=>rw [b] at h1 a;obtain⟨l,e2,_⟩:=kT b;obtain⟨k,_⟩:=h.step true hi (v:=v) (by have:=h.aZ.row hi;omega) d b c;exact g p (Wl p) _ k h1 a
theorem Hh{n:Nat}{rows:List R}{t:TL}(h:b8 n rows t)(k2:∀r∈rows,r.kd≠2)(o:∀j,j < rows.length->¬(aN n rows).gf t.st (t.st.ah j)):(aN n rows).tA t.st:=by
 intro v b d;have s:n<=v:=b;have l:v < n+rows.length:=d;have hz:=z0 h k2 l;have q:=k2 _ (jt (rows:=rows) (i:=v - n) (by omega));have c:(aN n rows).up v= ((aN n rows).to (v - n),0):=XH rfl (if_neg q);show t.st.y v<=(aN n rows).to (v - n)/\((aN n rows).kd (v - n)=3->t.st.y v= (aN n rows).to (v - n));by_cases hb:∃j,j < rows.length/\t.st.ah j=v
 .obtain⟨j,k,e⟩:=hb;have a:=o j k;rw [e] at a;unfold Sy.gf at a;rw [c] at a;unfold eL cw.val at a;rw [hz] at a;have u:¬(aN n rows).to (v - n) < t.st.y v:=λf=>a ⟨b, .inl (.inl f)⟩;refine⟨by grind,λm=> ?_⟩;have w:¬t.st.y v < (aN n rows).to (v - n):=λf=>a ⟨b, .inr ⟨m, .inl f⟩⟩;grind
 .have g:=h.ok.fix v d (λj k e=>hb ⟨j,k,e⟩);unfold Sy.fx at g;have p:¬v < (aN n rows).n:=WJ.2 b;rw [if_neg p,c] at g;have hy:t.st.y v= (aN n rows).to (v - n):=congrArg Prod.fst g;exact⟨by rw [hy];exact WN,λ_=>hy⟩
theorem Qc{n:Nat}{rows:List R}{gl:List Int}(go:iv n rows gl):∀(p:Nat) (t:TL),fu n rows gl t->fu n rows gl (dF n rows p t).2.2.2:=by
 intro p;induction p using Nat.strongRecOn with
 | _ p c=>
 intro t h;cases a:aV n rows t.val 1 t.aB 0 with
 | none=>rw [mM p a];exact h
 | some v=>
  cases p with
  | zero=>rw [ql a];exact h
  | succ p=>
   cases b:(bo n rows t v (nv (aq t.aB v)).num.sign).2.2
   .rw [qf p a b];exact h
   .rw [qg p a b];exact c p (Wl p) _ (h.step go a b).1
abbrev uK(n:Nat)(rows:List R)(gl:List Int)(t:TL):TL:={t with aB:=ji t gl 0 (List.replicate (n+rows.length) none)}
def lF(l:List Nm):T:=T.aa 2 (decide (l= [])) (gS (l.map dh))
def eE(l:List Nm):Bool:=l.all λx=>dK (nv x)
def sD:List T:= [ti 0,ti 0,ti 0,T.aJ true,T.aJ true,ti 10,ti 0]
def Cl:List T:= [ti 4,ti 0,ti 0,T.aJ true,T.aJ true,ti 0,ti 0]
def gO(gl:List Int)(l:List Nm):Rat:=bt gl (l.map nv)
def sC(n:Nat)(rows:List R)(gl:List Int)(r:Option (List Nm)×Option (List Nm)×Bool×TL):List T:=
 match r with
 | (_,_,false,_)=>Cl
 | (_,some l,true,_)=>if eE l=true then [ti 3,ti 0,ti 0,lF l,T.aJ true,ti 0,ti 0] else sD
 | (some l,none,true,t)=>if(dK (gO gl (cI n rows t.val)) && eE (cI n rows t.val) && eE l)=true then
   [ti 1,ti (gO gl (cI n rows t.val)).num,ti ((gO gl (cI n rows t.val)).den:Int),lF (cI n rows t.val),lF l,ti 0,ti 0] else sD
 | (none,none,true,_)=> []
def nh(n:Nat)(rows:List R)(gl:List Int)(p:Nat):List T:=
 match cG n rows true p (eO n rows) with
 | (_,false,_)=>Cl
 | (some l,true,_)=>if eE l=true then [ti 2,ti 0,ti 0,T.aJ true,lF l,ti 0,ti 0] else sD
 | (none,true,t)=>sC n rows gl (dF n rows p (uK n rows gl t))
theorem EJ(e:Nm)(v:Vl)(h:nv v.2=0):nv (gX e v)=nv v.1:=by show nv v.1+nv v.2 * nv e=nv v.1;rw [h];grind
theorem Rs{n:Nat}(m:Nat){aj:Int}(i:aj=1\/aj= -1)(b:Nat){row:List Nm}{mc:Nat}(g:∀x∈row,QN mc x):∀y∈jr n m aj b row,QN (mc+2) y:=by
 have hs:QN 2 (iN (-aj)):=by rcases i with rfl | rfl <;> exact eu (by decide)
 have e:∀(xs:List Nm) (v:Nat) (a:List Nm),(∀x∈xs,QN mc x)->(∀y∈a,QN (mc+2) y)->∀y∈gZ n (iN (-aj)) xs v a,QN (mc+2) y:=by
  intro xs;induction xs with
  | nil=>intro v a _ c;exact c
  | cons x xs f=>
   intro v a d c;rw [gZ];split
   .exact f _ _ (λx h=>d x (Um _ h)) c
   .refine f _ _ (λx h=>d x (Um _ h)) (λy hy=> ?_);rcases U1 hy with hy | hy
    .exact c y hy
    .subst hy;exact((d x Uk).mul hs).neg
 refine e row 0 _ g (λy hy=> ?_);rcases U1 hy with hy | hy
 .rw [VO hy];exact iI _
 .subst hy;exact hs.mono (by omega)
theorem HC{n:Nat}{rows:List R}(ro:gm n rows):∀(p:Nat) (t:TL),b8 n rows t->∀l,(cG n rows true p t).1=some l->l.length=rows.length/\∀y∈l,QN 272 y:=by
 intro p;induction p using Nat.strongRecOn with
 | _ p g=>
 intro t h l a;rcases pL h with⟨_,hb⟩ | ⟨i,hi,e,d,hb,f⟩
 .rw [pZ true _ hb] at a;cases a
 .cases p with
  | zero=>rw [sd true hb] at a;cases a
  | succ p=>
   rw [sc true p hb f] at a;cases b:aV n rows t.val (bE n rows t (t.st.ah i)) (az t.al i) 0 with
   | none=>rw [b] at a;obtain rfl:=Vb a;refine⟨?_,Rs rows.length (Af n rows t _) _ (h.al ro _ (Uj (jc (by rw [h.aZ.c];exact hi))))⟩;unfold jr;rw [Dk];simp
   | some v=>rw [b] at a;obtain⟨k,e2,_⟩:=kT b;obtain⟨j,_⟩:=h.step true hi (v:=v) (by have:=h.aZ.row hi;omega) e b d;exact g p (Wl p) _ j l a
theorem Iv{n:Nat}{rows:List R}{gl:List Int}(go:iv n rows gl):∀(p:Nat) (t:TL),fu n rows gl t->
  (∀l,(dF n rows p t).1=some l->l.length=rows.length/\∀y∈l,QN 272 y)/\(∀l,(dF n rows p t).2.1=some l->l.length=n/\∀y∈l,QN 272 y):=by
 intro p;induction p using Nat.strongRecOn with
 | _ p o=>
 intro t h;cases b:aV n rows t.val 1 t.aB 0 with
 | none=>rw [mM p b];refine⟨λl a=> ?_,(λl a=>by cases a)⟩;obtain rfl:=Vb a;have g:=h.len;exact⟨by simp;omega,λy hy=>(h.gq go y (Ww hy)).mono (by omega)⟩
 | some v=>
  cases p with
  | zero=>rw [ql b];exact⟨(λl a=>by cases a),(λl a=>by cases a)⟩
  | succ p=>
   cases d:(bo n rows t v (nv (aq t.aB v)).num.sign).2.2
   .rw [qf p b d];refine⟨(λl a=>by cases a),λl a=> ?_⟩;obtain rfl:=Vb a;obtain⟨_,e2,e3,_,_⟩:=kT b;rw [Vv] at e3;rw [UW,h.len] at e2;have m:=vL e3;have f:QN 2 (iN (nv (aq t.aB v)).num.sign):=by rcases m with e | e <;> rw [e] <;> exact eu (by decide)
    have base:∀y∈(List.range n).map (iG t v (nv (aq t.aB v)).num.sign),QN 272 y:=by
     intro y hy;obtain⟨k,_,rfl⟩:=UT.1 hy;unfold iG;cases a:cg k t.mp with
     | none=>exact iI _
     | some i=>have hi:=h.tok.uT a;have j:=h.tok.aZ.row hi;exact(h.tok.al go.ro _ (Uj (jc (by rw [h.tok.aZ.c];exact hi))) _ (Uj (gA (by omega)))).mul f
    unfold jQ;split
    .refine⟨by simp,λy hy=> ?_⟩;rcases U1 hy with hy | hy
     .exact base y hy
     .subst hy;exact f.mono (by omega)
    .exact⟨by simp,base⟩
   .rw [qg p b d];exact o p (Wl p) _ (h.step go b d).1
theorem Q9{n:Nat}{rows:List R}{t:TL}(ro:gm n rows)(h:b8 n rows t)(k2:∀r∈rows,r.kd≠2):∀x∈cI n rows t.val,QN 300 x:=by
 intro x c;obtain⟨v,hv,rfl⟩:=UT.1 c;obtain⟨i,hi,e⟩:=Wa (Wk hv);have d:=h.aZ.v;have b:aI t.val i=v:=by unfold aI;rw [Ul,Up hi];exact e
 have a:=h.val ro i (by omega);have hz:nv (aI t.val i).2=0:=z0 h k2 (by omega);rw [b] at a hz;show QB 300 (nv (gX _ v));rw [EJ _ v hz];exact a.1
open Go Go.Aev Go.Aev.Gen Go.Aev.Wd Go.Aev.Tb
theorem Iw{n:Nat}{rows:List R}:∀(p:Nat) (t:TL),(dF n rows p t).2.2.1=true->(dF n rows p t).1=none->(dF n rows p t).2.1=none->False:=by
 intro p;induction p with
 | zero=>
  intro t h1 a c;cases b:aV n rows t.val 1 t.aB 0 with
  | none=>rw [mM 0 b] at a;cases a
  | some v=>rw [ql b] at h1;cases h1
 | succ p e=>
  intro t h1 a c;cases b:aV n rows t.val 1 t.aB 0 with
  | none=>rw [mM _ b] at a;cases a
  | some v=>
   cases d:(bo n rows t v (nv (aq t.aB v)).num.sign).2.2
   .rw [qf p b d] at c;cases c
   .rw [qg p b d] at h1 a c;exact e _ h1 a c
section
variable {n:Nat} {rows:List R} {gl:List Int}
set_option maxRecDepth 20000 in
theorem Ta(a:Bool)(eg:Bool)(go:iv n rows gl)(p:Nat)(hp:p<=2000):
  ay an ann Or (.call 13) [LR a rows,I (n:Int),aa eg gl,I (p:Int)] []=some (nh n rows gl p)\/(eN (n:Int) rows gl).1≠0\/¬Or (.call 24) [LR a rows,I (n:Int),aa eg gl] []=fl (eN (n:Int) rows gl):=by
 by_cases q:(eN (n:Int) rows gl).1=0
 .by_cases d:Or (.call 24) [LR a rows,I (n:Int),aa eg gl] []=fl (eN (n:Int) rows gl)
  .refine .inl ?_;have ro:=go.ro;have hn:=ro.sz.n;have hm:=ro.sz.m;have f:¬(p:Int) < 0:=by omega
   have g:¬(p:Int) > 2000:=by omega
   have e:=Tj a ro;have t:=IL ro;have c:=Tm (n:=n) (rows:=rows) (oW a rows) ro rfl p (eO n rows) (by omega) t;have A:=λl=>HC ro p (eO n rows) t l;have u:=HE ro p t;have E:=HD ro p (eO n rows) t;unfold nh;generalize cG n rows true p (eO n rows)=r1 at c A u E⊢;obtain⟨no,done,S⟩:=r1;simp only at c A u E;rw [I6] at e;rw [eI] at c;rw [BS];cases done with
   | false=>simp only [ai,↓reduceIte,Int.reduceBEq,Int.reduceEq,GD,eW,d,q,f,g,decide_false,e,eV,eG,Ut,cX,c];cases no <;> (simp only [fW,ai,↓reduceIte,Int.reduceBEq,Int.reduceEq,GD,eW,eV,eG,Ut];rfl)
   | true=>
    cases no with
    | some l=>
     have b:=z6 false l (by have:=(A l rfl).1;omega) (A l rfl).2 (by omega);simp only;cases w:eE l
     .have o:(l.all λx=>dK (nv x))=false:=w;rw [o] at b;simp only [ai,↓reduceIte,Int.reduceBEq,Int.reduceEq,GD,eW,fW,d,q,f,g,decide_false,e,eV,eG,Ut,cX,c,b,UE,Uz];rfl
     .have o:(l.all λx=>dK (nv x))=true:=w;rw [o] at b;simp only [ai,↓reduceIte,Int.reduceBEq,Int.reduceEq,GD,eW,fW,d,q,f,g,decide_false,e,eV,eG,Ut,cX,c,b,UE,Uz];rfl
    | none=>
     have M:=Hh u go.k2 (E rfl rfl);have i:=Ts (n:=n) (rows:=rows) (gl:=gl) (oW a rows) go eg p S (by omega) u M;have T:=Cg u M go.gl;have B:=Iv go p _ T;have s:=Qc go p _ T;have D:=Iw (n:=n) (rows:=rows) p (uK n rows gl S);simp only;generalize dF n rows p (uK n rows gl S)=V at i B s D⊢;obtain⟨C,U,H,r⟩:=V;simp only at B s D;unfold sE at i;rw [qp] at i;cases H with
     | false=>cases C <;> cases U <;> (simp only [ai,↓reduceIte,Int.reduceBEq,Int.reduceEq,GD,eW,fW,d,q,f,g,decide_false,e,eV,eG,Ut,cX,c,i,UE,Uz];rfl)
     | true=>
      cases U with
      | some l=>
       have G:=B.2 l rfl;have b:=z6 false l (by omega) G.2 (by omega);cases w:eE l
       .have o:(l.all λx=>dK (nv x))=false:=w;rw [o] at b;cases C <;> (simp only [ai,↓reduceIte,Int.reduceBEq,Int.reduceEq,GD,eW,fW,d,q,f,g,decide_false,e,eV,eG,Ut,cX,c,i,b,UE,Uz,sC,w];rfl)
       .have o:(l.all λx=>dK (nv x))=true:=w;rw [o] at b;cases C <;> (simp only [ai,↓reduceIte,Int.reduceBEq,Int.reduceEq,GD,eW,fW,d,q,f,g,decide_false,e,eV,eG,Ut,cX,c,i,b,UE,Uz,sC,w];rfl)
      | none=>
       cases C with
       | none=>exact(D rfl rfl rfl).elim
       | some l=>
        have G:=B.1 l rfl;have b:=z6 false l (by omega) G.2 (by omega);have N:=Q9 ro s.tok go.k2;have hpl:(cI n rows r.val).length=n:=by have:=s.tok.aZ.v;unfold cI;simp;omega
        have z:=TB (rows:=rows) ⟨(oW a rows).er,(oW a rows).eb,(oW a rows).ec,(oW a rows).ev,false⟩ r ro.sz s.tok.aZ.v (s.tok.val ro) (by omega);obtain⟨y,J,W,X⟩:=DX eg (decide (n=0)) gl (cI n rows r.val) go.gb (by have:=go.gl;omega) (by have:=go.gl;omega) N (by omega);have k:=I8 X (by omega);have j:=z6 (decide (n=0)) (cI n rows r.val) (by omega) N (by omega);have hy:nv y=gO gl (cI n rows r.val):=W;have F:dK (nv y)=true->(dh y).1= (gO gl (cI n rows r.val)).num/\(dh y).2= ((gO gl (cI n rows r.val)).den:Int):=λh=>by unfold dh;rw [if_pos h,hy];exact⟨rfl,rfl⟩
        rw [hy] at F k;have P:((cI n rows r.val).all λx=>dK (nv x))=eE (cI n rows r.val):=rfl;have O:(l.all λx=>dK (nv x))=eE l:=rfl;rw [P] at j;rw [O] at b;simp only [sC];cases Q:dK (gO gl (cI n rows r.val)) with
        | false=>rw [Q] at k;simp only [ai,↓reduceIte,Int.reduceBEq,Int.reduceEq,GD,eW,fW,d,q,f,g,decide_false,e,eV,eG,Ut,cX,c,i,z,J,k,j,b,UE,Uz];rfl
        | true=>
         rw [Q] at k;obtain⟨Y,Z⟩:=F Q;rw [Y,Z] at k;cases L:eE (cI n rows r.val) with
         | false=>rw [L] at j;simp only [ai,↓reduceIte,Int.reduceBEq,Int.reduceEq,GD,eW,fW,d,q,f,g,decide_false,e,eV,eG,Ut,cX,c,i,z,J,k,j,b,UE,Uz];rfl
         | true=>
          rw [L] at j;cases K:eE l with
          | false=>rw [K] at b;simp only [ai,↓reduceIte,Int.reduceBEq,Int.reduceEq,GD,eW,fW,d,q,f,g,decide_false,e,eV,eG,Ut,cX,c,i,z,J,k,j,b,UE,Uz];rfl
          | true=>rw [K] at b;simp only [ai,↓reduceIte,Int.reduceBEq,Int.reduceEq,GD,eW,fW,d,q,f,g,decide_false,e,eV,eG,Ut,cX,c,i,z,J,k,j,b,UE,Uz];rfl
  .exact .inr (.inr d)
 .exact .inr (.inl q)
end
def Hf(e:Int×Int):List T:= [ti 0,ti 0,ti 0,T.aJ true,T.aJ true,ti e.1,ti e.2]
theorem Ch{n:Int}{rows:List R}{gl:List Int}(b:∀r∈rows,r.e=true->r.of= [])(h:(eN n rows gl).1=0):((n.toNat:Nat):Int)=n/\iv n.toNat rows gl:=by obtain⟨_,d,c,a,ok,k2,f,hb⟩:=xV b h;exact⟨by omega,RH (by omega) a ok,k2,hb,by omega⟩
set_option maxRecDepth 20000 in
theorem S9(rows:List R)(er eg:Bool)(n:Int)(gl:List Int)(p:Int)(f:∀r∈rows,r.e=true->r.of= []):Or (.call 13) [LR er rows,I n,aa eg gl,I p] []=
  some (if(eN n rows gl).1≠0 then Hf (eN n rows gl) else if p < 0\/p > 2000 then Hf (3, -1) else nh n.toNat rows gl p.toNat):=by
 have c:=DW rows er eg n gl f;by_cases h:(eN n rows gl).1=0
 .rw [if_neg (by omega)];obtain⟨d,go⟩:=Ch f h;by_cases b:p < 0\/p > 2000
  .rw [if_pos b];refine ak ?_;rw [BS];rcases b with b | b
   .simp only [ai,↓reduceIte,Int.reduceBEq,Int.reduceEq,GD,c,h,b];rfl
   .have g:¬p < 0:=by omega
    simp only [ai,↓reduceIte,Int.reduceBEq,Int.reduceEq,GD,c,h,b,g];rfl
  .rw [if_neg b];rcases Ta (n:=n.toNat) (rows:=rows) (gl:=gl) er eg go p.toNat (by omega) with a | a | a
   .rw [d,show((p.toNat:Nat):Int)=p by omega] at a;exact ak a
   .rw [d] at a;exact absurd h a
   .rw [d] at a;exact absurd c a
 .rw [if_pos h];refine ak ?_;rw [BS];simp only [ai,↓reduceIte,Int.reduceBEq,Int.reduceEq,GD,c,h];rfl
open Go Go.Aev Go.Aev.Gen
noncomputable abbrev wM:Key:=aS an 14 true 2 [(0,none),(3,none)] (0,0)
theorem N3(O:au)(er eg k m i:Bool)(r g p t o:JL)(n vn j:Int):ay an ann O (Key.call 4) [Jl 3 er r,I n,Jl 1 eg g,AV.agg [I vn,I j],Jl 2 k p,Jl 2 m t,Jl 2 i o] []=
 (G3 (O (.call 7) [] []) λb=>bif !b then some [Jb false] else wC (O (.call 13) [Jl 3 er r,I n,Jl 1 eg g,I 2000] []) λl a q s=>qX (List.drop 2 l.tail).head? λw=>qX (List.drop 2 l.tail).tail.head? λy=>jD (List.drop 2 l.tail).tail.tail.head? λc=>jD (List.drop 2 l.tail).tail.tail.tail.head? λB=>G5 (some (bif bif c==0 then a==1 else false then(o.length:Int)==n else false)) (bV (some (bif bif c==0 then a==1 else false then(o.length:Int)==n else false)) (O (.call 14) [Jl 2 i o] [])) λb=>G5 (some (bif bif bif c==0 then a==1 else false then(o.length:Int)==n else false then b else false)) (bV (some (bif bif bif c==0 then a==1 else false then(o.length:Int)==n else false then b else false)) (O (.call 15) [Jl 3 er r,Jl 2 i o] [])) λf=>qV (some (bif bif bif bif c==0 then a==1 else false then(o.length:Int)==n else false then b else false then f else false)) (bV (some (bif bif bif bif c==0 then a==1 else false then(o.length:Int)==n else false then b else false then f else false)) (O (.call 16) [Jl 1 eg g,Jl 2 i o] [])) λx=>qV (some (bif bif bif bif c==0 then a==1 else false then(o.length:Int)==n else false then b else false then f else false)) (bV (some (bif bif bif bif c==0 then a==1 else false then(o.length:Int)==n else false then b else false then f else false)) (O (.call 18) [AV.agg [I q,I s]] [])) λz=>G8 (some (bif bif bif bif c==0 then a==1 else false then(o.length:Int)==n else false then b else false then f else false)) (bV (some (bif bif bif bif c==0 then a==1 else false then(o.length:Int)==n else false then b else false then f else false)) (O (.call 17) [AV.t x,AV.t z] [])) λu=>bif bif bif bif bif bif c==0 then a==1 else false then(o.length:Int)==n else false then b else false then f else false then decide (u > 0) else false then some [Jb false] else bif bif !c==0 then bif !a==0 then true else decide (i64.wrap ((w.snd.length:Int)+ (y.snd.length:Int)) > 0) else false then some [Jb false] else og (O (.call 8) [Jl 3 er r,I n,Jl 1 eg g,AV.agg [I vn,I j],Jl 2 k p,Jl 2 m t] []) λb d C=>G5 (some !bif bif !d==0 then true else !b then true else !(o.length:Int)==n) (bV (some !bif bif !d==0 then true else !b then true else !(o.length:Int)==n) (O (.call 14) [Jl 2 i o] [])) λe=>G5 (some !bif bif bif !d==0 then true else !b then true else !(o.length:Int)==n then true else !e) (bV (some !bif bif bif !d==0 then true else !b then true else !(o.length:Int)==n then true else !e) (O (.call 15) [Jl 3 er r,Jl 2 i o] [])) λh=>qV (some !bif bif bif bif !d==0 then true else !b then true else !(o.length:Int)==n then true else !e then true else !h) (bV (some !bif bif bif bif !d==0 then true else !b then true else !(o.length:Int)==n then true else !e then true else !h) (O (.call 16) [Jl 1 eg g,Jl 2 i o] [])) λx=>qV (some !bif bif bif bif !d==0 then true else !b then true else !(o.length:Int)==n then true else !e then true else !h) (bV (some !bif bif bif bif !d==0 then true else !b then true else !(o.length:Int)==n then true else !e then true else !h) (O (.call 18) [AV.agg [I vn,I j]] [])) λA=>G8 (some !bif bif bif bif !d==0 then true else !b then true else !(o.length:Int)==n then true else !e then true else !h) (bV (some !bif bif bif bif !d==0 then true else !b then true else !(o.length:Int)==n then true else !e then true else !h) (O (.call 17) [AV.t x,AV.t A] [])) λv=>some [Jb (bif bif bif bif bif !d==0 then true else !b then true else !(o.length:Int)==n then true else !e then true else !h then true else decide (v<=0))]):=by kernel_rfl
theorem MN(O:au)(a:Bool)(b:JL):ay an ann O (Key.call 14) [Jl 2 a b] []=
 (O wM [Jl 2 a b,I 0] []):=by kernel_rfl
theorem BE(O:au)(d:Bool)(a:JL)(c:Int):ay an ann O wM [Jl 2 d a,I c] []=
 (bif decide (c < (a.length:Int)) then m5 c a λn e=>G3 (O (.call 34) [AV.agg [I n,I e]] []) λb=>bif !b then some [Jb false] else O wM [Jl 2 d a,I (Jw c)] [] else some [Jb true]):=by kernel_rfl
end Go.Aev.Wd.Lg
