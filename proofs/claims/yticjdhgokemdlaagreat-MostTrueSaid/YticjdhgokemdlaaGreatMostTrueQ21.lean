import Derived.Test.YticjdhgokemdlaaGreatMostTrueQ19
import Derived.Test.YticjdhgokemdlaaGreatMostTrueQ6
set_option linter.all false
namespace Go.Aev.Wd.Lg
open Go Go.Aev Go.Aev.Gen Go.Aev.Wd Go.Aev.Tb Go.IntKind
def jA(n:Nat)(rows:List R)(val:List Vl)(v:Nat)(o:Nm):Nm:=
 if v < n then o else
 if 0 < nv (aI val v).2 - nv (bU n rows v).2/\0 < nv (bU n rows v).1 - nv (aI val v).1/\(nv (bU n rows v).1 - nv (aI val v).1) / (nv (aI val v).2 - nv (bU n rows v).2) < nv o
 then ov (mi (bU n rows v).1 (aI val v).1) (mi (aI val v).2 (bU n rows v).2) else o
def wB(n:Nat)(rows:List R)(val:List Vl):Nat->Nat->Nm->Nm
 | 0,_,o=>o
 | d+1,v,o=>wB n rows val d (v+1) (jA n rows val v o)
def zi(n:Nat)(rows:List R)(val:List Vl):Nm:=wB n rows val val.length 0 (iN 1)
theorem Tr{n:Nat}{rows:List R}(sz:Sz n rows){val:List Vl}{mv:Nat}{v:Nat}(hv:v < n+rows.length)(c:VB mv (aI val v)){o:Nm}(b:QN (2 * mv+50) o)(hm:mv<=1000):QN (2 * mv+50) (jA n rows val v o):=by
 unfold jA;split
 .exact b
 .split
  .rename_i a;have d:=qX sz hv;have q1:QN (20+mv+1) (mi (bU n rows v).1 (aI val v).1):=d.1.sub c.1;have f:QN (mv+20+1) (mi (aI val v).2 (bU n rows v).2):=c.2.sub d.2;have e:nv (mi (aI val v).2 (bU n rows v).2)≠0:=λh=>by
    have:nv (aI val v).2 - nv (bU n rows v).2=0:=h;rw [this] at a;exact absurd a.1 (by grind)
   exact(mX q1 f (by omega) e).2.mono (by omega)
  .exact b
section
variable {n:Nat} {rows:List R} (sz:Sz n rows) (er eb ev eg:Bool) (ah:List Nat) (val:List Vl) (aB:List Nm)
include sz
set_option maxRecDepth 10000 in
theorem UC{mv:Nat}(T:val.length=n+rows.length)(M:∀u,u < n+rows.length->VB mv (aI val u))(hm:mv<=1000):
  ∀(d v:Nat) (o:Nm),d+v=n+rows.length->QN (2 * mv+50) o->
  Or yg [AV.t (TP n er rows eb ah ev val eg aB),r0,AV.ref (Id.c 1) 0,I (val.length:Int),I (v:Int)] [iv none,iv o]=some (NL (wB n rows val d v o))/\QN (2 * mv+50) (wB n rows val d v o):=by
 have U:=sz.n;have S:=sz.m;intro d;induction d with
 | zero=>
  intro v o L w;have h1:¬(v:Int) < (val.length:Int):=by omega
  refine⟨aj ?_,w⟩;rw [sc];simp only [ai,↓reduceIte,GD,h1];rfl
 | succ d O=>
  intro v o L w;have hv:v < n+rows.length:=by omega
  have h1:(v:Int) < (val.length:Int):=by omega
  have q: 0<=(v:Int):=by omega
  have e:=tB sz er eb ev eg ah val aB hv;have s:=mO (nf (val:=val) (i:=v) (by omega));have g:=M v hv;have A:=qX sz hv;have Q:=Tr sz hv g w hm;obtain⟨b,N⟩:=O (v+1) (jA n rows val v o) (by omega) Q;refine⟨aj ?_,N⟩;show _=some (NL (wB n rows val d (v+1) (jA n rows val v o)));rw [cN] at e;simp only [Vc,Ve] at e;by_cases a:v < n
  .have hs:jA n rows val v o=o:=by unfold jA;rw [if_pos a]
   rw [hs] at b⊢;rw [decide_eq_true a] at e;rw [sc];simp only [ai,↓reduceIte,GD,cu,h1,e,next v (by omega)];exact b
  .rw [decide_eq_false a] at e;have q1:QN (20+mv+1) (mi (bU n rows v).1 (aI val v).1):=A.1.sub g.1;have P:QN (mv+20+1) (mi (aI val v).2 (bU n rows v).2):=g.2.sub A.2;have z:=DN (x:=(bU n rows v).1) (y:=(aI val v).1) A.1 g.1 (by omega);have k2:=DN (x:=(aI val v).2) (y:=(bU n rows v).2) g.2 A.2 (by omega);have C:=lK (mi (aI val v).2 (bU n rows v).2);have B:=lK (mi (bU n rows v).1 (aI val v).1);have H:=sT (nv (mi (aI val v).2 (bU n rows v).2));have G:=sT (nv (mi (bU n rows v).1 (aI val v).1));by_cases l: 0 < nv (mi (aI val v).2 (bU n rows v).2)
   .have f:=H.2 l;have J:nv (mi (aI val v).2 (bU n rows v).2)≠0:=λh=>by rw [h] at l;exact absurd l (by grind)
    by_cases k: 0 < nv (mi (bU n rows v).1 (aI val v).1)
    .have j:=G.2 k;obtain⟨F,K⟩:=mX q1 P (by omega) J;have E:=oh (x:=ov (mi (bU n rows v).1 (aI val v).1) (mi (aI val v).2 (bU n rows v).2)) (y:=o) K w (by omega);have D:=uE (nv (ov (mi (bU n rows v).1 (aI val v).1) (mi (aI val v).2 (bU n rows v).2))) (nv o);by_cases r:nv (ov (mi (bU n rows v).1 (aI val v).1) (mi (aI val v).2 (bU n rows v).2)) < nv o
     .have p:=D.2 r;have hs:jA n rows val v o=ov (mi (bU n rows v).1 (aI val v).1) (mi (aI val v).2 (bU n rows v).2):=by
       unfold jA;rw [if_neg a,if_pos ⟨l,k,r⟩]
      rw [hs] at b⊢;rw [sc];simp only [ai,↓reduceIte,GD,cu,h1,q,and_self,e,cO,s,z,k2,B,C,f,j,F,E,p,decide_true,next v (by omega)];exact b
     .have p:¬cq (nv (ov (mi (bU n rows v).1 (aI val v).1) (mi (aI val v).2 (bU n rows v).2))) (nv o) < 0:=λh=>r (D.1 h);have hs:jA n rows val v o=o:=by unfold jA;rw [if_neg a,if_neg (λh=>r h.2.2)]
      rw [hs] at b⊢;rw [sc];simp only [ai,↓reduceIte,GD,cu,h1,q,and_self,e,cO,s,z,k2,B,C,f,j,F,E,p,decide_true,next v (by omega)];exact b
    .have j:¬(nv (mi (bU n rows v).1 (aI val v).1)).num.sign > 0:=λh=>k (G.1 h);have hs:jA n rows val v o=o:=by unfold jA;rw [if_neg a,if_neg (λh=>k h.2.1)]
     rw [hs] at b⊢;rw [sc];simp only [bL,ai,↓reduceIte,GD,cu,h1,q,and_self,e,cO,s,z,k2,B,C,f,j,decide_true,decide_false,next v (by omega)];exact b
   .have f:¬(nv (mi (aI val v).2 (bU n rows v).2)).num.sign > 0:=λh=>l (H.1 h);have hs:jA n rows val v o=o:=by unfold jA;rw [if_neg a,if_neg (λh=>l h.1)]
    rw [hs] at b⊢;rw [sc];simp only [bL,ai,↓reduceIte,GD,cu,h1,q,and_self,e,cO,s,z,k2,C,f,decide_true,decide_false,next v (by omega)];exact b
theorem EP{mv:Nat}(a:val.length=n+rows.length)(e:∀u,u < n+rows.length->VB mv (aI val u))(hm:mv<=1000):
  Or (.call 88) [AV.t (TP n er rows eb ah ev val eg aB)] []=some (NL (zi n rows val))/\QN (2 * mv+50) (zi n rows val):=by
 have b:=gh 1 (by omega);have q1:QN (2 * mv+50) (iN 1):=eM (by exact Zs);obtain⟨c,d⟩:=UC sz er eb ev eg ah val aB a e hm (n+rows.length) 0 (iN 1) (by omega) q1;unfold zi;rw [a];refine⟨aj ?_,d⟩;rw [Pv];simp only [ai,GD,b,cO];exact c
end
def dh(e:Nm)(v:Vl):Nm:=pl v.1 (tm v.2 e)
def cf(n:Nat)(rows:List R)(val:List Vl):List Nm:=(val.take n).map (dh (zi n rows val))
abbrev SP(n:Nat)(rows:List R)(f:Fl)(t:TL):List ab:=
 [ab.box [I (n:Int),AV.t (T.aa 3 f.er (dK rows)),AV.own (Id.c 1),AV.own (Id.c 2),AV.own (Id.c 3),AV.own (Id.c 4),AV.t (T.aa 4 f.eg (aS t.aB))],ab.sl false 1 f.eb (cX t.ah),ab.mp false [Ck.i .i64] (Ck.i .i64) (bZ t.mp),
  ab.rows f.ec 1 0 4 t.al.length (bK 0 t.al),ab.sl false 8 f.ev (eB t.val)]
theorem RR{mv a:Nat}{e:Nm}{v:Vl}(hv:VB mv v)(b:QN a e):QN (mv+ (mv+a)+1) (dh e v):=hv.1.add (hv.2.mul b)
theorem Un{n:Nat}{rows:List R}(f:Fl)(t:TL){mv o:Nat}(D:n<=12)(C:t.val.length=n+rows.length)(z:∀u,u < n+rows.length->VB mv (aI t.val u)){e:Nm}(h:QN o e)(hm:mv+ (mv+o)+1<=6300):
  ∀(d k:Nat),d+k=n->
  Or yc [AV.ref (Id.c 5) 0,AV.own (Id.c 6),AV.part (Id.c 4) 8 0 n,I (n:Int),I (k:Int)] (SP n rows f t++ [iv e,ab.sl false 4 (decide (k=0)) (aS ((t.val.take k).map (dh e)))])=
   some (T.aa 4 (decide (n=0)) (aS ((t.val.take n).map (dh e))):: [ti (n:Int),T.aa 3 f.er (dK rows),T.ax,T.ax,bN f.ec (bK 0 t.al),T.ax,T.aa 4 f.eg (aS t.aB),T.aa 1 f.eb (cX t.ah),bS (bZ t.mp),T.aa 8 f.ev (eB t.val)]):=by
 intro d;induction d with
 | zero=>
  intro k r;obtain rfl:k=n:=by omega
  have h1:¬(k:Int) < (k:Int):=by omega
  refine aj ?_;simp only [Vc,Ve];rw [HE];simp only [ai,↓reduceIte,GD,h1,cK]
 | succ d A=>
  intro k r;have h1:(k:Int) < (n:Int):=by omega
  have p: 0<=(k:Int):=by omega
  have a:=nf (val:=t.val) (i:=k) (by omega);have s:=mO a;have l: 0+ (k:Int).toNat= (k:Int).toNat:=by omega
  have g:=z k (by omega);have m:=lB (x:=(aI t.val k).2) (y:=e) g.2 h (by omega);have b:=mW (x:=(aI t.val k).1) (y:=tm (aI t.val k).2 e) g.1 (g.2.mul h) (by omega);have v:((t.val.take k).map (dh e)).length=k:=by simp;omega
  have B:bM 48 (((t.val.take k).map (dh e)).length+ [[tb (decide ((nv (dh e (aI t.val k))).num < 0)),T.str (bJ (dz (nv (dh e (aI t.val k))).num)),tb (nc (dh e (aI t.val k))),T.str (nd (dh e (aI t.val k)))]].length)=some ():=jb (by simp;omega);have q:aS ((t.val.take k).map (dh e))++ [[tb (decide ((nv (dh e (aI t.val k))).num < 0)),T.str (bJ (dz (nv (dh e (aI t.val k))).num)),tb (nc (dh e (aI t.val k))),T.str (nd (dh e (aI t.val k)))]]=aS ((t.val.take (k+1)).map (dh e)):=by rw [XE,a,W0,<-Cy];rfl
  have w:pl (aI t.val k).1 (tm (aI t.val k).2 e)=dh e (aI t.val k):=rfl;rw [w] at b;have:=A (k+1) (by omega);have j:decide (k+1=0)=false:=by simp
  rw [j] at this;simp only [Vc,Ve] at this;refine aj ?_;simp only [Vc,Ve];rw [HE];simp only [ai,↓reduceIte,GD,h1,p,and_self,l,s,m,b,bH,B,q,next k (by omega)];exact this
theorem Um{n:Nat}{rows:List R}(f:Fl)(t:TL){mv:Nat}(sz:Sz n rows)(b:t.val.length=n+rows.length)(c:∀u,u < n+rows.length->VB mv (aI t.val u))(hm:mv<=1000):
  Or (.call 42) [r0] (SP n rows f t)=
   some (T.aa 4 (decide (n=0)) (aS (cf n rows t.val)):: [ti (n:Int),T.aa 3 f.er (dK rows),T.ax,T.ax,bN f.ec (bK 0 t.al),T.ax,T.aa 4 f.eg (aS t.aB),T.aa 1 f.eb (cX t.ah),bS (bZ t.mp),T.aa 8 f.ev (eB t.val)]):=by
 have h:=sz.n;obtain⟨e,g⟩:=EP sz f.er f.eb f.ev f.eg t.ah t.val t.aB b c hm;have:=Un (rows:=rows) f t h b c g (by omega) n 0 (by omega);simp only [Vc,Ve,XI,XA] at this;have a:bO 0 (n:Int) (t.val.length:Int)=some ():=sI (by omega);have d:(n:Int).toNat - 0=n:=by omega
 refine aj ?_;rw [O6];simp only [ai,GD,e,cO,a,d];exact this
theorem RQ{n:Nat}{rows:List R}(sz:Sz n rows){val:List Vl}{mv:Nat}(d:val.length=n+rows.length)(a:∀u,u < n+rows.length->VB mv (aI val u))(hm:mv<=1000):∀x∈cf n rows val,QN (4 * mv+51) x:=by
 intro x f;obtain⟨v,hv,rfl⟩:=VJ.1 f;obtain⟨_,c⟩:=EP sz false false false false [] val [] d a hm;obtain⟨i,hi,e⟩:=WU (WZ hv);have b:aI val i=v:=by unfold aI;rw [U7,Vb hi];exact e
 have:=a i (by omega);rw [b] at this;exact(RR this c).mono (by omega)
open Go Go.Aev Go.Aev.Gen Go.Aev.Wd Go.Aev.Tb
theorem Kk{n:Nat}{rows:List R}(hn:n<=12)(hm:rows.length<=40)(ok:∀r∈rows,ei n r):gv n rows where
 sz:=⟨hn,hm,λr hr=>(ok r hr).tv⟩
 of:=λr hr=>(ok r hr).of
 len:=λr hr=>(ok r hr).len
 kd:=λr hr=>(ok r hr).kd
theorem DC{n:Nat}{rows:List R}{i:Nat}(hi:i < rows.length):(dN n rows).st.ah i=n+i:=by show(iV n rows.length).getD i 0=n+i;unfold iV;rw [U7,VS,Yz hi];rfl
theorem Ru{n:Nat}{rows:List R}(ro:gv n rows){i k:Nat}(hi:i < rows.length):(dN n rows).st.c i k=if k < n then(aM n rows).A i k else 0:=by
 show nv (aq (az (rows.map (gN n rows.length)) i) k)=_;have h1:az (rows.map (gN n rows.length)) i=gN n rows.length (bc rows i):=by unfold az bc;rw [U7,U7,VS,Vb hi];rfl
 rw [h1];have b:=ro.len _ (jy hi);unfold gN aq;rw [U7];show _=if k < n then(((bc rows i).of.getD k 0:Int):Rat) else 0;by_cases a:k < (bc rows i).of.length
 .rw [WH (by simpa using a),VS,Vb a,if_pos (by omega),U7,Vb a];rfl
 .have hz:nv (((List.map iN (bc rows i).of++List.replicate (n+rows.length - (bc rows i).of.length) none)[k]?).getD none)=0:=by
   rw [Wo (by simpa using a),Xa];split <;> rfl
  rw [hz];split
  .rw [U7,V8 (by omega)];rfl
  .rfl
theorem DD(n:Nat)(rows:List R)(v:Nat):aI (dN n rows).val v= (none,none):=by show aI (List.replicate (n+rows.length) (none,none)) v=_;unfold aI;rw [U7,Xa];split <;> rfl
theorem z9{n:Nat}{rows:List R}(ro:gv n rows):cr n rows (dN n rows):=by
 have hz:gr n rows.length (aM n rows).A (λ_=>0):=λi _=>(my (λk _=>WT _)).symm;have hy:(dN n rows).st.y=λ_=>0:=by funext v;show nv (aI (dN n rows).val v).1=0;rw [DD];rfl
 have f:(dN n rows).st.z=λ_=>0:=by funext v;show nv (aI (dN n rows).val v).2=0;rw [DD];rfl
 refine⟨⟨by simp [dN,iV],by simp [dN],λx j=> ?_,by simp [dN],λb hb=> ?_, ?_⟩,⟨?_,by rw [hy];exact hz,by rw [f];exact hz,λv hv hb=> ?_⟩,λi b hb=> ?_,λv hv=> ?_, ?_⟩
 .obtain⟨r,g,rfl⟩:=VJ.1 j;have:=ro.len r g;unfold gN;simp;omega
 .obtain⟨i,hi,rfl⟩:=VJ.1 hb;have:=Xw.1 hi;omega
 .show(List.map (λi=>n+i) (List.range rows.length)).Nodup;refine Xy.2 (λa b s hb o=> ?_);simp only [X7,XO];omega
 .refine WF.congr (λi hi=>(DC hi).symm) (λi k hi _=>(Ru ro hi).symm) (UR n rows.length (aM n rows).A)
 .have p:v < n+rows.length:=hv;have e:v < n:=by
   refine Nat.lt_of_not_le λh=>hb (v - n) (show v - n < rows.length by omega) ?_;rw [DC (by omega)];omega
  have d:v < (aM n rows).n:=e;unfold Sy.fx;rw [if_pos d];show vv (aI (dN n rows).val v)=_;rw [DD];rfl
 .show cv b (iO n rows.length)=some i;have hi:i < rows.length:=by
   have:=(Vh.1 hb).1;simpa [dN,iV] using this
  have c:b=n+i:=by have:=jg (t:=dN n rows) (i:=i) (by simp [dN,iV];exact hi);rw [hb,DC hi] at this;exact V5 this
  rw [Di,c,if_pos (by omega)];congr 1;omega
 .show cv v (iO n rows.length)=none;rw [Di,if_neg];rintro⟨h1,q⟩;exact hv (VJ.2 ⟨v - n,Xw.2 (by omega),by omega⟩)
 .show oE (iO n rows.length);generalize rows.length=m;induction m with
  | zero=>exact trivial
  | succ m l=>rw [<-J9];exact Dd _ _ _ l
theorem PZ{n:Nat}{rows:List R}(ro:gv n rows):∀(p:Nat) (t:TL),cr n rows t->
  cr n rows (cI n rows true p t).2.2/\(cI n rows true p t).2.2.aB=t.aB\/(cI n rows true p t).1.isSome=true/\cr n rows (cI n rows true p t).2.2/\(cI n rows true p t).2.2.aB=t.aB:=by
 intro p;induction p using Nat.strongRecOn with
 | _ p e=>
 intro t h;rcases pU h with⟨_,hb⟩ | ⟨i,hi,b,a,hb,d⟩
 .rw [qm true _ hb];exact .inl ⟨h,rfl⟩
 .cases p with
  | zero=>rw [sF true hb];exact .inl ⟨h,rfl⟩
  | succ p=>
   rw [sE true p hb d];cases c:aW n rows t.val (bF n rows t (t.st.ah i)) (az t.al i) 0 with
   | none=>exact .inl ⟨h,rfl⟩
   | some v=>obtain⟨g,e2,_⟩:=kW c;obtain⟨f,_⟩:=h.step true hi (v:=v) (by have:=h.aZ.row hi;omega) b c a;exact e p (Xc p) _ f
theorem CZ{n:Nat}{rows:List R}(ro:gv n rows)(p:Nat){t:TL}(h:cr n rows t):cr n rows (cI n rows true p t).2.2:=by
 rcases PZ ro p t h with h | h
 .exact h.1
 .exact h.2.1
theorem Ih{n:Nat}{rows:List R}(ro:gv n rows):∀(p:Nat) (t:TL),cr n rows t->(cI n rows true p t).1=none->(cI n rows true p t).2.1=true->
  ∀j,j < rows.length->¬(aM n rows).gD (cI n rows true p t).2.2.st ((cI n rows true p t).2.2.st.ah j):=by
 intro p;induction p using Nat.strongRecOn with
 | _ p g=>
 intro t h h1 a;rcases pU h with⟨e,hb⟩ | ⟨i,hi,d,c,hb,f⟩
 .rw [qm true _ hb];exact e
 .cases p with
  | zero=>rw [sF true hb] at a;cases a
  | succ p=>
   rw [sE true p hb f] at h1 a⊢;cases b:aW n rows t.val (bF n rows t (t.st.ah i)) (az t.al i) 0 with
   | none=>rw [b] at h1;cases h1
   | some v=>rw [b] at h1 a;obtain⟨l,e2,_⟩:=kW b;obtain⟨k,_⟩:=h.step true hi (v:=v) (by have:=h.aZ.row hi;omega) d b c;exact g p (Xc p) _ k h1 a
theorem HT{n:Nat}{rows:List R}{t:TL}(h:cr n rows t)(k2:∀r∈rows,r.kd≠2)(o:∀j,j < rows.length->¬(aM n rows).gD t.st (t.st.ah j)):(aM n rows).rf t.st:=by
 intro v b d;have s:n<=v:=b;have l:v < n+rows.length:=d;have hz:=z0 h k2 l;have q:=k2 _ (jy (rows:=rows) (i:=v - n) (by omega));have c:(aM n rows).up v= ((aM n rows).to (v - n),0):=Ys rfl (if_neg q);show t.st.y v<=(aM n rows).to (v - n)/\((aM n rows).kd (v - n)=3->t.st.y v= (aM n rows).to (v - n));by_cases hb:∃j,j < rows.length/\t.st.ah j=v
 .obtain⟨j,k,e⟩:=hb;have a:=o j k;rw [e] at a;unfold Sy.gD at a;rw [c] at a;unfold eY cD.val at a;rw [hz] at a;have u:¬(aM n rows).to (v - n) < t.st.y v:=λf=>a ⟨b, .inl (.inl f)⟩;refine⟨by grind,λm=> ?_⟩;have w:¬t.st.y v < (aM n rows).to (v - n):=λf=>a ⟨b, .inr ⟨m, .inl f⟩⟩;grind
 .have g:=h.ok.fix v d (λj k e=>hb ⟨j,k,e⟩);unfold Sy.fx at g;have p:¬v < (aM n rows).n:=Xu.2 b;rw [if_neg p,c] at g;have hy:t.st.y v= (aM n rows).to (v - n):=congrArg Prod.fst g;exact⟨by rw [hy];exact XM,λ_=>hy⟩
theorem QT{n:Nat}{rows:List R}{gl:List Int}(go:ir n rows gl):∀(p:Nat) (t:TL),fm n rows gl t->fm n rows gl (dM n rows p t).2.2.2:=by
 intro p;induction p using Nat.strongRecOn with
 | _ p c=>
 intro t h;cases a:aW n rows t.val 1 t.aB 0 with
 | none=>rw [mS p a];exact h
 | some v=>
  cases p with
  | zero=>rw [qC a];exact h
  | succ p=>
   cases b:(br n rows t v (nv (aq t.aB v)).num.sign).2.2
   .rw [qA p a b];exact h
   .rw [qB p a b];exact c p (Xc p) _ (h.step go a b).1
abbrev vh(n:Nat)(rows:List R)(gl:List Int)(t:TL):TL:={t with aB:=js t gl 0 (List.replicate (n+rows.length) none)}
def lF(l:List Nm):T:=T.aa 2 (decide (l= [])) (fW (l.map b8))
def dH(l:List Nm):Bool:=l.all λx=>de (nv x)
def qz:List T:= [ti 0,ti 0,ti 0,T.aJ true,T.aJ true,ti 10,ti 0]
def zK:List T:= [ti 4,ti 0,ti 0,T.aJ true,T.aJ true,ti 0,ti 0]
def gZ(gl:List Int)(l:List Nm):Rat:=bo gl (l.map nv)
def sO(n:Nat)(rows:List R)(gl:List Int)(r:Option (List Nm)×Option (List Nm)×Bool×TL):List T:=
 match r with
 | (_,_,false,_)=>zK
 | (_,some l,true,_)=>if dH l=true then [ti 3,ti 0,ti 0,lF l,T.aJ true,ti 0,ti 0] else qz
 | (some l,none,true,t)=>if(de (gZ gl (cf n rows t.val)) && dH (cf n rows t.val) && dH l)=true then
   [ti 1,ti (gZ gl (cf n rows t.val)).num,ti ((gZ gl (cf n rows t.val)).den:Int),lF (cf n rows t.val),lF l,ti 0,ti 0] else qz
 | (none,none,true,_)=> []
def nD(n:Nat)(rows:List R)(gl:List Int)(p:Nat):List T:=
 match cI n rows true p (dN n rows) with
 | (_,false,_)=>zK
 | (some l,true,_)=>if dH l=true then [ti 2,ti 0,ti 0,T.aJ true,lF l,ti 0,ti 0] else qz
 | (none,true,t)=>sO n rows gl (dM n rows p (vh n rows gl t))
theorem Fw(e:Nm)(v:Vl)(h:nv v.2=0):nv (dh e v)=nv v.1:=by show nv v.1+nv v.2 * nv e=nv v.1;rw [h];grind
theorem Sa{n:Nat}(m:Nat){ak:Int}(i:ak=1\/ak= -1)(b:Nat){row:List Nm}{mc:Nat}(g:∀x∈row,QN mc x):∀y∈jw n m ak b row,QN (mc+2) y:=by
 have hs:QN 2 (iN (-ak)):=by rcases i with rfl | rfl <;> exact eM (by decide)
 have e:∀(xs:List Nm) (v:Nat) (a:List Nm),(∀x∈xs,QN mc x)->(∀y∈a,QN (mc+2) y)->∀y∈ij n (iN (-ak)) xs v a,QN (mc+2) y:=by
  intro xs;induction xs with
  | nil=>intro v a _ c;exact c
  | cons x xs f=>
   intro v a d c;rw [ij];split
   .exact f _ _ (λx h=>d x (Va _ h)) c
   .refine f _ _ (λx h=>d x (Va _ h)) (λy hy=> ?_);rcases VR hy with hy | hy
    .exact c y hy
    .subst hy;exact((d x U9).mul hs).neg
 refine e row 0 _ g (λy hy=> ?_);rcases VR hy with hy | hy
 .rw [WN hy];exact iC _
 .subst hy;exact hs.mono (by omega)
theorem CY{n:Nat}{rows:List R}(ro:gv n rows):∀(p:Nat) (t:TL),cr n rows t->∀l,(cI n rows true p t).1=some l->l.length=rows.length/\∀y∈l,QN 272 y:=by
 intro p;induction p using Nat.strongRecOn with
 | _ p g=>
 intro t h l a;rcases pU h with⟨_,hb⟩ | ⟨i,hi,e,d,hb,f⟩
 .rw [qm true _ hb] at a;cases a
 .cases p with
  | zero=>rw [sF true hb] at a;cases a
  | succ p=>
   rw [sE true p hb f] at a;cases b:aW n rows t.val (bF n rows t (t.st.ah i)) (az t.al i) 0 with
   | none=>rw [b] at a;obtain rfl:=V5 a;refine⟨?_,Sa rows.length (AY n rows t _) _ (h.al ro _ (U8 (jm (by rw [h.aZ.c];exact hi))))⟩;unfold jw;rw [D8];simp
   | some v=>rw [b] at a;obtain⟨k,e2,_⟩:=kW b;obtain⟨j,_⟩:=h.step true hi (v:=v) (by have:=h.aZ.row hi;omega) e b d;exact g p (Xc p) _ j l a
theorem Jc{n:Nat}{rows:List R}{gl:List Int}(go:ir n rows gl):∀(p:Nat) (t:TL),fm n rows gl t->
  (∀l,(dM n rows p t).1=some l->l.length=rows.length/\∀y∈l,QN 272 y)/\(∀l,(dM n rows p t).2.1=some l->l.length=n/\∀y∈l,QN 272 y):=by
 intro p;induction p using Nat.strongRecOn with
 | _ p o=>
 intro t h;cases b:aW n rows t.val 1 t.aB 0 with
 | none=>rw [mS p b];refine⟨λl a=> ?_,(λl a=>by cases a)⟩;obtain rfl:=V5 a;have g:=h.len;exact⟨by simp;omega,λy hy=>(h.gq go y (Xm hy)).mono (by omega)⟩
 | some v=>
  cases p with
  | zero=>rw [qC b];exact⟨(λl a=>by cases a),(λl a=>by cases a)⟩
  | succ p=>
   cases d:(br n rows t v (nv (aq t.aB v)).num.sign).2.2
   .rw [qA p b d];refine⟨(λl a=>by cases a),λl a=> ?_⟩;obtain rfl:=V5 a;obtain⟨_,e2,e3,_,_⟩:=kW b;rw [Ws] at e3;rw [VM,h.len] at e2;have m:=wv e3;have f:QN 2 (iN (nv (aq t.aB v)).num.sign):=by rcases m with e | e <;> rw [e] <;> exact eM (by decide)
    have base:∀y∈(List.range n).map (iP t v (nv (aq t.aB v)).num.sign),QN 272 y:=by
     intro y hy;obtain⟨k,_,rfl⟩:=VJ.1 hy;unfold iP;cases a:cv k t.mp with
     | none=>exact iC _
     | some i=>have hi:=h.tok.vB a;have j:=h.tok.aZ.row hi;exact(h.tok.al go.ro _ (U8 (jm (by rw [h.tok.aZ.c];exact hi))) _ (U8 (gL (by omega)))).mul f
    unfold jV;split
    .refine⟨by simp,λy hy=> ?_⟩;rcases VR hy with hy | hy
     .exact base y hy
     .subst hy;exact f.mono (by omega)
    .exact⟨by simp,base⟩
   .rw [qB p b d];exact o p (Xc p) _ (h.step go b d).1
theorem RS{n:Nat}{rows:List R}{t:TL}(ro:gv n rows)(h:cr n rows t)(k2:∀r∈rows,r.kd≠2):∀x∈cf n rows t.val,QN 300 x:=by
 intro x c;obtain⟨v,hv,rfl⟩:=VJ.1 c;obtain⟨i,hi,e⟩:=WU (WZ hv);have d:=h.aZ.v;have b:aI t.val i=v:=by unfold aI;rw [U7,Vb hi];exact e
 have a:=h.val ro i (by omega);have hz:nv (aI t.val i).2=0:=z0 h k2 (by omega);rw [b] at a hz;show QB 300 (nv (dh _ v));rw [Fw _ v hz];exact a.1
open Go Go.Aev Go.Aev.Gen Go.Aev.Wd Go.Aev.Tb
theorem De(l:List Nm):lF l=T.aa 2 (decide (l= [])) (fW (l.map b8)):=rfl
theorem Jd{n:Nat}{rows:List R}:∀(p:Nat) (t:TL),(dM n rows p t).2.2.1=true->(dM n rows p t).1=none->(dM n rows p t).2.1=none->False:=by
 intro p;induction p with
 | zero=>
  intro t h1 a c;cases b:aW n rows t.val 1 t.aB 0 with
  | none=>rw [mS 0 b] at a;cases a
  | some v=>rw [qC b] at h1;cases h1
 | succ p e=>
  intro t h1 a c;cases b:aW n rows t.val 1 t.aB 0 with
  | none=>rw [mS _ b] at a;cases a
  | some v=>
   cases d:(br n rows t v (nv (aq t.aB v)).num.sign).2.2
   .rw [qA p b d] at c;cases c
   .rw [qB p b d] at h1 a c;exact e _ h1 a c
section
variable {n:Nat} {rows:List R} {gl:List Int}
set_option maxRecDepth 20000 in
theorem TX(a:Bool)(eg:Bool)(go:ir n rows gl)(p:Nat)(hp:p<=2000):
  aw an ann Or (.call 13) [LR a rows,I (n:Int),aa eg gl,I (p:Int)] []=some (nD n rows gl p)\/(ez (n:Int) rows gl).1≠0\/¬Or (.call 24) [LR a rows,I (n:Int),aa eg gl] []=fl (ez (n:Int) rows gl):=by
 by_cases q:(ez (n:Int) rows gl).1=0
 .by_cases d:Or (.call 24) [LR a rows,I (n:Int),aa eg gl] []=fl (ez (n:Int) rows gl)
  .refine .inl ?_;have ro:=go.ro;have hn:=ro.sz.n;have hm:=ro.sz.m;have f:¬(p:Int) < 0:=by omega
   have g:¬(p:Int) > 2000:=by omega
   have e:=Lz a ro;have t:=z9 ro;have c:=LA (n:=n) (rows:=rows) (mU a rows) ro rfl p (dN n rows) (by omega) t;have A:=λl=>CY ro p (dN n rows) t l;have u:=CZ ro p t;have E:=Ih ro p (dN n rows) t;unfold nD;generalize cI n rows true p (dN n rows)=r1 at c A u E⊢;obtain⟨no,done,S⟩:=r1;simp only at c A u E;rw [DL] at e;rw [eE] at c;rw [CE];cases done with
   | false=>simp only [ai,↓reduceIte,GD,dZ,d,q,f,g,decide_false,e,dY,dB,Vf,cM,c];cases no <;> (simp only [e9,ai];rfl)
   | true=>
    cases no with
    | some l=>
     have b:=qV false l (by have:=(A l rfl).1;omega) (A l rfl).2 (by omega);simp only;cases w:dH l
     .have o:(l.all λx=>de (nv x))=false:=w;rw [o] at b;simp only [ai,↓reduceIte,GD,dZ,e9,d,q,f,g,decide_false,e,dY,dB,Vf,cM,c,b];rfl
     .have o:(l.all λx=>de (nv x))=true:=w;rw [o] at b;simp only [ai,↓reduceIte,GD,dZ,e9,d,q,f,g,decide_false,e,dY,dB,Vf,cM,c,b];rfl
    | none=>
     have M:=HT u go.k2 (E rfl rfl);have i:=Ue (n:=n) (rows:=rows) (gl:=gl) (mU a rows) go eg p S (by omega) u M;have T:=C1 u M go.gl;have B:=Jc go p _ T;have s:=QT go p _ T;have D:=Jd (n:=n) (rows:=rows) p (vh n rows gl S);simp only;generalize dM n rows p (vh n rows gl S)=V at i B s D⊢;obtain⟨C,U,H,r⟩:=V;simp only at B s D;unfold sP at i;rw [qG] at i;cases H with
     | false=>cases C <;> cases U <;> (simp only [ai,↓reduceIte,GD,dZ,e9,d,q,f,g,decide_false,e,dY,dB,Vf,cM,c,i];rfl)
     | true=>
      cases U with
      | some l=>
       have G:=B.2 l rfl;have b:=qV false l (by omega) G.2 (by omega);cases w:dH l
       .have o:(l.all λx=>de (nv x))=false:=w;rw [o] at b;cases C <;> (simp only [ai,↓reduceIte,GD,dZ,e9,d,q,f,g,decide_false,e,dY,dB,Vf,cM,c,i,b,sO,w];rfl)
       .have o:(l.all λx=>de (nv x))=true:=w;rw [o] at b;cases C <;> (simp only [ai,↓reduceIte,GD,dZ,e9,d,q,f,g,decide_false,e,dY,dB,Vf,cM,c,i,b,sO,w];rfl)
      | none=>
       cases C with
       | none=>exact(D rfl rfl rfl).elim
       | some l=>
        have G:=B.1 l rfl;have b:=qV false l (by omega) G.2 (by omega);have N:=RS ro s.tok go.k2;have hpl:(cf n rows r.val).length=n:=by have:=s.tok.aZ.v;unfold cf;simp;omega
        have z:=Um (rows:=rows) ⟨(mU a rows).er,(mU a rows).eb,(mU a rows).ec,(mU a rows).ev,false⟩ r ro.sz s.tok.aZ.v (s.tok.val ro) (by omega);obtain⟨y,J,W,X⟩:=EM eg (decide (n=0)) gl (cf n rows r.val) go.gb (by have:=go.gl;omega) (by have:=go.gl;omega) N (by omega);have k:=JT X (by omega);have j:=qV (decide (n=0)) (cf n rows r.val) (by omega) N (by omega);have hy:nv y=gZ gl (cf n rows r.val):=W;have F:de (nv y)=true->(b8 y).1= (gZ gl (cf n rows r.val)).num/\(b8 y).2= ((gZ gl (cf n rows r.val)).den:Int):=λh=>by unfold b8;rw [if_pos h,hy];exact⟨rfl,rfl⟩
        rw [hy] at F k;have P:((cf n rows r.val).all λx=>de (nv x))=dH (cf n rows r.val):=rfl;have O:(l.all λx=>de (nv x))=dH l:=rfl;rw [P] at j;rw [O] at b;simp only [sO];cases Q:de (gZ gl (cf n rows r.val)) with
        | false=>rw [Q] at k;simp only [ai,↓reduceIte,GD,dZ,e9,d,q,f,g,decide_false,e,dY,dB,Vf,cM,c,i,z,J,k,j,b];rfl
        | true=>
         rw [Q] at k;obtain⟨Y,Z⟩:=F Q;rw [Y,Z] at k;cases L:dH (cf n rows r.val) with
         | false=>rw [L] at j;simp only [ai,↓reduceIte,GD,dZ,e9,d,q,f,g,decide_false,e,dY,dB,Vf,cM,c,i,z,J,k,j,b];rfl
         | true=>
          rw [L] at j;cases K:dH l with
          | false=>rw [K] at b;simp only [ai,↓reduceIte,GD,dZ,e9,d,q,f,g,decide_false,e,dY,dB,Vf,cM,c,i,z,J,k,j,b];rfl
          | true=>rw [K] at b;simp only [ai,↓reduceIte,GD,dZ,e9,d,q,f,g,decide_false,e,dY,dB,Vf,cM,c,i,z,J,k,j,b];rfl
  .exact .inr (.inr d)
 .exact .inr (.inl q)
end
def zp(e:Int×Int):List T:= [ti 0,ti 0,ti 0,T.aJ true,T.aJ true,ti e.1,ti e.2]
theorem It{n:Int}{rows:List R}{gl:List Int}(b:∀r∈rows,r.e=true->r.of= [])(h:(ez n rows gl).1=0):((n.toNat:Nat):Int)=n/\ir n.toNat rows gl:=by obtain⟨_,d,c,a,ok,k2,f,hb⟩:=pX b h;exact⟨by omega,Kk (by omega) a ok,k2,hb,by omega⟩
set_option maxRecDepth 20000 in
theorem TW(rows:List R)(er eg:Bool)(n:Int)(gl:List Int)(p:Int)(f:∀r∈rows,r.e=true->r.of= []):Or (.call 13) [LR er rows,I n,aa eg gl,I p] []=
  some (if(ez n rows gl).1≠0 then zp (ez n rows gl) else if p < 0\/p > 2000 then zp (3, -1) else nD n.toNat rows gl p.toNat):=by
 have c:=EL rows er eg n gl f;by_cases h:(ez n rows gl).1=0
 .rw [if_neg (by omega)];obtain⟨d,go⟩:=It f h;by_cases b:p < 0\/p > 2000
  .rw [if_pos b];refine aj ?_;rw [CE];rcases b with b | b
   .simp only [ai,↓reduceIte,GD,c,h,b];rfl
   .have g:¬p < 0:=by omega
    simp only [ai,↓reduceIte,GD,c,h,b,g];rfl
  .rw [if_neg b];rcases TX (n:=n.toNat) (rows:=rows) (gl:=gl) er eg go p.toNat (by omega) with a | a | a
   .rw [d,show((p.toNat:Nat):Int)=p by omega] at a;exact aj a
   .rw [d] at a;exact absurd h a
   .rw [d] at a;exact absurd c a
 .rw [if_pos h];refine aj ?_;rw [CE];simp only [ai,↓reduceIte,GD,c,h];rfl
open Go Go.Aev Go.Aev.Gen
noncomputable abbrev LV:Key:=aQ an 14 true 2 [(0,none),(3,none)] (0,0)
noncomputable abbrev xW:Key:=aQ an 22 true 2 [(0,none),(1,none),(2,none),(7,none)] (0,0)
noncomputable abbrev xX:Key:=aQ an 22 true 7 [(0,none),(1,none),(2,none),(8,none)] (0,0)
noncomputable abbrev yd:Key:=aQ an 42 true 4 [(3,none),(4,some 4),(17,none),(18,none),(19,none)] (6,5007)
theorem Gv(O:ar)(a:Bool)(b:JL):aw an ann O (Key.call 14) [Jl 2 a b] []=
 (O LV [Jl 2 a b,I 0] []):=by kernel_rfl
theorem Pd(O:ar)(er eg:Bool)(r g:JL)(n k:Int):aw an ann O (Key.call 6) [Jl 3 er r,I n,Jl 1 eg g,I k] []=
 (G3 (O (.call 7) [] []) λb=>bif !b then some [Jb false] else xd (O (.call 13) [Jl 3 er r,I n,Jl 1 eg g,I k] []) λl f c d=>rr (List.drop 2 l.tail).head? λp=>rr (List.drop 2 l.tail).tail.head? λa=>jH (List.drop 2 l.tail).tail.tail.head? λh=>jH (List.drop 2 l.tail).tail.tail.tail.head? λj=>G0 (O (.call 20) [Jl 3 er r,I n,Jl 1 eg g] []) λm q=>bif bif m==0 then bif decide (k < 0) then true else decide (k > 2000) else false then G0 (O (.call 21) [I 3,I (-1)] []) λe o=>bif bif !e==0 then true else !h==0 then tN (some (bif !(h==e && (j==o && true)) then e==0 else false)) (bR (some (bif !(h==e && (j==o && true)) then e==0 else false)) (O (.call 21) [I 10,I 0] [])) λn i=>some [Jb (bif bif bif bif h==e && (j==o && true) then true else bif e==0 then h==n && (j==i && true) else false then f==0 else false then c==0 && (d==0 && true) else false then i64.wrap ((p.snd.length:Int)+ (a.snd.length:Int))==0 else false)] else bif f==1 then G0 (O (.call 10) [Jl 3 er r,I n,Jl 1 eg g,AV.agg [I c,I d],Jl 2 p.fst p.snd,Jl 2 a.fst a.snd] []) λi s=>G5 (some (i==0)) (bR (some (i==0)) (O (.call 11) [Jl 3 er r,I n,Jl 1 eg g,AV.agg [I c,I d],Jl 2 p.fst p.snd,Jl 2 a.fst a.snd] [])) λb=>some [Jb (bif i==0 then b else false)] else bif f==2 then G5 (some (bif bif c==0 && (d==0 && true) then(p.snd.length:Int)==0 else false then(a.snd.length:Int)== (r.length:Int) else false)) (bR (some (bif bif c==0 && (d==0 && true) then(p.snd.length:Int)==0 else false then(a.snd.length:Int)== (r.length:Int) else false)) (O (.call 22) [Jl 3 er r,I n,Jl 2 a.fst a.snd] [])) λb=>some [Jb (bif bif bif c==0 && (d==0 && true) then(p.snd.length:Int)==0 else false then(a.snd.length:Int)== (r.length:Int) else false then b else false)] else bif f==3 then G5 (some !bif bif !(c==0 && (d==0 && true)) then true else !(p.snd.length:Int)==n then true else !(a.snd.length:Int)==0) (bR (some !bif bif !(c==0 && (d==0 && true)) then true else !(p.snd.length:Int)==n then true else !(a.snd.length:Int)==0) (O (.call 12) [Jl 3 er r,Jl 1 eg g,Jl 2 p.fst p.snd] [])) λb=>bif bif bif bif !(c==0 && (d==0 && true)) then true else !(p.snd.length:Int)==n then true else !(a.snd.length:Int)==0 then true else !b then some [Jb false] else xe (O (.call 23) [Jl 3 er r,I n,I 2000] []) λn p p i s=>some [Jb (bif !i==0 then true else !n==2)] else some [Jb (bif bif f==4 then c==0 && (d==0 && true) else false then i64.wrap ((p.snd.length:Int)+ (a.snd.length:Int))==0 else false)] else bif bif !m==0 then true else !h==0 then tN (some (bif !(h==m && (j==q && true)) then m==0 else false)) (bR (some (bif !(h==m && (j==q && true)) then m==0 else false)) (O (.call 21) [I 10,I 0] [])) λn e=>some [Jb (bif bif bif bif h==m && (j==q && true) then true else bif m==0 then h==n && (j==e && true) else false then f==0 else false then c==0 && (d==0 && true) else false then i64.wrap ((p.snd.length:Int)+ (a.snd.length:Int))==0 else false)] else bif f==1 then G0 (O (.call 10) [Jl 3 er r,I n,Jl 1 eg g,AV.agg [I c,I d],Jl 2 p.fst p.snd,Jl 2 a.fst a.snd] []) λe o=>G5 (some (e==0)) (bR (some (e==0)) (O (.call 11) [Jl 3 er r,I n,Jl 1 eg g,AV.agg [I c,I d],Jl 2 p.fst p.snd,Jl 2 a.fst a.snd] [])) λb=>some [Jb (bif e==0 then b else false)] else bif f==2 then G5 (some (bif bif c==0 && (d==0 && true) then(p.snd.length:Int)==0 else false then(a.snd.length:Int)== (r.length:Int) else false)) (bR (some (bif bif c==0 && (d==0 && true) then(p.snd.length:Int)==0 else false then(a.snd.length:Int)== (r.length:Int) else false)) (O (.call 22) [Jl 3 er r,I n,Jl 2 a.fst a.snd] [])) λb=>some [Jb (bif bif bif c==0 && (d==0 && true) then(p.snd.length:Int)==0 else false then(a.snd.length:Int)== (r.length:Int) else false then b else false)] else bif f==3 then G5 (some !bif bif !(c==0 && (d==0 && true)) then true else !(p.snd.length:Int)==n then true else !(a.snd.length:Int)==0) (bR (some !bif bif !(c==0 && (d==0 && true)) then true else !(p.snd.length:Int)==n then true else !(a.snd.length:Int)==0) (O (.call 12) [Jl 3 er r,Jl 1 eg g,Jl 2 p.fst p.snd] [])) λb=>bif bif bif bif !(c==0 && (d==0 && true)) then true else !(p.snd.length:Int)==n then true else !(a.snd.length:Int)==0 then true else !b then some [Jb false] else xe (O (.call 23) [Jl 3 er r,I n,I 2000] []) λn p p e o=>some [Jb (bif !e==0 then true else !n==2)] else some [Jb (bif bif f==4 then c==0 && (d==0 && true) else false then i64.wrap ((p.snd.length:Int)+ (a.snd.length:Int))==0 else false)]):=by kernel_rfl
theorem ON(O:ar)(a b:Bool)(c e:JL)(d:Int):aw an ann O (Key.call 22) [Jl 3 a c,I d,Jl 2 b e] []=
 (O xW [Jl 3 a c,I d,Jl 2 b e,I 0] []):=by kernel_rfl
theorem CF(O:ar)(a b:Bool)(c e:JL)(f d:Int):aw an ann O xW [Jl 3 a c,I f,Jl 2 b e,I d] []=
 (bif decide (d < (c.length:Int)) then tP d c λn=>nk (some !n==3) d e λg=>bif bif !n==3 then decide (g < 0) else false then some [Jb false] else O xW [Jl 3 a c,I f,Jl 2 b e,I (Jw d)] [] else O xX [Jl 3 a c,I f,Jl 2 b e,I 0] []):=by kernel_rfl
theorem Ht(O:ar)(a c:Bool)(e f:JL)(d g:Int):aw an ann O xX [Jl 3 a e,I d,Jl 2 c f,I g] []=
 (bif decide (g < d) then bX (O (.call 35) [Jl 3 a e,I d,Jl 2 c f,I g] []) λx=>G9 (O (.call 37) [AV.t x] []) λn=>bif !n==0 then some [Jb false] else O xX [Jl 3 a e,I d,Jl 2 c f,I (Jw g)] [] else bX (O (.call 35) [Jl 3 a e,I d,Jl 2 c f,I d] []) λx=>G9 (O (.call 37) [AV.t x] []) λn=>G5 (some (bif !decide (n < 0) then n==0 else false)) (bR (some (bif !decide (n < 0) then n==0 else false)) (O (.call 51) [Jl 3 a e,Jl 2 c f] [])) λb=>some [Jb (bif decide (n < 0) then true else bif n==0 then b else false)]):=by kernel_rfl
theorem OO(O:ar)(er:Bool)(r:JL)(n k:Int):aw an ann O (Key.call 23) [Jl 3 er r,I n,I k] []=
 (G0 (O (.call 52) [Jl 3 er r,I n] []) λd q=>bif !d==0 then some [Ji 0,T.aJ true,T.aJ true,Ji d,Ji q] else bif bif decide (k < 0) then true else decide (k > 2000) then some [Ji 0,T.aJ true,T.aJ true,Ji 3,Ji (-1)] else wU (O (.call 38) [Jl 3 er r,I n] []) λn p e m a f g=>wV (O (.call 39) [Jr 0,I k] (Y0 n p.fst p.snd e.fst e.snd m a.fst a.snd.length a.snd f.fst f.snd g.fst g.snd)) λp b n h c i o j l=>bif !b then some [Ji 3,T.aJ true,T.aJ true,Ji 0,Ji 0] else bif !p.fst then nn (O (.call 40) [Jl 4 p.fst p.snd] []) λp b=>bif !b then some [Ji 0,T.aJ true,T.aJ true,Ji 10,Ji 0] else some [Ji 2,T.aJ true,T.aa 2 p.fst p.snd,Ji 0,Ji 0] else nn (O (.call 40) [Jl 4 p.fst p.snd] []) λp b=>lN (O (.call 42) [Jr 0] (Y0 n h.fst h.snd i.fst i.snd o c.fst c.snd.length c.snd j.fst j.snd l.fst l.snd)) λp n s t u x v w=>nn (O (.call 40) [Jl 4 p.fst p.snd] []) λp b=>bif !b then some [Ji 0,T.aJ true,T.aJ true,Ji 10,Ji 0] else some [Ji 1,T.aa 2 p.fst p.snd,T.aJ true,Ji 0,Ji 0]):=by kernel_rfl
theorem O7(O:ar)(a:Int)(d f k g h:Bool)(e m j o:JL)(q:List (List T×T))(l:Nat)(r:List Row):aw an ann O (Key.call 42) [Jr 0] (Y0 a d e f m q k l r g j h o)=
 (aX (O (.call 88) [AV.t (T.ptr [Ji a,T.aa 3 d e,T.aa 1 f m,T.any,T.any,T.aa 8 g j,T.aa 4 h o])] []) λb s p u=>Jg (bO 0 a (j.length:Int)) λx=>O yd [Jr 6,Jo 7,AV.part (Id.c 4) 8 0 (a.toNat - 0),I (↑(a.toNat - 0):Int),I 0] [ab.box [I a,Jl 3 d e,Jo 1,Jo 2,Jo 3,Jo 4,Jo 5],ab.sl false 1 f m,ab.mp false [Ck.i i64] (Ck.i i64) q,ab.rows k 1 0 4 l r,ab.sl false 8 g j,ab.sl false 4 h o,ab.box [B b,Js s,B p,Js u],ab.sl false 4 true []]):=by kernel_rfl
theorem HF(O:ar)(t l C:Nat)(u a e:Int)(d m o p q g j r:Bool)(f D w F y:JL)(E:List (List T×T))(v:List Row)(h k:ByteArray):aw an ann O yd [Jr 6,Jo 7,AV.part (Id.c 4) 8 t l,I u,I a] [ab.box [I e,Jl 3 d f,Jo 1,Jo 2,Jo 3,Jo 4,Jo 5],ab.sl false 1 m D,ab.mp false [Ck.i i64] (Ck.i i64) E,ab.rows o 1 0 4 C v,ab.sl false 8 p w,ab.sl false 4 q F,ab.box [B g,Js h,B j,Js k],ab.sl false 4 r y]=
 (bif decide (a < u) then Jg (if 0<=a/\a < (↑l:Int) then some () else none) λx=>wY w[t+a.toNat]? λb s G M H N J P=>aX (O (.call 64) [Ja H N J P,Ja g h j k] []) λK Q L S=>aX (O (.call 63) [Ja b s G M,Ja K Q L S] []) λb s z A=>Jg (bM 48 (y.length+ [[Jb b,T.str s,Jb z,T.str A]].length)) λx=>O yd [Jr 6,Jo 7,AV.part (Id.c 4) 8 t l,I u,I (Jw a)] [ab.box [I e,Jl 3 d f,Jo 1,Jo 2,Jo 3,Jo 4,Jo 5],ab.sl false 1 m D,ab.mp false [Ck.i i64] (Ck.i i64) E,ab.rows o 1 0 4 C v,ab.sl false 8 p w,ab.sl false 4 q F,ab.box [B g,Js h,B j,Js k],ab.sl false 4 (r && false) (y++ [[Jb b,T.str s,Jb z,T.str A]])] else Jg (if bP v=true then some () else none) λx=>some [T.aa 4 r y,Ji e,T.aa 3 d f,T.ax,T.ax,bN o v,T.ax,T.ax,T.aa 1 m D,bS E,T.aa 8 p w,T.aa 4 q F]):=by kernel_rfl
end Go.Aev.Wd.Lg
