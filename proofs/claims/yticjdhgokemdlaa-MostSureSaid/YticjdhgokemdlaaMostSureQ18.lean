import Derived.Test.YticjdhgokemdlaaMostSureQ16
import Derived.Test.YticjdhgokemdlaaMostSureQ6
set_option linter.all false
namespace Go.Aev.Wd.Lg
open Go Go.Aev Go.Aev.Gen Go.Aev.Wd Go.Aev.Tb Go.IntKind
def iF(n:Nat)(rows:List R)(val:List Vl)(v:Nat)(o:Nm):Nm:=
 if v < n then o else
 if 0 < nv (aG val v).2 - nv (bu n rows v).2/\0 < nv (bu n rows v).1 - nv (aG val v).1/\(nv (bu n rows v).1 - nv (aG val v).1) / (nv (aG val v).2 - nv (bu n rows v).2) < nv o
 then ov (mi (bu n rows v).1 (aG val v).1) (mi (aG val v).2 (bu n rows v).2) else o
def qp(n:Nat)(rows:List R)(val:List Vl):Nat->Nat->Nm->Nm
 | 0,_,o=>o
 | d+1,v,o=>qp n rows val d (v+1) (iF n rows val v o)
def nf(n:Nat)(rows:List R)(val:List Vl):Nm:=qp n rows val val.length 0 (iN 1)
theorem Rd{n:Nat}{rows:List R}(sz:Sz n rows){val:List Vl}{mv:Nat}{v:Nat}(hv:v < n+rows.length)(c:VB mv (aG val v)){o:Nm}(b:QN (2 * mv+50) o)(hm:mv<=1000):QN (2 * mv+50) (iF n rows val v o):=by
 unfold iF;split
 .exact b
 .split
  .rename_i a;have d:=qz sz hv;have q1:QN (20+mv+1) (mi (bu n rows v).1 (aG val v).1):=d.1.sub c.1;have f:QN (mv+20+1) (mi (aG val v).2 (bu n rows v).2):=c.2.sub d.2;have e:nv (mi (aG val v).2 (bu n rows v).2)≠0:=λh=>by
    have:nv (aG val v).2 - nv (bu n rows v).2=0:=h;rw [this] at a;exact absurd a.1 (by grind)
   exact(mH q1 f (by omega) e).2.mono (by omega)
  .exact b
section
variable {n:Nat} {rows:List R} (sz:Sz n rows) (er eb ev eg:Bool) (af:List Nat) (val:List Vl) (aw:List Nm)
include sz
set_option maxRecDepth 10000 in
theorem So{mv:Nat}(T:val.length=n+rows.length)(M:∀u,u < n+rows.length->VB mv (aG val u))(hm:mv<=1000):
  ∀(d v:Nat) (o:Nm),d+v=n+rows.length->QN (2 * mv+50) o->
  Or wE [AV.t (TP n er rows eb af ev val eg aw),r0,AV.ref (Id.c 1) 0,I (val.length:Int),I (v:Int)] [gN none,gN o]=some (NL (qp n rows val d v o))/\QN (2 * mv+50) (qp n rows val d v o):=by
 have U:=sz.n;have S:=sz.m;intro d;induction d with
 | zero=>
  intro v o L w;have h1:¬(v:Int) < (val.length:Int):=by omega
  refine⟨an ?_,w⟩;rw [rA];simp only [ak,↓reduceIte,Int.reduceBEq,Int.reduceEq,GD,h1];rfl
 | succ d O=>
  intro v o L w;have hv:v < n+rows.length:=by omega
  have h1:(v:Int) < (val.length:Int):=by omega
  have q: 0<=(v:Int):=by omega
  have e:=sF sz er eb ev eg af val aw hv;have s:=mz (mR (val:=val) (i:=v) (by omega));have g:=M v hv;have A:=qz sz hv;have Q:=Rd sz hv g w hm;obtain⟨b,N⟩:=O (v+1) (iF n rows val v o) (by omega) Q;refine⟨an ?_,N⟩;show _=some (NL (qp n rows val d (v+1) (iF n rows val v o)));rw [cC] at e;simp only [S7,S8] at e;by_cases a:v < n
  .have hs:iF n rows val v o=o:=by unfold iF;rw [if_pos a]
   rw [hs] at b⊢;rw [decide_eq_true a] at e;rw [rA];simp only [ak,↓reduceIte,Int.reduceBEq,Int.reduceEq,GD,bX,h1,e,Th,next v (by omega)];exact b
  .rw [decide_eq_false a] at e;have q1:QN (20+mv+1) (mi (bu n rows v).1 (aG val v).1):=A.1.sub g.1;have P:QN (mv+20+1) (mi (aG val v).2 (bu n rows v).2):=g.2.sub A.2;have z:=B7 (x:=(bu n rows v).1) (y:=(aG val v).1) A.1 g.1 (by omega);have k2:=B7 (x:=(aG val v).2) (y:=(bu n rows v).2) g.2 A.2 (by omega);have C:=lf (mi (aG val v).2 (bu n rows v).2);have B:=lf (mi (bu n rows v).1 (aG val v).1);have H:=yu (nv (mi (aG val v).2 (bu n rows v).2));have G:=yu (nv (mi (bu n rows v).1 (aG val v).1));by_cases l: 0 < nv (mi (aG val v).2 (bu n rows v).2)
   .have f:=H.2 l;have J:nv (mi (aG val v).2 (bu n rows v).2)≠0:=λh=>by rw [h] at l;exact absurd l (by grind)
    by_cases k: 0 < nv (mi (bu n rows v).1 (aG val v).1)
    .have j:=G.2 k;obtain⟨F,K⟩:=mH q1 P (by omega) J;have E:=nU (x:=ov (mi (bu n rows v).1 (aG val v).1) (mi (aG val v).2 (bu n rows v).2)) (y:=o) K w (by omega);have D:=tA (nv (ov (mi (bu n rows v).1 (aG val v).1) (mi (aG val v).2 (bu n rows v).2))) (nv o);by_cases r:nv (ov (mi (bu n rows v).1 (aG val v).1) (mi (aG val v).2 (bu n rows v).2)) < nv o
     .have p:=D.2 r;have hs:iF n rows val v o=ov (mi (bu n rows v).1 (aG val v).1) (mi (aG val v).2 (bu n rows v).2):=by
       unfold iF;rw [if_neg a,if_pos ⟨l,k,r⟩]
      rw [hs] at b⊢;rw [rA];simp only [ak,↓reduceIte,Int.reduceBEq,Int.reduceEq,GD,bX,h1,q,and_self,e,Tj,cD,s,z,k2,B,C,f,j,F,E,p,decide_true,next v (by omega)];exact b
     .have p:¬cq (nv (ov (mi (bu n rows v).1 (aG val v).1) (mi (aG val v).2 (bu n rows v).2))) (nv o) < 0:=λh=>r (D.1 h);have hs:iF n rows val v o=o:=by unfold iF;rw [if_neg a,if_neg (λh=>r h.2.2)]
      rw [hs] at b⊢;rw [rA];simp only [ak,↓reduceIte,Int.reduceBEq,Int.reduceEq,GD,bX,h1,q,and_self,e,Tj,cD,s,z,k2,B,C,f,j,F,E,p,decide_true,decide_false,next v (by omega)];exact b
    .have j:¬(nv (mi (bu n rows v).1 (aG val v).1)).num.sign > 0:=λh=>k (G.1 h);have hs:iF n rows val v o=o:=by unfold iF;rw [if_neg a,if_neg (λh=>k h.2.1)]
     rw [hs] at b⊢;rw [rA];simp only [bD,ak,↓reduceIte,Int.reduceBEq,Int.reduceEq,GD,bX,h1,q,and_self,e,Tj,cD,s,z,k2,B,C,f,j,decide_true,decide_false,next v (by omega)];exact b
   .have f:¬(nv (mi (aG val v).2 (bu n rows v).2)).num.sign > 0:=λh=>l (H.1 h);have hs:iF n rows val v o=o:=by unfold iF;rw [if_neg a,if_neg (λh=>l h.1)]
    rw [hs] at b⊢;rw [rA];simp only [bD,ak,↓reduceIte,Int.reduceBEq,Int.reduceEq,GD,bX,h1,q,and_self,e,Tj,cD,s,z,k2,B,C,f,decide_true,decide_false,next v (by omega)];exact b
theorem C4{mv:Nat}(a:val.length=n+rows.length)(e:∀u,u < n+rows.length->VB mv (aG val u))(hm:mv<=1000):
  Or (.call 50) [AV.t (TP n er rows eb af ev val eg aw)] []=some (NL (nf n rows val))/\QN (2 * mv+50) (nf n rows val):=by
 have b:=fy 1 (by omega);have q1:QN (2 * mv+50) (iN 1):=dS (by exact W9);obtain⟨c,d⟩:=So sz er eb ev eg af val aw a e hm (n+rows.length) 0 (iN 1) (by omega) q1;unfold nf;rw [a];refine⟨an ?_,d⟩;rw [M7];simp only [ak,↓reduceIte,Int.reduceBEq,Int.reduceEq,GD,b,cD];exact c
end
def cJ(e:Nm)(v:Vl):Nm:=pl v.1 (tm v.2 e)
def bo(n:Nat)(rows:List R)(val:List Vl):List Nm:=(val.take n).map (cJ (nf n rows val))
abbrev SP(n:Nat)(rows:List R)(f:Fl)(t:TL):List aa:=
 [aa.box [I (n:Int),AV.t (T.ae 3 f.er (cV rows)),AV.own (Id.c 1),AV.own (Id.c 2),AV.own (Id.c 3),AV.own (Id.c 4),AV.t (T.ae 4 f.eg (aQ t.aw))],aa.sl false 1 f.eb (cP t.af),aa.mp false [Ck.i .i64] (Ck.i .i64) (bP t.mp),
  aa.rows f.ec 1 0 4 t.aj.length (bE 0 t.aj),aa.sl false 8 f.ev (dF t.val)]
theorem PF{mv a:Nat}{e:Nm}{v:Vl}(hv:VB mv v)(b:QN a e):QN (mv+ (mv+a)+1) (cJ e v):=hv.1.add (hv.2.mul b)
theorem R8{n:Nat}{rows:List R}(f:Fl)(t:TL){mv o:Nat}(D:n<=12)(C:t.val.length=n+rows.length)(z:∀u,u < n+rows.length->VB mv (aG t.val u)){e:Nm}(h:QN o e)(hm:mv+ (mv+o)+1<=6300):
  ∀(d k:Nat),d+k=n->
  Or wA [AV.ref (Id.c 5) 0,AV.own (Id.c 6),AV.part (Id.c 4) 8 0 n,I (n:Int),I (k:Int)] (SP n rows f t++ [gN e,aa.sl false 4 (decide (k=0)) (aQ ((t.val.take k).map (cJ e)))])=
   some (T.ae 4 (decide (n=0)) (aQ ((t.val.take n).map (cJ e))):: [ti (n:Int),T.ae 3 f.er (cV rows),T.aC,T.aC,bI f.ec (bE 0 t.aj),T.aC,T.ae 4 f.eg (aQ t.aw),T.ae 1 f.eb (cP t.af),bK (bP t.mp),T.ae 8 f.ev (dF t.val)]):=by
 intro d;induction d with
 | zero=>
  intro k r;obtain rfl:k=n:=by omega
  have h1:¬(k:Int) < (k:Int):=by omega
  refine an ?_;simp only [S7,S8];rw [FU];simp only [ak,↓reduceIte,Int.reduceBEq,Int.reduceEq,GD,h1,cu,cA]
 | succ d A=>
  intro k r;have h1:(k:Int) < (n:Int):=by omega
  have p: 0<=(k:Int):=by omega
  have a:=mR (val:=t.val) (i:=k) (by omega);have s:=mz a;have l: 0+ (k:Int).toNat= (k:Int).toNat:=by omega
  have g:=z k (by omega);have m:=kT (x:=(aG t.val k).2) (y:=e) g.2 h (by omega);have b:=mG (x:=(aG t.val k).1) (y:=tm (aG t.val k).2 e) g.1 (g.2.mul h) (by omega);have v:((t.val.take k).map (cJ e)).length=k:=by simp;omega
  have B:small 48 (((t.val.take k).map (cJ e)).length+ [[tb (decide ((nv (cJ e (aG t.val k))).num < 0)),T.str (bC (dz (nv (cJ e (aG t.val k))).num)),tb (nc (cJ e (aG t.val k))),T.str (nd (cJ e (aG t.val k)))]].length)=some ():=jE (by simp;omega);have q:aQ ((t.val.take k).map (cJ e))++ [[tb (decide ((nv (cJ e (aG t.val k))).num < 0)),T.str (bC (dz (nv (cJ e (aG t.val k))).num)),tb (nc (cJ e (aG t.val k))),T.str (nd (cJ e (aG t.val k)))]]=aQ ((t.val.take (k+1)).map (cJ e)):=by rw [U7,a,US,<-AL];rfl
  have w:pl (aG t.val k).1 (tm (aG t.val k).2 e)=cJ e (aG t.val k):=rfl;rw [w] at b;have:=A (k+1) (by omega);have j:decide (k+1=0)=false:=by simp
  rw [j] at this;simp only [S7,S8] at this;refine an ?_;simp only [S7,S8];rw [FU];simp only [ak,↓reduceIte,Int.reduceBEq,Int.reduceEq,GD,h1,p,and_self,l,s,m,b,bA,B,q,next k (by omega)];exact this
theorem R7{n:Nat}{rows:List R}(f:Fl)(t:TL){mv:Nat}(sz:Sz n rows)(b:t.val.length=n+rows.length)(c:∀u,u < n+rows.length->VB mv (aG t.val u))(hm:mv<=1000):
  Or (.call 20) [r0] (SP n rows f t)=
   some (T.ae 4 (decide (n=0)) (aQ (bo n rows t.val)):: [ti (n:Int),T.ae 3 f.er (cV rows),T.aC,T.aC,bI f.ec (bE 0 t.aj),T.aC,T.ae 4 f.eg (aQ t.aw),T.ae 1 f.eb (cP t.af),bK (bP t.mp),T.ae 8 f.ev (dF t.val)]):=by
 have h:=sz.n;obtain⟨e,g⟩:=C4 sz f.er f.eb f.ev f.eg t.af t.val t.aw b c hm;have:=R8 (rows:=rows) f t h b c g (by omega) n 0 (by omega);simp only [S7,S8,Vs,VA] at this;have a:cT 0 (n:Int) (t.val.length:Int)=some ():=rM (by omega);have d:(n:Int).toNat - 0=n:=by omega
 refine an ?_;rw [MJ];simp only [ak,↓reduceIte,Int.reduceBEq,Int.reduceEq,GD,e,cD,a,d];exact this
theorem PE{n:Nat}{rows:List R}(sz:Sz n rows){val:List Vl}{mv:Nat}(d:val.length=n+rows.length)(a:∀u,u < n+rows.length->VB mv (aG val u))(hm:mv<=1000):∀x∈bo n rows val,QN (4 * mv+51) x:=by
 intro x f;obtain⟨v,hv,rfl⟩:=Tw.1 f;obtain⟨_,c⟩:=C4 sz false false false false [] val [] d a hm;obtain⟨i,hi,e⟩:=TY (Uy hv);have b:aG val i=v:=by unfold aG;rw [SV,SZ hi];exact e
 have:=a i (by omega);rw [b] at this;exact(PF this c).mono (by omega)
open Go Go.Aev Go.Aev.Gen Go.Aev.Wd Go.Aev.Tb
theorem CB{n:Nat}{rows:List R}(hn:n<=12)(hm:rows.length<=40)(ok:∀r∈rows,gz n r):ef n rows where
 sz:=⟨hn,hm,λr hr=>(ok r hr).tv⟩
 of:=λr hr=>(ok r hr).of
 len:=λr hr=>(ok r hr).len
 kd:=λr hr=>(ok r hr).kd
theorem BS{n:Nat}{rows:List R}{i:Nat}(hi:i < rows.length):(cM n rows).st.af i=n+i:=by show(ix n rows.length).getD i 0=n+i;unfold ix;rw [SV,TM,VU hi];rfl
theorem Pa{n:Nat}{rows:List R}(ro:ef n rows){i k:Nat}(hi:i < rows.length):(cM n rows).st.c i k=if k < n then(aI n rows).A i k else 0:=by
 show nv (ao (au (rows.map (gm n rows.length)) i) k)=_;have h1:au (rows.map (gm n rows.length)) i=gm n rows.length (aS rows i):=by unfold au aS;rw [SV,SV,TM,SZ hi];rfl
 rw [h1];have b:=ro.len _ (eG hi);unfold gm ao;rw [SV];show _=if k < n then(((aS rows i).of.getD k 0:Int):Rat) else 0;by_cases a:k < (aS rows i).of.length
 .rw [Uj (by simpa using a),TM,SZ a,if_pos (by omega),SV,SZ a];rfl
 .have hz:nv (((List.map iN (aS rows i).of++List.replicate (n+rows.length - (aS rows i).of.length) none)[k]?).getD none)=0:=by
   rw [T4 (by simpa using a),UJ];split <;> rfl
  rw [hz];split
  .rw [SV,TU (by omega)];rfl
  .rfl
theorem BT(n:Nat)(rows:List R)(v:Nat):aG (cM n rows).val v= (none,none):=by show aG (List.replicate (n+rows.length) (none,none)) v=_;unfold aG;rw [SV,UJ];split <;> rfl
theorem um{n:Nat}{rows:List R}(ro:ef n rows):bq n rows (cM n rows):=by
 have hz:df n rows.length (aI n rows).A (λ_=>0):=λi _=>(jD (λk _=>TV _)).symm;have hy:(cM n rows).st.y=λ_=>0:=by funext v;show nv (aG (cM n rows).val v).1=0;rw [BT];rfl
 have f:(cM n rows).st.z=λ_=>0:=by funext v;show nv (aG (cM n rows).val v).2=0;rw [BT];rfl
 refine⟨⟨by simp [cM,ix],by simp [cM],λx g=> ?_,by simp [cM],λb hb=> ?_, ?_⟩,⟨?_,by rw [hy];exact hz,by rw [f];exact hz,λv hv hb=> ?_⟩,λi b hb=> ?_,λv hv=> ?_, ?_⟩
 .obtain⟨r,hr,rfl⟩:=Tw.1 g;have:=ro.len r hr;unfold gm;simp;omega
 .obtain⟨i,hi,rfl⟩:=Tw.1 hb;have:=UO.1 hi;omega
 .show(List.map (λi=>n+i) (List.range rows.length)).Nodup;refine Vh.2 (λa b q hb l=> ?_);simp only [Vu,Ve];omega
 .refine WF.congr (λi hi=>(BS hi).symm) (λi k hi _=>(Pa ro hi).symm) (SH n rows.length (aI n rows).A)
 .have o:v < n+rows.length:=hv;have e:v < n:=by
   refine Nat.lt_of_not_le λh=>hb (v - n) (show v - n < rows.length by omega) ?_;rw [BS (by omega)];omega
  have d:v < (aI n rows).n:=e;unfold Sy.fx;rw [if_pos d];show vv (aG (cM n rows).val v)=_;rw [BT];rfl
 .show bV b (hZ n rows.length)=some i;have hi:i < rows.length:=by
   have:=(Ta.1 hb).1;simpa [cM,ix] using this
  have c:b=n+i:=by have:=iL (t:=cM n rows) (i:=i) (by simp [cM,ix];exact hi);rw [hb,BS hi] at this;exact TE this
  rw [BF,c,if_pos (by omega)];congr 1;omega
 .show bV v (hZ n rows.length)=none;rw [BF,if_neg];rintro⟨h1,p⟩;exact hv (Tw.2 ⟨v - n,UO.2 (by omega),by omega⟩)
 .show oa (hZ n rows.length);generalize rows.length=m;induction m with
  | zero=>exact trivial
  | succ m j=>rw [<-Iv];exact By _ _ _ j
theorem NK{n:Nat}{rows:List R}(ro:ef n rows):∀(p:Nat) (t:TL),bq n rows t->
  bq n rows (bU n rows true p t).2.2/\(bU n rows true p t).2.2.aw=t.aw\/(bU n rows true p t).1.isSome=true/\bq n rows (bU n rows true p t).2.2/\(bU n rows true p t).2.2.aw=t.aw:=by
 intro p;induction p using Nat.strongRecOn with
 | _ p e=>
 intro t h;rcases kG h with⟨_,hb⟩ | ⟨i,hi,b,a,hb,d⟩
 .rw [kM true _ hb];exact .inl ⟨h,rfl⟩
 .cases p with
  | zero=>rw [oE true hb];exact .inl ⟨h,rfl⟩
  | succ p=>
   rw [nr true p hb d];cases c:aT n rows t.val (bp n rows t (t.st.af i)) (au t.aj i) 0 with
   | none=>exact .inl ⟨h,rfl⟩
   | some v=>obtain⟨g,j,_⟩:=iB c;obtain⟨f,_⟩:=h.step true hi (v:=v) (by have:=h.aW.row hi;omega) b c a;exact e p (UM p) _ f
theorem tS{n:Nat}{rows:List R}(ro:ef n rows)(p:Nat){t:TL}(h:bq n rows t):bq n rows (bU n rows true p t).2.2:=by
 rcases NK ro p t h with h | h
 .exact h.1
 .exact h.2.1
theorem xQ{n:Nat}{rows:List R}(ro:ef n rows):∀(p:Nat) (t:TL),bq n rows t->(bU n rows true p t).1=none->(bU n rows true p t).2.1=true->
  ∀j,j < rows.length->¬(aI n rows).eQ (bU n rows true p t).2.2.st ((bU n rows true p t).2.2.st.af j):=by
 intro p;induction p using Nat.strongRecOn with
 | _ p g=>
 intro t h h1 a;rcases kG h with⟨e,hb⟩ | ⟨i,hi,d,c,hb,f⟩
 .rw [kM true _ hb];exact e
 .cases p with
  | zero=>rw [oE true hb] at a;cases a
  | succ p=>
   rw [nr true p hb f] at h1 a⊢;cases b:aT n rows t.val (bp n rows t (t.st.af i)) (au t.aj i) 0 with
   | none=>rw [b] at h1;cases h1
   | some v=>rw [b] at h1 a;obtain⟨l,m,_⟩:=iB b;obtain⟨k,_⟩:=h.step true hi (v:=v) (by have:=h.aW.row hi;omega) d b c;exact g p (UM p) _ k h1 a
theorem A8{n:Nat}{rows:List R}{t:TL}(h:bq n rows t)(k2:∀r∈rows,r.kd≠2)(o:∀j,j < rows.length->¬(aI n rows).eQ t.st (t.st.af j)):(aI n rows).n6 t.st:=by
 intro v b d;have s:n<=v:=b;have l:v < n+rows.length:=d;have hz:=z0 h k2 l;have q:=k2 _ (eG (rows:=rows) (i:=v - n) (by omega));have c:(aI n rows).up v= ((aI n rows).to (v - n),0):=V9 rfl (if_neg q);show t.st.y v<=(aI n rows).to (v - n)/\((aI n rows).kd (v - n)=3->t.st.y v= (aI n rows).to (v - n));by_cases hb:∃j,j < rows.length/\t.st.af j=v
 .obtain⟨j,k,e⟩:=hb;have a:=o j k;rw [e] at a;unfold Sy.eQ at a;rw [c] at a;unfold bW bh.val at a;rw [hz] at a;have u:¬(aI n rows).to (v - n) < t.st.y v:=λf=>a ⟨b, .inl (.inl f)⟩;refine⟨by grind,λm=> ?_⟩;have w:¬t.st.y v < (aI n rows).to (v - n):=λf=>a ⟨b, .inr ⟨m, .inl f⟩⟩;grind
 .have g:=h.ok.fix v d (λj k e=>hb ⟨j,k,e⟩);unfold Sy.fx at g;have p:¬v < (aI n rows).n:=Vb.2 b;rw [if_neg p,c] at g;have hy:t.st.y v= (aI n rows).to (v - n):=congrArg Prod.fst g;exact⟨by rw [hy];exact Uc,λ_=>hy⟩
theorem ON{n:Nat}{rows:List R}{gl:List Int}(go:dY n rows gl):∀(p:Nat) (t:TL),dM n rows gl t->dM n rows gl (cI n rows p t).2.2.2:=by
 intro p;induction p using Nat.strongRecOn with
 | _ p c=>
 intro t h;cases a:aT n rows t.val 1 t.aw 0 with
 | none=>rw [jX p a];exact h
 | some v=>
  cases p with
  | zero=>rw [oO a];exact h
  | succ p=>
   cases b:(bf n rows t v (nv (ao t.aw v)).num.sign).2.2
   .rw [nE p a b];exact h
   .rw [nF p a b];exact c p (UM p) _ (h.step go a b).1
abbrev pS(n:Nat)(rows:List R)(gl:List Int)(t:TL):TL:={t with aw:=iW t gl 0 (List.replicate (n+rows.length) none)}
def lF(l:List Nm):T:=T.ae 2 (decide (l= [])) (gF (l.map cL))
def b8(l:List Nm):Bool:=l.all λx=>cw (nv x)
def oN:List T:= [ti 0,ti 0,ti 0,T.aO true,T.aO true,ti 10,ti 0]
def Bo:List T:= [ti 4,ti 0,ti 0,T.aO true,T.aO true,ti 0,ti 0]
def eI(gl:List Int)(l:List Nm):Rat:=aU gl (l.map nv)
def oL(n:Nat)(rows:List R)(gl:List Int)(r:Option (List Nm)×Option (List Nm)×Bool×TL):List T:=
 match r with
 | (_,_,false,_)=>Bo
 | (_,some l,true,_)=>if b8 l=true then [ti 3,ti 0,ti 0,lF l,T.aO true,ti 0,ti 0] else oN
 | (some l,none,true,t)=>if(cw (eI gl (bo n rows t.val)) && b8 (bo n rows t.val) && b8 l)=true then
   [ti 1,ti (eI gl (bo n rows t.val)).num,ti ((eI gl (bo n rows t.val)).den:Int),lF (bo n rows t.val),lF l,ti 0,ti 0] else oN
 | (none,none,true,_)=> []
def iU(n:Nat)(rows:List R)(gl:List Int)(p:Nat):List T:=
 match bU n rows true p (cM n rows) with
 | (_,false,_)=>Bo
 | (some l,true,_)=>if b8 l=true then [ti 2,ti 0,ti 0,T.aO true,lF l,ti 0,ti 0] else oN
 | (none,true,t)=>oL n rows gl (cI n rows p (pS n rows gl t))
theorem zZ(e:Nm)(v:Vl)(h:nv v.2=0):nv (cJ e v)=nv v.1:=by show nv v.1+nv v.2 * nv e=nv v.1;rw [h];grind
theorem P4{n:Nat}(m:Nat){ai:Int}(i:ai=1\/ai= -1)(b:Nat){row:List Nm}{mc:Nat}(g:∀x∈row,QN mc x):∀y∈iE n m ai b row,QN (mc+2) y:=by
 have hs:QN 2 (iN (-ai)):=by rcases i with rfl | rfl <;> exact dS (by decide)
 have e:∀(xs:List Nm) (v:Nat) (a:List Nm),(∀x∈xs,QN mc x)->(∀y∈a,QN (mc+2) y)->∀y∈fK n (iN (-ai)) xs v a,QN (mc+2) y:=by
  intro xs;induction xs with
  | nil=>intro v a _ c;exact c
  | cons x xs f=>
   intro v a d c;rw [fK];split
   .exact f _ _ (λx h=>d x (SY _ h)) c
   .refine f _ _ (λx h=>d x (SY _ h)) (λy hy=> ?_);rcases Ty hy with hy | hy
    .exact c y hy
    .subst hy;exact((d x SW).mul hs).neg
 refine e row 0 _ g (λy hy=> ?_);rcases Ty hy with hy | hy
 .rw [UE hy];exact im _
 .subst hy;exact hs.mono (by omega)
theorem Bj{n:Nat}{rows:List R}(ro:ef n rows):∀(p:Nat) (t:TL),bq n rows t->∀l,(bU n rows true p t).1=some l->l.length=rows.length/\∀y∈l,QN 272 y:=by
 intro p;induction p using Nat.strongRecOn with
 | _ p g=>
 intro t h l a;rcases kG h with⟨_,hb⟩ | ⟨i,hi,e,d,hb,f⟩
 .rw [kM true _ hb] at a;cases a
 .cases p with
  | zero=>rw [oE true hb] at a;cases a
  | succ p=>
   rw [nr true p hb f] at a;cases b:aT n rows t.val (bp n rows t (t.st.af i)) (au t.aj i) 0 with
   | none=>rw [b] at a;obtain rfl:=TE a;refine⟨?_,P4 rows.length (sM n rows t _) _ (h.aj ro _ (SX (iQ (by rw [h.aW.c];exact hi))))⟩;unfold iE;rw [Ct];simp
   | some v=>rw [b] at a;obtain⟨k,m,_⟩:=iB b;obtain⟨j,_⟩:=h.step true hi (v:=v) (by have:=h.aW.row hi;omega) e b d;exact g p (UM p) _ j l a
theorem HA{n:Nat}{rows:List R}{gl:List Int}(go:dY n rows gl):∀(p:Nat) (t:TL),dM n rows gl t->
  (∀l,(cI n rows p t).1=some l->l.length=rows.length/\∀y∈l,QN 272 y)/\(∀l,(cI n rows p t).2.1=some l->l.length=n/\∀y∈l,QN 272 y):=by
 intro p;induction p using Nat.strongRecOn with
 | _ p q=>
 intro t h;cases b:aT n rows t.val 1 t.aw 0 with
 | none=>rw [jX p b];refine⟨λl a=> ?_,(λl a=>by cases a)⟩;obtain rfl:=TE a;have j:=h.len;exact⟨by simp;omega,λy hy=>(h.gq go y (UL hy)).mono (by omega)⟩
 | some v=>
  cases p with
  | zero=>rw [oO b];exact⟨(λl a=>by cases a),(λl a=>by cases a)⟩
  | succ p=>
   cases d:(bf n rows t v (nv (ao t.aw v)).num.sign).2.2
   .rw [nE p b d];refine⟨(λl a=>by cases a),λl a=> ?_⟩;obtain rfl:=TE a;obtain⟨_,g,e3,_,_⟩:=iB b;rw [TZ] at e3;rw [TC,h.len] at g;have o:=sf e3;have f:QN 2 (iN (nv (ao t.aw v)).num.sign):=by rcases o with e | e <;> rw [e] <;> exact dS (by decide)
    have base:∀y∈(List.range n).map (gK t v (nv (ao t.aw v)).num.sign),QN 272 y:=by
     intro y hy;obtain⟨k,_,rfl⟩:=Tw.1 hy;unfold gK;cases a:bV k t.mp with
     | none=>exact im _
     | some i=>have hi:=h.tok.rO a;have m:=h.tok.aW.row hi;exact(h.tok.aj go.ro _ (SX (iQ (by rw [h.tok.aW.c];exact hi))) _ (SX (gg (by omega)))).mul f
    unfold je;split
    .refine⟨by simp,λy hy=> ?_⟩;rcases Ty hy with hy | hy
     .exact base y hy
     .subst hy;exact f.mono (by omega)
    .exact⟨by simp,base⟩
   .rw [nF p b d];exact q p (UM p) _ (h.step go b d).1
theorem PG{n:Nat}{rows:List R}{t:TL}(ro:ef n rows)(h:bq n rows t)(k2:∀r∈rows,r.kd≠2):∀x∈bo n rows t.val,QN 300 x:=by
 intro x c;obtain⟨v,hv,rfl⟩:=Tw.1 c;obtain⟨i,hi,e⟩:=TY (Uy hv);have d:=h.aW.v;have b:aG t.val i=v:=by unfold aG;rw [SV,SZ hi];exact e
 have a:=h.val ro i (by omega);have hz:nv (aG t.val i).2=0:=z0 h k2 (by omega);rw [b] at a hz;show QB 300 (nv (cJ _ v));rw [zZ _ v hz];exact a.1
open Go Go.Aev Go.Aev.Gen Go.Aev.Wd Go.Aev.Tb
theorem BQ{n:Nat}{rows:List R}:∀(p:Nat) (t:TL),(cI n rows p t).2.2.1=true->(cI n rows p t).1=none->(cI n rows p t).2.1=none->False:=by
 intro p;induction p with
 | zero=>
  intro t h1 a c;cases b:aT n rows t.val 1 t.aw 0 with
  | none=>rw [jX 0 b] at a;cases a
  | some v=>rw [oO b] at h1;cases h1
 | succ p e=>
  intro t h1 a c;cases b:aT n rows t.val 1 t.aw 0 with
  | none=>rw [jX _ b] at a;cases a
  | some v=>
   cases d:(bf n rows t v (nv (ao t.aw v)).num.sign).2.2
   .rw [nE p b d] at c;cases c
   .rw [nF p b d] at h1 a c;exact e _ h1 a c
section
variable {n:Nat} {rows:List R} {gl:List Int}
set_option maxRecDepth 20000 in
theorem RL(a:Bool)(eg:Bool)(go:dY n rows gl)(p:Nat)(hp:p<=2000):
  aE aq ann Or (.call 7) [LR a rows,I (n:Int),ae eg gl,I (p:Int)] []=some (iU n rows gl p)\/(eJ (n:Int) rows gl).1≠0\/¬Or (.call 14) [LR a rows,I (n:Int),ae eg gl] []=fl (eJ (n:Int) rows gl):=by
 by_cases q:(eJ (n:Int) rows gl).1=0
 .by_cases d:Or (.call 14) [LR a rows,I (n:Int),ae eg gl] []=fl (eJ (n:Int) rows gl)
  .refine .inl ?_;have ro:=go.ro;have hn:=ro.sz.n;have hm:=ro.sz.m;have f:¬(p:Int) < 0:=by omega
   have g:¬(p:Int) > 2000:=by omega
   have e:=JZ a ro;have t:=um ro;have c:=J0 (n:=n) (rows:=rows) (mE a rows) ro rfl p (cM n rows) (by omega) t;have A:=λl=>Bj ro p (cM n rows) t l;have u:=tS ro p t;have E:=xQ ro p (cM n rows) t;unfold iU;generalize bU n rows true p (cM n rows)=r1 at c A u E⊢;obtain⟨no,done,S⟩:=r1;simp only at c A u E;rw [B5] at e;rw [dJ] at c;rw [AO];cases done with
   | false=>simp only [ak,↓reduceIte,Int.reduceBEq,Int.reduceEq,GD,dB,d,q,f,g,decide_false,e,dA,cZ,S9,cB,c];cases no <;> (simp only [eD,ak,↓reduceIte,Int.reduceBEq,Int.reduceEq,GD,dB,dA,cZ,S9];rfl)
   | true=>
    cases no with
    | some l=>
     have b:=qy false l (by have:=(A l rfl).1;omega) (A l rfl).2 (by omega);simp only;cases w:b8 l
     .have o:(l.all λx=>cw (nv x))=false:=w;rw [o] at b;simp only [ak,↓reduceIte,Int.reduceBEq,Int.reduceEq,GD,dB,eD,d,q,f,g,decide_false,e,dA,cZ,S9,cB,c,b,Tj,Th];rfl
     .have o:(l.all λx=>cw (nv x))=true:=w;rw [o] at b;simp only [ak,↓reduceIte,Int.reduceBEq,Int.reduceEq,GD,dB,eD,d,q,f,g,decide_false,e,dA,cZ,S9,cB,c,b,Tj,Th];rfl
    | none=>
     have M:=A8 u go.k2 (E rfl rfl);have i:=RY (n:=n) (rows:=rows) (gl:=gl) (mE a rows) go eg p S (by omega) u M;have T:=xU u M go.gl;have B:=HA go p _ T;have s:=ON go p _ T;have D:=BQ (n:=n) (rows:=rows) p (pS n rows gl S);simp only;generalize cI n rows p (pS n rows gl S)=V at i B s D⊢;obtain⟨C,U,H,r⟩:=V;simp only at B s D;unfold rU at i;rw [p5] at i;cases H with
     | false=>cases C <;> cases U <;> (simp only [ak,↓reduceIte,Int.reduceBEq,Int.reduceEq,GD,dB,eD,d,q,f,g,decide_false,e,dA,cZ,S9,cB,c,i,Tj,Th];rfl)
     | true=>
      cases U with
      | some l=>
       have G:=B.2 l rfl;have b:=qy false l (by omega) G.2 (by omega);cases w:b8 l
       .have o:(l.all λx=>cw (nv x))=false:=w;rw [o] at b;cases C <;> (simp only [ak,↓reduceIte,Int.reduceBEq,Int.reduceEq,GD,dB,eD,d,q,f,g,decide_false,e,dA,cZ,S9,cB,c,i,b,Tj,Th,oL,w];rfl)
       .have o:(l.all λx=>cw (nv x))=true:=w;rw [o] at b;cases C <;> (simp only [ak,↓reduceIte,Int.reduceBEq,Int.reduceEq,GD,dB,eD,d,q,f,g,decide_false,e,dA,cZ,S9,cB,c,i,b,Tj,Th,oL,w];rfl)
      | none=>
       cases C with
       | none=>exact(D rfl rfl rfl).elim
       | some l=>
        have G:=B.1 l rfl;have b:=qy false l (by omega) G.2 (by omega);have N:=PG ro s.tok go.k2;have hpl:(bo n rows r.val).length=n:=by have:=s.tok.aW.v;unfold bo;simp;omega
        have z:=R7 (rows:=rows) ⟨(mE a rows).er,(mE a rows).eb,(mE a rows).ec,(mE a rows).ev,false⟩ r ro.sz s.tok.aW.v (s.tok.val ro) (by omega);obtain⟨y,J,W,X⟩:=C2 eg (decide (n=0)) gl (bo n rows r.val) go.gb (by have:=go.gl;omega) (by have:=go.gl;omega) N (by omega);have k:=Ic X (by omega);have j:=qy (decide (n=0)) (bo n rows r.val) (by omega) N (by omega);have hy:nv y=eI gl (bo n rows r.val):=W;have F:cw (nv y)=true->(cL y).1= (eI gl (bo n rows r.val)).num/\(cL y).2= ((eI gl (bo n rows r.val)).den:Int):=λh=>by unfold cL;rw [if_pos h,hy];exact⟨rfl,rfl⟩
        rw [hy] at F k;have P:((bo n rows r.val).all λx=>cw (nv x))=b8 (bo n rows r.val):=rfl;have O:(l.all λx=>cw (nv x))=b8 l:=rfl;rw [P] at j;rw [O] at b;simp only [oL];cases Q:cw (eI gl (bo n rows r.val)) with
        | false=>rw [Q] at k;simp only [ak,↓reduceIte,Int.reduceBEq,Int.reduceEq,GD,dB,eD,d,q,f,g,decide_false,e,dA,cZ,S9,cB,c,i,z,J,k,j,b,Tj,Th];rfl
        | true=>
         rw [Q] at k;obtain⟨Y,Z⟩:=F Q;rw [Y,Z] at k;cases L:b8 (bo n rows r.val) with
         | false=>rw [L] at j;simp only [ak,↓reduceIte,Int.reduceBEq,Int.reduceEq,GD,dB,eD,d,q,f,g,decide_false,e,dA,cZ,S9,cB,c,i,z,J,k,j,b,Tj,Th];rfl
         | true=>
          rw [L] at j;cases K:b8 l with
          | false=>rw [K] at b;simp only [ak,↓reduceIte,Int.reduceBEq,Int.reduceEq,GD,dB,eD,d,q,f,g,decide_false,e,dA,cZ,S9,cB,c,i,z,J,k,j,b,Tj,Th];rfl
          | true=>rw [K] at b;simp only [ak,↓reduceIte,Int.reduceBEq,Int.reduceEq,GD,dB,eD,d,q,f,g,decide_false,e,dA,cZ,S9,cB,c,i,z,J,k,j,b,Tj,Th];rfl
  .exact .inr (.inr d)
 .exact .inr (.inl q)
end
def F7(e:Int×Int):List T:= [ti 0,ti 0,ti 0,T.aO true,T.aO true,ti e.1,ti e.2]
theorem GC{n:Int}{rows:List R}{gl:List Int}(hr:∀r∈rows,r.e=true->r.of= [])(h:(eJ n rows gl).1=0):((n.toNat:Nat):Int)=n/\dY n.toNat rows gl:=by obtain⟨_,c,b,a,ok,k2,d,hb⟩:=wZ hr h;exact⟨by omega,CB (by omega) a ok,k2,hb,by omega⟩
set_option maxRecDepth 20000 in
theorem RK(rows:List R)(er eg:Bool)(n:Int)(gl:List Int)(p:Int)(hr:∀r∈rows,r.e=true->r.of= []):Or (.call 7) [LR er rows,I n,ae eg gl,I p] []=
  some (if(eJ n rows gl).1≠0 then F7 (eJ n rows gl) else if p < 0\/p > 2000 then F7 (3, -1) else iU n.toNat rows gl p.toNat):=by
 have c:=C1 rows er eg n gl hr;by_cases h:(eJ n rows gl).1=0
 .rw [if_neg (by omega)];obtain⟨d,go⟩:=GC hr h;by_cases b:p < 0\/p > 2000
  .rw [if_pos b];refine an ?_;rw [AO];rcases b with b | b
   .simp only [ak,↓reduceIte,Int.reduceBEq,Int.reduceEq,GD,c,h,b];rfl
   .have f:¬p < 0:=by omega
    simp only [ak,↓reduceIte,Int.reduceBEq,Int.reduceEq,GD,c,h,b,f];rfl
  .rw [if_neg b];rcases RL (n:=n.toNat) (rows:=rows) (gl:=gl) er eg go p.toNat (by omega) with a | a | a
   .rw [d,show((p.toNat:Nat):Int)=p by omega] at a;exact an a
   .rw [d] at a;exact absurd h a
   .rw [d] at a;exact absurd c a
 .rw [if_pos h];refine an ?_;rw [AO];simp only [ak,↓reduceIte,Int.reduceBEq,Int.reduceEq,GD,c,h];rfl
open Go Go.Aev Go.Aev.Gen
noncomputable abbrev sX:Key:=aZ aq 6 true 4 [(0,none),(4,none),(11,none)] (0,0)
noncomputable abbrev wh:Key:=aZ aq 6 true 7 [(0,none),(4,none),(11,none),(12,none)] (0,0)
noncomputable abbrev wB:Key:=aZ aq 20 true 4 [(3,none),(4,some 4),(17,none),(18,none),(19,none)] (6,5007)
theorem AP(O:aA)(a:Bool)(b:JL)(c d e f:Int):aE aq ann O (Key.call 6) [Jl 3 a b,I c,I d,I e,I f] []=
 (bif bif decide (c > d) then true else decide ((b.length:Int) > e) then some [Jb false] else O sX [Jl 3 a b,I f,I 0] []):=by kernel_rfl
theorem FI(O:aA)(b:Bool)(c:JL)(d a:Int):aE aq ann O sX [Jl 3 b c,I d,I a] []=
 (bif decide (a < (c.length:Int)) then O wh [Jl 3 b c,I d,I a,I 0] [] else some [Jb true]):=by kernel_rfl
theorem FJ(O:aA)(e:Bool)(d:JL)(c b a:Int):aE aq ann O wh [Jl 3 e d,I c,I b,I a] []=
 (vF b d λp=>bif decide (a < (p.snd.length:Int)) then vF b d λp=>Jg (if 0<=a/\a < (p.snd.length:Int) then some () else none) λx=>G9 p.snd[a.toNat]? λn=>zz (some !decide (n > c)) b d λp=>ab (some !decide (n > c)) (if 0<=a/\a < (p.snd.length:Int) then some () else none) λx=>zA (some !decide (n > c)) p.snd[a.toNat]? λf=>bif bif decide (n > c) then true else decide (f < i64.wrap (0 - c)) then some [Jb false] else O wh [Jl 3 e d,I c,I b,I (Jw a)] [] else zx b d λn=>zB (some !decide (n > c)) b d λf=>bif bif decide (n > c) then true else decide (f < i64.wrap (0 - c)) then some [Jb false] else O sX [Jl 3 e d,I c,I (Jw b)] []):=by kernel_rfl
theorem Mx(O:aA)(er:Bool)(r:JL)(n k:Int):aE aq ann O (Key.call 8) [Jl 3 er r,I n,I k] []=
 (G0 (O (.call 22) [Jl 3 er r,I n] []) λd q=>bif !d==0 then some [Ji 0,T.aO true,T.aO true,Ji d,Ji q] else bif bif decide (k < 0) then true else decide (k > 2000) then some [Ji 0,T.aO true,T.aO true,Ji 3,Ji (-1)] else vu (O (.call 15) [Jl 3 er r,I n] []) λn p e m a f g=>vw (O (.call 16) [Jr 0,I k] (Y0 n p.fst p.snd e.fst e.snd m a.fst a.snd.length a.snd f.fst f.snd g.fst g.snd)) λp b n h c i o j l=>bif !b then some [Ji 3,T.aO true,T.aO true,Ji 0,Ji 0] else bif !p.fst then mU (O (.call 17) [Jl 4 p.fst p.snd] []) λp b=>bif !b then some [Ji 0,T.aO true,T.aO true,Ji 10,Ji 0] else some [Ji 2,T.aO true,T.ae 2 p.fst p.snd,Ji 0,Ji 0] else mU (O (.call 17) [Jl 4 p.fst p.snd] []) λp b=>lp (O (.call 20) [Jr 0] (Y0 n h.fst h.snd i.fst i.snd o c.fst c.snd.length c.snd j.fst j.snd l.fst l.snd)) λp n s t u x v w=>mU (O (.call 17) [Jl 4 p.fst p.snd] []) λp b=>bif !b then some [Ji 0,T.aO true,T.aO true,Ji 10,Ji 0] else some [Ji 1,T.ae 2 p.fst p.snd,T.aO true,Ji 0,Ji 0]):=by kernel_rfl
theorem MK(O:aA)(a:Int)(d f k g h:Bool)(e m j o:JL)(q:List (List T×T))(l:Nat)(r:List Row):aE aq ann O (Key.call 20) [Jr 0] (Y0 a d e f m q k l r g j h o)=
 (aX (O (.call 50) [AV.t (T.ptr [Ji a,T.ae 3 d e,T.ae 1 f m,T.any,T.any,T.ae 8 g j,T.ae 4 h o])] []) λb s p u=>Jg (cT 0 a (j.length:Int)) λx=>O wB [Jr 6,Jo 7,AV.part (Id.c 4) 8 0 (a.toNat - 0),I (↑(a.toNat - 0):Int),I 0] [aa.box [I a,Jl 3 d e,Jo 1,Jo 2,Jo 3,Jo 4,Jo 5],aa.sl false 1 f m,aa.mp false [Ck.i i64] (Ck.i i64) q,aa.rows k 1 0 4 l r,aa.sl false 8 g j,aa.sl false 4 h o,aa.box [B b,Js s,B p,Js u],aa.sl false 4 true []]):=by kernel_rfl
theorem FV(O:aA)(t l C:Nat)(u a e:Int)(d m o p q g j r:Bool)(f D w F y:JL)(E:List (List T×T))(v:List Row)(h k:ByteArray):aE aq ann O wB [Jr 6,Jo 7,AV.part (Id.c 4) 8 t l,I u,I a] [aa.box [I e,Jl 3 d f,Jo 1,Jo 2,Jo 3,Jo 4,Jo 5],aa.sl false 1 m D,aa.mp false [Ck.i i64] (Ck.i i64) E,aa.rows o 1 0 4 C v,aa.sl false 8 p w,aa.sl false 4 q F,aa.box [B g,Js h,B j,Js k],aa.sl false 4 r y]=
 (bif decide (a < u) then Jg (if 0<=a/\a < (↑l:Int) then some () else none) λx=>vC w[t+a.toNat]? λb s G M H N J P=>aX (O (.call 47) [Ja H N J P,Ja g h j k] []) λK Q L S=>aX (O (.call 46) [Ja b s G M,Ja K Q L S] []) λb s z A=>Jg (small 48 (y.length+ [[Jb b,T.str s,Jb z,T.str A]].length)) λx=>O wB [Jr 6,Jo 7,AV.part (Id.c 4) 8 t l,I u,I (Jw a)] [aa.box [I e,Jl 3 d f,Jo 1,Jo 2,Jo 3,Jo 4,Jo 5],aa.sl false 1 m D,aa.mp false [Ck.i i64] (Ck.i i64) E,aa.rows o 1 0 4 C v,aa.sl false 8 p w,aa.sl false 4 q F,aa.box [B g,Js h,B j,Js k],aa.sl false 4 (r && false) (y++ [[Jb b,T.str s,Jb z,T.str A]])] else Jg (if bJ v=true then some () else none) λx=>some [T.ae 4 r y,Ji e,T.ae 3 d f,T.aC,T.aC,bI o v,T.aC,T.aC,T.ae 1 m D,bK E,T.ae 8 p w,T.ae 4 q F]):=by kernel_rfl
end Go.Aev.Wd.Lg
