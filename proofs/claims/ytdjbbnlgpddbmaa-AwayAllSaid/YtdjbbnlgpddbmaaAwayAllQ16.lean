import Derived.Test.YtdjbbnlgpddbmaaAwayAllQ15
import Derived.Test.YtdjbbnlgpddbmaaAwayAllQ6
set_option linter.all false
namespace Go.Aev.Wd.Lg
open Go Go.Aev Go.Aev.Gen Go.Aev.Wd Go.Aev.Tb Go.IntKind
def iC(n:Nat)(rows:List R)(val:List Vl)(v:Nat)(o:Nm):Nm:=
 if v < n then o else
 if 0 < nv (aH val v).2 - nv (bC n rows v).2/\0 < nv (bC n rows v).1 - nv (aH val v).1/\(nv (bC n rows v).1 - nv (aH val v).1) / (nv (aH val v).2 - nv (bC n rows v).2) < nv o
 then ov (mi (bC n rows v).1 (aH val v).1) (mi (aH val v).2 (bC n rows v).2) else o
def tu(n:Nat)(rows:List R)(val:List Vl):Nat->Nat->Nm->Nm
 | 0,_,o=>o
 | d+1,v,o=>tu n rows val d (v+1) (iC n rows val v o)
def vO(n:Nat)(rows:List R)(val:List Vl):Nm:=tu n rows val val.length 0 (iN 1)
theorem Qa{n:Nat}{rows:List R}(sz:Sz n rows){val:List Vl}{mv:Nat}{v:Nat}(hv:v < n+rows.length)(c:VB mv (aH val v)){o:Nm}(b:QN (2 * mv+50) o)(hm:mv<=1000):QN (2 * mv+50) (iC n rows val v o):=by
 unfold iC;split
 .exact b
 .split
  .rename_i a;have d:=rq sz hv;have q1:QN (20+mv+1) (mi (bC n rows v).1 (aH val v).1):=d.1.sub c.1;have f:QN (mv+20+1) (mi (aH val v).2 (bC n rows v).2):=c.2.sub d.2;have e:nv (mi (aH val v).2 (bC n rows v).2)≠0:=λh=>by
    have:nv (aH val v).2 - nv (bC n rows v).2=0:=h;rw [this] at a;exact absurd a.1 (by grind)
   exact(pd q1 f (by omega) e).2.mono (by omega)
  .exact b
section
variable {n:Nat} {rows:List R} (sz:Sz n rows) (er eb ev eg:Bool) (ah:List Nat) (val:List Vl) (aT:List Nm)
include sz
set_option maxRecDepth 10000 in
theorem Ra{mv:Nat}(hl:val.length=n+rows.length)(K:∀u,u < n+rows.length->VB mv (aH val u))(hm:mv<=1000):
  ∀(d v:Nat) (o:Nm),d+v=n+rows.length->QN (2 * mv+50) o->
  Or uL [AV.t (TP n er rows eb ah ev val eg aT),r0,AV.ref (Id.c 1) 0,I (val.length:Int),I (v:Int)] [ny none,ny o]=some (NL (tu n rows val d v o))/\QN (2 * mv+50) (tu n rows val d v o):=by
 have hn:=sz.n;have P:=sz.m;intro d;induction d with
 | zero=>
  intro v o J s;have h1:¬(v:Int) < (val.length:Int):=by omega
  refine⟨an ?_,s⟩;rw [qg];simp only [aj,↓reduceIte,Int.reduceBEq,Int.reduceEq,GD,h1];rfl
 | succ d M=>
  intro v o J s;have hv:v < n+rows.length:=by omega
  have h1:(v:Int) < (val.length:Int):=by omega
  have p: 0<=(v:Int):=by omega
  have e:=tF sz er eb ev eg ah val aT hv;have r:=nE (oA (val:=val) (i:=v) (by omega));have g:=K v hv;have z:=rq sz hv;have O:=Qa sz hv g s hm;obtain⟨b,L⟩:=M (v+1) (iC n rows val v o) (by omega) O;refine⟨an ?_,L⟩;show _=some (NL (tu n rows val d (v+1) (iC n rows val v o)));rw [jb] at e;simp only [RU,R0] at e;by_cases a:v < n
  .have hs:iC n rows val v o=o:=by unfold iC;rw [if_pos a]
   rw [hs] at b⊢;rw [decide_eq_true a] at e;rw [qg];simp only [aj,↓reduceIte,Int.reduceBEq,Int.reduceEq,GD,fu,h1,e,Sl,next v (by omega)];exact b
  .rw [decide_eq_false a] at e;have q1:QN (20+mv+1) (mi (bC n rows v).1 (aH val v).1):=z.1.sub g.1;have N:QN (mv+20+1) (mi (aH val v).2 (bC n rows v).2):=g.2.sub z.2;have w:=Hw (x:=(bC n rows v).1) (y:=(aH val v).1) z.1 g.1 (by omega);have k2:=Hw (x:=(aH val v).2) (y:=(bC n rows v).2) g.2 z.2 (by omega);have A:=pw (mi (aH val v).2 (bC n rows v).2);have s1:=pw (mi (bC n rows v).1 (aH val v).1);have F:=HC (nv (mi (aH val v).2 (bC n rows v).2));have E:=HC (nv (mi (bC n rows v).1 (aH val v).1));by_cases hk: 0 < nv (mi (aH val v).2 (bC n rows v).2)
   .have f:=F.2 hk;have G:nv (mi (aH val v).2 (bC n rows v).2)≠0:=λh=>by rw [h] at hk;exact absurd hk (by grind)
    by_cases k: 0 < nv (mi (bC n rows v).1 (aH val v).1)
    .have j:=E.2 k;obtain⟨D,H⟩:=pd q1 N (by omega) G;have C:=xE (x:=ov (mi (bC n rows v).1 (aH val v).1) (mi (aH val v).2 (bC n rows v).2)) (y:=o) H s (by omega);have B:=rZ (nv (ov (mi (bC n rows v).1 (aH val v).1) (mi (aH val v).2 (bC n rows v).2))) (nv o);by_cases q:nv (ov (mi (bC n rows v).1 (aH val v).1) (mi (aH val v).2 (bC n rows v).2)) < nv o
     .have l:=B.2 q;have hs:iC n rows val v o=ov (mi (bC n rows v).1 (aH val v).1) (mi (aH val v).2 (bC n rows v).2):=by
       unfold iC;rw [if_neg a,if_pos ⟨hk,k,q⟩]
      rw [hs] at b⊢;rw [qg];simp only [aj,↓reduceIte,Int.reduceBEq,Int.reduceEq,GD,fu,h1,p,and_self,e,Sw,e8,r,w,k2,s1,A,f,j,D,C,l,decide_true,next v (by omega)];exact b
     .have l:¬cq (nv (ov (mi (bC n rows v).1 (aH val v).1) (mi (aH val v).2 (bC n rows v).2))) (nv o) < 0:=λh=>q (B.1 h);have hs:iC n rows val v o=o:=by unfold iC;rw [if_neg a,if_neg (λh=>q h.2.2)]
      rw [hs] at b⊢;rw [qg];simp only [aj,↓reduceIte,Int.reduceBEq,Int.reduceEq,GD,fu,h1,p,and_self,e,Sw,e8,r,w,k2,s1,A,f,j,D,C,l,decide_true,decide_false,next v (by omega)];exact b
    .have j:¬(nv (mi (bC n rows v).1 (aH val v).1)).num.sign > 0:=λh=>k (E.1 h);have hs:iC n rows val v o=o:=by unfold iC;rw [if_neg a,if_neg (λh=>k h.2.1)]
     rw [hs] at b⊢;rw [qg];simp only [dG,aj,↓reduceIte,Int.reduceBEq,Int.reduceEq,GD,fu,h1,p,and_self,e,Sw,e8,r,w,k2,s1,A,f,j,decide_true,decide_false,next v (by omega)];exact b
   .have f:¬(nv (mi (aH val v).2 (bC n rows v).2)).num.sign > 0:=λh=>hk (F.1 h);have hs:iC n rows val v o=o:=by unfold iC;rw [if_neg a,if_neg (λh=>hk h.1)]
    rw [hs] at b⊢;rw [qg];simp only [dG,aj,↓reduceIte,Int.reduceBEq,Int.reduceEq,GD,fu,h1,p,and_self,e,Sw,e8,r,w,k2,s1,A,f,decide_true,decide_false,next v (by omega)];exact b
theorem Jj{mv:Nat}(hl:val.length=n+rows.length)(d:∀u,u < n+rows.length->VB mv (aH val u))(hm:mv<=1000):
  Or (.call 45) [AV.t (TP n er rows eb ah ev val eg aT)] []=some (NL (vO n rows val))/\QN (2 * mv+50) (vO n rows val):=by
 have a:=nY 1 (by omega);have q1:QN (2 * mv+50) (iN 1):=kQ (by exact VT);obtain⟨b,c⟩:=Ra sz er eb ev eg ah val aT hl d hm (n+rows.length) 0 (iN 1) (by omega) q1;unfold vO;rw [hl];refine⟨an ?_,c⟩;rw [Mv];simp only [aj,↓reduceIte,Int.reduceBEq,Int.reduceEq,GD,a,e8];exact b
end
def gI(e:Nm)(v:Vl):Nm:=pl v.1 (tm v.2 e)
def kV(n:Nat)(rows:List R)(val:List Vl):List Nm:=(val.take n).map (gI (vO n rows val))
theorem OO{mv a:Nat}{e:Nm}{v:Vl}(hv:VB mv v)(b:QN a e):QN (mv+ (mv+a)+1) (gI e v):=hv.1.add (hv.2.mul b)
theorem ON{n:Nat}{rows:List R}(sz:Sz n rows){val:List Vl}{mv:Nat}(hl:val.length=n+rows.length)(a:∀u,u < n+rows.length->VB mv (aH val u))(hm:mv<=1000):∀x∈kV n rows val,QN (4 * mv+51) x:=by
 intro x d;obtain⟨v,hv,rfl⟩:=Si.1 d;obtain⟨_,c⟩:=Jj sz false false false false [] val [] hl a hm;obtain⟨i,hi,e⟩:=TN (Td hv);have b:aH val i=v:=by unfold aH;rw [RO,RR hi];exact e
 have:=a i (by omega);rw [b] at this;exact(OO this c).mono (by omega)
open Go Go.Aev Go.Aev.Gen Go.Aev.Wd Go.Aev.Tb Go.IntKind
theorem H3{n:Nat}{rows:List R}(hn:n<=12)(hm:rows.length<=40)(ok:∀r∈rows,cS n r):eM n rows where
 sz:=⟨hn,hm,λr hr=>(ok r hr).tv⟩
 of:=λr hr=>(ok r hr).of
 len:=λr hr=>(ok r hr).len
 kd:=λr hr=>(ok r hr).kd
theorem AJ{n:Nat}{rows:List R}{i:Nat}(hi:i < rows.length):(ei n rows).st.ah i=n+i:=by show(gT n rows.length).getD i 0=n+i;unfold gT;rw [RO,Sp,VH hi];rfl
theorem Oj{n:Nat}{rows:List R}(ro:eM n rows){i k:Nat}(hi:i < rows.length):(ei n rows).st.c i k=if k < n then(aQ n rows).A i k else 0:=by
 show nv (aF (ay (rows.map (fG n rows.length)) i) k)=_;have h1:ay (rows.map (fG n rows.length)) i=fG n rows.length (rowAt rows i):=by unfold ay rowAt;rw [RO,RO,Sp,RR hi];rfl
 rw [h1];have a:=ro.len _ (gJ hi);unfold fG aF;rw [RO];show _=if k < n then(((rowAt rows i).of.getD k 0:Int):Rat) else 0;by_cases hk:k < (rowAt rows i).of.length
 .rw [SO (by simpa using hk),Sp,RR hk,if_pos (by omega),RO,RR hk];rfl
 .have hz:nv (((List.map iN (rowAt rows i).of++List.replicate (n+rows.length - (rowAt rows i).of.length) none)[k]?).getD none)=0:=by
   rw [SK (by simpa using hk),TF];split <;> rfl
  rw [hz];split
  .rw [RO,SZ (by omega)];rfl
  .rfl
theorem AK(n:Nat)(rows:List R)(v:Nat):aH (ei n rows).val v= (none,none):=by show aH (List.replicate (n+rows.length) (none,none)) v=_;unfold aH;rw [RO,TF];split <;> rfl
theorem GU{n:Nat}{rows:List R}(ro:eM n rows):ch n rows (ei n rows):=by
 have hz:fg n rows.length (aQ n rows).A (λ_=>0):=λi _=>(l7 (λk _=>Tm _)).symm;have hy:(ei n rows).st.y=λ_=>0:=by funext v;show nv (aH (ei n rows).val v).1=0;rw [AK];rfl
 have f:(ei n rows).st.z=λ_=>0:=by funext v;show nv (aH (ei n rows).val v).2=0;rw [AK];rfl
 refine⟨⟨by simp [ei,gT],by simp [ei],λx g=> ?_,by simp [ei],λb hb=> ?_, ?_⟩,⟨?_,by rw [hy];exact hz,by rw [f];exact hz,λv hv hb=> ?_⟩,λi b hb=> ?_,λv hv=> ?_, ?_⟩
 .obtain⟨r,hr,rfl⟩:=Si.1 g;have:=ro.len r hr;unfold fG;simp;omega
 .obtain⟨i,hi,rfl⟩:=Si.1 hb;have:=UZ.1 hi;omega
 .show(List.map (λi=>n+i) (List.range rows.length)).Nodup;refine TX.2 (λa b q hb l=> ?_);simp only [List.getElem_map,List.getElem_range];omega
 .refine WF.congr (λi hi=>(AJ hi).symm) (λi k hi _=>(Oj ro hi).symm) (Rp n rows.length (aQ n rows).A)
 .have o:v < n+rows.length:=hv;have e:v < n:=by
   refine Nat.lt_of_not_le λh=>hb (v - n) (show v - n < rows.length by omega) ?_;rw [AJ (by omega)];omega
  have d:v < (aQ n rows).n:=e;unfold Sy.fx;rw [if_pos d];show vv (aH (ei n rows).val v)=_;rw [AK];rfl
 .show cM b (gG n rows.length)=some i;have hi:i < rows.length:=by
   have:=(RS.1 hb).1;simpa [ei,gT] using this
  have c:b=n+i:=by have:=lH (t:=ei n rows) (i:=i) (by simp [ei,gT];exact hi);rw [hb,AJ hi] at this;exact Tx this
  rw [As,c,if_pos (by omega)];congr 1;omega
 .show cM v (gG n rows.length)=none;rw [As,if_neg];rintro⟨h1,p⟩;exact hv (Si.2 ⟨v - n,UZ.2 (by omega),by omega⟩)
 .show nq (gG n rows.length);generalize rows.length=m;induction m with
  | zero=>exact trivial
  | succ m j=>rw [<-HO];exact Ak _ _ _ j
theorem MV{n:Nat}{rows:List R}(ro:eM n rows):∀(p:Nat) (t:TL),ch n rows t->
  ch n rows (bW n rows true p t).2.2/\(bW n rows true p t).2.2.aT=t.aT\/(bW n rows true p t).1.isSome=true/\ch n rows (bW n rows true p t).2.2/\(bW n rows true p t).2.2.aT=t.aT:=by
 intro p;induction p using Nat.strongRecOn with
 | _ p d=>
 intro t h;rcases oP h with⟨_,hb⟩ | ⟨i,hi,b,a,hb,hl⟩
 .rw [oZ true _ hb];exact .inl ⟨h,rfl⟩
 .cases p with
  | zero=>rw [qB true hb];exact .inl ⟨h,rfl⟩
  | succ p=>
   rw [qA true p hb hl];cases c:bx n rows t.val (bu n rows t (t.st.ah i)) (ay t.ak i) 0 with
   | none=>exact .inl ⟨h,rfl⟩
   | some v=>obtain⟨f,g,_⟩:=mB c;obtain⟨e,_⟩:=h.step true hi (v:=v) (by have:=h.aZ.row hi;omega) b c a;exact d p (Ud p) _ e
theorem FL{n:Nat}{rows:List R}(ro:eM n rows)(p:Nat){t:TL}(h:ch n rows t):ch n rows (bW n rows true p t).2.2:=by
 rcases MV ro p t h with h | h
 .exact h.1
 .exact h.2.1
theorem MU{n:Nat}{rows:List R}(ro:eM n rows):∀(p:Nat) (t:TL),ch n rows t->(bW n rows true p t).1=none->(bW n rows true p t).2.1=true->
  ∀j,j < rows.length->¬(aQ n rows).fO (bW n rows true p t).2.2.st ((bW n rows true p t).2.2.st.ah j):=by
 intro p;induction p using Nat.strongRecOn with
 | _ p f=>
 intro t h h1 a;rcases oP h with⟨e,hb⟩ | ⟨i,hi,d,c,hb,hl⟩
 .rw [oZ true _ hb];exact e
 .cases p with
  | zero=>rw [qB true hb] at a;cases a
  | succ p=>
   rw [qA true p hb hl] at h1 a⊢;cases b:bx n rows t.val (bu n rows t (t.st.ah i)) (ay t.ak i) 0 with
   | none=>rw [b] at h1;cases h1
   | some v=>rw [b] at h1 a;obtain⟨k,l,_⟩:=mB b;obtain⟨g,_⟩:=h.step true hi (v:=v) (by have:=h.aZ.row hi;omega) d b c;exact f p (Ud p) _ g h1 a
def lF(l:List Nm):T:=T.ae 2 (decide (l= [])) (eZ (l.map iT))
def pU(l:List Nm):Bool:=l.all λx=>fy (nv x)
theorem Pb{n:Nat}(m:Nat){ao:Int}(i:ao=1\/ao= -1)(b:Nat){row:List Nm}{mc:Nat}(g:∀x∈row,QN mc x):∀y∈jv n m ao b row,QN (mc+2) y:=by
 have hs:QN 2 (iN (-ao)):=by rcases i with rfl | rfl <;> exact kQ (by decide)
 have e:∀(xs:List Nm) (v:Nat) (a:List Nm),(∀x∈xs,QN mc x)->(∀y∈a,QN (mc+2) y)->∀y∈iz n (iN (-ao)) xs v a,QN (mc+2) y:=by
  intro xs;induction xs with
  | nil=>intro v a _ c;exact c
  | cons x xs f=>
   intro v a d c;rw [iz];split
   .exact f _ _ (λx h=>d x (RM _ h)) c
   .refine f _ _ (λx h=>d x (RM _ h)) (λy hy=> ?_);rcases Su hy with hy | hy
    .exact c y hy
    .subst hy;exact((d x RL).mul hs).neg
 refine e row 0 _ g (λy hy=> ?_);rcases Su hy with hy | hy
 .rw [T1 hy];exact mb _
 .subst hy;exact hs.mono (by omega)
theorem MT{n:Nat}{rows:List R}(ro:eM n rows):∀(p:Nat) (t:TL),ch n rows t->∀l,(bW n rows true p t).1=some l->l.length=rows.length/\∀y∈l,QN 272 y:=by
 intro p;induction p using Nat.strongRecOn with
 | _ p f=>
 intro t h l a;rcases oP h with⟨_,hb⟩ | ⟨i,hi,e,d,hb,hl⟩
 .rw [oZ true _ hb] at a;cases a
 .cases p with
  | zero=>rw [qB true hb] at a;cases a
  | succ p=>
   rw [qA true p hb hl] at a;cases b:bx n rows t.val (bu n rows t (t.st.ah i)) (ay t.ak i) 0 with
   | none=>rw [b] at a;obtain rfl:=Tx a;refine⟨?_,Pb rows.length (xY n rows t _) _ (h.ak ro _ (RN (mn (by rw [h.aZ.c];exact hi))))⟩;unfold jv;rw [Bh];simp
   | some v=>rw [b] at a;obtain⟨j,k,_⟩:=mB b;obtain⟨g,_⟩:=h.step true hi (v:=v) (by have:=h.aZ.row hi;omega) e b d;exact f p (Ud p) _ g l a
open Go Go.Aev Go.Aev.Gen Go.Aev.Wd Go.Aev.Tb Go.IntKind
section
variable {n:Nat} {rows:List R} {gl:List Int}
end
open Go Go.Aev Go.Aev.Gen Go.IntKind
noncomputable abbrev uI:Key:=aW aq 16 true 4 [(3,none),(4,some 4),(17,none),(18,none),(19,none)] (6,5007)
theorem Mh(O:az)(er:Bool)(r:JL)(n k:Int):aD aq ann O (Key.call 6) [Jl 3 er r,I n,I k] []=
 (G0 (O (.call 10) [Jl 3 er r,I n] []) λd q=>bif !d==0 then some [Ji 0,T.aL true,T.aL true,Ji d,Ji q] else bif bif decide (k < 0) then true else decide (k > 2000) then some [Ji 0,T.aL true,T.aL true,Ji 3,Ji (-1)] else yh (O (.call 14) [Jl 3 er r,I n] []) λn p e m a f g=>yk (O (.call 15) [Jr 0,I k] (Y0 n p.fst p.snd e.fst e.snd m a.fst a.snd.length a.snd f.fst f.snd g.fst g.snd)) λp b n h c i o j l=>bif !b then some [Ji 3,T.aL true,T.aL true,Ji 0,Ji 0] else bif !p.fst then rB (O (.call 17) [Jl 4 p.fst p.snd] []) λp b=>bif !b then some [Ji 0,T.aL true,T.aL true,Ji 10,Ji 0] else some [Ji 2,T.aL true,T.ae 2 p.fst p.snd,Ji 0,Ji 0] else rB (O (.call 17) [Jl 4 p.fst p.snd] []) λp b=>oE (O (.call 16) [Jr 0] (Y0 n h.fst h.snd i.fst i.snd o c.fst c.snd.length c.snd j.fst j.snd l.fst l.snd)) λp n s t u x v w=>rB (O (.call 17) [Jl 4 p.fst p.snd] []) λp b=>bif !b then some [Ji 0,T.aL true,T.aL true,Ji 10,Ji 0] else some [Ji 1,T.ae 2 p.fst p.snd,T.aL true,Ji 0,Ji 0]):=by kernel_rfl
theorem Ml(O:az)(a:Int)(d f k g h:Bool)(e m j o:JL)(q:List (List T×T))(l:Nat)(r:List Row):aD aq ann O (Key.call 16) [Jr 0] (Y0 a d e f m q k l r g j h o)=
 (bp (O (.call 45) [AV.t (T.ptr [Ji a,T.ae 3 d e,T.ae 1 f m,T.any,T.any,T.ae 8 g j,T.ae 4 h o])] []) λb s p u=>Jg (cU 0 a (j.length:Int)) λx=>O uI [Jr 6,Jo 7,AV.part (Id.c 4) 8 0 (a.toNat - 0),I (↑(a.toNat - 0):Int),I 0] [ab.box [I a,Jl 3 d e,Jo 1,Jo 2,Jo 3,Jo 4,Jo 5],ab.sl false 1 f m,ab.mp false [Ck.i i64] (Ck.i i64) q,ab.rows k 1 0 4 l r,ab.sl false 8 g j,ab.sl false 4 h o,ab.box [B b,Js s,B p,Js u],ab.sl false 4 true []]):=by kernel_rfl
theorem E8(O:az)(t l C:Nat)(u a e:Int)(d m o p q g j r:Bool)(f D w F y:JL)(E:List (List T×T))(v:List Row)(h k:ByteArray):aD aq ann O uI [Jr 6,Jo 7,AV.part (Id.c 4) 8 t l,I u,I a] [ab.box [I e,Jl 3 d f,Jo 1,Jo 2,Jo 3,Jo 4,Jo 5],ab.sl false 1 m D,ab.mp false [Ck.i i64] (Ck.i i64) E,ab.rows o 1 0 4 C v,ab.sl false 8 p w,ab.sl false 4 q F,ab.box [B g,Js h,B j,Js k],ab.sl false 4 r y]=
 (bif decide (a < u) then Jg (if 0<=a/\a < (↑l:Int) then some () else none) λx=>ym w[t+a.toNat]? λb s G M H N J P=>bp (O (.call 46) [Ja H N J P,Ja g h j k] []) λK Q L S=>bp (O (.call 26) [Ja b s G M,Ja K Q L S] []) λb s z A=>Jg (bw 48 (y.length+ [[Jb b,T.str s,Jb z,T.str A]].length)) λx=>O uI [Jr 6,Jo 7,AV.part (Id.c 4) 8 t l,I u,I (Jw a)] [ab.box [I e,Jl 3 d f,Jo 1,Jo 2,Jo 3,Jo 4,Jo 5],ab.sl false 1 m D,ab.mp false [Ck.i i64] (Ck.i i64) E,ab.rows o 1 0 4 C v,ab.sl false 8 p w,ab.sl false 4 q F,ab.box [B g,Js h,B j,Js k],ab.sl false 4 (r && false) (y++ [[Jb b,T.str s,Jb z,T.str A]])] else Jg (if dh v=true then some () else none) λx=>some [T.ae 4 r y,Ji e,T.ae 3 d f,T.aS,T.aS,dH o v,T.aS,T.aS,T.ae 1 m D,ee E,T.ae 8 p w,T.ae 4 q F]):=by kernel_rfl
end Go.Aev.Wd.Lg
