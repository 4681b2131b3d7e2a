import Derived.Test.YticjdhgokemdlaaGreatMostTrueQ12
import Derived.Test.YticjdhgokemdlaaGreatMostTrueQ13
set_option linter.all false
namespace Go.Aev.Wd.Lg
open Go Go.Aev Go.Aev.Gen Go.Aev.Wd Go.IntKind
abbrev Vl:=Nm×Nm
abbrev EV(v:Vl):AV:=AV.agg [B (decide ((nv v.1).num < 0)),AV.t (T.str (bJ (dz (nv v.1).num))),B (nc v.1),AV.t (T.str (nd v.1)),B (decide ((nv v.2).num < 0)),AV.t (T.str (bJ (dz (nv v.2).num))),B (nc v.2),AV.t (T.str (nd v.2))]
def VC(v:Vl):List T:= [tb (decide ((nv v.1).num < 0)),T.str (bJ (dz (nv v.1).num)),tb (nc v.1),T.str (nd v.1),tb (decide ((nv v.2).num < 0)),T.str (bJ (dz (nv v.2).num)),tb (nc v.2),T.str (nd v.2)]
theorem cN(v:Vl):VC v= [tb (decide ((nv v.1).num < 0)),T.str (bJ (dz (nv v.1).num)),tb (nc v.1),T.str (nd v.1),tb (decide ((nv v.2).num < 0)),T.str (bJ (dz (nv v.2).num)),tb (nc v.2),T.str (nd v.2)]:=rfl
def eB(l:List Vl):List (List T):=l.map VC
theorem cO(l:List Vl):(eB l).length=l.length:=by simp [eB]
theorem mO{l:List Vl}{i:Nat}{x:Vl}(h:l[i]? =some x):(eB l)[((i:Nat):Int).toNat]? =some [tb (decide ((nv x.1).num < 0)),T.str (bJ (dz (nv x.1).num)),tb (nc x.1),T.str (nd x.1),tb (decide ((nv x.2).num < 0)),T.str (bJ (dz (nv x.2).num)),tb (nc x.2),T.str (nd x.2)]:=by simp [eB,h,VC]
theorem Hn{l:List Vl}{i:Nat}(hi:i < l.length)(x:Vl):bp ((i:Nat):Int).toNat 0 [tb (decide ((nv x.1).num < 0)),T.str (bJ (dz (nv x.1).num)),tb (nc x.1),T.str (nd x.1),tb (decide ((nv x.2).num < 0)),T.str (bJ (dz (nv x.2).num)),tb (nc x.2),T.str (nd x.2)] (eB l)=some (eB (l.set i x)):=by
 have h1:(eB l)[((i:Nat):Int).toNat]? =some (VC l[i]):=by simp [eB,hi]
 simp only [bp,h1];simp [cg,eB,VC]
def cX(l:List Nat):List (List T):=l.map λ(v:Nat)=> [ti (v:Int)]
theorem dC(l:List Nat):(cX l).length=l.length:=by simp [cX]
theorem jO{l:List Nat}{i:Nat}{x:Nat}(h:l[i]? =some x):(cX l)[((i:Nat):Int).toNat]? =some [ti (x:Int)]:=by simp [cX,h]
theorem OC{l:List Nat}{i:Nat}(hi:i < l.length)(x:Nat):bp ((i:Nat):Int).toNat 0 [ti (x:Int)] (cX l)=some (cX (l.set i x)):=by
 have h1:(cX l)[((i:Nat):Int).toNat]? =some [ti (l[i]:Int)]:=by simp [cX,hi]
 simp only [bp,h1];simp [cg,cX]
theorem dZ{a:Type}(x y z u v t w:a)(l:List a):(x::y::z::u::v::t::w::l).drop 7=l:=by cases l <;> rfl
theorem cu{a:Type}(x y z u v t w s:a)(l:List a):(x::y::z::u::v::t::w::s::l).drop 8=l:=by cases l <;> rfl
def VB(m:Nat)(v:Vl):Prop:=QB m (nv v.1)/\QB m (nv v.2)
theorem VB.mono{m k:Nat}{v:Vl}(h:VB m v)(a:m<=k):VB k v:=⟨h.1.mono a,h.2.mono a⟩
def kR(a b:Vl):Vl:=(some (nv a.1+nv b.1),some (nv a.2+nv b.2))
def og(a b:Vl):Vl:=(some (nv a.1 - nv b.1),some (nv a.2 - nv b.2))
def fM(a:Vl)(k:Nm):Vl:=(some (nv a.1 * nv k),some (nv a.2 * nv k))
def eU(a b:Vl):Int:=if cq (nv a.1) (nv b.1)=0 then cq (nv a.2) (nv b.2) else cq (nv a.1) (nv b.1)
theorem Lh{m k:Nat}{a b:Vl}(c:VB m a)(hb:VB k b)(h:m+k+1<=6300):Or (.call 122) [EV a,EV b] []=some (VC (kR a b)):=by have d:=AI c.1 hb.1 h;have k2:=AI c.2 hb.2 h;rw [sQ] at d k2;rw [cN];refine aj ?_;rw [OM];simp only [ai,GD,d,k2];rfl
theorem wF{m k:Nat}{a b:Vl}(c:VB m a)(hb:VB k b)(h:m+k+1<=6300):Or (.call 81) [EV a,EV b] []=some (VC (og a b)):=by have d:=ED c.1 hb.1 h;have k2:=ED c.2 hb.2 h;rw [sQ] at d k2;rw [cN];refine aj ?_;rw [Po];simp only [ai,GD,d,k2];rfl
theorem pA{m k:Nat}{a:Vl}{b:Nm}(c:VB m a)(hb:QB k (nv b))(h:m+k<=6300):Or (.call 82) [EV a,EN b] []=some (VC (fM a b)):=by have d:=EE c.1 hb h;have k2:=EE c.2 hb h;rw [sQ] at d k2;rw [cN];refine aj ?_;rw [Pp];simp only [ai,GD,d,k2];rfl
theorem wE{m k:Nat}{a b:Vl}(d:VB m a)(hb:VB k b)(h:m+k<=6300):Or (.call 119) [EV a,EV b] []=some [ti (eU a b)]:=by
 have e:=oh d.1 hb.1 h;have k2:=oh d.2 hb.2 h;refine aj ?_;rw [OJ];unfold eU;by_cases c:cq (nv a.1) (nv b.1)=0
 .simp only [ai,↓reduceIte,GD,e,k2,c]
 .simp only [ai,↓reduceIte,GD,e,k2,c]
abbrev TP(n:Nat)(er:Bool)(rows:List R)(eb:Bool)(ah:List Nat)(ev:Bool)(val:List Vl)(eg:Bool)(aB:List Nm):T:=
 T.ptr [ti (n:Int),T.aa 3 er (dK rows),T.aa 1 eb (cX ah),T.any,T.any,T.aa 8 ev (eB val),T.aa 4 eg (aS aB)]
structure Sz (n:Nat) (rows:List R):Prop where
 n:n<=12
 m:rows.length<=40
 tv:∀r∈rows, -1000000<=r.tv/\r.tv<=1000000
def bc(rows:List R)(i:Nat):R:=rows.getD i default
theorem pq{rows:List R}{i:Nat}(h:i < rows.length):rows[i]? =some (bc rows i):=by unfold bc;rw [U7,Vb h];rfl
theorem jy{rows:List R}{i:Nat}(h:i < rows.length):bc rows i∈rows:=U8 (pq h)
def bU(n:Nat)(rows:List R)(v:Nat):Vl:=if v < n then(none,none) else(some ((bc rows (v - n)).tv:Rat),if(bc rows (v - n)).kd=2 then some ((-1:Int):Rat) else none)
def fy(n:Nat)(rows:List R)(v:Nat):Bool:= !decide (v < n) && decide ((bc rows (v - n)).kd=3)
def iL(n:Nat)(rows:List R)(v:Nat):Vl:=if fy n rows v=true then(some ((bc rows (v - n)).tv:Rat),none) else(none,none)
theorem iC(m:Nat):QB m 0:=⟨by simp,by simpa using Zs⟩
theorem eM{m:Nat}{c:Int}(h:c.natAbs<=2 ^ m):QB m (c:Rat):=⟨h,Zs⟩
theorem qX{n:Nat}{rows:List R}(sz:Sz n rows){v:Nat}(hv:v < n+rows.length):VB 20 (bU n rows v):=by
 unfold bU;by_cases h:v < n
 .rw [if_pos h];exact⟨iC _,iC _⟩
 .rw [if_neg h];have:=sz.tv _ (jy (i:=v - n) (by omega));refine⟨eM (by omega), ?_⟩;dsimp only;split
  .exact eM (by decide)
  .exact iC _
theorem vC{n:Nat}{rows:List R}(sz:Sz n rows){v:Nat}(hv:v < n+rows.length):VB 20 (iL n rows v):=by
 unfold iL;by_cases h:fy n rows v=true
 .rw [if_pos h];have b:¬v < n:=λa=>by simp [fy,a] at h
  have:=sz.tv _ (jy (rows:=rows) (i:=v - n) (by omega));exact⟨eM (by omega),iC _⟩
 .rw [if_neg h];exact⟨iC _,iC _⟩
theorem tq{v n:Nat}(h:¬v < n)(hv:v<=1000):i64.wrap ((v:Int) - (n:Int))= ((v - n:Nat):Int):=by rw [Go.Aev.wr (by omega)];omega
section
variable {n:Nat} {rows:List R} (sz:Sz n rows) (er eb ev eg:Bool) (ah:List Nat) (val:List Vl) (aB:List Nm)
include sz
theorem tB{v:Nat}(hv:v < n+rows.length):Or (.call 79) [AV.t (TP n er rows eb ah ev val eg aB),I (v:Int)] []=some (VC (bU n rows v)++ [tb (!decide (v < n))]):=by
 have g:=sz.n;have hm:=sz.m;refine aj ?_;rw [Pm,cN];unfold bU;by_cases h:v < n
 .have h1:(v:Int) < (n:Int):=by omega
  simp only [ai,↓reduceIte,GD,h,h1,decide_true];rfl
 .have h1:¬(v:Int) < (n:Int):=by omega
  have d:=tq h (by omega);have hi:v - n < rows.length:=by omega
  have c: 0<=((v - n:Nat):Int)/\((v - n:Nat):Int) < (rows.length:Int):=by omega
  have e:=sz.tv _ (jy hi);have a:=AH (bc rows (v - n)).tv (by omega);have k2:=AH (-1) (by omega);rw [sQ] at a k2;by_cases b:(bc rows (v - n)).kd=2
  .simp only [ai,↓reduceIte,GD,h,h1,d,c,and_self,bq,cV (pq hi),a,k2,b,decide_false];rfl
  .simp only [ai,↓reduceIte,GD,h,h1,d,c,and_self,bq,cV (pq hi),a,k2,b,decide_false];rfl
theorem wI{v:Nat}(hv:v < n+rows.length):Or (.call 80) [AV.t (TP n er rows eb ah ev val eg aB),I (v:Int)] []=some (VC (iL n rows v)++ [tb (fy n rows v)]):=by
 have i:=sz.n;have hm:=sz.m;refine aj ?_;rw [Pn,cN];unfold iL fy;by_cases h:v < n
 .have h1:(v:Int) < (n:Int):=by omega
  simp only [bL,ai,GD,h,h1,decide_true];rfl
 .have h1:¬(v:Int) < (n:Int):=by omega
  have e:=tq h (by omega);have hi:v - n < rows.length:=by omega
  have d: 0<=((v - n:Nat):Int)/\((v - n:Nat):Int) < (rows.length:Int):=by omega
  have g:=sz.tv _ (jy hi);have b:=AH (bc rows (v - n)).tv (by omega);rw [sQ] at b;by_cases a:(bc rows (v - n)).kd=3
  .simp only [ai,↓reduceIte,GD,h,h1,e,d,and_self,bq,cV (pq hi),b,a,decide_false,decide_true];rfl
  .have c:((bc rows (v - n)).kd==3)=false:=by simpa using a
   simp only [ai,↓reduceIte,GD,h,h1,e,d,and_self,bq,cV (pq hi),b,a,decide_false];rfl
def aI(val:List Vl)(v:Nat):Vl:=val.getD v (none,none)
omit sz in
theorem nf{val:List Vl}{i:Nat}(h:i < val.length):val[i]? =some (aI val i):=by unfold aI;rw [U7,Vb h];rfl
def fq(n:Nat)(rows:List R)(val:List Vl)(v:Nat)(w:Int):Bool:=
 if w > 0 then decide (v < n) || decide (eU (aI val v) (bU n rows v) < 0) else !fy n rows v || decide (eU (aI val v) (iL n rows v) > 0)
theorem AQ{m:Nat}(k:val.length=n+rows.length)(hb:∀v,v < n+rows.length->VB m (aI val v))(hm:m<=6200){v:Nat}(hv:v < n+rows.length)(w:Int):
  Or (.call 77) [AV.t (TP n er rows eb ah ev val eg aB),I (v:Int),I w] []=some [tb (fq n rows val v w)]:=by
 have b:=tB sz er eb ev eg ah val aB hv;have k2:=wI sz er eb ev eg ah val aB hv;have g:=wE (hb v hv) (qX sz hv) (by omega);have j:=wE (hb v hv) (vC sz hv) (by omega);have e: 0<=(v:Int)/\(v:Int) < (val.length:Int):=by omega
 have d:=mO (nf (val:=val) (i:=v) (by omega));rw [cN] at b k2;simp only [Vc,Ve] at b k2;refine aj ?_;rw [Pj];unfold fq;by_cases a:w > 0
 .by_cases h:v < n
  .simp only [bL,ai,↓reduceIte,GD,cu,a,b,h,decide_true,Zy]
   try rfl
  .simp only [ai,↓reduceIte,GD,cu,a,b,h,decide_false,e,and_self,cO,d,g,Wz]
 .cases c:fy n rows v
  .rw [c] at k2;simp only [bL,ai,↓reduceIte,GD,cu,a,k2,Zy]
   try rfl
  .rw [c] at k2;simp only [ai,↓reduceIte,GD,cu,a,k2,e,and_self,cO,d,j,Wz]
def cS(n:Nat)(rows:List R)(val:List Vl):List Nat->Int×Int->Int×Int
 | [],p=>p
 | b::r,p=>if p.1>=0/\(b:Int) > p.1 then cS n rows val r p else
  if fy n rows b=true/\eU (aI val b) (iL n rows b) < 0 then cS n rows val r (b,1) else
  if ¬b < n/\eU (aI val b) (bU n rows b) > 0 then cS n rows val r (b, -1) else cS n rows val r p
theorem Uv{m:Nat}(K:val.length=n+rows.length)(hb:∀v,v < n+rows.length->VB m (aI val v))(hm:m<=6200)(C:∀b∈ah,b < n+rows.length)(H:ah.length<=1000):
  ∀(a:List Nat) (i:Nat) (p:Int×Int),ah.drop i=a->
  Or ye [AV.t (TP n er rows eb ah ev val eg aB),I p.1,I p.2,AV.t (T.aa 1 eb (cX ah)),I (ah.length:Int),I (i:Int)] []=some [ti (cS n rows val a p).1,ti (cS n rows val a p).2]:=by
 intro a;induction a with
 | nil=>
  intro i p h;have h1:¬(i:Int) < (ah.length:Int):=by have:=bm h;omega
  refine aj ?_;rw [oP];simp only [ai,↓reduceIte,GD,h1,cS]
 | cons b a B=>
  intro i p h;obtain⟨q,J,z⟩:=bh h;have h1:(i:Int) < (ah.length:Int):=by omega
  have d: 0<=(i:Int):=by omega
  have o:=C b (U8 q);have r:=tB sz er eb ev eg ah val aB o;have k2:=wI sz er eb ev eg ah val aB o;have w:=wE (hb b o) (qX sz o) (by omega);have x:=wE (hb b o) (vC sz o) (by omega);have u: 0<=(b:Int)/\(b:Int) < (val.length:Int):=by omega
  have s:=mO (nf (val:=val) (i:=b) (by omega));rw [cN] at r k2;simp only [Vc,Ve] at r k2;have y:=B (i+1) p z;have F:=B (i+1) ((b:Int),1) z;have G:=B (i+1) ((b:Int), -1) z;by_cases hs:p.1>=0/\(b:Int) > p.1
  .have D:=hs.1;have E:=hs.2;have c:cS n rows val (b::a) p=cS n rows val a p:=by rw [cS,if_pos hs]
   rw [c];refine aj ?_;rw [oP];simp only [ai,↓reduceIte,GD,h1,d,and_self,dC,jO q,D,E,decide_true,next i (by omega)];exact y
  .have l:(if p.1>=0 then decide ((b:Int) > p.1) else false)=false:=by
    by_cases A:p.1>=0
    .rw [if_pos A];exact decide_eq_false (λj=>hs ⟨A,j⟩)
    .rw [if_neg A]
   by_cases h:b < n
   .have e:fy n rows b=false:=by simp [fy,h]
    rw [e] at k2;have c:cS n rows val (b::a) p=cS n rows val a p:=by rw [cS,if_neg hs,if_neg (by rw [e];simp),if_neg (λj=>j.1 h)]
    rw [c];refine aj ?_;rw [oP];simp only [bL,ai,↓reduceIte,GD,cu,h1,d,u,and_self,dC,jO q,l,r,k2,h,decide_true,cO,s,next i (by omega)];exact y
   .cases e:fy n rows b
    .rw [e] at k2;by_cases g:eU (aI val b) (bU n rows b) > 0
     .have c:cS n rows val (b::a) p=cS n rows val a ((b:Int), -1):=by
       rw [cS,if_neg hs,if_neg (by rw [e];simp),if_pos ⟨h,g⟩]
      rw [c];refine aj ?_;rw [oP];simp only [bL,ai,↓reduceIte,GD,cu,h1,d,u,and_self,dC,jO q,l,r,k2,h,decide_false,decide_true,cO,s,w,g,next i (by omega)];exact G
     .have c:cS n rows val (b::a) p=cS n rows val a p:=by
       rw [cS,if_neg hs,if_neg (by rw [e];simp),if_neg (λj=>g j.2)]
      rw [c];refine aj ?_;rw [oP];simp only [bL,ai,↓reduceIte,GD,cu,h1,d,u,and_self,dC,jO q,l,r,k2,h,decide_false,decide_true,cO,s,w,g,next i (by omega)];exact y
    .rw [e] at k2;by_cases k:eU (aI val b) (iL n rows b) < 0
     .have c:cS n rows val (b::a) p=cS n rows val a ((b:Int),1):=by
       rw [cS,if_neg hs,if_pos ⟨e,k⟩]
      rw [c];refine aj ?_;rw [oP];by_cases g:eU (aI val b) (bU n rows b) > 0
      .simp only [ai,↓reduceIte,GD,cu,h1,d,u,and_self,dC,jO q,l,r,k2,h,decide_false,decide_true,cO,s,w,x,g,k,next i (by omega)];exact F
      .simp only [ai,↓reduceIte,GD,cu,h1,d,u,and_self,dC,jO q,l,r,k2,h,decide_false,decide_true,cO,s,w,x,g,k,next i (by omega)];exact F
     .by_cases g:eU (aI val b) (bU n rows b) > 0
      .have c:cS n rows val (b::a) p=cS n rows val a ((b:Int), -1):=by
        rw [cS,if_neg hs,if_neg (λj=>k j.2),if_pos ⟨h,g⟩]
       rw [c];refine aj ?_;rw [oP];simp only [ai,↓reduceIte,GD,cu,h1,d,u,and_self,dC,jO q,l,r,k2,h,decide_false,decide_true,cO,s,w,x,g,k,next i (by omega)];exact G
      .have c:cS n rows val (b::a) p=cS n rows val a p:=by
        rw [cS,if_neg hs,if_neg (λj=>k j.2),if_neg (λj=>g j.2)]
       rw [c];refine aj ?_;rw [oP];simp only [ai,↓reduceIte,GD,cu,h1,d,u,and_self,dC,jO q,l,r,k2,h,decide_false,decide_true,cO,s,w,x,g,k,next i (by omega)];exact y
def iU(n:Nat)(rows:List R)(val:List Vl)(ah:List Nat):Int×Int:=cS n rows val ah (-1,0)
theorem LB{m:Nat}(d:val.length=n+rows.length)(hb:∀v,v < n+rows.length->VB m (aI val v))(hm:m<=6200)(c:∀b∈ah,b < n+rows.length)(a:ah.length<=1000):
  Or (.call 76) [AV.t (TP n er rows eb ah ev val eg aB)] []=some [ti (iU n rows val ah).1,ti (iU n rows val ah).2]:=by
 have:=Uv sz er eb ev eg ah val aB d hb hm c a ah 0 (-1,0) rfl;refine aj ?_;rw [Ph];simp only [dC];exact this
end
open Go Go.Aev Go.Aev.Gen Go.Aev.Wd
def bK:Nat->List (List Nm)->List Row
 | _,[]=> []
 | s,x::r=>⟨s,[T.ax],some (false,aS x)⟩::bK (s+1) r
theorem cM:∀(s:Nat) (l:List (List Nm)),(bK s l).length=l.length
 | _,[]=>rfl
 | s,x::r=>by simp [bK,cM (s+1) r]
def az(al:List (List Nm))(i:Nat):List Nm:=al.getD i []
theorem jm{al:List (List Nm)}{i:Nat}(h:i < al.length):al[i]? =some (az al i):=by unfold az;rw [U7,Vb h];rfl
theorem I5:∀{l:List (List Nm)} {s i:Nat} {x:List Nm},l[i]? =some x->(bK s l)[i]? =some ⟨s+i,[T.ax],some (false,aS x)⟩
 | [],_,_,_,h=>by simp at h
 | y::r,s,0,x,h=>by simp at h;subst h;rfl
 | y::r,s,i+1,x,h=>by have:=I5 (l:=r) (s:=s+1) (i:=i) (x:=x) (by simpa using h);rw [show s+ (i+1)=s+1+i by omega];simpa [bK] using this
theorem lj{al:List (List Nm)}{i:Nat}(h:i < al.length):(bK 0 al)[((i:Nat):Int).toNat]? =some ⟨i,[T.ax],some (false,aS (az al i))⟩:=by have:=I5 (s:=0) (jm h);rw [VM] at this;simpa using this
theorem HY:∀{l:List (List Nm)} {s i:Nat} {x:List Nm},l[i]? =some x->bC (s+i) (bK s l)=some (false,aS x)
 | [],_,_,_,h=>by simp at h
 | y::r,s,0,x,h=>by simp at h;subst h;simp [bK,bC]
 | y::r,s,i+1,x,h=>by
  have:=HY (l:=r) (s:=s+1) (i:=i) (x:=x) (by simpa using h);rw [show s+ (i+1)=s+1+i by omega];have a:¬s=s+1+i:=by omega
  simp only [bK,bC,if_neg a];exact this
theorem jQ{al:List (List Nm)}{i:Nat}(h:i < al.length):bC i (bK 0 al)=some (false,aS (az al i)):=by have:=HY (s:=0) (jm h);rwa [VM] at this
theorem KT:∀{l:List (List Nm)} {s i:Nat} (p:Bool×List (List T)) (y:List Nm),p= (false,aS y)->i < l.length->dO (s+i) (some p) (dO (s+i) none (bK s l))=bK s (l.set i y)
 | [],_,_,_,_,_,h=>by simp at h
 | z::r,s,0,p,y,e,_=>by subst e;simp [bK,dO]
 | z::r,s,i+1,p,y,e,h=>by
  have:=KT (l:=r) (s:=s+1) (i:=i) p y e (by simpa using h);rw [show s+ (i+1)=s+1+i by omega];have a:¬s=s+1+i:=by omega
  simp only [bK,dO,if_neg a,this,X9]
theorem Tf{al:List (List Nm)}{i:Nat}(y:List Nm)(h:i < al.length):dO i (some (false,aS y)) (dO i none (bK 0 al))=bK 0 (al.set i y):=by have:=KT (s:=0) (i:=i) (false,aS y) y rfl h;rwa [VM] at this
theorem JF:∀{l:List (List Nm)} {s i:Nat},i < l.length->mb (s+i) (dO (s+i) none (bK s l))=some ()
 | [],_,_,h=>by simp at h
 | z::r,s,0,_=>by simp [bK,dO,mb]
 | z::r,s,i+1,h=>by
  have:=JF (l:=r) (s:=s+1) (i:=i) (by simpa using h);rw [show s+ (i+1)=s+1+i by omega];have a:¬s=s+1+i:=by omega
  simp only [bK,dO,mb,if_neg a,this]
theorem Rx{al:List (List Nm)}{i:Nat}(h:i < al.length):mb i (dO i none (bK 0 al))=some ():=by have:=JF (s:=0) h;rwa [VM] at this
theorem cK:∀(l:List (List Nm)) (s:Nat),bP (bK s l)=true
 | [],_=>rfl
 | x::r,s=>by
  have:=cK r (s+1);unfold bP at *
  simp [bK,this]
theorem So(s:Nat)(cs:List T)(p:Bool×List (List T)):pr ⟨s,cs,some p⟩=T.aa 0 p.1 p.2:=rfl
theorem F4:∀(l:List (List Nm)) (s:Nat),rU s ((bK s l).map λe=> [.ptr e.cs,pr e])=some (bK s l)
 | [],_=>rfl
 | x::r,s=>by have:=F4 r (s+1);simp only [bK,VN,So,rU];rw [this];rfl
theorem dY(b:Bool)(l:List (List Nm)):kU (bN b (bK 0 l))=some (b,bK 0 l):=by simp only [bN,kU];rw [F4];rfl
theorem Ho:∀(l:List (List Nm)) (s i k:Nat) (y:List Nm),((bK s l).set i ⟨k,[T.ax],some (false,aS y)⟩).map (λe=> [.ptr e.cs,pr e])= (bK s (l.set i y)).map (λe=> [T.ptr e.cs,pr e])
 | [],_,_,_,_=>rfl
 | z::r,s,0,k,y=>by simp [bK,pr]
 | z::r,s,i+1,k,y=>by have:=Ho r (s+1) i k y;simp only [bK,X9,VN,this]
theorem OF(b:Bool)(l:List (List Nm))(i k:Nat)(y:List Nm):bN b ((bK 0 l).set i ⟨k,[T.ax],some (false,aS y)⟩)=bN b (bK 0 (l.set i y)):=by simp only [bN,Ho]
theorem L4(l:List Row)(i k:Nat)(cs:List T)(p:Bool×List (List T))(h:bP l=true):bP (l.set i ⟨k,cs,some p⟩)=true:=by
 unfold bP at *
 rw [Vt] at *
 intro x a;rcases VR a with h1 | h1
 .exact h x h1
 .subst h1;rfl
abbrev Ln:=List (Nat×Nat)
def bZ(l:Ln):List (List T×T):=l.map λp=>([ti (p.1:Int)],ti (p.2:Int))
def cv(v:Nat):Ln->Option Nat
 | []=>none
 | p::r=>if v=p.1 then some p.2 else cv v r
def jv(v i:Nat):Ln->Ln
 | []=> [(v,i)]
 | p::r=>if v=p.1 then(v,i)::r else p::jv v i r
def kV(v:Nat):Ln->Ln
 | []=> []
 | p::r=>if v=p.1 then r else p::kV v r
theorem CR(a b:Nat):eL [ti (a:Int)] [ti (b:Int)]=decide (a=b):=by
 by_cases h:a=b
 .subst h;simp [eL,nG]
 .have:¬(a:Int)= (b:Int):=by omega
  simp [eL,nG,h,this]
theorem uY(v:Nat):∀(l:Ln),fK [ti (v:Int)] (bZ l)= (cv v l).map λ(i:Nat)=>ti (i:Int)
 | []=>rfl
 | p::r=>by
  have:=uY v r;unfold bZ at *
  rw [VN,fK,CR,cv];by_cases h:v=p.1
  .simp [h]
  .simp [h,this]
theorem Al(v i:Nat):∀(l:Ln),ig [ti (v:Int)] (ti (i:Int)) (bZ l)=bZ (jv v i l)
 | []=>rfl
 | p::r=>by
  have:=Al v i r;unfold bZ at *
  rw [VN,ig,CR,jv];by_cases h:v=p.1
  .simp [h]
  .simp [h,this]
theorem Cd(v:Nat):∀(l:Ln),jo [ti (v:Int)] (bZ l)=bZ (kV v l)
 | []=>rfl
 | p::r=>by
  have:=Cd v r;unfold bZ at *
  rw [VN,jo,CR,kV];by_cases h:v=p.1
  .simp [h]
  .simp [h,this]
theorem zY(u v i:Nat):∀(l:Ln),cv u (jv v i l)=if u=v then some i else cv u l
 | []=>by simp [jv,cv]
 | p::r=>by
  have:=zY u v i r;rw [jv];by_cases h:v=p.1
  .rw [if_pos h];simp only [cv];by_cases a:u=v
   .simp [a]
   .have b:¬u=p.1:=by rw [<-h];exact a
    simp [a,b]
  .rw [if_neg h];simp only [cv,this];by_cases a:u=p.1
   .have b:¬u=v:=λe=>h (by rw [<-e,a]);rw [if_pos a,if_neg b,if_pos a]
   .rw [if_neg a,if_neg a]
def oE:Ln->Prop
 | []=>True
 | p::r=>cv p.1 r=none/\oE r
theorem zX(u v:Nat):∀(l:Ln),oE l->cv u (kV v l)=if u=v then none else cv u l
 | [],_=>by simp [kV,cv]
 | p::r,h=>by
  have:=zX u v r h.2;rw [kV];by_cases hv:v=p.1
  .rw [if_pos hv];by_cases a:u=v
   .rw [if_pos a,a,hv];exact h.1
   .rw [if_neg a,cv,if_neg (by rw [<-hv];exact a)]
  .rw [if_neg hv];simp only [cv,this];by_cases a:u=p.1
   .have b:¬u=v:=λe=>hv (by rw [<-e,a]);rw [if_pos a,if_neg b,if_pos a]
   .rw [if_neg a,if_neg a]
theorem Dd(v i:Nat):∀(l:Ln),oE l->oE (jv v i l)
 | [],_=>⟨rfl,trivial⟩
 | p::r,h=>by
  rw [jv];by_cases hv:v=p.1
  .rw [if_pos hv];exact⟨by rw [hv];exact h.1,h.2⟩
  .rw [if_neg hv];refine⟨?_,Dd v i r h.2⟩;rw [zY,if_neg (λe=>hv e.symm)];exact h.1
theorem IM(v:Nat):∀(l:Ln),oE l->oE (kV v l)
 | [],_=>trivial
 | p::r,h=>by
  rw [kV];by_cases hv:v=p.1
  .rw [if_pos hv];exact h.2
  .rw [if_neg hv];refine⟨?_,IM v r h.2⟩;rw [zX _ _ _ h.2,if_neg (λe=>hv e.symm)];exact h.1
structure TL where
 ah:List Nat
 mp:Ln
 al:List (List Nm)
 val:List Vl
 aB:List Nm
structure Fl where
 er:Bool
 eb:Bool
 ec:Bool
 ev:Bool
 eg:Bool
abbrev S1(n:Nat)(rows:List R)(f:Fl)(t:TL):List ab:=
 [ab.box [I (n:Int),AV.t (T.aa 3 f.er (dK rows)),AV.own (Id.c 1),AV.own (Id.c 2),AV.own (Id.c 3),AV.own (Id.c 4),AV.own (Id.c 5)],ab.sl false 1 f.eb (cX t.ah),ab.mp false [Ck.i .i64] (Ck.i .i64) (bZ t.mp),
  ab.rows f.ec 1 0 4 t.al.length (bK 0 t.al),ab.sl false 8 f.ev (eB t.val),ab.sl false 4 f.eg (aS t.aB)]
abbrev S2(n:Nat)(rows:List R)(f:Fl)(t:TL):List ab:=
 [ab.box [I (n:Int),AV.t (T.aa 3 f.er (dK rows)),AV.own (Id.c 1),AV.own (Id.c 2),AV.own (Id.c 6),AV.own (Id.c 4),AV.own (Id.c 5)],ab.sl false 1 f.eb (cX t.ah),ab.mp false [Ck.i .i64] (Ck.i .i64) (bZ t.mp),
  ab.dead,ab.sl false 8 f.ev (eB t.val),ab.sl false 4 f.eg (aS t.aB),ab.rows f.ec 1 0 4 t.al.length (bK 0 t.al)]
def fO(n:Nat)(rows:List R)(f:Fl)(t:TL):List T:=
 [ti (n:Int),T.aa 3 f.er (dK rows),T.ax,T.ax,bN f.ec (bK 0 t.al),T.ax,T.ax,T.aa 1 f.eb (cX t.ah),bS (bZ t.mp),T.aa 8 f.ev (eB t.val),T.aa 4 f.eg (aS t.aB)]
theorem eE(n:Nat)(rows:List R)(f:Fl)(t:TL):fO n rows f t= [ti (n:Int),T.aa 3 f.er (dK rows),T.ax,T.ax,bN f.ec (bK 0 t.al),T.ax,T.ax,T.aa 1 f.eb (cX t.ah),bS (bZ t.mp),T.aa 8 f.ev (eB t.val),T.aa 4 f.eg (aS t.aB)]:=rfl
theorem cL{a:Type}(k:Unit->Option a):ae none (if(true:Bool)=true then some () else none) k=k ():=by rw [if_pos rfl];rfl
open Go Go.Aev Go.Aev.Gen Go.Aev.Wd
def aq(l:List Nm)(v:Nat):Nm:=l.getD v none
theorem gL{l:List Nm}{i:Nat}(h:i < l.length):l[i]? =some (aq l i):=by unfold aq;rw [U7,Vb h];rfl
def hZ(v:Nat)(a:Vl):List Nat->List (List Nm)->List Vl->List Vl
 | b::bs,x::xs,val=>hZ v a bs xs (val.set b (kR (aI val b) (fM a (aq x v))))
 | _,_,val=>val
theorem qY{val:List Vl}{i:Nat}(h:i < val.length)(x:Vl)(j:Nat):aI (val.set i x) j=if j=i then x else aI val j:=by
 unfold aI;rw [U7,U7,WE];by_cases a:j=i
 .subst a;simp [h]
 .have:¬i=j:=λe=>a e.symm;simp [a,this]
theorem nQ{m k:Nat}{a:Vl}{b:Nm}(c:VB m a)(hb:QB k (nv b)):VB (m+k) (fM a b):=⟨c.1.mul hb,c.2.mul hb⟩
theorem tp{m k:Nat}{a b:Vl}(c:VB m a)(hb:VB k b):VB (m+k+1) (og a b):=⟨c.1.sub hb.1,c.2.sub hb.2⟩
abbrev yC(v:Vl):ab:=ab.box [B (decide ((nv v.1).num < 0)),AV.t (T.str (bJ (dz (nv v.1).num))),B (nc v.1),AV.t (T.str (nd v.1)),B (decide ((nv v.2).num < 0)),AV.t (T.str (bJ (dz (nv v.2).num))),B (nc v.2),AV.t (T.str (nd v.2))]
structure cR (n m:Nat) (t:TL):Prop where
 b:t.ah.length=m
 c:t.al.length=m
 r:∀x∈t.al,x.length=n+m
 v:t.val.length=n+m
 lt:∀b∈t.ah,b < n+m
 nd:t.ah.Nodup
theorem cR.row{n m:Nat}{t:TL}(h:cR n m t){i:Nat}(hi:i < m):(az t.al i).length=n+m:=h.r _ (U8 (jm (by rw [h.c];exact hi)))
theorem I9(v:Nat)(a:Vl):∀(bs:List Nat) (xs:List (List Nm)) (val:List Vl),(hZ v a bs xs val).length=val.length
 | [],_,_=>by simp [hZ]
 | _::_,[],_=>by simp [hZ]
 | b::bs,x::xs,val=>by rw [hZ,I9];simp
section
variable {n:Nat} {rows:List R} (f:Fl) (t:TL)
theorem Ux{m k l:Nat}(d:cR n m t){v:Nat}{w:Vl}(hv:v < n+m)(hm:m<=40)
  (J:VB k w) (u:∀x∈t.al,QB l (nv (aq x v))) {a:Nat} (N:a+ (k+l)+1<=6300):
  ∀(bs:List Nat) (xs:List (List Nm)) (i:Nat) (val:List Vl),t.ah.drop i=bs->t.al.drop i=xs->val.length=n+m->(∀b∈bs,VB a (aI val b))->
  Or Bp [r0,I (v:Int),AV.ref (Id.c 6) 0,AV.own (Id.c 1),I (t.ah.length:Int),I (i:Int)] (S1 n rows f ⟨t.ah,t.mp,t.al,val,t.aB⟩ ++ [yC w])=some (fO n rows f ⟨t.ah,t.mp,t.al,hZ v w bs xs val,t.aB⟩):=by
 intro bs;induction bs with
 | nil=>
  intro xs i val hb p D o;have h1:¬(i:Int) < (t.ah.length:Int):=by have:=bm hb;omega
  have E:hZ v w [] xs val=val:=by cases xs <;> rfl
  rw [E,eE];refine aj ?_;simp only [Vc,Ve];rw [HH];simp only [ai,↓reduceIte,GD,h1,cK]
 | cons b bs O=>
  intro xs i val hb p D o;obtain⟨q,W,M⟩:=bh hb;have T:=d.b;have U:=d.c;cases xs with
  | nil=>have:=bm p;omega
  | cons x xs=>
   obtain⟨g,x2,Q⟩:=bh p;have V:=d.r x (U8 g);have S:=d.lt b (U8 q);have h1:(i:Int) < (t.ah.length:Int):=by omega
   have B: 0<=(i:Int):=by omega
   have C:(i:Int) < (t.al.length:Int):=by omega
   have s: 0<=(b:Int)/\(b:Int) < (val.length:Int):=by omega
   have H: 0<=(v:Int)/\(v:Int) < (x.length:Int):=by omega
   have y:az t.al i=x:=by have:=jm (al:=t.al) (i:=i) (by omega);rw [g] at this;exact(V5 this).symm
   have A:=lj (al:=t.al) (i:=i) (by omega);have z:=jQ (al:=t.al) (i:=i) (by omega);rw [y] at A z;have K:=pA J (u x (U8 g)) (by omega);have G:=o b U9;have k2:=Lh G (nQ J (u x (U8 g))) N;have P:=Hn (l:=val) (i:=b) (by omega) (kR (aI val b) (fM w (aq x v)));rw [cN] at K k2;have j:=d.nd;rw [<-Yj i t.ah,hb] at j;have F:b∉bs:=(WA.1 (W5.1 j).2.1).1;have:=O xs (i+1) (val.set b (kR (aI val b) (fM w (aq x v)))) M Q (by rw [V6];exact D) (λL h=>by
    rw [qY (by omega),if_neg (λe=>F (by rw [<-e];exact h))];exact o L (Va _ h))
   simp only [Vc,Ve] at this;rw [hZ];refine aj ?_;simp only [Vc,Ve];rw [HH];simp only [ai,↓reduceIte,GD,h1,B,C,and_self,dC,jO q,s,cO,mO (nf (val:=val) (i:=b) (by omega)),cM,A,z,H,bH,cE (gL (l:=x) (i:=v) (by omega)),K,k2,P,next i (by omega)];exact this
def eC(v:Nat)(w:Vl)(t:TL):TL:=⟨t.ah,t.mp,t.al,hZ v w t.ah t.al (t.val.set v (kR (aI t.val v) w)),t.aB⟩
theorem tC{m k l:Nat}(c:cR n m t){v:Nat}{w:Vl}(hv:v < n+m)(hm:m<=40)(g:v∉t.ah)
  (o:VB k w) (r:∀x∈t.al,QB l (nv (aq x v))) {a:Nat} (q:a+ (k+l)+1<=6300) (d:∀u,u < n+m->VB a (aI t.val u)):
  Or (.call 84) [r0,I (v:Int),EV w] (S1 n rows f t)=some (fO n rows f (eC v w t)):=by
 have h:=c.v;have p:=Lh (d v hv) o (by omega);rw [cN] at p;have s:=Hn (l:=t.val) (i:=v) (by omega) (kR (aI t.val v) w);have j: 0<=(v:Int)/\(v:Int) < (t.val.length:Int):=by omega
 have:=Ux (n:=n) (rows:=rows) f t c hv hm o r q t.ah t.al 0 (t.val.set v (kR (aI t.val v) w)) rfl rfl (by rw [V6];exact h) (λb hb=>by
  rw [qY (by omega),if_neg (λe=>g (by rw [<-e];exact hb))];exact d b (c.lt b hb))
 simp only [Vc,Ve] at this;refine aj ?_;rw [Pq];simp only [ai,↓reduceIte,GD,j,and_self,cO,mO (nf (val:=t.val) (i:=v) (by omega)),p,s,dC];exact this
end
open Go Go.Aev Go.Aev.Gen Go.Aev.Wd
def pl(x y:Nm):Nm:=some (nv x+nv y)
def mi(x y:Nm):Nm:=some (nv x - nv y)
def tm(x y:Nm):Nm:=some (nv x * nv y)
def ov(x y:Nm):Nm:=some (nv x / nv y)
def ng(x:Nm):Nm:=some (-(nv x))
def iN(x:Int):Nm:=some (x:Rat)
theorem RC(x y:Nm):nv (tm x y)=nv x * nv y:=rfl
abbrev QN(m:Nat)(x:Nm):Prop:=QB m (nv x)
abbrev NL(x:Nm):List T:= [tb (decide ((nv x).num < 0)),T.str (bJ (dz (nv x).num)),tb (nc x),T.str (nd x)]
theorem mW{m k:Nat}{x y:Nm}(a:QN m x)(b:QN k y)(h:m+k+1<=6300):Or (.call 63) [EN x,EN y] []=some (NL (pl x y)):=AI a b h
theorem DN{m k:Nat}{x y:Nm}(a:QN m x)(b:QN k y)(h:m+k+1<=6300):Or (.call 121) [EN x,EN y] []=some (NL (mi x y)):=ED a b h
theorem lB{m k:Nat}{x y:Nm}(a:QN m x)(b:QN k y)(h:m+k<=6300):Or (.call 64) [EN x,EN y] []=some (NL (tm x y)):=EE a b h
theorem mX{m k:Nat}{x y:Nm}(b:QN m x)(c:QN k y)(h:m+k<=6300)(a:nv y≠0):Or (.call 83) [EN x,EN y] []=some (NL (ov x y))/\QN (m+k) (ov x y):=TI b c h a
theorem DM(x:Nm):Or (.call 120) [EN x] []=some (NL (ng x)):=Lf x
theorem gh(x:Int)(h: -9223372036854775808<=x/\x < 9223372036854775808):Or (.call 32) [I x] []=some (NL (iN x)):=AH x h
theorem gm(q:Rat):q.num.sign=0↔q=0:=by rw [YC,Zc]
abbrev iv(x:Nm):ab:=ab.box [B (decide ((nv x).num < 0)),AV.t (T.str (bJ (dz (nv x).num))),B (nc x),AV.t (T.str (nd x))]
def iQ(c:Nm):List Nm->List Nm->List Nm
 | r::b,y::a=>(if nv r=0 then y else pl y (tm c r))::iQ c b a
 | _,a=>a
def jC(row:List Nm)(v:Nat)(l:List Nm):List Nm:=if nv (aq l v)=0 then l else iQ (aq l v) row (l.set v none)
theorem qQ{c:Type}(a:List c)(b v:c)(r:List c)(i:Nat)(h:a.length=i):(a++b::r).set i v=a++v::r:=by subst h;simp
theorem TV{mr ml mc:Nat}(e0 e3:Bool)(v:Nat)(c:Nm)(row:List Nm)(z:QN mc c)(F:∀x∈row,QN mr x)(hs:ml+ (mc+mr)+1<=6300)(hrl:row.length<=100):
  ∀(d a b:List Nm) (k:Nat),row.drop k=d->b.length=k->d.length=a.length->(∀y∈a,QN ml y)->
  Or tZ [AV.own (Id.c 0),AV.ref (Id.c 4) 0,AV.own (Id.c 3),I (row.length:Int),I (k:Int)] [ab.sl false 4 e0 (aS (b++a)),ab.box [I (v:Int)],ab.box [AV.own (Id.c 3)],ab.sl false 4 e3 (aS row),iv c]=
   some [T.aa 4 e0 (aS (b++iQ c d a)),ti (v:Int),T.ax,T.aa 4 e3 (aS row)]:=by
 intro d;induction d with
 | nil=>
  intro a b k h q m hy;have h1:¬(k:Int) < (row.length:Int):=by have:=bm h;omega
  have e:iQ c [] a=a:=rfl;rw [e];refine aj ?_;rw [CD];simp only [ai,↓reduceIte,GD,h1]
 | cons r d C=>
  intro a b k h q m hy;obtain⟨p,K,w⟩:=bh h;cases a with
  | nil=>simp at m
  | cons y a=>
   have h1:(k:Int) < (row.length:Int):=by omega
   have o: 0<=(k:Int):=by omega
   have J:(b++y::a).length=k+1+a.length:=by simp;omega
   have B:(k:Int) < ((b++y::a).length:Int):=by omega
   have A:(b++y::a)[k]? =some y:=by rw [Wo (by omega),q,XQ];rfl
   have q1:=F r (U8 p);have H:=hy y U9;have ks:=lK r;by_cases j:nv r=0
   .have e:iQ c (r::d) (y::a)=y::iQ c d a:=by rw [iQ,if_pos j]
    have g:=(gm (nv r)).2 j;have:=C a (b++ [y]) (k+1) w (by simp;omega) (by simpa using m) (λu s=>hy u (Va _ s));simp only [VI,Vc,Ve] at this;rw [e];refine aj ?_;rw [CD];simp only [ai,↓reduceIte,GD,h1,o,and_self,bH,cE p,ks,g,next k (by omega)];exact this
   .have e:iQ c (r::d) (y::a)=pl y (tm c r)::iQ c d a:=by rw [iQ,if_neg j]
    have g:¬(nv r).num.sign=0:=λE=>j ((gm _).1 E);have G:=lB z q1 (by omega);have k2:=mW (x:=y) (y:=tm c r) H (z.mul q1) hs;have D:=kz (l:=b++y::a) (i:=k) (by omega) (pl y (tm c r));rw [qQ _ _ _ _ _ q] at D;have:=C a (b++ [pl y (tm c r)]) (k+1) w (by simp;omega) (by simpa using m) (λu s=>hy u (Va _ s));simp only [VI,Vc,Ve] at this;rw [e];refine aj ?_;rw [CD];simp only [ai,↓reduceIte,GD,h1,o,B,and_self,bH,cE p,cE A,ks,g,G,k2,D,next k (by omega)];exact this
theorem Lw{mr ml:Nat}(e0 e3:Bool)(v:Nat)(row l:List Nm)(m:∀x∈row,QN mr x)(g:∀x∈l,QN ml x)(hs:ml+ (ml+mr)+1<=6300)(hrl:row.length<=100)(h:row.length=l.length)(hv:v < l.length):
  Or (.call 123) [AV.own (Id.c 0),AV.ref (Id.c 1) 0,AV.ref (Id.c 2) 0] [ab.sl false 4 e0 (aS l),ab.box [I (v:Int)],ab.box [AV.own (Id.c 3)],ab.sl false 4 e3 (aS row)]=
   some [T.aa 4 e0 (aS (jC row v l)),ti (v:Int),T.ax,T.aa 4 e3 (aS row)]:=by
 have d: 0<=(v:Int)/\(v:Int) < (l.length:Int):=by omega
 have e:=gL hv;have ks:=lK (aq l v);unfold jC;by_cases b:nv (aq l v)=0
 .have a:=(gm (nv (aq l v))).2 b;rw [if_pos b];refine aj ?_;rw [Hr];simp only [ai,↓reduceIte,GD,d,and_self,bH,cE e,ks,a]
 .have a:¬(nv (aq l v)).num.sign=0:=λk=>b ((gm _).1 k);have j:=kz (l:=l) (i:=v) hv none;rw [show [tb (decide ((nv none).num < 0)),T.str (bJ (dz (nv none).num)),tb (nc none),T.str (nd none)]= [tb false,T.str (ByteArray.mk #[]),tb false,T.str (ByteArray.mk #[])] from rfl] at j;have:=TV (mr:=mr) (ml:=ml) (mc:=ml) e0 e3 v (aq l v) row (g _ (U8 e)) m hs hrl row (l.set v none) [] 0 rfl rfl (by simpa using h) (λy hy=>by
   rcases VR hy with h1 | h1
   .exact g y h1
   .subst h1;exact iC _)
  simp only [Ve] at this;rw [if_neg b];refine aj ?_;rw [Hr];simp only [ai,↓reduceIte,GD,d,and_self,bH,cE e,ks,a,j];exact this
def gA(row:List Nm)(v i:Nat):Nat->List (List Nm)->List (List Nm)
 | _,[]=> []
 | k,x::xs=>(if k=i then x else jC row v x)::gA row v i (k+1) xs
def cH(x:List Nm)(v b:Nat):List Nm:=((x.map λy=>ng (ov y (aq x v))).set v none).set b (ov (iN 1) (aq x v))
def fB(i v b:Nat)(row:List Nm)(eg:Bool)(t:TL):TL:=
 ⟨t.ah.set i v,jv v i (kV b t.mp),(gA row v i 0 t.al).set i row,t.val,if eg then t.aB else jC row v t.aB⟩
theorem En(row:List Nm)(v i:Nat):∀(xs:List (List Nm)) (k:Nat),(gA row v i k xs).length=xs.length
 | [],_=>rfl
 | x::xs,k=>by simp [gA,En row v i xs (k+1)]
section
variable {n:Nat} {rows:List R} (f:Fl) (t:TL)
theorem Uy{m mr ml:Nat}(L:cR n m t)(S:n<=12)(hm:m<=40){i v b:Nat}(hi:i < m)(hv:v < n+m)(hb:t.ah[i]? =some b)(row:List Nm)(hrl:row.length=n+m)
  (K:∀x∈row,QN mr x) (Q:∀x∈t.al,∀y∈x,QN ml y) (N:f.eg=false->t.aB.length=n+m/\∀y∈t.aB,QN ml y) (hs:ml+ (ml+mr)+1<=6300):
  ∀(xs a:List (List Nm)) (k:Nat),a.length=k->a.length+xs.length=m->(∀x∈xs,x.length=n+m/\∀y∈x,QN ml y)->
  Or ue [r0,I (i:Int),AV.ref (Id.c 6) 0,I (b:Int),AV.ref (Id.c 7) 0,AV.fn 123 [] [AV.ref (Id.c 6) 0,AV.ref (Id.c 7) 0],I (m:Int),I (k:Int)]
   (S1 n rows f ⟨t.ah,t.mp,a++xs,t.val,t.aB⟩ ++ [ab.box [I (v:Int)],ab.box [AV.own (Id.c 8)],ab.sl false 4 false (aS row)])=
   some (fO n rows f ⟨t.ah.set i v,jv v i (kV b t.mp),(a++gA row v i k xs).set i row,t.val,if f.eg then t.aB else jC row v t.aB⟩):=by
 intro xs;have P:=L.b;induction xs with
 | nil=>
  intro a k w g j;simp only [VL,X1] at g;have h1:¬(k:Int) < (m:Int):=by omega
  have p: 0<=(i:Int)/\(i:Int) < (a.length:Int):=by omega
  have q: 0<=(i:Int)/\(i:Int) < (t.ah.length:Int):=by omega
  have d:=lj (al:=a) (i:=i) (by omega);have kb:=OC (l:=t.ah) (i:=i) (by omega) v;have h:((i:Nat):Int).toNat=i:=by omega
  rw [h] at d kb;have C:=L4 (bK 0 a) i a.length [T.ax] (false,aS row) (cK _ _);have E:=OF f.ec a i a.length row;have e:gA row v i k []= []:=rfl;rw [eE,e,V9];refine aj ?_;simp only [Vc,Ve];rw [CN];cases F:f.eg
  .obtain⟨gl,gq⟩:=N F;have B:=Lw (e0:=false) (e3:=false) v row t.aB K gq hs (by omega) (by omega) (by omega);simp only [ai,↓reduceIte,GD,h1,p,q,and_self,cM,dC,h,d,kb,B,Vf,Cd,Al,C,E];rfl
  .simp only [ai,↓reduceIte,GD,h1,p,q,and_self,cM,dC,h,d,kb,Cd,Al,C,E]
   try rfl
 | cons x xs M=>
  intro a k w g j;simp only [Vw] at g;have h1:(k:Int) < (m:Int):=by omega
  have G: 0<=(k:Int)/\(k:Int) < ((a++x::xs).length:Int):=by simp;omega
  have D:az (a++x::xs) k=x:=by unfold az;rw [U7,Wo (by omega),w,XQ];rfl
  have d:=lj (al:=a++x::xs) (i:=k) (by simp;omega);have o:=jQ (al:=a++x::xs) (i:=k) (by simp;omega);rw [D] at d o;obtain⟨U,O⟩:=j x U9;by_cases r:k=i
  .subst r;have:=M (a++ [x]) (k+1) (by simp;omega) (by simp;omega) (λu A=>j u (Va _ A));simp only [VI,Vc,Ve] at this;have e:gA row v k k (x::xs)=x::gA row v k (k+1) xs:=by rw [gA,if_pos rfl]
   rw [e];refine aj ?_;simp only [Vc,Ve];rw [CN];simp only [ai,↓reduceIte,GD,h1,next k (by omega)];exact this
  .have z:¬(k:Int)= (i:Int):=by omega
   have B:=Lw (e0:=false) (e3:=false) v row x K O hs (by omega) (by omega) (by omega);have s:=Tf (al:=a++x::xs) (i:=k) (jC row v x) (by simp;omega);have J:=Rx (al:=a++x::xs) (i:=k) (by simp;omega);rw [qQ _ _ _ _ _ w] at s;have:=M (a++ [jC row v x]) (k+1) (by simp;omega) (by simp;omega) (λu A=>j u (Va _ A));simp only [VI,Vc,Ve] at this;have e:gA row v i k (x::xs)=jC row v x::gA row v i (k+1) xs:=by rw [gA,if_neg r]
   have H:(a++jC row v x::xs).length= (a++x::xs).length:=by simp
   rw [e];refine aj ?_;simp only [Vc,Ve];rw [CN];simp only [ai,↓reduceIte,GD,h1,z,G,and_self,cM,d,o,B,Vf,J,s,next k (by omega)];rw [H] at this;exact this
theorem Uz{m mc:Nat}(d:cR n m t)(L:n<=12)(hm:m<=40){i v b:Nat}(hi:i < m)(hv:v < n+m)(hb:t.ah[i]? =some b)
  (e:∀x∈t.al,∀y∈x,QN mc y) (s:nv (aq (az t.al i) v)≠0) (K:f.eg=false->t.aB.length=n+m/\∀y∈t.aB,QN mc y) (hs:mc+ (mc+ (2 * mc+10))+1<=6300):
  ∀(xs:List Nm) (k:Nat),(az t.al i).drop k=xs->
  Or yf [r0,I (i:Int),AV.ref (Id.c 6) 0,I (b:Int),AV.ref (Id.c 7) 0,AV.ref (Id.c 8) 0,AV.row (Id.c 3) i,I ((az t.al i).length:Int),I (k:Int)]
   (S1 n rows f t++ [ab.box [I (v:Int)],iv (aq (az t.al i) v),ab.box [AV.own (Id.c 9)],ab.sl false 4 false (aS (((az t.al i).take k).map (λy=>ng (ov y (aq (az t.al i) v)))++List.replicate xs.length none))])=
   some (fO n rows f (fB i v b (cH (az t.al i) v b) f.eg t)):=by
 have j:=d.c;have M:=d.row hi;have S:b < n+m:=d.lt b (U8 hb);have A:=jQ (al:=t.al) (i:=i) (by omega);have g:az t.al i∈t.al:=U8 (jm (by omega));have w:QN mc (aq (az t.al i) v):=e _ g _ (U8 (gL (by omega)));intro xs;induction xs with
 | nil=>
  intro k h;have h1:¬(k:Int) < ((az t.al i).length:Int):=by have:=bm h;omega
  have G:(az t.al i).take k=az t.al i:=We (by have:=bm h;omega);have V:((az t.al i).map (λy=>ng (ov y (aq (az t.al i) v)))).length=n+m:=by simp;omega
  have H: 0<=(v:Int)/\(v:Int) < (((az t.al i).map (λy=>ng (ov y (aq (az t.al i) v)))).length:Int):=by omega
  have z: 0<=(b:Int)/\(b:Int) < ((((az t.al i).map (λy=>ng (ov y (aq (az t.al i) v)))).set v none).length:Int):=by rw [V6];omega
  have u:=gh 1 (by omega);have q1:QN 2 (iN 1):=eM (by decide);obtain⟨k2,O⟩:=mX q1 w (by omega) s;have p:=kz (l:=(az t.al i).map (λy=>ng (ov y (aq (az t.al i) v)))) (i:=v) (by omega) none;rw [show [tb (decide ((nv none).num < 0)),T.str (bJ (dz (nv none).num)),tb (nc none),T.str (nd none)]= [tb false,T.str (ByteArray.mk #[]),tb false,T.str (ByteArray.mk #[])] from rfl] at p;have Q:=kz (l:=((az t.al i).map (λy=>ng (ov y (aq (az t.al i) v)))).set v none) (i:=b) (by rw [V6];omega) (ov (iN 1) (aq (az t.al i) v));have E:∀x∈cH (az t.al i) v b,QN (2 * mc+10) x:=by
   intro x a;unfold cH at a;rcases VR a with a | a
   .rcases VR a with a | a
    .obtain⟨y,hy,rfl⟩:=VJ.1 a;exact((mX (e _ g y hy) w (by omega) s).2).neg.mono (by omega)
    .subst a;exact iC _
   .subst a;exact O.mono (by omega)
  have D:(cH (az t.al i) v b).length=n+m:=by unfold cH;simp;omega
  have:=Uy (n:=n) (rows:=rows) (ml:=mc) f t d L hm hi hv hb (cH (az t.al i) v b) D E e K hs t.al [] 0 rfl (by simpa using j) (λx a=>⟨d.r x a,e x a⟩);simp only [Vc,Ve] at this;rw [G];simp only [VL,WV,V9];refine aj ?_;simp only [Vc,Ve];rw [HI];simp only [ai,↓reduceIte,GD,h1,H,z,and_self,bH,p,Q,u,k2,cM,j];rw [j] at this;exact this
 | cons x xs N=>
  intro k h;obtain⟨q,W,J⟩:=bh h;have h1:(k:Int) < ((az t.al i).length:Int):=by omega
  have B: 0<=(k:Int):=by omega
  have o:(((az t.al i).take k).map (λy=>ng (ov y (aq (az t.al i) v)))).length=k:=by simp;omega
  have U:(((az t.al i).take k).map (λy=>ng (ov y (aq (az t.al i) v)))++List.replicate (x::xs).length none).length= (az t.al i).length:=by rw [Wr,o,W7];have:=congrArg List.length h;simp only [Xb] at this;omega
  have C:(k:Int) < ((((az t.al i).take k).map (λy=>ng (ov y (aq (az t.al i) v)))++List.replicate (x::xs).length none).length:Int):=by omega
  have P:=e _ g x (U8 q);obtain⟨u,q1⟩:=mX P w (by omega) s;have k2:=DM (ov x (aq (az t.al i) v));have p:=kz (l:=((az t.al i).take k).map (λy=>ng (ov y (aq (az t.al i) v)))++List.replicate (x::xs).length none) (i:=k) (by omega) (ng (ov x (aq (az t.al i) v)))
  have F:(((az t.al i).take k).map (λy=>ng (ov y (aq (az t.al i) v)))++List.replicate (x::xs).length none).set k (ng (ov x (aq (az t.al i) v)))=
    ((az t.al i).take (k+1)).map (λy=>ng (ov y (aq (az t.al i) v)))++List.replicate xs.length none:=by
   rw [Vw,VX,qQ _ _ _ _ _ o,XE,q,W0];simp
  rw [F] at p;have:=N (k+1) J;simp only [Vc,Ve] at this;refine aj ?_;simp only [Vc,Ve];rw [HI];simp only [ai,↓reduceIte,GD,h1,B,C,and_self,A,bH,cE q,u,k2,p,next k (by omega)];exact this
theorem qy{k:Nat}(h:k<=100000):bu (k:Int) (k:Int)=some ():=by unfold bu;rw [if_pos ⟨by omega,by omega,by unfold du;omega⟩]
theorem tD{m mc:Nat}(a:cR n m t)(w:n<=12)(hm:m<=40){i v b:Nat}(hi:i < m)(hv:v < n+m)(hb:t.ah[i]? =some b)
  (s:∀x∈t.al,∀y∈x,QN mc y) (r:nv (aq (az t.al i) v)≠0) (u:f.eg=false->t.aB.length=n+m/\∀y∈t.aB,QN mc y) (hs:mc+ (mc+ (2 * mc+10))+1<=6300):
  Or (.call 85) [r0,I (i:Int),I (v:Int)] (S1 n rows f t)=some (fO n rows f (fB i v b (cH (az t.al i) v b) f.eg t)):=by
 have B:=a.c;have A:=a.b;have z:=a.row hi;have h: 0<=(i:Int)/\(i:Int) < (t.ah.length:Int):=by omega
 have j: 0<=(i:Int)/\(i:Int) < (t.al.length:Int):=by omega
 have q: 0<=(v:Int)/\(v:Int) < ((az t.al i).length:Int):=by omega
 have e:=lj (al:=t.al) (i:=i) (by omega);have d:=jQ (al:=t.al) (i:=i) (by omega);have g:=cE (gL (l:=az t.al i) (i:=v) (by omega));have o:=qy (k:=(az t.al i).length) (by omega);have:=Uz (n:=n) (rows:=rows) f t a w hm hi hv hb s r u hs (az t.al i) 0 rfl;have p:(((az t.al i).length:Nat):Int).toNat= (az t.al i).length:=by omega
 simp only [Vc,Ve,XI,XA] at this;refine aj ?_;rw [Pr];simp only [ai,↓reduceIte,GD,h,j,q,and_self,dC,jO hb,cM,e,d,bH,g,o,p,r9];exact this
end
open Go Go.Aev Go.Aev.Gen Go.Aev.Wd
def ij(n:Nat)(s:Nm):List Nm->Nat->List Nm->List Nm
 | [],_,a=>a
 | x::xs,v,a=>if nv x=0 then ij n s xs (v+1) a else ij n s xs (v+1) (a.set (v - n) (ng (tm x s)))
def jw(n m:Nat)(ak:Int)(b:Nat)(row:List Nm):List Nm:=ij n (iN (-ak)) row 0 ((List.replicate m none).set (b - n) (iN (-ak)))
theorem D8(n:Nat)(s:Nm):∀(xs:List Nm) (v:Nat) (a:List Nm),(ij n s xs v a).length=a.length
 | [],_,_=>rfl
 | x::xs,v,a=>by
  rw [ij];split
  .exact D8 n s xs _ _
  .rw [D8 n s xs];simp
section
variable {n:Nat} {rows:List R} (f:Fl) (t:TL)
theorem Uw{mc:Nat}(o:cR n rows.length t)(L:n<=12)(hm:rows.length<=40){i:Nat}(hi:i < rows.length){s:Nm}(w:QN 2 s)
  (B:∀y∈az t.al i,QN mc y) (hz:∀v,v < n->nv (aq (az t.al i) v)=0) (hs:mc+2<=6300):
  ∀(xs:List Nm) (k:Nat) (a:List Nm),(az t.al i).drop k=xs->a.length=rows.length->
  Or ud [r0,AV.own (Id.c 6),AV.ref (Id.c 7) 0,AV.row (Id.c 3) i,I ((az t.al i).length:Int),I (k:Int)] (S1 n rows f t++ [ab.sl false 4 false (aS a),iv s])=
   some (T.aa 4 false (aS (ij n s xs k a))::fO n rows f t):=by
 have J:=o.c;have D:=o.row hi;have j:=jQ (al:=t.al) (i:=i) (by omega);intro xs;induction xs with
 | nil=>
  intro k a h p;have h1:¬(k:Int) < ((az t.al i).length:Int):=by have:=bm h;omega
  rw [ij,eE];refine aj ?_;simp only [Vc,Ve];rw [CM];simp only [ai,↓reduceIte,GD,h1,cK]
 | cons x xs z=>
  intro k a h p;obtain⟨g,K,q⟩:=bh h;have h1:(k:Int) < ((az t.al i).length:Int):=by omega
  have m: 0<=(k:Int):=by omega
  have ks:=lK x;have H:=B x (U8 g);by_cases b:nv x=0
  .have e:=(gm (nv x)).2 b;have d:ij n s (x::xs) k a=ij n s xs (k+1) a:=by rw [ij,if_pos b]
   have:=z (k+1) a q p;simp only [Vc,Ve] at this;rw [d];refine aj ?_;simp only [Vc,Ve];rw [CM];simp only [ai,↓reduceIte,GD,h1,m,and_self,j,bH,cE g,ks,e,next k (by omega)];exact this
  .have e:¬(nv x).num.sign=0:=λA=>b ((gm _).1 A);have d:ij n s (x::xs) k a=ij n s xs (k+1) (a.set (k - n) (ng (tm x s))):=by rw [ij,if_neg b]
   have r:¬k < n:=λC=>b (by
    have:=hz k C;unfold aq at this;rw [U7,g] at this;exact this)
   have E:=tq r (by omega);have F:=lB H w hs;have k2:=DM (tm x s);have u: 0<=((k - n:Nat):Int)/\((k - n:Nat):Int) < (a.length:Int):=by omega
   have G:=kz (l:=a) (i:=k - n) (by omega) (ng (tm x s));have:=z (k+1) (a.set (k - n) (ng (tm x s))) q (by rw [V6];exact p);simp only [Vc,Ve] at this;rw [d];refine aj ?_;simp only [Vc,Ve];rw [CM];simp only [ai,↓reduceIte,GD,h1,m,and_self,j,bH,cE g,ks,e,E,u,F,k2,G,next k (by omega)];exact this
theorem LC{mc:Nat}(a:cR n rows.length t)(w:n<=12)(hm:rows.length<=40){i b:Nat}(hi:i < rows.length)(hb:t.ah[i]? =some b)(C:n<=b){ak:Int}(q:ak=1\/ak= -1)
  (u:∀y∈az t.al i,QN mc y) (hz:∀v,v < n->nv (aq (az t.al i) v)=0) (hs:mc+2<=6300):
  Or (.call 78) [r0,I (i:Int),I ak] (S1 n rows f t)=some (T.aa 4 false (aS (jw n rows.length ak b (az t.al i)))::fO n rows f t):=by
 have D:=a.c;have B:=a.b;have A:=a.lt b (U8 hb);have d:=qy (k:=(dK rows).length) (by rw [bq];omega);rw [bq] at d;have s:i64.wrap (0 - ak)= -ak:=by rw [Go.Aev.wr (by omega)];omega
 have x:=gh (-ak) (by omega);have h: 0<=(i:Int)/\(i:Int) < (t.ah.length:Int):=by omega
 have j: 0<=(i:Int)/\(i:Int) < (t.al.length:Int):=by omega
 have r:=tq (v:=b) (n:=n) (by omega) (by omega);have p:((rows.length:Nat):Int).toNat=rows.length:=by omega
 have m: 0<=((b - n:Nat):Int)/\((b - n:Nat):Int) < ((List.replicate rows.length (none:Nm)).length:Int):=by rw [W7];omega
 have z:=kz (l:=List.replicate rows.length none) (i:=b - n) (by rw [W7];omega) (iN (-ak));have g:=lj (al:=t.al) (i:=i) (by omega);have e:=jQ (al:=t.al) (i:=i) (by omega);have o:QN 2 (iN (-ak)):=by rcases q with rfl | rfl <;> exact eM (by decide)
 have:=Uw (n:=n) (rows:=rows) f t a w hm hi o u hz hs (az t.al i) 0 ((List.replicate rows.length none).set (b - n) (iN (-ak))) rfl (by simp);simp only [Vc,Ve] at this;refine aj ?_;rw [Pk];simp only [ai,↓reduceIte,GD,bq,d,s,x,h,j,and_self,dC,jO hb,r,p,r9,bH,m,z,cM,g,e];exact this
end
def aW(n:Nat)(rows:List R)(val:List Vl)(ak:Int):List Nm->Nat->Option Nat
 | [],_=>none
 | x::xs,v=>if nv x≠0/\fq n rows val v (ak * (nv x).num.sign)=true then some v else aW n rows val ak xs (v+1)
def py(n:Nat)(rows:List R)(b:Nat)(ak:Int)(i v:Nat)(t:TL):Vl:=fM (og (if ak > 0 then iL n rows b else bU n rows b) (aI t.val b)) (ov (iN 1) (aq (az t.al i) v))
def gU(n:Nat)(rows:List R)(eg:Bool)(b:Nat)(ak:Int)(i v:Nat)(t:TL):TL:=
 fB i v b (cH (az t.al i) v b) eg (eC v (py n rows b ak i v t) t)
theorem px(q:Rat):q.num.sign=1\/q.num.sign= -1\/q.num.sign=0:=by
 rcases W6 q.num 0 with h | h | h
 .exact .inr (.inl (Wv h))
 .exact .inr (.inr (by rw [h];rfl))
 .exact .inl (Wh h)
theorem cR.mv{n m:Nat}{t:TL}(h:cR n m t)(v:Nat)(w:Vl):cR n m (eC v w t) where
 b:=h.b
 c:=h.c
 r:=h.r
 v:=by show(hZ _ _ _ _ _).length=_;rw [I9,V6];exact h.v
 lt:=h.lt
 nd:=h.nd
section
variable {n:Nat} {rows:List R} (f:Fl) (t:TL)
set_option maxRecDepth 20000 in
theorem Ub{mv mc:Nat}(sz:Sz n rows)(l:cR n rows.length t){i b:Nat}(hi:i < rows.length)(hb:t.ah[i]? =some b)(hbn:n<=b){ak:Int}(Z:ak=1\/ak= -1)(hge:f.eg=true)
  (K:∀u,u < n+rows.length->VB mv (aI t.val u)) (X:∀x∈t.al,∀y∈x,QN mc y) (hzb:∀v,nv (aq (az t.al i) v)≠0->v∉t.ah)
  (h1s: 20<=mv) (h2s: 3 * mv+2 * mc+10<=6200) (h3s: 4 * mc+20<=6200) (p:Int)
  (hno:aW n rows t.val ak (az t.al i) 0=none->∀v,v < n->nv (aq (az t.al i) v)=0) {res:List T}
  (d:(match aW n rows t.val ak (az t.al i) 0 with
   | none=>some (T.aa 4 false (aS (jw n rows.length ak b (az t.al i)))::tb true::fO n rows f t)
   | some v=>Or pQ [r0,I p] (S2 n rows f (gU n rows f.eg b ak i v t)))=some res):
  ∀(xs:List Nm) (k:Nat),(az t.al i).drop k=xs->aW n rows t.val ak xs k=aW n rows t.val ak (az t.al i) 0->
  Or oF [r0,I p,I (b:Int),I ak,I (i:Int),I (-1),AV.row (Id.c 3) i,I ((az t.al i).length:Int),I (k:Int)] (S1 n rows f t)=some res:=by
 have hn:=sz.n;have hm:=sz.m;have hcl:=l.c;have hvl:=l.v;have hrow:=l.row hi;have q:=l.lt b (U8 hb);have O:=jQ (al:=t.al) (i:=i) (by omega);have hci:az t.al i∈t.al:=U8 (jm (by omega));intro xs;induction xs with
 | nil=>
  intro k h Y;have h1:¬(k:Int) < ((az t.al i).length:Int):=by have:=bm h;omega
  have N:aW n rows t.val ak (az t.al i) 0=none:=by rw [<-Y];rfl
  have k1:=LC (n:=n) (rows:=rows) f t l hn hm hi hb hbn Z (X _ hci) (hno N) (by omega);rw [N] at d;simp only at d;rw [eE] at k1 d;rw [<-d];refine aj ?_;rw [uU];simp only [ai,↓reduceIte,GD,dZ,h1,k1,dY,dB,Vf,cK]
  try rfl
 | cons x xs ih=>
  intro k h Y;obtain⟨S,g2,g3⟩:=bh h;have h1:(k:Int) < ((az t.al i).length:Int):=by omega
  have P: 0<=(k:Int):=by omega
  have ks:=lK x;have qx:=X _ hci x (U8 S);by_cases C:nv x=0
  .have z:=(gm (nv x)).2 C;have D:aW n rows t.val ak (x::xs) k=aW n rows t.val ak xs (k+1):=by rw [aW,if_neg (λs=>s.1 C)]
   have M:(!((nv x).num.sign==0))=false:=by rw [z];rfl
   have:=ih (k+1) g3 (by rw [<-D];exact Y);refine aj ?_;rw [uU];simp only [bL,ai,↓reduceIte,GD,h1,P,and_self,O,bH,cE S,ks,z,next k (by omega)];exact this
  .have z:¬(nv x).num.sign=0:=λs=>C ((gm _).1 s);have M:(!((nv x).num.sign==0))=true:=by simpa using z
   have hws:i64.wrap (ak * (nv x).num.sign)=ak * (nv x).num.sign:=by refine Go.Aev.wr ?_;rcases Z with rfl | rfl <;> rcases px (nv x) with e | e | e <;> rw [e] <;> omega
   have kc:=AQ sz f.er f.eb f.ev f.eg t.ah t.val t.aB hvl K (by omega) (v:=k) (by omega) (ak * (nv x).num.sign);by_cases w:fq n rows t.val k (ak * (nv x).num.sign)=true
   .have D:aW n rows t.val ak (x::xs) k=some k:=by rw [aW,if_pos ⟨C,w⟩]
    have N:aW n rows t.val ak (az t.al i) 0=some k:=by rw [<-Y,D]
    have E:aq (az t.al i) k=x:=by unfold aq;rw [U7,S];rfl
    have hkb:=hzb k (by rw [E];exact C);have hk1:¬(k:Int) < 0:=by omega
    have V:=tB sz f.er f.eb f.ev f.eg t.ah t.val t.aB q;have U:=wI sz f.er f.eb f.ev f.eg t.ah t.val t.aB q;have hbv:=mO (nf (val:=t.val) (i:=b) (by omega));have hb1: 0<=(b:Int)/\(b:Int) < (t.val.length:Int):=by omega
    have hi2: 0<=(i:Int)/\(i:Int) < (t.al.length:Int):=by omega
    have hgi:=lj (al:=t.al) (i:=i) (by omega);have k32:=gh 1 (by omega);have q1:QN 2 (iN 1):=eM (by decide);obtain⟨k83,Q⟩:=mX q1 qx (by omega) C;have hcx:∀y∈t.al,QB mc (nv (aq y k)):=λy hy=>X y hy _ (U8 (gL (by rw [l.r y hy];omega)));rw [N] at d;simp only at d;rcases Z with hw | hw
    .subst hw;have qt:=vC sz q;have F:=wF qt (K b q) (by omega);have qs:=tp qt (K b q);have G:=pA (b:=ov (iN 1) x) qs Q (by omega);have qw:=nQ (b:=ov (iN 1) x) qs Q;have B:=tC (n:=n) (rows:=rows) f t l (v:=k) (by omega) hm hkb qw hcx (a:=mv) (by omega) K;obtain⟨o,g⟩:∃o,o=eC k (fM (og (iL n rows b) (aI t.val b)) (ov (iN 1) x)) t:=⟨_,rfl⟩;have H:o.al=t.al:=by rw [g];rfl
     have J:o.ah[i]? =some b:=by rw [g];exact hb
     rw [<-g] at B;have j:=tD (n:=n) (rows:=rows) f o (by rw [g];exact l.mv _ _) hn hm hi (v:=k) (by omega) J (by rw [H];exact X) (by rw [H,E];exact C) (λs=>by rw [hge] at s;cases s) (by omega);rw [H] at j;have A:gU n rows f.eg b 1 i k t=fB i k b (cH (az t.al i) k b) f.eg o:=by unfold gU py;rw [E,g];rfl
     generalize cH (az t.al i) k b=L at j A;generalize hT2:fB i k b L f.eg o=t2 at j A;rw [eE] at B j;rw [cN] at V U F G;simp only [Vc,Ve] at V U;have W:(1:Int) > 0:=by omega
     rw [A] at d;refine aj ?_;rw [uU];simp only [ai,↓reduceIte,GD,dZ,cu,h1,P,hk1,hb1,hi2,and_self,O,hgi,bH,cO,cM,cE S,hbv,ks,z,M,hws,kc,w,V,U,F,k32,k83,G,B,j,W,dY,dB,Vf];exact d
    .subst hw;have qt:=qX sz q;have F:=wF qt (K b q) (by omega);have qs:=tp qt (K b q);have G:=pA (b:=ov (iN 1) x) qs Q (by omega);have qw:=nQ (b:=ov (iN 1) x) qs Q;have B:=tC (n:=n) (rows:=rows) f t l (v:=k) (by omega) hm hkb qw hcx (a:=mv) (by omega) K;obtain⟨o,g⟩:∃o,o=eC k (fM (og (bU n rows b) (aI t.val b)) (ov (iN 1) x)) t:=⟨_,rfl⟩;have H:o.al=t.al:=by rw [g];rfl
     have J:o.ah[i]? =some b:=by rw [g];exact hb
     rw [<-g] at B;have j:=tD (n:=n) (rows:=rows) f o (by rw [g];exact l.mv _ _) hn hm hi (v:=k) (by omega) J (by rw [H];exact X) (by rw [H,E];exact C) (λs=>by rw [hge] at s;cases s) (by omega);rw [H] at j;have A:gU n rows f.eg b (-1) i k t=fB i k b (cH (az t.al i) k b) f.eg o:=by unfold gU py;rw [E,g];rfl
     generalize cH (az t.al i) k b=L at j A;generalize hT2:fB i k b L f.eg o=t2 at j A;rw [eE] at B j;rw [cN] at V U F G;simp only [Vc,Ve] at V U;have W:¬(-1:Int) > 0:=by omega
     rw [A] at d;refine aj ?_;rw [uU];simp only [ai,↓reduceIte,GD,dZ,cu,h1,P,hk1,hb1,hi2,and_self,O,hgi,bH,cO,cM,cE S,hbv,ks,z,M,hws,kc,w,V,U,F,k32,k83,G,B,j,W,dY,dB,Vf];exact d
   .have D:aW n rows t.val ak (x::xs) k=aW n rows t.val ak xs (k+1):=by rw [aW,if_neg (λs=>w s.2)]
    have hcan':fq n rows t.val k (ak * (nv x).num.sign)=false:=by simpa using w
    have:=ih (k+1) g3 (by rw [<-D];exact Y);refine aj ?_;rw [uU];simp only [ai,↓reduceIte,GD,h1,P,and_self,O,bH,cE S,ks,z,M,hws,kc,hcan',next k (by omega)];exact this
end
section
variable {n:Nat} {rows:List R} (f:Fl) (t:TL)
set_option maxRecDepth 20000 in
theorem Uc{mv mc:Nat}(sz:Sz n rows)(l:cR n rows.length t){i b:Nat}(hi:i < rows.length)(hb:t.ah[i]? =some b)(hbn:n<=b){ak:Int}(Z:ak=1\/ak= -1)(hge:f.eg=true)
  (K:∀u,u < n+rows.length->VB mv (aI t.val u)) (X:∀x∈t.al,∀y∈x,QN mc y) (hzb:∀v,nv (aq (az t.al i) v)≠0->v∉t.ah)
  (h1s: 20<=mv) (h2s: 3 * mv+2 * mc+10<=6200) (h3s: 4 * mc+20<=6200) (p:Int)
  (hno:aW n rows t.val ak (az t.al i) 0=none->∀v,v < n->nv (aq (az t.al i) v)=0) {res:List T}
  (d:(match aW n rows t.val ak (az t.al i) 0 with
   | none=>some (T.aa 4 false (aS (jw n rows.length ak b (az t.al i)))::tb true::fO n rows f t)
   | some v=>Or pQ [r0,I p] (S2 n rows f (gU n rows f.eg b ak i v t)))=some res):
  ∀(xs:List Nm) (k:Nat),(az t.al i).drop k=xs->aW n rows t.val ak xs k=aW n rows t.val ak (az t.al i) 0->
  Or oF [r0,I p,I (b:Int),I ak,I (i:Int),I (-1),AV.row (Id.c 6) i,I ((az t.al i).length:Int),I (k:Int)] (S2 n rows f t)=some res:=by
 have hn:=sz.n;have hm:=sz.m;have hcl:=l.c;have hvl:=l.v;have hrow:=l.row hi;have q:=l.lt b (U8 hb);have O:=jQ (al:=t.al) (i:=i) (by omega);have hci:az t.al i∈t.al:=U8 (jm (by omega));intro xs;induction xs with
 | nil=>
  intro k h Y;have h1:¬(k:Int) < ((az t.al i).length:Int):=by have:=bm h;omega
  have N:aW n rows t.val ak (az t.al i) 0=none:=by rw [<-Y];rfl
  have k1:=LC (n:=n) (rows:=rows) f t l hn hm hi hb hbn Z (X _ hci) (hno N) (by omega);rw [N] at d;simp only at d;rw [eE] at k1 d;rw [<-d];refine aj ?_;rw [uV];simp only [ai,↓reduceIte,GD,dZ,h1,k1,dY,dB,Vf,cK]
  try rfl
 | cons x xs ih=>
  intro k h Y;obtain⟨S,g2,g3⟩:=bh h;have h1:(k:Int) < ((az t.al i).length:Int):=by omega
  have P: 0<=(k:Int):=by omega
  have ks:=lK x;have qx:=X _ hci x (U8 S);by_cases C:nv x=0
  .have z:=(gm (nv x)).2 C;have D:aW n rows t.val ak (x::xs) k=aW n rows t.val ak xs (k+1):=by rw [aW,if_neg (λs=>s.1 C)]
   have M:(!((nv x).num.sign==0))=false:=by rw [z];rfl
   have:=ih (k+1) g3 (by rw [<-D];exact Y);refine aj ?_;rw [uV];simp only [bL,ai,↓reduceIte,GD,h1,P,and_self,O,bH,cE S,ks,z,next k (by omega)];exact this
  .have z:¬(nv x).num.sign=0:=λs=>C ((gm _).1 s);have M:(!((nv x).num.sign==0))=true:=by simpa using z
   have hws:i64.wrap (ak * (nv x).num.sign)=ak * (nv x).num.sign:=by refine Go.Aev.wr ?_;rcases Z with rfl | rfl <;> rcases px (nv x) with e | e | e <;> rw [e] <;> omega
   have kc:=AQ sz f.er f.eb f.ev f.eg t.ah t.val t.aB hvl K (by omega) (v:=k) (by omega) (ak * (nv x).num.sign);by_cases w:fq n rows t.val k (ak * (nv x).num.sign)=true
   .have D:aW n rows t.val ak (x::xs) k=some k:=by rw [aW,if_pos ⟨C,w⟩]
    have N:aW n rows t.val ak (az t.al i) 0=some k:=by rw [<-Y,D]
    have E:aq (az t.al i) k=x:=by unfold aq;rw [U7,S];rfl
    have hkb:=hzb k (by rw [E];exact C);have hk1:¬(k:Int) < 0:=by omega
    have V:=tB sz f.er f.eb f.ev f.eg t.ah t.val t.aB q;have U:=wI sz f.er f.eb f.ev f.eg t.ah t.val t.aB q;have hbv:=mO (nf (val:=t.val) (i:=b) (by omega));have hb1: 0<=(b:Int)/\(b:Int) < (t.val.length:Int):=by omega
    have hi2: 0<=(i:Int)/\(i:Int) < (t.al.length:Int):=by omega
    have hgi:=lj (al:=t.al) (i:=i) (by omega);have k32:=gh 1 (by omega);have q1:QN 2 (iN 1):=eM (by decide);obtain⟨k83,Q⟩:=mX q1 qx (by omega) C;have hcx:∀y∈t.al,QB mc (nv (aq y k)):=λy hy=>X y hy _ (U8 (gL (by rw [l.r y hy];omega)));rw [N] at d;simp only at d;rcases Z with hw | hw
    .subst hw;have qt:=vC sz q;have F:=wF qt (K b q) (by omega);have qs:=tp qt (K b q);have G:=pA (b:=ov (iN 1) x) qs Q (by omega);have qw:=nQ (b:=ov (iN 1) x) qs Q;have B:=tC (n:=n) (rows:=rows) f t l (v:=k) (by omega) hm hkb qw hcx (a:=mv) (by omega) K;obtain⟨o,g⟩:∃o,o=eC k (fM (og (iL n rows b) (aI t.val b)) (ov (iN 1) x)) t:=⟨_,rfl⟩;have H:o.al=t.al:=by rw [g];rfl
     have J:o.ah[i]? =some b:=by rw [g];exact hb
     rw [<-g] at B;have j:=tD (n:=n) (rows:=rows) f o (by rw [g];exact l.mv _ _) hn hm hi (v:=k) (by omega) J (by rw [H];exact X) (by rw [H,E];exact C) (λs=>by rw [hge] at s;cases s) (by omega);rw [H] at j;have A:gU n rows f.eg b 1 i k t=fB i k b (cH (az t.al i) k b) f.eg o:=by unfold gU py;rw [E,g];rfl
     generalize cH (az t.al i) k b=L at j A;generalize hT2:fB i k b L f.eg o=t2 at j A;rw [eE] at B j;rw [cN] at V U F G;simp only [Vc,Ve] at V U;have W:(1:Int) > 0:=by omega
     rw [A] at d;refine aj ?_;rw [uV];simp only [ai,↓reduceIte,GD,dZ,cu,h1,P,hk1,hb1,hi2,and_self,O,hgi,bH,cO,cM,cE S,hbv,ks,z,M,hws,kc,w,V,U,F,k32,k83,G,B,j,W,dY,dB,Vf];exact d
    .subst hw;have qt:=qX sz q;have F:=wF qt (K b q) (by omega);have qs:=tp qt (K b q);have G:=pA (b:=ov (iN 1) x) qs Q (by omega);have qw:=nQ (b:=ov (iN 1) x) qs Q;have B:=tC (n:=n) (rows:=rows) f t l (v:=k) (by omega) hm hkb qw hcx (a:=mv) (by omega) K;obtain⟨o,g⟩:∃o,o=eC k (fM (og (bU n rows b) (aI t.val b)) (ov (iN 1) x)) t:=⟨_,rfl⟩;have H:o.al=t.al:=by rw [g];rfl
     have J:o.ah[i]? =some b:=by rw [g];exact hb
     rw [<-g] at B;have j:=tD (n:=n) (rows:=rows) f o (by rw [g];exact l.mv _ _) hn hm hi (v:=k) (by omega) J (by rw [H];exact X) (by rw [H,E];exact C) (λs=>by rw [hge] at s;cases s) (by omega);rw [H] at j;have A:gU n rows f.eg b (-1) i k t=fB i k b (cH (az t.al i) k b) f.eg o:=by unfold gU py;rw [E,g];rfl
     generalize cH (az t.al i) k b=L at j A;generalize hT2:fB i k b L f.eg o=t2 at j A;rw [eE] at B j;rw [cN] at V U F G;simp only [Vc,Ve] at V U;have W:¬(-1:Int) > 0:=by omega
     rw [A] at d;refine aj ?_;rw [uV];simp only [ai,↓reduceIte,GD,dZ,cu,h1,P,hk1,hb1,hi2,and_self,O,hgi,bH,cO,cM,cE S,hbv,ks,z,M,hws,kc,w,V,U,F,k32,k83,G,B,j,W,dY,dB,Vf];exact d
   .have D:aW n rows t.val ak (x::xs) k=aW n rows t.val ak xs (k+1):=by rw [aW,if_neg (λs=>w s.2)]
    have hcan':fq n rows t.val k (ak * (nv x).num.sign)=false:=by simpa using w
    have:=ih (k+1) g3 (by rw [<-D];exact Y);refine aj ?_;rw [uV];simp only [ai,↓reduceIte,GD,h1,P,and_self,O,bH,cE S,ks,z,M,hws,kc,hcan',next k (by omega)];exact this
end
end Go.Aev.Wd.Lg
