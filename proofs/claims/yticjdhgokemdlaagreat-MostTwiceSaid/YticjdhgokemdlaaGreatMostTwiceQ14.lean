import Derived.Test.YticjdhgokemdlaaGreatMostTwiceQ12
import Derived.Test.YticjdhgokemdlaaGreatMostTwiceQ13
set_option linter.all false
namespace Go.Aev.Wd.Lg
open Go Go.Aev Go.Aev.Gen Go.Aev.Wd Go.IntKind
abbrev Vl:=Nm×Nm
abbrev EV(v:Vl):AV:=AV.agg [B (decide ((nv v.1).num < 0)),AV.t (T.str (bM (dz (nv v.1).num))),B (nc v.1),AV.t (T.str (nd v.1)),B (decide ((nv v.2).num < 0)),AV.t (T.str (bM (dz (nv v.2).num))),B (nc v.2),AV.t (T.str (nd v.2))]
def VC(v:Vl):List T:= [tb (decide ((nv v.1).num < 0)),T.str (bM (dz (nv v.1).num)),tb (nc v.1),T.str (nd v.1),tb (decide ((nv v.2).num < 0)),T.str (bM (dz (nv v.2).num)),tb (nc v.2),T.str (nd v.2)]
theorem cH(v:Vl):VC v= [tb (decide ((nv v.1).num < 0)),T.str (bM (dz (nv v.1).num)),tb (nc v.1),T.str (nd v.1),tb (decide ((nv v.2).num < 0)),T.str (bM (dz (nv v.2).num)),tb (nc v.2),T.str (nd v.2)]:=rfl
def dX(l:List Vl):List (List T):=l.map VC
theorem cQ(l:List Vl):(dX l).length=l.length:=by simp [dX]
theorem nF{l:List Vl}{i:Nat}{x:Vl}(h:l[i]? =some x):(dX l)[((i:Nat):Int).toNat]? =some [tb (decide ((nv x.1).num < 0)),T.str (bM (dz (nv x.1).num)),tb (nc x.1),T.str (nd x.1),tb (decide ((nv x.2).num < 0)),T.str (bM (dz (nv x.2).num)),tb (nc x.2),T.str (nd x.2)]:=by simp [dX,h,VC]
theorem Hu{l:List Vl}{i:Nat}(hi:i < l.length)(x:Vl):bo ((i:Nat):Int).toNat 0 [tb (decide ((nv x.1).num < 0)),T.str (bM (dz (nv x.1).num)),tb (nc x.1),T.str (nd x.1),tb (decide ((nv x.2).num < 0)),T.str (bM (dz (nv x.2).num)),tb (nc x.2),T.str (nd x.2)] (dX l)=some (dX (l.set i x)):=by
 have h1:(dX l)[((i:Nat):Int).toNat]? =some (VC l[i]):=by simp [dX,hi]
 simp only [bo,h1];simp [cd,dX,VC,X8]
def cY(l:List Nat):List (List T):=l.map λ(v:Nat)=> [ti (v:Int)]
theorem dB(l:List Nat):(cY l).length=l.length:=by simp [cY]
theorem jL{l:List Nat}{i:Nat}{x:Nat}(h:l[i]? =some x):(cY l)[((i:Nat):Int).toNat]? =some [ti (x:Int)]:=by simp [cY,h]
theorem OB{l:List Nat}{i:Nat}(hi:i < l.length)(x:Nat):bo ((i:Nat):Int).toNat 0 [ti (x:Int)] (cY l)=some (cY (l.set i x)):=by
 have h1:(cY l)[((i:Nat):Int).toNat]? =some [ti (l[i]:Int)]:=by simp [cY,hi]
 simp only [bo,h1];simp [cd,cY,X8]
theorem fa{a:Type}(x y z u v t w:a)(l:List a):(x::y::z::u::v::t::w::l).drop 7=l:=by cases l <;> rfl
theorem cm{a:Type}(x y z u v t w s:a)(l:List a):(x::y::z::u::v::t::w::s::l).drop 8=l:=by cases l <;> rfl
def VB(m:Nat)(v:Vl):Prop:=QB m (nv v.1)/\QB m (nv v.2)
theorem VB.mono{m k:Nat}{v:Vl}(h:VB m v)(a:m<=k):VB k v:=⟨h.1.mono a,h.2.mono a⟩
def kS(a b:Vl):Vl:=(some (nv a.1+nv b.1),some (nv a.2+nv b.2))
def og(a b:Vl):Vl:=(some (nv a.1 - nv b.1),some (nv a.2 - nv b.2))
def fE(a:Vl)(k:Nm):Vl:=(some (nv a.1 * nv k),some (nv a.2 * nv k))
def eL(a b:Vl):Int:=if cq (nv a.1) (nv b.1)=0 then cq (nv a.2) (nv b.2) else cq (nv a.1) (nv b.1)
theorem Lv{m k:Nat}{a b:Vl}(c:VB m a)(hb:VB k b)(h:m+k+1<=6300):Or (.call 122) [EV a,EV b] []=some (VC (kS a b)):=by have d:=Aj c.1 hb.1 h;have k2:=Aj c.2 hb.2 h;rw [sZ] at d k2;rw [cH];refine al ?_;rw [OJ];simp only [ai,↓reduceIte,Int.reduceBEq,Int.reduceEq,GD,d,k2];rfl
theorem wH{m k:Nat}{a b:Vl}(c:VB m a)(hb:VB k b)(h:m+k+1<=6300):Or (.call 81) [EV a,EV b] []=some (VC (og a b)):=by have d:=Ew c.1 hb.1 h;have k2:=Ew c.2 hb.2 h;rw [sZ] at d k2;rw [cH];refine al ?_;rw [Pg];simp only [ai,↓reduceIte,Int.reduceBEq,Int.reduceEq,GD,d,k2];rfl
theorem pM{m k:Nat}{a:Vl}{b:Nm}(c:VB m a)(hb:QB k (nv b))(h:m+k<=6300):Or (.call 82) [EV a,EN b] []=some (VC (fE a b)):=by have d:=Ex c.1 hb h;have k2:=Ex c.2 hb h;rw [sZ] at d k2;rw [cH];refine al ?_;rw [Ph];simp only [ai,↓reduceIte,Int.reduceBEq,Int.reduceEq,GD,d,k2];rfl
theorem wG{m k:Nat}{a b:Vl}(d:VB m a)(hb:VB k b)(h:m+k<=6300):Or (.call 119) [EV a,EV b] []=some [ti (eL a b)]:=by
 have e:=oh d.1 hb.1 h;have k2:=oh d.2 hb.2 h;refine al ?_;rw [OI];unfold eL;by_cases c:cq (nv a.1) (nv b.1)=0
 .simp only [ai,↓reduceIte,Int.reduceBEq,Int.reduceEq,GD,e,k2,c]
 .simp only [ai,↓reduceIte,Int.reduceBEq,Int.reduceEq,GD,e,k2,c]
abbrev TP(n:Nat)(er:Bool)(rows:List R)(eb:Bool)(af:List Nat)(ev:Bool)(val:List Vl)(eg:Bool)(aA:List Nm):T:=
 T.ptr [ti (n:Int),T.aa 3 er (cU rows),T.aa 1 eb (cY af),T.any,T.any,T.aa 8 ev (dX val),T.aa 4 eg (aS aA)]
structure Sz (n:Nat) (rows:List R):Prop where
 n:n<=12
 m:rows.length<=40
 tv:∀r∈rows, -1000000<=r.tv/\r.tv<=1000000
def aY(rows:List R)(i:Nat):R:=rows.getD i default
theorem pF{rows:List R}{i:Nat}(h:i < rows.length):rows[i]? =some (aY rows i):=by unfold aY;rw [U9,Vd h];rfl
theorem gN{rows:List R}{i:Nat}(h:i < rows.length):aY rows i∈rows:=Va (pF h)
def bR(n:Nat)(rows:List R)(v:Nat):Vl:=if v < n then(none,none) else(some ((aY rows (v - n)).tv:Rat),if(aY rows (v - n)).kd=2 then some ((-1:Int):Rat) else none)
def fi(n:Nat)(rows:List R)(v:Nat):Bool:= !decide (v < n) && decide ((aY rows (v - n)).kd=3)
def iF(n:Nat)(rows:List R)(v:Nat):Vl:=if fi n rows v=true then(some ((aY rows (v - n)).tv:Rat),none) else(none,none)
theorem iM(m:Nat):QB m 0:=⟨by simp,by simpa using Zy⟩
theorem eF{m:Nat}{c:Int}(h:c.natAbs<=2 ^ m):QB m (c:Rat):=⟨h,Zy⟩
theorem rA{n:Nat}{rows:List R}(sz:Sz n rows){v:Nat}(hv:v < n+rows.length):VB 20 (bR n rows v):=by
 unfold bR;by_cases h:v < n
 .rw [if_pos h];exact⟨iM _,iM _⟩
 .rw [if_neg h];have:=sz.tv _ (gN (i:=v - n) (by omega));refine⟨eF (by omega), ?_⟩;dsimp only;split
  .exact eF (by decide)
  .exact iM _
theorem vF{n:Nat}{rows:List R}(sz:Sz n rows){v:Nat}(hv:v < n+rows.length):VB 20 (iF n rows v):=by
 unfold iF;by_cases h:fi n rows v=true
 .rw [if_pos h];have b:¬v < n:=λa=>by simp [fi,a] at h
  have:=sz.tv _ (gN (rows:=rows) (i:=v - n) (by omega));exact⟨eF (by omega),iM _⟩
 .rw [if_neg h];exact⟨iM _,iM _⟩
theorem tH{v n:Nat}(h:¬v < n)(hv:v<=1000):i64.wrap ((v:Int) - (n:Int))= ((v - n:Nat):Int):=by rw [Go.Aev.wr (by omega)];omega
section
variable {n:Nat} {rows:List R} (sz:Sz n rows) (er eb ev eg:Bool) (af:List Nat) (val:List Vl) (aA:List Nm)
include sz
theorem tN{v:Nat}(hv:v < n+rows.length):Or (.call 79) [AV.t (TP n er rows eb af ev val eg aA),I (v:Int)] []=some (VC (bR n rows v)++ [tb (!decide (v < n))]):=by
 have g:=sz.n;have hm:=sz.m;refine al ?_;rw [Pe,cH];unfold bR;by_cases h:v < n
 .have h1:(v:Int) < (n:Int):=by omega
  simp only [ai,↓reduceIte,Int.reduceBEq,Int.reduceEq,GD,h,h1,decide_true];rfl
 .have h1:¬(v:Int) < (n:Int):=by omega
  have d:=tH h (by omega);have hi:v - n < rows.length:=by omega
  have c: 0<=((v - n:Nat):Int)/\((v - n:Nat):Int) < (rows.length:Int):=by omega
  have e:=sz.tv _ (gN hi);have a:=Ai (aY rows (v - n)).tv (by omega);have k2:=Ai (-1) (by omega);rw [sZ] at a k2;by_cases b:(aY rows (v - n)).kd=2
  .simp only [ai,↓reduceIte,Int.reduceBEq,Int.reduceEq,GD,h,h1,d,c,and_self,bY,fK (pF hi),a,k2,b,decide_false];rfl
  .simp only [ai,↓reduceIte,Int.reduceBEq,Int.reduceEq,GD,h,h1,d,c,and_self,bY,fK (pF hi),a,k2,b,decide_false];rfl
theorem wK{v:Nat}(hv:v < n+rows.length):Or (.call 80) [AV.t (TP n er rows eb af ev val eg aA),I (v:Int)] []=some (VC (iF n rows v)++ [tb (fi n rows v)]):=by
 have i:=sz.n;have hm:=sz.m;refine al ?_;rw [Pf,cH];unfold iF fi;by_cases h:v < n
 .have h1:(v:Int) < (n:Int):=by omega
  simp only [bE,ai,↓reduceIte,Int.reduceBEq,Int.reduceEq,GD,h,h1,decide_true];rfl
 .have h1:¬(v:Int) < (n:Int):=by omega
  have e:=tH h (by omega);have hi:v - n < rows.length:=by omega
  have d: 0<=((v - n:Nat):Int)/\((v - n:Nat):Int) < (rows.length:Int):=by omega
  have g:=sz.tv _ (gN hi);have b:=Ai (aY rows (v - n)).tv (by omega);rw [sZ] at b;by_cases a:(aY rows (v - n)).kd=3
  .simp only [ai,↓reduceIte,Int.reduceBEq,Int.reduceEq,GD,h,h1,e,d,and_self,bY,fK (pF hi),b,a,decide_false,decide_true];rfl
  .have c:((aY rows (v - n)).kd==3)=false:=by simpa using a
   simp only [ai,↓reduceIte,Int.reduceBEq,Int.reduceEq,GD,h,h1,e,d,and_self,bY,fK (pF hi),b,a,c,decide_false];rfl
def aJ(val:List Vl)(v:Nat):Vl:=val.getD v (none,none)
omit sz in
theorem ou{val:List Vl}{i:Nat}(h:i < val.length):val[i]? =some (aJ val i):=by unfold aJ;rw [U9,Vd h];rfl
def fg(n:Nat)(rows:List R)(val:List Vl)(v:Nat)(w:Int):Bool:=
 if w > 0 then decide (v < n) || decide (eL (aJ val v) (bR n rows v) < 0) else !fi n rows v || decide (eL (aJ val v) (iF n rows v) > 0)
theorem Au{m:Nat}(k:val.length=n+rows.length)(hb:∀v,v < n+rows.length->VB m (aJ val v))(hm:m<=6200){v:Nat}(hv:v < n+rows.length)(w:Int):
  Or (.call 77) [AV.t (TP n er rows eb af ev val eg aA),I (v:Int),I w] []=some [tb (fg n rows val v w)]:=by
 have b:=tN sz er eb ev eg af val aA hv;have k2:=wK sz er eb ev eg af val aA hv;have g:=wG (hb v hv) (rA sz hv) (by omega);have j:=wG (hb v hv) (vF sz hv) (by omega);have e: 0<=(v:Int)/\(v:Int) < (val.length:Int):=by omega
 have d:=nF (ou (val:=val) (i:=v) (by omega));rw [cH] at b k2;simp only [Vf,Vg] at b k2;refine al ?_;rw [Pc];unfold fg;by_cases a:w > 0
 .by_cases h:v < n
  .simp only [bE,ai,↓reduceIte,Int.reduceBEq,Int.reduceEq,GD,cm,a,b,h,decide_true,Vs,Vv,if_true,ZF]
   try rfl
  .simp only [ai,↓reduceIte,Int.reduceBEq,Int.reduceEq,GD,cm,a,b,h,decide_false,e,and_self,cQ,d,g,if_true,WA,Vv,Vs]
 .cases c:fi n rows v
  .rw [c] at k2;simp only [bE,ai,↓reduceIte,Int.reduceBEq,Int.reduceEq,GD,cm,a,k2,Vs,Vv,ZF]
   try rfl
  .rw [c] at k2;simp only [ai,↓reduceIte,Int.reduceBEq,Int.reduceEq,GD,cm,a,k2,e,and_self,cQ,d,j,WA,Vv,Vs]
def cP(n:Nat)(rows:List R)(val:List Vl):List Nat->Int×Int->Int×Int
 | [],p=>p
 | b::r,p=>if p.1>=0/\(b:Int) > p.1 then cP n rows val r p else
  if fi n rows b=true/\eL (aJ val b) (iF n rows b) < 0 then cP n rows val r (b,1) else
  if ¬b < n/\eL (aJ val b) (bR n rows b) > 0 then cP n rows val r (b, -1) else cP n rows val r p
theorem Uw{m:Nat}(K:val.length=n+rows.length)(hb:∀v,v < n+rows.length->VB m (aJ val v))(hm:m<=6200)(C:∀b∈af,b < n+rows.length)(H:af.length<=1000):
  ∀(a:List Nat) (i:Nat) (p:Int×Int),af.drop i=a->
  Or xS [AV.t (TP n er rows eb af ev val eg aA),I p.1,I p.2,AV.t (T.aa 1 eb (cY af)),I (af.length:Int),I (i:Int)] []=some [ti (cP n rows val a p).1,ti (cP n rows val a p).2]:=by
 intro a;induction a with
 | nil=>
  intro i p h;have h1:¬(i:Int) < (af.length:Int):=by have:=bw h;omega
  refine al ?_;rw [oX];simp only [ai,↓reduceIte,Int.reduceBEq,Int.reduceEq,GD,h1,cP]
 | cons b a B=>
  intro i p h;obtain⟨q,J,z⟩:=bt h;have h1:(i:Int) < (af.length:Int):=by omega
  have d: 0<=(i:Int):=by omega
  have o:=C b (Va q);have r:=tN sz er eb ev eg af val aA o;have k2:=wK sz er eb ev eg af val aA o;have w:=wG (hb b o) (rA sz o) (by omega);have x:=wG (hb b o) (vF sz o) (by omega);have u: 0<=(b:Int)/\(b:Int) < (val.length:Int):=by omega
  have s:=nF (ou (val:=val) (i:=b) (by omega));rw [cH] at r k2;simp only [Vf,Vg] at r k2;have y:=B (i+1) p z;have F:=B (i+1) ((b:Int),1) z;have G:=B (i+1) ((b:Int), -1) z;by_cases hs:p.1>=0/\(b:Int) > p.1
  .have D:=hs.1;have E:=hs.2;have c:cP n rows val (b::a) p=cP n rows val a p:=by rw [cP,if_pos hs]
   rw [c];refine al ?_;rw [oX];simp only [ai,↓reduceIte,Int.reduceBEq,Int.reduceEq,GD,h1,d,and_self,dB,jL q,D,E,decide_true,if_true,next i (by omega)];exact y
  .have l:(if p.1>=0 then decide ((b:Int) > p.1) else false)=false:=by
    by_cases A:p.1>=0
    .rw [if_pos A];exact decide_eq_false (λj=>hs ⟨A,j⟩)
    .rw [if_neg A]
   by_cases h:b < n
   .have e:fi n rows b=false:=by simp [fi,h]
    rw [e] at k2;have c:cP n rows val (b::a) p=cP n rows val a p:=by rw [cP,if_neg hs,if_neg (by rw [e];simp),if_neg (λj=>j.1 h)]
    rw [c];refine al ?_;rw [oX];simp only [bE,ai,↓reduceIte,Int.reduceBEq,Int.reduceEq,GD,cm,h1,d,u,and_self,dB,jL q,l,r,k2,h,decide_true,Vs,cQ,s,VD,next i (by omega)];exact y
   .cases e:fi n rows b
    .rw [e] at k2;by_cases g:eL (aJ val b) (bR n rows b) > 0
     .have c:cP n rows val (b::a) p=cP n rows val a ((b:Int), -1):=by
       rw [cP,if_neg hs,if_neg (by rw [e];simp),if_pos ⟨h,g⟩]
      rw [c];refine al ?_;rw [oX];simp only [bE,ai,↓reduceIte,Int.reduceBEq,Int.reduceEq,GD,cm,h1,d,u,and_self,dB,jL q,l,r,k2,h,decide_false,decide_true,Vv,cQ,s,VD,w,g,next i (by omega)];exact G
     .have c:cP n rows val (b::a) p=cP n rows val a p:=by
       rw [cP,if_neg hs,if_neg (by rw [e];simp),if_neg (λj=>g j.2)]
      rw [c];refine al ?_;rw [oX];simp only [bE,ai,↓reduceIte,Int.reduceBEq,Int.reduceEq,GD,cm,h1,d,u,and_self,dB,jL q,l,r,k2,h,decide_false,decide_true,Vv,cQ,s,VD,w,g,next i (by omega)];exact y
    .rw [e] at k2;by_cases k:eL (aJ val b) (iF n rows b) < 0
     .have c:cP n rows val (b::a) p=cP n rows val a ((b:Int),1):=by
       rw [cP,if_neg hs,if_pos ⟨e,k⟩]
      rw [c];refine al ?_;rw [oX];by_cases g:eL (aJ val b) (bR n rows b) > 0
      .simp only [ai,↓reduceIte,Int.reduceBEq,Int.reduceEq,GD,cm,h1,d,u,and_self,dB,jL q,l,r,k2,h,decide_false,decide_true,Vv,cQ,s,w,x,g,k,next i (by omega)];exact F
      .simp only [ai,↓reduceIte,Int.reduceBEq,Int.reduceEq,GD,cm,h1,d,u,and_self,dB,jL q,l,r,k2,h,decide_false,decide_true,Vv,cQ,s,w,x,g,k,next i (by omega)];exact F
     .by_cases g:eL (aJ val b) (bR n rows b) > 0
      .have c:cP n rows val (b::a) p=cP n rows val a ((b:Int), -1):=by
        rw [cP,if_neg hs,if_neg (λj=>k j.2),if_pos ⟨h,g⟩]
       rw [c];refine al ?_;rw [oX];simp only [ai,↓reduceIte,Int.reduceBEq,Int.reduceEq,GD,cm,h1,d,u,and_self,dB,jL q,l,r,k2,h,decide_false,decide_true,Vv,cQ,s,w,x,g,k,next i (by omega)];exact G
      .have c:cP n rows val (b::a) p=cP n rows val a p:=by
        rw [cP,if_neg hs,if_neg (λj=>k j.2),if_neg (λj=>g j.2)]
       rw [c];refine al ?_;rw [oX];simp only [ai,↓reduceIte,Int.reduceBEq,Int.reduceEq,GD,cm,h1,d,u,and_self,dB,jL q,l,r,k2,h,decide_false,decide_true,Vv,cQ,s,w,x,g,k,next i (by omega)];exact y
def iQ(n:Nat)(rows:List R)(val:List Vl)(af:List Nat):Int×Int:=cP n rows val af (-1,0)
theorem LV{m:Nat}(d:val.length=n+rows.length)(hb:∀v,v < n+rows.length->VB m (aJ val v))(hm:m<=6200)(c:∀b∈af,b < n+rows.length)(a:af.length<=1000):
  Or (.call 76) [AV.t (TP n er rows eb af ev val eg aA)] []=some [ti (iQ n rows val af).1,ti (iQ n rows val af).2]:=by
 have:=Uw sz er eb ev eg af val aA d hb hm c a af 0 (-1,0) rfl;refine al ?_;rw [Pb];simp only [dB];exact this
end
open Go Go.Aev Go.Aev.Gen Go.Aev.Wd
def bK:Nat->List (List Nm)->List Row
 | _,[]=> []
 | s,x::r=>⟨s,[T.aw],some (false,aS x)⟩::bK (s+1) r
theorem dh:∀(s:Nat) (l:List (List Nm)),(bK s l).length=l.length
 | _,[]=>rfl
 | s,x::r=>by simp [bK,dh (s+1) r]
def ay(ak:List (List Nm))(i:Nat):List Nm:=ak.getD i []
theorem jh{ak:List (List Nm)}{i:Nat}(h:i < ak.length):ak[i]? =some (ay ak i):=by unfold ay;rw [U9,Vd h];rfl
theorem I6:∀{l:List (List Nm)} {s i:Nat} {x:List Nm},l[i]? =some x->(bK s l)[i]? =some ⟨s+i,[T.aw],some (false,aS x)⟩
 | [],_,_,_,h=>by simp at h
 | y::r,s,0,x,h=>by simp at h;subst h;rfl
 | y::r,s,i+1,x,h=>by have:=I6 (l:=r) (s:=s+1) (i:=i) (x:=x) (by simpa using h);rw [show s+ (i+1)=s+1+i by omega];simpa [bK] using this
theorem lj{ak:List (List Nm)}{i:Nat}(h:i < ak.length):(bK 0 ak)[((i:Nat):Int).toNat]? =some ⟨i,[T.aw],some (false,aS (ay ak i))⟩:=by have:=I6 (s:=0) (jh h);rw [VP] at this;simpa using this
theorem H6:∀{l:List (List Nm)} {s i:Nat} {x:List Nm},l[i]? =some x->bA (s+i) (bK s l)=some (false,aS x)
 | [],_,_,_,h=>by simp at h
 | y::r,s,0,x,h=>by simp at h;subst h;simp [bK,bA]
 | y::r,s,i+1,x,h=>by
  have:=H6 (l:=r) (s:=s+1) (i:=i) (x:=x) (by simpa using h);rw [show s+ (i+1)=s+1+i by omega];have a:¬s=s+1+i:=by omega
  simp only [bK,bA,if_neg a];exact this
theorem jN{ak:List (List Nm)}{i:Nat}(h:i < ak.length):bA i (bK 0 ak)=some (false,aS (ay ak i)):=by have:=H6 (s:=0) (jh h);rwa [VP] at this
theorem K5:∀{l:List (List Nm)} {s i:Nat} (p:Bool×List (List T)) (y:List Nm),p= (false,aS y)->i < l.length->dJ (s+i) (some p) (dJ (s+i) none (bK s l))=bK s (l.set i y)
 | [],_,_,_,_,_,h=>by simp at h
 | z::r,s,0,p,y,e,_=>by subst e;simp [bK,dJ]
 | z::r,s,i+1,p,y,e,h=>by
  have:=K5 (l:=r) (s:=s+1) (i:=i) p y e (by simpa using h);rw [show s+ (i+1)=s+1+i by omega];have a:¬s=s+1+i:=by omega
  simp only [bK,dJ,if_neg a,this,Yc]
theorem Tj{ak:List (List Nm)}{i:Nat}(y:List Nm)(h:i < ak.length):dJ i (some (false,aS y)) (dJ i none (bK 0 ak))=bK 0 (ak.set i y):=by have:=K5 (s:=0) (i:=i) (false,aS y) y rfl h;rwa [VP] at this
theorem JK:∀{l:List (List Nm)} {s i:Nat},i < l.length->mf (s+i) (dJ (s+i) none (bK s l))=some ()
 | [],_,_,h=>by simp at h
 | z::r,s,0,_=>by simp [bK,dJ,mf]
 | z::r,s,i+1,h=>by
  have:=JK (l:=r) (s:=s+1) (i:=i) (by simpa using h);rw [show s+ (i+1)=s+1+i by omega];have a:¬s=s+1+i:=by omega
  simp only [bK,dJ,mf,if_neg a,this]
theorem RD{ak:List (List Nm)}{i:Nat}(h:i < ak.length):mf i (dJ i none (bK 0 ak))=some ():=by have:=JK (s:=0) h;rwa [VP] at this
theorem cI:∀(l:List (List Nm)) (s:Nat),bP (bK s l)=true
 | [],_=>rfl
 | x::r,s=>by
  have:=cI r (s+1);unfold bP at *
  simp [bK,this]
theorem Su(s:Nat)(cs:List T)(p:Bool×List (List T)):pG ⟨s,cs,some p⟩=T.aa 0 p.1 p.2:=rfl
theorem F6:∀(l:List (List Nm)) (s:Nat),sw s ((bK s l).map λe=> [.ptr e.cs,pG e])=some (bK s l)
 | [],_=>rfl
 | x::r,s=>by have:=F6 r (s+1);simp only [bK,V6,Su,sw];rw [this];rfl
theorem e9(b:Bool)(l:List (List Nm)):kV (bO b (bK 0 l))=some (b,bK 0 l):=by simp only [bO,kV];rw [F6];rfl
theorem Hv:∀(l:List (List Nm)) (s i k:Nat) (y:List Nm),((bK s l).set i ⟨k,[T.aw],some (false,aS y)⟩).map (λe=> [.ptr e.cs,pG e])= (bK s (l.set i y)).map (λe=> [T.ptr e.cs,pG e])
 | [],_,_,_,_=>rfl
 | z::r,s,0,k,y=>by simp [bK,pG]
 | z::r,s,i+1,k,y=>by have:=Hv r (s+1) i k y;simp only [bK,Yc,V6,this]
theorem OE(b:Bool)(l:List (List Nm))(i k:Nat)(y:List Nm):bO b ((bK 0 l).set i ⟨k,[T.aw],some (false,aS y)⟩)=bO b (bK 0 (l.set i y)):=by simp only [bO,Hv]
theorem Mi(l:List Row)(i k:Nat)(cs:List T)(p:Bool×List (List T))(h:bP l=true):bP (l.set i ⟨k,cs,some p⟩)=true:=by
 unfold bP at *
 rw [Vu] at *
 intro x a;rcases VM a with h1 | h1
 .exact h x h1
 .subst h1;rfl
abbrev Ln:=List (Nat×Nat)
def bZ(l:Ln):List (List T×T):=l.map λp=>([ti (p.1:Int)],ti (p.2:Int))
def cg(v:Nat):Ln->Option Nat
 | []=>none
 | p::r=>if v=p.1 then some p.2 else cg v r
def ju(v i:Nat):Ln->Ln
 | []=> [(v,i)]
 | p::r=>if v=p.1 then(v,i)::r else p::ju v i r
def kW(v:Nat):Ln->Ln
 | []=> []
 | p::r=>if v=p.1 then r else p::kW v r
theorem Ct(a b:Nat):eE [ti (a:Int)] [ti (b:Int)]=decide (a=b):=by
 by_cases h:a=b
 .subst h;simp [eE,nG]
 .have:¬(a:Int)= (b:Int):=by omega
  simp [eE,nG,h,this]
theorem u5(v:Nat):∀(l:Ln),fB [ti (v:Int)] (bZ l)= (cg v l).map λ(i:Nat)=>ti (i:Int)
 | []=>rfl
 | p::r=>by
  have:=u5 v r;unfold bZ at *
  rw [V6,fB,Ct,cg];by_cases h:v=p.1
  .simp [h]
  .simp [h,this]
theorem zS(v i:Nat):∀(l:Ln),hI [ti (v:Int)] (ti (i:Int)) (bZ l)=bZ (ju v i l)
 | []=>rfl
 | p::r=>by
  have:=zS v i r;unfold bZ at *
  rw [V6,hI,Ct,ju];by_cases h:v=p.1
  .simp [h]
  .simp [h,this]
theorem BV(v:Nat):∀(l:Ln),jn [ti (v:Int)] (bZ l)=bZ (kW v l)
 | []=>rfl
 | p::r=>by
  have:=BV v r;unfold bZ at *
  rw [V6,jn,Ct,kW];by_cases h:v=p.1
  .simp [h]
  .simp [h,this]
theorem zC(u v i:Nat):∀(l:Ln),cg u (ju v i l)=if u=v then some i else cg u l
 | []=>by simp [ju,cg]
 | p::r=>by
  have:=zC u v i r;rw [ju];by_cases h:v=p.1
  .rw [if_pos h];simp only [cg];by_cases a:u=v
   .simp [a]
   .have b:¬u=p.1:=by rw [<-h];exact a
    simp [a,b]
  .rw [if_neg h];simp only [cg,this];by_cases a:u=p.1
   .have b:¬u=v:=λe=>h (by rw [<-e,a]);rw [if_pos a,if_neg b,if_pos a]
   .rw [if_neg a,if_neg a]
def oH:Ln->Prop
 | []=>True
 | p::r=>cg p.1 r=none/\oH r
theorem zB(u v:Nat):∀(l:Ln),oH l->cg u (kW v l)=if u=v then none else cg u l
 | [],_=>by simp [kW,cg]
 | p::r,h=>by
  have:=zB u v r h.2;rw [kW];by_cases hv:v=p.1
  .rw [if_pos hv];by_cases a:u=v
   .rw [if_pos a,a,hv];exact h.1
   .rw [if_neg a,cg,if_neg (by rw [<-hv];exact a)]
  .rw [if_neg hv];simp only [cg,this];by_cases a:u=p.1
   .have b:¬u=v:=λe=>hv (by rw [<-e,a]);rw [if_pos a,if_neg b,if_pos a]
   .rw [if_neg a,if_neg a]
theorem C0(v i:Nat):∀(l:Ln),oH l->oH (ju v i l)
 | [],_=>⟨rfl,trivial⟩
 | p::r,h=>by
  rw [ju];by_cases hv:v=p.1
  .rw [if_pos hv];exact⟨by rw [hv];exact h.1,h.2⟩
  .rw [if_neg hv];refine⟨?_,C0 v i r h.2⟩;rw [zC,if_neg (λe=>hv e.symm)];exact h.1
theorem IP(v:Nat):∀(l:Ln),oH l->oH (kW v l)
 | [],_=>trivial
 | p::r,h=>by
  rw [kW];by_cases hv:v=p.1
  .rw [if_pos hv];exact h.2
  .rw [if_neg hv];refine⟨?_,IP v r h.2⟩;rw [zB _ _ _ h.2,if_neg (λe=>hv e.symm)];exact h.1
structure TL where
 af:List Nat
 mp:Ln
 ak:List (List Nm)
 val:List Vl
 aA:List Nm
structure Fl where
 er:Bool
 eb:Bool
 ec:Bool
 ev:Bool
 eg:Bool
abbrev S1(n:Nat)(rows:List R)(f:Fl)(t:TL):List ab:=
 [ab.box [I (n:Int),AV.t (T.aa 3 f.er (cU rows)),AV.own (Id.c 1),AV.own (Id.c 2),AV.own (Id.c 3),AV.own (Id.c 4),AV.own (Id.c 5)],ab.sl false 1 f.eb (cY t.af),ab.mp false [Ck.i .i64] (Ck.i .i64) (bZ t.mp),
  ab.rows f.ec 1 0 4 t.ak.length (bK 0 t.ak),ab.sl false 8 f.ev (dX t.val),ab.sl false 4 f.eg (aS t.aA)]
abbrev S2(n:Nat)(rows:List R)(f:Fl)(t:TL):List ab:=
 [ab.box [I (n:Int),AV.t (T.aa 3 f.er (cU rows)),AV.own (Id.c 1),AV.own (Id.c 2),AV.own (Id.c 6),AV.own (Id.c 4),AV.own (Id.c 5)],ab.sl false 1 f.eb (cY t.af),ab.mp false [Ck.i .i64] (Ck.i .i64) (bZ t.mp),
  ab.dead,ab.sl false 8 f.ev (dX t.val),ab.sl false 4 f.eg (aS t.aA),ab.rows f.ec 1 0 4 t.ak.length (bK 0 t.ak)]
def gw(n:Nat)(rows:List R)(f:Fl)(t:TL):List T:=
 [ti (n:Int),T.aa 3 f.er (cU rows),T.aw,T.aw,bO f.ec (bK 0 t.ak),T.aw,T.aw,T.aa 1 f.eb (cY t.af),bT (bZ t.mp),T.aa 8 f.ev (dX t.val),T.aa 4 f.eg (aS t.aA)]
theorem eO(n:Nat)(rows:List R)(f:Fl)(t:TL):gw n rows f t= [ti (n:Int),T.aa 3 f.er (cU rows),T.aw,T.aw,bO f.ec (bK 0 t.ak),T.aw,T.aw,T.aa 1 f.eb (cY t.af),bT (bZ t.mp),T.aa 8 f.ev (dX t.val),T.aa 4 f.eg (aS t.aA)]:=rfl
theorem cL{a:Type}(k:Unit->Option a):ae none (if(true:Bool)=true then some () else none) k=k ():=by rw [if_pos rfl];rfl
open Go Go.Aev Go.Aev.Gen Go.Aev.Wd
def aq(l:List Nm)(v:Nat):Nm:=l.getD v none
theorem gF{l:List Nm}{i:Nat}(h:i < l.length):l[i]? =some (aq l i):=by unfold aq;rw [U9,Vd h];rfl
def hF(v:Nat)(a:Vl):List Nat->List (List Nm)->List Vl->List Vl
 | b::bs,x::xs,val=>hF v a bs xs (val.set b (kS (aJ val b) (fE a (aq x v))))
 | _,_,val=>val
theorem rB{val:List Vl}{i:Nat}(h:i < val.length)(x:Vl)(j:Nat):aJ (val.set i x) j=if j=i then x else aJ val j:=by
 unfold aJ;rw [U9,U9,WE];by_cases a:j=i
 .subst a;simp [h]
 .have:¬i=j:=λe=>a e.symm;simp [a,this]
theorem nP{m k:Nat}{a:Vl}{b:Nm}(c:VB m a)(hb:QB k (nv b)):VB (m+k) (fE a b):=⟨c.1.mul hb,c.2.mul hb⟩
theorem tG{m k:Nat}{a b:Vl}(c:VB m a)(hb:VB k b):VB (m+k+1) (og a b):=⟨c.1.sub hb.1,c.2.sub hb.2⟩
abbrev yl(v:Vl):ab:=ab.box [B (decide ((nv v.1).num < 0)),AV.t (T.str (bM (dz (nv v.1).num))),B (nc v.1),AV.t (T.str (nd v.1)),B (decide ((nv v.2).num < 0)),AV.t (T.str (bM (dz (nv v.2).num))),B (nc v.2),AV.t (T.str (nd v.2))]
structure cO (n m:Nat) (t:TL):Prop where
 b:t.af.length=m
 c:t.ak.length=m
 r:∀x∈t.ak,x.length=n+m
 v:t.val.length=n+m
 lt:∀b∈t.af,b < n+m
 nd:t.af.Nodup
theorem cO.row{n m:Nat}{t:TL}(h:cO n m t){i:Nat}(hi:i < m):(ay t.ak i).length=n+m:=h.r _ (Va (jh (by rw [h.c];exact hi)))
theorem Je(v:Nat)(a:Vl):∀(bs:List Nat) (xs:List (List Nm)) (val:List Vl),(hF v a bs xs val).length=val.length
 | [],_,_=>by simp [hF]
 | _::_,[],_=>by simp [hF]
 | b::bs,x::xs,val=>by rw [hF,Je];simp
section
variable {n:Nat} {rows:List R} (f:Fl) (t:TL)
theorem Uy{m k l:Nat}(d:cO n m t){v:Nat}{w:Vl}(hv:v < n+m)(hm:m<=40)
  (J:VB k w) (u:∀x∈t.ak,QB l (nv (aq x v))) {a:Nat} (N:a+ (k+l)+1<=6300):
  ∀(bs:List Nat) (xs:List (List Nm)) (i:Nat) (val:List Vl),t.af.drop i=bs->t.ak.drop i=xs->val.length=n+m->(∀b∈bs,VB a (aJ val b))->
  Or A9 [r0,I (v:Int),AV.ref (Id.c 6) 0,AV.own (Id.c 1),I (t.af.length:Int),I (i:Int)] (S1 n rows f ⟨t.af,t.mp,t.ak,val,t.aA⟩ ++ [yl w])=some (gw n rows f ⟨t.af,t.mp,t.ak,hF v w bs xs val,t.aA⟩):=by
 intro bs;induction bs with
 | nil=>
  intro xs i val hb p D o;have h1:¬(i:Int) < (t.af.length:Int):=by have:=bw hb;omega
  have E:hF v w [] xs val=val:=by cases xs <;> rfl
  rw [E,eO];refine al ?_;simp only [Vf,Vg];rw [HN];simp only [ai,↓reduceIte,Int.reduceBEq,Int.reduceEq,GD,h1,cI,cL]
 | cons b bs O=>
  intro xs i val hb p D o;obtain⟨q,W,M⟩:=bt hb;have T:=d.b;have U:=d.c;cases xs with
  | nil=>have:=bw p;omega
  | cons x xs=>
   obtain⟨g,x2,Q⟩:=bt p;have V:=d.r x (Va g);have S:=d.lt b (Va q);have h1:(i:Int) < (t.af.length:Int):=by omega
   have B: 0<=(i:Int):=by omega
   have C:(i:Int) < (t.ak.length:Int):=by omega
   have s: 0<=(b:Int)/\(b:Int) < (val.length:Int):=by omega
   have H: 0<=(v:Int)/\(v:Int) < (x.length:Int):=by omega
   have y:ay t.ak i=x:=by have:=jh (ak:=t.ak) (i:=i) (by omega);rw [g] at this;exact(VR this).symm
   have A:=lj (ak:=t.ak) (i:=i) (by omega);have z:=jN (ak:=t.ak) (i:=i) (by omega);rw [y] at A z;have K:=pM J (u x (Va g)) (by omega);have G:=o b Vb;have k2:=Lv G (nP J (u x (Va g))) N;have P:=Hu (l:=val) (i:=b) (by omega) (kS (aJ val b) (fE w (aq x v)));rw [cH] at K k2;have j:=d.nd;rw [<-Yp i t.af,hb] at j;have F:b∉bs:=(WC.1 (W6.1 j).2.1).1;have:=O xs (i+1) (val.set b (kS (aJ val b) (fE w (aq x v)))) M Q (by rw [Wa];exact D) (λL h=>by
    rw [rB (by omega),if_neg (λe=>F (by rw [<-e];exact h))];exact o L (Vc _ h))
   simp only [Vf,Vg] at this;rw [hF];refine al ?_;simp only [Vf,Vg];rw [HN];simp only [ai,↓reduceIte,Int.reduceBEq,Int.reduceEq,GD,h1,B,C,and_self,dB,jL q,s,cQ,nF (ou (val:=val) (i:=b) (by omega)),dh,A,z,H,bJ,cw (gF (l:=x) (i:=v) (by omega)),K,k2,P,next i (by omega)];exact this
def dZ(v:Nat)(w:Vl)(t:TL):TL:=⟨t.af,t.mp,t.ak,hF v w t.af t.ak (t.val.set v (kS (aJ t.val v) w)),t.aA⟩
theorem tO{m k l:Nat}(c:cO n m t){v:Nat}{w:Vl}(hv:v < n+m)(hm:m<=40)(g:v∉t.af)
  (o:VB k w) (r:∀x∈t.ak,QB l (nv (aq x v))) {a:Nat} (q:a+ (k+l)+1<=6300) (d:∀u,u < n+m->VB a (aJ t.val u)):
  Or (.call 84) [r0,I (v:Int),EV w] (S1 n rows f t)=some (gw n rows f (dZ v w t)):=by
 have h:=c.v;have p:=Lv (d v hv) o (by omega);rw [cH] at p;have s:=Hu (l:=t.val) (i:=v) (by omega) (kS (aJ t.val v) w);have j: 0<=(v:Int)/\(v:Int) < (t.val.length:Int):=by omega
 have:=Uy (n:=n) (rows:=rows) f t c hv hm o r q t.af t.ak 0 (t.val.set v (kS (aJ t.val v) w)) rfl rfl (by rw [Wa];exact h) (λb hb=>by
  rw [rB (by omega),if_neg (λe=>g (by rw [<-e];exact hb))];exact d b (c.lt b hb))
 simp only [Vf,Vg] at this;refine al ?_;rw [Pj];simp only [ai,↓reduceIte,Int.reduceBEq,Int.reduceEq,GD,j,and_self,cQ,nF (ou (val:=t.val) (i:=v) (by omega)),p,s,dB];exact this
end
open Go Go.Aev Go.Aev.Gen Go.Aev.Wd
def pl(x y:Nm):Nm:=some (nv x+nv y)
def mi(x y:Nm):Nm:=some (nv x - nv y)
def tm(x y:Nm):Nm:=some (nv x * nv y)
def ov(x y:Nm):Nm:=some (nv x / nv y)
def ng(x:Nm):Nm:=some (-(nv x))
def iN(x:Int):Nm:=some (x:Rat)
theorem JR(x y:Nm):nv (tm x y)=nv x * nv y:=rfl
theorem RH(x:Nm):nv (ng x)= -(nv x):=rfl
theorem JQ(x:Int):nv (iN x)= (x:Rat):=rfl
abbrev QN(m:Nat)(x:Nm):Prop:=QB m (nv x)
abbrev NL(x:Nm):List T:= [tb (decide ((nv x).num < 0)),T.str (bM (dz (nv x).num)),tb (nc x),T.str (nd x)]
theorem nU{m k:Nat}{x y:Nm}(a:QN m x)(b:QN k y)(h:m+k+1<=6300):Or (.call 63) [EN x,EN y] []=some (NL (pl x y)):=Aj a b h
theorem DA{m k:Nat}{x y:Nm}(a:QN m x)(b:QN k y)(h:m+k+1<=6300):Or (.call 121) [EN x,EN y] []=some (NL (mi x y)):=Ew a b h
theorem mo{m k:Nat}{x y:Nm}(a:QN m x)(b:QN k y)(h:m+k<=6300):Or (.call 64) [EN x,EN y] []=some (NL (tm x y)):=Ex a b h
theorem mX{m k:Nat}{x y:Nm}(b:QN m x)(c:QN k y)(h:m+k<=6300)(a:nv y≠0):Or (.call 83) [EN x,EN y] []=some (NL (ov x y))/\QN (m+k) (ov x y):=TN b c h a
theorem Dz(x:Nm):Or (.call 120) [EN x] []=some (NL (ng x)):=Lu x
theorem fT(x:Int)(h: -9223372036854775808<=x/\x < 9223372036854775808):Or (.call 32) [I x] []=some (NL (iN x)):=Ai x h
theorem gu(q:Rat):q.num.sign=0↔q=0:=by rw [YI,Zf]
abbrev iz(x:Nm):ab:=ab.box [B (decide ((nv x).num < 0)),AV.t (T.str (bM (dz (nv x).num))),B (nc x),AV.t (T.str (nd x))]
def iK(c:Nm):List Nm->List Nm->List Nm
 | r::b,y::a=>(if nv r=0 then y else pl y (tm c r))::iK c b a
 | _,a=>a
def jA(row:List Nm)(v:Nat)(l:List Nm):List Nm:=if nv (aq l v)=0 then l else iK (aq l v) row (l.set v none)
theorem rr{c:Type}(a:List c)(b v:c)(r:List c)(i:Nat)(h:a.length=i):(a++b::r).set i v=a++v::r:=by subst h;simp
theorem T1{mr ml mc:Nat}(e0 e3:Bool)(v:Nat)(c:Nm)(row:List Nm)(z:QN mc c)(F:∀x∈row,QN mr x)(hs:ml+ (mc+mr)+1<=6300)(hrl:row.length<=100):
  ∀(d a b:List Nm) (k:Nat),row.drop k=d->b.length=k->d.length=a.length->(∀y∈a,QN ml y)->
  Or um [AV.own (Id.c 0),AV.ref (Id.c 4) 0,AV.own (Id.c 3),I (row.length:Int),I (k:Int)] [ab.sl false 4 e0 (aS (b++a)),ab.box [I (v:Int)],ab.box [AV.own (Id.c 3)],ab.sl false 4 e3 (aS row),iz c]=
   some [T.aa 4 e0 (aS (b++iK c d a)),ti (v:Int),T.aw,T.aa 4 e3 (aS row)]:=by
 intro d;induction d with
 | nil=>
  intro a b k h q m hy;have h1:¬(k:Int) < (row.length:Int):=by have:=bw h;omega
  have e:iK c [] a=a:=rfl;rw [e];refine al ?_;rw [Ce];simp only [ai,↓reduceIte,Int.reduceBEq,Int.reduceEq,GD,h1]
 | cons r d C=>
  intro a b k h q m hy;obtain⟨p,K,w⟩:=bt h;cases a with
  | nil=>simp at m
  | cons y a=>
   have h1:(k:Int) < (row.length:Int):=by omega
   have o: 0<=(k:Int):=by omega
   have J:(b++y::a).length=k+1+a.length:=by simp;omega
   have B:(k:Int) < ((b++y::a).length:Int):=by omega
   have A:(b++y::a)[k]? =some y:=by rw [Wn (by omega),q,XW];rfl
   have q1:=F r (Va p);have H:=hy y Vb;have ks:=lM r;by_cases j:nv r=0
   .have e:iK c (r::d) (y::a)=y::iK c d a:=by rw [iK,if_pos j]
    have g:=(gu (nv r)).2 j;have:=C a (b++ [y]) (k+1) w (by simp;omega) (by simpa using m) (λu s=>hy u (Vc _ s));simp only [VJ,Vf,Vg] at this;rw [e];refine al ?_;rw [Ce];simp only [ai,↓reduceIte,Int.reduceBEq,Int.reduceEq,GD,h1,o,and_self,bJ,cw p,ks,g,next k (by omega)];exact this
   .have e:iK c (r::d) (y::a)=pl y (tm c r)::iK c d a:=by rw [iK,if_neg j]
    have g:¬(nv r).num.sign=0:=λE=>j ((gu _).1 E);have G:=mo z q1 (by omega);have k2:=nU (x:=y) (y:=tm c r) H (z.mul q1) hs;have D:=kk (l:=b++y::a) (i:=k) (by omega) (pl y (tm c r));rw [rr _ _ _ _ _ q] at D;have:=C a (b++ [pl y (tm c r)]) (k+1) w (by simp;omega) (by simpa using m) (λu s=>hy u (Vc _ s));simp only [VJ,Vf,Vg] at this;rw [e];refine al ?_;rw [Ce];simp only [ai,↓reduceIte,Int.reduceBEq,Int.reduceEq,GD,h1,o,B,and_self,bJ,cw p,cw A,ks,g,G,k2,D,next k (by omega)];exact this
theorem LO{mr ml:Nat}(e0 e3:Bool)(v:Nat)(row l:List Nm)(m:∀x∈row,QN mr x)(g:∀x∈l,QN ml x)(hs:ml+ (ml+mr)+1<=6300)(hrl:row.length<=100)(h:row.length=l.length)(hv:v < l.length):
  Or (.call 123) [AV.own (Id.c 0),AV.ref (Id.c 1) 0,AV.ref (Id.c 2) 0] [ab.sl false 4 e0 (aS l),ab.box [I (v:Int)],ab.box [AV.own (Id.c 3)],ab.sl false 4 e3 (aS row)]=
   some [T.aa 4 e0 (aS (jA row v l)),ti (v:Int),T.aw,T.aa 4 e3 (aS row)]:=by
 have d: 0<=(v:Int)/\(v:Int) < (l.length:Int):=by omega
 have e:=gF hv;have ks:=lM (aq l v);unfold jA;by_cases b:nv (aq l v)=0
 .have a:=(gu (nv (aq l v))).2 b;rw [if_pos b];refine al ?_;rw [Hy];simp only [ai,↓reduceIte,Int.reduceBEq,Int.reduceEq,GD,d,and_self,bJ,cw e,ks,a]
 .have a:¬(nv (aq l v)).num.sign=0:=λk=>b ((gu _).1 k);have j:=kk (l:=l) (i:=v) hv none;rw [show [tb (decide ((nv none).num < 0)),T.str (bM (dz (nv none).num)),tb (nc none),T.str (nd none)]= [tb false,T.str (ByteArray.mk #[]),tb false,T.str (ByteArray.mk #[])] from rfl] at j;have:=T1 (mr:=mr) (ml:=ml) (mc:=ml) e0 e3 v (aq l v) row (g _ (Va e)) m hs hrl row (l.set v none) [] 0 rfl rfl (by simpa using h) (λy hy=>by
   rcases VM hy with h1 | h1
   .exact g y h1
   .subst h1;exact iM _)
  simp only [Vg] at this;rw [if_neg b];refine al ?_;rw [Hy];simp only [ai,↓reduceIte,Int.reduceBEq,Int.reduceEq,GD,d,and_self,bJ,cw e,ks,a,j];exact this
def gp(row:List Nm)(v i:Nat):Nat->List (List Nm)->List (List Nm)
 | _,[]=> []
 | k,x::xs=>(if k=i then x else jA row v x)::gp row v i (k+1) xs
def cD(x:List Nm)(v b:Nat):List Nm:=((x.map λy=>ng (ov y (aq x v))).set v none).set b (ov (iN 1) (aq x v))
def fk(i v b:Nat)(row:List Nm)(eg:Bool)(t:TL):TL:=
 ⟨t.af.set i v,ju v i (kW b t.mp),(gp row v i 0 t.ak).set i row,t.val,if eg then t.aA else jA row v t.aA⟩
theorem Eg(row:List Nm)(v i:Nat):∀(xs:List (List Nm)) (k:Nat),(gp row v i k xs).length=xs.length
 | [],_=>rfl
 | x::xs,k=>by simp [gp,Eg row v i xs (k+1)]
section
variable {n:Nat} {rows:List R} (f:Fl) (t:TL)
theorem Uz{m mr ml:Nat}(L:cO n m t)(S:n<=12)(hm:m<=40){i v b:Nat}(hi:i < m)(hv:v < n+m)(hb:t.af[i]? =some b)(row:List Nm)(hrl:row.length=n+m)
  (K:∀x∈row,QN mr x) (Q:∀x∈t.ak,∀y∈x,QN ml y) (N:f.eg=false->t.aA.length=n+m/\∀y∈t.aA,QN ml y) (hs:ml+ (ml+mr)+1<=6300):
  ∀(xs a:List (List Nm)) (k:Nat),a.length=k->a.length+xs.length=m->(∀x∈xs,x.length=n+m/\∀y∈x,QN ml y)->
  Or uu [r0,I (i:Int),AV.ref (Id.c 6) 0,I (b:Int),AV.ref (Id.c 7) 0,AV.fn 123 [] [AV.ref (Id.c 6) 0,AV.ref (Id.c 7) 0],I (m:Int),I (k:Int)]
   (S1 n rows f ⟨t.af,t.mp,a++xs,t.val,t.aA⟩ ++ [ab.box [I (v:Int)],ab.box [AV.own (Id.c 8)],ab.sl false 4 false (aS row)])=
   some (gw n rows f ⟨t.af.set i v,ju v i (kW b t.mp),(a++gp row v i k xs).set i row,t.val,if f.eg then t.aA else jA row v t.aA⟩):=by
 intro xs;have P:=L.b;induction xs with
 | nil=>
  intro a k w g j;simp only [VS,X7] at g;have h1:¬(k:Int) < (m:Int):=by omega
  have p: 0<=(i:Int)/\(i:Int) < (a.length:Int):=by omega
  have q: 0<=(i:Int)/\(i:Int) < (t.af.length:Int):=by omega
  have d:=lj (ak:=a) (i:=i) (by omega);have kb:=OB (l:=t.af) (i:=i) (by omega) v;have h:((i:Nat):Int).toNat=i:=by omega
  rw [h] at d kb;have C:=Mi (bK 0 a) i a.length [T.aw] (false,aS row) (cI _ _);have E:=OE f.ec a i a.length row;have e:gp row v i k []= []:=rfl;rw [eO,e,We];refine al ?_;simp only [Vf,Vg];rw [Cp];cases F:f.eg
  .obtain⟨gl,gq⟩:=N F;have B:=LO (e0:=false) (e3:=false) v row t.aA K gq hs (by omega) (by omega) (by omega);simp only [ai,↓reduceIte,Int.reduceBEq,Int.reduceEq,GD,h1,p,q,and_self,dh,dB,h,d,kb,B,Vj,BV,zS,C,E,cL];rfl
  .simp only [ai,↓reduceIte,Int.reduceBEq,Int.reduceEq,GD,h1,p,q,and_self,dh,dB,h,d,kb,Vj,BV,zS,C,E,cL]
   try rfl
 | cons x xs M=>
  intro a k w g j;simp only [Vy] at g;have h1:(k:Int) < (m:Int):=by omega
  have G: 0<=(k:Int)/\(k:Int) < ((a++x::xs).length:Int):=by simp;omega
  have D:ay (a++x::xs) k=x:=by unfold ay;rw [U9,Wn (by omega),w,XW];rfl
  have d:=lj (ak:=a++x::xs) (i:=k) (by simp;omega);have o:=jN (ak:=a++x::xs) (i:=k) (by simp;omega);rw [D] at d o;obtain⟨U,O⟩:=j x Vb;by_cases r:k=i
  .subst r;have:=M (a++ [x]) (k+1) (by simp;omega) (by simp;omega) (λu A=>j u (Vc _ A));simp only [VJ,Vf,Vg] at this;have e:gp row v k k (x::xs)=x::gp row v k (k+1) xs:=by rw [gp,if_pos rfl]
   rw [e];refine al ?_;simp only [Vf,Vg];rw [Cp];simp only [ai,↓reduceIte,Int.reduceBEq,Int.reduceEq,GD,h1,next k (by omega)];exact this
  .have z:¬(k:Int)= (i:Int):=by omega
   have B:=LO (e0:=false) (e3:=false) v row x K O hs (by omega) (by omega) (by omega);have s:=Tj (ak:=a++x::xs) (i:=k) (jA row v x) (by simp;omega);have J:=RD (ak:=a++x::xs) (i:=k) (by simp;omega);rw [rr _ _ _ _ _ w] at s;have:=M (a++ [jA row v x]) (k+1) (by simp;omega) (by simp;omega) (λu A=>j u (Vc _ A));simp only [VJ,Vf,Vg] at this;have e:gp row v i k (x::xs)=jA row v x::gp row v i (k+1) xs:=by rw [gp,if_neg r]
   have H:(a++jA row v x::xs).length= (a++x::xs).length:=by simp
   rw [e];refine al ?_;simp only [Vf,Vg];rw [Cp];simp only [ai,↓reduceIte,Int.reduceBEq,Int.reduceEq,GD,h1,z,G,and_self,dh,d,o,B,Vj,J,s,next k (by omega)];rw [H] at this;exact this
theorem UA{m mc:Nat}(d:cO n m t)(L:n<=12)(hm:m<=40){i v b:Nat}(hi:i < m)(hv:v < n+m)(hb:t.af[i]? =some b)
  (e:∀x∈t.ak,∀y∈x,QN mc y) (s:nv (aq (ay t.ak i) v)≠0) (K:f.eg=false->t.aA.length=n+m/\∀y∈t.aA,QN mc y) (hs:mc+ (mc+ (2 * mc+10))+1<=6300):
  ∀(xs:List Nm) (k:Nat),(ay t.ak i).drop k=xs->
  Or xT [r0,I (i:Int),AV.ref (Id.c 6) 0,I (b:Int),AV.ref (Id.c 7) 0,AV.ref (Id.c 8) 0,AV.row (Id.c 3) i,I ((ay t.ak i).length:Int),I (k:Int)]
   (S1 n rows f t++ [ab.box [I (v:Int)],iz (aq (ay t.ak i) v),ab.box [AV.own (Id.c 9)],ab.sl false 4 false (aS (((ay t.ak i).take k).map (λy=>ng (ov y (aq (ay t.ak i) v)))++List.replicate xs.length none))])=
   some (gw n rows f (fk i v b (cD (ay t.ak i) v b) f.eg t)):=by
 have j:=d.c;have M:=d.row hi;have S:b < n+m:=d.lt b (Va hb);have A:=jN (ak:=t.ak) (i:=i) (by omega);have g:ay t.ak i∈t.ak:=Va (jh (by omega));have w:QN mc (aq (ay t.ak i) v):=e _ g _ (Va (gF (by omega)));intro xs;induction xs with
 | nil=>
  intro k h;have h1:¬(k:Int) < ((ay t.ak i).length:Int):=by have:=bw h;omega
  have G:(ay t.ak i).take k=ay t.ak i:=V9 (by have:=bw h;omega);have V:((ay t.ak i).map (λy=>ng (ov y (aq (ay t.ak i) v)))).length=n+m:=by simp;omega
  have H: 0<=(v:Int)/\(v:Int) < (((ay t.ak i).map (λy=>ng (ov y (aq (ay t.ak i) v)))).length:Int):=by omega
  have z: 0<=(b:Int)/\(b:Int) < ((((ay t.ak i).map (λy=>ng (ov y (aq (ay t.ak i) v)))).set v none).length:Int):=by rw [Wa];omega
  have u:=fT 1 (by omega);have q1:QN 2 (iN 1):=eF (by decide);obtain⟨k2,O⟩:=mX q1 w (by omega) s;have p:=kk (l:=(ay t.ak i).map (λy=>ng (ov y (aq (ay t.ak i) v)))) (i:=v) (by omega) none;rw [show [tb (decide ((nv none).num < 0)),T.str (bM (dz (nv none).num)),tb (nc none),T.str (nd none)]= [tb false,T.str (ByteArray.mk #[]),tb false,T.str (ByteArray.mk #[])] from rfl] at p;have Q:=kk (l:=((ay t.ak i).map (λy=>ng (ov y (aq (ay t.ak i) v)))).set v none) (i:=b) (by rw [Wa];omega) (ov (iN 1) (aq (ay t.ak i) v));have E:∀x∈cD (ay t.ak i) v b,QN (2 * mc+10) x:=by
   intro x a;unfold cD at a;rcases VM a with a | a
   .rcases VM a with a | a
    .obtain⟨y,hy,rfl⟩:=VK.1 a;exact((mX (e _ g y hy) w (by omega) s).2).neg.mono (by omega)
    .subst a;exact iM _
   .subst a;exact O.mono (by omega)
  have D:(cD (ay t.ak i) v b).length=n+m:=by unfold cD;simp;omega
  have:=Uz (n:=n) (rows:=rows) (ml:=mc) f t d L hm hi hv hb (cD (ay t.ak i) v b) D E e K hs t.ak [] 0 rfl (by simpa using j) (λx a=>⟨d.r x a,e x a⟩);simp only [Vf,Vg] at this;rw [G];simp only [VS,WW,We];refine al ?_;simp only [Vf,Vg];rw [HO];simp only [ai,↓reduceIte,Int.reduceBEq,Int.reduceEq,GD,h1,H,z,and_self,bJ,p,Q,u,k2,dh,j];rw [j] at this;exact this
 | cons x xs N=>
  intro k h;obtain⟨q,W,J⟩:=bt h;have h1:(k:Int) < ((ay t.ak i).length:Int):=by omega
  have B: 0<=(k:Int):=by omega
  have o:(((ay t.ak i).take k).map (λy=>ng (ov y (aq (ay t.ak i) v)))).length=k:=by simp;omega
  have U:(((ay t.ak i).take k).map (λy=>ng (ov y (aq (ay t.ak i) v)))++List.replicate (x::xs).length none).length= (ay t.ak i).length:=by rw [Ws,o,W7];have:=congrArg List.length h;simp only [Xd] at this;omega
  have C:(k:Int) < ((((ay t.ak i).take k).map (λy=>ng (ov y (aq (ay t.ak i) v)))++List.replicate (x::xs).length none).length:Int):=by omega
  have P:=e _ g x (Va q);obtain⟨u,q1⟩:=mX P w (by omega) s;have k2:=Dz (ov x (aq (ay t.ak i) v));have p:=kk (l:=((ay t.ak i).take k).map (λy=>ng (ov y (aq (ay t.ak i) v)))++List.replicate (x::xs).length none) (i:=k) (by omega) (ng (ov x (aq (ay t.ak i) v)))
  have F:(((ay t.ak i).take k).map (λy=>ng (ov y (aq (ay t.ak i) v)))++List.replicate (x::xs).length none).set k (ng (ov x (aq (ay t.ak i) v)))=
    ((ay t.ak i).take (k+1)).map (λy=>ng (ov y (aq (ay t.ak i) v)))++List.replicate xs.length none:=by
   rw [Vy,VX,rr _ _ _ _ _ o,XM,q,W2];simp
  rw [F] at p;have:=N (k+1) J;simp only [Vf,Vg] at this;refine al ?_;simp only [Vf,Vg];rw [HO];simp only [ai,↓reduceIte,Int.reduceBEq,Int.reduceEq,GD,h1,B,C,and_self,A,bJ,cw q,u,k2,p,next k (by omega)];exact this
theorem qR{k:Nat}(h:k<=100000):br (k:Int) (k:Int)=some ():=by unfold br;rw [if_pos ⟨by omega,by omega,by unfold dY;omega⟩]
theorem tP{m mc:Nat}(a:cO n m t)(w:n<=12)(hm:m<=40){i v b:Nat}(hi:i < m)(hv:v < n+m)(hb:t.af[i]? =some b)
  (s:∀x∈t.ak,∀y∈x,QN mc y) (r:nv (aq (ay t.ak i) v)≠0) (u:f.eg=false->t.aA.length=n+m/\∀y∈t.aA,QN mc y) (hs:mc+ (mc+ (2 * mc+10))+1<=6300):
  Or (.call 85) [r0,I (i:Int),I (v:Int)] (S1 n rows f t)=some (gw n rows f (fk i v b (cD (ay t.ak i) v b) f.eg t)):=by
 have B:=a.c;have A:=a.b;have z:=a.row hi;have h: 0<=(i:Int)/\(i:Int) < (t.af.length:Int):=by omega
 have j: 0<=(i:Int)/\(i:Int) < (t.ak.length:Int):=by omega
 have q: 0<=(v:Int)/\(v:Int) < ((ay t.ak i).length:Int):=by omega
 have e:=lj (ak:=t.ak) (i:=i) (by omega);have d:=jN (ak:=t.ak) (i:=i) (by omega);have g:=cw (gF (l:=ay t.ak i) (i:=v) (by omega));have o:=qR (k:=(ay t.ak i).length) (by omega);have:=UA (n:=n) (rows:=rows) f t a w hm hi hv hb s r u hs (ay t.ak i) 0 rfl;have p:(((ay t.ak i).length:Nat):Int).toNat= (ay t.ak i).length:=by omega
 simp only [Vf,Vg,X5,X9] at this;refine al ?_;rw [Pk];simp only [ai,↓reduceIte,Int.reduceBEq,Int.reduceEq,GD,h,j,q,and_self,dB,jL hb,dh,e,d,bJ,g,o,p,sF];exact this
end
open Go Go.Aev Go.Aev.Gen Go.Aev.Wd
def gm(n:Nat)(s:Nm):List Nm->Nat->List Nm->List Nm
 | [],_,a=>a
 | x::xs,v,a=>if nv x=0 then gm n s xs (v+1) a else gm n s xs (v+1) (a.set (v - n) (ng (tm x s)))
def iY(n m:Nat)(aj:Int)(b:Nat)(row:List Nm):List Nm:=gm n (iN (-aj)) row 0 ((List.replicate m none).set (b - n) (iN (-aj)))
theorem DW(n:Nat)(s:Nm):∀(xs:List Nm) (v:Nat) (a:List Nm),(gm n s xs v a).length=a.length
 | [],_,_=>rfl
 | x::xs,v,a=>by
  rw [gm];split
  .exact DW n s xs _ _
  .rw [DW n s xs];simp
section
variable {n:Nat} {rows:List R} (f:Fl) (t:TL)
theorem Ux{mc:Nat}(o:cO n rows.length t)(L:n<=12)(hm:rows.length<=40){i:Nat}(hi:i < rows.length){s:Nm}(w:QN 2 s)
  (B:∀y∈ay t.ak i,QN mc y) (hz:∀v,v < n->nv (aq (ay t.ak i) v)=0) (hs:mc+2<=6300):
  ∀(xs:List Nm) (k:Nat) (a:List Nm),(ay t.ak i).drop k=xs->a.length=rows.length->
  Or ur [r0,AV.own (Id.c 6),AV.ref (Id.c 7) 0,AV.row (Id.c 3) i,I ((ay t.ak i).length:Int),I (k:Int)] (S1 n rows f t++ [ab.sl false 4 false (aS a),iz s])=
   some (T.aa 4 false (aS (gm n s xs k a))::gw n rows f t):=by
 have J:=o.c;have D:=o.row hi;have j:=jN (ak:=t.ak) (i:=i) (by omega);intro xs;induction xs with
 | nil=>
  intro k a h p;have h1:¬(k:Int) < ((ay t.ak i).length:Int):=by have:=bw h;omega
  rw [gm,eO];refine al ?_;simp only [Vf,Vg];rw [Co];simp only [ai,↓reduceIte,Int.reduceBEq,Int.reduceEq,GD,h1,cI,cL]
 | cons x xs z=>
  intro k a h p;obtain⟨g,K,q⟩:=bt h;have h1:(k:Int) < ((ay t.ak i).length:Int):=by omega
  have m: 0<=(k:Int):=by omega
  have ks:=lM x;have H:=B x (Va g);by_cases b:nv x=0
  .have e:=(gu (nv x)).2 b;have d:gm n s (x::xs) k a=gm n s xs (k+1) a:=by rw [gm,if_pos b]
   have:=z (k+1) a q p;simp only [Vf,Vg] at this;rw [d];refine al ?_;simp only [Vf,Vg];rw [Co];simp only [ai,↓reduceIte,Int.reduceBEq,Int.reduceEq,GD,h1,m,and_self,j,bJ,cw g,ks,e,next k (by omega)];exact this
  .have e:¬(nv x).num.sign=0:=λA=>b ((gu _).1 A);have d:gm n s (x::xs) k a=gm n s xs (k+1) (a.set (k - n) (ng (tm x s))):=by rw [gm,if_neg b]
   have r:¬k < n:=λC=>b (by
    have:=hz k C;unfold aq at this;rw [U9,g] at this;exact this)
   have E:=tH r (by omega);have F:=mo H w hs;have k2:=Dz (tm x s);have u: 0<=((k - n:Nat):Int)/\((k - n:Nat):Int) < (a.length:Int):=by omega
   have G:=kk (l:=a) (i:=k - n) (by omega) (ng (tm x s));have:=z (k+1) (a.set (k - n) (ng (tm x s))) q (by rw [Wa];exact p);simp only [Vf,Vg] at this;rw [d];refine al ?_;simp only [Vf,Vg];rw [Co];simp only [ai,↓reduceIte,Int.reduceBEq,Int.reduceEq,GD,h1,m,and_self,j,bJ,cw g,ks,e,E,u,F,k2,G,next k (by omega)];exact this
theorem LW{mc:Nat}(a:cO n rows.length t)(w:n<=12)(hm:rows.length<=40){i b:Nat}(hi:i < rows.length)(hb:t.af[i]? =some b)(C:n<=b){aj:Int}(q:aj=1\/aj= -1)
  (u:∀y∈ay t.ak i,QN mc y) (hz:∀v,v < n->nv (aq (ay t.ak i) v)=0) (hs:mc+2<=6300):
  Or (.call 78) [r0,I (i:Int),I aj] (S1 n rows f t)=some (T.aa 4 false (aS (iY n rows.length aj b (ay t.ak i)))::gw n rows f t):=by
 have D:=a.c;have B:=a.b;have A:=a.lt b (Va hb);have d:=qR (k:=(cU rows).length) (by rw [bY];omega);rw [bY] at d;have s:i64.wrap (0 - aj)= -aj:=by rw [Go.Aev.wr (by omega)];omega
 have x:=fT (-aj) (by omega);have h: 0<=(i:Int)/\(i:Int) < (t.af.length:Int):=by omega
 have j: 0<=(i:Int)/\(i:Int) < (t.ak.length:Int):=by omega
 have r:=tH (v:=b) (n:=n) (by omega) (by omega);have p:((rows.length:Nat):Int).toNat=rows.length:=by omega
 have m: 0<=((b - n:Nat):Int)/\((b - n:Nat):Int) < ((List.replicate rows.length (none:Nm)).length:Int):=by rw [W7];omega
 have z:=kk (l:=List.replicate rows.length none) (i:=b - n) (by rw [W7];omega) (iN (-aj));have g:=lj (ak:=t.ak) (i:=i) (by omega);have e:=jN (ak:=t.ak) (i:=i) (by omega);have o:QN 2 (iN (-aj)):=by rcases q with rfl | rfl <;> exact eF (by decide)
 have:=Ux (n:=n) (rows:=rows) f t a w hm hi o u hz hs (ay t.ak i) 0 ((List.replicate rows.length none).set (b - n) (iN (-aj))) rfl (by simp);simp only [Vf,Vg] at this;refine al ?_;rw [Pd];simp only [ai,↓reduceIte,Int.reduceBEq,Int.reduceEq,GD,bY,d,s,x,h,j,and_self,dB,jL hb,r,p,sF,bJ,m,z,dh,g,e];exact this
end
def aV(n:Nat)(rows:List R)(val:List Vl)(aj:Int):List Nm->Nat->Option Nat
 | [],_=>none
 | x::xs,v=>if nv x≠0/\fg n rows val v (aj * (nv x).num.sign)=true then some v else aV n rows val aj xs (v+1)
def pL(n:Nat)(rows:List R)(b:Nat)(aj:Int)(i v:Nat)(t:TL):Vl:=fE (og (if aj > 0 then iF n rows b else bR n rows b) (aJ t.val b)) (ov (iN 1) (aq (ay t.ak i) v))
def gP(n:Nat)(rows:List R)(eg:Bool)(b:Nat)(aj:Int)(i v:Nat)(t:TL):TL:=
 fk i v b (cD (ay t.ak i) v b) eg (dZ v (pL n rows b aj i v t) t)
theorem pJ(q:Rat):q.num.sign=1\/q.num.sign= -1\/q.num.sign=0:=by
 rcases Xj q.num 0 with h | h | h
 .exact .inr (.inl (WH h))
 .exact .inr (.inr (by rw [h];rfl))
 .exact .inl (Wp h)
theorem cO.mv{n m:Nat}{t:TL}(h:cO n m t)(v:Nat)(w:Vl):cO n m (dZ v w t) where
 b:=h.b
 c:=h.c
 r:=h.r
 v:=by show(hF _ _ _ _ _).length=_;rw [Je,Wa];exact h.v
 lt:=h.lt
 nd:=h.nd
section
variable {n:Nat} {rows:List R} (f:Fl) (t:TL)
set_option maxRecDepth 20000 in
theorem Ue{mv mc:Nat}(sz:Sz n rows)(l:cO n rows.length t){i b:Nat}(hi:i < rows.length)(hb:t.af[i]? =some b)(hbn:n<=b){aj:Int}(Z:aj=1\/aj= -1)(hge:f.eg=true)
  (K:∀u,u < n+rows.length->VB mv (aJ t.val u)) (X:∀x∈t.ak,∀y∈x,QN mc y) (hzb:∀v,nv (aq (ay t.ak i) v)≠0->v∉t.af)
  (h1s: 20<=mv) (h2s: 3 * mv+2 * mc+10<=6200) (h3s: 4 * mc+20<=6200) (p:Int)
  (hno:aV n rows t.val aj (ay t.ak i) 0=none->∀v,v < n->nv (aq (ay t.ak i) v)=0) {res:List T}
  (d:(match aV n rows t.val aj (ay t.ak i) 0 with
   | none=>some (T.aa 4 false (aS (iY n rows.length aj b (ay t.ak i)))::tb true::gw n rows f t)
   | some v=>Or p7 [r0,I p] (S2 n rows f (gP n rows f.eg b aj i v t)))=some res):
  ∀(xs:List Nm) (k:Nat),(ay t.ak i).drop k=xs->aV n rows t.val aj xs k=aV n rows t.val aj (ay t.ak i) 0->
  Or oI [r0,I p,I (b:Int),I aj,I (i:Int),I (-1),AV.row (Id.c 3) i,I ((ay t.ak i).length:Int),I (k:Int)] (S1 n rows f t)=some res:=by
 have hn:=sz.n;have hm:=sz.m;have hcl:=l.c;have hvl:=l.v;have hrow:=l.row hi;have q:=l.lt b (Va hb);have O:=jN (ak:=t.ak) (i:=i) (by omega);have hci:ay t.ak i∈t.ak:=Va (jh (by omega));intro xs;induction xs with
 | nil=>
  intro k h Y;have h1:¬(k:Int) < ((ay t.ak i).length:Int):=by have:=bw h;omega
  have N:aV n rows t.val aj (ay t.ak i) 0=none:=by rw [<-Y];rfl
  have k1:=LW (n:=n) (rows:=rows) f t l hn hm hi hb hbn Z (X _ hci) (hno N) (by omega);rw [N] at d;simp only at d;rw [eO] at k1 d;rw [<-d];refine al ?_;rw [uX];simp only [ai,↓reduceIte,Int.reduceBEq,Int.reduceEq,GD,fa,h1,k1,e9,eM,Vj,cI,cL]
  try rfl
 | cons x xs ih=>
  intro k h Y;obtain⟨S,g2,g3⟩:=bt h;have h1:(k:Int) < ((ay t.ak i).length:Int):=by omega
  have P: 0<=(k:Int):=by omega
  have ks:=lM x;have qx:=X _ hci x (Va S);by_cases C:nv x=0
  .have z:=(gu (nv x)).2 C;have D:aV n rows t.val aj (x::xs) k=aV n rows t.val aj xs (k+1):=by rw [aV,if_neg (λs=>s.1 C)]
   have M:(!((nv x).num.sign==0))=false:=by rw [z];rfl
   have:=ih (k+1) g3 (by rw [<-D];exact Y);refine al ?_;rw [uX];simp only [bE,ai,↓reduceIte,Int.reduceBEq,Int.reduceEq,GD,h1,P,and_self,O,bJ,cw S,ks,z,next k (by omega)];exact this
  .have z:¬(nv x).num.sign=0:=λs=>C ((gu _).1 s);have M:(!((nv x).num.sign==0))=true:=by simpa using z
   have hws:i64.wrap (aj * (nv x).num.sign)=aj * (nv x).num.sign:=by refine Go.Aev.wr ?_;rcases Z with rfl | rfl <;> rcases pJ (nv x) with e | e | e <;> rw [e] <;> omega
   have kc:=Au sz f.er f.eb f.ev f.eg t.af t.val t.aA hvl K (by omega) (v:=k) (by omega) (aj * (nv x).num.sign);by_cases w:fg n rows t.val k (aj * (nv x).num.sign)=true
   .have D:aV n rows t.val aj (x::xs) k=some k:=by rw [aV,if_pos ⟨C,w⟩]
    have N:aV n rows t.val aj (ay t.ak i) 0=some k:=by rw [<-Y,D]
    have E:aq (ay t.ak i) k=x:=by unfold aq;rw [U9,S];rfl
    have hkb:=hzb k (by rw [E];exact C);have hk1:¬(k:Int) < 0:=by omega
    have V:=tN sz f.er f.eb f.ev f.eg t.af t.val t.aA q;have U:=wK sz f.er f.eb f.ev f.eg t.af t.val t.aA q;have hbv:=nF (ou (val:=t.val) (i:=b) (by omega));have hb1: 0<=(b:Int)/\(b:Int) < (t.val.length:Int):=by omega
    have hi2: 0<=(i:Int)/\(i:Int) < (t.ak.length:Int):=by omega
    have hgi:=lj (ak:=t.ak) (i:=i) (by omega);have k32:=fT 1 (by omega);have q1:QN 2 (iN 1):=eF (by decide);obtain⟨k83,Q⟩:=mX q1 qx (by omega) C;have hcx:∀y∈t.ak,QB mc (nv (aq y k)):=λy hy=>X y hy _ (Va (gF (by rw [l.r y hy];omega)));rw [N] at d;simp only at d;rcases Z with hw | hw
    .subst hw;have qt:=vF sz q;have F:=wH qt (K b q) (by omega);have qs:=tG qt (K b q);have G:=pM (b:=ov (iN 1) x) qs Q (by omega);have qw:=nP (b:=ov (iN 1) x) qs Q;have B:=tO (n:=n) (rows:=rows) f t l (v:=k) (by omega) hm hkb qw hcx (a:=mv) (by omega) K;obtain⟨o,g⟩:∃o,o=dZ k (fE (og (iF n rows b) (aJ t.val b)) (ov (iN 1) x)) t:=⟨_,rfl⟩;have H:o.ak=t.ak:=by rw [g];rfl
     have J:o.af[i]? =some b:=by rw [g];exact hb
     rw [<-g] at B;have j:=tP (n:=n) (rows:=rows) f o (by rw [g];exact l.mv _ _) hn hm hi (v:=k) (by omega) J (by rw [H];exact X) (by rw [H,E];exact C) (λs=>by rw [hge] at s;cases s) (by omega);rw [H] at j;have A:gP n rows f.eg b 1 i k t=fk i k b (cD (ay t.ak i) k b) f.eg o:=by unfold gP pL;rw [E,g];rfl
     generalize cD (ay t.ak i) k b=L at j A;generalize hT2:fk i k b L f.eg o=t2 at j A;rw [eO] at B j;rw [cH] at V U F G;simp only [Vf,Vg] at V U;have W:(1:Int) > 0:=by omega
     rw [A] at d;refine al ?_;rw [uX];simp only [ai,↓reduceIte,Int.reduceBEq,Int.reduceEq,GD,fa,cm,h1,P,hk1,hb1,hi2,and_self,O,hgi,bJ,cQ,dh,cw S,hbv,ks,z,M,hws,kc,w,V,U,F,k32,k83,G,B,j,W,e9,eM,Vj];exact d
    .subst hw;have qt:=rA sz q;have F:=wH qt (K b q) (by omega);have qs:=tG qt (K b q);have G:=pM (b:=ov (iN 1) x) qs Q (by omega);have qw:=nP (b:=ov (iN 1) x) qs Q;have B:=tO (n:=n) (rows:=rows) f t l (v:=k) (by omega) hm hkb qw hcx (a:=mv) (by omega) K;obtain⟨o,g⟩:∃o,o=dZ k (fE (og (bR n rows b) (aJ t.val b)) (ov (iN 1) x)) t:=⟨_,rfl⟩;have H:o.ak=t.ak:=by rw [g];rfl
     have J:o.af[i]? =some b:=by rw [g];exact hb
     rw [<-g] at B;have j:=tP (n:=n) (rows:=rows) f o (by rw [g];exact l.mv _ _) hn hm hi (v:=k) (by omega) J (by rw [H];exact X) (by rw [H,E];exact C) (λs=>by rw [hge] at s;cases s) (by omega);rw [H] at j;have A:gP n rows f.eg b (-1) i k t=fk i k b (cD (ay t.ak i) k b) f.eg o:=by unfold gP pL;rw [E,g];rfl
     generalize cD (ay t.ak i) k b=L at j A;generalize hT2:fk i k b L f.eg o=t2 at j A;rw [eO] at B j;rw [cH] at V U F G;simp only [Vf,Vg] at V U;have W:¬(-1:Int) > 0:=by omega
     rw [A] at d;refine al ?_;rw [uX];simp only [ai,↓reduceIte,Int.reduceBEq,Int.reduceEq,GD,fa,cm,h1,P,hk1,hb1,hi2,and_self,O,hgi,bJ,cQ,dh,cw S,hbv,ks,z,M,hws,kc,w,V,U,F,k32,k83,G,B,j,W,e9,eM,Vj];exact d
   .have D:aV n rows t.val aj (x::xs) k=aV n rows t.val aj xs (k+1):=by rw [aV,if_neg (λs=>w s.2)]
    have hcan':fg n rows t.val k (aj * (nv x).num.sign)=false:=by simpa using w
    have:=ih (k+1) g3 (by rw [<-D];exact Y);refine al ?_;rw [uX];simp only [ai,↓reduceIte,Int.reduceBEq,Int.reduceEq,GD,h1,P,and_self,O,bJ,cw S,ks,z,M,hws,kc,hcan',next k (by omega)];exact this
end
section
variable {n:Nat} {rows:List R} (f:Fl) (t:TL)
set_option maxRecDepth 20000 in
theorem Uf{mv mc:Nat}(sz:Sz n rows)(l:cO n rows.length t){i b:Nat}(hi:i < rows.length)(hb:t.af[i]? =some b)(hbn:n<=b){aj:Int}(Z:aj=1\/aj= -1)(hge:f.eg=true)
  (K:∀u,u < n+rows.length->VB mv (aJ t.val u)) (X:∀x∈t.ak,∀y∈x,QN mc y) (hzb:∀v,nv (aq (ay t.ak i) v)≠0->v∉t.af)
  (h1s: 20<=mv) (h2s: 3 * mv+2 * mc+10<=6200) (h3s: 4 * mc+20<=6200) (p:Int)
  (hno:aV n rows t.val aj (ay t.ak i) 0=none->∀v,v < n->nv (aq (ay t.ak i) v)=0) {res:List T}
  (d:(match aV n rows t.val aj (ay t.ak i) 0 with
   | none=>some (T.aa 4 false (aS (iY n rows.length aj b (ay t.ak i)))::tb true::gw n rows f t)
   | some v=>Or p7 [r0,I p] (S2 n rows f (gP n rows f.eg b aj i v t)))=some res):
  ∀(xs:List Nm) (k:Nat),(ay t.ak i).drop k=xs->aV n rows t.val aj xs k=aV n rows t.val aj (ay t.ak i) 0->
  Or oI [r0,I p,I (b:Int),I aj,I (i:Int),I (-1),AV.row (Id.c 6) i,I ((ay t.ak i).length:Int),I (k:Int)] (S2 n rows f t)=some res:=by
 have hn:=sz.n;have hm:=sz.m;have hcl:=l.c;have hvl:=l.v;have hrow:=l.row hi;have q:=l.lt b (Va hb);have O:=jN (ak:=t.ak) (i:=i) (by omega);have hci:ay t.ak i∈t.ak:=Va (jh (by omega));intro xs;induction xs with
 | nil=>
  intro k h Y;have h1:¬(k:Int) < ((ay t.ak i).length:Int):=by have:=bw h;omega
  have N:aV n rows t.val aj (ay t.ak i) 0=none:=by rw [<-Y];rfl
  have k1:=LW (n:=n) (rows:=rows) f t l hn hm hi hb hbn Z (X _ hci) (hno N) (by omega);rw [N] at d;simp only at d;rw [eO] at k1 d;rw [<-d];refine al ?_;rw [uY];simp only [ai,↓reduceIte,Int.reduceBEq,Int.reduceEq,GD,fa,h1,k1,e9,eM,Vj,cI,cL]
  try rfl
 | cons x xs ih=>
  intro k h Y;obtain⟨S,g2,g3⟩:=bt h;have h1:(k:Int) < ((ay t.ak i).length:Int):=by omega
  have P: 0<=(k:Int):=by omega
  have ks:=lM x;have qx:=X _ hci x (Va S);by_cases C:nv x=0
  .have z:=(gu (nv x)).2 C;have D:aV n rows t.val aj (x::xs) k=aV n rows t.val aj xs (k+1):=by rw [aV,if_neg (λs=>s.1 C)]
   have M:(!((nv x).num.sign==0))=false:=by rw [z];rfl
   have:=ih (k+1) g3 (by rw [<-D];exact Y);refine al ?_;rw [uY];simp only [bE,ai,↓reduceIte,Int.reduceBEq,Int.reduceEq,GD,h1,P,and_self,O,bJ,cw S,ks,z,next k (by omega)];exact this
  .have z:¬(nv x).num.sign=0:=λs=>C ((gu _).1 s);have M:(!((nv x).num.sign==0))=true:=by simpa using z
   have hws:i64.wrap (aj * (nv x).num.sign)=aj * (nv x).num.sign:=by refine Go.Aev.wr ?_;rcases Z with rfl | rfl <;> rcases pJ (nv x) with e | e | e <;> rw [e] <;> omega
   have kc:=Au sz f.er f.eb f.ev f.eg t.af t.val t.aA hvl K (by omega) (v:=k) (by omega) (aj * (nv x).num.sign);by_cases w:fg n rows t.val k (aj * (nv x).num.sign)=true
   .have D:aV n rows t.val aj (x::xs) k=some k:=by rw [aV,if_pos ⟨C,w⟩]
    have N:aV n rows t.val aj (ay t.ak i) 0=some k:=by rw [<-Y,D]
    have E:aq (ay t.ak i) k=x:=by unfold aq;rw [U9,S];rfl
    have hkb:=hzb k (by rw [E];exact C);have hk1:¬(k:Int) < 0:=by omega
    have V:=tN sz f.er f.eb f.ev f.eg t.af t.val t.aA q;have U:=wK sz f.er f.eb f.ev f.eg t.af t.val t.aA q;have hbv:=nF (ou (val:=t.val) (i:=b) (by omega));have hb1: 0<=(b:Int)/\(b:Int) < (t.val.length:Int):=by omega
    have hi2: 0<=(i:Int)/\(i:Int) < (t.ak.length:Int):=by omega
    have hgi:=lj (ak:=t.ak) (i:=i) (by omega);have k32:=fT 1 (by omega);have q1:QN 2 (iN 1):=eF (by decide);obtain⟨k83,Q⟩:=mX q1 qx (by omega) C;have hcx:∀y∈t.ak,QB mc (nv (aq y k)):=λy hy=>X y hy _ (Va (gF (by rw [l.r y hy];omega)));rw [N] at d;simp only at d;rcases Z with hw | hw
    .subst hw;have qt:=vF sz q;have F:=wH qt (K b q) (by omega);have qs:=tG qt (K b q);have G:=pM (b:=ov (iN 1) x) qs Q (by omega);have qw:=nP (b:=ov (iN 1) x) qs Q;have B:=tO (n:=n) (rows:=rows) f t l (v:=k) (by omega) hm hkb qw hcx (a:=mv) (by omega) K;obtain⟨o,g⟩:∃o,o=dZ k (fE (og (iF n rows b) (aJ t.val b)) (ov (iN 1) x)) t:=⟨_,rfl⟩;have H:o.ak=t.ak:=by rw [g];rfl
     have J:o.af[i]? =some b:=by rw [g];exact hb
     rw [<-g] at B;have j:=tP (n:=n) (rows:=rows) f o (by rw [g];exact l.mv _ _) hn hm hi (v:=k) (by omega) J (by rw [H];exact X) (by rw [H,E];exact C) (λs=>by rw [hge] at s;cases s) (by omega);rw [H] at j;have A:gP n rows f.eg b 1 i k t=fk i k b (cD (ay t.ak i) k b) f.eg o:=by unfold gP pL;rw [E,g];rfl
     generalize cD (ay t.ak i) k b=L at j A;generalize hT2:fk i k b L f.eg o=t2 at j A;rw [eO] at B j;rw [cH] at V U F G;simp only [Vf,Vg] at V U;have W:(1:Int) > 0:=by omega
     rw [A] at d;refine al ?_;rw [uY];simp only [ai,↓reduceIte,Int.reduceBEq,Int.reduceEq,GD,fa,cm,h1,P,hk1,hb1,hi2,and_self,O,hgi,bJ,cQ,dh,cw S,hbv,ks,z,M,hws,kc,w,V,U,F,k32,k83,G,B,j,W,e9,eM,Vj];exact d
    .subst hw;have qt:=rA sz q;have F:=wH qt (K b q) (by omega);have qs:=tG qt (K b q);have G:=pM (b:=ov (iN 1) x) qs Q (by omega);have qw:=nP (b:=ov (iN 1) x) qs Q;have B:=tO (n:=n) (rows:=rows) f t l (v:=k) (by omega) hm hkb qw hcx (a:=mv) (by omega) K;obtain⟨o,g⟩:∃o,o=dZ k (fE (og (bR n rows b) (aJ t.val b)) (ov (iN 1) x)) t:=⟨_,rfl⟩;have H:o.ak=t.ak:=by rw [g];rfl
     have J:o.af[i]? =some b:=by rw [g];exact hb
     rw [<-g] at B;have j:=tP (n:=n) (rows:=rows) f o (by rw [g];exact l.mv _ _) hn hm hi (v:=k) (by omega) J (by rw [H];exact X) (by rw [H,E];exact C) (λs=>by rw [hge] at s;cases s) (by omega);rw [H] at j;have A:gP n rows f.eg b (-1) i k t=fk i k b (cD (ay t.ak i) k b) f.eg o:=by unfold gP pL;rw [E,g];rfl
     generalize cD (ay t.ak i) k b=L at j A;generalize hT2:fk i k b L f.eg o=t2 at j A;rw [eO] at B j;rw [cH] at V U F G;simp only [Vf,Vg] at V U;have W:¬(-1:Int) > 0:=by omega
     rw [A] at d;refine al ?_;rw [uY];simp only [ai,↓reduceIte,Int.reduceBEq,Int.reduceEq,GD,fa,cm,h1,P,hk1,hb1,hi2,and_self,O,hgi,bJ,cQ,dh,cw S,hbv,ks,z,M,hws,kc,w,V,U,F,k32,k83,G,B,j,W,e9,eM,Vj];exact d
   .have D:aV n rows t.val aj (x::xs) k=aV n rows t.val aj xs (k+1):=by rw [aV,if_neg (λs=>w s.2)]
    have hcan':fg n rows t.val k (aj * (nv x).num.sign)=false:=by simpa using w
    have:=ih (k+1) g3 (by rw [<-D];exact Y);refine al ?_;rw [uY];simp only [ai,↓reduceIte,Int.reduceBEq,Int.reduceEq,GD,h1,P,and_self,O,bJ,cw S,ks,z,M,hws,kc,hcan',next k (by omega)];exact this
end
end Go.Aev.Wd.Lg
